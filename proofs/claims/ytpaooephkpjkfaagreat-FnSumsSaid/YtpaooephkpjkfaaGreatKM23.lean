/- The plain mathematics of operations with two values. -/
import Derived.Test.YtpaooephkpjkfaaGreatKM3
import Derived.Test.YtpaooephkpjkfaaGreatKM2
set_option linter.unusedSimpArgs false
set_option linter.unusedVariables false
set_option linter.unnecessarySimpa false
namespace Go.Proofs.YtpaooephkpjkfaaGreat
open Go.RowKit
def absI (n : Int) : Int := (n.natAbs : Int)
theorem absI_max (y : Int) : (if -y > y then -y else y) = absI y := by
  unfold absI
  split <;> omega
def tooBig (x y : Int) : Bool := decide (absI x * absI y > 1000000000000000)
theorem quo_big {x y : Int} (h : x ≠ 0) : decide (absI y > (1000000000000000 : Int).tdiv (absI x)) = tooBig x y := by
  unfold tooBig absI
  have hx : 0 < x.natAbs := by omega
  have h1 : (1000000000000000 : Int).tdiv ((x.natAbs : Nat) : Int) = ((1000000000000000 / x.natAbs : Nat) : Int) := (Int.ofNat_tdiv 1000000000000000 x.natAbs).symm
  rw [h1]
  have h2 := Nat.div_lt_iff_lt_mul (x := 1000000000000000) (y := y.natAbs) hx
  have h3 : ((x.natAbs : Int) * (y.natAbs : Int)) = ((y.natAbs * x.natAbs : Nat) : Int) := by rw [Int.natCast_mul, Int.mul_comm]
  rw [h3]
  apply decide_eq_decide.2
  omega
theorem big_comm (x y : Int) : tooBig x y = tooBig y x := by unfold tooBig; rw [Int.mul_comm]
theorem big_zero (y : Int) : tooBig 0 y = false := by unfold tooBig absI; simp
theorem mul_small {x y : Int} (h : tooBig x y = false) : -1000000000000000 ≤ x * y ∧ x * y ≤ 1000000000000000 := by
  unfold tooBig absI at h
  have h2 : ((x.natAbs : Int) * (y.natAbs : Int)) = ((x * y).natAbs : Int) := by rw [Int.natAbs_mul, Int.natCast_mul]
  rw [h2] at h
  simp only [decide_eq_false_iff_not] at h
  omega
theorem tdiv_small {x y : Int} (h : -1000000000000000 ≤ x ∧ x ≤ 1000000000000000) : -1000000000000000 ≤ x.tdiv y ∧ x.tdiv y ≤ 1000000000000000 := by
  have h1 : (x.tdiv y).natAbs = x.natAbs / y.natAbs := Int.natAbs_tdiv x y
  have h2 := Nat.div_le_self x.natAbs y.natAbs
  omega
theorem tmod_small {x y : Int} (h : -1000000000000000 ≤ x ∧ x ≤ 1000000000000000) : -1000000000000000 ≤ x.tmod y ∧ x.tmod y ≤ 1000000000000000 := by
  have h1 := Int.natAbs_tmod x y
  have h2 := Nat.mod_le x.natAbs y.natAbs
  omega
theorem leaf_right {k n : Int} {s : ByteArray} (h : cellCode k n s ByteArray.empty 0 = 0) (h6 : k ≠ 6) : (V.mk k n s [] []).right := by
  refine ⟨⟨h, ?_, trivial⟩, by simp [V.count, countL], by simp [V.depth, depthL]⟩
  unfold keysOk
  rw [if_neg h6]
theorem numV_right {n : Int} (h : -1000000000000000 ≤ n ∧ n ≤ 1000000000000000) : (numV n).right := by
  refine leaf_right ?_ (by decide)
  unfold cellCode
  have h1 : inB 3 0 6 = true := by decide
  have h2 : inB n (-1000000000000000) 1000000000000000 = true := by unfold inB; simp; omega
  simp [h1, cF, cR, cT, okText_empty, holds, h2, inB]
  omega
def boolV (b : Bool) : V := .mk (bif b then 2 else 1) 0 ByteArray.empty [] []
theorem boolV_right (b : Bool) : (boolV b).right := by
  cases b
  · exact leaf_right (by decide +kernel) (by decide)
  · exact leaf_right (by decide +kernel) (by decide)
theorem strV_fit {s : ByteArray} (h : s.size ≤ 200) : (strV s).fit := ⟨h, by simp, fun _ => rfl, fun h => absurd h (by decide), fun _ => rfl, trivial⟩
theorem numV_fit (n : Int) : (numV n).fit := ⟨Nat.zero_le _, by simp, fun _ => rfl, fun h => absurd h (by decide), fun _ => rfl, trivial⟩
def addV (a b : V) : Int × Option V :=
  if a.kind = 0 then okR b else if b.kind = 0 then okR a else
  if a.kind = 3 ∧ b.kind = 3 then giveR (numV (a.num + b.num)) else
  if a.kind = 4 ∧ b.kind = 4 then giveR (strV (a.text ++ b.text)) else
  if a.kind = 5 ∧ b.kind = 5 then giveR (arrV (a.kids ++ b.kids)) else
  if a.kind = 6 ∧ b.kind = 6 then giveR (objV (a.keys ++ b.keys) (a.kids ++ b.kids)) else badR 6
def lessK (a b : List V) : List V := a.filter fun x => !(b.any fun y => x.cmp y == 0)
def subV (a b : V) : Int × Option V :=
  if a.kind = 3 ∧ b.kind = 3 then giveR (numV (a.num - b.num)) else
  if a.kind = 5 ∧ b.kind = 5 then okR (arrV (lessK a.kids b.kids)) else badR 6
def reckonV (op : Int) (a b : V) : Int × Option V :=
  if a.kind = 3 ∧ b.kind = 3 then
    if op = 3 then (if tooBig a.num b.num = true then badR 3 else okR (numV (a.num * b.num)))
    else if b.num = 0 then badR 3 else okR (numV (if op = 10 then a.num.tdiv b.num else a.num.tmod b.num))
  else badR 6
def binV (op : Int) (a b : V) : Int × Option V :=
  if op = 1 then addV a b else if op = 2 then subV a b else
  if op = 3 ∨ op = 10 ∨ op = 11 then reckonV op a b else
  if op = 4 then okR (boolV (a.cmp b == 0)) else if op = 5 then okR (boolV (a.cmp b != 0)) else
  if op = 6 then okR (boolV (decide (a.cmp b < 0))) else if op = 7 then okR (boolV (decide (a.cmp b ≤ 0))) else
  if op = 8 then okR (boolV (decide (a.cmp b > 0))) else if op = 9 then okR (boolV (decide (a.cmp b ≥ 0))) else badR 1
theorem text_size {a : V} (h : a.right) : a.text.size ≤ 60 := by
  obtain ⟨h1, _, _⟩ := h
  cases a
  exact okText_le ((code_text (c := ⟨_, _, _, ByteArray.empty, _⟩) h1.1).1)
theorem cat_fit {a b : V} (ha : a.right) (hb : b.right) : (strV (a.text ++ b.text)).fit := by
  have h1 := text_size ha
  have h2 := text_size hb
  exact strV_fit (by rw [ByteArray.size_append]; omega)
theorem arr2_fit {a b : V} (ha : a.right) (hb : b.right) : (arrV (a.kids ++ b.kids)).fit ∧ (arrV (a.kids ++ b.kids)).count ≤ 400 := by
  have h1 := ha.2.1
  have h2 := hb.2.1
  have h3 := count_kids a
  have h4 := count_kids b
  refine ⟨arr_fit fun v hv => ?_, ?_⟩
  · rcases List.mem_append.1 hv with hv | hv
    · exact fit_right (right_mem ha hv)
    · exact fit_right (right_mem hb hv)
  · simp only [arrV, V.count, countL_app]
    omega
theorem obj2_fit {a b : V} (ha : a.right) (hb : b.right) (ha6 : a.kind = 6) (hb6 : b.kind = 6) : (objV (a.keys ++ b.keys) (a.kids ++ b.kids)).fit ∧ countL (a.kids ++ b.kids) ≤ 400 ∧ (objV (a.keys ++ b.keys) (a.kids ++ b.kids)).count ≤ 401 ∧ (a.keys ++ b.keys).length = (a.kids ++ b.kids).length := by
  have h1 := ha.2.1
  have h2 := hb.2.1
  have h3 := count_kids a
  have h4 := count_kids b
  have h5 := right_kl6 ha (.inr ha6)
  have h6 := right_kl6 hb (.inr hb6)
  have hl : (a.keys ++ b.keys).length = (a.kids ++ b.kids).length := by rw [List.length_append, List.length_append]; omega
  have hc : countL (a.kids ++ b.kids) ≤ 400 := by rw [countL_app]; omega
  refine ⟨obj_fit hl (fun k hk => ?_) (fun v hv => ?_), hc, ?_, hl⟩
  · rcases List.mem_append.1 hk with hk | hk
    · exact right_keys ha k hk
    · exact right_keys hb k hk
  · rcases List.mem_append.1 hv with hv | hv
    · exact fit_right (right_mem ha hv)
    · exact fit_right (right_mem hb hv)
  · have := objV_count _ (a.keys ++ b.keys) (a.kids ++ b.kids) rfl hl.symm
    simp only [objV, V.count]
    omega
theorem less_right {a b : V} (ha : a.right) : (arrV (lessK a.kids b.kids)).right := by
  have hm : ∀ x ∈ lessK a.kids b.kids, x ∈ a.kids := fun x hx => (List.mem_filter.1 hx).1
  have hsub : ∀ (l : List V) (p : V → Bool), countL (l.filter p) ≤ countL l := by
    intro l p
    induction l with
    | nil => exact Nat.le_refl _
    | cons x l ih =>
      rw [List.filter_cons]
      split
      · simp only [countL]; omega
      · simp only [countL]; omega
  have hc := hsub a.kids fun x => !(b.kids.any fun y => x.cmp y == 0)
  have hd : depthL (lessK a.kids b.kids) ≤ depthL a.kids := depthL_le fun x hx => depthL_mem (hm x hx)
  have hck := count_kids a
  have hv := ha.2.1
  have hlen := countL_len (lessK a.kids b.kids)
  have hdn := depth_kids a
  have hv2 := ha.2.2
  have hc' : countL (lessK a.kids b.kids) ≤ countL a.kids := hc
  refine ⟨arr_wf (wfL_iff.2 fun x hx => (right_mem ha (hm x hx)).1) (by omega), ?_, ?_⟩
  · simp only [arrV, V.count]; omega
  · simp only [arrV, V.depth]; omega
theorem add_ok {a b : V} (ha : a.right) (hb : b.right) : okRes (addV a b) := by
  unfold addV
  split
  · exact okRes_ok hb
  · split
    · exact okRes_ok ha
    · split
      · exact give_ok (numV_fit _)
      · split
        · exact give_ok (cat_fit ha hb)
        · split
          · exact give_ok (arr2_fit ha hb).1
          · split
            · rename_i h; exact give_ok (obj2_fit ha hb h.1 h.2).1
            · exact okRes_bad (by decide)
theorem sub_ok {a b : V} (ha : a.right) : okRes (subV a b) := by
  unfold subV
  split
  · exact give_ok (numV_fit _)
  · split
    · exact okRes_ok (less_right ha)
    · exact okRes_bad (by decide)
theorem right_num3 {a : V} (h : a.right) : -1000000000000000 ≤ a.num ∧ a.num ≤ 1000000000000000 := by
  obtain ⟨h1, _, _⟩ := h
  cases a with
  | mk k n s ks vs =>
    have h2 := h1.1
    unfold cellCode at h2
    simp only [V.num]
    by_cases hr : cR n (vs.length : Int) = true
    · exfalso
      revert h2
      simp only [hr]
      split <;> (try split) <;> intro h2 <;> revert h2 <;> simp
    · simp only [cR, inB] at hr
      simp at hr
      omega
theorem reckon_ok (op : Int) {a b : V} (ha : a.right) : okRes (reckonV op a b) := by
  have hn := right_num3 ha
  unfold reckonV
  split
  · split
    · split
      · exact okRes_bad (by decide)
      · rename_i h; exact okRes_ok (numV_right (mul_small (by simpa using h)))
    · split
      · exact okRes_bad (by decide)
      · refine okRes_ok (numV_right ?_)
        split
        · exact tdiv_small hn
        · exact tmod_small hn
  · exact okRes_bad (by decide)
theorem bin_ok (op : Int) {a b : V} (ha : a.right) (hb : b.right) : okRes (binV op a b) := by
  unfold binV
  repeat' split
  all_goals first | exact add_ok ha hb | exact sub_ok ha | exact reckon_ok op ha | exact okRes_ok (boolV_right _) | exact okRes_bad (by decide)
end Go.Proofs.YtpaooephkpjkfaaGreat
