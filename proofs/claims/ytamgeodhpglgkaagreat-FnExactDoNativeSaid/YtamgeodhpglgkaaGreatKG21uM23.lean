/- Texts of this proof: G21 M20 M21 M22 M23. -/
import Derived.Test.YtamgeodhpglgkaaGreatKG04uG20
import Derived.Test.YtamgeodhpglgkaaGreatKM2
set_option linter.unusedSimpArgs false
namespace Go.Proofs.YtamgeodhpglgkaaGreat
open Go.RowKit
set_option maxRecDepth 10000
def bsPos (ks : List ByteArray) (key : ByteArray) : Nat := ks.findIdx fun k => !lessB k key
theorem bsPos_le (ks : List ByteArray) (key : ByteArray) : bsPos ks key ≤ ks.length := List.findIdx_le_length
theorem bsPos_low {ks : List ByteArray} {key : ByteArray} {t : Nat} (h : t < bsPos ks key) : lessB (ks[t]'(by have := bsPos_le ks key; omega)) key = true := by
 have := List.not_of_lt_findIdx h
 simpa using this
def bsFound (ks : List ByteArray) (key : ByteArray) : Bool := if h : bsPos ks key < ks.length then ks[bsPos ks key].toList == key.toList else false
theorem lessB_asym {a b : ByteArray} (h : lessB a b = true) : lessB b a = false := by
 cases h2 : lessB b a with
 | false => rfl
 | true =>
  have := lessB_trans h h2
  rw [lessB_irrefl] at this
  cases this
theorem bsPos_cons (x : ByteArray) (r : List ByteArray) (k : ByteArray) : bsPos (x :: r) k = if lessB x k then bsPos r k + 1 else 0 := by
 unfold bsPos
 rw [List.findIdx_cons]
 cases lessB x k <;> rfl
theorem bsFound_iff {l : List ByteArray} {k : ByteArray} : bsFound l k = true ↔ l[bsPos l k]? = some k := by
 unfold bsFound
 split
 ·rename_i h
  rw [List.getElem?_eq_getElem h, beq_iff_eq, Option.some.injEq]
  exact ⟨ByteArray_toList_inj, fun e => by rw [e]⟩
 ·rename_i h
  rw [List.getElem?_eq_none (by omega)]
  simp
theorem bsPos_at {l : List ByteArray} {k : ByteArray} (h : bsPos l k < l.length) : lessB l[bsPos l k] k = false := by
 have h2 : (fun x => !lessB x k) (l[bsPos l k]) = true := List.findIdx_getElem (w := h)
 simpa using h2
theorem insKey_pos : ∀ {l : List ByteArray} {k : ByteArray}, Up l → insKey k l = if bsFound l k then l else l.take (bsPos l k) ++ [k] ++ l.drop (bsPos l k)
 | [], k, _ => by simp [insKey, bsFound, bsPos]
 | x :: r, k, h => by
  have h' := List.pairwise_cons.1 (show List.Pairwise _ (x :: r) from h)
  unfold insKey
  split
  ·rename_i hl
   have hx := lessB_asym hl
   have hp : bsPos (x :: r) k = 0 := by rw [bsPos_cons, hx]; rfl
   have hf : bsFound (x :: r) k = false := by
    cases hf : bsFound (x :: r) k with
    | false => rfl
    | true =>
     have := bsFound_iff.1 hf
     rw [hp] at this
     have e : x = k := by simpa using this
     subst e
     rw [lessB_irrefl] at hl
     cases hl
   rw [hf, hp]
   simp
  ·rename_i hl
   split
   ·rename_i he
    have e : k = x := ByteArray_toList_inj (by simpa using he)
    subst e
    have hp : bsPos (k :: r) k = 0 := by rw [bsPos_cons, lessB_irrefl]; rfl
    have hf : bsFound (k :: r) k = true := bsFound_iff.2 (by rw [hp]; rfl)
    rw [hf]
    rfl
   ·rename_i he
    have hxk : lessB x k = true := by
     rcases lessB_tri x k with g | g | g
     ·exact g
     ·subst g; exact absurd (by simp) he
     ·exact absurd g hl
    have hp : bsPos (x :: r) k = bsPos r k + 1 := by rw [bsPos_cons, hxk]; rfl
    have hf : bsFound (x :: r) k = bsFound r k := by
     have : bsFound (x :: r) k = true ↔ bsFound r k = true := by
      rw [bsFound_iff, bsFound_iff, hp, List.getElem?_cons_succ]
     cases h1 : bsFound (x :: r) k <;> cases h2 : bsFound r k <;> simp_all
    rw [hf, hp, insKey_pos h'.2]
    split
    ·rfl
    ·simp
theorem setMap {l : List ByteArray} (h : Up l) {p : Nat} {k : ByteArray} (hp : l[p]? = some k) (g g' : ByteArray → V) (v : V) (hk : g' k = v) (hg : ∀ x ∈ l, x ≠ k → g' x = g x) : l.map g' = (l.map g).set p v := by
 refine List.ext_getElem (by simp) fun i h1 h2 => ?_
 have hi : i < l.length := by simpa using h1
 rw [List.getElem_map, List.getElem_set]
 split
 ·rename_i e
  subst e
  rw [List.getElem?_eq_getElem hi] at hp
  rw [Option.some.inj hp, hk]
 ·rename_i e
  rw [List.getElem_map]
  refine hg _ (List.getElem_mem hi) fun hx => e ?_
  exact up_inj h hp (List.getElem?_eq_some_iff.2 ⟨hi, hx⟩)
theorem give_ok {t : V} (h : t.fit) : okRes (giveR t) := by
 unfold giveR
 split
 ·rename_i h0
  exact ⟨rfl, fit_dec h h0⟩
 ·rename_i h0
  exact h0
theorem countL_le {l : List V} {m : Nat} (h : ∀ v ∈ l, v.count ≤ m) : countL l ≤ m * l.length := by
 induction l with
 | nil => simp [countL]
 | cons x l ih =>
  have h1 := h x (by simp)
  have h2 := ih fun v hv => h v (by simp [hv])
  simp only [countL, List.length_cons, Nat.mul_add]
  omega
theorem arr_fit {l : List V} (h : ∀ v ∈ l, v.fit) : (arrV l).fit := ⟨Nat.zero_le _, by simp, fun h => absurd h (by decide), fun h => absurd h (by decide), fun _ => rfl, fitL_iff.2 h⟩
theorem obj_fit {ks : List ByteArray} {vs : List V} (hl : ks.length = vs.length) (hk : ∀ k ∈ ks, k.size ≤ 60) (hv : ∀ v ∈ vs, v.fit) : (objV ks vs).fit := by
 refine ⟨Nat.zero_le _, fun k h => hk k (objKeys_mem.1 h), fun h => absurd h (by decide), fun _ => (List.length_map _).symm, fun h => absurd rfl h, fitL_iff.2 fun v h => ?_⟩
 obtain ⟨k, hk', rfl⟩ := List.mem_map.1 h
 obtain ⟨j, _, _, h3⟩ := lastKid_at (kids := vs) hl (objKeys_mem.1 hk')
 exact hv _ (List.mem_of_getElem? h3)
theorem right_keys {v : V} (h : v.right) : ∀ k ∈ v.keys, k.size ≤ 60 := fit_keys (fit_right h)
theorem right_kids0 {v : V} (h : v.right) (h0 : v.kind = 0) : v.keys = [] ∧ v.kids = [] := by
 have := right_shape h.1
 exact ⟨this.2.2.2.2.1 (by omega), this.2.2.2.2.2 (by omega) (by omega)⟩
theorem right_kl6 {v : V} (h : v.right) (hk : v.kind = 0 ∨ v.kind = 6) : v.keys.length = v.kids.length := by
 rcases hk with h0 | h6
 ·rw [(right_kids0 h h0).1, (right_kids0 h h0).2]; rfl
 ·exact (right_asc h h6).2.2
def absI (n : Int) : Int := (n.natAbs : Int)
theorem leaf_right {k n : Int} {s : ByteArray} (h : cellCode k n s ByteArray.empty 0 = 0) (h6 : k ≠ 6) : (V.mk k n s [] []).right := by
 refine ⟨⟨h, ?_, trivial⟩, by simp [V.count, countL], by simp [V.depth, depthL]⟩
 unfold keysOk
 rw [if_neg h6]
theorem numV_right {n : Int} (h : -1000000000000000 ≤ n ∧ n ≤ 1000000000000000) : (numV n).right := by
 refine leaf_right ?_ (by decide)
 unfold cellCode
 have h1 : inB 3 0 6 = true := by decide
 have h2 : inB n (-1000000000000000) 1000000000000000 = true := by unfold inB; simp; omega
 simp [h1, cF, cR, cT, okText_empty, holds, h2, inB]
 omega
theorem strV_fit {s : ByteArray} (h : s.size ≤ 200) : (strV s).fit := ⟨h, by simp, fun _ => rfl, fun h => absurd h (by decide), fun _ => rfl, trivial⟩
theorem numV_fit (n : Int) : (numV n).fit := ⟨Nat.zero_le _, by simp, fun _ => rfl, fun h => absurd h (by decide), fun _ => rfl, trivial⟩
def addV (a b : V) : Int × Option V :=
 if a.kind = 0 then okR b else if b.kind = 0 then okR a else
 if a.kind = 3 ∧ b.kind = 3 then giveR (numV (a.num + b.num)) else
 if a.kind = 4 ∧ b.kind = 4 then giveR (strV (a.text ++ b.text)) else
 if a.kind = 5 ∧ b.kind = 5 then giveR (arrV (a.kids ++ b.kids)) else
 if a.kind = 6 ∧ b.kind = 6 then giveR (objV (a.keys ++ b.keys) (a.kids ++ b.kids)) else badR 6
theorem text_size {a : V} (h : a.right) : a.text.size ≤ 60 := by
 obtain ⟨h1, _, _⟩ := h
 cases a
 exact okText_le ((code_text (c := ⟨_, _, _, ByteArray.empty, _⟩) h1.1).1)
theorem cat_fit {a b : V} (ha : a.right) (hb : b.right) : (strV (a.text ++ b.text)).fit := by
 have h1 := text_size ha
 have h2 := text_size hb
 exact strV_fit (by rw [ByteArray.size_append]; omega)
theorem arr2_fit {a b : V} (ha : a.right) (hb : b.right) : (arrV (a.kids ++ b.kids)).fit ∧ (arrV (a.kids ++ b.kids)).count ≤ 400 := by
 have h1 := ha.2.1
 have h2 := hb.2.1
 have h3 := count_kids a
 have h4 := count_kids b
 refine ⟨arr_fit fun v hv => ?_, ?_⟩
 ·rcases List.mem_append.1 hv with hv | hv
  ·exact fit_right (right_mem ha hv)
  ·exact fit_right (right_mem hb hv)
 ·simp only [arrV, V.count, countL_app]
  omega
theorem obj2_fit {a b : V} (ha : a.right) (hb : b.right) (ha6 : a.kind = 6) (hb6 : b.kind = 6) : (objV (a.keys ++ b.keys) (a.kids ++ b.kids)).fit ∧ countL (a.kids ++ b.kids) ≤ 400 ∧ (objV (a.keys ++ b.keys) (a.kids ++ b.kids)).count ≤ 401 ∧ (a.keys ++ b.keys).length = (a.kids ++ b.kids).length := by
 have h1 := ha.2.1
 have h2 := hb.2.1
 have h3 := count_kids a
 have h4 := count_kids b
 have h5 := right_kl6 ha (.inr ha6)
 have h6 := right_kl6 hb (.inr hb6)
 have hl : (a.keys ++ b.keys).length = (a.kids ++ b.kids).length := by rw [List.length_append, List.length_append]; omega
 have hc : countL (a.kids ++ b.kids) ≤ 400 := by rw [countL_app]; omega
 refine ⟨obj_fit hl (fun k hk => ?_) (fun v hv => ?_), hc, ?_, hl⟩
 ·rcases List.mem_append.1 hk with hk | hk
  ·exact right_keys ha k hk
  ·exact right_keys hb k hk
 ·rcases List.mem_append.1 hv with hv | hv
  ·exact fit_right (right_mem ha hv)
  ·exact fit_right (right_mem hb hv)
 ·have := objV_count _ (a.keys ++ b.keys) (a.kids ++ b.kids) rfl hl.symm
  simp only [objV, V.count]
  omega
theorem add_ok {a b : V} (ha : a.right) (hb : b.right) : okRes (addV a b) := by
 unfold addV
 split
 ·exact okRes_ok hb
 ·split
  ·exact okRes_ok ha
  ·split
   ·exact give_ok (numV_fit _)
   ·split
    ·exact give_ok (cat_fit ha hb)
    ·split
     ·exact give_ok (arr2_fit ha hb).1
     ·split
      ·rename_i h; exact give_ok (obj2_fit ha hb h.1 h.2).1
      ·exact okRes_bad (by decide)
theorem right_num3 {a : V} (h : a.right) : -1000000000000000 ≤ a.num ∧ a.num ≤ 1000000000000000 := by
 obtain ⟨h1, _, _⟩ := h
 cases a with
 | mk k n s ks vs =>
  have h2 := h1.1
  unfold cellCode at h2
  simp only [V.num]
  by_cases hr : cR n (vs.length : Int) = true
  ·exfalso
   revert h2
   simp only [hr]
   split <;> (try split) <;> intro h2 <;> revert h2 <;> simp
  ·simp only [cR, inB] at hr
   simp at hr
   omega
end Go.Proofs.YtamgeodhpglgkaaGreat
