/- Texts of this proof: M01 M02 M03 M04 M05 M06 M07. -/
import Derived.WalkKit
import Derived.Lib.Hide
set_option linter.unusedSimpArgs false
set_option linter.unusedVariables false
set_option linter.unnecessarySimpa false
namespace Go.Proofs.YtlciedpfjhkkdaaGreatDoor
open Go.RowKit
def inB (v lo hi : Int) : Bool := decide (lo ≤ v) && decide (v ≤ hi)
def okByte (c : UInt8) : Bool := decide (32 ≤ c.toNat) && decide (c.toNat ≤ 126)
def okText (s : ByteArray) : Bool := decide (s.size ≤ 60) && s.data.toList.all okByte
structure CellD where
 kind : Int
 num : Int
 text : ByteArray
 key : ByteArray
 n : Int
def vals (c : CellD) : List Value := [.int .i64 c.kind, .int .i64 c.num, .string c.text, .string c.key, .int .i64 c.n]
def holds (k : Int) : Bool := k == 5 || k == 6
def cF (k m : Int) (t : ByteArray) (n : Int) : Bool := (m != 0 && k != 3) || (!(t.toList.isEmpty) && k != 4) || (n != 0 && !(holds k))
def cR (m n : Int) : Bool := !(inB m (-1000000000000000) 1000000000000000) || !(inB n 0 200)
def cT (t y : ByteArray) : Bool := !(okText t) || !(okText y)
def cellCode (k m : Int) (t y : ByteArray) (n : Int) : Int := if !(inB k 0 6) then 6 else if cF k m t n then 1 else if cR m n then 3 else if cT t y then 5 else 0
def CellD.code (c : CellD) : Int := cellCode c.kind c.num c.text c.key c.n
inductive V where
 | mk (kind num : Int) (text : ByteArray) (keys : List ByteArray) (kids : List V)
mutual
def V.depth : V → Nat
 | .mk _ _ _ _ kids => depthL kids + 1
def depthL : List V → Nat
 | [] => 0
 | k :: ks => max k.depth (depthL ks)
end
mutual
def V.count : V → Nat
 | .mk _ _ _ _ kids => countL kids + 1
def countL : List V → Nat
 | [] => 0
 | k :: ks => k.count + countL ks
end
def V.kind : V → Int | .mk k _ _ _ _ => k
def V.num : V → Int | .mk _ n _ _ _ => n
def V.text : V → ByteArray | .mk _ _ t _ _ => t
def V.keys : V → List ByteArray | .mk _ _ _ k _ => k
def V.kids : V → List V | .mk _ _ _ _ k => k
mutual
def V.cells (key : ByteArray) : V → List CellD
 | .mk kind num text keys kids => ⟨kind, num, text, key, kids.length⟩ :: cellsL kind keys kids
def cellsL (kind : Int) (keys : List ByteArray) : List V → List CellD
 | [] => []
 | k :: ks => k.cells (if kind = 6 then keys.headD ByteArray.empty else ByteArray.empty) ++ cellsL kind keys.tail ks
end
def keyBad (kind : Int) (last : Option ByteArray) (key : ByteArray) : Bool :=
 (kind == 5 && !(key.toList.isEmpty)) || (kind == 6 && match last with | none => false | some p => !(Op.bytesLess p.toList key.toList))
def parseK (pv : List CellD → Option (V × List CellD)) (kind : Int) : Nat → Option ByteArray → List CellD → Option (List ByteArray × List V × List CellD)
 | 0, _, l => some ([], [], l)
 | _ + 1, _, [] => none
 | cnt + 1, last, c :: l =>
  if keyBad kind last c.key then none else
  match pv (c :: l) with
  | none => none
  | some (v, r) => (parseK pv kind cnt (some c.key) r).map fun x => ((if kind = 6 then c.key :: x.1 else x.1), v :: x.2.1, x.2.2)
def glue (K : List ByteArray) (Vs : List V) (x : List ByteArray × List V × List CellD) : List ByteArray × List V × List CellD := (K ++ x.1, Vs ++ x.2.1, x.2.2)
def KInv (pv : List CellD → Option (V × List CellD)) (kind : Int) (N : Nat) (l0 : List CellD) (k : Nat) (K : List ByteArray) (Vs : List V) (last : Option ByteArray) (l : List CellD) : Prop :=
 k ≤ N ∧ Vs.length = k ∧ (kind = 6 → K.length = k) ∧ (kind ≠ 6 → K = []) ∧ (kind = 6 → last = K.getLast?) ∧ parseK pv kind N none l0 = (parseK pv kind (N - k) last l).map (glue K Vs)
section
variable {pv : List CellD → Option (V × List CellD)} {kind : Int} {N : Nat} {l0 : List CellD} {k : Nat} {K : List ByteArray} {Vs : List V} {last : Option ByteArray} {l : List CellD}
theorem KInv.start : KInv pv kind N l0 0 [] [] none l0 :=
 ⟨Nat.zero_le _, rfl, fun _ => rfl, fun _ => rfl, fun _ => rfl, by
  rw [Nat.sub_zero]
  cases parseK pv kind N none l0 <;> simp [glue]⟩
theorem KInv.done (h : KInv pv kind N l0 N K Vs last l) : parseK pv kind N none l0 = some (K, Vs, l) := by
 rw [h.2.2.2.2.2, Nat.sub_self]
 simp [parseK, glue]
theorem KInv.empty (h : KInv pv kind N l0 k K Vs last []) (hk : k < N) : parseK pv kind N none l0 = none := by
 rw [h.2.2.2.2.2, show N - k = (N - k - 1) + 1 from by omega]
 simp [parseK]
theorem KInv.bad {c : CellD} (h : KInv pv kind N l0 k K Vs last (c :: l)) (hk : k < N) (hb : keyBad kind last c.key = true) : parseK pv kind N none l0 = none := by
 rw [h.2.2.2.2.2, show N - k = (N - k - 1) + 1 from by omega]
 simp [parseK, hb]
theorem KInv.kid {c : CellD} (h : KInv pv kind N l0 k K Vs last (c :: l)) (hk : k < N) (hb : pv (c :: l) = none) : parseK pv kind N none l0 = none := by
 rw [h.2.2.2.2.2, show N - k = (N - k - 1) + 1 from by omega]
 simp [parseK, hb]
theorem KInv.step {c : CellD} {v : V} {r : List CellD} (h : KInv pv kind N l0 k K Vs last (c :: l)) (hk : k < N) (hb : keyBad kind last c.key = false) (hv : pv (c :: l) = some (v, r)) :
  KInv pv kind N l0 (k + 1) (if kind = 6 then K ++ [c.key] else K) (Vs ++ [v]) (some c.key) r := by
 obtain ⟨h1, h2, h3, h4, h5, h6⟩ := h
 refine ⟨by omega, by simp [h2], fun hq => by simp [hq, h3 hq], fun hq => by simp [hq, h4 hq], fun hq => by simp [hq], ?_⟩
 rw [h6, show N - k = (N - (k + 1)) + 1 from by omega]
 simp only [parseK, hb, hv, Bool.false_eq_true, if_false, Option.map_map]
 congr 1
 funext x
 by_cases hq : kind = 6 <;> simp [glue, hq]
end
theorem bytesLess_total (a b : List UInt8) : (Op.bytesLess a b || (a == b)) = !(Op.bytesLess b a) := by
 induction a generalizing b with
 | nil => cases b <;> simp [Op.bytesLess]
 | cons x a ih =>
  cases b with
  | nil => simp [Op.bytesLess]
  | cons y b =>
   have := ih b
   simp only [Op.bytesLess, List.cons_beq_cons]
   by_cases h1 : x < y
   ·have h2 : ¬ y < x := by simp only [UInt8.lt_iff_toNat_lt] at *; omega
    have h3 : (y == x) = false := by simp; rintro rfl; simp at h1
    simp [h1, h2, h3]
   ·by_cases h2 : y < x
    ·have h3 : (x == y) = false := by simp; rintro rfl; simp at h2
     simp [h1, h2, h3]
    ·have h3 : x = y := by apply UInt8.toNat_inj.1; simp only [UInt8.lt_iff_toNat_lt] at *; omega
     subst h3
     simpa [h1] using this
end Go.Proofs.YtlciedpfjhkkdaaGreatDoor
namespace Go.Proofs.YtlciedpfjhkkdaaGreatDoor
open Go.RowKit
section
variable {pv : List CellD → Option (V × List CellD)} {kind : Int} {N : Nat} {l0 : List CellD} {k : Nat} {K : List ByteArray} {Vs : List V} {last : Option ByteArray} {l : List CellD}
theorem KInv.keyOk {lst key : ByteArray} (h : KInv pv kind N l0 k K Vs last l) (hl : kind = 6 → 0 < k → K.getLast? = some lst) (h5 : kind = 5 → key.toList = [])
  (h6 : kind = 6 → 0 < k → Op.bytesLess key.toList lst.toList = false ∧ (key.toList == lst.toList) = false) : keyBad kind last key = false := by
 by_cases e6 : kind = 6
 ·have hla := h.2.2.2.2.1 e6
  have hK := h.2.2.1 e6
  rcases Nat.eq_zero_or_pos k with h0 | h0
  ·have : K = [] := List.eq_nil_of_length_eq_zero (by omega)
   subst this
   simp at hla
   subst hla
   simp [keyBad, e6]
  ·rw [hl e6 h0] at hla
   subst hla
   have := h6 e6 h0
   have h2 := bytesLess_total key.toList lst.toList
   rw [this.1, this.2] at h2
   simp at h2
   simp [keyBad, e6, h2]
 ·by_cases e5 : kind = 5
  ·simp [keyBad, e5, h5 e5]
  ·simp [keyBad, e5, e6]
theorem KInv.keyNo {lst key : ByteArray} (h : KInv pv kind N l0 k K Vs last l) (hl : kind = 6 → 0 < k → K.getLast? = some lst)
  (hb : (kind = 5 ∧ key.toList ≠ []) ∨ (kind = 6 ∧ 0 < k ∧ (Op.bytesLess key.toList lst.toList = true ∨ (key.toList == lst.toList) = true))) : keyBad kind last key = true := by
 rcases hb with ⟨h5, hk⟩ | ⟨h6, h0, hlt⟩
 ·simp [keyBad, h5, hk]
 ·have hla := h.2.2.2.2.1 h6
  rw [hl h6 h0] at hla
  subst hla
  have h2 := bytesLess_total key.toList lst.toList
  have : (Op.bytesLess key.toList lst.toList || key.toList == lst.toList) = true := by
   rcases hlt with h | h <;> simp [h]
  rw [this] at h2
  simp at h2
  simp [keyBad, h6, h2]
theorem KInv.len (h : KInv pv kind N l0 k K Vs last l) : K.length = if kind = 6 then k else 0 := by
 by_cases e : kind = 6
 ·simp [e, h.2.2.1 e]
 ·simp [e, h.2.2.2.1 e]
end
theorem code_text {c : CellD} (h : c.code = 0) : okText c.text = true ∧ okText c.key = true := by
 unfold CellD.code cellCode at h
 have hr : cT c.text c.key = false := by
  cases hh : cT c.text c.key
  ·rfl
  ·rw [hh] at h
   split at h
   ·omega
   ·split at h
    ·omega
    ·split at h
     ·omega
     ·simp at h
 simpa [cT] using hr
end Go.Proofs.YtlciedpfjhkkdaaGreatDoor
namespace Go.Proofs.YtlciedpfjhkkdaaGreatDoor
open Go.RowKit
theorem take_snoc {α : Type} {xs : List α} {k : Nat} (h : k < xs.length) : xs.take (k + 1) = xs.take k ++ [xs[k]] := by
 rw [List.take_succ_eq_append_getElem h]
theorem depthL_mem {ks : List V} {t : V} (h : t ∈ ks) : t.depth ≤ depthL ks := by
 induction ks with
 | nil => simp at h
 | cons x ks ih =>
  simp only [List.mem_cons] at h
  simp only [depthL]
  rcases h with rfl | h
  ·omega
  ·have := ih h; omega
theorem countL_mem {ks : List V} {t : V} (h : t ∈ ks) : t.count ≤ countL ks := by
 induction ks with
 | nil => simp at h
 | cons x ks ih =>
  simp only [List.mem_cons] at h
  simp only [countL]
  rcases h with rfl | h
  ·omega
  ·have := ih h; omega
theorem count_pos (t : V) : 0 < t.count := by cases t; simp [V.count]
theorem countL_len (ks : List V) : ks.length ≤ countL ks := by
 induction ks with
 | nil => simp [countL]
 | cons x ks ih => have := count_pos x; simp only [countL, List.length_cons]; omega
theorem count_kids (t : V) : t.count = countL t.kids + 1 := by cases t; rfl
theorem depth_kids (t : V) : t.depth = depthL t.kids + 1 := by cases t; rfl
def asc : Option ByteArray → List ByteArray → Prop
 | _, [] => True
 | none, k :: ks => asc (some k) ks
 | some p, k :: ks => Op.bytesLess p.toList k.toList = true ∧ asc (some k) ks
def keysOk (kind : Int) (keys : List ByteArray) (n : Nat) : Prop :=
 if kind = 6 then keys.length = n ∧ (∀ k ∈ keys, okText k = true) ∧ asc none keys else keys = []
mutual
def V.wf : V → Prop
 | .mk kind num text keys kids => cellCode kind num text ByteArray.empty kids.length = 0 ∧ keysOk kind keys kids.length ∧ wfL kids
def wfL : List V → Prop
 | [] => True
 | k :: ks => k.wf ∧ wfL ks
end
def V.enc (t : V) : List CellD := t.cells ByteArray.empty
theorem okText_empty : okText ByteArray.empty = true := by decide +kernel
theorem cellCode_holds {k m : Int} {t y : ByteArray} {n : Int} (h : cellCode k m t y n = 0) (hh : holds k = false) : n = 0 := by
 unfold cellCode at h
 split at h
 ·omega
 ·split at h
  ·omega
  ·rename_i h1 h2
   simp only [cF, hh] at h2
   simp at h2
   exact h2.2
theorem cellCode_of {k m : Int} {t y : ByteArray} {n : Int} (h : cellCode k m t ByteArray.empty n = 0) (hy : okText y = true) : cellCode k m t y n = 0 := by
 unfold cellCode at h ⊢
 split at h
 ·omega
 ·split at h
  ·omega
  ·split at h
   ·omega
   ·split at h
    ·omega
    ·rename_i h1 h2 h3 h4
     rw [if_neg h1, if_neg h2, if_neg h3]
     simp [cT, okText_empty] at h4
     simp [cT, h4, hy]
mutual
theorem cells_len : ∀ (t : V) (key : ByteArray), (t.cells key).length = t.count
 | .mk kind num text keys kids, key => by simp only [V.cells, V.count, List.length_cons]; rw [cellsL_len kids]
theorem cellsL_len : ∀ (kids : List V) (kind : Int) (keys : List ByteArray), (cellsL kind keys kids).length = countL kids
 | [], _, _ => rfl
 | k :: ks, kind, keys => by simp only [cellsL, countL, List.length_append]; rw [cells_len k, cellsL_len ks]
end
theorem enc_len (t : V) : t.enc.length = t.count := cells_len t _
theorem cells_head (t : V) (key : ByteArray) : t.cells key = ⟨t.kind, t.num, t.text, key, t.kids.length⟩ :: cellsL t.kind t.keys t.kids := by cases t; rfl
mutual
theorem cells_codes : ∀ (t : V) (key : ByteArray), t.wf → okText key = true → ∀ c ∈ t.cells key, c.code = 0
 | .mk kind num text keys kids, key, hw, hk => by
  simp only [V.wf] at hw
  obtain ⟨h1, h2, h3⟩ := hw
  intro c hc
  simp only [V.cells, List.mem_cons] at hc
  rcases hc with rfl | hc
  ·exact cellCode_of h1 hk
  ·refine cellsL_codes kids kind keys h3 ?_ c hc
   intro k hkk
   unfold keysOk at h2
   split at h2
   ·exact h2.2.1 k hkk
   ·subst h2; simp at hkk
theorem cellsL_codes : ∀ (kids : List V) (kind : Int) (keys : List ByteArray), wfL kids → (∀ k ∈ keys, okText k = true) → ∀ c ∈ cellsL kind keys kids, c.code = 0
 | [], _, _, _, _ => by simp [cellsL]
 | k :: ks, kind, keys, hw, hk => by
  simp only [wfL] at hw
  intro c hc
  simp only [cellsL, List.mem_append] at hc
  rcases hc with hc | hc
  ·refine cells_codes k _ hw.1 ?_ c hc
   split
   ·cases keys with
    | nil => exact okText_empty
    | cons y ys => exact hk y (by simp)
   ·exact okText_empty
  ·exact cellsL_codes ks kind keys.tail hw.2 (fun k hkk => hk k (List.mem_of_mem_tail hkk)) c hc
end
def kp (ks : List V) (i : Nat) : Nat := 1 + countL (ks.take i)
def V.keyAt (t : V) (i : Nat) : ByteArray := if t.kind = 6 then (t.keys.drop i).headD ByteArray.empty else ByteArray.empty
theorem cellsL_drop : ∀ (kids : List V) (kind : Int) (keys : List ByteArray) (i : Nat), (cellsL kind keys kids).drop (countL (kids.take i)) = cellsL kind (keys.drop i) (kids.drop i)
 | [], kind, keys, i => by simp [cellsL]
 | k :: ks, kind, keys, 0 => by simp [countL]
 | k :: ks, kind, keys, i + 1 => by
  simp only [List.take_succ_cons, countL, cellsL, List.drop_succ_cons]
  have hl := cells_len k (if kind = 6 then keys.headD ByteArray.empty else ByteArray.empty)
  generalize V.cells (if kind = 6 then keys.headD ByteArray.empty else ByteArray.empty) k = kc at *
  rw [← List.drop_drop, show (kc ++ cellsL kind keys.tail ks).drop k.count = cellsL kind keys.tail ks by rw [← hl]; simp, cellsL_drop ks kind keys.tail i, List.drop_tail]
theorem enc_drop (t : V) (i : Nat) : t.enc.drop (kp t.kids i) = cellsL t.kind (t.keys.drop i) (t.kids.drop i) := by
 unfold V.enc kp
 rw [cells_head, Nat.add_comm, List.drop_succ_cons, cellsL_drop]
theorem enc_kid (t : V) {i : Nat} (h : i < t.kids.length) : t.enc.drop (kp t.kids i) = t.kids[i].cells (t.keyAt i) ++ t.enc.drop (kp t.kids (i + 1)) := by
 rw [enc_drop, enc_drop, List.drop_eq_getElem_cons h]
 simp only [cellsL, List.tail_drop]
 rfl
theorem countL_take_le (ks : List V) (i : Nat) : countL (ks.take i) ≤ countL ks := by
 induction ks generalizing i with
 | nil => simp [countL]
 | cons k ks ih => cases i with
  | zero => simp [countL]
  | succ i => have := ih i; simp only [List.take_succ_cons, countL]; omega
theorem countL_snoc (a : List V) (v : V) : countL (a ++ [v]) = countL a + v.count := by
 induction a with
 | nil => simp [countL]
 | cons x a ih => simp [countL, ih]; omega
theorem kp_succ (ks : List V) {i : Nat} (h : i < ks.length) : kp ks (i + 1) = kp ks i + ks[i].count := by
 unfold kp; rw [take_snoc h, countL_snoc]; omega
theorem kp_le (t : V) (i : Nat) : kp t.kids i ≤ t.count := by
 have := countL_take_le t.kids i; have := count_kids t; unfold kp; omega
theorem wf_kids {t : V} (h : t.wf) : wfL t.kids := by cases t; simp only [V.wf] at h; exact h.2.2
theorem wfL_mem : ∀ {ks : List V}, wfL ks → ∀ k ∈ ks, k.wf
 | [], _ => by simp
 | k :: ks, h => by
  simp only [wfL] at h
  intro x hx
  simp only [List.mem_cons] at hx
  rcases hx with rfl | hx
  ·exact h.1
  ·exact wfL_mem h.2 x hx
theorem cells_slice {t : V} {i : Nat} (h : i < t.kids.length) : (t.enc.drop (kp t.kids i)).take t.kids[i].count = t.kids[i].cells (t.keyAt i) := by
 rw [enc_kid t h, List.take_append_of_le_length (by rw [cells_len]; omega), List.take_of_length_le (by rw [cells_len]; omega)]
mutual
def V.neat : V → Prop
 | .mk kind _ _ keys kids => (holds kind = false → kids = []) ∧ (kind = 6 → keys.length = kids.length) ∧ neatL kids
def neatL : List V → Prop
 | [] => True
 | k :: ks => k.neat ∧ neatL ks
end
mutual
theorem neat_wf : ∀ (t : V), t.wf → t.neat
 | .mk kind num text keys kids, h => by
  simp only [V.wf] at h
  obtain ⟨h1, h2, h3⟩ := h
  refine ⟨fun hh => ?_, fun h6 => ?_, neatL_wf kids h3⟩
  ·have := cellCode_holds h1 hh
   exact List.eq_nil_of_length_eq_zero (by omega)
  ·simp only [keysOk, h6, if_true] at h2
   exact h2.1
theorem neatL_wf : ∀ (ks : List V), wfL ks → neatL ks
 | [], _ => trivial
 | k :: ks, h => by simp only [wfL] at h; exact ⟨neat_wf k h.1, neatL_wf ks h.2⟩
end
theorem neat_holds {t : V} (h : t.neat) : holds t.kind = false → t.kids = [] := by cases t; exact h.1
theorem neat_keys {t : V} (h : t.neat) : t.kind = 6 → t.keys.length = t.kids.length := by cases t; exact h.2.1
theorem neat_kids {t : V} (h : t.neat) : neatL t.kids := by cases t; exact h.2.2
theorem neatL_mem : ∀ {ks : List V}, neatL ks → ∀ k ∈ ks, k.neat
 | [], _ => by simp
 | k :: ks, h => by
  intro x hx
  simp only [List.mem_cons] at hx
  rcases hx with rfl | hx
  ·exact h.1
  ·exact neatL_mem h.2 x hx
theorem keyAt_get {t : V} (h : t.neat) (h6 : t.kind = 6) {i : Nat} (hi : i < t.kids.length) : ∃ hk : i < t.keys.length, t.keyAt i = t.keys[i] := by
 have := neat_keys h h6
 refine ⟨by omega, ?_⟩
 unfold V.keyAt
 rw [if_pos h6, List.drop_eq_getElem_cons (by omega)]
 rfl
theorem keyAt_none {t : V} (h6 : t.kind ≠ 6) (i : Nat) : t.keyAt i = ByteArray.empty := by unfold V.keyAt; rw [if_neg h6]
theorem enc_take_succ (t : V) {i : Nat} (h : i < t.kids.length) : t.enc.take (kp t.kids (i + 1)) = t.enc.take (kp t.kids i) ++ t.kids[i].cells (t.keyAt i) := by
 rw [kp_succ _ h, List.take_add]
 congr 1
 rw [cells_slice h]
theorem enc_take_one (t : V) : t.enc.take (kp t.kids 0) = [⟨t.kind, t.num, t.text, ByteArray.empty, t.kids.length⟩] := by
 unfold V.enc kp
 rw [cells_head]
 simp [countL]
theorem enc_take_all (t : V) : t.enc.take (kp t.kids t.kids.length) = t.enc := by
 apply List.take_of_length_le
 rw [enc_len, count_kids]
 unfold kp
 rw [List.take_length]
 omega
theorem enc_take_len (t : V) (i : Nat) : (t.enc.take (kp t.kids i)).length = kp t.kids i := by
 rw [List.length_take, enc_len]; have := kp_le t i; omega
def numV (n : Int) : V := .mk 3 n ByteArray.empty [] []
def strV (s : ByteArray) : V := .mk 4 0 s [] []
def arrV (ks : List V) : V := .mk 5 0 ByteArray.empty [] ks
def nullV : V := .mk 0 0 ByteArray.empty [] []
end Go.Proofs.YtlciedpfjhkkdaaGreatDoor
