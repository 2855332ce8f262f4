/- Texts of this proof: M36 G98 M37. -/
import Derived.Test.YtamgeodhpglgkaaGreatKM32
import Derived.Test.YtamgeodhpglgkaaGreatKM28uG69
import Derived.Test.YtamgeodhpglgkaaGreatKG89uG90
import Derived.Test.YtamgeodhpglgkaaGreatKM35uG97
import Derived.Test.YtamgeodhpglgkaaGreatKG21uM23
set_option linter.unusedSimpArgs false
namespace Go.Proofs.YtamgeodhpglgkaaGreat
open Go.RowKit
theorem countL_perm {a b : List V} (h : a.Perm b) : countL a = countL b := by
 induction h with
 | nil => rfl
 | cons x _ ih => simp only [countL, ih]
 | swap x y l => simp only [countL]; omega
 | trans _ _ h1 h2 => rw [h1, h2]
theorem depthL_perm {a b : List V} (h : a.Perm b) : depthL a = depthL b := by
 induction h with
 | nil => rfl
 | cons x _ ih => simp only [depthL, ih]
 | swap x y l => simp only [depthL]; omega
 | trans _ _ h1 h2 => rw [h1, h2]
theorem wfL_perm {a b : List V} (h : a.Perm b) (hw : wfL a) : wfL b := by
 induction h with
 | nil => exact hw
 | cons x _ ih => simp only [wfL] at hw ⊢; exact ⟨hw.1, ih hw.2⟩
 | swap x y l => simp only [wfL] at hw ⊢; exact ⟨hw.2.1, hw.1, hw.2.2⟩
 | trans _ _ h1 h2 => exact h2 (h1 hw)
theorem right_perm {t : V} (h : t.right) (h5 : t.kind = 5) {l : List V} (hp : l.Perm t.kids) : (arrV l).right := by
 obtain ⟨s1, s2, s3, s4, s5, _⟩ := right_shape h.1
 have e3 := s3 (by omega)
 have e4 := s4 (by omega)
 have e5 := s5 (by omega)
 obtain ⟨hw, hc, hd⟩ := h
 cases t with
 | mk kind num text keys kids =>
  dsimp only [V.kind, V.num, V.text, V.keys, V.kids] at *
  subst h5 e3 e4 e5
  simp only [V.wf] at hw
  have hcl := countL_perm hp
  have hdl := depthL_perm hp
  refine ⟨?_, ?_, ?_⟩
  ·unfold arrV
   simp only [V.wf]
   refine ⟨?_, rfl, wfL_perm hp.symm hw.2.2⟩
   rw [hp.length_eq]
   exact hw.1
  ·simp only [arrV, V.count] at hc ⊢
   omega
  ·simp only [arrV, V.depth] at hd ⊢
   omega
theorem right_sort {t : V} (h : t.right) (h5 : t.kind = 5) : (arrV (sortV t.kids)).right := right_perm h h5 (sortV_perm _)
def sortOfV (t : V) : Int × Option V := if t.kind = 5 then (0, some (arrV (sortV t.kids))) else (6, none)
theorem sortOfV_ok {t : V} (h : t.right) : okRes (sortOfV t) := by
 unfold sortOfV
 split
 ·exact okRes_ok (right_sort h ‹_›)
 ·exact okRes_bad (by decide)
set_option maxRecDepth 10000
theorem sortCmp_ac : CmpAC 238 := by
 refine ⟨by simp only [go_sem], fun x y hx => ?_⟩
 have h := compareVals_ac x.count x y (Nat.le_refl _) hx
 refine wEnter Tryz.func238 Tryz.ntmps238 ?_
 refine wRUN trivial ?_
 refine w7 (op_data [] h) trivial ?_
 refine wRUN trivial ?_
 exact wRetOf (ret_of [] []) Tryz.results238 @List.map_nil.{0,0}
theorem sortOf_ac {t : V} (ht : t.right) : AC Tryz.prog 137 [t.av] [] (resA (sortOfV t)) [] := by
 unfold sortOfV
 have hkl := (right_kl ht).2
 by_cases h5 : t.kind = 5
 ·have hb : (t.kind != 5) = false := by simp [h5]
  have h1 := cloneVals_ac t.kids (by omega)
  have h2 := sortStable_ac _ sortCmp_ac t.kids (fun x hx => right_mem ht hx) (by omega)
  have h3 := array_ac (sortV t.kids)
  have h4 := gives_ac (right_sort ht h5)
  rw [if_pos h5]
  show AC _ _ _ _ (outA 0 (arrV (sortV t.kids))) _
  generalize sortV t.kids = l at *
  generalize arrV l = d at *
  refine wEnter Tryz.func137 Tryz.ntmps137 ?_
  refine wRUN hb ?_
  refine w12 (op_rowF [] h1) trivial ?_
  refine wRUN trivial ?_
  refine wCall (op_any_call [((0, 0), (10, 0))] [((0, 0), (10, 0))] h2) trivial ?_
  refine wRUN trivial ?_
  refine w9 (op_shared [(10, 0)] h3) trivial ?_
  refine wRUN trivial ?_
  refine w9 (op_shared [] h4) trivial ?_
  refine wRUN trivial ?_
  exact wRetOf (ret_of [] []) Tryz.results137 hb
 ·have hb : (t.kind != 5) = true := by simpa using h5
  rw [if_neg h5]
  show AC _ _ _ _ (outA 6 nullV) _
  refine wEnter Tryz.func137 Tryz.ntmps137 ?_
  refine wRUN hb ?_
  refine w9 (op_shared [] (refuses_ac 6)) trivial ?_
  refine wRUN trivial ?_
  exact wRetOf (ret_of [] []) Tryz.results137 hb
def lengthV (t : V) : Int × Option V :=
 if t.kind = 0 then okR (numV 0) else if t.kind = 3 then okR (numV (max t.num (-t.num))) else if t.kind = 4 then okR (numV t.text.size) else if t.kind = 5 ∨ t.kind = 6 then okR (numV t.kids.length) else badR 6
def numsV (n : Nat) : List V := (List.range n).map fun (i : Nat) => numV (i : Int)
theorem numsV_len (n : Nat) : (numsV n).length = n := by simp [numsV]
theorem numsV_succ (n : Nat) : numsV (n + 1) = numsV n ++ [numV (n : Int)] := by simp [numsV, List.range_succ]
theorem numsV_sk {n : Nat} (h : n ≤ 200) : ∀ q ∈ numsV n, sKey q := fun q hq => by
 obtain ⟨i, hi, rfl⟩ := List.mem_map.1 hq
 have := List.mem_range.1 hi
 exact sKey_ok (.inr ⟨(i : Int), rfl, by omega, by omega⟩)
theorem keys_right {P : List V} (h : ∀ q ∈ P, sKey q) (hl : P.length ≤ 199) : (arrV P).right := by
 obtain ⟨h1, h2, h3⟩ := countL_sk h
 exact ⟨arr_wf h3 (by omega), by simp only [arrV, V.count]; omega, by simp only [arrV, V.depth]; omega⟩
def kindB (k : Int) : ByteArray := if k = 0 then ⟨#[110, 117, 108, 108]⟩ else if k = 1 ∨ k = 2 then ⟨#[98, 111, 111, 108, 101, 97, 110]⟩ else if k = 3 then ⟨#[110, 117, 109, 98, 101, 114]⟩ else if k = 4 then ⟨#[115, 116, 114, 105, 110, 103]⟩ else if k = 5 then ⟨#[97, 114, 114, 97, 121]⟩ else ⟨#[111, 98, 106, 101, 99, 116]⟩
def typeV (t : V) : Int × Option V := okR (strV (kindB t.kind))
theorem kindB_ok (k : Int) : okText (kindB k) = true := by
 unfold kindB
 repeat' split
 all_goals decide +kernel
theorem typeV_ok (t : V) : okRes (typeV t) := okRes_ok (strV_right (kindB_ok _))
def keysV (t : V) : Int × Option V := if t.kind = 6 then okR (arrV (t.keys.map strV)) else if t.kind = 5 then okR (arrV (numsV t.kids.length)) else badR 6
theorem strs_sk {l : List ByteArray} (h : ∀ k ∈ l, okText k = true) : ∀ q ∈ l.map strV, sKey q := fun q hq => by
 obtain ⟨s, hs, rfl⟩ := List.mem_map.1 hq
 exact sKey_ok (.inl ⟨s, rfl, h s hs⟩)
def sumGo : V → List V → Int × Option V
 | a, [] => okR a
 | a, k :: ks => match addV a k with
  | (_, some v) => sumGo v ks
  | (c, none) => (c, none)
def sumV (t : V) : Int × Option V := if t.kind = 5 ∨ t.kind = 6 then sumGo nullV t.kids else badR 6
def rangeV (n : Int) : Int × Option V := if n > 199 then badR 3 else okR (arrV (numsV n.toNat))
theorem rangeV_ok (n : Int) : okRes (rangeV n) := by
 unfold rangeV
 split
 ·exact okRes_bad (by decide)
 ·exact okRes_ok (keys_right (numsV_sk (by omega)) (by rw [numsV_len]; omega))
end Go.Proofs.YtamgeodhpglgkaaGreat
