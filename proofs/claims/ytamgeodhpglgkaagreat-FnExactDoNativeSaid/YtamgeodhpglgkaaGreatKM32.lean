/- The plain mathematics of sorting values: compare is a total order; what is sorted is so in one way alone. -/
import Derived.Test.YtamgeodhpglgkaaGreatKM2
set_option linter.unusedSimpArgs false
namespace Go.Proofs.YtamgeodhpglgkaaGreat
open Go.RowKit
def TR (p q r : Int) : Prop := (p ≤ 0 → q ≤ 0 → r ≤ 0) ∧ (p < 0 → q ≤ 0 → r < 0) ∧ (p ≤ 0 → q < 0 → r < 0)
theorem TR.or {p q r p' q' r' : Int} (h : TR p q r) (h' : TR p' q' r') : TR (orI p p') (orI q q') (orI r r') := by
 unfold TR orI at *
 split <;> split <;> split <;> omega
theorem trI (a b c : Int) : TR (cmpI a b) (cmpI b c) (cmpI a c) := by
 unfold TR cmpI
 split <;> split <;> split <;> omega
theorem cmpI_flip (a b : Int) : cmpI b a = -cmpI a b := by
 unfold cmpI
 split <;> split <;> omega
theorem orI_flip {p p' q q' : Int} (h : q = -p) (h' : q' = -p') : orI q q' = -orI p p' := by
 unfold orI
 split <;> split <;> omega
theorem lessB_flip {a b : ByteArray} (h : lessB a b = true) : lessB b a = false := by
 cases hb : lessB b a with
 | false => rfl
 | true =>
  have := bytesLess_trans h hb
  rw [bytesLess_irrefl] at this
  cases this
theorem cmpB_flip (a b : ByteArray) : cmpB b a = -cmpB a b := by
 unfold cmpB
 cases h1 : lessB a b with
 | true =>
  have h2 := lessB_flip h1
  have hne : ¬ b.toList = a.toList := fun e => by
   unfold lessB at h1
   rw [e, bytesLess_irrefl] at h1
   cases h1
  simp [h2, hne]
 | false =>
  cases h2 : lessB b a with
  | true =>
   have hne : ¬ a.toList = b.toList := fun e => by
    unfold lessB at h2
    rw [e, bytesLess_irrefl] at h2
    cases h2
   simp [hne]
  | false =>
   have he : a.toList = b.toList := by
    unfold lessB at h1 h2
    rcases bytesLess_tri a.toList b.toList with h | h | h
    ·rw [h] at h1; cases h1
    ·exact h
    ·rw [h] at h2; cases h2
   simp [he]
theorem trB (a b c : ByteArray) : TR (cmpB a b) (cmpB b c) (cmpB a c) := by
 have key : ∀ x y : ByteArray, cmpB x y ≤ 0 ↔ (x = y ∨ lessB x y = true) := fun x y => by
  unfold cmpB
  cases h : lessB x y with
  | true => simp
  | false =>
   simp only [Bool.false_eq_true, if_false, or_false]
   by_cases he : x.toList = y.toList
   ·have := ByteArray_toList_inj he
    simp [this]
   ·have : x ≠ y := fun e => he (by rw [e])
    simp [he, this]
 have key2 : ∀ x y : ByteArray, cmpB x y < 0 ↔ lessB x y = true := fun x y => by
  unfold cmpB
  cases h : lessB x y with
  | true => simp
  | false =>
   simp only [Bool.false_eq_true, if_false, iff_false]
   split <;> omega
 have tr : ∀ x y z : ByteArray, lessB x y = true → lessB y z = true → lessB x z = true := fun x y z h1 h2 => bytesLess_trans h1 h2
 refine ⟨fun h1 h2 => ?_, fun h1 h2 => ?_, fun h1 h2 => ?_⟩
 ·rw [key] at h1 h2 ⊢
  rcases h1 with rfl | h1
  ·exact h2
  ·rcases h2 with rfl | h2
   ·exact .inr h1
   ·exact .inr (tr _ _ _ h1 h2)
 ·rw [key2] at h1 ⊢
  rw [key] at h2
  rcases h2 with rfl | h2
  ·exact h1
  ·exact tr _ _ _ h1 h2
 ·rw [key2] at h2 ⊢
  rw [key] at h1
  rcases h1 with rfl | h1
  ·exact h2
  ·exact tr _ _ _ h1 h2
theorem cmpKeys_flip : ∀ (a b : List ByteArray), cmpKeys b a = -cmpKeys a b
 | [], [] => rfl
 | [], _ :: _ => rfl
 | _ :: _, [] => rfl
 | x :: a, y :: b => by
  simp only [cmpKeys]
  exact orI_flip (cmpB_flip x y) (cmpKeys_flip a b)
theorem trKeys : ∀ (a b c : List ByteArray), TR (cmpKeys a b) (cmpKeys b c) (cmpKeys a c)
 | [], [], [] => by unfold TR cmpKeys; omega
 | [], [], _ :: _ => by unfold TR cmpKeys; omega
 | [], _ :: _, [] => by unfold TR cmpKeys; omega
 | _ :: _, [], [] => by unfold TR cmpKeys; omega
 | _ :: _, [], _ :: _ => by unfold TR; simp only [cmpKeys]; omega
 | [], _ :: _, _ :: _ => by unfold TR; simp only [cmpKeys]; omega
 | _ :: _, _ :: _, [] => by unfold TR; simp only [cmpKeys]; omega
 | x :: a, y :: b, z :: c => by
  simp only [cmpKeys]
  exact (trB x y z).or (trKeys a b c)
theorem cmp_all (a b : V) : a.cmp b = orI (cmpI a.kind b.kind) (orI (cmpI a.num b.num) (orI (cmpB a.text b.text) (orI (cmpKeys a.keys b.keys) (cmpLV a.kids b.kids)))) := by
 rw [cmp_eq]
 split
 ·rename_i h
  rw [h, cmpI_self, orI_zero]
 ·rename_i h
  rw [orI_ne fun e => h (cmpI_null.1 e)]
mutual
theorem cmp_flip : ∀ (a b : V), b.cmp a = -a.cmp b
 | .mk k n t ks vs, .mk k' n' t' ks' vs' => by
  rw [cmp_all, cmp_all]
  exact orI_flip (cmpI_flip _ _) (orI_flip (cmpI_flip _ _) (orI_flip (cmpB_flip _ _) (orI_flip (cmpKeys_flip _ _) (cmpLV_flip vs vs'))))
theorem cmpLV_flip : ∀ (a b : List V), cmpLV b a = -cmpLV a b
 | [], [] => rfl
 | [], _ :: _ => rfl
 | _ :: _, [] => rfl
 | x :: a, y :: b => by
  simp only [cmpLV]
  exact orI_flip (cmp_flip x y) (cmpLV_flip a b)
end
mutual
theorem trV : ∀ (a b c : V), TR (a.cmp b) (b.cmp c) (a.cmp c)
 | .mk k n t ks vs, .mk k' n' t' ks' vs', .mk k2 n2 t2 ks2 vs2 => by
  rw [cmp_all, cmp_all, cmp_all]
  exact (trI _ _ _).or ((trI _ _ _).or ((trB _ _ _).or ((trKeys _ _ _).or (trLV vs vs' vs2))))
theorem trLV : ∀ (a b c : List V), TR (cmpLV a b) (cmpLV b c) (cmpLV a c)
 | [], [], [] => by unfold TR cmpLV; omega
 | [], [], _ :: _ => by unfold TR cmpLV; omega
 | [], _ :: _, [] => by unfold TR cmpLV; omega
 | _ :: _, [], [] => by unfold TR cmpLV; omega
 | _ :: _, [], _ :: _ => by unfold TR; simp only [cmpLV]; omega
 | [], _ :: _, _ :: _ => by unfold TR; simp only [cmpLV]; omega
 | _ :: _, _ :: _, [] => by unfold TR; simp only [cmpLV]; omega
 | x :: a, y :: b, z :: c => by
  simp only [cmpLV]
  exact (trV x y z).or (trLV a b c)
end
def leV (a b : V) : Prop := a.cmp b ≤ 0
theorem leV_trans {a b c : V} (h1 : leV a b) (h2 : leV b c) : leV a c := (trV a b c).1 h1 h2
theorem leV_total (a b : V) : leV a b ∨ leV b a := by
 unfold leV
 rw [cmp_flip a b]
 omega
theorem leV_anti {a b : V} (h1 : leV a b) (h2 : leV b a) : a = b := by
 unfold leV at *
 rw [cmp_flip a b] at h2
 exact cmp_null.1 (by omega)
theorem leV_refl (a : V) : leV a a := by unfold leV; rw [cmp_null.2 rfl]; omega
theorem not_less {a b : V} : ¬ (a.cmp b < 0) ↔ leV b a := by
 unfold leV
 rw [cmp_flip a b]
 omega
theorem less_le {a b : V} (h : a.cmp b < 0) : leV a b := by unfold leV; omega
def SortedV (l : List V) : Prop := List.Pairwise leV l
theorem sorted_one {a b : List V} (ha : SortedV a) (hb : SortedV b) (h : a.Perm b) : a = b := h.eq_of_pairwise (fun _ _ _ _ => leV_anti) ha hb
def leVb (a b : V) : Bool := decide (a.cmp b ≤ 0)
def sortV (l : List V) : List V := l.mergeSort leVb
theorem sortV_perm (l : List V) : (sortV l).Perm l := List.mergeSort_perm l _
theorem sortV_sorted (l : List V) : SortedV (sortV l) := by
 have h := List.pairwise_mergeSort (le := leVb) (fun a b c h1 h2 => decide_eq_true (show a.cmp c ≤ 0 from leV_trans (show a.cmp b ≤ 0 from of_decide_eq_true h1) (show b.cmp c ≤ 0 from of_decide_eq_true h2))) (fun a b => by
  unfold leVb
  rcases leV_total a b with h | h
  ·have : decide (a.cmp b ≤ 0) = true := decide_eq_true h
   simp [this]
  ·have : decide (b.cmp a ≤ 0) = true := decide_eq_true h
   simp [this]) l
 exact h.imp fun h => of_decide_eq_true h
theorem sortV_of {a l : List V} (ha : SortedV a) (h : a.Perm l) : sortV l = a := sorted_one (sortV_sorted l) ha ((sortV_perm l).trans h.symm)
theorem sortV_self {l : List V} (h : SortedV l) : sortV l = l := sortV_of h (List.Perm.refl _)
theorem sortV_len (l : List V) : (sortV l).length = l.length := (sortV_perm l).length_eq
theorem sorted_app {a b : List V} (ha : SortedV a) (hb : SortedV b) (h : ∀ x ∈ a, ∀ y ∈ b, leV x y) : SortedV (a ++ b) := List.pairwise_append.2 ⟨ha, hb, h⟩
end Go.Proofs.YtamgeodhpglgkaaGreat
