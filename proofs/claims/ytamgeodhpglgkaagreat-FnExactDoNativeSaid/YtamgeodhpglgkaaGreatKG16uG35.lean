/- Texts of this proof: G16 G64 G65 G66 G29 G88 M31 M13 M14 G35. -/
import Derived.Test.YtamgeodhpglgkaaGreatKG14uS02
import Derived.Test.YtamgeodhpglgkaaGreatKM28uG69
import Derived.Test.YtamgeodhpglgkaaGreatKE5
import Derived.Test.YtamgeodhpglgkaaGreatKA1
import Derived.Test.YtamgeodhpglgkaaGreatKE6
import Derived.Test.YtamgeodhpglgkaaGreatKG25uG26
import Derived.Test.YtamgeodhpglgkaaGreatKG04uG20
import Derived.Test.YtamgeodhpglgkaaGreatKM2
import Derived.Test.YtamgeodhpglgkaaGreatKG10uG11
import Derived.Test.YtamgeodhpglgkaaGreatKG70
import Derived.Test.YtamgeodhpglgkaaGreatKG49uG52
import Derived.Test.YtamgeodhpglgkaaGreatKG21uM23
import Derived.Deep.RegionLaw
import Derived.Shelf.RegionOpenPlain
import Derived.Laws.CopyRow
import Derived.Test.YtamgeodhpglgkaaGreatKG06uG08
set_option linter.unusedSimpArgs false
namespace Go.Proofs.YtamgeodhpglgkaaGreat
open Go.RowKit
set_option maxRecDepth 10000
theorem szR_le (xs : List CellD) (left : Int) (h : 0 ≤ left) : szR xs left ≤ left := by
 unfold szR
 split
 ·omega
 ·have : (0 : Int) ≤ (xs.length : Int) := by omega
  have : (0 : Int) ≤ (bulk xs : Int) := by omega
  omega
theorem markCellS_nil (K : Nat) : AC Tryz.prog 17 [.nils, .c (.int .i64 K)] [] (.c (.int .i64 K)) [] := by
 have hd : decide ((0 : Int) < 0) = false := rfl
 refine wEnter Tryz.func17 Tryz.ntmps17 ?_
 refine wRUN trivial ?_
 refine a_loop (κ := Nat) (fun k => ⟨mkS 0 50 [(0, .nils), (1, .c (.int .i64 K)), (5, .c (.int .i64 0))], []⟩)
  (fun _ => True) (fun k => k) 0 trivial ?_ ?_
 ·exact wSays (Says.of [] []) hd
 ·intro k hk
  refine wRUN hd ?_
  exact wRet (ret_data []) Tryz.results17
set_option maxRecDepth 10000
def EditD.cs (d : EditD) : List C := [.int .i64 d.op, .sl (d.path.map CellD.cs), .sl (d.x.map CellD.cs)]
def EditD.os (d : EditD) : List C := [.int .i64 d.op, .osl (d.path.map CellD.cs), .osl (d.x.map CellD.cs)]
def EditD.av (d : EditD) : AV := .agg [.c (.int .i64 d.op), .c (.sl (d.path.map CellD.cs)), .c (.sl (d.x.map CellD.cs))]
theorem forget_edits (l : List EditD) : forgetLL (l.map EditD.os) = l.map EditD.cs := by
 induction l with
 | nil => rfl
 | cons d l ih => simp only [List.map_cons, forgetLL, ih, EditD.os, EditD.cs, forgetL, C.forget, forget_cells]
theorem closed_edits (l : List EditD) : closedLL (l.map EditD.os) = true := by
 induction l with
 | nil => rfl
 | cons d l ih => simp only [List.map_cons, closedLL, ih, Bool.and_true, EditD.os, closedL, C.closed, closed_cells]
theorem all_edits (l : List EditD) : ((l.map EditD.os).all fun r => r.length == 3) = true := by simp [EditD.os]
attribute [go_sem] forget_edits closed_edits all_edits EditD.av
set_option maxRecDepth 10000
theorem all_osl (l : List (List CellD)) : ((l.map oslCs).all fun r => r.length == 1) = true := by simp [oslCs]
attribute [go_sem] all_osl
set_option maxRecDepth 10000
theorem each_ac (t : V) : AC Tryz.prog 239 [t.av] [] (bif t.kind == 5 || t.kind == 6 then .tup [.c (.sl (t.kids.map V.cs)), .c (.int .i64 0)] else .tup [.nils, .c (.int .i64 6)]) [] := by
 cases h5 : t.kind == 5 with
 | true =>
  have h5' : (t.kind != 5) = false := by rw [bne, h5]; rfl
  refine wEnter Tryz.func239 Tryz.ntmps239 ?_
  refine wRUN h5' ?_
  exact wRetOf (ret_of [] []) Tryz.results239 h5'
 | false =>
  have h5' : (t.kind != 5) = true := by rw [bne, h5]; rfl
  cases h6 : t.kind == 6 with
  | true =>
   have h6' : (t.kind != 6) = false := by rw [bne, h6]; rfl
   refine wEnter Tryz.func239 Tryz.ntmps239 ?_
   refine wRUN (j2 h5' h6') ?_
   exact wRetOf (ret_of [] []) Tryz.results239 h5'
  | false =>
   have h6' : (t.kind != 6) = true := by rw [bne, h6]; rfl
   refine wEnter Tryz.func239 Tryz.ntmps239 ?_
   refine wRUN (j2 h5' h6') ?_
   exact wRetOf (ret_of [] []) Tryz.results239 h5'
mutual
def V.deep : V → List V
 | .mk kind num text keys kids => .mk kind num text keys kids :: deepL kids
def deepL : List V → List V
 | [] => []
 | k :: ks => k.deep ++ deepL ks
end
theorem deep_eq (t : V) : t.deep = t :: deepL t.kids := by cases t; simp [V.deep, V.kids]
mutual
theorem deep_len : ∀ (t : V), t.deep.length = t.count
 | .mk kind num text keys kids => by simp only [V.deep, V.count, List.length_cons, deepL_len kids]
theorem deepL_len : ∀ (ks : List V), (deepL ks).length = countL ks
 | [] => rfl
 | k :: ks => by simp only [deepL, countL, List.length_append, deep_len k, deepL_len ks]
end
theorem deepL_app : ∀ (a b : List V), deepL (a ++ b) = deepL a ++ deepL b
 | [], b => rfl
 | x :: a, b => by simp only [List.cons_append, deepL, deepL_app a b, List.append_assoc]
mutual
theorem deep_right : ∀ (t : V), t.right → ∀ s ∈ t.deep, s.right ∧ s.count ≤ t.count ∧ s.depth ≤ t.depth
 | .mk kind num text keys kids, h => fun s hs => by
  simp only [V.deep, List.mem_cons] at hs
  rcases hs with rfl | hs
  ·exact ⟨h, Nat.le_refl _, Nat.le_refl _⟩
  ·have := deepL_right kids (fun k hk => right_mem h hk) s hs
   exact ⟨this.1, by simp only [V.count]; omega, by simp only [V.depth]; omega⟩
theorem deepL_right : ∀ (ks : List V), (∀ k ∈ ks, k.right) → ∀ s ∈ deepL ks, s.right ∧ s.count ≤ countL ks ∧ s.depth ≤ depthL ks
 | [], _ => fun s hs => by simp [deepL] at hs
 | k :: ks, h => fun s hs => by
  simp only [deepL, List.mem_append] at hs
  rcases hs with hs | hs
  ·have := deep_right k (h k (by simp)) s hs
   exact ⟨this.1, by simp only [countL]; omega, by simp only [depthL]; omega⟩
  ·have := deepL_right ks (fun x hx => h x (by simp [hx])) s hs
   exact ⟨this.1, by simp only [countL]; omega, by simp only [depthL]; omega⟩
end
structure InD where
 op : Int
 arg : Int
 val : List CellD
def between (n lo hi : Int) : Bool := decide (n ≥ lo) && decide (n ≤ hi)
def HInv (n : Nat) (b : Int) (out : List Int) : Prop := out.length = n ∧ ∀ v ∈ out, -1 ≤ v ∧ v ≤ b
theorem HInv.get {n : Nat} {b : Int} {out : List Int} (h : HInv n b out) (hb : 0 ≤ b) (m : Nat) : -1 ≤ out.getD m 0 ∧ out.getD m 0 ≤ b := by
 rw [List.getD_eq_getElem?_getD]
 by_cases hm : m < out.length
 ·rw [List.getElem?_eq_getElem hm, Option.getD_some]
  exact h.2 _ (List.getElem_mem hm)
 ·rw [List.getElem?_eq_none (by omega), Option.getD_none]
  omega
theorem HInv.set {n : Nat} {b : Int} {out : List Int} (h : HInv n b out) {m : Nat} {x : Int} (hx : -1 ≤ x ∧ x ≤ b) : HInv n b (out.set m x) := by
 refine ⟨by rw [List.length_set]; exact h.1, fun v hv => ?_⟩
 rcases List.mem_or_eq_of_mem_set hv with hv | rfl
 ·exact h.2 v hv
 ·exact hx
theorem HInv.up {n : Nat} {b c : Int} {out : List Int} (h : HInv n b out) (hc : b ≤ c) : HInv n c out := ⟨h.1, fun v hv => by have := h.2 v hv; omega⟩
theorem getD_set_ne {out : List Int} {m k : Nat} {x : Int} (h : m ≠ k) : (out.set m x).getD k 0 = out.getD k 0 := by
 rw [List.getD_eq_getElem?_getD, List.getD_eq_getElem?_getD, List.getElem?_set_ne h]
set_option maxRecDepth 10000
def InD.cs (d : InD) : List C := [.int .i64 d.op, .int .i64 d.arg, .sl (d.val.map CellD.cs)]
def InD.av (d : InD) : AV := .agg [.c (.int .i64 d.op), .c (.int .i64 d.arg), .c (.sl (d.val.map CellD.cs))]
attribute [go_sem] InD.av
end Go.Proofs.YtamgeodhpglgkaaGreat
