/- Texts of this proof: M08 M09 M10 M15 M16 M18 M19 G20 G22 G23 G26 G27 S02 G55. -/
import Derived.Test.YtfmnoljflcpbgaaGreatDoorKM1
import Derived.Test.YtfmnoljflcpbgaaGreatDoorKG04
import Derived.Test.YtfmnoljflcpbgaaGreatDoorKE5
import Derived.Test.YtfmnoljflcpbgaaGreatDoorKB3
import Derived.Test.YtfmnoljflcpbgaaGreatDoorKG07uG08
import Derived.Test.YtfmnoljflcpbgaaGreatDoorKG14
import Derived.Test.YtfmnoljflcpbgaaGreatDoorKT01
import Derived.Shelf.SlGeneric
import Derived.Shelf.SlLaysM
import Derived.Test.YtfmnoljflcpbgaaGreatDoorKE6
import Derived.Shelf.SortM.Plain
import Derived.Shelf.SortM.SortNone
import Derived.Sort.OwnSorted
import Derived.Test.YtfmnoljflcpbgaaGreatDoorKG01uG02
set_option linter.unusedSimpArgs false
set_option linter.unusedVariables false
set_option linter.unnecessarySimpa false
namespace Go.Proofs.YtfmnoljflcpbgaaGreatDoor
open Go.RowKit

/-- A value without a fault. -/
def V.right (t : V) : Prop := t.wf ∧ t.count ≤ 200 ∧ t.depth ≤ 20
theorem right_mem {t : V} (h : t.right) {k : V} (hk : k ∈ t.kids) : k.right := by
  obtain ⟨h1, h2, h3⟩ := h
  have h4 := countL_mem hk
  have h5 := count_kids t
  have h6 := depthL_mem hk
  have h7 := depth_kids t
  exact ⟨wfL_mem (wf_kids h1) k hk, by omega, by omega⟩
theorem right_neat {t : V} (h : t.right) : t.neat := neat_wf t h.1
theorem right_dec {t : V} (h : t.right) : dec t.enc = (0, some t) := dec_enc h.1 h.2.1 h.2.2
end Go.Proofs.YtfmnoljflcpbgaaGreatDoor

/- The plain mathematics of sorted keys: where a key stands. -/
namespace Go.Proofs.YtfmnoljflcpbgaaGreatDoor
open Go.RowKit
theorem right_asc {t : V} (h : t.right) (h6 : t.kind = 6) : asc none t.keys ∧ (∀ k ∈ t.keys, okText k = true) ∧ t.keys.length = t.kids.length := by
  obtain ⟨hw, _, _⟩ := h
  cases t
  simp only [V.wf, keysOk] at hw
  simp only [V.kind] at h6
  rw [if_pos h6] at hw
  exact ⟨hw.2.1.2.2, hw.2.1.2.1, hw.2.1.1⟩
end Go.Proofs.YtfmnoljflcpbgaaGreatDoor

/- The plain mathematics of trees: the events of a value. -/
namespace Go.Proofs.YtfmnoljflcpbgaaGreatDoor
open Go.RowKit
/-- An event: a path; the leaf that stands there, or none at the end of an array or object. -/
abbrev Ev := List V × Option V
/-- The value of an event. -/
def evV (e : Ev) : V := match e.2 with
  | some t => arrV [arrV e.1, t]
  | none => arrV [arrV e.1]
end Go.Proofs.YtfmnoljflcpbgaaGreatDoor







/- The plain mathematics of merging: trees that fit, their cells tell them; what two values come to. -/
namespace Go.Proofs.YtfmnoljflcpbgaaGreatDoor
open Go.RowKit
mutual
/-- A tree whose shape and texts are as they should be; nothing is said of its size. -/
def V.fit : V → Prop
  | .mk kind _ text keys kids => text.size ≤ 200 ∧ (∀ k ∈ keys, k.size ≤ 60) ∧ (holds kind = false → kids = []) ∧ (kind = 6 → keys.length = kids.length) ∧ (kind ≠ 6 → keys = []) ∧ fitL kids
def fitL : List V → Prop
  | [] => True
  | k :: ks => k.fit ∧ fitL ks
end
end Go.Proofs.YtfmnoljflcpbgaaGreatDoor

/- impl's outcomes, and reading parts of trees, by the engine: null, refuses, count, fault, gives, result. -/
namespace Go.Proofs.YtfmnoljflcpbgaaGreatDoor
open Go.RowKit
/-- An outcome as a value. -/
def outA (c : Int) (t : V) : AV := .agg [.c (.int .i64 c), .c (.int .i64 t.kind), .c (.int .i64 t.num), .c (.str t.text), .c (.sl (t.keys.map strCs)), .c (.sl (t.kids.map V.cs))]
theorem outA_eq (c : Int) (t : V) : outA c t = .agg [.c (.int .i64 c), .c (.int .i64 t.kind), .c (.int .i64 t.num), .c (.str t.text), .c (.sl (t.keys.map strCs)), .c (.sl (t.kids.map V.cs))] := rfl
attribute [go_sem] outA_eq
set_option maxRecDepth 10000
theorem okText_size {s : ByteArray} (h : okText s = true) : s.size ≤ 60 := by
  unfold okText at h
  simp only [Bool.and_eq_true, decide_eq_true_eq] at h
  exact h.1
theorem right_sized {t : V} (h : t.right) : Sized t.enc := by
  intro c hc
  have h1 := cells_codes t ByteArray.empty h.1 okText_empty c hc
  have h2 := code_text h1
  exact ⟨by have := okText_size h2.1; omega, by have := okText_size h2.2; omega⟩
end Go.Proofs.YtfmnoljflcpbgaaGreatDoor

/- impl.getKey, getIndex, getAt, getPath, by the engine. -/
namespace Go.Proofs.YtfmnoljflcpbgaaGreatDoor
open Go.RowKit
set_option maxRecDepth 10000
theorem within_ac (n lo hi : Int) : AC Tryz.prog 53 [.c (.int .i64 n), .c (.int .i64 lo), .c (.int .i64 hi)] [] (.c (.bool (decide (n ≥ lo) && decide (n ≤ hi)))) [] := by
  cases h1 : decide (n ≥ lo) <;> cases h2 : decide (n ≤ hi)
  all_goals
    refine wEnter Tryz.func53 Tryz.ntmps53 ?_
    refine wRUN (j2 h1 h2) ?_
    exact wRet (ret_data []) Tryz.results53
theorem right_head {t : V} (h : t.right) : (⟨t.kind, t.num, t.text, ByteArray.empty, t.kids.length⟩ : CellD).code = 0 := by
  refine cells_codes t ByteArray.empty h.1 okText_empty _ ?_
  rw [cells_head]
  simp
theorem right_num {t : V} (h : t.right) : -1000000000000000 ≤ t.num ∧ t.num ≤ 1000000000000000 := by
  have hc := right_head h
  unfold CellD.code cellCode at hc
  have hr : cR t.num (t.kids.length : Int) = false := by
    cases hh : cR t.num (t.kids.length : Int)
    · rfl
    · simp only [hh] at hc
      split at hc
      · omega
      · split at hc
        · omega
        · simp at hc
  simp [cR, inB] at hr
  omega
theorem right_text {t : V} (h : t.right) : okText t.text = true := (code_text (right_head h)).1
end Go.Proofs.YtfmnoljflcpbgaaGreatDoor

/- impl.pathOf, withPath, ofOne, by the engine. -/
namespace Go.Proofs.YtfmnoljflcpbgaaGreatDoor
open Go.RowKit
set_option maxRecDepth 10000
theorem ar_trees {w : World} {S : Nat → Prop} {m : Mem} {κ : Id → Value} {ks : List V} {kvs : List (List Value)} {A : Option Addr} {cv : Nat} (hc : ks.length ≤ cv) (hr : Row w S 5 A kvs) (hv : VReps w S ks kvs) : AR w S m κ (valsA ks) (.slice A ks.length cv) := by
  have h7 := crss_trees hv
  rw [csL_eq] at h7
  exact ⟨5, A, cv, kvs, by rw [List.length_map], by rw [List.length_map]; exact hc, trivial, hr, h7, rfl⟩
theorem pathOf_ac (xs : List CellD) (hz : Sized xs) {ks : List V} (h : pathDec xs = (0, some ks)) : AC Tryz.prog 46 [cellsA xs] [] (.tup [valsA ks, .c (.int .i64 0)]) [] := by
  refine AC.of_calls fun S w κ vs hv => ?_
  obtain ⟨v, vs', rfl, h1, rfl⟩ := hv
  obtain ⟨A, cap, rfl, _, hc⟩ := cr_cells.1 h1
  refine (pathOf_any xs hz A cap S w hc).mono ?_
  rintro e w' ⟨hb, he⟩
  rw [h] at he
  obtain ⟨Av, cv, kvs, rfl, h2, h3, h4⟩ := he
  exact ⟨hb, _, rfl, fun T _ hT => ⟨[_, _], rfl, _, _, rfl, ar_trees h2 (h3.weaken fun b hb _ => hT b hb) (h4.weaken fun b hb _ => hT b hb), _, _, rfl, ⟨rfl, rfl⟩, rfl⟩⟩
theorem pathOf_bad (xs : List CellD) (hz : Sized xs) {c : Int} (h : pathDec xs = (c, none)) : AC Tryz.prog 46 [cellsA xs] [] (.tup [.nils, .c (.int .i64 c)]) [] := by
  refine AC.of_calls fun S w κ vs hv => ?_
  obtain ⟨v, vs', rfl, h1, rfl⟩ := hv
  obtain ⟨A, cap, rfl, _, hc⟩ := cr_cells.1 h1
  refine (pathOf_any xs hz A cap S w hc).mono ?_
  rintro e w' ⟨hb, he⟩
  rw [h] at he
  have he' : e = .returned (.tuple #[.slice none 0 0, .int .i64 c]) := he
  subst he'
  exact ⟨hb, _, rfl, fun T _ hT => ⟨[_, _], rfl, _, _, rfl, rfl, _, _, rfl, ⟨rfl, rfl⟩, rfl⟩⟩
end Go.Proofs.YtfmnoljflcpbgaaGreatDoor

/- The specification's reading of parts of values, by the engine: l3Index, l3At, l13Get. -/
namespace Go.Proofs.YtfmnoljflcpbgaaGreatDoor
open Go.RowKit
set_option maxRecDepth 10000
theorem l1In_ac (n lo hi : Int) : AC Tryz.prog 50 [.c (.int .i64 n), .c (.int .i64 lo), .c (.int .i64 hi)] [] (.c (.bool (decide (n ≥ lo) && decide (n ≤ hi)))) [] := by
  cases h1 : decide (n ≥ lo) <;> cases h2 : decide (n ≤ hi)
  all_goals
    refine wEnter Tryz.func50 Tryz.ntmps50 ?_
    refine wRUN (j2 h1 h2) ?_
    exact wRet (ret_data []) Tryz.results50
end Go.Proofs.YtfmnoljflcpbgaaGreatDoor

/- spec.l13Asked, by the engine. -/
namespace Go.Proofs.YtfmnoljflcpbgaaGreatDoor
open Go.RowKit
set_option maxRecDepth 10000
theorem specPath_ac (ps : List CellD) : AC Tryz.prog 42 [cellsA ps] [] (.c (.int .i64 (pathDec ps).1)) [] := by
  refine AC.of_calls fun S w κ vs hv => ?_
  obtain ⟨v, vs', rfl, h1, rfl⟩ := hv
  obtain ⟨A, cap, rfl, hcap, hc⟩ := cr_cells.1 h1
  refine (specPathFault_any ps A cap hcap S w hc).mono ?_
  rintro e w' ⟨rfl, hb⟩
  exact ⟨hb, _, rfl, fun T _ _ => ⟨rfl, rfl⟩⟩
end Go.Proofs.YtfmnoljflcpbgaaGreatDoor

/- slices.Sort at []string: that the program bears its closure (printed by gen_lay.py out of the kit's own laying). -/
namespace Go.Proofs.YtfmnoljflcpbgaaGreatDoor
open Go.RowKit Go.Shelf
end Go.Proofs.YtfmnoljflcpbgaaGreatDoor

/- spec.l1Told, l14Merge, MergeValues; impl.MergeValues, by the engine. -/
namespace Go.Proofs.YtfmnoljflcpbgaaGreatDoor
open Go.RowKit
set_option maxRecDepth 10000
theorem enc_rows (t : V) : rowsAt (t.enc.map CellD.cs) 5 0 = true := by unfold rowsAt; rw [show (0 : Int).toNat = 0 from rfl, enc_head]; rfl
end Go.Proofs.YtfmnoljflcpbgaaGreatDoor
