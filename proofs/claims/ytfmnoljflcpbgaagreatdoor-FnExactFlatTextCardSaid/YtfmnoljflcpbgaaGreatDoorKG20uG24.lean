/- Texts of this proof: G20 G22 G23 G24. -/
import Derived.Test.YtfmnoljflcpbgaaGreatDoorKG05uG06
import Derived.Test.YtfmnoljflcpbgaaGreatDoorKE5
import Derived.Test.YtfmnoljflcpbgaaGreatDoorKM2
import Derived.Test.YtfmnoljflcpbgaaGreatDoorKB3
set_option linter.unusedSimpArgs false
set_option linter.unusedVariables false
set_option linter.unnecessarySimpa false
namespace Go.Proofs.YtfmnoljflcpbgaaGreatDoor
open Go.RowKit
/-- An outcome as a value. -/
def outA (c : Int) (t : V) : AV := .agg [.c (.int .i64 c), .c (.int .i64 t.kind), .c (.int .i64 t.num), .c (.str t.text), .c (.sl (t.keys.map strCs)), .c (.sl (t.kids.map V.cs))]
theorem outA_eq (c : Int) (t : V) : outA c t = .agg [.c (.int .i64 c), .c (.int .i64 t.kind), .c (.int .i64 t.num), .c (.str t.text), .c (.sl (t.keys.map strCs)), .c (.sl (t.kids.map V.cs))] := rfl
attribute [go_sem] outA_eq
set_option maxRecDepth 10000
theorem okText_size {s : ByteArray} (h : okText s = true) : s.size ≤ 60 := by
  unfold okText at h
  simp only [Bool.and_eq_true, decide_eq_true_eq] at h
  exact h.1
theorem right_sized {t : V} (h : t.right) : Sized t.enc := by
  intro c hc
  have h1 := cells_codes t ByteArray.empty h.1 okText_empty c hc
  have h2 := code_text h1
  exact ⟨by have := okText_size h2.1; omega, by have := okText_size h2.2; omega⟩
end Go.Proofs.YtfmnoljflcpbgaaGreatDoor

/- impl.getKey, getIndex, getAt, getPath, by the engine. -/
namespace Go.Proofs.YtfmnoljflcpbgaaGreatDoor
open Go.RowKit
set_option maxRecDepth 10000
theorem right_head {t : V} (h : t.right) : (⟨t.kind, t.num, t.text, ByteArray.empty, t.kids.length⟩ : CellD).code = 0 := by
  refine cells_codes t ByteArray.empty h.1 okText_empty _ ?_
  rw [cells_head]
  simp
theorem right_num {t : V} (h : t.right) : -1000000000000000 ≤ t.num ∧ t.num ≤ 1000000000000000 := by
  have hc := right_head h
  unfold CellD.code cellCode at hc
  have hr : cR t.num (t.kids.length : Int) = false := by
    cases hh : cR t.num (t.kids.length : Int)
    · rfl
    · simp only [hh] at hc
      split at hc
      · omega
      · split at hc
        · omega
        · simp at hc
  simp [cR, inB] at hr
  omega
theorem right_text {t : V} (h : t.right) : okText t.text = true := (code_text (right_head h)).1
theorem getPath_drop (t u : V) (path : List V) (k : Nat) (hk : k < path.length) : getPathV u (path.drop k) = match getAtV u path[k] with
    | (_, some x) => getPathV x (path.drop (k + 1))
    | (c, none) => (c, none) := by
  rw [List.drop_eq_getElem_cons hk]
  rfl
end Go.Proofs.YtfmnoljflcpbgaaGreatDoor

/- impl.pathOf, withPath, ofOne, by the engine. -/
namespace Go.Proofs.YtfmnoljflcpbgaaGreatDoor
open Go.RowKit
set_option maxRecDepth 10000
theorem ar_trees {w : World} {S : Nat → Prop} {m : Mem} {κ : Id → Value} {ks : List V} {kvs : List (List Value)} {A : Option Addr} {cv : Nat} (hc : ks.length ≤ cv) (hr : Row w S 5 A kvs) (hv : VReps w S ks kvs) : AR w S m κ (valsA ks) (.slice A ks.length cv) := by
  have h7 := crss_trees hv
  rw [csL_eq] at h7
  exact ⟨5, A, cv, kvs, by rw [List.length_map], by rw [List.length_map]; exact hc, trivial, hr, h7, rfl⟩
theorem pathOf_ac (xs : List CellD) (hz : Sized xs) {ks : List V} (h : pathDec xs = (0, some ks)) : AC Tryz.prog 46 [cellsA xs] [] (.tup [valsA ks, .c (.int .i64 0)]) [] := by
  refine AC.of_calls fun S w κ vs hv => ?_
  obtain ⟨v, vs', rfl, h1, rfl⟩ := hv
  obtain ⟨A, cap, rfl, _, hc⟩ := cr_cells.1 h1
  refine (pathOf_any xs hz A cap S w hc).mono ?_
  rintro e w' ⟨hb, he⟩
  rw [h] at he
  obtain ⟨Av, cv, kvs, rfl, h2, h3, h4⟩ := he
  exact ⟨hb, _, rfl, fun T _ hT => ⟨[_, _], rfl, _, _, rfl, ar_trees h2 (h3.weaken fun b hb _ => hT b hb) (h4.weaken fun b hb _ => hT b hb), _, _, rfl, ⟨rfl, rfl⟩, rfl⟩⟩
theorem pathOf_bad (xs : List CellD) (hz : Sized xs) {c : Int} (h : pathDec xs = (c, none)) : AC Tryz.prog 46 [cellsA xs] [] (.tup [.nils, .c (.int .i64 c)]) [] := by
  refine AC.of_calls fun S w κ vs hv => ?_
  obtain ⟨v, vs', rfl, h1, rfl⟩ := hv
  obtain ⟨A, cap, rfl, _, hc⟩ := cr_cells.1 h1
  refine (pathOf_any xs hz A cap S w hc).mono ?_
  rintro e w' ⟨hb, he⟩
  rw [h] at he
  have he' : e = .returned (.tuple #[.slice none 0 0, .int .i64 c]) := he
  subst he'
  exact ⟨hb, _, rfl, fun T _ hT => ⟨[_, _], rfl, _, _, rfl, rfl, _, _, rfl, ⟨rfl, rfl⟩, rfl⟩⟩
end Go.Proofs.YtfmnoljflcpbgaaGreatDoor

/- impl.withPath, by the engine. -/
namespace Go.Proofs.YtfmnoljflcpbgaaGreatDoor
open Go.RowKit
set_option maxRecDepth 10000
/-- What two values' reading comes to: a value at a path is asked for. -/
def askPath (xs ps : List CellD) (F : V → List V → Int × Option V) : Int × Option V := match dec xs with
  | (c, none) => (c, none)
  | (_, some t) => match pathDec ps with
    | (c, none) => (c, none)
    | (_, some path) => F t path
theorem right_of_dec {xs : List CellD} {t : V} (h : dec xs = (0, some t)) : xs = t.enc ∧ t.right := by
  obtain ⟨h1, h2, h3, h4⟩ := dec_ok h
  exact ⟨h1, h2, h3, h4⟩
theorem ask_way (xs ps : List CellD) (F : V → List V → Int × Option V) : ((dec xs).2 = none ∧ (dec xs).1 ≠ 0 ∧ askPath xs ps F = ((dec xs).1, none)) ∨ ∃ t : V, dec xs = (0, some t) ∧ xs = t.enc ∧ t.right ∧ ((∃ c : Int, c ≠ 0 ∧ pathDec ps = (c, none) ∧ askPath xs ps F = (c, none)) ∨
    ∃ s : V, s.right ∧ ps = s.enc ∧ s.kind = 5 ∧ s.kids.any badKid = false ∧ pathDec ps = (0, some s.kids) ∧ askPath xs ps F = F t s.kids) := by
  rcases dec_cases xs with ⟨t, ht⟩ | ⟨c, hc, hd⟩
  · obtain ⟨h1, h2⟩ := right_of_dec ht
    refine .inr ⟨t, ht, h1, h2, ?_⟩
    rcases pathDec_cases ps with ⟨s, h3, h4, h5, h6, h7, h8, h9⟩ | ⟨c, hc, hp⟩
    · exact .inr ⟨s, ⟨h4, h5, h6⟩, h3, h7, h8, h9, by unfold askPath; rw [ht, h9]⟩
    · exact .inl ⟨c, hc, hp, by unfold askPath; rw [ht, hp]⟩
  · exact .inl ⟨by rw [hd], by rw [hd]; exact hc, by unfold askPath; rw [hd]⟩
end Go.Proofs.YtfmnoljflcpbgaaGreatDoor
