/- Old contracts as the engine's: cells and trees in memory are the engine's data; impl.valOf. -/
import Derived.Test.YtfmnoljflcpbgaaGreatDoorKG03
import Derived.Test.YtfmnoljflcpbgaaGreatDoorKB3
set_option linter.unusedSimpArgs false
set_option linter.unusedVariables false
set_option linter.unnecessarySimpa false
namespace Go.Proofs.YtfmnoljflcpbgaaGreatDoor
open Go.RowKit

section
variable {w : World} {S : Nat → Prop}
theorem crs_cell {c : CellD} {v : List Value} {bs : List Nat} : CRs w S c.cs v bs ↔ v = vals c ∧ bs = [] := by
  simp only [CellD.cs, CRs, CR, vals]
  constructor
  · rintro ⟨_, _, _, _, rfl, rfl, ⟨rfl, rfl⟩, _, _, _, _, rfl, rfl, ⟨rfl, rfl⟩, _, _, _, _, rfl, rfl, ⟨rfl, rfl⟩, _, _, _, _, rfl, rfl, ⟨rfl, rfl⟩, _, _, _, _, rfl, rfl, ⟨rfl, rfl⟩, rfl, rfl⟩
    exact ⟨rfl, rfl⟩
  · rintro ⟨rfl, rfl⟩
    exact ⟨_, _, [], [], rfl, rfl, ⟨rfl, rfl⟩, _, _, [], [], rfl, rfl, ⟨rfl, rfl⟩, _, _, [], [], rfl, rfl, ⟨rfl, rfl⟩, _, _, [], [], rfl, rfl, ⟨rfl, rfl⟩, _, _, [], [], rfl, rfl, ⟨rfl, rfl⟩, rfl, rfl⟩
theorem crss_map {α : Type} {f : α → List C} {g : α → List Value} (hf : ∀ {x v bs}, CRs w S (f x) v bs ↔ v = g x ∧ bs = []) : ∀ {l : List α} {vs : List (List Value)} {bs : List Nat}, CRss w S (l.map f) vs bs ↔ vs = l.map g ∧ bs = []
  | [], vs, bs => by simp [CRss]
  | x :: l, vs, bs => by
    simp only [List.map_cons, CRss]
    constructor
    · rintro ⟨v, vs', b1, b2, rfl, rfl, h1, h2⟩
      obtain ⟨rfl, rfl⟩ := hf.1 h1
      obtain ⟨rfl, rfl⟩ := (crss_map hf).1 h2
      exact ⟨rfl, rfl⟩
    · rintro ⟨rfl, rfl⟩
      exact ⟨_, _, [], [], rfl, rfl, hf.2 ⟨rfl, rfl⟩, (crss_map hf).2 ⟨rfl, rfl⟩⟩
theorem Row.resize {es n : Nat} {A : Option Addr} {xs : List (List Value)} (h : Row w S es A xs) (hl : ∀ x ∈ xs, x.length = n) : Row w S n A xs := by
  cases xs with
  | nil => exact Row.nil
  | cons x xs =>
    have h1 := h.1 x (by simp)
    have h2 := hl x (by simp)
    rw [← h2, h1]
    exact h
theorem cr_rows {α : Type} {f : α → List C} {g : α → List Value} {n : Nat} (hf : ∀ {x v bs}, CRs w S (f x) v bs ↔ v = g x ∧ bs = []) (hg : ∀ x, (g x).length = n) {l : List α} {v : Value} :
    CR w S (.sl (l.map f)) v [] ↔ ∃ A cap, v = .slice A l.length cap ∧ l.length ≤ cap ∧ Row w S n A (l.map g) := by
  simp only [CR]
  constructor
  · rintro ⟨es, A, cap, vrows, rfl, h2, _, h4, h5, _⟩
    obtain ⟨rfl, _⟩ := (crss_map hf).1 h5
    rw [List.length_map] at h2 ⊢
    exact ⟨A, cap, rfl, h2, h4.resize (by simp [hg])⟩
  · rintro ⟨A, cap, rfl, h2, h4⟩
    exact ⟨n, A, cap, l.map g, by rw [List.length_map], by rw [List.length_map]; exact h2, trivial, h4, (crss_map hf).2 ⟨rfl, rfl⟩, trivial⟩
theorem vals_len (c : CellD) : (vals c).length = 5 := rfl
theorem cr_cells {xs : List CellD} {v : Value} : CR w S (.sl (xs.map CellD.cs)) v [] ↔ ∃ A cap, v = .slice A xs.length cap ∧ xs.length ≤ cap ∧ Cells w S A xs := cr_rows crs_cell vals_len
theorem crs_str {s : ByteArray} {v : List Value} {bs : List Nat} : CRs w S (strCs s) v bs ↔ v = [.string s] ∧ bs = [] := by
  simp only [strCs, CRs, CR]
  constructor
  · rintro ⟨_, _, _, _, rfl, rfl, ⟨rfl, rfl⟩, rfl, rfl⟩
    exact ⟨rfl, rfl⟩
  · rintro ⟨rfl, rfl⟩
    exact ⟨_, _, [], [], rfl, rfl, ⟨rfl, rfl⟩, rfl, rfl⟩
theorem cr_strs {xs : List ByteArray} {v : Value} : CR w S (.sl (xs.map strCs)) v [] ↔ ∃ A cap, v = .slice A xs.length cap ∧ xs.length ≤ cap ∧ Strs w S A xs := cr_rows (f := strCs) (g := fun k => [.string k]) (n := 1) crs_str fun _ => rfl
mutual
theorem crs_tree : ∀ {t : V} {vs : List Value}, VRep w S t vs → CRs w S t.cs vs []
  | .mk kind num text keys kids, vs, h => by
    simp only [VRep] at h
    obtain ⟨Ak, ck, Av, cv, kvs, rfl, h2, h3, h4, h5, h6⟩ := h
    have h7 := crss_trees h6
    have hl := h7.length
    simp only [csL_eq, List.length_map] at hl
    simp only [V.cs, CRs]
    refine ⟨_, _, [], [], rfl, rfl, ⟨rfl, rfl⟩, _, _, [], [], rfl, rfl, ⟨rfl, rfl⟩, _, _, [], [], rfl, rfl, ⟨rfl, rfl⟩, _, _, [], [], rfl, rfl, cr_strs.2 ⟨_, _, rfl, h2, h4⟩, _, _, [], [], rfl, rfl, ?_, rfl, rfl⟩
    simp only [CR]
    exact ⟨5, Av, cv, kvs, by rw [csL_eq, List.length_map], by rw [csL_eq, List.length_map]; exact h3, trivial, h5, h7, trivial⟩
theorem crss_trees : ∀ {ts : List V} {vs : List (List Value)}, VReps w S ts vs → CRss w S (csL ts) vs []
  | [], vs, h => by
    simp only [VReps] at h
    subst h
    exact ⟨rfl, rfl⟩
  | t :: ts, vs, h => by
    simp only [VReps] at h
    obtain ⟨v, vs', rfl, h1, h2⟩ := h
    exact ⟨_, _, [], [], rfl, rfl, crs_tree h1, crss_trees h2⟩
end
end
/-- Cells as values. -/
theorem ars_cells {w : World} {S : Nat → Prop} {m : Mem} {κ : Id → Value} : ∀ {xs : List C} {vs : List Value}, CRs w S xs vs [] → ARs w S m κ (xs.map .c) vs
  | [], vs, h => by
    simp only [CRs] at h
    exact h.1
  | x :: xs, vs, h => by
    simp only [CRs] at h
    obtain ⟨v, vs', b1, b2, rfl, h0, h1, h2⟩ := h
    have h3 : b1 = [] ∧ b2 = [] := by simpa using h0.symm
    obtain ⟨rfl, rfl⟩ := h3
    exact ⟨v, vs', rfl, h1, ars_cells h2⟩
theorem V.av_eq (t : V) : t.av = .agg (t.cs.map .c) := by rw [V.cs_eq]; rfl
theorem ar_tree {w : World} {S : Nat → Prop} {m : Mem} {κ : Id → Value} {t : V} {vs : List Value} (h : VRep w S t vs) : AR w S m κ t.av (.agg vs.toArray) := by
  rw [V.av_eq]
  refine ⟨vs, rfl, ars_cells (crs_tree h), ?_⟩
  intro u hu
  cases t
  simp only [VRep] at h
  obtain ⟨Ak, ck, Av, cv, kvs, rfl, _⟩ := h
  simp only [List.mem_cons, List.not_mem_nil, or_false] at hu
  rcases hu with rfl | rfl | rfl | rfl | rfl <;> rfl
/-- A contract of a function that is handed no object and makes none. -/
theorem AC.of_calls {P : Program} {f : FuncId} {args : List AV} {res : AV}
    (h : ∀ (S : Nat → Prop) (w : World) (κ : Id → Value) (vals : List Value), ARs w S [] κ args vals → Calls P f vals.toArray w fun e w' => Below w.heap.size w w' ∧ ∃ v, e = .returned v ∧ ∀ T : Nat → Prop, (∀ b, S b → T b) → (∀ b, w.heap.size ≤ b → T b) → AR w' T [] κ res v) : AC P f args [] res [] := by
  intro Γ vals hE hA
  have how : ∀ b, Γ.ow b = none := by
    intro b
    cases hb : Γ.ow b with
    | none => rfl
    | some i => obtain ⟨_, o, h1, _⟩ := hE.own b i hb; simp [Mem.get] at h1
  refine (h _ _ _ _ hA).mono ?_
  rintro e w' ⟨hb, v, rfl, hv⟩
  refine ⟨v, Γ.ow, Γ.κ, rfl, ⟨hv _ (fun _ h => h) (fun b hb => ⟨how b, .inr (.inl hb)⟩), fun i o h => (by simp [Mem.get] at h), fun b i h => (by rw [how b] at h; cases h), hb.os, hb.tape, hb.output, hb.size, fun b hl _ => ⟨hb.block b hl, how b⟩, fun i o o' h => (by simp [Mem.get] at h)⟩⟩
def noV : AV := .agg [.c (.int .i64 0), .c (.int .i64 0), .c (.str ByteArray.empty), .nils, .nils]
theorem noV_eq : noV = .agg [.c (.int .i64 0), .c (.int .i64 0), .c (.str ByteArray.empty), .nils, .nils] := rfl
theorem ar_noV {w : World} {S : Nat → Prop} {m : Mem} {κ : Id → Value} : AR w S m κ noV (.agg zero5) :=
  ⟨[.int .i64 0, .int .i64 0, .string ByteArray.empty, .slice none 0 0, .slice none 0 0], rfl, ⟨_, _, rfl, ⟨rfl, rfl⟩, _, _, rfl, ⟨rfl, rfl⟩, _, _, rfl, ⟨rfl, rfl⟩, _, _, rfl, rfl, _, _, rfl, rfl, rfl⟩, by
    intro u hu
    simp only [List.mem_cons, List.not_mem_nil, or_false] at hu
    rcases hu with rfl | rfl | rfl | rfl | rfl <;> rfl⟩
theorem valOf_bad (xs : List CellD) (hz : Sized xs) (hd : (dec xs).2 = none) : AC Tryz.prog 52 [cellsA xs] [] (.tup [noV, .c (.int .i64 (dec xs).1)]) [] := by
  refine AC.of_calls fun S w κ vs hv => ?_
  obtain ⟨v, vs', rfl, h1, rfl⟩ := hv
  obtain ⟨A, cap, rfl, _, hc⟩ := cr_cells.1 h1
  refine (valOf_any xs hz A cap S w hc).mono ?_
  rintro e w' ⟨hb, he⟩
  rw [hd] at he
  subst he
  exact ⟨hb, _, rfl, fun T _ _ => ⟨[_, _], rfl, _, _, rfl, ar_noV, _, _, rfl, ⟨rfl, rfl⟩, rfl⟩⟩
theorem valOf_ac (xs : List CellD) (hz : Sized xs) {t : V} (hd : (dec xs).2 = some t) : AC Tryz.prog 52 [cellsA xs] [] (.tup [t.av, .c (.int .i64 0)]) [] := by
  refine AC.of_calls fun S w κ vs hv => ?_
  obtain ⟨v, vs', rfl, h1, rfl⟩ := hv
  obtain ⟨A, cap, rfl, _, hc⟩ := cr_cells.1 h1
  refine (valOf_any xs hz A cap S w hc).mono ?_
  rintro e w' ⟨hb, he⟩
  rw [hd] at he
  obtain ⟨vs, rfl, hr⟩ := he
  exact ⟨hb, _, rfl, fun T _ hT => ⟨[_, _], rfl, _, _, rfl, ar_tree (hr.weaken fun b hb _ => hT b hb), _, _, rfl, ⟨rfl, rfl⟩, rfl⟩⟩
end Go.Proofs.YtfmnoljflcpbgaaGreatDoor
