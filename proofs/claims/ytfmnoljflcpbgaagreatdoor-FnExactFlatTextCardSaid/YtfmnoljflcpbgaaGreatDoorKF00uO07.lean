/- Texts of this proof: F00 O07. -/
import Derived.Test.YtfmnoljflcpbgaaGreatDoorKO01
import Derived.Test.YtfmnoljflcpbgaaGreatDoorKR09
import Derived.Test.YtfmnoljflcpbgaaGreatDoorCards
import Derived.Test.YtfmnoljflcpbgaaGreatDoorTie
import Derived.Lib.LaidTab
import Derived.LaidMore
import Derived.Stop.Joined
import Derived.SevenTiedAt
set_option linter.unusedSimpArgs false
set_option linter.unusedVariables false
set_option linter.unnecessarySimpa false
namespace Go.Proofs.YtfmnoljflcpbgaaGreatDoor
open Go.ChangeShapes Go.WideShapes Go.ChangeAt Go.RowKit Go.Deep

theorem Tryz.own : ownKnob Tryz.prog.godebug = none := by kernel_rfl
theorem Tryz.laidOut : laidOutB Tryz.prog = true := by kernel_rfl

end Go.Proofs.YtfmnoljflcpbgaaGreatDoor

/- What a law beside laid tables of numbers needs: the settled world with the tables laid; that arguments do not lie where a table lies. -/
namespace Go.Proofs.YtfmnoljflcpbgaaGreatDoor
open Go.ChangeShapes Go.WideShapes Go.ChangeAt Go.RowKit Go.Deep
def cellsOfL : DataW Unit → Array Value
  | .agg l => (l.map fun | .lit (.int k z) => Value.int k z | _ => .bool false).toArray
  | _ => #[]
def layL (d : DataW Unit) : Obj → Obj
  | .cells _ t fz => .cells (cellsOfL d) t fz
  | o => o
/-- The settled world with the tables laid. -/
noncomputable def laidWorldL (os : Os) : World :=
  { World.holding Tryz.prog os ⟨#[], #[], []⟩ with heap := (((World.holding Tryz.prog os ⟨#[], #[], []⟩).heap.modify 2 (layL Rows.laid_math_bits_deBruijn32tab)).modify 3 (layL Rows.laid_math_bits_deBruijn64tab)).modify 0 (layL Rows.laid_internal_strconv_uint64pow10) }
abbrev laidL : List (String × DataW Unit) := [("math/bits.deBruijn32tab", Rows.laid_math_bits_deBruijn32tab), ("math/bits.deBruijn64tab", Rows.laid_math_bits_deBruijn64tab), ("internal/strconv.uint64pow10", Rows.laid_internal_strconv_uint64pow10)]
theorem laidL_met (os : Os) (args : Array Value) : laidMetH Tryz.prog laidL ((laidWorldL os).forCall (fun _ _ => 0) ⟨#[], args, []⟩).memory :=
  show laidMet Tryz.prog laidL _ from laidMet_of_run' 8 (by kernel_rfl) (by kernel_rfl)
theorem gPowL : Tryz.prog.globalNamed "internal/strconv.uint64pow10" = some 0 := by kernel_rfl
theorem tPowL : (Tryz.prog.globals[0]?).map (·.type) = some 245 := by kernel_rfl
theorem powDL : (Rows.laid_internal_strconv_uint64pow10 : DataW Unit) = Lib.tabData .u64 Lib.pow10Tab := by kernel_rfl
theorem powL_of {W : World} (h : laidMetH Tryz.prog laidL W) : Lib.TabIs Tryz.prog W "internal/strconv.uint64pow10" .u64 Lib.pow10Tab := by
  have h' : laidMet Tryz.prog laidL W := h
  obtain ⟨ps, ⟨g0, t0, cs0, f0, p0, q0, hg0, ht0, hv0, hd0, ⟨g1, t1, cs1, f1, p1, q1, hg1, ht1, hv1, hd1, ⟨g2, t2, cs2, f2, p2, q2, hg2, ht2, hv2, hd2, _, _⟩, _⟩, _⟩, _, _⟩ := h'
  obtain rfl := Option.some.inj (gPowL.symm.trans hg2)
  obtain rfl := Option.some.inj (tPowL.symm.trans ht2)
  rw [powDL] at hd2
  unfold Lib.TabIs
  rw [hv2, ← Lib.cells_of_tab Tryz.underlying245 Tryz.underlying201 (by kernel_rfl) (by kernel_rfl) hd2]
/- Data of which no cell is such a number. -/
mutual
def C.offT : C → Bool
  | .int k _ => k != .u64
  | .bool _ => true
  | .str _ => true
  | .sl rows => offTss rows
  | _ => false
def offTs : List C → Bool
  | [] => true
  | c :: cs => c.offT && offTs cs
def offTss : List (List C) → Bool
  | [] => true
  | r :: rs => !r.isEmpty && offTs r && offTss rs
end
section
variable {w : World} {S : Nat → Prop} {g : Nat}
theorem CR.noT {x : C} {v : Value} {bs : List Nat} (hx : x.offT = true) (h : CR w S x v bs) : ∀ z, v ≠ .int .u64 z := by
  rintro z rfl
  cases x <;> simp only [CR] at h <;> simp [C.offT] at hx
  case int k n => obtain ⟨h, _⟩ := h; injection h with h1 _; exact hx h1.symm
  case bool => exact absurd h.1 (by simp)
  case str => exact absurd h.1 (by simp)
  case sl => obtain ⟨es, A, cap, vrows, h1, _⟩ := h; cases h1
theorem tab_block (hg : Tryz.prog.globalNamed "internal/strconv.uint64pow10" = some g) (ht : Lib.TabIs Tryz.prog w "internal/strconv.uint64pow10" .u64 Lib.pow10Tab) {j : Nat} {u : Value} (h : w.cell? ⟨g, j, none⟩ = some u) : ∃ z, u = .int .u64 z := by
  unfold Lib.TabIs at ht
  have h1 := World.var?_cell hg ht j
  rw [h] at h1
  rw [List.getElem?_toArray, List.getElem?_map] at h1
  cases hq : Lib.pow10Tab[j]? with
  | none => rw [hq] at h1; cases h1
  | some z => rw [hq] at h1; simp at h1; exact ⟨_, h1⟩
theorem Row.off (hg : Tryz.prog.globalNamed "internal/strconv.uint64pow10" = some g) (ht : Lib.TabIs Tryz.prog w "internal/strconv.uint64pow10" .u64 Lib.pow10Tab) {es : Nat} {A : Option Addr} {xs : List (List Value)} (h : Row w S es A xs)
    (h0 : 0 < xs.length → ∃ u r, xs[0]? = some (u :: r) ∧ ∀ z, u ≠ .int .u64 z) : Row w (fun b => S b ∧ b ≠ g) es A xs := by
  refine ⟨h.1, fun hn => ?_⟩
  obtain ⟨b, off, hA, hS, hb, hc⟩ := h.2 hn
  refine ⟨b, off, hA, ⟨hS, ?_⟩, hb, hc⟩
  rintro rfl
  obtain ⟨u, r, h1, h2⟩ := h0 hn
  have := hc 0 _ h1 0 u rfl
  obtain ⟨z, hz⟩ := tab_block hg ht this
  exact h2 z hz
mutual
theorem CR.off (hg : Tryz.prog.globalNamed "internal/strconv.uint64pow10" = some g) (ht : Lib.TabIs Tryz.prog w "internal/strconv.uint64pow10" .u64 Lib.pow10Tab) : ∀ {x : C} {v : Value} {bs : List Nat}, x.offT = true → CR w S x v bs → CR w (fun b => S b ∧ b ≠ g) x v bs
  | .int _ _, _, _, _, h => h
  | .bool _, _, _, _, h => h
  | .str _, _, _, _, h => h
  | .raw _, _, _, hx, _ => by simp [C.offT] at hx
  | .osl _, _, _, hx, _ => by simp [C.offT] at hx
  | .ref _, _, _, hx, _ => by simp [C.offT] at hx
  | .oref _, _, _, hx, _ => by simp [C.offT] at hx
  | .sl rows, v, bs, hx, h => by
    simp only [CR] at h ⊢
    simp only [C.offT] at hx
    obtain ⟨es, A, cap, vrows, h1, h2, h3, h4, h5, h6⟩ := h
    refine ⟨es, A, cap, vrows, h1, h2, h3, Row.off hg ht h4 fun hn => ?_, CRss.off hg ht hx h5, h6⟩
    cases rows with
    | nil => simp only [CRss] at h5; rw [h5.1] at hn; simp at hn
    | cons r rs =>
      simp only [offTss, Bool.and_eq_true] at hx
      cases r with
      | nil => simp at hx
      | cons c cs =>
        simp only [CRss, CRs] at h5
        obtain ⟨vr, vs', b1, b2, rfl, _, ⟨u, us, c1, c2, rfl, _, hu, _⟩, _⟩ := h5
        simp only [offTs, Bool.and_eq_true] at hx
        exact ⟨u, us, rfl, CR.noT hx.1.2.1 hu⟩
theorem CRs.off (hg : Tryz.prog.globalNamed "internal/strconv.uint64pow10" = some g) (ht : Lib.TabIs Tryz.prog w "internal/strconv.uint64pow10" .u64 Lib.pow10Tab) : ∀ {x : List C} {v : List Value} {bs : List Nat}, offTs x = true → CRs w S x v bs → CRs w (fun b => S b ∧ b ≠ g) x v bs
  | [], _, _, _, h => h
  | c :: cs, v, bs, hx, h => by
    simp only [CRs] at h ⊢
    simp only [offTs, Bool.and_eq_true] at hx
    obtain ⟨u, vs', b1, b2, h1, h2, h3, h4⟩ := h
    exact ⟨u, vs', b1, b2, h1, h2, CR.off hg ht hx.1 h3, CRs.off hg ht hx.2 h4⟩
theorem CRss.off (hg : Tryz.prog.globalNamed "internal/strconv.uint64pow10" = some g) (ht : Lib.TabIs Tryz.prog w "internal/strconv.uint64pow10" .u64 Lib.pow10Tab) : ∀ {x : List (List C)} {v : List (List Value)} {bs : List Nat}, offTss x = true → CRss w S x v bs → CRss w (fun b => S b ∧ b ≠ g) x v bs
  | [], _, _, _, h => h
  | c :: cs, v, bs, hx, h => by
    simp only [CRss] at h ⊢
    simp only [offTss, Bool.and_eq_true] at hx
    obtain ⟨u, vs', b1, b2, h1, h2, h3, h4⟩ := h
    exact ⟨u, vs', b1, b2, h1, h2, CRs.off hg ht hx.1.2 h3, CRss.off hg ht hx.2 h4⟩
end
end
theorem off_cells : ∀ l : List CellD, (C.sl (l.map CellD.cs)).offT = true
  | [] => rfl
  | c :: l => by
    have h := off_cells l
    simp only [C.offT] at h
    simp only [C.offT, List.map_cons, offTss, h, CellD.cs, offTs]
    rfl
theorem pow_block {w : World} (ht : Lib.TabIs Tryz.prog w "internal/strconv.uint64pow10" .u64 Lib.pow10Tab) : ∃ o, w.heap[0]? = some o := by
  unfold Lib.TabIs World.var? at ht
  rw [gPowL] at ht
  simp only [Option.bind_some] at ht
  cases ho : w.heap[0]? with
  | none => rw [ho] at ht; cases ht
  | some o => exact ⟨o, rfl⟩
end Go.Proofs.YtfmnoljflcpbgaaGreatDoor
