/- Texts of this proof: F00 O07 O02. -/
import Derived.Test.YtfmnoljflcpbgaaGreatDoorKH03uO01
import Derived.Test.YtfmnoljflcpbgaaGreatDoorKR09uR10
import Derived.Test.YtfmnoljflcpbgaaGreatDoorCards
import Derived.Test.YtfmnoljflcpbgaaGreatDoorTie
import Derived.Lib.LaidTab
import Derived.LaidMore
import Derived.Stop.Joined
import Derived.SevenTiedAt
import Derived.Test.YtfmnoljflcpbgaaGreatDoorKA1
set_option linter.unusedSimpArgs false
set_option linter.unusedVariables false
set_option linter.unnecessarySimpa false
namespace Go.Proofs.YtfmnoljflcpbgaaGreatDoor
open Go.ChangeShapes Go.WideShapes Go.ChangeAt Go.RowKit Go.Deep

theorem Tryz.own : ownKnob Tryz.prog.godebug = none := by kernel_rfl
theorem Tryz.laidOut : laidOutB Tryz.prog = true := by kernel_rfl

end Go.Proofs.YtfmnoljflcpbgaaGreatDoor

/- What a law beside laid tables of numbers needs: the settled world with the tables laid; that arguments do not lie where a table lies. -/
namespace Go.Proofs.YtfmnoljflcpbgaaGreatDoor
open Go.ChangeShapes Go.WideShapes Go.ChangeAt Go.RowKit Go.Deep
def cellsOfL : DataW Unit → Array Value
  | .agg l => (l.map fun | .lit (.int k z) => Value.int k z | _ => .bool false).toArray
  | _ => #[]
def layL (d : DataW Unit) : Obj → Obj
  | .cells _ t fz => .cells (cellsOfL d) t fz
  | o => o
/-- The settled world with the tables laid. -/
noncomputable def laidWorldL (os : Os) : World :=
  { World.holding Tryz.prog os ⟨#[], #[], []⟩ with heap := (((World.holding Tryz.prog os ⟨#[], #[], []⟩).heap.modify 2 (layL Rows.laid_math_bits_deBruijn32tab)).modify 3 (layL Rows.laid_math_bits_deBruijn64tab)).modify 0 (layL Rows.laid_internal_strconv_uint64pow10) }
abbrev laidL : List (String × DataW Unit) := [("math/bits.deBruijn32tab", Rows.laid_math_bits_deBruijn32tab), ("math/bits.deBruijn64tab", Rows.laid_math_bits_deBruijn64tab), ("internal/strconv.uint64pow10", Rows.laid_internal_strconv_uint64pow10)]
theorem laidL_met (os : Os) (args : Array Value) : laidMetH Tryz.prog laidL ((laidWorldL os).forCall (fun _ _ => 0) ⟨#[], args, []⟩).memory :=
  show laidMet Tryz.prog laidL _ from laidMet_of_run' 8 (by kernel_rfl) (by kernel_rfl)
theorem gPowL : Tryz.prog.globalNamed "internal/strconv.uint64pow10" = some 0 := by kernel_rfl
theorem tPowL : (Tryz.prog.globals[0]?).map (·.type) = some 245 := by kernel_rfl
theorem powDL : (Rows.laid_internal_strconv_uint64pow10 : DataW Unit) = Lib.tabData .u64 Lib.pow10Tab := by kernel_rfl
theorem powL_of {W : World} (h : laidMetH Tryz.prog laidL W) : Lib.TabIs Tryz.prog W "internal/strconv.uint64pow10" .u64 Lib.pow10Tab := by
  have h' : laidMet Tryz.prog laidL W := h
  obtain ⟨ps, ⟨g0, t0, cs0, f0, p0, q0, hg0, ht0, hv0, hd0, ⟨g1, t1, cs1, f1, p1, q1, hg1, ht1, hv1, hd1, ⟨g2, t2, cs2, f2, p2, q2, hg2, ht2, hv2, hd2, _, _⟩, _⟩, _⟩, _, _⟩ := h'
  obtain rfl := Option.some.inj (gPowL.symm.trans hg2)
  obtain rfl := Option.some.inj (tPowL.symm.trans ht2)
  rw [powDL] at hd2
  unfold Lib.TabIs
  rw [hv2, ← Lib.cells_of_tab Tryz.underlying245 Tryz.underlying201 (by kernel_rfl) (by kernel_rfl) hd2]
/- Data of which no cell is such a number. -/
mutual
def C.offT : C → Bool
  | .int k _ => k != .u64
  | .bool _ => true
  | .str _ => true
  | .sl rows => offTss rows
  | _ => false
def offTs : List C → Bool
  | [] => true
  | c :: cs => c.offT && offTs cs
def offTss : List (List C) → Bool
  | [] => true
  | r :: rs => !r.isEmpty && offTs r && offTss rs
end
section
variable {w : World} {S : Nat → Prop} {g : Nat}
theorem CR.noT {x : C} {v : Value} {bs : List Nat} (hx : x.offT = true) (h : CR w S x v bs) : ∀ z, v ≠ .int .u64 z := by
  rintro z rfl
  cases x <;> simp only [CR] at h <;> simp [C.offT] at hx
  case int k n => obtain ⟨h, _⟩ := h; injection h with h1 _; exact hx h1.symm
  case bool => exact absurd h.1 (by simp)
  case str => exact absurd h.1 (by simp)
  case sl => obtain ⟨es, A, cap, vrows, h1, _⟩ := h; cases h1
theorem tab_block (hg : Tryz.prog.globalNamed "internal/strconv.uint64pow10" = some g) (ht : Lib.TabIs Tryz.prog w "internal/strconv.uint64pow10" .u64 Lib.pow10Tab) {j : Nat} {u : Value} (h : w.cell? ⟨g, j, none⟩ = some u) : ∃ z, u = .int .u64 z := by
  unfold Lib.TabIs at ht
  have h1 := World.var?_cell hg ht j
  rw [h] at h1
  rw [List.getElem?_toArray, List.getElem?_map] at h1
  cases hq : Lib.pow10Tab[j]? with
  | none => rw [hq] at h1; cases h1
  | some z => rw [hq] at h1; simp at h1; exact ⟨_, h1⟩
theorem Row.off (hg : Tryz.prog.globalNamed "internal/strconv.uint64pow10" = some g) (ht : Lib.TabIs Tryz.prog w "internal/strconv.uint64pow10" .u64 Lib.pow10Tab) {es : Nat} {A : Option Addr} {xs : List (List Value)} (h : Row w S es A xs)
    (h0 : 0 < xs.length → ∃ u r, xs[0]? = some (u :: r) ∧ ∀ z, u ≠ .int .u64 z) : Row w (fun b => S b ∧ b ≠ g) es A xs := by
  refine ⟨h.1, fun hn => ?_⟩
  obtain ⟨b, off, hA, hS, hb, hc⟩ := h.2 hn
  refine ⟨b, off, hA, ⟨hS, ?_⟩, hb, hc⟩
  rintro rfl
  obtain ⟨u, r, h1, h2⟩ := h0 hn
  have := hc 0 _ h1 0 u rfl
  obtain ⟨z, hz⟩ := tab_block hg ht this
  exact h2 z hz
mutual
theorem CR.off (hg : Tryz.prog.globalNamed "internal/strconv.uint64pow10" = some g) (ht : Lib.TabIs Tryz.prog w "internal/strconv.uint64pow10" .u64 Lib.pow10Tab) : ∀ {x : C} {v : Value} {bs : List Nat}, x.offT = true → CR w S x v bs → CR w (fun b => S b ∧ b ≠ g) x v bs
  | .int _ _, _, _, _, h => h
  | .bool _, _, _, _, h => h
  | .str _, _, _, _, h => h
  | .raw _, _, _, hx, _ => by simp [C.offT] at hx
  | .osl _, _, _, hx, _ => by simp [C.offT] at hx
  | .ref _, _, _, hx, _ => by simp [C.offT] at hx
  | .oref _, _, _, hx, _ => by simp [C.offT] at hx
  | .sl rows, v, bs, hx, h => by
    simp only [CR] at h ⊢
    simp only [C.offT] at hx
    obtain ⟨es, A, cap, vrows, h1, h2, h3, h4, h5, h6⟩ := h
    refine ⟨es, A, cap, vrows, h1, h2, h3, Row.off hg ht h4 fun hn => ?_, CRss.off hg ht hx h5, h6⟩
    cases rows with
    | nil => simp only [CRss] at h5; rw [h5.1] at hn; simp at hn
    | cons r rs =>
      simp only [offTss, Bool.and_eq_true] at hx
      cases r with
      | nil => simp at hx
      | cons c cs =>
        simp only [CRss, CRs] at h5
        obtain ⟨vr, vs', b1, b2, rfl, _, ⟨u, us, c1, c2, rfl, _, hu, _⟩, _⟩ := h5
        simp only [offTs, Bool.and_eq_true] at hx
        exact ⟨u, us, rfl, CR.noT hx.1.2.1 hu⟩
theorem CRs.off (hg : Tryz.prog.globalNamed "internal/strconv.uint64pow10" = some g) (ht : Lib.TabIs Tryz.prog w "internal/strconv.uint64pow10" .u64 Lib.pow10Tab) : ∀ {x : List C} {v : List Value} {bs : List Nat}, offTs x = true → CRs w S x v bs → CRs w (fun b => S b ∧ b ≠ g) x v bs
  | [], _, _, _, h => h
  | c :: cs, v, bs, hx, h => by
    simp only [CRs] at h ⊢
    simp only [offTs, Bool.and_eq_true] at hx
    obtain ⟨u, vs', b1, b2, h1, h2, h3, h4⟩ := h
    exact ⟨u, vs', b1, b2, h1, h2, CR.off hg ht hx.1 h3, CRs.off hg ht hx.2 h4⟩
theorem CRss.off (hg : Tryz.prog.globalNamed "internal/strconv.uint64pow10" = some g) (ht : Lib.TabIs Tryz.prog w "internal/strconv.uint64pow10" .u64 Lib.pow10Tab) : ∀ {x : List (List C)} {v : List (List Value)} {bs : List Nat}, offTss x = true → CRss w S x v bs → CRss w (fun b => S b ∧ b ≠ g) x v bs
  | [], _, _, _, h => h
  | c :: cs, v, bs, hx, h => by
    simp only [CRss] at h ⊢
    simp only [offTss, Bool.and_eq_true] at hx
    obtain ⟨u, vs', b1, b2, h1, h2, h3, h4⟩ := h
    exact ⟨u, vs', b1, b2, h1, h2, CRs.off hg ht hx.1.2 h3, CRss.off hg ht hx.2 h4⟩
end
end
theorem pow_block {w : World} (ht : Lib.TabIs Tryz.prog w "internal/strconv.uint64pow10" .u64 Lib.pow10Tab) : ∃ o, w.heap[0]? = some o := by
  unfold Lib.TabIs World.var? at ht
  rw [gPowL] at ht
  simp only [Option.bind_some] at ht
  cases ho : w.heap[0]? with
  | none => rw [ho] at ht; cases ht
  | some o => exact ⟨o, rfl⟩
end Go.Proofs.YtfmnoljflcpbgaaGreatDoor

/- An argument that is a slice of edits, opened. -/
namespace Go.Proofs.YtfmnoljflcpbgaaGreatDoor
open Go.ChangeShapes Go.WideShapes Go.ChangeAt Go.RowKit Go.Deep

section
variable {H : Type} {enc : TypeId × Value → H} {P : Program} {w : World} {base : Nat} {spare : Nat → Bool} {held : Bool}
theorem open_cellV {t e tI tS : TypeId} {n0 n1 n2 n3 n4 : Field} {fuel : Nat} {v : Value} {x : DataW H × List MemPlace} (ht : P.underlying t = some (.slice e)) (he : P.underlying e = some (.struct #[n0, n1, n2, n3, n4]))
    (hone : oneCellFields P #[n0, n1, n2, n3, n4] = true) (hC : P.cellsOf e = 5) (h0 : n0.type = tI) (h1 : n1.type = tI) (h2 : n2.type = tS) (h3 : n3.type = tS) (h4 : n4.type = tI)
    (hI : P.underlying tI = some (.int .i64)) (hS : P.underlying tS = some .string)
    (h : DataW.trod enc P w base spare held fuel t [v] = some x) :
    ∃ (A : Option Addr) (c : Nat) (xs : List CellD), v = .slice A xs.length c ∧ xs.length ≤ 9223372036854775807 ∧ xs.length ≤ c ∧ (∀ c ∈ xs, c.text.size ≤ 9223372036854775807 ∧ c.key.size ≤ 9223372036854775807) ∧ Cells w (fun b => b < w.heap.size) A xs := by
  rcases open_slice_fields ht he hone hC h with ⟨hcs, _⟩ | ⟨a, len', cap', m, D, Pl, hcs, _⟩
  · simp only [List.cons.injEq, and_true] at hcs
    subst hcs
    obtain ⟨xs, hl, h5, h6, h7, h8⟩ := open_cellS ht he hone hC h0 h1 h2 h3 h4 hI hS h
    exact ⟨none, 0, xs, by rw [hl], by omega, by omega, h7, h8⟩
  · simp only [List.cons.injEq, and_true] at hcs
    subst hcs
    obtain ⟨xs, hl, h5, h6, h7, h8⟩ := open_cellS ht he hone hC h0 h1 h2 h3 h4 hI hS h
    exact ⟨some a, cap', xs, by rw [hl], by omega, by omega, h7, h8⟩

theorem open_editS {t e tc ec tI tS : TypeId} {f0 f1 f2 n0 n1 n2 n3 n4 : Field} {fuel len cap : Nat} {A : Option Addr} {x : DataW H × List MemPlace} (ht : P.underlying t = some (.slice e)) (he : P.underlying e = some (.struct #[f0, f1, f2]))
    (hone : oneCellFields P #[f0, f1, f2] = true) (hC : P.cellsOf e = 3) (g0 : f0.type = tI) (g1 : f1.type = tc) (g2 : f2.type = tc)
    (htc : P.underlying tc = some (.slice ec)) (hec : P.underlying ec = some (.struct #[n0, n1, n2, n3, n4]))
    (honec : oneCellFields P #[n0, n1, n2, n3, n4] = true) (hCc : P.cellsOf ec = 5) (h0 : n0.type = tI) (h1 : n1.type = tI) (h2 : n2.type = tS) (h3 : n3.type = tS) (h4 : n4.type = tI)
    (hI : P.underlying tI = some (.int .i64)) (hS : P.underlying tS = some .string)
    (h : DataW.trod enc P w base spare held fuel t [.slice A len cap] = some x) :
    ∃ l : List EditD, l.length = len ∧ len ≤ 9223372036854775807 ∧ len ≤ cap ∧ (∀ d ∈ l, EditOk d) ∧ Edits w (fun b => b < w.heap.size) A l := by
  rcases open_slice_fields ht he hone hC h with ⟨hcs, _⟩ | ⟨a, len', cap', m, D, Pl, hcs, _, hl, hm, hmm, _, hi⟩
  · simp only [List.cons.injEq, Value.slice.injEq, and_true] at hcs
    obtain ⟨rfl, rfl, rfl⟩ := hcs
    exact ⟨[], rfl, by omega, by omega, by simp, RowOf.nil⟩
  · simp only [List.cons.injEq, Value.slice.injEq, and_true] at hcs
    obtain ⟨rfl, rfl, rfl⟩ := hcs
    have hlm : len ≤ m := by rw [hmm]; split <;> omega
    have hmx : maxLen = 9223372036854775807 := rfl
    obtain ⟨l, hll, hx⟩ := list_of (p := fun i (d : EditD × List Value) => EditOk d.1 ∧ RE w (fun b => b < w.heap.size) d.1 d.2 ∧ ∀ j u, d.2[j]? = some u → w.cell? (a.add (i * 3 + j)) = some u) len (fun i hil => by
      obtain ⟨ys, n, _, _, _, hf⟩ := hi i (by omega)
      obtain ⟨v0, y0, c0, _, t0⟩ := hf 0 f0 rfl
      obtain ⟨v1, y1, c1, _, t1⟩ := hf 1 f1 rfl
      obtain ⟨v2, y2, c2, _, t2⟩ := hf 2 f2 rfl
      rw [g0] at t0; rw [g1] at t1; rw [g2] at t2
      obtain ⟨op, e0, _⟩ := DataW.trod_int hI t0
      simp only [List.cons.injEq, and_true] at e0
      subst e0
      obtain ⟨Ap, cp, ps, rfl, p1, p2, p3, p4⟩ := open_cellV htc hec honec hCc h0 h1 h2 h3 h4 hI hS t1
      obtain ⟨Ax, cx, xs, rfl, x1, x2, x3, x4⟩ := open_cellV htc hec honec hCc h0 h1 h2 h3 h4 hI hS t2
      refine ⟨(⟨op, ps, xs⟩, [.int .i64 op, .slice Ap ps.length cp, .slice Ax xs.length cx]), ⟨p3, x3, p1, x1⟩, ⟨Ap, cp, Ax, cx, rfl, p2, x2, p4, x4⟩, fun j u hu => ?_⟩
      match j with
      | 0 => simp only [List.getElem?_cons_zero, Option.some.injEq] at hu; subst hu; exact c0
      | 1 => simp only [List.getElem?_cons_succ, List.getElem?_cons_zero, Option.some.injEq] at hu; subst hu; exact c1
      | 2 => simp only [List.getElem?_cons_succ, List.getElem?_cons_zero, Option.some.injEq] at hu; subst hu; exact c2
      | j + 3 => simp at hu)
    refine ⟨l.map (·.1), by simp [hll], by omega, hl, fun d hd => ?_, l.map (·.2), by simp, ⟨fun x hx' => ?_, fun hn => ?_⟩, fun i hi' row hr => ?_⟩
    · simp only [List.mem_map] at hd
      obtain ⟨y, hy, rfl⟩ := hd
      obtain ⟨i, hi', rfl⟩ := List.getElem_of_mem hy
      exact (hx i hi').1
    · simp only [List.mem_map] at hx'
      obtain ⟨y, hy, rfl⟩ := hx'
      obtain ⟨i, hi', rfl⟩ := List.getElem_of_mem hy
      exact okE.len (hx i hi').2.1
    · simp only [List.length_map] at hn
      obtain ⟨_, ⟨_, _, _, _, hrow, _⟩, hc0⟩ := hx 0 hn
      have hfirst := hc0 0 _ (by rw [hrow]; rfl)
      simp only [Nat.zero_mul, Nat.zero_add] at hfirst
      have hadd0 : a.add 0 = a := by unfold Addr.add; simp
      rw [hadd0] at hfirst
      obtain ⟨ab, ao, asp⟩ := a
      have hsp : asp = none := by
        unfold World.cell? at hfirst
        simp only at hfirst
        split at hfirst
        · split at hfirst
          · simp at hfirst
          · rename_i hns; simpa using hns
        · simp at hfirst
      subst hsp
      refine ⟨ab, ao, rfl, World.block_lt_of_cell? w _ hfirst, World.block_lt_of_cell? w _ hfirst, fun i x hxi j u hu => ?_⟩
      simp only [List.getElem?_map] at hxi
      by_cases hil : i < l.length
      · rw [List.getElem?_eq_getElem hil] at hxi
        simp only [Option.map_some, Option.some.injEq] at hxi
        subst hxi
        have := (hx i hil).2.2 j u hu
        have hadd : (⟨ab, ao, none⟩ : Addr).add (i * 3 + j) = ⟨ab, ao + i * 3 + j, none⟩ := by
          unfold Addr.add
          split
          · rename_i h0
            have hi0 : i = 0 := by omega
            subst hi0
            simp
          · simp [Nat.add_assoc]
        rw [hadd] at this
        exact this
      · rw [List.getElem?_eq_none (by omega)] at hxi
        simp at hxi
    · simp only [List.length_map] at hi'
      rw [List.getElem?_map, List.getElem?_eq_getElem hi'] at hr
      simp only [Option.map_some, Option.some.injEq] at hr
      subst hr
      simp only [List.getElem_map]
      exact (hx i hi').2.1
end
end Go.Proofs.YtfmnoljflcpbgaaGreatDoor
