/- The engine: a whole struct is read out of a row that may be written again; its nested rows are not looked at. -/
import Derived.Test.YtpaooephkpjkfaaKE6
set_option linter.unusedSimpArgs false
set_option linter.unusedVariables false
set_option linter.unnecessarySimpa false
namespace Go.Proofs.Ytpaooephkpjkfaa
open Go.RowKit
/-- What is seen of an element. -/
def peekC : C → AV
  | .osl _ => .undef
  | .oref _ => .undef
  | c => .c c
theorem CR.peek {w : World} {S : Nat → Prop} {m : Mem} {κ : Id → Value} {c : C} {u : Value} {b : List Nat} (h : CR w S c u b) : AR w S m κ (peekC c) u := by
  cases c with
  | osl rows => trivial
  | oref row => trivial
  | int k n => exact ⟨h.1, rfl⟩
  | bool x => exact ⟨h.1, rfl⟩
  | str s => exact ⟨h.1, rfl⟩
  | raw v => exact ⟨h.1, h.2.1, rfl⟩
  | sl rows =>
    obtain ⟨es, A, cap, vrows, h1, h2, h3, h4, h5, h6⟩ := h
    exact ⟨es, A, cap, vrows, h1, h2, h3, h4, h5, rfl⟩
  | ref row =>
    obtain ⟨A, vr, h1, h2, h3, h4⟩ := h
    exact ⟨A, vr, h1, h2, h3, rfl⟩
theorem CRs.peek {w : World} {S : Nat → Prop} {m : Mem} {κ : Id → Value} : ∀ {row : List C} {vr : List Value} {b : List Nat}, CRs w S row vr b → ARs w S m κ (row.map peekC) vr ∧ ∀ u ∈ vr, u.oneCell' = true
  | [], vr, b, h => by
    simp only [CRs] at h
    obtain ⟨rfl, _⟩ := h
    exact ⟨rfl, by simp⟩
  | c :: row, vr, b, h => by
    obtain ⟨u, vs', d1, d2, rfl, rfl, h1, h2⟩ := h
    obtain ⟨g1, g2⟩ := CRs.peek (m := m) (κ := κ) h2
    refine ⟨⟨u, vs', rfl, h1.peek, g1⟩, fun x hx => ?_⟩
    rcases List.mem_cons.1 hx with rfl | hx
    · exact h1.one
    · exact g2 x hx
section
variable {P : Program} {ops : Array Oper} {o : Oper} {σ τ : ASt}
theorem run_peekRow {ty : TypeId} {y : Operand} {i : Id} {es : Nat} {e : TypeId} {rows : List (List C)} {r : Nat} {row : List C} {ti : TI} {by' : Nat} {z : Option Value} (ho : o.op = .load ty y) (hy : σ.ev y = .rptr i es r 0) (ht : tin P ty = some ⟨ti, es, by', z⟩) (hg : ti.agg = some true)
    (hi : σ.mem.get i = some (.row true es e rows)) (hr : rows[r]? = some row) (hl : row.length = es) : OpRun P o σ ⟨[i], [], .agg (row.map peekC)⟩ := by
  refine OpRun.pure fun Γ σ' a w ow κ hag hrel => ?_
  have e1 := hrel.ev y
  rw [hag.1 y (by rw [ho]; simp [Op.operands]), hy] at e1
  have hi' : σ'.mem.get i = some (.row true es e rows) := by rw [hag.2.1 i (by simp), hi]
  obtain ⟨_, o1, k1, k2⟩ := e1
  rw [hi'] at k1
  cases k1
  obtain ⟨b, n, cap, k3, k4⟩ := k2 rfl
  obtain ⟨vrows, bs, h1, _, h3, h4, h5, h6⟩ := hrel.objs i _ hi'
  obtain ⟨vr, bb, m1, m2, m3⟩ := CRss.at_ h1 hr
  obtain ⟨p1, p2⟩ := CRs.peek (m := σ'.mem) (κ := κ) m2
  rw [k3] at h4
  have hcell := h4.cells (g := b) rfl
  obtain ⟨u, r1, r2⟩ := load_fin ht hg p1 p2 (off := 0) (v := .agg (row.map peekC)) (by
    unfold boxAV
    rw [if_pos (by rw [List.length_map]; omega), List.drop_zero, List.take_of_length_le (by rw [List.length_map]; omega)]) (b := b) (q := r * es) (fun j v hv => by
    have := hcell _ _ (flatten_get h3 r vr m1 j v hv)
    rwa [Addr.add_mid, Nat.zero_add] at this)
  refine ⟨u, ?_, r2⟩
  unfold execOp
  rw [ho]
  rw [Nat.add_zero] at r1 k4
  simp [Instr.loadAt, Instr.sureAddr, k4, r1]
theorem op_peekRow {d : Option Tmp} {r' : List Oper} {fs : List AEff} {K : ASt → List AEff → Prop} {E : AEff} {ty ty' : TypeId} {y : Operand} {pos : String} {af : Array Edge} {gd : Option (Nat × Bool)} {i : Id} {es : Nat} {e : TypeId} {rows : List (List C)} {r : Nat} {row : List C} {ti : TI} {by' : Nat} {z : Option Value}
    (hg : gate ops σ ⟨d, .load ty y, ty', pos, af, gd⟩ = some true) (hy : σ.ev y = .rptr i es r 0) (ht : tin P ty = some ⟨ti, es, by', z⟩) (hag : ti.agg = some true)
    (hi : σ.mem.get i = some (.row true es e rows)) (hr : rows[r]? = some row) (hl : row.length = es)
    (he : (⟨[i], [], .agg (row.map peekC)⟩ : AEff) = E) (hτ : σ.upd d E = τ) (h : awpOps P ops r' τ (fs ++ [E]) K) : awpOps P ops (⟨d, .load ty y, ty', pos, af, gd⟩ :: r') σ fs K := by
  subst he
  refine op_sound hg ?_ (run_peekRow rfl hy ht hag hi hr hl).sound hτ h
  simp [eff, effLoad, ht, hag, hy, hi]
theorem run_peek1 {ty : TypeId} {y : Operand} {i : Id} {es : Nat} {e : TypeId} {rows : List (List C)} {r off : Nat} {row : List C} {c : C} {ti : TI} {size by' : Nat} {z : Option Value} (ho : o.op = .load ty y) (hy : σ.ev y = .rptr i es r off) (ht : tin P ty = some ⟨ti, size, by', z⟩) (hg : ti.agg = some false)
    (hi : σ.mem.get i = some (.row true es e rows)) (hr : rows[r]? = some row) (hro : row[off]? = some c) : OpRun P o σ ⟨[i], [], peekC c⟩ := by
  refine OpRun.pure fun Γ σ' a w ow κ hag hrel => ?_
  have e1 := hrel.ev y
  rw [hag.1 y (by rw [ho]; simp [Op.operands]), hy] at e1
  have hi' : σ'.mem.get i = some (.row true es e rows) := by rw [hag.2.1 i (by simp), hi]
  obtain ⟨_, o1, k1, k2⟩ := e1
  rw [hi'] at k1
  cases k1
  obtain ⟨b, n, cap, k3, k4⟩ := k2 rfl
  obtain ⟨vrows, bs, h1, _, h3, h4, h5, h6⟩ := hrel.objs i _ hi'
  obtain ⟨vr, u, b1, b2, b3, g0, g1, rfl, g3, g4⟩ := CRss.split h1 hr hro
  have hcell : w.cell? ⟨b, r * es + off, none⟩ = some u := by
    rw [k3] at h4
    have := h4.cells (g := b) rfl _ _ (flatten_get h3 r vr g0 off u g1)
    rwa [Addr.add_mid, Nat.zero_add] at this
  refine ⟨u, ?_, g3.peek⟩
  obtain ⟨d, inf, t1, t2, t3⟩ := tin_some ht
  simp only [TIn.mk.injEq] at t3
  unfold execOp
  rw [ho]
  simp [Instr.loadAt, Instr.sureAddr, k4, loadVar, tin_agg (by rw [← t3.1]; exact hg) t1 w, hcell]
theorem op_peek1 {d : Option Tmp} {r' : List Oper} {fs : List AEff} {K : ASt → List AEff → Prop} {E : AEff} {ty ty' : TypeId} {y : Operand} {pos : String} {af : Array Edge} {gd : Option (Nat × Bool)} {i : Id} {es : Nat} {e : TypeId} {rows : List (List C)} {r off : Nat} {row : List C} {c : C} {ti : TI} {size by' : Nat} {z : Option Value}
    (hg : gate ops σ ⟨d, .load ty y, ty', pos, af, gd⟩ = some true) (hy : σ.ev y = .rptr i es r off) (ht : tin P ty = some ⟨ti, size, by', z⟩) (hag : ti.agg = some false)
    (hi : σ.mem.get i = some (.row true es e rows)) (hr : rows[r]? = some row) (hro : row[off]? = some c)
    (he : (⟨[i], [], peekC c⟩ : AEff) = E) (hτ : σ.upd d E = τ) (h : awpOps P ops r' τ (fs ++ [E]) K) : awpOps P ops (⟨d, .load ty y, ty', pos, af, gd⟩ :: r') σ fs K := by
  subst he
  refine op_sound hg ?_ (run_peek1 rfl hy ht hag hi hr hro).sound hτ h
  simp [eff, effLoad, ht, hag, hy, hi]
/-- A struct of which not all is known is put into a variable. -/
theorem op_boxU {d : Option Tmp} {r' : List Oper} {fs : List AEff} {K : ASt → List AEff → Prop} {E : AEff} {ty ty' : TypeId} {y : Operand} {pos : String} {af : Array Edge} {gd : Option (Nat × Bool)} {cells : List AV}
    (hg : gate ops σ ⟨d, .box ty y, ty', pos, af, gd⟩ = some true) (hy : (σ.ev y).cells = some cells) (hc : cells.all AV.isCell = false) (hf : σ.mem.get (σ.fresh ⟨d, .box ty y, ty', pos, af, gd⟩) = none)
    (he : (⟨[], [(σ.fresh ⟨d, .box ty y, ty', pos, af, gd⟩, .box cells)], .ptr (σ.fresh ⟨d, .box ty y, ty', pos, af, gd⟩) 0⟩ : AEff) = E) (hτ : σ.upd d E = τ) (h : awpOps P ops r' τ (fs ++ [E]) K) : awpOps P ops (⟨d, .box ty y, ty', pos, af, gd⟩ :: r') σ fs K := by
  subst he
  refine op_sound hg ?_ (run_box rfl hy hf).sound hτ h
  simp [eff, hy, hc, hf]
end
attribute [go_sem] peekC
end Go.Proofs.Ytpaooephkpjkfaa
