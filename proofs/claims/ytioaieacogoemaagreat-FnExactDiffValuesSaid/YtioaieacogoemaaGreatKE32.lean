/- The engine: a contract out of the body, where some of the objects that came in need not last. -/
import Derived.Test.YtioaieacogoemaaGreatKE6
set_option linter.unusedSimpArgs false
set_option linter.unusedVariables false
set_option linter.unnecessarySimpa false
namespace Go.Proofs.YtioaieacogoemaaGreat
open Go.RowKit
section
variable {P : Program}
section
variable {σ : ASt} {a : Act} {w : World} {Γ : Ctx}
theorem returns_exitL {ow : Nat → Option Id} {κ : Id → Value} (h : RelAt Γ σ a w ow κ) {fn : Func} {m : Mem} {res : AV} {m' : Mem} (hΓ : ∀ i o o', m.get i = some o → m'.get i = some o' → i ∈ Γ.ext) (hR : Returns P fn m res m' σ) : ∃ v, (results fn a.tmps).run P w = .ok v w ∧ ∃ ow' κ', ExitAt Γ m m' w res v ow' κ' := by
  obtain ⟨r, h1, ρ, bw, h2, h3, h4, h5⟩ := hR
  obtain ⟨v, g1, g2⟩ := resAV_run h h1
  have hS : ∀ b, Γ.sees ow b → Γ.sees (owRen ρ m' ow) b := fun b hb => ⟨owRen_none hb.1, hb.2⟩
  have hT : ∀ b j, j ∈ bw → ow b = some j → Γ.sees (owRen ρ m' ow) b := fun b j hj hb => ⟨owRen_bw h4 hj hb, by
    by_cases h1 : Γ.w.heap.size ≤ b
    · exact .inr (.inl h1)
    · by_cases h2 : Γ.ow b = none
      · have := (h.frame b (by omega) h2).2
        rw [this] at hb
        cases hb
      · exact .inr (.inr h2)⟩
  refine ⟨v, g1, owRen ρ m' ow, kRen ρ κ, Mat.rep h4 hS hT h.objs h2 h3 g2, fun i o hi => MatO.rep h4 hS hT h.objs hi, fun b i hb => ?_, h.os, h.tape, h.output, h.size, fun b hb h0 => ?_, fun i o o' hi hi' => ?_⟩
  · obtain ⟨⟨o, h1, h2⟩, j, _, h3⟩ := owRen_inv h4.nd hb
    exact ⟨(h.own b j h3).1, o, h1, h2⟩
  · obtain ⟨h1, h2⟩ := h.frame b hb h0
    exact ⟨h1, owRen_none h2⟩
  · have := h5 (i, o) (Mem.mem_of_get hi) (by simp [hi'])
    simp only at this
    simp only [kRen, this]
    exact (h.kap i (hΓ i o o' hi hi')).1
end
/-- Only the objects of L keep their name to the end: those that are there behind it. -/
theorem AC.intro_ext (L : List Id) {f : FuncId} {fn : Func} {c : Code} {args : List AV} {m : Mem} {res : AV} {m' : Mem} (hm : P.follows .mixedOrders = true) (hf : P.funcs[f]? = some fn) (hb : fn.body = some c)
    (hL : (L.all fun i => (m.get i).isSome) = true) (hL' : (m'.all fun p => !(m.get p.1).isSome || L.contains p.1) = true)
    (h : awp P L c (fun e σ => match e with
      | .exit _ => False
      | _ => Returns P fn m res m' σ) ⟨args ++ List.replicate (fn.ntmps - args.length) .undef, m⟩) : AC P f args m res m' := by
  intro Γ vals hent hargs
  refine calls_of_wp hf hb ?_
  have hl := hargs.length
  have hr : Rel { Γ with ext := L } ⟨args ++ List.replicate (fn.ntmps - args.length) .undef, m⟩ { tmps := vals.toArray ++ Array.replicate (fn.ntmps - vals.toArray.size) undef, defers := [] } Γ.w := by
    refine ⟨Γ.ow, Γ.κ, by simp [hl], rfl, fun t => ?_, hent.objs, hent.own, rfl, rfl, rfl, Nat.le_refl _, fun b _ h0 => ⟨rfl, h0⟩, fun i hi => ⟨rfl, ?_⟩⟩
    · have := ARs.getD hargs t
      by_cases ht : t < args.length
      · have e1 : (⟨args ++ List.replicate (fn.ntmps - args.length) .undef, m⟩ : ASt).slot t = args.getD t .undef := by
          simp only [ASt.slot, List.getD, List.getElem?_append_left ht]
        have e2 : (vals.toArray ++ Array.replicate (fn.ntmps - vals.toArray.size) undef).getD t undef = vals.getD t undef := by
          rw [Array.getD_eq_getD_getElem?, Array.getElem?_append_left (by simp; omega)]
          simp [List.getD]
        show AR _ _ _ _ (ASt.slot _ t) (Array.getD _ t undef)
        rw [e1, e2]
        exact this
      · have e1 : (⟨args ++ List.replicate (fn.ntmps - args.length) .undef, m⟩ : ASt).slot t = .undef := by
          simp only [ASt.slot, List.getD, List.getElem?_append_right (Nat.le_of_not_lt ht), List.getElem?_replicate]
          split <;> rfl
        show AR _ _ _ _ (ASt.slot _ t) (Array.getD _ t undef)
        rw [e1]
        trivial
    · exact Option.isSome_iff_exists.1 (List.all_eq_true.1 hL i hi)
  have h' : awp P ({ Γ with ext := L } : Ctx).ext c _ _ := h
  refine wp_mono (awp_sound hm c _ _ _ _ h' hr) ?_
  intro e a' w' hq
  have fin : ∀ τ, Rel { Γ with ext := L } τ a' w' → Returns P fn m res m' τ → a'.defers = [] ∧ ∃ v, (results fn a'.tmps).run P w' = .ok v w' ∧ ∃ v', ∃ ow κ, Ending.returned v = .returned v' ∧ ExitAt Γ m m' w' res v' ow κ := by
    rintro τ ⟨ow, κ, hr'⟩ hR
    obtain ⟨v, g1, ow', κ', g2⟩ := returns_exitL hr' (fun i o o' h1 h2 => by
      have := List.all_eq_true.1 hL' (i, o') (Mem.mem_of_get h2)
      simp only [h1, Option.isSome_some, Bool.not_true, Bool.false_or] at this
      exact List.contains_iff_mem.1 this) hR
    exact ⟨hr'.defers, v, g1, v, ow', κ', rfl, ⟨g2.res, g2.objs, g2.own, g2.os, g2.tape, g2.output, g2.size, g2.frame, g2.kap⟩⟩
  cases e with
  | normal => obtain ⟨τ, h1, h2⟩ := hq; exact fin τ h1 h2
  | ret => obtain ⟨τ, h1, h2⟩ := hq; exact fin τ h1 h2
  | exit id => obtain ⟨τ, h1, h2⟩ := hq; exact h2
  | goto l => exact hq.elim
  | panic ch => exact hq.elim
  | outgrown => exact hq.elim
theorem AC.intro_spx (L : List Id) {f : FuncId} {fn : Func} {c : Code} {args : List AV} {m : Mem} {res : AV} {m' : Mem} {n : Nat} (hm : P.follows .mixedOrders = true) (hf : P.funcs[f]? = some fn) (hb : fn.body = some c) (hn : fn.ntmps = n) (hl : args.length ≤ n)
    (hL : (L.all fun i => (m.get i).isSome) = true) (hL' : (m'.all fun p => !(m.get p.1).isSome || L.contains p.1) = true)
    (h : awp P L c (fun e σ => match e with
      | .exit _ => False
      | _ => Returns P fn m res m' σ) ⟨sp n (argsAt 0 args), m⟩) : AC P f args m res m' := by
  refine AC.intro_ext L hm hf hb hL hL' ?_
  rw [hn, sp_ini hl]
  exact h
end
section
variable {P : Program} {ops : Array Oper} {o : Oper} {σ τ : ASt}
/-- Shared rows that lie in a row that may be written are looked at. -/
theorem run_peek {ty : TypeId} {y : Operand} {i : Id} {es : Nat} {e : TypeId} {rows : List (List C)} {r off : Nat} {row : List C} {inner : List (List C)} {ti : TI} {size by' : Nat} {z : Option Value} (ho : o.op = .load ty y) (hy : σ.ev y = .rptr i es r off) (ht : tin P ty = some ⟨ti, size, by', z⟩) (hg : ti.agg = some false)
    (hi : σ.mem.get i = some (.row true es e rows)) (hr : rows[r]? = some row) (hro : row[off]? = some (.sl inner)) : OpRun P o σ ⟨[i], [], .c (.sl inner)⟩ := by
  refine OpRun.pure fun Γ σ' a w ow κ hag hrel => ?_
  have e1 := hrel.ev y
  rw [hag.1 y (by rw [ho]; simp [Op.operands]), hy] at e1
  have hi' : σ'.mem.get i = some (.row true es e rows) := by rw [hag.2.1 i (by simp), hi]
  obtain ⟨_, o1, k1, k2⟩ := e1
  rw [hi'] at k1
  cases k1
  obtain ⟨b, n, cap, k3, k4⟩ := k2 rfl
  obtain ⟨vrows, bs, h1, _, h3, h4, h5, h6⟩ := hrel.objs i _ hi'
  obtain ⟨vr, u, b1, b2, b3, g0, g1, rfl, g3, g4⟩ := CRss.split h1 hr hro
  have hcell : w.cell? ⟨b, r * es + off, none⟩ = some u := by
    rw [k3] at h4
    have := h4.cells (g := b) rfl _ _ (flatten_get h3 r vr g0 off u g1)
    rwa [Addr.add_mid, Nat.zero_add] at this
  have hb2 : b2 = [] := by
    simp only [CR] at g3
    obtain ⟨_, _, _, _, _, _, _, _, _, h⟩ := g3
    exact h
  subst hb2
  refine ⟨u, ?_, g3⟩
  obtain ⟨d, inf, t1, t2, t3⟩ := tin_some ht
  simp only [TIn.mk.injEq] at t3
  unfold execOp
  rw [ho]
  simp [Instr.loadAt, Instr.sureAddr, k4, loadVar, tin_agg (by rw [← t3.1]; exact hg) t1 w, hcell]
theorem op_peek {d : Option Tmp} {r' : List Oper} {fs : List AEff} {K : ASt → List AEff → Prop} {E : AEff} {ty ty' : TypeId} {y : Operand} {pos : String} {af : Array Edge} {gd : Option (Nat × Bool)} {i : Id} {es : Nat} {e : TypeId} {rows : List (List C)} {r off : Nat} {row : List C} {inner : List (List C)} {ti : TI} {size by' : Nat} {z : Option Value}
    (hg : gate ops σ ⟨d, .load ty y, ty', pos, af, gd⟩ = some true) (hy : σ.ev y = .rptr i es r off) (ht : tin P ty = some ⟨ti, size, by', z⟩) (hag : ti.agg = some false)
    (hi : σ.mem.get i = some (.row true es e rows)) (hr : rows[r]? = some row) (hro : row[off]? = some (.sl inner))
    (he : (⟨[i], [], .c (.sl inner)⟩ : AEff) = E) (hτ : σ.upd d E = τ) (h : awpOps P ops r' τ (fs ++ [E]) K) : awpOps P ops (⟨d, .load ty y, ty', pos, af, gd⟩ :: r') σ fs K := by
  subst he
  refine op_sound hg ?_ (run_peek rfl hy ht hag hi hr hro).sound hτ h
  simp [eff, effLoad, ht, hag, hy, hi]
end
end Go.Proofs.YtioaieacogoemaaGreat
