/- Texts of this proof: E32 E34. -/
import Derived.Test.YtamgeodhpglgkaaGreatKE6
set_option linter.unusedSimpArgs false
namespace Go.Proofs.YtamgeodhpglgkaaGreat
open Go.RowKit
section
variable {P : Program}
section
variable {σ : ASt} {a : Act} {w : World} {Γ : Ctx}
theorem returns_exitL {ow : Nat → Option Id} {κ : Id → Value} (h : RelAt Γ σ a w ow κ) {fn : Func} {m : Mem} {res : AV} {m' : Mem} (hΓ : ∀ i o o', m.get i = some o → m'.get i = some o' → i ∈ Γ.ext) (hR : Returns P fn m res m' σ) : ∃ v, (results fn a.tmps).run P w = .ok v w ∧ ∃ ow' κ', ExitAt Γ m m' w res v ow' κ' := by
 obtain ⟨r, h1, ρ, bw, h2, h3, h4, h5⟩ := hR
 obtain ⟨v, g1, g2⟩ := resAV_run h h1
 have hS : ∀ b, Γ.sees ow b → Γ.sees (owRen ρ m' ow) b := fun b hb => ⟨owRen_none hb.1, hb.2⟩
 have hT : ∀ b j, j ∈ bw → ow b = some j → Γ.sees (owRen ρ m' ow) b := fun b j hj hb => ⟨owRen_bw h4 hj hb, by
  by_cases h1 : Γ.w.heap.size ≤ b
  ·exact .inr (.inl h1)
  ·by_cases h2 : Γ.ow b = none
   ·have := (h.frame b (by omega) h2).2
    rw [this] at hb
    cases hb
   ·exact .inr (.inr h2)⟩
 refine ⟨v, g1, owRen ρ m' ow, kRen ρ κ, Mat.rep h4 hS hT h.objs h2 h3 g2, fun i o hi => MatO.rep h4 hS hT h.objs hi, fun b i hb => ?_, h.os, h.tape, h.output, h.size, fun b hb h0 => ?_, fun i o o' hi hi' => ?_⟩
 ·obtain ⟨⟨o, h1, h2⟩, j, _, h3⟩ := owRen_inv h4.nd hb
  exact ⟨(h.own b j h3).1, o, h1, h2⟩
 ·obtain ⟨h1, h2⟩ := h.frame b hb h0
  exact ⟨h1, owRen_none h2⟩
 ·have := h5 (i, o) (Mem.mem_of_get hi) (by simp [hi'])
  simp only at this
  simp only [kRen, this]
  exact (h.kap i (hΓ i o o' hi hi')).1
end
theorem AC.intro_ext (L : List Id) {f : FuncId} {fn : Func} {c : Code} {args : List AV} {m : Mem} {res : AV} {m' : Mem} (hm : P.follows .mixedOrders = true) (hf : P.funcs[f]? = some fn) (hb : fn.body = some c)
  (hL : (L.all fun i => (m.get i).isSome) = true) (hL' : (m'.all fun p => !(m.get p.1).isSome || L.contains p.1) = true)
  (h : awp P L c (fun e σ => match e with
   | .exit _ => False
   | _ => Returns P fn m res m' σ) ⟨args ++ List.replicate (fn.ntmps - args.length) .undef, m⟩) : AC P f args m res m' := by
 intro Γ vals hent hargs
 refine calls_of_wp hf hb ?_
 have hl := hargs.length
 have hr : Rel { Γ with ext := L } ⟨args ++ List.replicate (fn.ntmps - args.length) .undef, m⟩ { tmps := vals.toArray ++ Array.replicate (fn.ntmps - vals.toArray.size) undef, defers := [] } Γ.w := by
  refine ⟨Γ.ow, Γ.κ, by simp [hl], rfl, fun t => ?_, hent.objs, hent.own, rfl, rfl, rfl, Nat.le_refl _, fun b _ h0 => ⟨rfl, h0⟩, fun i hi => ⟨rfl, ?_⟩⟩
  ·have := ARs.getD hargs t
   by_cases ht : t < args.length
   ·have e1 : (⟨args ++ List.replicate (fn.ntmps - args.length) .undef, m⟩ : ASt).slot t = args.getD t .undef := by
     simp only [ASt.slot, List.getD, List.getElem?_append_left ht]
    have e2 : (vals.toArray ++ Array.replicate (fn.ntmps - vals.toArray.size) undef).getD t undef = vals.getD t undef := by
     rw [Array.getD_eq_getD_getElem?, Array.getElem?_append_left (by simp; omega)]
     simp [List.getD]
    show AR _ _ _ _ (ASt.slot _ t) (Array.getD _ t undef)
    rw [e1, e2]
    exact this
   ·have e1 : (⟨args ++ List.replicate (fn.ntmps - args.length) .undef, m⟩ : ASt).slot t = .undef := by
     simp only [ASt.slot, List.getD, List.getElem?_append_right (Nat.le_of_not_lt ht), List.getElem?_replicate]
     split <;> rfl
    show AR _ _ _ _ (ASt.slot _ t) (Array.getD _ t undef)
    rw [e1]
    trivial
  ·exact Option.isSome_iff_exists.1 (List.all_eq_true.1 hL i hi)
 have h' : awp P ({ Γ with ext := L } : Ctx).ext c _ _ := h
 refine wp_mono (awp_sound hm c _ _ _ _ h' hr) ?_
 intro e a' w' hq
 have fin : ∀ τ, Rel { Γ with ext := L } τ a' w' → Returns P fn m res m' τ → a'.defers = [] ∧ ∃ v, (results fn a'.tmps).run P w' = .ok v w' ∧ ∃ v', ∃ ow κ, Ending.returned v = .returned v' ∧ ExitAt Γ m m' w' res v' ow κ := by
  rintro τ ⟨ow, κ, hr'⟩ hR
  obtain ⟨v, g1, ow', κ', g2⟩ := returns_exitL hr' (fun i o o' h1 h2 => by
   have := List.all_eq_true.1 hL' (i, o') (Mem.mem_of_get h2)
   simp only [h1, Option.isSome_some, Bool.not_true, Bool.false_or] at this
   exact List.contains_iff_mem.1 this) hR
  exact ⟨hr'.defers, v, g1, v, ow', κ', rfl, ⟨g2.res, g2.objs, g2.own, g2.os, g2.tape, g2.output, g2.size, g2.frame, g2.kap⟩⟩
 cases e with
 | normal => obtain ⟨τ, h1, h2⟩ := hq; exact fin τ h1 h2
 | ret => obtain ⟨τ, h1, h2⟩ := hq; exact fin τ h1 h2
 | exit id => obtain ⟨τ, h1, h2⟩ := hq; exact h2
 | goto l => exact hq.elim
 | panic ch => exact hq.elim
 | outgrown => exact hq.elim
theorem AC.intro_spx (L : List Id) {f : FuncId} {fn : Func} {c : Code} {args : List AV} {m : Mem} {res : AV} {m' : Mem} {n : Nat} (hm : P.follows .mixedOrders = true) (hf : P.funcs[f]? = some fn) (hb : fn.body = some c) (hn : fn.ntmps = n) (hl : args.length ≤ n)
  (hL : (L.all fun i => (m.get i).isSome) = true) (hL' : (m'.all fun p => !(m.get p.1).isSome || L.contains p.1) = true)
  (h : awp P L c (fun e σ => match e with
   | .exit _ => False
   | _ => Returns P fn m res m' σ) ⟨sp n (argsAt 0 args), m⟩) : AC P f args m res m' := by
 refine AC.intro_ext L hm hf hb hL hL' ?_
 rw [hn, sp_ini hl]
 exact h
end
end Go.Proofs.YtamgeodhpglgkaaGreat
namespace Go.Proofs.YtamgeodhpglgkaaGreat
open Go.RowKit
section
variable {P : Program} {ops : Array Oper} {r : List Oper} {σ τ : ASt} {fs : List AEff} {K : ASt → List AEff → Prop} {E : AEff}
theorem Fits.ofB (bw : List Id) (ρ ρ' : List (Id × Id)) {fz : List (Id × AO)} {m : Mem} {res : AV} {m' : Mem} (h1 : MatL (rn ρ) σ.mem bw m) (h2 : (m.all fun p => p.2.refs m) = true) (hfz : frzOf σ.mem bw = fz) (hids : fz.map (·.1) = bw) (hndb : bw.Nodup) (h3 : (m.map (·.1)).Nodup) (h4 : (m.filterMap fun p => if p.2.live then rn ρ p.1 else none).Nodup)
  (hl : (m.all fun p => p.2.live) = true) (hl' : (m'.all fun p => p.2.live) = true) (hnd : (m'.map fun p => rnF ρ' p.1).Nodup) (hnd' : (m'.map (·.1)).Nodup)
  (hnew : ∀ p, p ∈ m' → ((m.get p.1).isSome = true ∧ rn ρ p.1 = some (rnF ρ' p.1)) ∨ (m.get p.1 = none ∧ σ.mem.get (rnF ρ' p.1) = none))
  (hbw : ∀ j, j ∈ (m.filterMap fun p => if p.2.live then rn ρ p.1 else none) → j ∉ bw) : Fits σ (rn ρ) bw fz false (rnF ρ') m res m' := by
 subst hfz
 refine ⟨MatM.of h1 h2 h3 h4 hbw, fun p hp => List.all_eq_true.1 hl p hp, hnd, hnd', fun p hp => List.all_eq_true.1 hl' p hp, fun p hp => ?_, fun p hp => ?_, fun _ j hj => by rw [hids]; exact hj, by rw [hids]; exact hndb, fun h => by cases h⟩
 ·rcases hnew p hp with ⟨g1, g2⟩ | g
  ·obtain ⟨o, ho⟩ := Option.isSome_iff_exists.1 g1
   exact .inl ⟨o, ho, g2⟩
  ·exact .inr g
 ·unfold frzOf at hp
  simp only [List.mem_filterMap, Option.map_eq_some_iff] at hp
  obtain ⟨j, hj, rows, hr, rfl⟩ := hp
  exact ⟨hj, rows, rfl, hr⟩
theorem op_callB (bw : List Id) (ρ ρ' : List (Id × Id)) {d : Option Tmp} {fv : Operand} {args : Array Operand} {tys : Array TypeId} {ty : TypeId} {pos : String} {af : Array Edge} {gd : Option (Nat × Bool)} {fz : List (Id × AO)} {m : Mem} {res : AV} {m' : Mem} {f : FuncId} {caps cargs : List AV}
  (hac : AC P f cargs m res m') (hg : gate ops σ ⟨d, .call ⟨.value fv, args, tys⟩, ty, pos, af, gd⟩ = some true) (hv : σ.ev fv = .clo f caps) (hc : callable P f = true)
  (hm : Mats (rn ρ) σ.mem bw cargs (args.toList.map σ.ev ++ caps)) (hrefs : refsL m cargs = true) (h1 : MatL (rn ρ) σ.mem bw m) (h2 : (m.all fun p => p.2.refs m) = true) (hfz : frzOf σ.mem bw = fz) (hids : fz.map (·.1) = bw) (hndb : bw.Nodup) (h3 : (m.map (·.1)).Nodup) (h4 : (m.filterMap fun p => if p.2.live then rn ρ p.1 else none).Nodup)
  (hl : (m.all fun p => p.2.live) = true) (hl' : (m'.all fun p => p.2.live) = true) (hnd : (m'.map fun p => rnF ρ' p.1).Nodup) (hnd' : (m'.map (·.1)).Nodup)
  (hnew : ∀ p, p ∈ m' → ((m.get p.1).isSome = true ∧ rn ρ p.1 = some (rnF ρ' p.1)) ∨ (m.get p.1 = none ∧ σ.mem.get (rnF ρ' p.1) = none))
  (hbw : ∀ j, j ∈ (m.filterMap fun p => if p.2.live then rn ρ p.1 else none) → j ∉ bw)
  (he : (⟨bw, kills (rn ρ) m ++ fz ++ m'.map (fun p => (rnF ρ' p.1, p.2.ren (rnF ρ'))), res.ren (rnF ρ')⟩ : AEff) = E) (hτ : σ.upd d E = τ) (h : awpOps P ops r τ (fs ++ [E]) K) : awpOps P ops (⟨d, .call ⟨.value fv, args, tys⟩, ty, pos, af, gd⟩ :: r) σ fs K := by
 subst he
 have := op_call hac hg hv hc hm hrefs (Fits.ofB bw ρ ρ' h1 h2 hfz hids hndb h3 h4 hl hl' hnd hnd' hnew hbw) (τ := τ) (r := r) (fs := fs) (K := K)
 unfold callEff at this
 exact this hτ h
end
theorem wCallB {A Φ G' G : Prop} (f : A) (F : Φ) (h : G') (e : A → Φ → G' → G := by intro f F hh; apply f; (iterate 10 (focus (first | (simp only [go_sem, Nat.reduceEqDiff, Nat.reduceAdd, Nat.reduceSub, Nat.reduceLeDiff, Nat.reduceMul, Nat.reduceBEq, Nat.reduceLT, Int.reduceToNat, reduceCtorEq, F]; first | done | exact rfl | (and_intros <;> rfl)) | exact rfl | decide))); (iterate 8 (focus (simp [go_sem, F]; done))); (iterate 2 (focus (first | (simp only [go_sem, Nat.reduceEqDiff, Nat.reduceAdd, Nat.reduceSub, Nat.reduceLeDiff, Nat.reduceMul, Nat.reduceBEq, Nat.reduceLT, Int.reduceToNat, reduceCtorEq, F]; first | done | exact rfl | (and_intros <;> rfl)) | exact rfl | decide))); exact hh) : G := e f F h
end Go.Proofs.YtamgeodhpglgkaaGreat
