/- The engine: calls that are handed objects, and rows that are lent and from then on shared. -/
import Derived.Test.YtlciedpfjhkkdaaGreatDoorKE6
set_option linter.unusedSimpArgs false
set_option linter.unusedVariables false
set_option linter.unnecessarySimpa false
namespace Go.Proofs.YtlciedpfjhkkdaaGreatDoor
open Go.RowKit
section
variable {P : Program} {ops : Array Oper} {r : List Oper} {σ τ : ASt} {fs : List AEff} {K : ASt → List AEff → Prop} {E : AEff}
theorem Fits.ofB (bw : List Id) (ρ ρ' : List (Id × Id)) {fz : List (Id × AO)} {m : Mem} {res : AV} {m' : Mem} (h1 : MatL (rn ρ) σ.mem bw m) (h2 : (m.all fun p => p.2.refs m) = true) (hfz : frzOf σ.mem bw = fz) (hids : fz.map (·.1) = bw) (hndb : bw.Nodup) (h3 : (m.map (·.1)).Nodup) (h4 : (m.filterMap fun p => if p.2.live then rn ρ p.1 else none).Nodup)
  (hl : (m.all fun p => p.2.live) = true) (hl' : (m'.all fun p => p.2.live) = true) (hnd : (m'.map fun p => rnF ρ' p.1).Nodup) (hnd' : (m'.map (·.1)).Nodup)
  (hnew : ∀ p, p ∈ m' → ((m.get p.1).isSome = true ∧ rn ρ p.1 = some (rnF ρ' p.1)) ∨ (m.get p.1 = none ∧ σ.mem.get (rnF ρ' p.1) = none))
  (hbw : ∀ j, j ∈ (m.filterMap fun p => if p.2.live then rn ρ p.1 else none) → j ∉ bw) : Fits σ (rn ρ) bw fz false (rnF ρ') m res m' := by
 subst hfz
 refine ⟨MatM.of h1 h2 h3 h4 hbw, fun p hp => List.all_eq_true.1 hl p hp, hnd, hnd', fun p hp => List.all_eq_true.1 hl' p hp, fun p hp => ?_, fun p hp => ?_, fun _ j hj => by rw [hids]; exact hj, by rw [hids]; exact hndb, fun h => by cases h⟩
 ·rcases hnew p hp with ⟨g1, g2⟩ | g
  ·obtain ⟨o, ho⟩ := Option.isSome_iff_exists.1 g1
   exact .inl ⟨o, ho, g2⟩
  ·exact .inr g
 ·unfold frzOf at hp
  simp only [List.mem_filterMap, Option.map_eq_some_iff] at hp
  obtain ⟨j, hj, rows, hr, rfl⟩ := hp
  exact ⟨hj, rows, rfl, hr⟩
theorem Fits.ofC (bw : List Id) (ρ ρ' : List (Id × Id)) {m : Mem} {res : AV} {m' : Mem} (h1 : MatL (rn ρ) σ.mem bw m) (h2 : (m.all fun p => p.2.refs m) = true) (hc1 : res.closed = true) (hc2 : (m'.all fun p => p.2.closed) = true) (h3 : (m.map (·.1)).Nodup) (h4 : (m.filterMap fun p => if p.2.live then rn ρ p.1 else none).Nodup)
  (hl : (m.all fun p => p.2.live) = true) (hl' : (m'.all fun p => p.2.live) = true) (hnd : (m'.map fun p => rnF ρ' p.1).Nodup) (hnd' : (m'.map (·.1)).Nodup)
  (hnew : ∀ p, p ∈ m' → ((m.get p.1).isSome = true ∧ rn ρ p.1 = some (rnF ρ' p.1)) ∨ (m.get p.1 = none ∧ σ.mem.get (rnF ρ' p.1) = none))
  (hbw : ∀ j, j ∈ (m.filterMap fun p => if p.2.live then rn ρ p.1 else none) → j ∉ bw) : Fits σ (rn ρ) bw [] true (rnF ρ') m res m' := by
 refine ⟨MatM.of h1 h2 h3 h4 hbw, fun p hp => List.all_eq_true.1 hl p hp, hnd, hnd', fun p hp => List.all_eq_true.1 hl' p hp, fun p hp => ?_, fun p hp => absurd hp (by simp), fun h => Bool.noConfusion h, List.nodup_nil, fun _ => ⟨hc1, fun p hp => List.all_eq_true.1 hc2 p hp⟩⟩
 rcases hnew p hp with ⟨g1, g2⟩ | g
 ·obtain ⟨o, ho⟩ := Option.isSome_iff_exists.1 g1
  exact .inl ⟨o, ho, g2⟩
 ·exact .inr g
theorem op_callC (bw : List Id) (ρ ρ' : List (Id × Id)) {d : Option Tmp} {fv : Operand} {args : Array Operand} {tys : Array TypeId} {ty : TypeId} {pos : String} {af : Array Edge} {gd : Option (Nat × Bool)} {m : Mem} {res : AV} {m' : Mem} {f : FuncId} {caps cargs : List AV}
  (hac : AC P f cargs m res m') (hg : gate ops σ ⟨d, .call ⟨.value fv, args, tys⟩, ty, pos, af, gd⟩ = some true) (hv : σ.ev fv = .clo f caps) (hc : callable P f = true)
  (hm : Mats (rn ρ) σ.mem bw cargs (args.toList.map σ.ev ++ caps)) (hrefs : refsL m cargs = true) (h1 : MatL (rn ρ) σ.mem bw m) (h2 : (m.all fun p => p.2.refs m) = true) (hc1 : res.closed = true) (hc2 : (m'.all fun p => p.2.closed) = true) (h3 : (m.map (·.1)).Nodup) (h4 : (m.filterMap fun p => if p.2.live then rn ρ p.1 else none).Nodup)
  (hl : (m.all fun p => p.2.live) = true) (hl' : (m'.all fun p => p.2.live) = true) (hnd : (m'.map fun p => rnF ρ' p.1).Nodup) (hnd' : (m'.map (·.1)).Nodup)
  (hnew : ∀ p, p ∈ m' → ((m.get p.1).isSome = true ∧ rn ρ p.1 = some (rnF ρ' p.1)) ∨ (m.get p.1 = none ∧ σ.mem.get (rnF ρ' p.1) = none))
  (hbw : ∀ j, j ∈ (m.filterMap fun p => if p.2.live then rn ρ p.1 else none) → j ∉ bw)
  (he : (⟨bw, kills (rn ρ) m ++ [] ++ m'.map (fun p => (rnF ρ' p.1, p.2.ren (rnF ρ'))), res.ren (rnF ρ')⟩ : AEff) = E) (hτ : σ.upd d E = τ) (h : awpOps P ops r τ (fs ++ [E]) K) : awpOps P ops (⟨d, .call ⟨.value fv, args, tys⟩, ty, pos, af, gd⟩ :: r) σ fs K := by
 subst he
 have := op_call hac hg hv hc hm hrefs (Fits.ofC bw ρ ρ' h1 h2 hc1 hc2 h3 h4 hl hl' hnd hnd' hnew hbw) (τ := τ) (r := r) (fs := fs) (K := K)
 unfold callEff at this
 exact this hτ h
theorem op_callB (bw : List Id) (ρ ρ' : List (Id × Id)) {d : Option Tmp} {fv : Operand} {args : Array Operand} {tys : Array TypeId} {ty : TypeId} {pos : String} {af : Array Edge} {gd : Option (Nat × Bool)} {fz : List (Id × AO)} {m : Mem} {res : AV} {m' : Mem} {f : FuncId} {caps cargs : List AV}
  (hac : AC P f cargs m res m') (hg : gate ops σ ⟨d, .call ⟨.value fv, args, tys⟩, ty, pos, af, gd⟩ = some true) (hv : σ.ev fv = .clo f caps) (hc : callable P f = true)
  (hm : Mats (rn ρ) σ.mem bw cargs (args.toList.map σ.ev ++ caps)) (hrefs : refsL m cargs = true) (h1 : MatL (rn ρ) σ.mem bw m) (h2 : (m.all fun p => p.2.refs m) = true) (hfz : frzOf σ.mem bw = fz) (hids : fz.map (·.1) = bw) (hndb : bw.Nodup) (h3 : (m.map (·.1)).Nodup) (h4 : (m.filterMap fun p => if p.2.live then rn ρ p.1 else none).Nodup)
  (hl : (m.all fun p => p.2.live) = true) (hl' : (m'.all fun p => p.2.live) = true) (hnd : (m'.map fun p => rnF ρ' p.1).Nodup) (hnd' : (m'.map (·.1)).Nodup)
  (hnew : ∀ p, p ∈ m' → ((m.get p.1).isSome = true ∧ rn ρ p.1 = some (rnF ρ' p.1)) ∨ (m.get p.1 = none ∧ σ.mem.get (rnF ρ' p.1) = none))
  (hbw : ∀ j, j ∈ (m.filterMap fun p => if p.2.live then rn ρ p.1 else none) → j ∉ bw)
  (he : (⟨bw, kills (rn ρ) m ++ fz ++ m'.map (fun p => (rnF ρ' p.1, p.2.ren (rnF ρ'))), res.ren (rnF ρ')⟩ : AEff) = E) (hτ : σ.upd d E = τ) (h : awpOps P ops r τ (fs ++ [E]) K) : awpOps P ops (⟨d, .call ⟨.value fv, args, tys⟩, ty, pos, af, gd⟩ :: r) σ fs K := by
 subst he
 have := op_call hac hg hv hc hm hrefs (Fits.ofB bw ρ ρ' h1 h2 hfz hids hndb h3 h4 hl hl' hnd hnd' hnew hbw) (τ := τ) (r := r) (fs := fs) (K := K)
 unfold callEff at this
 exact this hτ h
end
attribute [go_sem] AO.closed
theorem wCallB {A Φ G' G : Prop} (f : A) (F : Φ) (h : G') (e : A → Φ → G' → G := by intro f F hh; apply f; (iterate 10 (focus (first | (simp only [go_sem, Nat.reduceEqDiff, Nat.reduceAdd, Nat.reduceSub, Nat.reduceLeDiff, Nat.reduceMul, Nat.reduceBEq, Nat.reduceLT, Int.reduceToNat, reduceCtorEq, F]; first | done | exact rfl | (and_intros <;> rfl)) | exact rfl | decide))); (iterate 8 (focus (simp [go_sem, F]; done))); (iterate 2 (focus (first | (simp only [go_sem, Nat.reduceEqDiff, Nat.reduceAdd, Nat.reduceSub, Nat.reduceLeDiff, Nat.reduceMul, Nat.reduceBEq, Nat.reduceLT, Int.reduceToNat, reduceCtorEq, F]; first | done | exact rfl | (and_intros <;> rfl)) | exact rfl | decide))); exact hh) : G := e f F h
end Go.Proofs.YtlciedpfjhkkdaaGreatDoor
