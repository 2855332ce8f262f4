/- Texts of this proof: G19 E34 P00 P34. -/
import Derived.Test.YtlciedpfjhkkdaaGreatDoorKG12uG33
import Derived.Test.YtlciedpfjhkkdaaGreatDoorKE6
import Derived.Test.YtlciedpfjhkkdaaGreatDoorKG01uG02
import Derived.Test.YtlciedpfjhkkdaaGreatDoorKR30
set_option linter.unusedSimpArgs false
set_option linter.unusedVariables false
set_option linter.unnecessarySimpa false
set_option maxHeartbeats 8000000
namespace Go.Proofs.YtlciedpfjhkkdaaGreatDoor
open Go.RowKit
set_option maxRecDepth 10000
theorem eqReadResult_ac (c at1 : Int) (ys : List CellD) (hl : ys.length ≤ 9223372036854775807) : AC Tryz.prog 11 [.agg [.c (.int .i64 c), .c (.int .i64 at1), cellsA ys], .agg [.c (.int .i64 c), .c (.int .i64 at1), cellsA ys]] [] (.c (.bool true)) [] := by
 have hne : (c != c) = false := by simp
 have hne2 : (at1 != at1) = false := by simp
 have he := eqCellS_ac ys hl
 refine wEnter Tryz.func11 Tryz.ntmps11 ?_
 refine wRUN (j2 hne hne2) ?_
 refine w7 (op_data [] he) trivial ?_
 refine wRUN trivial ?_
 exact wRet (ret_data []) Tryz.results11
theorem heldReadResult_ac (c at1 : Int) (n K : Nat) (hK : K + 5 * n ≤ 3000000000) : AC Tryz.prog 13 [.agg [.c (.int .i64 c), .c (.int .i64 at1), cellsA (marks K n)], .c (.int .i64 K)] [] (.c (.int .i64 ((K + 5 * n : Nat) : Int))) [] := by
 have he := heldCellS_ac n K hK
 have hn0 : decide (((K + 5 * n : Nat) : Int) < 0) = false := by simp; omega
 refine wEnter Tryz.func13 Tryz.ntmps13 ?_
 refine wRUN trivial ?_
 refine w7 (op_data [] he) trivial ?_
 refine wRUN hn0 ?_
 exact wRet (ret_data []) Tryz.results13
theorem markReadResult_ac (c at1 : Int) (ys : List CellD) (K es : Nat) (e : TypeId) (hes : ys ≠ [] → es = 5) (hK : K + 5 * ys.length ≤ 3000000000) :
  AC Tryz.prog 12 [.agg [.c (.int .i64 c), .c (.int .i64 at1), .own (0, 0)], .c (.int .i64 K)] [((0, 0), .row false es e (ys.map CellD.cs))] (.c (.int .i64 ((K + 5 * ys.length : Nat) : Int))) [((0, 0), .row false es e ((marks K ys.length).map CellD.cs))] := by
 have he := markCellS_ac ys K es e hes hK
 refine wEnter Tryz.func12 Tryz.ntmps12 ?_
 refine wRUN trivial ?_
 refine w9 (op_own (0, 0) he) trivial ?_
 refine wRUN trivial ?_
 exact wRetOf (ret_of [((0, 0), (0, 0))] []) Tryz.results12 hK
theorem heldReadResult_nil (c at1 : Int) (K : Nat) (hK : K ≤ 3000000000) : AC Tryz.prog 13 [.agg [.c (.int .i64 c), .c (.int .i64 at1), .nils], .c (.int .i64 K)] [] (.c (.int .i64 K)) [] := by
 have he := heldCellS_ac 0 K (by omega)
 rw [show ((K + 5 * 0 : Nat) : Int) = (K : Int) from rfl, show marks K 0 = [] from rfl] at he
 have hn0 : decide ((K : Int) < 0) = false := by simp
 refine wEnter Tryz.func13 Tryz.ntmps13 ?_
 refine wRUN trivial ?_
 refine w7 (op_data [] he) @List.map_nil.{0,0} ?_
 refine wRUN hn0 ?_
 exact wRet (ret_data []) Tryz.results13
theorem markReadResult_nil (c at1 : Int) (K : Nat) : AC Tryz.prog 12 [.agg [.c (.int .i64 c), .c (.int .i64 at1), .nils], .c (.int .i64 K)] [] (.c (.int .i64 K)) [] := by
 have he := markCellS_nil K
 refine wEnter Tryz.func12 Tryz.ntmps12 ?_
 refine wRUN trivial ?_
 refine w7 (op_data [] he) trivial ?_
 refine wRUN trivial ?_
 exact wRet (ret_data []) Tryz.results12
end Go.Proofs.YtlciedpfjhkkdaaGreatDoor
namespace Go.Proofs.YtlciedpfjhkkdaaGreatDoor
open Go.RowKit
section
variable {P : Program} {ops : Array Oper} {r : List Oper} {σ τ : ASt} {fs : List AEff} {K : ASt → List AEff → Prop} {E : AEff}
theorem Fits.ofB (bw : List Id) (ρ ρ' : List (Id × Id)) {fz : List (Id × AO)} {m : Mem} {res : AV} {m' : Mem} (h1 : MatL (rn ρ) σ.mem bw m) (h2 : (m.all fun p => p.2.refs m) = true) (hfz : frzOf σ.mem bw = fz) (hids : fz.map (·.1) = bw) (hndb : bw.Nodup) (h3 : (m.map (·.1)).Nodup) (h4 : (m.filterMap fun p => if p.2.live then rn ρ p.1 else none).Nodup)
  (hl : (m.all fun p => p.2.live) = true) (hl' : (m'.all fun p => p.2.live) = true) (hnd : (m'.map fun p => rnF ρ' p.1).Nodup) (hnd' : (m'.map (·.1)).Nodup)
  (hnew : ∀ p, p ∈ m' → ((m.get p.1).isSome = true ∧ rn ρ p.1 = some (rnF ρ' p.1)) ∨ (m.get p.1 = none ∧ σ.mem.get (rnF ρ' p.1) = none))
  (hbw : ∀ j, j ∈ (m.filterMap fun p => if p.2.live then rn ρ p.1 else none) → j ∉ bw) : Fits σ (rn ρ) bw fz false (rnF ρ') m res m' := by
 subst hfz
 refine ⟨MatM.of h1 h2 h3 h4 hbw, fun p hp => List.all_eq_true.1 hl p hp, hnd, hnd', fun p hp => List.all_eq_true.1 hl' p hp, fun p hp => ?_, fun p hp => ?_, fun _ j hj => by rw [hids]; exact hj, by rw [hids]; exact hndb, fun h => by cases h⟩
 ·rcases hnew p hp with ⟨g1, g2⟩ | g
  ·obtain ⟨o, ho⟩ := Option.isSome_iff_exists.1 g1
   exact .inl ⟨o, ho, g2⟩
  ·exact .inr g
 ·unfold frzOf at hp
  simp only [List.mem_filterMap, Option.map_eq_some_iff] at hp
  obtain ⟨j, hj, rows, hr, rfl⟩ := hp
  exact ⟨hj, rows, rfl, hr⟩
theorem Fits.ofC (bw : List Id) (ρ ρ' : List (Id × Id)) {m : Mem} {res : AV} {m' : Mem} (h1 : MatL (rn ρ) σ.mem bw m) (h2 : (m.all fun p => p.2.refs m) = true) (hc1 : res.closed = true) (hc2 : (m'.all fun p => p.2.closed) = true) (h3 : (m.map (·.1)).Nodup) (h4 : (m.filterMap fun p => if p.2.live then rn ρ p.1 else none).Nodup)
  (hl : (m.all fun p => p.2.live) = true) (hl' : (m'.all fun p => p.2.live) = true) (hnd : (m'.map fun p => rnF ρ' p.1).Nodup) (hnd' : (m'.map (·.1)).Nodup)
  (hnew : ∀ p, p ∈ m' → ((m.get p.1).isSome = true ∧ rn ρ p.1 = some (rnF ρ' p.1)) ∨ (m.get p.1 = none ∧ σ.mem.get (rnF ρ' p.1) = none))
  (hbw : ∀ j, j ∈ (m.filterMap fun p => if p.2.live then rn ρ p.1 else none) → j ∉ bw) : Fits σ (rn ρ) bw [] true (rnF ρ') m res m' := by
 refine ⟨MatM.of h1 h2 h3 h4 hbw, fun p hp => List.all_eq_true.1 hl p hp, hnd, hnd', fun p hp => List.all_eq_true.1 hl' p hp, fun p hp => ?_, fun p hp => absurd hp (by simp), fun h => Bool.noConfusion h, List.nodup_nil, fun _ => ⟨hc1, fun p hp => List.all_eq_true.1 hc2 p hp⟩⟩
 rcases hnew p hp with ⟨g1, g2⟩ | g
 ·obtain ⟨o, ho⟩ := Option.isSome_iff_exists.1 g1
  exact .inl ⟨o, ho, g2⟩
 ·exact .inr g
theorem op_callC (bw : List Id) (ρ ρ' : List (Id × Id)) {d : Option Tmp} {fv : Operand} {args : Array Operand} {tys : Array TypeId} {ty : TypeId} {pos : String} {af : Array Edge} {gd : Option (Nat × Bool)} {m : Mem} {res : AV} {m' : Mem} {f : FuncId} {caps cargs : List AV}
  (hac : AC P f cargs m res m') (hg : gate ops σ ⟨d, .call ⟨.value fv, args, tys⟩, ty, pos, af, gd⟩ = some true) (hv : σ.ev fv = .clo f caps) (hc : callable P f = true)
  (hm : Mats (rn ρ) σ.mem bw cargs (args.toList.map σ.ev ++ caps)) (hrefs : refsL m cargs = true) (h1 : MatL (rn ρ) σ.mem bw m) (h2 : (m.all fun p => p.2.refs m) = true) (hc1 : res.closed = true) (hc2 : (m'.all fun p => p.2.closed) = true) (h3 : (m.map (·.1)).Nodup) (h4 : (m.filterMap fun p => if p.2.live then rn ρ p.1 else none).Nodup)
  (hl : (m.all fun p => p.2.live) = true) (hl' : (m'.all fun p => p.2.live) = true) (hnd : (m'.map fun p => rnF ρ' p.1).Nodup) (hnd' : (m'.map (·.1)).Nodup)
  (hnew : ∀ p, p ∈ m' → ((m.get p.1).isSome = true ∧ rn ρ p.1 = some (rnF ρ' p.1)) ∨ (m.get p.1 = none ∧ σ.mem.get (rnF ρ' p.1) = none))
  (hbw : ∀ j, j ∈ (m.filterMap fun p => if p.2.live then rn ρ p.1 else none) → j ∉ bw)
  (he : (⟨bw, kills (rn ρ) m ++ [] ++ m'.map (fun p => (rnF ρ' p.1, p.2.ren (rnF ρ'))), res.ren (rnF ρ')⟩ : AEff) = E) (hτ : σ.upd d E = τ) (h : awpOps P ops r τ (fs ++ [E]) K) : awpOps P ops (⟨d, .call ⟨.value fv, args, tys⟩, ty, pos, af, gd⟩ :: r) σ fs K := by
 subst he
 have := op_call hac hg hv hc hm hrefs (Fits.ofC bw ρ ρ' h1 h2 hc1 hc2 h3 h4 hl hl' hnd hnd' hnew hbw) (τ := τ) (r := r) (fs := fs) (K := K)
 unfold callEff at this
 exact this hτ h
theorem op_callB (bw : List Id) (ρ ρ' : List (Id × Id)) {d : Option Tmp} {fv : Operand} {args : Array Operand} {tys : Array TypeId} {ty : TypeId} {pos : String} {af : Array Edge} {gd : Option (Nat × Bool)} {fz : List (Id × AO)} {m : Mem} {res : AV} {m' : Mem} {f : FuncId} {caps cargs : List AV}
  (hac : AC P f cargs m res m') (hg : gate ops σ ⟨d, .call ⟨.value fv, args, tys⟩, ty, pos, af, gd⟩ = some true) (hv : σ.ev fv = .clo f caps) (hc : callable P f = true)
  (hm : Mats (rn ρ) σ.mem bw cargs (args.toList.map σ.ev ++ caps)) (hrefs : refsL m cargs = true) (h1 : MatL (rn ρ) σ.mem bw m) (h2 : (m.all fun p => p.2.refs m) = true) (hfz : frzOf σ.mem bw = fz) (hids : fz.map (·.1) = bw) (hndb : bw.Nodup) (h3 : (m.map (·.1)).Nodup) (h4 : (m.filterMap fun p => if p.2.live then rn ρ p.1 else none).Nodup)
  (hl : (m.all fun p => p.2.live) = true) (hl' : (m'.all fun p => p.2.live) = true) (hnd : (m'.map fun p => rnF ρ' p.1).Nodup) (hnd' : (m'.map (·.1)).Nodup)
  (hnew : ∀ p, p ∈ m' → ((m.get p.1).isSome = true ∧ rn ρ p.1 = some (rnF ρ' p.1)) ∨ (m.get p.1 = none ∧ σ.mem.get (rnF ρ' p.1) = none))
  (hbw : ∀ j, j ∈ (m.filterMap fun p => if p.2.live then rn ρ p.1 else none) → j ∉ bw)
  (he : (⟨bw, kills (rn ρ) m ++ fz ++ m'.map (fun p => (rnF ρ' p.1, p.2.ren (rnF ρ'))), res.ren (rnF ρ')⟩ : AEff) = E) (hτ : σ.upd d E = τ) (h : awpOps P ops r τ (fs ++ [E]) K) : awpOps P ops (⟨d, .call ⟨.value fv, args, tys⟩, ty, pos, af, gd⟩ :: r) σ fs K := by
 subst he
 have := op_call hac hg hv hc hm hrefs (Fits.ofB bw ρ ρ' h1 h2 hfz hids hndb h3 h4 hl hl' hnd hnd' hnew hbw) (τ := τ) (r := r) (fs := fs) (K := K)
 unfold callEff at this
 exact this hτ h
end
attribute [go_sem] AO.closed
theorem wCallC {A Φ G' G : Prop} (f : A) (F : Φ) (h : G') (e : A → Φ → G' → G := by intro f F hh; apply f; (iterate 7 (focus (first | (simp only [go_sem, Nat.reduceEqDiff, Nat.reduceAdd, Nat.reduceSub, Nat.reduceLeDiff, Nat.reduceMul, Nat.reduceBEq, Nat.reduceLT, Int.reduceToNat, reduceCtorEq, F]; first | done | exact rfl | (and_intros <;> rfl)) | exact rfl | decide))); (iterate 10 (focus (simp [go_sem, F]; done))); (iterate 2 (focus (first | (simp only [go_sem, Nat.reduceEqDiff, Nat.reduceAdd, Nat.reduceSub, Nat.reduceLeDiff, Nat.reduceMul, Nat.reduceBEq, Nat.reduceLT, Int.reduceToNat, reduceCtorEq, F]; first | done | exact rfl | (and_intros <;> rfl)) | exact rfl | decide))); exact hh) : G := e f F h
end Go.Proofs.YtlciedpfjhkkdaaGreatDoor
namespace Go.Proofs.YtlciedpfjhkkdaaGreatDoor
open Go.RowKit
end Go.Proofs.YtlciedpfjhkkdaaGreatDoor
namespace Go.Proofs.YtlciedpfjhkkdaaGreatDoor
open Go.RowKit
set_option maxRecDepth 10000
variable {o : Obj}
theorem lawFromStream_small1 (x0 : List (List CellD)) (hz0 : ∀ x ∈ x0, Sized63 x) (hl0 : x0.length ≤ 9223372036854775807) (hm0 : ∀ x ∈ x0, x.length ≤ 9223372036854775807) (hb0' : (szLR x0 1048576) < 0) : AC Tryz.prog 7 [.c (.sl (x0.map encCs))] (tabM o) (.c (.bool true)) (tabM o) := by
 have hq0 := szLR_le x0 1048576 (by omega)
 have hs0 := szCellSS_ac x0 hz0 (by omega) (fun x h => by have := hm0 x h; omega) 1048576 (by omega) (by omega)
 have hb0 : decide ((szLR x0 1048576) < 0) = true := by simpa using hb0'
 refine wEnter Tryz.func7 Tryz.ntmps7 ?_
 refine wRUN trivial ?_
 refine w7 (op_data [] hs0) trivial ?_
 refine wRUN hb0 ?_
 exact wRetOf (ret_of [((8, 0), (8, 0))] []) Tryz.results7 hb0
theorem lawFromStream_one (x0 : List (List CellD)) (hz0 : ∀ x ∈ x0, Sized63 x) (hl0 : x0.length ≤ 1048576) (hm0 : ∀ x ∈ x0, x.length ≤ 1048576) (hb0' : ¬ (szLR x0 1048576) < 0) (c at1 : Int) (ys : List CellD) (hy : ys.length ≤ 1000000) (hk9 : 1 + 5 * tot x0 ≤ 3000000000) (hspec : AC Tryz.prog 31 [.c (.sl (x0.map encCs))] [] (.agg [.c (.int .i64 c), .c (.int .i64 at1), cellsA ys]) []) (himpl : AC Tryz.prog 18 [.c (.sl (x0.map encCs))] (tabM o) (.agg [.c (.int .i64 c), .c (.int .i64 at1), .own (0, 0)]) [((0, 0), .row false 5 94 (ys.map CellD.cs)), ((8, 0), .blk (tabR o) [])]) : AC Tryz.prog 7 [.c (.sl (x0.map encCs))] (tabM o) (.c (.bool true)) (tabM o) := by
 have hq0 := szLR_le x0 1048576 (by omega)
 have hs0 := szCellSS_ac x0 hz0 (by omega) (fun x h => by have := hm0 x h; omega) 1048576 (by omega) (by omega)
 have hb0 : decide ((szLR x0 1048576) < 0) = false := by simpa using hb0'
 have hto0 := toCellSS_ac x0 hl0 hm0
 have heq0 := eqCellSS_ac x0 (by omega) (fun x h => by have := hm0 x h; omega)
 have hmk0 := markCellSS_ac x0 (1) 22 (by omega) (by omega)
 have he := eqReadResult_ac c at1 ys (by omega)
 have hm := markReadResult_ac c at1 ys 1 5 94 (fun _ => rfl) (by omega)
 have hh := heldReadResult_ac c at1 ys.length 1 (by omega)
 have hm0 : decide (((1 + 5 * ys.length : Nat) : Int) < 0) = false := by simp; omega
 have hmm : (((1 + 5 * ys.length : Nat) : Int) != ((1 + 5 * ys.length : Nat) : Int)) = false := by simp
 have hk0 : decide (((1 + 5 * tot x0 : Nat) : Int) < 0) = false := by simp; omega
 refine wEnter Tryz.func7 Tryz.ntmps7 ?_
 refine wRUN trivial ?_
 refine w7 (op_data [] hs0) trivial ?_
 refine wRUN hb0 ?_
 refine w12 (op_rowT [] hto0) trivial ?_
 refine wRUN hb0 ?_
 refine w9 (op_shared [(17, 0)] hspec) trivial ?_
 refine wRUN hb0 ?_
 refine w12 (op_rowT [] hto0) trivial ?_
 refine wRUN hb0 ?_
 refine wCallC (op_callC [(20, 0)] [((8, 0), (8, 0))] [((0, 0), (22, 0)), ((8, 0), (8, 0))] himpl) trivial ?_
 refine wRUN hb0 ?_
 refine w7 (op_data [(22, 0)] he) trivial ?_
 refine wRUN (j2 hb0 hk0) ?_
 refine w12 (op_rowT [] hto0) trivial ?_
 refine wRUN (j2 hb0 hk0) ?_
 refine w7 (op_data [(20, 0), (29, 0)] heq0) trivial ?_
 refine wRUN (j2 hb0 hk0) ?_
 refine w9 (op_own (20, 0) hmk0) trivial ?_
 refine wRUN hk0 ?_
 refine w7 (op_data [(22, 0)] he) trivial ?_
 refine wRUN hk0 ?_
 refine w9 (op_own (22, 0) hm) trivial ?_
 refine wRUN (j2 hm0 hmm) ?_
 refine w7 (op_data [(22, 0)] hh) trivial ?_
 refine wRUN (j2 hm0 hmm) ?_
 refine w12 (op_rowT [] hto0) trivial ?_
 refine wRUN (j2 hm0 hmm) ?_
 refine wCallC (op_callC [(55, 0)] [((8, 0), (8, 0))] [((0, 0), (56, 0)), ((8, 0), (8, 0))] himpl) trivial ?_
 refine wRUN (j2 hm0 hmm) ?_
 refine w7 (op_data [(56, 0)] he) trivial ?_
 refine wRUN (j2 hm0 hk0) ?_
 refine w7 (op_data [(22, 0)] hh) trivial ?_
 refine wRUN (j2 hm0 hmm) ?_
 exact wRetOf (ret_of [((8, 0), (8, 0))] []) Tryz.results7 hb0
theorem lawFromStream_none (x0 : List (List CellD)) (hz0 : ∀ x ∈ x0, Sized63 x) (hl0 : x0.length ≤ 1048576) (hm0 : ∀ x ∈ x0, x.length ≤ 1048576) (hb0' : ¬ (szLR x0 1048576) < 0) (c at1 : Int) (hk9 : 1 + 5 * tot x0 ≤ 3000000000) (hspec : AC Tryz.prog 31 [.c (.sl (x0.map encCs))] [] (.agg [.c (.int .i64 c), .c (.int .i64 at1), .c (.sl [])]) []) (himpl : AC Tryz.prog 18 [.c (.sl (x0.map encCs))] (tabM o) (.agg [.c (.int .i64 c), .c (.int .i64 at1), .nils]) (tabM o)) : AC Tryz.prog 7 [.c (.sl (x0.map encCs))] (tabM o) (.c (.bool true)) (tabM o) := by
 have hq0 := szLR_le x0 1048576 (by omega)
 have hs0 := szCellSS_ac x0 hz0 (by omega) (fun x h => by have := hm0 x h; omega) 1048576 (by omega) (by omega)
 have hb0 : decide ((szLR x0 1048576) < 0) = false := by simpa using hb0'
 have hto0 := toCellSS_ac x0 hl0 hm0
 have heq0 := eqCellSS_ac x0 (by omega) (fun x h => by have := hm0 x h; omega)
 have hmk0 := markCellSS_ac x0 (1) 22 (by omega) (by omega)
 have he := eqReadResult_ac c at1 [] (by simp)
 have hm := markReadResult_nil c at1 1
 have hh := heldReadResult_nil c at1 1 (by omega)
 have hm0 : decide (((1 : Nat) : Int) < 0) = false := rfl
 have hmm : (((1 : Nat) : Int) != ((1 : Nat) : Int)) = false := by simp
 have hk0 : decide (((1 + 5 * tot x0 : Nat) : Int) < 0) = false := by simp; omega
 refine wEnter Tryz.func7 Tryz.ntmps7 ?_
 refine wRUN trivial ?_
 refine w7 (op_data [] hs0) trivial ?_
 refine wRUN hb0 ?_
 refine w12 (op_rowT [] hto0) trivial ?_
 refine wRUN hb0 ?_
 refine w9 (op_shared [(17, 0)] hspec) trivial ?_
 refine wRUN hb0 ?_
 refine w12 (op_rowT [] hto0) trivial ?_
 refine wRUN hb0 ?_
 refine wCallC (op_callC [(20, 0)] [((8, 0), (8, 0))] [((8, 0), (8, 0))] himpl) trivial ?_
 refine wRUN hb0 ?_
 refine w7 (op_data [] he) @List.map_nil.{0,0} ?_
 refine wRUN (j2 hb0 hk0) ?_
 refine w12 (op_rowT [] hto0) trivial ?_
 refine wRUN (j2 hb0 hk0) ?_
 refine w7 (op_data [(20, 0), (29, 0)] heq0) trivial ?_
 refine wRUN (j2 hb0 hk0) ?_
 refine w9 (op_own (20, 0) hmk0) trivial ?_
 refine wRUN hk0 ?_
 refine w7 (op_data [] he) @List.map_nil.{0,0} ?_
 refine wRUN hk0 ?_
 refine w7 (op_data [] hm) trivial ?_
 refine wRUN (j2 hm0 hmm) ?_
 refine w7 (op_data [] hh) trivial ?_
 refine wRUN (j2 hm0 hmm) ?_
 refine w12 (op_rowT [] hto0) trivial ?_
 refine wRUN (j2 hm0 hmm) ?_
 refine wCallC (op_callC [(55, 0)] [((8, 0), (8, 0))] [((8, 0), (8, 0))] himpl) trivial ?_
 refine wRUN (j2 hm0 hmm) ?_
 refine w7 (op_data [] he) @List.map_nil.{0,0} ?_
 refine wRUN (j2 hm0 hk0) ?_
 refine w7 (op_data [] hh) trivial ?_
 refine wRUN (j2 hm0 hmm) ?_
 exact wRetOf (ret_of [((8, 0), (8, 0))] []) Tryz.results7 hb0
theorem lawFromStream_ac (x0 : List (List CellD)) (hz0 : ∀ x ∈ x0, Sized63 x) (hl0 : x0.length ≤ 9223372036854775807) (hy0 : ∀ x ∈ x0, x.length ≤ 9223372036854775807) : AC Tryz.prog 7 [.c (.sl (x0.map encCs))] (tabM o) (.c (.bool true)) (tabM o) := by
 by_cases hsz : szLR x0 1048576 < 0
 ·exact lawFromStream_small1 x0 hz0 hl0 hy0 hsz
 ·obtain ⟨h1, h2, h3⟩ := szLR_tot hsz (by omega)
  have hs := specFrom_ac x0 hl0
  cases hf : fromR x0 with
  | mk c y =>
   cases y with
   | some y =>
    obtain ⟨rfl, hy⟩ := fromR_right hf
    have hel := enc_len y
    have hyc := hy.2.1
    rw [hf, rrA_some] at hs
    exact lawFromStream_one x0 hz0 h1 h3 hsz 0 0 y.enc (by omega) (by omega) hs (implFrom_ok x0 hz0 hf)
   | none =>
    obtain ⟨c, a⟩ := c
    rw [hf, rrA_none] at hs
    exact lawFromStream_none x0 hz0 h1 h3 hsz c a (by omega) hs (implFrom_bad x0 hz0 hf)
end Go.Proofs.YtlciedpfjhkkdaaGreatDoor
