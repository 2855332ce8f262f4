/- Texts of this proof: E34 P00 P33. -/
import Derived.Test.YtfmnoljflcpbgaaGreatDoorKE6
import Derived.Test.YtfmnoljflcpbgaaGreatDoorKE35uG02
import Derived.Test.YtfmnoljflcpbgaaGreatDoorKR28
import Derived.Test.YtfmnoljflcpbgaaGreatDoorKG16uE37
set_option linter.unusedSimpArgs false
set_option linter.unusedVariables false
set_option linter.unnecessarySimpa false
namespace Go.Proofs.YtfmnoljflcpbgaaGreatDoor
open Go.RowKit
section
variable {P : Program} {ops : Array Oper} {r : List Oper} {σ τ : ASt} {fs : List AEff} {K : ASt → List AEff → Prop} {E : AEff}
theorem Fits.ofB (bw : List Id) (ρ ρ' : List (Id × Id)) {fz : List (Id × AO)} {m : Mem} {res : AV} {m' : Mem} (h1 : MatL (rn ρ) σ.mem bw m) (h2 : (m.all fun p => p.2.refs m) = true) (hfz : frzOf σ.mem bw = fz) (hids : fz.map (·.1) = bw) (hndb : bw.Nodup) (h3 : (m.map (·.1)).Nodup) (h4 : (m.filterMap fun p => if p.2.live then rn ρ p.1 else none).Nodup)
    (hl : (m.all fun p => p.2.live) = true) (hl' : (m'.all fun p => p.2.live) = true) (hnd : (m'.map fun p => rnF ρ' p.1).Nodup) (hnd' : (m'.map (·.1)).Nodup)
    (hnew : ∀ p, p ∈ m' → ((m.get p.1).isSome = true ∧ rn ρ p.1 = some (rnF ρ' p.1)) ∨ (m.get p.1 = none ∧ σ.mem.get (rnF ρ' p.1) = none))
    (hbw : ∀ j, j ∈ (m.filterMap fun p => if p.2.live then rn ρ p.1 else none) → j ∉ bw) : Fits σ (rn ρ) bw fz false (rnF ρ') m res m' := by
  subst hfz
  refine ⟨MatM.of h1 h2 h3 h4 hbw, fun p hp => List.all_eq_true.1 hl p hp, hnd, hnd', fun p hp => List.all_eq_true.1 hl' p hp, fun p hp => ?_, fun p hp => ?_, fun _ j hj => by rw [hids]; exact hj, by rw [hids]; exact hndb, fun h => by cases h⟩
  · rcases hnew p hp with ⟨g1, g2⟩ | g
    · obtain ⟨o, ho⟩ := Option.isSome_iff_exists.1 g1
      exact .inl ⟨o, ho, g2⟩
    · exact .inr g
  · unfold frzOf at hp
    simp only [List.mem_filterMap, Option.map_eq_some_iff] at hp
    obtain ⟨j, hj, rows, hr, rfl⟩ := hp
    exact ⟨hj, rows, rfl, hr⟩
theorem op_callB (bw : List Id) (ρ ρ' : List (Id × Id)) {d : Option Tmp} {fv : Operand} {args : Array Operand} {tys : Array TypeId} {ty : TypeId} {pos : String} {af : Array Edge} {gd : Option (Nat × Bool)} {fz : List (Id × AO)} {m : Mem} {res : AV} {m' : Mem} {f : FuncId} {caps cargs : List AV}
    (hac : AC P f cargs m res m') (hg : gate ops σ ⟨d, .call ⟨.value fv, args, tys⟩, ty, pos, af, gd⟩ = some true) (hv : σ.ev fv = .clo f caps) (hc : callable P f = true)
    (hm : Mats (rn ρ) σ.mem bw cargs (args.toList.map σ.ev ++ caps)) (hrefs : refsL m cargs = true) (h1 : MatL (rn ρ) σ.mem bw m) (h2 : (m.all fun p => p.2.refs m) = true) (hfz : frzOf σ.mem bw = fz) (hids : fz.map (·.1) = bw) (hndb : bw.Nodup) (h3 : (m.map (·.1)).Nodup) (h4 : (m.filterMap fun p => if p.2.live then rn ρ p.1 else none).Nodup)
    (hl : (m.all fun p => p.2.live) = true) (hl' : (m'.all fun p => p.2.live) = true) (hnd : (m'.map fun p => rnF ρ' p.1).Nodup) (hnd' : (m'.map (·.1)).Nodup)
    (hnew : ∀ p, p ∈ m' → ((m.get p.1).isSome = true ∧ rn ρ p.1 = some (rnF ρ' p.1)) ∨ (m.get p.1 = none ∧ σ.mem.get (rnF ρ' p.1) = none))
    (hbw : ∀ j, j ∈ (m.filterMap fun p => if p.2.live then rn ρ p.1 else none) → j ∉ bw)
    (he : (⟨bw, kills (rn ρ) m ++ fz ++ m'.map (fun p => (rnF ρ' p.1, p.2.ren (rnF ρ'))), res.ren (rnF ρ')⟩ : AEff) = E) (hτ : σ.upd d E = τ) (h : awpOps P ops r τ (fs ++ [E]) K) : awpOps P ops (⟨d, .call ⟨.value fv, args, tys⟩, ty, pos, af, gd⟩ :: r) σ fs K := by
  subst he
  have := op_call hac hg hv hc hm hrefs (Fits.ofB bw ρ ρ' h1 h2 hfz hids hndb h3 h4 hl hl' hnd hnd' hnew hbw) (τ := τ) (r := r) (fs := fs) (K := K)
  unfold callEff at this
  exact this hτ h
end
theorem wCallB {A Φ G' G : Prop} (f : A) (F : Φ) (h : G') (e : A → Φ → G' → G := by intro f F hh; apply f; (iterate 10 (focus (first | (simp only [go_sem, Nat.reduceEqDiff, Nat.reduceAdd, Nat.reduceSub, Nat.reduceLeDiff, Nat.reduceMul, Nat.reduceBEq, Nat.reduceLT, Int.reduceToNat, reduceCtorEq, F]; first | done | exact rfl | (and_intros <;> rfl)) | exact rfl | decide))); (iterate 8 (focus (simp [go_sem, F]; done))); (iterate 2 (focus (first | (simp only [go_sem, Nat.reduceEqDiff, Nat.reduceAdd, Nat.reduceSub, Nat.reduceLeDiff, Nat.reduceMul, Nat.reduceBEq, Nat.reduceLT, Int.reduceToNat, reduceCtorEq, F]; first | done | exact rfl | (and_intros <;> rfl)) | exact rfl | decide))); exact hh) : G := e f F h
end Go.Proofs.YtfmnoljflcpbgaaGreatDoor

/- Comparing answers that are a code and a text, or a code and a number. -/
namespace Go.Proofs.YtfmnoljflcpbgaaGreatDoor
open Go.RowKit
theorem eqTextR_ac (c : Int) (s : ByteArray) : AC Tryz.prog 14 [.agg [.c (.int .i64 c), .c (.str s)], .agg [.c (.int .i64 c), .c (.str s)]] [] (.c (.bool true)) [] := by
  have h1 : (c != c) = false := by simp
  have h2 : (s.toList == s.toList) = true := by simp
  have h3 : (!true) = false := rfl
  refine wEnter Tryz.func14 Tryz.ntmps14 ?_
  refine wRUN (j3 h1 h2 h3) ?_
  exact wRetOf (ret_of [] []) Tryz.results14 h1
theorem eqIntR_ac (c n : Int) : AC Tryz.prog 20 [.agg [.c (.int .i64 c), .c (.int .i64 n)], .agg [.c (.int .i64 c), .c (.int .i64 n)]] [] (.c (.bool true)) [] := by
  have h1 : (c != c) = false := by simp
  have h2 : (n != n) = false := by simp
  refine wEnter Tryz.func20 Tryz.ntmps20 ?_
  refine wRUN (j2 h1 h2) ?_
  exact wRetOf (ret_of [] []) Tryz.results20 h1
end Go.Proofs.YtfmnoljflcpbgaaGreatDoor

/- laws.FnExactFlatText: the walk of the law itself, by the engine. -/
namespace Go.Proofs.YtfmnoljflcpbgaaGreatDoor
open Go.RowKit
set_option maxRecDepth 10000
variable {o : Obj}
set_option maxHeartbeats 8000000 in
theorem lawFlatText_small1 (x0 : List CellD) (hz0 : Sized63 x0) (hl0 : x0.length ≤ 9223372036854775807) (hb0' : (szR x0 1048576) < 0) : AC Tryz.prog 7 [cellsA x0] (tabM o) (.c (.bool true)) (tabM o) := by
  have hq0 := szR_le x0 1048576 (by omega)
  have hs0 := szCellS_ac x0 hz0 (by omega) 1048576 (by omega) (by omega)
  have hb0 : decide ((szR x0 1048576) < 0) = true := by simpa using hb0'
  refine wEnter Tryz.func7 Tryz.ntmps7 ?_
  refine wRUN trivial ?_
  refine w7 (op_data [] hs0) trivial ?_
  refine wRUN hb0 ?_
  exact wRetOf (ret_of [((8, 0), (8, 0))] []) Tryz.results7 hb0
set_option maxHeartbeats 8000000 in
theorem lawFlatText_one (x0 : List CellD) (hz0 : Sized63 x0) (hl0 : x0.length ≤ 1048576) (hb0' : ¬ (szR x0 1048576) < 0) (c : Int) (s : ByteArray) (hspec : AC Tryz.prog 26 [cellsA x0] [] (.agg [.c (.int .i64 c), .c (.str s)]) []) (himpl : AC Tryz.prog 27 [cellsA x0] (tabM o) (.agg [.c (.int .i64 c), .c (.str s)]) (tabM o)) : AC Tryz.prog 7 [cellsA x0] (tabM o) (.c (.bool true)) (tabM o) := by
  have hq0 := szR_le x0 1048576 (by omega)
  have hs0 := szCellS_ac x0 hz0 (by omega) 1048576 (by omega) (by omega)
  have hb0 : decide ((szR x0 1048576) < 0) = false := by simpa using hb0'
  have hto0 := toCellS_ac x0 hl0
  have heq0 := eqCellS_ac x0 (by omega)
  have he := eqTextR_ac c s
  refine wEnter Tryz.func7 Tryz.ntmps7 ?_
  refine wRUN trivial ?_
  refine w7 (op_data [] hs0) trivial ?_
  refine wRUN hb0 ?_
  refine w12 (op_rowT [] hto0) trivial ?_
  refine wRUN hb0 ?_
  refine w7 (op_data [(13, 0)] hspec) trivial ?_
  refine wRUN hb0 ?_
  refine w12 (op_rowT [] hto0) trivial ?_
  refine wRUN hb0 ?_
  refine wCallB (op_callB [(16, 0)] [((8, 0), (8, 0))] [((8, 0), (8, 0))] himpl) trivial ?_
  refine wRUN hb0 ?_
  refine w7 (op_data [] he) trivial ?_
  refine wRUN hb0 ?_
  refine w12 (op_rowT [] hto0) trivial ?_
  refine wRUN hb0 ?_
  refine w7 (op_data [(16, 0), (25, 0)] heq0) trivial ?_
  refine wRUN hb0 ?_
  exact wRetOf (ret_of [((8, 0), (8, 0))] []) Tryz.results7 hb0
theorem lawFlatText_ac (x0 : List CellD) (hz : Sized63 x0) (hl9 : x0.length ≤ 9223372036854775807) : AC Tryz.prog 7 [cellsA x0] (tabM o) (.c (.bool true)) (tabM o) := by
  by_cases hsz : szR x0 1048576 < 0
  · exact lawFlatText_small1 x0 hz hl9 hsz
  · have hl := szR_len (xs := x0) (left := 1048576) (by omega) (by omega)
    rcases dec_cases x0 with ⟨t, ht⟩ | ⟨c, hc, hd⟩
    · obtain ⟨e1, w1, w2, w3⟩ := dec_ok ht
      have hr : t.right := ⟨w1, w2, w3⟩
      have hs := specFlat_ac hr
      rw [← e1] at hs
      exact lawFlatText_one x0 hz hl hsz 0 _ hs (implFlat_ac x0 hz ht hr)
    · exact lawFlatText_one x0 hz hl hsz c _ (specFlat_bad x0 hc hd) (implFlat_bad x0 hz hc hd)
end Go.Proofs.YtfmnoljflcpbgaaGreatDoor
