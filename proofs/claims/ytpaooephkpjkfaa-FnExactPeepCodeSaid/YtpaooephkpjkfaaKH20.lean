/- impl.PeepCode, by the engine. -/
import Derived.Test.YtpaooephkpjkfaaKH13
import Derived.Test.YtpaooephkpjkfaaKG79
import Derived.Test.YtpaooephkpjkfaaKG40
set_option linter.unusedSimpArgs false
set_option linter.unusedVariables false
set_option linter.unnecessarySimpa false
namespace Go.Proofs.Ytpaooephkpjkfaa
open Go.RowKit
set_option maxRecDepth 10000
theorem tgts_has (l : List InD) {k : Nat} (h : k < l.length) : (tgts l l.length).contains (k : Int) = isT l k := by
  unfold tgts
  cases hb : isT l k with
  | true => exact List.contains_iff_mem.2 (List.mem_filter.2 ⟨List.mem_map.2 ⟨k, List.mem_range.2 h, rfl⟩, hb⟩)
  | false =>
    rw [Bool.eq_false_iff]
    intro hc
    have := (List.mem_filter.1 (List.contains_iff_mem.1 hc)).2
    rw [hb] at this
    cases this
set_option maxHeartbeats 4000000 in
theorem isLeftOut_ac (l : List InD) (i : Nat) (h : i < l.length) (hl : l.length ≤ 6000) : AC Try.prog 21 [insA l, .c (.int .i64 i), .c (.sl ((tgts l l.length).map intCs))] [] (.c (.bool (leftOut l i))) [] := by
  have hln : (l.map InD.cs).length = l.length := by simp
  have hw := wrap_succ (k := i) (by omega)
  rw [leftOut_at h]
  by_cases h2 : i + 1 < l.length
  · rw [dif_pos h2]
    have hge : decide (((i + 1 : Nat) : Int) ≥ (l.length : Int)) = false := by simp; omega
    obtain ⟨hr0, hg0⟩ := ins_row h2
    obtain ⟨hr1, hg1⟩ := ins_row h
    have hcn := containsNum_ac (tgts l l.length) ((i + 1 : Nat) : Int) (by have := tgts_len l l.length; omega)
    rw [tgts_has l h2] at hcn
    generalize isT l ((i + 1 : Nat) : Int) = t at *
    generalize tgts l l.length = marks at *
    generalize l[i + 1] = e at *
    generalize l[i] = d at *
    cases h3 : e.op == 2 with
    | false =>
      have h3b : (e.op != 2) = true := by rw [bne, h3]; rfl
      refine wEnter Try.func21 Try.ntmps21 ?_
      refine wRUN (j6 hln hw hge hr0 hg0 h3b) ?_
      exact wRet (ret_data []) Try.results21
    | true =>
      have h3b : (e.op != 2) = false := by rw [bne, h3]; rfl
      cases t with
      | true =>
        refine wEnter Try.func21 Try.ntmps21 ?_
        refine wRUN (j6 hln hw hge hr0 hg0 h3b) ?_
        refine w7 (op_data [] hcn) trivial ?_
        refine wRUN trivial ?_
        exact wRet (ret_data []) Try.results21
      | false =>
        cases h1 : d.op == 1 with
        | true =>
          refine wEnter Try.func21 Try.ntmps21 ?_
          refine wRUN (j6 hln hw hge hr0 hg0 h3b) ?_
          refine w7 (op_data [] hcn) trivial ?_
          refine wRUN (j3 hr1 hg1 h1) ?_
          exact wRet (ret_data []) Try.results21
        | false =>
          cases h4 : d.op == 3 with
          | true =>
            refine wEnter Try.func21 Try.ntmps21 ?_
            refine wRUN (j6 hln hw hge hr0 hg0 h3b) ?_
            refine w7 (op_data [] hcn) trivial ?_
            refine wRUN (j4 hr1 hg1 h1 h4) ?_
            exact wRet (ret_data []) Try.results21
          | false =>
            refine wEnter Try.func21 Try.ntmps21 ?_
            refine wRUN (j6 hln hw hge hr0 hg0 h3b) ?_
            refine w7 (op_data [] hcn) trivial ?_
            refine wRUN (j4 hr1 hg1 h1 h4) ?_
            exact wRet (ret_data []) Try.results21
  · rw [dif_neg h2]
    have hge : decide (((i + 1 : Nat) : Int) ≥ (l.length : Int)) = true := by simp; omega
    refine wEnter Try.func21 Try.ntmps21 ?_
    refine wRUN (j3 hln hw hge) ?_
    exact wRet (ret_data []) Try.results21
/-- The row when so many have their new place. -/
def partP (ps : List Int) (out : List InD) (k : Nat) : List (List C) := ((out.take k).map (newArg ps) ++ out.drop k).map InD.os
theorem partP_at (ps : List Int) (out : List InD) {k : Nat} (h : k < out.length) : (partP ps out k)[k]? = some [.int .i64 out[k].op, .int .i64 out[k].arg, .osl (out[k].val.map CellD.cs)] := by
  unfold partP
  have hl : ((out.take k).map (newArg ps)).length = k := by rw [List.length_map, List.length_take]; omega
  rw [List.getElem?_map, List.getElem?_append_right (by omega), hl, Nat.sub_self, List.getElem?_drop, Nat.add_zero, List.getElem?_eq_getElem h]
  rfl
theorem partP_next (ps : List Int) (out : List InD) {k : Nat} (h : k < out.length) : (partP ps out k).set k (newArg ps out[k]).os = partP ps out (k + 1) := by
  unfold partP
  have hl : ((out.take k).map (newArg ps)).length = k := by rw [List.length_map, List.length_take]; omega
  rw [List.map_append, List.set_append_right _ _ (by rw [List.length_map]; omega), List.length_map, hl, Nat.sub_self, List.drop_eq_getElem_cons h, List.map_cons, List.set_cons_zero,
    List.take_succ_eq_append_getElem h, List.map_append, List.map_append, List.map_append, List.append_assoc]
  rfl
theorem partP_same {ps : List Int} {out : List InD} {k : Nat} (h : k < out.length) (hb : inPlace out[k].op = false) : partP ps out (k + 1) = partP ps out k := by
  have h1 := partP_next ps out h
  have h2 := partP_at ps out h
  have e : (newArg ps out[k]).os = [.int .i64 out[k].op, .int .i64 out[k].arg, .osl (out[k].val.map CellD.cs)] := by
    unfold newArg
    rw [hb]
    rfl
  rw [e] at h1
  rw [← h1]
  obtain ⟨h3, h4⟩ := List.getElem?_eq_some_iff.1 h2
  rw [← h4, List.set_getElem_self]
theorem implPeep_bad (l : List InD) (hz : ∀ d ∈ l, Sized d.val) (regs : Int) (h : (codeFault l regs).1 ≠ 0) : AC Try.prog 7 [insA l, .c (.int .i64 regs)] [] (codeR (codeFault l regs)) [] := by
  have hc := implCodeFault_ac l hz regs
  have hb : ((codeFault l regs).1 != 0) = true := by simpa using h
  unfold codeR at hc ⊢
  generalize codeFault l regs = r at *
  refine wEnter Try.func7 Try.ntmps7 ?_
  refine wRUN trivial ?_
  refine w7 (op_data [] hc) trivial ?_
  refine wRUN hb ?_
  exact wRet (ret_data []) Try.results7
set_option maxHeartbeats 16000000 in
theorem implPeep_ac (l : List InD) (hz : ∀ d ∈ l, Sized d.val) (hv : ∀ d ∈ l, d.val.length ≤ 1000000) (regs : Int) (h : (codeFault l regs).1 = 0) :
    AC Try.prog 7 [insA l, .c (.int .i64 regs)] [] (.agg [.c (.int .i64 0), .c (.int .i64 0), .own (0, 0), .c (.int .i64 regs)]) [((0, 0), .row true 3 41 ((peepV l).map InD.os))] := by
  obtain ⟨hn, hj, hm, he⟩ := codeFault_ok h
  have hln : (l.map InD.cs).length = l.length := by simp
  have hc := implCodeFault_ac l hz regs
  have hta := targets_ac l hn.2 hj
  have h00 : ((0 : Int) != 0) = false := rfl
  unfold codeR at hc
  rw [he] at hc
  dsimp only at hc
  have hz0 : ([] : List Int).map intCs = [] := rfl
  have hz1 : ([] : List InD).map InD.os = [] := rfl
  refine wEnter Try.func7 Try.ntmps7 ?_
  refine wRUN trivial ?_
  refine w7 (op_data [] hc) trivial ?_
  refine wRUN h00 ?_
  refine w12 (op_rowF [] hta) trivial ?_
  refine wRUN trivial ?_
  refine a_loop (κ := Nat × List Int × List InD) (fun x => ⟨mkS 0 87 [(0, insA l), (1, .c (.int .i64 regs)), (4, .ptr (4, 0) 0), (6, .own (96, 0)), (7, .own (97, 0)), (8, .own (98, 0)), (9, .c (.int .i64 x.1))],
      [((4, 0), .box [.c (.int .i64 0), .c (.int .i64 0), .nils, .c (.int .i64 0)]), ((96, 0), .row false 1 2 ((tgts l l.length).map intCs)), ((97, 0), .row false 1 2 (x.2.1.map intCs)), ((98, 0), .row true 3 41 (x.2.2.map InD.os))]⟩)
    (fun x => x.1 ≤ l.length ∧ x.2.1.length = x.1 ∧ x.2.2.length ≤ x.1 ∧ (∀ d ∈ x.2.2, d ∈ l) ∧ peepGo l (l.length - x.1) x.1 x.2.1 x.2.2 = peepGo l l.length 0 [] []) (fun x => l.length - x.1) (0, [], []) ⟨Nat.zero_le _, rfl, Nat.zero_le _, by simp, rfl⟩ ?_ ?_
  · exact wSays (Says.of [((4, 0), (4, 0)), ((96, 0), (24, 0)), ((97, 0), (25, 0)), ((98, 0), (26, 0))] []) (j2 hz0 hz1)
  · rintro ⟨i, ps, out⟩ ⟨hi, hps, hout, hmem, hgo⟩
    dsimp only at hi hps hout hmem hgo ⊢
    by_cases hlt : i < l.length
    · have hdk : decide ((i : Int) < (l.length : Int)) = true := by simpa using hlt
      have hw := wrap_succ (k := i) (by omega)
      have hsz := sizeIn_ac out
      have hlo := isLeftOut_ac l i hlt hn.2
      obtain ⟨f, hf⟩ : ∃ f, l.length - i = f + 1 := ⟨l.length - i - 1, by omega⟩
      rw [hf] at hgo
      have hol : ps.length + 1 ≤ 1000000 := by omega
      have hps1 : ps.map intCs ++ [[.int .i64 (out.length : Int)]] = (ps ++ [(out.length : Int)]).map intCs := by rw [List.map_append]; rfl
      cases hb : leftOut l i with
      | true =>
        rw [hb] at hlo
        have hnx := leftOut_next hb
        rw [peepGo_left hlt hb] at hgo
        have hgo2 : peepGo l (l.length - (i + 2)) (i + 2) (ps ++ [(out.length : Int), (out.length : Int)]) out = peepGo l l.length 0 [] [] := by
          rw [← peepGo_more l _ _ _ _ (by omega), show l.length - (i + 2) + 1 = f by omega]
          exact hgo
        have hw2 := wrap_succ (k := i + 1) (by omega)
        have hol2 : (ps ++ [(out.length : Int)]).length + 1 ≤ 1000000 := by simp; omega
        have hps2 : (ps ++ [(out.length : Int)]).map intCs ++ [[.int .i64 (out.length : Int)]] = (ps ++ [(out.length : Int), (out.length : Int)]).map intCs := by rw [List.map_append, List.map_append, List.append_assoc]; rfl
        refine wRUN (j2 hdk hln) ?_
        refine w7 (op_data [(98, 0)] hsz) trivial ?_
        refine wRUN hol ?_
        refine w7 (op_data [(96, 0)] hlo) trivial ?_
        refine wRUN trivial ?_
        refine w7 (op_data [(98, 0)] hsz) trivial ?_
        refine wRUN (j4 hps1 hol2 hw hw2) ?_
        refine ⟨(i + 2, ps ++ [(out.length : Int), (out.length : Int)], out), by dsimp only; omega, ⟨by dsimp only; omega, by simp [hps], by dsimp only; omega, hmem, hgo2⟩, ?_⟩
        clear hps1
        exact wSays (Says.of [((4, 0), (4, 0)), ((96, 0), (96, 0)), ((97, 0), (46, 0)), ((98, 0), (98, 0))] []) hps2
      | false =>
        rw [hb] at hlo
        rw [peepGo_kept hlt hb] at hgo
        have hgo2 : peepGo l (l.length - (i + 1)) (i + 1) (ps ++ [(out.length : Int)]) (out ++ [l[i]]) = peepGo l l.length 0 [] [] := by
          rw [show l.length - (i + 1) = f by omega]
          exact hgo
        obtain ⟨hr0, hg0⟩ := ins_row hlt
        have hmi := List.getElem_mem hlt
        have hcl := cloneCells_ac l[i].val (hv _ hmi)
        have hol3 : out.length + 1 ≤ 1000000 := by omega
        have hrow : out.map InD.os ++ [[.int .i64 l[i].op, .int .i64 l[i].arg, .osl (l[i].val.map CellD.cs)]] = (out ++ [l[i]]).map InD.os := by rw [List.map_append]; rfl
        generalize l[i] = d at *
        refine wRUN (j2 hdk hln) ?_
        refine w7 (op_data [(98, 0)] hsz) trivial ?_
        refine wRUN hol ?_
        refine w7 (op_data [(96, 0)] hlo) trivial ?_
        refine wRUN (j2 hr0 hg0) ?_
        refine w12 (op_rowF [] hcl) trivial ?_
        refine wRUN (j2 hol3 hw) ?_
        refine ⟨(i + 1, ps ++ [(out.length : Int)], out ++ [d]), by dsimp only; omega, ⟨by dsimp only; omega, by simp [hps], by simp; omega, fun x hx => ?_, hgo2⟩, ?_⟩
        · rcases List.mem_append.1 hx with hx | hx
          · exact hmem x hx
          · rw [List.mem_singleton.1 hx]; exact hmi
        · dsimp only
          rw [← hps1, ← hrow]
          exact wSays (Says.of [((4, 0), (4, 0)), ((96, 0), (96, 0)), ((97, 0), (37, 0)), ((98, 0), (60, 0))] []) hol3
    · have hdk : decide ((i : Int) < (l.length : Int)) = false := by simpa using hlt
      have hie : i = l.length := by omega
      rw [hie, Nat.sub_self] at hgo
      have hpv : peepV l = out.map (newArg ps) := by
        unfold peepV
        rw [← hgo]
        rfl
      rw [hpv]
      have hol : (out.map InD.os).length = out.length := by simp
      have hp0 : partP ps out 0 = out.map InD.os := rfl
      refine wRUN (j3 hdk hln hol) ?_
      refine a_loop (κ := Nat) (fun k => ⟨mkS 0 87 [(1, .c (.int .i64 regs)), (4, .ptr (4, 0) 0), (7, .own (97, 0)), (8, .own (98, 0)), (62, .c (.int .i64 out.length)), (63, .c (.int .i64 k))],
          [((4, 0), .box [.c (.int .i64 0), .c (.int .i64 0), .nils, .c (.int .i64 0)]), ((97, 0), .row false 1 2 (ps.map intCs)), ((98, 0), .row true 3 41 (partP ps out k))]⟩)
        (fun k => k ≤ out.length) (fun k => out.length - k) 0 (Nat.zero_le _) ?_ ?_
      · exact wSays (Says.of [((4, 0), (4, 0)), ((97, 0), (97, 0)), ((98, 0), (98, 0))] []) hp0
      · intro k hk
        by_cases hkl : k < out.length
        · have hdk2 : decide ((k : Int) < (out.length : Int)) = true := by simpa using hkl
          have hw := wrap_succ (k := k) (by omega)
          have h0 := partP_at ps out hkl
          have hnx := partP_next ps out hkl
          have hr0 : rowsAt (partP ps out k) 3 k = true := by unfold rowsAt; rw [show ((k : Nat) : Int).toNat = k from rfl, h0]; simp
          have hpc := hasPlaceU_ac out[k].op out[k].arg
          cases hb : inPlace out[k].op with
          | false =>
            have hsm := partP_same (ps := ps) hkl hb
            rw [hb] at hpc
            generalize out[k] = d at *
            refine wRUN (j2 hdk2 hr0) ?_
            ((with_reducible apply op_peekRow); (iterate 9 (focus (first | (simp only [go_sem, Nat.reduceEqDiff, Nat.reduceAdd, Nat.reduceSub, Nat.reduceLeDiff, Nat.reduceMul, Nat.reduceBEq, Nat.reduceLT, Int.reduceToNat, reduceCtorEq, h0]; first | done | exact rfl | (and_intros <;> rfl)) | exact rfl | decide))))
            refine wRUN trivial ?_
            refine w7 (op_data [] hpc) trivial ?_
            refine wRUN hw ?_
            refine ⟨k + 1, by omega, by omega, ?_⟩
            exact wSays (Says.of [((4, 0), (4, 0)), ((97, 0), (97, 0)), ((98, 0), (98, 0))] []) hsm
          | true =>
            rw [hb] at hpc
            have hargs : ∃ a : Nat, out[k].arg = (a : Int) ∧ a < ps.length := by
              obtain ⟨j, hjl, hje⟩ := List.mem_iff_getElem.1 (hmem out[k] (List.getElem_mem hkl))
              obtain ⟨_, _, h3⟩ := hj j hjl
              rw [hje] at h3
              have := h3 hb
              exact ⟨out[k].arg.toNat, by omega, by omega⟩
            obtain ⟨a, ha, hal⟩ := hargs
            have hra : rowsAt (ps.map intCs) 1 a = true := by simp [rowsAt, hal, intCs]
            have hga : (ps.map intCs)[a]? = some [.int .i64 ps[a]] := by simp [hal, intCs]
            have hna : newArg ps out[k] = ⟨out[k].op, ps[a], out[k].val⟩ := by
              unfold newArg
              rw [hb, if_pos rfl, ha, Int.toNat_natCast, List.getD_eq_getElem?_getD, List.getElem?_eq_getElem hal, Option.getD_some]
            rw [hna] at hnx
            have hset : (partP ps out k).set k [.int .i64 out[k].op, .int .i64 ps[a], .osl (out[k].val.map CellD.cs)] = partP ps out (k + 1) := hnx
            rw [ha] at h0 hpc
            generalize hR1 : partP ps out (k + 1) = R1 at *
            generalize partP ps out k = R0 at *
            generalize ps[a] = y at *
            generalize out[k] = d at *
            refine wRUN (j2 hdk2 hr0) ?_
            ((with_reducible apply op_peekRow); (iterate 9 (focus (first | (simp only [go_sem, Nat.reduceEqDiff, Nat.reduceAdd, Nat.reduceSub, Nat.reduceLeDiff, Nat.reduceMul, Nat.reduceBEq, Nat.reduceLT, Int.reduceToNat, reduceCtorEq, h0]; first | done | exact rfl | (and_intros <;> rfl)) | exact rfl | decide))))
            refine wRUN trivial ?_
            refine w7 (op_data [] hpc) trivial ?_
            refine wRUN hr0 ?_
            ((with_reducible apply op_peek1); (iterate 9 (focus (first | (simp only [go_sem, Nat.reduceEqDiff, Nat.reduceAdd, Nat.reduceSub, Nat.reduceLeDiff, Nat.reduceMul, Nat.reduceBEq, Nat.reduceLT, Int.reduceToNat, reduceCtorEq, h0]; first | done | exact rfl | (and_intros <;> rfl)) | exact rfl | decide))))
            refine wRUN (j3 hra hga hr0) ?_
            ((with_reducible apply op_store); (iterate 11 (focus (first | (simp only [go_sem, Nat.reduceEqDiff, Nat.reduceAdd, Nat.reduceSub, Nat.reduceLeDiff, Nat.reduceMul, Nat.reduceBEq, Nat.reduceLT, Int.reduceToNat, reduceCtorEq, h0, C.plain, List.set_cons_zero, List.set_cons_succ, hset]; first | done | exact rfl | (and_intros <;> rfl)) | exact rfl | decide))))
            refine wRUN hw ?_
            refine ⟨k + 1, by omega, by omega, ?_⟩
            exact wSays (Says.of [((4, 0), (4, 0)), ((97, 0), (97, 0)), ((98, 0), (98, 0))] []) hR1
        · have hdk2 : decide ((k : Int) < (out.length : Int)) = false := by simpa using hkl
          have hke : k = out.length := by omega
          have hfin : partP ps out out.length = (out.map (newArg ps)).map InD.os := by simp [partP]
          rw [hke, hfin]
          rw [hke] at hdk2
          refine wRUN hdk2 ?_
          exact wRetOf (ret_of [((0, 0), (98, 0))] []) Try.results7 hdk2
end Go.Proofs.Ytpaooephkpjkfaa
