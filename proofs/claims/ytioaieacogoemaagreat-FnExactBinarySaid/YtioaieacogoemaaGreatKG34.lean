/- spec.l1Array, l1Parts as data and as a row, by the engine. -/
import Derived.Test.YtioaieacogoemaaGreatKG08
import Derived.Test.YtioaieacogoemaaGreatKE5
set_option linter.unusedSimpArgs false
set_option linter.unusedVariables false
set_option linter.unnecessarySimpa false
namespace Go.Proofs.YtioaieacogoemaaGreat
open Go.RowKit
set_option maxRecDepth 10000
theorem l1ArrayS_ac (ps : List V) (hc : (arrV ps).count ≤ 500000) : AC Tryz.prog 113 [.c (.sl ((ps.map V.enc).map encCs))] [] (.c (.sl ((arrV ps).enc.map CellD.cs))) [] := by
  have h := l1Array_ac ps hc
  (apply (AC.says [] [(0, 0)] h); (focus (simp only [go_sem, Nat.reduceEqDiff, Nat.reduceAdd, Nat.reduceSub, Nat.reduceLeDiff, Nat.reduceMul, Nat.reduceBEq, Nat.reduceLT, Int.reduceToNat, reduceCtorEq]; try (and_intros <;> rfl))); (focus exact rfl); (focus (simp only [go_sem, Nat.reduceEqDiff, Nat.reduceAdd, Nat.reduceSub, Nat.reduceLeDiff, Nat.reduceMul, Nat.reduceBEq, Nat.reduceLT, Int.reduceToNat, reduceCtorEq]; try (and_intros <;> rfl))); (focus exact rfl); (iterate 4 (focus (simp [go_sem]; done))))
theorem l1Part_ac {t : V} (hw : t.wf) (hc : t.count ≤ 200) (i : Nat) (hi : i < t.kids.length) : AC Tryz.prog 69 [cellsA t.enc, .c (.int .i64 ((kp t.kids i : Nat) : Int))] [] (.c (.sl (t.kids[i].enc.map CellD.cs))) [] := by
  refine AC.of_calls fun S w κ vs hv => ?_
  obtain ⟨v, vs', rfl, h1, v2, vs2, rfl, h2, rfl⟩ := hv
  obtain ⟨rfl, _⟩ := h2
  obtain ⟨A, cap, rfl, hcap, hcs⟩ := cr_cells.1 h1
  refine (l1Part_any t hw hc i hi A cap hcap S w hcs).mono ?_
  rintro e w' ⟨⟨A', c', rfl, hc', hr⟩, hb⟩
  exact ⟨hb, _, rfl, fun T _ hT => cr_cells.2 ⟨A', c', rfl, hc', hr.weaken fun b hb _ => hT b hb⟩⟩
set_option maxHeartbeats 1000000 in
theorem l1PartsO_ac {t : V} (hw : t.wf) (hc : t.count ≤ 200) : AC Tryz.prog 36 [cellsA t.enc] [] (.own (0, 0)) [((0, 0), .row false 1 24 ((t.kids.map V.enc).map encCs))] := by
  have hkl := kids_len_le hc
  have hkn := kposL_len t t.kids.length
  have hch := l1Children_ac hw hc
  refine wEnter Tryz.func36 Tryz.ntmps36 ?_
  refine wRUN trivial ?_
  refine w9 (op_shared [] hch) trivial ?_
  refine wRUN trivial ?_
  refine a_loop (κ := Nat) (fun k => ⟨mkS 0 25 [(0, cellsA t.enc), (3, .own (3, 0)), (4, .c (.sl ((kposL t t.kids.length).map intCs))), (5, .c (.int .i64 k))],
      [((3, 0), .row false 1 24 (((t.kids.take k).map V.enc).map encCs))]⟩)
    (fun k => k ≤ t.kids.length) (fun k => t.kids.length - k) 0 (Nat.zero_le _) ?_ ?_
  · exact wSays (Says.of [((3, 0), (6, 0))] []) hkl
  · intro k hk
    by_cases hlt : k < t.kids.length
    · have hd : decide ((k : Int) < (t.kids.length : Int)) = true := by simpa using hlt
      have hw1 := wrap_succ (k := k) (by omega)
      have h1 : (((t.kids.take k).map V.enc).map encCs).length + 1 ≤ 1000000 := by simp; omega
      have hr1 : rowsAt ((kposL t t.kids.length).map intCs) 1 k = true := by simp [rowsAt, kposL, hlt, intCs]
      have hg1 : ((kposL t t.kids.length).map intCs)[k]? = some [.int .i64 ((kp t.kids k : Nat) : Int)] := by simp [kposL, hlt, intCs]
      have hp := l1Part_ac hw hc k hlt
      have hn : ((t.kids.take k).map V.enc).map encCs ++ [[.sl (t.kids[k].enc.map CellD.cs)]] = ((t.kids.take (k + 1)).map V.enc).map encCs := by rw [List.take_succ_eq_append_getElem hlt, List.map_append, List.map_append]; rfl
      generalize hR : ((t.kids.take k).map V.enc).map encCs = R at *
      generalize hR2 : ((t.kids.take (k + 1)).map V.enc).map encCs = R2 at *
      generalize t.kids[k] = u at *
      refine wRUN (j4 hd hkn hr1 hg1) ?_
      refine w9 (op_shared [] hp) trivial ?_
      refine wRUN (j2 h1 hw1) ?_
      refine ⟨k + 1, by omega, by omega, ?_⟩
      exact wSays (Says.of [((3, 0), (23, 0))] []) (j2 hn hR2)
    · have hd : decide ((k : Int) < (t.kids.length : Int)) = false := by simpa using hlt
      have hke : t.kids.take k = t.kids := List.take_of_length_le (by omega)
      refine wRUN (j2 hkn hd) ?_
      exact wRetOf (ret_of [((0, 0), (3, 0))] []) Tryz.results36 hke
end Go.Proofs.YtioaieacogoemaaGreat
