/- spec.l1Keys, l1Array, l13All, by the engine. -/
import Derived.Test.YtfmnoljflcpbgaaGreatDoorKG05uG06
set_option linter.unusedSimpArgs false
set_option linter.unusedVariables false
set_option linter.unnecessarySimpa false
namespace Go.Proofs.YtfmnoljflcpbgaaGreatDoor
open Go.RowKit
def keysOf (t : V) (k : Nat) : List ByteArray := (List.range k).map t.keyAt
theorem keysOf_succ (t : V) (k : Nat) : keysOf t (k + 1) = keysOf t k ++ [t.keyAt k] := by simp [keysOf, List.range_succ]
theorem keysOf_len (t : V) (k : Nat) : (keysOf t k).length = k := by simp [keysOf]
theorem enc_at_kid (t : V) {k : Nat} (h : k < t.kids.length) : (t.enc.map CellD.cs)[kp t.kids k]? = some [.int .i64 t.kids[k].kind, .int .i64 t.kids[k].num, .str t.kids[k].text, .str (t.keyAt k), .int .i64 t.kids[k].kids.length] := by
  have h1 := enc_kid t h
  have h2 : t.enc[kp t.kids k]? = some ⟨t.kids[k].kind, t.kids[k].num, t.kids[k].text, t.keyAt k, t.kids[k].kids.length⟩ := by
    have h3 : (t.enc.drop (kp t.kids k))[0]? = t.enc[kp t.kids k]? := by rw [List.getElem?_drop]; rfl
    rw [← h3, h1, cells_head]
    rfl
  rw [List.getElem?_map, h2]
  rfl

set_option maxRecDepth 10000
set_option maxHeartbeats 1000000 in
theorem l1Keys_ac {t : V} (hw : t.wf) (hc : t.count ≤ 200) : AC Tryz.prog 101 [cellsA t.enc] [] (.c (.sl ((keysOf t t.kids.length).map strCs))) [] := by
  have hkl := kids_len_le hc
  have hkn := kposL_len t t.kids.length
  have hch := l1Children_ac hw hc
  refine wEnter Tryz.func101 Tryz.ntmps101 ?_
  refine wRUN trivial ?_
  refine w9 (op_shared [] hch) trivial ?_
  refine wRUN trivial ?_
  refine a_loop (κ := Nat) (fun k => ⟨mkS 0 27 [(0, cellsA t.enc), (3, .own (3, 0)), (4, .c (.sl ((kposL t t.kids.length).map intCs))), (5, .c (.int .i64 k))],
      [((3, 0), .row false 1 9 ((keysOf t k).map strCs))]⟩)
    (fun k => k ≤ t.kids.length) (fun k => t.kids.length - k) 0 (Nat.zero_le _) ?_ ?_
  · (apply (Says.of [((3, 0), (6, 0))] []); (iterate 2 ((focus (simp only [go_sem, Nat.reduceEqDiff, Nat.reduceAdd, Nat.reduceSub, Nat.reduceLeDiff, Nat.reduceMul, Nat.reduceBEq, Nat.reduceLT, Int.reduceToNat, reduceCtorEq, keysOf]; try (and_intros <;> rfl))); (focus exact rfl))); (iterate 4 (focus (simp [go_sem, keysOf]; done))))
  · intro k hk
    by_cases hlt : k < t.kids.length
    · have hd : decide ((k : Int) < (t.kids.length : Int)) = true := by simpa using hlt
      have hw1 := wrap_succ (k := k) (by omega)
      have h1 : (keysOf t k).length + 1 ≤ 1000000 := by rw [keysOf_len]; omega
      have hr1 : rowsAt ((kposL t t.kids.length).map intCs) 1 k = true := by simp [rowsAt, kposL, hlt, intCs]
      have hg1 : ((kposL t t.kids.length).map intCs)[k]? = some [.int .i64 ((kp t.kids k : Nat) : Int)] := by simp [kposL, hlt, intCs]
      have hg2 := enc_at_kid t hlt
      have hr2 : rowsAt (t.enc.map CellD.cs) 5 ((kp t.kids k : Nat) : Int) = true := by unfold rowsAt; rw [Int.toNat_natCast, hg2]; simp
      have hn : (keysOf t k).map strCs ++ [[.str (t.keyAt k)]] = (keysOf t (k + 1)).map strCs := by rw [keysOf_succ, List.map_append]; rfl
      refine wRUN (j8 hd hkn hr1 hg1 hr2 hg2 h1 hw1) ?_
      refine ⟨k + 1, by omega, by omega, ?_⟩
      exact wSays (Says.of [((3, 0), (25, 0))] []) hn
    · have hd : decide ((k : Int) < (t.kids.length : Int)) = false := by simpa using hlt
      have hke : k = t.kids.length := by omega
      refine wRUN (j2 hkn hd) ?_
      subst hke
      exact wRetOf (ret_of [] [(3, 0)]) Tryz.results101 hd
set_option maxHeartbeats 1000000 in
theorem l1Array_ac (ps : List V) (hc : (arrV ps).count ≤ 500000) : AC Tryz.prog 142 [.c (.sl ((ps.map V.enc).map encCs))] [] (.own (0, 0)) [((0, 0), .row false 5 69 ((arrV ps).enc.map CellD.cs))] := by
  have hcl := countL_len ps
  have hcc := arr_count ps
  obtain ⟨R, hR⟩ : ∃ R : Nat → List CellD, ∀ k, R k = (arrV ps).enc.take (kp (arrV ps).kids k) := ⟨_, fun _ => rfl⟩
  have h0 : (R 0).map CellD.cs = [[.int .i64 5, .int .i64 0, .str ByteArray.empty, .str ByteArray.empty, .int .i64 ps.length]] := by
    rw [hR, enc_take_one]; rfl
  refine wEnter Tryz.func142 Tryz.ntmps142 ?_
  refine wRUN trivial ?_
  refine a_loop (κ := Nat) (fun k => ⟨mkS 0 22 [(0, .c (.sl ((ps.map V.enc).map encCs))), (3, .own (3, 0)), (4, .c (.int .i64 k))],
      [((3, 0), .row false 5 69 ((R k).map CellD.cs))]⟩)
    (fun k => k ≤ ps.length) (fun k => ps.length - k) 0 (Nat.zero_le _) ?_ ?_
  · exact wSays (Says.of [((3, 0), (8, 0))] []) h0
  · intro k hk
    by_cases hlt : k < ps.length
    · have hd : decide ((k : Int) < (ps.length : Int)) = true := by simpa using hlt
      have hw1 := wrap_succ (k := k) (by omega)
      have hr1 : rowsAt ((ps.map V.enc).map encCs) 1 k = true := by simp [rowsAt, hlt, encCs]
      have hg1 : ((ps.map V.enc).map encCs)[k]? = some [.sl (ps[k].enc.map CellD.cs)] := by simp [hlt, encCs]
      have hts := enc_take_succ (arrV ps) (i := k) hlt
      have h56 : (arrV ps).kind ≠ 6 := show (5 : Int) ≠ 6 by decide
      rw [keyAt_none h56, ← hR, ← hR] at hts
      have htl := enc_take_len (arrV ps) k
      have hkl := kp_le (arrV ps) k
      have hm := countL_mem (List.getElem_mem hlt)
      have hel := enc_len ps[k]
      have h1 : (R k).length + ps[k].enc.length ≤ 1000000 := by rw [hR, htl, hel]; omega
      have hn : (R k).map CellD.cs ++ ps[k].enc.map CellD.cs = (R (k + 1)).map CellD.cs := by
        rw [hts, List.map_append]; rfl
      generalize ps[k] = u at *
      refine wRUN (j5 hd hr1 hg1 h1 hw1) ?_
      refine ⟨k + 1, by omega, by omega, ?_⟩
      exact wSays (Says.of [((3, 0), (20, 0))] []) hn
    · have hd : decide ((k : Int) < (ps.length : Int)) = false := by simpa using hlt
      have hke : k = ps.length := by omega
      have hall : R k = (V.mk 5 0 ByteArray.empty [] ps).enc := by rw [hR, hke]; exact enc_take_all (arrV ps)
      refine wRUN hd ?_
      exact wRetOf (ret_of [((0, 0), (3, 0))] []) Tryz.results142 hall
end Go.Proofs.YtfmnoljflcpbgaaGreatDoor
