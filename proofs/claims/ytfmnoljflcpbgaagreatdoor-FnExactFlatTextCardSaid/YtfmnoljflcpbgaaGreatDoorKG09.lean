/- spec.l13Paths, spec.PathsIn, by the engine. -/
import Derived.Test.YtfmnoljflcpbgaaGreatDoorKG08
set_option linter.unusedSimpArgs false
set_option linter.unusedVariables false
set_option linter.unnecessarySimpa false
namespace Go.Proofs.YtfmnoljflcpbgaaGreatDoor
open Go.RowKit
/-- A path as a cell of the result: a slice that no one else reaches. -/
def resCs (p : List V) : List C := [.osl ((arrV p).enc.map CellD.cs)]
theorem all_res (l : List (List V)) : ((l.map resCs).all fun r => r.length == 1) = true := by simp [resCs]
attribute [go_sem] all_res
set_option maxRecDepth 10000
set_option maxHeartbeats 1000000 in
theorem l13Paths_bad (xs : List CellD) (b : Bool) (h0 : (dec xs).1 ≠ 0) : AC Tryz.prog 87 [cellsA xs, .c (.bool b)] [] (.agg [.c (.int .i64 (dec xs).1), .nils]) [] := by
  have hb : ((dec xs).1 != 0) = true := by simpa using h0
  have hv := fault_ac xs
  refine wEnter Tryz.func87 Tryz.ntmps87 ?_
  refine wRUN trivial ?_
  refine w7 (op_data [] hv) trivial ?_
  refine wRUN hb ?_
  exact wRet (ret_data []) Tryz.results87
set_option maxHeartbeats 2000000 in
theorem l13Paths_ac {t : V} (b : Bool) (hw : t.wf) (hc : t.count ≤ 200) (hd : t.depth ≤ 20) :
    AC Tryz.prog 87 [cellsA t.enc, .c (.bool b)] [] (.agg [.c (.int .i64 0), .own (0, 0)]) [((0, 0), .row true 1 27 ((allP b (t.paths [])).map resCs))] := by
  have h0 : ((dec t.enc).1 != 0) = false := by rw [dec_enc hw hc hd]; rfl
  have hv := fault_ac t.enc
  have hall := l13All_ac b t.count t [] (Nat.le_refl _) hc hw (by simp; omega)
  simp only [List.map_nil] at hall
  have hpl := paths_len t []
  have hok : ∀ p ∈ allP b (t.paths []), (arrV p).count ≤ 500000 := by
    intro p hp
    simp only [allP, List.mem_map, List.mem_filter] at hp
    obtain ⟨x, ⟨hx, _⟩, rfl⟩ := hp
    obtain ⟨h1, h2⟩ := paths_ok t [] trivial x hx
    rw [arr_count]
    simp only [countL] at h2
    omega
  have hl : (allP b (t.paths [])).length ≤ 200 := Nat.le_trans (allP_len b _) (by omega)
  generalize allP b (t.paths []) = l at *
  have hb : decide ((l.length : Int) > 200) = false := by simp; omega
  refine wEnter Tryz.func87 Tryz.ntmps87 ?_
  refine wRUN trivial ?_
  refine w7 (op_data [] hv) trivial ?_
  refine wRUN h0 ?_
  refine w9 (op_shared [] hall) trivial ?_
  refine wRUN hb ?_
  refine a_loop (κ := Nat) (fun k => ⟨mkS 0 40 [(4, .ptr (4, 0) 0), (6, .c (.sl (l.map pthCs))), (7, .ptr (7, 0) 0), (8, .c (.int .i64 k))],
      [((4, 0), .box [.c (.int .i64 0), .nils]), ((7, 0), .box [.c (.int .i64 0), .own (99, 0)]), ((99, 0), .row true 1 27 ((l.take k).map resCs))]⟩)
    (fun k => k ≤ l.length) (fun k => l.length - k) 0 (Nat.zero_le _) ?_ ?_
  · exact wSays (Says.of [((4, 0), (4, 0)), ((7, 0), (7, 0))] []) hb
  · intro k hk
    by_cases hlt : k < l.length
    · have hd : decide ((k : Int) < (l.length : Int)) = true := by simpa using hlt
      have hr : rowsAt (l.map pthCs) 1 k = true := by simp [rowsAt, hlt, pthCs]
      have hg : (l.map pthCs)[k]? = some [.sl ((l[k].map V.enc).map encCs)] := by simp [hlt, pthCs]
      have hcc := hok _ (List.getElem_mem hlt)
      have hts : l.take (k + 1) = l.take k ++ [l[k]] := List.take_succ_eq_append_getElem hlt
      generalize l[k] = p at *
      have hw := wrap_succ (k := k) (by omega)
      have h1 : (l.take k).length + 1 ≤ 1000000 := by rw [List.length_take]; omega
      have ha := l1Array_ac p hcc
      have hrow : (l.take k).map resCs ++ [[.osl ((V.mk 5 0 ByteArray.empty [] p).enc.map CellD.cs)]] = (l.take (k + 1)).map resCs := by rw [hts, List.map_append]; rfl
      refine wRUN (j3 hd hr hg) ?_
      refine w12 (op_rowF [] ha) trivial ?_
      refine wRUN (j2 h1 hw) ?_
      refine ⟨k + 1, by omega, by omega, ?_⟩
      exact wSays (Says.of [((4, 0), (4, 0)), ((7, 0), (7, 0)), ((99, 0), (37, 0))] []) hrow
    · have hd : decide ((k : Int) < (l.length : Int)) = false := by simpa using hlt
      have hke : l.take k = l := List.take_of_length_le (by omega)
      refine wRUN hd ?_
      exact wRetOf (ret_of [((0, 0), (99, 0))] []) Tryz.results87 hke
end Go.Proofs.YtfmnoljflcpbgaaGreatDoor
