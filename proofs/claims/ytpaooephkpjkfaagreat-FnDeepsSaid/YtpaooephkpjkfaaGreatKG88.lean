/- spec.l13Two, DrawSetPath; impl.EachOf, PathFault, SetPath, GetPath, DropPath with shared results, by the engine. -/
import Derived.Test.YtpaooephkpjkfaaGreatKG86uG87
import Derived.Test.YtpaooephkpjkfaaGreatKG85uG31
import Derived.Test.YtpaooephkpjkfaaGreatKS02uG24
import Derived.Test.YtpaooephkpjkfaaGreatKG14
import Derived.Test.YtpaooephkpjkfaaGreatKG5
import Derived.Test.YtpaooephkpjkfaaGreatKG07uG08
import Derived.Test.YtpaooephkpjkfaaGreatKE5
import Derived.Test.YtpaooephkpjkfaaGreatKM3
import Derived.Test.YtpaooephkpjkfaaGreatKE6
import Derived.Shelf.SortM.Plain
import Derived.Shelf.SortM.SortNone
import Derived.Test.YtpaooephkpjkfaaGreatKG04
import Derived.Test.YtpaooephkpjkfaaGreatKM2
import Derived.Sort.OwnSorted
import Derived.Test.YtpaooephkpjkfaaGreatKG02
import Derived.Deep.RegionLaw
import Derived.Shelf.RegionOpenPlain
import Derived.Laws.CopyRow
set_option linter.unusedSimpArgs false
set_option linter.unusedVariables false
set_option linter.unnecessarySimpa false
namespace Go.Proofs.YtpaooephkpjkfaaGreat
open Go.RowKit
set_option maxRecDepth 10000
theorem each_ac (t : V) : AC Tryz.prog 48 [t.av] [] (bif t.kind == 5 || t.kind == 6 then .tup [.c (.sl (t.kids.map V.cs)), .c (.int .i64 0)] else .tup [.nils, .c (.int .i64 6)]) [] := by
  cases h5 : t.kind == 5 with
  | true =>
    have h5' : (t.kind != 5) = false := by rw [bne, h5]; rfl
    refine wEnter Tryz.func48 Tryz.ntmps48 ?_
    refine wRUN h5' ?_
    exact wRetOf (ret_of [] []) Tryz.results48 h5'
  | false =>
    have h5' : (t.kind != 5) = true := by rw [bne, h5]; rfl
    cases h6 : t.kind == 6 with
    | true =>
      have h6' : (t.kind != 6) = false := by rw [bne, h6]; rfl
      refine wEnter Tryz.func48 Tryz.ntmps48 ?_
      refine wRUN (j2 h5' h6') ?_
      exact wRetOf (ret_of [] []) Tryz.results48 h5'
    | false =>
      have h6' : (t.kind != 6) = true := by rw [bne, h6]; rfl
      refine wEnter Tryz.func48 Tryz.ntmps48 ?_
      refine wRUN (j2 h5' h6') ?_
      exact wRetOf (ret_of [] []) Tryz.results48 h5'
set_option maxHeartbeats 4000000 in
theorem eachOf_ac {t : V} (ht : t.right) (h56 : t.kind = 5 ∨ t.kind = 6) : AC Tryz.prog 12 [cellsA t.enc] [] (.agg [.c (.int .i64 0), .c (.sl ((t.kids.map V.enc).map encCs))]) [] := by
  have hv := valOf_ac t.enc (right_sized ht) (t := t) (by rw [right_dec ht])
  have he := each_ac t
  have hk : (t.kind == 5 || t.kind == 6) = true := by rcases h56 with h | h <;> simp [h]
  rw [hk] at he
  replace he : AC Tryz.prog 48 [t.av] [] (.tup [.c (.sl (t.kids.map V.cs)), .c (.int .i64 0)]) [] := he
  have h00 : ((0 : Int) != 0) = false := rfl
  have hz : (([] : List V).map V.enc).map oslCs = [] := rfl
  have hkl := kids_len_le ht.2.1
  have hr := fun k hk => right_mem ht (k := k) hk
  have hln : (t.kids.map V.cs).length = t.kids.length := by simp
  generalize t.kids = l at *
  refine wEnter Tryz.func12 Tryz.ntmps12 ?_
  refine wRUN trivial ?_
  refine w9 (op_shared [] hv) trivial ?_
  refine wRUN h00 ?_
  refine w9 (op_shared [] he) trivial ?_
  refine wRUN (j2 h00 hln) ?_
  refine a_loop (κ := Nat) (fun k => ⟨mkS 0 40 [(2, .ptr (2, 0) 0), (6, .ptr (6, 0) 0), (25, .c (.sl (l.map V.cs))), (26, .c (.int .i64 l.length)), (27, .c (.int .i64 k))],
      [((2, 0), .box [.c (.int .i64 0), .nils]), ((6, 0), .box [.c (.int .i64 0), .own (99, 0)]), ((99, 0), .row true 1 24 (((l.take k).map V.enc).map oslCs))]⟩)
    (fun k => k ≤ l.length) (fun k => l.length - k) 0 (Nat.zero_le _) ?_ ?_
  · exact wSays (Says.of [((2, 0), (2, 0)), ((6, 0), (6, 0))] []) hz
  · intro k hk
    by_cases hlt : k < l.length
    · have hdk : decide ((k : Int) < (l.length : Int)) = true := by simpa using hlt
      have hw := wrap_succ (k := k) (by omega)
      have hr0 : rowsAt (l.map V.cs) 5 k = true := by simp [rowsAt, hlt, V.cs_eq]
      have hg0 : (l.map V.cs)[k]? = some l[k].cs := by simp [hlt]
      rw [V.cs_eq] at hg0
      have hc := count_right (hr _ (List.getElem_mem hlt))
      have hts : l.take (k + 1) = l.take k ++ [l[k]] := List.take_succ_eq_append_getElem hlt
      have h1 : (l.take k).length + 1 ≤ 1000000 := by rw [List.length_take]; omega
      have hrow : ((l.take k).map V.enc).map oslCs ++ [[C.osl (l[k].enc.map CellD.cs)]] = ((l.take (k + 1)).map V.enc).map oslCs := by rw [hts, List.map_append, List.map_append]; rfl
      generalize l[k] = q at *
      refine wRUN (j3 hdk hr0 hg0) ?_
      refine w12 (op_rowF [] hc) trivial ?_
      refine wRUN (j2 h1 hw) ?_
      refine ⟨k + 1, by omega, by omega, ?_⟩
      rw [← hrow]
      exact wSays (Says.of [((2, 0), (2, 0)), ((6, 0), (6, 0)), ((99, 0), (36, 0))] []) hw
    · have hdk : decide ((k : Int) < (l.length : Int)) = false := by simpa using hlt
      have hke : l.take k = l := List.take_of_length_le (by omega)
      rw [hke]
      refine wRUN hdk ?_
      exact wRetOf (ret_of [] [(99, 0)]) Tryz.results12 hdk
end Go.Proofs.YtpaooephkpjkfaaGreat
