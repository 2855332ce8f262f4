/- Texts of this proof: G86 G25 G55 G87. -/
import Derived.Test.YtpaooephkpjkfaaGreatKG83
import Derived.Test.YtpaooephkpjkfaaGreatKM28
import Derived.Test.YtpaooephkpjkfaaGreatKM2
import Derived.Test.YtpaooephkpjkfaaGreatKG07uG08
import Derived.Test.YtpaooephkpjkfaaGreatKG14
import Derived.Test.YtpaooephkpjkfaaGreatKE5
import Derived.Test.YtpaooephkpjkfaaGreatKS02uG24
import Derived.Test.YtpaooephkpjkfaaGreatKG9
import Derived.Test.YtpaooephkpjkfaaGreatKM3
import Derived.Test.YtpaooephkpjkfaaGreatKG5
import Derived.Test.YtpaooephkpjkfaaGreatKE6
import Derived.Shelf.SortM.Plain
import Derived.Shelf.SortM.SortNone
import Derived.Test.YtpaooephkpjkfaaGreatKG04
import Derived.Sort.OwnSorted
import Derived.Test.YtpaooephkpjkfaaGreatKG02
import Derived.Deep.RegionLaw
import Derived.Shelf.RegionOpenPlain
import Derived.Laws.CopyRow
set_option linter.unusedSimpArgs false
set_option linter.unusedVariables false
set_option linter.unnecessarySimpa false
namespace Go.Proofs.YtpaooephkpjkfaaGreat
open Go.RowKit
set_option maxRecDepth 10000
theorem row_encsV {L : List V} {i : Nat} (h : i < L.length) : rowsAt ((L.map V.enc).map encCs) 1 ((i : Nat) : Int) = true ∧ ((L.map V.enc).map encCs)[i]? = some [.sl (L[i].enc.map CellD.cs)] := ⟨by simp [rowsAt, h, encCs], by simp [h, encCs]⟩
end Go.Proofs.YtpaooephkpjkfaaGreat

/- The specification's reading of parts of values, by the engine: l3Null, l3Bad, l3Get, l3Index, l3At, l13Get. -/
namespace Go.Proofs.YtpaooephkpjkfaaGreat
open Go.RowKit
set_option maxRecDepth 10000
theorem l3Bad_ac (c : Int) : AC Tryz.prog 45 [.c (.int .i64 c)] [] (.agg [.c (.int .i64 c), .nils]) [] := by
  refine wEnter Tryz.func45 Tryz.ntmps45 ?_
  refine wRUN trivial ?_
  exact wRet (ret_data []) Tryz.results45
/-- A result of a reading. -/
def vrA (r : Int × Option V) : AV := match r.2 with
  | some t => .agg [.c (.int .i64 0), .c (.sl (t.enc.map CellD.cs))]
  | none => .agg [.c (.int .i64 r.1), .c (.sl [])]
theorem vrA_some (c : Int) (t : V) : vrA (c, some t) = .agg [.c (.int .i64 0), .c (.sl (t.enc.map CellD.cs))] := rfl
theorem vrA_none (c : Int) : vrA (c, none) = .agg [.c (.int .i64 c), .c (.sl [])] := rfl
end Go.Proofs.YtpaooephkpjkfaaGreat

/- spec.l1Told, l14Merge, MergeValues; impl.MergeValues, by the engine. -/
namespace Go.Proofs.YtpaooephkpjkfaaGreat
open Go.RowKit
set_option maxRecDepth 10000
theorem l1Told_ok (xs : List CellD) (h : (dec xs).1 = 0) : AC Tryz.prog 74 [cellsA xs] [] (.agg [.c (.int .i64 0), cellsA xs]) [] := by
  have hf := fault_ac xs
  rw [h] at hf
  have h00 : ((0 : Int) != 0) = false := rfl
  refine wEnter Tryz.func74 Tryz.ntmps74 ?_
  refine wRUN trivial ?_
  refine w7 (op_data [] hf) trivial ?_
  refine wRUN h00 ?_
  exact wRet (ret_data []) Tryz.results74
theorem l1Told_bad (xs : List CellD) (h : (dec xs).1 ≠ 0) : AC Tryz.prog 74 [cellsA xs] [] (.agg [.c (.int .i64 (dec xs).1), .c (.sl [])]) [] := by
  have hf := fault_ac xs
  have hb : ((dec xs).1 != 0) = true := by simpa using h
  refine wEnter Tryz.func74 Tryz.ntmps74 ?_
  refine wRUN trivial ?_
  refine w7 (op_data [] hf) trivial ?_
  refine wRUN hb ?_
  exact wRet (ret_data []) Tryz.results74
theorem l1Told_ac (t : V) : AC Tryz.prog 74 [cellsA t.enc] [] (vrA (giveR t)) [] := by
  unfold giveR
  split
  · rename_i h
    exact l1Told_ok t.enc h
  · rename_i h
    exact l1Told_bad t.enc h
end Go.Proofs.YtpaooephkpjkfaaGreat

/- spec.l14Near, DrawDiffValues, DrawMergeValues, by the engine. Printed by gen_near.py. -/
namespace Go.Proofs.YtpaooephkpjkfaaGreat
open Go.RowKit
set_option maxRecDepth 10000
theorem okRes_ways {r : Int × Option V} (h : okRes r) : (∃ v, r = (0, some v) ∧ v.right) ∨ ∃ c, c ≠ 0 ∧ r = (c, none) := by
  obtain ⟨c, o⟩ := r
  cases o with
  | none => exact .inr ⟨c, h, rfl⟩
  | some v => exact .inl ⟨v, by rw [show c = 0 from h.1], h.2⟩
end Go.Proofs.YtpaooephkpjkfaaGreat
