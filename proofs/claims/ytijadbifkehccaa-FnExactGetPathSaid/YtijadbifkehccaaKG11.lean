/- laws.markCellSS: slices of cells in a row are marked one by one. -/
import Derived.Test.YtijadbifkehccaaKG10
set_option linter.unusedSimpArgs false
set_option linter.unusedVariables false
set_option linter.unnecessarySimpa false
namespace Go.Proofs.Ytijadbifkehccaa
open Go.RowKit
def oslCs (xs : List CellD) : List C := [.osl (xs.map CellD.cs)]
theorem get_one {p : Id × AO} {i : Id} {o : AO} (h : Mem.get [p] i = some o) : i = p.1 ∧ o = p.2 := by
  obtain ⟨a, b⟩ := p
  simp only [Mem.get, List.lookup_cons, List.lookup_nil] at h
  split at h
  · rename_i hq
    exact ⟨by simpa using hq, (Option.some.inj h).symm⟩
  · cases h
end Go.Proofs.Ytijadbifkehccaa
