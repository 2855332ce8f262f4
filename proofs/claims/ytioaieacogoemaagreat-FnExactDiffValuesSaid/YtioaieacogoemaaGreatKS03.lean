/- slices.Compact at []string: that the program bears its closure. -/
import Derived.Test.YtioaieacogoemaaGreatKT01
import Derived.Shelf.SlGeneric
import Derived.Shelf.SlLaysN
set_option linter.unusedSimpArgs false
set_option linter.unusedVariables false
set_option linter.unnecessarySimpa false
namespace Go.Proofs.YtioaieacogoemaaGreat
open Go.RowKit Go.Shelf
def compS_ren : Ren where
  f := fun x => match x with
    | 44 => 151
    | n => n
  t := fun x => match x with
    | 0 => 0
    | 3 => 3
    | 4 => 4
    | 25 => 76
    | 26 => 9
    | n => n
  g := fun n => n
theorem compS_lays : SlLaysN.n44 Tryz.prog compS_ren where
  mixed := follows_mixed
  f44 := ⟨Tryz.f151.name, by kernel_rfl, by kernel_rfl⟩
  t0 := Tryz.underlying0
  a0 := Tryz.isAgg0
  z0 := Tryz.sizeOf0
  v0 := Tryz.zeroValue0
  t3 := Tryz.underlying3
  a3 := Tryz.isAgg3
  z3 := Tryz.sizeOf3
  v3 := Tryz.zeroValue3
  t4 := Tryz.underlying4
  a4 := Tryz.isAgg4
  z4 := Tryz.sizeOf4
  v4 := Tryz.zeroValue4
  t25 := Tryz.underlying76
  a25 := Tryz.isAgg76
  z25 := Tryz.sizeOf76
  v25 := Tryz.zeroValue76
  t26 := Tryz.underlying9
  a26 := Tryz.isAgg9
  z26 := Tryz.sizeOf9
  v26 := Tryz.zeroValue9
  i26 := by kernel_rfl
end Go.Proofs.YtioaieacogoemaaGreat
