/- slices.Sort at []string: that the program bears its closure (printed by gen_lay.py out of the kit's own laying). -/
import Derived.Test.YtioaieacogoemaaGreatKT01
import Derived.Shelf.SlGeneric
import Derived.Shelf.SlLaysM
set_option linter.unusedSimpArgs false
set_option linter.unusedVariables false
set_option linter.unnecessarySimpa false
namespace Go.Proofs.YtioaieacogoemaaGreat
open Go.RowKit Go.Shelf
def sortS_ren : Ren where
  f := fun x => match x with
    | 6 => 150
    | 8 => 175
    | 9 => 174
    | 19 => 190
    | 20 => 191
    | 21 => 181
    | 22 => 182
    | 23 => 183
    | 24 => 184
    | 25 => 185
    | 26 => 186
    | 27 => 187
    | 28 => 188
    | 29 => 189
    | 36 => 193
    | 31 => 194
    | 32 => 195
    | 37 => 196
    | 38 => 197
    | 39 => 180
    | 41 => 198
    | n => n
  t := fun x => match x with
    | 27 => 76
    | 29 => 9
    | 3 => 3
    | 32 => 180
    | 26 => 76
    | 0 => 0
    | 44 => 195
    | 46 => 197
    | 4 => 4
    | 36 => 188
    | 35 => 187
    | 41 => 181
    | 5 => 5
    | 9 => 9
    | 53 => 198
    | 57 => 202
    | 63 => 204
    | 64 => 112
    | n => n
  g := fun n => n
theorem sortS_lays : SlLaysM.n6 Tryz.prog sortS_ren where
  mixed := follows_mixed
  f6 := ⟨Tryz.f150.name, by kernel_rfl, by kernel_rfl⟩
  f8 := by kernel_rfl
  f9 := ⟨Tryz.f174.name, by kernel_rfl, by kernel_rfl⟩
  f19 := by kernel_rfl
  f20 := by kernel_rfl
  f21 := ⟨Tryz.f181.name, by kernel_rfl, by kernel_rfl⟩
  f22 := ⟨Tryz.f182.name, by kernel_rfl, by kernel_rfl⟩
  f23 := ⟨Tryz.f183.name, by kernel_rfl, by kernel_rfl⟩
  f24 := ⟨Tryz.f184.name, by kernel_rfl, by kernel_rfl⟩
  f25 := ⟨Tryz.f185.name, by kernel_rfl, by kernel_rfl⟩
  f26 := ⟨Tryz.f186.name, by kernel_rfl, by kernel_rfl⟩
  f27 := ⟨Tryz.f187.name, by kernel_rfl, by kernel_rfl⟩
  f28 := ⟨Tryz.f188.name, by kernel_rfl, by kernel_rfl⟩
  f29 := ⟨Tryz.f189.name, by kernel_rfl, by kernel_rfl⟩
  f31 := by kernel_rfl
  f32 := by kernel_rfl
  f36 := ⟨Tryz.f193.name, by kernel_rfl, by kernel_rfl⟩
  f37 := ⟨Tryz.f196.name, by kernel_rfl, by kernel_rfl⟩
  f38 := ⟨Tryz.f197.name, by kernel_rfl, by kernel_rfl⟩
  f39 := ⟨Tryz.f180.name, by kernel_rfl, by kernel_rfl⟩
  f41 := ⟨Tryz.f198.name, by kernel_rfl, by kernel_rfl⟩
  t0 := Tryz.underlying0
  a0 := Tryz.isAgg0
  z0 := Tryz.sizeOf0
  v0 := Tryz.zeroValue0
  t3 := Tryz.underlying3
  a3 := Tryz.isAgg3
  z3 := Tryz.sizeOf3
  v3 := Tryz.zeroValue3
  t4 := Tryz.underlying4
  a4 := Tryz.isAgg4
  z4 := Tryz.sizeOf4
  v4 := Tryz.zeroValue4
  t5 := Tryz.underlying5
  a5 := Tryz.isAgg5
  z5 := Tryz.sizeOf5
  v5 := Tryz.zeroValue5
  t9 := Tryz.underlying9
  a9 := Tryz.isAgg9
  z9 := Tryz.sizeOf9
  v9 := Tryz.zeroValue9
  t26 := Tryz.underlying76
  a26 := Tryz.isAgg76
  z26 := Tryz.sizeOf76
  v26 := Tryz.zeroValue76
  t27 := Tryz.underlying76
  a27 := Tryz.isAgg76
  z27 := Tryz.sizeOf76
  v27 := Tryz.zeroValue76
  t29 := Tryz.underlying9
  a29 := Tryz.isAgg9
  z29 := Tryz.sizeOf9
  v29 := Tryz.zeroValue9
  t32 := Tryz.underlying180
  a32 := Tryz.isAgg180
  z32 := Tryz.sizeOf180
  v32 := Tryz.zeroValue180
  t35 := Tryz.underlying187
  a35 := Tryz.isAgg187
  z35 := Tryz.sizeOf187
  v35 := Tryz.zeroValue187
  t36 := Tryz.underlying188
  a36 := Tryz.isAgg188
  z36 := Tryz.sizeOf188
  v36 := Tryz.zeroValue188
  t41 := Tryz.underlying181
  a41 := Tryz.isAgg181
  z41 := Tryz.sizeOf181
  v41 := Tryz.zeroValue181
  t44 := Tryz.underlying195
  a44 := Tryz.isAgg195
  z44 := Tryz.sizeOf195
  v44 := Tryz.zeroValue195
  t46 := Tryz.underlying197
  a46 := Tryz.isAgg197
  z46 := Tryz.sizeOf197
  v46 := Tryz.zeroValue197
  t53 := Tryz.underlying198
  a53 := Tryz.isAgg198
  z53 := Tryz.sizeOf198
  v53 := Tryz.zeroValue198
  t57 := Tryz.underlying202
  a57 := Tryz.isAgg202
  z57 := Tryz.sizeOf202
  v57 := Tryz.zeroValue202
  t63 := Tryz.underlying204
  a63 := Tryz.isAgg204
  z63 := Tryz.sizeOf204
  v63 := Tryz.zeroValue204
  t64 := Tryz.underlying112
  a64 := Tryz.isAgg112
  z64 := Tryz.sizeOf112
  v64 := Tryz.zeroValue112
end Go.Proofs.YtioaieacogoemaaGreat
