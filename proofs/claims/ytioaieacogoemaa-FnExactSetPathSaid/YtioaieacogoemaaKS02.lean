/- slices.Sort at []string: that the program bears its closure (printed by gen_lay.py out of the kit's own laying). -/
import Derived.Test.YtioaieacogoemaaKT01
import Derived.Shelf.SlGeneric
import Derived.Shelf.SlLaysM
set_option linter.unusedSimpArgs false
set_option linter.unusedVariables false
set_option linter.unnecessarySimpa false
namespace Go.Proofs.Ytioaieacogoemaa
open Go.RowKit Go.Shelf
def sortS_ren : Ren where
  f := fun x => match x with
    | 6 => 153
    | 8 => 172
    | 9 => 177
    | 19 => 192
    | 20 => 193
    | 21 => 194
    | 22 => 195
    | 23 => 196
    | 24 => 197
    | 25 => 198
    | 26 => 199
    | 27 => 178
    | 28 => 200
    | 29 => 201
    | 36 => 207
    | 31 => 203
    | 32 => 204
    | 37 => 208
    | 38 => 209
    | 39 => 176
    | 41 => 211
    | n => n
  t := fun x => match x with
    | 27 => 72
    | 29 => 9
    | 3 => 3
    | 32 => 187
    | 26 => 72
    | 0 => 0
    | 44 => 196
    | 46 => 199
    | 4 => 4
    | 36 => 204
    | 35 => 203
    | 41 => 174
    | 5 => 5
    | 9 => 9
    | 53 => 217
    | 57 => 221
    | 63 => 225
    | 64 => 144
    | n => n
  g := fun n => n
theorem sortS_lays : SlLaysM.n6 Try.prog sortS_ren where
  mixed := follows_mixed
  f6 := ⟨Try.f153.name, by kernel_rfl, by kernel_rfl⟩
  f8 := by kernel_rfl
  f9 := ⟨Try.f177.name, by kernel_rfl, by kernel_rfl⟩
  f19 := by kernel_rfl
  f20 := by kernel_rfl
  f21 := ⟨Try.f194.name, by kernel_rfl, by kernel_rfl⟩
  f22 := ⟨Try.f195.name, by kernel_rfl, by kernel_rfl⟩
  f23 := ⟨Try.f196.name, by kernel_rfl, by kernel_rfl⟩
  f24 := ⟨Try.f197.name, by kernel_rfl, by kernel_rfl⟩
  f25 := ⟨Try.f198.name, by kernel_rfl, by kernel_rfl⟩
  f26 := ⟨Try.f199.name, by kernel_rfl, by kernel_rfl⟩
  f27 := ⟨Try.f178.name, by kernel_rfl, by kernel_rfl⟩
  f28 := ⟨Try.f200.name, by kernel_rfl, by kernel_rfl⟩
  f29 := ⟨Try.f201.name, by kernel_rfl, by kernel_rfl⟩
  f31 := by kernel_rfl
  f32 := by kernel_rfl
  f36 := ⟨Try.f207.name, by kernel_rfl, by kernel_rfl⟩
  f37 := ⟨Try.f208.name, by kernel_rfl, by kernel_rfl⟩
  f38 := ⟨Try.f209.name, by kernel_rfl, by kernel_rfl⟩
  f39 := ⟨Try.f176.name, by kernel_rfl, by kernel_rfl⟩
  f41 := ⟨Try.f211.name, by kernel_rfl, by kernel_rfl⟩
  t0 := Try.underlying0
  a0 := Try.isAgg0
  z0 := Try.sizeOf0
  v0 := Try.zeroValue0
  t3 := Try.underlying3
  a3 := Try.isAgg3
  z3 := Try.sizeOf3
  v3 := Try.zeroValue3
  t4 := Try.underlying4
  a4 := Try.isAgg4
  z4 := Try.sizeOf4
  v4 := Try.zeroValue4
  t5 := Try.underlying5
  a5 := Try.isAgg5
  z5 := Try.sizeOf5
  v5 := Try.zeroValue5
  t9 := Try.underlying9
  a9 := Try.isAgg9
  z9 := Try.sizeOf9
  v9 := Try.zeroValue9
  t26 := Try.underlying72
  a26 := Try.isAgg72
  z26 := Try.sizeOf72
  v26 := Try.zeroValue72
  t27 := Try.underlying72
  a27 := Try.isAgg72
  z27 := Try.sizeOf72
  v27 := Try.zeroValue72
  t29 := Try.underlying9
  a29 := Try.isAgg9
  z29 := Try.sizeOf9
  v29 := Try.zeroValue9
  t32 := Try.underlying187
  a32 := Try.isAgg187
  z32 := Try.sizeOf187
  v32 := Try.zeroValue187
  t35 := Try.underlying203
  a35 := Try.isAgg203
  z35 := Try.sizeOf203
  v35 := Try.zeroValue203
  t36 := Try.underlying204
  a36 := Try.isAgg204
  z36 := Try.sizeOf204
  v36 := Try.zeroValue204
  t41 := Try.underlying174
  a41 := Try.isAgg174
  z41 := Try.sizeOf174
  v41 := Try.zeroValue174
  t44 := Try.underlying196
  a44 := Try.isAgg196
  z44 := Try.sizeOf196
  v44 := Try.zeroValue196
  t46 := Try.underlying199
  a46 := Try.isAgg199
  z46 := Try.sizeOf199
  v46 := Try.zeroValue199
  t53 := Try.underlying217
  a53 := Try.isAgg217
  z53 := Try.sizeOf217
  v53 := Try.zeroValue217
  t57 := Try.underlying221
  a57 := Try.isAgg221
  z57 := Try.sizeOf221
  v57 := Try.zeroValue221
  t63 := Try.underlying225
  a63 := Try.isAgg225
  z63 := Try.sizeOf225
  v63 := Try.zeroValue225
  t64 := Try.underlying144
  a64 := Try.isAgg144
  z64 := Try.sizeOf144
  v64 := Try.zeroValue144
end Go.Proofs.Ytioaieacogoemaa
