/- slices.Sort, slices.Compact at []int64: that the program bears their closures (printed by gen_lay.py out of the kit's own laying). -/
import Derived.Test.YtioaieacogoemaaKT01
import Derived.Shelf.SlGeneric
import Derived.Shelf.SlLaysM
import Derived.Shelf.SlLaysN
set_option linter.unusedSimpArgs false
set_option linter.unusedVariables false
set_option linter.unnecessarySimpa false
namespace Go.Proofs.Ytioaieacogoemaa
open Go.RowKit Go.Shelf
def sortI_ren : Ren where
  f := fun x => match x with
    | 5 => 140
    | 8 => 172
    | 7 => 171
    | 19 => 192
    | 20 => 193
    | 10 => 183
    | 11 => 184
    | 12 => 185
    | 13 => 186
    | 14 => 187
    | 15 => 188
    | 16 => 189
    | 17 => 190
    | 18 => 191
    | 30 => 202
    | 31 => 203
    | 32 => 204
    | 33 => 205
    | 34 => 206
    | 35 => 146
    | 40 => 210
    | n => n
  t := fun x => match x with
    | 23 => 42
    | 25 => 2
    | 3 => 3
    | 32 => 187
    | 22 => 42
    | 0 => 0
    | 44 => 196
    | 46 => 199
    | 4 => 4
    | 36 => 204
    | 35 => 203
    | 41 => 174
    | 5 => 5
    | 9 => 9
    | 53 => 217
    | 57 => 221
    | 63 => 225
    | 64 => 144
    | n => n
  g := fun n => n
theorem sortI_lays : SlLaysM.n5 Try.prog sortI_ren where
  mixed := follows_mixed
  f5 := ⟨Try.f140.name, by kernel_rfl, by kernel_rfl⟩
  f7 := ⟨Try.f171.name, by kernel_rfl, by kernel_rfl⟩
  f8 := by kernel_rfl
  f10 := ⟨Try.f183.name, by kernel_rfl, by kernel_rfl⟩
  f11 := ⟨Try.f184.name, by kernel_rfl, by kernel_rfl⟩
  f12 := ⟨Try.f185.name, by kernel_rfl, by kernel_rfl⟩
  f13 := ⟨Try.f186.name, by kernel_rfl, by kernel_rfl⟩
  f14 := ⟨Try.f187.name, by kernel_rfl, by kernel_rfl⟩
  f15 := ⟨Try.f188.name, by kernel_rfl, by kernel_rfl⟩
  f16 := ⟨Try.f189.name, by kernel_rfl, by kernel_rfl⟩
  f17 := ⟨Try.f190.name, by kernel_rfl, by kernel_rfl⟩
  f18 := ⟨Try.f191.name, by kernel_rfl, by kernel_rfl⟩
  f19 := by kernel_rfl
  f20 := by kernel_rfl
  f30 := ⟨Try.f202.name, by kernel_rfl, by kernel_rfl⟩
  f31 := by kernel_rfl
  f32 := by kernel_rfl
  f33 := ⟨Try.f205.name, by kernel_rfl, by kernel_rfl⟩
  f34 := ⟨Try.f206.name, by kernel_rfl, by kernel_rfl⟩
  f35 := ⟨Try.f146.name, by kernel_rfl, by kernel_rfl⟩
  f40 := ⟨Try.f210.name, by kernel_rfl, by kernel_rfl⟩
  t0 := Try.underlying0
  a0 := Try.isAgg0
  z0 := Try.sizeOf0
  v0 := Try.zeroValue0
  t3 := Try.underlying3
  a3 := Try.isAgg3
  z3 := Try.sizeOf3
  v3 := Try.zeroValue3
  t4 := Try.underlying4
  a4 := Try.isAgg4
  z4 := Try.sizeOf4
  v4 := Try.zeroValue4
  t5 := Try.underlying5
  a5 := Try.isAgg5
  z5 := Try.sizeOf5
  v5 := Try.zeroValue5
  t9 := Try.underlying9
  a9 := Try.isAgg9
  z9 := Try.sizeOf9
  v9 := Try.zeroValue9
  t22 := Try.underlying42
  a22 := Try.isAgg42
  z22 := Try.sizeOf42
  v22 := Try.zeroValue42
  t23 := Try.underlying42
  a23 := Try.isAgg42
  z23 := Try.sizeOf42
  v23 := Try.zeroValue42
  t25 := Try.underlying2
  a25 := Try.isAgg2
  z25 := Try.sizeOf2
  v25 := Try.zeroValue2
  t32 := Try.underlying187
  a32 := Try.isAgg187
  z32 := Try.sizeOf187
  v32 := Try.zeroValue187
  t35 := Try.underlying203
  a35 := Try.isAgg203
  z35 := Try.sizeOf203
  v35 := Try.zeroValue203
  t36 := Try.underlying204
  a36 := Try.isAgg204
  z36 := Try.sizeOf204
  v36 := Try.zeroValue204
  t41 := Try.underlying174
  a41 := Try.isAgg174
  z41 := Try.sizeOf174
  v41 := Try.zeroValue174
  t44 := Try.underlying196
  a44 := Try.isAgg196
  z44 := Try.sizeOf196
  v44 := Try.zeroValue196
  t46 := Try.underlying199
  a46 := Try.isAgg199
  z46 := Try.sizeOf199
  v46 := Try.zeroValue199
  t53 := Try.underlying217
  a53 := Try.isAgg217
  z53 := Try.sizeOf217
  v53 := Try.zeroValue217
  t57 := Try.underlying221
  a57 := Try.isAgg221
  z57 := Try.sizeOf221
  v57 := Try.zeroValue221
  t63 := Try.underlying225
  a63 := Try.isAgg225
  z63 := Try.sizeOf225
  v63 := Try.zeroValue225
  t64 := Try.underlying144
  a64 := Try.isAgg144
  z64 := Try.sizeOf144
  v64 := Try.zeroValue144
def compI_ren : Ren where
  f := fun x => match x with
    | 43 => 141
    | n => n
  t := fun x => match x with
    | 22 => 42
    | 23 => 2
    | 3 => 3
    | 4 => 4
    | 0 => 0
    | n => n
  g := fun n => n
theorem compI_lays : SlLaysN.n43 Try.prog compI_ren where
  mixed := follows_mixed
  f43 := ⟨Try.f141.name, by kernel_rfl, by kernel_rfl⟩
  t0 := Try.underlying0
  a0 := Try.isAgg0
  z0 := Try.sizeOf0
  v0 := Try.zeroValue0
  t3 := Try.underlying3
  a3 := Try.isAgg3
  z3 := Try.sizeOf3
  v3 := Try.zeroValue3
  t4 := Try.underlying4
  a4 := Try.isAgg4
  z4 := Try.sizeOf4
  v4 := Try.zeroValue4
  t22 := Try.underlying42
  a22 := Try.isAgg42
  z22 := Try.sizeOf42
  v22 := Try.zeroValue42
  t23 := Try.underlying2
  a23 := Try.isAgg2
  z23 := Try.sizeOf2
  v23 := Try.zeroValue2
  i23 := by kernel_rfl
end Go.Proofs.Ytioaieacogoemaa
