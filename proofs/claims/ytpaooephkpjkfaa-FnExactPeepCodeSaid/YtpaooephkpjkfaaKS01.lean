/- slices.Sort, slices.Compact at []int64: that the program bears their closures (printed by gen_lay.py out of the kit's own laying). -/
import Derived.Test.YtpaooephkpjkfaaKT01
import Derived.Shelf.SlGeneric
import Derived.Shelf.SlLaysM
import Derived.Shelf.SlLaysN
set_option linter.unusedSimpArgs false
set_option linter.unusedVariables false
set_option linter.unnecessarySimpa false
namespace Go.Proofs.Ytpaooephkpjkfaa
open Go.RowKit Go.Shelf
def sortI_ren : Ren where
  f := fun x => match x with
    | 5 => 35
    | 8 => 55
    | 7 => 54
    | 19 => 75
    | 20 => 76
    | 10 => 66
    | 11 => 67
    | 12 => 68
    | 13 => 69
    | 14 => 70
    | 15 => 71
    | 16 => 72
    | 17 => 73
    | 18 => 74
    | 30 => 82
    | 31 => 83
    | 32 => 84
    | 33 => 85
    | 34 => 86
    | 35 => 87
    | 40 => 88
    | n => n
  t := fun x => match x with
    | 23 => 38
    | 25 => 2
    | 3 => 3
    | 32 => 85
    | 22 => 38
    | 0 => 0
    | 44 => 107
    | 46 => 109
    | 4 => 4
    | 36 => 99
    | 35 => 98
    | 41 => 104
    | 5 => 5
    | 9 => 9
    | 53 => 116
    | 57 => 120
    | 63 => 122
    | 64 => 90
    | n => n
  g := fun n => n
theorem sortI_lays : SlLaysM.n5 Try.prog sortI_ren where
  mixed := follows_mixed
  f5 := ⟨Try.f35.name, by kernel_rfl, by kernel_rfl⟩
  f7 := ⟨Try.f54.name, by kernel_rfl, by kernel_rfl⟩
  f8 := by kernel_rfl
  f10 := ⟨Try.f66.name, by kernel_rfl, by kernel_rfl⟩
  f11 := ⟨Try.f67.name, by kernel_rfl, by kernel_rfl⟩
  f12 := ⟨Try.f68.name, by kernel_rfl, by kernel_rfl⟩
  f13 := ⟨Try.f69.name, by kernel_rfl, by kernel_rfl⟩
  f14 := ⟨Try.f70.name, by kernel_rfl, by kernel_rfl⟩
  f15 := ⟨Try.f71.name, by kernel_rfl, by kernel_rfl⟩
  f16 := ⟨Try.f72.name, by kernel_rfl, by kernel_rfl⟩
  f17 := ⟨Try.f73.name, by kernel_rfl, by kernel_rfl⟩
  f18 := ⟨Try.f74.name, by kernel_rfl, by kernel_rfl⟩
  f19 := by kernel_rfl
  f20 := by kernel_rfl
  f30 := ⟨Try.f82.name, by kernel_rfl, by kernel_rfl⟩
  f31 := by kernel_rfl
  f32 := by kernel_rfl
  f33 := ⟨Try.f85.name, by kernel_rfl, by kernel_rfl⟩
  f34 := ⟨Try.f86.name, by kernel_rfl, by kernel_rfl⟩
  f35 := ⟨Try.f87.name, by kernel_rfl, by kernel_rfl⟩
  f40 := ⟨Try.f88.name, by kernel_rfl, by kernel_rfl⟩
  t0 := Try.underlying0
  a0 := Try.isAgg0
  z0 := Try.sizeOf0
  v0 := Try.zeroValue0
  t3 := Try.underlying3
  a3 := Try.isAgg3
  z3 := Try.sizeOf3
  v3 := Try.zeroValue3
  t4 := Try.underlying4
  a4 := Try.isAgg4
  z4 := Try.sizeOf4
  v4 := Try.zeroValue4
  t5 := Try.underlying5
  a5 := Try.isAgg5
  z5 := Try.sizeOf5
  v5 := Try.zeroValue5
  t9 := Try.underlying9
  a9 := Try.isAgg9
  z9 := Try.sizeOf9
  v9 := Try.zeroValue9
  t22 := Try.underlying38
  a22 := Try.isAgg38
  z22 := Try.sizeOf38
  v22 := Try.zeroValue38
  t23 := Try.underlying38
  a23 := Try.isAgg38
  z23 := Try.sizeOf38
  v23 := Try.zeroValue38
  t25 := Try.underlying2
  a25 := Try.isAgg2
  z25 := Try.sizeOf2
  v25 := Try.zeroValue2
  t32 := Try.underlying85
  a32 := Try.isAgg85
  z32 := Try.sizeOf85
  v32 := Try.zeroValue85
  t35 := Try.underlying98
  a35 := Try.isAgg98
  z35 := Try.sizeOf98
  v35 := Try.zeroValue98
  t36 := Try.underlying99
  a36 := Try.isAgg99
  z36 := Try.sizeOf99
  v36 := Try.zeroValue99
  t41 := Try.underlying104
  a41 := Try.isAgg104
  z41 := Try.sizeOf104
  v41 := Try.zeroValue104
  t44 := Try.underlying107
  a44 := Try.isAgg107
  z44 := Try.sizeOf107
  v44 := Try.zeroValue107
  t46 := Try.underlying109
  a46 := Try.isAgg109
  z46 := Try.sizeOf109
  v46 := Try.zeroValue109
  t53 := Try.underlying116
  a53 := Try.isAgg116
  z53 := Try.sizeOf116
  v53 := Try.zeroValue116
  t57 := Try.underlying120
  a57 := Try.isAgg120
  z57 := Try.sizeOf120
  v57 := Try.zeroValue120
  t63 := Try.underlying122
  a63 := Try.isAgg122
  z63 := Try.sizeOf122
  v63 := Try.zeroValue122
  t64 := Try.underlying90
  a64 := Try.isAgg90
  z64 := Try.sizeOf90
  v64 := Try.zeroValue90
def compI_ren : Ren where
  f := fun x => match x with
    | 43 => 36
    | n => n
  t := fun x => match x with
    | 22 => 38
    | 23 => 2
    | 3 => 3
    | 4 => 4
    | 0 => 0
    | n => n
  g := fun n => n
theorem compI_lays : SlLaysN.n43 Try.prog compI_ren where
  mixed := follows_mixed
  f43 := ⟨Try.f36.name, by kernel_rfl, by kernel_rfl⟩
  t0 := Try.underlying0
  a0 := Try.isAgg0
  z0 := Try.sizeOf0
  v0 := Try.zeroValue0
  t3 := Try.underlying3
  a3 := Try.isAgg3
  z3 := Try.sizeOf3
  v3 := Try.zeroValue3
  t4 := Try.underlying4
  a4 := Try.isAgg4
  z4 := Try.sizeOf4
  v4 := Try.zeroValue4
  t22 := Try.underlying38
  a22 := Try.isAgg38
  z22 := Try.sizeOf38
  v22 := Try.zeroValue38
  t23 := Try.underlying2
  a23 := Try.isAgg2
  z23 := Try.sizeOf2
  v23 := Try.zeroValue2
  i23 := by kernel_rfl
end Go.Proofs.Ytpaooephkpjkfaa
