/- Texts of this proof: S02 G22 G24. -/
import Derived.Test.YtpaooephkpjkfaaGreatKT01
import Derived.Shelf.SlGeneric
import Derived.Shelf.SlLaysM
import Derived.Test.YtpaooephkpjkfaaGreatKG21
set_option linter.unusedSimpArgs false
set_option linter.unusedVariables false
set_option linter.unnecessarySimpa false
namespace Go.Proofs.YtpaooephkpjkfaaGreat
open Go.RowKit Go.Shelf
def sortS_ren : Ren where
  f := fun x => match x with
    | 6 => 196
    | 8 => 223
    | 9 => 222
    | 19 => 238
    | 20 => 239
    | 21 => 230
    | 22 => 231
    | 23 => 232
    | 24 => 233
    | 25 => 234
    | 26 => 235
    | 27 => 224
    | 28 => 236
    | 29 => 237
    | 36 => 241
    | 31 => 242
    | 32 => 243
    | 37 => 244
    | 38 => 245
    | 39 => 227
    | 41 => 247
    | n => n
  t := fun x => match x with
    | 27 => 70
    | 29 => 9
    | 3 => 3
    | 32 => 213
    | 26 => 70
    | 0 => 0
    | 44 => 225
    | 46 => 227
    | 4 => 4
    | 36 => 219
    | 35 => 218
    | 41 => 190
    | 5 => 5
    | 9 => 9
    | 53 => 228
    | 57 => 232
    | 63 => 234
    | 64 => 131
    | n => n
  g := fun n => n
theorem sortS_lays : SlLaysM.n6 Tryz.prog sortS_ren where
  mixed := follows_mixed
  f6 := ⟨Tryz.f196.name, by kernel_rfl, by kernel_rfl⟩
  f8 := by kernel_rfl
  f9 := ⟨Tryz.f222.name, by kernel_rfl, by kernel_rfl⟩
  f19 := by kernel_rfl
  f20 := by kernel_rfl
  f21 := ⟨Tryz.f230.name, by kernel_rfl, by kernel_rfl⟩
  f22 := ⟨Tryz.f231.name, by kernel_rfl, by kernel_rfl⟩
  f23 := ⟨Tryz.f232.name, by kernel_rfl, by kernel_rfl⟩
  f24 := ⟨Tryz.f233.name, by kernel_rfl, by kernel_rfl⟩
  f25 := ⟨Tryz.f234.name, by kernel_rfl, by kernel_rfl⟩
  f26 := ⟨Tryz.f235.name, by kernel_rfl, by kernel_rfl⟩
  f27 := ⟨Tryz.f224.name, by kernel_rfl, by kernel_rfl⟩
  f28 := ⟨Tryz.f236.name, by kernel_rfl, by kernel_rfl⟩
  f29 := ⟨Tryz.f237.name, by kernel_rfl, by kernel_rfl⟩
  f31 := by kernel_rfl
  f32 := by kernel_rfl
  f36 := ⟨Tryz.f241.name, by kernel_rfl, by kernel_rfl⟩
  f37 := ⟨Tryz.f244.name, by kernel_rfl, by kernel_rfl⟩
  f38 := ⟨Tryz.f245.name, by kernel_rfl, by kernel_rfl⟩
  f39 := ⟨Tryz.f227.name, by kernel_rfl, by kernel_rfl⟩
  f41 := ⟨Tryz.f247.name, by kernel_rfl, by kernel_rfl⟩
  t0 := Tryz.underlying0
  a0 := Tryz.isAgg0
  z0 := Tryz.sizeOf0
  v0 := Tryz.zeroValue0
  t3 := Tryz.underlying3
  a3 := Tryz.isAgg3
  z3 := Tryz.sizeOf3
  v3 := Tryz.zeroValue3
  t4 := Tryz.underlying4
  a4 := Tryz.isAgg4
  z4 := Tryz.sizeOf4
  v4 := Tryz.zeroValue4
  t5 := Tryz.underlying5
  a5 := Tryz.isAgg5
  z5 := Tryz.sizeOf5
  v5 := Tryz.zeroValue5
  t9 := Tryz.underlying9
  a9 := Tryz.isAgg9
  z9 := Tryz.sizeOf9
  v9 := Tryz.zeroValue9
  t26 := Tryz.underlying70
  a26 := Tryz.isAgg70
  z26 := Tryz.sizeOf70
  v26 := Tryz.zeroValue70
  t27 := Tryz.underlying70
  a27 := Tryz.isAgg70
  z27 := Tryz.sizeOf70
  v27 := Tryz.zeroValue70
  t29 := Tryz.underlying9
  a29 := Tryz.isAgg9
  z29 := Tryz.sizeOf9
  v29 := Tryz.zeroValue9
  t32 := Tryz.underlying213
  a32 := Tryz.isAgg213
  z32 := Tryz.sizeOf213
  v32 := Tryz.zeroValue213
  t35 := Tryz.underlying218
  a35 := Tryz.isAgg218
  z35 := Tryz.sizeOf218
  v35 := Tryz.zeroValue218
  t36 := Tryz.underlying219
  a36 := Tryz.isAgg219
  z36 := Tryz.sizeOf219
  v36 := Tryz.zeroValue219
  t41 := Tryz.underlying190
  a41 := Tryz.isAgg190
  z41 := Tryz.sizeOf190
  v41 := Tryz.zeroValue190
  t44 := Tryz.underlying225
  a44 := Tryz.isAgg225
  z44 := Tryz.sizeOf225
  v44 := Tryz.zeroValue225
  t46 := Tryz.underlying227
  a46 := Tryz.isAgg227
  z46 := Tryz.sizeOf227
  v46 := Tryz.zeroValue227
  t53 := Tryz.underlying228
  a53 := Tryz.isAgg228
  z53 := Tryz.sizeOf228
  v53 := Tryz.zeroValue228
  t57 := Tryz.underlying232
  a57 := Tryz.isAgg232
  z57 := Tryz.sizeOf232
  v57 := Tryz.zeroValue232
  t63 := Tryz.underlying234
  a63 := Tryz.isAgg234
  z63 := Tryz.sizeOf234
  v63 := Tryz.zeroValue234
  t64 := Tryz.underlying131
  a64 := Tryz.isAgg131
  z64 := Tryz.sizeOf131
  v64 := Tryz.zeroValue131
end Go.Proofs.YtpaooephkpjkfaaGreat

/- impl.getKey, getIndex, getAt, getPath, by the engine. -/
namespace Go.Proofs.YtpaooephkpjkfaaGreat
open Go.RowKit
set_option maxRecDepth 10000
theorem within_ac (n lo hi : Int) : AC Tryz.prog 67 [.c (.int .i64 n), .c (.int .i64 lo), .c (.int .i64 hi)] [] (.c (.bool (decide (n ≥ lo) && decide (n ≤ hi)))) [] := by
  cases h1 : decide (n ≥ lo) <;> cases h2 : decide (n ≤ hi)
  all_goals
    refine wEnter Tryz.func67 Tryz.ntmps67 ?_
    refine wRUN (j2 h1 h2) ?_
    exact wRet (ret_data []) Tryz.results67
theorem resA_some (c : Int) (t : V) : resA (c, some t) = outA 0 t := rfl
theorem resA_none (c : Int) : resA (c, none) = outA c nullV := rfl
end Go.Proofs.YtpaooephkpjkfaaGreat

/- impl.withPath, by the engine. -/
namespace Go.Proofs.YtpaooephkpjkfaaGreat
open Go.RowKit
set_option maxRecDepth 10000
theorem right_of_dec {xs : List CellD} {t : V} (h : dec xs = (0, some t)) : xs = t.enc ∧ t.right := by
  obtain ⟨h1, h2, h3, h4⟩ := dec_ok h
  exact ⟨h1, h2, h3, h4⟩
end Go.Proofs.YtpaooephkpjkfaaGreat
