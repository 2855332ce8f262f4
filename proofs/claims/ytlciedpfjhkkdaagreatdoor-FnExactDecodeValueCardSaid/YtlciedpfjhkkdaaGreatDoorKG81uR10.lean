/- Texts of this proof: G81 R09 R10. -/
import Derived.Test.YtlciedpfjhkkdaaGreatDoorKD02uG08
import Derived.Test.YtlciedpfjhkkdaaGreatDoorKG04uM29
import Derived.Test.YtlciedpfjhkkdaaGreatDoorKG22uG9
import Derived.Test.YtlciedpfjhkkdaaGreatDoorKL1uS02
import Derived.Shelf.Strconv.Itoa4
import Derived.Test.YtlciedpfjhkkdaaGreatDoorKE35uD01
import Derived.Test.YtlciedpfjhkkdaaGreatDoorKE6
import Derived.Lib.ItoaLen
import Derived.Lib.ItoaMem
set_option linter.unusedSimpArgs false
set_option linter.unusedVariables false
set_option linter.unnecessarySimpa false
set_option maxHeartbeats 8000000
namespace Go.Proofs.YtlciedpfjhkkdaaGreatDoor
open Go.RowKit
set_option maxRecDepth 10000
theorem mkV_enc (k : Int) : (V.mk k 0 ByteArray.empty [] []).enc.map CellD.cs = [[.int .i64 k, .int .i64 0, .str ByteArray.empty, .str ByteArray.empty, .int .i64 0]] := rfl
end Go.Proofs.YtlciedpfjhkkdaaGreatDoor
namespace Go.Proofs.YtlciedpfjhkkdaaGreatDoor
open Go.RowKit Go.Shelf
def fmtInt_ren : Ren where
 f := fun x => match x with
  | 173 => 112
  | 246 => 166
  | 283 => 198
  | 284 => 199
  | 285 => 200
  | 286 => 201
  | 129 => 224
  | 317 => 223
  | 318 => 225
  | 319 => 226
  | 320 => 227
  | 337 => 250
  | 338 => 251
  | n => n
 t := fun x => match x with
  | 2 => 2
  | 3 => 3
  | 9 => 9
  | 4 => 4
  | 171 => 215
  | 0 => 0
  | 53 => 216
  | 37 => 29
  | 5 => 5
  | 173 => 219
  | 212 => 253
  | 51 => 224
  | 20 => 20
  | 213 => 254
  | 46 => 243
  | 232 => 299
  | 233 => 300
  | n => n
 g := fun x => match x with
  | 17 => 1
  | 18 => 4
  | 19 => 5
  | n => n
theorem fmtInt_lays : LaysM.n173 Tryz.prog fmtInt_ren where
 mixed := follows_mixed
 f129 := by kernel_rfl
 f173 := by kernel_rfl
 f246 := by kernel_rfl
 f283 := by kernel_rfl
 f284 := by kernel_rfl
 f285 := by kernel_rfl
 f286 := by kernel_rfl
 f317 := by kernel_rfl
 f318 := by kernel_rfl
 f319 := by kernel_rfl
 f320 := by kernel_rfl
 f337 := by kernel_rfl
 f338 := by kernel_rfl
 t0 := Tryz.underlying0
 a0 := Tryz.isAgg0
 z0 := Tryz.sizeOf0
 v0 := Tryz.zeroValue0
 t2 := Tryz.underlying2
 a2 := Tryz.isAgg2
 z2 := Tryz.sizeOf2
 v2 := Tryz.zeroValue2
 t3 := Tryz.underlying3
 a3 := Tryz.isAgg3
 z3 := Tryz.sizeOf3
 v3 := Tryz.zeroValue3
 t4 := Tryz.underlying4
 a4 := Tryz.isAgg4
 z4 := Tryz.sizeOf4
 v4 := Tryz.zeroValue4
 t5 := Tryz.underlying5
 a5 := Tryz.isAgg5
 z5 := Tryz.sizeOf5
 v5 := Tryz.zeroValue5
 t9 := Tryz.underlying9
 a9 := Tryz.isAgg9
 z9 := Tryz.sizeOf9
 v9 := Tryz.zeroValue9
 t20 := Tryz.underlying20
 a20 := Tryz.isAgg20
 z20 := Tryz.sizeOf20
 v20 := Tryz.zeroValue20
 t37 := Tryz.underlying29
 a37 := Tryz.isAgg29
 z37 := Tryz.sizeOf29
 v37 := Tryz.zeroValue29
 t46 := Tryz.underlying243
 a46 := Tryz.isAgg243
 z46 := Tryz.sizeOf243
 v46 := Tryz.zeroValue243
 t51 := Tryz.underlying224
 a51 := Tryz.isAgg224
 z51 := Tryz.sizeOf224
 v51 := Tryz.zeroValue224
 t53 := Tryz.underlying216
 a53 := Tryz.isAgg216
 z53 := Tryz.sizeOf216
 v53 := Tryz.zeroValue216
 t171 := Tryz.underlying215
 a171 := Tryz.isAgg215
 z171 := Tryz.sizeOf215
 v171 := Tryz.zeroValue215
 t173 := Tryz.underlying219
 a173 := Tryz.isAgg219
 z173 := Tryz.sizeOf219
 v173 := Tryz.zeroValue219
 t212 := Tryz.underlying253
 a212 := Tryz.isAgg253
 z212 := Tryz.sizeOf253
 v212 := Tryz.zeroValue253
 t213 := Tryz.underlying254
 a213 := Tryz.isAgg254
 z213 := Tryz.sizeOf254
 t232 := Tryz.underlying299
 a232 := Tryz.isAgg299
 z232 := Tryz.sizeOf299
 v232 := Tryz.zeroValue299
 t233 := Tryz.underlying300
 a233 := Tryz.isAgg300
 z233 := Tryz.sizeOf300
 v233 := Tryz.zeroValue300
 g17 := by kernel_rfl
 g18 := by kernel_rfl
 g19 := by kernel_rfl
 i0 := by kernel_rfl
 i2 := by kernel_rfl
 i3 := by kernel_rfl
 i4 := by kernel_rfl
 i5 := by kernel_rfl
 i9 := by kernel_rfl
 i20 := by kernel_rfl
 i37 := by kernel_rfl
 i46 := by kernel_rfl
 i51 := by kernel_rfl
 i53 := by kernel_rfl
 i171 := by kernel_rfl
 i173 := by kernel_rfl
 i212 := by kernel_rfl
 i232 := by kernel_rfl
 i233 := by kernel_rfl
 m17 := by kernel_rfl
 m18 := by kernel_rfl
 m19 := by kernel_rfl
def tabR (o : Obj) (b : Nat) (_ : Value) (_ : List (List Value)) (obj : Obj) : Prop := obj = o ∧ Tryz.prog.globalNamed "internal/strconv.uint64pow10" = some b ∧ ∀ w : World, w.heap[b]? = some obj → Lib.TabIs Tryz.prog w "internal/strconv.uint64pow10" .u64 Lib.pow10Tab
abbrev tabM (o : Obj) : Mem := [((8, 0), .blk (tabR o) [])]
theorem AC.of_tab {o : Obj} {f : FuncId} {args : List AV} {res : AV}
  (h : ∀ (S : Nat → Prop) (w : World) (m : Mem) (κ : Id → Value) (vals : List Value), Lib.TabIs Tryz.prog w "internal/strconv.uint64pow10" .u64 Lib.pow10Tab → ARs w S m κ args vals → Calls Tryz.prog f vals.toArray w fun e w' => Below w.heap.size w w' ∧ ∃ v, e = .returned v ∧ ∀ T : Nat → Prop, (∀ b, S b → T b) → (∀ b, w.heap.size ≤ b → T b) → AR w' T m κ res v) : AC Tryz.prog f args (tabM o) res (tabM o) := by
 intro Γ vals hE hA
 obtain ⟨b, obj, vrows, h1, h2, h3, h4⟩ := hE.objs (8, 0) _ rfl
 refine (h _ _ _ _ _ (h4.2.2 _ h2) hA).mono ?_
 rintro e w' ⟨hb, v, rfl, hv⟩
 have hlt : ∀ b i, Γ.ow b = some i → b < Γ.w.heap.size := fun b i hbi => (hE.own b i hbi).1
 have hnone : ∀ b, Γ.w.heap.size ≤ b → Γ.ow b = none := by
  intro b hb
  cases hbi : Γ.ow b with
  | none => rfl
  | some i => have := hlt b i hbi; omega
 refine ⟨v, Γ.ow, Γ.κ, rfl, ⟨hv _ (fun _ h => h) (fun b hb => ⟨hnone b hb, .inr (.inl hb)⟩), ?_, ?_, hb.os, hb.tape, hb.output, hb.size, fun b hl ho => ⟨hb.block b hl, ho⟩, fun i o1 o2 _ _ => rfl⟩⟩
 ·intro i o' hi
  obtain ⟨rfl, rfl⟩ : i = (8, 0) ∧ o' = .blk (tabR o) [] := by
   simp only [Mem.get, List.lookup_cons, List.lookup_nil] at hi
   by_cases hq : i = (8, 0)
   ·subst hq
    simpa [eq_comm] using hi
   ·have : (i == ((8, 0) : Id)) = false := by simpa using hq
    rw [this] at hi
    cases hi
  refine ⟨b, obj, vrows, h1, (hb.block b (hlt b _ h1)).trans h2, ?_, h4⟩
  simp only [CRss] at h3 ⊢
  exact h3
 ·intro b i hbi
  obtain ⟨k1, o1, k2, k3⟩ := hE.own b i hbi
  exact ⟨Nat.lt_of_lt_of_le k1 hb.size, o1, k2, k3⟩
def numS (n : Int) : ByteArray := ⟨(Lib.itoa n).toArray⟩
theorem formatInt_ac {o : Obj} (n : Int) (h0 : -9223372036854775808 ≤ n) (h1 : n ≤ 9223372036854775807) : AC Tryz.prog 112 [.c (.int .i64 n), .c (.int .i64 10)] (tabM o) (.c (.str (numS n))) (tabM o) := by
 refine AC.of_tab fun S w m κ vals ht hv => ?_
 obtain ⟨v, vs, rfl, ⟨rfl, _⟩, u, us, rfl, ⟨rfl, _⟩, rfl⟩ := hv
 refine (Any.strconv_FormatInt_10 fmtInt_lays n h0 h1 w ht).mono ?_
 rintro e w' ⟨rfl, k, os, rfl⟩
 exact ⟨⟨rfl, rfl, rfl, by simp [Sort.grow], fun b hb => Sort.heap_grow_old (w.drewN k) os hb⟩, _, rfl, fun T _ _ => ⟨rfl, rfl⟩⟩
theorem AC.calls_tab {o : Obj} {f : FuncId} {args : List AV} {b : Bool} (h : AC Tryz.prog f args (tabM o) (.c (.bool b)) (tabM o)) {w : World} {S : Nat → Prop} {vals : List Value} {g : Nat}
  (hg : Tryz.prog.globalNamed "internal/strconv.uint64pow10" = some g) (ho : w.heap[g]? = some o) (htab : Lib.TabIs Tryz.prog w "internal/strconv.uint64pow10" .u64 Lib.pow10Tab) (hS : ¬ S g)
  (hv : ∀ (T : Nat → Prop), (∀ b, S b → T b) → ∀ m κ, ARs w T m κ args vals) : Calls Tryz.prog f vals.toArray w fun e w' => e = .returned (.bool b) ∧ Below w.heap.size w w' := by
 have hgl : g < w.heap.size := (Array.getElem?_eq_some_iff.1 ho).1
 let Γ : Ctx := ⟨w, S, fun b => if b = g then some (8, 0) else none, fun _ => .bool false, [(8, 0)]⟩
 have hE : Entry Γ (tabM o) := by
  refine ⟨fun i o' hi => ?_, fun b i hb => ?_, rfl⟩
  ·obtain ⟨rfl, rfl⟩ : i = (8, 0) ∧ o' = .blk (tabR o) [] := by
    simp only [Mem.get, List.lookup_cons, List.lookup_nil] at hi
    by_cases hq : i = (8, 0)
    ·subst hq
     simpa [eq_comm] using hi
    ·have : (i == ((8, 0) : Id)) = false := by simpa using hq
     rw [this] at hi
     cases hi
   refine ⟨g, o, [], by simp [Γ], ho, by simp [CRss], rfl, hg, fun w2 h2 => ?_⟩
   unfold Lib.TabIs World.var? at htab ⊢
   rw [hg] at htab ⊢
   simp only [Option.bind_some, h2, ho] at htab ⊢
   exact htab
  ·simp only [Γ] at hb
   split at hb
   ·rename_i e
    subst e
    cases hb
    exact ⟨hgl, _, rfl, rfl⟩
   ·cases hb
 refine (h Γ vals hE (hv _ (fun b hb => ⟨by simp only [Γ]; rw [if_neg]; rintro rfl; exact hS hb, .inl hb⟩) _ _)).mono ?_
 rintro e w' ⟨v, ow, κ, rfl, hx⟩
 obtain ⟨rfl, _⟩ := hx.res
 refine ⟨rfl, hx.os, hx.tape, hx.output, hx.size, fun b hb => ?_⟩
 by_cases hbg : b = g
 ·subst hbg
  obtain ⟨b', obj, vr, k1, k2, k3, rfl, k5, k6⟩ := hx.objs (8, 0) _ rfl
  rw [hg] at k5
  cases k5
  rw [k2]
  exact ho.symm
 ·exact (hx.frame b hb (by simp only [Γ]; rw [if_neg hbg])).1
end Go.Proofs.YtlciedpfjhkkdaaGreatDoor
namespace Go.Proofs.YtlciedpfjhkkdaaGreatDoor
open Go.RowKit
set_option maxRecDepth 10000
theorem str_mk_append (a b : List UInt8) : (⟨a.toArray⟩ : ByteArray) ++ ⟨b.toArray⟩ = ⟨(a ++ b).toArray⟩ := by
 apply ByteArray.ext
 simp
theorem digits_size (n : Nat) (h : n ≤ 9223372036854775807) : (⟨(Lib.decDigits n).toArray⟩ : ByteArray).size ≤ 21 := by
 have h1 := Lib.itoa_length_le n (by omega) (by omega)
 rw [Lib.itoa_nonneg] at h1
 show (Lib.decDigits n).toArray.size ≤ 21
 simpa using h1
theorem digit_cells (n : Nat) (h : n < 10) : byteRows [UInt8.ofNat (48 + n)] = [[.int .u8 (48 + (n : Int))]] := by
 have : (UInt8.ofNat (48 + n)).toNat = 48 + n := by simp; omega
 simp only [byteRows, List.map_cons, List.map_nil, this]
 rfl
theorem u8_wrap {n : Int} (h0 : 0 ≤ n) (h1 : n < 256) : IntKind.u8.wrap n = n := IntWalk.u8_in _ (by omega)
theorem digits_ac : ∀ (k n : Nat), n < k → n ≤ 9223372036854775807 → AC Tryz.prog 206 [.c (.int .i64 n)] [] (.c (.str ⟨(Lib.decDigits n).toArray⟩)) [] := by
 intro k
 induction k with
 | zero => intro n h; omega
 | succ k ih =>
  intro n hn hm
  have t1 := Tryz.underlying29
  have t2 := Tryz.underlying5
  have t3 := Tryz.underlying9
  by_cases h : n < 10
  ·have hd : decide ((n : Int) < 10) = true := decide_eq_true (by omega)
   have hb := digit_cells n h
   have h1 : IntKind.i64.wrap (48 + (n : Int)) = 48 + (n : Int) := IntWalk.i64_in _ (by omega)
   have h2 : IntKind.u8.wrap (48 + (n : Int)) = 48 + (n : Int) := u8_wrap (by omega) (by omega)
   rw [Lib.decDigits_one h]
   generalize hy : (⟨[UInt8.ofNat (48 + n)].toArray⟩ : ByteArray) = y
   refine wEnter Tryz.func206 Tryz.ntmps206 ?_
   refine wRUN (j3 hd h1 h2) ?_
   (apply (op_conv [UInt8.ofNat (48 + n)] hy (by simp) t1 t2 t3); (focus (first | (simp only [go_sem, Nat.reduceEqDiff, Nat.reduceAdd, Nat.reduceSub, Nat.reduceLeDiff, Nat.reduceMul, Nat.reduceBEq, Nat.reduceLT, Int.reduceToNat, reduceCtorEq]; first | done | exact rfl | (and_intros <;> rfl)) | exact rfl | decide)); (focus (first | (simp only [go_sem, Nat.reduceEqDiff, Nat.reduceAdd, Nat.reduceSub, Nat.reduceLeDiff, Nat.reduceMul, Nat.reduceBEq, Nat.reduceLT, Int.reduceToNat, reduceCtorEq]; first | done | exact rfl | (and_intros <;> rfl)) | exact rfl | decide)); (focus (first | (simp only [go_sem, Nat.reduceEqDiff, Nat.reduceAdd, Nat.reduceSub, Nat.reduceLeDiff, Nat.reduceMul, Nat.reduceBEq, Nat.reduceLT, Int.reduceToNat, reduceCtorEq]; first | done | exact rfl | (and_intros <;> rfl)) | exact rfl | decide)); (focus (first | (simp only [go_sem, Nat.reduceEqDiff, Nat.reduceAdd, Nat.reduceSub, Nat.reduceLeDiff, Nat.reduceMul, Nat.reduceBEq, Nat.reduceLT, Int.reduceToNat, reduceCtorEq, hb]; first | done | exact rfl | (and_intros <;> rfl)) | exact rfl | decide)); (focus (first | (simp only [go_sem, Nat.reduceEqDiff, Nat.reduceAdd, Nat.reduceSub, Nat.reduceLeDiff, Nat.reduceMul, Nat.reduceBEq, Nat.reduceLT, Int.reduceToNat, reduceCtorEq]; first | done | exact rfl | (and_intros <;> rfl)) | exact rfl | decide)); (focus (first | (simp only [go_sem, Nat.reduceEqDiff, Nat.reduceAdd, Nat.reduceSub, Nat.reduceLeDiff, Nat.reduceMul, Nat.reduceBEq, Nat.reduceLT, Int.reduceToNat, reduceCtorEq]; first | done | exact rfl | (and_intros <;> rfl)) | exact rfl | decide)))
   refine wRUN (j3 hd h1 h2) ?_
   exact wRet (ret_data []) Tryz.results206
  ·have hd : decide ((n : Int) < 10) = false := decide_eq_false (by omega)
   have hq : IntKind.i64.wrap ((n : Int).tdiv 10) = ((n / 10 : Nat) : Int) := by
    rw [show ((n : Int).tdiv 10) = ((n / 10 : Nat) : Int) by rw [Int.tdiv_eq_ediv_of_nonneg (by omega)]; rfl]
    exact IntWalk.i64_in _ (by omega)
   have hr : (n : Int).tmod 10 = ((n % 10 : Nat) : Int) := by rw [Int.tmod_eq_emod_of_nonneg (by omega)]; rfl
   have hrw : IntKind.i64.wrap ((n % 10 : Nat) : Int) = ((n % 10 : Nat) : Int) := IntWalk.i64_in _ (by omega)
   have h1 : IntKind.i64.wrap (48 + ((n % 10 : Nat) : Int)) = 48 + ((n % 10 : Nat) : Int) := IntWalk.i64_in _ (by omega)
   have h2 : IntKind.u8.wrap (48 + ((n % 10 : Nat) : Int)) = 48 + ((n % 10 : Nat) : Int) := u8_wrap (by omega) (by omega)
   have hb := digit_cells (n % 10) (by omega)
   have ihn := ih (n / 10) (by omega) (by omega)
   have hs1 := digits_size (n / 10) (by omega)
   have hs2 : (⟨(Lib.decDigits (n / 10)).toArray⟩ : ByteArray).size + (⟨[UInt8.ofNat (48 + n % 10)].toArray⟩ : ByteArray).size ≤ 9223372036854775807 := by
    have : (⟨[UInt8.ofNat (48 + n % 10)].toArray⟩ : ByteArray).size = 1 := rfl
    omega
   have happ : (⟨(Lib.decDigits (n / 10)).toArray⟩ : ByteArray) ++ ⟨[UInt8.ofNat (48 + n % 10)].toArray⟩ = ⟨(Lib.decDigits n).toArray⟩ := by
    rw [str_mk_append]
    congr 2
    rw [Lib.decDigits.eq_1 n, dif_neg h]
   generalize hx : (⟨(Lib.decDigits (n / 10)).toArray⟩ : ByteArray) = x at *
   generalize hm0 : n % 10 = m0 at *
   generalize hy : (⟨[UInt8.ofNat (48 + m0)].toArray⟩ : ByteArray) = y at *
   refine wEnter Tryz.func206 Tryz.ntmps206 ?_
   refine wRUN (j6 hd hq hr hrw h1 h2) ?_
   refine w7 (op_data [] ihn) trivial ?_
   refine wRUN (j6 hd hq hr hrw h1 h2) ?_
   (apply (op_conv [UInt8.ofNat (48 + m0)] hy (by simp) t1 t2 t3); (focus (first | (simp only [go_sem, Nat.reduceEqDiff, Nat.reduceAdd, Nat.reduceSub, Nat.reduceLeDiff, Nat.reduceMul, Nat.reduceBEq, Nat.reduceLT, Int.reduceToNat, reduceCtorEq]; first | done | exact rfl | (and_intros <;> rfl)) | exact rfl | decide)); (focus (first | (simp only [go_sem, Nat.reduceEqDiff, Nat.reduceAdd, Nat.reduceSub, Nat.reduceLeDiff, Nat.reduceMul, Nat.reduceBEq, Nat.reduceLT, Int.reduceToNat, reduceCtorEq]; first | done | exact rfl | (and_intros <;> rfl)) | exact rfl | decide)); (focus (first | (simp only [go_sem, Nat.reduceEqDiff, Nat.reduceAdd, Nat.reduceSub, Nat.reduceLeDiff, Nat.reduceMul, Nat.reduceBEq, Nat.reduceLT, Int.reduceToNat, reduceCtorEq]; first | done | exact rfl | (and_intros <;> rfl)) | exact rfl | decide)); (focus (first | (simp only [go_sem, Nat.reduceEqDiff, Nat.reduceAdd, Nat.reduceSub, Nat.reduceLeDiff, Nat.reduceMul, Nat.reduceBEq, Nat.reduceLT, Int.reduceToNat, reduceCtorEq, hb]; first | done | exact rfl | (and_intros <;> rfl)) | exact rfl | decide)); (focus (first | (simp only [go_sem, Nat.reduceEqDiff, Nat.reduceAdd, Nat.reduceSub, Nat.reduceLeDiff, Nat.reduceMul, Nat.reduceBEq, Nat.reduceLT, Int.reduceToNat, reduceCtorEq]; first | done | exact rfl | (and_intros <;> rfl)) | exact rfl | decide)); (focus (first | (simp only [go_sem, Nat.reduceEqDiff, Nat.reduceAdd, Nat.reduceSub, Nat.reduceLeDiff, Nat.reduceMul, Nat.reduceBEq, Nat.reduceLT, Int.reduceToNat, reduceCtorEq]; first | done | exact rfl | (and_intros <;> rfl)) | exact rfl | decide)))
   refine wRUN (j2 hs2 happ) ?_
   exact wRet (ret_data []) Tryz.results206
theorem itoa_of_nonneg {n : Int} (h : ¬ n < 0) : Lib.itoa n = Lib.decDigits n.toNat := by unfold Lib.itoa; rw [if_neg h]
theorem itoa_of_neg {n : Int} (h : n < 0) : Lib.itoa n = 45 :: Lib.decDigits n.natAbs := by unfold Lib.itoa; rw [if_pos h]
theorem decimal_ac (n : Int) (h0 : -9223372036854775807 ≤ n) (h1 : n ≤ 9223372036854775807) : AC Tryz.prog 176 [.c (.int .i64 n)] [] (.c (.str (numS n))) [] := by
 by_cases h : n < 0
 ·have hd : decide (n < 0) = true := decide_eq_true h
  have hw : IntKind.i64.wrap (0 - n) = ((n.natAbs : Nat) : Int) := by rw [IntWalk.i64_in _ (by omega)]; omega
  have hc := digits_ac (n.natAbs + 1) n.natAbs (by omega) (by omega)
  have hs := digits_size n.natAbs (by omega)
  have happ : (⟨#[45]⟩ : ByteArray) ++ ⟨(Lib.decDigits n.natAbs).toArray⟩ = numS n := by
   unfold numS
   rw [itoa_of_neg h]
   exact str_mk_append [45] _
  have hsz : 1 + (⟨(Lib.decDigits n.natAbs).toArray⟩ : ByteArray).size ≤ 9223372036854775807 := by omega
  generalize (⟨(Lib.decDigits n.natAbs).toArray⟩ : ByteArray) = x at *
  refine wEnter Tryz.func176 Tryz.ntmps176 ?_
  refine wRUN (j2 hd hw) ?_
  refine w7 (op_data [] hc) trivial ?_
  refine wRUN (j2 hsz happ) ?_
  exact wRet (ret_data []) Tryz.results176
 ·have hd : decide (n < 0) = false := decide_eq_false h
  have hc := digits_ac (n.toNat + 1) n.toNat (by omega) (by omega)
  have hn : ((n.toNat : Nat) : Int) = n := by omega
  have hx : (⟨(Lib.decDigits n.toNat).toArray⟩ : ByteArray) = numS n := by
   unfold numS
   rw [itoa_of_nonneg h]
  rw [hn, hx] at hc
  refine wEnter Tryz.func176 Tryz.ntmps176 ?_
  refine wRUN hd ?_
  refine w7 (op_data [] hc) trivial ?_
  refine wRUN trivial ?_
  exact wRet (ret_data []) Tryz.results176
end Go.Proofs.YtlciedpfjhkkdaaGreatDoor
