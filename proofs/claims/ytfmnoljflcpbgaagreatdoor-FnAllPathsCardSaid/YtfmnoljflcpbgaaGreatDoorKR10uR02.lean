/- Texts of this proof: R10 R01 R02. -/
import Derived.Test.YtfmnoljflcpbgaaGreatDoorKG89uR09
import Derived.Test.YtfmnoljflcpbgaaGreatDoorKE6
import Derived.Test.YtfmnoljflcpbgaaGreatDoorKG04uG20
import Derived.Lib.ItoaLen
import Derived.Lib.ItoaMem
import Derived.Test.YtfmnoljflcpbgaaGreatDoorChecked
import Derived.Tactics
import Derived.Tactics2
import Derived.Defers
import Derived.Laws.Pointers
import Derived.Laws.LoneSync
import Derived.RegionTactic
import Derived.RegionCalls
import Derived.ChangeAlike
import Derived.Laws.NewBlocks
import Derived.Below
set_option linter.unusedSimpArgs false
set_option linter.unusedVariables false
set_option linter.unnecessarySimpa false
namespace Go.Proofs.YtfmnoljflcpbgaaGreatDoor
open Go.RowKit
set_option maxRecDepth 10000
theorem str_mk_append (a b : List UInt8) : (⟨a.toArray⟩ : ByteArray) ++ ⟨b.toArray⟩ = ⟨(a ++ b).toArray⟩ := by
  apply ByteArray.ext
  simp
theorem digits_size (n : Nat) (h : n ≤ 9223372036854775807) : (⟨(Lib.decDigits n).toArray⟩ : ByteArray).size ≤ 21 := by
  have h1 := Lib.itoa_length_le n (by omega) (by omega)
  rw [Lib.itoa_nonneg] at h1
  show (Lib.decDigits n).toArray.size ≤ 21
  simpa using h1
theorem digit_cells (n : Nat) (h : n < 10) : byteRows [UInt8.ofNat (48 + n)] = [[.int .u8 (48 + (n : Int))]] := by
  have : (UInt8.ofNat (48 + n)).toNat = 48 + n := by simp; omega
  simp only [byteRows, List.map_cons, List.map_nil, this]
  rfl
theorem u8_wrap {n : Int} (h0 : 0 ≤ n) (h1 : n < 256) : IntKind.u8.wrap n = n := IntWalk.u8_in _ (by omega)
set_option maxHeartbeats 8000000 in
theorem digits_ac : ∀ (k n : Nat), n < k → n ≤ 9223372036854775807 → AC Tryz.prog 70 [.c (.int .i64 n)] [] (.c (.str ⟨(Lib.decDigits n).toArray⟩)) [] := by
  intro k
  induction k with
  | zero => intro n h; omega
  | succ k ih =>
    intro n hn hm
    have t1 := Tryz.underlying52
    have t2 := Tryz.underlying5
    have t3 := Tryz.underlying9
    by_cases h : n < 10
    · have hd : decide ((n : Int) < 10) = true := decide_eq_true (by omega)
      have hb := digit_cells n h
      have h1 : IntKind.i64.wrap (48 + (n : Int)) = 48 + (n : Int) := IntWalk.i64_in _ (by omega)
      have h2 : IntKind.u8.wrap (48 + (n : Int)) = 48 + (n : Int) := u8_wrap (by omega) (by omega)
      rw [Lib.decDigits_one h]
      generalize hy : (⟨[UInt8.ofNat (48 + n)].toArray⟩ : ByteArray) = y
      refine wEnter Tryz.func70 Tryz.ntmps70 ?_
      refine wRUN (j3 hd h1 h2) ?_
      (apply (op_conv [UInt8.ofNat (48 + n)] hy (by simp) t1 t2 t3); (focus (first | (simp only [go_sem, Nat.reduceEqDiff, Nat.reduceAdd, Nat.reduceSub, Nat.reduceLeDiff, Nat.reduceMul, Nat.reduceBEq, Nat.reduceLT, Int.reduceToNat, reduceCtorEq]; first | done | exact rfl | (and_intros <;> rfl)) | exact rfl | decide)); (focus (first | (simp only [go_sem, Nat.reduceEqDiff, Nat.reduceAdd, Nat.reduceSub, Nat.reduceLeDiff, Nat.reduceMul, Nat.reduceBEq, Nat.reduceLT, Int.reduceToNat, reduceCtorEq]; first | done | exact rfl | (and_intros <;> rfl)) | exact rfl | decide)); (focus (first | (simp only [go_sem, Nat.reduceEqDiff, Nat.reduceAdd, Nat.reduceSub, Nat.reduceLeDiff, Nat.reduceMul, Nat.reduceBEq, Nat.reduceLT, Int.reduceToNat, reduceCtorEq]; first | done | exact rfl | (and_intros <;> rfl)) | exact rfl | decide)); (focus (first | (simp only [go_sem, Nat.reduceEqDiff, Nat.reduceAdd, Nat.reduceSub, Nat.reduceLeDiff, Nat.reduceMul, Nat.reduceBEq, Nat.reduceLT, Int.reduceToNat, reduceCtorEq, hb]; first | done | exact rfl | (and_intros <;> rfl)) | exact rfl | decide)); (focus (first | (simp only [go_sem, Nat.reduceEqDiff, Nat.reduceAdd, Nat.reduceSub, Nat.reduceLeDiff, Nat.reduceMul, Nat.reduceBEq, Nat.reduceLT, Int.reduceToNat, reduceCtorEq]; first | done | exact rfl | (and_intros <;> rfl)) | exact rfl | decide)); (focus (first | (simp only [go_sem, Nat.reduceEqDiff, Nat.reduceAdd, Nat.reduceSub, Nat.reduceLeDiff, Nat.reduceMul, Nat.reduceBEq, Nat.reduceLT, Int.reduceToNat, reduceCtorEq]; first | done | exact rfl | (and_intros <;> rfl)) | exact rfl | decide)))
      refine wRUN (j3 hd h1 h2) ?_
      exact wRet (ret_data []) Tryz.results70
    · have hd : decide ((n : Int) < 10) = false := decide_eq_false (by omega)
      have hq : IntKind.i64.wrap ((n : Int).tdiv 10) = ((n / 10 : Nat) : Int) := by
        rw [show ((n : Int).tdiv 10) = ((n / 10 : Nat) : Int) by rw [Int.tdiv_eq_ediv_of_nonneg (by omega)]; rfl]
        exact IntWalk.i64_in _ (by omega)
      have hr : (n : Int).tmod 10 = ((n % 10 : Nat) : Int) := by rw [Int.tmod_eq_emod_of_nonneg (by omega)]; rfl
      have hrw : IntKind.i64.wrap ((n % 10 : Nat) : Int) = ((n % 10 : Nat) : Int) := IntWalk.i64_in _ (by omega)
      have h1 : IntKind.i64.wrap (48 + ((n % 10 : Nat) : Int)) = 48 + ((n % 10 : Nat) : Int) := IntWalk.i64_in _ (by omega)
      have h2 : IntKind.u8.wrap (48 + ((n % 10 : Nat) : Int)) = 48 + ((n % 10 : Nat) : Int) := u8_wrap (by omega) (by omega)
      have hb := digit_cells (n % 10) (by omega)
      have ihn := ih (n / 10) (by omega) (by omega)
      have hs1 := digits_size (n / 10) (by omega)
      have hs2 : (⟨(Lib.decDigits (n / 10)).toArray⟩ : ByteArray).size + (⟨[UInt8.ofNat (48 + n % 10)].toArray⟩ : ByteArray).size ≤ 9223372036854775807 := by
        have : (⟨[UInt8.ofNat (48 + n % 10)].toArray⟩ : ByteArray).size = 1 := rfl
        omega
      have happ : (⟨(Lib.decDigits (n / 10)).toArray⟩ : ByteArray) ++ ⟨[UInt8.ofNat (48 + n % 10)].toArray⟩ = ⟨(Lib.decDigits n).toArray⟩ := by
        rw [str_mk_append]
        congr 2
        rw [Lib.decDigits.eq_1 n, dif_neg h]
      generalize hx : (⟨(Lib.decDigits (n / 10)).toArray⟩ : ByteArray) = x at *
      generalize hm0 : n % 10 = m0 at *
      generalize hy : (⟨[UInt8.ofNat (48 + m0)].toArray⟩ : ByteArray) = y at *
      refine wEnter Tryz.func70 Tryz.ntmps70 ?_
      refine wRUN (j6 hd hq hr hrw h1 h2) ?_
      refine w7 (op_data [] ihn) trivial ?_
      refine wRUN (j6 hd hq hr hrw h1 h2) ?_
      (apply (op_conv [UInt8.ofNat (48 + m0)] hy (by simp) t1 t2 t3); (focus (first | (simp only [go_sem, Nat.reduceEqDiff, Nat.reduceAdd, Nat.reduceSub, Nat.reduceLeDiff, Nat.reduceMul, Nat.reduceBEq, Nat.reduceLT, Int.reduceToNat, reduceCtorEq]; first | done | exact rfl | (and_intros <;> rfl)) | exact rfl | decide)); (focus (first | (simp only [go_sem, Nat.reduceEqDiff, Nat.reduceAdd, Nat.reduceSub, Nat.reduceLeDiff, Nat.reduceMul, Nat.reduceBEq, Nat.reduceLT, Int.reduceToNat, reduceCtorEq]; first | done | exact rfl | (and_intros <;> rfl)) | exact rfl | decide)); (focus (first | (simp only [go_sem, Nat.reduceEqDiff, Nat.reduceAdd, Nat.reduceSub, Nat.reduceLeDiff, Nat.reduceMul, Nat.reduceBEq, Nat.reduceLT, Int.reduceToNat, reduceCtorEq]; first | done | exact rfl | (and_intros <;> rfl)) | exact rfl | decide)); (focus (first | (simp only [go_sem, Nat.reduceEqDiff, Nat.reduceAdd, Nat.reduceSub, Nat.reduceLeDiff, Nat.reduceMul, Nat.reduceBEq, Nat.reduceLT, Int.reduceToNat, reduceCtorEq, hb]; first | done | exact rfl | (and_intros <;> rfl)) | exact rfl | decide)); (focus (first | (simp only [go_sem, Nat.reduceEqDiff, Nat.reduceAdd, Nat.reduceSub, Nat.reduceLeDiff, Nat.reduceMul, Nat.reduceBEq, Nat.reduceLT, Int.reduceToNat, reduceCtorEq]; first | done | exact rfl | (and_intros <;> rfl)) | exact rfl | decide)); (focus (first | (simp only [go_sem, Nat.reduceEqDiff, Nat.reduceAdd, Nat.reduceSub, Nat.reduceLeDiff, Nat.reduceMul, Nat.reduceBEq, Nat.reduceLT, Int.reduceToNat, reduceCtorEq]; first | done | exact rfl | (and_intros <;> rfl)) | exact rfl | decide)))
      refine wRUN (j2 hs2 happ) ?_
      exact wRet (ret_data []) Tryz.results70
theorem itoa_of_nonneg {n : Int} (h : ¬ n < 0) : Lib.itoa n = Lib.decDigits n.toNat := by unfold Lib.itoa; rw [if_neg h]
theorem itoa_of_neg {n : Int} (h : n < 0) : Lib.itoa n = 45 :: Lib.decDigits n.natAbs := by unfold Lib.itoa; rw [if_pos h]
set_option maxHeartbeats 8000000 in
theorem decimal_ac (n : Int) (h0 : -9223372036854775807 ≤ n) (h1 : n ≤ 9223372036854775807) : AC Tryz.prog 99 [.c (.int .i64 n)] [] (.c (.str (numS n))) [] := by
  by_cases h : n < 0
  · have hd : decide (n < 0) = true := decide_eq_true h
    have hw : IntKind.i64.wrap (0 - n) = ((n.natAbs : Nat) : Int) := by rw [IntWalk.i64_in _ (by omega)]; omega
    have hc := digits_ac (n.natAbs + 1) n.natAbs (by omega) (by omega)
    have hs := digits_size n.natAbs (by omega)
    have happ : (⟨#[45]⟩ : ByteArray) ++ ⟨(Lib.decDigits n.natAbs).toArray⟩ = numS n := by
      unfold numS
      rw [itoa_of_neg h]
      exact str_mk_append [45] _
    have hsz : 1 + (⟨(Lib.decDigits n.natAbs).toArray⟩ : ByteArray).size ≤ 9223372036854775807 := by omega
    generalize (⟨(Lib.decDigits n.natAbs).toArray⟩ : ByteArray) = x at *
    refine wEnter Tryz.func99 Tryz.ntmps99 ?_
    refine wRUN (j2 hd hw) ?_
    refine w7 (op_data [] hc) trivial ?_
    refine wRUN (j2 hsz happ) ?_
    exact wRet (ret_data []) Tryz.results99
  · have hd : decide (n < 0) = false := decide_eq_false h
    have hc := digits_ac (n.toNat + 1) n.toNat (by omega) (by omega)
    have hn : ((n.toNat : Nat) : Int) = n := by omega
    have hx : (⟨(Lib.decDigits n.toNat).toArray⟩ : ByteArray) = numS n := by
      unfold numS
      rw [itoa_of_nonneg h]
    rw [hn, hx] at hc
    refine wEnter Tryz.func99 Tryz.ntmps99 ?_
    refine wRUN hd ?_
    refine w7 (op_data [] hc) trivial ?_
    refine wRUN trivial ?_
    exact wRet (ret_data []) Tryz.results99
end Go.Proofs.YtfmnoljflcpbgaaGreatDoor

/- sync's parts as strings.Replacer meets them, one goroutine: the two calls that Once's slow road defers; the lock. -/
namespace Go.Proofs.YtfmnoljflcpbgaaGreatDoor
theorem race_disable (w : World) : (callFunc 234 #[]).run Tryz.prog w = .ok (.value (.tuple #[])) w := run_call_mark0 Tryz.func234 (by kernel_rfl) (by kernel_rfl) (by kernel_rfl) .disable (by kernel_rfl) w
theorem race_enable (w : World) : (callFunc 236 #[]).run Tryz.prog w = .ok (.value (.tuple #[])) w := run_call_mark0 Tryz.func236 (by kernel_rfl) (by kernel_rfl) (by kernel_rfl) .enable (by kernel_rfl) w
theorem race_acquire (a : Addr) (w : World) : (callFunc 237 #[.pointer (some a)]).run Tryz.prog w = .ok (.value (.tuple #[])) w := run_call_marked Tryz.func237 (by kernel_rfl) (by kernel_rfl) (by kernel_rfl) .acquire (by kernel_rfl) a w
theorem race_release (a : Addr) (w : World) : (callFunc 239 #[.pointer (some a)]).run Tryz.prog w = .ok (.value (.tuple #[])) w := run_call_marked Tryz.func239 (by kernel_rfl) (by kernel_rfl) (by kernel_rfl) .releaseMerge (by kernel_rfl) a w
set_option maxRecDepth 100000 in
theorem once_store_deferred (a : Addr) (x : Value) (u : FrameMode) (w : World) (hc : w.cell? a = some x) (hz : w.frozen? a = false) :
    CallsD Tryz.prog 223 #[.pointer (some a), .bool true] u w fun e u' w' => u' = u ∧ (e = .returned (.tuple #[]) ∧ w' = w.drew.setCell a (.int .u32 1)) := by
  have hc' : w.drew.cell? a = some x := by go_simp
  have hz' : w.drew.frozen? a = false := by go_simp
  have hst := run_call_store (P := Tryz.prog) Tryz.func230 (by kernel_rfl) (by kernel_rfl) (by kernel_rfl) (by kernel_rfl) (k := .u32) (y := 1) hc' hz'
  go_enter_d Tryz.func223, Tryz.ntmps223
  go_wp2
  go_region_calls
  all_goals (go_end0; exact ⟨rfl, rfl⟩)
set_option maxRecDepth 100000 in
theorem once_unlock_deferred (a : Addr) (u : FrameMode) (w : World) (hc : w.cell? a = some (.int .i32 1)) (hz : w.frozen? a = false) :
    CallsD Tryz.prog 222 #[.pointer (some a)] u w fun e u' w' => u' = u ∧ (e = .returned (.tuple #[]) ∧ w' = w.setCell a (.int .i32 0)) := by
  have hd := race_disable
  have he := race_enable
  have hr := race_release
  have hadd := run_call_add (P := Tryz.prog) Tryz.func240 (by kernel_rfl) (by kernel_rfl) (by kernel_rfl) .i32 (by kernel_rfl) (y := -1) (s := 0) hc hz (by simp [go_sem]; rfl)
  have hcv := run_convert_to_unsafe (P := Tryz.prog) (src := 288) (dst := 193) Tryz.underlying288 Tryz.underlying193 (by kernel_rfl) hc
  go_enter_d Tryz.func222, Tryz.ntmps222
  go_wp2
  go_end0
  go_wp2
  go_end0
  exact ⟨rfl, rfl⟩
set_option maxRecDepth 100000 in
theorem once_lock_free (a : Addr) (w : World) (hc : w.cell? a = some (.int .i32 0)) (hz : w.frozen? a = false) :
    Calls Tryz.prog 221 #[.pointer (some a)] w fun e w' => e = .returned (.tuple #[]) ∧ w' = w.setCell a (.int .i32 1) := by
  have hd := race_disable
  have he := race_enable
  have ha := race_acquire
  have hcas := run_call_cas_hit (P := Tryz.prog) Tryz.func235 (by kernel_rfl) (by kernel_rfl) (by kernel_rfl) .i32 (by kernel_rfl) (y := 1) hc hz
  have hc' : (w.setCell a (.int .i32 1)).cell? a = some (.int .i32 1) := World.cell?_setCell_same w a _ hc
  have hcv := run_convert_to_unsafe (P := Tryz.prog) (src := 288) (dst := 193) Tryz.underlying288 Tryz.underlying193 (by kernel_rfl) hc'
  go_enter Tryz.func221, Tryz.ntmps221
  go_wp2
  first | go_end0 | (simp only [Exit.inBlock, Exit.then]; refine bodyPost_ret (results_none rfl _ _ _) rfl ?_) | refine bodyPost_ret (results_none rfl _ _ _) rfl ?_
  go_wp2
  go_end0
  exact ⟨rfl, rfl⟩
end Go.Proofs.YtfmnoljflcpbgaaGreatDoor

/- sync.Once, not yet done and its lock free, one goroutine: whatever the function does that it is handed. -/
namespace Go.Proofs.YtfmnoljflcpbgaaGreatDoor
open Go.RowKit
/-- What the call of the function leaves: the Once's own cells as they were. -/
structure OnceKept (b : Nat) (w w' : World) : Prop where
  c0 : w'.cell? ⟨b, 0, none⟩ = w.cell? ⟨b, 0, none⟩
  c1 : w'.cell? ⟨b, 1, none⟩ = w.cell? ⟨b, 1, none⟩
  f0 : w'.frozen? ⟨b, 0, none⟩ = w.frozen? ⟨b, 0, none⟩
  f1 : w'.frozen? ⟨b, 1, none⟩ = w.frozen? ⟨b, 1, none⟩
set_option maxRecDepth 100000 in
set_option maxHeartbeats 1600000 in
theorem once_slow (b : Nat) (x : Value) (w : World) (R : World → Prop)
    (h0 : w.cell? ⟨b, 0, none⟩ = some (.int .u32 0)) (h1 : w.cell? ⟨b, 1, none⟩ = some (.int .i32 0))
    (f0 : w.frozen? ⟨b, 0, none⟩ = false) (f1 : w.frozen? ⟨b, 1, none⟩ = false)
    (hf : Calls Tryz.prog 192 #[x] (w.setCell ⟨b, 1, none⟩ (.int .i32 1)) fun e w' => e = .returned (.tuple #[]) ∧ OnceKept b (w.setCell ⟨b, 1, none⟩ (.int .i32 1)) w' ∧ R w') :
    Calls Tryz.prog 212 #[.pointer (some ⟨b, 0, none⟩), .func (.func 192) #[x] #[]] w fun e w' => e = .returned (.tuple #[]) ∧
      ∃ w1, OnceKept b (w.setCell ⟨b, 1, none⟩ (.int .i32 1)) w1 ∧ R w1 ∧ w' = (w1.drew.setCell ⟨b, 0, none⟩ (.int .u32 1)).setCell ⟨b, 1, none⟩ (.int .i32 0) := by
  have hl := run_call_load (P := Tryz.prog) Tryz.func220 (by kernel_rfl) (by kernel_rfl) (by kernel_rfl) .u32 (by kernel_rfl) (w := w.setCell ⟨b, 1, none⟩ (.int .i32 1)) (a := ⟨b, 0, none⟩) (x := 0) ((World.cell?_setCell_other _ ⟨b, 1, none⟩ ⟨b, 0, none⟩ _ (by simp)).trans h0)
  have hnot : ∀ (x : Bool) (w : World), (Op.unary .not (.bool x)).run Tryz.prog w = .ok (.bool (!x)) w := fun _ _ => rfl
  go_enter_defers Tryz.func212, Tryz.ntmps212
  go_wp2_with (go_at_call 221; refine (once_lock_free ⟨b, 1, none⟩ _ (by go_simp) (by go_simp)).mono ?_; rintro e w' ⟨rfl, rfl⟩)
  go_wp2_with (go_at_call 211; go_in)
  go_wp2_with (go_at_call 192; refine hf.mono ?_; rintro e w1 ⟨rfl, hk, hR⟩)
  refine leaves_cons (f := 223) (args := #[.pointer (some ⟨b, 0, none⟩), .bool true]) (by simp) (by simp [go_sem]) ?_
  refine (once_store_deferred ⟨b, 0, none⟩ (.int .u32 0) .returning _ ?_ ?_).mono ?_
  · rw [hk.c0]; exact (World.cell?_setCell_other _ ⟨b, 1, none⟩ ⟨b, 0, none⟩ _ (by simp)).trans h0
  · rw [hk.f0]; simp [f0]
  rintro e u' w'' ⟨rfl, rfl, rfl⟩
  refine leaves_cons (f := 222) (args := #[.pointer (some ⟨b, 1, none⟩)]) (by simp [settle]) (by simp [go_sem]) ?_
  refine (once_unlock_deferred ⟨b, 1, none⟩ _ _ ?_ ?_).mono ?_
  · refine (World.cell?_setCell_other _ ⟨b, 0, none⟩ ⟨b, 1, none⟩ _ (by simp)).trans ?_
    rw [World.cell?_drew, hk.c1]
    exact World.cell?_setCell_same w _ _ h1
  · simp [hk.f1, f1]
  rintro e u' w'' ⟨rfl, rfl, rfl⟩
  simp [Leaves, settle, results, Tryz.results212]
  exact ⟨w1, hk, hR, rfl⟩
set_option maxRecDepth 100000 in
set_option maxHeartbeats 1600000 in
theorem once_do (b : Nat) (x : Value) (w : World) (R : World → Prop)
    (h0 : w.cell? ⟨b, 0, none⟩ = some (.int .u32 0)) (h1 : w.cell? ⟨b, 1, none⟩ = some (.int .i32 0))
    (f0 : w.frozen? ⟨b, 0, none⟩ = false) (f1 : w.frozen? ⟨b, 1, none⟩ = false)
    (hf : Calls Tryz.prog 192 #[x] (w.setCell ⟨b, 1, none⟩ (.int .i32 1)) fun e w' => e = .returned (.tuple #[]) ∧ OnceKept b (w.setCell ⟨b, 1, none⟩ (.int .i32 1)) w' ∧ R w') :
    Calls Tryz.prog 191 #[.pointer (some ⟨b, 0, none⟩), .func (.func 192) #[x] #[]] w fun e w' => e = .returned (.tuple #[]) ∧
      ∃ w1, OnceKept b (w.setCell ⟨b, 1, none⟩ (.int .i32 1)) w1 ∧ R w1 ∧ w' = (w1.drew.setCell ⟨b, 0, none⟩ (.int .u32 1)).setCell ⟨b, 1, none⟩ (.int .i32 0) := by
  have hl := run_call_load (P := Tryz.prog) Tryz.func220 (by kernel_rfl) (by kernel_rfl) (by kernel_rfl) .u32 (by kernel_rfl) h0
  have hnot : ∀ (x : Bool) (w : World), (Op.unary .not (.bool x)).run Tryz.prog w = .ok (.bool (!x)) w := fun _ _ => rfl
  go_enter Tryz.func191, Tryz.ntmps191
  go_wp2_with (first | (go_at_call 212; refine (once_slow b x _ R h0 h1 f0 f1 hf).mono ?_; rintro e w' ⟨rfl, w1, hk, hR, rfl⟩) | (go_at_call 211; go_in))
  go_end0
  exact ⟨rfl, w1, hk, hR, rfl⟩
end Go.Proofs.YtfmnoljflcpbgaaGreatDoor
