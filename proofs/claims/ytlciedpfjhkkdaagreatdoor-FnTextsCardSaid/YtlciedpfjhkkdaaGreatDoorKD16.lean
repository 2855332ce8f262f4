/- The program's reader: strconv.ParseInt at base sixteen and one byte. -/
import Derived.Test.YtlciedpfjhkkdaaGreatDoorKD15
set_option linter.unusedSimpArgs false
set_option linter.unusedVariables false
set_option linter.unnecessarySimpa false
set_option maxHeartbeats 8000000
namespace Go.Proofs.YtlciedpfjhkkdaaGreatDoor
open Go.RowKit Go.Shelf
set_option maxRecDepth 10000
variable {o1 o2 : Obj}
abbrev synV : Value := .iface 282 (.int .i64 2)
def lowN (n : Nat) : Int := Go.bits .or .u8 (n : Int) 32
theorem lower_ac (n : Nat) : AC Tryz.prog 276 [.c (.int .u8 n)] [] (.c (.int .u8 (lowN n))) [] := by
 refine AC.of_calls fun S w κ vs hv => ?_
 obtain ⟨v, vs', rfl, ⟨rfl, _⟩, rfl⟩ := hv
 refine (Any.internal_strconv_lower { parse_lays with } (n : Int) w).mono ?_
 rintro e w' ⟨rfl, rfl⟩
 exact ⟨Below.refl _ _, _, rfl, fun T _ _ => ⟨rfl, rfl⟩⟩
theorem toError_ac (f s : ByteArray) (hs : s.size ≤ 1000000) (a b : Int) : AC Tryz.prog 233 [.c (.str f), .c (.str s), .c (.int .i64 a), .c (.int .i64 b), .c (.raw synV)] (errM o1 o2) (.own (1, 0)) [((8, 1), .gen (errsR o1 o2)), ((1, 0), .gen errR)] := by
 refine AC.of_errs1 fun S w m κ vs h1 h2 hv => ?_
 obtain ⟨v1, vs', rfl, ⟨rfl, _⟩, v2, vs2, rfl, ⟨rfl, _⟩, v3, vs3, rfl, ⟨rfl, _⟩, v4, vs4, rfl, ⟨rfl, _⟩, v5, vs5, rfl, ⟨rfl, _⟩, rfl⟩ := hv
 obtain ⟨ev, hev, hev2⟩ := h1
 refine (Any.strconv_toError_syntax { parse_lays with } f s a b ev w (by omega) hev hev2).mono ?_
 rintro e w' ⟨N, rfl, _, _, hb⟩
 exact ⟨hb, _, _, rfl⟩
theorem concE : Tryz.prog.concrete 282 = true := by kernel_rfl
theorem one_ne (n : Nat) : ((bOne n).toList == ByteArray.empty.toList) = false := by simp [bOne]
theorem one_at {n : Nat} (hn : n < 256) : ∃ b : UInt8, (bOne n)[0]? = some b ∧ ((b.toNat : Nat) : Int) = (n : Int) := by
 refine ⟨UInt8.ofNat n, rfl, ?_⟩
 rw [UInt8.toNat_ofNat', Nat.mod_eq_of_lt (by omega)]
def u16A (n : Nat) : AV := if 0 ≤ hexB n then .tup [.c (.int .u64 (hexB n)), .c (.raw .nilIface)] else .tup [.c (.int .u64 0), .c (.raw synV)]
theorem hex_ways {n : Nat} (hn : n < 256) : (digB n = true ∧ hexB n = (n : Int) - 48) ∨ (digB n = false ∧ 97 ≤ lowN n ∧ lowN n ≤ 122 ∧ lowN n - 87 < 16 ∧ hexB n = lowN n - 87) ∨ (digB n = false ∧ 97 ≤ lowN n ∧ lowN n ≤ 122 ∧ 16 ≤ lowN n - 87 ∧ hexB n = -1) ∨ (digB n = false ∧ 97 ≤ lowN n ∧ 122 < lowN n ∧ lowN n < 256 ∧ hexB n = -1) ∨ (digB n = false ∧ lowN n < 97 ∧ 0 ≤ lowN n ∧ hexB n = -1) := by
 have : ∀ k : Fin 256, (digB k.val = true ∧ hexB k.val = (k.val : Int) - 48) ∨ (digB k.val = false ∧ 97 ≤ lowN k.val ∧ lowN k.val ≤ 122 ∧ lowN k.val - 87 < 16 ∧ hexB k.val = lowN k.val - 87) ∨ (digB k.val = false ∧ 97 ≤ lowN k.val ∧ lowN k.val ≤ 122 ∧ 16 ≤ lowN k.val - 87 ∧ hexB k.val = -1) ∨ (digB k.val = false ∧ 97 ≤ lowN k.val ∧ 122 < lowN k.val ∧ lowN k.val < 256 ∧ hexB k.val = -1) ∨ (digB k.val = false ∧ lowN k.val < 97 ∧ 0 ≤ lowN k.val ∧ hexB k.val = -1) := by decide +kernel
 exact this ⟨n, hn⟩
theorem shl64 (w : World) (k : IntKind) : (binOp .shl 216 (.int .u64 1) (.int k 64)).run Tryz.prog w = .ok (.int .u64 0) w := by
 simp only [binOp, Op.shift]
 rfl
theorem shl63 (w : World) (k : IntKind) : (binOp .shl 216 (.int .u64 1) (.int k 63)).run Tryz.prog w = .ok (.int .u64 9223372036854775808) w := by
 simp only [binOp, Op.shift]
 rfl
theorem uint16_ac (n : Nat) (hn : n < 256) : AC Tryz.prog 258 [.c (.str (bOne n)), .c (.int .i64 16), .c (.int .i64 64)] [] (u16A n) [] := by
 have _a1 := @ev_nilI
 have h1 := one_ne n
 have l1 : ((16 : Int) == 0) = false := rfl
 have l2 : decide ((2 : Int) ≤ 16) = true := rfl
 have l3 : decide ((16 : Int) ≤ 36) = true := rfl
 have l4 : ((64 : Int) == 0) = false := rfl
 have l5 : decide ((64 : Int) < 0) = false := rfl
 have l6 : decide ((64 : Int) > 64) = false := rfl
 have l7 : ((16 : Int) == 10) = false := rfl
 have l8 : ((16 : Int) == 16) = true := rfl
 refine wEnter Tryz.func258 Tryz.ntmps258 ?_
 have w64 : IntKind.u64.wrap 64 = 64 := rfl
 have wm : IntKind.u64.wrap (0 - 1) = 18446744073709551615 := rfl
 have t3 := Tryz.underlying9
 have t1 := Tryz.underlying29
 have t2 := Tryz.underlying5
 have hy : byteRows (bOne n).data.toList = [[.int .u8 (n : Int)]] := by
  show [[C.int .u8 ((UInt8.ofNat n).toNat : Int)]] = _
  rw [UInt8.toNat_ofNat', Nat.mod_eq_of_lt (by omega)]
 have hlow := lower_ac n
 refine wRUN (j10 h1 l1 l2 l3 l4 l5 l6 l7 l8 w64) ?_
 (apply (op_num2 (m := 1) (n := 64) (c := .int .u64 0) (fun w => shl64 w _) (fun w S => ⟨rfl, rfl⟩) (fun w => rfl)); (focus (first | (simp only [go_sem, Nat.reduceEqDiff, Nat.reduceAdd, Nat.reduceSub, Nat.reduceLeDiff, Nat.reduceMul, Nat.reduceBEq, Nat.reduceLT, Int.reduceToNat, reduceCtorEq]; first | done | exact rfl | (and_intros <;> rfl)) | exact rfl | decide)); (focus (first | (simp only [go_sem, Nat.reduceEqDiff, Nat.reduceAdd, Nat.reduceSub, Nat.reduceLeDiff, Nat.reduceMul, Nat.reduceBEq, Nat.reduceLT, Int.reduceToNat, reduceCtorEq]; first | done | exact rfl | (and_intros <;> rfl)) | exact rfl | decide)); (focus (first | (simp only [go_sem, Nat.reduceEqDiff, Nat.reduceAdd, Nat.reduceSub, Nat.reduceLeDiff, Nat.reduceMul, Nat.reduceBEq, Nat.reduceLT, Int.reduceToNat, reduceCtorEq]; first | done | exact rfl | (and_intros <;> rfl)) | exact rfl | decide)); (focus (first | (simp only [go_sem, Nat.reduceEqDiff, Nat.reduceAdd, Nat.reduceSub, Nat.reduceLeDiff, Nat.reduceMul, Nat.reduceBEq, Nat.reduceLT, Int.reduceToNat, reduceCtorEq]; first | done | exact rfl | (and_intros <;> rfl)) | exact rfl | decide)); (focus (first | (simp only [go_sem, Nat.reduceEqDiff, Nat.reduceAdd, Nat.reduceSub, Nat.reduceLeDiff, Nat.reduceMul, Nat.reduceBEq, Nat.reduceLT, Int.reduceToNat, reduceCtorEq]; first | done | exact rfl | (and_intros <;> rfl)) | exact rfl | decide)))
 refine wRUN wm ?_
 (apply (op_bytes hy t3 t1 t2); (focus (first | (simp only [go_sem, Nat.reduceEqDiff, Nat.reduceAdd, Nat.reduceSub, Nat.reduceLeDiff, Nat.reduceMul, Nat.reduceBEq, Nat.reduceLT, Int.reduceToNat, reduceCtorEq]; first | done | exact rfl | (and_intros <;> rfl)) | exact rfl | decide)); (focus (first | (simp only [go_sem, Nat.reduceEqDiff, Nat.reduceAdd, Nat.reduceSub, Nat.reduceLeDiff, Nat.reduceMul, Nat.reduceBEq, Nat.reduceLT, Int.reduceToNat, reduceCtorEq]; first | done | exact rfl | (and_intros <;> rfl)) | exact rfl | decide)); (focus (first | (simp only [go_sem, Nat.reduceEqDiff, Nat.reduceAdd, Nat.reduceSub, Nat.reduceLeDiff, Nat.reduceMul, Nat.reduceBEq, Nat.reduceLT, Int.reduceToNat, reduceCtorEq]; first | done | exact rfl | (and_intros <;> rfl)) | exact rfl | decide)); (focus (first | (simp only [go_sem, Nat.reduceEqDiff, Nat.reduceAdd, Nat.reduceSub, Nat.reduceLeDiff, Nat.reduceMul, Nat.reduceBEq, Nat.reduceLT, Int.reduceToNat, reduceCtorEq]; first | done | exact rfl | (and_intros <;> rfl)) | exact rfl | decide)))
 refine wRUN trivial ?_
 refine a_loop (κ := Nat) (fun k => ⟨mkS 0 172 [(1, .c (.int .i64 16)), (8, .c (.bool false)), (10, .c (.int .u64 1152921504606846976)), (11, .c (.int .u64 18446744073709551615)), (12, .c (.bool false)), (13, .c (.int .u64 (if k = 0 then 0 else hexB n))), (99, .c (.sl [[.int .u8 (n : Int)]])), (100, .c (.int .i64 1)), (101, .c (.int .i64 k))], []⟩)
  (fun k => k ≤ 1 ∧ (k = 1 → 0 ≤ hexB n)) (fun k => 1 - k) 0 ⟨Nat.zero_le _, fun h => absurd h (by decide)⟩ ?_ ?_
 ·(apply (Says.of [] []); (iterate 2 ((focus (simp only [go_sem, Nat.reduceEqDiff, Nat.reduceAdd, Nat.reduceSub, Nat.reduceLeDiff, Nat.reduceMul, Nat.reduceBEq, Nat.reduceLT, Int.reduceToNat, reduceCtorEq, if_true]; try (and_intros <;> rfl))); (focus exact rfl))); (iterate 4 (focus (simp [go_sem, if_true]; done))))
 ·rintro k ⟨hk, hk1⟩
  have hkk : k = 0 ∨ k = 1 := by omega
  rcases hkk with rfl | rfl
  ·have hr : rowsAt [[C.int .u8 (n : Int)]] 1 ((0 : Nat) : Int) = true := by simp [rowsAt]
   have hg : ([[C.int .u8 (n : Int)]] : List (List C))[((0 : Nat) : Int).toNat]? = some [.int .u8 (n : Int)] := rfl
   have d01 : decide (((0 : Nat) : Int) < 1) = true := rfl
   have w01 : IntKind.i64.wrap (((0 : Nat) : Int) + 1) = ((1 : Nat) : Int) := rfl
   have u16 : IntKind.u8.wrap 16 = 16 := rfl
   have v16 : IntKind.u64.wrap 16 = 16 := rfl
   have vz : IntKind.u64.wrap (0 * 16) = 0 := rfl
   have dc : decide ((0 : Int) ≥ 1152921504606846976) = false := rfl
   have e01 : (if (0 : Nat) = 0 then (0 : Int) else hexB n) = 0 := rfl
   have e11 : (if (1 : Nat) = 0 then (0 : Int) else hexB n) = hexB n := rfl
   have u64 : ∀ z : Int, 0 ≤ z → z < 1000 → IntKind.u64.wrap z = z := fun z h1 h2 => IntWalk.u64_in _ (by omega)
   unfold u16A
   cases q95 : ((n : Int) == 95)
   all_goals
    rcases hex_ways hn with ⟨hd, hx⟩ | ⟨hd, a1, a2, a3, hx⟩ | ⟨hd, a1, a2, a3, hx⟩ | ⟨hd, a1, a2, a3, hx⟩ | ⟨hd, a1, a2, hx⟩
    ·obtain ⟨b1, b2⟩ := dig_lt hd
     have g48 : decide ((48 : Int) ≤ (n : Int)) = true := decide_eq_true (by omega)
     have g57 : decide ((n : Int) ≤ 57) = true := decide_eq_true (by omega)
     have wd : IntKind.u8.wrap ((n : Int) - 48) = (n : Int) - 48 := u8_in (by omega) (by omega)
     have gd : decide ((n : Int) - 48 ≥ 16) = false := decide_eq_false (by omega)
     have we := u64 ((n : Int) - 48) (by omega) (by omega)
     have wf := u64 (0 + ((n : Int) - 48)) (by omega) (by omega)
     rw [Int.zero_add] at wf
     have wf2 : IntKind.u64.wrap (0 + ((n : Int) - 48)) = (n : Int) - 48 := by rw [Int.zero_add]; exact wf
     have gl : decide ((n : Int) - 48 < 0) = false := decide_eq_false (by omega)
     have gm : decide ((n : Int) - 48 > 18446744073709551615) = false := decide_eq_false (by omega)
     refine wRUN (j2 (j12 d01 hr hg q95 g48 g57 wd u16 gd dc v16 vz) (j6 we wf2 gl gm e01 w01)) ?_
     refine ⟨1, by omega, ⟨Nat.le_refl _, fun _ => by omega⟩, ?_⟩
     exact wSays (Says.of [] []) (j3 e11 hx w01)
    ·cases g48 : decide ((48 : Int) ≤ (n : Int)) <;> cases g57 : decide ((n : Int) ≤ 57)
     case true.true =>
      simp only [decide_eq_true_eq] at g48 g57
      exfalso
      unfold digB at hd
      simp at hd
      omega
     all_goals
      generalize lowN n = l at *
      have g97 : decide ((97 : Int) ≤ l) = true := decide_eq_true (by omega)
      have g122 : decide (l ≤ 122) = true := decide_eq_true (by omega)
      have wd1 : IntKind.u8.wrap (l - 97) = l - 97 := u8_in (by omega) (by omega)
      have wd : IntKind.u8.wrap (l - 97 + 10) = l - 87 := by rw [u8_in (by omega) (by omega)]; omega
      have gd : decide (l - 87 ≥ 16) = false := decide_eq_false (by omega)
      have we := u64 (l - 87) (by omega) (by omega)
      have wf2 : IntKind.u64.wrap (0 + (l - 87)) = l - 87 := by rw [Int.zero_add]; exact we
      have gl : decide (l - 87 < 0) = false := decide_eq_false (by omega)
      have gm : decide (l - 87 > 18446744073709551615) = false := decide_eq_false (by omega)
      refine wRUN (j6 d01 hr hg q95 g48 g57) ?_
      refine w7 (op_data [] hlow) trivial ?_
      refine wRUN g97 ?_
      refine w7 (op_data [] hlow) trivial ?_
      refine wRUN g122 ?_
      refine w7 (op_data [] hlow) trivial ?_
      refine wRUN (j2 (j12 wd1 wd u16 gd dc v16 vz we wf2 gl gm e01) w01) ?_
      refine ⟨1, by omega, ⟨Nat.le_refl _, fun _ => by omega⟩, ?_⟩
      exact wSays (Says.of [] []) (j3 e11 hx w01)
    ·rw [if_neg (by omega)]
     cases g48 : decide ((48 : Int) ≤ (n : Int)) <;> cases g57 : decide ((n : Int) ≤ 57)
     case true.true =>
      simp only [decide_eq_true_eq] at g48 g57
      exfalso
      unfold digB at hd
      simp at hd
      omega
     all_goals
      generalize lowN n = l at *
      have g97 : decide ((97 : Int) ≤ l) = true := decide_eq_true (by omega)
      have g122 : decide (l ≤ 122) = true := decide_eq_true (by omega)
      have wd1 : IntKind.u8.wrap (l - 97) = l - 97 := u8_in (by omega) (by omega)
      have wd : IntKind.u8.wrap (l - 97 + 10) = l - 87 := by rw [u8_in (by omega) (by omega)]; omega
      have gd : decide (l - 87 ≥ 16) = true := decide_eq_true (by omega)
      refine wRUN (j6 d01 hr hg q95 g48 g57) ?_
      refine w7 (op_data [] hlow) trivial ?_
      refine wRUN g97 ?_
      refine w7 (op_data [] hlow) trivial ?_
      refine wRUN g122 ?_
      refine w7 (op_data [] hlow) trivial ?_
      refine wRUN (j4 wd1 wd u16 gd) ?_
      (apply (op_mkIface concE); (focus (first | (simp only [go_sem, Nat.reduceEqDiff, Nat.reduceAdd, Nat.reduceSub, Nat.reduceLeDiff, Nat.reduceMul, Nat.reduceBEq, Nat.reduceLT, Int.reduceToNat, reduceCtorEq]; first | done | exact rfl | (and_intros <;> rfl)) | exact rfl | decide)); (focus (first | (simp only [go_sem, Nat.reduceEqDiff, Nat.reduceAdd, Nat.reduceSub, Nat.reduceLeDiff, Nat.reduceMul, Nat.reduceBEq, Nat.reduceLT, Int.reduceToNat, reduceCtorEq]; first | done | exact rfl | (and_intros <;> rfl)) | exact rfl | decide)); (focus (first | (simp only [go_sem, Nat.reduceEqDiff, Nat.reduceAdd, Nat.reduceSub, Nat.reduceLeDiff, Nat.reduceMul, Nat.reduceBEq, Nat.reduceLT, Int.reduceToNat, reduceCtorEq]; first | done | exact rfl | (and_intros <;> rfl)) | exact rfl | decide)); (focus (first | (simp only [go_sem, Nat.reduceEqDiff, Nat.reduceAdd, Nat.reduceSub, Nat.reduceLeDiff, Nat.reduceMul, Nat.reduceBEq, Nat.reduceLT, Int.reduceToNat, reduceCtorEq]; first | done | exact rfl | (and_intros <;> rfl)) | exact rfl | decide)))
      refine wRUN trivial ?_
      exact wRet (ret_data []) Tryz.results258
    ·rw [if_neg (by omega)]
     cases g48 : decide ((48 : Int) ≤ (n : Int)) <;> cases g57 : decide ((n : Int) ≤ 57)
     case true.true =>
      simp only [decide_eq_true_eq] at g48 g57
      exfalso
      unfold digB at hd
      simp at hd
      omega
     all_goals
      generalize lowN n = l at *
      have g97 : decide ((97 : Int) ≤ l) = true := decide_eq_true (by omega)
      have g122 : decide (l ≤ 122) = false := decide_eq_false (by omega)
      refine wRUN (j6 d01 hr hg q95 g48 g57) ?_
      refine w7 (op_data [] hlow) trivial ?_
      refine wRUN g97 ?_
      refine w7 (op_data [] hlow) trivial ?_
      refine wRUN g122 ?_
      (apply (op_mkIface concE); (focus (first | (simp only [go_sem, Nat.reduceEqDiff, Nat.reduceAdd, Nat.reduceSub, Nat.reduceLeDiff, Nat.reduceMul, Nat.reduceBEq, Nat.reduceLT, Int.reduceToNat, reduceCtorEq]; first | done | exact rfl | (and_intros <;> rfl)) | exact rfl | decide)); (focus (first | (simp only [go_sem, Nat.reduceEqDiff, Nat.reduceAdd, Nat.reduceSub, Nat.reduceLeDiff, Nat.reduceMul, Nat.reduceBEq, Nat.reduceLT, Int.reduceToNat, reduceCtorEq]; first | done | exact rfl | (and_intros <;> rfl)) | exact rfl | decide)); (focus (first | (simp only [go_sem, Nat.reduceEqDiff, Nat.reduceAdd, Nat.reduceSub, Nat.reduceLeDiff, Nat.reduceMul, Nat.reduceBEq, Nat.reduceLT, Int.reduceToNat, reduceCtorEq]; first | done | exact rfl | (and_intros <;> rfl)) | exact rfl | decide)); (focus (first | (simp only [go_sem, Nat.reduceEqDiff, Nat.reduceAdd, Nat.reduceSub, Nat.reduceLeDiff, Nat.reduceMul, Nat.reduceBEq, Nat.reduceLT, Int.reduceToNat, reduceCtorEq]; first | done | exact rfl | (and_intros <;> rfl)) | exact rfl | decide)))
      refine wRUN trivial ?_
      exact wRet (ret_data []) Tryz.results258
    ·rw [if_neg (by omega)]
     cases g48 : decide ((48 : Int) ≤ (n : Int)) <;> cases g57 : decide ((n : Int) ≤ 57)
     case true.true =>
      simp only [decide_eq_true_eq] at g48 g57
      exfalso
      unfold digB at hd
      simp at hd
      omega
     all_goals
      generalize lowN n = l at *
      have g97 : decide ((97 : Int) ≤ l) = false := decide_eq_false (by omega)
      refine wRUN (j6 d01 hr hg q95 g48 g57) ?_
      refine w7 (op_data [] hlow) trivial ?_
      refine wRUN g97 ?_
      (apply (op_mkIface concE); (focus (first | (simp only [go_sem, Nat.reduceEqDiff, Nat.reduceAdd, Nat.reduceSub, Nat.reduceLeDiff, Nat.reduceMul, Nat.reduceBEq, Nat.reduceLT, Int.reduceToNat, reduceCtorEq]; first | done | exact rfl | (and_intros <;> rfl)) | exact rfl | decide)); (focus (first | (simp only [go_sem, Nat.reduceEqDiff, Nat.reduceAdd, Nat.reduceSub, Nat.reduceLeDiff, Nat.reduceMul, Nat.reduceBEq, Nat.reduceLT, Int.reduceToNat, reduceCtorEq]; first | done | exact rfl | (and_intros <;> rfl)) | exact rfl | decide)); (focus (first | (simp only [go_sem, Nat.reduceEqDiff, Nat.reduceAdd, Nat.reduceSub, Nat.reduceLeDiff, Nat.reduceMul, Nat.reduceBEq, Nat.reduceLT, Int.reduceToNat, reduceCtorEq]; first | done | exact rfl | (and_intros <;> rfl)) | exact rfl | decide)); (focus (first | (simp only [go_sem, Nat.reduceEqDiff, Nat.reduceAdd, Nat.reduceSub, Nat.reduceLeDiff, Nat.reduceMul, Nat.reduceBEq, Nat.reduceLT, Int.reduceToNat, reduceCtorEq]; first | done | exact rfl | (and_intros <;> rfl)) | exact rfl | decide)))
      refine wRUN trivial ?_
      exact wRet (ret_data []) Tryz.results258
  ·have d11 : decide (((1 : Nat) : Int) < 1) = false := rfl
   have e11 : (if (1 : Nat) = 0 then (0 : Int) else hexB n) = hexB n := rfl
   have h0 := hk1 rfl
   unfold u16A
   rw [if_pos h0]
   refine wRUN (j2 d11 e11) ?_
   exact wRet (ret_data []) Tryz.results258
end Go.Proofs.YtlciedpfjhkkdaaGreatDoor
