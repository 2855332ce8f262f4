/- The walks of the small functions that look at one cell or one text. -/
import Derived.Test.YtfmkejgdooammaaChecked
import Derived.Test.YtfmkejgdooammaaA01
import Derived.WalkKit
import Derived.WalkSpells
import Derived.WalkLawsBesides
import Derived.Deep.QuietTactic
import Derived.BigQuiet
import Derived.Lib.Hide
namespace Go.Proofs.Ytfmkejgdooammaa
open Go.RowKit
theorem ok_all_of {s : ByteArray} (h : ∀ j (hj : j < s.size), okByte s[j] = true) : s.data.toList.all okByte = true := by
  rw [List.all_eq_true]
  intro c hc
  obtain ⟨j, hj, rfl⟩ := List.getElem_of_mem hc
  exact h j (by simpa using hj)
theorem okText_no {s : ByteArray} {j : Nat} (hj : j < s.size) (h : (s[j].toNat : Int) < 32 ∨ 126 < (s[j].toNat : Int)) : okText s = false := by
  have : s.data.toList.all okByte = false := by
    rw [← Bool.not_eq_true]
    intro hh
    rw [List.all_eq_true] at hh
    have := hh s[j] (by simp [ByteArray.getElem_eq_getElem_data])
    simp [okByte] at this
    omega
  simp [okText, this]
theorem okText_of {s : ByteArray} (h : ∀ j (hj : j < s.size), okByte s[j] = true) : okText s = decide (s.size ≤ 60) := by
  simp [okText, ok_all_of h]
theorem ok_next {s : ByteArray} {k : Nat} (hk : k < s.size) (h : ∀ j (hj : j < s.size), j < k → okByte s[j] = true) (h1 : 32 ≤ (s[k].toNat : Int)) (h2 : (s[k].toNat : Int) ≤ 126) :
    ∀ j (hj : j < s.size), j < k + 1 → okByte s[j] = true := by
  intro j hj hjk
  by_cases e : j = k
  · subst e; simp [okByte]; omega
  · exact h j hj (by omega)

set_option maxHeartbeats 400000 in
theorem l1In_any (v lo hi : Int) (w : World) :
    Calls Try.prog 59 #[.int .i64 v, .int .i64 lo, .int .i64 hi] w fun e w' => e = .returned (.bool (inB v lo hi)) ∧ w = w' := by
  go_enter Try.func59, Try.ntmps59
  cases h1 : decide (lo ≤ v) <;> cases h2 : decide (v ≤ hi)
  all_goals go_wp2
  all_goals go_ret
  all_goals simp [inB, *]
set_option maxHeartbeats 400000 in
theorem within_any (v lo hi : Int) (w : World) :
    Calls Try.prog 49 #[.int .i64 v, .int .i64 lo, .int .i64 hi] w fun e w' => e = .returned (.bool (inB v lo hi)) ∧ w = w' := by
  go_enter Try.func49, Try.ntmps49
  cases h1 : decide (lo ≤ v) <;> cases h2 : decide (v ≤ hi)
  all_goals go_wp2
  all_goals go_ret
  all_goals simp [inB, *]

set_option maxHeartbeats 400000 in
theorem l1Text_any (s : ByteArray) (w : World) :
    Calls Try.prog 61 #[.string s] w fun e w' => e = .returned (.bool (okText s)) ∧ w = w' := by
  go_enter Try.func61, Try.ntmps61
  by_cases hlen : s.size ≤ 60
  · go_wp2
    go_loop [3] (fun i => ∃ k : Nat, k ≤ s.size ∧ i = .int .i64 k ∧ (∀ j (hj : j < s.size), j < k → okByte s[j] = true)) (fun i => s.size - (intOf i).toNat)
    case atStart => exact ⟨0, Nat.zero_le _, rfl, fun j hj h => absurd h (by omega)⟩
    case round =>
      obtain ⟨k, hk, rfl, hall⟩ := hrel
      have Hall := Lib.hid hall
      clear hall
      by_cases hlt : k < s.size
      · go_wp2
        · go_ret
          exact ⟨by rw [okText_no hlt (by omega)]; rfl, rfl⟩
        · go_round
          case rel => exact ⟨k + 1, by omega, by go_num, ok_next hlt Hall.out (by omega) (by omega)⟩
          case measure => simp [intOf]; omega
        · go_ret
          exact ⟨by rw [okText_no hlt (by omega)]; rfl, rfl⟩
      · go_wp2
        go_ret
        refine ⟨?_, rfl⟩
        rw [okText_of fun j hj => Hall.out j hj (by omega)]
        simp [hlen]
  · go_wp2
    go_ret
    simp [okText, hlen]
set_option maxHeartbeats 400000 in
theorem isString_any (s : ByteArray) (hs : s.size ≤ 9223372036854775807) (w : World) :
    Calls Try.prog 68 #[.string s] w fun e w' => e = .returned (.bool (okText s)) ∧ w = w' := by
  go_enter Try.func68, Try.ntmps68
  go_wp2
  go_loop [6] (fun i => ∃ k : Nat, k ≤ s.size ∧ i = .int .i64 k ∧ (∀ j (hj : j < s.size), j < k → okByte s[j] = true)) (fun i => s.size - (intOf i).toNat)
  case atStart => exact ⟨0, Nat.zero_le _, rfl, fun j hj h => absurd h (by omega)⟩
  case round =>
    obtain ⟨k, hk, rfl, hall⟩ := hrel
    have Hall := Lib.hid hall
    clear hall
    by_cases hlt : k < s.size
    · go_wp2
      · go_ret
        exact ⟨by rw [okText_no hlt (by omega)]; rfl, rfl⟩
      · go_round
        case rel => exact ⟨k + 1, by omega, by go_num, ok_next hlt Hall.out (by omega) (by omega)⟩
        case measure => simp [intOf]; omega
      · go_ret
        exact ⟨by rw [okText_no hlt (by omega)]; rfl, rfl⟩
    · go_wp2
      go_ret
      refine ⟨?_, rfl⟩
      rw [okText_of fun j hj => Hall.out j hj (by omega)]
      simp
      omega
set_option maxHeartbeats 400000 in
theorem l1Holds_any (k m : Int) (t y : ByteArray) (n : Int) (w : World) :
    Calls Try.prog 60 #[.agg #[.int .i64 k, .int .i64 m, .string t, .string y, .int .i64 n]] w fun e w' => e = .returned (.bool (holds k)) ∧ Below w.heap.size w w' := by
  go_enter Try.func60, Try.ntmps60
  cases h1 : (k == 5) <;> cases h2 : (k == 6)
  all_goals go_wp2
  all_goals go_ret
  all_goals exact ⟨by simp [holds, h1, h2], (Below.refl _ _).alloc (Nat.le_refl _) _⟩

set_option maxHeartbeats 4000000 in
theorem l1Cell_any (k m : Int) (t y : ByteArray) (n : Int) (w : World) :
    Calls Try.prog 41 #[.agg #[.int .i64 k, .int .i64 m, .string t, .string y, .int .i64 n]] w fun e w' => e = .returned (.int .i64 (cellCode k m t y n)) ∧ Below w.heap.size w w' := by
  have HB : ∀ X : Obj, Below w.heap.size w (w.alloc X) := fun X => (Below.refl _ _).alloc (Nat.le_refl _) _
  have HBB := Lib.hid HB
  clear HB
  go_enter Try.func41, Try.ntmps41
  cases h0 : inB k 0 6
  · go_wp2_with (go_at_call 59; refine (l1In_any _ _ _ _).mono ?_; rintro e w' ⟨rfl, rfl⟩)
    go_ret
    exact ⟨by simp [cellCode, h0], HBB.out _⟩
  · go_wp2_with (first
      | (go_at_call 59; refine (l1In_any _ _ _ _).mono ?_; rintro e w' ⟨rfl, rfl⟩)
      | (go_at_call 61; refine (l1Text_any _ _).mono ?_; rintro e w' ⟨rfl, rfl⟩)
      | (go_at_call 60; refine (l1Holds_any _ _ _ _ _ _).mono ?_; rintro e w1 ⟨rfl, hb1⟩; obtain ⟨hc1, hf1⟩ := bcell hb1; have HB1 := Lib.hid hb1; clear hb1))
    all_goals go_ret
    all_goals refine ⟨?_, ?_⟩
    any_goals (first | exact HBB.out _ | exact (HBB.out _).trans (HB1.out.mono (by simp)))
    all_goals clear HBB
    all_goals (try clear hc1 hf1 HB1)
    all_goals (refine congrArg (fun x : Int => Ending.returned (.int .i64 x)) ?_)
    all_goals simp_all [cellCode, cF, cR, cT]
