/- impl.cellFault. -/
import Derived.Test.YtfmkejgdooammaaB02
namespace Go.Proofs.Ytfmkejgdooammaa
open Go.RowKit

set_option maxHeartbeats 4000000 in
theorem cellFault_any (k m : Int) (t y : ByteArray) (n : Int) (ht : t.size ≤ 9223372036854775807) (hy : y.size ≤ 9223372036854775807) (w : World) :
    Calls Try.prog 51 #[.agg #[.int .i64 k, .int .i64 m, .string t, .string y, .int .i64 n]] w fun e w' => e = .returned (.int .i64 (cellCode k m t y n)) ∧ Below w.heap.size w w' := by
  have HB : ∀ X : Obj, Below w.heap.size w (w.alloc X) := fun X => (Below.refl _ _).alloc (Nat.le_refl _) _
  have HBB := Lib.hid HB
  clear HB
  go_enter Try.func51, Try.ntmps51
  have hk : k = 5 ∨ k = 6 ∨ k = 3 ∨ k = 4 ∨ ((k == 5) = false ∧ (k == 6) = false ∧ (k == 3) = false ∧ (k == 4) = false) := by simp; omega
  rcases hk with rfl | rfl | rfl | rfl | ⟨h5, h6, h3, h4⟩
  · have h0 : inB 5 0 6 = true := by decide
    go_wp2_with (first
      | (go_at_call 49; refine (within_any _ _ _ _).mono ?_; rintro e w' ⟨rfl, rfl⟩)
      | (go_at_call 68; refine (isString_any _ (by assumption) _).mono ?_; rintro e w' ⟨rfl, rfl⟩))
    all_goals go_ret
    all_goals refine ⟨?_, HBB.out _⟩
    all_goals clear HBB
    all_goals (refine congrArg (fun x : Int => Ending.returned (.int .i64 x)) ?_)
    all_goals simp_all [cellCode, cF, cR, cT, holds]
  · have h0 : inB 6 0 6 = true := by decide
    go_wp2_with (first
      | (go_at_call 49; refine (within_any _ _ _ _).mono ?_; rintro e w' ⟨rfl, rfl⟩)
      | (go_at_call 68; refine (isString_any _ (by assumption) _).mono ?_; rintro e w' ⟨rfl, rfl⟩))
    all_goals go_ret
    all_goals refine ⟨?_, HBB.out _⟩
    all_goals clear HBB
    all_goals (refine congrArg (fun x : Int => Ending.returned (.int .i64 x)) ?_)
    all_goals simp_all [cellCode, cF, cR, cT, holds]
  · have h0 : inB 3 0 6 = true := by decide
    go_wp2_with (first
      | (go_at_call 49; refine (within_any _ _ _ _).mono ?_; rintro e w' ⟨rfl, rfl⟩)
      | (go_at_call 68; refine (isString_any _ (by assumption) _).mono ?_; rintro e w' ⟨rfl, rfl⟩))
    all_goals go_ret
    all_goals refine ⟨?_, HBB.out _⟩
    all_goals clear HBB
    all_goals (refine congrArg (fun x : Int => Ending.returned (.int .i64 x)) ?_)
    all_goals simp_all [cellCode, cF, cR, cT, holds]
  · have h0 : inB 4 0 6 = true := by decide
    go_wp2_with (first
      | (go_at_call 49; refine (within_any _ _ _ _).mono ?_; rintro e w' ⟨rfl, rfl⟩)
      | (go_at_call 68; refine (isString_any _ (by assumption) _).mono ?_; rintro e w' ⟨rfl, rfl⟩))
    all_goals go_ret
    all_goals refine ⟨?_, HBB.out _⟩
    all_goals clear HBB
    all_goals (refine congrArg (fun x : Int => Ending.returned (.int .i64 x)) ?_)
    all_goals simp_all [cellCode, cF, cR, cT, holds]
  · cases h0 : inB k 0 6
    · go_wp2_with (go_at_call 49; refine (within_any _ _ _ _).mono ?_; rintro e w' ⟨rfl, rfl⟩)
      go_ret
      exact ⟨by simp [cellCode, h0], HBB.out _⟩
    · go_wp2_with (first
        | (go_at_call 49; refine (within_any _ _ _ _).mono ?_; rintro e w' ⟨rfl, rfl⟩)
        | (go_at_call 68; refine (isString_any _ (by assumption) _).mono ?_; rintro e w' ⟨rfl, rfl⟩))
      all_goals go_ret
      all_goals refine ⟨?_, HBB.out _⟩
      all_goals clear HBB
      all_goals (refine congrArg (fun x : Int => Ending.returned (.int .i64 x)) ?_)
      all_goals simp_all [cellCode, cF, cR, cT, holds]
end Go.Proofs.Ytfmkejgdooammaa
