/- The laws' own functions on one cell: szCell, toCell, eqCell. -/
import Derived.Test.YtfmkejgdooammaaB09
namespace Go.Proofs.Ytfmkejgdooammaa
open Go.RowKit

set_option maxHeartbeats 1000000 in
theorem szCell_any (k m : Int) (t y : ByteArray) (n : Int) (left : Int) (h0 : 0 ≤ left) (h1 : left ≤ 1048576) (ht : t.size ≤ 9223372036854775807) (hy : y.size ≤ 9223372036854775807) (w : World) :
    Calls Try.prog 22 #[.agg #[.int .i64 k, .int .i64 m, .string t, .string y, .int .i64 n], .int .i64 left] w fun e w' => (∃ r : Int, e = .returned (.int .i64 r) ∧ r ≤ left ∧ (0 ≤ r → (t.size : Int) + y.size + r = left)) ∧ Below w.heap.size w w' := by
  go_enter Try.func22, Try.ntmps22
  go_wp2
  all_goals go_ret
  · exact ⟨⟨_, rfl, by omega, by omega⟩, (Below.refl _ _).alloc (Nat.le_refl _) _⟩
  · exact ⟨⟨_, rfl, by omega, by omega⟩, (Below.refl _ _).alloc (Nat.le_refl _) _⟩
  · exact ⟨⟨_, rfl, by omega, by omega⟩, (Below.refl _ _).alloc (Nat.le_refl _) _⟩

set_option maxHeartbeats 1000000 in
theorem toCell_any (k m : Int) (t y : ByteArray) (n : Int) (w : World) :
    Calls Try.prog 25 #[.agg #[.int .i64 k, .int .i64 m, .string t, .string y, .int .i64 n]] w fun e w' => e = .returned (.agg #[.int .i64 k, .int .i64 m, .string t, .string y, .int .i64 n]) ∧ Below w.heap.size w w' := by
  go_enter Try.func25, Try.ntmps25
  go_wp2
  refine bodyPost_ret (v := .agg #[.int .i64 k, .int .i64 m, .string t, .string y, .int .i64 n]) (by simp [results, Try.results25, go_sem]) rfl ⟨rfl, ?_⟩
  exact (((Below.refl _ _).alloc (Nat.le_refl _) _).alloc (by simp) _).alloc (by simp; omega) _

set_option maxHeartbeats 1000000 in
theorem eqCell_same (k m : Int) (t y : ByteArray) (n : Int) (w : World) :
    Calls Try.prog 27 #[.agg #[.int .i64 k, .int .i64 m, .string t, .string y, .int .i64 n], .agg #[.int .i64 k, .int .i64 m, .string t, .string y, .int .i64 n]] w fun e w' => e = .returned (.bool true) ∧ Below w.heap.size w w' := by
  go_enter Try.func27, Try.ntmps27
  go_wp2
  go_ret
  exact ⟨rfl, ((Below.refl _ _).alloc (Nat.le_refl _) _).alloc (by simp) _⟩
end Go.Proofs.Ytfmkejgdooammaa
