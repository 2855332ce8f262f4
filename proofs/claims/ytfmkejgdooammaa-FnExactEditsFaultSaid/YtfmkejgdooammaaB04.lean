/- spec.ValueFault. -/
import Derived.Test.YtfmkejgdooammaaB03
namespace Go.Proofs.Ytfmkejgdooammaa
open Go.RowKit

set_option maxRecDepth 100000 in
set_option maxHeartbeats 4000000 in
theorem specFault_any (xs : List CellD) (A : Option Addr) (cap : Nat) (S : Nat → Prop) (w : World) (hcs : Cells w S A xs) :
    Calls Try.prog 23 #[.slice A xs.length cap] w fun e w' => e = .returned (.int .i64 (dec xs).1) ∧ Below w.heap.size w w' := by
  by_cases h1 : xs.length < 1
  · have hd := Lib.hid (dec_many (xs := xs) (.inl h1))
    go_enter Try.func23, Try.ntmps23
    go_wp2
    go_ret
    exact ⟨by rw [hd.out]; rfl, Below.refl _ _⟩
  · by_cases h2 : 200 < xs.length
    · have hd := Lib.hid (dec_many (xs := xs) (.inr h2))
      go_enter Try.func23, Try.ntmps23
      go_wp2
      go_ret
      exact ⟨by rw [hd.out]; rfl, Below.refl _ _⟩
    · have HC := Lib.hid hcs
      clear hcs
      have h1' : decide ((xs.length : Int) < 1) = false := by simp; omega
      have h2' : decide ((200 : Int) < xs.length) = false := by simp; omega
      go_enter Try.func23, Try.ntmps23
      go_wp2
      go_loopw [3] (fun i wr => ∃ k : Nat, k ≤ xs.length ∧ i = .int .i64 k ∧ (∀ i (hi : i < xs.length), i < k → xs[i].code = 0) ∧ Below w.heap.size w wr) (fun i _ => xs.length - (intOf i).toNat)
      case atStart => exact ⟨0, Nat.zero_le _, rfl, fun _ _ h => absurd h (by omega), Below.refl _ _⟩
      case round =>
        obtain ⟨k, hk, rfl, hall, hb⟩ := hrel
        have Hall := Lib.hid hall
        have Hb := Lib.hid hb
        clear hall hb
        by_cases hlt : k < xs.length
        · obtain ⟨b, off, rfl, hS, hl, c0, c1, c2, c3, c4⟩ := (HC.out.below Hb.out).at_ hlt
          have Hk : Hid (∃ c, xs[k] = c) := ⟨_, rfl⟩
          cases hz : (xs[k].code != 0)
          · have hz' : cellCode xs[k].kind xs[k].num xs[k].text xs[k].key xs[k].n = 0 := by simpa [CellD.code] using hz
            have HC1 : Hid (∀ W : World, Calls Try.prog 41 #[.agg #[.int .i64 xs[k].kind, .int .i64 xs[k].num, .string xs[k].text, .string xs[k].key, .int .i64 xs[k].n]] W fun e w' => e = .returned (.int .i64 0) ∧ Below W.heap.size W w') := by
              intro W
              have := l1Cell_any xs[k].kind xs[k].num xs[k].text xs[k].key xs[k].n W
              rw [hz'] at this
              exact this
            have Hz := Lib.hid hz'
            clear hz hz'
            go_wp2_with (go_at_call 41; refine (HC1.out _).mono ?_; rintro e w1 ⟨rfl, hb1⟩)
            all_goals go_roundw
            case rel =>
              refine ⟨k + 1, by omega, by go_num, fun i hi hik => ?_, Hb.out.trans (hb1.mono Hb.out.size)⟩
              by_cases he : i = k
              · subst he; exact Hz.out
              · exact Hall.out i hi (by omega)
            case measure => simp [intOf]; omega
          · have HC1 : Hid (∀ W : World, Calls Try.prog 41 #[.agg #[.int .i64 xs[k].kind, .int .i64 xs[k].num, .string xs[k].text, .string xs[k].key, .int .i64 xs[k].n]] W fun e w' => e = .returned (.int .i64 xs[k].code) ∧ Below W.heap.size W w') := by
              intro W
              exact l1Cell_any xs[k].kind xs[k].num xs[k].text xs[k].key xs[k].n W
            have hd := Lib.hid (dec_code (by omega) (by omega) hlt Hall.out (by simpa using hz))
            generalize xs[k].code = cc at *
            go_wp2_with (go_at_call 41; refine (HC1.out _).mono ?_; rintro e w1 ⟨rfl, hb1⟩)
            all_goals go_ret
            all_goals exact ⟨by rw [hd.out]; rfl, Hb.out.trans (hb1.mono Hb.out.size)⟩
        · have hf0 : firstCode xs = 0 := firstCode_all fun i hi => Hall.out i hi (by omega)
          have hd := Lib.hid (dec_two (by omega) (by omega) hf0)
          have hn : ∀ c ∈ xs, c.n ≤ 200 := fun c hc => (code_n (firstCode_zero hf0 c hc)).2
          have HC1 : Hid (∀ W : World, Cells W S A xs → Calls Try.prog 42 #[.slice A xs.length cap, .int .i64 0, .int .i64 0] W fun e w' =>
            e = .returned (.tuple #[.int .i64 (endOf xs.length (parseV xs.length xs)), .int .i64 (deepOf (parseV xs.length xs))]) ∧ Below W.heap.size W w') := fun W hW => l1Shape_any xs (by omega) hn xs.length 0 0 A cap S W (by simp) (by omega) (by omega) (by omega) hW
          have HR := Lib.hid (HC.out.below Hb.out)
          obtain ⟨b, off, rfl, hS, hl, c0, c1, c2, c3, c4⟩ := (HC.out.below Hb.out).at_ (k := 0) (by omega)
          clear hn c0 c1 c2 c4
          simp only [Nat.zero_mul, Nat.add_zero] at c3
          generalize hend : endOf xs.length (parseV xs.length xs) = en at *
          generalize hdeep : deepOf (parseV xs.length xs) = dp at *
          have Hend := Lib.hid hend
          have Hdeep := Lib.hid hdeep
          clear hend hdeep hf0
          go_wp2_with (go_at_call 42; refine (HC1.out _ HR.out).mono ?_; rintro e w1 ⟨rfl, hb1⟩; obtain ⟨hcc, _⟩ := bcell hb1)
          all_goals go_ret
          all_goals refine ⟨?_, Hb.out.trans (hb1.mono Hb.out.size)⟩
          all_goals (rw [hd.out, dec2_fst (by omega), Hend.out, Hdeep.out]; simp [*]; try omega)
end Go.Proofs.Ytfmkejgdooammaa
