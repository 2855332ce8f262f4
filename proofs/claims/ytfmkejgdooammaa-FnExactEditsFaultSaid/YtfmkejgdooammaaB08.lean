/- impl.ValueFault, impl.pathOf, impl.PathFault. -/
import Derived.Test.YtfmkejgdooammaaB07
import Derived.Test.YtfmkejgdooammaaA07
namespace Go.Proofs.Ytfmkejgdooammaa
open Go.RowKit

set_option maxHeartbeats 400000 in
theorem implFault_any (xs : List CellD) (hz : Sized xs) (A : Option Addr) (cap : Nat) (S : Nat → Prop) (w : World) (hcs : Cells w S A xs) :
    Calls Try.prog 46 #[.slice A xs.length cap] w fun e w' => e = .returned (.int .i64 (dec xs).1) ∧ Below w.heap.size w w' := by
  have HV := Lib.hid (valOf_any xs hz A cap S w hcs)
  go_enter Try.func46, Try.ntmps46
  rcases hd : dec xs with ⟨c, _ | t⟩
  · rw [hd] at HV
    have HV : Hid (Calls Try.prog 34 #[.slice A xs.length cap] w fun e w' => Below w.heap.size w w' ∧ e = .returned (.tuple #[.agg zero5, .int .i64 c])) := HV.out
    have Hd := Lib.hid hd
    clear hd hcs hz
    go_wp2_with (go_at_call 34; refine HV.out.mono ?_; rintro e w1 ⟨hb1, rfl⟩; unfold zero5; have Hb1 := Lib.hid hb1; clear hb1)
    go_ret
    exact ⟨rfl, Hb1.out.alloc Hb1.out.size _⟩
  · rw [hd] at HV
    have HV : Hid (Calls Try.prog 34 #[.slice A xs.length cap] w fun e w' => Below w.heap.size w w' ∧ ∃ vs : List Value, e = .returned (.tuple #[.agg vs.toArray, .int .i64 0]) ∧ VRep w' (fun b => w.heap.size ≤ b) t vs) := HV.out
    have hc : c = 0 := by have := (dec_some (xs := xs) (t := t) (by rw [hd])).1; rw [hd] at this; exact this
    subst hc
    clear hd hcs hz
    go_wp2_with (go_at_call 34; refine HV.out.mono ?_; rintro e w1 ⟨hb1, vs, rfl, hrep⟩; obtain ⟨Ak, ck', Av, cv', kvs, rfl, hck', hcv', _, _, _⟩ := hrep.out; have Hb1 := Lib.hid hb1; clear hb1 hrep)
    go_ret
    exact ⟨rfl, Hb1.out.alloc Hb1.out.size _⟩

set_option maxHeartbeats 400000 in
theorem wrong_any (k m : Int) (t : ByteArray) (a b : Value) (w : World) :
    Calls Try.prog 44 #[.agg #[.int .i64 k, .int .i64 m, .string t, a, b]] w fun e w' => e = .returned (.bool (k != 4 && k != 3)) ∧ Below w.heap.size w w' := by
  go_enter Try.func44, Try.ntmps44
  cases h4 : (k != 4) <;> cases h3 : (k != 3)
  all_goals go_wp2
  all_goals go_ret
  all_goals exact ⟨by simp_all, (Below.refl _ _).alloc (Nat.le_refl _) _⟩

set_option maxHeartbeats 1000000 in
theorem indexWrong_any (ks : List V) (hl : ks.length ≤ 1000000) (Av : Option Addr) (cv : Nat) (kvs : List (List Value)) (S : Nat → Prop) (w : World) (r2 : Row w S 5 Av kvs) (r3 : VReps w S ks kvs) :
    Calls Try.prog 64 #[.slice Av ks.length cv, .func (.func 44) #[] #[]] w fun e w' => (∃ r : Int, e = .returned (.int .i64 r) ∧ decide (0 ≤ r) = ks.any badKid) ∧ Below w.heap.size w w' := by
  have Hr2 := Lib.hid r2
  have Hr3 := Lib.hid r3
  clear r2 r3
  go_enter Try.func64, Try.ntmps64
  go_wp2
  go_loopw [8] (fun ki wr => ∃ k : Nat, ki = .int .i64 k ∧ k ≤ ks.length ∧ (∀ i (hi : i < ks.length), i < k → badKid ks[i] = false) ∧ Below w.heap.size w wr) (fun ki _ => ks.length - (intOf ki).toNat)
  case atStart => exact ⟨0, rfl, Nat.zero_le _, fun _ _ h => absurd h (by omega), Below.refl _ _⟩
  case round =>
    obtain ⟨k, rfl, hk, hall, hb⟩ := hrel
    have Hall := Lib.hid hall
    have Hb := Lib.hid hb
    clear hall hb
    by_cases hlt : k < ks.length
    · obtain ⟨b, off, Ak2, ck2, Av2, cv2, kvs2, rfl, _, hbl, c0, c1, c2, c3, c4, hk2, hv2, s1, s2, s3⟩ := (Hr2.out.below Hb.out).vat (Hr3.out.below Hb.out) hlt
      cases hbad : badKid ks[k]
      · have HW : Hid (∀ W : World, Calls Try.prog 44 #[.agg #[.int .i64 ks[k].kind, .int .i64 ks[k].num, .string ks[k].text, .slice Ak2 ks[k].keys.length ck2, .slice Av2 ks[k].kids.length cv2]] W fun e w' => e = .returned (.bool false) ∧ Below W.heap.size W w') := by
          intro W
          have := wrong_any ks[k].kind ks[k].num ks[k].text (.slice Ak2 ks[k].keys.length ck2) (.slice Av2 ks[k].kids.length cv2) W
          rw [show (ks[k].kind != 4 && ks[k].kind != 3) = false from hbad] at this
          exact this
        have Hbad := Lib.hid hbad
        clear hbad s1 s2 s3
        go_wp2_with (go_at_call 44; refine (HW.out _).mono ?_; rintro e w1 ⟨rfl, hb1⟩)
        all_goals go_roundw
        case rel =>
          refine ⟨k + 1, by go_num, by omega, fun i hi hik => ?_, Hb.out.trans (hb1.mono Hb.out.size)⟩
          by_cases he : i = k
          · subst he; exact Hbad.out
          · exact Hall.out i hi (by omega)
        case measure => simp [intOf]; omega
      · have HW : Hid (∀ W : World, Calls Try.prog 44 #[.agg #[.int .i64 ks[k].kind, .int .i64 ks[k].num, .string ks[k].text, .slice Ak2 ks[k].keys.length ck2, .slice Av2 ks[k].kids.length cv2]] W fun e w' => e = .returned (.bool true) ∧ Below W.heap.size W w') := by
          intro W
          have := wrong_any ks[k].kind ks[k].num ks[k].text (.slice Ak2 ks[k].keys.length ck2) (.slice Av2 ks[k].kids.length cv2) W
          rw [show (ks[k].kind != 4 && ks[k].kind != 3) = true from hbad] at this
          exact this
        have hany : ks.any badKid = true := List.any_eq_true.2 ⟨ks[k], List.getElem_mem hlt, hbad⟩
        have Hany := Lib.hid hany
        clear hbad s1 s2 s3 hany
        go_wp2_with (go_at_call 44; refine (HW.out _).mono ?_; rintro e w1 ⟨rfl, hb1⟩)
        go_ret
        exact ⟨⟨_, rfl, by rw [Hany.out]; simp⟩, Hb.out.trans (hb1.mono Hb.out.size)⟩
    · have hany : ks.any badKid = false := by
        rw [List.any_eq_false]
        intro x hx
        obtain ⟨i, hi, rfl⟩ := List.getElem_of_mem hx
        simp [Hall.out i hi (by omega)]
      have Hany := Lib.hid hany
      clear hany
      go_wp2
      go_ret
      exact ⟨⟨-1, rfl, by rw [Hany.out]; simp⟩, Hb.out⟩

set_option maxHeartbeats 400000 in
theorem containsWrong_any (ks : List V) (hl : ks.length ≤ 1000000) (Av : Option Addr) (cv : Nat) (kvs : List (List Value)) (S : Nat → Prop) (w : World) (r2 : Row w S 5 Av kvs) (r3 : VReps w S ks kvs) :
    Calls Try.prog 45 #[.slice Av ks.length cv, .func (.func 44) #[] #[]] w fun e w' => e = .returned (.bool (ks.any badKid)) ∧ Below w.heap.size w w' := by
  have HI := Lib.hid (indexWrong_any ks hl Av cv kvs S w r2 r3)
  clear r2 r3
  go_enter Try.func45, Try.ntmps45
  go_wp2_with (go_at_call 64; refine HI.out.mono ?_; rintro e w1 ⟨⟨r, rfl, hr⟩, hb1⟩; have Hr := Lib.hid hr; clear hr)
  go_ret
  exact ⟨by rw [← Hr.out]; rfl, hb1⟩
end Go.Proofs.Ytfmkejgdooammaa
