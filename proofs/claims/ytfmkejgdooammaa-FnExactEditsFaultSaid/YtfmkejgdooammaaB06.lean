/- (impl.val).depth. -/
import Derived.Test.YtfmkejgdooammaaB05
import Derived.Test.YtfmkejgdooammaaM03
namespace Go.Proofs.Ytfmkejgdooammaa
open Go.RowKit

set_option maxRecDepth 100000 in
set_option maxHeartbeats 4000000 in
theorem depth_any : ∀ (m : Nat) (t : V) (vs : List Value) (S : Nat → Prop) (w : World), t.count ≤ m → t.count ≤ 1000000 → VRep w S t vs →
    Calls Try.prog 53 #[.agg vs.toArray] w fun e w' => e = .returned (.int .i64 t.depth) ∧ Below w.heap.size w w' := by
  intro m
  induction m with
  | zero => intro t vs S w hm _ _; have := count_pos t; omega
  | succ m ih =>
    intro t vs S w hm hM hrep
    have HIH := Lib.hid ih
    clear ih
    obtain ⟨Ak, ck, Av, cv, kvs, rfl, hck, hcv, r1, r2, r3⟩ := hrep.out
    have Hr2 := Lib.hid (r2.keep (Same.alloc _ _ (.cells #[.int .i64 t.kind, .int .i64 t.num, .string t.text, .slice Ak t.keys.length ck, .slice Av t.kids.length cv] 64)))
    have Hr3 := Lib.hid (r3.keep (Same.alloc _ _ (.cells #[.int .i64 t.kind, .int .i64 t.num, .string t.text, .slice Ak t.keys.length ck, .slice Av t.kids.length cv] 64)))
    have hkc := count_kids t
    have hkl := countL_len t.kids
    have HB0 : Hid (∀ X : Obj, Below w.heap.size w (w.alloc X)) := fun X => (Below.refl _ _).alloc (Nat.le_refl _) _
    have hdk := Lib.hid (depth_kids t)
    have hdc := depthL_le_countL t.kids
    clear r1 r2 r3 hrep
    go_enter Try.func53, Try.ntmps53
    go_wp2
    go_loopw [3, 9] (fun dp ki wr => ∃ k : Nat, ki = .int .i64 k ∧ k ≤ t.kids.length ∧ dp = .int .i64 (depthL (t.kids.take k) : Nat) ∧
        Below (w.heap.size + 1) (w.alloc (.cells #[.int .i64 t.kind, .int .i64 t.num, .string t.text, .slice Ak t.keys.length ck, .slice Av t.kids.length cv] 64)) wr) (fun _ ki _ => t.kids.length - (intOf ki).toNat)
    case atStart => exact ⟨0, rfl, Nat.zero_le _, by simp [depthL], Below.refl _ _⟩
    case round =>
      obtain ⟨k, rfl, hk, rfl, hb⟩ := hrel
      have Hb := Lib.hid hb
      have hsz : w.heap.size < wr.heap.size := by have := hb.size; simp at this; omega
      have hdt := depthL_take_le t.kids k
      clear hb
      by_cases hlt : k < t.kids.length
      · have hbb : Below (w.alloc (.cells #[.int .i64 t.kind, .int .i64 t.num, .string t.text, .slice Ak t.keys.length ck, .slice Av t.kids.length cv] 64)).heap.size (w.alloc (.cells #[.int .i64 t.kind, .int .i64 t.num, .string t.text, .slice Ak t.keys.length ck, .slice Av t.kids.length cv] 64)) wr := Hb.out.mono (by simp)
        obtain ⟨b, off, Ak2, ck2, Av2, cv2, kvs2, rfl, _, hbl, c0, c1, c2, c3, c4, hk2, hv2, s1, s2, s3⟩ := (Hr2.out.below hbb).vat (Hr3.out.below hbb) hlt
        have hmem := countL_mem (List.getElem_mem hlt)
        have Hd := Lib.hid (depthL_take hlt)
        have Hrep := Lib.hid (VRep.keep (Same.alloc _ _ (.cells #[.int .i64 t.kids[k].kind, .int .i64 t.kids[k].num, .string t.kids[k].text, .slice Ak2 t.kids[k].keys.length ck2, .slice Av2 t.kids[k].kids.length cv2] 64)) (VRep.of hk2 hv2 s1 s2 s3))
        have hkd := depthL_mem (List.getElem_mem hlt)
        generalize t.kids[k] = u at *
        clear s1 s2 s3 hbb
        go_wp2_with (go_at_call 53; refine (HIH.out u _ S _ (by omega) (by omega) Hrep.out).mono ?_; rintro e w1 ⟨rfl, hb1⟩)
        all_goals go_roundw
        case rel =>
          refine ⟨k + 1, by go_num, by omega, ?_, Hb.out.trans ((((Below.refl _ _).alloc (Nat.le_refl _) _).trans (hb1.mono (by simp))).mono (by omega))⟩
          rw [Hd.out]
          congr 1
          split <;> omega
        case measure => simp [intOf]; omega
      · go_wp2
        go_ret
        refine ⟨?_, (HB0.out _).trans (Hb.out.mono (by omega))⟩
        rw [hdk.out, List.take_of_length_le (by omega)]
        simp
end Go.Proofs.Ytfmkejgdooammaa
