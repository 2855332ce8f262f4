/- impl.pathOf, impl.PathFault. -/
import Derived.Test.YtfmkejgdooammaaB10
namespace Go.Proofs.Ytfmkejgdooammaa
open Go.RowKit

def PathOfPost (d : Int × Option (List V)) (w : World) (e : Ending) (w' : World) : Prop :=
  Below w.heap.size w w' ∧ match d.2 with
    | none => e = .returned (.tuple #[.slice none 0 0, .int .i64 d.1])
    | some ks => ∃ (Av : Option Addr) (cv : Nat) (kvs : List (List Value)), e = .returned (.tuple #[.slice Av ks.length cv, .int .i64 0]) ∧ ks.length ≤ cv ∧ Row w' (fun b => w.heap.size ≤ b) 5 Av kvs ∧ VReps w' (fun b => w.heap.size ≤ b) ks kvs

set_option maxHeartbeats 2000000 in
theorem pathOf_any (xs : List CellD) (hz : Sized xs) (A : Option Addr) (cap : Nat) (S : Nat → Prop) (w : World) (hcs : Cells w S A xs) :
    Calls Try.prog 26 #[.slice A xs.length cap] w (PathOfPost (pathDec xs) w) := by
  have HV := Lib.hid (valOf_any xs hz A cap S w hcs)
  clear hcs hz
  rcases dec_cases xs with ⟨t, ht⟩ | ⟨c, hc0, hd⟩
  · obtain ⟨he, hw, hc, hdp⟩ := dec_ok ht
    have hp : pathDec xs = if t.kind != 5 || t.kids.any badKid then (6, none) else (0, some t.kids) := by rw [he, pathDec_enc hw hc hdp]
    rw [ht] at HV
    have HV : Hid (Calls Try.prog 34 #[.slice A xs.length cap] w fun e w' => Below w.heap.size w w' ∧ ∃ vs : List Value, e = .returned (.tuple #[.agg vs.toArray, .int .i64 0]) ∧ VRep w' (fun b => w.heap.size ≤ b) t vs) := HV.out
    have hkl := kids_len_le hc
    have HCW : Hid (∀ Av cv kvs W, Row W (fun b => w.heap.size ≤ b) 5 Av kvs → VReps W (fun b => w.heap.size ≤ b) t.kids kvs → Calls Try.prog 45 #[.slice Av t.kids.length cv, .func (.func 44) #[] #[]] W fun e w' => e = .returned (.bool (t.kids.any badKid)) ∧ Below W.heap.size W w') :=
      fun Av cv kvs W r2 r3 => containsWrong_any t.kids (by omega) Av cv kvs _ W r2 r3
    clear ht he hw hc hdp
    cases h5 : (t.kind != 5)
    · cases ha : t.kids.any badKid
      · have Hp : Hid (pathDec xs = (0, some t.kids)) := by
          show _ = _
          rw [hp, h5, ha]; rfl
        rw [ha] at HCW
        clear hp ha
        go_enter Try.func26, Try.ntmps26
        go_wp2_with (first
          | (go_at_call 34; refine HV.out.mono ?_; rintro e w1 ⟨hb1, vs, rfl, hrep⟩; obtain ⟨Ak, ck', Av, cv', kvs, rfl, hck', hcv', _, r2, r3⟩ := hrep.out; have Hr2 := Lib.hid (r2.keep (Same.alloc _ _ (.cells #[.int .i64 t.kind, .int .i64 t.num, .string t.text, .slice Ak t.keys.length ck', .slice Av t.kids.length cv'] 64))); have Hr3 := Lib.hid (r3.keep (Same.alloc _ _ (.cells #[.int .i64 t.kind, .int .i64 t.num, .string t.text, .slice Ak t.keys.length ck', .slice Av t.kids.length cv'] 64))); have Hb1 := Lib.hid hb1; clear hb1 hrep r2 r3)
          | (go_at_call 45; refine (HCW.out _ _ _ _ Hr2.out Hr3.out).mono ?_; rintro e w2 ⟨rfl, hb2⟩; obtain ⟨y0, y1, y2, y3, y4, y⟩ := ((Blk.new w1 64 #[.int .i64 t.kind, .int .i64 t.num, .string t.text, .slice Ak t.keys.length ck', .slice Av t.kids.length cv']).below hb2).five; have Hb2 := Lib.hid hb2; clear hb2))
        go_ret2
        rw [Hp.out]
        exact ⟨(Hb1.out.alloc Hb1.out.size _).trans (Hb2.out.mono (by have := Hb1.out.size; simp; omega)), Av, cv', kvs, rfl, hcv', Hr2.out.below Hb2.out, Hr3.out.below Hb2.out⟩
      · have Hp : Hid (pathDec xs = (6, none)) := by
          show _ = _
          rw [hp, h5, ha]; rfl
        rw [ha] at HCW
        clear hp ha
        go_enter Try.func26, Try.ntmps26
        go_wp2_with (first
          | (go_at_call 34; refine HV.out.mono ?_; rintro e w1 ⟨hb1, vs, rfl, hrep⟩; obtain ⟨Ak, ck', Av, cv', kvs, rfl, hck', hcv', _, r2, r3⟩ := hrep.out; have Hr2 := Lib.hid (r2.keep (Same.alloc _ _ (.cells #[.int .i64 t.kind, .int .i64 t.num, .string t.text, .slice Ak t.keys.length ck', .slice Av t.kids.length cv'] 64))); have Hr3 := Lib.hid (r3.keep (Same.alloc _ _ (.cells #[.int .i64 t.kind, .int .i64 t.num, .string t.text, .slice Ak t.keys.length ck', .slice Av t.kids.length cv'] 64))); have Hb1 := Lib.hid hb1; clear hb1 hrep r2 r3)
          | (go_at_call 45; refine (HCW.out _ _ _ _ Hr2.out Hr3.out).mono ?_; rintro e w2 ⟨rfl, hb2⟩; have Hb2 := Lib.hid hb2; clear hb2))
        go_ret2
        rw [Hp.out]
        exact ⟨(Hb1.out.alloc Hb1.out.size _).trans (Hb2.out.mono (by have := Hb1.out.size; simp; omega)), rfl⟩
    · have Hp : Hid (pathDec xs = (6, none)) := by
        show _ = _
        rw [hp, h5]; rfl
      clear hp
      go_enter Try.func26, Try.ntmps26
      go_wp2_with (go_at_call 34; refine HV.out.mono ?_; rintro e w1 ⟨hb1, vs, rfl, hrep⟩; obtain ⟨Ak, ck', Av, cv', kvs, rfl, hck', hcv', _, r2, r3⟩ := hrep.out; have Hb1 := Lib.hid hb1; clear hb1 hrep r2 r3)
      go_ret2
      rw [Hp.out]
      exact ⟨Hb1.out.alloc Hb1.out.size _, rfl⟩
  · have hp : Hid (pathDec xs = (c, none)) := by
      show _ = _
      unfold pathDec; rw [hd]
    rw [hd] at HV
    have HV : Hid (Calls Try.prog 34 #[.slice A xs.length cap] w fun e w' => Below w.heap.size w w' ∧ e = .returned (.tuple #[.agg zero5, .int .i64 c])) := HV.out
    have hc1 : (c != 0) = true := by simpa using hc0
    clear hd hc0
    go_enter Try.func26, Try.ntmps26
    go_wp2_with (go_at_call 34; refine HV.out.mono ?_; rintro e w1 ⟨hb1, rfl⟩; unfold zero5; have Hb1 := Lib.hid hb1; clear hb1)
    go_ret2
    rw [hp.out]
    exact ⟨Hb1.out.alloc Hb1.out.size _, rfl⟩

set_option maxHeartbeats 1000000 in
theorem implPathFault_any (xs : List CellD) (hz : Sized xs) (A : Option Addr) (cap : Nat) (S : Nat → Prop) (w : World) (hcs : Cells w S A xs) :
    Calls Try.prog 9 #[.slice A xs.length cap] w fun e w' => e = .returned (.int .i64 (pathDec xs).1) ∧ Below w.heap.size w w' := by
  have HP := Lib.hid (pathOf_any xs hz A cap S w hcs)
  clear hcs hz
  rcases hd : pathDec xs with ⟨c, _ | ks⟩
  · rw [hd] at HP
    have HP : Hid (Calls Try.prog 26 #[.slice A xs.length cap] w fun e w' => Below w.heap.size w w' ∧ e = .returned (.tuple #[.slice none 0 0, .int .i64 c])) := HP.out
    clear hd
    go_enter Try.func9, Try.ntmps9
    go_wp2_with (go_at_call 26; refine HP.out.mono ?_; rintro e w1 ⟨hb1, rfl⟩)
    go_ret
    exact ⟨rfl, hb1⟩
  · rw [hd] at HP
    have HP : Hid (Calls Try.prog 26 #[.slice A xs.length cap] w fun e w' => Below w.heap.size w w' ∧ ∃ (Av : Option Addr) (cv : Nat) (kvs : List (List Value)), e = .returned (.tuple #[.slice Av ks.length cv, .int .i64 0]) ∧ ks.length ≤ cv ∧ Row w' (fun b => w.heap.size ≤ b) 5 Av kvs ∧ VReps w' (fun b => w.heap.size ≤ b) ks kvs) := HP.out
    have hc : c = 0 := by
      rcases dec_cases xs with ⟨t, ht⟩ | ⟨c', hc0, hd'⟩
      · unfold pathDec at hd; rw [ht] at hd
        simp only at hd
        split at hd <;> simp at hd
        exact hd.1.symm
      · unfold pathDec at hd; rw [hd'] at hd; simp at hd
    subst hc
    clear hd
    go_enter Try.func9, Try.ntmps9
    go_wp2_with (go_at_call 26; refine HP.out.mono ?_; rintro e w1 ⟨hb1, Av, cv, kvs, rfl, _, _, _⟩)
    go_ret
    exact ⟨rfl, hb1⟩
end Go.Proofs.Ytfmkejgdooammaa
