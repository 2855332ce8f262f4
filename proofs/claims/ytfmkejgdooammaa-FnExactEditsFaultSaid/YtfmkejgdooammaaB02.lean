/- spec.l1Shape: it tells where a tree ends, and its depth. -/
import Derived.Test.YtfmkejgdooammaaB01
import Derived.Test.YtfmkejgdooammaaM02
namespace Go.Proofs.Ytfmkejgdooammaa
open Go.RowKit

set_option maxRecDepth 100000 in
set_option maxHeartbeats 4000000 in
theorem l1Shape_any (xs : List CellD) (hx : xs.length ≤ 200) (hn : ∀ c ∈ xs, c.n ≤ 200) :
    ∀ (m : Nat) (a d : Int) (A : Option Addr) (cap : Nat) (S : Nat → Prop) (w : World), xs.length - a.toNat ≤ m → 0 ≤ d → d ≤ a → a ≤ 201 → Cells w S A xs →
      Calls Try.prog 42 #[.slice A xs.length cap, .int .i64 a, .int .i64 d] w fun e w' =>
        e = .returned (.tuple #[.int .i64 (endOf xs.length (parseV m (xs.drop a.toNat))), .int .i64 (deepOf (parseV m (xs.drop a.toNat)))]) ∧ Below w.heap.size w w' := by
  intro m
  induction m with
  | zero =>
    intro a d A cap S w hm hd0 hda ha hcs
    obtain ⟨a, rfl⟩ := Int.eq_ofNat_of_zero_le (show 0 ≤ a by omega)
    rw [Int.toNat_natCast] at *
    have hge : decide ((xs.length : Int) ≤ (a : Int)) = true := by simp; omega
    go_enter Try.func42, Try.ntmps42
    go_wp2
    go_ret2
    exact ⟨rfl, Below.refl _ _⟩
  | succ m ih =>
    intro a d A cap S w hm hd0 hda ha hcs
    obtain ⟨a, rfl⟩ := Int.eq_ofNat_of_zero_le (show 0 ≤ a by omega)
    rw [Int.toNat_natCast] at *
    have HIH := Lib.hid ih
    clear ih
    by_cases hge : xs.length ≤ a
    · have hge' : decide ((xs.length : Int) ≤ (a : Int)) = true := by simp; omega
      rw [List.drop_eq_nil_of_le hge]
      go_enter Try.func42, Try.ntmps42
      go_wp2
      go_ret2
      exact ⟨rfl, Below.refl _ _⟩
    · have hlt : a < xs.length := by omega
      have hd200 : d ≤ 200 := by omega
      obtain ⟨b, off, rfl, hSb, hbl, c0, c1, c2, c3, c4⟩ := hcs.at_ hlt
      have hN := hn xs[a] (List.getElem_mem hlt)
      have HD := Lib.hid (drop_cons hlt)
      have HC := Lib.hid hcs
      clear hcs
      generalize xs[a] = c at *
      obtain ⟨ck, cm, ct, cy, cn⟩ := c
      simp only at c0 c1 c2 c3 c4 hN
      have HB0 : Hid (∀ X : Obj, Below w.heap.size w (w.alloc X)) := fun X => (Below.refl _ _).alloc (Nat.le_refl _) _
      go_enter Try.func42, Try.ntmps42
      go_wp2
      go_loopw [9, 10, 11, 12] (fun dp en la ki wr => ∃ (k e : Nat) (K : List ByteArray) (Vs : List V) (lst : ByteArray) (last : Option ByteArray),
          ki = .int .i64 k ∧ en = .int .i64 e ∧ dp = .int .i64 (depthL Vs : Nat) ∧ la = .string lst ∧ a < e ∧ e ≤ xs.length ∧ depthL Vs ≤ 200 ∧
          (ck = 6 → 0 < k → K.getLast? = some lst) ∧ KInv (parseV m) ck cn.toNat (xs.drop (a + 1)) k K Vs last (xs.drop e) ∧
          Below (w.heap.size + 1) (w.alloc (.cells #[.int .i64 ck, .int .i64 cm, .string ct, .string cy, .int .i64 cn] 47)) wr) (fun _ _ _ ki _ => cn.toNat - (intOf ki).toNat)
      case atStart =>
        exact ⟨0, a + 1, [], [], ByteArray.empty, none, rfl, rfl, rfl, rfl, by omega, by omega, by simp [depthL], fun _ h => absurd h (by omega), KInv.start, Below.refl _ _⟩
      case round =>
        obtain ⟨k, e, K, Vs, lst, last, rfl, rfl, rfl, rfl, hae, hex, hdv, hlst, hinv, hbw⟩ := hrel
        have hww : Below w.heap.size w wr := (HB0.out _).trans (hbw.mono (by omega))
        have hcr := HC.out.below hww
        have f0 : wr.cell? ⟨w.heap.size, 0, none⟩ = some (.int .i64 ck) := (hbw.cell (p := ⟨w.heap.size, 0, none⟩) (Nat.lt_succ_self _)).trans (World.cell?_alloc_at _ _ _ _ rfl)
        have f4 : wr.cell? ⟨w.heap.size, 4, none⟩ = some (.int .i64 cn) := (hbw.cell (p := ⟨w.heap.size, 4, none⟩) (Nat.lt_succ_self _)).trans (World.cell?_alloc_at _ _ _ _ rfl)
        have Hinv := Lib.hid hinv
        have Hlst := Lib.hid hlst
        have Hww := Lib.hid hww
        have Hbw := Lib.hid hbw
        clear hinv hlst hww hbw
        have hsz : w.heap.size < wr.heap.size := by have := Hbw.out.size; simp at this; omega
        by_cases hk : (k : Int) < cn
        · by_cases hel : e < xs.length
          · obtain ⟨b1, off1, hA1, _, _, g0, g1, g2, g3, g4⟩ := hcr.at_ hel
            simp only [Option.some.injEq, Addr.mk.injEq, and_true] at hA1
            obtain ⟨rfl, rfl⟩ := hA1
            clear hcr g0 g1 g2 g4 c0 c1 c2 c3 c4
            have hbr := Hbw.out
            rcases hp : parseV m (xs.drop e) with _ | ⟨v, r⟩
            · have IH1 : ∀ W : World, Cells W S (some ⟨b, off, none⟩) xs → Calls Try.prog 42 #[.slice (some ⟨b, off, none⟩) xs.length cap, .int .i64 e, .int .i64 (d + 1)] W fun e w' =>
                  e = .returned (.tuple #[.int .i64 (-1), .int .i64 0]) ∧ Below W.heap.size W w' := by
                intro W hW
                have := HIH.out e (d + 1) _ cap S W (by omega) (by omega) (by omega) (by omega) hW
                rw [Int.toNat_natCast, hp] at this
                exact this
              have HIH1 := Lib.hid IH1
              have Hp := Lib.hid hp
              have HR := Lib.hid (HC.out.below Hww.out)
              clear IH1 hp hbr
              go_wp2_with (go_at_call 42; refine (HIH1.out _ HR.out).mono ?_; rintro e w1 ⟨rfl, hb1⟩)
              all_goals go_ret2
              all_goals (refine ⟨?_, by first | exact Hww.out | exact Hww.out.trans (hb1.mono (Nat.le_of_lt hsz))⟩)
              all_goals rw [HD.out, parseV_fail (by rw [drop_cons hel] at Hinv Hp; exact Hinv.out.kid (by omega) Hp.out)]
              all_goals rfl
            · have IH1 : ∀ W : World, Cells W S (some ⟨b, off, none⟩) xs → Calls Try.prog 42 #[.slice (some ⟨b, off, none⟩) xs.length cap, .int .i64 e, .int .i64 (d + 1)] W fun e w' =>
                  e = .returned (.tuple #[.int .i64 ((xs.length - r.length : Nat) : Int), .int .i64 (v.depth : Nat)]) ∧ Below W.heap.size W w' := by
                intro W hW
                have := HIH.out e (d + 1) _ cap S W (by omega) (by omega) (by omega) (by omega) hW
                rw [Int.toNat_natCast, hp] at this
                exact this
              have HIH1 := Lib.hid IH1
              have Hp := Lib.hid hp
              have HR := Lib.hid (HC.out.below Hww.out)
              clear IH1 hp hbr
              have hge2 : decide ((xs.length : Int) ≤ (e : Int)) = false := by simp; omega
              have hneg : decide (((xs.length - r.length : Nat) : Int) < 0) = false := by simp
              have hrl := (parseV_suffix _ _ _ _ Hp.out).2
              have hrd := parseV_depth _ _ _ _ Hp.out
              have Hrs := Lib.hid (parseV_suffix _ _ _ _ Hp.out).1
              simp only [List.length_drop] at hrl hrd
              generalize hkey : xs[e].key = key at *
              have Hdrop := Lib.hid (drop_cons hel)
              have Hkey := Lib.hid hkey
              clear hkey
              have NO : keyBad ck last key = true → endOf xs.length (parseV (m + 1) (xs.drop a)) = -1 ∧ deepOf (parseV (m + 1) (xs.drop a)) = 0 := by
                intro hbad
                rw [HD.out, parseV_fail (by rw [Hdrop.out] at Hinv; exact Hinv.out.bad (by omega) (by rw [Hkey.out]; exact hbad))]
                exact ⟨rfl, rfl⟩
              have YES : keyBad ck last key = false → ∀ dp : Nat, dp = depthL (Vs ++ [v]) → ∀ W : World, Below wr.heap.size wr W → ∃ (k' e' : Nat) (K' : List ByteArray) (Vs' : List V) (lst' : ByteArray) (last' : Option ByteArray),
                  Value.int .i64 ((k : Int) + 1) = .int .i64 k' ∧ Value.int .i64 ((xs.length - r.length : Nat) : Int) = .int .i64 e' ∧ Value.int .i64 (dp : Int) = .int .i64 (depthL Vs' : Nat) ∧ Value.string key = .string lst' ∧ a < e' ∧ e' ≤ xs.length ∧ depthL Vs' ≤ 200 ∧
                  (ck = 6 → 0 < k' → K'.getLast? = some lst') ∧ KInv (parseV m) ck cn.toNat (xs.drop (a + 1)) k' K' Vs' last' (xs.drop e') ∧
                  Below (w.heap.size + 1) (w.alloc (.cells #[.int .i64 ck, .int .i64 cm, .string ct, .string cy, .int .i64 cn] 47)) W := by
                intro hok dp hdp W hW
                refine ⟨k + 1, xs.length - r.length, if ck = 6 then K ++ [key] else K, Vs ++ [v], key, some key, by go_num, rfl, by rw [hdp], rfl, by omega, by omega, by rw [depthL_append]; omega, fun h _ => by simp [h], ?_,
                  Hbw.out.trans (hW.mono hsz)⟩
                have hs := Hinv.out
                rw [Hdrop.out] at hs
                have hp2 := Hp.out
                rw [Hdrop.out] at hp2
                have := hs.step (by omega) (by rw [Hkey.out]; exact hok) hp2
                rw [Hkey.out] at this
                rw [← suffix_drop (Hrs.out.trans (List.drop_suffix _ _))]
                exact this
              have HNO := Lib.hid NO
              have HYES := Lib.hid YES
              clear NO YES
              cases h5 : (ck == 5)
              · cases h6 : (ck == 6)
                · have hb : keyBad ck last key = false := by simp [keyBad, h5, h6]
                  have Hb := Lib.hid hb
                  clear hb
                  go_wp2_with (go_at_call 42; refine (HIH1.out _ HR.out).mono ?_; rintro e w1 ⟨rfl, hb1⟩)
                  · go_roundw
                    case rel => exact HYES.out Hb.out _ (by rw [depthL_append]; omega) _ hb1
                    case measure => simp [intOf]; omega
                  · go_roundw
                    case rel => exact HYES.out Hb.out _ (by rw [depthL_append]; omega) _ hb1
                    case measure => simp [intOf]; omega
                · rcases Nat.eq_zero_or_pos k with hk0 | hk0
                  · have hb : keyBad ck last key = false := Hinv.out.keyOk Hlst.out (fun h => by simp [h] at h5) (fun _ h => absurd h (by omega))
                    have Hb := Lib.hid hb
                    have hk1 : decide (0 < k) = false := by simp; omega
                    have Hk0 := Lib.hid hk0
                    clear hb hk0
                    go_wp2_with (go_at_call 42; refine (HIH1.out _ HR.out).mono ?_; rintro e w1 ⟨rfl, hb1⟩)
                    · go_roundw
                      case rel => exact HYES.out Hb.out _ (by rw [depthL_append]; omega) _ hb1
                      case measure => simp [intOf]; omega
                    · go_roundw
                      case rel => exact HYES.out Hb.out _ (by rw [depthL_append]; omega) _ hb1
                      case measure => simp [intOf]; omega
                  · have hk1 : decide (0 < k) = true := by simp; omega
                    cases h7 : Op.bytesLess key.toList lst.toList
                    · cases h8 : (key.toList == lst.toList)
                      · have hb : keyBad ck last key = false := Hinv.out.keyOk Hlst.out (fun h => by simp [h] at h5) (fun _ _ => ⟨h7, h8⟩)
                        have Hb := Lib.hid hb
                        clear hb
                        go_wp2_with (go_at_call 42; refine (HIH1.out _ HR.out).mono ?_; rintro e w1 ⟨rfl, hb1⟩)
                        · go_roundw
                          case rel => exact HYES.out Hb.out _ (by rw [depthL_append]; omega) _ hb1
                          case measure => simp [intOf]; omega
                        · go_roundw
                          case rel => exact HYES.out Hb.out _ (by rw [depthL_append]; omega) _ hb1
                          case measure => simp [intOf]; omega
                      · have hb : keyBad ck last key = true := Hinv.out.keyNo Hlst.out (.inr ⟨by simpa using h6, hk0, .inr h8⟩)
                        have Hb := Lib.hid (HNO.out hb)
                        clear hb
                        go_wp2_with (go_at_call 42; refine (HIH1.out _ HR.out).mono ?_; rintro e w1 ⟨rfl, hb1⟩)
                        go_ret2
                        exact ⟨by rw [Hb.out.1, Hb.out.2]; rfl, Hww.out⟩
                    · have hb : keyBad ck last key = true := Hinv.out.keyNo Hlst.out (.inr ⟨by simpa using h6, hk0, .inl h7⟩)
                      have Hb := Lib.hid (HNO.out hb)
                      clear hb
                      go_wp2_with (go_at_call 42; refine (HIH1.out _ HR.out).mono ?_; rintro e w1 ⟨rfl, hb1⟩)
                      go_ret2
                      exact ⟨by rw [Hb.out.1, Hb.out.2]; rfl, Hww.out⟩
              · have h6 : (ck == 6) = false := by simp at h5 ⊢; omega
                cases h9 : key.toList.isEmpty
                · have hb : keyBad ck last key = true := by simp [keyBad, h5, h9]
                  have Hb := Lib.hid (HNO.out hb)
                  clear hb
                  go_wp2_with (go_at_call 42; refine (HIH1.out _ HR.out).mono ?_; rintro e w1 ⟨rfl, hb1⟩)
                  go_ret2
                  exact ⟨by rw [Hb.out.1, Hb.out.2]; rfl, Hww.out⟩
                · have hb : keyBad ck last key = false := by simp [keyBad, h6, h9]
                  have Hb := Lib.hid hb
                  have h10 : key.toList = [] := by simpa using h9
                  clear hb
                  go_wp2_with (go_at_call 42; refine (HIH1.out _ HR.out).mono ?_; rintro e w1 ⟨rfl, hb1⟩)
                  · go_roundw
                    case rel => exact HYES.out Hb.out _ (by rw [depthL_append]; omega) _ hb1
                    case measure => simp [intOf]; omega
                  · go_roundw
                    case rel => exact HYES.out Hb.out _ (by rw [depthL_append]; omega) _ hb1
                    case measure => simp [intOf]; omega
          · have hge2 : decide ((xs.length : Int) ≤ (e : Int)) = true := by simp; omega
            have hnone : parseV (m + 1) (xs.drop a) = none := by
              rw [HD.out, parseV_fail (by rw [List.drop_eq_nil_of_le (show xs.length ≤ e by omega)] at Hinv; exact Hinv.out.empty (by omega))]
            go_wp2_with fail
            go_ret2
            exact ⟨by rw [hnone]; rfl, Hww.out⟩
        · have hlt3 : decide ((k : Int) < cn) = false := by simp; omega
          have hkN : k = cn.toNat := by have := Hinv.out.1; omega
          go_wp2_with fail
          go_ret2
          refine ⟨?_, Hww.out⟩
          subst hkN
          rw [HD.out, parseV_good Hinv.out.done, endOf_some, deepOf_some, List.length_drop, show xs.length - (xs.length - e) = e from by omega]
          simp [V.depth]
end Go.Proofs.Ytfmkejgdooammaa
