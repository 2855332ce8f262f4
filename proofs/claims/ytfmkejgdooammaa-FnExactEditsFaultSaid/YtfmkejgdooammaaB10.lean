/- spec.l1Parts; spec.l13Path, spec.PathFault. -/
import Derived.Test.YtfmkejgdooammaaB09
import Derived.Test.YtfmkejgdooammaaB08
namespace Go.Proofs.Ytfmkejgdooammaa
open Go.RowKit

set_option maxRecDepth 100000 in
set_option maxHeartbeats 2000000 in
theorem l1Parts_any (t : V) (hw : t.wf) (hc : t.count ≤ 200) (A : Option Addr) (cap : Nat) (hcap : t.enc.length ≤ cap) (S : Nat → Prop) (w : World) (hcs : Cells w S A t.enc) :
    Calls Try.prog 43 #[.slice A t.enc.length cap] w fun e w' => (∃ A' c', e = .returned (.slice A' t.kids.length c') ∧ t.kids.length ≤ c' ∧ CellsL w' (fun b => w.heap.size ≤ b) A' (t.kids.map V.enc)) ∧ Below w.heap.size w w' := by
  have hkl := kids_len_le hc
  have HC := Lib.hid hcs
  have HCh : Hid (∀ W : World, Cells W S A t.enc → Calls Try.prog 62 #[.slice A t.enc.length cap, .int .i64 0] W fun e w' => (∃ A' c', e = .returned (.slice A' t.kids.length c') ∧ RowOf RI 1 w' (fun b => W.heap.size ≤ b) A' (kposL t t.kids.length)) ∧ Below W.heap.size W w') := fun W hW => l1Children_any t hw hc A cap S W hW
  have HP : Hid (∀ (i : Nat) (hi : i < t.kids.length) (W : World), Cells W S A t.enc → Calls Try.prog 63 #[.slice A t.enc.length cap, .int .i64 ((kp t.kids i : Nat) : Int)] W fun e w' => (∃ A' c', e = .returned (.slice A' t.kids[i].enc.length c') ∧ t.kids[i].enc.length ≤ c' ∧ Cells w' (fun b => W.heap.size ≤ b) A' t.kids[i].enc) ∧ Below W.heap.size W w') :=
    fun i hi W hW => l1Part_any t hw hc i hi A cap hcap S W hW
  clear hcs hw
  go_enter Try.func43, Try.ntmps43
  go_wp2_with (go_at_call 62; refine (HCh.out _ (HC.out.keep (Same.alloc _ _ _))).mono ?_; rintro e w1 ⟨⟨A', c', rfl, hrow⟩, hb1⟩; have Hb1 := Lib.hid hb1; have Hrow := Lib.hid hrow; clear hb1 hrow)
  go_loopw [3, 5] (fun ov ki wr => ∃ k : Nat, ki = .int .i64 k ∧ k ≤ t.kids.length ∧ OwnOf RSl 1 25 wr (fun b => w.heap.size ≤ b) w.heap.size ov ((t.kids.take k).map V.enc) ∧ Below w.heap.size w wr ∧ RowOf RI 1 wr (fun b => ov.ownBlock ≠ some b) A' (kposL t t.kids.length)) (fun _ ki _ => t.kids.length - (intOf ki).toNat)
  case atStart =>
    refine ⟨0, rfl, Nat.zero_le _, OwnOf.below okSl (OwnOf.made _ rfl (Nat.le_refl _)) Hb1.out, ((Below.refl _ _).alloc (Nat.le_refl _) _).trans (Hb1.out.mono (by simp)), RowOf.weaken okI Hrow.out fun b hb _ => by simp at hb; simp [Value.ownBlock]; omega⟩
  case round =>
    obtain ⟨k, rfl, hk, hown, hb, hpr⟩ := hrel
    have Hb := Lib.hid hb
    have HO := Lib.hid hown
    have Hpr := Lib.hid hpr
    have hsz := hb.size
    have hlk : ((t.kids.take k).map V.enc).length = k := by simp; omega
    obtain ⟨Ao, co, rfl, hco⟩ := hown.form' hlk
    have Hlk := Lib.hid hlk
    clear hlk
    by_cases hlt : k < t.kids.length
    · obtain ⟨b, off, rfl, _, hbl, c0⟩ := hpr.int_at (i := k) (by rw [kposL_len]; exact hlt)
      have hgk : (kposL t t.kids.length)[k]'(by rw [kposL_len]; exact hlt) = ((kp t.kids k : Nat) : Int) := by simp [kposL]
      rw [hgk] at c0
      have HP1 := Lib.hid (HP.out k hlt)
      have HR := Lib.hid (HC.out.below Hb.out)
      have Hnew : Hid (∀ b : Nat, wr.heap.size ≤ b → w.heap.size ≤ b ∧ (Value.slice Ao k co).ownBlock ≠ some b) := fun b hb => ⟨by omega, fun e => by have := (hown.lt b e).2; omega⟩
      clear hgk hb hown hpr
      go_wp2_with (first
        | (go_at_call 63; refine (HP1.out _ HR.out).mono ?_; rintro e w2 ⟨⟨Ap, cp, rfl, hcp, hcells⟩, hb2⟩; have Hb2 := Lib.hid hb2; have Hy : Hid (RSl w2 (fun b => w.heap.size ≤ b ∧ (Value.slice Ao k co).ownBlock ≠ some b) t.kids[k].enc [.slice Ap t.kids[k].enc.length cp]) := ⟨Ap, cp, rfl, hcp, hcells.weaken fun b hb _ => Hnew.out b hb⟩; clear hb2 hcells)
        | (at_builtin; (refine wpList_append_of rfl _ _ 36 rfl Try.underlying36 info_cells rfl (by decide) (by decide) okSl (OwnOf.below okSl HO.out Hb2.out) rfl (Nat.le_trans hsz Hb2.out.size) t.kids[k].enc _ rfl rfl Hy.out Hlk.out (by omega) ?_); intro v' w3 hown3 hg3 hex3; obtain ⟨g3, cap3, rfl, _, _, _⟩ := hex3; have Hb3 := Lib.hid (hg3.below (Hb.out.trans (Hb2.out.mono hsz)) (Nat.le_trans hsz Hb2.out.size) (fun b hb => (HO.out.lt b hb).1)); have Hp3 := Lib.hid (hg3.row okI (RowOf.below okI Hpr.out Hb2.out)); have Hg3 := Lib.hid hg3; have HO3 := Lib.hid hown3; clear hown3 hg3))
      all_goals go_roundw
      case rel => exact ⟨k + 1, by go_num, by omega, by rw [take_snoc hlt, List.map_append]; exact HO3.out, Hb3.out, Hp3.out⟩
      case measure => simp [intOf]; omega
    · have hke : k = t.kids.length := by omega
      have Hke := Lib.hid hke
      clear hke hown hb hpr
      go_wp2
      go_ret
      refine ⟨⟨Ao, co, by rw [← Hke.out]; rfl, by omega, ?_⟩, Hb.out⟩
      have := OwnOf.row' okSl (by omega) HO.out Hlk.out (T := fun b => w.heap.size ≤ b) (fun b h _ => h) (fun b h _ => h)
      rw [Hke.out, List.take_length] at this
      exact this

set_option maxRecDepth 100000 in
set_option maxHeartbeats 2000000 in
theorem l13Path_any (t : V) (hw : t.wf) (hc : t.count ≤ 200) (A : Option Addr) (cap : Nat) (hcap : t.enc.length ≤ cap) (S : Nat → Prop) (w : World) (hcs : Cells w S A t.enc) :
    Calls Try.prog 24 #[.slice A t.enc.length cap] w fun e w' => e = .returned (.bool (!(t.kind != 5 || t.kids.any badKid))) ∧ Below w.heap.size w w' := by
  have hpos := count_pos t
  have hlen := enc_len t
  have hkl := kids_len_le hc
  have HC := Lib.hid hcs
  have HP := Lib.hid (l1Parts_any t hw hc A cap hcap S w hcs)
  have hl0 : 0 < t.enc.length := by omega
  obtain ⟨b, off, rfl, hS, hl, c0, -⟩ := hcs.at_ hl0
  rw [enc_zero t hl0] at c0
  simp only [Nat.zero_mul, Nat.add_zero] at c0
  clear hcs hlen
  go_enter Try.func24, Try.ntmps24
  cases hk : (t.kind != 5)
  · go_wp2_with (go_at_call 43; refine HP.out.mono ?_; rintro e w1 ⟨⟨A', c', rfl, hc', hrow⟩, hb1⟩; have Hb1 := Lib.hid hb1; have Hrow := Lib.hid hrow; clear hb1 hrow)
    go_loopw [4] (fun ki wr => ∃ k : Nat, ki = .int .i64 k ∧ k ≤ t.kids.length ∧ (∀ i (hi : i < t.kids.length), i < k → badKid t.kids[i] = false) ∧ wr = w1) (fun ki _ => t.kids.length - (intOf ki).toNat)
    case atStart => exact ⟨0, rfl, Nat.zero_le _, fun _ _ h => absurd h (by omega), rfl⟩
    case round =>
      obtain ⟨k, rfl, hkk, hall, rfl⟩ := hrel
      have Hall := Lib.hid hall
      clear hall
      by_cases hlt : k < t.kids.length
      · obtain ⟨b1, off1, Ai, ci, rfl, _, hbl, g0, hci, gcells⟩ := Hrow.out.at_ (i := k) (by simpa using hlt)
        simp only [List.getElem_map] at g0 hci gcells
        have hkpos : 0 < t.kids[k].enc.length := by rw [enc_len]; exact count_pos _
        obtain ⟨b2, off2, rfl, _, hbl2, d0, -⟩ := gcells.at_ hkpos
        rw [enc_zero _ hkpos] at d0
        simp only [Nat.zero_mul, Nat.add_zero] at d0
        clear gcells
        generalize t.kids[k].enc.length = nk at *
        cases h4 : (t.kids[k].kind != 4)
        · have hbad : badKid t.kids[k] = false := by simp [badKid, h4]
          have Hbad := Lib.hid hbad
          clear hbad
          go_wp2
          all_goals go_roundw
          case rel =>
            refine ⟨k + 1, by go_num, by omega, fun i hi hik => ?_, by trivial⟩
            by_cases he : i = k
            · subst he; exact Hbad.out
            · exact Hall.out i hi (by omega)
          case measure => simp [intOf]; omega
        · cases h3 : (t.kids[k].kind != 3)
          · have hbad : badKid t.kids[k] = false := by simp [badKid, h3]
            have Hbad := Lib.hid hbad
            clear hbad
            go_wp2
            all_goals go_roundw
            case rel =>
              refine ⟨k + 1, by go_num, by omega, fun i hi hik => ?_, by trivial⟩
              by_cases he : i = k
              · subst he; exact Hbad.out
              · exact Hall.out i hi (by omega)
            case measure => simp [intOf]; omega
          · have hany : t.kids.any badKid = true := List.any_eq_true.2 ⟨t.kids[k], List.getElem_mem hlt, by simp [badKid, h4, h3]⟩
            have Hany := Lib.hid hany
            clear hany
            go_wp2
            go_ret
            exact ⟨by rw [Hany.out]; simp, Hb1.out⟩
      · have hany : t.kids.any badKid = false := by
          rw [List.any_eq_false]
          intro x hx
          obtain ⟨i, hi, rfl⟩ := List.getElem_of_mem hx
          simp [Hall.out i hi (by omega)]
        have Hany := Lib.hid hany
        clear hany
        go_wp2
        go_ret
        exact ⟨by rw [Hany.out]; simp, Hb1.out⟩
  · go_wp2
    go_ret
    exact ⟨by simp, Below.refl _ _⟩

set_option maxHeartbeats 2000000 in
theorem specPathFault_any (xs : List CellD) (A : Option Addr) (cap : Nat) (hcap : xs.length ≤ cap) (S : Nat → Prop) (w : World) (hcs : Cells w S A xs) :
    Calls Try.prog 7 #[.slice A xs.length cap] w fun e w' => e = .returned (.int .i64 (pathDec xs).1) ∧ Below w.heap.size w w' := by
  have HF := Lib.hid (specFault_any xs A cap S w hcs)
  rcases dec_cases xs with ⟨t, ht⟩ | ⟨c, hc0, hd⟩
  · obtain ⟨rfl, hw, hc, hdp⟩ := dec_ok ht
    have hp := Lib.hid (pathDec_enc hw hc hdp)
    have HL : Hid (∀ W : World, Cells W S A t.enc → Calls Try.prog 24 #[.slice A t.enc.length cap] W fun e w' => e = .returned (.bool (!(t.kind != 5 || t.kids.any badKid))) ∧ Below W.heap.size W w') := fun W hW => l13Path_any t hw hc A cap hcap S W hW
    have HC := Lib.hid hcs
    rw [ht] at HF
    clear hcs ht hw hc hdp
    generalize hb : (t.kind != 5 || t.kids.any badKid) = bb at *
    go_enter Try.func7, Try.ntmps7
    cases bb
    all_goals go_wp2_with (first
      | (go_at_call 23; refine HF.out.mono ?_; rintro e w1 ⟨rfl, hb1⟩; have HR := Lib.hid (HC.out.below hb1); have Hb1 := Lib.hid hb1; clear hb1)
      | (go_at_call 24; refine (HL.out _ HR.out).mono ?_; rintro e w2 ⟨rfl, hb2⟩))
    all_goals go_ret
    all_goals exact ⟨by rw [hp.out]; rfl, Hb1.out.trans (hb2.mono Hb1.out.size)⟩
  · have hp : Hid ((pathDec xs).1 = c) := by
      show _ = _
      unfold pathDec; rw [hd]
    rw [hd] at HF
    have hc1 : (c != 0) = true := by simpa using hc0
    clear hd hcs hc0
    go_enter Try.func7, Try.ntmps7
    go_wp2_with (go_at_call 23; refine HF.out.mono ?_; rintro e w1 ⟨rfl, hb1⟩)
    go_ret
    exact ⟨by rw [hp.out]; rfl, hb1⟩
end Go.Proofs.Ytfmkejgdooammaa
