/- The laws' own functions on cells: szCellS, eqCellS. -/
import Derived.Test.YtfmkejgdooammaaL01
import Derived.Deep.RegionHeld3
import Derived.Deep.RegionWith
namespace Go.Proofs.Ytfmkejgdooammaa
open Go.RowKit

def bulk : List CellD → Nat
  | [] => 0
  | c :: l => c.text.size + c.key.size + bulk l
theorem bulk_snoc (a : List CellD) (c : CellD) : bulk (a ++ [c]) = bulk a + (c.text.size + c.key.size) := by
  induction a with
  | nil => simp [bulk]
  | cons x a ih => simp [bulk, ih]; omega
def Sized63 (xs : List CellD) : Prop := ∀ c ∈ xs, c.text.size ≤ 9223372036854775807 ∧ c.key.size ≤ 9223372036854775807

set_option maxRecDepth 100000 in
set_option maxHeartbeats 2000000 in
theorem szCellS_any (xs : List CellD) (hz : Sized63 xs) (hl : xs.length ≤ 9223372036854775807) (A : Option Addr) (cap : Nat) (S : Nat → Prop) (w : World) (hcs : Cells w S A xs) (left : Int) (h0 : 0 ≤ left) (h1 : left ≤ 1048576) :
    Calls Try.prog 6 #[.slice A xs.length cap, .int .i64 left] w fun e w' => (∃ r : Int, e = .returned (.int .i64 r) ∧ r ≤ left ∧ (0 ≤ r → (xs.length : Int) + bulk xs + r = left)) ∧ Below w.heap.size w w' := by
  have HC := Lib.hid hcs
  have HZ := Lib.hid hz
  clear hcs hz
  go_enter Try.func6, Try.ntmps6
  by_cases hneg : left - (xs.length : Int) < 0
  · go_wp2
    go_ret
    exact ⟨⟨_, rfl, by omega, by omega⟩, Below.refl _ _⟩
  · have hneg' : decide (left - (xs.length : Int) < 0) = false := by simp; omega
    have hle : (xs.length : Int) ≤ left := by omega
    clear hneg
    go_wp2
    go_loopw [1, 5] (fun lv ki wr => ∃ (k : Nat) (r : Int), ki = .int .i64 k ∧ k ≤ xs.length ∧ lv = .int .i64 r ∧ 0 ≤ r ∧ r ≤ left ∧ (xs.length : Int) + bulk (xs.take k) + r = left ∧ Below w.heap.size w wr) (fun _ ki _ => xs.length - (intOf ki).toNat)
    case atStart => exact ⟨0, _, rfl, Nat.zero_le _, rfl, by omega, by omega, by simp [bulk]; omega, Below.refl _ _⟩
    case round =>
      obtain ⟨k, r, rfl, hk, rfl, hr0, hr1, hsum, hb⟩ := hrel
      have Hb := Lib.hid hb
      have Hsum := Lib.hid hsum
      clear hb hsum
      by_cases hlt : k < xs.length
      · obtain ⟨b, off, rfl, _, hbl, c0, c1, c2, c3, c4⟩ := (HC.out.below Hb.out).at_ hlt
        have hs := HZ.out _ (List.getElem_mem hlt)
        have HS := Lib.hid (szCell_any xs[k].kind xs[k].num xs[k].text xs[k].key xs[k].n r hr0 (by omega) hs.1 hs.2)
        have Hsn := Lib.hid (bulk_snoc (xs.take k) xs[k])
        have Hts := Lib.hid (take_snoc hlt)
        clear hs
        go_wp2_with (go_at_call 22; refine (HS.out _).mono ?_; rintro e w1 ⟨⟨r1, rfl, hr2, hr3⟩, hb1⟩; have Hr3 := Lib.hid hr3; have Hb1 := Lib.hid hb1; clear hr3 hb1)
        · go_ret
          exact ⟨⟨_, rfl, by omega, by omega⟩, Hb.out.trans (Hb1.out.mono Hb.out.size)⟩
        · go_roundw
          case rel =>
            have h2 := Hr3.out (by omega)
            have h3 := Hsum.out
            exact ⟨k + 1, r1, by go_num, by omega, rfl, by omega, by omega, by rw [Hts.out, Hsn.out]; omega, Hb.out.trans (Hb1.out.mono Hb.out.size)⟩
          case measure => simp [intOf]; omega
      · go_wp2
        go_ret
        have h3 := Hsum.out
        rw [List.take_of_length_le (by omega)] at h3
        exact ⟨⟨_, rfl, by omega, by omega⟩, Hb.out⟩

set_option maxRecDepth 100000 in
set_option maxHeartbeats 2000000 in
theorem eqCellS_same (xs : List CellD) (hl : xs.length ≤ 9223372036854775807) (A B : Option Addr) (ca cb : Nat) (S T : Nat → Prop) (w : World) (ha : Cells w S A xs) (hb : Cells w T B xs) :
    Calls Try.prog 10 #[.slice A xs.length ca, .slice B xs.length cb] w fun e w' => e = .returned (.bool true) ∧ Below w.heap.size w w' := by
  have HA := Lib.hid ha
  have HB := Lib.hid hb
  clear ha hb
  go_enter Try.func10, Try.ntmps10
  go_wp2
  go_loopw [5] (fun ki wr => ∃ (k : Nat), ki = .int .i64 k ∧ k ≤ xs.length ∧ Below w.heap.size w wr) (fun ki _ => xs.length - (intOf ki).toNat)
  case atStart => exact ⟨0, rfl, Nat.zero_le _, Below.refl _ _⟩
  case round =>
    obtain ⟨k, rfl, hk, hbw⟩ := hrel
    have Hb := Lib.hid hbw
    clear hbw
    by_cases hlt : k < xs.length
    · obtain ⟨b, off, rfl, _, hbl, c0, c1, c2, c3, c4⟩ := (HA.out.below Hb.out).at_ hlt
      obtain ⟨b', off', rfl, _, hbl', d0, d1, d2, d3, d4⟩ := (HB.out.below Hb.out).at_ hlt
      have HE := Lib.hid (eqCell_same xs[k].kind xs[k].num xs[k].text xs[k].key xs[k].n)
      have hi0 : (0 : Int) ≤ (k : Int) := by omega
      have hi1 : (k : Int) < (xs.length : Int) := by omega
      go_wp2
      go_region_with (go_at_call 27; refine (HE.out _).mono ?_; rintro e w1 ⟨rfl, hb1⟩)
      all_goals
        go_wp2
        go_roundw
        case rel => exact ⟨k + 1, by go_num, by omega, (Hb.out.drew).trans (hb1.mono (by simpa using Hb.out.size))⟩
        case measure => simp [intOf]; omega
    · go_wp2
      go_ret
      exact ⟨rfl, Hb.out⟩
end Go.Proofs.Ytfmkejgdooammaa
