/- laws.FnExactEditsFault: the walk of the law itself. -/
import Derived.Test.YtfmkejgdooammaaB20
import Derived.Test.YtfmkejgdooammaaL10
namespace Go.Proofs.Ytfmkejgdooammaa
open Go.RowKit

set_option maxRecDepth 100000 in
set_option maxHeartbeats 2000000 in
theorem lawEditsFault_any (xs : List EditD) (hz : ∀ d ∈ xs, EditOk d) (hl : xs.length ≤ 9223372036854775807) (A : Option Addr) (cap : Nat) (w : World) (hcs : Edits w (fun b => b < w.heap.size) A xs) :
    Calls Try.prog 4 #[.slice A xs.length cap] w fun e w' => e = .returned (.bool true) ∧ Below w.heap.size w w' := by
  have HC := Lib.hid hcs
  have HZ := Lib.hid hz
  have HSZ := Lib.hid (szEditS_any xs hz hl A cap _ w hcs 1048576 (by omega) (by omega))
  clear hcs hz
  go_enter Try.func4, Try.ntmps4
  go_wp2_with fail
  refine HSZ.out.mono ?_
  rintro e w1 ⟨⟨r, rfl, hr1, hr2⟩, hb1⟩
  have Hr2 := Lib.hid hr2
  have Hb1 := Lib.hid hb1
  clear hr2 hb1
  by_cases hneg : r < 0
  · go_wp2
    go_ret
    exact ⟨rfl, Hb1.out⟩
  · have hneg' : decide (r < 0) = false := by simp; omega
    have hlen : xs.length ≤ 1048576 := by have := Hr2.out (by omega); omega
    have hlp : ∀ d ∈ xs, d.path.length ≤ 1048576 := fun d hd => by
      have h1 := Hr2.out (by omega)
      have h2 := bulkEdit_mem hd
      unfold bulkEdit at h2
      omega
    have hlx : ∀ d ∈ xs, d.x.length ≤ 1048576 := fun d hd => by
      have h1 := Hr2.out (by omega)
      have h2 := bulkEdit_mem hd
      unfold bulkEdit at h2
      omega
    have HLP := Lib.hid hlp
    have HLX := Lib.hid hlx
    clear hneg hlp hlx
    go_wp2_with fail
    refine (toEditS_any xs hlen HLP.out HLX.out A cap _ _ (HC.out.below Hb1.out)).mono ?_
    rintro e w2 ⟨⟨g2, rfl, ho2⟩, hb2⟩
    have B2 := Lib.hid (Hb1.out.trans (hb2.mono Hb1.out.size))
    have C2 : Hid (Edits w2 (fun b => w1.heap.size ≤ b) _ xs) := OwnOf.row' okE (by omega) ho2 rfl (T := fun b => w1.heap.size ≤ b) (fun b h _ => h) (fun b h _ => h)
    clear ho2 hb2
    go_wp2_with fail
    refine (specEditsFault_any xs HZ.out _ _ _ _ C2.out).mono ?_
    rintro e w3 ⟨rfl, hb3⟩
    have B3 := Lib.hid (B2.out.trans (hb3.mono B2.out.size))
    clear hb3
    go_wp2_with fail
    refine (toEditS_any xs hlen HLP.out HLX.out A cap _ _ (HC.out.below B3.out)).mono ?_
    rintro e w4 ⟨⟨g4, rfl, ho4⟩, hb4⟩
    have B4 := Lib.hid (B3.out.trans (hb4.mono B3.out.size))
    have C4 : Hid (Edits w4 (fun b => w3.heap.size ≤ b) _ xs) := OwnOf.row' okE (by omega) ho4 rfl (T := fun b => w3.heap.size ≤ b) (fun b h _ => h) (fun b h _ => h)
    clear ho4 hb4
    go_wp2_with fail
    refine (implEditsFault_any xs HZ.out _ _ _ _ C4.out).mono ?_
    rintro e w5 ⟨rfl, hb5⟩
    have B5 := Lib.hid (B4.out.trans (hb5.mono B4.out.size))
    have C5 := Lib.hid (C4.out.below hb5)
    clear hb5
    generalize editsCode xs = pc at *
    go_wp2_with fail
    refine (toEditS_any xs hlen HLP.out HLX.out A cap _ _ (HC.out.below B5.out)).mono ?_
    rintro e w6 ⟨⟨g6, rfl, ho6⟩, hb6⟩
    have B6 := Lib.hid (B5.out.trans (hb6.mono B5.out.size))
    have C6 : Hid (Edits w6 (fun b => w5.heap.size ≤ b) _ xs) := OwnOf.row' okE (by omega) ho6 rfl (T := fun b => w5.heap.size ≤ b) (fun b h _ => h) (fun b h _ => h)
    have D6 := Lib.hid (C5.out.below hb6)
    clear ho6 hb6
    go_wp2_with fail
    refine (eqEditS_same xs (by omega) (fun d hd => by have := HLP.out d hd; omega) (fun d hd => by have := HLX.out d hd; omega) _ _ _ _ _ _ _ D6.out C6.out).mono ?_
    rintro e w7 ⟨rfl, hb7⟩
    go_wp2
    go_ret
    exact ⟨rfl, B6.out.trans (hb7.mono B6.out.size)⟩
end Go.Proofs.Ytfmkejgdooammaa
