/- The laws' own functions on Edit: printed by gen_laws.py. -/
import Derived.Test.YtfmkejgdooammaaA07
import Derived.Test.YtfmkejgdooammaaL03
import Derived.Test.YtfmkejgdooammaaA08
import Derived.Deep.RegionHeld3
import Derived.Deep.RegionWith
namespace Go.Proofs.Ytfmkejgdooammaa
open Go.RowKit

theorem info_Edit : (Try.prog.info? 58).map (fun i => (i.zero, i.size, i.bytes)) = some (some (.agg #[.int .i64 0, .slice none 0 0, .slice none 0 0]), 3, 56) := by kernel_rfl
def bulkEdit (d : EditD) : Nat := d.path.length + d.x.length
def bulkEditS : List EditD → Nat
  | [] => 0
  | d :: l => bulkEdit d + bulkEditS l
theorem bulkEdit_snoc (a : List EditD) (c : EditD) : bulkEditS (a ++ [c]) = bulkEditS a + bulkEdit c := by
  induction a with
  | nil => simp [bulkEditS]
  | cons x a ih => simp [bulkEditS, ih]; omega
theorem bulkEdit_mem : ∀ {l : List EditD} {d : EditD}, d ∈ l → bulkEdit d ≤ bulkEditS l
  | [], d, h => by simp at h
  | x :: l, d, h => by
    simp only [List.mem_cons] at h
    simp only [bulkEditS]
    rcases h with rfl | h
    · omega
    · have := bulkEdit_mem h; omega

set_option maxRecDepth 100000 in
set_option maxHeartbeats 2000000 in
theorem szEdit_any (d : EditD) (hz : EditOk d) (Apath : Option Addr) (cpath : Nat) (Ax : Option Addr) (cx : Nat) (S : Nat → Prop) (w : World) (hpath : Cells w S Apath d.path) (hx : Cells w S Ax d.x) (left : Int) (h0 : 0 ≤ left) (h1 : left ≤ 1048576) :
    Calls Try.prog 28 #[.agg #[.int .i64 d.op, .slice Apath d.path.length cpath, .slice Ax d.x.length cx], .int .i64 left] w fun e w' => (∃ r : Int, e = .returned (.int .i64 r) ∧ r ≤ left ∧ (0 ≤ r → (bulkEdit d : Int) + r ≤ left)) ∧ Below w.heap.size w w' := by
  have HB0 : Hid (∀ X : Obj, Below w.heap.size w (w.alloc X)) := fun X => (Below.refl _ _).alloc (Nat.le_refl _) _
  have Hpath := Lib.hid (Cells.keep hpath (Same.alloc _ _ (.cells #[.int .i64 d.op, .slice Apath d.path.length cpath, .slice Ax d.x.length cx] 55)))
  have Hx := Lib.hid (Cells.keep hx (Same.alloc _ _ (.cells #[.int .i64 d.op, .slice Apath d.path.length cpath, .slice Ax d.x.length cx] 55)))
  have Hz := Lib.hid hz
  clear hz hpath hx
  go_enter Try.func28, Try.ntmps28
  go_wp2_with fail
  refine (szCellS_any d.path Hz.out.1 Hz.out.2.2.1 _ _ _ _ Hpath.out left (by omega) (by omega)).mono ?_
  rintro e w1 ⟨⟨r1, rfl, hr1, hs1⟩, hb1⟩
  have Hs1 := Lib.hid hs1
  have hl1 := hb1.size
  have B1 := Lib.hid hb1
  obtain ⟨yy0, yy1, yy2, yyq⟩ := ((Blk.new w 55 #[.int .i64 d.op, .slice Apath d.path.length cpath, .slice Ax d.x.length cx]).below B1.out).three
  clear hs1 hb1 hl1
  by_cases hneg1 : r1 < 0
  · go_wp2
    go_ret
    exact ⟨⟨_, rfl, by omega, by omega⟩, (HB0.out _).trans (B1.out.mono (by simp))⟩
  have hn1 : decide (r1 < 0) = false := by simp; omega
  have hp1 : 0 ≤ r1 := by omega
  clear hneg1
  go_wp2_with fail
  refine (szCellS_any d.x Hz.out.2.1 Hz.out.2.2.2 _ _ _ _ (Hx.out.below (B1.out)) r1 (by omega) (by omega)).mono ?_
  rintro e w2 ⟨⟨r2, rfl, hr2, hs2⟩, hb2⟩
  have Hs2 := Lib.hid hs2
  have hl2 := hb2.size
  have B2 := Lib.hid (B1.out.trans (hb2.mono (B1.out.size)))
  obtain ⟨yy0, yy1, yy2, yyq⟩ := ((Blk.new w 55 #[.int .i64 d.op, .slice Apath d.path.length cpath, .slice Ax d.x.length cx]).below B2.out).three
  clear hs2 hb2 hl2
  by_cases hneg2 : r2 < 0
  · go_wp2
    go_ret
    exact ⟨⟨_, rfl, by omega, by omega⟩, (HB0.out _).trans (B2.out.mono (by simp))⟩
  have hn2 : decide (r2 < 0) = false := by simp; omega
  have hp2 : 0 ≤ r2 := by omega
  clear hneg2
  go_wp2
  go_ret
  refine ⟨⟨_, rfl, by omega, fun _ => ?_⟩, (HB0.out _).trans (B2.out.mono (by simp))⟩
  have q1 := Hs1.out hp1
  have q2 := Hs2.out hp2
  unfold bulkEdit
  omega

set_option maxRecDepth 100000 in
set_option maxHeartbeats 2000000 in
theorem szEditS_any (l : List EditD) (hz : ∀ d ∈ l, EditOk d) (hl : l.length ≤ 9223372036854775807) (A : Option Addr) (cap : Nat) (S : Nat → Prop) (w : World) (hcs : Edits w S A l) (left : Int) (h0 : 0 ≤ left) (h1 : left ≤ 1048576) :
    Calls Try.prog 11 #[.slice A l.length cap, .int .i64 left] w fun e w' => (∃ r : Int, e = .returned (.int .i64 r) ∧ r ≤ left ∧ (0 ≤ r → (l.length : Int) + bulkEditS l + r ≤ left)) ∧ Below w.heap.size w w' := by
  have HC := Lib.hid hcs
  have HZ := Lib.hid hz
  clear hcs hz
  go_enter Try.func11, Try.ntmps11
  by_cases hneg : left - (l.length : Int) < 0
  · go_wp2
    go_ret
    exact ⟨⟨_, rfl, by omega, by omega⟩, Below.refl _ _⟩
  · have hneg' : decide (left - (l.length : Int) < 0) = false := by simp; omega
    have hle : (l.length : Int) ≤ left := by omega
    clear hneg
    go_wp2
    go_loopw [1, 5] (fun lv ki wr => ∃ (k : Nat) (r : Int), ki = .int .i64 k ∧ k ≤ l.length ∧ lv = .int .i64 r ∧ 0 ≤ r ∧ r ≤ left ∧ (l.length : Int) + bulkEditS (l.take k) + r ≤ left ∧ Below w.heap.size w wr) (fun _ ki _ => l.length - (intOf ki).toNat)
    case atStart => exact ⟨0, _, rfl, Nat.zero_le _, rfl, by omega, by omega, by simp [bulkEditS]; omega, Below.refl _ _⟩
    case round =>
      obtain ⟨k, r, rfl, hk, rfl, hr0, hr1, hsum, hb⟩ := hrel
      have Hb := Lib.hid hb
      have Hsum := Lib.hid hsum
      clear hb hsum
      by_cases hlt : k < l.length
      · obtain ⟨b, off, Apath, cpath, Ax, cx, rfl, hbl, k0, k1, k2, lpath, lx, hpath, hx⟩ := (HC.out.below Hb.out).at_ hlt
        have Hpath := Lib.hid hpath
        have Hx := Lib.hid hx
        clear hpath hx
        have HS := Lib.hid (fun (W : World) (hpath : Cells W S Apath l[k].path) (hx : Cells W S Ax l[k].x) => szEdit_any l[k] (HZ.out _ (List.getElem_mem hlt)) Apath cpath Ax cx S W hpath hx r hr0 (by omega))
        have Hsn := Lib.hid (bulkEdit_snoc (l.take k) l[k])
        have Hts := Lib.hid (take_snoc hlt)
        go_wp2_with (go_at_call 28; refine (HS.out _ Hpath.out Hx.out).mono ?_; rintro e w1 ⟨⟨r1, rfl, hr2, hr3⟩, hb1⟩; have Hr3 := Lib.hid hr3; have Hb1 := Lib.hid hb1; clear hr3 hb1)
        · go_ret
          exact ⟨⟨_, rfl, by omega, by omega⟩, Hb.out.trans (Hb1.out.mono Hb.out.size)⟩
        · go_roundw
          case rel =>
            have h2 := Hr3.out (by omega)
            have h3 := Hsum.out
            exact ⟨k + 1, r1, by go_num, by omega, rfl, by omega, by omega, by rw [Hts.out, Hsn.out]; omega, Hb.out.trans (Hb1.out.mono Hb.out.size)⟩
          case measure => simp [intOf]; omega
      · go_wp2
        go_ret
        have h3 := Hsum.out
        rw [List.take_of_length_le (by omega)] at h3
        exact ⟨⟨_, rfl, by omega, by omega⟩, Hb.out⟩

set_option maxRecDepth 100000 in
set_option maxHeartbeats 2000000 in
theorem toEdit_any (d : EditD) (lpath : d.path.length ≤ 1048576) (lx : d.x.length ≤ 1048576) (Apath : Option Addr) (cpath : Nat) (Ax : Option Addr) (cx : Nat) (S : Nat → Prop) (w : World) (hpath : Cells w S Apath d.path) (hx : Cells w S Ax d.x) :
    Calls Try.prog 30 #[.agg #[.int .i64 d.op, .slice Apath d.path.length cpath, .slice Ax d.x.length cx]] w fun e w' => (∃ row, e = .returned (.agg row.toArray) ∧ RE w' (fun b => w.heap.size ≤ b) d row) ∧ Below w.heap.size w w' := by
  have HB0 : Hid (∀ X : Obj, Below w.heap.size w (w.alloc X)) := fun X => (Below.refl _ _).alloc (Nat.le_refl _) _
  have hp0 := Cells.weaken hpath (T := fun b => b < w.heap.size) fun _ _ h => h
  have hx0 := Cells.weaken hx (T := fun b => b < w.heap.size) fun _ _ h => h
  have Hp := Lib.hid (fun o o' o'' : Obj => Cells.keep (Cells.keep (Cells.keep hp0 (Same.alloc _ _ o)) (Same.alloc _ _ o')) (Same.alloc _ _ o''))
  have Hx := Lib.hid (fun o o' o'' : Obj => Cells.keep (Cells.keep (Cells.keep hx0 (Same.alloc _ _ o)) (Same.alloc _ _ o')) (Same.alloc _ _ o''))
  have HW := Lib.hid (fun o o' o'' : Obj => (((Below.refl w.heap.size w).alloc (Nat.le_refl _) o).alloc (by simp) o').alloc (by simp; omega) o'')
  have HS0 : Hid (∀ o o' o'' : Obj, (((w.alloc o).alloc o').alloc o'').heap.size = w.heap.size + 3) := fun o o' o'' => by simp
  have K0 := Lib.hid (((Blk.new w 55 #[.int .i64 d.op, .slice Apath d.path.length cpath, .slice Ax d.x.length cx]).alloc (.cells #[.int .i64 0, .slice none 0 0, .slice none 0 0] 58)).alloc (.cells #[.int .i64 d.op, .slice none 0 0, .slice none 0 0] 58))
  have K1 := Lib.hid ((Blk.new (w.alloc (.cells #[.int .i64 d.op, .slice Apath d.path.length cpath, .slice Ax d.x.length cx] 55)) 58 #[.int .i64 0, .slice none 0 0, .slice none 0 0]).alloc (.cells #[.int .i64 d.op, .slice none 0 0, .slice none 0 0] 58))
  have K2 := Lib.hid (Blk.new ((w.alloc (.cells #[.int .i64 d.op, .slice Apath d.path.length cpath, .slice Ax d.x.length cx] 55)).alloc (.cells #[.int .i64 0, .slice none 0 0, .slice none 0 0] 58)) 58 #[.int .i64 d.op, .slice none 0 0, .slice none 0 0])
  simp only [World.size_alloc] at K1 K2
  have K2 : Hid (Blk _ (w.heap.size + 2) _ _) := K2
  clear hpath hx hp0 hx0
  go_enter Try.func30, Try.ntmps30
  go_wp2_with fail
  refine (toCellS_any d.path lpath Apath cpath _ _ (Hp.out _ _ _)).mono ?_
  rintro e w1 ⟨⟨g1, rfl, ho1⟩, hb1⟩
  obtain ⟨a0, a1, a2, aq⟩ := (K0.out.below hb1).three
  obtain ⟨r0, r1, r2, rq⟩ := (K1.out.below hb1).three
  obtain ⟨o0, o1, o2, oq⟩ := (K2.out.below hb1).three
  have B1 := Lib.hid ((HW.out _ _ _).trans (hb1.mono (by simp; omega)))
  have hz1 : w.heap.size + 3 ≤ w1.heap.size := by have := hb1.size; rw [HS0.out] at this; exact this
  have C1 := Lib.hid (cells_of_row (OwnOf.row' okC (by omega) ho1 rfl (T := fun b => w.heap.size + 3 ≤ b) (fun b h _ => by rw [HS0.out] at h; exact h) (fun b h _ => by rw [HS0.out] at h; exact h)))
  have X1 := Lib.hid ((Hx.out _ _ _).below hb1)
  have L0 := Lib.hid (K0.out.below hb1)
  have L1 := Lib.hid (K1.out.below hb1)
  have L2 := Lib.hid (K2.out.below hb1)
  clear ho1 hb1
  go_wp2_with fail
  refine (toCellS_any d.x lx Ax cx _ _ (X1.out.keep (Same.setCell _ ⟨w.heap.size + 2, 1, none⟩ _ (by simp)))).mono ?_
  rintro e w2 ⟨⟨g2, rfl, ho2⟩, hb2⟩
  have hb2' : Below w1.heap.size (w1.setCell ⟨w.heap.size + 2, 1, none⟩ (.slice (some ⟨g1, 0, none⟩) d.path.length d.path.length)) w2 := hb2.mono (by simp [World.setCell])
  have hz2 : w1.heap.size ≤ w2.heap.size := by have := hb2'.size; simp [World.setCell] at this; exact this
  have M1 := Lib.hid ((L1.out.far (p := ⟨w.heap.size + 2, 1, none⟩) (by simp) (.slice (some ⟨g1, 0, none⟩) d.path.length d.path.length)).belowB hb2' (by omega))
  have M2 := Lib.hid ((L2.out.set_ 1 (.slice (some ⟨g1, 0, none⟩) d.path.length d.path.length)).belowB hb2' (by omega))
  obtain ⟨r0', r1', r2', rq'⟩ := M1.out.three
  obtain ⟨o0', o1', o2', oq'⟩ := M2.out.three
  have B2 := Lib.hid ((B1.out.setCell (p := ⟨w.heap.size + 2, 1, none⟩) (by show w.heap.size ≤ w.heap.size + 2; omega) (.slice (some ⟨g1, 0, none⟩) d.path.length d.path.length)).trans (hb2'.mono (by omega)))
  have D1 := Lib.hid (((C1.out.keep (Same.setCell _ ⟨w.heap.size + 2, 1, none⟩ (.slice (some ⟨g1, 0, none⟩) d.path.length d.path.length) (by simp)))).below hb2)
  have C2 := Lib.hid (cells_of_row (OwnOf.row' okC (by omega) ho2 rfl (T := fun b => w.heap.size + 3 ≤ b) (fun b h _ => by simp [World.setCell] at h; omega) (fun b h _ => by simp [World.setCell] at h; omega)))
  clear ho2 hb2 hb2' a0 a1 a2 aq r0 r1 r2 rq o0 o1 o2 oq
  go_wp2_with fail
  refine bodyPost_ret (v := .agg #[.int .i64 d.op, .slice (some ⟨g1, 0, none⟩) d.path.length d.path.length, .slice (some ⟨g2, 0, none⟩) d.x.length d.x.length]) (by simp [results, Try.results30, go_sem, r0', r1', r2']) rfl ?_
  have sm : ∀ u0 u1 u2 u3 : Value, Same (fun b => w.heap.size + 3 ≤ b) w2 ((((w2.setCell ⟨w.heap.size + 2, 2, none⟩ u0).setCell ⟨w.heap.size + 1, 0, none⟩ u1).setCell ⟨w.heap.size + 1, 1, none⟩ u2).setCell ⟨w.heap.size + 1, 2, none⟩ u3) := fun u0 u1 u2 u3 =>
    (((Same.setCell _ _ _ (by simp)).trans (Same.setCell _ _ _ (by simp))).trans (Same.setCell _ _ _ (by simp))).trans (Same.setCell _ _ _ (by simp))
  refine ⟨⟨_, rfl, some ⟨g1, 0, none⟩, d.path.length, some ⟨g2, 0, none⟩, d.x.length, rfl, Nat.le_refl _, Nat.le_refl _, (Cells.keep D1.out (sm _ _ _ _)).weaken fun b hb _ => by omega, (Cells.keep C2.out (sm _ _ _ _)).weaken fun b hb _ => by omega⟩, ?_⟩
  exact (((B2.out.setCell (by show w.heap.size ≤ w.heap.size + 2; omega) _).setCell (by show w.heap.size ≤ w.heap.size + 1; omega) _).setCell (by show w.heap.size ≤ w.heap.size + 1; omega) _).setCell (by show w.heap.size ≤ w.heap.size + 1; omega) _

set_option maxRecDepth 100000 in
set_option maxHeartbeats 4000000 in
theorem toEditS_any (l : List EditD) (hl : l.length ≤ 1048576) (hlpath : ∀ d ∈ l, d.path.length ≤ 1048576) (hlx : ∀ d ∈ l, d.x.length ≤ 1048576) (A : Option Addr) (cap : Nat) (S : Nat → Prop) (w : World) (hcs : Edits w S A l) :
    Calls Try.prog 13 #[.slice A l.length cap] w fun e w' => (∃ g, e = .returned (.slice (some ⟨g, 0, none⟩) l.length l.length) ∧ OwnOf RE 3 58 w' (fun b => w.heap.size ≤ b) w.heap.size (.slice (some ⟨g, 0, none⟩) l.length l.length) l) ∧ Below w.heap.size w w' := by
  have HC := Lib.hid hcs
  have HLpath := Lib.hid hlpath
  have HLx := Lib.hid hlx
  clear hcs hlpath hlx
  obtain ⟨i0, hi, hz0, hz1, hz2⟩ := info_parts info_Edit
  have hby : i0.bytes * l.length ≤ 281474976710656 := by rw [hz2]; omega
  go_enter Try.func13, Try.ntmps13
  go_wp2_with (at_make; refine wpList_make_full _ rfl _ _ 32 rfl w.heap.size 58 i0 _ 3 Try.underlying32 hi hz0 hz1 .i64 .i64 _ _ l.length rfl rfl rfl rfl hby (by simp only [maxLen]; omega) (Nat.le_refl _) ?_; intro w1 hown1 hg1; have Ho1 := Lib.hid hown1; have Hg1 := Lib.hid hg1; clear hown1 hg1)
  go_loopw [4] (fun ki wr => ∃ k : Nat, ki = .int .i64 k ∧ k ≤ l.length ∧ FillOf RE 3 58 wr (fun b => w.heap.size ≤ b) w.heap.size w.heap.size l.length l k ∧ Below w.heap.size w wr) (fun ki _ => l.length - (intOf ki).toNat)
  case atStart =>
    exact ⟨0, rfl, Nat.zero_le _, FillOf.start [.int .i64 0, .slice none 0 0, .slice none 0 0] (by decide) Ho1.out, (Below.refl _ _).grown Hg1.out (Nat.le_refl _) (by simp)⟩
  case round =>
    obtain ⟨k, rfl, hk, hown, hb⟩ := hrel
    have Hb := Lib.hid hb
    have Ho := Lib.hid hown
    have hsz := hown.lt.2
    clear hb hown
    by_cases hlt : k < l.length
    · obtain ⟨b, off, Apath, cpath, Ax, cx, rfl, hbl, k0, k1, k2, lpath, lx, hpath, hx⟩ := (HC.out.below Hb.out).at_ hlt
      have HT : Hid (∀ W : World, Cells W S Apath l[k].path → Cells W S Ax l[k].x → Calls Try.prog 30 #[.agg #[.int .i64 l[k].op, .slice Apath l[k].path.length cpath, .slice Ax l[k].x.length cx]] W fun e w' => (∃ row, e = .returned (.agg row.toArray) ∧ RE w' (fun b => W.heap.size ≤ b) l[k] row) ∧ Below W.heap.size W w') := fun W hpath hx => toEdit_any l[k] (HLpath.out _ (List.getElem_mem hlt)) (HLx.out _ (List.getElem_mem hlt)) Apath cpath Ax cx S W hpath hx
      have Hpath := Lib.hid hpath
      have Hx := Lib.hid hx
      clear hpath hx
      have hi0' : (0 : Int) ≤ (k : Int) := by omega
      have hi1' : (k : Int) < (l.length : Int) := by omega
      go_wp2_with (go_at_call 30; refine (HT.out _ Hpath.out Hx.out).mono ?_; rintro e w2 ⟨⟨row, rfl, hrow⟩, hb2⟩; have hrow2 := okE.weaken (T := fun b => w.heap.size ≤ b ∧ b ≠ w.heap.size) (fun b hb _ => ⟨(by have := Hb.out.size; omega), (by omega)⟩) hrow; obtain ⟨Apn, cpn, Axn, cxn, rfl, -⟩ := hrow; obtain ⟨⟨v0, v1, v2, d0, d1, d2⟩, dq, ho3⟩ := FillOf.store3 okE (Ho.out.below okE hb2) hlt hlt _ _ _ hrow2; have Ho3 := Lib.hid ho3; have hz2 := hb2.size; have Hb2 := Lib.hid hb2; clear ho3 hb2 hrow2)
      all_goals go_roundw
      case rel => exact ⟨k + 1, by go_num, by omega, Ho3.out, (((Hb.out.trans (Hb2.out.mono Hb.out.size)).setCell (Nat.le_refl _) _).setCell (Nat.le_refl _) _).setCell (Nat.le_refl _) _⟩
      case measure => simp [intOf]; omega
    · have hke : k = l.length := by omega
      have Hke := Lib.hid hke
      clear hke
      go_wp2
      go_ret
      have h3 := Ho.out
      rw [Hke.out] at h3
      exact ⟨⟨w.heap.size, rfl, h3.done rfl⟩, Hb.out⟩

set_option maxRecDepth 100000 in
set_option maxHeartbeats 2000000 in
theorem eqEdit_same (d : EditD) (lpath : d.path.length ≤ 9223372036854775807) (lx : d.x.length ≤ 9223372036854775807) (Apatha : Option Addr) (cpatha : Nat) (Axa : Option Addr) (cxa : Nat) (Apathb : Option Addr) (cpathb : Nat) (Axb : Option Addr) (cxb : Nat) (S T : Nat → Prop) (w : World) (hapath : Cells w S Apatha d.path) (hbpath : Cells w T Apathb d.path) (hax : Cells w S Axa d.x) (hbx : Cells w T Axb d.x) :
    Calls Try.prog 32 #[.agg #[.int .i64 d.op, .slice Apatha d.path.length cpatha, .slice Axa d.x.length cxa], .agg #[.int .i64 d.op, .slice Apathb d.path.length cpathb, .slice Axb d.x.length cxb]] w fun e w' => e = .returned (.bool true) ∧ Below w.heap.size w w' := by
  have HB0 : Hid (∀ X Y : Obj, Below w.heap.size w ((w.alloc X).alloc Y)) := fun X Y => ((Below.refl _ _).alloc (Nat.le_refl _) _).alloc (by simp) _
  have Hapath := Lib.hid (Cells.keep (Cells.keep hapath (Same.alloc _ _ (.cells #[.int .i64 d.op, .slice Apatha d.path.length cpatha, .slice Axa d.x.length cxa] 58))) (Same.alloc _ _ (.cells #[.int .i64 d.op, .slice Apathb d.path.length cpathb, .slice Axb d.x.length cxb] 58)))
  have Hbpath := Lib.hid (Cells.keep (Cells.keep hbpath (Same.alloc _ _ (.cells #[.int .i64 d.op, .slice Apatha d.path.length cpatha, .slice Axa d.x.length cxa] 58))) (Same.alloc _ _ (.cells #[.int .i64 d.op, .slice Apathb d.path.length cpathb, .slice Axb d.x.length cxb] 58)))
  have Hax := Lib.hid (Cells.keep (Cells.keep hax (Same.alloc _ _ (.cells #[.int .i64 d.op, .slice Apatha d.path.length cpatha, .slice Axa d.x.length cxa] 58))) (Same.alloc _ _ (.cells #[.int .i64 d.op, .slice Apathb d.path.length cpathb, .slice Axb d.x.length cxb] 58)))
  have Hbx := Lib.hid (Cells.keep (Cells.keep hbx (Same.alloc _ _ (.cells #[.int .i64 d.op, .slice Apatha d.path.length cpatha, .slice Axa d.x.length cxa] 58))) (Same.alloc _ _ (.cells #[.int .i64 d.op, .slice Apathb d.path.length cpathb, .slice Axb d.x.length cxb] 58)))
  have Q1 := Lib.hid ((Blk.new w 58 #[.int .i64 d.op, .slice Apatha d.path.length cpatha, .slice Axa d.x.length cxa]).alloc (.cells #[.int .i64 d.op, .slice Apathb d.path.length cpathb, .slice Axb d.x.length cxb] 58))
  have Q2 := Lib.hid (Blk.new (w.alloc (.cells #[.int .i64 d.op, .slice Apatha d.path.length cpatha, .slice Axa d.x.length cxa] 58)) 58 #[.int .i64 d.op, .slice Apathb d.path.length cpathb, .slice Axb d.x.length cxb])
  clear hapath hbpath hax hbx
  go_enter Try.func32, Try.ntmps32
  go_wp2_with fail
  refine (eqCellS_same d.path lpath _ _ _ _ _ _ _ Hapath.out Hbpath.out).mono ?_
  rintro e w1 ⟨rfl, hb1⟩
  have B1 := Lib.hid hb1
  obtain ⟨ya0, ya1, ya2, yaq⟩ := (Q1.out.below B1.out).three
  obtain ⟨yb0, yb1, yb2, ybq⟩ := (Q2.out.below B1.out).three
  simp only [World.size_alloc] at yb0 yb1 yb2 ybq
  clear hb1
  go_wp2_with fail
  refine (eqCellS_same d.x lx _ _ _ _ _ _ _ (Hax.out.below B1.out) (Hbx.out.below B1.out)).mono ?_
  rintro e w2 ⟨rfl, hb2⟩
  have B2 := Lib.hid (B1.out.trans (hb2.mono B1.out.size))
  obtain ⟨ya0, ya1, ya2, yaq⟩ := (Q1.out.below B2.out).three
  obtain ⟨yb0, yb1, yb2, ybq⟩ := (Q2.out.below B2.out).three
  simp only [World.size_alloc] at yb0 yb1 yb2 ybq
  clear hb2
  go_wp2
  go_ret
  exact ⟨rfl, (HB0.out _ _).trans (B2.out.mono (by simp; omega))⟩

set_option maxRecDepth 100000 in
set_option maxHeartbeats 4000000 in
theorem eqEditS_same (l : List EditD) (hl : l.length ≤ 9223372036854775807) (hlpath : ∀ d ∈ l, d.path.length ≤ 9223372036854775807) (hlx : ∀ d ∈ l, d.x.length ≤ 9223372036854775807) (A B : Option Addr) (ca cb : Nat) (S T : Nat → Prop) (w : World) (ha : Edits w S A l) (hb : Edits w T B l) :
    Calls Try.prog 15 #[.slice A l.length ca, .slice B l.length cb] w fun e w' => e = .returned (.bool true) ∧ Below w.heap.size w w' := by
  have HA := Lib.hid ha
  have HB := Lib.hid hb
  have HLpath := Lib.hid hlpath
  have HLx := Lib.hid hlx
  clear ha hb hlpath hlx
  go_enter Try.func15, Try.ntmps15
  go_wp2
  go_loopw [5] (fun ki wr => ∃ (k : Nat), ki = .int .i64 k ∧ k ≤ l.length ∧ Below w.heap.size w wr) (fun ki _ => l.length - (intOf ki).toNat)
  case atStart => exact ⟨0, rfl, Nat.zero_le _, Below.refl _ _⟩
  case round =>
    obtain ⟨k, rfl, hk, hbw⟩ := hrel
    have Hb := Lib.hid hbw
    clear hbw
    by_cases hlt : k < l.length
    · obtain ⟨b, off, Apatha, cpatha, Axa, cxa, rfl, hbl, k0, k1, k2, -, -, hapath, hax⟩ := (HA.out.below Hb.out).at_ hlt
      obtain ⟨b', off', Apathb, cpathb, Axb, cxb, rfl, hbl', m0, m1, m2, -, -, hbpath, hbx⟩ := (HB.out.below Hb.out).at_ hlt
      have HE : Hid (∀ W : World, Cells W S Apatha l[k].path → Cells W T Apathb l[k].path → Cells W S Axa l[k].x → Cells W T Axb l[k].x → Calls Try.prog 32 #[.agg #[.int .i64 l[k].op, .slice Apatha l[k].path.length cpatha, .slice Axa l[k].x.length cxa], .agg #[.int .i64 l[k].op, .slice Apathb l[k].path.length cpathb, .slice Axb l[k].x.length cxb]] W fun e w' => e = .returned (.bool true) ∧ Below W.heap.size W w') := fun W hapath hbpath hax hbx => eqEdit_same l[k] (HLpath.out _ (List.getElem_mem hlt)) (HLx.out _ (List.getElem_mem hlt)) Apatha cpatha Axa cxa Apathb cpathb Axb cxb S T W hapath hbpath hax hbx
      have Hapath := Lib.hid hapath
      have Hbpath := Lib.hid hbpath
      have Hax := Lib.hid hax
      have Hbx := Lib.hid hbx
      clear hapath hbpath hax hbx
      have hi0 : (0 : Int) ≤ (k : Int) := by omega
      have hi1 : (k : Int) < (l.length : Int) := by omega
      go_wp2
      go_region_with (go_at_call 32; refine (HE.out _ (Cells.keep Hapath.out (Same.drew _ _)) (Cells.keep Hbpath.out (Same.drew _ _)) (Cells.keep Hax.out (Same.drew _ _)) (Cells.keep Hbx.out (Same.drew _ _))).mono ?_; rintro e w1 ⟨rfl, hb1⟩)
      all_goals
        go_wp2
        go_roundw
        case rel => exact ⟨k + 1, by go_num, by omega, (Hb.out.drew).trans (hb1.mono (by simpa using Hb.out.size))⟩
        case measure => simp [intOf]; omega
    · go_wp2
      go_ret
      exact ⟨rfl, Hb.out⟩
end Go.Proofs.Ytfmkejgdooammaa
