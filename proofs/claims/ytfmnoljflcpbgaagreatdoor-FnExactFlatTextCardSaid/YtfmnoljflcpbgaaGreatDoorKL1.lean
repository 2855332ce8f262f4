/- Texts of this proof: L01 L02 L03 L04 L05. -/
import Derived.Test.YtfmnoljflcpbgaaGreatDoorKB3
import Derived.Deep.RegionHeld3
import Derived.Deep.RegionWith
import Derived.Test.YtfmnoljflcpbgaaGreatDoorKA1
set_option linter.unusedSimpArgs false
set_option linter.unusedVariables false
set_option linter.unnecessarySimpa false
namespace Go.Proofs.YtfmnoljflcpbgaaGreatDoor
open Go.RowKit

set_option maxHeartbeats 1000000 in
theorem toCell_any (k m : Int) (t y : ByteArray) (n : Int) (w : World) :
    Calls Tryz.prog 45 #[.agg #[.int .i64 k, .int .i64 m, .string t, .string y, .int .i64 n]] w fun e w' => e = .returned (.agg #[.int .i64 k, .int .i64 m, .string t, .string y, .int .i64 n]) ∧ Below w.heap.size w w' := by
  go_enter Tryz.func45, Tryz.ntmps45
  go_wp2
  refine bodyPost_ret (v := .agg #[.int .i64 k, .int .i64 m, .string t, .string y, .int .i64 n]) (by simp [results, Tryz.results45, go_sem]) rfl ⟨rfl, ?_⟩
  exact (((Below.refl _ _).alloc (Nat.le_refl _) _).alloc (by simp) _).alloc (by simp; omega) _

set_option maxHeartbeats 1000000 in
theorem eqCell_same (k m : Int) (t y : ByteArray) (n : Int) (w : World) :
    Calls Tryz.prog 48 #[.agg #[.int .i64 k, .int .i64 m, .string t, .string y, .int .i64 n], .agg #[.int .i64 k, .int .i64 m, .string t, .string y, .int .i64 n]] w fun e w' => e = .returned (.bool true) ∧ Below w.heap.size w w' := by
  go_enter Tryz.func48, Tryz.ntmps48
  go_wp2
  go_ret
  exact ⟨rfl, ((Below.refl _ _).alloc (Nat.le_refl _) _).alloc (by simp) _⟩
end Go.Proofs.YtfmnoljflcpbgaaGreatDoor

/- The laws' own functions on cells: szCellS, eqCellS. -/
namespace Go.Proofs.YtfmnoljflcpbgaaGreatDoor
open Go.RowKit

def bulk : List CellD → Nat
  | [] => 0
  | c :: l => c.text.size + c.key.size + bulk l
theorem bulk_snoc (a : List CellD) (c : CellD) : bulk (a ++ [c]) = bulk a + (c.text.size + c.key.size) := by
  induction a with
  | nil => simp [bulk]
  | cons x a ih => simp [bulk, ih]; omega
def Sized63 (xs : List CellD) : Prop := ∀ c ∈ xs, c.text.size ≤ 9223372036854775807 ∧ c.key.size ≤ 9223372036854775807

set_option maxRecDepth 100000 in
set_option maxHeartbeats 2000000 in
theorem eqCellS_same (xs : List CellD) (hl : xs.length ≤ 9223372036854775807) (A B : Option Addr) (ca cb : Nat) (S T : Nat → Prop) (w : World) (ha : Cells w S A xs) (hb : Cells w T B xs) :
    Calls Tryz.prog 15 #[.slice A xs.length ca, .slice B xs.length cb] w fun e w' => e = .returned (.bool true) ∧ Below w.heap.size w w' := by
  have HA := Lib.hid ha
  have HB := Lib.hid hb
  clear ha hb
  go_enter Tryz.func15, Tryz.ntmps15
  go_wp2
  go_loopw [5] (fun ki wr => ∃ (k : Nat), ki = .int .i64 k ∧ k ≤ xs.length ∧ Below w.heap.size w wr) (fun ki _ => xs.length - (intOf ki).toNat)
  case atStart => exact ⟨0, rfl, Nat.zero_le _, Below.refl _ _⟩
  case round =>
    obtain ⟨k, rfl, hk, hbw⟩ := hrel
    have Hb := Lib.hid hbw
    clear hbw
    by_cases hlt : k < xs.length
    · obtain ⟨b, off, rfl, _, hbl, c0, c1, c2, c3, c4⟩ := (HA.out.below Hb.out).at_ hlt
      obtain ⟨b', off', rfl, _, hbl', d0, d1, d2, d3, d4⟩ := (HB.out.below Hb.out).at_ hlt
      have HE := Lib.hid (eqCell_same xs[k].kind xs[k].num xs[k].text xs[k].key xs[k].n)
      have hi0 : (0 : Int) ≤ (k : Int) := by omega
      have hi1 : (k : Int) < (xs.length : Int) := by omega
      go_wp2
      go_region_with (go_at_call 48; refine (HE.out _).mono ?_; rintro e w1 ⟨rfl, hb1⟩)
      all_goals
        go_wp2
        go_roundw
        case rel => exact ⟨k + 1, by go_num, by omega, (Hb.out.drew).trans (hb1.mono (by simpa using Hb.out.size))⟩
        case measure => simp [intOf]; omega
    · go_wp2
      go_ret
      exact ⟨rfl, Hb.out⟩
end Go.Proofs.YtfmnoljflcpbgaaGreatDoor

/- The laws' own functions on cells: toCellS. -/
namespace Go.Proofs.YtfmnoljflcpbgaaGreatDoor
open Go.RowKit

def zrow : List Value := [.int .i64 0, .int .i64 0, .string ⟨#[]⟩, .string ⟨#[]⟩, .int .i64 0]
def fillRows (xs : List CellD) (k : Nat) : List (List Value) := (xs.take k).map vals ++ List.replicate (xs.length - k) zrow
theorem fillRows_len (xs : List CellD) {k : Nat} (h : k ≤ xs.length) : (fillRows xs k).length = xs.length := by simp [fillRows]; omega
theorem fillRows_five (xs : List CellD) (k : Nat) : ∀ x ∈ fillRows xs k, x.length = 5 := by
  intro x hx
  simp only [fillRows, List.mem_append, List.mem_map, List.mem_replicate] at hx
  rcases hx with ⟨c, _, rfl⟩ | ⟨_, rfl⟩ <;> rfl
theorem fillRows_set (xs : List CellD) {k : Nat} (h : k < xs.length) : (fillRows xs k).set k (vals xs[k]) = fillRows xs (k + 1) := by
  unfold fillRows
  rw [List.set_append_right _ _ (by simp; omega), take_snoc h]
  simp only [List.length_map, List.length_take, List.map_append, List.map_cons, List.map_nil, List.append_assoc]
  rw [show k - min k xs.length = 0 from by omega, show xs.length - k = (xs.length - (k + 1)) + 1 from by omega, List.replicate_succ]
  rfl

set_option maxRecDepth 100000 in
set_option maxHeartbeats 4000000 in
theorem toCellS_any (xs : List CellD) (hl : xs.length ≤ 1048576) (A : Option Addr) (cap : Nat) (S : Nat → Prop) (w : World) (hcs : Cells w S A xs) :
    Calls Tryz.prog 12 #[.slice A xs.length cap] w fun e w' => (∃ g, e = .returned (.slice (some ⟨g, 0, none⟩) xs.length xs.length) ∧ OwnOf RC 5 69 w' (fun b => w.heap.size ≤ b) w.heap.size (.slice (some ⟨g, 0, none⟩) xs.length xs.length) xs) ∧ Below w.heap.size w w' := by
  have HC := Lib.hid hcs
  clear hcs
  obtain ⟨i0, hi, hz0, hz1, hz2⟩ := info_parts info_cell
  have hby : i0.bytes * xs.length ≤ 281474976710656 := by rw [hz2]; omega
  go_enter Tryz.func12, Tryz.ntmps12
  go_wp2_with (at_make; refine wpList_make_full _ rfl _ _ 27 rfl w.heap.size 69 i0 _ 5 Tryz.underlying27 hi hz0 hz1 .i64 .i64 _ _ xs.length rfl rfl rfl rfl hby (by simp only [maxLen]; omega) (Nat.le_refl _) ?_; intro w1 hown1 hg1; have Ho1 := Lib.hid hown1; have Hg1 := Lib.hid hg1; clear hown1 hg1)
  go_loopw [4] (fun ki wr => ∃ k : Nat, ki = .int .i64 k ∧ k ≤ xs.length ∧ wr.ownsRow w.heap.size 69 5 (.slice (some ⟨w.heap.size, 0, none⟩) xs.length xs.length) xs.length (fillRows xs k).flatten ∧ Below w.heap.size w wr ∧ w.heap.size < wr.heap.size) (fun ki _ => xs.length - (intOf ki).toNat)
  case atStart =>
    refine ⟨0, rfl, Nat.zero_le _, ?_, (Below.refl _ _).grown Hg1.out (Nat.le_refl _) (by simp), ?_⟩
    · have h1 := Ho1.out
      have h2 := made_flatten zrow (by decide) xs.length
      simp only [Value.cells] at h1
      rw [show (5 : Nat) = zrow.length from rfl] at h1
      have h3 : fillRows xs 0 = List.replicate xs.length zrow := by simp [fillRows]
      rw [h3, ← h2]
      exact h1
    · have := Ho1.out.2
      rcases this with ⟨h, _⟩ | ⟨g, cap', cur, h, _, hh, _⟩
      · simp at h
      · simp only [Value.slice.injEq, Option.some.injEq, Addr.mk.injEq, and_true] at h
        obtain ⟨rfl, _⟩ := h
        exact (Array.getElem?_eq_some_iff.1 hh).1
  case round =>
    obtain ⟨k, rfl, hk, hown, hb, hsz⟩ := hrel
    have Hb := Lib.hid hb
    have Ho := Lib.hid hown
    clear hb hown
    by_cases hlt : k < xs.length
    · obtain ⟨b, off, rfl, _, hbl, c0, c1, c2, c3, c4⟩ := (HC.out.below Hb.out).at_ hlt
      have HT := Lib.hid (toCell_any xs[k].kind xs[k].num xs[k].text xs[k].key xs[k].n)
      have hi0' : (0 : Int) ≤ (k : Int) := by omega
      have hi1' : (k : Int) < (xs.length : Int) := by omega
      go_wp2_with (go_at_call 45; refine (HT.out _).mono ?_; rintro e w2 ⟨rfl, hb2⟩; have ho2 := ownsRow_below Ho.out hb2; obtain ⟨⟨v0, v1, v2, v3, v4, d0, d1, d2, d3, d4⟩, dq, ho3⟩ := own_store5 (fillRows_five xs k) (fillRows_len xs hk) ho2 hlt (.int .i64 xs[k].kind) (.int .i64 xs[k].num) (.string xs[k].text) (.string xs[k].key) (.int .i64 xs[k].n); have Ho3 := Lib.hid ho3; have hz2 := hb2.size; have Hb2 := Lib.hid hb2; clear ho2 ho3 hb2)
      all_goals go_roundw
      case rel =>
        have h3 := Ho3.out
        rw [show [Value.int .i64 xs[k].kind, .int .i64 xs[k].num, .string xs[k].text, .string xs[k].key, .int .i64 xs[k].n] = vals xs[k] from rfl, fillRows_set xs hlt] at h3
        exact ⟨k + 1, by go_num, by omega, h3, (((((Hb.out.trans (Hb2.out.mono Hb.out.size)).setCell (Nat.le_refl _) _).setCell (Nat.le_refl _) _).setCell (Nat.le_refl _) _).setCell (Nat.le_refl _) _).setCell (Nat.le_refl _) _, by simp [World.setCell]; omega⟩
      case measure => simp [intOf]; omega
    · go_wp2
      go_ret
      refine ⟨⟨w.heap.size, rfl, (xs.map vals), by simp, by simp [vals], ?_, fun i hi row hr => by simp [hi] at hr; exact hr.symm⟩, Hb.out⟩
      have h3 := Ho.out
      have he : k = xs.length := by omega
      rw [he] at h3
      simpa [fillRows] using h3
end Go.Proofs.YtfmnoljflcpbgaaGreatDoor




