/- Texts of this proof: L01 L02 L03 L04 L05. -/
import Derived.Test.YtlciedpfjhkkdaaGreatDoorKB3
import Derived.Deep.RegionHeld3
import Derived.Deep.RegionWith
import Derived.Test.YtlciedpfjhkkdaaGreatDoorKA1
set_option linter.unusedSimpArgs false
set_option linter.unusedVariables false
set_option linter.unnecessarySimpa false
set_option maxHeartbeats 8000000
namespace Go.Proofs.YtlciedpfjhkkdaaGreatDoor
open Go.RowKit
theorem toCell_any (k m : Int) (t y : ByteArray) (n : Int) (w : World) :
  Calls Tryz.prog 126 #[.agg #[.int .i64 k, .int .i64 m, .string t, .string y, .int .i64 n]] w fun e w' => e = .returned (.agg #[.int .i64 k, .int .i64 m, .string t, .string y, .int .i64 n]) ∧ Below w.heap.size w w' := by
 go_enter Tryz.func126, Tryz.ntmps126
 go_wp2
 refine bodyPost_ret (v := .agg #[.int .i64 k, .int .i64 m, .string t, .string y, .int .i64 n]) (by simp [results, Tryz.results126, go_sem]) rfl ⟨rfl, ?_⟩
 exact (((Below.refl _ _).alloc (Nat.le_refl _) _).alloc (by simp) _).alloc (by simp; omega) _
theorem eqCell_same (k m : Int) (t y : ByteArray) (n : Int) (w : World) :
  Calls Tryz.prog 83 #[.agg #[.int .i64 k, .int .i64 m, .string t, .string y, .int .i64 n], .agg #[.int .i64 k, .int .i64 m, .string t, .string y, .int .i64 n]] w fun e w' => e = .returned (.bool true) ∧ Below w.heap.size w w' := by
 go_enter Tryz.func83, Tryz.ntmps83
 go_wp2
 go_ret
 exact ⟨rfl, ((Below.refl _ _).alloc (Nat.le_refl _) _).alloc (by simp) _⟩
def bulk : List CellD → Nat
 | [] => 0
 | c :: l => c.text.size + c.key.size + bulk l
theorem bulk_snoc (a : List CellD) (c : CellD) : bulk (a ++ [c]) = bulk a + (c.text.size + c.key.size) := by
 induction a with
 | nil => simp [bulk]
 | cons x a ih => simp [bulk, ih]; omega
def Sized63 (xs : List CellD) : Prop := ∀ c ∈ xs, c.text.size ≤ 9223372036854775807 ∧ c.key.size ≤ 9223372036854775807
set_option maxRecDepth 100000 in
theorem eqCellS_same (xs : List CellD) (hl : xs.length ≤ 9223372036854775807) (A B : Option Addr) (ca cb : Nat) (S T : Nat → Prop) (w : World) (ha : Cells w S A xs) (hb : Cells w T B xs) :
  Calls Tryz.prog 41 #[.slice A xs.length ca, .slice B xs.length cb] w fun e w' => e = .returned (.bool true) ∧ Below w.heap.size w w' := by
 have HA := Lib.hid ha
 have HB := Lib.hid hb
 clear ha hb
 go_enter Tryz.func41, Tryz.ntmps41
 go_wp2
 go_loopw [5] (fun ki wr => ∃ (k : Nat), ki = .int .i64 k ∧ k ≤ xs.length ∧ Below w.heap.size w wr) (fun ki _ => xs.length - (intOf ki).toNat)
 case atStart => exact ⟨0, rfl, Nat.zero_le _, Below.refl _ _⟩
 case round =>
  obtain ⟨k, rfl, hk, hbw⟩ := hrel
  have Hb := Lib.hid hbw
  clear hbw
  by_cases hlt : k < xs.length
  ·obtain ⟨b, off, rfl, _, hbl, c0, c1, c2, c3, c4⟩ := (HA.out.below Hb.out).at_ hlt
   obtain ⟨b', off', rfl, _, hbl', d0, d1, d2, d3, d4⟩ := (HB.out.below Hb.out).at_ hlt
   have HE := Lib.hid (eqCell_same xs[k].kind xs[k].num xs[k].text xs[k].key xs[k].n)
   have hi0 : (0 : Int) ≤ (k : Int) := by omega
   have hi1 : (k : Int) < (xs.length : Int) := by omega
   go_wp2
   go_region_with (go_at_call 83; refine (HE.out _).mono ?_; rintro e w1 ⟨rfl, hb1⟩)
   all_goals
    go_wp2
    go_roundw
    case rel => exact ⟨k + 1, by go_num, by omega, (Hb.out.drew).trans (hb1.mono (by simpa using Hb.out.size))⟩
    case measure => simp [intOf]; omega
  ·go_wp2
   go_ret
   exact ⟨rfl, Hb.out⟩
def zrow : List Value := [.int .i64 0, .int .i64 0, .string ⟨#[]⟩, .string ⟨#[]⟩, .int .i64 0]
def fillRows (xs : List CellD) (k : Nat) : List (List Value) := (xs.take k).map vals ++ List.replicate (xs.length - k) zrow
theorem fillRows_len (xs : List CellD) {k : Nat} (h : k ≤ xs.length) : (fillRows xs k).length = xs.length := by simp [fillRows]; omega
theorem fillRows_five (xs : List CellD) (k : Nat) : ∀ x ∈ fillRows xs k, x.length = 5 := by
 intro x hx
 simp only [fillRows, List.mem_append, List.mem_map, List.mem_replicate] at hx
 rcases hx with ⟨c, _, rfl⟩ | ⟨_, rfl⟩ <;> rfl
theorem fillRows_set (xs : List CellD) {k : Nat} (h : k < xs.length) : (fillRows xs k).set k (vals xs[k]) = fillRows xs (k + 1) := by
 unfold fillRows
 rw [List.set_append_right _ _ (by simp; omega), take_snoc h]
 simp only [List.length_map, List.length_take, List.map_append, List.map_cons, List.map_nil, List.append_assoc]
 rw [show k - min k xs.length = 0 from by omega, show xs.length - k = (xs.length - (k + 1)) + 1 from by omega, List.replicate_succ]
 rfl
set_option maxRecDepth 100000 in
theorem toCellS_any (xs : List CellD) (hl : xs.length ≤ 1048576) (A : Option Addr) (cap : Nat) (S : Nat → Prop) (w : World) (hcs : Cells w S A xs) :
  Calls Tryz.prog 70 #[.slice A xs.length cap] w fun e w' => (∃ g, e = .returned (.slice (some ⟨g, 0, none⟩) xs.length xs.length) ∧ OwnOf RC 5 94 w' (fun b => w.heap.size ≤ b) w.heap.size (.slice (some ⟨g, 0, none⟩) xs.length xs.length) xs) ∧ Below w.heap.size w w' := by
 have HC := Lib.hid hcs
 clear hcs
 obtain ⟨i0, hi, hz0, hz1, hz2⟩ := info_parts info_cell
 have hby : i0.bytes * xs.length ≤ 281474976710656 := by rw [hz2]; omega
 go_enter Tryz.func70, Tryz.ntmps70
 go_wp2_with (at_make; refine wpList_make_full _ rfl _ _ 22 rfl w.heap.size 94 i0 _ 5 Tryz.underlying22 hi hz0 hz1 .i64 .i64 _ _ xs.length rfl rfl rfl rfl hby (by simp only [maxLen]; omega) (Nat.le_refl _) ?_; intro w1 hown1 hg1; have Ho1 := Lib.hid hown1; have Hg1 := Lib.hid hg1; clear hown1 hg1)
 go_loopw [4] (fun ki wr => ∃ k : Nat, ki = .int .i64 k ∧ k ≤ xs.length ∧ wr.ownsRow w.heap.size 94 5 (.slice (some ⟨w.heap.size, 0, none⟩) xs.length xs.length) xs.length (fillRows xs k).flatten ∧ Below w.heap.size w wr ∧ w.heap.size < wr.heap.size) (fun ki _ => xs.length - (intOf ki).toNat)
 case atStart =>
  refine ⟨0, rfl, Nat.zero_le _, ?_, (Below.refl _ _).grown Hg1.out (Nat.le_refl _) (by simp), ?_⟩
  ·have h1 := Ho1.out
   have h2 := made_flatten zrow (by decide) xs.length
   simp only [Value.cells] at h1
   rw [show (5 : Nat) = zrow.length from rfl] at h1
   have h3 : fillRows xs 0 = List.replicate xs.length zrow := by simp [fillRows]
   rw [h3, ← h2]
   exact h1
  ·have := Ho1.out.2
   rcases this with ⟨h, _⟩ | ⟨g, cap', cur, h, _, hh, _⟩
   ·simp at h
   ·simp only [Value.slice.injEq, Option.some.injEq, Addr.mk.injEq, and_true] at h
    obtain ⟨rfl, _⟩ := h
    exact (Array.getElem?_eq_some_iff.1 hh).1
 case round =>
  obtain ⟨k, rfl, hk, hown, hb, hsz⟩ := hrel
  have Hb := Lib.hid hb
  have Ho := Lib.hid hown
  clear hb hown
  by_cases hlt : k < xs.length
  ·obtain ⟨b, off, rfl, _, hbl, c0, c1, c2, c3, c4⟩ := (HC.out.below Hb.out).at_ hlt
   have HT := Lib.hid (toCell_any xs[k].kind xs[k].num xs[k].text xs[k].key xs[k].n)
   have hi0' : (0 : Int) ≤ (k : Int) := by omega
   have hi1' : (k : Int) < (xs.length : Int) := by omega
   go_wp2_with (go_at_call 126; refine (HT.out _).mono ?_; rintro e w2 ⟨rfl, hb2⟩; have ho2 := ownsRow_below Ho.out hb2; obtain ⟨⟨v0, v1, v2, v3, v4, d0, d1, d2, d3, d4⟩, dq, ho3⟩ := own_store5 (fillRows_five xs k) (fillRows_len xs hk) ho2 hlt (.int .i64 xs[k].kind) (.int .i64 xs[k].num) (.string xs[k].text) (.string xs[k].key) (.int .i64 xs[k].n); have Ho3 := Lib.hid ho3; have hz2 := hb2.size; have Hb2 := Lib.hid hb2; clear ho2 ho3 hb2)
   all_goals go_roundw
   case rel =>
    have h3 := Ho3.out
    rw [show [Value.int .i64 xs[k].kind, .int .i64 xs[k].num, .string xs[k].text, .string xs[k].key, .int .i64 xs[k].n] = vals xs[k] from rfl, fillRows_set xs hlt] at h3
    exact ⟨k + 1, by go_num, by omega, h3, (((((Hb.out.trans (Hb2.out.mono Hb.out.size)).setCell (Nat.le_refl _) _).setCell (Nat.le_refl _) _).setCell (Nat.le_refl _) _).setCell (Nat.le_refl _) _).setCell (Nat.le_refl _) _, by simp [World.setCell]; omega⟩
   case measure => simp [intOf]; omega
  ·go_wp2
   go_ret
   refine ⟨⟨w.heap.size, rfl, (xs.map vals), by simp, by simp [vals], ?_, fun i hi row hr => by simp [hi] at hr; exact hr.symm⟩, Hb.out⟩
   have h3 := Ho.out
   have he : k = xs.length := by omega
   rw [he] at h3
   simpa [fillRows] using h3
def mtDig (k : Nat) : List UInt8 := if _h : k = 0 then [] else mtDig (k / 10) ++ [UInt8.ofNat (48 + k % 10)]
termination_by k
decreasing_by omega
theorem mtDig_pos {k : Nat} (h : 0 < k) : mtDig k = mtDig (k / 10) ++ [UInt8.ofNat (48 + k % 10)] := by
 rw [mtDig, dif_neg (by omega)]
theorem mtDig_zero : mtDig 0 = [] := by rw [mtDig]; rfl
def mText (k : Nat) : ByteArray := if k = 0 then ⟨#[109, 48]⟩ else ⟨(109 :: mtDig k).toArray⟩
set_option maxRecDepth 100000 in
theorem markText_any (K : Nat) (hK : K ≤ 4000000000) (w : World) :
  Calls Tryz.prog 84 #[.int .i64 K] w fun e w' => e = .returned (.string (mText K)) ∧ Below w.heap.size w w' := by
 go_enter Tryz.func84, Tryz.ntmps84
 by_cases h0 : K = 0
 ·subst h0
  go_wp2
  go_ret
  exact ⟨rfl, Below.refl _ _⟩
 ·have h1 : decide ((K : Int) ≤ 0) = false := by simp; omega
  go_wp2
  go_loopw [0, 3] (fun kv ov wr => ∃ (k : Nat) (out : ByteArray), kv = .int .i64 k ∧ ov = .string out ∧ mtDig K = mtDig k ++ out.data.toList ∧ out.size + k ≤ K ∧ Below w.heap.size w wr) (fun kv _ _ => (intOf kv).toNat)
  case atStart => exact ⟨K, ⟨#[]⟩, rfl, rfl, by simp, by simp [ByteArray.size], Below.refl _ _⟩
  case round =>
   obtain ⟨k, out, rfl, rfl, hd, hs, hb⟩ := hrel
   have Hd := Lib.hid hd
   have Hb := Lib.hid hb
   clear hd hb
   by_cases hk : 0 < k
   ·have hk1 : decide (0 < k) = true := by simp; omega
    have hlt : k % 10 < 10 := Nat.mod_lt _ (by omega)
    have hconv : ∀ x : Int, (convert 29 9 (.slice (some ⟨wr.heap.size, 0, none⟩) 1 1)).run Tryz.prog (wr.alloc (.cells #[.int .u8 x] 5)) = .ok (.string (strOfNums [x])) (wr.alloc (.cells #[.int .u8 x] 5)) := fun x =>
     run_convert_bytes_arg (P := Tryz.prog) _ 29 5 Tryz.underlying29 Tryz.underlying5 wr.heap.size 0 1 1 [x] rfl (fun i hi => by
      have : i = 0 := by omega
      subst this
      exact World.cell?_alloc_at _ _ _ _ rfl) 9 Tryz.underlying9
    have hss : ∀ x : Int, (strOfNums [x]).size = 1 := fun x => strOfNums_size _
    go_wp2
    all_goals go_roundw
    case rel =>
     refine ⟨k / 10, _, by simp, rfl, ?_, ?_, Hb.out.alloc Hb.out.size _⟩
     ·rw [Hd.out, mtDig_pos hk, ByteArray.data_append, Array.toList_append, strOfNums_data]
      have : (48 + (k : Int) % 10).toNat = 48 + k % 10 := by omega
      simp [this]
     ·rw [ByteArray.size_append, hss]
      omega
    case measure => simp [intOf]; omega
   ·have hk1 : decide (0 < k) = false := by simp; omega
    go_wp2
    go_ret
    refine ⟨?_, Hb.out⟩
    have hk0 : k = 0 := by omega
    have h2 := Hd.out
    rw [hk0, mtDig_zero, List.nil_append] at h2
    have : mText K = { data := #[109] } ++ out := by
     unfold mText
     rw [if_neg h0, h2]
     apply ByteArray.ext
     rw [ByteArray.data_append]
     simp
    rw [this]
    rfl
def markC (k : Nat) : CellD := ⟨(k : Nat), ((k + 1 : Nat) : Int), mText (k + 2), mText (k + 3), ((k + 4 : Nat) : Int)⟩
def marks (K n : Nat) : List CellD := (List.range n).map fun i => markC (K + 5 * i)
theorem marks_len (K n : Nat) : (marks K n).length = n := by simp [marks]
theorem marks_get (K n i : Nat) (h : i < (marks K n).length) : (marks K n)[i] = markC (K + 5 * i) := by simp [marks]
theorem markText_int (x : Int) (m : Nat) (hx : x = (m : Int)) (hm : m ≤ 4000000000) (w : World) :
  Calls Tryz.prog 84 #[.int .i64 x] w fun e w' => e = .returned (.string (mText m)) ∧ Below w.heap.size w w' := by
 subst hx
 exact markText_any m hm w
set_option maxRecDepth 100000 in
theorem heldCellS_any (n cap K : Nat) (A : Option Addr) (hK : K + 5 * n ≤ 3000000000) (S : Nat → Prop) (w : World) (hcs : Cells w S A (marks K n)) :
  Calls Tryz.prog 43 #[.slice A n cap, .int .i64 K] w fun e w' => e = .returned (.int .i64 (K + 5 * n : Nat)) ∧ Below w.heap.size w w' := by
 have HC := Lib.hid hcs
 clear hcs
 go_enter Tryz.func43, Tryz.ntmps43
 go_wp2
 go_loopw [1, 5] (fun kv iv wr => ∃ i M : Nat, iv = .int .i64 i ∧ i ≤ n ∧ kv = .int .i64 M ∧ M = K + 5 * i ∧ Below w.heap.size w wr) (fun _ iv _ => n - (intOf iv).toNat)
 case atStart => exact ⟨0, K, rfl, Nat.zero_le _, rfl, by omega, Below.refl _ _⟩
 case round =>
  obtain ⟨i, M, rfl, hi, rfl, hM, hb⟩ := hrel
  have Hb := Lib.hid hb
  have hMb : M ≤ 3000000000 := by omega
  have HM := Lib.hid hM
  clear hb hM
  by_cases hlt : i < n
  ·have hl2 : i < (marks K n).length := by rw [marks_len]; exact hlt
   have hmk : (marks K n)[i] = markC M := by rw [marks_get, ← HM.out]
   have Hcr := Lib.hid (HC.out.below Hb.out)
   obtain ⟨b, off, rfl, _, hbl, c0, c1, c2, c3, c4⟩ := Hcr.out.at_ hl2
   rw [hmk] at c0 c1 c2 c3 c4
   simp only [markC] at c0 c1 c2 c3 c4
   rw [show ((M + 1 : Nat) : Int) = (M : Int) + 1 from by omega] at c1
   rw [show ((M + 4 : Nat) : Int) = (M : Int) + 1 + 1 + 1 + 1 from by omega] at c4
   have hi0 : (0 : Int) ≤ (i : Int) := by omega
   have hi1 : (i : Int) < (n : Int) := by omega
   have Hmk := Lib.hid hmk
   clear hmk
   go_wp2_with fail
   go_region_with (go_at_call 84; refine (markText_int _ (M + 2) (by omega) (by omega) _).mono ?_; rintro e w3 ⟨rfl, hb3⟩; have hcc3 : ∀ bb o, bb < wr.heap.size → w3.cell? ⟨bb, o, none⟩ = wr.cell? ⟨bb, o, none⟩ := fun bb o h => hb3.cell (p := ⟨bb, o, none⟩) h; have Hb3 : Hid (Below wr.heap.size wr w3) := ⟨hb3.os, hb3.tape, hb3.output, hb3.size, hb3.block⟩; have hsz3 : wr.heap.size ≤ w3.heap.size := hb3.size; clear hb3)
   all_goals
    go_wp2_with fail
    have hbl3 : b < w3.heap.size := by omega
    go_region_with (go_at_call 84; refine (markText_int _ (M + 3) (by omega) (by omega) _).mono ?_; rintro e w4 ⟨rfl, hb4⟩; have hcc4 : ∀ bb o, bb < w3.heap.size → w4.cell? ⟨bb, o, none⟩ = w3.cell? ⟨bb, o, none⟩ := fun bb o h => hb4.cell (p := ⟨bb, o, none⟩) h; have Hb4 : Hid (Below w3.heap.size w3 w4) := ⟨hb4.os, hb4.tape, hb4.output, hb4.size, hb4.block⟩; have hsz4 : w3.heap.size ≤ w4.heap.size := hb4.size; clear hb4)
    all_goals
     go_wp2
     go_roundw
     case rel => exact ⟨i + 1, M + 5, by go_num, by omega, by go_num, by have := HM.out; omega, (Hb.out.trans (Hb3.out.mono Hb.out.size)).trans (Hb4.out.mono (by have := Hb.out.size; omega))⟩
     case measure => simp [intOf]; omega
  ·have hin : i = n := by omega
   have Hin := Lib.hid hin
   clear hin
   go_wp2
   go_ret
   exact ⟨by rw [HM.out, Hin.out]; rfl, Hb.out⟩
end Go.Proofs.YtlciedpfjhkkdaaGreatDoor
