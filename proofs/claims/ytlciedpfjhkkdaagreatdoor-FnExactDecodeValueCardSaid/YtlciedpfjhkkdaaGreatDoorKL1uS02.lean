/- Texts of this proof: L01 L02 L03 L04 L05 G10 G11 G14 G48 S02. -/
import Derived.Test.YtlciedpfjhkkdaaGreatDoorChecked
import Derived.Test.YtlciedpfjhkkdaaGreatDoorKA1
import Derived.WalkKit
import Derived.WalkSpells
import Derived.WalkLawsBesides
import Derived.Deep.QuietTactic
import Derived.BigQuiet
import Derived.Lib.Hide
import Derived.Test.YtlciedpfjhkkdaaGreatDoorKM1
import Derived.Deep.RegionHeld3
import Derived.Deep.RegionWith
import Derived.Test.YtlciedpfjhkkdaaGreatDoorKE5
import Derived.Test.YtlciedpfjhkkdaaGreatDoorKD02uG08
import Derived.Test.YtlciedpfjhkkdaaGreatDoorKT01
import Derived.Shelf.SlGeneric
import Derived.Shelf.SlLaysM
set_option linter.unusedSimpArgs false
set_option linter.unusedVariables false
set_option linter.unnecessarySimpa false
set_option maxHeartbeats 8000000
namespace Go.Proofs.YtlciedpfjhkkdaaGreatDoor
open Go.RowKit
theorem eqCell_same (k m : Int) (t y : ByteArray) (n : Int) (w : World) :
  Calls Tryz.prog 83 #[.agg #[.int .i64 k, .int .i64 m, .string t, .string y, .int .i64 n], .agg #[.int .i64 k, .int .i64 m, .string t, .string y, .int .i64 n]] w fun e w' => e = .returned (.bool true) ∧ Below w.heap.size w w' := by
 go_enter Tryz.func83, Tryz.ntmps83
 go_wp2
 go_ret
 exact ⟨rfl, ((Below.refl _ _).alloc (Nat.le_refl _) _).alloc (by simp) _⟩
set_option maxRecDepth 100000 in
theorem eqCellS_same (xs : List CellD) (hl : xs.length ≤ 9223372036854775807) (A B : Option Addr) (ca cb : Nat) (S T : Nat → Prop) (w : World) (ha : Cells w S A xs) (hb : Cells w T B xs) :
  Calls Tryz.prog 41 #[.slice A xs.length ca, .slice B xs.length cb] w fun e w' => e = .returned (.bool true) ∧ Below w.heap.size w w' := by
 have HA := Lib.hid ha
 have HB := Lib.hid hb
 clear ha hb
 go_enter Tryz.func41, Tryz.ntmps41
 go_wp2
 go_loopw [5] (fun ki wr => ∃ (k : Nat), ki = .int .i64 k ∧ k ≤ xs.length ∧ Below w.heap.size w wr) (fun ki _ => xs.length - (intOf ki).toNat)
 case atStart => exact ⟨0, rfl, Nat.zero_le _, Below.refl _ _⟩
 case round =>
  obtain ⟨k, rfl, hk, hbw⟩ := hrel
  have Hb := Lib.hid hbw
  clear hbw
  by_cases hlt : k < xs.length
  ·obtain ⟨b, off, rfl, _, hbl, c0, c1, c2, c3, c4⟩ := (HA.out.below Hb.out).at_ hlt
   obtain ⟨b', off', rfl, _, hbl', d0, d1, d2, d3, d4⟩ := (HB.out.below Hb.out).at_ hlt
   have HE := Lib.hid (eqCell_same xs[k].kind xs[k].num xs[k].text xs[k].key xs[k].n)
   have hi0 : (0 : Int) ≤ (k : Int) := by omega
   have hi1 : (k : Int) < (xs.length : Int) := by omega
   go_wp2
   go_region_with (go_at_call 83; refine (HE.out _).mono ?_; rintro e w1 ⟨rfl, hb1⟩)
   all_goals
    go_wp2
    go_roundw
    case rel => exact ⟨k + 1, by go_num, by omega, (Hb.out.drew).trans (hb1.mono (by simpa using Hb.out.size))⟩
    case measure => simp [intOf]; omega
  ·go_wp2
   go_ret
   exact ⟨rfl, Hb.out⟩
def mtDig (k : Nat) : List UInt8 := if _h : k = 0 then [] else mtDig (k / 10) ++ [UInt8.ofNat (48 + k % 10)]
termination_by k
decreasing_by omega
theorem mtDig_pos {k : Nat} (h : 0 < k) : mtDig k = mtDig (k / 10) ++ [UInt8.ofNat (48 + k % 10)] := by
 rw [mtDig, dif_neg (by omega)]
theorem mtDig_zero : mtDig 0 = [] := by rw [mtDig]; rfl
def mText (k : Nat) : ByteArray := if k = 0 then ⟨#[109, 48]⟩ else ⟨(109 :: mtDig k).toArray⟩
set_option maxRecDepth 100000 in
theorem markText_any (K : Nat) (hK : K ≤ 4000000000) (w : World) :
  Calls Tryz.prog 84 #[.int .i64 K] w fun e w' => e = .returned (.string (mText K)) ∧ Below w.heap.size w w' := by
 go_enter Tryz.func84, Tryz.ntmps84
 by_cases h0 : K = 0
 ·subst h0
  go_wp2
  go_ret
  exact ⟨rfl, Below.refl _ _⟩
 ·have h1 : decide ((K : Int) ≤ 0) = false := by simp; omega
  go_wp2
  go_loopw [0, 3] (fun kv ov wr => ∃ (k : Nat) (out : ByteArray), kv = .int .i64 k ∧ ov = .string out ∧ mtDig K = mtDig k ++ out.data.toList ∧ out.size + k ≤ K ∧ Below w.heap.size w wr) (fun kv _ _ => (intOf kv).toNat)
  case atStart => exact ⟨K, ⟨#[]⟩, rfl, rfl, by simp, by simp [ByteArray.size], Below.refl _ _⟩
  case round =>
   obtain ⟨k, out, rfl, rfl, hd, hs, hb⟩ := hrel
   have Hd := Lib.hid hd
   have Hb := Lib.hid hb
   clear hd hb
   by_cases hk : 0 < k
   ·have hk1 : decide (0 < k) = true := by simp; omega
    have hlt : k % 10 < 10 := Nat.mod_lt _ (by omega)
    have hconv : ∀ x : Int, (convert 29 9 (.slice (some ⟨wr.heap.size, 0, none⟩) 1 1)).run Tryz.prog (wr.alloc (.cells #[.int .u8 x] 5)) = .ok (.string (strOfNums [x])) (wr.alloc (.cells #[.int .u8 x] 5)) := fun x =>
     run_convert_bytes_arg (P := Tryz.prog) _ 29 5 Tryz.underlying29 Tryz.underlying5 wr.heap.size 0 1 1 [x] rfl (fun i hi => by
      have : i = 0 := by omega
      subst this
      exact World.cell?_alloc_at _ _ _ _ rfl) 9 Tryz.underlying9
    have hss : ∀ x : Int, (strOfNums [x]).size = 1 := fun x => strOfNums_size _
    go_wp2
    all_goals go_roundw
    case rel =>
     refine ⟨k / 10, _, by simp, rfl, ?_, ?_, Hb.out.alloc Hb.out.size _⟩
     ·rw [Hd.out, mtDig_pos hk, ByteArray.data_append, Array.toList_append, strOfNums_data]
      have : (48 + (k : Int) % 10).toNat = 48 + k % 10 := by omega
      simp [this]
     ·rw [ByteArray.size_append, hss]
      omega
    case measure => simp [intOf]; omega
   ·have hk1 : decide (0 < k) = false := by simp; omega
    go_wp2
    go_ret
    refine ⟨?_, Hb.out⟩
    have hk0 : k = 0 := by omega
    have h2 := Hd.out
    rw [hk0, mtDig_zero, List.nil_append] at h2
    have : mText K = { data := #[109] } ++ out := by
     unfold mText
     rw [if_neg h0, h2]
     apply ByteArray.ext
     rw [ByteArray.data_append]
     simp
    rw [this]
    rfl
def markC (k : Nat) : CellD := ⟨(k : Nat), ((k + 1 : Nat) : Int), mText (k + 2), mText (k + 3), ((k + 4 : Nat) : Int)⟩
def marks (K n : Nat) : List CellD := (List.range n).map fun i => markC (K + 5 * i)
theorem marks_len (K n : Nat) : (marks K n).length = n := by simp [marks]
theorem marks_get (K n i : Nat) (h : i < (marks K n).length) : (marks K n)[i] = markC (K + 5 * i) := by simp [marks]
theorem markText_int (x : Int) (m : Nat) (hx : x = (m : Int)) (hm : m ≤ 4000000000) (w : World) :
  Calls Tryz.prog 84 #[.int .i64 x] w fun e w' => e = .returned (.string (mText m)) ∧ Below w.heap.size w w' := by
 subst hx
 exact markText_any m hm w
set_option maxRecDepth 100000 in
theorem heldCellS_any (n cap K : Nat) (A : Option Addr) (hK : K + 5 * n ≤ 3000000000) (S : Nat → Prop) (w : World) (hcs : Cells w S A (marks K n)) :
  Calls Tryz.prog 43 #[.slice A n cap, .int .i64 K] w fun e w' => e = .returned (.int .i64 (K + 5 * n : Nat)) ∧ Below w.heap.size w w' := by
 have HC := Lib.hid hcs
 clear hcs
 go_enter Tryz.func43, Tryz.ntmps43
 go_wp2
 go_loopw [1, 5] (fun kv iv wr => ∃ i M : Nat, iv = .int .i64 i ∧ i ≤ n ∧ kv = .int .i64 M ∧ M = K + 5 * i ∧ Below w.heap.size w wr) (fun _ iv _ => n - (intOf iv).toNat)
 case atStart => exact ⟨0, K, rfl, Nat.zero_le _, rfl, by omega, Below.refl _ _⟩
 case round =>
  obtain ⟨i, M, rfl, hi, rfl, hM, hb⟩ := hrel
  have Hb := Lib.hid hb
  have hMb : M ≤ 3000000000 := by omega
  have HM := Lib.hid hM
  clear hb hM
  by_cases hlt : i < n
  ·have hl2 : i < (marks K n).length := by rw [marks_len]; exact hlt
   have hmk : (marks K n)[i] = markC M := by rw [marks_get, ← HM.out]
   have Hcr := Lib.hid (HC.out.below Hb.out)
   obtain ⟨b, off, rfl, _, hbl, c0, c1, c2, c3, c4⟩ := Hcr.out.at_ hl2
   rw [hmk] at c0 c1 c2 c3 c4
   simp only [markC] at c0 c1 c2 c3 c4
   rw [show ((M + 1 : Nat) : Int) = (M : Int) + 1 from by omega] at c1
   rw [show ((M + 4 : Nat) : Int) = (M : Int) + 1 + 1 + 1 + 1 from by omega] at c4
   have hi0 : (0 : Int) ≤ (i : Int) := by omega
   have hi1 : (i : Int) < (n : Int) := by omega
   have Hmk := Lib.hid hmk
   clear hmk
   go_wp2_with fail
   go_region_with (go_at_call 84; refine (markText_int _ (M + 2) (by omega) (by omega) _).mono ?_; rintro e w3 ⟨rfl, hb3⟩; have hcc3 : ∀ bb o, bb < wr.heap.size → w3.cell? ⟨bb, o, none⟩ = wr.cell? ⟨bb, o, none⟩ := fun bb o h => hb3.cell (p := ⟨bb, o, none⟩) h; have Hb3 : Hid (Below wr.heap.size wr w3) := ⟨hb3.os, hb3.tape, hb3.output, hb3.size, hb3.block⟩; have hsz3 : wr.heap.size ≤ w3.heap.size := hb3.size; clear hb3)
   all_goals
    go_wp2_with fail
    have hbl3 : b < w3.heap.size := by omega
    go_region_with (go_at_call 84; refine (markText_int _ (M + 3) (by omega) (by omega) _).mono ?_; rintro e w4 ⟨rfl, hb4⟩; have hcc4 : ∀ bb o, bb < w3.heap.size → w4.cell? ⟨bb, o, none⟩ = w3.cell? ⟨bb, o, none⟩ := fun bb o h => hb4.cell (p := ⟨bb, o, none⟩) h; have Hb4 : Hid (Below w3.heap.size w3 w4) := ⟨hb4.os, hb4.tape, hb4.output, hb4.size, hb4.block⟩; have hsz4 : w3.heap.size ≤ w4.heap.size := hb4.size; clear hb4)
    all_goals
     go_wp2
     go_roundw
     case rel => exact ⟨i + 1, M + 5, by go_num, by omega, by go_num, by have := HM.out; omega, (Hb.out.trans (Hb3.out.mono Hb.out.size)).trans (Hb4.out.mono (by have := Hb.out.size; omega))⟩
     case measure => simp [intOf]; omega
  ·have hin : i = n := by omega
   have Hin := Lib.hid hin
   clear hin
   go_wp2
   go_ret
   exact ⟨by rw [HM.out, Hin.out]; rfl, Hb.out⟩
theorem markText_ac (m : Nat) (hm : m ≤ 4000000000) : AC Tryz.prog 84 [.c (.int .i64 m)] [] (.c (.str (mText m))) [] := by
 refine AC.of_calls fun S w κ vs hv => ?_
 obtain ⟨v, vs', rfl, ⟨rfl, _⟩, rfl⟩ := hv
 refine (markText_any m hm w).mono ?_
 rintro e w' ⟨rfl, hb⟩
 exact ⟨hb, _, rfl, fun T _ _ => ⟨rfl, rfl⟩⟩
theorem heldCellS_ac (n K : Nat) (hK : K + 5 * n ≤ 3000000000) : AC Tryz.prog 43 [cellsA (marks K n), .c (.int .i64 K)] [] (.c (.int .i64 ((K + 5 * n : Nat) : Int))) [] := by
 refine AC.of_calls fun S w κ vs hv => ?_
 obtain ⟨v, vs', rfl, h1, v2, vs2, rfl, ⟨rfl, _⟩, rfl⟩ := hv
 obtain ⟨A, cap, rfl, _, hc⟩ := cr_cells.1 h1
 rw [marks_len]
 refine (heldCellS_any n cap K A hK S w hc).mono ?_
 rintro e w' ⟨rfl, hb⟩
 exact ⟨hb, _, rfl, fun T _ _ => ⟨rfl, rfl⟩⟩
theorem eqCellS_ac (xs : List CellD) (hl : xs.length ≤ 9223372036854775807) : AC Tryz.prog 41 [cellsA xs, cellsA xs] [] (.c (.bool true)) [] := by
 refine AC.of_calls fun S w κ vs hv => ?_
 obtain ⟨v, vs', rfl, h1, v2, vs2, rfl, h2, rfl⟩ := hv
 obtain ⟨A, cap, rfl, _, hc⟩ := cr_cells.1 h1
 obtain ⟨B, cap', rfl, _, hc'⟩ := cr_cells.1 h2
 refine (eqCellS_same xs hl A B cap cap' S S w hc hc').mono ?_
 rintro e w' ⟨rfl, hb⟩
 exact ⟨hb, _, rfl, fun T _ _ => ⟨rfl, rfl⟩⟩
theorem marks_succ (K n : Nat) : marks K (n + 1) = marks K n ++ [markC (K + 5 * n)] := by simp [marks, List.range_succ]
def markRest (K : Nat) (xs : List CellD) (k : Nat) : List CellD := marks K k ++ xs.drop k
theorem markRest_len {K : Nat} {xs : List CellD} {k : Nat} (h : k ≤ xs.length) : (markRest K xs k).length = xs.length := by simp [markRest, marks_len]; omega
theorem markRest_at {K : Nat} {xs : List CellD} {k : Nat} (h : k < xs.length) : (markRest K xs k)[k]? = some xs[k] := by
 unfold markRest
 rw [List.getElem?_append_right (by rw [marks_len]; omega), marks_len, List.getElem?_drop]
 simp [h]
theorem markRest_succ {K : Nat} {xs : List CellD} {k : Nat} (h : k < xs.length) : (markRest K xs k).set k (markC (K + 5 * k)) = markRest K xs (k + 1) := by
 unfold markRest
 have hd : (xs.drop k).set 0 (markC (K + 5 * k)) = markC (K + 5 * k) :: xs.drop (k + 1) := by rw [List.drop_eq_getElem_cons h]; rfl
 rw [List.set_append_right _ _ (by rw [marks_len]; omega), marks_len, Nat.sub_self, hd, marks_succ]
 simp
set_option maxRecDepth 10000
theorem markCellS_ac (xs : List CellD) (K es : Nat) (e : TypeId) (hes : xs ≠ [] → es = 5) (hK : K + 5 * xs.length ≤ 3000000000) :
  AC Tryz.prog 42 [.own (0, 0), .c (.int .i64 K)] [((0, 0), .row false es e (xs.map CellD.cs))] (.c (.int .i64 ((K + 5 * xs.length : Nat) : Int))) [((0, 0), .row false es e ((marks K xs.length).map CellD.cs))] := by
 have h0 : (markRest K xs 0) = xs := by simp [markRest, marks]
 refine wEnter Tryz.func42 Tryz.ntmps42 ?_
 refine wRUN trivial ?_
 refine a_loop (κ := Nat) (fun k => ⟨mkS 0 50 [(0, .own (0, 0)), (1, .c (.int .i64 ((K + 5 * k : Nat) : Int))), (5, .c (.int .i64 k))],
   [((0, 0), .row false es e ((markRest K xs k).map CellD.cs))]⟩)
  (fun k => k ≤ xs.length) (fun k => xs.length - k) 0 (Nat.zero_le _) ?_ ?_
 ·exact wSays (Says.of [((0, 0), (0, 0))] []) h0
 ·intro k hk
  have hml := markRest_len (K := K) hk
  by_cases hlt : k < xs.length
  ·have h5 : es = 5 := hes (by intro h; rw [h] at hlt; simp at hlt)
   subst h5
   have hd : decide ((k : Int) < (xs.length : Int)) = true := by simpa using hlt
   have hw := wrap_succ (k := k) (by omega)
   have hat := markRest_at (K := K) hlt
   have hnx : ((markRest K xs k).map CellD.cs).set k (markC (K + 5 * k)).cs = (markRest K xs (k + 1)).map CellD.cs := by rw [← List.map_set, markRest_succ hlt]
   have hKn : ((K + 5 * (k + 1) : Nat) : Int) = ((K + 5 * k + 5 : Nat) : Int) := by omega
   have hll : ((markRest K xs k).map CellD.cs).length = xs.length := by rw [List.length_map, hml]
   have hg0 : ((markRest K xs k).map CellD.cs)[k]? = some [.int .i64 xs[k].kind, .int .i64 xs[k].num, .str xs[k].text, .str xs[k].key, .int .i64 xs[k].n] := by rw [List.getElem?_map, hat]; rfl
   simp only [CellD.cs, markC] at hnx
   generalize (markRest K xs k).map CellD.cs = L at *
   have hr0 : rowsAt L 5 k = true := by unfold rowsAt; rw [Int.toNat_natCast, hg0]; simp
   have hg1 : ∀ a b c d e : C, (L.set k [a, b, c, d, e])[k]? = some [a, b, c, d, e] := by intro a b c d e; rw [List.getElem?_set_self (by rw [hll]; exact hlt)]
   have hr1 : ∀ a b c d e : C, rowsAt (L.set k [a, b, c, d, e]) 5 k = true := by intro a b c d e; unfold rowsAt; rw [Int.toNat_natCast, hg1]; simp
   have hs : ∀ x y : List C, (L.set k x).set k y = L.set k y := fun x y => List.set_set ..
   generalize hM : K + 5 * k = M at *
   have w0 := wrap_succ (k := M) (by omega)
   have w1 := wrap_succ (k := M + 1) (by omega)
   have w2 := wrap_succ (k := M + 2) (by omega)
   have w3 := wrap_succ (k := M + 3) (by omega)
   have w4 := wrap_succ (k := M + 4) (by omega)
   refine wRUN (j12 hll hd hr0 hg0 hr1 hg1 hs w0 w1 w2 w3 w4) ?_
   refine w7 (op_data [] (markText_ac (M + 2) (by omega))) trivial ?_
   refine wRUN (j12 hll hd hr0 hg0 hr1 hg1 hs w0 w1 w2 w3 w4) ?_
   refine w7 (op_data [] (markText_ac (M + 3) (by omega))) trivial ?_
   refine wRUN (j2 (j12 hll hd hr0 hg0 hr1 hg1 hs w0 w1 w2 w3 w4) hw) ?_
   refine ⟨k + 1, by omega, by omega, ?_⟩
   exact wSays (Says.of [((0, 0), (0, 0))] []) (j2 hnx hKn)
  ·have hd : decide ((k : Int) < (xs.length : Int)) = false := by simpa using hlt
   have hke : k = xs.length := by omega
   have hall : markRest K xs k = marks K xs.length := by rw [hke]; simp [markRest]
   refine wRUN (j2 hml hd) ?_
   subst hke
   exact wRetOf (ret_of [((0, 0), (0, 0))] []) Tryz.results42 hall
def Nest (w : World) : List (List CellD) → List Value → List Nat → Prop
 | [], vs, bs => vs = [] ∧ bs = []
 | x :: l, vs, bs => ∃ v vs' b1 b2, vs = v :: vs' ∧ bs = b1 ++ b2 ∧ CR w (fun _ => False) (.osl (x.map CellD.cs)) v b1 ∧ Nest w l vs' b2
theorem Nest.length {w : World} : ∀ {l : List (List CellD)} {vs : List Value} {bs : List Nat}, Nest w l vs bs → vs.length = l.length
 | [], vs, bs, h => by rw [h.1]; rfl
 | x :: l, vs, bs, h => by
  obtain ⟨v, vs', b1, b2, rfl, rfl, h1, h2⟩ := h
  simp [Nest.length h2]
theorem Nest.keep {w w' : World} (hz : w.heap.size ≤ w'.heap.size) : ∀ {l : List (List CellD)} {vs : List Value} {bs : List Nat}, (∀ b, b ∈ bs → b < w.heap.size → w'.heap[b]? = w.heap[b]?) → Nest w l vs bs → Nest w' l vs bs
 | [], vs, bs, _, h => h
 | x :: l, vs, bs, hb, h => by
  obtain ⟨v, vs', b1, b2, rfl, rfl, h1, h2⟩ := h
  exact ⟨v, vs', b1, b2, rfl, rfl, CR.keep hz (fun b hf => hf.elim) (fun b hb1 => hb b (by simp [hb1])) h1, Nest.keep hz (fun b hb2 => hb b (by simp [hb2])) h2⟩
theorem Nest.at_ {w : World} : ∀ {l : List (List CellD)} {vs : List Value} {bs : List Nat}, Nest w l vs bs → bs.Nodup → ∀ {i : Nat} (hi : i < l.length), ∃ v bi, vs[i]? = some v ∧ CR w (fun _ => False) (.osl (l[i].map CellD.cs)) v bi ∧ (∀ b, b ∈ bi → b ∈ bs) ∧
  ∀ (w' : World) (y : List CellD), w.heap.size ≤ w'.heap.size → CR w' (fun _ => False) (.osl (y.map CellD.cs)) v bi → (∀ b, b ∈ bs → b ∉ bi → b < w.heap.size → w'.heap[b]? = w.heap[b]?) → Nest w' (l.set i y) vs bs
 | [], vs, bs, _, _, i, hi => by simp at hi
 | x :: l, vs, bs, h, hnd, 0, _ => by
  obtain ⟨v, vs', b1, b2, rfl, rfl, h1, h2⟩ := h
  refine ⟨v, b1, rfl, h1, fun b hb => by simp [hb], fun w' y hz hy hk => ⟨v, vs', b1, b2, rfl, rfl, hy, Nest.keep hz (fun b hb => hk b (by simp [hb]) ?_) h2⟩⟩
  intro hb1
  exact (List.nodup_append.1 hnd).2.2 b hb1 b hb rfl
 | x :: l, vs, bs, h, hnd, i + 1, hi => by
  obtain ⟨v, vs', b1, b2, rfl, rfl, h1, h2⟩ := h
  obtain ⟨v1, bi, g1, g2, g3, g4⟩ := Nest.at_ h2 (List.nodup_append.1 hnd).2.1 (i := i) (by simpa using hi)
  refine ⟨v1, bi, by simpa using g1, by simpa using g2, fun b hb => by simp [g3 b hb], fun w' y hz hy hk => ⟨v, vs', b1, b2, rfl, rfl, CR.keep hz (fun b hf => hf.elim) (fun b hb => hk b (by simp [hb]) ?_) h1, g4 w' y hz hy fun b hb => hk b (by simp [hb])⟩⟩
  intro hbi
  exact (List.nodup_append.1 hnd).2.2 b hb b (g3 b hbi) rfl
theorem get_one {p : Id × AO} {i : Id} {o : AO} (h : Mem.get [p] i = some o) : i = p.1 ∧ o = p.2 := by
 obtain ⟨a, b⟩ := p
 simp only [Mem.get, List.lookup_cons, List.lookup_nil] at h
 split at h
 ·rename_i hq
  exact ⟨by simpa using hq, (Option.some.inj h).symm⟩
 ·cases h
theorem ownsRow_lt {w : World} {base : Nat} {e : TypeId} {es n : Nat} {v : Value} {cs : List Value} (h : w.ownsRow base e es v n cs) {b : Nat} (hb : v.ownBlock = some b) : base ≤ b ∧ b < w.heap.size := by
 rcases h.2 with ⟨rfl, _⟩ | ⟨g, cap, cur, rfl, hg, hh, _⟩
 ·cases hb
 ·have : g = b := by simpa [Value.ownBlock] using hb
  subst this
  exact ⟨hg, (Array.getElem?_eq_some_iff.1 hh).1⟩
theorem ownsRow_zero {w : World} {base : Nat} {e : TypeId} {es n : Nat} {v : Value} {cs : List Value} (h : w.ownsRow base e es v n cs) : w.ownsRow 0 e es v n cs := by
 refine ⟨h.1, ?_⟩
 rcases h.2 with h | ⟨g, cap, cur, e1, hg, r⟩
 ·exact .inl h
 ·exact .inr ⟨g, cap, cur, e1, Nat.zero_le _, r⟩
theorem AC.of_row {P : Program} {f : FuncId} {args : List AV} {es : Nat} {e : TypeId} {rows : List (List C)} (hc : closedLL rows = true)
  (h : ∀ (S : Nat → Prop) (w : World) (κ : Id → Value) (vals : List Value), ARs w S [] κ args vals → Calls P f vals.toArray w fun e1 w' => Below w.heap.size w w' ∧ ∃ v vrows, e1 = .returned v ∧ CRss w' (fun _ => False) rows vrows [] ∧ (∀ x ∈ vrows, x.length = es) ∧ w'.ownsRow w.heap.size e es v rows.length vrows.flatten) :
  AC P f args [] (.own (0, 0)) [((0, 0), .row false es e rows)] := by
 intro Γ vals hE hA
 have how : ∀ b, Γ.ow b = none := by
  intro b
  cases hb : Γ.ow b with
  | none => rfl
  | some i => obtain ⟨_, o, h1, _⟩ := hE.own b i hb; simp [Mem.get] at h1
 refine (h _ _ _ _ hA).mono ?_
 rintro e1 w' ⟨hb, v, vrows, rfl, h1, h2, h3⟩
 refine ⟨v, fun b => if v.ownBlock = some b then some (0, 0) else none, fun _ => v, rfl, ⟨⟨ownsRow_one h3, _, rfl, fun _ => rfl⟩, ?_, ?_, hb.os, hb.tape, hb.output, hb.size, ?_, fun i o o' h => (by simp [Mem.get] at h)⟩⟩
 ·intro i o hi
  obtain ⟨rfl, rfl⟩ := get_one hi
  refine ⟨vrows, [], CRss.closed hc h1, fun _ => rfl, h2, ownsRow_zero h3, ?_, fun b hb => ?_⟩
  ·show (v.ownBlock.toList ++ []).Nodup
   cases v.ownBlock <;> simp
  ·have hb' : b ∈ v.ownBlock.toList ++ [] := hb
   have : v.ownBlock = some b := by simpa using hb'
   exact if_pos this
 ·intro b i hbi
  split at hbi
  ·rename_i hv
   refine ⟨(ownsRow_lt h3 hv).2, .row false es e rows, ?_, rfl⟩
   rw [← Option.some.inj hbi]
   rfl
  ·cases hbi
 ·intro b hl _
  refine ⟨hb.block b hl, ?_⟩
  refine if_neg fun hv => ?_
  have := (ownsRow_lt h3 hv).1
  omega
theorem closed_cells (l : List CellD) : closedLL (l.map CellD.cs) = true := by
 induction l with
 | nil => rfl
 | cons c l ih => simp only [List.map_cons, closedLL, ih, Bool.and_true]; rfl
attribute [go_sem] closed_cells AO.closed
theorem AC.of_mut {P : Program} {f : FuncId} {es : Nat} {e : TypeId} {rows rows' : List (List C)} (hc : closedLL rows' = true)
  (h : ∀ (S : Nat → Prop) (w : World) (v : Value) (vrows : List (List Value)), CRss w S rows vrows [] → (∀ x ∈ vrows, x.length = es) → w.ownsRow 0 e es v rows.length vrows.flatten → Calls P f #[v] w fun e1 w' => e1 = .returned (.tuple #[]) ∧ w.grownBy w' v.ownBlock ∧ ∃ vrows', CRss w' (fun _ => False) rows' vrows' [] ∧ (∀ x ∈ vrows', x.length = es) ∧ w'.ownsRow 0 e es v rows'.length vrows'.flatten) :
  AC P f [.own (0, 0)] [((0, 0), .row false es e rows)] (.tup []) [((0, 0), .row false es e rows')] := by
 intro Γ vals hE hA
 obtain ⟨v, vs, rfl, hv, rfl⟩ := hA
 obtain ⟨_, o, ho, hk⟩ := hv
 obtain ⟨_, rfl⟩ := get_one ho
 obtain ⟨vrows, bs, h1, h2, h3, h4, h5, h6⟩ := hE.objs (0, 0) _ rfl
 have hbs := h2 rfl
 subst hbs
 have hkv := hk (by simp)
 rw [← hkv] at h4 h5 h6
 refine (h _ _ _ _ h1 h3 h4).mono ?_
 rintro e1 w' ⟨rfl, hg, vrows', g1, g2, g3⟩
 have hob : ∀ b, b < Γ.w.heap.size → Γ.ow b = none → some b ≠ v.ownBlock := by
  intro b _ hb hv
  have := h6 b (by simp [← hv])
  rw [hb] at this
  cases this
 refine ⟨.tuple #[], Γ.ow, Γ.κ, rfl, ⟨⟨[], rfl, rfl⟩, ?_, ?_, hg.os, hg.tape, hg.output, hg.size, ?_, fun i o o' _ _ => rfl⟩⟩
 ·intro i o hi
  obtain ⟨rfl, rfl⟩ := get_one hi
  refine ⟨vrows', [], CRss.closed hc g1, fun _ => rfl, g2, by rw [← hkv]; exact g3, by rw [← hkv]; exact h5, fun b hb => h6 b (by rw [hkv]; exact hb)⟩
 ·intro b i hbi
  obtain ⟨k1, o, k2, k3⟩ := hE.own b i hbi
  obtain ⟨rfl, _⟩ := get_one k2
  exact ⟨Nat.lt_of_lt_of_le k1 hg.size, _, rfl, rfl⟩
 ·intro b hl hb
  exact ⟨hg.block b hl (hob b hl hb), hb⟩
end Go.Proofs.YtlciedpfjhkkdaaGreatDoor
namespace Go.Proofs.YtlciedpfjhkkdaaGreatDoor
open Go.RowKit Go.Shelf
def sortS_ren : Ren where
 f := fun x => match x with
  | 6 => 185
  | 8 => 212
  | 9 => 211
  | 19 => 245
  | 20 => 224
  | 21 => 237
  | 22 => 238
  | 23 => 239
  | 24 => 240
  | 25 => 241
  | 26 => 242
  | 27 => 214
  | 28 => 243
  | 29 => 244
  | 36 => 264
  | 31 => 265
  | 32 => 266
  | 37 => 267
  | 38 => 268
  | 39 => 218
  | 41 => 281
  | n => n
 t := fun x => match x with
  | 27 => 59
  | 29 => 9
  | 3 => 3
  | 32 => 243
  | 26 => 59
  | 0 => 0
  | 44 => 224
  | 46 => 216
  | 4 => 4
  | 36 => 261
  | 35 => 260
  | 41 => 208
  | 5 => 5
  | 9 => 9
  | 53 => 288
  | 57 => 292
  | 63 => 319
  | 64 => 95
  | n => n
 g := fun n => n
theorem sortS_lays : SlLaysM.n6 Tryz.prog sortS_ren where
 mixed := follows_mixed
 f6 := ⟨Tryz.f185.name, by kernel_rfl, by kernel_rfl⟩
 f8 := by kernel_rfl
 f9 := ⟨Tryz.f211.name, by kernel_rfl, by kernel_rfl⟩
 f19 := by kernel_rfl
 f20 := by kernel_rfl
 f21 := ⟨Tryz.f237.name, by kernel_rfl, by kernel_rfl⟩
 f22 := ⟨Tryz.f238.name, by kernel_rfl, by kernel_rfl⟩
 f23 := ⟨Tryz.f239.name, by kernel_rfl, by kernel_rfl⟩
 f24 := ⟨Tryz.f240.name, by kernel_rfl, by kernel_rfl⟩
 f25 := ⟨Tryz.f241.name, by kernel_rfl, by kernel_rfl⟩
 f26 := ⟨Tryz.f242.name, by kernel_rfl, by kernel_rfl⟩
 f27 := ⟨Tryz.f214.name, by kernel_rfl, by kernel_rfl⟩
 f28 := ⟨Tryz.f243.name, by kernel_rfl, by kernel_rfl⟩
 f29 := ⟨Tryz.f244.name, by kernel_rfl, by kernel_rfl⟩
 f31 := by kernel_rfl
 f32 := by kernel_rfl
 f36 := ⟨Tryz.f264.name, by kernel_rfl, by kernel_rfl⟩
 f37 := ⟨Tryz.f267.name, by kernel_rfl, by kernel_rfl⟩
 f38 := ⟨Tryz.f268.name, by kernel_rfl, by kernel_rfl⟩
 f39 := ⟨Tryz.f218.name, by kernel_rfl, by kernel_rfl⟩
 f41 := ⟨Tryz.f281.name, by kernel_rfl, by kernel_rfl⟩
 t0 := Tryz.underlying0
 a0 := Tryz.isAgg0
 z0 := Tryz.sizeOf0
 v0 := Tryz.zeroValue0
 t3 := Tryz.underlying3
 a3 := Tryz.isAgg3
 z3 := Tryz.sizeOf3
 v3 := Tryz.zeroValue3
 t4 := Tryz.underlying4
 a4 := Tryz.isAgg4
 z4 := Tryz.sizeOf4
 v4 := Tryz.zeroValue4
 t5 := Tryz.underlying5
 a5 := Tryz.isAgg5
 z5 := Tryz.sizeOf5
 v5 := Tryz.zeroValue5
 t9 := Tryz.underlying9
 a9 := Tryz.isAgg9
 z9 := Tryz.sizeOf9
 v9 := Tryz.zeroValue9
 t26 := Tryz.underlying59
 a26 := Tryz.isAgg59
 z26 := Tryz.sizeOf59
 v26 := Tryz.zeroValue59
 t27 := Tryz.underlying59
 a27 := Tryz.isAgg59
 z27 := Tryz.sizeOf59
 v27 := Tryz.zeroValue59
 t29 := Tryz.underlying9
 a29 := Tryz.isAgg9
 z29 := Tryz.sizeOf9
 v29 := Tryz.zeroValue9
 t32 := Tryz.underlying243
 a32 := Tryz.isAgg243
 z32 := Tryz.sizeOf243
 v32 := Tryz.zeroValue243
 t35 := Tryz.underlying260
 a35 := Tryz.isAgg260
 z35 := Tryz.sizeOf260
 v35 := Tryz.zeroValue260
 t36 := Tryz.underlying261
 a36 := Tryz.isAgg261
 z36 := Tryz.sizeOf261
 v36 := Tryz.zeroValue261
 t41 := Tryz.underlying208
 a41 := Tryz.isAgg208
 z41 := Tryz.sizeOf208
 v41 := Tryz.zeroValue208
 t44 := Tryz.underlying224
 a44 := Tryz.isAgg224
 z44 := Tryz.sizeOf224
 v44 := Tryz.zeroValue224
 t46 := Tryz.underlying216
 a46 := Tryz.isAgg216
 z46 := Tryz.sizeOf216
 v46 := Tryz.zeroValue216
 t53 := Tryz.underlying288
 a53 := Tryz.isAgg288
 z53 := Tryz.sizeOf288
 v53 := Tryz.zeroValue288
 t57 := Tryz.underlying292
 a57 := Tryz.isAgg292
 z57 := Tryz.sizeOf292
 v57 := Tryz.zeroValue292
 t63 := Tryz.underlying319
 a63 := Tryz.isAgg319
 z63 := Tryz.sizeOf319
 v63 := Tryz.zeroValue319
 t64 := Tryz.underlying95
 a64 := Tryz.isAgg95
 z64 := Tryz.sizeOf95
 v64 := Tryz.zeroValue95
end Go.Proofs.YtlciedpfjhkkdaaGreatDoor
