/- Texts of this proof: M35 G97. -/
import Derived.Test.YtamgeodhpglgkaaGreatKM33uM34
import Derived.Test.YtamgeodhpglgkaaGreatKG95
import Derived.Test.YtamgeodhpglgkaaGreatKG96
set_option linter.unusedSimpArgs false
set_option maxHeartbeats 8000000
namespace Go.Proofs.YtamgeodhpglgkaaGreat
open Go.RowKit
def Blocks (b : Nat) (D : List V) : Prop := ∃ Ds : List (List V), D = Ds.flatten ∧ ∀ T ∈ Ds, T.length = b ∧ SortedV T
theorem blocks_nil (b : Nat) : Blocks b [] := ⟨[], rfl, by simp⟩
theorem blocks_snoc {b : Nat} {D T : List V} (h : Blocks b D) (hl : T.length = b) (hs : SortedV T) : Blocks b (D ++ T) := by
 obtain ⟨Ds, rfl, hD⟩ := h
 refine ⟨Ds ++ [T], by simp, fun U hU => ?_⟩
 rcases List.mem_append.1 hU with hU | hU
 ·exact hD U hU
 ·rw [List.mem_singleton.1 hU]; exact ⟨hl, hs⟩
theorem blocks_cases {b : Nat} {D : List V} (h : Blocks b D) : D = [] ∨ ∃ T D', D = T ++ D' ∧ T.length = b ∧ SortedV T ∧ Blocks b D' := by
 obtain ⟨Ds, rfl, hD⟩ := h
 cases Ds with
 | nil => exact .inl rfl
 | cons T Ds => exact .inr ⟨T, Ds.flatten, by simp, (hD T (by simp)).1, (hD T (by simp)).2, Ds, rfl, fun U hU => hD U (List.mem_cons_of_mem _ hU)⟩
def Rest (b : Nat) (R : List V) : Prop := ∃ T t, R = T ++ t ∧ Blocks b T ∧ t.length < b ∧ SortedV t
theorem rest_of {b : Nat} {D t : List V} (h : Blocks b D) (hl : t.length < b) (hs : SortedV t) : Rest b (D ++ t) := ⟨D, t, rfl, h, hl, hs⟩
theorem rest_two {b : Nat} {R : List V} (h : Rest b R) (hl : b + b ≤ R.length) : ∃ X Y S, R = X ++ Y ++ S ∧ X.length = b ∧ Y.length = b ∧ SortedV X ∧ SortedV Y ∧ Rest b S := by
 obtain ⟨T, t, rfl, hB, ht, hs⟩ := h
 rw [List.length_append] at hl
 rcases blocks_cases hB with rfl | ⟨X, T, rfl, hX, hXs, hB⟩
 ·rw [List.length_nil] at hl; omega
 ·rcases blocks_cases hB with rfl | ⟨Y, T, rfl, hY, hYs, hB⟩
  ·rw [List.append_nil] at hl; omega
  ·exact ⟨X, Y, T ++ t, by simp only [List.append_assoc], hX, hY, hXs, hYs, rest_of hB ht hs⟩
theorem rest_mid {b : Nat} {R : List V} (h : Rest b R) (hl : R.length < b + b) (hb : b < R.length) : ∃ X Y, R = X ++ Y ∧ X.length = b ∧ Y ≠ [] ∧ SortedV X ∧ SortedV Y := by
 obtain ⟨T, t, rfl, hB, ht, hs⟩ := h
 rw [List.length_append] at hl hb
 rcases blocks_cases hB with rfl | ⟨X, T, rfl, hX, hXs, hB⟩
 ·rw [List.length_nil] at hb; omega
 ·rcases blocks_cases hB with rfl | ⟨Y, T, rfl, hY, hYs, hB⟩
  ·rw [List.append_nil] at hb ⊢
   exact ⟨X, t, rfl, hX, fun e => by rw [e, List.length_nil] at hb; omega, hXs, hs⟩
  ·simp only [List.length_append] at hl; omega
theorem rest_one {b : Nat} {R : List V} (h : Rest b R) (hl : R.length ≤ b) : SortedV R := by
 obtain ⟨T, t, rfl, hB, ht, hs⟩ := h
 rw [List.length_append] at hl
 rcases blocks_cases hB with rfl | ⟨X, T, rfl, hX, hXs, hB⟩
 ·exact hs
 ·rw [List.length_append] at hl
  have h1 : T = [] := List.length_eq_zero_iff.1 (by omega)
  have h2 : t = [] := List.length_eq_zero_iff.1 (by omega)
  rw [h1, h2, List.append_nil, List.append_nil]
  exact hXs
theorem merge_perm {D X S L : List V} (h : (D ++ (X ++ S)).Perm L) : (D ++ sortV X ++ S).Perm L := by
 refine List.Perm.trans ?_ h
 rw [← List.append_assoc]
 exact ((sortV_perm X).append_left D).append_right S
set_option maxRecDepth 10000
theorem symMerge_ac (f : FuncId) (hf : CmpAC f) : ∀ n, SymAC f n := by
 intro n
 induction n with
 | zero =>
  intro P X Y S hl hX0
  exact absurd (List.length_eq_zero_iff.1 (by omega)) hX0
 | succ n ih =>
  intro P X Y S hl hX0 hY0 hX hY hxr hyr hn
  have hx1 : 0 < X.length := List.length_pos_iff.2 hX0
  have hy1 : 0 < Y.length := List.length_pos_iff.2 hY0
  by_cases h1 : X.length = 1
  ·obtain ⟨x, rfl⟩ := List.length_eq_one_iff.1 h1
   exact symMerge_one f hf P x Y S hY hyr hn
  ·by_cases h2 : Y.length = 1
   ·obtain ⟨y, rfl⟩ := List.length_eq_one_iff.1 h2
    exact symMerge_last f hf P X y S (by omega) hX (hyr y (by simp)) hn
   ·by_cases h3 : X.length > (X.length + Y.length) / 2
    ·exact symMerge_gt f hf ih P X Y S hl (by omega) (by omega) hX hY hxr hyr hn rfl h3
    ·exact symMerge_le f hf ih P X Y S hl (by omega) (by omega) hX hY hxr hyr hn rfl h3
theorem stable_ac (f : FuncId) (hf : CmpAC f) (L : List V) (hr : ∀ x ∈ L, x.right) (hn : L.length ≤ 100000) :
  AC Tryz.prog 314 [.own (0, 0), .c (.int .i64 (L.length : Int)), .clo f []] (rowM L) (.tup []) (rowM (sortV L)) := by
 have hsym := symMerge_ac f hf
 have hins := insertionSort_ac f hf
 clear hf
 refine wEnter Tryz.func314 Tryz.ntmps314 ?_
 refine wRUN trivial ?_
 refine a_loop (κ := List V × List V) (fun q => ⟨mkS 0 63 [(0, .own (0, 0)), (1, .c (.int .i64 (L.length : Int))), (2, .clo f []), (6, .c (.int .i64 20)), (7, .c (.int .i64 (q.1.length : Int))), (8, .c (.int .i64 ((q.1.length + 20 : Nat) : Int)))], [((0, 0), rowV (q.1 ++ q.2))]⟩)
  (fun q => (q.1 ++ q.2).Perm L ∧ Blocks 20 q.1) (fun q => q.2.length) ([], L) ⟨List.Perm.refl _, blocks_nil 20⟩ ?_ ?_
 ·exact wSays (Says.of [((0, 0), (0, 0))] []) hn
 ·rintro ⟨D, R⟩ ⟨hp, hb⟩
  dsimp only at hp hb ⊢
  have hlen := hp.length_eq
  rw [List.length_append] at hlen
  have hrr : ∀ x ∈ R, x.right := fun x hx => hr x (hp.mem_iff.1 (List.mem_append_right _ hx))
  by_cases hlt : 20 ≤ R.length
  ·obtain ⟨X, S, hX, rfl⟩ : ∃ X S, X.length = 20 ∧ R = X ++ S := ⟨R.take 20, R.drop 20, by rw [List.length_take]; omega, (List.take_append_drop ..).symm⟩
   rw [List.length_append] at hlen
   have hd : decide (((D.length + 20 : Nat) : Int) ≤ (L.length : Int)) = true := decide_eq_true (by omega)
   have hw : IntKind.i64.wrap (((D.length + 20 : Nat) : Int) + 20) = ((D.length + 20 + 20 : Nat) : Int) := wrapN (by omega) (by omega)
   have hi := hins D X S (fun x hx => hrr x (List.mem_append_left _ hx)) (by simp only [List.length_append]; omega)
   have hp' := merge_perm hp
   have hZ : (sortV X).length = 20 := by rw [sortV_len, hX]
   have hb' := blocks_snoc hb hZ (sortV_sorted X)
   have hms : S.length < (X ++ S).length := by rw [List.length_append]; omega
   have hfn : (D ++ sortV X).length = D.length + 20 := by rw [List.length_append, hZ]
   rw [hX] at hi
   rw [← List.append_assoc]
   generalize sortV X = Z at *
   generalize hU : D ++ X ++ S = U at *
   clear hU
   refine wRUN hd ?_
   refine wCall (op_any_call [((0, 0), (0, 0))] [((0, 0), (0, 0))] hi) trivial ?_
   refine wRUN hw ?_
   refine ⟨(D ++ Z, S), hms, ⟨hp', hb'⟩, ?_⟩
   dsimp only
   rw [hfn]
   generalize D ++ Z ++ S = W at *
   exact wSays (Says.of [((0, 0), (0, 0))] []) hd
  ·have hd : decide (((D.length + 20 : Nat) : Int) ≤ (L.length : Int)) = false := decide_eq_false (by omega)
   have hi := hins D R [] hrr (by simp only [List.length_append, List.length_nil]; omega)
   have hp' := merge_perm (D := D) (X := R) (S := []) (L := L) (by rw [List.append_nil]; exact hp)
   have hR0 : Rest 20 (D ++ sortV R) := rest_of hb (by rw [sortV_len]; omega) (sortV_sorted R)
   rw [List.append_nil] at hp'
   rw [List.append_nil, List.append_nil, hlen] at hi
   generalize D ++ sortV R = R0 at *
   generalize hU : D ++ R = U at *
   clear hU
   refine wRUN hd ?_
   refine wCall (op_any_call [((0, 0), (0, 0))] [((0, 0), (0, 0))] hi) trivial ?_
   refine wRUN trivial ?_
   refine a_loop (κ := Nat × List V) (fun q => ⟨mkS 0 63 [(0, .own (0, 0)), (1, .c (.int .i64 (L.length : Int))), (2, .clo f []), (6, .c (.int .i64 (q.1 : Int)))], [((0, 0), rowV q.2)]⟩)
    (fun q => q.2.Perm L ∧ Rest q.1 q.2 ∧ 1 ≤ q.1) (fun q => L.length - q.1) (20, R0) ⟨hp', hR0, by omega⟩ ?_ ?_
   ·exact wSays (Says.of [((0, 0), (0, 0))] []) hd
   ·clear hd hi hp' hR0 hlen hrr hlt hp hb
    rintro ⟨B, R⟩ ⟨hp, hR, hB⟩
    dsimp only at hp hR hB ⊢
    by_cases hlt : B < L.length
    ·have hd : decide ((B : Int) < (L.length : Int)) = true := decide_eq_true (by omega)
     have w2 : IntKind.i64.wrap ((2 : Int) * (B : Int)) = ((B + B : Nat) : Int) := wrapN (by omega) (by omega)
     have w3 : IntKind.i64.wrap ((B : Int) * 2) = ((B + B : Nat) : Int) := wrapN (by omega) (by omega)
     have hz1 : ((0 : Nat) : Int) = 0 := rfl
     have hz2 : ((0 + B + B : Nat) : Int) = ((B + B : Nat) : Int) := by rw [Nat.zero_add]
     have hB2 : 1 ≤ B + B := by omega
     have hmb : L.length - (B + B) < L.length - B := by omega
     refine wRUN (j2 hd w2) ?_
     refine a_loop (κ := List V × List V) (fun q => ⟨mkS 0 63 [(0, .own (0, 0)), (1, .c (.int .i64 (L.length : Int))), (2, .clo f []), (6, .c (.int .i64 (B : Int))), (7, .c (.int .i64 (q.1.length : Int))), (8, .c (.int .i64 ((q.1.length + B + B : Nat) : Int)))], [((0, 0), rowV (q.1 ++ q.2))]⟩)
      (fun q => (q.1 ++ q.2).Perm L ∧ Blocks (B + B) q.1 ∧ Rest B q.2) (fun q => q.2.length) ([], R) ⟨hp, blocks_nil _, hR⟩ ?_ ?_
     ·dsimp only [List.length_nil, List.nil_append]
      rw [hz1, hz2]
      exact wSays (Says.of [((0, 0), (0, 0))] []) hd
     ·clear hp hR
      rintro ⟨D, R⟩ ⟨hp, hb, hR⟩
      dsimp only at hp hb hR ⊢
      have hlen := hp.length_eq
      rw [List.length_append] at hlen
      have hrr : ∀ x ∈ R, x.right := fun x hx => hr x (hp.mem_iff.1 (List.mem_append_right _ hx))
      have wm : IntKind.i64.wrap ((D.length : Int) + (B : Int)) = ((D.length + B : Nat) : Int) := wrapN (by omega) (by omega)
      by_cases hlt2 : B + B ≤ R.length
      ·obtain ⟨X, Y, S, rfl, hX, hY, hXs, hYs, hS⟩ := rest_two hR hlt2
       simp only [List.length_append] at hlen
       have hd2 : decide (((D.length + B + B : Nat) : Int) ≤ (L.length : Int)) = true := decide_eq_true (by omega)
       have wb : IntKind.i64.wrap (((D.length + B + B : Nat) : Int) + ((B + B : Nat) : Int)) = ((D.length + B + B + B + B : Nat) : Int) := wrapN (by omega) (by omega)
       have hi := hsym _ D X Y S (Nat.le_refl _) (fun e => by rw [e, List.length_nil] at hX; omega) (fun e => by rw [e, List.length_nil] at hY; omega) hXs hYs (fun x hx => hrr x (by simp [hx])) (fun x hx => hrr x (by simp [hx])) (by simp only [List.length_append]; omega)
       have hp' := merge_perm hp
       have hZ : (sortV (X ++ Y)).length = B + B := by rw [sortV_len, List.length_append, hX, hY]
       have hb' := blocks_snoc hb hZ (sortV_sorted (X ++ Y))
       have hms : S.length < (X ++ Y ++ S).length := by simp only [List.length_append]; omega
       have hfn : (D ++ sortV (X ++ Y)).length = D.length + B + B := by rw [List.length_append, hZ]; omega
       rw [hX, hY] at hi
       have hU0 : D ++ (X ++ Y ++ S) = D ++ X ++ Y ++ S := by simp only [List.append_assoc]
       rw [hU0]
       clear hU0
       generalize sortV (X ++ Y) = Z at *
       generalize hU : D ++ X ++ Y ++ S = U at *
       clear hU
       refine wRUN (j2 hd2 wm) ?_
       refine wCall (op_any_call [((0, 0), (0, 0))] [((0, 0), (0, 0))] hi) trivial ?_
       refine wRUN (j2 w2 wb) ?_
       refine ⟨(D ++ Z, S), hms, ⟨hp', hb', hS⟩, ?_⟩
       dsimp only
       rw [hfn]
       generalize D ++ Z ++ S = W at *
       exact wSays (Says.of [((0, 0), (0, 0))] []) hd2
      ·have hd2 : decide (((D.length + B + B : Nat) : Int) ≤ (L.length : Int)) = false := decide_eq_false (by omega)
       by_cases hlt3 : B < R.length
       ·obtain ⟨X, Y, rfl, hX, hY0, hXs, hYs⟩ := rest_mid hR (by omega) hlt3
        rw [List.length_append] at hlen hlt2
        have hd3 : decide (((D.length + B : Nat) : Int) < (L.length : Int)) = true := decide_eq_true (by rw [List.length_append] at hlt3; omega)
        have hi := hsym _ D X Y [] (Nat.le_refl _) (fun e => by rw [e, List.length_nil] at hX; omega) hY0 hXs hYs (fun x hx => hrr x (by simp [hx])) (fun x hx => hrr x (by simp [hx])) (by simp only [List.length_append, List.length_nil]; omega)
        have hp' := merge_perm (D := D) (X := X ++ Y) (S := []) (L := L) (by rw [List.append_nil]; exact hp)
        have hR0 : Rest (B + B) (D ++ sortV (X ++ Y)) := rest_of hb (by rw [sortV_len, List.length_append]; omega) (sortV_sorted _)
        have hl2 : D.length + B + Y.length = L.length := by omega
        rw [List.append_nil] at hp'
        rw [List.append_nil, List.append_nil, hX, hl2] at hi
        rw [← List.append_assoc]
        generalize D ++ sortV (X ++ Y) = R0 at *
        generalize hU : D ++ X ++ Y = U at *
        clear hU
        refine wRUN (j3 hd2 wm hd3) ?_
        refine wCall (op_any_call [((0, 0), (0, 0))] [((0, 0), (0, 0))] hi) trivial ?_
        refine wRUN w3 ?_
        refine ⟨(B + B, R0), hmb, ⟨hp', hR0, hB2⟩, ?_⟩
        exact wSays (Says.of [((0, 0), (0, 0))] []) hd2
       ·have hd3 : decide (((D.length + B : Nat) : Int) < (L.length : Int)) = false := decide_eq_false (by omega)
        have hR0 : Rest (B + B) (D ++ R) := rest_of hb (by omega) (rest_one hR (by omega))
        generalize D ++ R = R0 at *
        refine wRUN (j4 hd2 wm hd3 w3) ?_
        refine ⟨(B + B, R0), hmb, ⟨hp, hR0, hB2⟩, ?_⟩
        exact wSays (Says.of [((0, 0), (0, 0))] []) hd2
    ·have hd : decide ((B : Int) < (L.length : Int)) = false := decide_eq_false (by omega)
     have hs := sortV_of (rest_one hR (by rw [hp.length_eq]; omega)) hp
     rw [hs]
     refine wRUN hd ?_
     exact wRetOf (ret_of [((0, 0), (0, 0))] []) Tryz.results314 hd
theorem sortStable_ac (f : FuncId) (hf : CmpAC f) (L : List V) (hr : ∀ x ∈ L, x.right) (hn : L.length ≤ 100000) :
  AC Tryz.prog 237 [.own (0, 0), .clo f []] (rowM L) (.tup []) (rowM (sortV L)) := by
 have h := stable_ac f hf L hr hn
 have hl : (L.map V.cs).length = L.length := List.length_map ..
 refine wEnter Tryz.func237 Tryz.ntmps237 ?_
 refine wRUN hl ?_
 refine wCall (op_any_call [((0, 0), (0, 0))] [((0, 0), (0, 0))] h) trivial ?_
 refine wRUN trivial ?_
 exact wRetOf (ret_of [((0, 0), (0, 0))] []) Tryz.results237 hn
end Go.Proofs.YtamgeodhpglgkaaGreat
