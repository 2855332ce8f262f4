/- Texts of this proof: M33 G92 M34. -/
import Derived.Test.YtamgeodhpglgkaaGreatKM32
import Derived.Test.YtamgeodhpglgkaaGreatKG91
set_option linter.unusedSimpArgs false
set_option maxHeartbeats 8000000
namespace Go.Proofs.YtamgeodhpglgkaaGreat
open Go.RowKit
theorem sorted_take {T : List V} (h : SortedV T) (q : Nat) : SortedV (T.take q) := List.Pairwise.sublist (List.take_sublist q T) h
theorem sorted_drop {T : List V} (h : SortedV T) (q : Nat) : SortedV (T.drop q) := List.Pairwise.sublist (List.drop_sublist q T) h
theorem sorted_td {T : List V} (h : SortedV T) (q : Nat) : ∀ u ∈ T.take q, ∀ w ∈ T.drop q, leV u w := by
 have h2 : SortedV (T.take q ++ T.drop q) := by rw [List.take_append_drop]; exact h
 exact (List.pairwise_append.1 h2).2.2
theorem sorted_at {T : List V} (h : SortedV T) {i j : Nat} (hij : i ≤ j) (hj : j < T.length) : leV (T[i]'(by omega)) T[j] := by
 by_cases he : i = j
 ·subst he; exact leV_refl _
 ·exact List.pairwise_iff_getElem.1 h i j (by omega) hj (by omega)
theorem take_le {T : List V} (h : SortedV T) {q : Nat} (hq : q < T.length) : ∀ u ∈ T.take (q + 1), leV u T[q] := fun u hu => by
 obtain ⟨i, hi, rfl⟩ := List.mem_iff_getElem.1 hu
 rw [List.getElem_take]
 have : i < q + 1 := by have := hi; rw [List.length_take] at this; omega
 exact sorted_at h (by omega) hq
theorem drop_ge {T : List V} (h : SortedV T) {q : Nat} (hq : q < T.length) : ∀ w ∈ T.drop q, leV T[q] w := fun w hw => by
 obtain ⟨i, hi, rfl⟩ := List.mem_iff_getElem.1 hw
 rw [List.getElem_drop]
 rw [List.length_drop] at hi
 exact sorted_at h (by omega) (by omega)
theorem sorted_ins {T : List V} (h : SortedV T) {x : V} {q : Nat} (h1 : ∀ u ∈ T.take q, leV u x) (h2 : ∀ w ∈ T.drop q, leV x w) : SortedV (T.take q ++ x :: T.drop q) := by
 refine sorted_app (sorted_take h q) (List.pairwise_cons.2 ⟨h2, sorted_drop h q⟩) fun u hu w hw => ?_
 rcases List.mem_cons.1 hw with rfl | hw
 ·exact h1 u hu
 ·exact sorted_td h q u hu w hw
theorem ins_perm (T : List V) (x : V) (q : Nat) : (T.take q ++ x :: T.drop q).Perm (x :: T) := by
 have := List.perm_middle (a := x) (l₁ := T.take q) (l₂ := T.drop q)
 rwa [List.take_append_drop] at this
theorem ins_next {X : List V} {k : Nat} (hk : k < X.length) {q : Nat} (h1 : ∀ u ∈ (sortV (X.take k)).take q, leV u X[k]) (h2 : ∀ w ∈ (sortV (X.take k)).drop q, leV X[k] w) :
  (sortV (X.take k)).take q ++ X[k] :: (sortV (X.take k)).drop q = sortV (X.take (k + 1)) := by
 refine (sortV_of (sorted_ins (sortV_sorted _) h1 h2) ?_).symm
 refine (ins_perm _ _ q).trans ?_
 rw [List.take_succ_eq_append_getElem hk]
 exact ((sortV_perm (X.take k)).cons _).trans (List.perm_append_singleton _ _).symm
theorem sortV_short {X : List V} (h : X.length ≤ 1) : sortV X = X := by
 refine sortV_self ?_
 match X, h with
 | [], _ => exact List.Pairwise.nil
 | [x], _ => exact List.pairwise_singleton _ _
theorem sortV_mem {X : List V} {x : V} : x ∈ sortV X ↔ x ∈ X := (sortV_perm X).mem_iff
set_option maxRecDepth 10000
def CmpAC (f : FuncId) : Prop := callable Tryz.prog f = true ∧ ∀ x y : V, x.right → AC Tryz.prog f [x.av, y.av] [] (.c (.int .i64 (x.cmp y))) []
theorem insertionSort_ac (f : FuncId) (hf : CmpAC f) (P X S : List V) (hr : ∀ x ∈ X, x.right) (hn : (P ++ X ++ S).length ≤ 100000) :
  AC Tryz.prog 359 [.own (0, 0), .c (.int .i64 (P.length : Int)), .c (.int .i64 ((P.length + X.length : Nat) : Int)), .clo f []] (rowM (P ++ X ++ S)) (.tup []) (rowM (P ++ sortV X ++ S)) := by
 obtain ⟨hcal, hf⟩ := hf
 simp only [List.length_append] at hn
 have hz : P ++ X ++ S = P ++ sortV (X.take 1) ++ X.drop 1 ++ S := by
  rw [sortV_short (X := X.take 1) (by rw [List.length_take]; omega)]
  conv => lhs; rw [← List.take_append_drop 1 X]
  simp only [List.append_assoc]
 rw [hz]
 have w0 := wrap_succ (k := P.length) (by omega)
 refine wEnter Tryz.func359 Tryz.ntmps359 ?_
 refine wRUN w0 ?_
 refine a_loop (κ := Nat) (fun k => ⟨mkS 0 53 [(0, .own (0, 0)), (1, .c (.int .i64 (P.length : Int))), (2, .c (.int .i64 ((P.length + X.length : Nat) : Int))), (3, .clo f []), (8, .c (.int .i64 ((P.length + k : Nat) : Int)))], [((0, 0), rowV (P ++ sortV (X.take k) ++ X.drop k ++ S))]⟩)
  (fun k => 1 ≤ k) (fun k => X.length - k) 1 (Nat.le_refl _) ?_ ?_
 ·exact wSays (Says.of [((0, 0), (0, 0))] []) hn
 ·intro k hk
  by_cases hlt : k < X.length
  ·have hd : decide (((P.length + k : Nat) : Int) < ((P.length + X.length : Nat) : Int)) = true := decide_eq_true (by omega)
   have hw : IntKind.i64.wrap (((P.length + k : Nat) : Int) + 1) = ((P.length + (k + 1) : Nat) : Int) := wrapN (by omega) (by omega)
   have hxr := hr _ (List.getElem_mem hlt)
   have hTl : (sortV (X.take k)).length = k := by rw [sortV_len, List.length_take]; omega
   have hTs := sortV_sorted (X.take k)
   have hins := fun (q : Nat) h1 h2 => ins_next hlt (q := q) h1 h2
   have hdr : X.drop k = X[k] :: X.drop (k + 1) := List.drop_eq_getElem_cons hlt
   obtain ⟨T', hT'⟩ : ∃ T', sortV (X.take (k + 1)) = T' := ⟨_, rfl⟩
   rw [hT'] at hins
   have hXl : (X.drop (k + 1)).length = X.length - (k + 1) := List.length_drop
   rw [hdr]
   generalize sortV (X.take k) = T at *
   generalize hD : X.drop (k + 1) = D at *
   generalize X[k] = x at *
   refine wRUN hd ?_
   refine a_loop (κ := Nat) (fun q => ⟨mkS 0 53 [(0, .own (0, 0)), (1, .c (.int .i64 (P.length : Int))), (2, .c (.int .i64 ((P.length + X.length : Nat) : Int))), (3, .clo f []), (8, .c (.int .i64 ((P.length + k : Nat) : Int))), (9, .c (.int .i64 ((P.length + q : Nat) : Int)))], [((0, 0), rowV (P ++ T.take q ++ x :: (T.drop q ++ D ++ S)))]⟩)
    (fun q => q ≤ k ∧ ∀ w ∈ T.drop q, leV x w) (fun q => q) k ⟨Nat.le_refl _, by rw [List.drop_of_length_le (by omega)]; simp⟩ ?_ ?_
   ·have hst : P ++ T ++ x :: D ++ S = P ++ T.take k ++ x :: (T.drop k ++ D ++ S) := by
     rw [List.take_of_length_le (by omega), List.drop_of_length_le (by omega)]
     simp
    rw [hst]
    exact wSays (Says.of [((0, 0), (0, 0))] []) hd
   ·rintro q ⟨hq, hge⟩
    have fin : (∀ u ∈ T.take q, leV u x) → P ++ T.take q ++ x :: (T.drop q ++ D ++ S) = P ++ T' ++ D ++ S := fun hu => by
     rw [← hins q hu hge]
     simp
    cases q with
    | zero =>
     have hd0 : decide (((P.length + 0 : Nat) : Int) > (P.length : Int)) = false := decide_eq_false (by omega)
     have hfin := fin (by simp)
     rw [hfin]
     refine wRUN (j2 hd0 hw) ?_
     refine ⟨k + 1, by omega, by omega, ?_⟩
     rw [hT', hD]
     exact wSays (Says.of [((0, 0), (0, 0))] []) hd
    | succ q =>
     have hqT : q < T.length := by omega
     have hd0 : decide (((P.length + (q + 1) : Nat) : Int) > (P.length : Int)) = true := decide_eq_true (by omega)
     have w1 : IntKind.i64.wrap (((P.length + (q + 1) : Nat) : Int) - 1) = ((P.length + q : Nat) : Int) := wrapN (by omega) (by omega)
     have e2 : P ++ T.take (q + 1) ++ x :: (T.drop (q + 1) ++ D ++ S) = (P ++ T.take q) ++ T[q] :: (x :: (T.drop (q + 1) ++ D ++ S)) := by
      rw [List.take_succ_eq_append_getElem hqT]
      simp only [List.append_assoc, List.cons_append, List.nil_append]
     have l1 : (P ++ T.take (q + 1)).length = P.length + (q + 1) := by simp; omega
     have l2 : (P ++ T.take q).length = P.length + q := by simp; omega
     obtain ⟨r1, g1, s1⟩ := row_midN (P ++ T.take (q + 1)) x (T.drop (q + 1) ++ D ++ S) l1 rfl
     obtain ⟨r2, g2, _⟩ := row_midN _ _ _ l2 e2
     have hcm := hf x T[q] hxr
     have htl := take_le hTs hqT
     have s1' := s1 T[q]
     have e3 : (P ++ T.take (q + 1)) ++ T[q] :: (T.drop (q + 1) ++ D ++ S) = (P ++ T.take q) ++ T[q] :: (T[q] :: (T.drop (q + 1) ++ D ++ S)) := by
      rw [List.take_succ_eq_append_getElem hqT]
      simp only [List.append_assoc, List.cons_append, List.nil_append]
     obtain ⟨r3, g3, s3⟩ := row_midN _ _ _ l2 e3
     have s3' := s3 x
     have e4 : (P ++ T.take q) ++ x :: (T[q] :: (T.drop (q + 1) ++ D ++ S)) = P ++ T.take q ++ x :: (T.drop q ++ D ++ S) := by
      rw [List.drop_eq_getElem_cons hqT]
      simp only [List.append_assoc, List.cons_append, List.nil_append]
     have hdq : T.drop q = T[q] :: T.drop (q + 1) := List.drop_eq_getElem_cons hqT
     rw [e4] at s3'
     have hge' : leV x T[q] → ∀ w ∈ T.drop q, leV x w := fun h w hw => by
      rw [hdq] at hw
      rcases List.mem_cons.1 hw with rfl | hw
      ·exact h
      ·exact hge w hw
     have hfin : leV T[q] x → P ++ T.take (q + 1) ++ x :: (T.drop (q + 1) ++ D ++ S) = P ++ T' ++ D ++ S := fun h => fin fun u hu => leV_trans (htl u hu) h
     clear s1 s3 e2 e3 e4 fin hdq l1 l2 htl
     generalize hL1 : (P ++ T.take (q + 1)) ++ T[q] :: (T.drop (q + 1) ++ D ++ S) = L1 at *
     generalize hL2 : P ++ T.take q ++ x :: (T.drop q ++ D ++ S) = L2 at *
     generalize hL0 : P ++ T.take (q + 1) ++ x :: (T.drop (q + 1) ++ D ++ S) = L0 at *
     generalize T[q] = y at *
     cases hc : decide (x.cmp y < 0) with
     | false =>
      have hle : leV y x := not_less.1 (by simpa using hc)
      refine wRUN (j6 hd0 r1 g1 w1 r2 g2) ?_
      refine w7 (op_data [] hcm) hcal ?_
      refine wRUN (j2 hc hw) ?_
      refine ⟨k + 1, by omega, by omega, ?_⟩
      rw [hT', hD, hfin hle]
      exact wSays (Says.of [((0, 0), (0, 0))] []) hd
     | true =>
      have hle : leV x y := less_le (by simpa using hc)
      refine wRUN (j6 hd0 r1 g1 w1 r2 g2) ?_
      refine w7 (op_data [] hcm) hcal ?_
      refine wRUN (j10 hc r1 g1 w1 r2 g2 s1' r3 g3 s3') ?_
      refine ⟨q, by omega, ⟨by omega, hge' hle⟩, ?_⟩
      rw [hL2]
      exact wSays (Says.of [((0, 0), (0, 0))] []) hd
  ·have hd : decide (((P.length + k : Nat) : Int) < ((P.length + X.length : Nat) : Int)) = false := decide_eq_false (by omega)
   have hfin : P ++ sortV (X.take k) ++ X.drop k ++ S = P ++ sortV X ++ S := by
    rw [List.take_of_length_le (by omega), List.drop_of_length_le (by omega)]
    simp
   rw [hfin]
   refine wRUN hd ?_
   exact wRetOf (ret_of [((0, 0), (0, 0))] []) Tryz.results359 hd
theorem lt_of_le_lt {a b c : V} (h1 : leV a b) (h2 : b.cmp c < 0) : a.cmp c < 0 := (trV a b c).2.2 h1 h2
theorem merge_two {X Y : List V} {s w : Nat} (hX : SortedV X) (hY : SortedV Y) (h1 : ∀ x ∈ X.take s, ∀ y ∈ Y.drop w, leV x y) (h2 : ∀ y ∈ Y.take w, ∀ x ∈ X.drop s, leV y x) :
  sortV (X.take s ++ Y.take w) ++ sortV (X.drop s ++ Y.drop w) = sortV (X ++ Y) := by
 refine (sortV_of (sorted_app (sortV_sorted _) (sortV_sorted _) fun a ha b hb => ?_) ?_).symm
 ·rw [sortV_mem] at ha hb
  rcases List.mem_append.1 ha with ha | ha
  ·rcases List.mem_append.1 hb with hb | hb
   ·exact sorted_td hX s a ha b hb
   ·exact h1 a ha b hb
  ·rcases List.mem_append.1 hb with hb | hb
   ·exact h2 a ha b hb
   ·exact sorted_td hY w a ha b hb
 ·refine ((sortV_perm _).append (sortV_perm _)).trans ?_
  have e : X ++ Y = (X.take s ++ X.drop s) ++ (Y.take w ++ Y.drop w) := by rw [List.take_append_drop, List.take_append_drop]
  rw [e, List.append_assoc, List.append_assoc]
  refine List.Perm.append_left _ ?_
  rw [← List.append_assoc, ← List.append_assoc]
  exact List.perm_append_comm.append_right _
theorem merge_low {X Y : List V} {s w : Nat} (hX : SortedV X) (hY : SortedV Y) (h : ∀ (h1 : 0 < s) (h2 : s ≤ X.length) (h3 : w < Y.length), leV (X[s - 1]'(by omega)) Y[w]) (hs : s ≤ X.length) : ∀ x ∈ X.take s, ∀ y ∈ Y.drop w, leV x y := fun x hx y hy => by
 obtain ⟨i, hi, rfl⟩ := List.mem_iff_getElem.1 hx
 obtain ⟨j, hj, rfl⟩ := List.mem_iff_getElem.1 hy
 rw [List.length_take] at hi
 rw [List.length_drop] at hj
 rw [List.getElem_take, List.getElem_drop]
 have := h (by omega) hs (by omega)
 exact leV_trans (leV_trans (sorted_at hX (show i ≤ s - 1 by omega) (by omega)) this) (sorted_at hY (show w ≤ w + j by omega) (by omega))
theorem merge_high {X Y : List V} {s w : Nat} (hX : SortedV X) (hY : SortedV Y) (h : ∀ (h1 : 0 < w) (h2 : w ≤ Y.length) (h3 : s < X.length), leV (Y[w - 1]'(by omega)) X[s]) (hw : w ≤ Y.length) : ∀ y ∈ Y.take w, ∀ x ∈ X.drop s, leV y x := merge_low hY hX h hw
theorem ins_one {Y : List V} (hY : SortedV Y) {x : V} {u : Nat} (h1 : ∀ y ∈ Y.take u, leV y x) (h2 : ∀ y ∈ Y.drop u, leV x y) : Y.take u ++ x :: Y.drop u = sortV ([x] ++ Y) :=
 (sortV_of (sorted_ins hY h1 h2) (ins_perm Y x u)).symm
theorem ins_last {X : List V} (hX : SortedV X) {y : V} {u : Nat} (h1 : ∀ x ∈ X.take u, leV x y) (h2 : ∀ x ∈ X.drop u, leV y x) : X.take u ++ y :: X.drop u = sortV (X ++ [y]) :=
 (sortV_of (sorted_ins hX h1 h2) ((ins_perm X y u).trans (List.perm_append_singleton _ _).symm)).symm
end Go.Proofs.YtamgeodhpglgkaaGreat
