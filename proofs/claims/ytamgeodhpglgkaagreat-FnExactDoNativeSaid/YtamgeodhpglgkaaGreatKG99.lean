/- impl.lengthOf, rangeOf, by the engine. -/
import Derived.Test.YtamgeodhpglgkaaGreatKM36uM37
set_option linter.unusedSimpArgs false
namespace Go.Proofs.YtamgeodhpglgkaaGreat
open Go.RowKit
set_option maxRecDepth 10000
theorem lengthV_ok {t : V} (h : t.right) : okRes (lengthV t) := by
 unfold lengthV
 have hn := right_num3 h
 have hk := (right_kl h).2
 have hs := okText_size (right_text h)
 repeat' split
 ·exact okRes_ok (numV_right (by omega))
 ·exact okRes_ok (numV_right (by omega))
 ·exact okRes_ok (numV_right (by omega))
 ·exact okRes_ok (numV_right (by omega))
 ·exact okRes_bad (by decide)
theorem implLength_ac (s : ByteArray) (h : s.size ≤ 1000000) : AC Tryz.prog 234 [.c (.str s)] [] (.c (.int .i64 s.size)) [] := by
 refine wEnter Tryz.func234 Tryz.ntmps234 ?_
 refine wRUN trivial ?_
 exact wRetOf (ret_of [] []) Tryz.results234 h
theorem rangeOf_ac (n : Int) (hn : -1000000000000000 ≤ n ∧ n ≤ 1000000000000000) : AC Tryz.prog 140 [.c (.int .i64 n)] [] (resA (rangeV n)) [] := by
 unfold rangeV
 by_cases hb : n > 199
 ·have hd : decide (n > 199) = true := decide_eq_true hb
  rw [if_pos hb]
  show AC _ _ _ _ (outA 3 nullV) _
  refine wEnter Tryz.func140 Tryz.ntmps140 ?_
  refine wRUN hd ?_
  refine w9 (op_shared [] (refuses_ac 3)) trivial ?_
  refine wRUN trivial ?_
  exact wRetOf (ret_of [] []) Tryz.results140 hd
 ·have hd : decide (n > 199) = false := decide_eq_false hb
  have hnn : n.toNat ≤ 199 := by omega
  have h3 := array_ac (numsV n.toNat)
  have h4 := gives_ac (keys_right (numsV_sk (n := n.toNat) (by omega)) (by rw [numsV_len]; omega))
  rw [if_neg hb]
  show AC _ _ _ _ (outA 0 _) _
  generalize hA : arrV (numsV n.toNat) = d at *
  refine wEnter Tryz.func140 Tryz.ntmps140 ?_
  refine wRUN hd ?_
  refine a_loop (κ := Nat) (fun k => ⟨mkS 0 22 [(0, .c (.int .i64 n)), (2, .ptr (2, 0) 0), (3, .own (99, 0)), (4, .c (.int .i64 k))], [((2, 0), .box [.c (.int .i64 0), .c (.int .i64 0), .c (.int .i64 0), .c (.str ByteArray.empty), .nils, .nils]), ((99, 0), .row false 5 101 ((numsV k).map V.cs))]⟩)
   (fun k => k ≤ n.toNat) (fun k => n.toNat - k) 0 (Nat.zero_le _) ?_ ?_
  ·exact wSays (Says.of [((2, 0), (2, 0)), ((99, 0), (8, 0))] []) hd
  ·intro k hk
   by_cases hlt : k < n.toNat
   ·have hd1 : decide ((k : Int) < n) = true := decide_eq_true (by omega)
    have hw := wrap_succ (k := k) (by omega)
    have hi := number_ac (k : Int)
    have hl := numsV_len k
    have hs := numsV_succ k
    have hrow : (numsV k).map V.cs ++ [(numV (k : Int)).cs] = (numsV (k + 1)).map V.cs := by rw [hs]; simp
    have hol : (numsV k).length + 1 ≤ 1000000 := by omega
    clear hs
    rw [V.cs_eq] at hrow
    generalize numsV k = R0 at *
    generalize numV (k : Int) = u at *
    refine wRUN hd1 ?_
    refine w9 (op_shared [] hi) trivial ?_
    refine wRUN (j2 hol hw) ?_
    refine ⟨k + 1, by omega, by omega, ?_⟩
    exact wSays (Says.of [((2, 0), (2, 0)), ((99, 0), (18, 0))] []) hrow
   ·have hd1 : decide ((k : Int) < n) = false := decide_eq_false (by omega)
    have hke : k = n.toNat := by omega
    subst hke
    generalize numsV n.toNat = R0 at *
    refine wRUN hd1 ?_
    refine w9 (op_shared [(99, 0)] h3) trivial ?_
    refine wRUN trivial ?_
    refine w9 (op_shared [] h4) trivial ?_
    refine wRUN trivial ?_
    exact wRetOf (ret_of [] []) Tryz.results140 hd1
theorem keysOf_bad {t : V} (h5 : t.kind ≠ 5) (h6 : t.kind ≠ 6) : AC Tryz.prog 135 [t.av] [] (outA 6 nullV) [] := by
 have b5 : (t.kind == 5) = false := by simpa using h5
 have b6 : (t.kind == 6) = false := by simpa using h6
 refine wEnter Tryz.func135 Tryz.ntmps135 ?_
 refine wRUN (j2 b6 b5) ?_
 refine w9 (op_shared [] (refuses_ac 6)) trivial ?_
 refine wRUN trivial ?_
 exact wRetOf (ret_of [] []) Tryz.results135 b5
theorem keysOf_arr {t : V} (ht : t.right) (h5 : t.kind = 5) : AC Tryz.prog 135 [t.av] [] (outA 0 (arrV (numsV t.kids.length))) [] := by
 have b5 : (t.kind == 5) = true := by simp [h5]
 have b6 : (t.kind == 6) = false := by simp [h5]
 have hkc := count_kids t
 have hkl := countL_len t.kids
 have hM := ht.2.1
 have hnn : t.kids.length ≤ 199 := by omega
 have h3 := array_ac (numsV t.kids.length)
 have h4 := gives_ac (keys_right (numsV_sk (n := t.kids.length) (by omega)) (by rw [numsV_len]; omega))
 generalize hA : arrV (numsV t.kids.length) = d at *
 refine wEnter Tryz.func135 Tryz.ntmps135 ?_
 refine wRUN (j2 b6 b5) ?_
 refine a_loop (κ := Nat) (fun k => ⟨mkS 0 43 [(2, .ptr (2, 0) 0), (3, .own (99, 0)), (30, .c (.int .i64 t.kids.length)), (31, .c (.int .i64 k))], [((2, 0), .box [.c (.int .i64 0), .c (.int .i64 0), .c (.int .i64 0), .c (.str ByteArray.empty), .nils, .nils]), ((99, 0), .row false 5 101 ((numsV k).map V.cs))]⟩)
  (fun k => k ≤ t.kids.length) (fun k => t.kids.length - k) 0 (Nat.zero_le _) ?_ ?_
 ·exact wSays (Says.of [((2, 0), (2, 0)), ((99, 0), (7, 0))] []) hM
 ·intro k hk
  by_cases hlt : k < t.kids.length
  ·have hd1 : decide ((k : Int) < (t.kids.length : Int)) = true := decide_eq_true (by omega)
   have hw := wrap_succ (k := k) (by omega)
   have hi := number_ac (k : Int)
   have hl := numsV_len k
   have hs := numsV_succ k
   have hrow : (numsV k).map V.cs ++ [(numV (k : Int)).cs] = (numsV (k + 1)).map V.cs := by rw [hs]; simp
   have hol : (numsV k).length + 1 ≤ 1000000 := by omega
   clear hs
   rw [V.cs_eq] at hrow
   generalize numsV k = R0 at *
   generalize numV (k : Int) = u at *
   refine wRUN hd1 ?_
   refine w9 (op_shared [] hi) trivial ?_
   refine wRUN (j2 hol hw) ?_
   refine ⟨k + 1, by omega, by omega, ?_⟩
   exact wSays (Says.of [((2, 0), (2, 0)), ((99, 0), (38, 0))] []) hrow
  ·have hd1 : decide ((k : Int) < (t.kids.length : Int)) = false := decide_eq_false (by omega)
   have hke : k = t.kids.length := by omega
   subst hke
   generalize numsV t.kids.length = R0 at *
   refine wRUN hd1 ?_
   refine w9 (op_shared [(99, 0)] h3) trivial ?_
   refine wRUN trivial ?_
   refine w9 (op_shared [] h4) trivial ?_
   refine wRUN trivial ?_
   exact wRetOf (ret_of [] []) Tryz.results135 hd1
theorem keysOf_obj {t : V} (ht : t.right) (h6 : t.kind = 6) : AC Tryz.prog 135 [t.av] [] (outA 0 (arrV (t.keys.map strV))) [] := by
 have b6 : (t.kind == 6) = true := by simp [h6]
 have hM := ht.2.1
 have hkc := count_kids t
 have hkl := countL_len t.kids
 obtain ⟨_, hko, hke⟩ := right_asc ht h6
 have hnn : t.keys.length ≤ 199 := by omega
 have h3 := array_ac (t.keys.map strV)
 have h4 := gives_ac (keys_right (strs_sk hko) (by rw [List.length_map]; omega))
 generalize hA : arrV (t.keys.map strV) = d at *
 refine wEnter Tryz.func135 Tryz.ntmps135 ?_
 refine wRUN b6 ?_
 generalize hl : t.keys = l at *
 refine a_loop (κ := Nat) (fun k => ⟨mkS 0 43 [(2, .ptr (2, 0) 0), (3, .own (99, 0)), (14, .c (.sl (l.map strCs))), (15, .c (.int .i64 l.length)), (16, .c (.int .i64 k))], [((2, 0), .box [.c (.int .i64 0), .c (.int .i64 0), .c (.int .i64 0), .c (.str ByteArray.empty), .nils, .nils]), ((99, 0), .row false 5 101 (((l.take k).map strV).map V.cs))]⟩)
  (fun k => k ≤ l.length) (fun k => l.length - k) 0 (Nat.zero_le _) ?_ ?_
 ·exact wSays (Says.of [((2, 0), (2, 0)), ((99, 0), (7, 0))] []) hM
 ·intro k hk
  by_cases hlt : k < l.length
  ·have hd1 : decide ((k : Int) < (l.length : Int)) = true := decide_eq_true (by omega)
   have hr : rowsAt (l.map strCs) 1 (k : Int) = true := by simp [rowsAt, hlt, strCs]
   have hg : (l.map strCs)[k]? = some [.str l[k]] := by simp [hlt, strCs]
   have hw := wrap_succ (k := k) (by omega)
   have hi := text_ac l[k]
   have hl' : ((l.take k).map strV).length = k := by rw [List.length_map, List.length_take]; omega
   have hrow : ((l.take k).map strV).map V.cs ++ [(strV l[k]).cs] = ((l.take (k + 1)).map strV).map V.cs := by rw [List.take_succ_eq_append_getElem hlt]; simp only [List.map_append, List.map_cons, List.map_nil]
   have hol : ((l.take k).map strV).length + 1 ≤ 1000000 := by omega
   rw [V.cs_eq] at hrow
   generalize (l.take k).map strV = R0 at *
   generalize l[k] = s at *
   generalize strV s = u at *
   refine wRUN (j3 hd1 hr hg) ?_
   refine w9 (op_shared [] hi) trivial ?_
   refine wRUN (j2 hol hw) ?_
   refine ⟨k + 1, by omega, by omega, ?_⟩
   exact wSays (Says.of [((2, 0), (2, 0)), ((99, 0), (24, 0))] []) hrow
  ·have hd1 : decide ((k : Int) < (l.length : Int)) = false := decide_eq_false (by omega)
   have hke : l.take k = l := List.take_of_length_le (by omega)
   rw [hke]
   generalize l.map strV = R0 at *
   refine wRUN hd1 ?_
   refine w9 (op_shared [(99, 0)] h3) trivial ?_
   refine wRUN trivial ?_
   refine w9 (op_shared [] h4) trivial ?_
   refine wRUN trivial ?_
   exact wRetOf (ret_of [] []) Tryz.results135 hd1
theorem lengthOf_ac {t : V} (ht : t.right) : AC Tryz.prog 134 [t.av] [] (resA (lengthV t)) [] := by
 have hok := lengthV_ok ht
 have hn := right_num3 ht
 have hk := (right_kl ht).2
 have hs := okText_size (right_text ht)
 have wn : IntKind.i64.wrap (0 - t.num) = -t.num := by rw [Int.zero_sub]; exact wrap_in (by omega) (by omega)
 have hmax : (if -t.num > t.num then -t.num else t.num) = max t.num (-t.num) := by split <;> omega
 have hL := implLength_ac t.text (by omega)
 have hz := sizeVals_ac t.kids
 unfold lengthV at hok ⊢
 by_cases h0 : t.kind = 0
 ·have b0 : (t.kind == 0) = true := by simp [h0]
  rw [if_pos h0] at hok ⊢
  have hg := gives_ac (t := numV 0) hok.2
  have h1 := number_ac 0
  show AC _ _ _ _ (outA 0 (numV 0)) _
  generalize numV 0 = u at *
  refine wEnter Tryz.func134 Tryz.ntmps134 ?_
  refine wRUN b0 ?_
  refine w9 (op_shared [] h1) trivial ?_
  refine wRUN trivial ?_
  refine w9 (op_shared [] hg) trivial ?_
  refine wRUN trivial ?_
  exact wRetOf (ret_of [] []) Tryz.results134 b0
 ·have b0 : (t.kind == 0) = false := by simpa using h0
  rw [if_neg h0] at hok ⊢
  by_cases h3 : t.kind = 3
  ·have b3 : (t.kind == 3) = true := by simp [h3]
   rw [if_pos h3] at hok ⊢
   have hg := gives_ac (t := numV (max t.num (-t.num))) hok.2
   have h1 := number_ac (max t.num (-t.num))
   show AC _ _ _ _ (outA 0 (numV (max t.num (-t.num)))) _
   generalize numV (max t.num (-t.num)) = u at *
   refine wEnter Tryz.func134 Tryz.ntmps134 ?_
   refine wRUN (j4 b0 b3 wn hmax) ?_
   refine w9 (op_shared [] h1) trivial ?_
   refine wRUN trivial ?_
   refine w9 (op_shared [] hg) trivial ?_
   refine wRUN trivial ?_
   exact wRetOf (ret_of [] []) Tryz.results134 b0
  ·have b3 : (t.kind == 3) = false := by simpa using h3
   rw [if_neg h3] at hok ⊢
   by_cases h4 : t.kind = 4
   ·have b4 : (t.kind == 4) = true := by simp [h4]
    rw [if_pos h4] at hok ⊢
    have hg := gives_ac (t := numV t.text.size) hok.2
    have h1 := number_ac t.text.size
    show AC _ _ _ _ (outA 0 (numV t.text.size)) _
    generalize numV t.text.size = u at *
    refine wEnter Tryz.func134 Tryz.ntmps134 ?_
    refine wRUN (j3 b0 b3 b4) ?_
    refine w7 (op_data [] hL) trivial ?_
    refine wRUN trivial ?_
    refine w9 (op_shared [] h1) trivial ?_
    refine wRUN trivial ?_
    refine w9 (op_shared [] hg) trivial ?_
    refine wRUN trivial ?_
    exact wRetOf (ret_of [] []) Tryz.results134 b0
   ·have b4 : (t.kind == 4) = false := by simpa using h4
    rw [if_neg h4] at hok ⊢
    by_cases h56 : t.kind = 5 ∨ t.kind = 6
    ·rw [if_pos h56] at hok ⊢
     have hg := gives_ac (t := numV t.kids.length) hok.2
     have h1 := number_ac t.kids.length
     show AC _ _ _ _ (outA 0 (numV t.kids.length)) _
     generalize numV t.kids.length = u at *
     by_cases h5 : t.kind = 5
     ·have b5 : (t.kind == 5) = true := by simp [h5]
      refine wEnter Tryz.func134 Tryz.ntmps134 ?_
      refine wRUN (j4 b0 b3 b4 b5) ?_
      refine w7 (op_data [] hz) trivial ?_
      refine wRUN trivial ?_
      refine w9 (op_shared [] h1) trivial ?_
      refine wRUN trivial ?_
      refine w9 (op_shared [] hg) trivial ?_
      refine wRUN trivial ?_
      exact wRetOf (ret_of [] []) Tryz.results134 b0
     ·have b5 : (t.kind == 5) = false := by simpa using h5
      have b6 : (t.kind == 6) = true := by simp; omega
      refine wEnter Tryz.func134 Tryz.ntmps134 ?_
      refine wRUN (j5 b0 b3 b4 b5 b6) ?_
      refine w7 (op_data [] hz) trivial ?_
      refine wRUN trivial ?_
      refine w9 (op_shared [] h1) trivial ?_
      refine wRUN trivial ?_
      refine w9 (op_shared [] hg) trivial ?_
      refine wRUN trivial ?_
      exact wRetOf (ret_of [] []) Tryz.results134 b0
    ·rw [if_neg h56]
     have b5 : (t.kind == 5) = false := by simp; omega
     have b6 : (t.kind == 6) = false := by simp; omega
     show AC _ _ _ _ (outA 6 nullV) _
     refine wEnter Tryz.func134 Tryz.ntmps134 ?_
     refine wRUN (j5 b0 b3 b4 b5 b6) ?_
     refine w9 (op_shared [] (refuses_ac 6)) trivial ?_
     refine wRUN trivial ?_
     exact wRetOf (ret_of [] []) Tryz.results134 b0
end Go.Proofs.YtamgeodhpglgkaaGreat
