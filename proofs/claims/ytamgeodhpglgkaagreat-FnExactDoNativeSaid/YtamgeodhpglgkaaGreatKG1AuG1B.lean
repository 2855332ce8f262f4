/- Texts of this proof: G1A G1D G1B. -/
import Derived.Test.YtamgeodhpglgkaaGreatKG99
import Derived.Test.YtamgeodhpglgkaaGreatKG70
import Derived.Test.YtamgeodhpglgkaaGreatKG25uG26
set_option linter.unusedSimpArgs false
set_option maxHeartbeats 8000000
namespace Go.Proofs.YtamgeodhpglgkaaGreat
open Go.RowKit
set_option maxRecDepth 10000
theorem typeOf_ac {t : V} (ht : t.right) : AC Tryz.prog 136 [t.av] [] (resA (typeV t)) [] := by
 obtain ⟨s1, s2, _⟩ := right_shape ht.1
 have hg := gives_ac (strV_right (kindB_ok t.kind))
 have h1 := text_ac (kindB t.kind)
 show AC _ _ _ _ (outA 0 (strV (kindB t.kind))) _
 generalize strV (kindB t.kind) = u at *
 have hk : t.kind = 0 ∨ t.kind = 1 ∨ t.kind = 2 ∨ t.kind = 3 ∨ t.kind = 4 ∨ t.kind = 5 ∨ t.kind = 6 := by omega
 rcases hk with h | h | h | h | h | h | h
 all_goals
  rw [h] at h1
  refine wEnter Tryz.func136 Tryz.ntmps136 ?_
  refine wRUN h ?_
  refine w9 (op_shared [] h1) trivial ?_
  refine wRUN trivial ?_
  refine w9 (op_shared [] hg) trivial ?_
  refine wRUN trivial ?_
  exact wRetOf (ret_of [] []) Tryz.results136 h
set_option maxRecDepth 10000
theorem l1Holds_ac (k m : Int) (t y : ByteArray) (n : Int) : AC Tryz.prog 223 [.agg [.c (.int .i64 k), .c (.int .i64 m), .c (.str t), .c (.str y), .c (.int .i64 n)]] [] (.c (.bool (k == 5 || k == 6))) [] := by
 cases h5 : k == 5 with
 | true =>
  rw [Bool.true_or]
  refine wEnter Tryz.func223 Tryz.ntmps223 ?_
  refine wRUN h5 ?_
  exact wRetOf (ret_of [] []) Tryz.results223 h5
 | false =>
  rw [Bool.false_or]
  refine wEnter Tryz.func223 Tryz.ntmps223 ?_
  refine wRUN h5 ?_
  exact wRetOf (ret_of [] []) Tryz.results223 h5
theorem l3Length_ac {t : V} (ht : t.right) : AC Tryz.prog 126 [cellsA t.enc] [] (vrA (lengthV t)) [] := by
 have ra := enc_rows t
 have ga := enc_head t
 have hn := right_num3 ht
 have hs := okText_size (right_text ht)
 unfold lengthV
 by_cases k0 : t.kind = 0
 ·have b0 : (t.kind == 0) = true := by simpa using k0
  have h1 := l1Number_ac 0
  rw [if_pos k0, vrA_ok]
  refine wEnter Tryz.func126 Tryz.ntmps126 ?_
  refine wRUN (j3 ra ga b0) ?_
  refine w9 (op_shared [] h1) trivial ?_
  refine wRUN trivial ?_
  exact wRetOf (ret_of [] []) Tryz.results126 b0
 ·have b0 : (t.kind == 0) = false := by simpa using k0
  rw [if_neg k0]
  by_cases k3 : t.kind = 3
  ·have b3 : (t.kind == 3) = true := by simpa using k3
   have h1 := l1Number_ac (absI t.num)
   have h2 := l3Size_ac t.num (by omega)
   have ha : max t.num (-t.num) = absI t.num := by unfold absI; omega
   rw [if_pos k3, vrA_ok, ha]
   refine wEnter Tryz.func126 Tryz.ntmps126 ?_
   refine wRUN (j4 ra ga b0 b3) ?_
   refine w7 (op_data [] h2) trivial ?_
   refine w9 (op_shared [] h1) trivial ?_
   refine wRUN trivial ?_
   exact wRetOf (ret_of [] []) Tryz.results126 b0
  ·have b3 : (t.kind == 3) = false := by simpa using k3
   rw [if_neg k3]
   by_cases k4 : t.kind = 4
   ·have b4 : (t.kind == 4) = true := by simpa using k4
    have h1 := l1Number_ac (t.text.size : Int)
    rw [if_pos k4, vrA_ok]
    refine wEnter Tryz.func126 Tryz.ntmps126 ?_
    refine wRUN (j5 ra ga b0 b3 b4) ?_
    refine w9 (op_shared [] h1) trivial ?_
    refine wRUN trivial ?_
    exact wRetOf (ret_of [] []) Tryz.results126 b0
   ·have b4 : (t.kind == 4) = false := by simpa using k4
    rw [if_neg k4]
    by_cases k5 : t.kind = 5
    ·have b5 : (t.kind == 5) = true := by simpa using k5
     have h1 := l1Number_ac (t.kids.length : Int)
     rw [if_pos (.inl k5), vrA_ok]
     refine wEnter Tryz.func126 Tryz.ntmps126 ?_
     refine wRUN (j6 ra ga b0 b3 b4 b5) ?_
     refine w9 (op_shared [] h1) trivial ?_
     refine wRUN trivial ?_
     exact wRetOf (ret_of [] []) Tryz.results126 b0
    ·have b5 : (t.kind == 5) = false := by simpa using k5
     by_cases k6 : t.kind = 6
     ·have b6 : (t.kind == 6) = true := by simpa using k6
      have h1 := l1Number_ac (t.kids.length : Int)
      rw [if_pos (.inr k6), vrA_ok]
      refine wEnter Tryz.func126 Tryz.ntmps126 ?_
      refine wRUN (j7 ra ga b0 b3 b4 b5 b6) ?_
      refine w9 (op_shared [] h1) trivial ?_
      refine wRUN trivial ?_
      exact wRetOf (ret_of [] []) Tryz.results126 b0
     ·have b6 : (t.kind == 6) = false := by simpa using k6
      have h1 := l3Bad_ac 6
      rw [if_neg (fun h => h.elim k5 k6), vrA_bad]
      refine wEnter Tryz.func126 Tryz.ntmps126 ?_
      refine wRUN (j7 ra ga b0 b3 b4 b5 b6) ?_
      refine w9 (op_shared [] h1) noV_eq ?_
      refine wRUN noV_eq ?_
      exact wRetOf (ret_of [] []) Tryz.results126 b0
theorem l3Type_ac {t : V} (ht : t.right) : AC Tryz.prog 128 [cellsA t.enc] [] (vrA (typeV t)) [] := by
 have ra := enc_rows t
 have ga := enc_head t
 obtain ⟨k0, k6⟩ := l3Kinds ht
 have hk := l1String_ac (kindB t.kind)
 unfold typeV
 rw [vrA_ok]
 generalize hd : t.kind = k at *
 have hcase : k = 0 ∨ k = 1 ∨ k = 2 ∨ k = 3 ∨ k = 4 ∨ k = 5 ∨ k = 6 := by omega
 rcases hcase with rfl | rfl | rfl | rfl | rfl | rfl | rfl
 all_goals
  refine wEnter Tryz.func128 Tryz.ntmps128 ?_
  refine wRUN (j2 ra ga) ?_
  refine w9 (op_shared [] hk) trivial ?_
  refine wRUN trivial ?_
  exact wRetOf (ret_of [] []) Tryz.results128 ra
theorem l3Range_ac (n : Int) : AC Tryz.prog 131 [.c (.int .i64 n)] [] (vrA (rangeV n)) [] := by
 unfold rangeV
 by_cases hb : n > 199
 ·have hd : decide (n > 199) = true := decide_eq_true hb
  have h1 := l3Bad_ac 3
  rw [if_pos hb, vrA_bad]
  refine wEnter Tryz.func131 Tryz.ntmps131 ?_
  refine wRUN hd ?_
  refine w9 (op_shared [] h1) noV_eq ?_
  refine wRUN noV_eq ?_
  exact wRetOf (ret_of [] []) Tryz.results131 hd
 ·have hd : decide (n > 199) = false := decide_eq_false hb
  have hnn : n.toNat ≤ 199 := by omega
  have h3 := l1ArrayS_ac (numsV n.toNat) (by have := (keys_right (numsV_sk (n := n.toNat) (by omega)) (by rw [numsV_len]; omega)).2.1; omega)
  rw [if_neg hb, vrA_ok]
  generalize hA : (arrV (numsV n.toNat)).enc = d at *
  refine wEnter Tryz.func131 Tryz.ntmps131 ?_
  refine wRUN hd ?_
  refine a_loop (κ := Nat) (fun k => ⟨mkS 0 22 [(0, .c (.int .i64 n)), (2, .ptr (2, 0) 0), (3, .own (99, 0)), (4, .c (.int .i64 k))], [((2, 0), .box [.c (.int .i64 0), .nils]), ((99, 0), .row false 1 24 (((numsV k).map V.enc).map encCs))]⟩)
   (fun k => k ≤ n.toNat) (fun k => n.toNat - k) 0 (Nat.zero_le _) ?_ ?_
  ·exact wSays (Says.of [((2, 0), (2, 0)), ((99, 0), (8, 0))] []) hd
  ·intro k hk
   by_cases hlt : k < n.toNat
   ·have hd1 : decide ((k : Int) < n) = true := decide_eq_true (by omega)
    have hw := wrap_succ (k := k) (by omega)
    have hi := l1Number_ac (k : Int)
    have hs := numsV_succ k
    have hl : (numsV k).length = k := numsV_len k
    have hrow : ((numsV k).map V.enc).map encCs ++ [[.sl ((numV (k : Int)).enc.map CellD.cs)]] = ((numsV (k + 1)).map V.enc).map encCs := by rw [hs]; simp [encCs]
    have hol : (((numsV k).map V.enc).map encCs).length + 1 ≤ 1000000 := by simp only [List.length_map]; omega
    clear hs hl
    generalize ((numsV k).map V.enc).map encCs = R0 at *
    generalize (numV (k : Int)).enc.map CellD.cs = U0 at *
    refine wRUN hd1 ?_
    refine w9 (op_shared [] hi) trivial ?_
    refine wRUN (j2 hol hw) ?_
    refine ⟨k + 1, by omega, by omega, ?_⟩
    exact wSays (Says.of [((2, 0), (2, 0)), ((99, 0), (18, 0))] []) hrow
   ·have hd1 : decide ((k : Int) < n) = false := decide_eq_false (by omega)
    have hke : k = n.toNat := by omega
    subst hke
    refine wRUN hd1 ?_
    refine w9 (op_shared [(99, 0)] h3) trivial ?_
    refine wRUN trivial ?_
    exact wRetOf (ret_of [] []) Tryz.results131 hd1
set_option maxRecDepth 10000
theorem sumGo_ok : ∀ (l : List V) (a : V), a.right → (∀ x ∈ l, x.right) → okRes (sumGo a l)
 | [], a, ha, _ => okRes_ok ha
 | k :: l, a, ha, h => by
  simp only [sumGo]
  rcases okRes_ways (add_ok ha (h k (by simp))) with ⟨v, e, hv⟩ | ⟨c, hc, e⟩
  ·rw [e]; exact sumGo_ok l v hv fun x hx => h x (by simp [hx])
  ·rw [e]; exact hc
theorem sumV_ok {t : V} (h : t.right) : okRes (sumV t) := by
 unfold sumV
 split
 ·exact sumGo_ok _ _ right_null fun x hx => right_mem h hx
 ·exact okRes_bad (by decide)
theorem addAll_ac {t : V} (ht : t.right) : AC Tryz.prog 138 [t.av] [] (resA (sumV t)) [] := by
 have he := each_ac t
 unfold sumV
 by_cases h56 : t.kind = 5 ∨ t.kind = 6
 ·have b : (t.kind == 5 || t.kind == 6) = true := by simpa using h56
  rw [b, cond_true] at he
  rw [if_pos h56]
  have hr : ∀ x ∈ t.kids, x.right := fun x hx => right_mem ht hx
  have hM := (right_kl ht).2
  obtain ⟨r, hS⟩ : ∃ r, sumGo nullV t.kids = r := ⟨_, rfl⟩
  rw [hS]
  have hg := gives_ac right_null
  have h0 : ((0 : Int) != 0) = false := rfl
  refine wEnter Tryz.func138 Tryz.ntmps138 ?_
  refine wRUN trivial ?_
  refine w9 (op_shared [] he) trivial ?_
  refine wRUN h0 ?_
  refine w7 (op_data [] null_ac) trivial ?_
  refine wRUN trivial ?_
  refine w9 (op_shared [] hg) trivial ?_
  refine wRUN trivial ?_
  generalize t.kids = l at *
  refine a_loop (κ := Nat × V) (fun q => ⟨mkS 0 34 [(2, .ptr (2, 0) 0), (5, .ptr (5, 0) 0), (19, .c (.sl (l.map V.cs))), (20, .c (.int .i64 l.length)), (21, .c (.int .i64 q.1))], [((2, 0), .box [.c (.int .i64 0), .c (.int .i64 0), .c (.int .i64 0), .c (.str ByteArray.empty), .nils, .nils]), ((5, 0), .box [.c (.int .i64 0), .c (.int .i64 q.2.kind), .c (.int .i64 q.2.num), .c (.str q.2.text), .c (.sl (q.2.keys.map strCs)), .c (.sl (q.2.kids.map V.cs))])]⟩)
   (fun q => q.1 ≤ l.length ∧ q.2.right ∧ sumGo q.2 (l.drop q.1) = r) (fun q => l.length - q.1) (0, nullV) ⟨Nat.zero_le _, right_null, hS⟩ ?_ ?_
  ·exact wSays (Says.of [((2, 0), (2, 0)), ((5, 0), (5, 0))] []) hM
  ·rintro ⟨k, a⟩ ⟨hk, ha, hs⟩
   dsimp only at hk ha hs ⊢
   by_cases hlt : k < l.length
   ·have hd : decide ((k : Int) < (l.length : Int)) = true := by simpa using hlt
    have hrw : rowsAt (l.map V.cs) 5 k = true := by simp [rowsAt, hlt, V.cs_eq]
    have hgt : (l.map V.cs)[k]? = some l[k].cs := by simp [hlt]
    have hw := wrap_succ (k := k) (by omega)
    have hur := hr _ (List.getElem_mem hlt)
    rw [List.drop_eq_getElem_cons hlt] at hs
    have hadd := add_ac ha hur
    have hao := add_ok ha hur
    simp only [sumGo] at hs
    generalize l[k] = u at *
    rcases okRes_ways hao with ⟨v, e, hv⟩ | ⟨c, hc, e⟩
    ·rw [e] at hs
     rw [e, resA_some] at hadd
     refine wRUN (j3 hd hrw hgt) ?_
     refine w9 (op_shared [] hadd) trivial ?_
     refine wRUN (j2 h0 hw) ?_
     refine ⟨(k + 1, v), by dsimp only; omega, ⟨by dsimp only; omega, hv, hs⟩, ?_⟩
     exact wSays (Says.of [((2, 0), (2, 0)), ((5, 0), (5, 0))] []) hd
    ·have hcb : (c != 0) = true := by simpa using hc
     rw [e] at hs
     rw [e, resA_none] at hadd
     rw [← hs, resA_none]
     refine wRUN (j3 hd hrw hgt) ?_
     refine w9 (op_shared [] hadd) trivial ?_
     refine wRUN hcb ?_
     exact wRetOf (ret_of [] []) Tryz.results138 hd
   ·have hd : decide ((k : Int) < (l.length : Int)) = false := by simpa using hlt
    rw [List.drop_of_length_le (by omega)] at hs
    have hs' : r = (0, some a) := hs.symm
    rw [hs', resA_some]
    refine wRUN hd ?_
    exact wRetOf (ret_of [] []) Tryz.results138 hd
 ·have b : (t.kind == 5 || t.kind == 6) = false := by simpa using h56
  have h6 : ((6 : Int) != 0) = true := rfl
  rw [b, cond_false] at he
  rw [if_neg h56]
  show AC _ _ _ _ (outA 6 nullV) _
  refine wEnter Tryz.func138 Tryz.ntmps138 ?_
  refine wRUN trivial ?_
  refine w9 (op_shared [] he) trivial ?_
  refine wRUN h6 ?_
  refine w9 (op_shared [] (refuses_ac 6)) trivial ?_
  refine wRUN trivial ?_
  exact wRetOf (ret_of [] []) Tryz.results138 h6
end Go.Proofs.YtamgeodhpglgkaaGreat
