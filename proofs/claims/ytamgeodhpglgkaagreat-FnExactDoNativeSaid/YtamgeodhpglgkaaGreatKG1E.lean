/- spec.l3Keys, l3Sum, l3Sort, by the engine. -/
import Derived.Test.YtamgeodhpglgkaaGreatKG1AuG1B
import Derived.Test.YtamgeodhpglgkaaGreatKM33uM34
set_option linter.unusedSimpArgs false
set_option maxHeartbeats 8000000
namespace Go.Proofs.YtamgeodhpglgkaaGreat
open Go.RowKit
set_option maxRecDepth 10000
theorem l3Hold_no {t : V} (h : ¬ (t.kind = 5 ∨ t.kind = 6)) : (t.kind == 5 || t.kind == 6) = false := by
 cases hb : (t.kind == 5 || t.kind == 6) with
 | false => rfl
 | true => exact absurd (by simpa using hb) h
theorem l3Keys_bad {t : V} (h : ¬ (t.kind = 5 ∨ t.kind = 6)) : AC Tryz.prog 127 [cellsA t.enc] [] (.agg [.c (.int .i64 6), .c (.sl [])]) [] := by
 have ra := enc_rows t
 have ga := enc_head t
 have hh := l1Holds_ac t.kind t.num t.text ByteArray.empty t.kids.length
 rw [l3Hold_no h] at hh
 have h1 := l3Bad_ac 6
 refine wEnter Tryz.func127 Tryz.ntmps127 ?_
 refine wRUN (j2 ra ga) ?_
 refine w7 (op_data [] hh) trivial ?_
 refine wRUN trivial ?_
 refine w9 (op_shared [] h1) noV_eq ?_
 refine wRUN noV_eq ?_
 exact wRetOf (ret_of [] []) Tryz.results127 ra
theorem l3Keys_obj {t : V} (ht : t.right) (h6 : t.kind = 6) : AC Tryz.prog 127 [cellsA t.enc] [] (vrA (okR (arrV (t.keys.map strV)))) [] := by
 have ra := enc_rows t
 have ga := enc_head t
 have hh := l1Holds_ac t.kind t.num t.text ByteArray.empty t.kids.length
 have b6 : (t.kind == 6) = true := by simpa using h6
 have b56 : (t.kind == 5 || t.kind == 6) = true := by simp [h6]
 rw [b56] at hh
 have hks := l1Keys_ac ht.1 ht.2.1
 have hM := ht.2.1
 have hkc := count_kids t
 have hkl := countL_len t.kids
 obtain ⟨_, hko, hke⟩ := right_asc ht h6
 have ho := keysOf_own ht h6
 have hko2 : keysOf t t.kids.length = t.keys := ho
 rw [hko2] at hks
 have h3 := l1ArrayS_ac (t.keys.map strV) (by have := (keys_right (strs_sk hko) (by rw [List.length_map]; omega)).2.1; omega)
 have hll : t.keys.length ≤ 200 := by omega
 rw [vrA_ok]
 generalize hA : (arrV (t.keys.map strV)).enc = d at *
 refine wEnter Tryz.func127 Tryz.ntmps127 ?_
 refine wRUN (j2 ra ga) ?_
 refine w7 (op_data [] hh) trivial ?_
 refine wRUN trivial ?_
 refine w9 (op_shared [] hks) trivial ?_
 refine wRUN trivial ?_
 generalize hl : t.keys = l at *
 have hlm : (l.map strCs).length = l.length := by simp
 refine a_loop (κ := Nat) (fun k => ⟨mkS 0 42 [(0, cellsA t.enc), (2, .ptr (2, 0) 0), (3, .own (99, 0)), (4, .c (.sl (l.map strCs))), (5, .c (.int .i64 k))], [((2, 0), .box [.c (.int .i64 0), .nils]), ((99, 0), .row false 1 24 ((((l.take k).map strV).map V.enc).map encCs))]⟩)
  (fun k => k ≤ l.length) (fun k => l.length - k) 0 (Nat.zero_le _) ?_ ?_
 ·exact wSays (Says.of [((2, 0), (2, 0)), ((99, 0), (12, 0))] []) hM
 ·intro k hk
  by_cases hlt : k < l.length
  ·have hd1 : decide ((k : Int) < (l.length : Int)) = true := decide_eq_true (by omega)
   have hr : rowsAt (l.map strCs) 1 (k : Int) = true := by simp [rowsAt, hlt, strCs]
   have hg : (l.map strCs)[k]? = some [.str l[k]] := by simp [hlt, strCs]
   have hw := wrap_succ (k := k) (by omega)
   have hi := l1String_ac l[k]
   have hol2 : (l.take k).length + 1 ≤ 1000000 := by rw [List.length_take]; omega
   have hrow : ((((l.take k).map strV).map V.enc).map encCs) ++ [[.sl ((strV l[k]).enc.map CellD.cs)]] = ((((l.take (k + 1)).map strV).map V.enc).map encCs) := by rw [List.take_succ_eq_append_getElem hlt]; simp only [List.map_append, List.map_cons, List.map_nil, encCs]
   have hol : ((((l.take k).map strV).map V.enc).map encCs).length + 1 ≤ 1000000 := by simp only [List.length_map]; exact hol2
   generalize (((l.take k).map strV).map V.enc).map encCs = R0 at *
   generalize l[k] = s at *
   generalize (strV s).enc.map CellD.cs = U0 at *
   refine wRUN (j7 hlm hd1 ra ga b6 hr hg) ?_
   refine w9 (op_shared [] hi) trivial ?_
   refine wRUN (j2 hol hw) ?_
   refine ⟨k + 1, by omega, by omega, ?_⟩
   exact wSays (Says.of [((2, 0), (2, 0)), ((99, 0), (33, 0))] []) hrow
  ·have hd1 : decide ((k : Int) < (l.length : Int)) = false := decide_eq_false (by omega)
   have hke : l.take k = l := List.take_of_length_le (by omega)
   rw [hke]
   refine wRUN (j2 hlm hd1) ?_
   refine w9 (op_shared [(99, 0)] h3) trivial ?_
   refine wRUN trivial ?_
   exact wRetOf (ret_of [] []) Tryz.results127 hd1
theorem l3Keys_arr {t : V} (ht : t.right) (h5 : t.kind = 5) : AC Tryz.prog 127 [cellsA t.enc] [] (vrA (okR (arrV (numsV t.kids.length)))) [] := by
 have ra := enc_rows t
 have ga := enc_head t
 have hh := l1Holds_ac t.kind t.num t.text ByteArray.empty t.kids.length
 have b6 : (t.kind == 6) = false := by simp [h5]
 have b56 : (t.kind == 5 || t.kind == 6) = true := by simp [h5]
 rw [b56] at hh
 have hks := l1Keys_ac ht.1 ht.2.1
 have hM := ht.2.1
 have hkc := count_kids t
 have hkl := countL_len t.kids
 have hlen := keysOf_len t t.kids.length
 have h3 := l1ArrayS_ac (numsV t.kids.length) (by have := (keys_right (numsV_sk (n := t.kids.length) (by omega)) (by rw [numsV_len]; omega)).2.1; omega)
 rw [vrA_ok]
 generalize hA : (arrV (numsV t.kids.length)).enc = d at *
 generalize keysOf t t.kids.length = ks at *
 have hlm : (ks.map strCs).length = t.kids.length := by rw [List.length_map]; exact hlen
 have hnn : t.kids.length ≤ 200 := by omega
 refine wEnter Tryz.func127 Tryz.ntmps127 ?_
 refine wRUN (j2 ra ga) ?_
 refine w7 (op_data [] hh) trivial ?_
 refine wRUN trivial ?_
 refine w9 (op_shared [] hks) trivial ?_
 refine wRUN trivial ?_
 generalize hn : t.kids.length = n at *
 refine a_loop (κ := Nat) (fun k => ⟨mkS 0 42 [(0, cellsA t.enc), (2, .ptr (2, 0) 0), (3, .own (99, 0)), (4, .c (.sl (ks.map strCs))), (5, .c (.int .i64 k))], [((2, 0), .box [.c (.int .i64 0), .nils]), ((99, 0), .row false 1 24 (((numsV k).map V.enc).map encCs))]⟩)
  (fun k => k ≤ n) (fun k => n - k) 0 (Nat.zero_le _) ?_ ?_
 ·exact wSays (Says.of [((2, 0), (2, 0)), ((99, 0), (12, 0))] []) hM
 ·intro k hk
  by_cases hlt : k < n
  ·have hd1 : decide ((k : Int) < (n : Int)) = true := decide_eq_true (by omega)
   have hw := wrap_succ (k := k) (by omega)
   have hi := l1Number_ac (k : Int)
   have hs := numsV_succ k
   have hl : (numsV k).length = k := numsV_len k
   have hrow : ((numsV k).map V.enc).map encCs ++ [[.sl ((numV (k : Int)).enc.map CellD.cs)]] = ((numsV (k + 1)).map V.enc).map encCs := by rw [hs]; simp [encCs]
   have hol : (((numsV k).map V.enc).map encCs).length + 1 ≤ 1000000 := by simp only [List.length_map]; omega
   clear hs hl
   generalize ((numsV k).map V.enc).map encCs = R0 at *
   generalize (numV (k : Int)).enc.map CellD.cs = U0 at *
   refine wRUN (j5 hlm hd1 ra ga b6) ?_
   refine w9 (op_shared [] hi) trivial ?_
   refine wRUN (j2 hol hw) ?_
   refine ⟨k + 1, by omega, by omega, ?_⟩
   exact wSays (Says.of [((2, 0), (2, 0)), ((99, 0), (38, 0))] []) hrow
  ·have hd1 : decide ((k : Int) < (n : Int)) = false := decide_eq_false (by omega)
   have hke : k = n := by omega
   subst hke
   refine wRUN (j2 hlm hd1) ?_
   refine w9 (op_shared [(99, 0)] h3) trivial ?_
   refine wRUN trivial ?_
   exact wRetOf (ret_of [] []) Tryz.results127 hd1
theorem l3Keys_ac {t : V} (ht : t.right) : AC Tryz.prog 127 [cellsA t.enc] [] (vrA (keysV t)) [] := by
 unfold keysV
 by_cases h6 : t.kind = 6
 ·rw [if_pos h6]; exact l3Keys_obj ht h6
 ·rw [if_neg h6]
  by_cases h5 : t.kind = 5
  ·rw [if_pos h5]; exact l3Keys_arr ht h5
  ·rw [if_neg h5]; exact l3Keys_bad fun h => h.elim h5 h6
theorem l3Sum_ac {t : V} (ht : t.right) : AC Tryz.prog 130 [cellsA t.enc] [] (vrA (sumV t)) [] := by
 have ra := enc_rows t
 have ga := enc_head t
 have hh := l1Holds_ac t.kind t.num t.text ByteArray.empty t.kids.length
 unfold sumV
 by_cases h56 : t.kind = 5 ∨ t.kind = 6
 ·have b56 : (t.kind == 5 || t.kind == 6) = true := by simpa using h56
  rw [b56] at hh
  rw [if_pos h56]
  have hps := l1Parts_ac ht.1 ht.2.1
  have hnl := l3NullS_ac
  have hr : ∀ x ∈ t.kids, x.right := fun x hx => right_mem ht hx
  have hM := (right_kl ht).2
  obtain ⟨r, hS⟩ : ∃ r, sumGo nullV t.kids = r := ⟨_, rfl⟩
  rw [hS]
  refine wEnter Tryz.func130 Tryz.ntmps130 ?_
  refine wRUN (j2 ra ga) ?_
  refine w7 (op_data [] hh) trivial ?_
  refine wRUN trivial ?_
  refine w9 (op_shared [] hnl) trivial ?_
  refine wRUN trivial ?_
  refine w9 (op_shared [] hps) trivial ?_
  refine wRUN trivial ?_
  generalize t.kids = l at *
  have hlm : ((l.map V.enc).map encCs).length = l.length := by simp
  refine a_loop (κ := Nat × V) (fun q => ⟨mkS 0 34 [(2, .ptr (2, 0) 0), (3, .ptr (3, 0) 0), (4, .c (.sl ((l.map V.enc).map encCs))), (5, .c (.int .i64 q.1))], [((2, 0), .box [.c (.int .i64 0), .nils]), ((3, 0), .box [.c (.int .i64 0), cellsA q.2.enc])]⟩)
   (fun q => q.1 ≤ l.length ∧ q.2.right ∧ sumGo q.2 (l.drop q.1) = r) (fun q => l.length - q.1) (0, nullV) ⟨Nat.zero_le _, right_null, hS⟩ ?_ ?_
  ·exact wSays (Says.of [((2, 0), (2, 0)), ((3, 0), (3, 0))] []) hM
  ·rintro ⟨k, a⟩ ⟨hk, ha, hs⟩
   dsimp only at hk ha hs ⊢
   by_cases hlt : k < l.length
   ·have hd : decide ((k : Int) < (l.length : Int)) = true := by simpa using hlt
    have hrw : rowsAt ((l.map V.enc).map encCs) 1 k = true := by simp [rowsAt, hlt, encCs]
    have hgt : ((l.map V.enc).map encCs)[k]? = some [.sl (l[k].enc.map CellD.cs)] := by simp [hlt, encCs]
    have hw := wrap_succ (k := k) (by omega)
    have hur := hr _ (List.getElem_mem hlt)
    rw [List.drop_eq_getElem_cons hlt] at hs
    have hadd := l3Add_ac ha hur
    have hao := add_ok ha hur
    simp only [sumGo] at hs
    generalize l[k] = u at *
    rcases okRes_ways hao with ⟨v, e, hv⟩ | ⟨c, hc, e⟩
    ·rw [e] at hs
     have h00 : ((0 : Int) != 0) = false := rfl
     rw [e, vrA_some] at hadd
     refine wRUN (j4 hlm hd hrw hgt) ?_
     refine w9 (op_shared [] hadd) trivial ?_
     refine wRUN (j2 h00 hw) ?_
     refine ⟨(k + 1, v), by dsimp only; omega, ⟨by dsimp only; omega, hv, hs⟩, ?_⟩
     exact wSays (Says.of [((2, 0), (2, 0)), ((3, 0), (3, 0))] []) hw
    ·rw [e] at hs
     have hs' : r = (c, none) := hs.symm
     subst hs'
     have hcb : (c != 0) = true := by simpa using hc
     rw [e, vrA_none] at hadd
     rw [vrA_none]
     refine wRUN (j4 hlm hd hrw hgt) ?_
     refine w9 (op_shared [] hadd) trivial ?_
     refine wRUN hcb ?_
     exact wRetOf (ret_of [] []) Tryz.results130 hcb
   ·have hd : decide ((k : Int) < (l.length : Int)) = false := by simpa using hlt
    rw [List.drop_eq_nil_of_le (by omega)] at hs
    have hs' : r = okR a := hs.symm
    subst hs'
    rw [vrA_ok]
    refine wRUN (j2 hlm hd) ?_
    exact wRetOf (ret_of [] []) Tryz.results130 hd
 ·rw [l3Hold_no h56] at hh
  rw [if_neg h56, vrA_bad]
  have h1 := l3Bad_ac 6
  refine wEnter Tryz.func130 Tryz.ntmps130 ?_
  refine wRUN (j2 ra ga) ?_
  refine w7 (op_data [] hh) trivial ?_
  refine wRUN trivial ?_
  refine w9 (op_shared [] h1) noV_eq ?_
  refine wRUN noV_eq ?_
  exact wRetOf (ret_of [] []) Tryz.results130 ra
end Go.Proofs.YtamgeodhpglgkaaGreat
