/- Texts of this proof: G56 G26. -/
import Derived.Test.YtamgeodhpglgkaaGreatKG45uG34
import Derived.Test.YtamgeodhpglgkaaGreatKG49uG52
set_option linter.unusedSimpArgs false
set_option maxHeartbeats 8000000
namespace Go.Proofs.YtamgeodhpglgkaaGreat
open Go.RowKit
set_option maxRecDepth 10000
theorem l1KeysO_ac {t : V} (hw : t.wf) (hc : t.count ≤ 200) : AC Tryz.prog 227 [cellsA t.enc] [] (.own (0, 0)) [((0, 0), .row false 1 9 ((keysOf t t.kids.length).map strCs))] := by
 have hkl := kids_len_le hc
 have hkn := kposL_len t t.kids.length
 have hch := l1Children_ac hw hc
 refine wEnter Tryz.func227 Tryz.ntmps227 ?_
 refine wRUN trivial ?_
 refine w9 (op_shared [] hch) trivial ?_
 refine wRUN trivial ?_
 refine a_loop (κ := Nat) (fun k => ⟨mkS 0 27 [(0, cellsA t.enc), (3, .own (3, 0)), (4, .c (.sl ((kposL t t.kids.length).map intCs))), (5, .c (.int .i64 k))],
   [((3, 0), .row false 1 9 ((keysOf t k).map strCs))]⟩)
  (fun k => k ≤ t.kids.length) (fun k => t.kids.length - k) 0 (Nat.zero_le _) ?_ ?_
 ·(apply (Says.of [((3, 0), (6, 0))] []); (iterate 2 ((focus (simp only [go_sem, Nat.reduceEqDiff, Nat.reduceAdd, Nat.reduceSub, Nat.reduceLeDiff, Nat.reduceMul, Nat.reduceBEq, Nat.reduceLT, Int.reduceToNat, reduceCtorEq, keysOf]; try (and_intros <;> rfl))); (focus exact rfl))); (iterate 4 (focus (simp [go_sem, keysOf]; done))))
 ·intro k hk
  by_cases hlt : k < t.kids.length
  ·have hd : decide ((k : Int) < (t.kids.length : Int)) = true := by simpa using hlt
   have hw1 := wrap_succ (k := k) (by omega)
   have h1 : (keysOf t k).length + 1 ≤ 1000000 := by rw [keysOf_len]; omega
   have hr1 : rowsAt ((kposL t t.kids.length).map intCs) 1 k = true := by simp [rowsAt, kposL, hlt, intCs]
   have hg1 : ((kposL t t.kids.length).map intCs)[k]? = some [.int .i64 ((kp t.kids k : Nat) : Int)] := by simp [kposL, hlt, intCs]
   have hg2 := enc_at_kid t hlt
   have hr2 : rowsAt (t.enc.map CellD.cs) 5 ((kp t.kids k : Nat) : Int) = true := by unfold rowsAt; rw [Int.toNat_natCast, hg2]; simp
   have hn : (keysOf t k).map strCs ++ [[.str (t.keyAt k)]] = (keysOf t (k + 1)).map strCs := by rw [keysOf_succ, List.map_append]; rfl
   refine wRUN (j8 hd hkn hr1 hg1 hr2 hg2 h1 hw1) ?_
   refine ⟨k + 1, by omega, by omega, ?_⟩
   exact wSays (Says.of [((3, 0), (25, 0))] []) hn
  ·have hd : decide ((k : Int) < (t.kids.length : Int)) = false := by simpa using hlt
   have hke : k = t.kids.length := by omega
   refine wRUN (j2 hkn hd) ?_
   subst hke
   exact wRetOf (ret_of [((0, 0), (3, 0))] []) Tryz.results227 hd
theorem l1Text_ac (s : ByteArray) : AC Tryz.prog 224 [.c (.str s)] [] (.c (.bool (okText s))) [] := by
 refine AC.of_calls fun S w κ vs hv => ?_
 obtain ⟨v, vs', rfl, ⟨rfl, _⟩, rfl⟩ := hv
 refine (l1Text_any s w).mono ?_
 rintro e w' ⟨rfl, rfl⟩
 exact ⟨Below.refl _ _, _, rfl, fun T _ _ => ⟨rfl, rfl⟩⟩
theorem specSetKey_ac {v x : V} (h : v.right) (hx : x.right) (key : ByteArray) (hk : okText key = true) : AC Tryz.prog 167 [cellsA v.enc, .c (.str key), cellsA x.enc] [] (vrA (setKeyV v key x)) [] := by
 have hv := l3Both_ac v.enc x.enc
 have hb0 : bothCode v.enc x.enc = 0 := by unfold bothCode; rw [right_dec h, right_dec hx]; rfl
 rw [hb0] at hv
 have h00 : ((0 : Int) != 0) = false := rfl
 have ht := l1Text_ac key
 rw [hk] at ht
 have hr0 := enc_rows v
 have hg0 := enc_head v
 unfold setKeyV
 by_cases h6 : v.kind = 0 ∨ v.kind = 6
 ·rw [if_pos h6]
  obtain ⟨hc1, hc2⟩ := setKey_count h hx key h6
  have hobj := l1Object_ac (v.keys ++ [key]) (v.kids ++ [x]) (by rw [List.length_append, List.length_append, right_kl6 h h6]; rfl) (by omega)
  have htold := l1Told_ac (objV (v.keys ++ [key]) (v.kids ++ [x]))
  generalize objV (v.keys ++ [key]) (v.kids ++ [x]) = ob at *
  generalize giveR ob = r at *
  rcases h6 with hz | h6
  ·have hbz : (v.kind == 0) = true := by simpa using hz
   rw [(right_kids0 h hz).1, (right_kids0 h hz).2] at hobj
   simp only [List.nil_append, List.map_cons, List.map_nil, strCs, encCs] at hobj
   rcases r with ⟨c, _ | u⟩
   all_goals
    simp only [vrA_some, vrA_none] at htold ⊢
    refine wEnter Tryz.func167 Tryz.ntmps167 ?_
    refine wRUN trivial ?_
    refine w7 (op_data [] hv) trivial ?_
    refine wRUN h00 ?_
    refine w7 (op_data [] ht) trivial ?_
    refine wRUN (j3 hr0 hg0 hbz) ?_
    refine w12 (op_rowT [(26, 0), (28, 0)] hobj) trivial ?_
    refine w9 (op_shared [(29, 0)] htold) trivial ?_
    refine wRUN trivial ?_
    exact wRet (ret_data []) Tryz.results167
  ·have hbz : (v.kind == 0) = false := by simp [h6]
   have hb6 : (v.kind == 6) = true := by simpa using h6
   have hkO := l1KeysO_ac h.1 h.2.1
   rw [show keysOf v v.kids.length = v.keys from keysOf_own h h6] at hkO
   have hpO := l1PartsO_ac h.1 h.2.1
   have hkl := right_kl h
   have hl1 : v.keys.length + 1 ≤ 1000000 := by omega
   have hl2 : v.kids.length + 1 ≤ 1000000 := by omega
   obtain ⟨K, hK⟩ : ∃ K, v.keys ++ [key] = K := ⟨_, rfl⟩
   obtain ⟨L, hL⟩ : ∃ L, v.kids ++ [x] = L := ⟨_, rfl⟩
   have e1 : v.keys.map strCs ++ [[C.str key]] = K.map strCs := by rw [← hK, List.map_append]; rfl
   have e2 : (v.kids.map V.enc).map encCs ++ [[C.sl (x.enc.map CellD.cs)]] = (L.map V.enc).map encCs := by rw [← hL, List.map_append, List.map_append]; rfl
   rw [hK, hL] at hobj
   rcases r with ⟨c, _ | u⟩
   all_goals
    simp only [vrA_some, vrA_none] at htold ⊢
    refine wEnter Tryz.func167 Tryz.ntmps167 ?_
    refine wRUN trivial ?_
    refine w7 (op_data [] hv) trivial ?_
    refine wRUN h00 ?_
    refine w7 (op_data [] ht) trivial ?_
    refine wRUN (j4 hr0 hg0 hbz hb6) ?_
    refine w12 (op_rowF [] hkO) trivial ?_
    refine wRUN (j2 hl1 e1) ?_
    refine w12 (op_rowF [] hpO) trivial ?_
    refine wRUN (j2 hl2 e2) ?_
    refine w12 (op_rowT [(37, 0), (42, 0)] hobj) (j2 e1 e2) ?_
    refine w9 (op_shared [(43, 0)] htold) trivial ?_
    refine wRUN trivial ?_
    exact wRet (ret_data []) Tryz.results167
 ·rw [if_neg h6]
  have hbz : (v.kind == 0) = false := by simp; omega
  have hb6 : (v.kind == 6) = false := by simp; omega
  rw [vrA_bad]
  refine wEnter Tryz.func167 Tryz.ntmps167 ?_
  refine wRUN trivial ?_
  refine w7 (op_data [] hv) trivial ?_
  refine wRUN h00 ?_
  refine w7 (op_data [] ht) trivial ?_
  refine wRUN (j4 hr0 hg0 hbz hb6) ?_
  refine w7 (op_data [] (l3Bad_ac 6)) trivial ?_
  refine wRUN trivial ?_
  exact wRet (ret_data []) Tryz.results167
theorem setKey_ac {v x : V} (h : v.right) (hx : x.right) (key : ByteArray) (hk : okText key = true) : AC Tryz.prog 196 [v.av, .c (.str key), x.av] [] (resA (setKeyV v key x)) [] := by
 have hs := isString_ac key (by have := okText_size hk; omega)
 rw [hk] at hs
 unfold setKeyV
 by_cases h6 : v.kind = 0 ∨ v.kind = 6
 ·rw [if_pos h6]
  obtain ⟨hc1, hc2⟩ := setKey_count h hx key h6
  have hkl := right_kl h
  have hgv := gives_any (setKey_fit h hx hk h6) (by omega)
  have hobj := object_ac (v.keys ++ [key]) (v.kids ++ [x]) (by rw [List.length_append, List.length_append, right_kl6 h h6]; rfl) (by rw [List.length_append, List.length_singleton]; omega) (by
   intro k hk'
   rcases List.mem_append.1 hk' with h1 | h1
   ·have := right_keys h k h1; omega
   ·rw [List.mem_singleton.1 h1]; have := okText_le hk; omega)
  rw [object_av] at hobj
  have hcs := cloneStrs_ac v.keys (by omega)
  have hcv := cloneVals_ac v.kids (by omega)
  have hl1 : v.keys.length + 1 ≤ 1000000 := by omega
  have hl2 : v.kids.length + 1 ≤ 1000000 := by omega
  generalize objV (v.keys ++ [key]) (v.kids ++ [x]) = ob at *
  obtain ⟨K, hK⟩ : ∃ K, v.keys ++ [key] = K := ⟨_, rfl⟩
  obtain ⟨L, hL⟩ : ∃ L, v.kids ++ [x] = L := ⟨_, rfl⟩
  have e1 : v.keys.map strCs ++ [[C.str key]] = K.map strCs := by rw [← hK, List.map_append]; rfl
  have e2 : v.kids.map V.cs ++ [[.int .i64 x.kind, .int .i64 x.num, .str x.text, .sl (x.keys.map strCs), .sl (x.kids.map V.cs)]] = L.map V.cs := by rw [← hL, List.map_append, List.map_cons, List.map_nil, V.cs_eq]
  rw [hK, hL] at hobj
  generalize giveR ob = r at *
  rcases h6 with hz | h6
  case' inl =>
   have hb0 : (v.kind != 0) = false := by simpa using hz
   have hb6 : (v.kind != 6) = true := by simp [hz]
  case' inr =>
   have hb0 : (v.kind != 0) = true := by simp [h6]
   have hb6 : (v.kind != 6) = false := by simpa using h6
  all_goals
   rcases r with ⟨c, _ | u⟩
   all_goals
    simp only [resA_some, resA_none] at hgv ⊢
    refine wEnter Tryz.func196 Tryz.ntmps196 ?_
    refine wRUN trivial ?_
    refine w7 (op_data [] hs) trivial ?_
    refine wRUN (j2 hb0 hb6) ?_
    refine w12 (op_rowF [] hcs) trivial ?_
    refine wRUN (j2 hl1 e1) ?_
    refine w12 (op_rowF [] hcv) trivial ?_
    refine wRUN (j2 hl2 e2) ?_
    refine w9 (op_shared [(27, 0), (33, 0)] hobj) (j2 e1 e2) ?_
    refine w9 (op_shared [] hgv) trivial ?_
    refine wRUN trivial ?_
    exact wRet (ret_data []) Tryz.results196
 ·rw [if_neg h6]
  have hb0 : (v.kind != 0) = true := by simp; omega
  have hb6 : (v.kind != 6) = true := by simp; omega
  rw [resA_bad]
  refine wEnter Tryz.func196 Tryz.ntmps196 ?_
  refine wRUN trivial ?_
  refine w7 (op_data [] hs) trivial ?_
  refine wRUN (j2 hb0 hb6) ?_
  refine w7 (op_data [] (refuses_ac 6)) trivial ?_
  refine wRUN trivial ?_
  exact wRet (ret_data []) Tryz.results196
set_option maxRecDepth 10000
theorem l1In_ac (n lo hi : Int) : AC Tryz.prog 65 [.c (.int .i64 n), .c (.int .i64 lo), .c (.int .i64 hi)] [] (.c (.bool (decide (n ≥ lo) && decide (n ≤ hi)))) [] := by
 cases h1 : decide (n ≥ lo) <;> cases h2 : decide (n ≤ hi)
 all_goals
  refine wEnter Tryz.func65 Tryz.ntmps65 ?_
  refine wRUN (j2 h1 h2) ?_
  exact wRet (ret_data []) Tryz.results65
theorem l3Index_ac {t : V} (h : t.right) (n : Int) (hn : -1000000000000000 ≤ n ∧ n ≤ 1000000000000000) : AC Tryz.prog 274 [cellsA t.enc, .c (.int .i64 n)] [] (vrA (getIdxV t n)) [] := by
 have hkl := kids_len_le h.2.1
 have hr0 : rowsAt (t.enc.map CellD.cs) 5 0 = true := by unfold rowsAt; rw [show (0 : Int).toNat = 0 from rfl, enc_head]; rfl
 have hg0 := enc_head t
 by_cases h0 : t.kind = 0
 ·have hr : getIdxV t n = okR nullV := by unfold getIdxV; rw [if_pos h0]
  have hb : (t.kind == 0) = true := by simpa using h0
  rw [hr, vrA_ok]
  refine wEnter Tryz.func274 Tryz.ntmps274 ?_
  refine wRUN (j3 hr0 hg0 hb) ?_
  refine w12 (op_rowT [] l3Null_ac) trivial ?_
  refine wRUN trivial ?_
  exact wRetOf (ret_of [] [(10, 0)]) Tryz.results274 hb
 ·have hb : (t.kind == 0) = false := by simpa using h0
  by_cases h5 : t.kind = 5
  ·have hb5 : (t.kind != 5) = false := by simpa using h5
   have hwm : IntKind.i64.wrap ((t.kids.length : Int) - 1) = (t.kids.length : Int) - 1 := IntWalk.i64_in _ (by omega)
   have hwi := l1In_ac (fromEnd n t.kids.length) 0 ((t.kids.length : Int) - 1)
   have hparts := l1Parts_ac h.1 h.2.1
   have hsplit : (decide (n < 0) = true ∧ IntKind.i64.wrap (n + (t.kids.length : Int)) = fromEnd n t.kids.length) ∨ (decide (n < 0) = false ∧ n = fromEnd n t.kids.length) := by
    unfold fromEnd
    by_cases hneg : n < 0
    ·rw [if_pos hneg]
     exact .inl ⟨by simpa using hneg, IntWalk.i64_in _ (by omega)⟩
    ·rw [if_neg hneg]
     exact .inr ⟨by simpa using hneg, rfl⟩
   cases hin : (decide (fromEnd n t.kids.length ≥ 0) && decide (fromEnd n t.kids.length ≤ (t.kids.length : Int) - 1)) with
   | false =>
    rw [hin] at hwi
    have hr : getIdxV t n = okR nullV := by
     unfold getIdxV
     rw [if_neg h0, if_pos h5, if_neg]
     simp at hin
     omega
    rw [hr, vrA_ok]
    generalize fromEnd n t.kids.length = q at *
    rcases hsplit with ⟨hd, hwa⟩ | ⟨hd, rfl⟩
    ·refine wEnter Tryz.func274 Tryz.ntmps274 ?_
     refine wRUN (j7 hr0 hg0 hb hb5 hd hwa hwm) ?_
     refine w7 (op_data [] hwi) trivial ?_
     refine wRUN trivial ?_
     refine w12 (op_rowT [] l3Null_ac) trivial ?_
     refine wRUN trivial ?_
     exact wRetOf (ret_of [] [(34, 0)]) Tryz.results274 hb
    ·refine wEnter Tryz.func274 Tryz.ntmps274 ?_
     refine wRUN (j6 hr0 hg0 hb hb5 hd hwm) ?_
     refine w7 (op_data [] hwi) trivial ?_
     refine wRUN trivial ?_
     refine w12 (op_rowT [] l3Null_ac) trivial ?_
     refine wRUN trivial ?_
     exact wRetOf (ret_of [] [(34, 0)]) Tryz.results274 hb
   | true =>
    rw [hin] at hwi
    simp at hin
    obtain ⟨p, hp, hpl⟩ : ∃ p : Nat, fromEnd n t.kids.length = p ∧ p < t.kids.length := ⟨(fromEnd n t.kids.length).toNat, by omega, by omega⟩
    have hr : getIdxV t n = okR t.kids[p] := by
     unfold getIdxV
     rw [if_neg h0, if_pos h5, hp, if_pos (by omega), Int.toNat_natCast, List.getD_eq_getElem?_getD, List.getElem?_eq_getElem hpl, Option.getD_some]
    have hr3 : rowsAt ((t.kids.map V.enc).map encCs) 1 p = true := by simp [rowsAt, hpl, encCs]
    have hg3 : ((t.kids.map V.enc).map encCs)[p]? = some [.sl (t.kids[p].enc.map CellD.cs)] := by simp [hpl, encCs]
    rw [hr, vrA_ok]
    generalize t.kids[p] = u at *
    rw [hp] at hwi hsplit
    rcases hsplit with ⟨hd, hwa⟩ | ⟨hd, rfl⟩
    ·refine wEnter Tryz.func274 Tryz.ntmps274 ?_
     refine wRUN (j7 hr0 hg0 hb hb5 hd hwa hwm) ?_
     refine w7 (op_data [] hwi) trivial ?_
     refine wRUN trivial ?_
     refine w9 (op_shared [] hparts) trivial ?_
     refine wRUN (j2 hr3 hg3) ?_
     exact wRet (ret_data []) Tryz.results274
    ·refine wEnter Tryz.func274 Tryz.ntmps274 ?_
     refine wRUN (j6 hr0 hg0 hb hb5 hd hwm) ?_
     refine w7 (op_data [] hwi) trivial ?_
     refine wRUN trivial ?_
     refine w9 (op_shared [] hparts) trivial ?_
     refine wRUN (j2 hr3 hg3) ?_
     exact wRet (ret_data []) Tryz.results274
  ·have hr : getIdxV t n = badR 6 := by unfold getIdxV; rw [if_neg h0, if_neg h5]
   have hb5 : (t.kind != 5) = true := by simpa using h5
   rw [hr, vrA_bad]
   refine wEnter Tryz.func274 Tryz.ntmps274 ?_
   refine wRUN (j4 hr0 hg0 hb hb5) ?_
   refine w7 (op_data [] (l3Bad_ac 6)) trivial ?_
   refine wRUN trivial ?_
   exact wRet (ret_data []) Tryz.results274
theorem l3At_ac {t k : V} (h : t.right) (hk : k.right) : AC Tryz.prog 173 [cellsA t.enc, cellsA k.enc] [] (vrA (getAtV t k)) [] := by
 have hr0 : rowsAt (k.enc.map CellD.cs) 5 0 = true := by unfold rowsAt; rw [show (0 : Int).toNat = 0 from rfl, enc_head]; rfl
 have hg0 := enc_head k
 by_cases h4 : k.kind = 4
 ·have hb : (k.kind == 4) = true := by simpa using h4
  have hr : getAtV t k = getKeyV t k.text := by unfold getAtV; rw [if_pos h4]
  have hg := l3Get_ac h k.text
  rw [hr]
  generalize getKeyV t k.text = r at *
  rcases r with ⟨c, _ | u⟩
  all_goals
   simp only [vrA_some, vrA_none] at hg ⊢
   refine wEnter Tryz.func173 Tryz.ntmps173 ?_
   refine wRUN (j3 hr0 hg0 hb) ?_
   refine w9 (op_shared [] hg) trivial ?_
   refine wRUN trivial ?_
   exact wRet (ret_data []) Tryz.results173
 ·have hb : (k.kind == 4) = false := by simpa using h4
  by_cases h3 : k.kind = 3
  ·have hb3 : (k.kind == 3) = true := by simpa using h3
   have hr : getAtV t k = getIdxV t k.num := by unfold getAtV; rw [if_neg h4, if_pos h3]
   have hg := l3Index_ac h k.num (right_num hk)
   rw [hr]
   generalize getIdxV t k.num = r at *
   rcases r with ⟨c, _ | u⟩
   all_goals
    simp only [vrA_some, vrA_none] at hg ⊢
    refine wEnter Tryz.func173 Tryz.ntmps173 ?_
    refine wRUN (j4 hr0 hg0 hb hb3) ?_
    refine w9 (op_shared [] hg) trivial ?_
    refine wRUN trivial ?_
    exact wRet (ret_data []) Tryz.results173
  ·have hb3 : (k.kind == 3) = false := by simpa using h3
   have hr : getAtV t k = badR 6 := by unfold getAtV; rw [if_neg h4, if_neg h3]
   rw [hr, vrA_bad]
   refine wEnter Tryz.func173 Tryz.ntmps173 ?_
   refine wRUN (j4 hr0 hg0 hb hb3) ?_
   refine w7 (op_data [] (l3Bad_ac 6)) trivial ?_
   refine wRUN trivial ?_
   exact wRet (ret_data []) Tryz.results173
end Go.Proofs.YtamgeodhpglgkaaGreat
