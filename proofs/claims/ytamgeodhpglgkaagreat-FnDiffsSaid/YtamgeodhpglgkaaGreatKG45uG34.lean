/- Texts of this proof: G45 G25 G55 G34. -/
import Derived.Test.YtamgeodhpglgkaaGreatKG06uG08
import Derived.Test.YtamgeodhpglgkaaGreatKM2
import Derived.Test.YtamgeodhpglgkaaGreatKG11uS02
import Derived.Test.YtamgeodhpglgkaaGreatKE5
import Derived.Test.YtamgeodhpglgkaaGreatKG49uG52
import Derived.Test.YtamgeodhpglgkaaGreatKG9
import Derived.Test.YtamgeodhpglgkaaGreatKM3
set_option linter.unusedSimpArgs false
set_option maxHeartbeats 8000000
namespace Go.Proofs.YtamgeodhpglgkaaGreat
open Go.RowKit
set_option maxRecDepth 10000
def sgn (x y : Bool) : Int := bif x then -1 else bif y then 1 else 0
theorem l1Sign_ac (x y : Bool) : AC Tryz.prog 257 [.c (.bool x), .c (.bool y)] [] (.c (.int .i64 (sgn x y))) [] := by
 cases x <;> cases y
 all_goals
  refine wEnter Tryz.func257 Tryz.ntmps257 ?_
  refine wRUN trivial ?_
  exact ret_data [] (by simp only [Tryz.results257, go_sem, Nat.reduceBEq, Nat.reduceLT]; exact rfl) (by simp only [go_sem, Nat.reduceEqDiff, Nat.reduceAdd, Nat.reduceSub, Nat.reduceLeDiff, Nat.reduceMul, Nat.reduceBEq, Nat.reduceLT, Int.reduceToNat, reduceCtorEq, sgn]) rfl
theorem sgn_I (a b : Int) : sgn (decide (a < b)) (decide (a > b)) = cmpI a b := by
 unfold sgn cmpI
 by_cases h1 : a < b
 ·simp [h1]
 ·by_cases h2 : b < a
  ·simp [h1, h2]
  ·simp [h1, h2]
theorem sgn_ne {a b : Int} (h : a ≠ b) : sgn (decide (a < b)) true = cmpI a b := by
 unfold sgn cmpI
 by_cases h1 : a < b
 ·simp [h1]
 ·rw [if_neg h1, if_pos (by omega)]
  simp [h1]
theorem sgn_B (a b : ByteArray) : sgn (Op.bytesLess a.toList b.toList) (!(Op.bytesLess a.toList b.toList || a.toList == b.toList)) = cmpB a b := by
 unfold sgn cmpB lessB
 cases Op.bytesLess a.toList b.toList <;> cases (a.toList == b.toList) <;> rfl
theorem sgn_Bne {a b : ByteArray} (h : (a.toList == b.toList) = false) : sgn (Op.bytesLess a.toList b.toList) true = cmpB a b := by
 unfold sgn cmpB lessB
 rw [h]
 cases Op.bytesLess a.toList b.toList <;> rfl
theorem l1KeyLists_ac (a b : List ByteArray) (hl : a.length ≤ 1000000) : AC Tryz.prog 259 [.c (.sl (a.map strCs)), .c (.sl (b.map strCs))] [] (.c (.int .i64 (cmpKeys a b))) [] := by
 have hla : (a.map strCs).length = a.length := by simp
 have hlb : (b.map strCs).length = b.length := by simp
 obtain ⟨R, hR⟩ : ∃ R, R = cmpKeys a b := ⟨_, rfl⟩
 rw [← hR]
 refine wEnter Tryz.func259 Tryz.ntmps259 ?_
 refine wRUN trivial ?_
 refine a_loop (κ := Nat) (fun k => ⟨mkS 0 48 [(0, .c (.sl (a.map strCs))), (1, .c (.sl (b.map strCs))), (5, .c (.int .i64 k))], []⟩)
  (fun k => k ≤ a.length ∧ k ≤ b.length ∧ R = cmpKeys (a.drop k) (b.drop k)) (fun k => a.length - k) 0 ⟨Nat.zero_le _, Nat.zero_le _, hR⟩ ?_ ?_
 ·exact wSays (Says.of [] []) hla
 ·rintro k ⟨hk, hk2, hRk⟩
  by_cases hlt : k < a.length ∧ k < b.length
  ·have hda : decide ((k : Int) < (a.length : Int)) = true := by simpa using hlt.1
   have hdb : decide ((k : Int) < (b.length : Int)) = true := by simpa using hlt.2
   have hw := wrap_succ (k := k) (by omega)
   have hr : rowsAt (a.map strCs) 1 k = true := by simp [rowsAt, hlt.1, strCs]
   have hg : (a.map strCs)[k]? = some [.str a[k]] := by simp [hlt.1, strCs]
   have hrb : rowsAt (b.map strCs) 1 k = true := by simp [rowsAt, hlt.2, strCs]
   have hgb : (b.map strCs)[k]? = some [.str b[k]] := by simp [hlt.2, strCs]
   rw [cmpKeys_drop hlt.1 hlt.2] at hRk
   generalize a[k] = ak at *
   generalize b[k] = bk at *
   cases he : (ak.toList == bk.toList) with
   | true =>
    have hz : cmpB ak bk = 0 := cmpB_null.2 (ByteArray_toList_inj (by simpa using he))
    rw [hz, orI_zero] at hRk
    refine wRUN (j10 hla hlb hda hdb hr hg hrb hgb he hw) ?_
    refine ⟨k + 1, by omega, ⟨by omega, by omega, hRk⟩, ?_⟩
    exact wSays (Says.of [] []) hw
   | false =>
    have hz : cmpB ak bk ≠ 0 := fun h => by rw [cmpB_null.1 h] at he; simp at he
    rw [orI_ne hz] at hRk
    have hc := l1Sign_ac (Op.bytesLess ak.toList bk.toList) true
    rw [sgn_Bne he] at hc
    rw [hRk]
    generalize cmpB ak bk = x at *
    refine wRUN (j9 hla hlb hda hdb hr hg hrb hgb he) ?_
    refine w7 (op_data [] hc) trivial ?_
    refine wRUN trivial ?_
    exact wRet (ret_data []) Tryz.results259
  ·rw [cmpKeys_end hk hk2 hlt] at hRk
   have hc := l1Sign_ac (decide ((a.length : Int) < (b.length : Int))) (decide ((a.length : Int) > (b.length : Int)))
   rw [sgn_I, ← hRk] at hc
   cases hda : decide ((k : Int) < (a.length : Int)) <;> cases hdb : decide ((k : Int) < (b.length : Int))
   case true.true => exact absurd ⟨by simpa using hda, by simpa using hdb⟩ hlt
   all_goals
    refine wRUN (j4 hla hlb hda hdb) ?_
    refine w7 (op_data [] hc) trivial ?_
    refine wRUN trivial ?_
    exact wRet (ret_data []) Tryz.results259
theorem l1Lists_ac (a b : List V) (hl : a.length ≤ 1000000) (hrec : ∀ x ∈ a, ∀ y ∈ b, AC Tryz.prog 152 [cellsA x.enc, cellsA y.enc] [] (.c (.int .i64 (x.cmp y))) []) :
  AC Tryz.prog 258 [.c (.sl ((a.map V.enc).map encCs)), .c (.sl ((b.map V.enc).map encCs))] [] (.c (.int .i64 (cmpLV a b))) [] := by
 have hla : ((a.map V.enc).map encCs).length = a.length := by simp
 have hlb : ((b.map V.enc).map encCs).length = b.length := by simp
 obtain ⟨R, hR⟩ : ∃ R, R = cmpLV a b := ⟨_, rfl⟩
 rw [← hR]
 refine wEnter Tryz.func258 Tryz.ntmps258 ?_
 refine wRUN trivial ?_
 refine a_loop (κ := Nat) (fun k => ⟨mkS 0 42 [(0, .c (.sl ((a.map V.enc).map encCs))), (1, .c (.sl ((b.map V.enc).map encCs))), (5, .c (.int .i64 k))], []⟩)
  (fun k => k ≤ a.length ∧ k ≤ b.length ∧ R = cmpLV (a.drop k) (b.drop k)) (fun k => a.length - k) 0 ⟨Nat.zero_le _, Nat.zero_le _, hR⟩ ?_ ?_
 ·exact wSays (Says.of [] []) hla
 ·rintro k ⟨hk, hk2, hRk⟩
  by_cases hlt : k < a.length ∧ k < b.length
  ·have hda : decide ((k : Int) < (a.length : Int)) = true := by simpa using hlt.1
   have hdb : decide ((k : Int) < (b.length : Int)) = true := by simpa using hlt.2
   have hw := wrap_succ (k := k) (by omega)
   have hr : rowsAt ((a.map V.enc).map encCs) 1 k = true := by simp [rowsAt, hlt.1, encCs]
   have hg : ((a.map V.enc).map encCs)[k]? = some [.sl (a[k].enc.map CellD.cs)] := by simp [hlt.1, encCs]
   have hrb : rowsAt ((b.map V.enc).map encCs) 1 k = true := by simp [rowsAt, hlt.2, encCs]
   have hgb : ((b.map V.enc).map encCs)[k]? = some [.sl (b[k].enc.map CellD.cs)] := by simp [hlt.2, encCs]
   have hc := hrec a[k] (List.getElem_mem hlt.1) b[k] (List.getElem_mem hlt.2)
   rw [cmpLV_drop hlt.1 hlt.2] at hRk
   generalize a[k].cmp b[k] = x at *
   generalize a[k] = ak at *
   generalize b[k] = bk at *
   by_cases hx : x = 0
   ·subst hx
    rw [orI_zero] at hRk
    have h00 : ((0 : Int) != 0) = false := rfl
    refine wRUN (j8 hla hlb hda hdb hr hg hrb hgb) ?_
    refine w7 (op_data [] hc) trivial ?_
    refine wRUN (j2 h00 hw) ?_
    refine ⟨k + 1, by omega, ⟨by omega, by omega, hRk⟩, ?_⟩
    exact wSays (Says.of [] []) hw
   ·rw [orI_ne hx] at hRk
    have hb : (x != 0) = true := by simpa using hx
    rw [hRk]
    refine wRUN (j8 hla hlb hda hdb hr hg hrb hgb) ?_
    refine w7 (op_data [] hc) trivial ?_
    refine wRUN hb ?_
    exact wRet (ret_data []) Tryz.results258
  ·rw [cmpLV_end hk hk2 hlt] at hRk
   have hc := l1Sign_ac (decide ((a.length : Int) < (b.length : Int))) (decide ((a.length : Int) > (b.length : Int)))
   rw [sgn_I, ← hRk] at hc
   cases hda : decide ((k : Int) < (a.length : Int)) <;> cases hdb : decide ((k : Int) < (b.length : Int))
   case true.true => exact absurd ⟨by simpa using hda, by simpa using hdb⟩ hlt
   all_goals
    refine wRUN (j4 hla hlb hda hdb) ?_
    refine w7 (op_data [] hc) trivial ?_
    refine wRUN trivial ?_
    exact wRet (ret_data []) Tryz.results258
theorem l1Compare_ac : ∀ (m : Nat) (a b : V), a.count ≤ m → a.right → b.right → AC Tryz.prog 152 [cellsA a.enc, cellsA b.enc] [] (.c (.int .i64 (a.cmp b))) [] := by
 intro m
 induction m with
 | zero => intro a _ hm _ _; have := count_pos a; omega
 | succ m ih =>
  intro a b hm ha hb
  have hkl := kids_len_le ha.2.1
  have hck := count_kids a
  have hrec : ∀ x ∈ a.kids, ∀ y ∈ b.kids, AC Tryz.prog 152 [cellsA x.enc, cellsA y.enc] [] (.c (.int .i64 (x.cmp y))) [] := fun x hx y hy => ih x y (by have := countL_mem hx; omega) (right_mem ha hx) (right_mem hb hy)
  have hra : rowsAt (a.enc.map CellD.cs) 5 0 = true := by unfold rowsAt; rw [show (0 : Int).toNat = 0 from rfl, enc_head]; rfl
  have hga := enc_head a
  have hrb : rowsAt (b.enc.map CellD.cs) 5 0 = true := by unfold rowsAt; rw [show (0 : Int).toNat = 0 from rfl, enc_head]; rfl
  have hgb := enc_head b
  by_cases hk : a.kind = b.kind
  ·have hne : (a.kind != b.kind) = false := by simpa using hk
   by_cases h3 : a.kind = 3
   ·have hs := l1Sign_ac (decide (a.num < b.num)) (decide (a.num > b.num))
    rw [sgn_I] at hs
    rw [cmp_number ha.1 hb.1 hk h3]
    have h3b : (a.kind == 3) = true := by simpa using h3
    refine wEnter Tryz.func152 Tryz.ntmps152 ?_
    refine wRUN (j6 hra hga hrb hgb hne h3b) ?_
    refine w7 (op_data [] hs) trivial ?_
    refine wRUN trivial ?_
    exact wRet (ret_data []) Tryz.results152
   have h3b : (a.kind == 3) = false := by simpa using h3
   by_cases h4 : a.kind = 4
   ·have hs := l1Sign_ac (Op.bytesLess a.text.toList b.text.toList) (!(Op.bytesLess a.text.toList b.text.toList || a.text.toList == b.text.toList))
    rw [sgn_B] at hs
    rw [cmp_text ha.1 hb.1 hk h4]
    have h4b : (a.kind == 4) = true := by simpa using h4
    refine wEnter Tryz.func152 Tryz.ntmps152 ?_
    refine wRUN (j7 hra hga hrb hgb hne h3b h4b) ?_
    refine w7 (op_data [] hs) trivial ?_
    refine wRUN trivial ?_
    exact wRet (ret_data []) Tryz.results152
   have h4b : (a.kind == 4) = false := by simpa using h4
   have hpa := l1Parts_ac ha.1 ha.2.1
   have hpb := l1Parts_ac hb.1 hb.2.1
   have hli := l1Lists_ac a.kids b.kids (by omega) hrec
   by_cases h5 : a.kind = 5
   ·rw [cmp_array ha.1 hb.1 hk h5]
    have h5b : (a.kind == 5) = true := by simpa using h5
    refine wEnter Tryz.func152 Tryz.ntmps152 ?_
    refine wRUN (j8 hra hga hrb hgb hne h3b h4b h5b) ?_
    refine w9 (op_shared [] hpa) trivial ?_
    refine wRUN trivial ?_
    refine w9 (op_shared [] hpb) trivial ?_
    refine wRUN trivial ?_
    refine w7 (op_data [] hli) trivial ?_
    refine wRUN trivial ?_
    exact wRet (ret_data []) Tryz.results152
   have h5b : (a.kind == 5) = false := by simpa using h5
   by_cases h6 : a.kind = 6
   ·have h6b : (a.kind == 6) = true := by simpa using h6
    have hka := l1Keys_ac ha.1 ha.2.1
    have hkb := l1Keys_ac hb.1 hb.2.1
    have e1 : keysOf a a.kids.length = a.keys := keysOf_own ha h6
    have e2 : keysOf b b.kids.length = b.keys := keysOf_own hb (by omega)
    rw [e1] at hka
    rw [e2] at hkb
    have hkk := l1KeyLists_ac a.keys b.keys (by rw [(right_asc ha h6).2.2]; omega)
    rw [cmp_object ha.1 hb.1 hk h6]
    by_cases hz : cmpKeys a.keys b.keys = 0
    ·rw [hz] at hkk ⊢
     rw [orI_zero]
     have h00 : ((0 : Int) != 0) = false := rfl
     refine wEnter Tryz.func152 Tryz.ntmps152 ?_
     refine wRUN (j9 hra hga hrb hgb hne h3b h4b h5b h6b) ?_
     refine w9 (op_shared [] hka) trivial ?_
     refine wRUN trivial ?_
     refine w9 (op_shared [] hkb) trivial ?_
     refine wRUN trivial ?_
     refine w7 (op_data [] hkk) trivial ?_
     refine wRUN h00 ?_
     refine w9 (op_shared [] hpa) trivial ?_
     refine wRUN trivial ?_
     refine w9 (op_shared [] hpb) trivial ?_
     refine wRUN trivial ?_
     refine w7 (op_data [] hli) trivial ?_
     refine wRUN trivial ?_
     exact wRet (ret_data []) Tryz.results152
    ·rw [orI_ne hz]
     have hb1 : (cmpKeys a.keys b.keys != 0) = true := by simpa using hz
     refine wEnter Tryz.func152 Tryz.ntmps152 ?_
     refine wRUN (j9 hra hga hrb hgb hne h3b h4b h5b h6b) ?_
     refine w9 (op_shared [] hka) trivial ?_
     refine wRUN trivial ?_
     refine w9 (op_shared [] hkb) trivial ?_
     refine wRUN trivial ?_
     refine w7 (op_data [] hkk) trivial ?_
     refine wRUN hb1 ?_
     exact wRet (ret_data []) Tryz.results152
   have h6b : (a.kind == 6) = false := by simpa using h6
   rw [cmp_plain ha.1 hb.1 hk h3 h4 h5 h6]
   refine wEnter Tryz.func152 Tryz.ntmps152 ?_
   refine wRUN (j9 hra hga hrb hgb hne h3b h4b h5b h6b) ?_
   exact wRet (ret_data []) Tryz.results152
  ·have hne : (a.kind != b.kind) = true := by simpa using hk
   have hs := l1Sign_ac (decide (a.kind < b.kind)) true
   rw [sgn_ne hk] at hs
   have hR : a.cmp b = cmpI a.kind b.kind := by rw [cmp_eq, if_neg hk]
   rw [hR]
   refine wEnter Tryz.func152 Tryz.ntmps152 ?_
   refine wRUN (j5 hra hga hrb hgb hne) ?_
   refine w7 (op_data [] hs) trivial ?_
   refine wRUN trivial ?_
   exact wRet (ret_data []) Tryz.results152
def bothCode (x y : List CellD) : Int := if (dec x).1 = 0 then (dec y).1 else (dec x).1
theorem l3Both_ac (x y : List CellD) : AC Tryz.prog 77 [cellsA x, cellsA y] [] (.c (.int .i64 (bothCode x y))) [] := by
 have h1 := fault_ac x
 have h2 := fault_ac y
 unfold bothCode
 by_cases h : (dec x).1 = 0
 ·rw [if_pos h]
  rw [h] at h1
  have h00 : ((0 : Int) != 0) = false := rfl
  refine wEnter Tryz.func77 Tryz.ntmps77 ?_
  refine wRUN trivial ?_
  refine w7 (op_data [] h1) trivial ?_
  refine wRUN h00 ?_
  refine w7 (op_data [] h2) trivial ?_
  refine wRUN trivial ?_
  exact wRet (ret_data []) Tryz.results77
 ·rw [if_neg h]
  have hb : ((dec x).1 != 0) = true := by simpa using h
  refine wEnter Tryz.func77 Tryz.ntmps77 ?_
  refine wRUN trivial ?_
  refine w7 (op_data [] h1) trivial ?_
  refine wRUN hb ?_
  exact wRet (ret_data []) Tryz.results77
set_option maxRecDepth 10000
theorem l3Bad_ac (c : Int) : AC Tryz.prog 64 [.c (.int .i64 c)] [] (.agg [.c (.int .i64 c), .nils]) [] := by
 refine wEnter Tryz.func64 Tryz.ntmps64 ?_
 refine wRUN trivial ?_
 exact wRet (ret_data []) Tryz.results64
theorem enc_null : nullV.enc.map CellD.cs = [[.int .i64 0, .int .i64 0, .str ByteArray.empty, .str ByteArray.empty, .int .i64 0]] := rfl
theorem l3Null_ac : AC Tryz.prog 170 [] [] (.own (0, 0)) [((0, 0), .row false 5 95 (nullV.enc.map CellD.cs))] := by
 rw [enc_null]
 refine wEnter Tryz.func170 Tryz.ntmps170 ?_
 refine wRUN trivial ?_
 (apply (ret_of [((0, 0), (2, 0))] []); (focus (simp only [Tryz.results170, go_sem, Nat.reduceBEq, Nat.reduceLT, enc_null]; exact rfl)); (focus (simp only [go_sem, Nat.reduceEqDiff, Nat.reduceAdd, Nat.reduceSub, Nat.reduceLeDiff, Nat.reduceMul, Nat.reduceBEq, Nat.reduceLT, Int.reduceToNat, reduceCtorEq, enc_null]; try (and_intros <;> rfl))); (focus exact rfl); (focus (simp only [go_sem, Nat.reduceEqDiff, Nat.reduceAdd, Nat.reduceSub, Nat.reduceLeDiff, Nat.reduceMul, Nat.reduceBEq, Nat.reduceLT, Int.reduceToNat, reduceCtorEq, enc_null]; try (and_intros <;> rfl))); (focus exact rfl); (iterate 4 (focus (simp [go_sem, enc_null]; done))))
def vrA (r : Int × Option V) : AV := match r.2 with
 | some t => .agg [.c (.int .i64 0), .c (.sl (t.enc.map CellD.cs))]
 | none => .agg [.c (.int .i64 r.1), .c (.sl [])]
theorem vrA_some (c : Int) (t : V) : vrA (c, some t) = .agg [.c (.int .i64 0), .c (.sl (t.enc.map CellD.cs))] := rfl
theorem vrA_none (c : Int) : vrA (c, none) = .agg [.c (.int .i64 c), .c (.sl [])] := rfl
theorem vrA_ok (t : V) : vrA (okR t) = .agg [.c (.int .i64 0), .c (.sl (t.enc.map CellD.cs))] := rfl
theorem vrA_bad (c : Int) : vrA (badR c) = .agg [.c (.int .i64 c), .c (.sl [])] := rfl
theorem l3Get_ac {t : V} (h : t.right) (key : ByteArray) : AC Tryz.prog 166 [cellsA t.enc, .c (.str key)] [] (vrA (getKeyV t key)) [] := by
 have hr0 : rowsAt (t.enc.map CellD.cs) 5 0 = true := by unfold rowsAt; rw [show (0 : Int).toNat = 0 from rfl, enc_head]; rfl
 have hg0 := enc_head t
 by_cases h0 : t.kind = 0
 ·have hr : getKeyV t key = okR nullV := by unfold getKeyV; rw [if_pos h0]
  have hb : (t.kind == 0) = true := by simpa using h0
  rw [hr, vrA_ok]
  refine wEnter Tryz.func166 Tryz.ntmps166 ?_
  refine wRUN (j3 hr0 hg0 hb) ?_
  refine w12 (op_rowT [] l3Null_ac) trivial ?_
  refine wRUN trivial ?_
  exact wRetOf (ret_of [] [(12, 0)]) Tryz.results166 hb
 ·have hb : (t.kind == 0) = false := by simpa using h0
  by_cases h6 : t.kind = 6
  ·have hb6 : (t.kind != 6) = false := by simpa using h6
   obtain ⟨hs, _, hkl⟩ := right_asc h h6
   have hkn := kids_len_le h.2.1
   have hkeys := l1Keys_ac h.1 h.2.1
   have hparts := l1Parts_ac h.1 h.2.1
   have hkat : ∀ i (hi : i < t.keys.length), t.keyAt i = t.keys[i] := fun i hi => by
    unfold V.keyAt
    rw [if_pos h6, List.drop_eq_getElem_cons hi]
    rfl
   have hr : getKeyV t key = okR (t.member key) := by unfold getKeyV; rw [if_neg h0, if_pos h6]
   rw [hr, vrA_ok]
   refine wEnter Tryz.func166 Tryz.ntmps166 ?_
   refine wRUN (j4 hr0 hg0 hb hb6) ?_
   refine w9 (op_shared [] hkeys) trivial ?_
   refine wRUN trivial ?_
   refine a_loop (κ := Nat) (fun k => ⟨mkS 0 42 [(0, cellsA t.enc), (1, .c (.str key)), (4, .ptr (4, 0) 0), (5, .c (.sl ((keysOf t t.kids.length).map strCs))), (6, .c (.int .i64 k))], [((4, 0), .box [.c (.int .i64 0), .nils])]⟩)
    (fun k => k ≤ t.kids.length ∧ ∀ j (hj : j < t.keys.length), j < k → t.keys[j].toList ≠ key.toList) (fun k => t.kids.length - k) 0 ⟨Nat.zero_le _, by intro j _ hj; omega⟩ ?_ ?_
   ·exact wSays (Says.of [((4, 0), (4, 0))] []) hb
   ·rintro k ⟨hk, hno⟩
    have hkol : (keysOf t t.kids.length).length = t.kids.length := keysOf_len t _
    by_cases hlt : k < t.kids.length
    ·have hd : decide ((k : Int) < (t.kids.length : Int)) = true := by simpa using hlt
     have hw := wrap_succ (k := k) (by omega)
     have hr2 : rowsAt ((keysOf t t.kids.length).map strCs) 1 k = true := by simp [rowsAt, keysOf, hlt, strCs]
     have hg2 : ((keysOf t t.kids.length).map strCs)[k]? = some [.str t.keys[k]] := by simp [keysOf, hlt, strCs, hkat k (by omega)]
     have hr3 : rowsAt ((t.kids.map V.enc).map encCs) 1 k = true := by simp [rowsAt, hlt, encCs]
     have hg3 : ((t.kids.map V.enc).map encCs)[k]? = some [.sl (t.kids[k].enc.map CellD.cs)] := by simp [hlt, encCs]
     cases he : t.keys[k].toList == key.toList with
     | true =>
      have hm : t.member key = t.kids[k] := by
       unfold V.member findKey
       rw [List.findIdx?_eq_some_iff_getElem.2 ⟨by omega, he, fun j hj => by simpa using hno j (by omega) hj⟩]
       simp only
       rw [List.getD_eq_getElem?_getD, List.getElem?_eq_getElem hlt, Option.getD_some]
      rw [hm]
      generalize t.kids[k] = u at *
      refine wRUN (j5 hkol hd hr2 hg2 he) ?_
      refine w9 (op_shared [] hparts) trivial ?_
      refine wRUN (j2 hr3 hg3) ?_
      exact wRet (ret_data []) Tryz.results166
     | false =>
      refine wRUN (j6 hkol hd hr2 hg2 he hw) ?_
      refine ⟨k + 1, by omega, ⟨by omega, fun j hj hjk => ?_⟩, ?_⟩
      ·by_cases hjk' : j = k
       ·subst hjk'; simpa using he
       ·exact hno j hj (by omega)
      ·exact wSays (Says.of [((4, 0), (4, 0))] []) hb
    ·have hd : decide ((k : Int) < (t.kids.length : Int)) = false := by simpa using hlt
     have hm : t.member key = nullV := by
      unfold V.member findKey
      rw [List.findIdx?_eq_none_iff.2 fun x hx => by
       obtain ⟨i, hi, rfl⟩ := List.getElem_of_mem hx
       simpa using hno i hi (by omega)]
     rw [hm]
     refine wRUN (j2 hkol hd) ?_
     refine w12 (op_rowT [] l3Null_ac) trivial ?_
     refine wRUN trivial ?_
     exact wRetOf (ret_of [] [(40, 0)]) Tryz.results166 hb
  ·have hr : getKeyV t key = badR 6 := by unfold getKeyV; rw [if_neg h0, if_neg h6]
   have hb6 : (t.kind != 6) = true := by simpa using h6
   rw [hr, vrA_bad]
   refine wEnter Tryz.func166 Tryz.ntmps166 ?_
   refine wRUN (j4 hr0 hg0 hb hb6) ?_
   refine w7 (op_data [] (l3Bad_ac 6)) trivial ?_
   refine wRUN trivial ?_
   exact wRet (ret_data []) Tryz.results166
set_option maxRecDepth 10000
theorem l1Told_ok (xs : List CellD) (h : (dec xs).1 = 0) : AC Tryz.prog 231 [cellsA xs] [] (.agg [.c (.int .i64 0), cellsA xs]) [] := by
 have hf := fault_ac xs
 rw [h] at hf
 have h00 : ((0 : Int) != 0) = false := rfl
 refine wEnter Tryz.func231 Tryz.ntmps231 ?_
 refine wRUN trivial ?_
 refine w7 (op_data [] hf) trivial ?_
 refine wRUN h00 ?_
 exact wRet (ret_data []) Tryz.results231
theorem l1Told_bad (xs : List CellD) (h : (dec xs).1 ≠ 0) : AC Tryz.prog 231 [cellsA xs] [] (.agg [.c (.int .i64 (dec xs).1), .c (.sl [])]) [] := by
 have hf := fault_ac xs
 have hb : ((dec xs).1 != 0) = true := by simpa using h
 refine wEnter Tryz.func231 Tryz.ntmps231 ?_
 refine wRUN trivial ?_
 refine w7 (op_data [] hf) trivial ?_
 refine wRUN hb ?_
 exact wRet (ret_data []) Tryz.results231
theorem l1Told_ac (t : V) : AC Tryz.prog 231 [cellsA t.enc] [] (vrA (giveR t)) [] := by
 unfold giveR
 split
 ·rename_i h
  exact l1Told_ok t.enc h
 ·rename_i h
  exact l1Told_bad t.enc h
theorem enc_rows (t : V) : rowsAt (t.enc.map CellD.cs) 5 0 = true := by unfold rowsAt; rw [show (0 : Int).toNat = 0 from rfl, enc_head]; rfl
theorem l3NullS_ac : AC Tryz.prog 170 [] [] (.c (.sl (nullV.enc.map CellD.cs))) [] := by
 have h := l3Null_ac
 (apply (AC.says [] [(0, 0)] h); (focus (simp only [go_sem, Nat.reduceEqDiff, Nat.reduceAdd, Nat.reduceSub, Nat.reduceLeDiff, Nat.reduceMul, Nat.reduceBEq, Nat.reduceLT, Int.reduceToNat, reduceCtorEq]; try (and_intros <;> rfl))); (focus exact rfl); (focus (simp only [go_sem, Nat.reduceEqDiff, Nat.reduceAdd, Nat.reduceSub, Nat.reduceLeDiff, Nat.reduceMul, Nat.reduceBEq, Nat.reduceLT, Int.reduceToNat, reduceCtorEq]; try (and_intros <;> rfl))); (focus exact rfl); (iterate 4 (focus (simp [go_sem]; done))))
theorem l14KeysS_ac (a b : List ByteArray) (hla : a.length ≤ 400000) (hlb : b.length ≤ 400000) : AC Tryz.prog 260 [.c (.sl (a.map strCs)), .c (.sl (b.map strCs))] [] (.c (.sl ((mergeU a b).map strCs))) [] := by
 have h := l14Keys_ac a b hla hlb
 (apply (AC.says [] [(0, 0)] h); (focus (simp only [go_sem, Nat.reduceEqDiff, Nat.reduceAdd, Nat.reduceSub, Nat.reduceLeDiff, Nat.reduceMul, Nat.reduceBEq, Nat.reduceLT, Int.reduceToNat, reduceCtorEq]; try (and_intros <;> rfl))); (focus exact rfl); (focus (simp only [go_sem, Nat.reduceEqDiff, Nat.reduceAdd, Nat.reduceSub, Nat.reduceLeDiff, Nat.reduceMul, Nat.reduceBEq, Nat.reduceLT, Int.reduceToNat, reduceCtorEq]; try (and_intros <;> rfl))); (focus exact rfl); (iterate 4 (focus (simp [go_sem]; done))))
set_option maxRecDepth 10000
theorem l1ArrayS_ac (ps : List V) (hc : (arrV ps).count ≤ 500000) : AC Tryz.prog 229 [.c (.sl ((ps.map V.enc).map encCs))] [] (.c (.sl ((arrV ps).enc.map CellD.cs))) [] := by
 have h := l1Array_ac ps hc
 (apply (AC.says [] [(0, 0)] h); (focus (simp only [go_sem, Nat.reduceEqDiff, Nat.reduceAdd, Nat.reduceSub, Nat.reduceLeDiff, Nat.reduceMul, Nat.reduceBEq, Nat.reduceLT, Int.reduceToNat, reduceCtorEq]; try (and_intros <;> rfl))); (focus exact rfl); (focus (simp only [go_sem, Nat.reduceEqDiff, Nat.reduceAdd, Nat.reduceSub, Nat.reduceLeDiff, Nat.reduceMul, Nat.reduceBEq, Nat.reduceLT, Int.reduceToNat, reduceCtorEq]; try (and_intros <;> rfl))); (focus exact rfl); (iterate 4 (focus (simp [go_sem]; done))))
theorem l1Part_ac {t : V} (hw : t.wf) (hc : t.count ≤ 200) (i : Nat) (hi : i < t.kids.length) : AC Tryz.prog 169 [cellsA t.enc, .c (.int .i64 ((kp t.kids i : Nat) : Int))] [] (.c (.sl (t.kids[i].enc.map CellD.cs))) [] := by
 refine AC.of_calls fun S w κ vs hv => ?_
 obtain ⟨v, vs', rfl, h1, v2, vs2, rfl, h2, rfl⟩ := hv
 obtain ⟨rfl, _⟩ := h2
 obtain ⟨A, cap, rfl, hcap, hcs⟩ := cr_cells.1 h1
 refine (l1Part_any t hw hc i hi A cap hcap S w hcs).mono ?_
 rintro e w' ⟨⟨A', c', rfl, hc', hr⟩, hb⟩
 exact ⟨hb, _, rfl, fun T _ hT => cr_cells.2 ⟨A', c', rfl, hc', hr.weaken fun b hb _ => hT b hb⟩⟩
theorem l1PartsO_ac {t : V} (hw : t.wf) (hc : t.count ≤ 200) : AC Tryz.prog 84 [cellsA t.enc] [] (.own (0, 0)) [((0, 0), .row false 1 24 ((t.kids.map V.enc).map encCs))] := by
 have hkl := kids_len_le hc
 have hkn := kposL_len t t.kids.length
 have hch := l1Children_ac hw hc
 refine wEnter Tryz.func84 Tryz.ntmps84 ?_
 refine wRUN trivial ?_
 refine w9 (op_shared [] hch) trivial ?_
 refine wRUN trivial ?_
 refine a_loop (κ := Nat) (fun k => ⟨mkS 0 25 [(0, cellsA t.enc), (3, .own (3, 0)), (4, .c (.sl ((kposL t t.kids.length).map intCs))), (5, .c (.int .i64 k))],
   [((3, 0), .row false 1 24 (((t.kids.take k).map V.enc).map encCs))]⟩)
  (fun k => k ≤ t.kids.length) (fun k => t.kids.length - k) 0 (Nat.zero_le _) ?_ ?_
 ·exact wSays (Says.of [((3, 0), (6, 0))] []) hkl
 ·intro k hk
  by_cases hlt : k < t.kids.length
  ·have hd : decide ((k : Int) < (t.kids.length : Int)) = true := by simpa using hlt
   have hw1 := wrap_succ (k := k) (by omega)
   have h1 : (((t.kids.take k).map V.enc).map encCs).length + 1 ≤ 1000000 := by simp; omega
   have hr1 : rowsAt ((kposL t t.kids.length).map intCs) 1 k = true := by simp [rowsAt, kposL, hlt, intCs]
   have hg1 : ((kposL t t.kids.length).map intCs)[k]? = some [.int .i64 ((kp t.kids k : Nat) : Int)] := by simp [kposL, hlt, intCs]
   have hp := l1Part_ac hw hc k hlt
   have hn : ((t.kids.take k).map V.enc).map encCs ++ [[.sl (t.kids[k].enc.map CellD.cs)]] = ((t.kids.take (k + 1)).map V.enc).map encCs := by rw [List.take_succ_eq_append_getElem hlt, List.map_append, List.map_append]; rfl
   generalize hR : ((t.kids.take k).map V.enc).map encCs = R at *
   generalize hR2 : ((t.kids.take (k + 1)).map V.enc).map encCs = R2 at *
   generalize t.kids[k] = u at *
   refine wRUN (j4 hd hkn hr1 hg1) ?_
   refine w9 (op_shared [] hp) trivial ?_
   refine wRUN (j2 h1 hw1) ?_
   refine ⟨k + 1, by omega, by omega, ?_⟩
   exact wSays (Says.of [((3, 0), (23, 0))] []) (j2 hn hR2)
  ·have hd : decide ((k : Int) < (t.kids.length : Int)) = false := by simpa using hlt
   have hke : t.kids.take k = t.kids := List.take_of_length_le (by omega)
   refine wRUN (j2 hkn hd) ?_
   exact wRetOf (ret_of [((0, 0), (3, 0))] []) Tryz.results84 hke
end Go.Proofs.YtamgeodhpglgkaaGreat
