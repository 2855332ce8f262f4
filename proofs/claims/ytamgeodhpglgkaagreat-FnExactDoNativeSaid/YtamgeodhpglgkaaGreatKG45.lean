/- spec.l1Sign, l1KeyLists, l1Lists, l1Compare, l3Both, by the engine. -/
import Derived.Test.YtamgeodhpglgkaaGreatKG06uG08
import Derived.Test.YtamgeodhpglgkaaGreatKM2
set_option linter.unusedSimpArgs false
set_option maxHeartbeats 8000000
namespace Go.Proofs.YtamgeodhpglgkaaGreat
open Go.RowKit
set_option maxRecDepth 10000
def sgn (x y : Bool) : Int := bif x then -1 else bif y then 1 else 0
theorem l1Sign_ac (x y : Bool) : AC Tryz.prog 257 [.c (.bool x), .c (.bool y)] [] (.c (.int .i64 (sgn x y))) [] := by
 cases x <;> cases y
 all_goals
  refine wEnter Tryz.func257 Tryz.ntmps257 ?_
  refine wRUN trivial ?_
  exact ret_data [] (by simp only [Tryz.results257, go_sem, Nat.reduceBEq, Nat.reduceLT]; exact rfl) (by simp only [go_sem, Nat.reduceEqDiff, Nat.reduceAdd, Nat.reduceSub, Nat.reduceLeDiff, Nat.reduceMul, Nat.reduceBEq, Nat.reduceLT, Int.reduceToNat, reduceCtorEq, sgn]) rfl
theorem sgn_I (a b : Int) : sgn (decide (a < b)) (decide (a > b)) = cmpI a b := by
 unfold sgn cmpI
 by_cases h1 : a < b
 ·simp [h1]
 ·by_cases h2 : b < a
  ·simp [h1, h2]
  ·simp [h1, h2]
theorem sgn_ne {a b : Int} (h : a ≠ b) : sgn (decide (a < b)) true = cmpI a b := by
 unfold sgn cmpI
 by_cases h1 : a < b
 ·simp [h1]
 ·rw [if_neg h1, if_pos (by omega)]
  simp [h1]
theorem sgn_B (a b : ByteArray) : sgn (Op.bytesLess a.toList b.toList) (!(Op.bytesLess a.toList b.toList || a.toList == b.toList)) = cmpB a b := by
 unfold sgn cmpB lessB
 cases Op.bytesLess a.toList b.toList <;> cases (a.toList == b.toList) <;> rfl
theorem sgn_Bne {a b : ByteArray} (h : (a.toList == b.toList) = false) : sgn (Op.bytesLess a.toList b.toList) true = cmpB a b := by
 unfold sgn cmpB lessB
 rw [h]
 cases Op.bytesLess a.toList b.toList <;> rfl
theorem l1KeyLists_ac (a b : List ByteArray) (hl : a.length ≤ 1000000) : AC Tryz.prog 259 [.c (.sl (a.map strCs)), .c (.sl (b.map strCs))] [] (.c (.int .i64 (cmpKeys a b))) [] := by
 have hla : (a.map strCs).length = a.length := by simp
 have hlb : (b.map strCs).length = b.length := by simp
 obtain ⟨R, hR⟩ : ∃ R, R = cmpKeys a b := ⟨_, rfl⟩
 rw [← hR]
 refine wEnter Tryz.func259 Tryz.ntmps259 ?_
 refine wRUN trivial ?_
 refine a_loop (κ := Nat) (fun k => ⟨mkS 0 48 [(0, .c (.sl (a.map strCs))), (1, .c (.sl (b.map strCs))), (5, .c (.int .i64 k))], []⟩)
  (fun k => k ≤ a.length ∧ k ≤ b.length ∧ R = cmpKeys (a.drop k) (b.drop k)) (fun k => a.length - k) 0 ⟨Nat.zero_le _, Nat.zero_le _, hR⟩ ?_ ?_
 ·exact wSays (Says.of [] []) hla
 ·rintro k ⟨hk, hk2, hRk⟩
  by_cases hlt : k < a.length ∧ k < b.length
  ·have hda : decide ((k : Int) < (a.length : Int)) = true := by simpa using hlt.1
   have hdb : decide ((k : Int) < (b.length : Int)) = true := by simpa using hlt.2
   have hw := wrap_succ (k := k) (by omega)
   have hr : rowsAt (a.map strCs) 1 k = true := by simp [rowsAt, hlt.1, strCs]
   have hg : (a.map strCs)[k]? = some [.str a[k]] := by simp [hlt.1, strCs]
   have hrb : rowsAt (b.map strCs) 1 k = true := by simp [rowsAt, hlt.2, strCs]
   have hgb : (b.map strCs)[k]? = some [.str b[k]] := by simp [hlt.2, strCs]
   rw [cmpKeys_drop hlt.1 hlt.2] at hRk
   generalize a[k] = ak at *
   generalize b[k] = bk at *
   cases he : (ak.toList == bk.toList) with
   | true =>
    have hz : cmpB ak bk = 0 := cmpB_null.2 (ByteArray_toList_inj (by simpa using he))
    rw [hz, orI_zero] at hRk
    refine wRUN (j10 hla hlb hda hdb hr hg hrb hgb he hw) ?_
    refine ⟨k + 1, by omega, ⟨by omega, by omega, hRk⟩, ?_⟩
    exact wSays (Says.of [] []) hw
   | false =>
    have hz : cmpB ak bk ≠ 0 := fun h => by rw [cmpB_null.1 h] at he; simp at he
    rw [orI_ne hz] at hRk
    have hc := l1Sign_ac (Op.bytesLess ak.toList bk.toList) true
    rw [sgn_Bne he] at hc
    rw [hRk]
    generalize cmpB ak bk = x at *
    refine wRUN (j9 hla hlb hda hdb hr hg hrb hgb he) ?_
    refine w7 (op_data [] hc) trivial ?_
    refine wRUN trivial ?_
    exact wRet (ret_data []) Tryz.results259
  ·rw [cmpKeys_end hk hk2 hlt] at hRk
   have hc := l1Sign_ac (decide ((a.length : Int) < (b.length : Int))) (decide ((a.length : Int) > (b.length : Int)))
   rw [sgn_I, ← hRk] at hc
   cases hda : decide ((k : Int) < (a.length : Int)) <;> cases hdb : decide ((k : Int) < (b.length : Int))
   case true.true => exact absurd ⟨by simpa using hda, by simpa using hdb⟩ hlt
   all_goals
    refine wRUN (j4 hla hlb hda hdb) ?_
    refine w7 (op_data [] hc) trivial ?_
    refine wRUN trivial ?_
    exact wRet (ret_data []) Tryz.results259
theorem l1Lists_ac (a b : List V) (hl : a.length ≤ 1000000) (hrec : ∀ x ∈ a, ∀ y ∈ b, AC Tryz.prog 152 [cellsA x.enc, cellsA y.enc] [] (.c (.int .i64 (x.cmp y))) []) :
  AC Tryz.prog 258 [.c (.sl ((a.map V.enc).map encCs)), .c (.sl ((b.map V.enc).map encCs))] [] (.c (.int .i64 (cmpLV a b))) [] := by
 have hla : ((a.map V.enc).map encCs).length = a.length := by simp
 have hlb : ((b.map V.enc).map encCs).length = b.length := by simp
 obtain ⟨R, hR⟩ : ∃ R, R = cmpLV a b := ⟨_, rfl⟩
 rw [← hR]
 refine wEnter Tryz.func258 Tryz.ntmps258 ?_
 refine wRUN trivial ?_
 refine a_loop (κ := Nat) (fun k => ⟨mkS 0 42 [(0, .c (.sl ((a.map V.enc).map encCs))), (1, .c (.sl ((b.map V.enc).map encCs))), (5, .c (.int .i64 k))], []⟩)
  (fun k => k ≤ a.length ∧ k ≤ b.length ∧ R = cmpLV (a.drop k) (b.drop k)) (fun k => a.length - k) 0 ⟨Nat.zero_le _, Nat.zero_le _, hR⟩ ?_ ?_
 ·exact wSays (Says.of [] []) hla
 ·rintro k ⟨hk, hk2, hRk⟩
  by_cases hlt : k < a.length ∧ k < b.length
  ·have hda : decide ((k : Int) < (a.length : Int)) = true := by simpa using hlt.1
   have hdb : decide ((k : Int) < (b.length : Int)) = true := by simpa using hlt.2
   have hw := wrap_succ (k := k) (by omega)
   have hr : rowsAt ((a.map V.enc).map encCs) 1 k = true := by simp [rowsAt, hlt.1, encCs]
   have hg : ((a.map V.enc).map encCs)[k]? = some [.sl (a[k].enc.map CellD.cs)] := by simp [hlt.1, encCs]
   have hrb : rowsAt ((b.map V.enc).map encCs) 1 k = true := by simp [rowsAt, hlt.2, encCs]
   have hgb : ((b.map V.enc).map encCs)[k]? = some [.sl (b[k].enc.map CellD.cs)] := by simp [hlt.2, encCs]
   have hc := hrec a[k] (List.getElem_mem hlt.1) b[k] (List.getElem_mem hlt.2)
   rw [cmpLV_drop hlt.1 hlt.2] at hRk
   generalize a[k].cmp b[k] = x at *
   generalize a[k] = ak at *
   generalize b[k] = bk at *
   by_cases hx : x = 0
   ·subst hx
    rw [orI_zero] at hRk
    have h00 : ((0 : Int) != 0) = false := rfl
    refine wRUN (j8 hla hlb hda hdb hr hg hrb hgb) ?_
    refine w7 (op_data [] hc) trivial ?_
    refine wRUN (j2 h00 hw) ?_
    refine ⟨k + 1, by omega, ⟨by omega, by omega, hRk⟩, ?_⟩
    exact wSays (Says.of [] []) hw
   ·rw [orI_ne hx] at hRk
    have hb : (x != 0) = true := by simpa using hx
    rw [hRk]
    refine wRUN (j8 hla hlb hda hdb hr hg hrb hgb) ?_
    refine w7 (op_data [] hc) trivial ?_
    refine wRUN hb ?_
    exact wRet (ret_data []) Tryz.results258
  ·rw [cmpLV_end hk hk2 hlt] at hRk
   have hc := l1Sign_ac (decide ((a.length : Int) < (b.length : Int))) (decide ((a.length : Int) > (b.length : Int)))
   rw [sgn_I, ← hRk] at hc
   cases hda : decide ((k : Int) < (a.length : Int)) <;> cases hdb : decide ((k : Int) < (b.length : Int))
   case true.true => exact absurd ⟨by simpa using hda, by simpa using hdb⟩ hlt
   all_goals
    refine wRUN (j4 hla hlb hda hdb) ?_
    refine w7 (op_data [] hc) trivial ?_
    refine wRUN trivial ?_
    exact wRet (ret_data []) Tryz.results258
theorem l1Compare_ac : ∀ (m : Nat) (a b : V), a.count ≤ m → a.right → b.right → AC Tryz.prog 152 [cellsA a.enc, cellsA b.enc] [] (.c (.int .i64 (a.cmp b))) [] := by
 intro m
 induction m with
 | zero => intro a _ hm _ _; have := count_pos a; omega
 | succ m ih =>
  intro a b hm ha hb
  have hkl := kids_len_le ha.2.1
  have hck := count_kids a
  have hrec : ∀ x ∈ a.kids, ∀ y ∈ b.kids, AC Tryz.prog 152 [cellsA x.enc, cellsA y.enc] [] (.c (.int .i64 (x.cmp y))) [] := fun x hx y hy => ih x y (by have := countL_mem hx; omega) (right_mem ha hx) (right_mem hb hy)
  have hra : rowsAt (a.enc.map CellD.cs) 5 0 = true := by unfold rowsAt; rw [show (0 : Int).toNat = 0 from rfl, enc_head]; rfl
  have hga := enc_head a
  have hrb : rowsAt (b.enc.map CellD.cs) 5 0 = true := by unfold rowsAt; rw [show (0 : Int).toNat = 0 from rfl, enc_head]; rfl
  have hgb := enc_head b
  by_cases hk : a.kind = b.kind
  ·have hne : (a.kind != b.kind) = false := by simpa using hk
   by_cases h3 : a.kind = 3
   ·have hs := l1Sign_ac (decide (a.num < b.num)) (decide (a.num > b.num))
    rw [sgn_I] at hs
    rw [cmp_number ha.1 hb.1 hk h3]
    have h3b : (a.kind == 3) = true := by simpa using h3
    refine wEnter Tryz.func152 Tryz.ntmps152 ?_
    refine wRUN (j6 hra hga hrb hgb hne h3b) ?_
    refine w7 (op_data [] hs) trivial ?_
    refine wRUN trivial ?_
    exact wRet (ret_data []) Tryz.results152
   have h3b : (a.kind == 3) = false := by simpa using h3
   by_cases h4 : a.kind = 4
   ·have hs := l1Sign_ac (Op.bytesLess a.text.toList b.text.toList) (!(Op.bytesLess a.text.toList b.text.toList || a.text.toList == b.text.toList))
    rw [sgn_B] at hs
    rw [cmp_text ha.1 hb.1 hk h4]
    have h4b : (a.kind == 4) = true := by simpa using h4
    refine wEnter Tryz.func152 Tryz.ntmps152 ?_
    refine wRUN (j7 hra hga hrb hgb hne h3b h4b) ?_
    refine w7 (op_data [] hs) trivial ?_
    refine wRUN trivial ?_
    exact wRet (ret_data []) Tryz.results152
   have h4b : (a.kind == 4) = false := by simpa using h4
   have hpa := l1Parts_ac ha.1 ha.2.1
   have hpb := l1Parts_ac hb.1 hb.2.1
   have hli := l1Lists_ac a.kids b.kids (by omega) hrec
   by_cases h5 : a.kind = 5
   ·rw [cmp_array ha.1 hb.1 hk h5]
    have h5b : (a.kind == 5) = true := by simpa using h5
    refine wEnter Tryz.func152 Tryz.ntmps152 ?_
    refine wRUN (j8 hra hga hrb hgb hne h3b h4b h5b) ?_
    refine w9 (op_shared [] hpa) trivial ?_
    refine wRUN trivial ?_
    refine w9 (op_shared [] hpb) trivial ?_
    refine wRUN trivial ?_
    refine w7 (op_data [] hli) trivial ?_
    refine wRUN trivial ?_
    exact wRet (ret_data []) Tryz.results152
   have h5b : (a.kind == 5) = false := by simpa using h5
   by_cases h6 : a.kind = 6
   ·have h6b : (a.kind == 6) = true := by simpa using h6
    have hka := l1Keys_ac ha.1 ha.2.1
    have hkb := l1Keys_ac hb.1 hb.2.1
    have e1 : keysOf a a.kids.length = a.keys := keysOf_own ha h6
    have e2 : keysOf b b.kids.length = b.keys := keysOf_own hb (by omega)
    rw [e1] at hka
    rw [e2] at hkb
    have hkk := l1KeyLists_ac a.keys b.keys (by rw [(right_asc ha h6).2.2]; omega)
    rw [cmp_object ha.1 hb.1 hk h6]
    by_cases hz : cmpKeys a.keys b.keys = 0
    ·rw [hz] at hkk ⊢
     rw [orI_zero]
     have h00 : ((0 : Int) != 0) = false := rfl
     refine wEnter Tryz.func152 Tryz.ntmps152 ?_
     refine wRUN (j9 hra hga hrb hgb hne h3b h4b h5b h6b) ?_
     refine w9 (op_shared [] hka) trivial ?_
     refine wRUN trivial ?_
     refine w9 (op_shared [] hkb) trivial ?_
     refine wRUN trivial ?_
     refine w7 (op_data [] hkk) trivial ?_
     refine wRUN h00 ?_
     refine w9 (op_shared [] hpa) trivial ?_
     refine wRUN trivial ?_
     refine w9 (op_shared [] hpb) trivial ?_
     refine wRUN trivial ?_
     refine w7 (op_data [] hli) trivial ?_
     refine wRUN trivial ?_
     exact wRet (ret_data []) Tryz.results152
    ·rw [orI_ne hz]
     have hb1 : (cmpKeys a.keys b.keys != 0) = true := by simpa using hz
     refine wEnter Tryz.func152 Tryz.ntmps152 ?_
     refine wRUN (j9 hra hga hrb hgb hne h3b h4b h5b h6b) ?_
     refine w9 (op_shared [] hka) trivial ?_
     refine wRUN trivial ?_
     refine w9 (op_shared [] hkb) trivial ?_
     refine wRUN trivial ?_
     refine w7 (op_data [] hkk) trivial ?_
     refine wRUN hb1 ?_
     exact wRet (ret_data []) Tryz.results152
   have h6b : (a.kind == 6) = false := by simpa using h6
   rw [cmp_plain ha.1 hb.1 hk h3 h4 h5 h6]
   refine wEnter Tryz.func152 Tryz.ntmps152 ?_
   refine wRUN (j9 hra hga hrb hgb hne h3b h4b h5b h6b) ?_
   exact wRet (ret_data []) Tryz.results152
  ·have hne : (a.kind != b.kind) = true := by simpa using hk
   have hs := l1Sign_ac (decide (a.kind < b.kind)) true
   rw [sgn_ne hk] at hs
   have hR : a.cmp b = cmpI a.kind b.kind := by rw [cmp_eq, if_neg hk]
   rw [hR]
   refine wEnter Tryz.func152 Tryz.ntmps152 ?_
   refine wRUN (j5 hra hga hrb hgb hne) ?_
   refine w7 (op_data [] hs) trivial ?_
   refine wRUN trivial ?_
   exact wRet (ret_data []) Tryz.results152
end Go.Proofs.YtamgeodhpglgkaaGreat
