/- spec.l3Size, l3Bool, l3Among, l3Add, l3Sub, l3Times, l3Binary, by the engine. -/
import Derived.Test.YtamgeodhpglgkaaGreatKG21uM23
import Derived.Test.YtamgeodhpglgkaaGreatKG25uG26
import Derived.Test.YtamgeodhpglgkaaGreatKG67
import Derived.Test.YtamgeodhpglgkaaGreatKG43
import Derived.Test.YtamgeodhpglgkaaGreatKG49uG52
import Derived.Test.YtamgeodhpglgkaaGreatKE5
import Derived.Test.YtamgeodhpglgkaaGreatKG14uS02
import Derived.Deep.RegionLaw
import Derived.Shelf.RegionOpenPlain
import Derived.Laws.CopyRow
set_option linter.unusedSimpArgs false
set_option maxHeartbeats 8000000
namespace Go.Proofs.YtamgeodhpglgkaaGreat
open Go.RowKit
set_option maxRecDepth 10000
theorem l3Size_ac (n : Int) (h : -1000000000000000 ≤ n ∧ n ≤ 1000000000000000) : AC Tryz.prog 226 [.c (.int .i64 n)] [] (.c (.int .i64 (absI n))) [] := by
 by_cases h0 : n < 0
 ·have hd : decide (n < 0) = true := by simpa using h0
  have hw : IntKind.i64.wrap (0 - n) = -n := by rw [wrap_in (by omega) (by omega)]; omega
  have ha : absI n = -n := by unfold absI; omega
  rw [ha]
  refine wEnter Tryz.func226 Tryz.ntmps226 ?_
  refine wRUN (j2 hd hw) ?_
  exact wRet (ret_data []) Tryz.results226
 ·have hd : decide (n < 0) = false := by simpa using h0
  have ha : absI n = n := by unfold absI; omega
  rw [ha]
  refine wEnter Tryz.func226 Tryz.ntmps226 ?_
  refine wRUN hd ?_
  exact wRet (ret_data []) Tryz.results226
theorem l3Kinds {v : V} (h : v.right) : 0 ≤ v.kind ∧ v.kind ≤ 6 := ⟨(right_shape h.1).1, (right_shape h.1).2.1⟩
theorem l3Add_ac {a b : V} (ha : a.right) (hb : b.right) : AC Tryz.prog 230 [cellsA a.enc, cellsA b.enc] [] (vrA (addV a b)) [] := by
 have ra := enc_rows a
 have ga := enc_head a
 have rb := enc_rows b
 have gb := enc_head b
 have la := enc_len a
 have lb := enc_len b
 have ca := ha.2.1
 have cb := hb.2.1
 have alla := all_cells a.enc
 have allb := all_cells b.enc
 have pa : 0 + a.enc.length ≤ 1000000 := by omega
 have pb : 0 + b.enc.length ≤ 1000000 := by omega
 have pOa := l1PartsO_ac ha.1 ha.2.1
 have pOb := l1Parts_ac hb.1 hb.2.1
 obtain ⟨hak, hav⟩ := right_kl ha
 obtain ⟨hbk, hbv⟩ := right_kl hb
 unfold addV
 by_cases a0 : a.kind = 0
 ·have ba : (a.kind == 0) = true := by simpa using a0
  rw [if_pos a0, vrA_ok]
  refine wEnter Tryz.func230 Tryz.ntmps230 ?_
  refine wRUN (j5 ra ga ba allb pb) ?_
  exact wRetOf (ret_of [] [(12, 0)]) Tryz.results230 lb
 ·have ba : (a.kind == 0) = false := by simpa using a0
  rw [if_neg a0]
  by_cases b0 : b.kind = 0
  ·have bb : (b.kind == 0) = true := by simpa using b0
   rw [if_pos b0, vrA_ok]
   refine wEnter Tryz.func230 Tryz.ntmps230 ?_
   refine wRUN (j8 ra ga ba rb gb bb alla pa) ?_
   exact wRetOf (ret_of [] [(21, 0)]) Tryz.results230 la
  ·have bb : (b.kind == 0) = false := by simpa using b0
   rw [if_neg b0]
   by_cases h3 : a.kind = 3 ∧ b.kind = 3
   ·rw [if_pos h3]
    have hne : (a.kind != b.kind) = false := by simp [h3.1, h3.2]
    have k3 : (a.kind == 3) = true := by simp [h3.1]
    have n1 := right_num ha
    have n2 := right_num hb
    have hw : IntKind.i64.wrap (a.num + b.num) = a.num + b.num := wrap_in (by omega) (by omega)
    have hn := l1Number_ac (a.num + b.num)
    have hg := l1Told_ac (numV (a.num + b.num))
    generalize numV (a.num + b.num) = z at *
    generalize giveR z = r at *
    rcases r with ⟨c, _ | u⟩
    all_goals
     simp only [vrA_some, vrA_none] at hg ⊢
     refine wEnter Tryz.func230 Tryz.ntmps230 ?_
     refine wRUN (j9 ra ga ba rb gb bb hne k3 hw) ?_
     refine w9 (op_shared [] hn) trivial ?_
     refine w9 (op_shared [] hg) trivial ?_
     refine wRUN trivial ?_
     exact wRet (ret_data []) Tryz.results230
   ·rw [if_neg h3]
    by_cases h4 : a.kind = 4 ∧ b.kind = 4
    ·rw [if_pos h4]
     have hne : (a.kind != b.kind) = false := by simp [h4.1, h4.2]
     have k3 : (a.kind == 3) = false := by simp [h4.1]
     have k4 : (a.kind == 4) = true := by simp [h4.1]
     have t1 := text_size ha
     have t2 := text_size hb
     have hsz : a.text.size + b.text.size ≤ 9223372036854775807 := by omega
     have hn := l1String_ac (a.text ++ b.text)
     have hg := l1Told_ac (strV (a.text ++ b.text))
     generalize strV (a.text ++ b.text) = z at *
     generalize giveR z = r at *
     rcases r with ⟨c, _ | u⟩
     all_goals
      simp only [vrA_some, vrA_none] at hg ⊢
      refine wEnter Tryz.func230 Tryz.ntmps230 ?_
      refine wRUN (j10 ra ga ba rb gb bb hne k3 k4 hsz) ?_
      refine w9 (op_shared [] hn) trivial ?_
      refine w9 (op_shared [] hg) trivial ?_
      refine wRUN trivial ?_
      exact wRet (ret_data []) Tryz.results230
    ·rw [if_neg h4]
     by_cases h5 : a.kind = 5 ∧ b.kind = 5
     ·rw [if_pos h5]
      have hne : (a.kind != b.kind) = false := by simp [h5.1, h5.2]
      have k3 : (a.kind == 3) = false := by simp [h5.1]
      have k4 : (a.kind == 4) = false := by simp [h5.1]
      have k5 : (a.kind == 5) = true := by simp [h5.1]
      obtain ⟨hf, hc⟩ := arr2_fit ha hb
      have hay := l1ArrayS_ac (a.kids ++ b.kids) (by omega)
      have hall := all_encs (b.kids.map V.enc)
      have hla : ((a.kids.map V.enc).map encCs).length = a.kids.length := by simp
      have hlb : ((b.kids.map V.enc).map encCs).length = b.kids.length := by simp
      have hl1 : a.kids.length + b.kids.length ≤ 1000000 := by omega
      have e1 : (a.kids.map V.enc).map encCs ++ (b.kids.map V.enc).map encCs = ((a.kids ++ b.kids).map V.enc).map encCs := by rw [List.map_append, List.map_append]
      have hg := l1Told_ac (arrV (a.kids ++ b.kids))
      generalize a.kids ++ b.kids = K at *
      generalize arrV K = z at *
      generalize giveR z = r at *
      rcases r with ⟨c, _ | u⟩
      all_goals
       simp only [vrA_some, vrA_none] at hg ⊢
       refine wEnter Tryz.func230 Tryz.ntmps230 ?_
       refine wRUN (j10 ra ga ba rb gb bb hne k3 k4 k5) ?_
       refine w12 (op_rowF [] pOa) trivial ?_
       refine wRUN trivial ?_
       refine w9 (op_shared [] pOb) trivial ?_
       refine wRUN (j5 hall hla hlb hl1 e1) ?_
       refine w9 (op_shared [(69, 0)] hay) e1 ?_
       refine w9 (op_shared [] hg) trivial ?_
       refine wRUN trivial ?_
       exact wRet (ret_data []) Tryz.results230
     ·rw [if_neg h5]
      by_cases h6 : a.kind = 6 ∧ b.kind = 6
      ·rw [if_pos h6]
       have hne : (a.kind != b.kind) = false := by simp [h6.1, h6.2]
       have k3 : (a.kind == 3) = false := by simp [h6.1]
       have k4 : (a.kind == 4) = false := by simp [h6.1]
       have k5 : (a.kind == 5) = false := by simp [h6.1]
       have k6 : (a.kind == 6) = true := by simp [h6.1]
       obtain ⟨hf, hc1, hc2, hl⟩ := obj2_fit ha hb h6.1 h6.2
       have kOa := l1KeysO_ac ha.1 ha.2.1
       rw [show keysOf a a.kids.length = a.keys from keysOf_own ha h6.1] at kOa
       have kOb := l1Keys_ac hb.1 hb.2.1
       rw [show keysOf b b.kids.length = b.keys from keysOf_own hb h6.2] at kOb
       have hobj := l1Object_ac (a.keys ++ b.keys) (a.kids ++ b.kids) hl (by omega)
       have hall := all_encs (b.kids.map V.enc)
       have halls := all_strs b.keys
       have hla : ((a.kids.map V.enc).map encCs).length = a.kids.length := by simp
       have hlb : ((b.kids.map V.enc).map encCs).length = b.kids.length := by simp
       have hka : (a.keys.map strCs).length = a.keys.length := by simp
       have hkb : (b.keys.map strCs).length = b.keys.length := by simp
       have hl1 : a.kids.length + b.kids.length ≤ 1000000 := by omega
       have hl2 : a.keys.length + b.keys.length ≤ 1000000 := by omega
       have e1 : (a.kids.map V.enc).map encCs ++ (b.kids.map V.enc).map encCs = ((a.kids ++ b.kids).map V.enc).map encCs := by rw [List.map_append, List.map_append]
       have e2 : a.keys.map strCs ++ b.keys.map strCs = (a.keys ++ b.keys).map strCs := by rw [List.map_append]
       have hg := l1Told_ac (objV (a.keys ++ b.keys) (a.kids ++ b.kids))
       generalize objV (a.keys ++ b.keys) (a.kids ++ b.kids) = z at *
       generalize a.keys ++ b.keys = KK at *
       generalize a.kids ++ b.kids = K at *
       generalize giveR z = r at *
       rcases r with ⟨c, _ | u⟩
       all_goals
        simp only [vrA_some, vrA_none] at hg ⊢
        refine wEnter Tryz.func230 Tryz.ntmps230 ?_
        refine wRUN (j11 ra ga ba rb gb bb hne k3 k4 k5 k6) ?_
        refine w12 (op_rowF [] kOa) trivial ?_
        refine wRUN trivial ?_
        refine w9 (op_shared [] kOb) trivial ?_
        refine wRUN (j5 halls hka hkb hl2 e2) ?_
        refine w12 (op_rowF [] pOa) trivial ?_
        refine wRUN trivial ?_
        refine w9 (op_shared [] pOb) trivial ?_
        refine wRUN (j5 hall hla hlb hl1 e1) ?_
        refine w12 (op_rowT [(78, 0), (83, 0)] hobj) (j2 e1 e2) ?_
        refine w9 (op_shared [(84, 0)] hg) trivial ?_
        refine wRUN trivial ?_
        exact wRet (ret_data []) Tryz.results230
      ·rw [if_neg h6, vrA_bad]
       by_cases hk : a.kind = b.kind
       ·have hne : (a.kind != b.kind) = false := by simpa using hk
        have k3 : (a.kind == 3) = false := by simp; omega
        have k4 : (a.kind == 4) = false := by simp; omega
        have k5 : (a.kind == 5) = false := by simp; omega
        have k6 : (a.kind == 6) = false := by simp; omega
        refine wEnter Tryz.func230 Tryz.ntmps230 ?_
        refine wRUN (j11 ra ga ba rb gb bb hne k3 k4 k5 k6) ?_
        refine w7 (op_data [] (l3Bad_ac 6)) trivial ?_
        refine wRUN trivial ?_
        exact wRet (ret_data []) Tryz.results230
       ·have hne : (a.kind != b.kind) = true := by simpa using hk
        refine wEnter Tryz.func230 Tryz.ntmps230 ?_
        refine wRUN (j7 ra ga ba rb gb bb hne) ?_
        refine w7 (op_data [] (l3Bad_ac 6)) trivial ?_
        refine wRUN trivial ?_
        exact wRet (ret_data []) Tryz.results230
end Go.Proofs.YtamgeodhpglgkaaGreat
