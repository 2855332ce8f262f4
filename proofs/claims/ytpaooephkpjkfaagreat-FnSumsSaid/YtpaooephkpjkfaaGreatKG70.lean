/- spec.l3Size, l3Bool, l3Among, l3Add, l3Sub, l3Times, l3Binary, by the engine. -/
import Derived.Test.YtpaooephkpjkfaaGreatKM23
import Derived.Test.YtpaooephkpjkfaaGreatKG25uG26
import Derived.Test.YtpaooephkpjkfaaGreatKG68
import Derived.Test.YtpaooephkpjkfaaGreatKM3
import Derived.Test.YtpaooephkpjkfaaGreatKG14uS02
import Derived.Test.YtpaooephkpjkfaaGreatKG49uG52
import Derived.Deep.RegionLaw
import Derived.Shelf.RegionOpenPlain
import Derived.Laws.CopyRow
set_option linter.unusedSimpArgs false
set_option linter.unusedVariables false
set_option linter.unnecessarySimpa false
namespace Go.Proofs.YtpaooephkpjkfaaGreat
open Go.RowKit
set_option maxRecDepth 10000
theorem l3Size_ac (n : Int) (h : -1000000000000000 ≤ n ∧ n ≤ 1000000000000000) : AC Tryz.prog 194 [.c (.int .i64 n)] [] (.c (.int .i64 (absI n))) [] := by
  by_cases h0 : n < 0
  · have hd : decide (n < 0) = true := by simpa using h0
    have hw : IntKind.i64.wrap (0 - n) = -n := by rw [wrap_in (by omega) (by omega)]; omega
    have ha : absI n = -n := by unfold absI; omega
    rw [ha]
    refine wEnter Tryz.func194 Tryz.ntmps194 ?_
    refine wRUN (j2 hd hw) ?_
    exact wRet (ret_data []) Tryz.results194
  · have hd : decide (n < 0) = false := by simpa using h0
    have ha : absI n = n := by unfold absI; omega
    rw [ha]
    refine wEnter Tryz.func194 Tryz.ntmps194 ?_
    refine wRUN hd ?_
    exact wRet (ret_data []) Tryz.results194
theorem l3Bool_ac (b : Bool) : AC Tryz.prog 129 [.c (.bool b)] [] (.c (.sl ((boolV b).enc.map CellD.cs))) [] := by
  have hb : (boolV b).enc.map CellD.cs = [[.int .i64 (bif b then 2 else 1), .int .i64 0, .str ByteArray.empty, .str ByteArray.empty, .int .i64 0]] := by cases b <;> rfl
  rw [hb]
  cases b
  all_goals
    refine wEnter Tryz.func129 Tryz.ntmps129 ?_
    refine wRUN trivial ?_
    (apply (ret_of [] [(5, 0), (7, 0)]); (focus (simp only [Tryz.results129, go_sem, Nat.reduceBEq, Nat.reduceLT, cond_true, cond_false]; exact rfl)); (focus (simp only [go_sem, Nat.reduceEqDiff, Nat.reduceAdd, Nat.reduceSub, Nat.reduceLeDiff, Nat.reduceMul, Nat.reduceBEq, Nat.reduceLT, Int.reduceToNat, reduceCtorEq, cond_true, cond_false]; try (and_intros <;> rfl))); (focus exact rfl); (focus (simp only [go_sem, Nat.reduceEqDiff, Nat.reduceAdd, Nat.reduceSub, Nat.reduceLeDiff, Nat.reduceMul, Nat.reduceBEq, Nat.reduceLT, Int.reduceToNat, reduceCtorEq, cond_true, cond_false]; try (and_intros <;> rfl))); (focus exact rfl); (iterate 4 (focus (simp [go_sem, cond_true, cond_false]; done))))
theorem cmp_turn (x y : V) : (y.cmp x == 0) = (x.cmp y == 0) := by
  by_cases h : x = y
  · subst h; rfl
  · have h1 : ¬ x.cmp y = 0 := fun e => h (cmp_null.1 e)
    have h2 : ¬ y.cmp x = 0 := fun e => h (cmp_null.1 e).symm
    rw [beq_eq_false_iff_ne.2 h1, beq_eq_false_iff_ne.2 h2]
set_option maxHeartbeats 2000000 in
theorem l3Among_ac (l : List V) (x : V) (hx : x.right) (hr : ∀ v ∈ l, v.right) (hl : l.length ≤ 1000000) : AC Tryz.prog 193 [.c (.sl ((l.map V.enc).map encCs)), cellsA x.enc] [] (.c (.bool (l.any fun y => x.cmp y == 0))) [] := by
  have hlm : ((l.map V.enc).map encCs).length = l.length := by simp
  refine wEnter Tryz.func193 Tryz.ntmps193 ?_
  refine wRUN trivial ?_
  refine a_loop (κ := Nat) (fun k => ⟨mkS 0 19 [(0, .c (.sl ((l.map V.enc).map encCs))), (1, cellsA x.enc), (5, .c (.int .i64 k))], []⟩)
    (fun k => k ≤ l.length ∧ (l.any fun y => x.cmp y == 0) = ((l.drop k).any fun y => x.cmp y == 0)) (fun k => l.length - k) 0 ⟨Nat.zero_le _, rfl⟩ ?_ ?_
  · exact wSays (Says.of [] []) hlm
  · rintro k ⟨hk, hR⟩
    by_cases hlt : k < l.length
    · have hdk : decide ((k : Int) < (l.length : Int)) = true := by simpa using hlt
      have hw := wrap_succ (k := k) (by omega)
      have hr2 : rowsAt ((l.map V.enc).map encCs) 1 k = true := by simp [rowsAt, hlt, encCs]
      have hg2 : ((l.map V.enc).map encCs)[k]? = some [.sl (l[k].enc.map CellD.cs)] := by simp [hlt, encCs]
      have hc := l1Compare_ac l[k].count l[k] x (Nat.le_refl _) (hr _ (List.getElem_mem hlt)) hx
      have ht := cmp_turn x l[k]
      rw [List.drop_eq_getElem_cons hlt, List.any_cons] at hR
      generalize l[k] = y at *
      cases hb : x.cmp y == 0 with
      | true =>
        rw [hb] at ht hR
        rw [hR, Bool.true_or]
        refine wRUN (j4 hlm hdk hr2 hg2) ?_
        refine w7 (op_data [] hc) trivial ?_
        refine wRUN ht ?_
        exact wRet (ret_data []) Tryz.results193
      | false =>
        rw [hb] at ht hR
        rw [Bool.false_or] at hR
        refine wRUN (j4 hlm hdk hr2 hg2) ?_
        refine w7 (op_data [] hc) trivial ?_
        refine wRUN (j2 ht hw) ?_
        refine ⟨k + 1, by omega, ⟨by omega, hR⟩, ?_⟩
        exact wSays (Says.of [] []) hw
    · have hdk : decide ((k : Int) < (l.length : Int)) = false := by simpa using hlt
      rw [hR, List.drop_eq_nil_of_le (by omega), List.any_nil]
      refine wRUN (j2 hlm hdk) ?_
      exact wRet (ret_data []) Tryz.results193
set_option maxHeartbeats 8000000 in
theorem l3Add_ac {a b : V} (ha : a.right) (hb : b.right) : AC Tryz.prog 127 [cellsA a.enc, cellsA b.enc] [] (vrA (addV a b)) [] := by
  have ra := enc_rows a
  have ga := enc_head a
  have rb := enc_rows b
  have gb := enc_head b
  have la := enc_len a
  have lb := enc_len b
  have ca := ha.2.1
  have cb := hb.2.1
  have alla := all_cells a.enc
  have allb := all_cells b.enc
  have pa : 0 + a.enc.length ≤ 1000000 := by omega
  have pb : 0 + b.enc.length ≤ 1000000 := by omega
  have pOa := l1PartsO_ac ha.1 ha.2.1
  have pOb := l1Parts_ac hb.1 hb.2.1
  obtain ⟨hak, hav⟩ := right_kl ha
  obtain ⟨hbk, hbv⟩ := right_kl hb
  unfold addV
  by_cases a0 : a.kind = 0
  · have ba : (a.kind == 0) = true := by simpa using a0
    rw [if_pos a0, vrA_ok]
    refine wEnter Tryz.func127 Tryz.ntmps127 ?_
    refine wRUN (j5 ra ga ba allb pb) ?_
    exact wRetOf (ret_of [] [(12, 0)]) Tryz.results127 lb
  · have ba : (a.kind == 0) = false := by simpa using a0
    rw [if_neg a0]
    by_cases b0 : b.kind = 0
    · have bb : (b.kind == 0) = true := by simpa using b0
      rw [if_pos b0, vrA_ok]
      refine wEnter Tryz.func127 Tryz.ntmps127 ?_
      refine wRUN (j8 ra ga ba rb gb bb alla pa) ?_
      exact wRetOf (ret_of [] [(21, 0)]) Tryz.results127 la
    · have bb : (b.kind == 0) = false := by simpa using b0
      rw [if_neg b0]
      by_cases h3 : a.kind = 3 ∧ b.kind = 3
      · rw [if_pos h3]
        have hne : (a.kind != b.kind) = false := by simp [h3.1, h3.2]
        have k3 : (a.kind == 3) = true := by simp [h3.1]
        have n1 := right_num ha
        have n2 := right_num hb
        have hw : IntKind.i64.wrap (a.num + b.num) = a.num + b.num := wrap_in (by omega) (by omega)
        have hn := l1Number_ac (a.num + b.num)
        have hg := l1Told_ac (numV (a.num + b.num))
        generalize numV (a.num + b.num) = z at *
        generalize giveR z = r at *
        rcases r with ⟨c, _ | u⟩
        all_goals
          simp only [vrA_some, vrA_none] at hg ⊢
          refine wEnter Tryz.func127 Tryz.ntmps127 ?_
          refine wRUN (j9 ra ga ba rb gb bb hne k3 hw) ?_
          refine w9 (op_shared [] hn) trivial ?_
          refine w9 (op_shared [] hg) trivial ?_
          refine wRUN trivial ?_
          exact wRet (ret_data []) Tryz.results127
      · rw [if_neg h3]
        by_cases h4 : a.kind = 4 ∧ b.kind = 4
        · rw [if_pos h4]
          have hne : (a.kind != b.kind) = false := by simp [h4.1, h4.2]
          have k3 : (a.kind == 3) = false := by simp [h4.1]
          have k4 : (a.kind == 4) = true := by simp [h4.1]
          have t1 := text_size ha
          have t2 := text_size hb
          have hsz : a.text.size + b.text.size ≤ 9223372036854775807 := by omega
          have hn := l1String_ac (a.text ++ b.text)
          have hg := l1Told_ac (strV (a.text ++ b.text))
          generalize strV (a.text ++ b.text) = z at *
          generalize giveR z = r at *
          rcases r with ⟨c, _ | u⟩
          all_goals
            simp only [vrA_some, vrA_none] at hg ⊢
            refine wEnter Tryz.func127 Tryz.ntmps127 ?_
            refine wRUN (j10 ra ga ba rb gb bb hne k3 k4 hsz) ?_
            refine w9 (op_shared [] hn) trivial ?_
            refine w9 (op_shared [] hg) trivial ?_
            refine wRUN trivial ?_
            exact wRet (ret_data []) Tryz.results127
        · rw [if_neg h4]
          by_cases h5 : a.kind = 5 ∧ b.kind = 5
          · rw [if_pos h5]
            have hne : (a.kind != b.kind) = false := by simp [h5.1, h5.2]
            have k3 : (a.kind == 3) = false := by simp [h5.1]
            have k4 : (a.kind == 4) = false := by simp [h5.1]
            have k5 : (a.kind == 5) = true := by simp [h5.1]
            obtain ⟨hf, hc⟩ := arr2_fit ha hb
            have hay := l1ArrayS_ac (a.kids ++ b.kids) (by omega)
            have hall := all_encs (b.kids.map V.enc)
            have hla : ((a.kids.map V.enc).map encCs).length = a.kids.length := by simp
            have hlb : ((b.kids.map V.enc).map encCs).length = b.kids.length := by simp
            have hl1 : a.kids.length + b.kids.length ≤ 1000000 := by omega
            have e1 : (a.kids.map V.enc).map encCs ++ (b.kids.map V.enc).map encCs = ((a.kids ++ b.kids).map V.enc).map encCs := by rw [List.map_append, List.map_append]
            have hg := l1Told_ac (arrV (a.kids ++ b.kids))
            generalize a.kids ++ b.kids = K at *
            generalize arrV K = z at *
            generalize giveR z = r at *
            rcases r with ⟨c, _ | u⟩
            all_goals
              simp only [vrA_some, vrA_none] at hg ⊢
              refine wEnter Tryz.func127 Tryz.ntmps127 ?_
              refine wRUN (j10 ra ga ba rb gb bb hne k3 k4 k5) ?_
              refine w12 (op_rowF [] pOa) trivial ?_
              refine wRUN trivial ?_
              refine w9 (op_shared [] pOb) trivial ?_
              refine wRUN (j5 hall hla hlb hl1 e1) ?_
              refine w9 (op_shared [(69, 0)] hay) e1 ?_
              refine w9 (op_shared [] hg) trivial ?_
              refine wRUN trivial ?_
              exact wRet (ret_data []) Tryz.results127
          · rw [if_neg h5]
            by_cases h6 : a.kind = 6 ∧ b.kind = 6
            · rw [if_pos h6]
              have hne : (a.kind != b.kind) = false := by simp [h6.1, h6.2]
              have k3 : (a.kind == 3) = false := by simp [h6.1]
              have k4 : (a.kind == 4) = false := by simp [h6.1]
              have k5 : (a.kind == 5) = false := by simp [h6.1]
              have k6 : (a.kind == 6) = true := by simp [h6.1]
              obtain ⟨hf, hc1, hc2, hl⟩ := obj2_fit ha hb h6.1 h6.2
              have kOa := l1KeysO_ac ha.1 ha.2.1
              rw [show keysOf a a.kids.length = a.keys from keysOf_own ha h6.1] at kOa
              have kOb := l1Keys_ac hb.1 hb.2.1
              rw [show keysOf b b.kids.length = b.keys from keysOf_own hb h6.2] at kOb
              have hobj := l1Object_ac (a.keys ++ b.keys) (a.kids ++ b.kids) hl (by omega)
              have hall := all_encs (b.kids.map V.enc)
              have halls := all_strs b.keys
              have hla : ((a.kids.map V.enc).map encCs).length = a.kids.length := by simp
              have hlb : ((b.kids.map V.enc).map encCs).length = b.kids.length := by simp
              have hka : (a.keys.map strCs).length = a.keys.length := by simp
              have hkb : (b.keys.map strCs).length = b.keys.length := by simp
              have hl1 : a.kids.length + b.kids.length ≤ 1000000 := by omega
              have hl2 : a.keys.length + b.keys.length ≤ 1000000 := by omega
              have e1 : (a.kids.map V.enc).map encCs ++ (b.kids.map V.enc).map encCs = ((a.kids ++ b.kids).map V.enc).map encCs := by rw [List.map_append, List.map_append]
              have e2 : a.keys.map strCs ++ b.keys.map strCs = (a.keys ++ b.keys).map strCs := by rw [List.map_append]
              have hg := l1Told_ac (objV (a.keys ++ b.keys) (a.kids ++ b.kids))
              generalize objV (a.keys ++ b.keys) (a.kids ++ b.kids) = z at *
              generalize a.keys ++ b.keys = KK at *
              generalize a.kids ++ b.kids = K at *
              generalize giveR z = r at *
              rcases r with ⟨c, _ | u⟩
              all_goals
                simp only [vrA_some, vrA_none] at hg ⊢
                refine wEnter Tryz.func127 Tryz.ntmps127 ?_
                refine wRUN (j11 ra ga ba rb gb bb hne k3 k4 k5 k6) ?_
                refine w12 (op_rowF [] kOa) trivial ?_
                refine wRUN trivial ?_
                refine w9 (op_shared [] kOb) trivial ?_
                refine wRUN (j5 halls hka hkb hl2 e2) ?_
                refine w12 (op_rowF [] pOa) trivial ?_
                refine wRUN trivial ?_
                refine w9 (op_shared [] pOb) trivial ?_
                refine wRUN (j5 hall hla hlb hl1 e1) ?_
                refine w12 (op_rowT [(78, 0), (83, 0)] hobj) (j2 e1 e2) ?_
                refine w9 (op_shared [(84, 0)] hg) trivial ?_
                refine wRUN trivial ?_
                exact wRet (ret_data []) Tryz.results127
            · rw [if_neg h6, vrA_bad]
              by_cases hk : a.kind = b.kind
              · have hne : (a.kind != b.kind) = false := by simpa using hk
                have k3 : (a.kind == 3) = false := by simp; omega
                have k4 : (a.kind == 4) = false := by simp; omega
                have k5 : (a.kind == 5) = false := by simp; omega
                have k6 : (a.kind == 6) = false := by simp; omega
                refine wEnter Tryz.func127 Tryz.ntmps127 ?_
                refine wRUN (j11 ra ga ba rb gb bb hne k3 k4 k5 k6) ?_
                refine w7 (op_data [] (l3Bad_ac 6)) trivial ?_
                refine wRUN trivial ?_
                exact wRet (ret_data []) Tryz.results127
              · have hne : (a.kind != b.kind) = true := by simpa using hk
                refine wEnter Tryz.func127 Tryz.ntmps127 ?_
                refine wRUN (j7 ra ga ba rb gb bb hne) ?_
                refine w7 (op_data [] (l3Bad_ac 6)) trivial ?_
                refine wRUN trivial ?_
                exact wRet (ret_data []) Tryz.results127
theorem less_grow (a b : List V) : ∃ F : Nat → List V, F 0 = [] ∧ (∀ k, (F k).length ≤ k) ∧ F a.length = lessK a b ∧ ∀ k (h : k < a.length), F (k + 1) = F k ++ (if (b.any fun y => a[k].cmp y == 0) = true then [] else [a[k]]) := by
  refine ⟨fun k => (a.take k).filter fun x => !(b.any fun y => x.cmp y == 0), rfl, fun k => ?_, by dsimp only; rw [List.take_length]; rfl, fun k h => ?_⟩
  · exact Nat.le_trans (List.length_filter_le _ _) (by rw [List.length_take]; omega)
  · dsimp only
    rw [List.take_succ_eq_append_getElem h, List.filter_append]
    congr 1
    rw [List.filter_cons, List.filter_nil]
    cases b.any fun y => a[k].cmp y == 0 <;> rfl
set_option maxHeartbeats 8000000 in
theorem l3Sub_ac {a b : V} (ha : a.right) (hb : b.right) : AC Tryz.prog 128 [cellsA a.enc, cellsA b.enc] [] (vrA (subV a b)) [] := by
  have ra := enc_rows a
  have ga := enc_head a
  have rb := enc_rows b
  have gb := enc_head b
  have pOa := l1Parts_ac ha.1 ha.2.1
  have pOb := l1Parts_ac hb.1 hb.2.1
  obtain ⟨hak, hav⟩ := right_kl ha
  obtain ⟨hbk, hbv⟩ := right_kl hb
  unfold subV
  by_cases h3 : a.kind = 3 ∧ b.kind = 3
  · rw [if_pos h3]
    have k3 : (a.kind == 3) = true := by simp [h3.1]
    have j3 : (b.kind == 3) = true := by simp [h3.2]
    have n1 := right_num ha
    have n2 := right_num hb
    have hw : IntKind.i64.wrap (a.num - b.num) = a.num - b.num := wrap_in (by omega) (by omega)
    have hn := l1Number_ac (a.num - b.num)
    have hg := l1Told_ac (numV (a.num - b.num))
    generalize numV (a.num - b.num) = z at *
    generalize giveR z = r at *
    rcases r with ⟨c, _ | u⟩
    all_goals
      simp only [vrA_some, vrA_none] at hg ⊢
      refine wEnter Tryz.func128 Tryz.ntmps128 ?_
      (repeat (first | (with_reducible first | refine a_seq ?_ | refine a_region ?_ | refine a_block ?_ | refine a_scope ?_) | ((with_reducible apply op_any); (iterate 2 (focus (first | (simp only [go_sem, Nat.reduceEqDiff, Nat.reduceAdd, Nat.reduceSub, Nat.reduceLeDiff, Nat.reduceMul, Nat.reduceBEq, Nat.reduceLT, Int.reduceToNat, reduceCtorEq, ra, ga, rb, gb, k3, j3, hw]; first | done | exact rfl | (and_intros <;> rfl)) | exact rfl | decide)))) | ((with_reducible refine o_nil ?_); dsimp only; try ((with_reducible apply o_draw); (focus (simp only [go_sem]; exact rfl)); (focus decide))) | ((with_reducible first | refine a_ret ?_ | refine a_skip ?_ | refine a_label ?_); dsimp only) | ((with_reducible refine a_exit ?_); dsimp only; simp only [if_true, if_false, Nat.reduceEqDiff]) | ((with_reducible apply a_if); (focus (simp only [go_sem, Nat.reduceBEq, Nat.reduceLT, ra, ga, rb, gb, k3, j3, hw]; exact rfl)); dsimp only [cond_true, cond_false]) | ((with_reducible refine a_draw ?_ ?_); (focus exact rfl))))
      refine w9 (op_shared [] hn) trivial ?_
      refine w9 (op_shared [] hg) trivial ?_
      refine wRUN trivial ?_
      exact wRet (ret_data []) Tryz.results128
  · rw [if_neg h3]
    by_cases h5 : a.kind = 5 ∧ b.kind = 5
    · rw [if_pos h5, vrA_ok]
      have k3 : (a.kind == 3) = false := by simp [h5.1]
      have k5 : (a.kind != 5) = false := by simp [h5.1]
      have j5 : (b.kind != 5) = false := by simp [h5.2]
      obtain ⟨F, hF0, hFl, hFn, hFs⟩ := less_grow a.kids b.kids
      have hrt := (less_right (b := b) ha).2.1
      have hay := l1ArrayS_ac (lessK a.kids b.kids) (by omega)
      rw [← hFn] at hay hrt ⊢
      have hlm : ((a.kids.map V.enc).map encCs).length = a.kids.length := by simp
      generalize arrV (F a.kids.length) = ar at *
      refine wEnter Tryz.func128 Tryz.ntmps128 ?_
      (repeat (first | (with_reducible first | refine a_seq ?_ | refine a_region ?_ | refine a_block ?_ | refine a_scope ?_) | ((with_reducible apply op_any); (iterate 2 (focus (first | (simp only [go_sem, Nat.reduceEqDiff, Nat.reduceAdd, Nat.reduceSub, Nat.reduceLeDiff, Nat.reduceMul, Nat.reduceBEq, Nat.reduceLT, Int.reduceToNat, reduceCtorEq, ra, ga, k3, k5, rb, gb, j5]; first | done | exact rfl | (and_intros <;> rfl)) | exact rfl | decide)))) | ((with_reducible refine o_nil ?_); dsimp only; try ((with_reducible apply o_draw); (focus (simp only [go_sem]; exact rfl)); (focus decide))) | ((with_reducible first | refine a_ret ?_ | refine a_skip ?_ | refine a_label ?_); dsimp only) | ((with_reducible refine a_exit ?_); dsimp only; simp only [if_true, if_false, Nat.reduceEqDiff]) | ((with_reducible apply a_if); (focus (simp only [go_sem, Nat.reduceBEq, Nat.reduceLT, ra, ga, k3, k5, rb, gb, j5]; exact rfl)); dsimp only [cond_true, cond_false]) | ((with_reducible refine a_draw ?_ ?_); (focus exact rfl))))
      refine w9 (op_shared [] pOb) trivial ?_
      refine wRUN trivial ?_
      refine w9 (op_shared [] pOa) trivial ?_
      refine wRUN trivial ?_
      refine a_loop (κ := Nat) (fun k => ⟨mkS 0 73 [(4, .ptr (4, 0) 0), (5, .c (.sl ((b.kids.map V.enc).map encCs))), (6, .c (.sl ((a.kids.map V.enc).map encCs))), (7, .own (97, 0)), (8, .c (.int .i64 k))],
          [((4, 0), .box [.c (.int .i64 0), .nils]), ((97, 0), .row false 1 24 (((F k).map V.enc).map encCs))]⟩)
        (fun k => k ≤ a.kids.length) (fun k => a.kids.length - k) 0 (Nat.zero_le _) ?_ ?_
      · (apply (Says.of [((4, 0), (4, 0)), ((97, 0), (49, 0))] []); (iterate 2 ((focus (simp only [go_sem, Nat.reduceEqDiff, Nat.reduceAdd, Nat.reduceSub, Nat.reduceLeDiff, Nat.reduceMul, Nat.reduceBEq, Nat.reduceLT, Int.reduceToNat, reduceCtorEq, hF0, List.map_nil]; try (and_intros <;> rfl))); (focus exact rfl))); (iterate 4 (focus (simp [go_sem, hF0, List.map_nil]; done))))
      · intro k hk
        by_cases hlt : k < a.kids.length
        · have hdk : decide ((k : Int) < (a.kids.length : Int)) = true := by simpa using hlt
          have hw := wrap_succ (k := k) (by omega)
          have hr2 : rowsAt ((a.kids.map V.enc).map encCs) 1 k = true := by simp [rowsAt, hlt, encCs]
          have hg2 : ((a.kids.map V.enc).map encCs)[k]? = some [.sl (a.kids[k].enc.map CellD.cs)] := by simp [hlt, encCs]
          have hl1 : (F k).length + 1 ≤ 1000000 := by have := hFl k; omega
          have ham := l3Among_ac b.kids a.kids[k] (right_mem ha (List.getElem_mem hlt)) (fun v hv => right_mem hb hv) (by omega)
          have hFk := hFs k hlt
          have e1 : F (k + 1) = F k ++ [a.kids[k]] → ((F k).map V.enc).map encCs ++ [[C.sl (a.kids[k].enc.map CellD.cs)]] = ((F (k + 1)).map V.enc).map encCs := fun h => by rw [h, List.map_append, List.map_append]; rfl
          generalize a.kids[k] = u at *
          generalize (b.kids.any fun y => u.cmp y == 0) = t at *
          cases t with
          | true =>
            have e := hFk
            simp only [if_true, List.append_nil] at e
            refine wRUN (j4 hlm hdk hr2 hg2) ?_
            refine w7 (op_data [] ham) trivial ?_
            refine wRUN hw ?_
            refine ⟨k + 1, by omega, by omega, ?_⟩
            exact wSays (Says.of [((4, 0), (4, 0)), ((97, 0), (97, 0))] []) e
          | false =>
            have e := hFk
            simp only [Bool.false_eq_true, if_false] at e
            have e1 := e1 e
            refine wRUN (j4 hlm hdk hr2 hg2) ?_
            refine w7 (op_data [] ham) trivial ?_
            refine wRUN (j4 hr2 hg2 hl1 hw) ?_
            refine ⟨k + 1, by omega, by omega, ?_⟩
            exact wSays (Says.of [((4, 0), (4, 0)), ((97, 0), (69, 0))] []) e1
        · have hdk : decide ((k : Int) < (a.kids.length : Int)) = false := by simpa using hlt
          have hke : k = a.kids.length := by omega
          rw [hke]
          rw [hke] at hdk
          refine wRUN (j2 hlm hdk) ?_
          refine w9 (op_shared [(97, 0)] hay) trivial ?_
          refine wRUN trivial ?_
          exact wRet (ret_data []) Tryz.results128
    · rw [if_neg h5, vrA_bad]
      cases k3 : a.kind == 3 <;> cases j3 : b.kind == 3 <;> cases k5 : a.kind != 5 <;> cases j5 : b.kind != 5
      all_goals first
        | (exfalso; simp at k3 j3 k5 j5; omega)
        | (refine wEnter Tryz.func128 Tryz.ntmps128 ?_
           (repeat (first | (with_reducible first | refine a_seq ?_ | refine a_region ?_ | refine a_block ?_ | refine a_scope ?_) | ((with_reducible apply op_any); (iterate 2 (focus (first | (simp only [go_sem, Nat.reduceEqDiff, Nat.reduceAdd, Nat.reduceSub, Nat.reduceLeDiff, Nat.reduceMul, Nat.reduceBEq, Nat.reduceLT, Int.reduceToNat, reduceCtorEq, ra, ga, rb, gb, k3, j3, k5, j5]; first | done | exact rfl | (and_intros <;> rfl)) | exact rfl | decide)))) | ((with_reducible refine o_nil ?_); dsimp only; try ((with_reducible apply o_draw); (focus (simp only [go_sem]; exact rfl)); (focus decide))) | ((with_reducible first | refine a_ret ?_ | refine a_skip ?_ | refine a_label ?_); dsimp only) | ((with_reducible refine a_exit ?_); dsimp only; simp only [if_true, if_false, Nat.reduceEqDiff]) | ((with_reducible apply a_if); (focus (simp only [go_sem, Nat.reduceBEq, Nat.reduceLT, ra, ga, rb, gb, k3, j3, k5, j5]; exact rfl)); dsimp only [cond_true, cond_false]) | ((with_reducible refine a_draw ?_ ?_); (focus exact rfl))))
           refine w7 (op_data [] (l3Bad_ac 6)) trivial ?_
           refine wRUN trivial ?_
           exact wRet (ret_data []) Tryz.results128)
theorem abs_wrap' {x : Int} : IntKind.i64.wrap ((1000000000000000 : Int).tdiv (absI x)) = (1000000000000000 : Int).tdiv (absI x) := by
  have h1 : ((1000000000000000 : Int).tdiv (absI x)).natAbs = (1000000000000000 : Int).natAbs / (absI x).natAbs := Int.natAbs_tdiv 1000000000000000 (absI x)
  have h2 := Nat.div_le_self (1000000000000000 : Int).natAbs (absI x).natAbs
  exact wrap_in (by omega) (by omega)
def timesV (op x y : Int) : Int × Option V :=
  if op = 3 then (if tooBig x y = true then badR 3 else okR (numV (x * y)))
  else if y = 0 then badR 3 else okR (numV (if op = 10 then x.tdiv y else x.tmod y))
set_option maxHeartbeats 4000000 in
theorem l3Times_ac (op x y : Int) (n1 : -1000000000000000 ≤ x ∧ x ≤ 1000000000000000) (n2 : -1000000000000000 ≤ y ∧ y ≤ 1000000000000000) : AC Tryz.prog 130 [.c (.int .i64 op), .c (.int .i64 x), .c (.int .i64 y)] [] (vrA (timesV op x y)) [] := by
  have hsx := l3Size_ac x n1
  have hsy := l3Size_ac y n2
  unfold timesV
  by_cases o3 : op = 3
  · have ho3 : (op == 3) = true := by simpa using o3
    rw [if_pos o3]
    cases hbig : tooBig x y with
    | true =>
      have hy0 : y ≠ 0 := by intro h; rw [h, big_comm, big_zero] at hbig; cases hbig
      have hyb : (y != 0) = true := by simpa using hy0
      have hq := (quo_big (y := x) hy0).trans ((big_comm y x).trans hbig)
      have ha0 : (absI y = 0) = False := by apply eq_false; unfold absI; omega
      have haw := abs_wrap' (x := y)
      rw [if_pos rfl, vrA_bad]
      refine wEnter Tryz.func130 Tryz.ntmps130 ?_
      refine wRUN (j2 ho3 hyb) ?_
      refine w7 (op_data [] hsx) trivial ?_
      refine wRUN hyb ?_
      refine w7 (op_data [] hsy) trivial ?_
      refine wRUN (j4 hyb ha0 haw hq) ?_
      refine w7 (op_data [] (l3Bad_ac 3)) trivial ?_
      refine wRUN trivial ?_
      exact wRet (ret_data []) Tryz.results130
    | false =>
      have hm := mul_small hbig
      have hw : IntKind.i64.wrap (x * y) = x * y := wrap_in (by omega) (by omega)
      have hn := l1Number_ac (x * y)
      rw [if_neg (by simp), vrA_ok]
      generalize numV (x * y) = z at *
      by_cases hy0 : y = 0
      · have hyb : (y != 0) = false := by simpa using hy0
        refine wEnter Tryz.func130 Tryz.ntmps130 ?_
        refine wRUN (j3 ho3 hyb hw) ?_
        refine w9 (op_shared [] hn) trivial ?_
        refine wRUN trivial ?_
        exact wRet (ret_data []) Tryz.results130
      · have hyb : (y != 0) = true := by simpa using hy0
        have hq := (quo_big (y := x) hy0).trans ((big_comm y x).trans hbig)
        have ha0 : (absI y = 0) = False := by apply eq_false; unfold absI; omega
        have haw := abs_wrap' (x := y)
        refine wEnter Tryz.func130 Tryz.ntmps130 ?_
        refine wRUN (j2 ho3 hyb) ?_
        refine w7 (op_data [] hsx) trivial ?_
        refine wRUN hyb ?_
        refine w7 (op_data [] hsy) trivial ?_
        refine wRUN (j5 hyb ha0 haw hq hw) ?_
        refine w9 (op_shared [] hn) trivial ?_
        refine wRUN trivial ?_
        exact wRet (ret_data []) Tryz.results130
  · have ho3 : (op == 3) = false := by simpa using o3
    rw [if_neg o3]
    by_cases hy0 : y = 0
    · have hyb : (y == 0) = true := by simpa using hy0
      rw [if_pos hy0, vrA_bad]
      refine wEnter Tryz.func130 Tryz.ntmps130 ?_
      refine wRUN (j2 ho3 hyb) ?_
      refine w7 (op_data [] (l3Bad_ac 3)) trivial ?_
      refine wRUN trivial ?_
      exact wRet (ret_data []) Tryz.results130
    · have hyb : (y == 0) = false := by simpa using hy0
      rw [if_neg hy0, vrA_ok]
      by_cases o10 : op = 10
      · have ho10 : (op == 10) = true := by simpa using o10
        have hm := tdiv_small (y := y) n1
        have hw : IntKind.i64.wrap (x.tdiv y) = x.tdiv y := wrap_in (by omega) (by omega)
        have hn := l1Number_ac (x.tdiv y)
        rw [if_pos o10]
        generalize numV (x.tdiv y) = z at *
        refine wEnter Tryz.func130 Tryz.ntmps130 ?_
        refine wRUN (j5 ho3 hyb ho10 hy0 hw) ?_
        refine w9 (op_shared [] hn) trivial ?_
        refine wRUN trivial ?_
        exact wRet (ret_data []) Tryz.results130
      · have ho10 : (op == 10) = false := by simpa using o10
        have hn := l1Number_ac (x.tmod y)
        rw [if_neg o10]
        generalize numV (x.tmod y) = z at *
        refine wEnter Tryz.func130 Tryz.ntmps130 ?_
        refine wRUN (j4 ho3 hyb ho10 hy0) ?_
        refine w9 (op_shared [] hn) trivial ?_
        refine wRUN trivial ?_
        exact wRet (ret_data []) Tryz.results130

set_option maxHeartbeats 8000000 in
theorem l3Binary_ac (op : Int) {a b : V} (hop : 1 ≤ op ∧ op ≤ 11) (ha : a.right) (hb : b.right) : AC Tryz.prog 66 [.c (.int .i64 op), cellsA a.enc, cellsA b.enc] [] (vrA (binV op a b)) [] := by
  have hcmp := l1Compare_ac a.count a b (Nat.le_refl _) ha hb
  have hadd := l3Add_ac ha hb
  have hsub := l3Sub_ac ha hb
  have ra := enc_rows a
  have ga := enc_head a
  have rb := enc_rows b
  have gb := enc_head b
  unfold binV
  by_cases o : op = 1
  · rw [if_pos o]
    have o1 : (op == 1) = true := by simp [o]
    generalize addV a b = r at *
    rcases r with ⟨c, _ | u⟩
    all_goals
      simp only [vrA_some, vrA_none] at hadd ⊢
      refine wEnter Tryz.func66 Tryz.ntmps66 ?_
      refine wRUN trivial ?_
      refine w7 (op_data [] hcmp) trivial ?_
      refine wRUN o1 ?_
      refine w9 (op_shared [] hadd) trivial ?_
      refine wRUN trivial ?_
      exact wRet (ret_data []) Tryz.results66
  · rw [if_neg o]
    have n1 : (op == 1) = false := by simpa using o
    by_cases o : op = 2
    · rw [if_pos o]
      have o1 : (op == 1) = false := by simp [o]
      have o2 : (op == 2) = true := by simp [o]
      generalize subV a b = r at *
      rcases r with ⟨c, _ | u⟩
      all_goals
        simp only [vrA_some, vrA_none] at hsub ⊢
        refine wEnter Tryz.func66 Tryz.ntmps66 ?_
        refine wRUN trivial ?_
        refine w7 (op_data [] hcmp) trivial ?_
        refine wRUN (j2 o1 o2) ?_
        refine w9 (op_shared [] hsub) trivial ?_
        refine wRUN trivial ?_
        exact wRet (ret_data []) Tryz.results66
    · rw [if_neg o]
      have n2 : (op == 2) = false := by simpa using o
      by_cases o : op = 3 ∨ op = 10 ∨ op = 11
      · rw [if_pos o]
        have n4 : (op == 4) = false := by simp; omega
        have n5 : (op == 5) = false := by simp; omega
        have n6 : (op == 6) = false := by simp; omega
        have n7 : (op == 7) = false := by simp; omega
        have n8 : (op == 8) = false := by simp; omega
        have n9 : (op == 9) = false := by simp; omega
        unfold reckonV
        by_cases h3 : a.kind = 3 ∧ b.kind = 3
        · rw [if_pos h3]
          have k3 : (a.kind != 3) = false := by simp [h3.1]
          have j3 : (b.kind != 3) = false := by simp [h3.2]
          have htm := l3Times_ac op a.num b.num (right_num ha) (right_num hb)
          unfold timesV at htm
          generalize (if op = 3 then (if tooBig a.num b.num = true then badR 3 else okR (numV (a.num * b.num))) else if b.num = 0 then badR 3 else okR (numV (if op = 10 then a.num.tdiv b.num else a.num.tmod b.num))) = r at *
          rcases r with ⟨c, _ | u⟩
          all_goals
            simp only [vrA_some, vrA_none] at htm ⊢
            refine wEnter Tryz.func66 Tryz.ntmps66 ?_
            refine wRUN trivial ?_
            refine w7 (op_data [] hcmp) trivial ?_
            refine wRUN (j12 n1 n2 n4 n5 n6 n7 n8 n9 ra ga k3 rb) ?_
            (repeat (first | (with_reducible first | refine a_seq ?_ | refine a_region ?_ | refine a_block ?_ | refine a_scope ?_) | ((with_reducible apply op_any); (iterate 2 (focus (first | (simp only [go_sem, Nat.reduceEqDiff, Nat.reduceAdd, Nat.reduceSub, Nat.reduceLeDiff, Nat.reduceMul, Nat.reduceBEq, Nat.reduceLT, Int.reduceToNat, reduceCtorEq, ra, ga, rb, gb, k3, j3]; first | done | exact rfl | (and_intros <;> rfl)) | exact rfl | decide)))) | ((with_reducible refine o_nil ?_); dsimp only; try ((with_reducible apply o_draw); (focus (simp only [go_sem]; exact rfl)); (focus decide))) | ((with_reducible first | refine a_ret ?_ | refine a_skip ?_ | refine a_label ?_); dsimp only) | ((with_reducible refine a_exit ?_); dsimp only; simp only [if_true, if_false, Nat.reduceEqDiff]) | ((with_reducible apply a_if); (focus (simp only [go_sem, Nat.reduceBEq, Nat.reduceLT, ra, ga, rb, gb, k3, j3]; exact rfl)); dsimp only [cond_true, cond_false]) | ((with_reducible refine a_draw ?_ ?_); (focus exact rfl))))
            refine w9 (op_shared [] htm) trivial ?_
            refine wRUN trivial ?_
            exact wRet (ret_data []) Tryz.results66
        · rw [if_neg h3, vrA_bad]
          cases k3 : a.kind != 3 <;> cases j3 : b.kind != 3
          all_goals first
            | (exfalso; simp at k3 j3; omega)
            | (refine wEnter Tryz.func66 Tryz.ntmps66 ?_
               refine wRUN trivial ?_
               refine w7 (op_data [] hcmp) trivial ?_
               refine wRUN (j12 n1 n2 n4 n5 n6 n7 n8 n9 ra ga k3 rb) ?_
               (repeat (first | (with_reducible first | refine a_seq ?_ | refine a_region ?_ | refine a_block ?_ | refine a_scope ?_) | ((with_reducible apply op_any); (iterate 2 (focus (first | (simp only [go_sem, Nat.reduceEqDiff, Nat.reduceAdd, Nat.reduceSub, Nat.reduceLeDiff, Nat.reduceMul, Nat.reduceBEq, Nat.reduceLT, Int.reduceToNat, reduceCtorEq, ra, ga, rb, gb, k3, j3]; first | done | exact rfl | (and_intros <;> rfl)) | exact rfl | decide)))) | ((with_reducible refine o_nil ?_); dsimp only; try ((with_reducible apply o_draw); (focus (simp only [go_sem]; exact rfl)); (focus decide))) | ((with_reducible first | refine a_ret ?_ | refine a_skip ?_ | refine a_label ?_); dsimp only) | ((with_reducible refine a_exit ?_); dsimp only; simp only [if_true, if_false, Nat.reduceEqDiff]) | ((with_reducible apply a_if); (focus (simp only [go_sem, Nat.reduceBEq, Nat.reduceLT, ra, ga, rb, gb, k3, j3]; exact rfl)); dsimp only [cond_true, cond_false]) | ((with_reducible refine a_draw ?_ ?_); (focus exact rfl))))
               refine w7 (op_data [] (l3Bad_ac 6)) trivial ?_
               refine wRUN trivial ?_
               exact wRet (ret_data []) Tryz.results66)
      · rw [if_neg o]
        by_cases o : op = 4
        · rw [if_pos o, vrA_ok]
          have o4 : (op == 4) = true := by simpa using o
          have htr := l3Bool_ac (a.cmp b == 0)
          generalize ht : (a.cmp b == 0) = t at *
          generalize boolV t = z at *
          refine wEnter Tryz.func66 Tryz.ntmps66 ?_
          refine wRUN trivial ?_
          refine w7 (op_data [] hcmp) trivial ?_
          refine wRUN (j4 n1 n2 o4 ht) ?_
          refine w9 (op_shared [] htr) trivial ?_
          refine wRUN trivial ?_
          exact wRet (ret_data []) Tryz.results66
        · rw [if_neg o]
          have n4 : (op == 4) = false := by simpa using o
          by_cases o : op = 5
          · rw [if_pos o, vrA_ok]
            have o5 : (op == 5) = true := by simpa using o
            have htr := l3Bool_ac (a.cmp b != 0)
            generalize ht : (a.cmp b != 0) = t at *
            generalize boolV t = z at *
            refine wEnter Tryz.func66 Tryz.ntmps66 ?_
            refine wRUN trivial ?_
            refine w7 (op_data [] hcmp) trivial ?_
            refine wRUN (j5 n1 n2 n4 o5 ht) ?_
            refine w9 (op_shared [] htr) trivial ?_
            refine wRUN trivial ?_
            exact wRet (ret_data []) Tryz.results66
          · rw [if_neg o]
            have n5 : (op == 5) = false := by simpa using o
            by_cases o : op = 6
            · rw [if_pos o, vrA_ok]
              have o6 : (op == 6) = true := by simpa using o
              have htr := l3Bool_ac (decide (a.cmp b < 0))
              generalize ht : (decide (a.cmp b < 0)) = t at *
              generalize boolV t = z at *
              refine wEnter Tryz.func66 Tryz.ntmps66 ?_
              refine wRUN trivial ?_
              refine w7 (op_data [] hcmp) trivial ?_
              refine wRUN (j6 n1 n2 n4 n5 o6 ht) ?_
              refine w9 (op_shared [] htr) trivial ?_
              refine wRUN trivial ?_
              exact wRet (ret_data []) Tryz.results66
            · rw [if_neg o]
              have n6 : (op == 6) = false := by simpa using o
              by_cases o : op = 7
              · rw [if_pos o, vrA_ok]
                have o7 : (op == 7) = true := by simpa using o
                have htr := l3Bool_ac (decide (a.cmp b ≤ 0))
                generalize ht : (decide (a.cmp b ≤ 0)) = t at *
                generalize boolV t = z at *
                refine wEnter Tryz.func66 Tryz.ntmps66 ?_
                refine wRUN trivial ?_
                refine w7 (op_data [] hcmp) trivial ?_
                refine wRUN (j7 n1 n2 n4 n5 n6 o7 ht) ?_
                refine w9 (op_shared [] htr) trivial ?_
                refine wRUN trivial ?_
                exact wRet (ret_data []) Tryz.results66
              · rw [if_neg o]
                have n7 : (op == 7) = false := by simpa using o
                by_cases o : op = 8
                · rw [if_pos o, vrA_ok]
                  have o8 : (op == 8) = true := by simpa using o
                  have htr := l3Bool_ac (decide (a.cmp b > 0))
                  generalize ht : (decide (a.cmp b > 0)) = t at *
                  generalize boolV t = z at *
                  refine wEnter Tryz.func66 Tryz.ntmps66 ?_
                  refine wRUN trivial ?_
                  refine w7 (op_data [] hcmp) trivial ?_
                  refine wRUN (j8 n1 n2 n4 n5 n6 n7 o8 ht) ?_
                  refine w9 (op_shared [] htr) trivial ?_
                  refine wRUN trivial ?_
                  exact wRet (ret_data []) Tryz.results66
                · rw [if_neg o]
                  have n8 : (op == 8) = false := by simpa using o
                  by_cases o : op = 9
                  · rw [if_pos o, vrA_ok]
                    have o9 : (op == 9) = true := by simpa using o
                    have htr := l3Bool_ac (decide (a.cmp b ≥ 0))
                    generalize ht : (decide (a.cmp b ≥ 0)) = t at *
                    generalize boolV t = z at *
                    refine wEnter Tryz.func66 Tryz.ntmps66 ?_
                    refine wRUN trivial ?_
                    refine w7 (op_data [] hcmp) trivial ?_
                    refine wRUN (j9 n1 n2 n4 n5 n6 n7 n8 o9 ht) ?_
                    refine w9 (op_shared [] htr) trivial ?_
                    refine wRUN trivial ?_
                    exact wRet (ret_data []) Tryz.results66
                  · rw [if_neg o]
                    have n9 : (op == 9) = false := by simpa using o
                    exfalso
                    simp at n1 n2 n4 n5 n6 n7 n8 n9
                    omega
end Go.Proofs.YtpaooephkpjkfaaGreat
