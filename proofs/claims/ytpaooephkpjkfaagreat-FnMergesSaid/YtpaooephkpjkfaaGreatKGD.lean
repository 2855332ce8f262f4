/- Texts of this proof: G60 G61 G62 G63. -/
import Derived.Test.YtpaooephkpjkfaaGreatKGX
import Derived.Test.YtpaooephkpjkfaaGreatKM3
import Derived.Test.YtpaooephkpjkfaaGreatKG11uS02
import Derived.Test.YtpaooephkpjkfaaGreatKG49uG22
import Derived.Deep.RegionLaw
import Derived.Shelf.RegionOpenPlain
import Derived.Laws.CopyRow
import Derived.Test.YtpaooephkpjkfaaGreatKG26
set_option linter.unusedSimpArgs false
set_option linter.unusedVariables false
set_option linter.unnecessarySimpa false
namespace Go.Proofs.YtpaooephkpjkfaaGreat
open Go.RowKit
set_option maxRecDepth 10000
/-- The keys but one, of the first so many. -/
theorem drop_grow (v : V) (key : ByteArray) : ∃ F : Nat → List ByteArray, F 0 = [] ∧ (∀ k, (F k).length ≤ k) ∧ F v.keys.length = v.keys.filter (fun s => !(s.toList == key.toList)) ∧ ∀ k (h : k < v.keys.length), F (k + 1) = F k ++ (if (v.keys[k].toList == key.toList) = true then [] else [v.keys[k]]) := by
  refine ⟨fun k => (v.keys.take k).filter fun s => !(s.toList == key.toList), rfl, fun k => ?_, by dsimp only; rw [List.take_length], fun k h => ?_⟩
  · exact Nat.le_trans (List.length_filter_le _ _) (by rw [List.length_take]; omega)
  · dsimp only
    rw [List.take_succ_eq_append_getElem h, List.filter_append]
    congr 1
    rw [List.filter_cons, List.filter_nil]
    cases v.keys[k].toList == key.toList <;> rfl
set_option maxHeartbeats 8000000 in
theorem specDropKey_ac {v : V} (h : v.right) (key : ByteArray) (hk : okText key = true) : AC Tryz.prog 167 [cellsA v.enc, .c (.str key)] [] (vrA (dropKeyV v key)) [] := by
  have hv := fault_ac v.enc
  rw [right_dec h] at hv
  have h00 : ((0 : Int) != 0) = false := rfl
  have ht := l1Text_ac key
  rw [hk] at ht
  have hr0 := enc_rows v
  have hg0 := enc_head v
  unfold dropKeyV
  by_cases h0 : v.kind = 0
  · have hb : (v.kind == 0) = true := by simpa using h0
    have hl3 := l3NullS_ac
    rw [if_pos h0, vrA_ok]
    generalize nullV.enc.map CellD.cs = nc at *
    refine wEnter Tryz.func167 Tryz.ntmps167 ?_
    refine wRUN trivial ?_
    refine w7 (op_data [] hv) trivial ?_
    refine wRUN h00 ?_
    refine w7 (op_data [] ht) trivial ?_
    refine wRUN (j3 hr0 hg0 hb) ?_
    refine w9 (op_shared [] hl3) trivial ?_
    refine wRUN trivial ?_
    exact wRet (ret_data []) Tryz.results167
  · have hb : (v.kind == 0) = false := by simpa using h0
    rw [if_neg h0]
    by_cases h6 : v.kind = 6
    · have hb6 : (v.kind != 6) = false := by simpa using h6
      rw [if_pos h6, vrA_ok]
      obtain ⟨hasc, hok, hlen⟩ := right_asc h h6
      have hkl := (right_kl h).1
      have hlm : (v.keys.map strCs).length = v.keys.length := by simp
      have hkO := l1Keys_ac h.1 h.2.1
      rw [show keysOf v v.kids.length = v.keys from keysOf_own h h6] at hkO
      have hpO := l1Parts_ac h.1 h.2.1
      have hfc := filter_count (fun s => !(s.toList == key.toList)) v.member v.keys
      rw [obj_members h h6] at hfc
      have hck := count_kids v
      have hvc := h.2.1
      obtain ⟨F, hF0, hFl, hFn, hFs⟩ := drop_grow v key
      have hob := l1Object_ac (F v.keys.length) ((F v.keys.length).map v.member) (by rw [List.length_map]) (by rw [hFn]; omega)
      rw [objV_up (by rw [hFn]; exact up_filter (up_of hasc) _)] at hob
      rw [show V.mk 6 0 ByteArray.empty (F v.keys.length) ((F v.keys.length).map v.member) = dropK v key by rw [hFn]; rfl] at hob
      have hel := enc_len (dropK v key)
      clear hFn
      generalize dropK v key = d at *
      refine wEnter Tryz.func167 Tryz.ntmps167 ?_
      refine wRUN trivial ?_
      refine w7 (op_data [] hv) trivial ?_
      refine wRUN h00 ?_
      refine w7 (op_data [] ht) trivial ?_
      refine wRUN (j4 hr0 hg0 hb hb6) ?_
      refine w9 (op_shared [] hkO) trivial ?_
      refine wRUN trivial ?_
      refine w9 (op_shared [] hpO) trivial ?_
      refine wRUN trivial ?_
      refine a_loop (κ := Nat) (fun k => ⟨mkS 0 70 [(1, .c (.str key)), (4, .ptr (4, 0) 0), (6, .own (97, 0)), (7, .own (98, 0)), (8, .c (.sl (v.keys.map strCs))), (9, .c (.sl ((v.kids.map V.enc).map encCs))), (10, .c (.int .i64 k))],
          [((4, 0), .box [.c (.int .i64 0), .nils]), ((97, 0), .row false 1 9 ((F k).map strCs)), ((98, 0), .row false 1 24 ((((F k).map v.member).map V.enc).map encCs))]⟩)
        (fun k => k ≤ v.keys.length) (fun k => v.keys.length - k) 0 (Nat.zero_le _) ?_ ?_
      · (apply (Says.of [((4, 0), (4, 0)), ((97, 0), (34, 0)), ((98, 0), (35, 0))] []); (iterate 2 ((focus (simp only [go_sem, Nat.reduceEqDiff, Nat.reduceAdd, Nat.reduceSub, Nat.reduceLeDiff, Nat.reduceMul, Nat.reduceBEq, Nat.reduceLT, Int.reduceToNat, reduceCtorEq, hF0, List.map_nil]; try (and_intros <;> rfl))); (focus exact rfl))); (iterate 4 (focus (simp [go_sem, hF0, List.map_nil]; done))))
      · intro k hk
        by_cases hlt : k < v.keys.length
        · have hdk : decide ((k : Int) < (v.keys.length : Int)) = true := by simpa using hlt
          have hw := wrap_succ (k := k) (by omega)
          have hlt2 : k < v.kids.length := by omega
          have hmem : v.kids[k] = v.member v.keys[k] := (member_at (findKey_own hasc hlt) (List.getElem?_eq_getElem hlt2)).symm
          have hr : rowsAt (v.keys.map strCs) 1 k = true := by simp [rowsAt, hlt, strCs]
          have hg1 : (v.keys.map strCs)[k]? = some [.str v.keys[k]] := by simp [hlt, strCs]
          have hr2 : rowsAt ((v.kids.map V.enc).map encCs) 1 k = true := by simp [rowsAt, hlt2, encCs]
          have hg2 : ((v.kids.map V.enc).map encCs)[k]? = some [.sl (v.kids[k].enc.map CellD.cs)] := by simp [hlt2, encCs]
          have hl1 : (F k).length + 1 ≤ 1000000 := by have := hFl k; omega
          have hFk := hFs k hlt
          have e1 : F (k + 1) = F k ++ [v.keys[k]] → (F k).map strCs ++ [[C.str v.keys[k]]] = (F (k + 1)).map strCs := fun h => by rw [h, List.map_append]; rfl
          have e2 : F (k + 1) = F k ++ [v.keys[k]] → (((F k).map v.member).map V.enc).map encCs ++ [[C.sl (v.kids[k].enc.map CellD.cs)]] = (((F (k + 1)).map v.member).map V.enc).map encCs := fun h => by rw [h, hmem, List.map_append, List.map_append, List.map_append]; rfl
          clear hmem hob
          generalize v.kids[k] = u at *
          generalize v.keys[k] = s at *
          cases hc : s.toList == key.toList with
          | true =>
            rw [hc] at hFk
            have e := hFk
            simp only [if_true, List.append_nil] at e
            refine wRUN (j6 hlm hdk hr hg1 hc hw) ?_
            refine ⟨k + 1, by omega, by omega, ?_⟩
            exact wSays (Says.of [((4, 0), (4, 0)), ((97, 0), (97, 0)), ((98, 0), (98, 0))] []) e
          | false =>
            rw [hc] at hFk
            have e := hFk
            simp only [Bool.false_eq_true, if_false] at e
            have e1 := e1 e
            have e2 := e2 e
            refine wRUN (j9 hlm hdk hr hg1 hr2 hg2 hc hl1 hw) ?_
            refine ⟨k + 1, by omega, by omega, ?_⟩
            exact wSays (Says.of [((4, 0), (4, 0)), ((97, 0), (58, 0)), ((98, 0), (65, 0))] []) (j2 e1 e2)
        · have hdk : decide ((k : Int) < (v.keys.length : Int)) = false := by simpa using hlt
          have hke : k = v.keys.length := by omega
          rw [hke]
          rw [hke] at hdk
          refine wRUN (j2 hlm hdk) ?_
          refine w12 (op_rowF [(97, 0), (98, 0)] hob) trivial ?_
          refine wRUN trivial ?_
          exact wRetOf (ret_of [] [(68, 0)]) Tryz.results167 hel
    · have hb6 : (v.kind != 6) = true := by simpa using h6
      rw [if_neg h6, vrA_bad]
      refine wEnter Tryz.func167 Tryz.ntmps167 ?_
      refine wRUN trivial ?_
      refine w7 (op_data [] hv) trivial ?_
      refine wRUN h00 ?_
      refine w7 (op_data [] ht) trivial ?_
      refine wRUN (j4 hr0 hg0 hb hb6) ?_
      refine w7 (op_data [] (l3Bad_ac 6)) trivial ?_
      refine wRUN trivial ?_
      exact wRet (ret_data []) Tryz.results167
end Go.Proofs.YtpaooephkpjkfaaGreat





/- spec.l13DropIndex, l13Drop, by the engine. -/
namespace Go.Proofs.YtpaooephkpjkfaaGreat
open Go.RowKit
set_option maxRecDepth 10000
/-- What is left of a list behind the first so many. -/
theorem erase_grow (l : List V) (m : Int) : ∃ F : Nat → List V, F 0 = [] ∧ (∀ k, (F k).length ≤ k) ∧ F l.length = dropAt l m ∧ ∀ k (h : k < l.length), F (k + 1) = F k ++ (if ((k : Int) != m) = true then [l[k]] else []) := by
  obtain ⟨F, hF⟩ : ∃ F : Nat → List V, ∀ k, F k = (List.range k).filterMap fun (i : Nat) => if ((i : Int) != m) = true then l[i]? else none := ⟨_, fun _ => rfl⟩
  have hs : ∀ k (h : k < l.length), F (k + 1) = F k ++ (if ((k : Int) != m) = true then [l[k]] else []) := fun k h => by
    rw [hF, hF, List.range_succ, List.filterMap_append]
    congr 1
    rw [List.filterMap_cons, List.filterMap_nil, List.getElem?_eq_getElem h]
    cases (k : Int) != m <;> rfl
  have hn : ∀ k, k ≤ l.length → F k = (if 0 ≤ m ∧ m < (k : Int) then (l.take k).eraseIdx m.toNat else l.take k) := by
    intro k
    induction k with
    | zero => intro _; rw [hF]; split <;> simp
    | succ k ih =>
      intro hk
      rw [hs k (by omega), ih (by omega), List.take_succ_eq_append_getElem (show k < l.length by omega)]
      have htl : (l.take k).length = k := by rw [List.length_take]; omega
      by_cases hm : (k : Int) = m
      · have hb : ((k : Int) != m) = false := by simpa using hm
        rw [hb]
        simp only [if_neg (show ¬ (0 ≤ m ∧ m < (k : Int)) by omega), if_pos (show 0 ≤ m ∧ m < ((k + 1 : Nat) : Int) by omega), Bool.false_eq_true, if_false]
        rw [← hm, Int.toNat_natCast, List.eraseIdx_append_of_length_le (by omega), htl, Nat.sub_self]
        simp
      · have hb : ((k : Int) != m) = true := by simpa using hm
        rw [hb]
        by_cases hm2 : 0 ≤ m ∧ m < (k : Int)
        · simp only [if_pos hm2, if_pos (show 0 ≤ m ∧ m < ((k + 1 : Nat) : Int) by omega), if_true]
          rw [List.eraseIdx_append_of_lt_length (by omega)]
        · simp only [if_neg hm2, if_neg (show ¬ (0 ≤ m ∧ m < ((k + 1 : Nat) : Int)) by omega), if_true]
  refine ⟨F, by rw [hF]; rfl, fun k => ?_, ?_, hs⟩
  · rw [hF]
    exact Nat.le_trans (List.length_filterMap_le _ _) (by rw [List.length_range]; exact Nat.le_refl _)
  · rw [hn _ (Nat.le_refl _), List.take_length]
    rfl
theorem arrDrop_count {v : V} (h : v.right) (m : Int) : (arrV (dropAt v.kids m)).count ≤ 200 := (dropIdx_right h m).2.1
set_option maxHeartbeats 8000000 in
theorem l13DropIndex_ac {v : V} (hv : v.right) (n : Int) (hn : -1000000000000000 ≤ n ∧ n ≤ 1000000000000000) : AC Tryz.prog 166 [cellsA v.enc, .c (.int .i64 n)] [] (vrA (dropIdxV v n)) [] := by
  have hkl := kids_len_le hv.2.1
  have hcn := l13Index_ac n v.kids.length hn (by omega)
  have hr0 := enc_rows v
  have hg0 := enc_head v
  unfold dropIdxV
  by_cases h0 : v.kind = 0
  · have hb : (v.kind == 0) = true := by simpa using h0
    have hl3 := l3NullS_ac
    rw [if_pos h0, vrA_ok]
    generalize nullV.enc.map CellD.cs = nc at *
    refine wEnter Tryz.func166 Tryz.ntmps166 ?_
    refine wRUN (j3 hr0 hg0 hb) ?_
    refine w9 (op_shared [] hl3) trivial ?_
    refine wRUN trivial ?_
    exact wRet (ret_data []) Tryz.results166
  · have hb : (v.kind == 0) = false := by simpa using h0
    rw [if_neg h0]
    by_cases h5 : v.kind = 5
    · have hb5 : (v.kind != 5) = false := by simpa using h5
      rw [if_pos h5, vrA_ok]
      have hpO := l1Parts_ac hv.1 hv.2.1
      obtain ⟨m, hm⟩ : ∃ m, fromEnd n v.kids.length = m := ⟨_, rfl⟩
      rw [hm] at hcn ⊢
      have hac := arrDrop_count hv m
      obtain ⟨F, hF0, hFl, hFn, hFs⟩ := erase_grow v.kids m
      have hay := l1ArrayS_ac (dropAt v.kids m) (by omega)
      rw [← hFn] at hay hac ⊢
      have hlm : ((v.kids.map V.enc).map encCs).length = v.kids.length := by simp
      generalize arrV (F v.kids.length) = ar at *
      refine wEnter Tryz.func166 Tryz.ntmps166 ?_
      refine wRUN (j4 hr0 hg0 hb hb5) ?_
      refine w9 (op_shared [] hpO) trivial ?_
      refine wRUN hlm ?_
      refine w7 (op_data [] hcn) trivial ?_
      refine wRUN trivial ?_
      refine a_loop (κ := Nat) (fun k => ⟨mkS 0 47 [(1, .c (.int .i64 m)), (4, .ptr (4, 0) 0), (5, .c (.sl ((v.kids.map V.enc).map encCs))), (6, .own (97, 0)), (7, .c (.int .i64 k))],
          [((4, 0), .box [.c (.int .i64 0), .nils]), ((97, 0), .row false 1 24 (((F k).map V.enc).map encCs))]⟩)
        (fun k => k ≤ v.kids.length) (fun k => v.kids.length - k) 0 (Nat.zero_le _) ?_ ?_
      · (apply (Says.of [((4, 0), (4, 0)), ((97, 0), (27, 0))] []); (iterate 2 ((focus (simp only [go_sem, Nat.reduceEqDiff, Nat.reduceAdd, Nat.reduceSub, Nat.reduceLeDiff, Nat.reduceMul, Nat.reduceBEq, Nat.reduceLT, Int.reduceToNat, reduceCtorEq, hF0, List.map_nil]; try (and_intros <;> rfl))); (focus exact rfl))); (iterate 4 (focus (simp [go_sem, hF0, List.map_nil]; done))))
      · intro k hk
        by_cases hlt : k < v.kids.length
        · have hdk : decide ((k : Int) < (v.kids.length : Int)) = true := by simpa using hlt
          have hw := wrap_succ (k := k) (by omega)
          have hr2 : rowsAt ((v.kids.map V.enc).map encCs) 1 k = true := by simp [rowsAt, hlt, encCs]
          have hg2 : ((v.kids.map V.enc).map encCs)[k]? = some [.sl (v.kids[k].enc.map CellD.cs)] := by simp [hlt, encCs]
          have hl1 : (F k).length + 1 ≤ 1000000 := by have := hFl k; omega
          have hFk := hFs k hlt
          have e1 : F (k + 1) = F k ++ [v.kids[k]] → ((F k).map V.enc).map encCs ++ [[C.sl (v.kids[k].enc.map CellD.cs)]] = ((F (k + 1)).map V.enc).map encCs := fun h => by rw [h, List.map_append, List.map_append]; rfl
          generalize v.kids[k] = u at *
          cases hc : (k : Int) != m with
          | false =>
            rw [hc] at hFk
            have e := hFk
            simp only [Bool.false_eq_true, if_false, List.append_nil] at e
            refine wRUN (j4 hlm hdk hc hw) ?_
            refine ⟨k + 1, by omega, by omega, ?_⟩
            exact wSays (Says.of [((4, 0), (4, 0)), ((97, 0), (97, 0))] []) e
          | true =>
            rw [hc] at hFk
            have e := hFk
            simp only [if_true] at e
            have e1 := e1 e
            refine wRUN (j7 hlm hdk hr2 hg2 hc hl1 hw) ?_
            refine ⟨k + 1, by omega, by omega, ?_⟩
            exact wSays (Says.of [((4, 0), (4, 0)), ((97, 0), (43, 0))] []) e1
        · have hdk : decide ((k : Int) < (v.kids.length : Int)) = false := by simpa using hlt
          have hke : k = v.kids.length := by omega
          rw [hke]
          rw [hke] at hdk
          refine wRUN (j2 hlm hdk) ?_
          refine w9 (op_shared [(97, 0)] hay) trivial ?_
          refine wRUN trivial ?_
          exact wRet (ret_data []) Tryz.results166
    · have hb5 : (v.kind != 5) = true := by simpa using h5
      rw [if_neg h5, vrA_bad]
      refine wEnter Tryz.func166 Tryz.ntmps166 ?_
      refine wRUN (j4 hr0 hg0 hb hb5) ?_
      refine w7 (op_data [] (l3Bad_ac 6)) trivial ?_
      refine wRUN trivial ?_
      exact wRet (ret_data []) Tryz.results166
set_option maxHeartbeats 8000000 in
theorem l13Drop_ac : ∀ (P : List V), P.length ≤ 1000000 → (∀ k ∈ P, k.right ∧ (k.kind = 3 ∨ k.kind = 4)) → ∀ (v : V), v.right → AC Tryz.prog 94 [cellsA v.enc, .c (.sl ((P.map V.enc).map encCs))] [] (vrA (dropPathV P v)) []
  | [], _, _, v, hv => by
    have hz0 : ((0 : Int) == 0) = true := rfl
    have hz1 : (((0 : Nat) : Int) == 0) = true := rfl
    have hl3 := l3NullS_ac
    show AC _ _ _ _ (vrA (okR nullV)) _
    rw [vrA_ok]
    generalize nullV.enc.map CellD.cs = nc at *
    refine wEnter Tryz.func94 Tryz.ntmps94 ?_
    refine wRUN (j2 hz0 hz1) ?_
    refine w9 (op_shared [] hl3) trivial ?_
    refine wRUN trivial ?_
    exact wRet (ret_data []) Tryz.results94
  | [k], _, hp, v, hv => by
    obtain ⟨hk, hkk⟩ := hp k (by simp)
    have h10 : ((1 : Int) == 0) = false := rfl
    have h11 : ((1 : Int) == 1) = true := rfl
    have h20 : (((1 : Nat) : Int) == 0) = false := rfl
    have h21 : (((1 : Nat) : Int) == 1) = true := rfl
    have hP1 : rowsAt (([k].map V.enc).map encCs) 1 0 = true := by simp [rowsAt, encCs]
    have hP2 : (([k].map V.enc).map encCs)[0]? = some [.sl (k.enc.map CellD.cs)] := rfl
    have hPl : (([k].map V.enc).map encCs).length = 1 := rfl
    have hkr := enc_rows k
    have hkg := enc_head k
    unfold dropPathV
    generalize ([k].map V.enc).map encCs = P at *
    by_cases h4 : k.kind = 4
    · have hb3 : (k.kind == 3) = false := by simp [h4]
      have hd := specDropKey_ac hv k.text (right_text hk)
      rw [if_pos h4]
      generalize dropKeyV v k.text = r at *
      rcases r with ⟨c, _ | u⟩
      all_goals
        simp only [vrA_some, vrA_none] at hd ⊢
        refine wEnter Tryz.func94 Tryz.ntmps94 ?_
        refine wRUN (j10 hPl h10 h11 h20 h21 hP1 hP2 hkr hkg hb3) ?_
        refine w9 (op_shared [] hd) trivial ?_
        refine wRUN trivial ?_
        exact wRet (ret_data []) Tryz.results94
    · have hb3 : (k.kind == 3) = true := by simp; omega
      have hd := l13DropIndex_ac hv k.num (right_num hk)
      rw [if_neg h4]
      generalize dropIdxV v k.num = r at *
      rcases r with ⟨c, _ | u⟩
      all_goals
        simp only [vrA_some, vrA_none] at hd ⊢
        refine wEnter Tryz.func94 Tryz.ntmps94 ?_
        refine wRUN (j10 hPl h10 h11 h20 h21 hP1 hP2 hkr hkg hb3) ?_
        refine w9 (op_shared [] hd) trivial ?_
        refine wRUN trivial ?_
        exact wRet (ret_data []) Tryz.results94
  | k :: k' :: p, hl, hp, v, hv => by
    have hpl : (k' :: p).length ≤ 1000000 := by simp only [List.length_cons] at hl ⊢; omega
    have hpp : ∀ y ∈ k' :: p, y.right ∧ (y.kind = 3 ∨ y.kind = 4) := fun y hy => hp y (by simp only [List.mem_cons] at hy ⊢; exact .inr hy)
    obtain ⟨hk, hkk⟩ := hp k (by simp)
    have ih := l13Drop_ac (k' :: p) hpl hpp
    have ok := dropPath_ok (k' :: p) hpp
    have hP1 : rowsAt (((k :: k' :: p).map V.enc).map encCs) 1 0 = true := by simp [rowsAt, encCs]
    have hP2 : (((k :: k' :: p).map V.enc).map encCs)[0]? = some [.sl (k.enc.map CellD.cs)] := rfl
    have hP3 : 1 ≤ (k :: k' :: p).length := by simp
    have hP4 : ((((k :: k' :: p).map V.enc).map encCs).take (k :: k' :: p).length).drop 1 = ((k' :: p).map V.enc).map encCs := by
      rw [List.take_of_length_le (by rw [List.length_map, List.length_map]; exact Nat.le_refl _)]
      rfl
    have hP7 : (((k :: k' :: p).map V.enc).map encCs).take 1 = ([k].map V.enc).map encCs := rfl
    have hP5 : (((k :: k' :: p).length : Int) == 0) = false := by simp; omega
    have hP6 : (((k :: k' :: p).length : Int) == 1) = false := by simp; omega
    have hga := l3At_ac hv hk
    have hgo := getAt_ok hv k
    have hsp := fun {r : V} (hr : r.right) => l13Set_ac (x := r) hr [k] (by simp) (fun y hy => by rw [List.mem_singleton] at hy; rw [hy]; exact ⟨hk, hkk⟩) v hv
    have hkr := enc_rows k
    have hkg := enc_head k
    have hel := enc_len v
    have hvc := hv.2.1
    have hall := all_cells v.enc
    have hb0 : 0 + v.enc.length ≤ 1000000 := by omega
    unfold dropPathV
    generalize k' :: p = p' at *
    generalize [k] = kk at *
    generalize hPP : k :: p' = P at *
    have hPl : ((P.map V.enc).map encCs).length = P.length := by simp
    have hPa := all_encs (P.map V.enc)
    have h01 : cutB 0 (some (AV.c (C.int IntKind.i64 1))) = some 1 := rfl
    have h02 : cutB P.length (some (AV.c (C.int IntKind.i64 1))) = some 1 := rfl
    have h00 : ((0 : Int) != 0) = false := rfl
    generalize getAtV v k = g at *
    rcases g with ⟨c, _ | w⟩
    · have hc : (c != 0) = true := by simpa using (show c ≠ 0 from hgo)
      simp only [vrA_none] at hga ⊢
      refine wEnter Tryz.func94 Tryz.ntmps94 ?_
      refine wRUN (j7 hPl hP5 hP6 hP1 hP2 hkr hkg) ?_
      refine w9 (op_shared [] hga) trivial ?_
      refine wRUN hc ?_
      exact wRet (ret_data []) Tryz.results94
    · have hw : w.right := hgo.2
      have hih := ih w hw
      have hok2 := ok w hw
      have hwr := enc_rows w
      have hwg := enc_head w
      dsimp only
      simp only [vrA_some] at hga
      by_cases hw0 : w.kind = 0
      · have hbw : (w.kind == 0) = true := by simpa using hw0
        rw [if_pos hw0, vrA_ok]
        refine wEnter Tryz.func94 Tryz.ntmps94 ?_
        refine wRUN (j7 hPl hP5 hP6 hP1 hP2 hkr hkg) ?_
        refine w9 (op_shared [] hga) trivial ?_
        refine wRUN (j6 h00 hwr hwg hbw hall hb0) ?_
        exact wRetOf (ret_of [] [(49, 0)]) Tryz.results94 hel
      · have hbw : (w.kind == 0) = false := by simpa using hw0
        rw [if_neg hw0]
        generalize dropPathV p' w = q at *
        rcases q with ⟨c, _ | u⟩
        · have hc : (c != 0) = true := by simpa using (show c ≠ 0 from hok2)
          simp only [vrA_none] at hih ⊢
          refine wEnter Tryz.func94 Tryz.ntmps94 ?_
          refine wRUN (j7 hPl hP5 hP6 hP1 hP2 hkr hkg) ?_
          refine w9 (op_shared [] hga) trivial ?_
          (repeat (first | (with_reducible first | refine a_seq ?_ | refine a_region ?_ | refine a_block ?_ | refine a_scope ?_) | ((with_reducible apply op_any); (iterate 2 (focus (first | (simp only [go_sem, Nat.reduceEqDiff, Nat.reduceAdd, Nat.reduceSub, Nat.reduceLeDiff, Nat.reduceMul, Nat.reduceBEq, Nat.reduceLT, Int.reduceToNat, reduceCtorEq, h00, hwr, hwg, hbw, hPl, hP3, hP4, h01, hPa, Nat.le_refl]; first | done | exact rfl | (and_intros <;> rfl)) | exact rfl | decide)))) | ((with_reducible refine o_nil ?_); dsimp only; try ((with_reducible apply o_draw); (focus (simp only [go_sem]; exact rfl)); (focus decide))) | ((with_reducible first | refine a_ret ?_ | refine a_skip ?_ | refine a_label ?_); dsimp only) | ((with_reducible refine a_exit ?_); dsimp only; simp only [if_true, if_false, Nat.reduceEqDiff]) | ((with_reducible apply a_if); (focus (simp only [go_sem, Nat.reduceBEq, Nat.reduceLT, h00, hwr, hwg, hbw, hPl, hP3, hP4, h01, hPa, Nat.le_refl]; exact rfl)); dsimp only [cond_true, cond_false]) | ((with_reducible refine a_draw ?_ ?_); (focus exact rfl))))
          refine w9 (op_shared [] hih) trivial ?_
          refine wRUN hc ?_
          exact wRet (ret_data []) Tryz.results94
        · have hsk := hsp hok2.2
          dsimp only
          simp only [vrA_some] at hih
          generalize setPathV u kk v = z at *
          rcases z with ⟨c, _ | y⟩
          all_goals
            simp only [vrA_some, vrA_none] at hsk ⊢
            refine wEnter Tryz.func94 Tryz.ntmps94 ?_
            refine wRUN (j7 hPl hP5 hP6 hP1 hP2 hkr hkg) ?_
            refine w9 (op_shared [] hga) trivial ?_
            (repeat (first | (with_reducible first | refine a_seq ?_ | refine a_region ?_ | refine a_block ?_ | refine a_scope ?_) | ((with_reducible apply op_any); (iterate 2 (focus (first | (simp only [go_sem, Nat.reduceEqDiff, Nat.reduceAdd, Nat.reduceSub, Nat.reduceLeDiff, Nat.reduceMul, Nat.reduceBEq, Nat.reduceLT, Int.reduceToNat, reduceCtorEq, h00, hwr, hwg, hbw, hPl, hP3, hP4, h01, hPa, Nat.le_refl]; first | done | exact rfl | (and_intros <;> rfl)) | exact rfl | decide)))) | ((with_reducible refine o_nil ?_); dsimp only; try ((with_reducible apply o_draw); (focus (simp only [go_sem]; exact rfl)); (focus decide))) | ((with_reducible first | refine a_ret ?_ | refine a_skip ?_ | refine a_label ?_); dsimp only) | ((with_reducible refine a_exit ?_); dsimp only; simp only [if_true, if_false, Nat.reduceEqDiff]) | ((with_reducible apply a_if); (focus (simp only [go_sem, Nat.reduceBEq, Nat.reduceLT, h00, hwr, hwg, hbw, hPl, hP3, hP4, h01, hPa, Nat.le_refl]; exact rfl)); dsimp only [cond_true, cond_false]) | ((with_reducible refine a_draw ?_ ?_); (focus exact rfl))))
            refine w9 (op_shared [] hih) trivial ?_
            refine wRUN (j6 h00 hPl hP3 hP7 h02 hPa) ?_
            refine w9 (op_shared [] hsk) trivial ?_
            refine wRUN trivial ?_
            exact wRet (ret_data []) Tryz.results94
end Go.Proofs.YtpaooephkpjkfaaGreat
