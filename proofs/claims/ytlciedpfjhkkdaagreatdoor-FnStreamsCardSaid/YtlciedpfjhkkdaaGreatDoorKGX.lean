/- Texts of this proof: G57 G59. -/
import Derived.Test.YtlciedpfjhkkdaaGreatDoorKM29uG26
set_option linter.unusedSimpArgs false
set_option linter.unusedVariables false
set_option linter.unnecessarySimpa false
set_option maxHeartbeats 8000000
namespace Go.Proofs.YtlciedpfjhkkdaaGreatDoor
open Go.RowKit
set_option maxRecDepth 10000
theorem counted_ac (n : Int) (m : Nat) (hn : -1000000000000000 ≤ n ∧ n ≤ 1000000000000000) (hm : m ≤ 1000000) : AC Tryz.prog 155 [.c (.int .i64 n), .c (.int .i64 m)] [] (.c (.int .i64 (fromEnd n m))) [] := by
 unfold fromEnd
 by_cases h : n < 0
 ·have hd : decide (n < 0) = true := by simpa using h
  have hw : IntKind.i64.wrap (n + (m : Int)) = n + (m : Int) := IntWalk.i64_in _ (by omega)
  rw [if_pos h]
  refine wEnter Tryz.func155 Tryz.ntmps155 ?_
  refine wRUN (j2 hd hw) ?_
  exact wRet (ret_data []) Tryz.results155
 ·have hd : decide (n < 0) = false := by simpa using h
  rw [if_neg h]
  refine wEnter Tryz.func155 Tryz.ntmps155 ?_
  refine wRUN hd ?_
  exact wRet (ret_data []) Tryz.results155
theorem l13Index_ac (n : Int) (m : Nat) (hn : -1000000000000000 ≤ n ∧ n ≤ 1000000000000000) (hm : m ≤ 1000000) : AC Tryz.prog 173 [.c (.int .i64 n), .c (.int .i64 m)] [] (.c (.int .i64 (fromEnd n m))) [] := by
 unfold fromEnd
 by_cases h : n < 0
 ·have hd : decide (n < 0) = true := by simpa using h
  have hw : IntKind.i64.wrap (n + (m : Int)) = n + (m : Int) := IntWalk.i64_in _ (by omega)
  rw [if_pos h]
  refine wEnter Tryz.func173 Tryz.ntmps173 ?_
  refine wRUN (j2 hd hw) ?_
  exact wRet (ret_data []) Tryz.results173
 ·have hd : decide (n < 0) = false := by simpa using h
  rw [if_neg h]
  refine wEnter Tryz.func173 Tryz.ntmps173 ?_
  refine wRUN hd ?_
  exact wRet (ret_data []) Tryz.results173
theorem pad_grow (v : V) (n : Nat) : ∃ L : Nat → List V, L 0 = v.kids ∧ (∀ j, (L j).length = v.kids.length + j) ∧ L (n + 1 - v.kids.length) = padV v.kids n ∧ ∀ j, L (j + 1) = L j ++ [nullV] := by
 refine ⟨fun j => v.kids ++ List.replicate j nullV, by simp, fun j => by rw [List.length_append, List.length_replicate], rfl, fun j => ?_⟩
 dsimp only
 rw [List.replicate_succ', List.append_assoc]
theorem setElement_ac {v x : V} (hv : v.right) (P p : List V) (k : V) (hk : k.right) (f : V → Int × Option V)
  (hP1 : rowsAt (P.map V.cs) 5 0 = true) (hP2 : (P.map V.cs)[0]? = some [.int .i64 k.kind, .int .i64 k.num, .str k.text, .sl (k.keys.map strCs), .sl (k.kids.map V.cs)]) (hP3 : 1 ≤ P.length) (hP4 : ((P.map V.cs).take P.length).drop 1 = p.map V.cs)
  (hf : ∀ w, w.right → okRes (f w)) (hrec : ∀ w, w.right → AC Tryz.prog 52 [w.av, valsA p, x.av] [] (resA (f w)) []) :
  AC Tryz.prog 105 [v.av, valsA P, x.av] [] (resA (setIdxV v k.num f)) [] := by
 have hkl := kids_len_le hv.2.1
 have hnum := right_num hk
 have hcv := cloneVals_ac v.kids (by omega)
 have hsz := sizeVals_ac v.kids
 have hcn := counted_ac k.num v.kids.length hnum (by omega)
 have hPl : (P.map V.cs).length = P.length := by simp
 have hPa := all_trees P
 have h01 : cutB 0 (some (AV.c (C.int IntKind.i64 1))) = some 1 := rfl
 unfold setIdxV
 by_cases h5 : v.kind = 5 ∨ v.kind = 0
 ·rw [if_pos h5]
  obtain ⟨m, hm⟩ : ∃ m, fromEnd k.num v.kids.length = m := ⟨_, rfl⟩
  rw [hm] at hcn ⊢
  rcases h5 with h5 | h5
  case' inl =>
   have hb5 : (v.kind != 5) = false := by simpa using h5
   have hb0 : (v.kind != 0) = true := by simp [h5]
  case' inr =>
   have hb5 : (v.kind != 5) = true := by simp [h5]
   have hb0 : (v.kind != 0) = false := by simpa using h5
  all_goals
   by_cases hneg : m < 0
   ·rw [if_pos hneg, resA_bad]
    have hd : decide (m < 0) = true := by simpa using hneg
    refine wEnter Tryz.func105 Tryz.ntmps105 ?_
    refine wRUN (j2 hb5 hb0) ?_
    refine w12 (op_rowF [] hcv) trivial ?_
    refine wRUN (j2 hP1 hP2) ?_
    refine w7 (op_data [] hsz) trivial ?_
    refine w7 (op_data [] hcn) trivial ?_
    refine wRUN hd ?_
    refine w7 (op_data [] (refuses_ac 3)) trivial ?_
    refine wRUN trivial ?_
    exact wRet (ret_data []) Tryz.results105
   ·rw [if_neg hneg]
    have hd : decide (m < 0) = false := by simpa using hneg
    by_cases hbig : m ≥ 200
    ·rw [if_pos hbig, resA_bad]
     have hd2 : decide (m ≥ 200) = true := by simpa using hbig
     refine wEnter Tryz.func105 Tryz.ntmps105 ?_
     refine wRUN (j2 hb5 hb0) ?_
     refine w12 (op_rowF [] hcv) trivial ?_
     refine wRUN (j2 hP1 hP2) ?_
     refine w7 (op_data [] hsz) trivial ?_
     refine w7 (op_data [] hcn) trivial ?_
     refine wRUN (j2 hd hd2) ?_
     refine w7 (op_data [] (refuses_ac 2)) trivial ?_
     refine wRUN trivial ?_
     exact wRet (ret_data []) Tryz.results105
    ·rw [if_neg hbig]
     have hd2 : decide (m ≥ 200) = false := by simpa using hbig
     obtain ⟨n, rfl⟩ : ∃ n : Nat, m = n := ⟨m.toNat, by omega⟩
     rw [Int.toNat_natCast]
     obtain ⟨L, hL0, hLl, hLe, hLs⟩ := pad_grow v n
     have hpr := pad_right (kids := v.kids) (fun z hz => right_mem hv hz) n
     have hpl := pad_len v.kids n
     have hfit := fun {r : V} (hr : r.right) => setIdx_fit hv hr n
     have hcnt := fun {r : V} (hr : r.right) => setIdx_count hv hr (n := n) (by omega)
     generalize padV v.kids n = Q at *
     have hnl : n < Q.length := by omega
     have hwD : Q.getD n nullV = Q[n] := by rw [List.getD_eq_getElem?_getD, List.getElem?_eq_getElem hnl]; rfl
     rw [hwD]
     have hwr := hpr Q[n] (List.getElem_mem hnl)
     have hrc := hrec Q[n] hwr
     have hok := hf Q[n] hwr
     have hnr : rowsAt (Q.map V.cs) 5 n = true := by simp [rowsAt, hnl, V.cs_eq]
     have hng : (Q.map V.cs)[n]? = some [.int .i64 Q[n].kind, .int .i64 Q[n].num, .str Q[n].text, .sl (Q[n].keys.map strCs), .sl (Q[n].kids.map V.cs)] := by simp [hnl, V.cs_eq]
     generalize f Q[n] = r at *
     generalize Q[n] = w at *
     generalize hres : onSome r _ = res
     refine wEnter Tryz.func105 Tryz.ntmps105 ?_
     refine wRUN (j2 hb5 hb0) ?_
     refine w12 (op_rowF [] hcv) trivial ?_
     refine wRUN (j2 hP1 hP2) ?_
     refine w7 (op_data [] hsz) trivial ?_
     refine w7 (op_data [] hcn) trivial ?_
     refine wRUN (j2 hd hd2) ?_
     refine a_loop (κ := Nat) (fun j => ⟨mkS 0 66 [(1, .c (.sl (P.map V.cs))), (5, .ptr (5, 0) 0), (6, .ptr (6, 0) 0), (7, .own (95, 0)), (8, .c (.int .i64 n))],
       [((5, 0), .box [.c (.int .i64 x.kind), .c (.int .i64 x.num), .c (.str x.text), .c (.sl (x.keys.map strCs)), .c (.sl (x.kids.map V.cs))]), ((6, 0), .box [.c (.int .i64 0), .c (.int .i64 0), .c (.int .i64 0), .c (.str ByteArray.empty), .c (.sl []), .c (.sl [])]), ((95, 0), .row false 5 62 ((L j).map V.cs))]⟩)
      (fun j => j ≤ n + 1 - v.kids.length) (fun j => n + 1 - v.kids.length - j) 0 (Nat.zero_le _) ?_ ?_
     ·exact wSays (Says.of [((5, 0), (5, 0)), ((6, 0), (6, 0)), ((95, 0), (21, 0))] []) hL0
     ·intro j hj
      have hszj := sizeVals_ac (L j)
      by_cases hlt : v.kids.length + j ≤ n
      ·have hd3 : decide (((L j).length : Int) ≤ (n : Int)) = true := by rw [hLl]; simp; omega
       have hl1 : (L j).length + 1 ≤ 1000000 := by rw [hLl]; omega
       have hn1 : (L j).map V.cs ++ [[.int .i64 0, .int .i64 0, .str ByteArray.empty, .sl [], .sl []]] = (L (j + 1)).map V.cs := by rw [hLs, List.map_append]; rfl
       refine wRUN trivial ?_
       refine w7 (op_data [(95, 0)] hszj) trivial ?_
       refine wRUN hd3 ?_
       refine w7 (op_data [] null_ac) trivial ?_
       refine wRUN hl1 ?_
       refine ⟨j + 1, by omega, by omega, ?_⟩
       exact wSays (Says.of [((5, 0), (5, 0)), ((6, 0), (6, 0)), ((95, 0), (45, 0))] []) hn1
      ·have hje : L j = Q := by rw [show j = n + 1 - v.kids.length by omega]; exact hLe
       have hd3 : decide (((L j).length : Int) ≤ (n : Int)) = false := by rw [hLl]; simp; omega
       rw [hje] at hszj hd3 ⊢
       rcases r with ⟨c, _ | u⟩
       ·have hc : (c != 0) = true := by simpa using (show c ≠ 0 from hok)
        have hres : (c, none) = res := hres
        subst hres
        simp only [resA_none] at hrc ⊢
        refine wRUN trivial ?_
        refine w7 (op_data [(95, 0)] hszj) trivial ?_
        refine wRUN (j9 hd3 hnr hng hPl hP3 hP4 h01 hPa @Nat.le_refl) ?_
        refine w9 (op_shared [] hrc) trivial ?_
        refine wRUN hc ?_
        exact wRet (ret_data []) Tryz.results105
       ·obtain ⟨h0, hu⟩ := hok
        have hres : giveR (arrV (Q.set n u)) = res := hres
        have h00 : ((0 : Int) != 0) = false := rfl
        have hgv := gives_any (hfit hu) (by have := hcnt hu; omega)
        have hay := array_ac (Q.set n u)
        have hset : (Q.map V.cs).set n [.int .i64 u.kind, .int .i64 u.num, .str u.text, .sl (u.keys.map strCs), .sl (u.kids.map V.cs)] = (Q.set n u).map V.cs := by rw [List.map_set, V.cs_eq]
        simp only [resA_some] at hrc
        generalize Q.set n u = R at *
        rw [hres] at hgv
        rcases res with ⟨c2, _ | y⟩
        all_goals
         simp only [resA_some, resA_none] at hgv ⊢
         refine wRUN trivial ?_
         refine w7 (op_data [(95, 0)] hszj) trivial ?_
         refine wRUN (j9 hd3 hnr hng hPl hP3 hP4 h01 hPa @Nat.le_refl) ?_
         refine w9 (op_shared [] hrc) trivial ?_
         refine wRUN (j4 h00 hnr hng hset) ?_
         refine w9 (op_shared [(95, 0)] hay) hset ?_
         refine w9 (op_shared [] hgv) trivial ?_
         refine wRUN trivial ?_
         exact wRet (ret_data []) Tryz.results105
 ·rw [if_neg h5, resA_bad]
  have hb5 : (v.kind != 5) = true := by simp; omega
  have hb0 : (v.kind != 0) = true := by simp; omega
  refine wEnter Tryz.func105 Tryz.ntmps105 ?_
  refine wRUN (j2 hb5 hb0) ?_
  refine w7 (op_data [] (refuses_ac 6)) trivial ?_
  refine wRUN trivial ?_
  exact wRet (ret_data []) Tryz.results105
theorem setPath_ac {x : V} (hx : x.right) : ∀ (P : List V), P.length ≤ 1000000 → (∀ k ∈ P, k.right ∧ (k.kind = 3 ∨ k.kind = 4)) → ∀ (v : V), v.right → AC Tryz.prog 52 [v.av, valsA P, x.av] [] (resA (setPathV x P v)) []
 | [], _, _, v, hv => by
  have hg := gives_ac hx
  have hz0 : ((0 : Int) == 0) = true := rfl
  have hz1 : (((0 : Nat) : Int) == 0) = true := rfl
  show AC _ _ _ _ (resA (okR x)) _
  rw [resA_ok]
  refine wEnter Tryz.func52 Tryz.ntmps52 ?_
  refine wRUN (j2 hz0 hz1) ?_
  refine w9 (op_shared [] hg) trivial ?_
  refine wRUN trivial ?_
  exact wRet (ret_data []) Tryz.results52
 | k :: p, hl, hp, v, hv => by
  have hpl : p.length ≤ 1000000 := by simp only [List.length_cons] at hl; omega
  have hpp : ∀ y ∈ p, y.right ∧ (y.kind = 3 ∨ y.kind = 4) := fun y hy => hp y (by simp [hy])
  obtain ⟨hk, hkk⟩ := hp k (by simp)
  have ih := setPath_ac hx p hpl hpp
  have ok := setPath_ok hx p hpp
  have hP1 : rowsAt ((k :: p).map V.cs) 5 0 = true := by simp [rowsAt, V.cs_eq]
  have hP2 : ((k :: p).map V.cs)[0]? = some [.int .i64 k.kind, .int .i64 k.num, .str k.text, .sl (k.keys.map strCs), .sl (k.kids.map V.cs)] := by simp [V.cs_eq]
  have hP3 : 1 ≤ (k :: p).length := by simp
  have hP4 : (((k :: p).map V.cs).take (k :: p).length).drop 1 = p.map V.cs := by
   rw [List.take_of_length_le (by rw [List.length_map]; exact Nat.le_refl _)]
   rfl
  have hP5 : (((k :: p).length : Int) == 0) = false := by simp; omega
  have hel := setElement_ac (x := x) hv (k :: p) p k hk (setPathV x p) hP1 hP2 hP3 hP4 ok ih
  have hgk := getKey_ac hv k.text (right_text hk)
  have hok := getKey_ok hv k.text
  unfold setPathV
  generalize hPP : k :: p = P at *
  have hPl : (P.map V.cs).length = P.length := by simp
  have hPa := all_trees P
  have h01 : cutB 0 (some (AV.c (C.int IntKind.i64 1))) = some 1 := rfl
  have h00 : ((0 : Int) != 0) = false := rfl
  by_cases h3 : k.kind = 3
  ·have hb3 : (k.kind == 3) = true := by simpa using h3
   rw [if_pos h3]
   generalize setIdxV v k.num (setPathV x p) = r at *
   rcases r with ⟨c, _ | u⟩
   all_goals
    simp only [resA_some, resA_none] at hel ⊢
    refine wEnter Tryz.func52 Tryz.ntmps52 ?_
    refine wRUN (j5 hPl hP5 hP1 hP2 hb3) ?_
    refine w9 (op_shared [] hel) trivial ?_
    refine wRUN trivial ?_
    exact wRet (ret_data []) Tryz.results52
  ·have hb3 : (k.kind == 3) = false := by simpa using h3
   rw [if_neg h3]
   generalize getKeyV v k.text = g at *
   rcases g with ⟨c, _ | w⟩
   ·have hc : (c != 0) = true := by simpa using (show c ≠ 0 from hok)
    simp only [resA_none] at hgk ⊢
    refine wEnter Tryz.func52 Tryz.ntmps52 ?_
    refine wRUN (j5 hPl hP5 hP1 hP2 hb3) ?_
    refine w9 (op_shared [] hgk) trivial ?_
    refine wRUN hc ?_
    exact wRet (ret_data []) Tryz.results52
   ·have hw : w.right := hok.2
    have hih := ih w hw
    have hok2 := ok w hw
    dsimp only
    simp only [resA_some] at hgk
    generalize setPathV x p w = q at *
    rcases q with ⟨c, _ | u⟩
    ·have hc : (c != 0) = true := by simpa using (show c ≠ 0 from hok2)
     simp only [resA_none] at hih ⊢
     refine wEnter Tryz.func52 Tryz.ntmps52 ?_
     refine wRUN (j5 hPl hP5 hP1 hP2 hb3) ?_
     refine w9 (op_shared [] hgk) trivial ?_
     refine wRUN (j7 h00 hPl hP3 hP4 h01 hPa @Nat.le_refl) ?_
     refine w9 (op_shared [] hih) trivial ?_
     refine wRUN hc ?_
     exact wRet (ret_data []) Tryz.results52
    ·have hsk := setKey_ac hv hok2.2 k.text (right_text hk)
     dsimp only
     simp only [resA_some] at hih
     generalize setKeyV v k.text u = z at *
     rcases z with ⟨c, _ | y⟩
     all_goals
      simp only [resA_some, resA_none] at hsk ⊢
      refine wEnter Tryz.func52 Tryz.ntmps52 ?_
      refine wRUN (j5 hPl hP5 hP1 hP2 hb3) ?_
      refine w9 (op_shared [] hgk) trivial ?_
      refine wRUN (j7 h00 hPl hP3 hP4 h01 hPa @Nat.le_refl) ?_
      refine w9 (op_shared [] hih) trivial ?_
      refine wRUN (j3 h00 hP1 hP2) ?_
      refine w9 (op_shared [] hsk) trivial ?_
      refine wRUN trivial ?_
      exact wRet (ret_data []) Tryz.results52
set_option maxRecDepth 10000
theorem l13SetIndex_ac {v x : V} (hv : v.right) (k : V) (hk : k.right) (p : List V) (f : V → Int × Option V)
  (hf : ∀ w, w.right → okRes (f w)) (hrec : ∀ w, w.right → AC Tryz.prog 68 [cellsA w.enc, .c (.sl ((p.map V.enc).map encCs)), cellsA x.enc] [] (vrA (f w)) []) :
  AC Tryz.prog 122 [cellsA v.enc, .c (.int .i64 k.num), .c (.sl ((p.map V.enc).map encCs)), cellsA x.enc] [] (vrA (setIdxV v k.num f)) [] := by
 have hkl := kids_len_le hv.2.1
 have hnum := right_num hk
 have hcn := l13Index_ac k.num v.kids.length hnum (by omega)
 have hr0 := enc_rows v
 have hg0 := enc_head v
 unfold setIdxV
 by_cases h5 : v.kind = 5 ∨ v.kind = 0
 ·rw [if_pos h5]
  obtain ⟨m, hm⟩ : ∃ m, fromEnd k.num v.kids.length = m := ⟨_, rfl⟩
  rw [hm] at hcn ⊢
  have hpO := l1PartsO_ac hv.1 hv.2.1
  by_cases hneg : m < 0
  ·rw [if_pos hneg, vrA_bad]
   have hd : decide (m < 0) = true := by simpa using hneg
   rcases h5 with h5 | h5
   ·have hb5 : (v.kind != 5) = false := by simpa using h5
    have he5 : (v.kind == 5) = true := by simpa using h5
    refine wEnter Tryz.func122 Tryz.ntmps122 ?_
    refine wRUN (j4 hr0 hg0 hb5 he5) ?_
    refine w12 (op_rowF [] hpO) trivial ?_
    refine wRUN trivial ?_
    refine w7 (op_data [] hcn) trivial ?_
    refine wRUN hd ?_
    refine w7 (op_data [] (l3Bad_ac 3)) trivial ?_
    refine wRUN trivial ?_
    exact wRet (ret_data []) Tryz.results122
   ·have hb5 : (v.kind != 5) = true := by simp [h5]
    have hb0 : (v.kind != 0) = false := by simpa using h5
    have he5 : (v.kind == 5) = false := by simp [h5]
    rw [(right_kids0 hv h5).2] at hcn
    simp only [List.length_nil] at hcn
    refine wEnter Tryz.func122 Tryz.ntmps122 ?_
    refine wRUN (j5 hr0 hg0 hb5 hb0 he5) ?_
    refine w7 (op_data [] hcn) trivial ?_
    refine wRUN hd ?_
    refine w7 (op_data [] (l3Bad_ac 3)) trivial ?_
    refine wRUN trivial ?_
    exact wRet (ret_data []) Tryz.results122
  ·rw [if_neg hneg]
   have hd : decide (m < 0) = false := by simpa using hneg
   by_cases hbig : m ≥ 200
   ·rw [if_pos hbig, vrA_bad]
    have hd2 : decide (m ≥ 200) = true := by simpa using hbig
    rcases h5 with h5 | h5
    ·have hb5 : (v.kind != 5) = false := by simpa using h5
     have he5 : (v.kind == 5) = true := by simpa using h5
     refine wEnter Tryz.func122 Tryz.ntmps122 ?_
     refine wRUN (j4 hr0 hg0 hb5 he5) ?_
     refine w12 (op_rowF [] hpO) trivial ?_
     refine wRUN trivial ?_
     refine w7 (op_data [] hcn) trivial ?_
     refine wRUN (j2 hd hd2) ?_
     refine w7 (op_data [] (l3Bad_ac 2)) trivial ?_
     refine wRUN trivial ?_
     exact wRet (ret_data []) Tryz.results122
    ·have hb5 : (v.kind != 5) = true := by simp [h5]
     have hb0 : (v.kind != 0) = false := by simpa using h5
     have he5 : (v.kind == 5) = false := by simp [h5]
     rw [(right_kids0 hv h5).2] at hcn
     simp only [List.length_nil] at hcn
     refine wEnter Tryz.func122 Tryz.ntmps122 ?_
     refine wRUN (j5 hr0 hg0 hb5 hb0 he5) ?_
     refine w7 (op_data [] hcn) trivial ?_
     refine wRUN (j2 hd hd2) ?_
     refine w7 (op_data [] (l3Bad_ac 2)) trivial ?_
     refine wRUN trivial ?_
     exact wRet (ret_data []) Tryz.results122
   ·rw [if_neg hbig]
    have hd2 : decide (m ≥ 200) = false := by simpa using hbig
    obtain ⟨n, rfl⟩ : ∃ n : Nat, m = n := ⟨m.toNat, by omega⟩
    rw [Int.toNat_natCast]
    obtain ⟨L, hL0, hLl, hLe, hLs⟩ := pad_grow v n
    have hpr := pad_right (kids := v.kids) (fun z hz => right_mem hv hz) n
    have hpl := pad_len v.kids n
    have hcnt := fun {r : V} (hr : r.right) => setIdx_count hv hr (n := n) (by omega)
    generalize padV v.kids n = Q at *
    have hnl : n < Q.length := by omega
    have hwD : Q.getD n nullV = Q[n] := by rw [List.getD_eq_getElem?_getD, List.getElem?_eq_getElem hnl]; rfl
    rw [hwD]
    have hwr := hpr Q[n] (List.getElem_mem hnl)
    have hrc := hrec Q[n] hwr
    have hok := hf Q[n] hwr
    have hnr : rowsAt ((Q.map V.enc).map encCs) 1 n = true := by simp [rowsAt, hnl, encCs]
    have hng : ((Q.map V.enc).map encCs)[n]? = some [.sl (Q[n].enc.map CellD.cs)] := by simp [hnl, encCs]
    generalize f Q[n] = r at *
    generalize Q[n] = w at *
    generalize hres : onSome r _ = res
    have hl3 := l3NullS_ac
    rcases h5 with h5 | h5
    case' inl =>
     have hb5 : (v.kind != 5) = false := by simpa using h5
     have he5 : (v.kind == 5) = true := by simpa using h5
     refine wEnter Tryz.func122 Tryz.ntmps122 ?_
     refine wRUN (j4 hr0 hg0 hb5 he5) ?_
     refine w12 (op_rowF [] hpO) trivial ?_
     refine wRUN trivial ?_
     refine w7 (op_data [] hcn) trivial ?_
     refine wRUN (j2 hd hd2) ?_
    case' inr =>
     have hb5 : (v.kind != 5) = true := by simp [h5]
     have hb0 : (v.kind != 0) = false := by simpa using h5
     have he5 : (v.kind == 5) = false := by simp [h5]
     have hk0 := (right_kids0 hv h5).2
     rw [hk0] at hcn hL0
     simp only [List.length_nil] at hcn
     refine wEnter Tryz.func122 Tryz.ntmps122 ?_
     refine wRUN (j5 hr0 hg0 hb5 hb0 he5) ?_
     refine w7 (op_data [] hcn) trivial ?_
     refine wRUN (j2 hd hd2) ?_
    all_goals
     refine a_loop (κ := Nat) (fun j => ⟨mkS 0 69 [(1, .c (.int .i64 n)), (2, .c (.sl ((p.map V.enc).map encCs))), (3, cellsA x.enc), (8, .ptr (8, 0) 0), (9, .own (95, 0))],
       [((8, 0), .box [.c (.int .i64 0), .nils]), ((95, 0), .row false 1 22 (((L j).map V.enc).map encCs))]⟩)
      (fun j => j ≤ n + 1 - v.kids.length) (fun j => n + 1 - v.kids.length - j) 0 (Nat.zero_le _) ?_ ?_
     ·first
      | exact wSays (Says.of [((8, 0), (8, 0)), ((95, 0), (31, 0))] []) hL0
      | exact wSays (Says.of [((8, 0), (8, 0)), ((95, 0), (24, 0))] []) (j2 hL0 @List.map_nil.{0,0})
     ·intro j hj
      have hLm : (((L j).map V.enc).map encCs).length = (L j).length := by simp
      by_cases hlt : v.kids.length + j ≤ n
      ·have hd3 : decide (((L j).length : Int) ≤ (n : Int)) = true := by rw [hLl]; simp; omega
       have hl1 : (L j).length + 1 ≤ 1000000 := by rw [hLl]; omega
       have hn1 : ((L j).map V.enc).map encCs ++ [[.sl (nullV.enc.map CellD.cs)]] = ((L (j + 1)).map V.enc).map encCs := by rw [hLs, List.map_append, List.map_append]; rfl
       generalize nullV.enc.map CellD.cs = nc at *
       refine wRUN (j2 hLm hd3) ?_
       refine w9 (op_shared [] hl3) trivial ?_
       refine wRUN (j2 hLm hl1) ?_
       refine ⟨j + 1, by omega, by omega, ?_⟩
       exact wSays (Says.of [((8, 0), (8, 0)), ((95, 0), (49, 0))] []) hn1
      ·have hje : L j = Q := by rw [show j = n + 1 - v.kids.length by omega]; exact hLe
       have hd3 : decide (((L j).length : Int) ≤ (n : Int)) = false := by rw [hLl]; simp; omega
       rw [hje] at hLm hd3 ⊢
       rcases r with ⟨c, _ | u⟩
       ·have hc : (c != 0) = true := by simpa using (show c ≠ 0 from hok)
        have hres : (c, none) = res := hres
        subst hres
        simp only [vrA_none] at hrc ⊢
        refine wRUN (j4 hLm hd3 hnr hng) ?_
        refine w9 (op_shared [] hrc) trivial ?_
        refine wRUN hc ?_
        exact wRet (ret_data []) Tryz.results122
       ·obtain ⟨h0, hu⟩ := hok
        have hres : giveR (arrV (Q.set n u)) = res := hres
        have h00 : ((0 : Int) != 0) = false := rfl
        have hay := l1ArrayS_ac (Q.set n u) (by have := hcnt hu; omega)
        have htd := l1Told_ac (arrV (Q.set n u))
        have hset : ((Q.map V.enc).map encCs).set n [.sl (u.enc.map CellD.cs)] = ((Q.set n u).map V.enc).map encCs := by rw [List.map_set, List.map_set]; rfl
        simp only [vrA_some] at hrc
        generalize Q.set n u = R at *
        rw [hres] at htd
        generalize arrV R = ar at *
        rcases res with ⟨c2, _ | y⟩
        all_goals
         simp only [vrA_some, vrA_none] at htd ⊢
         refine wRUN (j4 hLm hd3 hnr hng) ?_
         refine w9 (op_shared [] hrc) trivial ?_
         refine wRUN (j4 h00 hnr hng hset) ?_
         refine w9 (op_shared [(95, 0)] hay) hset ?_
         refine w9 (op_shared [] htd) trivial ?_
         refine wRUN trivial ?_
         exact wRet (ret_data []) Tryz.results122
 ·rw [if_neg h5, vrA_bad]
  have hb5 : (v.kind != 5) = true := by simp; omega
  have hb0 : (v.kind != 0) = true := by simp; omega
  refine wEnter Tryz.func122 Tryz.ntmps122 ?_
  refine wRUN (j4 hr0 hg0 hb5 hb0) ?_
  refine w7 (op_data [] (l3Bad_ac 6)) trivial ?_
  refine wRUN trivial ?_
  exact wRet (ret_data []) Tryz.results122
theorem l13Set_ac {x : V} (hx : x.right) : ∀ (P : List V), P.length ≤ 1000000 → (∀ k ∈ P, k.right ∧ (k.kind = 3 ∨ k.kind = 4)) → ∀ (v : V), v.right → AC Tryz.prog 68 [cellsA v.enc, .c (.sl ((P.map V.enc).map encCs)), cellsA x.enc] [] (vrA (setPathV x P v)) []
 | [], _, _, v, hv => by
  have hel := enc_len x
  have hxc := hx.2.1
  have hall := all_cells x.enc
  have hb0 : 0 + x.enc.length ≤ 1000000 := by omega
  have hz0 : ((0 : Int) == 0) = true := rfl
  have hz1 : (((0 : Nat) : Int) == 0) = true := rfl
  show AC _ _ _ _ (vrA (okR x)) _
  rw [vrA_ok]
  refine wEnter Tryz.func68 Tryz.ntmps68 ?_
  refine wRUN (j4 hz0 hz1 hall hb0) ?_
  exact wRetOf (ret_of [] [(15, 0)]) Tryz.results68 hel
 | k :: p, hl, hp, v, hv => by
  have hpl : p.length ≤ 1000000 := by simp only [List.length_cons] at hl; omega
  have hpp : ∀ y ∈ p, y.right ∧ (y.kind = 3 ∨ y.kind = 4) := fun y hy => hp y (by simp [hy])
  obtain ⟨hk, hkk⟩ := hp k (by simp)
  have ih := l13Set_ac hx p hpl hpp
  have ok := setPath_ok hx p hpp
  have hP1 : rowsAt (((k :: p).map V.enc).map encCs) 1 0 = true := by simp [rowsAt, encCs]
  have hP2 : (((k :: p).map V.enc).map encCs)[0]? = some [.sl (k.enc.map CellD.cs)] := rfl
  have hP3 : 1 ≤ (k :: p).length := by simp
  have hP4 : ((((k :: p).map V.enc).map encCs).take (k :: p).length).drop 1 = (p.map V.enc).map encCs := by
   rw [List.take_of_length_le (by rw [List.length_map, List.length_map]; exact Nat.le_refl _)]
   rfl
  have hP5 : (((k :: p).length : Int) == 0) = false := by simp; omega
  have hel := l13SetIndex_ac (x := x) hv k hk p (setPathV x p) ok ih
  have hgk := l3Get_ac hv k.text
  have hok := getKey_ok hv k.text
  have hkr := enc_rows k
  have hkg := enc_head k
  unfold setPathV
  generalize hPP : k :: p = P at *
  have hPl : ((P.map V.enc).map encCs).length = P.length := by simp
  have hPa := all_encs (P.map V.enc)
  have h01 : cutB 0 (some (AV.c (C.int IntKind.i64 1))) = some 1 := rfl
  have h00 : ((0 : Int) != 0) = false := rfl
  by_cases h3 : k.kind = 3
  ·have hb3 : (k.kind == 3) = true := by simpa using h3
   rw [if_pos h3]
   generalize setIdxV v k.num (setPathV x p) = r at *
   rcases r with ⟨c, _ | u⟩
   all_goals
    simp only [vrA_some, vrA_none] at hel ⊢
    refine wEnter Tryz.func68 Tryz.ntmps68 ?_
    refine wRUN (j12 hPl hP5 hP1 hP2 hkr hkg hb3 hP3 hP4 h01 hPa @Nat.le_refl) ?_
    refine w9 (op_shared [] hel) trivial ?_
    refine wRUN trivial ?_
    exact wRet (ret_data []) Tryz.results68
  ·have hb3 : (k.kind == 3) = false := by simpa using h3
   rw [if_neg h3]
   generalize getKeyV v k.text = g at *
   rcases g with ⟨c, _ | w⟩
   ·have hc : (c != 0) = true := by simpa using (show c ≠ 0 from hok)
    simp only [vrA_none] at hgk ⊢
    refine wEnter Tryz.func68 Tryz.ntmps68 ?_
    refine wRUN (j7 hPl hP5 hP1 hP2 hkr hkg hb3) ?_
    refine w9 (op_shared [] hgk) trivial ?_
    refine wRUN hc ?_
    exact wRet (ret_data []) Tryz.results68
   ·have hw : w.right := hok.2
    have hih := ih w hw
    have hok2 := ok w hw
    dsimp only
    simp only [vrA_some] at hgk
    generalize setPathV x p w = q at *
    rcases q with ⟨c, _ | u⟩
    ·have hc : (c != 0) = true := by simpa using (show c ≠ 0 from hok2)
     simp only [vrA_none] at hih ⊢
     refine wEnter Tryz.func68 Tryz.ntmps68 ?_
     refine wRUN (j7 hPl hP5 hP1 hP2 hkr hkg hb3) ?_
     refine w9 (op_shared [] hgk) trivial ?_
     refine wRUN (j7 h00 hPl hP3 hP4 h01 hPa @Nat.le_refl) ?_
     refine w9 (op_shared [] hih) trivial ?_
     refine wRUN hc ?_
     exact wRet (ret_data []) Tryz.results68
    ·have hsk := specSetKey_ac hv hok2.2 k.text (right_text hk)
     dsimp only
     simp only [vrA_some] at hih
     generalize setKeyV v k.text u = z at *
     rcases z with ⟨c, _ | y⟩
     all_goals
      simp only [vrA_some, vrA_none] at hsk ⊢
      refine wEnter Tryz.func68 Tryz.ntmps68 ?_
      refine wRUN (j7 hPl hP5 hP1 hP2 hkr hkg hb3) ?_
      refine w9 (op_shared [] hgk) trivial ?_
      refine wRUN (j7 h00 hPl hP3 hP4 h01 hPa @Nat.le_refl) ?_
      refine w9 (op_shared [] hih) trivial ?_
      refine wRUN h00 ?_
      refine w9 (op_shared [] hsk) trivial ?_
      refine wRUN trivial ?_
      exact wRet (ret_data []) Tryz.results68
end Go.Proofs.YtlciedpfjhkkdaaGreatDoor
