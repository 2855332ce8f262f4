/- spec.l6All, l6Deep, DeepOf, DrawDeepOf; impl.native and DoNative at 7, by the engine. -/
import Derived.Test.YtpaooephkpjkfaaGreatKG89
set_option linter.unusedSimpArgs false
set_option linter.unusedVariables false
set_option linter.unnecessarySimpa false
namespace Go.Proofs.YtpaooephkpjkfaaGreat
open Go.RowKit
set_option maxRecDepth 10000
set_option maxHeartbeats 1000000 in
theorem l6All_ac : ∀ (m : Nat) (t : V), t.count ≤ m → t.right → AC Tryz.prog 105 [cellsA t.enc] [] (.own (0, 0)) [((0, 0), .row true 1 24 ((t.deep.map V.enc).map oslCs))] := by
  intro m
  induction m with
  | zero => intro t hm _; have := count_pos t; omega
  | succ m ih =>
    intro t hm ht
    have _a1 := all_osl
    have _a2 := closed_osl
    have _a3 := forget_osl
    have hM := ht.2.1
    have hkc := count_kids t
    have hkl := countL_len t.kids
    have hdl := deep_len t
    have hel := enc_len t
    have hps := l1Parts_ac ht.1 ht.2.1
    have hkr := fun k hk => right_mem ht (k := k) hk
    obtain ⟨R, hR⟩ : ∃ R : Nat → List V, ∀ k, R k = t :: deepL (t.kids.take k) := ⟨_, fun _ => rfl⟩
    have h0 : ((R 0).map V.enc).map oslCs = [[.osl (t.enc.map CellD.cs)]] := by rw [hR]; simp [deepL, oslCs]
    have hz1 : 0 + t.enc.length ≤ 1000000 := by omega
    have hRlen : ∀ k, (R k).length ≤ t.count := fun k => by
      rw [hR, List.length_cons, deepL_len]
      have := countL_take_le t.kids k
      omega
    have hRdeep : ∀ (h : t.kids.length ≤ t.kids.length), R t.kids.length = t.deep := fun _ => by rw [hR, List.take_length, deep_eq]
    have hRs : ∀ (k : Nat) (h : k < t.kids.length), R (k + 1) = R k ++ t.kids[k].deep := fun k h => by rw [hR, hR, List.take_succ_eq_append_getElem h, deepL_app]; simp [deepL]
    have hmemc : ∀ (k : Nat) (h : k < t.kids.length), t.kids[k].count ≤ m := fun k h => by have := countL_mem (List.getElem_mem h); omega
    have hlp : ((t.kids.map V.enc).map encCs).length = t.kids.length := by simp
    have hRend := hRdeep (Nat.le_refl _)
    rw [← hRend]
    clear _a1 _a2 _a3
    generalize t.enc = te at *
    generalize t.kids = l at *
    refine wEnter Tryz.func105 Tryz.ntmps105 ?_
    (repeat (first | (with_reducible first | refine a_seq ?_ | refine a_region ?_ | refine a_block ?_ | refine a_scope ?_) | ((with_reducible apply op_any); (iterate 2 (focus (first | (simp only [go_sem, Nat.reduceEqDiff, Nat.reduceAdd, Nat.reduceSub, Nat.reduceLeDiff, Nat.reduceMul, Nat.reduceBEq, Nat.reduceLT, Int.reduceToNat, reduceCtorEq, hz1, List.nil_append]; first | done | exact rfl | (and_intros <;> rfl)) | exact rfl | decide)))) | ((with_reducible refine o_nil ?_); dsimp only; try ((with_reducible apply o_draw); (focus (simp only [go_sem]; exact rfl)); (focus decide))) | ((with_reducible first | refine a_ret ?_ | refine a_skip ?_ | refine a_label ?_); dsimp only) | ((with_reducible refine a_exit ?_); dsimp only; simp only [if_true, if_false, Nat.reduceEqDiff]) | ((with_reducible apply a_if); (focus (simp only [go_sem, Nat.reduceBEq, Nat.reduceLT, hz1, List.nil_append]; exact rfl)); dsimp only [cond_true, cond_false]) | ((with_reducible refine a_draw ?_ ?_); (focus exact rfl))))
    refine w9 (op_shared [] hps) trivial ?_
    refine wRUN trivial ?_
    refine a_loop (κ := Nat) (fun k => ⟨mkS 0 26 [(3, .own (99, 0)), (4, .c (.sl ((l.map V.enc).map encCs))), (5, .c (.int .i64 k))], [((99, 0), .row true 1 24 (((R k).map V.enc).map oslCs))]⟩)
      (fun k => k ≤ l.length) (fun k => l.length - k) 0 (Nat.zero_le _) ?_ ?_
    · exact wSays (Says.of [((99, 0), (9, 0))] []) h0
    · intro k hk
      by_cases hlt : k < l.length
      · have hd : decide ((k : Int) < (l.length : Int)) = true := by simpa using hlt
        have hw := wrap_succ (k := k) (by omega)
        obtain ⟨hr0, hg0⟩ := row_encsV hlt
        have hi := ih l[k] (hmemc k hlt) (hkr _ (List.getElem_mem hlt))
        have hs := hRs k hlt
        have h1 := hRlen (k + 1)
        rw [hs, List.length_append] at h1
        have hol : (R k).length + l[k].deep.length ≤ 1000000 := by omega
        have hrow : ((R k).map V.enc).map oslCs ++ (l[k].deep.map V.enc).map oslCs = ((R (k + 1)).map V.enc).map oslCs := by rw [hs, List.map_append, List.map_append]
        generalize l[k] = u at *
        refine wRUN (j4 hd hlp hr0 hg0) ?_
        refine w12 (op_rowF [] hi) trivial ?_
        refine wRUN (j2 hol hw) ?_
        refine ⟨k + 1, by omega, by omega, ?_⟩
        exact wSays (Says.of [((99, 0), (24, 0))] []) hrow
      · have hd : decide ((k : Int) < (l.length : Int)) = false := by simpa using hlt
        have hke : k = l.length := by omega
        rw [hke]
        rw [hke] at hd
        refine wRUN (j2 hd hlp) ?_
        exact wRetOf (ret_of [((0, 0), (99, 0))] []) Tryz.results105 hd
theorem l6Deep_ac {t : V} (ht : t.right) : AC Tryz.prog 46 [cellsA t.enc] [] (vrA (deepV t)) [] := by
  have h1 := l6All_ac t.count t (Nat.le_refl _) ht
  have h2 := l1Array_ac t.deep (by have := (deep_fit ht).2; omega)
  have h3 := l1Told_ac (arrV t.deep)
  have hok := deepV_ok ht
  unfold deepV at *
  generalize giveR (arrV t.deep) = r at *
  generalize (arrV t.deep).enc = de at *
  generalize t.enc = te at *
  rcases okRes_ways hok with ⟨v, rfl, _⟩ | ⟨c, _, rfl⟩
  · rw [vrA_some] at h3 ⊢
    refine wEnter Tryz.func46 Tryz.ntmps46 ?_
    refine wRUN trivial ?_
    refine w12 (op_rowF [] h1) trivial ?_
    refine wRUN trivial ?_
    refine w12 (op_rowF [(4, 0)] h2) trivial ?_
    refine wRUN trivial ?_
    refine w9 (op_shared [(5, 0)] h3) trivial ?_
    refine wRUN trivial ?_
    exact wRetOf (ret_of [] []) Tryz.results46 hok
  · rw [vrA_none] at h3 ⊢
    refine wEnter Tryz.func46 Tryz.ntmps46 ?_
    refine wRUN trivial ?_
    refine w12 (op_rowF [] h1) trivial ?_
    refine wRUN trivial ?_
    refine w12 (op_rowF [(4, 0)] h2) trivial ?_
    refine wRUN trivial ?_
    refine w9 (op_shared [(5, 0)] h3) trivial ?_
    refine wRUN trivial ?_
    exact wRetOf (ret_of [] []) Tryz.results46 hok
theorem specDeepOf_ac (xs : List CellD) : AC Tryz.prog 11 [cellsA xs] [] (vrA (oneR deepV xs)) [] := by
  have hf := fault_ac xs
  unfold oneR
  rcases dec_cases xs with ⟨t, hd⟩ | ⟨c, hc, hd⟩
  · obtain ⟨hx, ht⟩ := right_of_dec hd
    subst hx
    rw [hd] at hf ⊢
    have h1 := l6Deep_ac ht
    have h0 : ((0 : Int) != 0) = false := rfl
    have hok := deepV_ok ht
    show AC _ _ _ _ (vrA (deepV t)) _
    generalize deepV t = r at *
    rcases okRes_ways hok with ⟨v, rfl, _⟩ | ⟨c, _, rfl⟩
    · rw [vrA_some] at h1 ⊢
      refine wEnter Tryz.func11 Tryz.ntmps11 ?_
      refine wRUN trivial ?_
      refine w7 (op_data [] hf) trivial ?_
      refine wRUN h0 ?_
      refine w9 (op_shared [] h1) trivial ?_
      refine wRUN trivial ?_
      exact wRetOf (ret_of [] []) Tryz.results11 h0
    · rw [vrA_none] at h1 ⊢
      refine wEnter Tryz.func11 Tryz.ntmps11 ?_
      refine wRUN trivial ?_
      refine w7 (op_data [] hf) trivial ?_
      refine wRUN h0 ?_
      refine w9 (op_shared [] h1) trivial ?_
      refine wRUN trivial ?_
      exact wRetOf (ret_of [] []) Tryz.results11 h0
  · rw [hd] at hf ⊢
    have hb : (c != 0) = true := by simpa using hc
    show AC _ _ _ _ (vrA (c, none)) _
    rw [vrA_none]
    have h1 := l3Bad_ac c
    refine wEnter Tryz.func11 Tryz.ntmps11 ?_
    refine wRUN trivial ?_
    refine w7 (op_data [] hf) trivial ?_
    refine wRUN hb ?_
    refine w7 (op_data [] h1) trivial ?_
    refine wRUN trivial ?_
    exact wRetOf (ret_of [] []) Tryz.results11 hb
theorem drawDeep_ac (bs : List Nat) (hb : BytesOk bs) : ∃ xs, Sized xs ∧ xs.length ≤ 250 ∧ AC Tryz.prog 9 [.c (.sl (bs.map byteCs))] [] (cellsA xs) [] := by
  have s0 := l1Source_ac bs
  obtain ⟨xs, a1, ⟨g1, g2, g3, g4⟩, c1⟩ := l1Bent_ac bs hb 0 (by omega)
  refine ⟨xs, g2, g1, ?_⟩
  refine wEnter Tryz.func9 Tryz.ntmps9 ?_
  refine wRUN trivial ?_
  refine w12 (op_rowF [] s0) trivial ?_
  refine wRUN trivial ?_
  refine wCall (op_any_call [((0, 0), (4, 0))] [((0, 0), (4, 0)), ((0, 1), (5, 0))] c1) trivial ?_
  refine wRUN trivial ?_
  exact wRetOf (ret_of [] [(5, 0)]) Tryz.results9 g1
/-- A function that has an int of its own. -/
theorem ofOneN_ac (f : FuncId) (hcal : callable Tryz.prog f = true) (n : Int) (F : V → Int × Option V) (xs : List CellD) (hz : Sized xs) (hok : ∀ t, t.right → okRes (F t)) (hf : ∀ t, t.right → AC Tryz.prog f [t.av, .ptr (0, 0) 0] [((0, 0), .box [.c (.int .i64 n)])] (resA (F t)) [((0, 0), .box [.c (.int .i64 n)])]) :
    AC Tryz.prog 42 [cellsA xs, .clo f [.ptr (0, 0) 0]] [((0, 0), .box [.c (.int .i64 n)])] (vrA (oneR F xs)) [((0, 0), .box [.c (.int .i64 n)])] := by
  unfold oneR
  rcases dec_cases xs with ⟨t, hd⟩ | ⟨c, hc, hd⟩
  · obtain ⟨_, ht⟩ := right_of_dec hd
    have hv := valOf_ac xs hz (t := t) (by rw [hd])
    have h0 : ((0 : Int) != 0) = false := rfl
    have hF := hf t ht
    rw [hd]
    show AC _ _ _ _ (vrA (F t)) _
    rcases okRes_ways (hok t ht) with ⟨v, h, hvr⟩ | ⟨c, hc, h⟩
    · rw [h, resA_some] at hF
      rw [h, vrA_some]
      have hr := result_ac hvr
      refine wEnter Tryz.func42 Tryz.ntmps42 ?_
      refine wRUN trivial ?_
      refine w9 (op_shared [] hv) trivial ?_
      refine wRUN h0 ?_
      refine wCall (op_any_call [((0, 0), (0, 0))] [((0, 0), (0, 0))] hF) hcal ?_
      refine wRUN trivial ?_
      refine w12 (op_rowF [] hr) trivial ?_
      refine wRUN trivial ?_
      exact wRetOf (ret_of [((0, 0), (0, 0))] [(19, 0)]) Tryz.results42 h0
    · rw [h, resA_none] at hF
      rw [h, vrA_none]
      have hr := result_bad hc
      refine wEnter Tryz.func42 Tryz.ntmps42 ?_
      refine wRUN trivial ?_
      refine w9 (op_shared [] hv) trivial ?_
      refine wRUN h0 ?_
      refine wCall (op_any_call [((0, 0), (0, 0))] [((0, 0), (0, 0))] hF) hcal ?_
      refine wRUN trivial ?_
      refine w9 (op_shared [] hr) trivial ?_
      refine wRUN trivial ?_
      exact wRetOf (ret_of [((0, 0), (0, 0))] []) Tryz.results42 h0
  · have hv := valOf_bad xs hz (by rw [hd])
    have hb : ((dec xs).1 != 0) = true := by rw [hd]; simpa using hc
    have hc1 : (dec xs).1 = c := by rw [hd]
    rw [hd]
    show AC _ _ _ _ (vrA (c, none)) _
    rw [vrA_none, ← hc1]
    refine wEnter Tryz.func42 Tryz.ntmps42 ?_
    refine wRUN trivial ?_
    (apply (op_shared [] hv); (iterate 9 (focus (first | (simp only [go_sem, Nat.reduceEqDiff, Nat.reduceAdd, Nat.reduceSub, Nat.reduceLeDiff, Nat.reduceMul, Nat.reduceBEq, Nat.reduceLT, Int.reduceToNat, reduceCtorEq, noV]; first | done | exact rfl | (and_intros <;> rfl)) | exact rfl | decide))))
    (repeat (first | (with_reducible first | refine a_seq ?_ | refine a_region ?_ | refine a_block ?_ | refine a_scope ?_) | ((with_reducible apply op_any); (iterate 2 (focus (first | (simp only [go_sem, Nat.reduceEqDiff, Nat.reduceAdd, Nat.reduceSub, Nat.reduceLeDiff, Nat.reduceMul, Nat.reduceBEq, Nat.reduceLT, Int.reduceToNat, reduceCtorEq, hb, noV]; first | done | exact rfl | (and_intros <;> rfl)) | exact rfl | decide)))) | ((with_reducible refine o_nil ?_); dsimp only; try ((with_reducible apply o_draw); (focus (simp only [go_sem]; exact rfl)); (focus decide))) | ((with_reducible first | refine a_ret ?_ | refine a_skip ?_ | refine a_label ?_); dsimp only) | ((with_reducible refine a_exit ?_); dsimp only; simp only [if_true, if_false, Nat.reduceEqDiff]) | ((with_reducible apply a_if); (focus (simp only [go_sem, Nat.reduceBEq, Nat.reduceLT, hb, noV]; exact rfl)); dsimp only [cond_true, cond_false]) | ((with_reducible refine a_draw ?_ ?_); (focus exact rfl))))
    exact wRetOf (ret_of [((0, 0), (0, 0))] []) Tryz.results42 hb
theorem native7_ac {t : V} (ht : t.right) : AC Tryz.prog 55 [.c (.int .i64 7), t.av] [] (resA (deepV t)) [] := by
  have h1 := deepOf_ac ht
  have hok := deepV_ok ht
  generalize deepV t = r at *
  rcases okRes_ways hok with ⟨v, rfl, _⟩ | ⟨c, _, rfl⟩
  · rw [resA_some] at h1 ⊢
    refine wEnter Tryz.func55 Tryz.ntmps55 ?_
    (repeat (first | (with_reducible first | refine a_seq ?_ | refine a_region ?_ | refine a_block ?_ | refine a_scope ?_) | ((with_reducible apply op_any); (iterate 2 (focus (first | (simp only [go_sem, Nat.reduceEqDiff, Nat.reduceAdd, Nat.reduceSub, Nat.reduceLeDiff, Nat.reduceMul, Nat.reduceBEq, Nat.reduceLT, Int.reduceToNat, reduceCtorEq, Int.reduceBEq]; first | done | exact rfl | (and_intros <;> rfl)) | exact rfl | decide)))) | ((with_reducible refine o_nil ?_); dsimp only; try ((with_reducible apply o_draw); (focus (simp only [go_sem]; exact rfl)); (focus decide))) | ((with_reducible first | refine a_ret ?_ | refine a_skip ?_ | refine a_label ?_); dsimp only) | ((with_reducible refine a_exit ?_); dsimp only; simp only [if_true, if_false, Nat.reduceEqDiff]) | ((with_reducible apply a_if); (focus (simp only [go_sem, Nat.reduceBEq, Nat.reduceLT, Int.reduceBEq]; exact rfl)); dsimp only [cond_true, cond_false]) | ((with_reducible refine a_draw ?_ ?_); (focus exact rfl))))
    refine w9 (op_shared [] h1) trivial ?_
    refine wRUN trivial ?_
    exact wRetOf (ret_of [] []) Tryz.results55 hok
  · rw [resA_none] at h1 ⊢
    refine wEnter Tryz.func55 Tryz.ntmps55 ?_
    (repeat (first | (with_reducible first | refine a_seq ?_ | refine a_region ?_ | refine a_block ?_ | refine a_scope ?_) | ((with_reducible apply op_any); (iterate 2 (focus (first | (simp only [go_sem, Nat.reduceEqDiff, Nat.reduceAdd, Nat.reduceSub, Nat.reduceLeDiff, Nat.reduceMul, Nat.reduceBEq, Nat.reduceLT, Int.reduceToNat, reduceCtorEq, Int.reduceBEq]; first | done | exact rfl | (and_intros <;> rfl)) | exact rfl | decide)))) | ((with_reducible refine o_nil ?_); dsimp only; try ((with_reducible apply o_draw); (focus (simp only [go_sem]; exact rfl)); (focus decide))) | ((with_reducible first | refine a_ret ?_ | refine a_skip ?_ | refine a_label ?_); dsimp only) | ((with_reducible refine a_exit ?_); dsimp only; simp only [if_true, if_false, Nat.reduceEqDiff]) | ((with_reducible apply a_if); (focus (simp only [go_sem, Nat.reduceBEq, Nat.reduceLT, Int.reduceBEq]; exact rfl)); dsimp only [cond_true, cond_false]) | ((with_reducible refine a_draw ?_ ?_); (focus exact rfl))))
    refine w9 (op_shared [] h1) trivial ?_
    refine wRUN trivial ?_
    exact wRetOf (ret_of [] []) Tryz.results55 hok
theorem implDoNative7_ac (xs : List CellD) (hz : Sized xs) : AC Tryz.prog 15 [.c (.int .i64 7), cellsA xs] [] (vrA (oneR deepV xs)) [] := by
  have hc : ∀ t, t.right → AC Tryz.prog 54 [t.av, .ptr (0, 0) 0] [((0, 0), .box [.c (.int .i64 7)])] (resA (deepV t)) [((0, 0), .box [.c (.int .i64 7)])] := fun t ht => by
    have h1 := native7_ac ht
    have hok := deepV_ok ht
    generalize deepV t = r at *
    rcases okRes_ways hok with ⟨v, rfl, _⟩ | ⟨c, _, rfl⟩
    · rw [resA_some] at h1 ⊢
      refine wEnter Tryz.func54 Tryz.ntmps54 ?_
      refine wRUN trivial ?_
      refine w9 (op_shared [] h1) trivial ?_
      refine wRUN trivial ?_
      exact wRetOf (ret_of [((0, 0), (0, 0))] []) Tryz.results54 hok
    · rw [resA_none] at h1 ⊢
      refine wEnter Tryz.func54 Tryz.ntmps54 ?_
      refine wRUN trivial ?_
      refine w9 (op_shared [] h1) trivial ?_
      refine wRUN trivial ?_
      exact wRetOf (ret_of [((0, 0), (0, 0))] []) Tryz.results54 hok
  have h := ofOneN_ac 54 (by simp only [go_sem]) 7 deepV xs hz (fun t => deepV_ok) hc
  have hv : okRes (oneR deepV xs) := by
    unfold oneR
    rcases dec_cases xs with ⟨t, hd⟩ | ⟨c, hc, hd⟩
    · rw [hd]; exact deepV_ok (right_of_dec hd).2
    · rw [hd]; exact hc
  rcases okRes_ways hv with ⟨v, e, _⟩ | ⟨c, _, e⟩
  · rw [e, vrA_some] at h ⊢
    refine wEnter Tryz.func15 Tryz.ntmps15 ?_
    refine wRUN trivial ?_
    refine wCall (op_any_call [((0, 0), (2, 0))] [((0, 0), (2, 0))] h) trivial ?_
    refine wRUN trivial ?_
    exact wRetOf (ret_of [] []) Tryz.results15 e
  · rw [e, vrA_none] at h ⊢
    refine wEnter Tryz.func15 Tryz.ntmps15 ?_
    refine wRUN trivial ?_
    refine wCall (op_any_call [((0, 0), (2, 0))] [((0, 0), (2, 0))] h) trivial ?_
    refine wRUN trivial ?_
    exact wRetOf (ret_of [] []) Tryz.results15 e
end Go.Proofs.YtpaooephkpjkfaaGreat
