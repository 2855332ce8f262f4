/- impl.PartAt; (impl.val).deep, deepOf, DeepOf, DoNative at 7; spec.l6All, DeepOf, by the engine. -/
import Derived.Test.YtpaooephkpjkfaaGreatKG88
import Derived.Test.YtpaooephkpjkfaaGreatKM31
import Derived.Test.YtpaooephkpjkfaaGreatKM13uG79
set_option linter.unusedSimpArgs false
set_option linter.unusedVariables false
set_option linter.unnecessarySimpa false
namespace Go.Proofs.YtpaooephkpjkfaaGreat
open Go.RowKit
set_option maxRecDepth 10000
theorem valAt_ac {t : V} (ht : t.right) {i : Nat} (hi : i < t.deep.length) : AC Tryz.prog 108 [cellsA t.enc, .c (.int .i64 (i : Int))] [] (.tup [(t.deep[i]).av, .c (.int .i64 ((i + (t.deep[i]).count : Nat) : Int)), .c (.bool true)]) [] := by
  have hdl := deep_len t
  have hel := enc_len t
  have hc := ht.2.1
  obtain ⟨k', rest, e⟩ := deep_drop t ByteArray.empty i hi
  have hs := deep_right t ht _ (List.getElem_mem hi)
  have hp := parseV_cells (t.deep[i]) k' rest t.enc.length hs.1.1 (by omega)
  rw [← e] at hp
  have hlen : rest.length = t.count - i - (t.deep[i]).count := by
    have := congrArg List.length e
    rw [List.length_drop, List.length_append, cells_len, cells_len] at this
    omega
  have hle : i + (t.deep[i]).count ≤ t.count := by
    have := congrArg List.length e
    rw [List.length_drop, List.length_append, cells_len, cells_len] at this
    omega
  refine AC.of_calls fun S w κ vs hv => ?_
  obtain ⟨v, vs', rfl, h1, hv2⟩ := hv
  obtain ⟨v2, vs2, rfl, h2, rfl⟩ := hv2
  obtain ⟨A, cap, rfl, _, hcs⟩ := cr_cells.1 h1
  obtain ⟨rfl, _⟩ := h2
  refine (valAt_any t.enc (by omega) (enc_n ht.1) t.enc.length (i : Int) A cap S w (by omega) (by omega) (by omega) hcs).mono ?_
  rintro e1 w' ⟨hb, he⟩
  rw [Int.toNat_natCast] at he
  unfold V.enc at he hp
  rw [hp] at he
  obtain ⟨vs, rfl, hr⟩ := he
  refine ⟨hb, _, rfl, fun T _ hT => ⟨[_, _, _], rfl, _, _, rfl, ar_tree (hr.weaken fun b hb _ => hT b hb), _, _, rfl, ⟨?_, rfl⟩, _, _, rfl, ⟨rfl, rfl⟩, rfl⟩⟩
  show Value.int .i64 _ = Value.int .i64 _
  congr 1
  have : (t.cells ByteArray.empty).length = t.count := cells_len t _
  dsimp only
  omega
theorem endAt_ac {t : V} (ht : t.right) {i : Nat} (hi : i < t.deep.length) : AC Tryz.prog 53 [cellsA t.enc, .c (.int .i64 (i : Int))] [] (.c (.int .i64 ((i + (t.deep[i]).count : Nat) : Int))) [] := by
  have hv := valAt_ac ht hi
  generalize t.deep[i] = s at *
  refine wEnter Tryz.func53 Tryz.ntmps53 ?_
  refine wRUN trivial ?_
  refine w9 (op_shared [] hv) trivial ?_
  refine wRUN trivial ?_
  exact wRet (ret_data []) Tryz.results53
theorem sizeCells_ac (l : List CellD) : AC Tryz.prog 106 [cellsA l] [] (.c (.int .i64 l.length)) [] := by
  have hn : (l.map CellD.cs).length = l.length := by simp
  refine wEnter Tryz.func106 Tryz.ntmps106 ?_
  refine wRUN trivial ?_
  exact wRet (ret_data []) Tryz.results106
theorem placeFault_ac {t : V} (ht : t.right) {i : Nat} (hi : i < t.count) : AC Tryz.prog 51 [cellsA t.enc, .c (.int .i64 (i : Int))] [] (.c (.int .i64 0)) [] := by
  have f1 := faultS ht
  have hs := sizeCells_ac t.enc
  have hel := enc_len t
  rw [hel] at hs
  have hc := ht.2.1
  have hw : IntKind.i64.wrap ((t.count : Int) - 1) = ((t.count - 1 : Nat) : Int) := wrapN (by omega) (by omega)
  have hwi := within_ac (i : Int) 0 ((t.count - 1 : Nat) : Int)
  have h1 : decide ((i : Int) ≥ 0) = true := decide_eq_true (by omega)
  have h2 : decide ((i : Int) ≤ ((t.count - 1 : Nat) : Int)) = true := decide_eq_true (by omega)
  rw [h1, h2] at hwi
  have h00 : ((0 : Int) != 0) = false := rfl
  generalize t.enc = te at *
  refine wEnter Tryz.func51 Tryz.ntmps51 ?_
  refine wRUN trivial ?_
  refine w7 (op_data [] f1) trivial ?_
  refine wRUN h00 ?_
  refine w7 (op_data [] hs) trivial ?_
  refine wRUN hw ?_
  refine w7 (op_data [] hwi) trivial ?_
  refine wRUN trivial ?_
  exact wRet (ret_data []) Tryz.results51
theorem cells_key (s : V) (k' : ByteArray) : ((s.cells k').map CellD.cs).set 0 [.int .i64 s.kind, .int .i64 s.num, .str s.text, .str ByteArray.empty, .int .i64 s.kids.length] = s.enc.map CellD.cs := by
  cases s
  simp [V.enc, V.cells, CellD.cs, kind_mk, num_mk, text_mk, kids_mk]
theorem cells_key0 (s : V) (k' : ByteArray) : ((s.cells k').map CellD.cs)[0]? = some [.int .i64 s.kind, .int .i64 s.num, .str s.text, .str k', .int .i64 s.kids.length] := by
  cases s
  simp [V.cells, CellD.cs, kind_mk, num_mk, text_mk, kids_mk]
theorem partAt_ac {t : V} (ht : t.right) {i : Nat} (hi : i < t.deep.length) : AC Tryz.prog 14 [cellsA t.enc, .c (.int .i64 (i : Int))] [] (.agg [.c (.int .i64 0), .c (.sl ((t.deep[i]).enc.map CellD.cs))]) [] := by
  have hdl := deep_len t
  have hel := enc_len t
  have hc := ht.2.1
  have hpf := placeFault_ac ht (i := i) (by omega)
  have hen := endAt_ac ht hi
  obtain ⟨k', rest, e⟩ := deep_drop t ByteArray.empty i hi
  have hs := deep_right t ht _ (List.getElem_mem hi)
  have hcl := cells_len (t.deep[i]) k'
  have hle : i + (t.deep[i]).count ≤ t.count := by
    have := congrArg List.length e
    rw [List.length_drop, List.length_append, cells_len, cells_len] at this
    omega
  have hcut : ((t.enc.map CellD.cs).take (i + (t.deep[i]).count)).drop i = ((t.deep[i]).cells k').map CellD.cs := by
    rw [List.drop_take, ← List.map_drop]
    show (List.map CellD.cs ((t.cells ByteArray.empty).drop i)).take _ = _
    rw [e, List.map_append, List.take_append_of_le_length (by rw [List.length_map]; omega), List.take_of_length_le (by rw [List.length_map]; omega)]
  have hclone := cloneCells_ac ((t.deep[i]).cells k') (by omega)
  have hset := cells_key (t.deep[i]) k'
  have hg0 := cells_key0 (t.deep[i]) k'
  have hr0 : rowsAt (((t.deep[i]).cells k').map CellD.cs) 5 0 = true := by unfold rowsAt; rw [show (0 : Int).toNat = 0 from rfl, hg0]; rfl
  have hnl : (t.enc.map CellD.cs).length = t.count := by rw [List.length_map]; exact hel
  have h00 : ((0 : Int) != 0) = false := rfl
  have hb1 : (0 : Int) ≤ (i : Int) := by omega
  have hb2 : (0 : Int) ≤ ((i + (t.deep[i]).count : Nat) : Int) := by omega
  have hb3 : i ≤ i + (t.deep[i]).count := by omega
  have hall := all_cells t.enc
  generalize t.deep[i] = s at *
  generalize ((s.cells k').map CellD.cs) = SR at *
  generalize t.enc = te at *
  refine wEnter Tryz.func14 Tryz.ntmps14 ?_
  refine wRUN trivial ?_
  refine w7 (op_data [] hpf) trivial ?_
  refine wRUN h00 ?_
  refine w7 (op_data [] hen) trivial ?_
  refine wRUN (j6 hnl hle hb1 hb2 hb3 hcut) ?_
  refine w12 (op_rowF [] hclone) trivial ?_
  refine wRUN (j3 hr0 hg0 hset) ?_
  exact wRetOf (ret_of [] [(20, 0)]) Tryz.results14 h00
set_option maxHeartbeats 1000000 in
theorem deep_ac : ∀ (m : Nat) (t : V), t.count ≤ m → t.count ≤ 500000 → AC Tryz.prog 102 [t.av] [] (.own (0, 0)) [((0, 0), .row false 5 73 (t.deep.map V.cs))] := by
  intro m
  induction m with
  | zero => intro t hm _; have := count_pos t; omega
  | succ m ih =>
    intro t hm hM
    have hkc := count_kids t
    have hkl := countL_len t.kids
    have hdl := deep_len t
    obtain ⟨R, hR⟩ : ∃ R : Nat → List V, ∀ k, R k = t :: deepL (t.kids.take k) := ⟨_, fun _ => rfl⟩
    have h0 : (R 0).map V.cs = [t.cs] := by rw [hR]; simp [deepL]
    rw [V.cs_eq] at h0
    refine wEnter Tryz.func102 Tryz.ntmps102 ?_
    refine wRUN trivial ?_
    refine a_loop (κ := Nat) (fun k => ⟨mkS 0 21 [(1, .ptr (1, 0) 0), (3, .own (99, 0)), (9, .c (.sl (t.kids.map V.cs))), (10, .c (.int .i64 t.kids.length)), (11, .c (.int .i64 k))],
        [((1, 0), .box [.c (.int .i64 t.kind), .c (.int .i64 t.num), .c (.str t.text), .c (.sl (t.keys.map strCs)), .c (.sl (t.kids.map V.cs))]), ((99, 0), .row false 5 73 ((R k).map V.cs))]⟩)
      (fun k => k ≤ t.kids.length) (fun k => t.kids.length - k) 0 (Nat.zero_le _) ?_ ?_
    · exact wSays (Says.of [((1, 0), (1, 0)), ((99, 0), (7, 0))] []) h0
    · intro k hk
      by_cases hlt : k < t.kids.length
      · have hd : decide ((k : Int) < (t.kids.length : Int)) = true := by simpa using hlt
        have hr : rowsAt (t.kids.map V.cs) 5 k = true := by simp [rowsAt, hlt, V.cs_eq]
        have hg : (t.kids.map V.cs)[k]? = some t.kids[k].cs := by simp [hlt]
        have hmem := countL_mem (List.getElem_mem hlt)
        have hRk : R (k + 1) = R k ++ t.kids[k].deep := by rw [hR, hR, List.take_succ_eq_append_getElem hlt, deepL_app]; simp [deepL]
        have hRl : (R k).length + t.kids[k].deep.length ≤ t.count := by
          have h1 := countL_take_le t.kids (k + 1)
          rw [List.take_succ_eq_append_getElem hlt, countL_snoc] at h1
          rw [hR, List.length_cons, deepL_len, deep_len]
          omega
        have hol : (R k).length + t.kids[k].deep.length ≤ 1000000 := by omega
        have hrow : (R k).map V.cs ++ t.kids[k].deep.map V.cs = (R (k + 1)).map V.cs := by rw [hRk, List.map_append]
        have hw := wrap_succ (k := k) (by omega)
        generalize t.kids[k] = u at *
        have hi := ih u (by omega) (by omega)
        refine wRUN (j3 hd hr hg) ?_
        refine w12 (op_rowF [] hi) trivial ?_
        refine wRUN (j2 hol hw) ?_
        refine ⟨k + 1, by omega, by omega, ?_⟩
        exact wSays (Says.of [((1, 0), (1, 0)), ((99, 0), (18, 0))] []) hrow
      · have hd : decide ((k : Int) < (t.kids.length : Int)) = false := by simpa using hlt
        have hke : R k = t.deep := by rw [hR, List.take_of_length_le (by omega), deep_eq]
        refine wRUN hd ?_
        exact wRetOf (ret_of [((0, 0), (99, 0))] []) Tryz.results102 hke
/-- All in a value, as an array. -/
def deepV (t : V) : Int × Option V := giveR (arrV t.deep)
theorem deep_fit {t : V} (ht : t.right) : (arrV t.deep).fit ∧ (arrV t.deep).count ≤ 40001 := by
  have hc := ht.2.1
  have hl := deep_len t
  refine ⟨arr_fit fun s hs => fit_right (deep_right t ht s hs).1, ?_⟩
  have h := countL_le (l := t.deep) (m := 200) fun s hs => (deep_right t ht s hs).1.2.1
  simp only [arrV, V.count]
  have : 200 * t.deep.length ≤ 200 * 200 := Nat.mul_le_mul_left _ (by omega)
  omega
theorem deepV_ok {t : V} (ht : t.right) : okRes (deepV t) := give_ok (deep_fit ht).1
theorem deepOf_ac {t : V} (ht : t.right) : AC Tryz.prog 43 [t.av] [] (resA (deepV t)) [] := by
  have h1 := deep_ac t.count t (Nat.le_refl _) (by have := ht.2.1; omega)
  have h2 := array_ac t.deep
  obtain ⟨f1, f2⟩ := deep_fit ht
  have h3 := gives_any f1 (by omega)
  unfold deepV
  generalize arrV t.deep = d at *
  rcases okRes_ways (give_ok f1) with ⟨v, h, hv⟩ | ⟨c, hc, h⟩
  · rw [h, resA_some] at h3 ⊢
    refine wEnter Tryz.func43 Tryz.ntmps43 ?_
    refine wRUN trivial ?_
    refine w12 (op_rowF [] h1) trivial ?_
    refine wRUN trivial ?_
    refine w9 (op_shared [(4, 0)] h2) trivial ?_
    refine wRUN trivial ?_
    refine w9 (op_shared [] h3) trivial ?_
    refine wRUN trivial ?_
    exact wRetOf (ret_of [] []) Tryz.results43 f2
  · rw [h, resA_none] at h3 ⊢
    refine wEnter Tryz.func43 Tryz.ntmps43 ?_
    refine wRUN trivial ?_
    refine w12 (op_rowF [] h1) trivial ?_
    refine wRUN trivial ?_
    refine w9 (op_shared [(4, 0)] h2) trivial ?_
    refine wRUN trivial ?_
    refine w9 (op_shared [] h3) trivial ?_
    refine wRUN trivial ?_
    exact wRetOf (ret_of [] []) Tryz.results43 f2
/-! ### what is done with one value -/
def oneR (F : V → Int × Option V) (xs : List CellD) : Int × Option V := match dec xs with
  | (c, none) => (c, none)
  | (_, some t) => F t
theorem ofOneF_ac (f : FuncId) (hcal : callable Tryz.prog f = true) (F : V → Int × Option V) (xs : List CellD) (hz : Sized xs) (hok : ∀ t, t.right → okRes (F t)) (hf : ∀ t, t.right → AC Tryz.prog f [t.av] [] (resA (F t)) []) : AC Tryz.prog 42 [cellsA xs, .clo f []] [] (vrA (oneR F xs)) [] := by
  unfold oneR
  rcases dec_cases xs with ⟨t, hd⟩ | ⟨c, hc, hd⟩
  · obtain ⟨_, ht⟩ := right_of_dec hd
    have hv := valOf_ac xs hz (t := t) (by rw [hd])
    have h0 : ((0 : Int) != 0) = false := rfl
    have hF := hf t ht
    rw [hd]
    show AC _ _ _ _ (vrA (F t)) _
    rcases okRes_ways (hok t ht) with ⟨v, h, hvr⟩ | ⟨c, hc, h⟩
    · rw [h, resA_some] at hF
      rw [h, vrA_some]
      have hr := result_ac hvr
      refine wEnter Tryz.func42 Tryz.ntmps42 ?_
      refine wRUN trivial ?_
      refine w9 (op_shared [] hv) trivial ?_
      refine wRUN h0 ?_
      refine w9 (op_shared [] hF) hcal ?_
      refine wRUN trivial ?_
      refine w12 (op_rowF [] hr) trivial ?_
      refine wRUN trivial ?_
      exact wRetOf (ret_of [] [(19, 0)]) Tryz.results42 h0
    · rw [h, resA_none] at hF
      rw [h, vrA_none]
      have hr := result_bad hc
      refine wEnter Tryz.func42 Tryz.ntmps42 ?_
      refine wRUN trivial ?_
      refine w9 (op_shared [] hv) trivial ?_
      refine wRUN h0 ?_
      refine w9 (op_shared [] hF) hcal ?_
      refine wRUN trivial ?_
      refine w9 (op_shared [] hr) trivial ?_
      refine wRUN trivial ?_
      exact wRetOf (ret_of [] []) Tryz.results42 h0
  · have hv := valOf_bad xs hz (by rw [hd])
    have hb : ((dec xs).1 != 0) = true := by rw [hd]; simpa using hc
    have hc1 : (dec xs).1 = c := by rw [hd]
    rw [hd]
    show AC _ _ _ _ (vrA (c, none)) _
    rw [vrA_none, ← hc1]
    refine wEnter Tryz.func42 Tryz.ntmps42 ?_
    refine wRUN trivial ?_
    (apply (op_shared [] hv); (iterate 9 (focus (first | (simp only [go_sem, Nat.reduceEqDiff, Nat.reduceAdd, Nat.reduceSub, Nat.reduceLeDiff, Nat.reduceMul, Nat.reduceBEq, Nat.reduceLT, Int.reduceToNat, reduceCtorEq, noV]; first | done | exact rfl | (and_intros <;> rfl)) | exact rfl | decide))))
    (repeat (first | (with_reducible first | refine a_seq ?_ | refine a_region ?_ | refine a_block ?_ | refine a_scope ?_) | ((with_reducible apply op_any); (iterate 2 (focus (first | (simp only [go_sem, Nat.reduceEqDiff, Nat.reduceAdd, Nat.reduceSub, Nat.reduceLeDiff, Nat.reduceMul, Nat.reduceBEq, Nat.reduceLT, Int.reduceToNat, reduceCtorEq, hb, noV]; first | done | exact rfl | (and_intros <;> rfl)) | exact rfl | decide)))) | ((with_reducible refine o_nil ?_); dsimp only; try ((with_reducible apply o_draw); (focus (simp only [go_sem]; exact rfl)); (focus decide))) | ((with_reducible first | refine a_ret ?_ | refine a_skip ?_ | refine a_label ?_); dsimp only) | ((with_reducible refine a_exit ?_); dsimp only; simp only [if_true, if_false, Nat.reduceEqDiff]) | ((with_reducible apply a_if); (focus (simp only [go_sem, Nat.reduceBEq, Nat.reduceLT, hb, noV]; exact rfl)); dsimp only [cond_true, cond_false]) | ((with_reducible refine a_draw ?_ ?_); (focus exact rfl))))
    exact wRetOf (ret_of [] []) Tryz.results42 hb
theorem implDeepOf_ac (xs : List CellD) (hz : Sized xs) : AC Tryz.prog 10 [cellsA xs] [] (vrA (oneR deepV xs)) [] := by
  have h := ofOneF_ac 43 (by simp only [go_sem]) deepV xs hz (fun t => deepV_ok) (fun t => deepOf_ac)
  have hv : okRes (oneR deepV xs) := by
    unfold oneR
    rcases dec_cases xs with ⟨t, hd⟩ | ⟨c, hc, hd⟩
    · rw [hd]; exact deepV_ok (right_of_dec hd).2
    · rw [hd]; exact hc
  rcases okRes_ways hv with ⟨v, e, _⟩ | ⟨c, _, e⟩
  · rw [e, vrA_some] at h ⊢
    refine wEnter Tryz.func10 Tryz.ntmps10 ?_
    refine wRUN trivial ?_
    refine w9 (op_shared [] h) trivial ?_
    refine wRUN trivial ?_
    exact wRetOf (ret_of [] []) Tryz.results10 e
  · rw [e, vrA_none] at h ⊢
    refine wEnter Tryz.func10 Tryz.ntmps10 ?_
    refine wRUN trivial ?_
    refine w9 (op_shared [] h) trivial ?_
    refine wRUN trivial ?_
    exact wRetOf (ret_of [] []) Tryz.results10 e
end Go.Proofs.YtpaooephkpjkfaaGreat
