/- impl.truth, are, add, sub, reckon, binary, by the engine. -/
import Derived.Test.YtpaooephkpjkfaaGreatKG68
import Derived.Test.YtpaooephkpjkfaaGreatKM23
import Derived.Test.YtpaooephkpjkfaaGreatKG8
import Derived.Test.YtpaooephkpjkfaaGreatKG25uG26
set_option linter.unusedSimpArgs false
set_option linter.unusedVariables false
set_option linter.unnecessarySimpa false
namespace Go.Proofs.YtpaooephkpjkfaaGreat
open Go.RowKit
set_option maxRecDepth 10000
theorem truth_ac (b : Bool) : AC Tryz.prog 125 [.c (.bool b)] [] (boolV b).av [] := by
  cases b
  all_goals
    refine wEnter Tryz.func125 Tryz.ntmps125 ?_
    refine wRUN trivial ?_
    exact ret_data [] (by simp only [Tryz.results125, go_sem, Nat.reduceBEq, Nat.reduceLT]; exact rfl) (by simp only [go_sem, Nat.reduceEqDiff, Nat.reduceAdd, Nat.reduceSub, Nat.reduceLeDiff, Nat.reduceMul, Nat.reduceBEq, Nat.reduceLT, Int.reduceToNat, reduceCtorEq, boolV, cond_true, cond_false, V.kind, V.num, V.text, V.keys, V.kids, List.map_nil]) rfl
theorem are_ac (a b : V) (k : Int) : AC Tryz.prog 158 [a.av, b.av, .c (.int .i64 k)] [] (.c (.bool (a.kind == k && b.kind == k))) [] := by
  cases h1 : a.kind == k <;> cases h2 : b.kind == k
  all_goals
    refine wEnter Tryz.func158 Tryz.ntmps158 ?_
    refine wRUN (j2 h1 h2) ?_
    exact wRet (ret_data []) Tryz.results158
theorem are_no {a b : V} {k : Int} (h : ¬ (a.kind = k ∧ b.kind = k)) : (a.kind == k && b.kind == k) = false := by
  by_cases h1 : a.kind = k
  · have : ¬ b.kind = k := fun h2 => h ⟨h1, h2⟩
    simp [h1, this]
  · simp [h1]
theorem are_yes {a b : V} {k : Int} (h : a.kind = k ∧ b.kind = k) : (a.kind == k && b.kind == k) = true := by simp [h.1, h.2]
theorem concat2Vals_ac (a b : List V) (h : a.length + b.length ≤ 800000) : AC Tryz.prog 185 [.c (.sl [[.sl (a.map V.cs)], [.sl (b.map V.cs)]])] [] (.own (0, 0)) [((0, 0), .row false 5 73 ((a ++ b).map V.cs))] := by
  have h1 := concatVals_ac [a, b] (by simp) (by simp; omega)
  simpa only [List.map_cons, List.map_nil, slVals, List.flatten_cons, List.flatten_nil, List.append_nil] using h1
theorem concat2Strs_ac (a b : List ByteArray) (h : a.length + b.length ≤ 800000) : AC Tryz.prog 186 [.c (.sl [[.sl (a.map strCs)], [.sl (b.map strCs)]])] [] (.own (0, 0)) [((0, 0), .row false 1 9 ((a ++ b).map strCs))] := by
  have h1 := concatStrs_ac [a, b] (by simp) (by simp; omega)
  simpa only [List.map_cons, List.map_nil, slStrs, List.flatten_cons, List.flatten_nil, List.append_nil] using h1
set_option maxHeartbeats 8000000 in
theorem add_ac {a b : V} (ha : a.right) (hb : b.right) : AC Tryz.prog 122 [a.av, b.av] [] (resA (addV a b)) [] := by
  have hr3 := are_ac a b 3
  have hr4 := are_ac a b 4
  have hr5 := are_ac a b 5
  have hr6 := are_ac a b 6
  obtain ⟨hak, hav⟩ := right_kl ha
  obtain ⟨hbk, hbv⟩ := right_kl hb
  unfold addV
  by_cases a0 : a.kind = 0
  · have ba : (a.kind == 0) = true := by simpa using a0
    rw [if_pos a0, resA_ok]
    refine wEnter Tryz.func122 Tryz.ntmps122 ?_
    refine wRUN ba ?_
    refine w9 (op_shared [] (gives_ac hb)) trivial ?_
    refine wRUN trivial ?_
    exact wRet (ret_data []) Tryz.results122
  · have ba : (a.kind == 0) = false := by simpa using a0
    rw [if_neg a0]
    by_cases b0 : b.kind = 0
    · have bb : (b.kind == 0) = true := by simpa using b0
      rw [if_pos b0, resA_ok]
      refine wEnter Tryz.func122 Tryz.ntmps122 ?_
      refine wRUN (j2 ba bb) ?_
      refine w9 (op_shared [] (gives_ac ha)) trivial ?_
      refine wRUN trivial ?_
      exact wRet (ret_data []) Tryz.results122
    · have bb : (b.kind == 0) = false := by simpa using b0
      rw [if_neg b0]
      by_cases h3 : a.kind = 3 ∧ b.kind = 3
      · rw [if_pos h3]
        rw [are_yes h3] at hr3
        have n1 := right_num ha
        have n2 := right_num hb
        have hw : IntKind.i64.wrap (a.num + b.num) = a.num + b.num := wrap_in (by omega) (by omega)
        have hn := number_ac (a.num + b.num)
        have hg := gives_any (numV_fit (a.num + b.num)) (by simp [numV, V.count, countL])
        generalize numV (a.num + b.num) = z at *
        generalize giveR z = r at *
        rcases r with ⟨c, _ | u⟩
        all_goals
          simp only [resA_some, resA_none] at hg ⊢
          refine wEnter Tryz.func122 Tryz.ntmps122 ?_
          refine wRUN (j2 ba bb) ?_
          refine w7 (op_data [] hr3) trivial ?_
          refine wRUN hw ?_
          refine w9 (op_shared [] hn) trivial ?_
          refine w9 (op_shared [] hg) trivial ?_
          refine wRUN trivial ?_
          exact wRet (ret_data []) Tryz.results122
      · rw [if_neg h3]
        rw [are_no h3] at hr3
        by_cases h4 : a.kind = 4 ∧ b.kind = 4
        · rw [if_pos h4]
          rw [are_yes h4] at hr4
          have t1 := text_size ha
          have t2 := text_size hb
          have hsz : a.text.size + b.text.size ≤ 9223372036854775807 := by omega
          have hn := text_ac (a.text ++ b.text)
          have hg := gives_any (cat_fit ha hb) (by simp [strV, V.count, countL])
          generalize hst : strV (a.text ++ b.text) = z at *
          generalize giveR z = r at *
          rcases r with ⟨c, _ | u⟩
          all_goals
            simp only [resA_some, resA_none] at hg ⊢
            refine wEnter Tryz.func122 Tryz.ntmps122 ?_
            refine wRUN (j2 ba bb) ?_
            refine w7 (op_data [] hr3) trivial ?_
            refine wRUN trivial ?_
            refine w7 (op_data [] hr4) trivial ?_
            refine wRUN hsz ?_
            refine w9 (op_shared [] hn) trivial ?_
            refine w9 (op_shared [] hg) trivial ?_
            refine wRUN trivial ?_
            exact wRet (ret_data []) Tryz.results122
        · rw [if_neg h4]
          rw [are_no h4] at hr4
          by_cases h5 : a.kind = 5 ∧ b.kind = 5
          · rw [if_pos h5]
            rw [are_yes h5] at hr5
            obtain ⟨hf, hc⟩ := arr2_fit ha hb
            have hco := concat2Vals_ac a.kids b.kids (by omega)
            have hn := array_ac (a.kids ++ b.kids)
            have hg := gives_any hf (by omega)
            generalize a.kids ++ b.kids = K at *
            generalize arrV K = z at *
            generalize giveR z = r at *
            rcases r with ⟨c, _ | u⟩
            all_goals
              simp only [resA_some, resA_none] at hg ⊢
              refine wEnter Tryz.func122 Tryz.ntmps122 ?_
              refine wRUN (j2 ba bb) ?_
              refine w7 (op_data [] hr3) trivial ?_
              refine wRUN trivial ?_
              refine w7 (op_data [] hr4) trivial ?_
              refine wRUN trivial ?_
              refine w7 (op_data [] hr5) trivial ?_
              refine wRUN trivial ?_
              refine w12 (op_rowF [(47, 0)] hco) trivial ?_
              refine wRUN trivial ?_
              refine w9 (op_shared [(48, 0)] hn) trivial ?_
              refine w9 (op_shared [] hg) trivial ?_
              refine wRUN trivial ?_
              exact wRet (ret_data []) Tryz.results122
          · rw [if_neg h5]
            rw [are_no h5] at hr5
            by_cases h6 : a.kind = 6 ∧ b.kind = 6
            · rw [if_pos h6]
              rw [are_yes h6] at hr6
              obtain ⟨hf, hc1, hc2, hl⟩ := obj2_fit ha hb h6.1 h6.2
              have hco1 := concat2Strs_ac a.keys b.keys (by omega)
              have hco2 := concat2Vals_ac a.kids b.kids (by omega)
              have hobj := object_ac (a.keys ++ b.keys) (a.kids ++ b.kids) hl (by rw [List.length_append]; omega) (by
                intro k hk
                rcases List.mem_append.1 hk with h1 | h1
                · have := right_keys ha k h1; omega
                · have := right_keys hb k h1; omega)
              rw [object_av] at hobj
              have hg := gives_any hf (by omega)
              generalize objV (a.keys ++ b.keys) (a.kids ++ b.kids) = z at *
              generalize a.keys ++ b.keys = KK at *
              generalize a.kids ++ b.kids = K at *
              generalize giveR z = r at *
              rcases r with ⟨c, _ | u⟩
              all_goals
                simp only [resA_some, resA_none] at hg ⊢
                refine wEnter Tryz.func122 Tryz.ntmps122 ?_
                refine wRUN (j2 ba bb) ?_
                refine w7 (op_data [] hr3) trivial ?_
                refine wRUN trivial ?_
                refine w7 (op_data [] hr4) trivial ?_
                refine wRUN trivial ?_
                refine w7 (op_data [] hr5) trivial ?_
                refine wRUN trivial ?_
                refine w7 (op_data [] hr6) trivial ?_
                refine wRUN trivial ?_
                refine w12 (op_rowF [(59, 0)] hco1) trivial ?_
                refine wRUN trivial ?_
                refine w12 (op_rowF [(65, 0)] hco2) trivial ?_
                refine wRUN trivial ?_
                refine w9 (op_shared [(60, 0), (66, 0)] hobj) trivial ?_
                refine w9 (op_shared [] hg) trivial ?_
                refine wRUN trivial ?_
                exact wRet (ret_data []) Tryz.results122
            · rw [if_neg h6, resA_bad]
              rw [are_no h6] at hr6
              refine wEnter Tryz.func122 Tryz.ntmps122 ?_
              refine wRUN (j2 ba bb) ?_
              refine w7 (op_data [] hr3) trivial ?_
              refine wRUN trivial ?_
              refine w7 (op_data [] hr4) trivial ?_
              refine wRUN trivial ?_
              refine w7 (op_data [] hr5) trivial ?_
              refine wRUN trivial ?_
              refine w7 (op_data [] hr6) trivial ?_
              refine wRUN trivial ?_
              refine w7 (op_data [] (refuses_ac 6)) trivial ?_
              refine wRUN trivial ?_
              exact wRet (ret_data []) Tryz.results122
set_option maxHeartbeats 8000000 in
theorem sub_ac {a b : V} (ha : a.right) (hb : b.right) : AC Tryz.prog 123 [a.av, b.av] [] (resA (subV a b)) [] := by
  have hr3 := are_ac a b 3
  have hr5 := are_ac a b 5
  obtain ⟨hak, hav⟩ := right_kl ha
  unfold subV
  by_cases h3 : a.kind = 3 ∧ b.kind = 3
  · rw [if_pos h3]
    rw [are_yes h3] at hr3
    have n1 := right_num ha
    have n2 := right_num hb
    have hw : IntKind.i64.wrap (a.num - b.num) = a.num - b.num := wrap_in (by omega) (by omega)
    have hn := number_ac (a.num - b.num)
    have hg := gives_any (numV_fit (a.num - b.num)) (by simp [numV, V.count, countL])
    generalize numV (a.num - b.num) = z at *
    generalize giveR z = r at *
    rcases r with ⟨c, _ | u⟩
    all_goals
      simp only [resA_some, resA_none] at hg ⊢
      refine wEnter Tryz.func123 Tryz.ntmps123 ?_
      refine wRUN trivial ?_
      refine w7 (op_data [] hr3) trivial ?_
      refine wRUN hw ?_
      refine w9 (op_shared [] hn) trivial ?_
      refine w9 (op_shared [] hg) trivial ?_
      refine wRUN trivial ?_
      exact wRet (ret_data []) Tryz.results123
  · rw [if_neg h3]
    rw [are_no h3] at hr3
    by_cases h5 : a.kind = 5 ∧ b.kind = 5
    · rw [if_pos h5, resA_ok]
      rw [are_yes h5] at hr5
      have hcv := cloneVals_ac a.kids (by omega)
      have hdl := deleteVs_ac 188 (by simp only [go_sem]) b (fun x => b.kids.any fun y => x.cmp y == 0) a.kids (by omega) (fun x hx => subOut_ac x b (right_mem ha hx) hb)
      rw [show (a.kids.filter fun p => !(b.kids.any fun y => p.cmp y == 0)) = lessK a.kids b.kids from rfl] at hdl
      have hn := array_ac (lessK a.kids b.kids)
      have hg := gives_ac (less_right (b := b) ha)
      simp only [List.cons_append, List.nil_append] at hdl
      generalize lessK a.kids b.kids = K at *
      generalize arrV K = z at *
      refine wEnter Tryz.func123 Tryz.ntmps123 ?_
      refine wRUN trivial ?_
      refine w7 (op_data [] hr3) trivial ?_
      refine wRUN trivial ?_
      refine w7 (op_data [] hr5) trivial ?_
      refine wRUN trivial ?_
      refine w12 (op_rowF [] hcv) trivial ?_
      refine wRUN trivial ?_
      refine wCall (op_any_call [((0, 0), (3, 0)), ((0, 1), (22, 0))] [((0, 0), (3, 0)), ((1, 0), (98, 0))] hdl) trivial ?_
      refine wRUN trivial ?_
      refine w9 (op_shared [(98, 0)] hn) trivial ?_
      refine w9 (op_shared [] hg) trivial ?_
      refine wRUN trivial ?_
      exact wRet (ret_data []) Tryz.results123
    · rw [if_neg h5, resA_bad]
      rw [are_no h5] at hr5
      refine wEnter Tryz.func123 Tryz.ntmps123 ?_
      refine wRUN trivial ?_
      refine w7 (op_data [] hr3) trivial ?_
      refine wRUN trivial ?_
      refine w7 (op_data [] hr5) trivial ?_
      refine wRUN trivial ?_
      refine w7 (op_data [] (refuses_ac 6)) trivial ?_
      refine wRUN trivial ?_
      exact wRet (ret_data []) Tryz.results123
theorem neg_in {n : Int} (h : -1000000000000000 ≤ n ∧ n ≤ 1000000000000000) : IntKind.i64.wrap (0 - n) = -n := by
  rw [wrap_in (by omega) (by omega)]
  omega
theorem abs_wrap {x : Int} : IntKind.i64.wrap ((1000000000000000 : Int).tdiv (absI x)) = (1000000000000000 : Int).tdiv (absI x) := by
  have h := Int.natAbs_tdiv 1000000000000000 (absI x)
  have h1 : ((1000000000000000 : Int).tdiv (absI x)).natAbs = (1000000000000000 : Int).natAbs / (absI x).natAbs := h
  have h2 := Nat.div_le_self (1000000000000000 : Int).natAbs (absI x).natAbs
  exact wrap_in (by omega) (by omega)
set_option maxHeartbeats 8000000 in
theorem reckon_ac (op : Int) {a b : V} (hop : op = 3 ∨ op = 10 ∨ op = 11) (ha : a.right) (hb : b.right) : AC Tryz.prog 124 [.c (.int .i64 op), a.av, b.av] [] (resA (reckonV op a b)) [] := by
  have hr3 := are_ac a b 3
  have n1 := right_num ha
  have n2 := right_num hb
  unfold reckonV
  by_cases h3 : a.kind = 3 ∧ b.kind = 3
  · rw [if_pos h3]
    rw [are_yes h3] at hr3
    have hny := neg_in n2
    have hnx := neg_in n1
    have hmy := absI_max b.num
    have hmx := absI_max a.num
    by_cases o3 : op = 3
    · have ho3 : (op == 3) = true := by simpa using o3
      rw [if_pos o3]
      cases hbig : tooBig a.num b.num with
      | true =>
        have hx0 : a.num ≠ 0 := by intro h; rw [h, big_zero] at hbig; cases hbig
        have hxb : (a.num != 0) = true := by simpa using hx0
        have hq := (quo_big (y := b.num) hx0).trans hbig
        have ha0 : (absI a.num = 0) = False := by apply eq_false; unfold absI; omega
        have haw := abs_wrap (x := a.num)
        rw [if_pos rfl, resA_bad]
        refine wEnter Tryz.func124 Tryz.ntmps124 ?_
        refine wRUN trivial ?_
        refine w7 (op_data [] hr3) trivial ?_
        refine wRUN (j9 ho3 hxb hny hnx hmy hmx ha0 haw hq) ?_
        refine w7 (op_data [] (refuses_ac 3)) trivial ?_
        refine wRUN trivial ?_
        exact wRet (ret_data []) Tryz.results124
      | false =>
        have hm := mul_small hbig
        have hw : IntKind.i64.wrap (a.num * b.num) = a.num * b.num := wrap_in (by omega) (by omega)
        have hn := number_ac (a.num * b.num)
        have hg := gives_ac (numV_right hm)
        rw [if_neg (by simp), resA_ok]
        generalize numV (a.num * b.num) = z at *
        by_cases hx0 : a.num = 0
        · have hxb : (a.num != 0) = false := by simpa using hx0
          refine wEnter Tryz.func124 Tryz.ntmps124 ?_
          refine wRUN trivial ?_
          refine w7 (op_data [] hr3) trivial ?_
          refine wRUN (j3 ho3 hxb hw) ?_
          refine w9 (op_shared [] hn) trivial ?_
          refine w9 (op_shared [] hg) trivial ?_
          refine wRUN trivial ?_
          exact wRet (ret_data []) Tryz.results124
        · have hxb : (a.num != 0) = true := by simpa using hx0
          have hq := (quo_big (y := b.num) hx0).trans hbig
          have ha0 : (absI a.num = 0) = False := by apply eq_false; unfold absI; omega
          have haw := abs_wrap (x := a.num)
          refine wEnter Tryz.func124 Tryz.ntmps124 ?_
          refine wRUN trivial ?_
          refine w7 (op_data [] hr3) trivial ?_
          refine wRUN (j10 ho3 hxb hny hnx hmy hmx ha0 haw hq hw) ?_
          refine w9 (op_shared [] hn) trivial ?_
          refine w9 (op_shared [] hg) trivial ?_
          refine wRUN trivial ?_
          exact wRet (ret_data []) Tryz.results124
    · have ho3 : (op == 3) = false := by simpa using o3
      rw [if_neg o3]
      by_cases hy0 : b.num = 0
      · have hyb : (b.num == 0) = true := by simpa using hy0
        rw [if_pos hy0, resA_bad]
        refine wEnter Tryz.func124 Tryz.ntmps124 ?_
        refine wRUN trivial ?_
        refine w7 (op_data [] hr3) trivial ?_
        refine wRUN (j2 ho3 hyb) ?_
        refine w7 (op_data [] (refuses_ac 3)) trivial ?_
        refine wRUN trivial ?_
        exact wRet (ret_data []) Tryz.results124
      · have hyb : (b.num == 0) = false := by simpa using hy0
        rw [if_neg hy0, resA_ok]
        by_cases o10 : op = 10
        · have ho10 : (op == 10) = true := by simpa using o10
          have hm := tdiv_small (y := b.num) n1
          have hw : IntKind.i64.wrap (a.num.tdiv b.num) = a.num.tdiv b.num := wrap_in (by omega) (by omega)
          have hn := number_ac (a.num.tdiv b.num)
          have hg := gives_ac (numV_right hm)
          rw [if_pos o10]
          generalize numV (a.num.tdiv b.num) = z at *
          refine wEnter Tryz.func124 Tryz.ntmps124 ?_
          refine wRUN trivial ?_
          refine w7 (op_data [] hr3) trivial ?_
          refine wRUN (j5 ho3 hyb ho10 hy0 hw) ?_
          refine w9 (op_shared [] hn) trivial ?_
          refine w9 (op_shared [] hg) trivial ?_
          refine wRUN trivial ?_
          exact wRet (ret_data []) Tryz.results124
        · have ho10 : (op == 10) = false := by simpa using o10
          have hm := tmod_small (y := b.num) n1
          have hn := number_ac (a.num.tmod b.num)
          have hg := gives_ac (numV_right hm)
          rw [if_neg o10]
          generalize numV (a.num.tmod b.num) = z at *
          refine wEnter Tryz.func124 Tryz.ntmps124 ?_
          refine wRUN trivial ?_
          refine w7 (op_data [] hr3) trivial ?_
          refine wRUN (j4 ho3 hyb ho10 hy0) ?_
          refine w9 (op_shared [] hn) trivial ?_
          refine w9 (op_shared [] hg) trivial ?_
          refine wRUN trivial ?_
          exact wRet (ret_data []) Tryz.results124
  · rw [if_neg h3, resA_bad]
    rw [are_no h3] at hr3
    refine wEnter Tryz.func124 Tryz.ntmps124 ?_
    refine wRUN trivial ?_
    refine w7 (op_data [] hr3) trivial ?_
    refine wRUN trivial ?_
    refine w7 (op_data [] (refuses_ac 6)) trivial ?_
    refine wRUN trivial ?_
    exact wRet (ret_data []) Tryz.results124

set_option maxHeartbeats 8000000 in
theorem binary_ac (op : Int) {a b : V} (ha : a.right) (hb : b.right) : AC Tryz.prog 63 [.c (.int .i64 op), a.av, b.av] [] (resA (binV op a b)) [] := by
  have hcmp := compareVals_ac a.count a b (Nat.le_refl _) ha
  have hadd := add_ac ha hb
  have hsub := sub_ac ha hb
  unfold binV
  by_cases o : op = 1
  · rw [if_pos o]
    have o1 : (op == 1) = true := by simp [o]
    have o2 : (op == 2) = false := by simp [o]
    have o3 : (op == 3) = false := by simp [o]
    have o4 : (op == 4) = false := by simp [o]
    have o5 : (op == 5) = false := by simp [o]
    have o6 : (op == 6) = false := by simp [o]
    have o7 : (op == 7) = false := by simp [o]
    have o8 : (op == 8) = false := by simp [o]
    have o9 : (op == 9) = false := by simp [o]
    have o10 : (op == 10) = false := by simp [o]
    have o11 : (op == 11) = false := by simp [o]
    generalize addV a b = r at *
    rcases r with ⟨c, _ | u⟩
    all_goals
      simp only [resA_some, resA_none] at hadd ⊢
      refine wEnter Tryz.func63 Tryz.ntmps63 ?_
      refine wRUN trivial ?_
      refine w7 (op_data [] hcmp) trivial ?_
      refine wRUN (j11 o1 o2 o3 o4 o5 o6 o7 o8 o9 o10 o11) ?_
      refine w9 (op_shared [] hadd) trivial ?_
      refine wRUN trivial ?_
      exact wRet (ret_data []) Tryz.results63
  · rw [if_neg o]
    have n1 : (op == 1) = false := by simpa using o
    by_cases o : op = 2
    · rw [if_pos o]
      have o1 : (op == 1) = false := by simp [o]
      have o2 : (op == 2) = true := by simp [o]
      have o3 : (op == 3) = false := by simp [o]
      have o4 : (op == 4) = false := by simp [o]
      have o5 : (op == 5) = false := by simp [o]
      have o6 : (op == 6) = false := by simp [o]
      have o7 : (op == 7) = false := by simp [o]
      have o8 : (op == 8) = false := by simp [o]
      have o9 : (op == 9) = false := by simp [o]
      have o10 : (op == 10) = false := by simp [o]
      have o11 : (op == 11) = false := by simp [o]
      generalize subV a b = r at *
      rcases r with ⟨c, _ | u⟩
      all_goals
        simp only [resA_some, resA_none] at hsub ⊢
        refine wEnter Tryz.func63 Tryz.ntmps63 ?_
        refine wRUN trivial ?_
        refine w7 (op_data [] hcmp) trivial ?_
        refine wRUN (j11 o1 o2 o3 o4 o5 o6 o7 o8 o9 o10 o11) ?_
        refine w9 (op_shared [] hsub) trivial ?_
        refine wRUN trivial ?_
        exact wRet (ret_data []) Tryz.results63
    · rw [if_neg o]
      have n2 : (op == 2) = false := by simpa using o
      by_cases o : op = 3 ∨ op = 10 ∨ op = 11
      · rw [if_pos o]
        have hrk := reckon_ac op o ha hb
        generalize reckonV op a b = r at *
        rcases r with ⟨c, _ | u⟩
        all_goals
          simp only [resA_some, resA_none] at hrk ⊢
          rcases o with o | o | o
          all_goals
            subst o
            refine wEnter Tryz.func63 Tryz.ntmps63 ?_
            refine wRUN trivial ?_
            refine w7 (op_data [] hcmp) trivial ?_
            (repeat (first | (with_reducible first | refine a_seq ?_ | refine a_region ?_ | refine a_block ?_ | refine a_scope ?_) | ((with_reducible apply op_any); (iterate 2 (focus (first | (simp only [go_sem, Nat.reduceEqDiff, Nat.reduceAdd, Nat.reduceSub, Nat.reduceLeDiff, Nat.reduceMul, Nat.reduceBEq, Nat.reduceLT, Int.reduceToNat, reduceCtorEq, Int.reduceBEq]; first | done | exact rfl | (and_intros <;> rfl)) | exact rfl | decide)))) | ((with_reducible refine o_nil ?_); dsimp only; try ((with_reducible apply o_draw); (focus (simp only [go_sem]; exact rfl)); (focus decide))) | ((with_reducible first | refine a_ret ?_ | refine a_skip ?_ | refine a_label ?_); dsimp only) | ((with_reducible refine a_exit ?_); dsimp only; simp only [if_true, if_false, Nat.reduceEqDiff]) | ((with_reducible apply a_if); (focus (simp only [go_sem, Nat.reduceBEq, Nat.reduceLT, Int.reduceBEq]; exact rfl)); dsimp only [cond_true, cond_false]) | ((with_reducible refine a_draw ?_ ?_); (focus exact rfl))))
            refine w9 (op_shared [] hrk) trivial ?_
            refine wRUN trivial ?_
            exact wRet (ret_data []) Tryz.results63
      · rw [if_neg o]
        have n3 : (op == 3) = false := by simp; omega
        have n10 : (op == 10) = false := by simp; omega
        have n11 : (op == 11) = false := by simp; omega
        by_cases o : op = 4
        · rw [if_pos o, resA_ok]
          have o4 : (op == 4) = true := by simpa using o
          have htr := truth_ac (a.cmp b == 0)
          have hg := gives_ac (boolV_right (a.cmp b == 0))
          generalize ht : (a.cmp b == 0) = t at *
          generalize boolV t = z at *
          refine wEnter Tryz.func63 Tryz.ntmps63 ?_
          refine wRUN trivial ?_
          refine w7 (op_data [] hcmp) trivial ?_
          refine wRUN (j7 n1 n2 n3 n10 n11 o4 ht) ?_
          refine w9 (op_shared [] htr) trivial ?_
          refine w9 (op_shared [] hg) trivial ?_
          refine wRUN trivial ?_
          exact wRet (ret_data []) Tryz.results63
        · rw [if_neg o]
          have n4 : (op == 4) = false := by simpa using o
          by_cases o : op = 5
          · rw [if_pos o, resA_ok]
            have o5 : (op == 5) = true := by simpa using o
            have htr := truth_ac (a.cmp b != 0)
            have hg := gives_ac (boolV_right (a.cmp b != 0))
            generalize ht : (a.cmp b != 0) = t at *
            generalize boolV t = z at *
            refine wEnter Tryz.func63 Tryz.ntmps63 ?_
            refine wRUN trivial ?_
            refine w7 (op_data [] hcmp) trivial ?_
            refine wRUN (j8 n1 n2 n3 n10 n11 n4 o5 ht) ?_
            refine w9 (op_shared [] htr) trivial ?_
            refine w9 (op_shared [] hg) trivial ?_
            refine wRUN trivial ?_
            exact wRet (ret_data []) Tryz.results63
          · rw [if_neg o]
            have n5 : (op == 5) = false := by simpa using o
            by_cases o : op = 6
            · rw [if_pos o, resA_ok]
              have o6 : (op == 6) = true := by simpa using o
              have htr := truth_ac (decide (a.cmp b < 0))
              have hg := gives_ac (boolV_right (decide (a.cmp b < 0)))
              generalize ht : (decide (a.cmp b < 0)) = t at *
              generalize boolV t = z at *
              refine wEnter Tryz.func63 Tryz.ntmps63 ?_
              refine wRUN trivial ?_
              refine w7 (op_data [] hcmp) trivial ?_
              refine wRUN (j9 n1 n2 n3 n10 n11 n4 n5 o6 ht) ?_
              refine w9 (op_shared [] htr) trivial ?_
              refine w9 (op_shared [] hg) trivial ?_
              refine wRUN trivial ?_
              exact wRet (ret_data []) Tryz.results63
            · rw [if_neg o]
              have n6 : (op == 6) = false := by simpa using o
              by_cases o : op = 7
              · rw [if_pos o, resA_ok]
                have o7 : (op == 7) = true := by simpa using o
                have htr := truth_ac (decide (a.cmp b ≤ 0))
                have hg := gives_ac (boolV_right (decide (a.cmp b ≤ 0)))
                generalize ht : (decide (a.cmp b ≤ 0)) = t at *
                generalize boolV t = z at *
                refine wEnter Tryz.func63 Tryz.ntmps63 ?_
                refine wRUN trivial ?_
                refine w7 (op_data [] hcmp) trivial ?_
                refine wRUN (j10 n1 n2 n3 n10 n11 n4 n5 n6 o7 ht) ?_
                refine w9 (op_shared [] htr) trivial ?_
                refine w9 (op_shared [] hg) trivial ?_
                refine wRUN trivial ?_
                exact wRet (ret_data []) Tryz.results63
              · rw [if_neg o]
                have n7 : (op == 7) = false := by simpa using o
                by_cases o : op = 8
                · rw [if_pos o, resA_ok]
                  have o8 : (op == 8) = true := by simpa using o
                  have htr := truth_ac (decide (a.cmp b > 0))
                  have hg := gives_ac (boolV_right (decide (a.cmp b > 0)))
                  generalize ht : (decide (a.cmp b > 0)) = t at *
                  generalize boolV t = z at *
                  refine wEnter Tryz.func63 Tryz.ntmps63 ?_
                  refine wRUN trivial ?_
                  refine w7 (op_data [] hcmp) trivial ?_
                  refine wRUN (j11 n1 n2 n3 n10 n11 n4 n5 n6 n7 o8 ht) ?_
                  refine w9 (op_shared [] htr) trivial ?_
                  refine w9 (op_shared [] hg) trivial ?_
                  refine wRUN trivial ?_
                  exact wRet (ret_data []) Tryz.results63
                · rw [if_neg o]
                  have n8 : (op == 8) = false := by simpa using o
                  by_cases o : op = 9
                  · rw [if_pos o, resA_ok]
                    have o9 : (op == 9) = true := by simpa using o
                    have htr := truth_ac (decide (a.cmp b ≥ 0))
                    have hg := gives_ac (boolV_right (decide (a.cmp b ≥ 0)))
                    generalize ht : (decide (a.cmp b ≥ 0)) = t at *
                    generalize boolV t = z at *
                    refine wEnter Tryz.func63 Tryz.ntmps63 ?_
                    refine wRUN trivial ?_
                    refine w7 (op_data [] hcmp) trivial ?_
                    refine wRUN (j12 n1 n2 n3 n10 n11 n4 n5 n6 n7 n8 o9 ht) ?_
                    refine w9 (op_shared [] htr) trivial ?_
                    refine w9 (op_shared [] hg) trivial ?_
                    refine wRUN trivial ?_
                    exact wRet (ret_data []) Tryz.results63
                  · rw [if_neg o]
                    have n9 : (op == 9) = false := by simpa using o
                    rw [resA_bad]
                    refine wEnter Tryz.func63 Tryz.ntmps63 ?_
                    refine wRUN trivial ?_
                    refine w7 (op_data [] hcmp) trivial ?_
                    refine wRUN (j11 n1 n2 n3 n10 n11 n4 n5 n6 n7 n8 n9) ?_
                    refine w7 (op_data [] (refuses_ac 1)) trivial ?_
                    refine wRUN trivial ?_
                    exact wRet (ret_data []) Tryz.results63
end Go.Proofs.YtpaooephkpjkfaaGreat
