/- impl.valsOf; CountSame on both sides, by the engine. -/
import Derived.Test.YtioaieacogoemaaGreatKG43
import Derived.Test.YtioaieacogoemaaGreatKG45
import Derived.Test.YtioaieacogoemaaGreatKG05uG20
import Derived.Test.YtioaieacogoemaaGreatKE5
import Derived.Test.YtioaieacogoemaaGreatKG21
import Derived.Test.YtioaieacogoemaaGreatKG07uG08
import Derived.Test.YtioaieacogoemaaGreatKG14
import Derived.Test.YtioaieacogoemaaGreatKM2
set_option linter.unusedSimpArgs false
set_option linter.unusedVariables false
set_option linter.unnecessarySimpa false
namespace Go.Proofs.YtioaieacogoemaaGreat
open Go.RowKit
set_option maxRecDepth 10000
/-- The first code of values. -/
def firstBad : List (List CellD) → Int
  | [] => 0
  | x :: r => if (dec x).1 = 0 then firstBad r else (dec x).1
def treesOf (l : List (List CellD)) : List V := l.filterMap fun x => (dec x).2
theorem firstBad_drop (l : List (List CellD)) {k : Nat} (h : k < l.length) : firstBad (l.drop k) = if (dec l[k]).1 = 0 then firstBad (l.drop (k + 1)) else (dec l[k]).1 := by
  rw [List.drop_eq_getElem_cons h]
  rfl
theorem treesOf_take {l : List (List CellD)} {k : Nat} (h : k < l.length) {t : V} (hd : dec l[k] = (0, some t)) : treesOf (l.take (k + 1)) = treesOf (l.take k) ++ [t] := by
  unfold treesOf
  rw [List.take_succ_eq_append_getElem h, List.filterMap_append]
  simp [hd]
theorem treesOf_len (l : List (List CellD)) : (treesOf l).length ≤ l.length := List.length_filterMap_le _ _
set_option maxHeartbeats 4000000 in
theorem valsOf_bad (l : List (List CellD)) (hz : ∀ x ∈ l, Sized x) (hl : l.length ≤ 900000) (h : firstBad l ≠ 0) : AC Tryz.prog 55 [.c (.sl (l.map encCs))] [] (.tup [.nils, .c (.int .i64 (firstBad l))]) [] := by
  have hln : (l.map encCs).length = l.length := by simp
  obtain ⟨R, hR⟩ : ∃ R, R = firstBad l := ⟨_, rfl⟩
  rw [← hR] at h ⊢
  refine wEnter Tryz.func55 Tryz.ntmps55 ?_
  refine wRUN hln ?_
  refine a_loop (κ := Nat) (fun k => ⟨mkS 0 30 [(4, .own (99, 0)), (10, .c (.sl (l.map encCs))), (11, .c (.int .i64 l.length)), (12, .c (.int .i64 k))], [((99, 0), .row false 5 79 ((treesOf (l.take k)).map V.cs))]⟩)
    (fun k => k ≤ l.length ∧ R = firstBad (l.drop k)) (fun k => l.length - k) 0 ⟨Nat.zero_le _, hR⟩ ?_ ?_
  · (apply (Says.of [((99, 0), (9, 0))] []); (iterate 2 ((focus (simp only [go_sem, Nat.reduceEqDiff, Nat.reduceAdd, Nat.reduceSub, Nat.reduceLeDiff, Nat.reduceMul, Nat.reduceBEq, Nat.reduceLT, Int.reduceToNat, reduceCtorEq, treesOf]; try (and_intros <;> rfl))); (focus exact rfl))); (iterate 4 (focus (simp [go_sem, treesOf]; done))))
  · rintro k ⟨hk, hRk⟩
    by_cases hlt : k < l.length
    · have hdk : decide ((k : Int) < (l.length : Int)) = true := by simpa using hlt
      have hw := wrap_succ (k := k) (by omega)
      have hr : rowsAt (l.map encCs) 1 k = true := by simp [rowsAt, hlt, encCs]
      have hg : (l.map encCs)[k]? = some [.sl (l[k].map CellD.cs)] := by simp [hlt, encCs]
      have hzk := hz _ (List.getElem_mem hlt)
      have hol : (treesOf (l.take k)).length + 1 ≤ 1000000 := by have := treesOf_len (l.take k); rw [List.length_take] at this; omega
      rw [firstBad_drop l hlt] at hRk
      by_cases h0 : (dec l[k]).1 = 0
      · rw [if_pos h0] at hRk
        rcases dec_cases l[k] with ⟨t, ht⟩ | ⟨c, hc, hd⟩
        · have hv := valOf_ac l[k] hzk (t := t) (by rw [ht])
          have h00 : ((0 : Int) != 0) = false := rfl
          have hrow : (treesOf (l.take k)).map V.cs ++ [[.int .i64 t.kind, .int .i64 t.num, .str t.text, .sl (t.keys.map strCs), .sl (t.kids.map V.cs)]] = (treesOf (l.take (k + 1))).map V.cs := by rw [treesOf_take hlt ht, List.map_append, List.map_cons, List.map_nil, V.cs_eq]
          generalize l[k] = x at *
          refine wRUN (j3 hdk hr hg) ?_
          refine w9 (op_shared [] hv) trivial ?_
          refine wRUN (j3 h00 hol hw) ?_
          refine ⟨k + 1, by omega, ⟨by omega, hRk⟩, ?_⟩
          exact wSays (Says.of [((99, 0), (27, 0))] []) hrow
        · rw [hd] at h0
          exact absurd h0 hc
      · rw [if_neg h0] at hRk
        have hv := valOf_bad l[k] hzk (by rcases dec_cases l[k] with ⟨t, ht⟩ | ⟨c, hc, hd⟩; rw [ht] at h0; exact absurd rfl h0; rw [hd])
        have hb : ((dec l[k]).1 != 0) = true := by simpa using h0
        rw [hRk]
        generalize l[k] = x at *
        refine wRUN (j3 hdk hr hg) ?_
        (apply (op_shared [] hv); (iterate 9 (focus (first | (simp only [go_sem, Nat.reduceEqDiff, Nat.reduceAdd, Nat.reduceSub, Nat.reduceLeDiff, Nat.reduceMul, Nat.reduceBEq, Nat.reduceLT, Int.reduceToNat, reduceCtorEq, noV]; first | done | exact rfl | (and_intros <;> rfl)) | exact rfl | decide))))
        (repeat (first | (with_reducible first | refine a_seq ?_ | refine a_region ?_ | refine a_block ?_ | refine a_scope ?_) | ((with_reducible apply op_any); (iterate 2 (focus (first | (simp only [go_sem, Nat.reduceEqDiff, Nat.reduceAdd, Nat.reduceSub, Nat.reduceLeDiff, Nat.reduceMul, Nat.reduceBEq, Nat.reduceLT, Int.reduceToNat, reduceCtorEq, hb, noV]; first | done | exact rfl | (and_intros <;> rfl)) | exact rfl | decide)))) | ((with_reducible refine o_nil ?_); dsimp only; try ((with_reducible apply o_draw); (focus (simp only [go_sem]; exact rfl)); (focus decide))) | ((with_reducible first | refine a_ret ?_ | refine a_skip ?_ | refine a_label ?_); dsimp only) | ((with_reducible refine a_exit ?_); dsimp only; simp only [if_true, if_false, Nat.reduceEqDiff]) | ((with_reducible apply a_if); (focus (simp only [go_sem, Nat.reduceBEq, Nat.reduceLT, hb, noV]; exact rfl)); dsimp only [cond_true, cond_false]) | ((with_reducible refine a_draw ?_ ?_); (focus exact rfl))))
        exact wRet (ret_data []) Tryz.results55
    · rw [List.drop_eq_nil_of_le (by omega)] at hRk
      exact absurd hRk h
set_option maxHeartbeats 4000000 in
theorem valsOf_ac (l : List (List CellD)) (hz : ∀ x ∈ l, Sized x) (hl : l.length ≤ 900000) (h : firstBad l = 0) : AC Tryz.prog 55 [.c (.sl (l.map encCs))] [] (.tup [.c (.sl ((treesOf l).map V.cs)), .c (.int .i64 0)]) [] := by
  have hln : (l.map encCs).length = l.length := by simp
  refine wEnter Tryz.func55 Tryz.ntmps55 ?_
  refine wRUN hln ?_
  refine a_loop (κ := Nat) (fun k => ⟨mkS 0 30 [(4, .own (99, 0)), (10, .c (.sl (l.map encCs))), (11, .c (.int .i64 l.length)), (12, .c (.int .i64 k))], [((99, 0), .row false 5 79 ((treesOf (l.take k)).map V.cs))]⟩)
    (fun k => k ≤ l.length ∧ firstBad (l.drop k) = 0) (fun k => l.length - k) 0 ⟨Nat.zero_le _, h⟩ ?_ ?_
  · (apply (Says.of [((99, 0), (9, 0))] []); (iterate 2 ((focus (simp only [go_sem, Nat.reduceEqDiff, Nat.reduceAdd, Nat.reduceSub, Nat.reduceLeDiff, Nat.reduceMul, Nat.reduceBEq, Nat.reduceLT, Int.reduceToNat, reduceCtorEq, treesOf]; try (and_intros <;> rfl))); (focus exact rfl))); (iterate 4 (focus (simp [go_sem, treesOf]; done))))
  · rintro k ⟨hk, hRk⟩
    by_cases hlt : k < l.length
    · have hdk : decide ((k : Int) < (l.length : Int)) = true := by simpa using hlt
      have hw := wrap_succ (k := k) (by omega)
      have hr : rowsAt (l.map encCs) 1 k = true := by simp [rowsAt, hlt, encCs]
      have hg : (l.map encCs)[k]? = some [.sl (l[k].map CellD.cs)] := by simp [hlt, encCs]
      have hzk := hz _ (List.getElem_mem hlt)
      have hol : (treesOf (l.take k)).length + 1 ≤ 1000000 := by have := treesOf_len (l.take k); rw [List.length_take] at this; omega
      rw [firstBad_drop l hlt] at hRk
      rcases dec_cases l[k] with ⟨t, ht⟩ | ⟨c, hc, hd⟩
      · rw [if_pos (by rw [ht])] at hRk
        have hv := valOf_ac l[k] hzk (t := t) (by rw [ht])
        have h00 : ((0 : Int) != 0) = false := rfl
        have hrow : (treesOf (l.take k)).map V.cs ++ [[.int .i64 t.kind, .int .i64 t.num, .str t.text, .sl (t.keys.map strCs), .sl (t.kids.map V.cs)]] = (treesOf (l.take (k + 1))).map V.cs := by rw [treesOf_take hlt ht, List.map_append, List.map_cons, List.map_nil, V.cs_eq]
        generalize l[k] = x at *
        refine wRUN (j3 hdk hr hg) ?_
        refine w9 (op_shared [] hv) trivial ?_
        refine wRUN (j3 h00 hol hw) ?_
        refine ⟨k + 1, by omega, ⟨by omega, hRk⟩, ?_⟩
        exact wSays (Says.of [((99, 0), (27, 0))] []) hrow
      · rw [if_neg (by rw [hd]; exact hc), hd] at hRk
        exact absurd hRk hc
    · have hdk : decide ((k : Int) < (l.length : Int)) = false := by simpa using hlt
      have hke : l.take k = l := List.take_of_length_le (by omega)
      refine wRUN hdk ?_
      exact wRetOf (ret_of [] [(99, 0)]) Tryz.results55 hke
theorem two_bad (x y : List CellD) : firstBad [x, y] = bothCode x y := by
  unfold firstBad bothCode firstBad firstBad
  by_cases h1 : (dec x).1 = 0
  · rw [if_pos h1, if_pos h1]
    by_cases h2 : (dec y).1 = 0
    · rw [if_pos h2, h2]
    · rw [if_neg h2]
  · rw [if_neg h1, if_neg h1]
theorem two_vals {x y : List CellD} (hx : Sized x) (hy : Sized y) {t u : V} (h1 : dec x = (0, some t)) (h2 : dec y = (0, some u)) : AC Tryz.prog 55 [.c (.sl [[.sl (x.map CellD.cs)], [.sl (y.map CellD.cs)]])] [] (.tup [.c (.sl [[.int .i64 t.kind, .int .i64 t.num, .str t.text, .sl (t.keys.map strCs), .sl (t.kids.map V.cs)], [.int .i64 u.kind, .int .i64 u.num, .str u.text, .sl (u.keys.map strCs), .sl (u.kids.map V.cs)]]), .c (.int .i64 0)]) [] := by
  have h := valsOf_ac [x, y] (by simp [hx, hy]) (by simp) (by rw [two_bad]; unfold bothCode; rw [h1, h2]; rfl)
  have ht : treesOf [x, y] = [t, u] := by simp [treesOf, h1, h2]
  rw [ht] at h
  simp only [List.map_cons, List.map_nil, V.cs_eq] at h
  exact h
theorem two_none {x y : List CellD} (hx : Sized x) (hy : Sized y) (h : bothCode x y ≠ 0) : AC Tryz.prog 55 [.c (.sl [[.sl (x.map CellD.cs)], [.sl (y.map CellD.cs)]])] [] (.tup [.nils, .c (.int .i64 (bothCode x y))]) [] := by
  have h := valsOf_bad [x, y] (by simp [hx, hy]) (by simp) (by rw [two_bad]; exact h)
  rw [two_bad] at h
  exact h
theorem both_ways (x y : List CellD) : (bothCode x y ≠ 0) ∨ ∃ t u, dec x = (0, some t) ∧ dec y = (0, some u) ∧ bothCode x y = 0 := by
  unfold bothCode
  rcases dec_cases x with ⟨t, h1⟩ | ⟨c, hc, h1⟩
  · rcases dec_cases y with ⟨u, h2⟩ | ⟨c, hc, h2⟩
    · exact .inr ⟨t, u, h1, h2, by rw [h1, h2]; rfl⟩
    · rw [h1, h2]
      exact .inl hc
  · rw [h1]
    dsimp only
    rw [if_neg hc]
    exact .inl hc
end Go.Proofs.YtioaieacogoemaaGreat
