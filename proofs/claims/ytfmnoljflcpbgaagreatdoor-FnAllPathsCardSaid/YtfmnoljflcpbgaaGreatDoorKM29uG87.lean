/- Texts of this proof: M29 G25 G55 G26 G87. -/
import Derived.Test.YtfmnoljflcpbgaaGreatDoorKM3uM28
import Derived.Test.YtfmnoljflcpbgaaGreatDoorKM2
import Derived.Test.YtfmnoljflcpbgaaGreatDoorKG08uS02
import Derived.Test.YtfmnoljflcpbgaaGreatDoorKE5
import Derived.Test.YtfmnoljflcpbgaaGreatDoorKG23uG24
import Derived.Test.YtfmnoljflcpbgaaGreatDoorKG9
import Derived.Test.YtfmnoljflcpbgaaGreatDoorKG06uG07
import Derived.Test.YtfmnoljflcpbgaaGreatDoorKG83
import Derived.Test.YtfmnoljflcpbgaaGreatDoorKE6
import Derived.Shelf.SortM.Plain
import Derived.Shelf.SortM.SortNone
import Derived.Test.YtfmnoljflcpbgaaGreatDoorKG04uG20
import Derived.Sort.OwnSorted
import Derived.Test.YtfmnoljflcpbgaaGreatDoorKG01uG03
import Derived.Test.YtfmnoljflcpbgaaGreatDoorKG22
import Derived.Deep.RegionLaw
import Derived.Shelf.RegionOpenPlain
import Derived.Laws.CopyRow
set_option linter.unusedSimpArgs false
set_option linter.unusedVariables false
set_option linter.unnecessarySimpa false
namespace Go.Proofs.YtfmnoljflcpbgaaGreatDoor
open Go.RowKit
/-- A simple key: one cell, a number or a string. -/
def sKey (q : V) : Prop := q.right ∧ q.count = 1 ∧ q.depth = 1 ∧ (q.kind = 3 ∨ q.kind = 4)
theorem sKey_ok {q : V} (h : okKey q) : sKey q := by
  obtain ⟨h1, h2, h3⟩ := okKey_right h
  refine ⟨h1, h2, h3, ?_⟩
  rcases h with ⟨s, rfl, _⟩ | ⟨n, rfl, _⟩
  · exact .inr rfl
  · exact .inl rfl
mutual
theorem paths_sk : ∀ (t : V) (ahead : List V), t.right → (∀ q ∈ ahead, sKey q) → ∀ p ∈ t.paths ahead, (∀ q ∈ p.1, sKey q) ∧ p.1.length + p.2.depth ≤ ahead.length + t.depth
  | .mk kind num text keys kids, ahead, ht, ha => by
    intro p hp
    simp only [V.paths, List.mem_cons] at hp
    rcases hp with rfl | hp
    · exact ⟨ha, Nat.le_refl _⟩
    · have hr : ∀ k ∈ kids, k.right := fun k hk => right_mem ht hk
      have := pathsL_sk (V.mk kind num text keys kids).keyV 0 kids ahead hr (fun j hj => sKey_ok (keyV_ok ht (by simpa [V.kids] using hj))) ha p hp
      exact ⟨this.1, by simp only [V.depth]; omega⟩
theorem pathsL_sk : ∀ (key : Nat → V) (i : Nat) (ks ahead : List V), (∀ k ∈ ks, k.right) → (∀ j, j < i + ks.length → sKey (key j)) → (∀ q ∈ ahead, sKey q) → ∀ p ∈ pathsL key i ks ahead, (∀ q ∈ p.1, sKey q) ∧ p.1.length + p.2.depth ≤ ahead.length + 1 + depthL ks
  | _, _, [], _, _, _, _ => by simp [pathsL]
  | key, i, k :: ks, ahead, hr, hk, ha => by
    intro p hp
    simp only [pathsL, List.mem_append] at hp
    rcases hp with hp | hp
    · have := paths_sk k (ahead ++ [key i]) (hr k (by simp)) (fun q hq => by
        rcases List.mem_append.1 hq with hq | hq
        · exact ha q hq
        · rw [List.mem_singleton.1 hq]; exact hk i (by simp)) p hp
      refine ⟨this.1, ?_⟩
      have h2 := this.2
      rw [List.length_append, List.length_singleton] at h2
      simp only [depthL]
      omega
    · have := pathsL_sk key (i + 1) ks ahead (fun x hx => hr x (by simp [hx])) (fun j hj => hk j (by simp only [List.length_cons]; omega)) ha p hp
      exact ⟨this.1, by simp only [depthL]; omega⟩
end
theorem countL_sk : ∀ {l : List V}, (∀ q ∈ l, sKey q) → countL l = l.length ∧ depthL l ≤ 1 ∧ wfL l
  | [], _ => ⟨rfl, Nat.zero_le _, trivial⟩
  | q :: l, h => by
    obtain ⟨h1, h2, h3⟩ := countL_sk (l := l) fun x hx => h x (by simp [hx])
    obtain ⟨h4, h5, h6, _⟩ := h q (by simp)
    exact ⟨by simp only [countL, List.length_cons]; omega, by simp only [depthL]; omega, h4.1, h3⟩
theorem path_right {P : List V} (h : ∀ q ∈ P, sKey q) (hl : P.length ≤ 100) : (arrV P).right := by
  obtain ⟨h1, h2, h3⟩ := countL_sk h
  exact ⟨arr_wf h3 (by omega), by simp only [arrV, V.count]; omega, by simp only [arrV, V.depth]; omega⟩
end Go.Proofs.YtfmnoljflcpbgaaGreatDoor

/- The specification's reading of parts of values, by the engine: l3Null, l3Bad, l3Get, l3Index, l3At, l13Get. -/
namespace Go.Proofs.YtfmnoljflcpbgaaGreatDoor
open Go.RowKit
set_option maxRecDepth 10000
theorem l3Bad_ac (c : Int) : AC Tryz.prog 120 [.c (.int .i64 c)] [] (.agg [.c (.int .i64 c), .nils]) [] := by
  refine wEnter Tryz.func120 Tryz.ntmps120 ?_
  refine wRUN trivial ?_
  exact wRet (ret_data []) Tryz.results120
theorem enc_null : nullV.enc.map CellD.cs = [[.int .i64 0, .int .i64 0, .str ByteArray.empty, .str ByteArray.empty, .int .i64 0]] := rfl
theorem l3Null_ac : AC Tryz.prog 214 [] [] (.own (0, 0)) [((0, 0), .row false 5 69 (nullV.enc.map CellD.cs))] := by
  rw [enc_null]
  refine wEnter Tryz.func214 Tryz.ntmps214 ?_
  refine wRUN trivial ?_
  (apply (ret_of [((0, 0), (2, 0))] []); (focus (simp only [Tryz.results214, go_sem, Nat.reduceBEq, Nat.reduceLT, enc_null]; exact rfl)); (focus (simp only [go_sem, Nat.reduceEqDiff, Nat.reduceAdd, Nat.reduceSub, Nat.reduceLeDiff, Nat.reduceMul, Nat.reduceBEq, Nat.reduceLT, Int.reduceToNat, reduceCtorEq, enc_null]; try (and_intros <;> rfl))); (focus exact rfl); (focus (simp only [go_sem, Nat.reduceEqDiff, Nat.reduceAdd, Nat.reduceSub, Nat.reduceLeDiff, Nat.reduceMul, Nat.reduceBEq, Nat.reduceLT, Int.reduceToNat, reduceCtorEq, enc_null]; try (and_intros <;> rfl))); (focus exact rfl); (iterate 4 (focus (simp [go_sem, enc_null]; done))))
/-- A result of a reading. -/
def vrA (r : Int × Option V) : AV := match r.2 with
  | some t => .agg [.c (.int .i64 0), .c (.sl (t.enc.map CellD.cs))]
  | none => .agg [.c (.int .i64 r.1), .c (.sl [])]
theorem vrA_some (c : Int) (t : V) : vrA (c, some t) = .agg [.c (.int .i64 0), .c (.sl (t.enc.map CellD.cs))] := rfl
theorem vrA_none (c : Int) : vrA (c, none) = .agg [.c (.int .i64 c), .c (.sl [])] := rfl
theorem vrA_ok (t : V) : vrA (okR t) = .agg [.c (.int .i64 0), .c (.sl (t.enc.map CellD.cs))] := rfl
theorem vrA_bad (c : Int) : vrA (badR c) = .agg [.c (.int .i64 c), .c (.sl [])] := rfl
set_option maxHeartbeats 2000000 in
theorem l3Get_ac {t : V} (h : t.right) (key : ByteArray) : AC Tryz.prog 196 [cellsA t.enc, .c (.str key)] [] (vrA (getKeyV t key)) [] := by
  have hr0 : rowsAt (t.enc.map CellD.cs) 5 0 = true := by unfold rowsAt; rw [show (0 : Int).toNat = 0 from rfl, enc_head]; rfl
  have hg0 := enc_head t
  by_cases h0 : t.kind = 0
  · have hr : getKeyV t key = okR nullV := by unfold getKeyV; rw [if_pos h0]
    have hb : (t.kind == 0) = true := by simpa using h0
    rw [hr, vrA_ok]
    refine wEnter Tryz.func196 Tryz.ntmps196 ?_
    refine wRUN (j3 hr0 hg0 hb) ?_
    refine w12 (op_rowT [] l3Null_ac) trivial ?_
    refine wRUN trivial ?_
    exact wRetOf (ret_of [] [(12, 0)]) Tryz.results196 hb
  · have hb : (t.kind == 0) = false := by simpa using h0
    by_cases h6 : t.kind = 6
    · have hb6 : (t.kind != 6) = false := by simpa using h6
      obtain ⟨hs, _, hkl⟩ := right_asc h h6
      have hkn := kids_len_le h.2.1
      have hkeys := l1Keys_ac h.1 h.2.1
      have hparts := l1Parts_ac h.1 h.2.1
      have hkat : ∀ i (hi : i < t.keys.length), t.keyAt i = t.keys[i] := fun i hi => by
        unfold V.keyAt
        rw [if_pos h6, List.drop_eq_getElem_cons hi]
        rfl
      have hr : getKeyV t key = okR (t.member key) := by unfold getKeyV; rw [if_neg h0, if_pos h6]
      rw [hr, vrA_ok]
      refine wEnter Tryz.func196 Tryz.ntmps196 ?_
      refine wRUN (j4 hr0 hg0 hb hb6) ?_
      refine w9 (op_shared [] hkeys) trivial ?_
      refine wRUN trivial ?_
      refine a_loop (κ := Nat) (fun k => ⟨mkS 0 42 [(0, cellsA t.enc), (1, .c (.str key)), (4, .ptr (4, 0) 0), (5, .c (.sl ((keysOf t t.kids.length).map strCs))), (6, .c (.int .i64 k))], [((4, 0), .box [.c (.int .i64 0), .nils])]⟩)
        (fun k => k ≤ t.kids.length ∧ ∀ j (hj : j < t.keys.length), j < k → t.keys[j].toList ≠ key.toList) (fun k => t.kids.length - k) 0 ⟨Nat.zero_le _, by intro j _ hj; omega⟩ ?_ ?_
      · exact wSays (Says.of [((4, 0), (4, 0))] []) hb
      · rintro k ⟨hk, hno⟩
        have hkol : (keysOf t t.kids.length).length = t.kids.length := keysOf_len t _
        by_cases hlt : k < t.kids.length
        · have hd : decide ((k : Int) < (t.kids.length : Int)) = true := by simpa using hlt
          have hw := wrap_succ (k := k) (by omega)
          have hr2 : rowsAt ((keysOf t t.kids.length).map strCs) 1 k = true := by simp [rowsAt, keysOf, hlt, strCs]
          have hg2 : ((keysOf t t.kids.length).map strCs)[k]? = some [.str t.keys[k]] := by simp [keysOf, hlt, strCs, hkat k (by omega)]
          have hr3 : rowsAt ((t.kids.map V.enc).map encCs) 1 k = true := by simp [rowsAt, hlt, encCs]
          have hg3 : ((t.kids.map V.enc).map encCs)[k]? = some [.sl (t.kids[k].enc.map CellD.cs)] := by simp [hlt, encCs]
          cases he : t.keys[k].toList == key.toList with
          | true =>
            have hm : t.member key = t.kids[k] := by
              unfold V.member findKey
              rw [List.findIdx?_eq_some_iff_getElem.2 ⟨by omega, he, fun j hj => by simpa using hno j (by omega) hj⟩]
              simp only
              rw [List.getD_eq_getElem?_getD, List.getElem?_eq_getElem hlt, Option.getD_some]
            rw [hm]
            generalize t.kids[k] = u at *
            refine wRUN (j5 hkol hd hr2 hg2 he) ?_
            refine w9 (op_shared [] hparts) trivial ?_
            refine wRUN (j2 hr3 hg3) ?_
            exact wRet (ret_data []) Tryz.results196
          | false =>
            refine wRUN (j6 hkol hd hr2 hg2 he hw) ?_
            refine ⟨k + 1, by omega, ⟨by omega, fun j hj hjk => ?_⟩, ?_⟩
            · by_cases hjk' : j = k
              · subst hjk'; simpa using he
              · exact hno j hj (by omega)
            · exact wSays (Says.of [((4, 0), (4, 0))] []) hb
        · have hd : decide ((k : Int) < (t.kids.length : Int)) = false := by simpa using hlt
          have hm : t.member key = nullV := by
            unfold V.member findKey
            rw [List.findIdx?_eq_none_iff.2 fun x hx => by
              obtain ⟨i, hi, rfl⟩ := List.getElem_of_mem hx
              simpa using hno i hi (by omega)]
          rw [hm]
          refine wRUN (j2 hkol hd) ?_
          refine w12 (op_rowT [] l3Null_ac) trivial ?_
          refine wRUN trivial ?_
          exact wRetOf (ret_of [] [(40, 0)]) Tryz.results196 hb
    · have hr : getKeyV t key = badR 6 := by unfold getKeyV; rw [if_neg h0, if_neg h6]
      have hb6 : (t.kind != 6) = true := by simpa using h6
      rw [hr, vrA_bad]
      refine wEnter Tryz.func196 Tryz.ntmps196 ?_
      refine wRUN (j4 hr0 hg0 hb hb6) ?_
      refine w7 (op_data [] (l3Bad_ac 6)) trivial ?_
      refine wRUN trivial ?_
      exact wRet (ret_data []) Tryz.results196
end Go.Proofs.YtfmnoljflcpbgaaGreatDoor

/- spec.l1Told, l14Merge, MergeValues; impl.MergeValues, by the engine. -/
namespace Go.Proofs.YtfmnoljflcpbgaaGreatDoor
open Go.RowKit
set_option maxRecDepth 10000
theorem enc_rows (t : V) : rowsAt (t.enc.map CellD.cs) 5 0 = true := by unfold rowsAt; rw [show (0 : Int).toNat = 0 from rfl, enc_head]; rfl
end Go.Proofs.YtfmnoljflcpbgaaGreatDoor

/- The specification's reading of parts of values, by the engine: l3Index, l3At, l13Get. -/
namespace Go.Proofs.YtfmnoljflcpbgaaGreatDoor
open Go.RowKit
set_option maxRecDepth 10000
theorem l1In_ac (n lo hi : Int) : AC Tryz.prog 50 [.c (.int .i64 n), .c (.int .i64 lo), .c (.int .i64 hi)] [] (.c (.bool (decide (n ≥ lo) && decide (n ≤ hi)))) [] := by
  cases h1 : decide (n ≥ lo) <;> cases h2 : decide (n ≤ hi)
  all_goals
    refine wEnter Tryz.func50 Tryz.ntmps50 ?_
    refine wRUN (j2 h1 h2) ?_
    exact wRet (ret_data []) Tryz.results50
set_option maxHeartbeats 2000000 in
theorem l3Index_ac {t : V} (h : t.right) (n : Int) (hn : -1000000000000000 ≤ n ∧ n ≤ 1000000000000000) : AC Tryz.prog 197 [cellsA t.enc, .c (.int .i64 n)] [] (vrA (getIdxV t n)) [] := by
  have hkl := kids_len_le h.2.1
  have hr0 : rowsAt (t.enc.map CellD.cs) 5 0 = true := by unfold rowsAt; rw [show (0 : Int).toNat = 0 from rfl, enc_head]; rfl
  have hg0 := enc_head t
  by_cases h0 : t.kind = 0
  · have hr : getIdxV t n = okR nullV := by unfold getIdxV; rw [if_pos h0]
    have hb : (t.kind == 0) = true := by simpa using h0
    rw [hr, vrA_ok]
    refine wEnter Tryz.func197 Tryz.ntmps197 ?_
    refine wRUN (j3 hr0 hg0 hb) ?_
    refine w12 (op_rowT [] l3Null_ac) trivial ?_
    refine wRUN trivial ?_
    exact wRetOf (ret_of [] [(10, 0)]) Tryz.results197 hb
  · have hb : (t.kind == 0) = false := by simpa using h0
    by_cases h5 : t.kind = 5
    · have hb5 : (t.kind != 5) = false := by simpa using h5
      have hwm : IntKind.i64.wrap ((t.kids.length : Int) - 1) = (t.kids.length : Int) - 1 := IntWalk.i64_in _ (by omega)
      have hwi := l1In_ac (fromEnd n t.kids.length) 0 ((t.kids.length : Int) - 1)
      have hparts := l1Parts_ac h.1 h.2.1
      have hsplit : (decide (n < 0) = true ∧ IntKind.i64.wrap (n + (t.kids.length : Int)) = fromEnd n t.kids.length) ∨ (decide (n < 0) = false ∧ n = fromEnd n t.kids.length) := by
        unfold fromEnd
        by_cases hneg : n < 0
        · rw [if_pos hneg]
          exact .inl ⟨by simpa using hneg, IntWalk.i64_in _ (by omega)⟩
        · rw [if_neg hneg]
          exact .inr ⟨by simpa using hneg, rfl⟩
      cases hin : (decide (fromEnd n t.kids.length ≥ 0) && decide (fromEnd n t.kids.length ≤ (t.kids.length : Int) - 1)) with
      | false =>
        rw [hin] at hwi
        have hr : getIdxV t n = okR nullV := by
          unfold getIdxV
          rw [if_neg h0, if_pos h5, if_neg]
          simp at hin
          omega
        rw [hr, vrA_ok]
        generalize fromEnd n t.kids.length = q at *
        rcases hsplit with ⟨hd, hwa⟩ | ⟨hd, rfl⟩
        · refine wEnter Tryz.func197 Tryz.ntmps197 ?_
          refine wRUN (j7 hr0 hg0 hb hb5 hd hwa hwm) ?_
          refine w7 (op_data [] hwi) trivial ?_
          refine wRUN trivial ?_
          refine w12 (op_rowT [] l3Null_ac) trivial ?_
          refine wRUN trivial ?_
          exact wRetOf (ret_of [] [(34, 0)]) Tryz.results197 hb
        · refine wEnter Tryz.func197 Tryz.ntmps197 ?_
          refine wRUN (j6 hr0 hg0 hb hb5 hd hwm) ?_
          refine w7 (op_data [] hwi) trivial ?_
          refine wRUN trivial ?_
          refine w12 (op_rowT [] l3Null_ac) trivial ?_
          refine wRUN trivial ?_
          exact wRetOf (ret_of [] [(34, 0)]) Tryz.results197 hb
      | true =>
        rw [hin] at hwi
        simp at hin
        obtain ⟨p, hp, hpl⟩ : ∃ p : Nat, fromEnd n t.kids.length = p ∧ p < t.kids.length := ⟨(fromEnd n t.kids.length).toNat, by omega, by omega⟩
        have hr : getIdxV t n = okR t.kids[p] := by
          unfold getIdxV
          rw [if_neg h0, if_pos h5, hp, if_pos (by omega), Int.toNat_natCast, List.getD_eq_getElem?_getD, List.getElem?_eq_getElem hpl, Option.getD_some]
        have hr3 : rowsAt ((t.kids.map V.enc).map encCs) 1 p = true := by simp [rowsAt, hpl, encCs]
        have hg3 : ((t.kids.map V.enc).map encCs)[p]? = some [.sl (t.kids[p].enc.map CellD.cs)] := by simp [hpl, encCs]
        rw [hr, vrA_ok]
        generalize t.kids[p] = u at *
        rw [hp] at hwi hsplit
        rcases hsplit with ⟨hd, hwa⟩ | ⟨hd, rfl⟩
        · refine wEnter Tryz.func197 Tryz.ntmps197 ?_
          refine wRUN (j7 hr0 hg0 hb hb5 hd hwa hwm) ?_
          refine w7 (op_data [] hwi) trivial ?_
          refine wRUN trivial ?_
          refine w9 (op_shared [] hparts) trivial ?_
          refine wRUN (j2 hr3 hg3) ?_
          exact wRet (ret_data []) Tryz.results197
        · refine wEnter Tryz.func197 Tryz.ntmps197 ?_
          refine wRUN (j6 hr0 hg0 hb hb5 hd hwm) ?_
          refine w7 (op_data [] hwi) trivial ?_
          refine wRUN trivial ?_
          refine w9 (op_shared [] hparts) trivial ?_
          refine wRUN (j2 hr3 hg3) ?_
          exact wRet (ret_data []) Tryz.results197
    · have hr : getIdxV t n = badR 6 := by unfold getIdxV; rw [if_neg h0, if_neg h5]
      have hb5 : (t.kind != 5) = true := by simpa using h5
      rw [hr, vrA_bad]
      refine wEnter Tryz.func197 Tryz.ntmps197 ?_
      refine wRUN (j4 hr0 hg0 hb hb5) ?_
      refine w7 (op_data [] (l3Bad_ac 6)) trivial ?_
      refine wRUN trivial ?_
      exact wRet (ret_data []) Tryz.results197
set_option maxHeartbeats 1000000 in
theorem l3At_ac {t k : V} (h : t.right) (hk : k.right) : AC Tryz.prog 162 [cellsA t.enc, cellsA k.enc] [] (vrA (getAtV t k)) [] := by
  have hr0 : rowsAt (k.enc.map CellD.cs) 5 0 = true := by unfold rowsAt; rw [show (0 : Int).toNat = 0 from rfl, enc_head]; rfl
  have hg0 := enc_head k
  by_cases h4 : k.kind = 4
  · have hb : (k.kind == 4) = true := by simpa using h4
    have hr : getAtV t k = getKeyV t k.text := by unfold getAtV; rw [if_pos h4]
    have hg := l3Get_ac h k.text
    rw [hr]
    generalize getKeyV t k.text = r at *
    rcases r with ⟨c, _ | u⟩
    all_goals
      simp only [vrA_some, vrA_none] at hg ⊢
      refine wEnter Tryz.func162 Tryz.ntmps162 ?_
      refine wRUN (j3 hr0 hg0 hb) ?_
      refine w9 (op_shared [] hg) trivial ?_
      refine wRUN trivial ?_
      exact wRet (ret_data []) Tryz.results162
  · have hb : (k.kind == 4) = false := by simpa using h4
    by_cases h3 : k.kind = 3
    · have hb3 : (k.kind == 3) = true := by simpa using h3
      have hr : getAtV t k = getIdxV t k.num := by unfold getAtV; rw [if_neg h4, if_pos h3]
      have hg := l3Index_ac h k.num (right_num hk)
      rw [hr]
      generalize getIdxV t k.num = r at *
      rcases r with ⟨c, _ | u⟩
      all_goals
        simp only [vrA_some, vrA_none] at hg ⊢
        refine wEnter Tryz.func162 Tryz.ntmps162 ?_
        refine wRUN (j4 hr0 hg0 hb hb3) ?_
        refine w9 (op_shared [] hg) trivial ?_
        refine wRUN trivial ?_
        exact wRet (ret_data []) Tryz.results162
    · have hb3 : (k.kind == 3) = false := by simpa using h3
      have hr : getAtV t k = badR 6 := by unfold getAtV; rw [if_neg h4, if_neg h3]
      rw [hr, vrA_bad]
      refine wEnter Tryz.func162 Tryz.ntmps162 ?_
      refine wRUN (j4 hr0 hg0 hb hb3) ?_
      refine w7 (op_data [] (l3Bad_ac 6)) trivial ?_
      refine wRUN trivial ?_
      exact wRet (ret_data []) Tryz.results162
set_option maxHeartbeats 2000000 in
theorem l13Get_ac {t : V} (h : t.right) (path : List V) (hl : path.length ≤ 1000000) (hp : ∀ k ∈ path, k.right) : AC Tryz.prog 121 [cellsA t.enc, .c (.sl ((path.map V.enc).map encCs))] [] (vrA (getPathV t path)) [] := by
  have h00 : ((0 : Int) != 0) = false := rfl
  have hel := enc_len t
  have hc := h.2.1
  have hn0 : 0 + t.enc.length ≤ 1000000 := by omega
  refine wEnter Tryz.func121 Tryz.ntmps121 ?_
  refine wRUN hn0 ?_
  refine a_loop (κ := Nat × V) (fun x => ⟨mkS 0 29 [(1, .c (.sl ((path.map V.enc).map encCs))), (4, .ptr (4, 0) 0), (5, .ptr (5, 0) 0), (6, .c (.int .i64 x.1))],
      [((4, 0), .box [.c (.int .i64 0), .nils]), ((5, 0), .box [.c (.int .i64 0), .c (.sl (x.2.enc.map CellD.cs))])]⟩)
    (fun x => x.1 ≤ path.length ∧ x.2.right ∧ getPathV x.2 (path.drop x.1) = getPathV t path) (fun x => path.length - x.1) (0, t) ⟨Nat.zero_le _, h, rfl⟩ ?_ ?_
  · exact wSays (Says.of [((4, 0), (4, 0)), ((5, 0), (5, 0))] [(9, 0)]) hl
  · rintro ⟨k, u⟩ ⟨hk, hu, hq⟩
    dsimp only at hk hu hq ⊢
    by_cases hlt : k < path.length
    · have hd : decide ((k : Int) < (path.length : Int)) = true := by simpa using hlt
      have hr : rowsAt ((path.map V.enc).map encCs) 1 k = true := by simp [rowsAt, hlt, encCs]
      have hgk : ((path.map V.enc).map encCs)[k]? = some [.sl (path[k].enc.map CellD.cs)] := by simp [hlt, encCs]
      have hkr := hp path[k] (List.getElem_mem hlt)
      have hw := wrap_succ (k := k) (by omega)
      rw [getPath_drop t u path k hlt] at hq
      have ha := l3At_ac hu hkr
      have hok := getAt_ok hu path[k]
      generalize getAtV u path[k] = r at *
      generalize path[k] = y at *
      rcases r with ⟨c, _ | x⟩
      · simp only [vrA_none] at ha
        have hc0 : c ≠ 0 := hok
        have hcb : (c != 0) = true := by simpa using hc0
        rw [← hq, vrA_none]
        refine wRUN (j3 hd hr hgk) ?_
        refine w9 (op_shared [] ha) trivial ?_
        refine wRUN hcb ?_
        exact wRet (ret_data []) Tryz.results121
      · simp only [vrA_some] at ha
        refine wRUN (j3 hd hr hgk) ?_
        refine w9 (op_shared [] ha) trivial ?_
        refine wRUN (j2 h00 hw) ?_
        refine ⟨(k + 1, x), by dsimp only; omega, ⟨by dsimp only; omega, hok.2, hq⟩, ?_⟩
        exact wSays (Says.of [((4, 0), (4, 0)), ((5, 0), (5, 0))] []) hw
    · have hd : decide ((k : Int) < (path.length : Int)) = false := by simpa using hlt
      rw [List.drop_eq_nil_of_le (by omega)] at hq
      have hq' : getPathV t path = okR u := by rw [← hq]; rfl
      rw [hq', vrA_ok]
      refine wRUN hd ?_
      exact wRet (ret_data []) Tryz.results121
end Go.Proofs.YtfmnoljflcpbgaaGreatDoor

/- spec.l14Near, DrawDiffValues, DrawMergeValues, by the engine. Printed by gen_near.py. -/
namespace Go.Proofs.YtfmnoljflcpbgaaGreatDoor
open Go.RowKit
set_option maxRecDepth 10000
theorem okRes_ways {r : Int × Option V} (h : okRes r) : (∃ v, r = (0, some v) ∧ v.right) ∨ ∃ c, c ≠ 0 ∧ r = (c, none) := by
  obtain ⟨c, o⟩ := r
  cases o with
  | none => exact .inr ⟨c, h, rfl⟩
  | some v => exact .inl ⟨v, by rw [show c = 0 from h.1], h.2⟩
end Go.Proofs.YtfmnoljflcpbgaaGreatDoor
