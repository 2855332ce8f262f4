/- slices.IndexFunc, ContainsFunc, DeleteFunc at values, by a function that has a box at hand; impl.sub, by the engine. -/
import Derived.Test.YtpaooephkpjkfaaGreatKG67
import Derived.Test.YtpaooephkpjkfaaGreatKG43
import Derived.Test.YtpaooephkpjkfaaGreatKG49uG52
import Derived.Test.YtpaooephkpjkfaaGreatKE5
set_option linter.unusedSimpArgs false
set_option linter.unusedVariables false
set_option linter.unnecessarySimpa false
namespace Go.Proofs.YtpaooephkpjkfaaGreat
open Go.RowKit
set_option maxRecDepth 10000
/-- The first place at which something holds, or -1. -/
def firstAt {α : Type} (d : α → Bool) (l : List α) : Int := match l.findIdx? d with
  | some i => i
  | none => -1
theorem firstAt_some {α : Type} {d : α → Bool} {l : List α} {k : Nat} (h : k < l.length) (hb : d l[k] = true) (hno : ∀ j (h : j < l.length), j < k → d l[j] = false) : firstAt d l = k := by
  unfold firstAt
  rw [List.findIdx?_eq_some_iff_getElem.2 ⟨h, hb, fun j hj => by simp [hno j (by omega) hj]⟩]
theorem firstAt_none {α : Type} {d : α → Bool} {l : List α} (hno : ∀ j (h : j < l.length), d l[j] = false) : firstAt d l = -1 := by
  unfold firstAt
  rw [List.findIdx?_eq_none_iff.2 fun x hx => by
    obtain ⟨i, hi, rfl⟩ := List.getElem_of_mem hx
    exact hno i hi]
theorem firstAt_any {α : Type} (d : α → Bool) (l : List α) : decide (firstAt d l ≥ 0) = l.any d := by
  unfold firstAt
  cases hf : l.findIdx? d with
  | none =>
    have h := List.findIdx?_eq_none_iff.1 hf
    have : l.any d = false := by rw [List.any_eq_false]; intro x hx; simp [h x hx]
    rw [this]
    rfl
  | some i =>
    obtain ⟨h1, h2, _⟩ := List.findIdx?_eq_some_iff_getElem.1 hf
    have : l.any d = true := List.any_eq_true.2 ⟨_, List.getElem_mem h1, h2⟩
    rw [this]
    simp
abbrev boxQ (q : V) : Mem := [((0, 0), .box [.c (.int .i64 q.kind), .c (.int .i64 q.num), .c (.str q.text), .c (.sl (q.keys.map strCs)), .c (.sl (q.kids.map V.cs))])]
set_option maxHeartbeats 2000000 in
theorem indexVals_ac (f : FuncId) (hcal : callable Tryz.prog f = true) (q : V) (d : V → Bool) (l : List V) (hl : l.length ≤ 1000000) (hd : ∀ p ∈ l, AC Tryz.prog f [p.av, .ptr (0, 0) 0] (boxQ q) (.c (.bool (d p))) (boxQ q)) :
    AC Tryz.prog 206 [.c (.sl (l.map V.cs)), .clo f [.ptr (0, 0) 0]] (boxQ q) (.c (.int .i64 (firstAt d l))) (boxQ q) := by
  refine wEnter Tryz.func206 Tryz.ntmps206 ?_
  refine wRUN trivial ?_
  refine a_loop (κ := Nat) (fun k => ⟨mkS 0 19 [(0, .c (.sl (l.map V.cs))), (1, .clo f [.ptr (0, 0) 0]), (7, .c (.int .i64 l.length)), (8, .c (.int .i64 k))], boxQ q⟩)
    (fun k => k ≤ l.length ∧ ∀ j (h : j < l.length), j < k → d l[j] = false) (fun k => l.length - k) 0 ⟨Nat.zero_le _, by intro j h hj; omega⟩ ?_ ?_
  · exact wSays (Says.of [((0, 0), (0, 0))] []) hl
  · rintro k ⟨hk, hno⟩
    by_cases hlt : k < l.length
    · have hdk : decide ((k : Int) < (l.length : Int)) = true := by simpa using hlt
      have hw := wrap_succ (k := k) (by omega)
      have hr : rowsAt (l.map V.cs) 5 k = true := by simp [rowsAt, hlt, V.cs_eq]
      have hg : (l.map V.cs)[k]? = some [.int .i64 l[k].kind, .int .i64 l[k].num, .str l[k].text, .sl (l[k].keys.map strCs), .sl (l[k].kids.map V.cs)] := by simp [hlt, V.cs_eq]
      have hc := hd l[k] (List.getElem_mem hlt)
      cases hb : d l[k] with
      | true =>
        rw [hb] at hc
        rw [firstAt_some hlt hb hno]
        refine wRUN (j3 hdk hr hg) ?_
        refine wCall (op_any_call [((0, 0), (0, 0))] [((0, 0), (0, 0))] hc) hcal ?_
        refine wRUN trivial ?_
        exact wRetOf (ret_of [((0, 0), (0, 0))] []) Tryz.results206 hl
      | false =>
        rw [hb] at hc
        refine wRUN (j3 hdk hr hg) ?_
        refine wCall (op_any_call [((0, 0), (0, 0))] [((0, 0), (0, 0))] hc) hcal ?_
        refine wRUN hw ?_
        refine ⟨k + 1, by omega, ⟨by omega, fun j h hj => ?_⟩, ?_⟩
        · by_cases hjk : j = k
          · subst hjk; exact hb
          · exact hno j h (by omega)
        · exact wSays (Says.of [((0, 0), (0, 0))] []) hw
    · have hdk : decide ((k : Int) < (l.length : Int)) = false := by simpa using hlt
      rw [firstAt_none (fun j h => hno j h (by omega))]
      refine wRUN hdk ?_
      exact wRetOf (ret_of [((0, 0), (0, 0))] []) Tryz.results206 hl
theorem containsVals_ac (f : FuncId) (hcal : callable Tryz.prog f = true) (q : V) (d : V → Bool) (l : List V) (hl : l.length ≤ 1000000) (hd : ∀ p ∈ l, AC Tryz.prog f [p.av, .ptr (0, 0) 0] (boxQ q) (.c (.bool (d p))) (boxQ q)) :
    AC Tryz.prog 157 [.c (.sl (l.map V.cs)), .clo f [.ptr (0, 0) 0]] (boxQ q) (.c (.bool (l.any d))) (boxQ q) := by
  have h1 := indexVals_ac f hcal q d l hl hd
  have h2 := firstAt_any d l
  generalize firstAt d l = i at *
  generalize l.any d = r at *
  refine wEnter Tryz.func157 Tryz.ntmps157 ?_
  refine wRUN trivial ?_
  refine wCall (op_any_call [((0, 0), (0, 0))] [((0, 0), (0, 0))] h1) trivial ?_
  refine wRUN h2 ?_
  exact wRetOf (ret_of [((0, 0), (0, 0))] []) Tryz.results157 h2
abbrev boxR (q : V) (rows : List (List C)) : Mem := [((0, 0), .box [.c (.int .i64 q.kind), .c (.int .i64 q.num), .c (.str q.text), .c (.sl (q.keys.map strCs)), .c (.sl (q.kids.map V.cs))]), ((0, 1), .row false 5 73 rows)]
set_option maxHeartbeats 2000000 in
theorem indexOwn_ac (f : FuncId) (hcal : callable Tryz.prog f = true) (q : V) (d : V → Bool) (l : List V) (hl : l.length ≤ 1000000) (hd : ∀ p ∈ l, AC Tryz.prog f [p.av, .ptr (0, 0) 0] (boxQ q) (.c (.bool (d p))) (boxQ q)) :
    AC Tryz.prog 206 [.own (0, 1), .clo f [.ptr (0, 0) 0]] (boxR q (l.map V.cs)) (.c (.int .i64 (firstAt d l))) (boxR q (l.map V.cs)) := by
  have hlm : (l.map V.cs).length = l.length := by simp
  refine wEnter Tryz.func206 Tryz.ntmps206 ?_
  refine wRUN hlm ?_
  refine a_loop (κ := Nat) (fun k => ⟨mkS 0 19 [(0, .own (0, 1)), (1, .clo f [.ptr (0, 0) 0]), (7, .c (.int .i64 l.length)), (8, .c (.int .i64 k))], boxR q (l.map V.cs)⟩)
    (fun k => k ≤ l.length ∧ ∀ j (h : j < l.length), j < k → d l[j] = false) (fun k => l.length - k) 0 ⟨Nat.zero_le _, by intro j h hj; omega⟩ ?_ ?_
  · exact wSays (Says.of [((0, 0), (0, 0)), ((0, 1), (0, 1))] []) hl
  · rintro k ⟨hk, hno⟩
    by_cases hlt : k < l.length
    · have hdk : decide ((k : Int) < (l.length : Int)) = true := by simpa using hlt
      have hw := wrap_succ (k := k) (by omega)
      have hr : rowsAt (l.map V.cs) 5 k = true := by simp [rowsAt, hlt, V.cs_eq]
      have hg : (l.map V.cs)[k]? = some [.int .i64 l[k].kind, .int .i64 l[k].num, .str l[k].text, .sl (l[k].keys.map strCs), .sl (l[k].kids.map V.cs)] := by simp [hlt, V.cs_eq]
      have hc := hd l[k] (List.getElem_mem hlt)
      cases hb : d l[k] with
      | true =>
        rw [hb] at hc
        rw [firstAt_some hlt hb hno]
        refine wRUN (j3 hdk hr hg) ?_
        refine wCall (op_any_call [((0, 0), (0, 0))] [((0, 0), (0, 0))] hc) hcal ?_
        refine wRUN trivial ?_
        exact wRetOf (ret_of [((0, 0), (0, 0)), ((0, 1), (0, 1))] []) Tryz.results206 hl
      | false =>
        rw [hb] at hc
        refine wRUN (j3 hdk hr hg) ?_
        refine wCall (op_any_call [((0, 0), (0, 0))] [((0, 0), (0, 0))] hc) hcal ?_
        refine wRUN hw ?_
        refine ⟨k + 1, by omega, ⟨by omega, fun j h hj => ?_⟩, ?_⟩
        · by_cases hjk : j = k
          · subst hjk; exact hb
          · exact hno j h (by omega)
        · exact wSays (Says.of [((0, 0), (0, 0)), ((0, 1), (0, 1))] []) hw
    · have hdk : decide ((k : Int) < (l.length : Int)) = false := by simpa using hlt
      rw [firstAt_none (fun j h => hno j h (by omega))]
      refine wRUN hdk ?_
      exact wRetOf (ret_of [((0, 0), (0, 0)), ((0, 1), (0, 1))] []) Tryz.results206 hl
theorem take_keep {α : Type} {d : α → Bool} {l : List α} {j : Nat} (h : j < l.length) : (l.take (j + 1)).filter d = (l.take j).filter d ++ (if d l[j] then [l[j]] else []) := by
  rw [List.take_succ_eq_append_getElem h, List.filter_append]
  simp [List.filter_cons]
theorem five_of {α : Type} {l : List α} (h : l.length = 5) : ∃ a b c d e, l = [a, b, c, d, e] := by
  match l, h with
  | [a, b, c, d, e], _ => exact ⟨a, b, c, d, e, rfl⟩
set_option maxHeartbeats 8000000 in
theorem deleteVs_ac (f : FuncId) (hcal : callable Tryz.prog f = true) (q : V) (d : V → Bool) (l : List V) (hl : l.length ≤ 1000000) (hd : ∀ p ∈ l, AC Tryz.prog f [p.av, .ptr (0, 0) 0] (boxQ q) (.c (.bool (d p))) (boxQ q)) :
    AC Tryz.prog 187 [.own (0, 1), .clo f [.ptr (0, 0) 0]] (boxR q (l.map V.cs)) (.own (1, 0)) (boxQ q ++ [((1, 0), .row false 5 73 ((l.filter fun p => !d p).map V.cs))]) := by
  have hix := indexOwn_ac f hcal q d l hl hd
  show AC _ _ _ _ _ [((0, 0), .box [.c (.int .i64 q.kind), .c (.int .i64 q.num), .c (.str q.text), .c (.sl (q.keys.map strCs)), .c (.sl (q.kids.map V.cs))]), ((1, 0), .row false 5 73 ((l.filter fun p => !d p).map V.cs))]
  cases hfi : l.findIdx? d with
  | none =>
    have h1 : firstAt d l = -1 := by unfold firstAt; rw [hfi]
    have hall : (l.filter fun p => !d p) = l := List.filter_eq_self.2 fun x hx => by
      have := List.findIdx?_eq_none_iff.1 hfi x hx
      simp [this]
    rw [h1] at hix
    rw [hall]
    have hm1 : ((-1 : Int) == -1) = true := rfl
    refine wEnter Tryz.func187 Tryz.ntmps187 ?_
    refine wRUN trivial ?_
    refine wCall (op_any_call [((0, 0), (0, 0)), ((0, 1), (0, 1))] [((0, 0), (0, 0)), ((0, 1), (0, 1))] hix) trivial ?_
    refine wRUN hm1 ?_
    exact wRetOf (ret_of [((0, 0), (0, 0)), ((1, 0), (0, 1))] []) Tryz.results187 hall
  | some i0 =>
    obtain ⟨hi0, hdi, hno⟩ := List.findIdx?_eq_some_iff_getElem.1 hfi
    have h1 : firstAt d l = i0 := by unfold firstAt; rw [hfi]
    rw [h1] at hix
    have hm1 : ((i0 : Int) == -1) = false := by simp
    have hw0 := wrap_succ (k := i0) (by omega)
    have hk0 : (l.take (i0 + 1)).filter (fun p => !d p) = l.take i0 := by
      rw [take_keep hi0, hdi]
      simp only [Bool.not_true, Bool.false_eq_true, if_false, List.append_nil]
      refine List.filter_eq_self.2 fun x hx => ?_
      obtain ⟨j, hj, rfl⟩ := List.getElem_of_mem hx
      rw [List.length_take] at hj
      rw [List.getElem_take]
      simpa using hno j (by omega)
    have hkl : ((l.take (i0 + 1)).filter (fun p => !d p)).length = i0 := by rw [hk0, List.length_take]; omega
    refine wEnter Tryz.func187 Tryz.ntmps187 ?_
    refine wRUN trivial ?_
    refine wCall (op_any_call [((0, 0), (0, 0)), ((0, 1), (0, 1))] [((0, 0), (0, 0)), ((0, 1), (0, 1))] hix) trivial ?_
    refine wRUN (j2 hm1 hw0) ?_
    refine a_loop (κ := Nat × List (List C)) (fun x => ⟨mkS 0 42 [(0, .own (0, 1)), (1, .clo f [.ptr (0, 0) 0]), (5, .c (.int .i64 ((l.take x.1).filter (fun p => !d p)).length)), (6, .c (.int .i64 x.1))], boxR q x.2⟩)
      (fun x => x.1 ≤ l.length ∧ x.2.length = l.length ∧ ((l.take x.1).filter (fun p => !d p)).length < x.1 ∧ x.2.take ((l.take x.1).filter (fun p => !d p)).length = ((l.take x.1).filter (fun p => !d p)).map V.cs ∧ x.2.drop x.1 = (l.drop x.1).map V.cs ∧ ∀ y ∈ x.2, y.length = 5) (fun x => l.length - x.1) (i0 + 1, l.map V.cs) ⟨by dsimp only; omega, by simp, by dsimp only; omega, by dsimp only; rw [hkl, hk0, List.map_take], by dsimp only; rw [List.map_drop], by intro y hy; obtain ⟨q, _, rfl⟩ := List.mem_map.1 hy; rw [V.cs_eq]; rfl⟩ ?_ ?_
    · exact wSays (Says.of [((0, 0), (0, 0)), ((0, 1), (0, 1))] []) hkl
    · rintro ⟨j, L⟩ ⟨hj, hL, hlt0, htk, hdr, h6⟩
      dsimp only at hj hL hlt0 htk hdr h6 ⊢
      by_cases hlt : j < l.length
      · have hdk : decide ((j : Int) < (l.length : Int)) = true := by simpa using hlt
        have hw := wrap_succ (k := j) (by omega)
        have hLj : L[j]? = some (V.cs l[j]) := by
          have : (L.drop j)[0]? = L[j]? := by rw [List.getElem?_drop]; rfl
          rw [← this, hdr]
          rw [List.drop_eq_getElem_cons hlt]
          rfl
        have hg : L[j]? = some [.int .i64 l[j].kind, .int .i64 l[j].num, .str l[j].text, .sl (l[j].keys.map strCs), .sl (l[j].kids.map V.cs)] := by rw [hLj, V.cs_eq]
        have hr : rowsAt L 5 j = true := by unfold rowsAt; rw [Int.toNat_natCast, hLj]; simp [V.cs_eq]
        have hc := hd l[j] (List.getElem_mem hlt)
        have hnext := take_keep (d := fun p => !d p) hlt
        have hdr1 : L.drop (j + 1) = (l.drop (j + 1)).map V.cs := by
          rw [← List.drop_drop, hdr, ← List.map_drop, List.drop_drop]
        cases hb : d l[j] with
        | true =>
          rw [hb] at hc hnext
          simp only [Bool.not_true, Bool.false_eq_true, if_false, List.append_nil] at hnext
          refine wRUN (j4 hL hdk hr hg) ?_
          refine wCall (op_any_call [((0, 0), (0, 0))] [((0, 0), (0, 0))] hc) hcal ?_
          refine wRUN hw ?_
          refine ⟨(j + 1, L), by dsimp only; omega, ⟨by dsimp only; omega, hL, ?_, ?_, hdr1, h6⟩, ?_⟩
          · dsimp only; rw [hnext]; omega
          · dsimp only; rw [hnext]; exact htk
          · exact wSays (Says.of [((0, 0), (0, 0)), ((0, 1), (0, 1))] []) hnext
        | false =>
          rw [hb] at hc hnext
          simp only [Bool.not_false, if_true] at hnext
          have hwi := wrap_succ (k := ((l.take j).filter fun p => !d p).length) (by omega)
          have hnl : ((l.take (j + 1)).filter fun p => !d p).length = ((l.take j).filter fun p => !d p).length + 1 := by rw [hnext]; simp
          have hcsj : V.cs l[j] = [.int .i64 l[j].kind, .int .i64 l[j].num, .str l[j].text, .sl (l[j].keys.map strCs), .sl (l[j].kids.map V.cs)] := V.cs_eq _
          generalize hI : ((l.take j).filter fun p => !d p).length = I at *
          have hIL : I < L.length := by omega
          obtain ⟨old, hold⟩ : ∃ old, L[I]? = some old := ⟨L[I], List.getElem?_eq_getElem hIL⟩
          obtain ⟨o1, o2, o3, o4, o5, rfl⟩ := five_of (h6 old (List.mem_of_getElem? hold))
          have hri : rowsAt L 5 I = true := by unfold rowsAt; rw [Int.toNat_natCast, hold]; rfl
          refine wRUN (j4 hL hdk hr hg) ?_
          refine wCall (op_any_call [((0, 0), (0, 0))] [((0, 0), (0, 0))] hc) hcal ?_
          refine wRUN (j4 hri hold hwi hw) ?_
          refine ⟨(j + 1, L.set I (V.cs l[j])), by dsimp only; omega, ⟨by dsimp only; omega, by dsimp only; rw [List.length_set]; exact hL, ?_, ?_, ?_, ?_⟩, ?_⟩
          · dsimp only; omega
          · dsimp only
            rw [hnl, hnext, List.map_append, ← htk]
            rw [List.set_eq_take_append_cons_drop, if_pos hIL, show L.take I ++ V.cs l[j] :: L.drop (I + 1) = (L.take I ++ [V.cs l[j]]) ++ L.drop (I + 1) by simp]
            exact List.take_left' (by simp; omega)
          · dsimp only
            rw [← hdr1]
            apply List.ext_getElem?
            intro n
            rw [List.getElem?_drop, List.getElem?_drop, List.getElem?_set_ne (by omega)]
          · intro y hy
            rcases List.mem_or_eq_of_mem_set hy with hy | rfl
            · exact h6 y hy
            · rw [V.cs_eq]; rfl
          · exact wSays (Says.of [((0, 0), (0, 0)), ((0, 1), (0, 1))] []) (j2 hnl hcsj)
      · have hdk : decide ((j : Int) < (l.length : Int)) = false := by simpa using hlt
        have hje : l.take j = l := List.take_of_length_le (by omega)
        rw [hje] at htk hlt0 ⊢
        generalize hF : (l.filter fun p => !d p) = F at *
        have hFl : F.length ≤ L.length := by omega
        have hzz : F.length ≤ (L.take F.length ++ List.replicate (L.length - F.length) [C.int .i64 0, .int .i64 0, .str ByteArray.empty, .sl [], .sl []]).length := by simp; omega
        have hfin : (L.take F.length ++ List.replicate (L.length - F.length) [C.int .i64 0, .int .i64 0, .str ByteArray.empty, .sl [], .sl []]).take F.length = F.map V.cs := by
          rw [List.take_append_of_le_length (by rw [List.length_take]; omega), List.take_take, Nat.min_self, htk]
        refine wRUN (j2 hL hdk) ?_
        ((with_reducible apply op_part); (iterate 9 (focus (first | (simp only [go_sem, Nat.reduceEqDiff, Nat.reduceAdd, Nat.reduceSub, Nat.reduceLeDiff, Nat.reduceMul, Nat.reduceBEq, Nat.reduceLT, Int.reduceToNat, reduceCtorEq, hFl]; first | done | exact rfl | (and_intros <;> rfl)) | exact rfl | decide))))
        ((with_reducible apply op_clear); (iterate 12 (focus (first | (simp only [go_sem, Nat.reduceEqDiff, Nat.reduceAdd, Nat.reduceSub, Nat.reduceLeDiff, Nat.reduceMul, Nat.reduceBEq, Nat.reduceLT, Int.reduceToNat, reduceCtorEq, hFl]; first | done | exact rfl | (and_intros <;> rfl)) | exact rfl | decide))))
        refine wRUN trivial ?_
        ((with_reducible apply op_prefix); (iterate 10 (focus (first | (simp only [go_sem, Nat.reduceEqDiff, Nat.reduceAdd, Nat.reduceSub, Nat.reduceLeDiff, Nat.reduceMul, Nat.reduceBEq, Nat.reduceLT, Int.reduceToNat, reduceCtorEq, hzz]; first | done | exact rfl | (and_intros <;> rfl)) | exact rfl | decide))))
        refine wRUN trivial ?_
        exact wRetOf (ret_of [((0, 0), (0, 0)), ((1, 0), (41, 0))] []) Tryz.results187 hfin
/-! impl.sub -/
set_option maxHeartbeats 1000000 in
theorem subIn_ac (x y : V) (hx : x.right) : AC Tryz.prog 189 [y.av, .ptr (0, 0) 0] (boxQ x) (.c (.bool (x.cmp y == 0))) (boxQ x) := by
  have hc := compareVals_ac x.count x y (Nat.le_refl _) hx
  refine wEnter Tryz.func189 Tryz.ntmps189 ?_
  refine wRUN trivial ?_
  refine w7 (op_data [] hc) trivial ?_
  refine wRUN trivial ?_
  exact wRetOf (ret_of [((0, 0), (0, 0))] []) Tryz.results189 hc
set_option maxHeartbeats 1000000 in
theorem subOut_ac (x b : V) (hx : x.right) (hb : b.right) : AC Tryz.prog 188 [x.av, .ptr (0, 0) 0] (boxQ b) (.c (.bool (b.kids.any fun y => x.cmp y == 0))) (boxQ b) := by
  have hkl := kids_len_le hb.2.1
  have hc := containsVals_ac 189 (by simp only [go_sem]) x (fun y => x.cmp y == 0) b.kids (by omega) (fun y _ => subIn_ac x y hx)
  generalize (b.kids.any fun y => x.cmp y == 0) = r at *
  refine wEnter Tryz.func188 Tryz.ntmps188 ?_
  refine wRUN trivial ?_
  refine wCall (op_any_call [((0, 0), (2, 0))] [((0, 0), (2, 0))] hc) trivial ?_
  refine wRUN trivial ?_
  exact wRetOf (ret_of [((0, 0), (0, 0))] []) Tryz.results188 hb
end Go.Proofs.YtpaooephkpjkfaaGreat
