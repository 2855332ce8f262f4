/- Texts of this proof: G64 G65 G66. -/
import Derived.Test.YtfmnoljflcpbgaaGreatDoorKG16uG33
import Derived.Test.YtfmnoljflcpbgaaGreatDoorKA1
import Derived.Test.YtfmnoljflcpbgaaGreatDoorKE6
import Derived.Test.YtfmnoljflcpbgaaGreatDoorKE5
import Derived.Test.YtfmnoljflcpbgaaGreatDoorKM2uG55
set_option linter.unusedSimpArgs false
set_option linter.unusedVariables false
set_option linter.unnecessarySimpa false
namespace Go.Proofs.YtfmnoljflcpbgaaGreatDoor
open Go.RowKit
set_option maxRecDepth 10000
def EditD.cs (d : EditD) : List C := [.int .i64 d.op, .sl (d.path.map CellD.cs), .sl (d.x.map CellD.cs)]
def EditD.os (d : EditD) : List C := [.int .i64 d.op, .osl (d.path.map CellD.cs), .osl (d.x.map CellD.cs)]
def EditD.av (d : EditD) : AV := .agg [.c (.int .i64 d.op), .c (.sl (d.path.map CellD.cs)), .c (.sl (d.x.map CellD.cs))]
abbrev editsA (l : List EditD) : AV := .c (.sl (l.map EditD.cs))
def flatE : List EditD → List (List CellD)
  | [] => []
  | d :: l => d.path :: d.x :: flatE l
def szE (d : EditD) (left : Int) : Int := szGo [d.path, d.x] left
def szER (l : List EditD) (left : Int) : Int := if left - l.length < 0 then -1 else szGo (flatE l) (left - l.length)
def totE (l : List EditD) : Nat := (l.map fun d => 1 + 5 * d.path.length + 5 * d.x.length).sum
theorem szER_le (l : List EditD) (left : Int) (h : 0 ≤ left) : szER l left ≤ left := by
  unfold szER
  split
  · omega
  · have := szGo_le (flatE l) (left - l.length) (by omega)
    omega
theorem szE_le (d : EditD) (left : Int) (h : 0 ≤ left) : szE d left ≤ left := szGo_le _ left h
theorem totE_eq : ∀ (l : List EditD), totE l = l.length + 5 * tot (flatE l)
  | [] => rfl
  | d :: l => by
    have := totE_eq l
    simp only [totE, tot, flatE, List.map_cons, List.sum_cons, List.length_cons] at this ⊢
    omega
theorem flatE_mem : ∀ {l : List EditD} {d : EditD}, d ∈ l → d.path ∈ flatE l ∧ d.x ∈ flatE l
  | e :: l, d, h => by
    rcases List.mem_cons.1 h with rfl | h
    · simp [flatE]
    · obtain ⟨h1, h2⟩ := flatE_mem h
      simp [flatE, h1, h2]
theorem szER_tot {l : List EditD} {left : Int} (h : ¬ szER l left < 0) (hl : left ≤ 1048576) : l.length ≤ 1048576 ∧ totE l ≤ 8000000 ∧ ∀ d ∈ l, d.path.length ≤ 1048576 ∧ d.x.length ≤ 1048576 := by
  unfold szER at h
  by_cases hs : left - l.length < 0
  · rw [if_pos hs] at h; exact absurd (by decide) h
  · rw [if_neg hs] at h
    obtain ⟨h1, h2⟩ := szGo_tot (flatE l) _ (by omega) h
    refine ⟨by omega, by rw [totE_eq]; omega, fun d hd => ?_⟩
    obtain ⟨h3, h4⟩ := flatE_mem hd
    have := h2 _ h3
    have := h2 _ h4
    omega
theorem szGo_edit (d : EditD) (l : List EditD) (left : Int) : szGo (flatE (d :: l)) left = if szE d left < 0 then -1 else szGo (flatE l) (szE d left) := by
  unfold szE
  simp only [flatE, szGo]
  by_cases h1 : szR d.path left < 0
  · simp only [if_pos h1, if_pos (show (-1 : Int) < 0 by decide)]
  · simp only [if_neg h1]
    by_cases h2 : szR d.x (szR d.path left) < 0
    · simp only [if_pos h2, if_pos (show (-1 : Int) < 0 by decide)]
    · simp only [if_neg h2]
theorem forget_edits (l : List EditD) : forgetLL (l.map EditD.os) = l.map EditD.cs := by
  induction l with
  | nil => rfl
  | cons d l ih => simp only [List.map_cons, forgetLL, ih, EditD.os, EditD.cs, forgetL, C.forget, forget_cells]
theorem closed_edits (l : List EditD) : closedLL (l.map EditD.os) = true := by
  induction l with
  | nil => rfl
  | cons d l ih => simp only [List.map_cons, closedLL, ih, Bool.and_true, EditD.os, closedL, C.closed, closed_cells]
theorem all_edits (l : List EditD) : ((l.map EditD.os).all fun r => r.length == 3) = true := by simp [EditD.os]
attribute [go_sem] forget_edits closed_edits all_edits EditD.av
theorem edit_row (l : List EditD) {k : Nat} (h : k < l.length) : rowsAt (l.map EditD.cs) 3 k = true ∧ (l.map EditD.cs)[k]? = some [.int .i64 l[k].op, .sl (l[k].path.map CellD.cs), .sl (l[k].x.map CellD.cs)] := ⟨by simp [rowsAt, h, EditD.cs], by simp [h, EditD.cs]⟩
theorem szEdit_ac (d : EditD) (hz : EditOk d) (left : Int) (h0 : 0 ≤ left) (h1 : left ≤ 1048576) : AC Tryz.prog 56 [d.av, .c (.int .i64 left)] [] (.c (.int .i64 (szE d left))) [] := by
  obtain ⟨z1, z2, l1, l2⟩ := hz
  have hs := szCellS_ac d.path z1 l1 left h0 h1
  have hle := szR_le d.path left h0
  unfold szE
  simp only [szGo]
  by_cases hn : szR d.path left < 0
  · have hd : decide (szR d.path left < 0) = true := by simpa using hn
    rw [if_pos hn]
    refine wEnter Tryz.func56 Tryz.ntmps56 ?_
    refine wRUN trivial ?_
    refine w7 (op_data [] hs) trivial ?_
    refine wRUN hd ?_
    exact wRet (ret_data []) Tryz.results56
  · have hd : decide (szR d.path left < 0) = false := by simpa using hn
    have hs2 := szCellS_ac d.x z2 l2 (szR d.path left) (by omega) (by omega)
    rw [if_neg hn]
    by_cases hm : szR d.x (szR d.path left) < 0
    · have hd2 : decide (szR d.x (szR d.path left) < 0) = true := by simpa using hm
      rw [if_pos hm]
      refine wEnter Tryz.func56 Tryz.ntmps56 ?_
      refine wRUN trivial ?_
      refine w7 (op_data [] hs) trivial ?_
      refine wRUN hd ?_
      refine w7 (op_data [] hs2) trivial ?_
      refine wRUN hd2 ?_
      exact wRet (ret_data []) Tryz.results56
    · have hd2 : decide (szR d.x (szR d.path left) < 0) = false := by simpa using hm
      rw [if_neg hm]
      refine wEnter Tryz.func56 Tryz.ntmps56 ?_
      refine wRUN trivial ?_
      refine w7 (op_data [] hs) trivial ?_
      refine wRUN hd ?_
      refine w7 (op_data [] hs2) trivial ?_
      refine wRUN hd2 ?_
      exact wRet (ret_data []) Tryz.results56
set_option maxHeartbeats 4000000 in
theorem szEditS_ac (l : List EditD) (hz : ∀ d ∈ l, EditOk d) (hl : l.length ≤ 9223372036854775807) (left : Int) (h0 : 0 ≤ left) (h1 : left ≤ 1048576) : AC Tryz.prog 21 [editsA l, .c (.int .i64 left)] [] (.c (.int .i64 (szER l left))) [] := by
  have w1 : IntKind.i64.wrap (left - l.length) = left - l.length := wrap_in (by omega) (by omega)
  have hln : (l.map EditD.cs).length = l.length := by simp
  unfold szER
  by_cases hn : left - l.length < 0
  · have hd : decide (left - (l.length : Int) < 0) = true := by simpa using hn
    rw [if_pos hn]
    refine wEnter Tryz.func21 Tryz.ntmps21 ?_
    refine wRUN (j3 w1 hd hln) ?_
    exact wRet (ret_data []) Tryz.results21
  · have hd : decide (left - (l.length : Int) < 0) = false := by simpa using hn
    rw [if_neg hn]
    obtain ⟨R, hR⟩ : ∃ R, szGo (flatE l) (left - l.length) = R := ⟨_, rfl⟩
    rw [hR]
    refine wEnter Tryz.func21 Tryz.ntmps21 ?_
    refine wRUN (j3 w1 hd hln) ?_
    refine a_loop (κ := Nat × Int) (fun x => ⟨mkS 0 27 [(0, editsA l), (1, .c (.int .i64 x.2)), (5, .c (.int .i64 x.1))], []⟩)
      (fun x => x.1 ≤ l.length ∧ 0 ≤ x.2 ∧ x.2 ≤ 1048576 ∧ szGo (flatE (l.drop x.1)) x.2 = R) (fun x => l.length - x.1) (0, left - l.length) ⟨Nat.zero_le _, by omega, by omega, hR⟩ ?_ ?_
    · exact wSays (Says.of [] []) hd
    · rintro ⟨k, L⟩ ⟨hk, hL0, hL1, hRk⟩
      dsimp only at hk hL0 hL1 hRk ⊢
      by_cases hlt : k < l.length
      · have hdk : decide ((k : Int) < (l.length : Int)) = true := by simpa using hlt
        have hw := wrap_succ (k := k) (by omega)
        obtain ⟨hr0, hg0⟩ := edit_row l hlt
        have hmem := List.getElem_mem hlt
        have hca := szEdit_ac l[k] (hz _ hmem) L hL0 hL1
        have hle := szE_le l[k] L hL0
        rw [List.drop_eq_getElem_cons hlt, szGo_edit] at hRk
        generalize l[k] = x at *
        by_cases hm : szE x L < 0
        · rw [if_pos hm] at hRk
          have hdm : decide (szE x L < 0) = true := by simpa using hm
          subst hRk
          refine wRUN (j4 hdk hr0 hg0 hln) ?_
          refine w7 (op_data [] hca) trivial ?_
          refine wRUN hdm ?_
          exact wRet (ret_data []) Tryz.results21
        · rw [if_neg hm] at hRk
          have hdm : decide (szE x L < 0) = false := by simpa using hm
          refine wRUN (j4 hdk hr0 hg0 hln) ?_
          refine w7 (op_data [] hca) trivial ?_
          refine wRUN (j2 hdm hw) ?_
          refine ⟨(k + 1, szE x L), by dsimp only; omega, ⟨by dsimp only; omega, by dsimp only; omega, by dsimp only; omega, hRk⟩, ?_⟩
          exact wSays (Says.of [] []) hw
      · have hdk : decide ((k : Int) < (l.length : Int)) = false := by simpa using hlt
        rw [List.drop_eq_nil_of_le (by omega)] at hRk
        have hRL : L = R := hRk
        subst hRL
        refine wRUN (j2 hdk hln) ?_
        exact wRet (ret_data []) Tryz.results21
theorem toEdit_ac (d : EditD) (hl : d.path.length ≤ 1048576 ∧ d.x.length ≤ 1048576) : AC Tryz.prog 59 [d.av] [] (.agg [.c (.int .i64 d.op), .own (0, 0), .own (0, 1)]) [((0, 0), .row false 5 69 (d.path.map CellD.cs)), ((0, 1), .row false 5 69 (d.x.map CellD.cs))] := by
  have ht := toCellS_ac d.path hl.1
  have ht2 := toCellS_ac d.x hl.2
  refine wEnter Tryz.func59 Tryz.ntmps59 ?_
  refine wRUN trivial ?_
  refine w12 (op_rowT [] ht) trivial ?_
  refine wRUN trivial ?_
  refine w12 (op_rowT [] ht2) trivial ?_
  refine wRUN trivial ?_
  exact wRetOf (ret_of [((0, 0), (9, 0)), ((0, 1), (13, 0))] []) Tryz.results59 hl
def madeE (l : List EditD) (k : Nat) : List (List C) := (l.take k).map EditD.os ++ List.replicate (l.length - k) [.int .i64 0, .sl [], .sl []]
theorem madeE_zero (l : List EditD) : madeE l 0 = List.replicate l.length [.int .i64 0, .sl [], .sl []] := by simp [madeE]
theorem madeE_full (l : List EditD) : madeE l l.length = l.map EditD.os := by simp [madeE]
theorem madeE_at (l : List EditD) {k : Nat} (h : k < l.length) : (madeE l k)[k]? = some [.int .i64 0, .sl [], .sl []] := by
  unfold madeE
  rw [List.getElem?_append_right (by simp; omega), List.length_map, List.length_take, Nat.min_eq_left (by omega), Nat.sub_self, List.getElem?_replicate, if_pos (by omega)]
theorem madeE_rows (l : List EditD) {k : Nat} (h : k < l.length) : rowsAt (madeE l k) 3 k = true := by
  unfold rowsAt
  rw [show ((k : Nat) : Int).toNat = k from rfl, madeE_at l h]
  simp
theorem madeE_set (l : List EditD) {k : Nat} (h : k < l.length) : (madeE l k).set k [.int .i64 l[k].op, .osl (l[k].path.map CellD.cs), .osl (l[k].x.map CellD.cs)] = madeE l (k + 1) := by
  have hl : ((l.take k).map EditD.os).length = k := by simp; omega
  unfold madeE
  rw [List.set_append_right _ _ (by omega), hl, Nat.sub_self, List.take_succ_eq_append_getElem h, List.map_append, List.append_assoc]
  have : l.length - k = (l.length - (k + 1)) + 1 := by omega
  rw [this, List.replicate_succ]
  simp [EditD.os]
set_option maxHeartbeats 4000000 in
theorem toEditS_ac (l : List EditD) (hl : l.length ≤ 1048576) (hy : ∀ d ∈ l, d.path.length ≤ 1048576 ∧ d.x.length ≤ 1048576) : AC Tryz.prog 23 [editsA l] [] (.own (0, 0)) [((0, 0), .row true 3 91 (l.map EditD.os))] := by
  have hln : (l.map EditD.cs).length = l.length := by simp
  have h2 : (0 : Int) ≤ (l.length : Int) := by omega
  have h3 : (l.length : Int) ≤ 2000000 := by omega
  have hmz := madeE_zero l
  refine wEnter Tryz.func23 Tryz.ntmps23 ?_
  refine wRUN (j3 hln h2 h3) ?_
  refine a_loop (κ := Nat) (fun k => ⟨mkS 0 23 [(0, editsA l), (3, .own (99, 0)), (4, .c (.int .i64 k))], [((99, 0), .row true 3 91 (madeE l k))]⟩)
    (fun k => k ≤ l.length) (fun k => l.length - k) 0 (Nat.zero_le _) ?_ ?_
  · exact wSays (Says.of [((99, 0), (7, 0))] []) hmz
  · intro k hk
    by_cases hlt : k < l.length
    · have hdk : decide ((k : Int) < (l.length : Int)) = true := by simpa using hlt
      have hw := wrap_succ (k := k) (by omega)
      obtain ⟨hr0, hg0⟩ := edit_row l hlt
      have hmem := List.getElem_mem hlt
      have hca := toEdit_ac l[k] (hy _ hmem)
      have hm1 := madeE_at l hlt
      have hm2 := madeE_rows l hlt
      have hm3 := madeE_set l hlt
      generalize l[k] = x at *
      refine wRUN (j4 hdk hr0 hg0 hln) ?_
      refine wCall (op_any_call [] [((0, 0), (97, 0)), ((0, 1), (98, 0))] hca) trivial ?_
      refine wRUN hm2 ?_
      ((with_reducible apply op_giveAll); (iterate 13 (focus (first | (simp only [go_sem, Nat.reduceEqDiff, Nat.reduceAdd, Nat.reduceSub, Nat.reduceLeDiff, Nat.reduceMul, Nat.reduceBEq, Nat.reduceLT, Int.reduceToNat, reduceCtorEq, hm1]; first | done | exact rfl | (and_intros <;> rfl)) | exact rfl | decide))))
      refine wRUN hw ?_
      refine ⟨k + 1, by omega, by omega, ?_⟩
      exact wSays (Says.of [((99, 0), (99, 0))] []) hm3
    · have hdk : decide ((k : Int) < (l.length : Int)) = false := by simpa using hlt
      have hke : k = l.length := by omega
      subst hke
      have hmf := madeE_full l
      refine wRUN (j2 hdk hln) ?_
      exact wRetOf (ret_of [((0, 0), (99, 0))] []) Tryz.results23 hmf
theorem eqEdit_ac (d : EditD) (hl : d.path.length ≤ 9223372036854775807 ∧ d.x.length ≤ 9223372036854775807) : AC Tryz.prog 64 [d.av, d.av] [] (.c (.bool true)) [] := by
  have h1 : (d.op != d.op) = false := by simp
  have he := eqCellS_ac d.path hl.1
  have he2 := eqCellS_ac d.x hl.2
  refine wEnter Tryz.func64 Tryz.ntmps64 ?_
  refine wRUN h1 ?_
  refine w7 (op_data [] he) trivial ?_
  refine wRUN trivial ?_
  refine w7 (op_data [] he2) trivial ?_
  refine wRUN trivial ?_
  exact wRet (ret_data []) Tryz.results64
set_option maxHeartbeats 2000000 in
theorem eqEditS_ac (l : List EditD) (hl : l.length ≤ 1048576) (hx : ∀ d ∈ l, d.path.length ≤ 9223372036854775807 ∧ d.x.length ≤ 9223372036854775807) : AC Tryz.prog 25 [editsA l, editsA l] [] (.c (.bool true)) [] := by
  have hln : (l.map EditD.cs).length = l.length := by simp
  have hne : ((l.length : Int) != (l.length : Int)) = false := by simp
  refine wEnter Tryz.func25 Tryz.ntmps25 ?_
  refine wRUN (j2 hln hne) ?_
  refine a_loop (κ := Nat) (fun k => ⟨mkS 0 27 [(0, editsA l), (1, editsA l), (5, .c (.int .i64 k))], []⟩)
    (fun k => k ≤ l.length) (fun k => l.length - k) 0 (Nat.zero_le _) ?_ ?_
  · exact wSays (Says.of [] []) hne
  · intro k hk
    by_cases hlt : k < l.length
    · have hdk : decide ((k : Int) < (l.length : Int)) = true := by simpa using hlt
      have hw := wrap_succ (k := k) (by omega)
      obtain ⟨hr0, hg0⟩ := edit_row l hlt
      have he := eqEdit_ac l[k] (hx _ (List.getElem_mem hlt))
      generalize l[k] = x at *
      refine wRUN (j4 hln hdk hr0 hg0) ?_
      refine w7 (op_data [] he) trivial ?_
      refine wRUN hw ?_
      refine ⟨k + 1, by omega, by omega, ?_⟩
      exact wSays (Says.of [] []) hw
    · have hdk : decide ((k : Int) < (l.length : Int)) = false := by simpa using hlt
      refine wRUN (j2 hln hdk) ?_
      exact wRet (ret_data []) Tryz.results25
end Go.Proofs.YtfmnoljflcpbgaaGreatDoor



/- impl.editFault, EditsFault; spec.l14Edit, EditsFault, by the engine. -/
namespace Go.Proofs.YtfmnoljflcpbgaaGreatDoor
open Go.RowKit
set_option maxRecDepth 10000
theorem implFault_ac (xs : List CellD) (hz : Sized xs) : AC Tryz.prog 91 [cellsA xs] [] (.c (.int .i64 (dec xs).1)) [] := by
  rcases dec_cases xs with ⟨t, ht⟩ | ⟨c, _, ht⟩
  · have hv := valOf_ac xs hz (t := t) (by rw [ht])
    rw [ht]
    refine wEnter Tryz.func91 Tryz.ntmps91 ?_
    refine wRUN trivial ?_
    refine w9 (op_shared [] hv) trivial ?_
    refine wRUN trivial ?_
    exact wRet (ret_data []) Tryz.results91
  · have hv := valOf_bad xs hz (by rw [ht])
    refine wEnter Tryz.func91 Tryz.ntmps91 ?_
    refine wRUN trivial ?_
    refine w9 (op_shared [] hv) noV_eq ?_
    refine wRUN noV_eq ?_
    exact wRet (ret_data []) Tryz.results91
set_option maxHeartbeats 4000000 in
theorem editFault_ac (d : EditD) (hz : EditOk d) : AC Tryz.prog 117 [d.av] [] (.c (.int .i64 (editCode d))) [] := by
  obtain ⟨z1, z2, _, _⟩ := hz
  unfold editCode
  cases hb1 : d.op != 1 with
  | true =>
    cases hb2 : d.op != 2 with
    | true =>
      refine wEnter Tryz.func117 Tryz.ntmps117 ?_
      refine wRUN (j2 hb1 hb2) ?_
      exact wRet (ret_data []) Tryz.results117
    | false =>
      have h2 : d.op = 2 := by simpa using hb2
      have he1 : (d.op == 1) = false := by simp [h2]
      rcases pathDec_cases d.path with ⟨s, _, _, _, _, _, _, hp⟩ | ⟨c, hc, hp⟩
      · rw [hp]
        have hpo := pathOf_ac d.path z1 hp
        have h00 : ((0 : Int) != 0) = false := rfl
        simp only [Bool.true_and, Bool.false_eq_true, if_false, he1]
        cases hx : d.x.length with
        | succ n =>
          have hg : decide ((((d.x.map CellD.cs).length : Nat) : Int) > 0) = true := by rw [List.length_map, hx]; simp
          have hg2 : decide (((n + 1 : Nat) : Int) > 0) = true := by simp
          simp only [Nat.succ_ne_zero, ne_eq, not_false_eq_true, true_or, if_true]
          refine wEnter Tryz.func117 Tryz.ntmps117 ?_
          refine wRUN (j2 hb1 hb2) ?_
          refine w9 (op_shared [] hpo) trivial ?_
          refine wRUN (j4 h00 he1 hx hg2) ?_
          exact wRet (ret_data []) Tryz.results117
        | zero =>
          have hg2 : decide (((0 : Nat) : Int) > 0) = false := rfl
          have hg3 : decide ((0 : Int) > 0) = false := rfl
          cases hk : s.kids.length with
          | succ n =>
            have hk0 : (((n + 1 : Nat) : Int) == 0) = false := by simp; omega
            simp only [ne_eq, not_true_eq_false, false_or, Nat.succ_ne_zero, if_false]
            refine wEnter Tryz.func117 Tryz.ntmps117 ?_
            refine wRUN (j2 hb1 hb2) ?_
            refine w9 (op_shared [] hpo) trivial ?_
            refine wRUN (j7 h00 he1 hx hg2 hg3 hk hk0) ?_
            exact wRet (ret_data []) Tryz.results117
          | zero =>
            have hk0 : (((0 : Nat) : Int) == 0) = true := rfl
            have hk1 : ((0 : Int) == 0) = true := rfl
            simp only [ne_eq, not_true_eq_false, false_or, if_true]
            refine wEnter Tryz.func117 Tryz.ntmps117 ?_
            refine wRUN (j2 hb1 hb2) ?_
            refine w9 (op_shared [] hpo) trivial ?_
            refine wRUN (j8 h00 he1 hx hg2 hg3 hk hk0 hk1) ?_
            exact wRet (ret_data []) Tryz.results117
      · rw [hp]
        have hpo := pathOf_bad d.path z1 hp
        have hcb : (c != 0) = true := by simpa using hc
        simp only [Bool.true_and, Bool.false_eq_true, if_false]
        refine wEnter Tryz.func117 Tryz.ntmps117 ?_
        refine wRUN (j2 hb1 hb2) ?_
        refine w9 (op_shared [] hpo) trivial ?_
        refine wRUN hcb ?_
        exact wRet (ret_data []) Tryz.results117
  | false =>
    have h1 : d.op = 1 := by simpa using hb1
    have he1 : (d.op == 1) = true := by simp [h1]
    rcases pathDec_cases d.path with ⟨s, _, _, _, _, _, _, hp⟩ | ⟨c, hc, hp⟩
    · rw [hp]
      have hpo := pathOf_ac d.path z1 hp
      have h00 : ((0 : Int) != 0) = false := rfl
      have hf := implFault_ac d.x z2
      simp only [Bool.false_and, Bool.false_eq_true, if_false, he1, if_true]
      refine wEnter Tryz.func117 Tryz.ntmps117 ?_
      refine wRUN hb1 ?_
      refine w9 (op_shared [] hpo) trivial ?_
      refine wRUN (j2 h00 he1) ?_
      refine w7 (op_data [] hf) trivial ?_
      refine wRUN trivial ?_
      exact wRet (ret_data []) Tryz.results117
    · rw [hp]
      have hpo := pathOf_bad d.path z1 hp
      have hcb : (c != 0) = true := by simpa using hc
      simp only [Bool.false_and, Bool.false_eq_true, if_false]
      refine wEnter Tryz.func117 Tryz.ntmps117 ?_
      refine wRUN hb1 ?_
      refine w9 (op_shared [] hpo) trivial ?_
      refine wRUN hcb ?_
      exact wRet (ret_data []) Tryz.results117
set_option maxHeartbeats 4000000 in
theorem l14Edit_ac (d : EditD) : AC Tryz.prog 116 [d.av] [] (.c (.int .i64 (editCode d))) [] := by
  unfold editCode
  have hpo := specPath_ac d.path
  cases hb1 : d.op != 1 with
  | true =>
    cases hb2 : d.op != 2 with
    | true =>
      refine wEnter Tryz.func116 Tryz.ntmps116 ?_
      refine wRUN (j2 hb1 hb2) ?_
      exact wRet (ret_data []) Tryz.results116
    | false =>
      have h2 : d.op = 2 := by simpa using hb2
      have he1 : (d.op == 1) = false := by simp [h2]
      rcases pathDec_cases d.path with ⟨s, hs, hw1, hw2, hw3, _, _, hp⟩ | ⟨c, hc, hp⟩
      · rw [hp] at hpo ⊢
        have h00 : ((0 : Int) != 0) = false := rfl
        simp only [Bool.true_and, Bool.false_eq_true, if_false, he1]
        have hr0 := enc_rows s
        have hg0 := enc_head s
        rw [← hs] at hr0 hg0
        cases hx : d.x.length with
        | succ n =>
          have hg2 : decide (((n + 1 : Nat) : Int) > 0) = true := by simp
          simp only [Nat.succ_ne_zero, ne_eq, not_false_eq_true, true_or, if_true]
          refine wEnter Tryz.func116 Tryz.ntmps116 ?_
          refine wRUN (j2 hb1 hb2) ?_
          refine w7 (op_data [] hpo) trivial ?_
          refine wRUN (j4 h00 he1 hx hg2) ?_
          exact wRet (ret_data []) Tryz.results116
        | zero =>
          have hg2 : decide (((0 : Nat) : Int) > 0) = false := rfl
          have hg3 : decide ((0 : Int) > 0) = false := rfl
          cases hk : s.kids.length with
          | succ n =>
            rw [hk] at hg0
            have hk0 : (((n + 1 : Nat) : Int) == 0) = false := by simp; omega
            simp only [ne_eq, not_true_eq_false, false_or, Nat.succ_ne_zero, if_false]
            refine wEnter Tryz.func116 Tryz.ntmps116 ?_
            refine wRUN (j2 hb1 hb2) ?_
            refine w7 (op_data [] hpo) trivial ?_
            refine wRUN (j8 h00 he1 hx hg2 hg3 hr0 hg0 hk0) ?_
            exact wRet (ret_data []) Tryz.results116
          | zero =>
            rw [hk] at hg0
            have hk0 : (((0 : Nat) : Int) == 0) = true := rfl
            have hk1 : ((0 : Int) == 0) = true := rfl
            simp only [ne_eq, not_true_eq_false, false_or, if_true]
            refine wEnter Tryz.func116 Tryz.ntmps116 ?_
            refine wRUN (j2 hb1 hb2) ?_
            refine w7 (op_data [] hpo) trivial ?_
            refine wRUN (j9 h00 he1 hx hg2 hg3 hr0 hg0 hk0 hk1) ?_
            exact wRet (ret_data []) Tryz.results116
      · rw [hp] at hpo ⊢
        have hcb : (c != 0) = true := by simpa using hc
        simp only [Bool.true_and, Bool.false_eq_true, if_false]
        refine wEnter Tryz.func116 Tryz.ntmps116 ?_
        refine wRUN (j2 hb1 hb2) ?_
        refine w7 (op_data [] hpo) trivial ?_
        refine wRUN hcb ?_
        exact wRet (ret_data []) Tryz.results116
  | false =>
    have h1 : d.op = 1 := by simpa using hb1
    have he1 : (d.op == 1) = true := by simp [h1]
    rcases pathDec_cases d.path with ⟨s, _, _, _, _, _, _, hp⟩ | ⟨c, hc, hp⟩
    · rw [hp] at hpo ⊢
      have h00 : ((0 : Int) != 0) = false := rfl
      have hf := fault_ac d.x
      simp only [Bool.false_and, Bool.false_eq_true, if_false, he1, if_true]
      refine wEnter Tryz.func116 Tryz.ntmps116 ?_
      refine wRUN hb1 ?_
      refine w7 (op_data [] hpo) trivial ?_
      refine wRUN (j2 h00 he1) ?_
      refine w7 (op_data [] hf) trivial ?_
      refine wRUN trivial ?_
      exact wRet (ret_data []) Tryz.results116
    · rw [hp] at hpo ⊢
      have hcb : (c != 0) = true := by simpa using hc
      simp only [Bool.false_and, Bool.false_eq_true, if_false]
      refine wEnter Tryz.func116 Tryz.ntmps116 ?_
      refine wRUN hb1 ?_
      refine w7 (op_data [] hpo) trivial ?_
      refine wRUN hcb ?_
      exact wRet (ret_data []) Tryz.results116
theorem firstEdit_drop {l : List EditD} {k : Nat} (h : k < l.length) : firstEdit (l.drop k) = if editCode l[k] ≠ 0 then editCode l[k] else firstEdit (l.drop (k + 1)) := by
  rw [List.drop_eq_getElem_cons h]
  rfl
set_option maxHeartbeats 4000000 in
theorem implEdits_ac (l : List EditD) (hz : ∀ d ∈ l, EditOk d) (hl : l.length ≤ 9223372036854775807) : AC Tryz.prog 60 [editsA l] [] (.c (.int .i64 (editsCode l))) [] := by
  have hln : (l.map EditD.cs).length = l.length := by simp
  unfold editsCode
  by_cases hm : 100 < l.length
  · have hd : decide ((l.length : Int) > 100) = true := by simp; omega
    rw [if_pos hm]
    refine wEnter Tryz.func60 Tryz.ntmps60 ?_
    refine wRUN (j2 hln hd) ?_
    exact wRet (ret_data []) Tryz.results60
  · have hd : decide ((l.length : Int) > 100) = false := by simp; omega
    rw [if_neg hm]
    obtain ⟨R, hR⟩ : ∃ R, firstEdit l = R := ⟨_, rfl⟩
    rw [hR]
    refine wEnter Tryz.func60 Tryz.ntmps60 ?_
    refine wRUN (j2 hln hd) ?_
    refine a_loop (κ := Nat) (fun k => ⟨mkS 0 21 [(9, editsA l), (10, .c (.int .i64 l.length)), (11, .c (.int .i64 k))], []⟩)
      (fun k => k ≤ l.length ∧ firstEdit (l.drop k) = R) (fun k => l.length - k) 0 ⟨Nat.zero_le _, hR⟩ ?_ ?_
    · exact wSays (Says.of [] []) hln
    · rintro k ⟨hk, hRk⟩
      by_cases hlt : k < l.length
      · have hdk : decide ((k : Int) < (l.length : Int)) = true := by simpa using hlt
        have hw := wrap_succ (k := k) (by omega)
        obtain ⟨hr0, hg0⟩ := edit_row l hlt
        have hca := editFault_ac l[k] (hz _ (List.getElem_mem hlt))
        rw [firstEdit_drop hlt] at hRk
        generalize l[k] = x at *
        by_cases hc : editCode x ≠ 0
        · have hcb : (editCode x != 0) = true := by simpa using hc
          rw [if_pos hc] at hRk
          subst hRk
          refine wRUN (j3 hdk hr0 hg0) ?_
          refine w7 (op_data [] hca) trivial ?_
          refine wRUN hcb ?_
          exact wRet (ret_data []) Tryz.results60
        · have hcb : (editCode x != 0) = false := by simpa using hc
          rw [if_neg hc] at hRk
          refine wRUN (j3 hdk hr0 hg0) ?_
          refine w7 (op_data [] hca) trivial ?_
          refine wRUN (j2 hcb hw) ?_
          refine ⟨k + 1, by omega, ⟨by omega, hRk⟩, ?_⟩
          exact wSays (Says.of [] []) hw
      · have hdk : decide ((k : Int) < (l.length : Int)) = false := by simpa using hlt
        rw [List.drop_eq_nil_of_le (by omega)] at hRk
        have hR0 : (0 : Int) = R := hRk
        subst hR0
        refine wRUN hdk ?_
        exact wRet (ret_data []) Tryz.results60
set_option maxHeartbeats 4000000 in
theorem specEdits_ac (l : List EditD) (hl : l.length ≤ 9223372036854775807) : AC Tryz.prog 57 [editsA l] [] (.c (.int .i64 (editsCode l))) [] := by
  have hln : (l.map EditD.cs).length = l.length := by simp
  unfold editsCode
  by_cases hm : 100 < l.length
  · have hd : decide ((l.length : Int) > 100) = true := by simp; omega
    rw [if_pos hm]
    refine wEnter Tryz.func57 Tryz.ntmps57 ?_
    refine wRUN (j2 hln hd) ?_
    exact wRet (ret_data []) Tryz.results57
  · have hd : decide ((l.length : Int) > 100) = false := by simp; omega
    rw [if_neg hm]
    obtain ⟨R, hR⟩ : ∃ R, firstEdit l = R := ⟨_, rfl⟩
    rw [hR]
    refine wEnter Tryz.func57 Tryz.ntmps57 ?_
    refine wRUN (j2 hln hd) ?_
    refine a_loop (κ := Nat) (fun k => ⟨mkS 0 22 [(0, editsA l), (3, .c (.int .i64 k))], []⟩)
      (fun k => k ≤ l.length ∧ firstEdit (l.drop k) = R) (fun k => l.length - k) 0 ⟨Nat.zero_le _, hR⟩ ?_ ?_
    · exact wSays (Says.of [] []) hln
    · rintro k ⟨hk, hRk⟩
      by_cases hlt : k < l.length
      · have hdk : decide ((k : Int) < (l.length : Int)) = true := by simpa using hlt
        have hw := wrap_succ (k := k) (by omega)
        obtain ⟨hr0, hg0⟩ := edit_row l hlt
        have hca := l14Edit_ac l[k]
        rw [firstEdit_drop hlt] at hRk
        generalize l[k] = x at *
        by_cases hc : editCode x ≠ 0
        · have hcb : (editCode x != 0) = true := by simpa using hc
          rw [if_pos hc] at hRk
          subst hRk
          refine wRUN (j4 hln hdk hr0 hg0) ?_
          refine w7 (op_data [] hca) trivial ?_
          refine wRUN hcb ?_
          exact wRet (ret_data []) Tryz.results57
        · have hcb : (editCode x != 0) = false := by simpa using hc
          rw [if_neg hc] at hRk
          refine wRUN (j4 hln hdk hr0 hg0) ?_
          refine w7 (op_data [] hca) trivial ?_
          refine wRUN (j2 hcb hw) ?_
          refine ⟨k + 1, by omega, ⟨by omega, hRk⟩, ?_⟩
          exact wSays (Says.of [] []) hw
      · have hdk : decide ((k : Int) < (l.length : Int)) = false := by simpa using hlt
        rw [List.drop_eq_nil_of_le (by omega)] at hRk
        have hR0 : (0 : Int) = R := hRk
        subst hR0
        refine wRUN (j2 hln hdk) ?_
        exact wRet (ret_data []) Tryz.results57
end Go.Proofs.YtfmnoljflcpbgaaGreatDoor
