/- The laws' own functions on an argument []In: szIn, szInS, toIn, toInS, eqIn, eqInS, markInS. -/
import Derived.Test.YtfmnoljflcpbgaaGreatDoorKG16uE37
import Derived.Test.YtfmnoljflcpbgaaGreatDoorKM13uG35
import Derived.Test.YtfmnoljflcpbgaaGreatDoorKE5
set_option linter.unusedSimpArgs false
set_option linter.unusedVariables false
set_option linter.unnecessarySimpa false
namespace Go.Proofs.YtfmnoljflcpbgaaGreatDoor
open Go.RowKit
set_option maxRecDepth 10000
def InD.os (d : InD) : List C := [.int .i64 d.op, .int .i64 d.arg, .osl (d.val.map CellD.cs)]
def szNR (l : List InD) (left : Int) : Int := szLR (l.map InD.val) left
def totI (l : List InD) : Nat := (l.map fun d => 2 + 5 * d.val.length).sum
theorem szNR_le (l : List InD) (left : Int) (h : 0 ≤ left) : szNR l left ≤ left := szLR_le _ left h
theorem totI_eq : ∀ (l : List InD), totI l = 2 * l.length + 5 * tot (l.map InD.val)
  | [] => rfl
  | d :: l => by
    have := totI_eq l
    simp only [totI, tot, List.map_cons, List.sum_cons, List.length_cons] at this ⊢
    omega
theorem szNR_tot {l : List InD} {left : Int} (h : ¬ szNR l left < 0) (hl : left ≤ 1048576) : l.length ≤ 1048576 ∧ totI l ≤ 8000000 ∧ ∀ d ∈ l, d.val.length ≤ 1048576 := by
  obtain ⟨h1, h2, h3⟩ := szLR_tot h hl
  rw [List.length_map] at h1
  refine ⟨h1, by rw [totI_eq]; omega, fun d hd => h3 _ (List.mem_map.2 ⟨d, hd, rfl⟩)⟩
theorem forget_ins (l : List InD) : forgetLL (l.map InD.os) = l.map InD.cs := by
  induction l with
  | nil => rfl
  | cons d l ih => simp only [List.map_cons, forgetLL, ih, InD.os, InD.cs, forgetL, C.forget, forget_cells]
theorem closed_ins (l : List InD) : closedLL (l.map InD.os) = true := by
  induction l with
  | nil => rfl
  | cons d l ih => simp only [List.map_cons, closedLL, ih, Bool.and_true, InD.os, closedL, C.closed, closed_cells]
theorem all_ins (l : List InD) : ((l.map InD.os).all fun r => r.length == 3) = true := by simp [InD.os]
attribute [go_sem] forget_ins closed_ins all_ins
theorem in_row (l : List InD) {k : Nat} (h : k < l.length) : rowsAt (l.map InD.cs) 3 k = true ∧ (l.map InD.cs)[k]? = some [.int .i64 l[k].op, .int .i64 l[k].arg, .sl (l[k].val.map CellD.cs)] := ⟨by simp [rowsAt, h, InD.cs], by simp [h, InD.cs]⟩
theorem szIn_ac (d : InD) (hz : Sized63 d.val) (hl : d.val.length ≤ 9223372036854775807) (left : Int) (h0 : 0 ≤ left) (h1 : left ≤ 1048576) : AC Tryz.prog 68 [d.av, .c (.int .i64 left)] [] (.c (.int .i64 (szR d.val left))) [] := by
  have hs := szCellS_ac d.val hz hl left h0 h1
  by_cases hn : szR d.val left < 0
  · have hd : decide (szR d.val left < 0) = true := by simpa using hn
    have hr : szR d.val left = -1 := by
      unfold szR at hn ⊢
      split
      · rfl
      · rename_i h; rw [if_neg h] at hn; exact absurd hn h
    rw [hr] at hd hs ⊢
    refine wEnter Tryz.func68 Tryz.ntmps68 ?_
    refine wRUN trivial ?_
    refine w7 (op_data [] hs) trivial ?_
    refine wRUN hd ?_
    exact wRet (ret_data []) Tryz.results68
  · have hd : decide (szR d.val left < 0) = false := by simpa using hn
    refine wEnter Tryz.func68 Tryz.ntmps68 ?_
    refine wRUN trivial ?_
    refine w7 (op_data [] hs) trivial ?_
    refine wRUN hd ?_
    exact wRet (ret_data []) Tryz.results68
set_option maxHeartbeats 4000000 in
theorem szInS_ac (l : List InD) (hz : ∀ d ∈ l, Sized63 d.val) (hl : l.length ≤ 9223372036854775807) (hy : ∀ d ∈ l, d.val.length ≤ 9223372036854775807) (left : Int) (h0 : 0 ≤ left) (h1 : left ≤ 1048576) : AC Tryz.prog 28 [insA l, .c (.int .i64 left)] [] (.c (.int .i64 (szNR l left))) [] := by
  have w1 : IntKind.i64.wrap (left - l.length) = left - l.length := wrap_in (by omega) (by omega)
  have hln : (l.map InD.cs).length = l.length := by simp
  unfold szNR
  by_cases hn : left - l.length < 0
  · have hr : szLR (l.map InD.val) left = -1 := by unfold szLR; rw [List.length_map, if_pos hn]
    have hd : decide (left - (l.length : Int) < 0) = true := by simpa using hn
    rw [hr]
    refine wEnter Tryz.func28 Tryz.ntmps28 ?_
    refine wRUN (j3 w1 hd hln) ?_
    exact wRet (ret_data []) Tryz.results28
  · have hd : decide (left - (l.length : Int) < 0) = false := by simpa using hn
    have hr : szLR (l.map InD.val) left = szGo (l.map InD.val) (left - l.length) := by unfold szLR; rw [List.length_map, if_neg hn]
    obtain ⟨R, hR⟩ : ∃ R, R = szLR (l.map InD.val) left := ⟨_, rfl⟩
    rw [← hR] at hr ⊢
    clear hR
    refine wEnter Tryz.func28 Tryz.ntmps28 ?_
    refine wRUN (j3 w1 hd hln) ?_
    refine a_loop (κ := Nat × Int) (fun x => ⟨mkS 0 27 [(0, insA l), (1, .c (.int .i64 x.2)), (5, .c (.int .i64 x.1))], []⟩)
      (fun x => x.1 ≤ l.length ∧ 0 ≤ x.2 ∧ x.2 ≤ 1048576 ∧ R = szGo ((l.map InD.val).drop x.1) x.2) (fun x => l.length - x.1) (0, left - l.length) ⟨Nat.zero_le _, by omega, by omega, hr⟩ ?_ ?_
    · exact wSays (Says.of [] []) hd
    · rintro ⟨k, L⟩ ⟨hk, hL0, hL1, hRk⟩
      dsimp only at hk hL0 hL1 hRk ⊢
      by_cases hlt : k < l.length
      · have hdk : decide ((k : Int) < (l.length : Int)) = true := by simpa using hlt
        have hw := wrap_succ (k := k) (by omega)
        obtain ⟨hr0, hg0⟩ := in_row l hlt
        have hmem := List.getElem_mem hlt
        have hca := szIn_ac l[k] (hz _ hmem) (hy _ hmem) L hL0 hL1
        have hle := szR_le l[k].val L hL0
        rw [szGo_drop (l.map InD.val) (by simpa using hlt), List.getElem_map] at hRk
        generalize l[k] = x at *
        by_cases hm : szR x.val L < 0
        · rw [if_pos hm] at hRk
          have hdm : decide (szR x.val L < 0) = true := by simpa using hm
          subst hRk
          refine wRUN (j4 hdk hr0 hg0 hln) ?_
          refine w7 (op_data [] hca) trivial ?_
          refine wRUN hdm ?_
          exact wRet (ret_data []) Tryz.results28
        · rw [if_neg hm] at hRk
          have hdm : decide (szR x.val L < 0) = false := by simpa using hm
          refine wRUN (j4 hdk hr0 hg0 hln) ?_
          refine w7 (op_data [] hca) trivial ?_
          refine wRUN (j2 hdm hw) ?_
          refine ⟨(k + 1, szR x.val L), by dsimp only; omega, ⟨by dsimp only; omega, by dsimp only; omega, by dsimp only; omega, hRk⟩, ?_⟩
          exact wSays (Says.of [] []) hw
      · have hdk : decide ((k : Int) < (l.length : Int)) = false := by simpa using hlt
        rw [List.drop_eq_nil_of_le (by simp; omega)] at hRk
        have hRL : R = L := hRk
        subst hRL
        refine wRUN (j2 hdk hln) ?_
        exact wRet (ret_data []) Tryz.results28
theorem toIn_ac (d : InD) (hl : d.val.length ≤ 1048576) : AC Tryz.prog 73 [d.av] [] (.agg [.c (.int .i64 d.op), .c (.int .i64 d.arg), .own (0, 0)]) [((0, 0), .row false 5 69 (d.val.map CellD.cs))] := by
  have ht := toCellS_ac d.val hl
  refine wEnter Tryz.func73 Tryz.ntmps73 ?_
  refine wRUN trivial ?_
  refine w12 (op_rowT [] ht) trivial ?_
  refine wRUN trivial ?_
  exact wRetOf (ret_of [((0, 0), (12, 0))] []) Tryz.results73 hl
def madeI (l : List InD) (k : Nat) : List (List C) := (l.take k).map InD.os ++ List.replicate (l.length - k) [.int .i64 0, .int .i64 0, .sl []]
theorem madeI_zero (l : List InD) : madeI l 0 = List.replicate l.length [.int .i64 0, .int .i64 0, .sl []] := by simp [madeI]
theorem madeI_full (l : List InD) : madeI l l.length = l.map InD.os := by simp [madeI]
theorem madeI_at (l : List InD) {k : Nat} (h : k < l.length) : (madeI l k)[k]? = some [.int .i64 0, .int .i64 0, .sl []] := by
  unfold madeI
  rw [List.getElem?_append_right (by simp; omega), List.length_map, List.length_take, Nat.min_eq_left (by omega), Nat.sub_self, List.getElem?_replicate, if_pos (by omega)]
theorem madeI_rows (l : List InD) {k : Nat} (h : k < l.length) : rowsAt (madeI l k) 3 k = true := by
  unfold rowsAt
  rw [show ((k : Nat) : Int).toNat = k from rfl, madeI_at l h]
  simp
theorem madeI_set (l : List InD) {k : Nat} (h : k < l.length) : (madeI l k).set k [.int .i64 l[k].op, .int .i64 l[k].arg, .osl (l[k].val.map CellD.cs)] = madeI l (k + 1) := by
  have hl : ((l.take k).map InD.os).length = k := by simp; omega
  unfold madeI
  rw [List.set_append_right _ _ (by omega), hl, Nat.sub_self, List.take_succ_eq_append_getElem h, List.map_append, List.append_assoc]
  have : l.length - k = (l.length - (k + 1)) + 1 := by omega
  rw [this, List.replicate_succ]
  simp [InD.os]
set_option maxHeartbeats 4000000 in
theorem toInS_ac (l : List InD) (hl : l.length ≤ 1048576) (hy : ∀ d ∈ l, d.val.length ≤ 1048576) : AC Tryz.prog 30 [insA l] [] (.own (0, 0)) [((0, 0), .row true 3 110 (l.map InD.os))] := by
  have hln : (l.map InD.cs).length = l.length := by simp
  have h2 : (0 : Int) ≤ (l.length : Int) := by omega
  have h3 : (l.length : Int) ≤ 2000000 := by omega
  have hmz := madeI_zero l
  refine wEnter Tryz.func30 Tryz.ntmps30 ?_
  refine wRUN (j3 hln h2 h3) ?_
  refine a_loop (κ := Nat) (fun k => ⟨mkS 0 23 [(0, insA l), (3, .own (99, 0)), (4, .c (.int .i64 k))], [((99, 0), .row true 3 110 (madeI l k))]⟩)
    (fun k => k ≤ l.length) (fun k => l.length - k) 0 (Nat.zero_le _) ?_ ?_
  · exact wSays (Says.of [((99, 0), (7, 0))] []) hmz
  · intro k hk
    by_cases hlt : k < l.length
    · have hdk : decide ((k : Int) < (l.length : Int)) = true := by simpa using hlt
      have hw := wrap_succ (k := k) (by omega)
      obtain ⟨hr0, hg0⟩ := in_row l hlt
      have hmem := List.getElem_mem hlt
      have hca := toIn_ac l[k] (hy _ hmem)
      have hm1 := madeI_at l hlt
      have hm2 := madeI_rows l hlt
      have hm3 := madeI_set l hlt
      generalize l[k] = x at *
      refine wRUN (j4 hdk hr0 hg0 hln) ?_
      refine w12 (op_rowT [] hca) trivial ?_
      refine wRUN hm2 ?_
      (apply (op_giveRow [C.int .i64 x.op, C.int .i64 x.arg] []); (iterate 13 (focus (first | (simp only [go_sem, Nat.reduceEqDiff, Nat.reduceAdd, Nat.reduceSub, Nat.reduceLeDiff, Nat.reduceMul, Nat.reduceBEq, Nat.reduceLT, Int.reduceToNat, reduceCtorEq, hm1, plainL, C.plain]; first | done | exact rfl | (and_intros <;> rfl)) | exact rfl | decide))))
      refine wRUN hw ?_
      refine ⟨k + 1, by omega, by omega, ?_⟩
      exact wSays (Says.of [((99, 0), (99, 0))] []) hm3
    · have hdk : decide ((k : Int) < (l.length : Int)) = false := by simpa using hlt
      have hke : k = l.length := by omega
      subst hke
      have hmf := madeI_full l
      refine wRUN (j2 hdk hln) ?_
      exact wRetOf (ret_of [((0, 0), (99, 0))] []) Tryz.results30 hmf
theorem eqIn_ac (d : InD) (hl : d.val.length ≤ 9223372036854775807) : AC Tryz.prog 82 [d.av, d.av] [] (.c (.bool true)) [] := by
  have h1 : (d.op != d.op) = false := by simp
  have h2 : (d.arg != d.arg) = false := by simp
  have he := eqCellS_ac d.val hl
  refine wEnter Tryz.func82 Tryz.ntmps82 ?_
  refine wRUN (j2 h1 h2) ?_
  refine w7 (op_data [] he) trivial ?_
  refine wRUN trivial ?_
  exact wRet (ret_data []) Tryz.results82
set_option maxHeartbeats 2000000 in
theorem eqInS_ac (l : List InD) (hl : l.length ≤ 1048576) (hx : ∀ d ∈ l, d.val.length ≤ 9223372036854775807) : AC Tryz.prog 32 [insA l, insA l] [] (.c (.bool true)) [] := by
  have hln : (l.map InD.cs).length = l.length := by simp
  have hne : ((l.length : Int) != (l.length : Int)) = false := by simp
  refine wEnter Tryz.func32 Tryz.ntmps32 ?_
  refine wRUN (j2 hln hne) ?_
  refine a_loop (κ := Nat) (fun k => ⟨mkS 0 27 [(0, insA l), (1, insA l), (5, .c (.int .i64 k))], []⟩)
    (fun k => k ≤ l.length) (fun k => l.length - k) 0 (Nat.zero_le _) ?_ ?_
  · exact wSays (Says.of [] []) hne
  · intro k hk
    by_cases hlt : k < l.length
    · have hdk : decide ((k : Int) < (l.length : Int)) = true := by simpa using hlt
      have hw := wrap_succ (k := k) (by omega)
      obtain ⟨hr0, hg0⟩ := in_row l hlt
      have he := eqIn_ac l[k] (hx _ (List.getElem_mem hlt))
      generalize l[k] = x at *
      refine wRUN (j4 hln hdk hr0 hg0) ?_
      refine w7 (op_data [] he) trivial ?_
      refine wRUN hw ?_
      refine ⟨k + 1, by omega, by omega, ?_⟩
      exact wSays (Says.of [] []) hw
    · have hdk : decide ((k : Int) < (l.length : Int)) = false := by simpa using hlt
      refine wRUN (j2 hln hdk) ?_
      exact wRet (ret_data []) Tryz.results32
end Go.Proofs.YtfmnoljflcpbgaaGreatDoor
