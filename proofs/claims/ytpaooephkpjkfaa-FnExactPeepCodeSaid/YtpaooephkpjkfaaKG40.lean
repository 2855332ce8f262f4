/- The laws' own functions on an argument []In: szIn, szInS, toIn, toInS, eqIn, eqInS, markInS. -/
import Derived.Test.YtpaooephkpjkfaaKG16uG33
import Derived.Test.YtpaooephkpjkfaaKG35
import Derived.Test.YtpaooephkpjkfaaKE5
set_option linter.unusedSimpArgs false
set_option linter.unusedVariables false
set_option linter.unnecessarySimpa false
namespace Go.Proofs.Ytpaooephkpjkfaa
open Go.RowKit
set_option maxRecDepth 10000
def InD.os (d : InD) : List C := [.int .i64 d.op, .int .i64 d.arg, .osl (d.val.map CellD.cs)]
def szNR (l : List InD) (left : Int) : Int := szLR (l.map InD.val) left
def totI (l : List InD) : Nat := (l.map fun d => 2 + 5 * d.val.length).sum
theorem szNR_le (l : List InD) (left : Int) (h : 0 ≤ left) : szNR l left ≤ left := szLR_le _ left h
theorem totI_eq : ∀ (l : List InD), totI l = 2 * l.length + 5 * tot (l.map InD.val)
  | [] => rfl
  | d :: l => by
    have := totI_eq l
    simp only [totI, tot, List.map_cons, List.sum_cons, List.length_cons] at this ⊢
    omega
theorem szNR_tot {l : List InD} {left : Int} (h : ¬ szNR l left < 0) (hl : left ≤ 1048576) : l.length ≤ 1048576 ∧ totI l ≤ 8000000 ∧ ∀ d ∈ l, d.val.length ≤ 1048576 := by
  obtain ⟨h1, h2, h3⟩ := szLR_tot h hl
  rw [List.length_map] at h1
  refine ⟨h1, by rw [totI_eq]; omega, fun d hd => h3 _ (List.mem_map.2 ⟨d, hd, rfl⟩)⟩
theorem forget_ins (l : List InD) : forgetLL (l.map InD.os) = l.map InD.cs := by
  induction l with
  | nil => rfl
  | cons d l ih => simp only [List.map_cons, forgetLL, ih, InD.os, InD.cs, forgetL, C.forget, forget_cells]
theorem closed_ins (l : List InD) : closedLL (l.map InD.os) = true := by
  induction l with
  | nil => rfl
  | cons d l ih => simp only [List.map_cons, closedLL, ih, Bool.and_true, InD.os, closedL, C.closed, closed_cells]
theorem all_ins (l : List InD) : ((l.map InD.os).all fun r => r.length == 3) = true := by simp [InD.os]
attribute [go_sem] forget_ins closed_ins all_ins
theorem in_row (l : List InD) {k : Nat} (h : k < l.length) : rowsAt (l.map InD.cs) 3 k = true ∧ (l.map InD.cs)[k]? = some [.int .i64 l[k].op, .int .i64 l[k].arg, .sl (l[k].val.map CellD.cs)] := ⟨by simp [rowsAt, h, InD.cs], by simp [h, InD.cs]⟩
theorem szIn_ac (d : InD) (hz : Sized63 d.val) (hl : d.val.length ≤ 9223372036854775807) (left : Int) (h0 : 0 ≤ left) (h1 : left ≤ 1048576) : AC Try.prog 13 [d.av, .c (.int .i64 left)] [] (.c (.int .i64 (szR d.val left))) [] := by
  have hs := szCellS_ac d.val hz hl left h0 h1
  by_cases hn : szR d.val left < 0
  · have hd : decide (szR d.val left < 0) = true := by simpa using hn
    have hr : szR d.val left = -1 := by
      unfold szR at hn ⊢
      split
      · rfl
      · rename_i h; rw [if_neg h] at hn; exact absurd hn h
    rw [hr] at hd hs ⊢
    refine wEnter Try.func13 Try.ntmps13 ?_
    refine wRUN trivial ?_
    refine w7 (op_data [] hs) trivial ?_
    refine wRUN hd ?_
    exact wRet (ret_data []) Try.results13
  · have hd : decide (szR d.val left < 0) = false := by simpa using hn
    refine wEnter Try.func13 Try.ntmps13 ?_
    refine wRUN trivial ?_
    refine w7 (op_data [] hs) trivial ?_
    refine wRUN hd ?_
    exact wRet (ret_data []) Try.results13
set_option maxHeartbeats 4000000 in
theorem szInS_ac (l : List InD) (hz : ∀ d ∈ l, Sized63 d.val) (hl : l.length ≤ 9223372036854775807) (hy : ∀ d ∈ l, d.val.length ≤ 9223372036854775807) (left : Int) (h0 : 0 ≤ left) (h1 : left ≤ 1048576) : AC Try.prog 4 [insA l, .c (.int .i64 left)] [] (.c (.int .i64 (szNR l left))) [] := by
  have w1 : IntKind.i64.wrap (left - l.length) = left - l.length := wrap_in (by omega) (by omega)
  have hln : (l.map InD.cs).length = l.length := by simp
  unfold szNR
  by_cases hn : left - l.length < 0
  · have hr : szLR (l.map InD.val) left = -1 := by unfold szLR; rw [List.length_map, if_pos hn]
    have hd : decide (left - (l.length : Int) < 0) = true := by simpa using hn
    rw [hr]
    refine wEnter Try.func4 Try.ntmps4 ?_
    refine wRUN (j3 w1 hd hln) ?_
    exact wRet (ret_data []) Try.results4
  · have hd : decide (left - (l.length : Int) < 0) = false := by simpa using hn
    have hr : szLR (l.map InD.val) left = szGo (l.map InD.val) (left - l.length) := by unfold szLR; rw [List.length_map, if_neg hn]
    obtain ⟨R, hR⟩ : ∃ R, R = szLR (l.map InD.val) left := ⟨_, rfl⟩
    rw [← hR] at hr ⊢
    clear hR
    refine wEnter Try.func4 Try.ntmps4 ?_
    refine wRUN (j3 w1 hd hln) ?_
    refine a_loop (κ := Nat × Int) (fun x => ⟨mkS 0 27 [(0, insA l), (1, .c (.int .i64 x.2)), (5, .c (.int .i64 x.1))], []⟩)
      (fun x => x.1 ≤ l.length ∧ 0 ≤ x.2 ∧ x.2 ≤ 1048576 ∧ R = szGo ((l.map InD.val).drop x.1) x.2) (fun x => l.length - x.1) (0, left - l.length) ⟨Nat.zero_le _, by omega, by omega, hr⟩ ?_ ?_
    · exact wSays (Says.of [] []) hd
    · rintro ⟨k, L⟩ ⟨hk, hL0, hL1, hRk⟩
      dsimp only at hk hL0 hL1 hRk ⊢
      by_cases hlt : k < l.length
      · have hdk : decide ((k : Int) < (l.length : Int)) = true := by simpa using hlt
        have hw := wrap_succ (k := k) (by omega)
        obtain ⟨hr0, hg0⟩ := in_row l hlt
        have hmem := List.getElem_mem hlt
        have hca := szIn_ac l[k] (hz _ hmem) (hy _ hmem) L hL0 hL1
        have hle := szR_le l[k].val L hL0
        rw [szGo_drop (l.map InD.val) (by simpa using hlt), List.getElem_map] at hRk
        generalize l[k] = x at *
        by_cases hm : szR x.val L < 0
        · rw [if_pos hm] at hRk
          have hdm : decide (szR x.val L < 0) = true := by simpa using hm
          subst hRk
          refine wRUN (j4 hdk hr0 hg0 hln) ?_
          refine w7 (op_data [] hca) trivial ?_
          refine wRUN hdm ?_
          exact wRet (ret_data []) Try.results4
        · rw [if_neg hm] at hRk
          have hdm : decide (szR x.val L < 0) = false := by simpa using hm
          refine wRUN (j4 hdk hr0 hg0 hln) ?_
          refine w7 (op_data [] hca) trivial ?_
          refine wRUN (j2 hdm hw) ?_
          refine ⟨(k + 1, szR x.val L), by dsimp only; omega, ⟨by dsimp only; omega, by dsimp only; omega, by dsimp only; omega, hRk⟩, ?_⟩
          exact wSays (Says.of [] []) hw
      · have hdk : decide ((k : Int) < (l.length : Int)) = false := by simpa using hlt
        rw [List.drop_eq_nil_of_le (by simp; omega)] at hRk
        have hRL : R = L := hRk
        subst hRL
        refine wRUN (j2 hdk hln) ?_
        exact wRet (ret_data []) Try.results4
theorem toIn_ac (d : InD) (hl : d.val.length ≤ 1048576) : AC Try.prog 17 [d.av] [] (.agg [.c (.int .i64 d.op), .c (.int .i64 d.arg), .own (0, 0)]) [((0, 0), .row false 5 50 (d.val.map CellD.cs))] := by
  have ht := toCellS_ac d.val hl
  refine wEnter Try.func17 Try.ntmps17 ?_
  refine wRUN trivial ?_
  refine w12 (op_rowT [] ht) trivial ?_
  refine wRUN trivial ?_
  exact wRetOf (ret_of [((0, 0), (12, 0))] []) Try.results17 hl
def madeI (l : List InD) (k : Nat) : List (List C) := (l.take k).map InD.os ++ List.replicate (l.length - k) [.int .i64 0, .int .i64 0, .sl []]
theorem madeI_zero (l : List InD) : madeI l 0 = List.replicate l.length [.int .i64 0, .int .i64 0, .sl []] := by simp [madeI]
theorem madeI_full (l : List InD) : madeI l l.length = l.map InD.os := by simp [madeI]
theorem madeI_at (l : List InD) {k : Nat} (h : k < l.length) : (madeI l k)[k]? = some [.int .i64 0, .int .i64 0, .sl []] := by
  unfold madeI
  rw [List.getElem?_append_right (by simp; omega), List.length_map, List.length_take, Nat.min_eq_left (by omega), Nat.sub_self, List.getElem?_replicate, if_pos (by omega)]
theorem madeI_rows (l : List InD) {k : Nat} (h : k < l.length) : rowsAt (madeI l k) 3 k = true := by
  unfold rowsAt
  rw [show ((k : Nat) : Int).toNat = k from rfl, madeI_at l h]
  simp
theorem madeI_set (l : List InD) {k : Nat} (h : k < l.length) : (madeI l k).set k [.int .i64 l[k].op, .int .i64 l[k].arg, .osl (l[k].val.map CellD.cs)] = madeI l (k + 1) := by
  have hl : ((l.take k).map InD.os).length = k := by simp; omega
  unfold madeI
  rw [List.set_append_right _ _ (by omega), hl, Nat.sub_self, List.take_succ_eq_append_getElem h, List.map_append, List.append_assoc]
  have : l.length - k = (l.length - (k + 1)) + 1 := by omega
  rw [this, List.replicate_succ]
  simp [InD.os]
set_option maxHeartbeats 4000000 in
theorem toInS_ac (l : List InD) (hl : l.length ≤ 1048576) (hy : ∀ d ∈ l, d.val.length ≤ 1048576) : AC Try.prog 6 [insA l] [] (.own (0, 0)) [((0, 0), .row true 3 41 (l.map InD.os))] := by
  have hln : (l.map InD.cs).length = l.length := by simp
  have h2 : (0 : Int) ≤ (l.length : Int) := by omega
  have h3 : (l.length : Int) ≤ 2000000 := by omega
  have hmz := madeI_zero l
  refine wEnter Try.func6 Try.ntmps6 ?_
  refine wRUN (j3 hln h2 h3) ?_
  refine a_loop (κ := Nat) (fun k => ⟨mkS 0 23 [(0, insA l), (3, .own (99, 0)), (4, .c (.int .i64 k))], [((99, 0), .row true 3 41 (madeI l k))]⟩)
    (fun k => k ≤ l.length) (fun k => l.length - k) 0 (Nat.zero_le _) ?_ ?_
  · exact wSays (Says.of [((99, 0), (7, 0))] []) hmz
  · intro k hk
    by_cases hlt : k < l.length
    · have hdk : decide ((k : Int) < (l.length : Int)) = true := by simpa using hlt
      have hw := wrap_succ (k := k) (by omega)
      obtain ⟨hr0, hg0⟩ := in_row l hlt
      have hmem := List.getElem_mem hlt
      have hca := toIn_ac l[k] (hy _ hmem)
      have hm1 := madeI_at l hlt
      have hm2 := madeI_rows l hlt
      have hm3 := madeI_set l hlt
      generalize l[k] = x at *
      refine wRUN (j4 hdk hr0 hg0 hln) ?_
      refine w12 (op_rowT [] hca) trivial ?_
      refine wRUN hm2 ?_
      (apply (op_giveRow [C.int .i64 x.op, C.int .i64 x.arg] []); (iterate 13 (focus (first | (simp only [go_sem, Nat.reduceEqDiff, Nat.reduceAdd, Nat.reduceSub, Nat.reduceLeDiff, Nat.reduceMul, Nat.reduceBEq, Nat.reduceLT, Int.reduceToNat, reduceCtorEq, hm1, plainL, C.plain]; first | done | exact rfl | (and_intros <;> rfl)) | exact rfl | decide))))
      refine wRUN hw ?_
      refine ⟨k + 1, by omega, by omega, ?_⟩
      exact wSays (Says.of [((99, 0), (99, 0))] []) hm3
    · have hdk : decide ((k : Int) < (l.length : Int)) = false := by simpa using hlt
      have hke : k = l.length := by omega
      subst hke
      have hmf := madeI_full l
      refine wRUN (j2 hdk hln) ?_
      exact wRetOf (ret_of [((0, 0), (99, 0))] []) Try.results6 hmf
theorem eqIn_ac (d : InD) (hl : d.val.length ≤ 9223372036854775807) : AC Try.prog 24 [d.av, d.av] [] (.c (.bool true)) [] := by
  have h1 : (d.op != d.op) = false := by simp
  have h2 : (d.arg != d.arg) = false := by simp
  have he := eqCellS_ac d.val hl
  refine wEnter Try.func24 Try.ntmps24 ?_
  refine wRUN (j2 h1 h2) ?_
  refine w7 (op_data [] he) trivial ?_
  refine wRUN trivial ?_
  exact wRet (ret_data []) Try.results24
set_option maxHeartbeats 2000000 in
theorem eqInS_ac (l : List InD) (hl : l.length ≤ 1048576) (hx : ∀ d ∈ l, d.val.length ≤ 9223372036854775807) : AC Try.prog 9 [insA l, insA l] [] (.c (.bool true)) [] := by
  have hln : (l.map InD.cs).length = l.length := by simp
  have hne : ((l.length : Int) != (l.length : Int)) = false := by simp
  refine wEnter Try.func9 Try.ntmps9 ?_
  refine wRUN (j2 hln hne) ?_
  refine a_loop (κ := Nat) (fun k => ⟨mkS 0 27 [(0, insA l), (1, insA l), (5, .c (.int .i64 k))], []⟩)
    (fun k => k ≤ l.length) (fun k => l.length - k) 0 (Nat.zero_le _) ?_ ?_
  · exact wSays (Says.of [] []) hne
  · intro k hk
    by_cases hlt : k < l.length
    · have hdk : decide ((k : Int) < (l.length : Int)) = true := by simpa using hlt
      have hw := wrap_succ (k := k) (by omega)
      obtain ⟨hr0, hg0⟩ := in_row l hlt
      have he := eqIn_ac l[k] (hx _ (List.getElem_mem hlt))
      generalize l[k] = x at *
      refine wRUN (j4 hln hdk hr0 hg0) ?_
      refine w7 (op_data [] he) trivial ?_
      refine wRUN hw ?_
      refine ⟨k + 1, by omega, by omega, ?_⟩
      exact wSays (Says.of [] []) hw
    · have hdk : decide ((k : Int) < (l.length : Int)) = false := by simpa using hlt
      refine wRUN (j2 hln hdk) ?_
      exact wRet (ret_data []) Try.results9
/-- The instructions as they are marked. -/
def markI (K : Nat) : List InD → List InD
  | [] => []
  | d :: l => ⟨K, (K + 1 : Nat), marks (K + 2) d.val.length⟩ :: markI (K + (2 + 5 * d.val.length)) l
theorem markI_len : ∀ (l : List InD) (K : Nat), (markI K l).length = l.length
  | [], _ => rfl
  | d :: l, K => by simp [markI, markI_len l]
theorem totI_take (l : List InD) {k : Nat} (h : k < l.length) : totI (l.take (k + 1)) = totI (l.take k) + (2 + 5 * l[k].val.length) := by
  rw [List.take_succ_eq_append_getElem h]
  simp only [totI, List.map_append, List.sum_append, List.map_cons, List.map_nil, List.sum_cons, List.sum_nil, Nat.add_zero]
theorem markI_append : ∀ (x y : List InD) (K : Nat), markI K (x ++ y) = markI K x ++ markI (K + totI x) y
  | [], y, K => by simp [markI, totI]
  | d :: x, y, K => by
    rw [List.cons_append, markI, markI_append x y, markI, List.cons_append]
    congr 3
    simp only [totI, List.map_cons, List.sum_cons]
    omega
theorem totI_le (l : List InD) (k : Nat) : totI (l.take k) ≤ totI l := by
  have h : totI (l.take k ++ l.drop k) = totI (l.take k) + totI (l.drop k) := by simp only [totI, List.map_append, List.sum_append]
  rw [List.take_append_drop] at h
  omega
theorem plain_cells (l : List CellD) : plainLL (l.map CellD.cs) = true := by
  induction l with
  | nil => rfl
  | cons c l ih => simp only [List.map_cons, plainLL, ih, Bool.and_true, CellD.cs, plainL, C.plain, Bool.and_self]
/-- The row when so many are marked. -/
def partI (K : Nat) (l : List InD) (k : Nat) : List (List C) := (markI K (l.take k) ++ l.drop k).map InD.os
theorem partI_len (K : Nat) (l : List InD) (k : Nat) : (partI K l k).length = l.length := by
  unfold partI
  rw [List.length_map, List.length_append, markI_len, List.length_take, List.length_drop]
  omega
theorem partI_at (K : Nat) (l : List InD) {k : Nat} (h : k < l.length) : (partI K l k)[k]? = some [.int .i64 l[k].op, .int .i64 l[k].arg, .osl (l[k].val.map CellD.cs)] := by
  unfold partI
  have hl : (markI K (l.take k)).length = k := by rw [markI_len, List.length_take]; omega
  rw [List.getElem?_map, List.getElem?_append_right (by omega), hl, Nat.sub_self, List.getElem?_drop, Nat.add_zero, List.getElem?_eq_getElem h]
  rfl
theorem partI_set (K : Nat) (l : List InD) {k : Nat} (h : k < l.length) : (partI K l k).set k [.int .i64 ((K + totI (l.take k) : Nat) : Int), .int .i64 ((K + totI (l.take k) + 1 : Nat) : Int), .osl ((marks (K + totI (l.take k) + 2) l[k].val.length).map CellD.cs)] = partI K l (k + 1) := by
  unfold partI
  have hl : (markI K (l.take k)).length = k := by rw [markI_len, List.length_take]; omega
  rw [List.map_append, List.set_append_right _ _ (by rw [List.length_map]; omega), List.length_map, hl, Nat.sub_self, List.drop_eq_getElem_cons h, List.map_cons, List.set_cons_zero,
    List.take_succ_eq_append_getElem h, markI_append, List.map_append, List.map_append, List.append_assoc]
  rfl
set_option maxHeartbeats 8000000 in
theorem markInS_ac (l : List InD) (K : Nat) (e : TypeId) (hK : K + totI l ≤ 3000000000) (hl9 : l.length ≤ 1048576) :
    AC Try.prog 10 [.own (0, 0), .c (.int .i64 K)] [((0, 0), .row true 3 e (l.map InD.os))] (.c (.int .i64 ((K + totI l : Nat) : Int))) [((0, 0), .row true 3 e ((markI K l).map InD.os))] := by
  have hs0 : l.map InD.os = partI K l 0 := by simp [partI, markI]
  have ht0 : ((K : Nat) : Int) = ((K + totI (l.take 0) : Nat) : Int) := by simp [totI]
  refine wEnter Try.func10 Try.ntmps10 ?_
  refine wRUN trivial ?_
  refine a_loop (κ := Nat) (fun k => ⟨mkS 0 34 [(0, .own (0, 0)), (1, .c (.int .i64 ((K + totI (l.take k) : Nat) : Int))), (5, .c (.int .i64 k))], [((0, 0), .row true 3 e (partI K l k))]⟩)
    (fun k => k ≤ l.length) (fun k => l.length - k) 0 (Nat.zero_le _) ?_ ?_
  · exact wSays (Says.of [((0, 0), (0, 0))] []) (j2 hs0 ht0)
  · intro k hk
    have hpl := partI_len K l k
    by_cases hlt : k < l.length
    · have hdk : decide ((k : Int) < (l.length : Int)) = true := by simpa using hlt
      have hw := wrap_succ (k := k) (by omega)
      have htk := totI_take l hlt
      have hte := totI_le l (k + 1)
      obtain ⟨M, hM⟩ : ∃ M, M = K + totI (l.take k) := ⟨_, rfl⟩
      have hM1 : K + totI (l.take (k + 1)) = M + 2 + 5 * l[k].val.length := by omega
      have hset := partI_set K l hlt
      have h0 := partI_at K l hlt
      rw [← hM] at hset
      rw [← hM]
      have hr0 : rowsAt (partI K l k) 3 k = true := by unfold rowsAt; rw [show ((k : Nat) : Int).toNat = k from rfl, h0]; simp
      have hkl : k < (partI K l k).length := by rw [hpl]; exact hlt
      have w1 : IntKind.i64.wrap ((M : Int) + 1) = ((M + 1 : Nat) : Int) := by rw [IntWalk.i64_in _ (by omega)]; omega
      have w2 : IntKind.i64.wrap (((M + 1 : Nat) : Int) + 1) = ((M + 2 : Nat) : Int) := by rw [IntWalk.i64_in _ (by omega)]; omega
      have hmk := markCellS_ac l[k].val (M + 2)
      have hpn := plain_cells l[k].val
      have h5 : ((l[k].val.map CellD.cs).all fun x => x.length == 5) = true := by simp [CellD.cs]
      have hne5 : l[k].val.map CellD.cs ≠ [] → l[k].val ≠ [] := by intro h e; rw [e] at h; exact h rfl
      generalize hR3 : partI K l (k + 1) = R3 at *
      generalize partI K l k = R0 at *
      obtain ⟨R1, hR1⟩ : ∃ R1, R0.set k [.int .i64 (M : Int), .int .i64 l[k].arg, .osl (l[k].val.map CellD.cs)] = R1 := ⟨_, rfl⟩
      have h1 : R1[k]? = some [.int .i64 (M : Int), .int .i64 l[k].arg, .osl (l[k].val.map CellD.cs)] := by rw [← hR1, List.getElem?_set_self hkl]
      have hr1 : rowsAt R1 3 k = true := by unfold rowsAt; rw [show ((k : Nat) : Int).toNat = k from rfl, h1]; simp
      have hl1 : R1.length = R0.length := by rw [← hR1, List.length_set]
      obtain ⟨R2, hR2⟩ : ∃ R2, R1.set k [.int .i64 (M : Int), .int .i64 ((M + 1 : Nat) : Int), .osl (l[k].val.map CellD.cs)] = R2 := ⟨_, rfl⟩
      have h2 : R2[k]? = some [.int .i64 (M : Int), .int .i64 ((M + 1 : Nat) : Int), .osl (l[k].val.map CellD.cs)] := by rw [← hR2, List.getElem?_set_self (by omega)]
      have hr2 : rowsAt R2 3 k = true := by unfold rowsAt; rw [show ((k : Nat) : Int).toNat = k from rfl, h2]; simp
      have hset' : R2.set k [.int .i64 (M : Int), .int .i64 ((M + 1 : Nat) : Int), .osl ((marks (M + 2) l[k].val.length).map CellD.cs)] = R3 := by rw [← hR2, ← hR1, List.set_set, List.set_set]; exact hset
      generalize hd : l[k] = d at *
      refine wRUN (j3 hpl hdk hr0) ?_
      ((with_reducible apply op_store); (iterate 11 (focus (first | (simp only [go_sem, Nat.reduceEqDiff, Nat.reduceAdd, Nat.reduceSub, Nat.reduceLeDiff, Nat.reduceMul, Nat.reduceBEq, Nat.reduceLT, Int.reduceToNat, reduceCtorEq, h0, C.plain, List.set_cons_zero, hR1]; first | done | exact rfl | (and_intros <;> rfl)) | exact rfl | decide))))
      refine wRUN (j2 w1 hr1) ?_
      ((with_reducible apply op_store); (iterate 11 (focus (first | (simp only [go_sem, Nat.reduceEqDiff, Nat.reduceAdd, Nat.reduceSub, Nat.reduceLeDiff, Nat.reduceMul, Nat.reduceBEq, Nat.reduceLT, Int.reduceToNat, reduceCtorEq, h1, C.plain, List.set_cons_zero, List.set_cons_succ, hR2]; first | done | exact rfl | (and_intros <;> rfl)) | exact rfl | decide))))
      refine wRUN (j2 w2 hr2) ?_
      ((with_reducible apply op_take); (iterate 11 (focus (first | (simp only [go_sem, Nat.reduceEqDiff, Nat.reduceAdd, Nat.reduceSub, Nat.reduceLeDiff, Nat.reduceMul, Nat.reduceBEq, Nat.reduceLT, Int.reduceToNat, reduceCtorEq, h2, hpn]; first | done | exact rfl | (and_intros <;> rfl)) | exact rfl | decide))))
      refine wRUN trivial ?_
      (apply (op_nest (0, 0) (30, 0) 5 (fun es' e' h => hmk es' e' (fun hx => h (by intro hh; exact hx (by simpa using hh))) (by omega))); (iterate 4 (focus (first | (simp only [go_sem, Nat.reduceEqDiff, Nat.reduceAdd, Nat.reduceSub, Nat.reduceLeDiff, Nat.reduceMul, Nat.reduceBEq, Nat.reduceLT, Int.reduceToNat, reduceCtorEq, h2, h5, hset', List.set_cons_zero, List.set_cons_succ]; first | done | exact rfl | (and_intros <;> rfl)) | exact rfl | decide))); (focus (first | (intro _ _; exact rfl) | (intro _ _; simp only [go_sem, Nat.reduceEqDiff, Nat.reduceAdd, Nat.reduceSub, Nat.reduceLeDiff, Nat.reduceMul, Nat.reduceBEq, Nat.reduceLT, Int.reduceToNat, reduceCtorEq, h2, h5, hset', List.set_cons_zero, List.set_cons_succ]; done))); (iterate 7 (focus (first | (simp only [go_sem, Nat.reduceEqDiff, Nat.reduceAdd, Nat.reduceSub, Nat.reduceLeDiff, Nat.reduceMul, Nat.reduceBEq, Nat.reduceLT, Int.reduceToNat, reduceCtorEq, h2, h5, hset', List.set_cons_zero, List.set_cons_succ]; first | done | exact rfl | (and_intros <;> rfl)) | exact rfl | decide))))
      refine wRUN hw ?_
      refine ⟨k + 1, by omega, by omega, ?_⟩
      exact wSays (Says.of [((0, 0), (0, 0))] []) (j2 hM1 hR3)
    · have hdk : decide ((k : Int) < (l.length : Int)) = false := by simpa using hlt
      have hke : k = l.length := by omega
      subst hke
      have hfin : partI K l l.length = (markI K l).map InD.os := by simp [partI]
      have htk : l.take l.length = l := by simp
      rw [hfin, htk]
      rw [hfin] at hpl
      refine wRUN (j2 hpl hdk) ?_
      exact wRetOf (ret_of [((0, 0), (0, 0))] []) Try.results10 hdk
end Go.Proofs.Ytpaooephkpjkfaa
