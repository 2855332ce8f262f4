/- FlatText on both sides. -/
import Derived.Test.YtfmnoljflcpbgaaGreatDoorKR19uH06
import Derived.Test.YtfmnoljflcpbgaaGreatDoorKM29uG87
import Derived.Test.YtfmnoljflcpbgaaGreatDoorKM2
set_option linter.unusedSimpArgs false
set_option linter.unusedVariables false
set_option linter.unnecessarySimpa false
namespace Go.Proofs.YtfmnoljflcpbgaaGreatDoor
open Go.RowKit
set_option maxRecDepth 10000
variable {o : Obj}
/-- The leaves of a value, with their paths. -/
def leavesF (t : V) : List (List V × V) := (t.paths []).filter fun p => !notLeaf p
def eqS3 : ByteArray := ⟨#[32, 61, 32]⟩
/-- A leaf as a line. -/
def leafS (p : List V × V) : ByteArray := pathS p.1 ++ eqS3 ++ p.2.txt ++ bS 10
def flatS (l : List (List V × V)) : ByteArray := l.foldl (fun a p => a ++ leafS p) ByteArray.empty
theorem flatS_next {l : List (List V × V)} {k : Nat} (h : k < l.length) : flatS (l.take (k + 1)) = flatS (l.take k) ++ leafS l[k] := by
  unfold flatS
  rw [List.take_succ_eq_append_getElem h, List.foldl_append]
  rfl
structure LeafOk (t : V) (p : List V × V) : Prop where
  get : getPathV t p.1 = okR p.2
  keys : ∀ k ∈ p.1, k.right
  len : p.1.length ≤ 20
  right : p.2.right
  sk : ∀ q ∈ p.1, sKey q
theorem leaf_ok {t : V} (ht : t.right) {p : List V × V} (hp : p ∈ leavesF t) : LeafOk t p := by
  have hm := (List.mem_filter.1 hp).1
  obtain ⟨h1, h2, h3, h4⟩ := path_own ht hm
  exact ⟨h1, h2, h3, h4, (paths_sk t [] ht (by simp) p hm).1⟩
theorem leavesF_len {t : V} (ht : t.right) : (leavesF t).length ≤ 200 := by
  have h1 := List.length_filter_le (fun p : List V × V => !notLeaf p) (t.paths [])
  rw [paths_len] at h1
  have := ht.2.1
  unfold leavesF
  omega
theorem pathS_all {p : List V} (h : ∀ k ∈ p, k.right) (hl : p.length ≤ 20) : (pathS p).size ≤ 2500 := by
  have h1 := pathS_size h p.length (Nat.le_refl _)
  rw [List.take_length] at h1
  omega
theorem eqS3_size : eqS3.size = 3 := rfl
theorem leafS_size {t : V} {p : List V × V} (h : LeafOk t p) : (leafS p).size ≤ 53000 := by
  have h1 := pathS_all h.keys h.len
  have h2 := txt_size' h.right
  unfold leafS
  simp only [ByteArray.size_append, eqS3_size, one_size]
  omega
theorem flatS_size {l : List (List V × V)} (h : ∀ p ∈ l, (leafS p).size ≤ 53000) : ∀ k, k ≤ l.length → (flatS (l.take k)).size ≤ 53000 * k := by
  intro k
  induction k with
  | zero => intro _; simp [flatS]
  | succ k ih =>
    intro hk
    have h1 := ih (by omega)
    have h2 := h _ (List.getElem_mem (by omega : k < l.length))
    rw [flatS_next (by omega), ByteArray.size_append]
    omega
set_option maxHeartbeats 8000000 in
theorem flat_ac {t : V} (ht : t.right) : AC Tryz.prog 67 [t.av] (tabM o) (.c (.str (flatS (leavesF t)))) (tabM o) := by
  have hc := ht.2.1
  have hlv := leaves_ac t (by omega) (right_neat ht)
  have hok := fun p hp => leaf_ok (p := p) ht hp
  have hll := leavesF_len ht
  change AC Tryz.prog 88 [t.av] [] (.own (0, 0)) [((0, 0), .row false 6 154 ((leavesF t).map placedCs))] at hlv
  generalize leavesF t = l at *
  have hsz := flatS_size (l := l) fun p hp => leafS_size (hok p hp)
  have hln : (l.map placedCs).length = l.length := by simp
  have h0 : flatS (l.take 0) = ByteArray.empty := rfl
  refine wEnter Tryz.func67 Tryz.ntmps67 ?_
  refine wRUN1 trivial ?_
  refine a_region ?_
  refine wRUN1 trivial ?_
  refine a_region ?_
  (apply (op_zeroBld isBT); (iterate 3 (focus (first | (simp only [go_sem, Nat.reduceEqDiff, Nat.reduceAdd, Nat.reduceSub, Nat.reduceLeDiff, Nat.reduceMul, Nat.reduceBEq, Nat.reduceLT, Int.reduceToNat, reduceCtorEq]; first | done | exact rfl | (and_intros <;> rfl)) | exact rfl | decide)))); (apply (op_newBld 5 isBT); (iterate 4 (focus (first | (simp only [go_sem, Nat.reduceEqDiff, Nat.reduceAdd, Nat.reduceSub, Nat.reduceLeDiff, Nat.reduceMul, Nat.reduceBEq, Nat.reduceLT, Int.reduceToNat, reduceCtorEq]; first | done | exact rfl | (and_intros <;> rfl)) | exact rfl | decide)))); (apply (op_storeBld isBT); (iterate 6 (focus (first | (simp only [go_sem, Nat.reduceEqDiff, Nat.reduceAdd, Nat.reduceSub, Nat.reduceLeDiff, Nat.reduceMul, Nat.reduceBEq, Nat.reduceLT, Int.reduceToNat, reduceCtorEq]; first | done | exact rfl | (and_intros <;> rfl)) | exact rfl | decide))))
  refine wRUN trivial ?_
  refine w12 (op_rowF [] hlv) trivial ?_
  refine wRUN hln ?_
  refine a_loop (κ := Nat) (fun k => ⟨mkS 0 26 [(3, .ptr (3, 0) 0), (8, .own (97, 0)), (9, .c (.int .i64 l.length)), (10, .c (.int .i64 k))],
      [((3, 0), bldA (flatS (l.take k))), ((97, 0), .row false 6 154 (l.map placedCs)), ((8, 0), .blk (tabR o) [])]⟩)
    (fun k => k ≤ l.length) (fun k => l.length - k) 0 (Nat.zero_le _) ?_ ?_
  · exact wSays (Says.of [((3, 0), (3, 0)), ((97, 0), (8, 1)), ((8, 0), (8, 0))] []) h0
  · intro k hk
    have hz1 := hsz k hk
    by_cases hlt : k < l.length
    · have hdk : decide ((k : Int) < (l.length : Int)) = true := by simpa using hlt
      have hw := wrap_succ (k := k) (by omega)
      have hr : rowsAt (l.map placedCs) 6 k = true := by simp [rowsAt, hlt, placedCs]
      have hg : (l.map placedCs)[k]? = some [.sl (l[k].1.map V.cs), .int .i64 l[k].2.kind, .int .i64 l[k].2.num, .str l[k].2.text, .sl (l[k].2.keys.map strCs), .sl (l[k].2.kids.map V.cs)] := by simp [hlt, placedCs]
      have hp := hok _ (List.getElem_mem hlt)
      have hpt := pathText_ac (o := o) hp.keys (by have := hp.len; omega)
      have hen := encodeR_ac (o := o) hp.right
      have hps := pathS_all hp.keys hp.len
      have hts := txt_size' hp.right
      have hls := leafS_size hp
      have hnx := (flatS_next hlt).symm
      have hwr := writeString_ac (flatS (l.take k)) (leafS l[k]) (by omega)
      rw [hnx] at hwr
      unfold leafS eqS3 at hwr
      have x1 : (pathS l[k].1).size + 3 ≤ 9223372036854775807 := by omega
      have x2 : (pathS l[k].1 ++ ⟨#[32, 61, 32]⟩).size + l[k].2.txt.size ≤ 9223372036854775807 := by rw [ByteArray.size_append]; have : (⟨#[32, 61, 32]⟩ : ByteArray).size = 3 := rfl; omega
      have x3 : (pathS l[k].1 ++ ⟨#[32, 61, 32]⟩ ++ l[k].2.txt).size + 1 ≤ 9223372036854775807 := by simp only [ByteArray.size_append]; have : (⟨#[32, 61, 32]⟩ : ByteArray).size = 3 := rfl; omega
      generalize l[k] = q at *
      generalize hu1 : pathS q.1 ++ ⟨#[32, 61, 32]⟩ = u1 at *
      generalize hu2 : u1 ++ q.2.txt = u2 at *
      refine wRUN (j3 hdk hr hg) ?_
      refine w10 (op_reads tab_pin tab_any (8, 0) [] hpt) trivial ?_
      refine wRUN (j2 x1 hu1) ?_
      refine w10 (op_reads tab_pin tab_any (8, 0) [] hen) trivial ?_
      refine wRUN (j3 x2 hu2 x3) ?_
      refine wCall (op_any_call [((0, 0), (3, 0))] [((0, 0), (3, 0))] hwr) trivial ?_
      refine wRUN hw ?_
      refine ⟨k + 1, by omega, by omega, ?_⟩
      exact wSays (Says.of [((3, 0), (3, 0)), ((97, 0), (97, 0)), ((8, 0), (8, 0))] []) trivial
    · have hdk : decide ((k : Int) < (l.length : Int)) = false := by simpa using hlt
      obtain rfl : k = l.length := by omega
      have hall : l.take l.length = l := List.take_length
      have hst := bldString_ac (flatS l)
      refine wRUN (j2 hdk hall) ?_
      refine wCall (op_any_call [((0, 0), (3, 0))] [] hst) trivial ?_
      refine wRUN trivial ?_
      exact wRetOf (ret_of [((8, 0), (8, 0))] []) Tryz.results67 hdk
theorem implFlat_bad (xs : List CellD) (hz : Sized xs) {c : Int} (hc : c ≠ 0) (hd : dec xs = (c, none)) : AC Tryz.prog 27 [cellsA xs] (tabM o) (.agg [.c (.int .i64 c), .c (.str ByteArray.empty)]) (tabM o) := by
  have hb : (c != 0) = true := by simpa using hc
  have h1 := valOf_bad xs hz (by rw [hd])
  rw [hd] at h1
  refine wEnter Tryz.func27 Tryz.ntmps27 ?_
  refine wRUN trivial ?_
  refine w9 (op_shared [] h1) noV_eq ?_
  refine wRUN (j2 hb noV_eq) ?_
  exact wRetOf (ret_of [((8, 0), (8, 0))] []) Tryz.results27 hb
theorem implFlat_ac (xs : List CellD) (hz : Sized xs) {t : V} (hd : dec xs = (0, some t)) (ht : t.right) : AC Tryz.prog 27 [cellsA xs] (tabM o) (.agg [.c (.int .i64 0), .c (.str (flatS (leavesF t)))]) (tabM o) := by
  have hne : ((0 : Int) != 0) = false := rfl
  have h1 := valOf_ac xs hz (t := t) (by rw [hd])
  have h2 := flat_ac (o := o) ht
  refine wEnter Tryz.func27 Tryz.ntmps27 ?_
  refine wRUN trivial ?_
  refine w9 (op_shared [] h1) trivial ?_
  refine wRUN hne ?_
  refine w10 (op_reads tab_pin tab_any (8, 0) [] h2) trivial ?_
  refine wRUN trivial ?_
  exact wRetOf (ret_of [((8, 0), (8, 0))] []) Tryz.results27 hne
theorem specFlat_bad (xs : List CellD) {c : Int} (hc : c ≠ 0) (hd : dec xs = (c, none)) : AC Tryz.prog 26 [cellsA xs] [] (.agg [.c (.int .i64 c), .c (.str ByteArray.empty)]) [] := by
  have hb : (c != 0) = true := by simpa using hc
  have h1 := specLeavesIn_bad xs (by rw [hd]; exact hc)
  rw [hd] at h1
  refine wEnter Tryz.func26 Tryz.ntmps26 ?_
  refine wRUN trivial ?_
  refine w7 (op_data [] h1) trivial ?_
  refine wRUN hb ?_
  exact wRetOf (ret_of [] []) Tryz.results26 hb
def pathE (p : List V × V) : List CellD := (arrV p.1).enc
theorem forget_paths : ∀ l : List (List V × V), forgetLL (l.map pathCs) = (l.map pathE).map encCs
  | [] => rfl
  | p :: l => by simp only [List.map_cons, forgetLL, forget_paths l, pathCs, pathE, forgetL, C.forget, forget_cells, encCs]
theorem specLeavesS_ac {t : V} (ht : t.right) : AC Tryz.prog 65 [cellsA t.enc] [] (.agg [.c (.int .i64 0), .c (.sl (((leavesF t).map pathE).map encCs))]) [] := by
  have h := specLeavesIn_ac ht.1 ht.2.1 ht.2.2
  have hf := forget_paths (leavesF t)
  unfold leavesF at hf ⊢
  (apply (AC.says [] [(0, 0)] h); (focus (simp only [go_sem, Nat.reduceEqDiff, Nat.reduceAdd, Nat.reduceSub, Nat.reduceLeDiff, Nat.reduceMul, Nat.reduceBEq, Nat.reduceLT, Int.reduceToNat, reduceCtorEq, hf]; try (and_intros <;> rfl))); (focus exact rfl); (focus (simp only [go_sem, Nat.reduceEqDiff, Nat.reduceAdd, Nat.reduceSub, Nat.reduceLeDiff, Nat.reduceMul, Nat.reduceBEq, Nat.reduceLT, Int.reduceToNat, reduceCtorEq, hf]; try (and_intros <;> rfl))); (focus exact rfl); (iterate 4 (focus (simp [go_sem, hf]; done))))
set_option maxHeartbeats 8000000 in
theorem specFlat_ac {t : V} (ht : t.right) : AC Tryz.prog 26 [cellsA t.enc] [] (.agg [.c (.int .i64 0), .c (.str (flatS (leavesF t)))]) [] := by
  have hne : ((0 : Int) != 0) = false := rfl
  have hlv := specLeavesS_ac ht
  have hok := fun p hp => leaf_ok (p := p) ht hp
  have hll := leavesF_len ht
  generalize leavesF t = l at *
  have hsz := flatS_size (l := l) fun p hp => leafS_size (hok p hp)
  have hln : (((l.map pathE).map encCs)).length = l.length := by simp
  have h0 : flatS (l.take 0) = ByteArray.empty := rfl
  refine wEnter Tryz.func26 Tryz.ntmps26 ?_
  refine wRUN trivial ?_
  refine w9 (op_shared [] hlv) trivial ?_
  refine wRUN hne ?_
  refine a_loop (κ := Nat) (fun k => ⟨mkS 0 44 [(0, cellsA t.enc), (2, .ptr (2, 0) 0), (3, .ptr (3, 0) 0), (4, .c (.str (flatS (l.take k)))), (5, .c (.int .i64 k))],
      [((2, 0), .box [.c (.int .i64 0), .c (.str ByteArray.empty)]), ((3, 0), .box [.c (.int .i64 0), .c (.sl ((l.map pathE).map encCs))])]⟩)
    (fun k => k ≤ l.length) (fun k => l.length - k) 0 (Nat.zero_le _) ?_ ?_
  · exact wSays (Says.of [((2, 0), (2, 0)), ((3, 0), (3, 0))] []) h0
  · intro k hk
    have hz1 := hsz k hk
    by_cases hlt : k < l.length
    · have hdk : decide ((k : Int) < (l.length : Int)) = true := by simpa using hlt
      have hw := wrap_succ (k := k) (by omega)
      have hr : rowsAt ((l.map pathE).map encCs) 1 k = true := by simp [rowsAt, hlt, encCs]
      have hg : ((l.map pathE).map encCs)[k]? = some [.sl ((pathE l[k]).map CellD.cs)] := by simp [hlt, encCs]
      have hp := hok _ (List.getElem_mem hlt)
      have har := path_right hp.sk (by have := hp.len; omega)
      have hpd := path_told hp.sk (by have := hp.len; omega)
      have hbk : (arrV l[k].1).kids.any badKid = false := by
        rw [List.any_eq_false]
        intro q hq
        have := (hp.sk q hq).2.2.2
        unfold badKid
        rcases this with h | h <;> simp [h]
      have hpt := specPathText_ac har hpd hbk
      have hgp := specGetPath_ac t.enc (arrV l[k].1).enc
      have hask : askPath t.enc (arrV l[k].1).enc getPathV = okR l[k].2 := by unfold askPath; rw [right_dec ht]; simp only [hpd]; exact hp.get
      rw [hask] at hgp
      unfold okR at hgp
      rw [vrA_some] at hgp
      have hen := encode_ac _ l[k].2 (Nat.le_refl _) hp.right
      have hps := pathS_all hp.keys hp.len
      have hts := txt_size' hp.right
      have hls := leafS_size hp
      have hnx := flatS_next hlt
      unfold leafS eqS3 at hnx
      change AC Tryz.prog 11 [cellsA (pathE l[k])] [] (.agg [.c (.int .i64 0), .c (.str (pathS l[k].1))]) [] at hpt
      change AC Tryz.prog 66 [cellsA t.enc, cellsA (pathE l[k])] [] (.agg [.c (.int .i64 0), .c (.sl (l[k].2.enc.map CellD.cs))]) [] at hgp
      have hy : flatS (l.take k) ++ pathS l[k].1 ++ ⟨#[32, 61, 32]⟩ ++ l[k].2.txt ++ bS 10 = flatS (l.take (k + 1)) := by rw [hnx]; simp only [ByteArray.append_assoc]
      have e3 : (⟨#[32, 61, 32]⟩ : ByteArray).size = 3 := rfl
      have x0 : (flatS (l.take k)).size + (pathS l[k].1).size ≤ 9223372036854775807 := by omega
      have x1 : (flatS (l.take k) ++ pathS l[k].1).size + 3 ≤ 9223372036854775807 := by rw [ByteArray.size_append]; omega
      have x2 : (flatS (l.take k) ++ pathS l[k].1 ++ ⟨#[32, 61, 32]⟩).size + l[k].2.txt.size ≤ 9223372036854775807 := by simp only [ByteArray.size_append, e3]; omega
      have x3 : (flatS (l.take k) ++ pathS l[k].1 ++ ⟨#[32, 61, 32]⟩ ++ l[k].2.txt).size + 1 ≤ 9223372036854775807 := by simp only [ByteArray.size_append, e3]; omega
      generalize l[k] = q at *
      generalize hu0 : flatS (l.take k) ++ pathS q.1 = u0 at *
      generalize hu1 : u0 ++ ⟨#[32, 61, 32]⟩ = u1 at *
      generalize hu2 : u1 ++ q.2.txt = u2 at *
      refine wRUN (j4 hln hdk hr hg) ?_
      refine w7 (op_data [] hpt) trivial ?_
      refine wRUN (j6 x0 hu0 x1 hu1 hr hg) ?_
      refine w9 (op_shared [] hgp) trivial ?_
      refine wRUN trivial ?_
      refine w7 (op_data [] hen) trivial ?_
      refine wRUN (j5 x2 hu2 x3 hy hw) ?_
      refine ⟨k + 1, by omega, by omega, ?_⟩
      exact wSays (Says.of [((2, 0), (2, 0)), ((3, 0), (3, 0))] []) trivial
    · have hdk : decide ((k : Int) < (l.length : Int)) = false := by simpa using hlt
      obtain rfl : k = l.length := by omega
      have hall : l.take l.length = l := List.take_length
      refine wRUN (j3 hln hdk hall) ?_
      exact wRetOf (ret_of [] []) Tryz.results26 hall
end Go.Proofs.YtfmnoljflcpbgaaGreatDoor
