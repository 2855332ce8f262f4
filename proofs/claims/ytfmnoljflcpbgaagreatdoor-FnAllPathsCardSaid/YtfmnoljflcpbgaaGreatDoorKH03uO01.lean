/- Texts of this proof: H03 H28 O01. -/
import Derived.Test.YtfmnoljflcpbgaaGreatDoorKG08uS02
import Derived.Test.YtfmnoljflcpbgaaGreatDoorKG89uE35
import Derived.Test.YtfmnoljflcpbgaaGreatDoorKR28
import Derived.Test.YtfmnoljflcpbgaaGreatDoorKR17uR13
import Derived.Test.YtfmnoljflcpbgaaGreatDoorRows
import Derived.Test.YtfmnoljflcpbgaaGreatDoorKA1
import Derived.ProofKit
import Derived.SizedLaws
import Derived.Deep.Slices
import Derived.Deep.Fields
import Derived.ChangeSame
set_option linter.unusedSimpArgs false
set_option linter.unusedVariables false
set_option linter.unnecessarySimpa false
namespace Go.Proofs.YtfmnoljflcpbgaaGreatDoor
open Go.RowKit
set_option maxRecDepth 10000
set_option maxHeartbeats 1000000 in
theorem pathsIn_bad (xs : List CellD) (hz : Sized xs) (hd : (dec xs).2 = none) (h0 : (dec xs).1 ≠ 0) : AC Tryz.prog 35 [cellsA xs] [] (.agg [.c (.int .i64 (dec xs).1), .nils]) [] := by
  have hb : ((dec xs).1 != 0) = true := by simpa using h0
  have hv := valOf_bad xs hz hd
  refine wEnter Tryz.func35 Tryz.ntmps35 ?_
  refine wRUN trivial ?_
  refine w9 (op_shared [] hv) noV_eq ?_
  refine wRUN (j2 hb noV_eq) ?_
  exact wRet (ret_data []) Tryz.results35
set_option maxHeartbeats 2000000 in
theorem pathsIn_ac (xs : List CellD) (hz : Sized xs) {t : V} (hd : dec xs = (0, some t)) :
    AC Tryz.prog 35 [cellsA xs] [] (.agg [.c (.int .i64 0), .own (0, 0)]) [((0, 0), .row true 1 27 ((t.paths []).map pathCs))] := by
  obtain ⟨_, hw, hc, _⟩ := dec_ok hd
  have h0 : ((0 : Int) != 0) = false := rfl
  have hv := valOf_ac xs hz (t := t) (by rw [hd])
  have hq := paths_nil t (by omega) (neat_wf t hw)
  have hr := pathsResult_ac (t.paths []) (by rw [paths_len]; exact hc) (fun p hp => by
    obtain ⟨h1, h2⟩ := paths_ok t [] trivial p hp
    exact ⟨by rw [arr_count]; simp only [countL] at h2; omega, arr_neat h1⟩)
  refine wEnter Tryz.func35 Tryz.ntmps35 ?_
  refine wRUN trivial ?_
  refine w9 (op_shared [] hv) trivial ?_
  refine wRUN h0 ?_
  refine w12 (op_rowF [] hq) trivial ?_
  refine wRUN trivial ?_
  refine w12 (op_rowF [(15, 0)] hr) trivial ?_
  refine wRUN trivial ?_
  exact wRetOf (ret_of [((0, 0), (16, 0))] []) Tryz.results35 h0
set_option maxHeartbeats 1000000 in
theorem specPathsIn_bad (xs : List CellD) (h0 : (dec xs).1 ≠ 0) : AC Tryz.prog 36 [cellsA xs] [] (.agg [.c (.int .i64 (dec xs).1), .nils]) [] := by
  have hv := l13Paths_bad xs false h0
  refine wEnter Tryz.func36 Tryz.ntmps36 ?_
  refine wRUN trivial ?_
  refine w7 (op_data [] hv) trivial ?_
  refine wRUN trivial ?_
  exact wRet (ret_data []) Tryz.results36
end Go.Proofs.YtfmnoljflcpbgaaGreatDoor

/- laws.FnAllPaths: the walk of the law, by the engine. -/
namespace Go.Proofs.YtfmnoljflcpbgaaGreatDoor
open Go.RowKit
set_option maxRecDepth 10000
variable {o : Obj}
theorem drawPaths_ac (bs : List Nat) (hb : BytesOk bs) : ∃ xs, Sized xs ∧ xs.length ≤ 250 ∧ AC Tryz.prog 34 [.c (.sl (bs.map byteCs))] [] (cellsA xs) [] := by
  have s0 := l1Source_ac bs
  obtain ⟨xs, a1, ⟨g1, g2, g3, g4⟩, c1⟩ := l1Bent_ac bs hb 0 (by omega)
  refine ⟨xs, g2, g1, ?_⟩
  refine wEnter Tryz.func34 Tryz.ntmps34 ?_
  refine wRUN trivial ?_
  refine w12 (op_rowF [] s0) trivial ?_
  refine wRUN trivial ?_
  refine wCall (op_any_call [((0, 0), (4, 0))] [((0, 0), (4, 0)), ((0, 1), (5, 0))] c1) trivial ?_
  refine wRUN trivial ?_
  exact wRetOf (ret_of [] [(5, 0)]) Tryz.results34 g1
mutual
theorem paths_deep : ∀ (t : V) (a : List V), (t.paths a).map (fun p => p.2) = t.deep
  | .mk k n s ks vs, a => by simp only [V.paths, List.map_cons, V.deep, pathsL_deep]
theorem pathsL_deep : ∀ (key : Nat → V) (i : Nat) (ks a : List V), (pathsL key i ks a).map (fun p => p.2) = deepL ks
  | _, _, [], _ => rfl
  | key, i, k :: ks, a => by simp only [pathsL, List.map_append, deepL, paths_deep k, pathsL_deep key (i + 1) ks]
end
theorem path_part (t : V) {k : Nat} (h : k < (t.paths []).length) (h2 : k < t.deep.length) : ((t.paths [])[k]).2 = t.deep[k] := by
  have h1 := paths_deep t []
  have h3 : ((t.paths []).map (fun p => p.2))[k]? = t.deep[k]? := by rw [h1]
  rw [List.getElem?_map, List.getElem?_eq_getElem h, List.getElem?_eq_getElem h2] at h3
  exact Option.some.inj h3
theorem implPathsS_ac {t : V} (ht : t.right) : AC Tryz.prog 35 [cellsA t.enc] [] (.agg [.c (.int .i64 0), .c (.sl (((t.paths []).map pathE).map encCs))]) [] := by
  have h := pathsIn_ac t.enc (right_sized ht) (right_dec ht)
  have hf := forget_paths (t.paths [])
  (apply (AC.says [] [(0, 0)] h); (focus (simp only [go_sem, Nat.reduceEqDiff, Nat.reduceAdd, Nat.reduceSub, Nat.reduceLeDiff, Nat.reduceMul, Nat.reduceBEq, Nat.reduceLT, Int.reduceToNat, reduceCtorEq, hf]; try (and_intros <;> rfl))); (focus exact rfl); (focus (simp only [go_sem, Nat.reduceEqDiff, Nat.reduceAdd, Nat.reduceSub, Nat.reduceLeDiff, Nat.reduceMul, Nat.reduceBEq, Nat.reduceLT, Int.reduceToNat, reduceCtorEq, hf]; try (and_intros <;> rfl))); (focus exact rfl); (iterate 4 (focus (simp [go_sem, hf]; done))))
theorem implLeavesS_ac {t : V} (ht : t.right) : AC Tryz.prog 37 [cellsA t.enc] [] (.agg [.c (.int .i64 0), .c (.sl (((leavesF t).map pathE).map encCs))]) [] := by
  have h := leavesIn_ac t.enc (right_sized ht) (right_dec ht)
  have hf := forget_paths (leavesF t)
  unfold leavesF at hf ⊢
  (apply (AC.says [] [(0, 0)] h); (focus (simp only [go_sem, Nat.reduceEqDiff, Nat.reduceAdd, Nat.reduceSub, Nat.reduceLeDiff, Nat.reduceMul, Nat.reduceBEq, Nat.reduceLT, Int.reduceToNat, reduceCtorEq, hf]; try (and_intros <;> rfl))); (focus exact rfl); (focus (simp only [go_sem, Nat.reduceEqDiff, Nat.reduceAdd, Nat.reduceSub, Nat.reduceLeDiff, Nat.reduceMul, Nat.reduceBEq, Nat.reduceLT, Int.reduceToNat, reduceCtorEq, hf]; try (and_intros <;> rfl))); (focus exact rfl); (iterate 4 (focus (simp [go_sem, hf]; done))))
mutual
/-- A value has a leaf. -/
theorem leaf_in : ∀ (t : V) (a : List V), (t.paths a).any (fun p => !notLeaf p) = true
  | .mk k n s ks [], a => by simp [V.paths, notLeaf, V.kids]
  | .mk k n s ks (v :: vs), a => by
    simp only [V.paths, List.any_cons, pathsL, List.any_append]
    rw [leaf_in v]
    simp
end
theorem leaves_pos (t : V) : 0 < (leavesF t).length := by
  have h := leaf_in t []
  rw [List.any_eq_true] at h
  obtain ⟨p, hp, hq⟩ := h
  exact List.length_pos_of_mem (List.mem_filter.2 ⟨hp, hq⟩)
/-- What is known of the k-th path. -/
structure PathK (t : V) (k : Nat) (e : List CellD) (s : List CellD) : Prop where
  get : AC Tryz.prog 38 [cellsA t.enc, cellsA e] [] (.agg [.c (.int .i64 0), .c (.sl (s.map CellD.cs))]) []
  part : AC Tryz.prog 40 [cellsA t.enc, .c (.int .i64 (k : Int))] [] (.agg [.c (.int .i64 0), .c (.sl (s.map CellD.cs))]) []
  same : AC Tryz.prog 39 [cellsA s, cellsA s] [] (.c (.bool true)) []
theorem pathK {t : V} (ht : t.right) {k : Nat} (hk : k < (t.paths []).length) : PathK t k (pathE (t.paths [])[k]) (((t.paths [])[k]).2.enc) ∧ ∃ s, ∀ o, AC Tryz.prog 13 [cellsA (pathE (t.paths [])[k])] (tabM o) (.agg [.c (.int .i64 0), .c (.str s)]) (tabM o) := by
  have hm : (t.paths [])[k] ∈ t.paths [] := List.getElem_mem hk
  obtain ⟨h1, h2, h3, h4⟩ := path_own ht hm
  have hsk := (paths_sk t [] ht (by simp) _ hm).1
  have hdl : k < t.deep.length := by rw [deep_len]; rw [paths_len] at hk; exact hk
  have hpp := path_part t hk hdl
  have har := path_right hsk (by omega)
  have hpd := path_told hsk (by omega)
  have hg := implGetPathS_ac t.enc (arrV ((t.paths [])[k]).1).enc (right_sized ht) (right_sized har)
  have hask : askPath t.enc (arrV ((t.paths [])[k]).1).enc getPathV = okR ((t.paths [])[k]).2 := by unfold askPath; rw [right_dec ht]; simp only [hpd]; exact h1
  rw [hask] at hg
  refine ⟨⟨hg, ?_, sameS h4⟩, _, fun o => implPathText_ac (o := o) _ (right_sized har) hpd h2 (by omega)⟩
  have := partAt_ac ht hdl
  rw [← hpp] at this
  exact this
set_option maxHeartbeats 8000000 in
theorem lawAllPaths_ac (bs : List Nat) (hbb : ∀ b ∈ bs, b < 256) : AC Tryz.prog 9 [.c (.sl (bs.map byteCs))] (tabM o) (.c (.bool true)) (tabM o) := by
  have hbig := lwBig_ac bs
  by_cases hl : bs.length ≤ 1048576
  · have hd : decide ((bs.length : Int) > 1048576) = false := decide_eq_false (by omega)
    rw [hd] at hbig
    have hb : BytesOk bs := ⟨hl, hbb⟩
    obtain ⟨xs, zx, _, hdraw⟩ := drawPaths_ac bs hb
    rcases dec_cases xs with ⟨t, hdec⟩ | ⟨c, hc, hdec⟩
    · obtain ⟨rfl, ht⟩ := right_of_dec hdec
      have hP := implPathsS_ac ht
      have hL := implLeavesS_ac ht
      have hlp := paths_len t []
      have hel := enc_len t
      have hce := ht.2.1
      have hlv := leavesF_len ht
      have hlv0 := leaves_pos t
      have hlvp : (leavesF t).length ≤ (t.paths []).length := List.length_filter_le _ _
      have hlr : (((t.paths []).map pathE).map encCs).length = t.count := by simp [hlp]
      have hlr2 : (((leavesF t).map pathE).map encCs).length = (leavesF t).length := by simp
      have hle : (t.enc.map CellD.cs).length = t.count := by rw [List.length_map]; omega
      have hne : (((t.count : Nat) : Int) != ((t.count : Nat) : Int)) = false := by simp
      have hgt : decide ((((leavesF t).length : Nat) : Int) > ((t.count : Nat) : Int)) = false := by simp; omega
      have hz0 : ((((leavesF t).length : Nat) : Int) == 0) = false := by simp; intro e; rw [e] at hlv0; simp at hlv0
      have h00 : ((0 : Int) != 0) = false := rfl
      have hrow := fun (k : Nat) (hk : k < (t.paths []).length) => (⟨by simp [rowsAt, hk, encCs], by simp [hk, encCs]⟩ : rowsAt (((t.paths []).map pathE).map encCs) 1 ((k : Nat) : Int) = true ∧ (((t.paths []).map pathE).map encCs)[k]? = some [.sl ((pathE (t.paths [])[k]).map CellD.cs)])
      have hpk := fun (k : Nat) (hk : k < (t.paths []).length) => pathK ht hk
      generalize hPR : ((t.paths []).map pathE).map encCs = PR at *
      generalize hLR : ((leavesF t).map pathE).map encCs = LR at *
      refine wEnter Tryz.func9 Tryz.ntmps9 ?_
      refine wRUN trivial ?_
      refine w7 (op_data [] hbig) trivial ?_
      refine wRUN trivial ?_
      refine w9 (op_shared [] hdraw) trivial ?_
      refine wRUN trivial ?_
      refine w9 (op_shared [] hP) trivial ?_
      refine wRUN h00 ?_
      refine w9 (op_shared [] hL) trivial ?_
      refine wRUN (j7 h00 hlr hlr2 hle hne hgt hz0) ?_
      refine a_loop (κ := Nat) (fun k => ⟨mkS 0 87 [(3, cellsA t.enc), (4, .ptr (4, 0) 0), (6, .c (.int .i64 k))], [((4, 0), .box [.c (.int .i64 0), .c (.sl PR)]), ((8, 0), .blk (tabR o) [])]⟩)
        (fun k => k ≤ t.count) (fun k => t.count - k) 0 (Nat.zero_le _) ?_ ?_
      · exact wSays (Says.of [((4, 0), (4, 0)), ((8, 0), (8, 0))] []) h00
      · intro k hk
        by_cases hlt : k < t.count
        · have hdk : decide ((k : Int) < (t.count : Int)) = true := by simpa using hlt
          have hw := wrap_succ (k := k) (by omega)
          obtain ⟨hr1, hg1⟩ := hrow k (by omega)
          obtain ⟨⟨hget, hpart, hsame⟩, s, htext⟩ := hpk k (by omega)
          have htx := htext o
          generalize pathE (t.paths [])[k] = e at *
          generalize ((t.paths [])[k]).2.enc = se at *
          refine wRUN (j4 hle hdk hr1 hg1) ?_
          refine w9 (op_shared [] hget) trivial ?_
          refine wRUN h00 ?_
          refine w9 (op_shared [] hpart) trivial ?_
          refine wRUN trivial ?_
          refine w7 (op_data [] hsame) trivial ?_
          refine wRUN (j2 hr1 hg1) ?_
          refine wCall (op_any_call [((8, 0), (8, 0))] [((8, 0), (8, 0))] htx) trivial ?_
          refine wRUN (j2 h00 hw) ?_
          refine ⟨k + 1, by omega, by omega, ?_⟩
          exact wSays (Says.of [((4, 0), (4, 0)), ((8, 0), (8, 0))] []) hw
        · have hdk : decide ((k : Int) < (t.count : Int)) = false := by simpa using hlt
          refine wRUN (j2 hle hdk) ?_
          exact wRetOf (ret_of [((8, 0), (8, 0))] []) Tryz.results9 hdk
    · have hB := pathsIn_bad xs zx (by rw [hdec]) (by rw [hdec]; exact hc)
      have hS := specPathsIn_bad xs (by rw [hdec]; exact hc)
      rw [hdec] at hB hS
      have h0 : (c != 0) = true := by simpa using hc
      have h1 : (c == c) = true := by simp
      refine wEnter Tryz.func9 Tryz.ntmps9 ?_
      refine wRUN trivial ?_
      refine w7 (op_data [] hbig) trivial ?_
      refine wRUN trivial ?_
      refine w9 (op_shared [] hdraw) trivial ?_
      refine wRUN trivial ?_
      refine w9 (op_shared [] hB) trivial ?_
      refine wRUN h0 ?_
      refine w9 (op_shared [] hS) trivial ?_
      refine wRUN (j2 h0 h1) ?_
      exact wRetOf (ret_of [((8, 0), (8, 0))] []) Tryz.results9 h1
  · have hd : decide ((bs.length : Int) > 1048576) = true := decide_eq_true (by omega)
    rw [hd] at hbig
    refine wEnter Tryz.func9 Tryz.ntmps9 ?_
    refine wRUN trivial ?_
    refine w7 (op_data [] hbig) trivial ?_
    refine wRUN trivial ?_
    exact wRetOf (ret_of [((8, 0), (8, 0))] []) Tryz.results9 hd
end Go.Proofs.YtfmnoljflcpbgaaGreatDoor

/- An argument that is a slice of cells, opened: it reads as a list of cells. -/
namespace Go.Proofs.YtfmnoljflcpbgaaGreatDoor
open Go.ChangeShapes Go.WideShapes Go.ChangeAt Go.RowKit Go.Deep

section
variable {H : Type} {enc : TypeId × Value → H} {P : Program} {w : World} {base : Nat} {spare : Nat → Bool} {held : Bool}
theorem open_slice_fields {t e : TypeId} {fs : Array Field} {fuel : Nat} {cs : List Value} {x : DataW H × List MemPlace} (ht : P.underlying t = some (.slice e)) (he : P.underlying e = some (.struct fs))
    (hone : oneCellFields P fs = true) (hC : P.cellsOf e = fs.size) (h : DataW.trod enc P w base spare held fuel t cs = some x) :
    (cs = [.slice none 0 0] ∧ x = (.nil, [])) ∨
    ∃ (a : Addr) (len cap m : Nat) (D : Nat → DataW H) (Pl : Nat → List MemPlace), cs = [.slice (some a) len cap] ∧ base ≤ a.block ∧ len ≤ cap ∧ cap ≤ maxLen ∧ m = (if spare a.block then cap else len) ∧
      x = (.slice ((List.range len).map D) ((List.range (m - len)).map fun j => D (len + j)), MemPlace.row a (m * fs.size) ++ (List.range m).flatMap Pl) ∧
      ∀ i, i < m → ∃ (ys : List (DataW H × List MemPlace)) (n : Nat), D i = .agg (ys.map (·.1)) ∧ Pl i = ys.flatMap (·.2) ∧ ys.length = fs.size ∧
        ∀ (j : Nat) (f : Field), fs[j]? = some f → ∃ (v : Value) (y : DataW H × List MemPlace), w.cell? (a.add (i * fs.size + j)) = some v ∧ ys[j]? = some y ∧ DataW.trod enc P w base spare held n f.type [v] = some y := by
  rcases open_slice ht h with h0 | ⟨a, len, cap, m, n, D, Pl, hcs, hb, hl, hm, hmm, hx, hi⟩
  · exact .inl h0
  · refine .inr ⟨a, len, cap, m, D, Pl, hcs, hb, hl, hm, hmm, by rw [hC] at hx; exact hx, fun i him => ?_⟩
    obtain ⟨cs', hc, ht'⟩ := hi i him
    rw [hC] at hc
    obtain ⟨ys, n', hn', hy, hlen, hyl, hf⟩ := DataW.trod_struct he ht'
    obtain ⟨_, hcl, hat⟩ := World.cells?_some hc
    simp only [Prod.mk.injEq] at hy
    refine ⟨ys, n', hy.1, hy.2, hyl, fun j f hj => ?_⟩
    obtain ⟨ho, hk⟩ := hone_of hone j f hj
    have hjl : j < fs.size := (Array.getElem?_eq_some_iff.1 hj).1
    have hcell := hat j hjl
    have hv : cs'[j]? = some (cs'[j]'(by omega)) := List.getElem?_eq_getElem (by omega)
    have h1 := hf j f hj
    rw [ho, hk] at h1
    have hone' : (cs'.drop j).take 1 = [cs'[j]'(by omega)] := by
      rw [List.drop_eq_getElem_cons (by omega)]
      rfl
    rw [hone'] at h1
    have hys : ys[j]? = some (ys[j]'(by omega)) := List.getElem?_eq_getElem (by omega)
    refine ⟨_, _, ?_, hys, h1.trans hys⟩
    rw [← Go.Deep.add_add, hcell, hv]

theorem list_of {α : Type} {p : Nat → α → Prop} : ∀ (n : Nat), (∀ i, i < n → ∃ c, p i c) → ∃ xs : List α, xs.length = n ∧ ∀ i (h : i < xs.length), p i xs[i]
  | 0, _ => ⟨[], rfl, fun i h => absurd h (by simp)⟩
  | n + 1, h => by
    obtain ⟨xs, hl, hx⟩ := list_of n (fun i hi => h i (by omega))
    obtain ⟨c, hc⟩ := h n (by omega)
    refine ⟨xs ++ [c], by simp [hl], fun i hi => ?_⟩
    by_cases hlt : i < xs.length
    · rw [List.getElem_append_left hlt]; exact hx i hlt
    · have : i = xs.length := by simp at hi; omega
      subst this
      rw [List.getElem_append_right (Nat.le_refl _)]
      simp
      rw [hl]
      exact hc

/-- An argument of type []Cell: five fields of one cell each. -/
theorem open_cellS {t e tI tS : TypeId} {n0 n1 n2 n3 n4 : Field} {fuel len cap : Nat} {A : Option Addr} {x : DataW H × List MemPlace} (ht : P.underlying t = some (.slice e)) (he : P.underlying e = some (.struct #[n0, n1, n2, n3, n4]))
    (hone : oneCellFields P #[n0, n1, n2, n3, n4] = true) (hC : P.cellsOf e = 5) (h0 : n0.type = tI) (h1 : n1.type = tI) (h2 : n2.type = tS) (h3 : n3.type = tS) (h4 : n4.type = tI)
    (hI : P.underlying tI = some (.int .i64)) (hS : P.underlying tS = some .string)
    (h : DataW.trod enc P w base spare held fuel t [.slice A len cap] = some x) :
    ∃ xs : List CellD, xs.length = len ∧ len ≤ 9223372036854775807 ∧ len ≤ cap ∧ (∀ c ∈ xs, c.text.size ≤ 9223372036854775807 ∧ c.key.size ≤ 9223372036854775807) ∧ Cells w (fun b => b < w.heap.size) A xs := by
  rcases open_slice_fields ht he hone hC h with ⟨hcs, _⟩ | ⟨a, len', cap', m, D, Pl, hcs, _, hl, hm, hmm, _, hi⟩
  · simp only [List.cons.injEq, Value.slice.injEq, and_true] at hcs
    obtain ⟨rfl, rfl, rfl⟩ := hcs
    exact ⟨[], rfl, by omega, by omega, by simp, Cells.nil⟩
  · simp only [List.cons.injEq, Value.slice.injEq, and_true] at hcs
    obtain ⟨rfl, rfl, rfl⟩ := hcs
    have hlm : len ≤ m := by rw [hmm]; split <;> omega
    have hmx : maxLen = 9223372036854775807 := rfl
    obtain ⟨xs, hxl, hx⟩ := list_of (p := fun i (c : CellD) => (c.text.size ≤ 9223372036854775807 ∧ c.key.size ≤ 9223372036854775807) ∧ ∀ j u, (vals c)[j]? = some u → w.cell? (a.add (i * 5 + j)) = some u) len (fun i hil => by
      obtain ⟨ys, n, _, _, _, hf⟩ := hi i (by omega)
      obtain ⟨v0, y0, c0, _, t0⟩ := hf 0 n0 rfl
      obtain ⟨v1, y1, c1, _, t1⟩ := hf 1 n1 rfl
      obtain ⟨v2, y2, c2, _, t2⟩ := hf 2 n2 rfl
      obtain ⟨v3, y3, c3, _, t3⟩ := hf 3 n3 rfl
      obtain ⟨v4, y4, c4, _, t4⟩ := hf 4 n4 rfl
      rw [h0] at t0; rw [h1] at t1; rw [h2] at t2; rw [h3] at t3; rw [h4] at t4
      obtain ⟨k, e0, _⟩ := DataW.trod_int hI t0
      obtain ⟨q, e1, _⟩ := DataW.trod_int hI t1
      obtain ⟨s, e2, _, z2⟩ := DataW.trod_string hS t2
      obtain ⟨y, e3, _, z3⟩ := DataW.trod_string hS t3
      obtain ⟨nn, e4, _⟩ := DataW.trod_int hI t4
      simp only [List.cons.injEq, and_true] at e0 e1 e2 e3 e4
      subst e0 e1 e2 e3 e4
      refine ⟨⟨k, q, s, y, nn⟩, ⟨by show s.size ≤ _; omega, by show y.size ≤ _; omega⟩, fun j u hu => ?_⟩
      simp only [vals] at hu
      match j with
      | 0 => simp only [List.getElem?_cons_zero, Option.some.injEq] at hu; subst hu; exact c0
      | 1 => simp only [List.getElem?_cons_succ, List.getElem?_cons_zero, Option.some.injEq] at hu; subst hu; exact c1
      | 2 => simp only [List.getElem?_cons_succ, List.getElem?_cons_zero, Option.some.injEq] at hu; subst hu; exact c2
      | 3 => simp only [List.getElem?_cons_succ, List.getElem?_cons_zero, Option.some.injEq] at hu; subst hu; exact c3
      | 4 => simp only [List.getElem?_cons_succ, List.getElem?_cons_zero, Option.some.injEq] at hu; subst hu; exact c4
      | j + 5 => simp at hu)
    refine ⟨xs, hxl, by omega, hl, fun c hc => ?_, fun x hx' => ?_, fun hn => ?_⟩
    · obtain ⟨i, hi', rfl⟩ := List.getElem_of_mem hc
      exact (hx i hi').1
    · simp only [List.mem_map] at hx'
      obtain ⟨c, _, rfl⟩ := hx'
      rfl
    · simp only [List.length_map] at hn
      have hfirst := (hx 0 hn).2 0 _ rfl
      simp only [Nat.zero_mul, Nat.zero_add] at hfirst
      have hadd0 : a.add 0 = a := by unfold Addr.add; simp
      rw [hadd0] at hfirst
      obtain ⟨ab, ao, asp⟩ := a
      have hsp : asp = none := by
        unfold World.cell? at hfirst
        simp only at hfirst
        split at hfirst
        · split at hfirst
          · simp at hfirst
          · rename_i hns; simpa using hns
        · simp at hfirst
      subst hsp
      refine ⟨ab, ao, rfl, World.block_lt_of_cell? w _ hfirst, World.block_lt_of_cell? w _ hfirst, fun i x hxi j u hu => ?_⟩
      simp only [List.getElem?_map] at hxi
      by_cases hil : i < xs.length
      · rw [List.getElem?_eq_getElem hil] at hxi
        simp only [Option.map_some, Option.some.injEq] at hxi
        subst hxi
        have := (hx i hil).2 j u hu
        have hadd : (⟨ab, ao, none⟩ : Addr).add (i * 5 + j) = ⟨ab, ao + i * 5 + j, none⟩ := by
          unfold Addr.add
          split
          · rename_i h0; (have hi0 : i = 0 := by omega); subst hi0; simp
          · simp [Nat.add_assoc]
        rw [hadd] at this
        exact this
      · rw [List.getElem?_eq_none (by omega)] at hxi
        simp at hxi
end
end Go.Proofs.YtfmnoljflcpbgaaGreatDoor
