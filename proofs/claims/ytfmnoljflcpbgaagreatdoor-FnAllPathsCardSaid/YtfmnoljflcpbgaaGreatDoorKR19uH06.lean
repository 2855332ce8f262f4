/- Texts of this proof: R19 M39 H04 H06. -/
import Derived.Test.YtfmnoljflcpbgaaGreatDoorKR15
import Derived.Test.YtfmnoljflcpbgaaGreatDoorKR18uE37
import Derived.Test.YtfmnoljflcpbgaaGreatDoorKG27uG15
import Derived.Test.YtfmnoljflcpbgaaGreatDoorKM29uG87
import Derived.Test.YtfmnoljflcpbgaaGreatDoorKE6
import Derived.Test.YtfmnoljflcpbgaaGreatDoorKG08uS02
import Derived.Shelf.SortM.Plain
import Derived.Shelf.SortM.SortNone
import Derived.Test.YtfmnoljflcpbgaaGreatDoorKG04uG20
import Derived.Test.YtfmnoljflcpbgaaGreatDoorKM2
import Derived.Sort.OwnSorted
import Derived.Test.YtfmnoljflcpbgaaGreatDoorKG01uG03
import Derived.Test.YtfmnoljflcpbgaaGreatDoorKG23uG24
import Derived.Test.YtfmnoljflcpbgaaGreatDoorKG22
import Derived.Test.YtfmnoljflcpbgaaGreatDoorKE5
import Derived.Test.YtfmnoljflcpbgaaGreatDoorKM3uM28
import Derived.Deep.RegionLaw
import Derived.Shelf.RegionOpenPlain
import Derived.Laws.CopyRow
import Derived.Test.YtfmnoljflcpbgaaGreatDoorKA1
set_option linter.unusedSimpArgs false
set_option linter.unusedVariables false
set_option linter.unnecessarySimpa false
namespace Go.Proofs.YtfmnoljflcpbgaaGreatDoor
open Go.RowKit
set_option maxRecDepth 10000
variable {o : Obj}
theorem tab_pin : ∀ b v vr obj b' v' vr' obj', tabR o b v vr obj → tabR o b' v' vr' obj' → b' = b ∧ obj' = obj := by
  rintro b v vr obj b' v' vr' obj' ⟨h1, h2, _⟩ ⟨k1, k2, _⟩
  exact ⟨Option.some.inj (k2.symm.trans h2), k1.trans h1.symm⟩
theorem tab_any : ∀ b v v' vr obj, tabR o b v vr obj → tabR o b v' vr obj := fun _ _ _ _ _ h => h
/-- The value that cells are. -/
def treeOf (xs : List CellD) : V := (dec xs).2.getD nullV
def dropS : ByteArray := ⟨#[100, 114, 111, 112, 32]⟩
def setS : ByteArray := ⟨#[115, 101, 116, 32]⟩
/-- An edit as a line, and with a line feed. -/
def lineS (d : EditD) : ByteArray := if d.op = 2 then dropS ++ (treeOf d.path).txt else setS ++ (treeOf d.path).txt ++ bS 32 ++ (treeOf d.x).txt
def lnS (d : EditD) : ByteArray := lineS d ++ bS 10
def linesS (l : List EditD) : ByteArray := l.foldl (fun a d => a ++ lnS d) ByteArray.empty
theorem linesS_next {l : List EditD} {k : Nat} (h : k < l.length) : linesS (l.take (k + 1)) = linesS (l.take k) ++ lnS l[k] := by
  unfold linesS
  rw [List.take_succ_eq_append_getElem h, List.foldl_append]
  rfl
/-- What an edit without a fault is. -/
theorem edit_cases {d : EditD} (h : editCode d = 0) : (∃ q, dec d.path = (0, some q) ∧ d.path = q.enc ∧ q.right) ∧ (d.op = 2 ∨ (d.op = 1 ∧ ∃ u, dec d.x = (0, some u) ∧ d.x = u.enc ∧ u.right)) := by
  unfold editCode at h
  split at h
  · omega
  · rename_i hop
    have hop' : d.op = 1 ∨ d.op = 2 := by
      by_cases h1 : d.op = 1
      · exact .inl h1
      · by_cases h2 : d.op = 2
        · exact .inr h2
        · exfalso; apply hop; simp [h1, h2]
    rcases pathDec_cases d.path with ⟨t, ht, hw, hc, hdp, hk5, hkb, hpd⟩ | ⟨c, hc0, hpd⟩
    · have hr : t.right := ⟨hw, hc, hdp⟩
      have hq : dec d.path = (0, some t) := by rw [ht]; exact right_dec hr
      refine ⟨⟨t, hq, ht, hr⟩, ?_⟩
      rw [hpd] at h
      simp only at h
      rcases hop' with h1 | h2
      · refine .inr ⟨h1, ?_⟩
        rw [if_pos (by simp [h1])] at h
        rcases dec_cases d.x with ⟨u, hu⟩ | ⟨c, hc, hd⟩
        · obtain ⟨e1, w1, w2, w3⟩ := dec_ok hu
          exact ⟨u, hu, e1, w1, w2, w3⟩
        · rw [hd] at h; exact absurd h hc
      · exact .inl h2
    · rw [hpd] at h
      exact absurd h hc0
theorem tree_is {xs : List CellD} {t : V} (h : dec xs = (0, some t)) : treeOf xs = t := by unfold treeOf; rw [h]; rfl
theorem lnS_size {d : EditD} (h : editCode d = 0) : (lnS d).size ≤ 100010 := by
  obtain ⟨⟨q, hq, _, hqr⟩, hx⟩ := edit_cases h
  have h1 := txt_size' hqr
  unfold lnS lineS
  rw [tree_is hq]
  have e1 : dropS.size = 5 := rfl
  have e2 : setS.size = 4 := rfl
  rcases hx with h2 | ⟨h2, u, hu, _, hur⟩
  · rw [if_pos h2]
    simp only [ByteArray.size_append, one_size]
    omega
  · rw [if_neg (by omega), tree_is hu]
    have h3 := txt_size' hur
    simp only [ByteArray.size_append, one_size]
    omega
theorem linesS_size {l : List EditD} (h : ∀ d ∈ l, editCode d = 0) : ∀ k, k ≤ l.length → (linesS (l.take k)).size ≤ 100010 * k := by
  intro k
  induction k with
  | zero => intro _; simp [linesS]
  | succ k ih =>
    intro hk
    have h1 := ih (by omega)
    have h2 := lnS_size (h _ (List.getElem_mem (by omega : k < l.length)))
    rw [linesS_next (by omega), ByteArray.size_append]
    omega
theorem edits_none {l : List EditD} (h : editsCode l = 0) : l.length ≤ 100 ∧ ∀ d ∈ l, editCode d = 0 := by
  unfold editsCode at h
  split at h
  · omega
  · rename_i hl
    refine ⟨by omega, ?_⟩
    clear hl
    induction l with
    | nil => simp
    | cons d l ih =>
      unfold firstEdit at h
      split at h
      · omega
      · rename_i h0
        intro e he
        rcases List.mem_cons.1 he with rfl | he
        · simpa using h0
        · exact ih h e he
set_option maxHeartbeats 8000000 in
theorem specLine_ac {d : EditD} (h : editCode d = 0) : AC Tryz.prog 58 [d.av] [] (.c (.str (lineS d))) [] := by
  obtain ⟨⟨q, hq, hqe, hqr⟩, hx⟩ := edit_cases h
  have h1 := txt_size' hqr
  have he := encode_ac _ q (Nat.le_refl _) hqr
  rw [← hqe] at he
  unfold lineS
  rw [tree_is hq]
  rcases hx with h2 | ⟨h2, u, hu, hue, hur⟩
  · have b2 : (d.op == 2) = true := by simp [h2]
    rw [if_pos h2]
    have hr : dropS = ⟨#[100, 114, 111, 112, 32]⟩ := rfl
    have x1 : 5 + q.txt.size ≤ 9223372036854775807 := by omega
    rw [hr]
    refine wEnter Tryz.func58 Tryz.ntmps58 ?_
    refine wRUN b2 ?_
    refine w7 (op_data [] he) trivial ?_
    refine wRUN x1 ?_
    exact wRetOf (ret_of [] []) Tryz.results58 b2
  · have b2 : (d.op == 2) = false := by simp [h2]
    rw [if_neg (by omega), tree_is hu]
    have h3 := txt_size' hur
    have he2 := encode_ac _ u (Nat.le_refl _) hur
    rw [← hue] at he2
    have hr : setS = ⟨#[115, 101, 116, 32]⟩ := rfl
    have hs4 : setS.size = 4 := rfl
    have x1 : 4 + q.txt.size ≤ 9223372036854775807 := by omega
    have x2 : (setS ++ q.txt).size + 1 ≤ 9223372036854775807 := by simp only [ByteArray.size_append, hs4]; omega
    have x3 : (setS ++ q.txt ++ bS 32).size + u.txt.size ≤ 9223372036854775807 := by simp only [ByteArray.size_append, hs4, one_size]; omega
    rw [hr] at x2 x3 ⊢
    generalize hv1 : (⟨#[115, 101, 116, 32]⟩ : ByteArray) ++ q.txt = v1 at *
    generalize hv2 : v1 ++ bS 32 = v2 at *
    refine wEnter Tryz.func58 Tryz.ntmps58 ?_
    refine wRUN b2 ?_
    refine w7 (op_data [] he) trivial ?_
    refine wRUN (j4 x1 hv1 x2 hv2) ?_
    refine w7 (op_data [] he2) trivial ?_
    refine wRUN x3 ?_
    exact wRetOf (ret_of [] []) Tryz.results58 b2
set_option maxHeartbeats 8000000 in
theorem implLine_ac {d : EditD} (h : editCode d = 0) : AC Tryz.prog 62 [d.av] (tabM o) (.c (.str (lnS d))) (tabM o) := by
  obtain ⟨⟨q, hq, hqe, hqr⟩, hx⟩ := edit_cases h
  have h1 := txt_size' hqr
  have he := valText_ac (o := o) hqr
  rw [← hqe] at he
  unfold lnS lineS
  rw [tree_is hq]
  rcases hx with h2 | ⟨h2, u, hu, hue, hur⟩
  · have b2 : (d.op == 2) = true := by simp [h2]
    rw [if_pos h2]
    have hr : dropS = ⟨#[100, 114, 111, 112, 32]⟩ := rfl
    have hs4 : dropS.size = 5 := rfl
    have x1 : 5 + q.txt.size ≤ 9223372036854775807 := by omega
    have x2 : (dropS ++ q.txt).size + 1 ≤ 9223372036854775807 := by simp only [ByteArray.size_append, hs4]; omega
    rw [hr] at x2 ⊢
    generalize hv1 : (⟨#[100, 114, 111, 112, 32]⟩ : ByteArray) ++ q.txt = v1 at *
    refine wEnter Tryz.func62 Tryz.ntmps62 ?_
    refine wRUN b2 ?_
    refine w10 (op_reads tab_pin tab_any (8, 0) [] he) trivial ?_
    refine wRUN (j3 x1 hv1 x2) ?_
    exact wRetOf (ret_of [((8, 0), (8, 0))] []) Tryz.results62 b2
  · have b2 : (d.op == 2) = false := by simp [h2]
    rw [if_neg (by omega), tree_is hu]
    have h3 := txt_size' hur
    have he2 := valText_ac (o := o) hur
    rw [← hue] at he2
    have hr : setS = ⟨#[115, 101, 116, 32]⟩ := rfl
    have hs4 : setS.size = 4 := rfl
    have x1 : 4 + q.txt.size ≤ 9223372036854775807 := by omega
    have x2 : (setS ++ q.txt).size + 1 ≤ 9223372036854775807 := by simp only [ByteArray.size_append, hs4]; omega
    have x3 : (setS ++ q.txt ++ bS 32).size + u.txt.size ≤ 9223372036854775807 := by simp only [ByteArray.size_append, hs4, one_size]; omega
    have x4 : (setS ++ q.txt ++ bS 32 ++ u.txt).size + 1 ≤ 9223372036854775807 := by simp only [ByteArray.size_append, hs4, one_size]; omega
    rw [hr] at x2 x3 x4 ⊢
    generalize hv1 : (⟨#[115, 101, 116, 32]⟩ : ByteArray) ++ q.txt = v1 at *
    generalize hv2 : v1 ++ bS 32 = v2 at *
    generalize hv3 : v2 ++ u.txt = v3 at *
    refine wEnter Tryz.func62 Tryz.ntmps62 ?_
    refine wRUN b2 ?_
    refine w10 (op_reads tab_pin tab_any (8, 0) [] he) trivial ?_
    refine wRUN (j4 x1 hv1 x2 hv2) ?_
    refine w10 (op_reads tab_pin tab_any (8, 0) [] he2) trivial ?_
    refine wRUN (j3 x3 hv3 x4) ?_
    exact wRetOf (ret_of [((8, 0), (8, 0))] []) Tryz.results62 b2
end Go.Proofs.YtfmnoljflcpbgaaGreatDoor

/- Edits told one by one: the road from one value to another. -/
namespace Go.Proofs.YtfmnoljflcpbgaaGreatDoor
open Go.RowKit
theorem path_told {p : List V} (hp : ∀ q ∈ p, sKey q) (hl : p.length ≤ 100) : pathDec (arrV p).enc = (0, some p) := by
  obtain ⟨h1, h2, h3⟩ := path_right hp hl
  have hb : (arrV p).kids.any badKid = false := by
    rw [List.any_eq_false]
    intro q hq
    obtain ⟨_, _, _, h⟩ := hp q hq
    unfold badKid
    rcases h with h | h <;> simp [h]
  rw [pathDec_enc h1 h2 h3, hb]
  rfl
end Go.Proofs.YtfmnoljflcpbgaaGreatDoor

/- impl.LeavesIn, spec.LeavesIn, by the engine. -/
namespace Go.Proofs.YtfmnoljflcpbgaaGreatDoor
open Go.RowKit
set_option maxRecDepth 10000
set_option maxHeartbeats 2000000 in
theorem leavesIn_ac (xs : List CellD) (hz : Sized xs) {t : V} (hd : dec xs = (0, some t)) :
    AC Tryz.prog 37 [cellsA xs] [] (.agg [.c (.int .i64 0), .own (0, 0)]) [((0, 0), .row true 1 27 (((t.paths []).filter fun p => !notLeaf p).map pathCs))] := by
  obtain ⟨_, hw, hc, _⟩ := dec_ok hd
  have h0 : ((0 : Int) != 0) = false := rfl
  have hv := valOf_ac xs hz (t := t) (by rw [hd])
  have hq := leaves_ac t (by omega) (neat_wf t hw)
  have hr := pathsResult_ac ((t.paths []).filter fun p => !notLeaf p) (Nat.le_trans (List.length_filter_le _ _) (by rw [paths_len]; exact hc)) (fun p hp => by
    obtain ⟨h1, h2⟩ := paths_ok t [] trivial p (List.mem_filter.1 hp).1
    exact ⟨by rw [arr_count]; simp only [countL] at h2; omega, arr_neat h1⟩)
  refine wEnter Tryz.func37 Tryz.ntmps37 ?_
  refine wRUN trivial ?_
  refine w9 (op_shared [] hv) trivial ?_
  refine wRUN h0 ?_
  refine w12 (op_rowF [] hq) trivial ?_
  refine wRUN trivial ?_
  refine w12 (op_rowF [(15, 0)] hr) trivial ?_
  refine wRUN trivial ?_
  exact wRetOf (ret_of [((0, 0), (16, 0))] []) Tryz.results37 h0
set_option maxHeartbeats 1000000 in
theorem specLeavesIn_bad (xs : List CellD) (h0 : (dec xs).1 ≠ 0) : AC Tryz.prog 65 [cellsA xs] [] (.agg [.c (.int .i64 (dec xs).1), .nils]) [] := by
  have hv := l13Paths_bad xs true h0
  refine wEnter Tryz.func65 Tryz.ntmps65 ?_
  refine wRUN trivial ?_
  refine w7 (op_data [] hv) trivial ?_
  refine wRUN trivial ?_
  exact wRet (ret_data []) Tryz.results65
theorem allP_true (l : List (List V × V)) : (allP true l).map resCs = (l.filter fun p => !notLeaf p).map pathCs := by
  have : l.filter (keep true) = l.filter fun p => !notLeaf p := by
    congr 1
    funext p
    simp [keep, notLeaf]
  unfold allP
  rw [this, List.map_map]
  rfl
set_option maxHeartbeats 1000000 in
theorem specLeavesIn_ac {t : V} (hw : t.wf) (hc : t.count ≤ 200) (hd : t.depth ≤ 20) :
    AC Tryz.prog 65 [cellsA t.enc] [] (.agg [.c (.int .i64 0), .own (0, 0)]) [((0, 0), .row true 1 27 (((t.paths []).filter fun p => !notLeaf p).map pathCs))] := by
  have hv := l13Paths_ac true hw hc hd
  rw [allP_true] at hv
  refine wEnter Tryz.func65 Tryz.ntmps65 ?_
  refine wRUN trivial ?_
  refine w12 (op_rowF [] hv) trivial ?_
  refine wRUN trivial ?_
  exact wRetOf (ret_of [((0, 0), (4, 0))] []) Tryz.results65 hd
end Go.Proofs.YtfmnoljflcpbgaaGreatDoor

/- spec.GetPath, by the engine. -/
namespace Go.Proofs.YtfmnoljflcpbgaaGreatDoor
open Go.RowKit
set_option maxRecDepth 10000
theorem specGetPath_ac (xs ps : List CellD) : AC Tryz.prog 66 [cellsA xs, cellsA ps] [] (vrA (askPath xs ps getPathV)) [] := by
  rcases ask_way xs ps getPathV with ⟨h1, h2, h3⟩ | ⟨t, hd, hx, ht, ⟨c, hc, hp, h3⟩ | ⟨s, hs, hps, _, _, hp, h3⟩⟩
  · have ha := l13Asked_one xs ps h2
    have hb : ((dec xs).1 != 0) = true := by simpa using h2
    rw [h3, vrA_none]
    refine wEnter Tryz.func66 Tryz.ntmps66 ?_
    refine wRUN trivial ?_
    refine w7 (op_data [] ha) trivial ?_
    refine wRUN hb ?_
    refine w7 (op_data [] (l3Bad_ac (dec xs).1)) trivial ?_
    refine wRUN trivial ?_
    exact wRet (ret_data []) Tryz.results66
  · have ha := l13Asked_two xs ps (by rw [hd])
    rw [hp] at ha
    have hb : (c != 0) = true := by simpa using hc
    rw [h3, vrA_none]
    refine wEnter Tryz.func66 Tryz.ntmps66 ?_
    refine wRUN trivial ?_
    refine w7 (op_data [] ha) trivial ?_
    refine wRUN hb ?_
    refine w7 (op_data [] (l3Bad_ac c)) trivial ?_
    refine wRUN trivial ?_
    exact wRet (ret_data []) Tryz.results66
  · have ha := l13Asked_two xs ps (by rw [hd])
    rw [hp] at ha
    have h0 : ((0 : Int) != 0) = false := rfl
    have hparts := l1Parts_ac hs.1 hs.2.1
    have hkl := kids_len_le hs.2.1
    have hg := l13Get_ac ht s.kids (by omega) (fun k hk => right_mem hs hk)
    rw [h3]
    subst hx
    subst hps
    generalize getPathV t s.kids = r at *
    rcases r with ⟨c, _ | u⟩
    all_goals
      simp only [vrA_some, vrA_none] at hg ⊢
      refine wEnter Tryz.func66 Tryz.ntmps66 ?_
      refine wRUN trivial ?_
      refine w7 (op_data [] ha) trivial ?_
      refine wRUN h0 ?_
      refine w9 (op_shared [] hparts) trivial ?_
      refine w9 (op_shared [] hg) trivial ?_
      refine wRUN trivial ?_
      exact wRet (ret_data []) Tryz.results66
end Go.Proofs.YtfmnoljflcpbgaaGreatDoor
