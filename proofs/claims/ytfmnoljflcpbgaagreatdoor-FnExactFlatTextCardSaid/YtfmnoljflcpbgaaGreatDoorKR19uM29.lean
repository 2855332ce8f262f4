/- Texts of this proof: R19 M28 M29. -/
import Derived.Test.YtfmnoljflcpbgaaGreatDoorKR15
import Derived.Test.YtfmnoljflcpbgaaGreatDoorKR18
import Derived.Test.YtfmnoljflcpbgaaGreatDoorKG16uE37
import Derived.Test.YtfmnoljflcpbgaaGreatDoorKG27uR12
import Derived.Test.YtfmnoljflcpbgaaGreatDoorKM2
import Derived.Test.YtfmnoljflcpbgaaGreatDoorKG20uG24
set_option linter.unusedSimpArgs false
set_option linter.unusedVariables false
set_option linter.unnecessarySimpa false
namespace Go.Proofs.YtfmnoljflcpbgaaGreatDoor
open Go.RowKit
set_option maxRecDepth 10000
variable {o : Obj}
theorem tab_pin : ∀ b v vr obj b' v' vr' obj', tabR o b v vr obj → tabR o b' v' vr' obj' → b' = b ∧ obj' = obj := by
  rintro b v vr obj b' v' vr' obj' ⟨h1, h2, _⟩ ⟨k1, k2, _⟩
  exact ⟨Option.some.inj (k2.symm.trans h2), k1.trans h1.symm⟩
theorem tab_any : ∀ b v v' vr obj, tabR o b v vr obj → tabR o b v' vr obj := fun _ _ _ _ _ h => h
/-- The value that cells are. -/
def treeOf (xs : List CellD) : V := (dec xs).2.getD nullV
def dropS : ByteArray := ⟨#[100, 114, 111, 112, 32]⟩
def setS : ByteArray := ⟨#[115, 101, 116, 32]⟩
/-- An edit as a line, and with a line feed. -/
def lineS (d : EditD) : ByteArray := if d.op = 2 then dropS ++ (treeOf d.path).txt else setS ++ (treeOf d.path).txt ++ bS 32 ++ (treeOf d.x).txt
def lnS (d : EditD) : ByteArray := lineS d ++ bS 10
def linesS (l : List EditD) : ByteArray := l.foldl (fun a d => a ++ lnS d) ByteArray.empty
theorem linesS_next {l : List EditD} {k : Nat} (h : k < l.length) : linesS (l.take (k + 1)) = linesS (l.take k) ++ lnS l[k] := by
  unfold linesS
  rw [List.take_succ_eq_append_getElem h, List.foldl_append]
  rfl
/-- What an edit without a fault is. -/
theorem edit_cases {d : EditD} (h : editCode d = 0) : (∃ q, dec d.path = (0, some q) ∧ d.path = q.enc ∧ q.right) ∧ (d.op = 2 ∨ (d.op = 1 ∧ ∃ u, dec d.x = (0, some u) ∧ d.x = u.enc ∧ u.right)) := by
  unfold editCode at h
  split at h
  · omega
  · rename_i hop
    have hop' : d.op = 1 ∨ d.op = 2 := by
      by_cases h1 : d.op = 1
      · exact .inl h1
      · by_cases h2 : d.op = 2
        · exact .inr h2
        · exfalso; apply hop; simp [h1, h2]
    rcases pathDec_cases d.path with ⟨t, ht, hw, hc, hdp, hk5, hkb, hpd⟩ | ⟨c, hc0, hpd⟩
    · have hr : t.right := ⟨hw, hc, hdp⟩
      have hq : dec d.path = (0, some t) := by rw [ht]; exact right_dec hr
      refine ⟨⟨t, hq, ht, hr⟩, ?_⟩
      rw [hpd] at h
      simp only at h
      rcases hop' with h1 | h2
      · refine .inr ⟨h1, ?_⟩
        rw [if_pos (by simp [h1])] at h
        rcases dec_cases d.x with ⟨u, hu⟩ | ⟨c, hc, hd⟩
        · obtain ⟨e1, w1, w2, w3⟩ := dec_ok hu
          exact ⟨u, hu, e1, w1, w2, w3⟩
        · rw [hd] at h; exact absurd h hc
      · exact .inl h2
    · rw [hpd] at h
      exact absurd h hc0
theorem tree_is {xs : List CellD} {t : V} (h : dec xs = (0, some t)) : treeOf xs = t := by unfold treeOf; rw [h]; rfl
theorem lnS_size {d : EditD} (h : editCode d = 0) : (lnS d).size ≤ 100010 := by
  obtain ⟨⟨q, hq, _, hqr⟩, hx⟩ := edit_cases h
  have h1 := txt_size' hqr
  unfold lnS lineS
  rw [tree_is hq]
  have e1 : dropS.size = 5 := rfl
  have e2 : setS.size = 4 := rfl
  rcases hx with h2 | ⟨h2, u, hu, _, hur⟩
  · rw [if_pos h2]
    simp only [ByteArray.size_append, one_size]
    omega
  · rw [if_neg (by omega), tree_is hu]
    have h3 := txt_size' hur
    simp only [ByteArray.size_append, one_size]
    omega
theorem linesS_size {l : List EditD} (h : ∀ d ∈ l, editCode d = 0) : ∀ k, k ≤ l.length → (linesS (l.take k)).size ≤ 100010 * k := by
  intro k
  induction k with
  | zero => intro _; simp [linesS]
  | succ k ih =>
    intro hk
    have h1 := ih (by omega)
    have h2 := lnS_size (h _ (List.getElem_mem (by omega : k < l.length)))
    rw [linesS_next (by omega), ByteArray.size_append]
    omega
theorem edits_none {l : List EditD} (h : editsCode l = 0) : l.length ≤ 100 ∧ ∀ d ∈ l, editCode d = 0 := by
  unfold editsCode at h
  split at h
  · omega
  · rename_i hl
    refine ⟨by omega, ?_⟩
    clear hl
    induction l with
    | nil => simp
    | cons d l ih =>
      unfold firstEdit at h
      split at h
      · omega
      · rename_i h0
        intro e he
        rcases List.mem_cons.1 he with rfl | he
        · simpa using h0
        · exact ih h e he
set_option maxHeartbeats 8000000 in
theorem specLine_ac {d : EditD} (h : editCode d = 0) : AC Tryz.prog 58 [d.av] [] (.c (.str (lineS d))) [] := by
  obtain ⟨⟨q, hq, hqe, hqr⟩, hx⟩ := edit_cases h
  have h1 := txt_size' hqr
  have he := encode_ac _ q (Nat.le_refl _) hqr
  rw [← hqe] at he
  unfold lineS
  rw [tree_is hq]
  rcases hx with h2 | ⟨h2, u, hu, hue, hur⟩
  · have b2 : (d.op == 2) = true := by simp [h2]
    rw [if_pos h2]
    have hr : dropS = ⟨#[100, 114, 111, 112, 32]⟩ := rfl
    have x1 : 5 + q.txt.size ≤ 9223372036854775807 := by omega
    rw [hr]
    refine wEnter Tryz.func58 Tryz.ntmps58 ?_
    refine wRUN b2 ?_
    refine w7 (op_data [] he) trivial ?_
    refine wRUN x1 ?_
    exact wRetOf (ret_of [] []) Tryz.results58 b2
  · have b2 : (d.op == 2) = false := by simp [h2]
    rw [if_neg (by omega), tree_is hu]
    have h3 := txt_size' hur
    have he2 := encode_ac _ u (Nat.le_refl _) hur
    rw [← hue] at he2
    have hr : setS = ⟨#[115, 101, 116, 32]⟩ := rfl
    have hs4 : setS.size = 4 := rfl
    have x1 : 4 + q.txt.size ≤ 9223372036854775807 := by omega
    have x2 : (setS ++ q.txt).size + 1 ≤ 9223372036854775807 := by simp only [ByteArray.size_append, hs4]; omega
    have x3 : (setS ++ q.txt ++ bS 32).size + u.txt.size ≤ 9223372036854775807 := by simp only [ByteArray.size_append, hs4, one_size]; omega
    rw [hr] at x2 x3 ⊢
    generalize hv1 : (⟨#[115, 101, 116, 32]⟩ : ByteArray) ++ q.txt = v1 at *
    generalize hv2 : v1 ++ bS 32 = v2 at *
    refine wEnter Tryz.func58 Tryz.ntmps58 ?_
    refine wRUN b2 ?_
    refine w7 (op_data [] he) trivial ?_
    refine wRUN (j4 x1 hv1 x2 hv2) ?_
    refine w7 (op_data [] he2) trivial ?_
    refine wRUN x3 ?_
    exact wRetOf (ret_of [] []) Tryz.results58 b2
set_option maxHeartbeats 8000000 in
theorem implLine_ac {d : EditD} (h : editCode d = 0) : AC Tryz.prog 62 [d.av] (tabM o) (.c (.str (lnS d))) (tabM o) := by
  obtain ⟨⟨q, hq, hqe, hqr⟩, hx⟩ := edit_cases h
  have h1 := txt_size' hqr
  have he := valText_ac (o := o) hqr
  rw [← hqe] at he
  unfold lnS lineS
  rw [tree_is hq]
  rcases hx with h2 | ⟨h2, u, hu, hue, hur⟩
  · have b2 : (d.op == 2) = true := by simp [h2]
    rw [if_pos h2]
    have hr : dropS = ⟨#[100, 114, 111, 112, 32]⟩ := rfl
    have hs4 : dropS.size = 5 := rfl
    have x1 : 5 + q.txt.size ≤ 9223372036854775807 := by omega
    have x2 : (dropS ++ q.txt).size + 1 ≤ 9223372036854775807 := by simp only [ByteArray.size_append, hs4]; omega
    rw [hr] at x2 ⊢
    generalize hv1 : (⟨#[100, 114, 111, 112, 32]⟩ : ByteArray) ++ q.txt = v1 at *
    refine wEnter Tryz.func62 Tryz.ntmps62 ?_
    refine wRUN b2 ?_
    refine w10 (op_reads tab_pin tab_any (8, 0) [] he) trivial ?_
    refine wRUN (j3 x1 hv1 x2) ?_
    exact wRetOf (ret_of [((8, 0), (8, 0))] []) Tryz.results62 b2
  · have b2 : (d.op == 2) = false := by simp [h2]
    rw [if_neg (by omega), tree_is hu]
    have h3 := txt_size' hur
    have he2 := valText_ac (o := o) hur
    rw [← hue] at he2
    have hr : setS = ⟨#[115, 101, 116, 32]⟩ := rfl
    have hs4 : setS.size = 4 := rfl
    have x1 : 4 + q.txt.size ≤ 9223372036854775807 := by omega
    have x2 : (setS ++ q.txt).size + 1 ≤ 9223372036854775807 := by simp only [ByteArray.size_append, hs4]; omega
    have x3 : (setS ++ q.txt ++ bS 32).size + u.txt.size ≤ 9223372036854775807 := by simp only [ByteArray.size_append, hs4, one_size]; omega
    have x4 : (setS ++ q.txt ++ bS 32 ++ u.txt).size + 1 ≤ 9223372036854775807 := by simp only [ByteArray.size_append, hs4, one_size]; omega
    rw [hr] at x2 x3 x4 ⊢
    generalize hv1 : (⟨#[115, 101, 116, 32]⟩ : ByteArray) ++ q.txt = v1 at *
    generalize hv2 : v1 ++ bS 32 = v2 at *
    generalize hv3 : v2 ++ u.txt = v3 at *
    refine wEnter Tryz.func62 Tryz.ntmps62 ?_
    refine wRUN b2 ?_
    refine w10 (op_reads tab_pin tab_any (8, 0) [] he) trivial ?_
    refine wRUN (j4 x1 hv1 x2 hv2) ?_
    refine w10 (op_reads tab_pin tab_any (8, 0) [] he2) trivial ?_
    refine wRUN (j3 x3 hv3 x4) ?_
    exact wRetOf (ret_of [((8, 0), (8, 0))] []) Tryz.results62 b2
end Go.Proofs.YtfmnoljflcpbgaaGreatDoor

/- The plain mathematics of the draws: the numbers, words and values that the bytes make. -/
namespace Go.Proofs.YtfmnoljflcpbgaaGreatDoor
open Go.RowKit
def words : List ByteArray := [⟨#[97]⟩, ⟨#[98]⟩, ⟨#[99]⟩, ⟨#[105, 100]⟩, ByteArray.empty, ⟨#[120, 32, 121]⟩, ⟨#[97, 98]⟩, ⟨#[34, 113, 92]⟩]
end Go.Proofs.YtfmnoljflcpbgaaGreatDoor

/- The plain mathematics of drawn paths. -/
namespace Go.Proofs.YtfmnoljflcpbgaaGreatDoor
open Go.RowKit
/-- A simple key: one cell, a number or a string. -/
def sKey (q : V) : Prop := q.right ∧ q.count = 1 ∧ q.depth = 1 ∧ (q.kind = 3 ∨ q.kind = 4)
theorem sKey_ok {q : V} (h : okKey q) : sKey q := by
  obtain ⟨h1, h2, h3⟩ := okKey_right h
  refine ⟨h1, h2, h3, ?_⟩
  rcases h with ⟨s, rfl, _⟩ | ⟨n, rfl, _⟩
  · exact .inr rfl
  · exact .inl rfl
mutual
theorem paths_sk : ∀ (t : V) (ahead : List V), t.right → (∀ q ∈ ahead, sKey q) → ∀ p ∈ t.paths ahead, (∀ q ∈ p.1, sKey q) ∧ p.1.length + p.2.depth ≤ ahead.length + t.depth
  | .mk kind num text keys kids, ahead, ht, ha => by
    intro p hp
    simp only [V.paths, List.mem_cons] at hp
    rcases hp with rfl | hp
    · exact ⟨ha, Nat.le_refl _⟩
    · have hr : ∀ k ∈ kids, k.right := fun k hk => right_mem ht hk
      have := pathsL_sk (V.mk kind num text keys kids).keyV 0 kids ahead hr (fun j hj => sKey_ok (keyV_ok ht (by simpa [V.kids] using hj))) ha p hp
      exact ⟨this.1, by simp only [V.depth]; omega⟩
theorem pathsL_sk : ∀ (key : Nat → V) (i : Nat) (ks ahead : List V), (∀ k ∈ ks, k.right) → (∀ j, j < i + ks.length → sKey (key j)) → (∀ q ∈ ahead, sKey q) → ∀ p ∈ pathsL key i ks ahead, (∀ q ∈ p.1, sKey q) ∧ p.1.length + p.2.depth ≤ ahead.length + 1 + depthL ks
  | _, _, [], _, _, _, _ => by simp [pathsL]
  | key, i, k :: ks, ahead, hr, hk, ha => by
    intro p hp
    simp only [pathsL, List.mem_append] at hp
    rcases hp with hp | hp
    · have := paths_sk k (ahead ++ [key i]) (hr k (by simp)) (fun q hq => by
        rcases List.mem_append.1 hq with hq | hq
        · exact ha q hq
        · rw [List.mem_singleton.1 hq]; exact hk i (by simp)) p hp
      refine ⟨this.1, ?_⟩
      have h2 := this.2
      rw [List.length_append, List.length_singleton] at h2
      simp only [depthL]
      omega
    · have := pathsL_sk key (i + 1) ks ahead (fun x hx => hr x (by simp [hx])) (fun j hj => hk j (by simp only [List.length_cons]; omega)) ha p hp
      exact ⟨this.1, by simp only [depthL]; omega⟩
end
theorem countL_sk : ∀ {l : List V}, (∀ q ∈ l, sKey q) → countL l = l.length ∧ depthL l ≤ 1 ∧ wfL l
  | [], _ => ⟨rfl, Nat.zero_le _, trivial⟩
  | q :: l, h => by
    obtain ⟨h1, h2, h3⟩ := countL_sk (l := l) fun x hx => h x (by simp [hx])
    obtain ⟨h4, h5, h6, _⟩ := h q (by simp)
    exact ⟨by simp only [countL, List.length_cons]; omega, by simp only [depthL]; omega, h4.1, h3⟩
theorem path_right {P : List V} (h : ∀ q ∈ P, sKey q) (hl : P.length ≤ 100) : (arrV P).right := by
  obtain ⟨h1, h2, h3⟩ := countL_sk h
  exact ⟨arr_wf h3 (by omega), by simp only [arrV, V.count]; omega, by simp only [arrV, V.depth]; omega⟩
end Go.Proofs.YtfmnoljflcpbgaaGreatDoor
