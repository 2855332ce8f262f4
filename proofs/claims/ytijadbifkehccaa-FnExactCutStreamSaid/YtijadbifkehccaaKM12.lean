/- The plain mathematics of events: a stream that is cut. -/
import Derived.Test.YtijadbifkehccaaKM11
set_option linter.unusedSimpArgs false
set_option linter.unusedVariables false
set_option linter.unnecessarySimpa false
namespace Go.Proofs.Ytijadbifkehccaa
open Go.RowKit
def cutEv (d : Nat) (e : Ev) : Option Ev := if e.1.length ≤ d then none else some (e.1.drop d, e.2)
def cutEvs (d : Nat) (l : List Ev) : List Ev := l.filterMap (cutEv d)
theorem cutEvs_take {d : Nat} {l : List Ev} {k : Nat} (h : k < l.length) : cutEvs d (l.take (k + 1)) = cutEvs d (l.take k) ++ (cutEv d l[k]).toList := by
  unfold cutEvs
  rw [List.take_succ_eq_append_getElem h, List.filterMap_append]
  cases hc : cutEv d l[k] <;> simp [hc]
theorem cutEvs_len (d : Nat) (l : List Ev) : (cutEvs d l).length ≤ l.length := List.length_filterMap_le _ _
theorem wfL_drop : ∀ (d : Nat) {l : List V}, wfL l → wfL (l.drop d)
  | 0, _, h => h
  | _ + 1, [], _ => trivial
  | d + 1, _ :: l, h => wfL_drop d (l := l) h.2
theorem countL_drop : ∀ (d : Nat) (l : List V), countL (l.drop d) ≤ countL l
  | 0, _ => Nat.le_refl _
  | _ + 1, [] => Nat.le_refl _
  | d + 1, x :: l => by
    have := countL_drop d l
    simp only [List.drop_succ_cons, countL]
    omega
theorem depthL_drop : ∀ (d : Nat) (l : List V), depthL (l.drop d) ≤ depthL l
  | 0, _ => Nat.le_refl _
  | _ + 1, [] => Nat.le_refl _
  | d + 1, x :: l => by
    have := depthL_drop d l
    simp only [List.drop_succ_cons, depthL]
    omega
theorem count_node (t : V) : t.count = 1 + countL t.kids := by
  cases t
  simp only [V.count, V.kids]
  omega
theorem depth_node (t : V) : t.depth = 1 + depthL t.kids := by
  cases t
  simp only [V.depth, V.kids]
  omega
theorem wfL_kids {t : V} (h : t.wf) : wfL t.kids := by cases t; exact h.2.2
/-- The event that is cut is right. -/
theorem ev_parts {xs : List CellD} {e : Ev} (h : evDec xs = (0, some e)) : ∃ (t q : V), xs = t.enc ∧ t.right ∧ q.right ∧ pathDec q.enc = (0, some q.kids) ∧ e.1 = q.kids ∧ t.kids = q :: e.2.toList := by
  rcases ev_way xs with ⟨hn, h0, he⟩ | ⟨t, hd, hx, ht, ⟨h5, he⟩ | ⟨h5, hl, he⟩ | ⟨q, r, h5, hk, hr, hq, ⟨c, h0, hp, he⟩ | ⟨hp, _, _, ⟨rfl, hqe, he⟩ | ⟨rfl, hqe, he⟩ | ⟨u, rfl, hu, hue, he⟩ | ⟨u, rfl, hu, hue, he⟩⟩⟩⟩
  all_goals rw [h] at he
  all_goals try (have hee := (Prod.mk.inj he).2; cases hee; done)
  · have hee : e = _ := Option.some.inj (Prod.mk.inj he).2
    subst hee
    exact ⟨t, q, hx, ht, hq, hp, rfl, hk⟩
  · have hee : e = _ := Option.some.inj (Prod.mk.inj he).2
    subst hee
    exact ⟨t, q, hx, ht, hq, hp, rfl, hk⟩
theorem evV_eq (e : Ev) : evV e = arrV (arrV e.1 :: e.2.toList) := by obtain ⟨p, o⟩ := e; cases o <;> rfl
theorem cut_right {xs : List CellD} {e : Ev} (h : evDec xs = (0, some e)) (d : Nat) : (evV (e.1.drop d, e.2)).right := by
  obtain ⟨t, q, _, ht, hq, _, he, hk⟩ := ev_parts h
  have hc := count_node t
  have hdp := depth_node t
  have hw := wfL_kids ht.1
  have hqc := count_node q
  have hqd := depth_node q
  have hqw := wfL_kids hq.1
  obtain ⟨_, h2, h3⟩ := ht
  obtain ⟨_, hq2, hq3⟩ := hq
  rw [hk] at hc hdp hw
  simp only [countL, depthL] at hc hdp
  have c1 := countL_drop d q.kids
  have d1 := depthL_drop d q.kids
  have w1 : wfL (q.kids.drop d) := wfL_drop d hqw
  have hl1 := countL_len (q.kids.drop d)
  rw [evV_eq]
  simp only [he]
  have hlo : e.2.toList.length ≤ countL e.2.toList := countL_len _
  refine ⟨arr_wf ⟨arr_wf w1 (by omega), hw.2⟩ (by simp; omega), ?_, ?_⟩
  · rw [count_node]
    show 1 + countL (arrV (q.kids.drop d) :: e.2.toList) ≤ 200
    simp only [countL]
    rw [count_node (arrV _)]
    show 1 + ((1 + countL (q.kids.drop d)) + _) ≤ 200
    omega
  · rw [depth_node]
    show 1 + depthL (arrV (q.kids.drop d) :: e.2.toList) ≤ 20
    simp only [depthL]
    rw [depth_node (arrV _)]
    show 1 + max (1 + depthL (q.kids.drop d)) _ ≤ 20
    omega
end Go.Proofs.Ytijadbifkehccaa
