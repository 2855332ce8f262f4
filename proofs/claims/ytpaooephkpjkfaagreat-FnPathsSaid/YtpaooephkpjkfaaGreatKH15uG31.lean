/- Texts of this proof: H15 H16 G31. -/
import Derived.Test.YtpaooephkpjkfaaGreatKGX
import Derived.Test.YtpaooephkpjkfaaGreatKH05uG58
import Derived.Test.YtpaooephkpjkfaaGreatKG27uGE
import Derived.Test.YtpaooephkpjkfaaGreatKGD
import Derived.Test.YtpaooephkpjkfaaGreatKG45uG34
import Derived.Test.YtpaooephkpjkfaaGreatKG24uG52
import Derived.Test.YtpaooephkpjkfaaGreatKG05uG20
import Derived.Test.YtpaooephkpjkfaaGreatKE5
import Derived.Test.YtpaooephkpjkfaaGreatKM2
import Derived.Test.YtpaooephkpjkfaaGreatKG23
import Derived.Test.YtpaooephkpjkfaaGreatKA1
set_option linter.unusedSimpArgs false
set_option linter.unusedVariables false
set_option linter.unnecessarySimpa false
namespace Go.Proofs.YtpaooephkpjkfaaGreat
open Go.RowKit
set_option maxRecDepth 10000
/-- What comes of putting the value of some cells at a path. -/
def putV (ys : List CellD) (t : V) (path : List V) : Int × Option V := match dec ys with
  | (c, none) => (c, none)
  | (_, some x) => setPathV x path t
theorem kid_kinds {s : V} (hs : s.right) (h : s.kids.any badKid = false) : ∀ k ∈ s.kids, k.right ∧ (k.kind = 3 ∨ k.kind = 4) := fun k hk => by
  refine ⟨right_mem hs hk, ?_⟩
  rw [List.any_eq_false] at h
  have := h k hk
  simp [badKid] at this
  by_cases h4 : k.kind = 4
  · exact .inr h4
  · exact .inl (this h4)
theorem put_ok (ys : List CellD) {t s : V} (ht : t.right) (hs : s.right) (h : s.kids.any badKid = false) : okRes (putV ys t s.kids) := by
  unfold putV
  rcases dec_cases ys with ⟨x, hx⟩ | ⟨c, hc, hx⟩
  · rw [hx]
    exact setPath_ok (right_of_dec hx).2 s.kids (kid_kinds hs h) t ht
  · rw [hx]
    exact hc
theorem setR_ok (xs ps ys : List CellD) : okRes (askPath xs ps (putV ys)) := by
  rcases ask_way xs ps (putV ys) with ⟨h1, h2, h3⟩ | ⟨t, hd, hx, ht, ⟨c, hc, hp, h3⟩ | ⟨s, hs, hps, _, hbk, hp, h3⟩⟩
  · rw [h3]; exact h2
  · rw [h3]; exact hc
  · rw [h3]; exact put_ok ys ht hs hbk
set_option maxHeartbeats 2000000 in
theorem setPath1_ac (ys : List CellD) (hzy : Sized ys) {t s : V} (ht : t.right) (hs : s.right) (h : s.kids.any badKid = false) :
    AC Tryz.prog 79 [t.av, valsA s.kids, .ptr (0, 0) 0] [((0, 0), .box [cellsA ys])] (resA (putV ys t s.kids)) [((0, 0), .box [cellsA ys])] := by
  have hkl := kids_len_le hs.2.1
  unfold putV
  rcases dec_cases ys with ⟨x, hx⟩ | ⟨c, hc, hx⟩
  · rw [hx]
    have hv := valOf_ac ys hzy (t := x) (by rw [hx])
    have h0 : ((0 : Int) != 0) = false := rfl
    have hsp := setPath_ac (right_of_dec hx).2 s.kids (by omega) (kid_kinds hs h) t ht
    dsimp only
    generalize setPathV x s.kids t = r at *
    rcases r with ⟨c, _ | u⟩
    all_goals
      simp only [resA_some, resA_none] at hsp ⊢
      refine wEnter Tryz.func79 Tryz.ntmps79 ?_
      refine wRUN trivial ?_
      refine w9 (op_shared [] hv) trivial ?_
      refine wRUN h0 ?_
      refine w9 (op_shared [] hsp) trivial ?_
      refine wRUN trivial ?_
      exact wRetOf (ret_of [((0, 0), (0, 0))] []) Tryz.results79 h0
  · rw [hx]
    have hv := valOf_bad ys hzy (by rw [hx])
    rw [hx] at hv
    have hb : (c != 0) = true := by simpa using hc
    have h2 := refuses_ac c
    simp only [resA_none] at *
    refine wEnter Tryz.func79 Tryz.ntmps79 ?_
    refine wRUN trivial ?_
    (apply (op_shared [] hv); (iterate 9 (focus (first | (simp only [go_sem, Nat.reduceEqDiff, Nat.reduceAdd, Nat.reduceSub, Nat.reduceLeDiff, Nat.reduceMul, Nat.reduceBEq, Nat.reduceLT, Int.reduceToNat, reduceCtorEq, noV]; first | done | exact rfl | (and_intros <;> rfl)) | exact rfl | decide))))
    (repeat (first | (with_reducible first | refine a_seq ?_ | refine a_region ?_ | refine a_block ?_ | refine a_scope ?_) | ((with_reducible apply op_any); (iterate 2 (focus (first | (simp only [go_sem, Nat.reduceEqDiff, Nat.reduceAdd, Nat.reduceSub, Nat.reduceLeDiff, Nat.reduceMul, Nat.reduceBEq, Nat.reduceLT, Int.reduceToNat, reduceCtorEq, hb, noV]; first | done | exact rfl | (and_intros <;> rfl)) | exact rfl | decide)))) | ((with_reducible refine o_nil ?_); dsimp only; try ((with_reducible apply o_draw); (focus (simp only [go_sem]; exact rfl)); (focus decide))) | ((with_reducible first | refine a_ret ?_ | refine a_skip ?_ | refine a_label ?_); dsimp only) | ((with_reducible refine a_exit ?_); dsimp only; simp only [if_true, if_false, Nat.reduceEqDiff]) | ((with_reducible apply a_if); (focus (simp only [go_sem, Nat.reduceBEq, Nat.reduceLT, hb, noV]; exact rfl)); dsimp only [cond_true, cond_false]) | ((with_reducible refine a_draw ?_ ?_); (focus exact rfl))))
    refine w9 (op_shared [] h2) trivial ?_
    refine wRUN trivial ?_
    exact wRetOf (ret_of [((0, 0), (0, 0))] []) Tryz.results79 hb
theorem implSetPath_ok (xs ps ys : List CellD) (hz : Sized xs) (hzp : Sized ps) (hzy : Sized ys) {u : V} (h : askPath xs ps (putV ys) = (0, some u)) (hu : u.right) :
    AC Tryz.prog 27 [cellsA xs, cellsA ps, cellsA ys] [] (.agg [.c (.int .i64 0), .own (0, 0)]) [((0, 0), .row false 5 42 (u.enc.map CellD.cs))] := by
  rcases ask_way xs ps (putV ys) with ⟨_, _, h3⟩ | ⟨t, hd, hx, ht, ⟨c, _, _, h3⟩ | ⟨s, hs, hps, _, hbk, hp, h3⟩⟩
  · rw [h3] at h; simp at h
  · rw [h3] at h; simp at h
  · rw [h3] at h
    have hg := setPath1_ac ys hzy ht hs hbk
    rw [h, resA_some] at hg
    have hw := withPathC_ac 79 (by simp only [go_sem]) xs ps ys hz hzp hd hp hu hg
    refine wEnter Tryz.func27 Tryz.ntmps27 ?_
    refine wRUN trivial ?_
    refine wCall (op_any_call [((0, 0), (5, 0))] [((0, 0), (5, 0)), ((1, 0), (10, 0))] hw) trivial ?_
    refine wRUN trivial ?_
    exact wRetOf (ret_of [((0, 0), (10, 0))] []) Tryz.results27 hd
theorem implSetPath_bad (xs ps ys : List CellD) (hz : Sized xs) (hzp : Sized ps) (hzy : Sized ys) {c : Int} (hc : c ≠ 0) (h : askPath xs ps (putV ys) = (c, none)) :
    AC Tryz.prog 27 [cellsA xs, cellsA ps, cellsA ys] [] (.agg [.c (.int .i64 c), .nils]) [] := by
  have key : AC Tryz.prog 78 [cellsA xs, cellsA ps, .clo 79 [.ptr (0, 0) 0]] [((0, 0), .box [cellsA ys])] (.agg [.c (.int .i64 c), .nils]) [((0, 0), .box [cellsA ys])] := by
    rcases ask_way xs ps (putV ys) with ⟨h1, h2, h3⟩ | ⟨t, hd, hx, ht, ⟨c', hc', hp, h3⟩ | ⟨s, hs, hps, _, hbk, hp, h3⟩⟩
    · rw [h3] at h
      simp only [Prod.mk.injEq, and_true] at h
      subst h
      exact withPathC_none 79 xs ps ys hz h1 h2
    · rw [h3] at h
      simp only [Prod.mk.injEq, and_true] at h
      subst h
      exact withPathC_bad 79 xs ps ys hz hzp hd hc hp
    · rw [h3] at h
      have hg := setPath1_ac ys hzy ht hs hbk
      rw [h, resA_none] at hg
      exact withPathC_no 79 (by simp only [go_sem]) xs ps ys hz hzp hd hp hc hg
  refine wEnter Tryz.func27 Tryz.ntmps27 ?_
  refine wRUN trivial ?_
  refine wCall (op_any_call [((0, 0), (5, 0))] [((0, 0), (5, 0))] key) trivial ?_
  refine wRUN trivial ?_
  exact wRet (ret_data []) Tryz.results27
theorem specSetPath_ac (xs ps ys : List CellD) : AC Tryz.prog 28 [cellsA xs, cellsA ps, cellsA ys] [] (vrA (askPath xs ps (putV ys))) [] := by
  rcases ask_way xs ps (putV ys) with ⟨h1, h2, h3⟩ | ⟨t, hd, hx, ht, ⟨c, hc, hp, h3⟩ | ⟨s, hs, hps, _, hbk, hp, h3⟩⟩
  · have ha := l13Asked_one xs ps h2
    have hb : ((dec xs).1 != 0) = true := by simpa using h2
    rw [h3, vrA_none]
    refine wEnter Tryz.func28 Tryz.ntmps28 ?_
    refine wRUN trivial ?_
    refine w7 (op_data [] ha) trivial ?_
    refine wRUN hb ?_
    refine w7 (op_data [] (l3Bad_ac (dec xs).1)) trivial ?_
    refine wRUN trivial ?_
    exact wRet (ret_data []) Tryz.results28
  · have ha := l13Asked_two xs ps (by rw [hd])
    rw [hp] at ha
    have hb : (c != 0) = true := by simpa using hc
    rw [h3, vrA_none]
    refine wEnter Tryz.func28 Tryz.ntmps28 ?_
    refine wRUN trivial ?_
    refine w7 (op_data [] ha) trivial ?_
    refine wRUN hb ?_
    refine w7 (op_data [] (l3Bad_ac c)) trivial ?_
    refine wRUN trivial ?_
    exact wRet (ret_data []) Tryz.results28
  · have ha := l13Asked_two xs ps (by rw [hd])
    rw [hp] at ha
    have h0 : ((0 : Int) != 0) = false := rfl
    have hf := fault_ac ys
    have hparts := l1Parts_ac hs.1 hs.2.1
    have hkl := kids_len_le hs.2.1
    rw [h3]
    unfold putV
    subst hx
    subst hps
    rcases dec_cases ys with ⟨x, hy⟩ | ⟨c, hc, hy⟩
    · rw [hy] at hf ⊢
      obtain ⟨hyx, hxr⟩ := right_of_dec hy
      subst hyx
      have hg := l13Set_ac hxr s.kids (by omega) (kid_kinds hs hbk) t ht
      dsimp only
      generalize setPathV x s.kids t = r at *
      rcases r with ⟨c, _ | u⟩
      all_goals
        simp only [vrA_some, vrA_none] at hg ⊢
        refine wEnter Tryz.func28 Tryz.ntmps28 ?_
        refine wRUN trivial ?_
        refine w7 (op_data [] ha) trivial ?_
        refine wRUN h0 ?_
        refine w7 (op_data [] hf) trivial ?_
        refine wRUN h0 ?_
        refine w9 (op_shared [] hparts) trivial ?_
        refine wRUN trivial ?_
        refine w9 (op_shared [] hg) trivial ?_
        refine wRUN trivial ?_
        exact wRet (ret_data []) Tryz.results28
    · rw [hy] at hf ⊢
      have hb : (c != 0) = true := by simpa using hc
      simp only [vrA_none]
      refine wEnter Tryz.func28 Tryz.ntmps28 ?_
      refine wRUN trivial ?_
      refine w7 (op_data [] ha) trivial ?_
      refine wRUN h0 ?_
      refine w7 (op_data [] hf) trivial ?_
      refine wRUN hb ?_
      refine w7 (op_data [] (l3Bad_ac c)) trivial ?_
      refine wRUN trivial ?_
      exact wRet (ret_data []) Tryz.results28
end Go.Proofs.YtpaooephkpjkfaaGreat

/- impl.DropPath and spec.DropPath, by the engine. -/
namespace Go.Proofs.YtpaooephkpjkfaaGreat
open Go.RowKit
set_option maxRecDepth 10000
/-- What comes of leaving out what stands at a path. -/
def outV (t : V) (path : List V) : Int × Option V := dropPathV path t
theorem path_kinds {s : V} (hs : s.right) (h : s.kids.any badKid = false) : ∀ k ∈ s.kids, k.right ∧ (k.kind = 3 ∨ k.kind = 4) := fun k hk => by
  refine ⟨right_mem hs hk, ?_⟩
  rw [List.any_eq_false] at h
  have := h k hk
  simp [badKid] at this
  by_cases h4 : k.kind = 4
  · exact .inr h4
  · exact .inl (this h4)
theorem dropR_ok (xs ps : List CellD) : okRes (askPath xs ps outV) := by
  rcases ask_way xs ps outV with ⟨h1, h2, h3⟩ | ⟨t, hd, hx, ht, ⟨c, hc, hp, h3⟩ | ⟨s, hs, hps, _, hbk, hp, h3⟩⟩
  · rw [h3]; exact h2
  · rw [h3]; exact hc
  · rw [h3]; exact dropPath_ok s.kids (path_kinds hs hbk) t ht
theorem implDropPath_ok (xs ps : List CellD) (hz : Sized xs) (hzp : Sized ps) {u : V} (h : askPath xs ps outV = (0, some u)) (hu : u.right) :
    AC Tryz.prog 30 [cellsA xs, cellsA ps] [] (.agg [.c (.int .i64 0), .own (0, 0)]) [((0, 0), .row false 5 42 (u.enc.map CellD.cs))] := by
  rcases ask_way xs ps outV with ⟨_, _, h3⟩ | ⟨t, hd, hx, ht, ⟨c, _, _, h3⟩ | ⟨s, hs, hps, _, hbk, hp, h3⟩⟩
  · rw [h3] at h; simp at h
  · rw [h3] at h; simp at h
  · rw [h3] at h
    have hkl := kids_len_le hs.2.1
    have hg := dropPath_ac s.kids (by omega) (path_kinds hs hbk) t ht
    rw [show dropPathV s.kids t = _ from h, resA_some] at hg
    have hw := withPath_ac 86 (by simp only [go_sem]) xs ps hz hzp hd hp hu hg
    refine wEnter Tryz.func30 Tryz.ntmps30 ?_
    refine wRUN trivial ?_
    refine w12 (op_rowT [] hw) trivial ?_
    refine wRUN trivial ?_
    exact wRetOf (ret_of [((0, 0), (7, 0))] []) Tryz.results30 hd
theorem implDropPath_bad (xs ps : List CellD) (hz : Sized xs) (hzp : Sized ps) {c : Int} (hc : c ≠ 0) (h : askPath xs ps outV = (c, none)) :
    AC Tryz.prog 30 [cellsA xs, cellsA ps] [] (.agg [.c (.int .i64 c), .nils]) [] := by
  have key : AC Tryz.prog 78 [cellsA xs, cellsA ps, .clo 86 []] [] (.agg [.c (.int .i64 c), .nils]) [] := by
    rcases ask_way xs ps outV with ⟨h1, h2, h3⟩ | ⟨t, hd, hx, ht, ⟨c', hc', hp, h3⟩ | ⟨s, hs, hps, _, hbk, hp, h3⟩⟩
    · rw [h3] at h
      simp only [Prod.mk.injEq, and_true] at h
      subst h
      exact withPath_none 86 xs ps hz h1 h2
    · rw [h3] at h
      simp only [Prod.mk.injEq, and_true] at h
      subst h
      exact withPath_bad 86 xs ps hz hzp hd hc hp
    · rw [h3] at h
      have hkl := kids_len_le hs.2.1
      have hg := dropPath_ac s.kids (by omega) (path_kinds hs hbk) t ht
      rw [show dropPathV s.kids t = _ from h, resA_none] at hg
      exact withPath_no 86 (by simp only [go_sem]) xs ps hz hzp hd hp hc hg
  refine wEnter Tryz.func30 Tryz.ntmps30 ?_
  refine wRUN trivial ?_
  refine w7 (op_data [] key) trivial ?_
  refine wRUN trivial ?_
  exact wRet (ret_data []) Tryz.results30
end Go.Proofs.YtpaooephkpjkfaaGreat

/- impl.eventOf, by the engine. -/
namespace Go.Proofs.YtpaooephkpjkfaaGreat
open Go.RowKit
set_option maxRecDepth 10000
theorem count_right {q : V} (h : q.right) : AC Tryz.prog 49 [q.av] [] (.own (0, 0)) [((0, 0), .row false 5 42 (q.enc.map CellD.cs))] :=
  cells_ac q.count q (Nat.le_refl _) (by have := h.2.1; omega) (right_neat h)
end Go.Proofs.YtpaooephkpjkfaaGreat
