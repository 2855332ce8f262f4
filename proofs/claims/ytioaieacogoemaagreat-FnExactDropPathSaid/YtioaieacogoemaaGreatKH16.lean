/- impl.DropPath and spec.DropPath, by the engine. -/
import Derived.Test.YtioaieacogoemaaGreatKGD
import Derived.Test.YtioaieacogoemaaGreatKG24
import Derived.Test.YtioaieacogoemaaGreatKG27
set_option linter.unusedSimpArgs false
set_option linter.unusedVariables false
set_option linter.unnecessarySimpa false
namespace Go.Proofs.YtioaieacogoemaaGreat
open Go.RowKit
set_option maxRecDepth 10000
/-- What comes of leaving out what stands at a path. -/
def outV (t : V) (path : List V) : Int × Option V := dropPathV path t
theorem path_kinds {s : V} (hs : s.right) (h : s.kids.any badKid = false) : ∀ k ∈ s.kids, k.right ∧ (k.kind = 3 ∨ k.kind = 4) := fun k hk => by
  refine ⟨right_mem hs hk, ?_⟩
  rw [List.any_eq_false] at h
  have := h k hk
  simp [badKid] at this
  by_cases h4 : k.kind = 4
  · exact .inr h4
  · exact .inl (this h4)
theorem dropR_ok (xs ps : List CellD) : okRes (askPath xs ps outV) := by
  rcases ask_way xs ps outV with ⟨h1, h2, h3⟩ | ⟨t, hd, hx, ht, ⟨c, hc, hp, h3⟩ | ⟨s, hs, hps, _, hbk, hp, h3⟩⟩
  · rw [h3]; exact h2
  · rw [h3]; exact hc
  · rw [h3]; exact dropPath_ok s.kids (path_kinds hs hbk) t ht
theorem implDropPath_ok (xs ps : List CellD) (hz : Sized xs) (hzp : Sized ps) {u : V} (h : askPath xs ps outV = (0, some u)) (hu : u.right) :
    AC Tryz.prog 10 [cellsA xs, cellsA ps] [] (.agg [.c (.int .i64 0), .own (0, 0)]) [((0, 0), .row false 5 61 (u.enc.map CellD.cs))] := by
  rcases ask_way xs ps outV with ⟨_, _, h3⟩ | ⟨t, hd, hx, ht, ⟨c, _, _, h3⟩ | ⟨s, hs, hps, _, hbk, hp, h3⟩⟩
  · rw [h3] at h; simp at h
  · rw [h3] at h; simp at h
  · rw [h3] at h
    have hkl := kids_len_le hs.2.1
    have hg := dropPath_ac s.kids (by omega) (path_kinds hs hbk) t ht
    rw [show dropPathV s.kids t = _ from h, resA_some] at hg
    have hw := withPath_ac 39 (by simp only [go_sem]) xs ps hz hzp hd hp hu hg
    refine wEnter Tryz.func10 Tryz.ntmps10 ?_
    refine wRUN trivial ?_
    refine w12 (op_rowT [] hw) trivial ?_
    refine wRUN trivial ?_
    exact wRetOf (ret_of [((0, 0), (7, 0))] []) Tryz.results10 hd
theorem implDropPath_bad (xs ps : List CellD) (hz : Sized xs) (hzp : Sized ps) {c : Int} (hc : c ≠ 0) (h : askPath xs ps outV = (c, none)) :
    AC Tryz.prog 10 [cellsA xs, cellsA ps] [] (.agg [.c (.int .i64 c), .nils]) [] := by
  have key : AC Tryz.prog 38 [cellsA xs, cellsA ps, .clo 39 []] [] (.agg [.c (.int .i64 c), .nils]) [] := by
    rcases ask_way xs ps outV with ⟨h1, h2, h3⟩ | ⟨t, hd, hx, ht, ⟨c', hc', hp, h3⟩ | ⟨s, hs, hps, _, hbk, hp, h3⟩⟩
    · rw [h3] at h
      simp only [Prod.mk.injEq, and_true] at h
      subst h
      exact withPath_none 39 xs ps hz h1 h2
    · rw [h3] at h
      simp only [Prod.mk.injEq, and_true] at h
      subst h
      exact withPath_bad 39 xs ps hz hzp hd hc hp
    · rw [h3] at h
      have hkl := kids_len_le hs.2.1
      have hg := dropPath_ac s.kids (by omega) (path_kinds hs hbk) t ht
      rw [show dropPathV s.kids t = _ from h, resA_none] at hg
      exact withPath_no 39 (by simp only [go_sem]) xs ps hz hzp hd hp hc hg
  refine wEnter Tryz.func10 Tryz.ntmps10 ?_
  refine wRUN trivial ?_
  refine w7 (op_data [] key) trivial ?_
  refine wRUN trivial ?_
  exact wRet (ret_data []) Tryz.results10
theorem specDropPath_ac (xs ps : List CellD) : AC Tryz.prog 8 [cellsA xs, cellsA ps] [] (vrA (askPath xs ps outV)) [] := by
  rcases ask_way xs ps outV with ⟨h1, h2, h3⟩ | ⟨t, hd, hx, ht, ⟨c, hc, hp, h3⟩ | ⟨s, hs, hps, _, hbk, hp, h3⟩⟩
  · have ha := l13Asked_one xs ps h2
    have hb : ((dec xs).1 != 0) = true := by simpa using h2
    rw [h3, vrA_none]
    refine wEnter Tryz.func8 Tryz.ntmps8 ?_
    refine wRUN trivial ?_
    refine w7 (op_data [] ha) trivial ?_
    refine wRUN hb ?_
    refine w7 (op_data [] (l3Bad_ac (dec xs).1)) trivial ?_
    refine wRUN trivial ?_
    exact wRet (ret_data []) Tryz.results8
  · have ha := l13Asked_two xs ps (by rw [hd])
    rw [hp] at ha
    have hb : (c != 0) = true := by simpa using hc
    rw [h3, vrA_none]
    refine wEnter Tryz.func8 Tryz.ntmps8 ?_
    refine wRUN trivial ?_
    refine w7 (op_data [] ha) trivial ?_
    refine wRUN hb ?_
    refine w7 (op_data [] (l3Bad_ac c)) trivial ?_
    refine wRUN trivial ?_
    exact wRet (ret_data []) Tryz.results8
  · have ha := l13Asked_two xs ps (by rw [hd])
    rw [hp] at ha
    have h0 : ((0 : Int) != 0) = false := rfl
    have hparts := l1Parts_ac hs.1 hs.2.1
    have hkl := kids_len_le hs.2.1
    have hg := l13Drop_ac s.kids (by omega) (path_kinds hs hbk) t ht
    rw [h3]
    subst hx
    subst hps
    unfold outV
    generalize dropPathV s.kids t = r at *
    rcases r with ⟨c, _ | u⟩
    all_goals
      simp only [vrA_some, vrA_none] at hg ⊢
      refine wEnter Tryz.func8 Tryz.ntmps8 ?_
      refine wRUN trivial ?_
      refine w7 (op_data [] ha) trivial ?_
      refine wRUN h0 ?_
      refine w9 (op_shared [] hparts) trivial ?_
      refine w9 (op_shared [] hg) trivial ?_
      refine wRUN trivial ?_
      exact wRet (ret_data []) Tryz.results8
end Go.Proofs.YtioaieacogoemaaGreat
