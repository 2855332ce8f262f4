/- impl.Binary and spec.Binary, by the engine. -/
import Derived.Test.YtpaooephkpjkfaaGreatKG69
import Derived.Test.YtpaooephkpjkfaaGreatKG70
import Derived.Test.YtpaooephkpjkfaaGreatKG71
import Derived.Test.YtpaooephkpjkfaaGreatKG25uG26
set_option linter.unusedSimpArgs false
set_option linter.unusedVariables false
set_option linter.unnecessarySimpa false
namespace Go.Proofs.YtpaooephkpjkfaaGreat
open Go.RowKit
set_option maxRecDepth 10000
/-- What two slices of cells come to. -/
def twoR (F : V → V → Int × Option V) (x y : List CellD) : Int × Option V := match (dec x).2, (dec y).2 with
  | some t, some u => F t u
  | _, _ => (bothCode x y, none)
theorem two_ways (F : V → V → Int × Option V) (x y : List CellD) : ((dec x).2 = none ∧ (dec x).1 ≠ 0 ∧ twoR F x y = ((dec x).1, none) ∧ bothCode x y = (dec x).1) ∨ (∃ t, dec x = (0, some t) ∧ (dec y).2 = none ∧ (dec y).1 ≠ 0 ∧ twoR F x y = ((dec y).1, none) ∧ bothCode x y = (dec y).1)
    ∨ ∃ t u, dec x = (0, some t) ∧ dec y = (0, some u) ∧ t.right ∧ u.right ∧ x = t.enc ∧ y = u.enc ∧ twoR F x y = F t u ∧ bothCode x y = 0 := by
  unfold twoR bothCode
  rcases dec_cases x with ⟨t, h1⟩ | ⟨c, hc, h1⟩
  · rcases dec_cases y with ⟨u, h2⟩ | ⟨c, hc, h2⟩
    · obtain ⟨e1, a1, a2, a3⟩ := dec_ok h1
      obtain ⟨e2, b1, b2, b3⟩ := dec_ok h2
      refine .inr (.inr ⟨t, u, h1, h2, ⟨a1, a2, a3⟩, ⟨b1, b2, b3⟩, e1, e2, ?_, ?_⟩)
      · rw [h1, h2]
      · rw [h1, h2]; rfl
    · refine .inr (.inl ⟨t, h1, by rw [h2], by rw [h2]; exact hc, ?_, ?_⟩)
      · rw [h1, h2]; rfl
      · rw [h1, h2]; rfl
  · refine .inl ⟨by rw [h1], by rw [h1]; exact hc, ?_, ?_⟩
    · rw [h1]; dsimp only; rw [if_neg hc]
    · rw [h1]; dsimp only; rw [if_neg hc]
set_option maxHeartbeats 1000000 in
theorem binary1_ac (op : Int) {a b : V} (ha : a.right) (hb : b.right) : AC Tryz.prog 62 [a.av, b.av, .ptr (0, 0) 0] [((0, 0), .box [.c (.int .i64 op)])] (resA (binV op a b)) [((0, 0), .box [.c (.int .i64 op)])] := by
  have hbn := binary_ac op ha hb
  generalize binV op a b = r at *
  rcases r with ⟨c, _ | u⟩
  all_goals
    simp only [resA_some, resA_none] at hbn ⊢
    refine wEnter Tryz.func62 Tryz.ntmps62 ?_
    refine wRUN trivial ?_
    refine w9 (op_shared [] hbn) trivial ?_
    refine wRUN trivial ?_
    exact wRetOf (ret_of [((0, 0), (0, 0))] []) Tryz.results62 ha
theorem implBinary_ok (op : Int) (x y : List CellD) (hz : Sized x) (hzy : Sized y) {v : V} (h : twoR (binV op) x y = (0, some v)) (hv : v.right) :
    AC Tryz.prog 17 [.c (.int .i64 op), cellsA x, cellsA y] [] (.agg [.c (.int .i64 0), .own (0, 0)]) [((0, 0), .row false 5 42 (v.enc.map CellD.cs))] := by
  rcases two_ways (binV op) x y with ⟨_, _, h3, _⟩ | ⟨_, _, _, _, h3, _⟩ | ⟨t, u, hd, hy, ht, hu, hx, hy', h3, h4⟩
  · rw [h3] at h; simp at h
  · rw [h3] at h; simp at h
  · rw [h3] at h
    have hg := binary1_ac op ht hu
    rw [h, resA_some] at hg
    have hw := ofTwoI_ac op 62 (by simp only [go_sem]) x y hz hzy hd hy hv hg
    refine wEnter Tryz.func17 Tryz.ntmps17 ?_
    refine wRUN trivial ?_
    refine wCall (op_any_call [((0, 0), (3, 0))] [((0, 0), (3, 0)), ((1, 0), (10, 0))] hw) trivial ?_
    refine wRUN trivial ?_
    exact wRetOf (ret_of [((0, 0), (10, 0))] []) Tryz.results17 hd
theorem implBinary_bad (op : Int) (x y : List CellD) (hz : Sized x) (hzy : Sized y) {c : Int} (hc : c ≠ 0) (h : twoR (binV op) x y = (c, none)) :
    AC Tryz.prog 17 [.c (.int .i64 op), cellsA x, cellsA y] [] (.agg [.c (.int .i64 c), .nils]) [] := by
  have key : AC Tryz.prog 61 [cellsA x, cellsA y, .clo 62 [.ptr (0, 0) 0]] [((0, 0), .box [.c (.int .i64 op)])] (.agg [.c (.int .i64 c), .nils]) [((0, 0), .box [.c (.int .i64 op)])] := by
    rcases two_ways (binV op) x y with ⟨h1, h2, h3, h4⟩ | ⟨t, hd, h1, h2, h3, h4⟩ | ⟨t, u, hd, hy, ht, hu, hx, hy', h3, h4⟩
    · rw [h3] at h
      simp only [Prod.mk.injEq, and_true] at h
      subst h
      exact ofTwoI_none op 62 x y hz h1 h2
    · rw [h3] at h
      simp only [Prod.mk.injEq, and_true] at h
      subst h
      exact ofTwoI_none2 op 62 x y hz hzy hd h1 h2
    · rw [h3] at h
      have hg := binary1_ac op ht hu
      rw [h, resA_none] at hg
      exact ofTwoI_no op 62 (by simp only [go_sem]) x y hz hzy hd hy hc hg
  refine wEnter Tryz.func17 Tryz.ntmps17 ?_
  refine wRUN trivial ?_
  refine wCall (op_any_call [((0, 0), (3, 0))] [((0, 0), (3, 0))] key) trivial ?_
  refine wRUN trivial ?_
  exact wRet (ret_data []) Tryz.results17
set_option maxHeartbeats 2000000 in
theorem specBinary_ac (op : Int) (x y : List CellD) : AC Tryz.prog 18 [.c (.int .i64 op), cellsA x, cellsA y] [] (vrA (twoR (binV op) x y)) [] := by
  have hv := l3Both_ac x y
  have hin := l1In_ac op 1 11
  have bad : ∀ c, c ≠ 0 → bothCode x y = c → twoR (binV op) x y = (c, none) → AC Tryz.prog 18 [.c (.int .i64 op), cellsA x, cellsA y] [] (vrA (twoR (binV op) x y)) [] := by
    intro c hc h1 h2
    rw [h1] at hv
    rw [h2, vrA_none]
    have hb : (c != 0) = true := by simpa using hc
    refine wEnter Tryz.func18 Tryz.ntmps18 ?_
    refine wRUN trivial ?_
    refine w7 (op_data [] hv) trivial ?_
    refine wRUN hb ?_
    refine w7 (op_data [] (l3Bad_ac c)) trivial ?_
    refine wRUN trivial ?_
    exact wRet (ret_data []) Tryz.results18
  rcases two_ways (binV op) x y with ⟨_, h2, h3, h4⟩ | ⟨t, _, _, h2, h3, h4⟩ | ⟨t, u, hd, hy, ht, hu, hx, hy', h3, h4⟩
  · exact bad _ h2 h4 h3
  · exact bad _ h2 h4 h3
  · rw [h4] at hv
    rw [h3]
    have h00 : ((0 : Int) != 0) = false := rfl
    by_cases hop : 1 ≤ op ∧ op ≤ 11
    · have hbt : (decide (op ≥ 1) && decide (op ≤ 11)) = true := by simp; omega
      rw [hbt] at hin
      subst hx
      subst hy'
      have hm := l3Binary_ac op hop ht hu
      generalize binV op t u = r at *
      rcases r with ⟨c, _ | v⟩
      all_goals
        simp only [vrA_some, vrA_none] at hm ⊢
        refine wEnter Tryz.func18 Tryz.ntmps18 ?_
        refine wRUN trivial ?_
        refine w7 (op_data [] hv) trivial ?_
        refine wRUN h00 ?_
        refine w7 (op_data [] hin) trivial ?_
        refine wRUN trivial ?_
        refine w9 (op_shared [] hm) trivial ?_
        refine wRUN trivial ?_
        exact wRet (ret_data []) Tryz.results18
    · have hbt : (decide (op ≥ 1) && decide (op ≤ 11)) = false := by simp; omega
      rw [hbt] at hin
      have hbv : binV op t u = badR 1 := by
        unfold binV
        rw [if_neg (by omega), if_neg (by omega), if_neg (by omega), if_neg (by omega), if_neg (by omega), if_neg (by omega), if_neg (by omega), if_neg (by omega), if_neg (by omega)]
      rw [hbv, vrA_bad]
      refine wEnter Tryz.func18 Tryz.ntmps18 ?_
      refine wRUN trivial ?_
      refine w7 (op_data [] hv) trivial ?_
      refine wRUN h00 ?_
      refine w7 (op_data [] hin) trivial ?_
      refine wRUN trivial ?_
      refine w7 (op_data [] (l3Bad_ac 1)) trivial ?_
      refine wRUN trivial ?_
      exact wRet (ret_data []) Tryz.results18
end Go.Proofs.YtpaooephkpjkfaaGreat
