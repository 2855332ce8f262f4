/- impl.getKey, getIndex, getAt, getPath, by the engine. -/
import Derived.Test.YtioaieacogoemaaKG21
set_option linter.unusedSimpArgs false
set_option linter.unusedVariables false
set_option linter.unnecessarySimpa false
namespace Go.Proofs.Ytioaieacogoemaa
open Go.RowKit
set_option maxRecDepth 10000
theorem isString_ac (s : ByteArray) (hs : s.size ≤ 9223372036854775807) : AC Try.prog 165 [.c (.str s)] [] (.c (.bool (okText s))) [] := by
  refine AC.of_calls fun S w κ vs hv => ?_
  obtain ⟨v, vs', rfl, ⟨rfl, _⟩, rfl⟩ := hv
  refine (isString_any s hs w).mono ?_
  rintro e w' ⟨rfl, rfl⟩
  exact ⟨Below.refl _ _, _, rfl, fun T _ _ => ⟨rfl, rfl⟩⟩
theorem right_head {t : V} (h : t.right) : (⟨t.kind, t.num, t.text, ByteArray.empty, t.kids.length⟩ : CellD).code = 0 := by
  refine cells_codes t ByteArray.empty h.1 okText_empty _ ?_
  rw [cells_head]
  simp
theorem right_num {t : V} (h : t.right) : -1000000000000000 ≤ t.num ∧ t.num ≤ 1000000000000000 := by
  have hc := right_head h
  unfold CellD.code cellCode at hc
  have hr : cR t.num (t.kids.length : Int) = false := by
    cases hh : cR t.num (t.kids.length : Int)
    · rfl
    · simp only [hh] at hc
      split at hc
      · omega
      · split at hc
        · omega
        · simp at hc
  simp [cR, inB] at hr
  omega
theorem right_text {t : V} (h : t.right) : okText t.text = true := (code_text (right_head h)).1
set_option maxHeartbeats 1000000 in
theorem getKey_ac {t : V} (h : t.right) (key : ByteArray) (hk : okText key = true) : AC Try.prog 128 [t.av, .c (.str key)] [] (resA (getKeyV t key)) [] := by
  have hs := isString_ac key (by have := okText_size hk; omega)
  rw [hk] at hs
  by_cases h0 : t.kind = 0
  · have hr : getKeyV t key = okR nullV := by unfold getKeyV; rw [if_pos h0]
    have hb : (t.kind == 0) = true := by simpa using h0
    rw [hr, resA_ok]
    refine wEnter Try.func128 Try.ntmps128 ?_
    refine wRUN trivial ?_
    refine w7 (op_data [] hs) trivial ?_
    refine wRUN hb ?_
    refine w7 (op_data [] null_ac) trivial ?_
    refine w7 (op_data [] (gives_ac right_null)) trivial ?_
    refine wRUN trivial ?_
    exact wRet (ret_data []) Try.results128
  · have hb : (t.kind == 0) = false := by simpa using h0
    by_cases h6 : t.kind = 6
    · have hr : getKeyV t key = okR (t.member key) := by unfold getKeyV; rw [if_neg h0, if_pos h6]
      have hb6 : (t.kind != 6) = false := by simpa using h6
      have hm := member_ac h h6 key
      have hg := gives_ac (right_member h h6 key)
      rw [hr, resA_ok]
      generalize t.member key = u at *
      refine wEnter Try.func128 Try.ntmps128 ?_
      refine wRUN trivial ?_
      refine w7 (op_data [] hs) trivial ?_
      refine wRUN (j2 hb hb6) ?_
      refine w9 (op_shared [] hm) trivial ?_
      refine w9 (op_shared [] hg) trivial ?_
      refine wRUN trivial ?_
      exact wRet (ret_data []) Try.results128
    · have hr : getKeyV t key = badR 6 := by unfold getKeyV; rw [if_neg h0, if_neg h6]
      have hb6 : (t.kind != 6) = true := by simpa using h6
      rw [hr, resA_bad]
      refine wEnter Try.func128 Try.ntmps128 ?_
      refine wRUN trivial ?_
      refine w7 (op_data [] hs) trivial ?_
      refine wRUN (j2 hb hb6) ?_
      refine w7 (op_data [] (refuses_ac 6)) trivial ?_
      refine wRUN trivial ?_
      exact wRet (ret_data []) Try.results128
theorem resA_some (c : Int) (t : V) : resA (c, some t) = outA 0 t := rfl
theorem resA_none (c : Int) : resA (c, none) = outA c nullV := rfl
end Go.Proofs.Ytioaieacogoemaa
