/- laws.FnExactPeepCode answers true, at every argument, and its arguments read as they did. -/
import Derived.Test.YtpaooephkpjkfaaKP20
import Derived.Test.YtpaooephkpjkfaaKF00
import Derived.Test.YtpaooephkpjkfaaKO04
set_option linter.unusedSimpArgs false
set_option linter.unusedVariables false
set_option linter.unnecessarySimpa false
namespace Go.Proofs.Ytpaooephkpjkfaa
open Go.ChangeShapes Go.WideShapes Go.ChangeAt Go.RowKit Go.Deep

theorem lawPeepCode_any (x0 : List InD) (hz0 : ∀ d ∈ x0, Sized d.val) (A0 : Option Addr) (cap0 : Nat) (hcap0 : x0.length ≤ cap0) (hy0 : ∀ d ∈ x0, d.val.length ≤ 9223372036854775807) (x1 : Int) (w : World) (hl0 : x0.length ≤ 9223372036854775807) (hcs0 : CR w (fun b => b < w.heap.size) (.sl (x0.map InD.cs)) (.slice A0 x0.length cap0) [])  :
    Calls Try.prog 3 #[.slice A0 x0.length cap0, .int .i64 x1] w fun e w' => e = .returned (.bool true) ∧ Below w.heap.size w w' :=
  AC.calls (S := fun b => b < w.heap.size) (lawPeepCode_ac x0 x1 hz0 hl0 hy0) fun T hT κ => ⟨_, _, rfl, CR.keep (Nat.le_refl _) (fun b hb _ => ⟨rfl, hT b hb⟩) (by simp) hcs0, _, _, rfl, ⟨rfl, rfl⟩, rfl⟩

set_option maxRecDepth 100000 in
theorem peepCode_lifted (os : Os) (started : os.Started) (H : Type) (enc : TypeId × Value → H) :
    ReturnsInHanded {} Try.checked os 3 .any (Rows.fnExactPeepCodeSpec.pre6 enc Try.prog Try.f3 Rows.fnExactPeepCodeRow.domain false) (Rows.fnExactPeepCodeSpec.post enc Try.prog Try.f3 false true false false) := by
  refine returnsInHanded_of_change (C := Try.checked) Try.own started (by kernel_rfl) Try.func3
    (ChangeSpec.witness6 (enc := enc) (C := Try.checked) false ⟨#[], #[.slice none 0 0, .int .i64 0], []⟩ 8 (by kernel_rfl) (by kernel_rfl) (by kernel_rfl) (by kernel_rfl)) ?_
  intro W base args ds gs before hval0 hW hcnd _
  have hval : ∀ (j : Nat) t v, Try.f3.params[j]? = some t → args[j]? = some v → Value.okWide Try.prog W .any base t v := hval0
  have hW' := hW
  obtain ⟨p, q, hA0, hV, rfl, hfz, hnd⟩ := hW
  have hA : DataW.TrodAll enc Try.prog W 0 (fun _ => true) true Try.f3.params.toList args.toList ds p := hA0
  rw [Try.params3] at hA hval
  obtain ⟨v0, v1, d0, d1, p0, p1, rfl, rfl, rfl, t0, t1⟩ := trodAll_two hA
  obtain ⟨rfl, rfl⟩ := trodVars_none hV
  obtain ⟨a0, len0, cap0, rfl⟩ := okWide_slice Try.underlying22 (hval 0 22 v0 rfl rfl)
  have k0 := t0
  obtain ⟨fuel0, hf0⟩ := t0
  obtain ⟨x1, rfl⟩ := okWide_int Try.underlying2 (hval 1 2 v1 rfl rfl)
  have k1 := t1
  obtain ⟨fuel1, hf1⟩ := t1
  clear hA0 hval0
  simp only [List.append_nil] at hW'
  have hlt : ∀ x ∈ p0 ++ p1, x.block < W.heap.size := fun x hx => by simpa using hW'.lt x hx
  have hargs0 : ∀ (W' : World), Below W.heap.size W W' → DataW.Trod enc Try.prog W' 0 (fun b => decide (b < W.heap.size)) true 22 (.slice a0 len0 cap0) d0 p0 :=
    fun W' hn => Below.trod Try.laidOut (by kernel_rfl) (of_decide_eq_true (by kernel_rfl)) k0 hn (fun x hx => hlt x (by simp [hx]))
  have hargs1 : ∀ (W' : World), Below W.heap.size W W' → DataW.Trod enc Try.prog W' 0 (fun b => decide (b < W.heap.size)) true 2 (.int .i64 x1) d1 p1 :=
    fun W' hn => Below.trod Try.laidOut (by kernel_rfl) (of_decide_eq_true (by kernel_rfl)) k1 hn (fun x hx => hlt x (by simp [hx]))
  obtain ⟨x0, rfl, hl0, hcap0, hz0, hy0, hcs0⟩ := open_inS Try.underlying22 Try.underlying37 (by kernel_rfl) (by kernel_rfl) rfl rfl rfl Try.underlying35 Try.underlying67 (by kernel_rfl) (by kernel_rfl) rfl rfl rfl rfl rfl Try.underlying2 Try.underlying9 hf0
  refine (lawPeepCode_any x0 hz0 a0 cap0 hcap0 hy0 x1 W hl0 hcs0).mono fun e W' ⟨he, hnx⟩ => ?_
  subst he
  exact ⟨_, rfl, _, _, _, [], p0 ++ p1, [], hW', trodAll_mk1 (shut_bool Try.underlying4 _), trodAll_mk2 (hargs0 _ hnx) (hargs1 _ hnx), rfl, hnx.frame _, fun h => by cases h⟩

theorem peepCode_holds : Rows.FnExactPeepCodeSaid :=
  OpenClaim.holds_of_wide 3 Try.f3 rfl rfl rfl rfl rfl rfl rfl ⟨rfl, rfl, rfl, rfl, rfl⟩ rfl rfl rfl rfl rfl (by kernel_rfl) Try.func3 (by kernel_rfl)
    (of_decide_eq_true (by kernel_rfl)) (by unfold Func.isWrapper; first | (rw [if_pos (by decide +kernel)]; kernel_rfl) | (rw [if_neg (by decide +kernel)]; exact ⟨rfl, rfl⟩))
    (fun os started H enc _ => peepCode_lifted os started H enc)
end Go.Proofs.Ytpaooephkpjkfaa
