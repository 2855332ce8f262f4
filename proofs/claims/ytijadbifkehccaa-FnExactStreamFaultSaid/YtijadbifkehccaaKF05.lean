/- laws.FnExactStreamFault answers true, at every argument, and its arguments read as they did. -/
import Derived.Test.YtijadbifkehccaaKP05
import Derived.Test.YtijadbifkehccaaKF00
import Derived.Test.YtijadbifkehccaaKO03
set_option linter.unusedSimpArgs false
set_option linter.unusedVariables false
set_option linter.unnecessarySimpa false
namespace Go.Proofs.Ytijadbifkehccaa
open Go.ChangeShapes Go.WideShapes Go.ChangeAt Go.RowKit Go.Deep

theorem lawStreamFault_any (x0 : List (List CellD)) (hz0 : ∀ x ∈ x0, Sized x) (A0 : Option Addr) (cap0 : Nat) (hcap0 : x0.length ≤ cap0) (hy0 : ∀ x ∈ x0, x.length ≤ 9223372036854775807) (w : World) (hl0 : x0.length ≤ 9223372036854775807) (hcs0 : CR w (fun b => b < w.heap.size) (.sl (x0.map encCs)) (.slice A0 x0.length cap0) []) :
    Calls Try.prog 5 #[.slice A0 x0.length cap0] w fun e w' => e = .returned (.bool true) ∧ Below w.heap.size w w' :=
  AC.calls (S := fun b => b < w.heap.size) (lawStreamFault_ac x0 hz0 hl0 hy0) fun T hT κ => ⟨_, _, rfl, CR.keep (Nat.le_refl _) (fun b hb _ => ⟨rfl, hT b hb⟩) (by simp) hcs0, rfl⟩

set_option maxRecDepth 100000 in
theorem streamFault_lifted (os : Os) (started : os.Started) (H : Type) (enc : TypeId × Value → H) :
    ReturnsInHanded {} Try.checked os 5 .any (Rows.fnExactStreamFaultSpec.pre6 enc Try.prog Try.f5 Rows.fnExactStreamFaultRow.domain false) (Rows.fnExactStreamFaultSpec.post enc Try.prog Try.f5 false true false false) := by
  refine returnsInHanded_of_change (C := Try.checked) Try.own started (by kernel_rfl) Try.func5
    (ChangeSpec.witness6 (enc := enc) (C := Try.checked) false ⟨#[], #[.slice none 0 0], []⟩ 8 (by kernel_rfl) (by kernel_rfl) (by kernel_rfl) (by kernel_rfl)) ?_
  intro W base args ds gs before hval0 hW hcnd _
  have hval : ∀ (j : Nat) t v, Try.f5.params[j]? = some t → args[j]? = some v → Value.okWide Try.prog W .any base t v := hval0
  have hW' := hW
  obtain ⟨p, q, hA0, hV, rfl, hfz, hnd⟩ := hW
  have hA : DataW.TrodAll enc Try.prog W 0 (fun _ => true) true Try.f5.params.toList args.toList ds p := hA0
  rw [Try.params5] at hA hval
  obtain ⟨v0, d0, rfl, rfl, t0⟩ := trodAll_one hA
  obtain ⟨rfl, rfl⟩ := trodVars_none hV
  obtain ⟨a0, len0, cap0, rfl⟩ := okWide_slice Try.underlying40 (hval 0 40 v0 rfl rfl)
  have k0 := t0
  obtain ⟨fuel0, hf0⟩ := t0
  clear hA0 hval0
  simp only [List.append_nil] at hW'
  have hlt : ∀ x ∈ p, x.block < W.heap.size := fun x hx => by simpa using hW'.lt x hx
  have hargs0 : ∀ (W' : World), Below W.heap.size W W' → DataW.Trod enc Try.prog W' 0 (fun b => decide (b < W.heap.size)) true 40 (.slice a0 len0 cap0) d0 p :=
    fun W' hn => Below.trod Try.laidOut (by kernel_rfl) (of_decide_eq_true (by kernel_rfl)) k0 hn hlt
  obtain ⟨x0, rfl, hl0, hcap0, hz0, hy0, hcs0⟩ := open_cellSS Try.underlying40 Try.underlying22 (by kernel_rfl) Try.underlying74 (by kernel_rfl) (by kernel_rfl) rfl rfl rfl rfl rfl Try.underlying2 Try.underlying9 hf0
  refine (lawStreamFault_any x0 hz0 a0 cap0 hcap0 hy0 W hl0 hcs0).mono fun e W' ⟨he, hnx⟩ => ?_
  subst he
  exact ⟨_, rfl, _, _, _, [], p, [], hW', trodAll_mk1 (shut_bool Try.underlying4 _), trodAll_mk1 (hargs0 _ hnx), rfl, hnx.frame _, fun h => by cases h⟩

theorem streamFault_holds : Rows.FnExactStreamFaultSaid :=
  OpenClaim.holds_of_wide 5 Try.f5 rfl rfl rfl rfl rfl rfl rfl ⟨rfl, rfl, rfl, rfl, rfl⟩ rfl rfl rfl rfl rfl (by kernel_rfl) Try.func5 (by kernel_rfl)
    (of_decide_eq_true (by kernel_rfl)) (by unfold Func.isWrapper; first | (rw [if_pos (by decide +kernel)]; kernel_rfl) | (rw [if_neg (by decide +kernel)]; exact ⟨rfl, rfl⟩))
    (fun os started H enc _ => streamFault_lifted os started H enc)
end Go.Proofs.Ytijadbifkehccaa
