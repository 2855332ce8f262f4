/- laws.FnExactLeavesIn answers true, at every argument, and its argument reads as it did. -/
import Derived.Test.YtijadbifkehccaaKP04
import Derived.Test.YtijadbifkehccaaKF00
set_option linter.unusedSimpArgs false
set_option linter.unusedVariables false
set_option linter.unnecessarySimpa false
namespace Go.Proofs.Ytijadbifkehccaa
open Go.ChangeShapes Go.WideShapes Go.ChangeAt Go.RowKit Go.Deep

theorem lawLeavesIn_any (xs : List CellD) (hz : Sized xs) (A : Option Addr) (cap : Nat) (hcap : xs.length ≤ cap) (w : World) (hl : xs.length ≤ 9223372036854775807) (hcs : Cells w (fun b => b < w.heap.size) A xs) :
    Calls Try.prog 3 #[.slice A xs.length cap] w fun e w' => e = .returned (.bool true) ∧ Below w.heap.size w w' :=
  AC.calls (S := fun b => b < w.heap.size) (lawLeavesIn_ac xs hz hl) fun T hT κ => ⟨_, _, rfl, ar_cellsA hcap (hcs.weaken fun b hb _ => hT b hb), rfl⟩

set_option maxRecDepth 100000 in
theorem leavesIn_lifted (os : Os) (started : os.Started) (H : Type) (enc : TypeId × Value → H) :
    ReturnsInHanded {} Try.checked os 3 .any (Rows.fnExactLeavesInSpec.pre6 enc Try.prog Try.f3 Rows.fnExactLeavesInRow.domain false) (Rows.fnExactLeavesInSpec.post enc Try.prog Try.f3 false true false false) := by
  refine returnsInHanded_of_change (C := Try.checked) Try.own started (by kernel_rfl) Try.func3
    (ChangeSpec.witness6 (enc := enc) (C := Try.checked) false ⟨#[], #[.slice none 0 0], []⟩ 8 (by kernel_rfl) (by kernel_rfl) (by kernel_rfl) (by kernel_rfl)) ?_
  intro W base args ds gs before hval0 hW hcnd _
  have hval : ∀ (j : Nat) t v, Try.f3.params[j]? = some t → args[j]? = some v → Value.okWide Try.prog W .any base t v := hval0
  have hW' := hW
  obtain ⟨p, q, hA0, hV, rfl, hfz, hnd⟩ := hW
  have hA : DataW.TrodAll enc Try.prog W 0 (fun _ => true) true Try.f3.params.toList args.toList ds p := hA0
  rw [Try.params3] at hA hval
  obtain ⟨v0, d0, rfl, rfl, h0⟩ := trodAll_one hA
  obtain ⟨rfl, rfl⟩ := trodVars_none hV
  obtain ⟨a0, len, cap, rfl⟩ := okWide_slice Try.underlying22 (hval 0 22 v0 rfl rfl)
  have h0k := h0
  obtain ⟨fuel, hf⟩ := h0
  clear hA0 hval0
  simp only [List.append_nil] at hW'
  have hlt : ∀ x ∈ p, x.block < W.heap.size := fun x hx => by simpa using hW'.lt x hx
  have hargs : ∀ (W' : World), Below W.heap.size W W' → DataW.Trod enc Try.prog W' 0 (fun b => decide (b < W.heap.size)) true 22 (.slice a0 len cap) d0 p :=
    fun W' hn => Below.trod Try.laidOut (by kernel_rfl) (of_decide_eq_true (by kernel_rfl)) h0k hn hlt
  obtain ⟨xs, rfl, hl, hcap, hz, hcs⟩ := open_cellS Try.underlying22 Try.underlying74 (by kernel_rfl) (by kernel_rfl) rfl rfl rfl rfl rfl Try.underlying2 Try.underlying9 hf
  refine (lawLeavesIn_any xs hz a0 cap hcap W hl hcs).mono fun e W' ⟨he, hnx⟩ => ?_
  subst he
  exact ⟨_, rfl, _, _, _, [], p, [], hW', trodAll_mk1 (shut_bool Try.underlying4 _), trodAll_mk1 (hargs _ hnx), rfl, hnx.frame _, fun h => by cases h⟩

theorem leavesIn_holds : Rows.FnExactLeavesInSaid :=
  OpenClaim.holds_of_wide 3 Try.f3 rfl rfl rfl rfl rfl rfl rfl ⟨rfl, rfl, rfl, rfl, rfl⟩ rfl rfl rfl rfl rfl (by kernel_rfl) Try.func3 (by kernel_rfl)
    (of_decide_eq_true (by kernel_rfl)) (by unfold Func.isWrapper; first | (rw [if_pos (by decide +kernel)]; kernel_rfl) | (rw [if_neg (by decide +kernel)]; exact ⟨rfl, rfl⟩))
    (fun os started H enc _ => leavesIn_lifted os started H enc)
end Go.Proofs.Ytijadbifkehccaa
