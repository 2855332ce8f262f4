/- Texts of this proof: F00 F18. -/
import Derived.Test.YtioaieacogoemaaGreatKO01
import Derived.Test.YtioaieacogoemaaGreatKP18
set_option linter.unusedSimpArgs false
set_option linter.unusedVariables false
set_option linter.unnecessarySimpa false
namespace Go.Proofs.YtioaieacogoemaaGreat
open Go.ChangeShapes Go.WideShapes Go.ChangeAt Go.RowKit Go.Deep

theorem Tryz.own : ownKnob Tryz.prog.godebug = none := by kernel_rfl
theorem Tryz.laidOut : laidOutB Tryz.prog = true := by kernel_rfl

end Go.Proofs.YtioaieacogoemaaGreat

/- laws.FnExactBinary answers true, at every argument, and its arguments read as they did. -/
namespace Go.Proofs.YtioaieacogoemaaGreat
open Go.ChangeShapes Go.WideShapes Go.ChangeAt Go.RowKit Go.Deep

theorem lawBinary_any (x0 : Int) (x1 : List CellD) (hz1 : Sized x1) (A1 : Option Addr) (cap1 : Nat) (hcap1 : x1.length ≤ cap1) (x2 : List CellD) (hz2 : Sized x2) (A2 : Option Addr) (cap2 : Nat) (hcap2 : x2.length ≤ cap2) (w : World)  (hl1 : x1.length ≤ 9223372036854775807) (hcs1 : Cells w (fun b => b < w.heap.size) A1 x1) (hl2 : x2.length ≤ 9223372036854775807) (hcs2 : Cells w (fun b => b < w.heap.size) A2 x2) :
    Calls Tryz.prog 6 #[.int .i64 x0, .slice A1 x1.length cap1, .slice A2 x2.length cap2] w fun e w' => e = .returned (.bool true) ∧ Below w.heap.size w w' :=
  AC.calls (S := fun b => b < w.heap.size) (lawBinary_ac x0 x1 x2 hz1 hz2 hl1 hl2) fun T hT κ => ⟨_, _, rfl, ⟨rfl, rfl⟩, _, _, rfl, ar_cellsA hcap1 (hcs1.weaken fun b hb _ => hT b hb), _, _, rfl, ar_cellsA hcap2 (hcs2.weaken fun b hb _ => hT b hb), rfl⟩

set_option maxRecDepth 100000 in
theorem binary_lifted (os : Os) (started : os.Started) (H : Type) (enc : TypeId × Value → H) :
    ReturnsInHanded {} Tryz.checked os 6 .any (Rows.fnExactBinarySpec.pre6 enc Tryz.prog Tryz.f6 Rows.fnExactBinaryRow.domain false) (Rows.fnExactBinarySpec.post enc Tryz.prog Tryz.f6 false true false false) := by
  refine returnsInHanded_of_change (C := Tryz.checked) Tryz.own started (by kernel_rfl) Tryz.func6
    (ChangeSpec.witness6 (enc := enc) (C := Tryz.checked) false ⟨#[], #[.int .i64 0, .slice none 0 0, .slice none 0 0], []⟩ 8 (by kernel_rfl) (by kernel_rfl) (by kernel_rfl) (by kernel_rfl)) ?_
  intro W base args ds gs before hval0 hW hcnd _
  have hval : ∀ (j : Nat) t v, Tryz.f6.params[j]? = some t → args[j]? = some v → Value.okWide Tryz.prog W .any base t v := hval0
  have hW' := hW
  obtain ⟨p, q, hA0, hV, rfl, hfz, hnd⟩ := hW
  have hA : DataW.TrodAll enc Tryz.prog W 0 (fun _ => true) true Tryz.f6.params.toList args.toList ds p := hA0
  rw [Tryz.params6] at hA hval
  obtain ⟨v0, v1, v2, d0, d1, d2, p0, p1, p2, rfl, rfl, rfl, t0, t1, t2⟩ := trodAll_three hA
  obtain ⟨rfl, rfl⟩ := trodVars_none hV
  obtain ⟨x0, rfl⟩ := okWide_int Tryz.underlying2 (hval 0 2 v0 rfl rfl)
  have k0 := t0
  obtain ⟨fuel0, hf0⟩ := t0
  obtain ⟨a1, len1, cap1, rfl⟩ := okWide_slice Tryz.underlying22 (hval 1 22 v1 rfl rfl)
  have k1 := t1
  obtain ⟨fuel1, hf1⟩ := t1
  obtain ⟨a2, len2, cap2, rfl⟩ := okWide_slice Tryz.underlying22 (hval 2 22 v2 rfl rfl)
  have k2 := t2
  obtain ⟨fuel2, hf2⟩ := t2
  clear hA0 hval0
  simp only [List.append_nil] at hW'
  have hlt : ∀ x ∈ p0 ++ p1 ++ p2, x.block < W.heap.size := fun x hx => by simpa using hW'.lt x hx
  have hargs0 : ∀ (W' : World), Below W.heap.size W W' → DataW.Trod enc Tryz.prog W' 0 (fun b => decide (b < W.heap.size)) true 2 (.int .i64 x0) d0 p0 :=
    fun W' hn => Below.trod Tryz.laidOut (by kernel_rfl) (of_decide_eq_true (by kernel_rfl)) k0 hn (fun x hx => hlt x (by simp [hx]))
  have hargs1 : ∀ (W' : World), Below W.heap.size W W' → DataW.Trod enc Tryz.prog W' 0 (fun b => decide (b < W.heap.size)) true 22 (.slice a1 len1 cap1) d1 p1 :=
    fun W' hn => Below.trod Tryz.laidOut (by kernel_rfl) (of_decide_eq_true (by kernel_rfl)) k1 hn (fun x hx => hlt x (by simp [hx]))
  have hargs2 : ∀ (W' : World), Below W.heap.size W W' → DataW.Trod enc Tryz.prog W' 0 (fun b => decide (b < W.heap.size)) true 22 (.slice a2 len2 cap2) d2 p2 :=
    fun W' hn => Below.trod Tryz.laidOut (by kernel_rfl) (of_decide_eq_true (by kernel_rfl)) k2 hn (fun x hx => hlt x (by simp [hx]))
  obtain ⟨x1, rfl, hl1, hcap1, hz1, hcs1⟩ := open_cellS Tryz.underlying22 Tryz.underlying55 (by kernel_rfl) (by kernel_rfl) rfl rfl rfl rfl rfl Tryz.underlying2 Tryz.underlying9 hf1
  obtain ⟨x2, rfl, hl2, hcap2, hz2, hcs2⟩ := open_cellS Tryz.underlying22 Tryz.underlying55 (by kernel_rfl) (by kernel_rfl) rfl rfl rfl rfl rfl Tryz.underlying2 Tryz.underlying9 hf2
  refine (lawBinary_any x0 x1 hz1 a1 cap1 hcap1 x2 hz2 a2 cap2 hcap2 W hl1 hcs1 hl2 hcs2).mono fun e W' ⟨he, hnx⟩ => ?_
  subst he
  exact ⟨_, rfl, _, _, _, [], p0 ++ (p1 ++ p2), [], hW', trodAll_mk1 (shut_bool Tryz.underlying4 _), trodAll_mk3 (hargs0 _ hnx) (hargs1 _ hnx) (hargs2 _ hnx), rfl, hnx.frame _, fun h => by cases h⟩

theorem binary_holds : Rows.FnExactBinarySaid :=
  OpenClaim.holds_of_wide 6 Tryz.f6 rfl rfl rfl rfl rfl rfl rfl ⟨rfl, rfl, rfl, rfl, rfl⟩ rfl rfl rfl rfl rfl (by kernel_rfl) Tryz.func6 (by kernel_rfl)
    (of_decide_eq_true (by kernel_rfl)) (by unfold Func.isWrapper; first | (rw [if_pos (by decide +kernel)]; kernel_rfl) | (rw [if_neg (by decide +kernel)]; exact ⟨rfl, rfl⟩))
    (fun os started H enc _ => binary_lifted os started H enc)
end Go.Proofs.YtioaieacogoemaaGreat
