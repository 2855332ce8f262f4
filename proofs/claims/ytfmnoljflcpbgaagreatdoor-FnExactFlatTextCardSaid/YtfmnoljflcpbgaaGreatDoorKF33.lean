/- laws.FnExactFlatText answers true, at every argument, and its arguments read as they did. -/
import Derived.Test.YtfmnoljflcpbgaaGreatDoorKE34uP33
import Derived.Test.YtfmnoljflcpbgaaGreatDoorKF00uO07
set_option linter.unusedSimpArgs false
set_option linter.unusedVariables false
set_option linter.unnecessarySimpa false
namespace Go.Proofs.YtfmnoljflcpbgaaGreatDoor
open Go.ChangeShapes Go.WideShapes Go.ChangeAt Go.RowKit Go.Deep

theorem lawFlatText_any (x0 : List CellD) (hz0 : Sized x0) (A0 : Option Addr) (cap0 : Nat) (hcap0 : x0.length ≤ cap0) (w : World) (hl0 : x0.length ≤ 9223372036854775807) (hcs0 : Cells w (fun b => b < w.heap.size) A0 x0) (ht : Lib.TabIs Tryz.prog w "internal/strconv.uint64pow10" .u64 Lib.pow10Tab) :
    Calls Tryz.prog 7 #[.slice A0 x0.length cap0] w fun e w' => e = .returned (.bool true) ∧ Below w.heap.size w w' := by
  obtain ⟨o, ho⟩ := pow_block ht
  exact AC.calls_tab (S := fun b => b < w.heap.size ∧ b ≠ 0) (lawFlatText_ac (o := o) x0 hz0 hl0) gPowL ho ht (fun h => h.2 rfl) fun T hT m κ => ⟨_, _, rfl, CR.keep (Nat.le_refl _) (fun b hb _ => ⟨rfl, hT b hb⟩) (by simp) (CR.off gPowL ht (off_cells _) (ar_cellsA (m := []) (κ := fun _ => .bool false) hcap0 hcs0)), rfl⟩

set_option maxRecDepth 100000 in
theorem flatText_lifted (os : Os) (started : os.Started) (H : Type) (enc : TypeId × Value → H) :
    ReturnsInHanded {} Tryz.checked os 7 .any (fun w args => (Rows.fnExactFlatTextSpec.pre enc Tryz.prog Tryz.f7 [] false w args ∧ laidMetH Tryz.prog laidL w) ∧ sizedMet enc Tryz.prog Tryz.f7 (OpenSpec.ofChange Rows.fnExactFlatTextSpec) false w args)
      (Rows.fnExactFlatTextSpec.post enc Tryz.prog Tryz.f7 false true false false) := by
  refine returnsInHanded_of_change_and (C := Tryz.checked) (X := fun w _ => laidMetH Tryz.prog laidL w) (fun _ _ _ hh h => h.of_heap hh) Tryz.own started (by kernel_rfl) Tryz.func7
    (ChangeSpec.witness_shaped (enc := enc) (C := Tryz.checked) (os := os) (X := fun w _ => laidMetH Tryz.prog laidL w) false (laidWorldL os) #[.slice none 0 0] 8 rfl (World.shaped_of_RefB (by kernel_rfl) (by kernel_rfl)) (by kernel_rfl) (by kernel_rfl) (by kernel_rfl) (laidL_met os _)) ?_
  intro W base args ds gs before hval0 hW _ _ hL _
  have hval : ∀ (j : Nat) t v, Tryz.f7.params[j]? = some t → args[j]? = some v → Value.okWide Tryz.prog W .any base t v := hval0
  have hW' := hW
  obtain ⟨p, q, hA0, hV, rfl, hfz, hnd⟩ := hW
  have hA : DataW.TrodAll enc Tryz.prog W 0 (fun _ => true) true Tryz.f7.params.toList args.toList ds p := hA0
  rw [Tryz.params7] at hA hval
  obtain ⟨v0, d0, rfl, rfl, t0⟩ := trodAll_one hA
  obtain ⟨rfl, rfl⟩ := trodVars_none hV
  obtain ⟨a0, len0, cap0, rfl⟩ := okWide_slice Tryz.underlying22 (hval 0 22 v0 rfl rfl)
  have k0 := t0
  obtain ⟨fuel0, hf0⟩ := t0
  clear hA0 hval0
  simp only [List.append_nil] at hW'
  have hlt : ∀ x ∈ p, x.block < W.heap.size := fun x hx => by simpa using hW'.lt x hx
  have hargs0 : ∀ (W' : World), Below W.heap.size W W' → DataW.Trod enc Tryz.prog W' 0 (fun b => decide (b < W.heap.size)) true 22 (.slice a0 len0 cap0) d0 p :=
    fun W' hn => Below.trod Tryz.laidOut (by kernel_rfl) (of_decide_eq_true (by kernel_rfl)) k0 hn hlt
  obtain ⟨x0, rfl, hl0, hcap0, hz0, hcs0⟩ := open_cellS Tryz.underlying22 Tryz.underlying65 (by kernel_rfl) (by kernel_rfl) rfl rfl rfl rfl rfl Tryz.underlying2 Tryz.underlying9 hf0
  refine (lawFlatText_any x0 hz0 a0 cap0 hcap0 W hl0 hcs0 (powL_of hL)).mono fun e W' ⟨he, hnx⟩ => ?_
  subst he
  exact ⟨_, rfl, _, _, _, [], p, [], hW', trodAll_mk1 (shut_bool Tryz.underlying4 _), trodAll_mk1 (hargs0 _ hnx), rfl, hnx.frame _, fun h => by cases h⟩

theorem flatText_row : Rows.FnExactFlatTextSaid :=
  OpenClaim.holds_of_wide 7 Tryz.f7 rfl rfl rfl rfl rfl rfl rfl ⟨rfl, rfl, rfl, rfl, rfl⟩ rfl rfl rfl rfl rfl (by kernel_rfl) Tryz.func7 (by kernel_rfl)
    (of_decide_eq_true (by kernel_rfl)) (by unfold Func.isWrapper; first | (rw [if_pos (by decide +kernel)]; kernel_rfl) | (rw [if_neg (by decide +kernel)]; exact ⟨rfl, rfl⟩))
    (fun os started H enc _ => flatText_lifted os started H enc)
theorem flatText_holds : Rows.FnExactFlatTextCardSaid :=
  Claim7.holds_tied_plain_at .later [] [.data, .data, .data] true (true, "0a42c3da5b1647a12f53a52518a84bd6d09b8b7f096529e5ad6ce69f1112b870") true
    flatText_row (fun _ h => by cases h) (by kernel_rfl) (fun _ h => by cases h) fnExactFlatText_row_tie rfl ⟨rfl, rfl⟩ (by kernel_rfl) rfl
    (fun f fn hf hfn => by
      obtain rfl : f = 7 := Option.some.inj ((show Tryz.prog.funcNamed Rows.fnExactFlatTextRow.func = some 7 by kernel_rfl).symm.trans hf) |>.symm
      obtain rfl : fn = Tryz.f7 := (Option.some.inj (Tryz.func7.symm.trans hfn)).symm
      exact ⟨by kernel_rfl, fun j t ht => by
        rw [Tryz.params7] at ht
        have hm : t ∈ [22] := by simpa using Array.mem_of_getElem? ht
        have hall : ([22].all fun u => !Tryz.prog.wantsStandIn u) = true := by kernel_rfl
        exact (show Tryz.prog.wantsStandIn t = false by simpa using List.all_eq_true.1 hall t hm)⟩)
    (by kernel_rfl)
end Go.Proofs.YtfmnoljflcpbgaaGreatDoor
