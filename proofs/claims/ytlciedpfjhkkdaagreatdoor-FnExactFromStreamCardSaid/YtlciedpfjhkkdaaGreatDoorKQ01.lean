/- laws.FnExactFromStream answers true, at every argument, and its arguments read as they did. -/
import Derived.Test.YtlciedpfjhkkdaaGreatDoorKG19uP34
import Derived.Test.YtlciedpfjhkkdaaGreatDoorKO01uO07
import Derived.Test.YtlciedpfjhkkdaaGreatDoorKO02uO11
set_option linter.unusedSimpArgs false
set_option linter.unusedVariables false
set_option linter.unnecessarySimpa false
namespace Go.Proofs.YtlciedpfjhkkdaaGreatDoor
open Go.ChangeShapes Go.WideShapes Go.ChangeAt Go.RowKit Go.Deep
theorem lawFromStream_any (x0 : List (List CellD)) (hz0 : ∀ x ∈ x0, Sized x) (A0 : Option Addr) (cap0 : Nat) (hcap0 : x0.length ≤ cap0) (hy0 : ∀ x ∈ x0, x.length ≤ 9223372036854775807) (w : World) (hl0 : x0.length ≤ 9223372036854775807) (hcs0 : CR w (fun b => b < w.heap.size) (.sl (x0.map encCs)) (.slice A0 x0.length cap0) []) (ht : Lib.TabIs Tryz.prog w "internal/strconv.uint64pow10" .u64 Lib.pow10Tab) :
  Calls Tryz.prog 7 #[.slice A0 x0.length cap0] w fun e w' => e = .returned (.bool true) ∧ Below w.heap.size w w' := by
 obtain ⟨o, ho⟩ := pow_block ht
 exact AC.calls_tab (S := fun b => b < w.heap.size ∧ b ≠ 1) (lawFromStream_ac (o := o) x0 hz0 hl0 hy0) gPowL ho ht (fun h => h.2 rfl) fun T hT m κ => ⟨_, _, rfl, CR.keep (Nat.le_refl _) (fun b hb _ => ⟨rfl, hT b hb⟩) (by simp) (CR.off gPowL ht (off_lists _) hcs0), rfl⟩
set_option maxRecDepth 100000 in
theorem fromStream_lifted (os : Os) (started : os.Started) (H : Type) (enc : TypeId × Value → H) :
  ReturnsInHanded {} Tryz.checked os 7 .any (fun w args => (Rows.fnExactFromStreamSpec.pre enc Tryz.prog Tryz.f7 [] false w args ∧ laidMetH Tryz.prog laidL w) ∧ sizedMet enc Tryz.prog Tryz.f7 (OpenSpec.ofChange Rows.fnExactFromStreamSpec) false w args)
   (Rows.fnExactFromStreamSpec.post enc Tryz.prog Tryz.f7 false true false false) := by
 refine returnsInHanded_of_change_and (C := Tryz.checked) (X := fun w _ => laidMetH Tryz.prog laidL w) (fun _ _ _ hh h => h.of_heap hh) Tryz.own started (by kernel_rfl) Tryz.func7
  (ChangeSpec.witness_shaped (enc := enc) (C := Tryz.checked) (os := os) (X := fun w _ => laidMetH Tryz.prog laidL w) false (laidWorldL os) #[.slice none 0 0] 8 rfl (World.shaped_of_RefB (by kernel_rfl) (by kernel_rfl)) (by kernel_rfl) (by kernel_rfl) (by kernel_rfl) (laidL_met os _)) ?_
 intro W base args ds gs before hval0 hW _ _ hL _
 have hval : ∀ (j : Nat) t v, Tryz.f7.params[j]? = some t → args[j]? = some v → Value.okWide Tryz.prog W .any base t v := hval0
 have hW' := hW
 obtain ⟨p, q, hA0, hV, rfl, hfz, hnd⟩ := hW
 have hA : DataW.TrodAll enc Tryz.prog W 0 (fun _ => true) true Tryz.f7.params.toList args.toList ds p := hA0
 rw [Tryz.params7] at hA hval
 obtain ⟨v0, d0, rfl, rfl, t0⟩ := trodAll_one hA
 obtain ⟨rfl, rfl⟩ := trodVars_none hV
 obtain ⟨a0, len0, cap0, rfl⟩ := okWide_slice Tryz.underlying48 (hval 0 48 v0 rfl rfl)
 have k0 := t0
 obtain ⟨fuel0, hf0⟩ := t0
 clear hA0 hval0
 simp only [List.append_nil] at hW'
 have hlt : ∀ x ∈ p, x.block < W.heap.size := fun x hx => by simpa using hW'.lt x hx
 have hargs0 : ∀ (W' : World), Below W.heap.size W W' → DataW.Trod enc Tryz.prog W' 0 (fun b => decide (b < W.heap.size)) true 48 (.slice a0 len0 cap0) d0 p :=
  fun W' hn => Below.trod Tryz.laidOut (by kernel_rfl) (of_decide_eq_true (by kernel_rfl)) k0 hn hlt
 obtain ⟨x0, rfl, hl0, hcap0, hz0, hy0, hcs0⟩ := open_cellSS Tryz.underlying48 Tryz.underlying98 (by kernel_rfl) Tryz.underlying149 (by kernel_rfl) (by kernel_rfl) rfl rfl rfl rfl rfl Tryz.underlying2 Tryz.underlying9 hf0
 refine (lawFromStream_any x0 hz0 a0 cap0 hcap0 hy0 W hl0 hcs0 (powL_of hL)).mono fun e W' ⟨he, hnx⟩ => ?_
 subst he
 exact ⟨_, rfl, _, _, _, [], p, [], hW', trodAll_mk1 (shut_bool Tryz.underlying4 _), trodAll_mk1 (hargs0 _ hnx), rfl, hnx.frame _, fun h => by cases h⟩
end Go.Proofs.YtlciedpfjhkkdaaGreatDoor
