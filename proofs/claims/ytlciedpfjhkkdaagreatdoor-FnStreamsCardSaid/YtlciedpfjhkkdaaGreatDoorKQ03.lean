/- laws.FnStreams answers true, at every argument, and its argument reads as it did. -/
import Derived.Test.YtlciedpfjhkkdaaGreatDoorKH10uH29
import Derived.Test.YtlciedpfjhkkdaaGreatDoorKO01uO10
set_option linter.unusedSimpArgs false
set_option linter.unusedVariables false
set_option linter.unnecessarySimpa false
namespace Go.Proofs.YtlciedpfjhkkdaaGreatDoor
open Go.ChangeShapes Go.WideShapes Go.ChangeAt Go.RowKit Go.Deep
theorem lawStreams_any (bs : List Nat) (hbb : ∀ b ∈ bs, b < 256) (A : Option Addr) (cap : Nat) (w : World) (hcs : CR w (fun b => b < w.heap.size) (.sl (bs.map byteCs)) (.slice A bs.length cap) []) (ht : Lib.TabIs Tryz.prog w "internal/strconv.uint64pow10" .u64 Lib.pow10Tab) :
  Calls Tryz.prog 4 #[.slice A bs.length cap] w fun e w' => e = .returned (.bool true) ∧ Below w.heap.size w w' := by
 obtain ⟨o, ho⟩ := pow_block ht
 exact AC.calls_tab (S := fun b => b < w.heap.size ∧ b ≠ 1) (lawStreams_ac (o := o) bs hbb) gPowL ho ht (fun h => h.2 rfl) fun T hT m κ => ⟨_, _, rfl, CR.keep (Nat.le_refl _) (fun b hb _ => ⟨rfl, hT b hb⟩) (by simp) (CR.off gPowL ht (off_bytes _) hcs), rfl⟩
set_option maxRecDepth 100000 in
theorem streams_lifted (os : Os) (started : os.Started) (H : Type) (enc : TypeId × Value → H) :
  ReturnsInHanded {} Tryz.checked os 4 .any (fun w args => (Rows.fnStreamsSpec.pre enc Tryz.prog Tryz.f4 [] false w args ∧ laidMetH Tryz.prog laidL w) ∧ sizedMet enc Tryz.prog Tryz.f4 (OpenSpec.ofChange Rows.fnStreamsSpec) false w args)
   (Rows.fnStreamsSpec.post enc Tryz.prog Tryz.f4 false true false false) := by
 refine returnsInHanded_of_change_and (C := Tryz.checked) (X := fun w _ => laidMetH Tryz.prog laidL w) (fun _ _ _ hh h => h.of_heap hh) Tryz.own started (by kernel_rfl) Tryz.func4
  (ChangeSpec.witness_shaped (enc := enc) (C := Tryz.checked) (os := os) (X := fun w _ => laidMetH Tryz.prog laidL w) false (laidWorldL os) #[.slice none 0 0] 8 rfl (World.shaped_of_RefB (by kernel_rfl) (by kernel_rfl)) (by kernel_rfl) (by kernel_rfl) (by kernel_rfl) (laidL_met os _)) ?_
 intro W base args ds gs before hval0 hW _ _ hL _
 have hval : ∀ (j : Nat) t v, Tryz.f4.params[j]? = some t → args[j]? = some v → Value.okWide Tryz.prog W .any base t v := hval0
 have hW' := hW
 obtain ⟨p, q, hA0, hV, rfl, hfz, hnd⟩ := hW
 have hA : DataW.TrodAll enc Tryz.prog W 0 (fun _ => true) true Tryz.f4.params.toList args.toList ds p := hA0
 rw [Tryz.params4] at hA hval
 obtain ⟨v0, d0, rfl, rfl, t0⟩ := trodAll_one hA
 obtain ⟨rfl, rfl⟩ := trodVars_none hV
 obtain ⟨a0, len0, cap0, rfl⟩ := okWide_slice Tryz.underlying29 (hval 0 29 v0 rfl rfl)
 have k0 := t0
 obtain ⟨fuel0, hf0⟩ := t0
 clear hA0 hval0
 simp only [List.append_nil] at hW'
 have hlt : ∀ x ∈ p, x.block < W.heap.size := fun x hx => by simpa using hW'.lt x hx
 have hargs0 : ∀ (W' : World), Below W.heap.size W W' → DataW.Trod enc Tryz.prog W' 0 (fun b => decide (b < W.heap.size)) true 29 (.slice a0 len0 cap0) d0 p :=
  fun W' hn => Below.trod Tryz.laidOut (by kernel_rfl) (of_decide_eq_true (by kernel_rfl)) k0 hn hlt
 obtain ⟨bs, rfl, hl0, hcap0, hbb, hcs⟩ := open_bytes Tryz.underlying29 Tryz.underlying5 (by kernel_rfl) hf0
 refine (lawStreams_any bs hbb a0 cap0 W hcs (powL_of hL)).mono fun e W' ⟨he, hnx⟩ => ?_
 subst he
 exact ⟨_, rfl, _, _, _, [], p, [], hW', trodAll_mk1 (shut_bool Tryz.underlying4 _), trodAll_mk1 (hargs0 _ hnx), rfl, hnx.frame _, fun h => by cases h⟩
end Go.Proofs.YtlciedpfjhkkdaaGreatDoor
