/- Texts of this proof: O06 F25. -/
import Derived.Test.YtpaooephkpjkfaaGreatKO03
import Derived.Test.YtpaooephkpjkfaaGreatKM28
import Derived.Test.YtpaooephkpjkfaaGreatKH25
import Derived.Test.YtpaooephkpjkfaaGreatKF00
set_option linter.unusedSimpArgs false
set_option linter.unusedVariables false
set_option linter.unnecessarySimpa false
namespace Go.Proofs.YtpaooephkpjkfaaGreat
open Go.ChangeShapes Go.WideShapes Go.ChangeAt Go.RowKit Go.Deep
theorem open_bytes {H : Type} {enc : TypeId × Value → H} {P : Program} {w : World} {base : Nat} {spare : Nat → Bool} {held : Bool} {t e : TypeId} {fuel len cap : Nat} {A : Option Addr} {x : DataW H × List MemPlace} (ht : P.underlying t = some (.slice e)) (he : P.underlying e = some (.int .u8)) (hC : P.cellsOf e = 1)
    (h : DataW.trod enc P w base spare held fuel t [.slice A len cap] = some x) :
    ∃ bs : List Nat, bs.length = len ∧ len ≤ 9223372036854775807 ∧ len ≤ cap ∧ (∀ b ∈ bs, b < 256) ∧ CR w (fun b => b < w.heap.size) (.sl (bs.map byteCs)) (.slice A len cap) [] := by
  refine open_ones (α := Nat) (p := fun b => b < 256) (f := fun b => .int .u8 (b : Int)) ht hC (fun n v y hy => ?_) h
  obtain ⟨k, h1, _, h2⟩ := DataW.trod_int he hy
  simp only [List.cons.injEq, and_true] at h1
  subst h1
  simp only [Lit.wf, Bool.and_eq_true, decide_eq_true_eq] at h2
  have h3 : (0 : Int) ≤ k := h2.1
  have h4 : k ≤ 255 := h2.2
  exact ⟨k.toNat, by omega, by rw [show ((k.toNat : Nat) : Int) = k by omega], rfl⟩
end Go.Proofs.YtpaooephkpjkfaaGreat

/- laws.FnDeeps answers true, at every argument, and its argument reads as it did. -/
namespace Go.Proofs.YtpaooephkpjkfaaGreat
open Go.ChangeShapes Go.WideShapes Go.ChangeAt Go.RowKit Go.Deep

theorem lawDeeps_any (bs : List Nat) (hbb : ∀ b ∈ bs, b < 256) (A : Option Addr) (cap : Nat) (w : World) (hcs : CR w (fun b => b < w.heap.size) (.sl (bs.map byteCs)) (.slice A bs.length cap) []) :
    Calls Tryz.prog 3 #[.slice A bs.length cap] w fun e w' => e = .returned (.bool true) ∧ Below w.heap.size w w' :=
  AC.calls (S := fun b => b < w.heap.size) (lawDeeps_ac bs hbb) fun T hT κ => ⟨_, _, rfl, CR.keep (Nat.le_refl _) (fun b hb _ => ⟨rfl, hT b hb⟩) (by simp) hcs, rfl⟩

set_option maxRecDepth 100000 in
theorem deeps_lifted (os : Os) (started : os.Started) (H : Type) (enc : TypeId × Value → H) :
    ReturnsInHanded {} Tryz.checked os 3 .any (Rows.fnDeepsSpec.pre6 enc Tryz.prog Tryz.f3 Rows.fnDeepsRow.domain false) (Rows.fnDeepsSpec.post enc Tryz.prog Tryz.f3 false true false false) := by
  refine returnsInHanded_of_change (C := Tryz.checked) Tryz.own started (by kernel_rfl) Tryz.func3
    (ChangeSpec.witness6 (enc := enc) (C := Tryz.checked) false ⟨#[], #[.slice none 0 0], []⟩ 8 (by kernel_rfl) (by kernel_rfl) (by kernel_rfl) (by kernel_rfl)) ?_
  intro W base args ds gs before hval0 hW hcnd _
  have hval : ∀ (j : Nat) t v, Tryz.f3.params[j]? = some t → args[j]? = some v → Value.okWide Tryz.prog W .any base t v := hval0
  have hW' := hW
  obtain ⟨p, q, hA0, hV, rfl, hfz, hnd⟩ := hW
  have hA : DataW.TrodAll enc Tryz.prog W 0 (fun _ => true) true Tryz.f3.params.toList args.toList ds p := hA0
  rw [Tryz.params3] at hA hval
  obtain ⟨v0, d0, rfl, rfl, t0⟩ := trodAll_one hA
  obtain ⟨rfl, rfl⟩ := trodVars_none hV
  obtain ⟨a0, len0, cap0, rfl⟩ := okWide_slice Tryz.underlying22 (hval 0 22 v0 rfl rfl)
  have k0 := t0
  obtain ⟨fuel0, hf0⟩ := t0
  clear hA0 hval0
  simp only [List.append_nil] at hW'
  have hlt : ∀ x ∈ p, x.block < W.heap.size := fun x hx => by simpa using hW'.lt x hx
  have hargs0 : ∀ (W' : World), Below W.heap.size W W' → DataW.Trod enc Tryz.prog W' 0 (fun b => decide (b < W.heap.size)) true 22 (.slice a0 len0 cap0) d0 p :=
    fun W' hn => Below.trod Tryz.laidOut (by kernel_rfl) (of_decide_eq_true (by kernel_rfl)) k0 hn hlt
  obtain ⟨bs, rfl, hl0, hcap0, hbb, hcs⟩ := open_bytes Tryz.underlying22 Tryz.underlying5 (by kernel_rfl) hf0
  refine (lawDeeps_any bs hbb a0 cap0 W hcs).mono fun e W' ⟨he, hnx⟩ => ?_
  subst he
  exact ⟨_, rfl, _, _, _, [], p, [], hW', trodAll_mk1 (shut_bool Tryz.underlying4 _), trodAll_mk1 (hargs0 _ hnx), rfl, hnx.frame _, fun h => by cases h⟩

theorem deeps_holds : Rows.FnDeepsSaid :=
  OpenClaim.holds_of_wide 3 Tryz.f3 rfl rfl rfl rfl rfl rfl rfl ⟨rfl, rfl, rfl, rfl, rfl⟩ rfl rfl rfl rfl rfl (by kernel_rfl) Tryz.func3 (by kernel_rfl)
    (of_decide_eq_true (by kernel_rfl)) (by unfold Func.isWrapper; first | (rw [if_pos (by decide +kernel)]; kernel_rfl) | (rw [if_neg (by decide +kernel)]; exact ⟨rfl, rfl⟩))
    (fun os started H enc _ => deeps_lifted os started H enc)
end Go.Proofs.YtpaooephkpjkfaaGreat
