/- Texts of this proof: O05 F17. -/
import Derived.Test.YtioaieacogoemaaGreatKF00uO02
import Derived.Test.YtioaieacogoemaaGreatKGE
import Derived.Test.YtioaieacogoemaaGreatKP17
set_option linter.unusedSimpArgs false
set_option linter.unusedVariables false
set_option linter.unnecessarySimpa false
namespace Go.Proofs.YtioaieacogoemaaGreat
open Go.ChangeShapes Go.WideShapes Go.ChangeAt Go.RowKit Go.Deep
theorem crss_edits {w : World} {S : Nat → Prop} : ∀ (l : List EditD) (v : List (List Value)), v.length = l.length → (∀ i (h : i < l.length), ∀ row, v[i]? = some row → RE w S l[i] row) → CRss w S (l.map EditD.cs) v []
  | [], v, hv, _ => by
    have : v = [] := List.eq_nil_of_length_eq_zero hv
    subst this
    exact ⟨rfl, rfl⟩
  | d :: l, [], hv, _ => by simp at hv
  | d :: l, r :: v, hv, h => by
    have h0 := h 0 (by simp) r rfl
    obtain ⟨Ap, cp, Ax, cx, rfl, p2, x2, p4, x4⟩ := h0
    refine ⟨_, v, [], [], rfl, rfl, ?_, crss_edits l v (by simpa using hv) fun i hi row hr => h (i + 1) (by simp; omega) row hr⟩
    exact ⟨_, _, [], [], rfl, rfl, ⟨rfl, rfl⟩, _, _, [], [], rfl, rfl, cr_cells.2 ⟨Ap, cp, rfl, p2, p4⟩, _, _, [], [], rfl, rfl, cr_cells.2 ⟨Ax, cx, rfl, x2, x4⟩, rfl, rfl⟩
section
variable {H : Type} {enc : TypeId × Value → H} {P : Program} {w : World} {base : Nat} {spare : Nat → Bool} {held : Bool}
theorem open_edits {t e tc ec tI tS : TypeId} {f0 f1 f2 n0 n1 n2 n3 n4 : Field} {fuel len cap : Nat} {A : Option Addr} {x : DataW H × List MemPlace} (ht : P.underlying t = some (.slice e)) (he : P.underlying e = some (.struct #[f0, f1, f2]))
    (hone : oneCellFields P #[f0, f1, f2] = true) (hC : P.cellsOf e = 3) (g0 : f0.type = tI) (g1 : f1.type = tc) (g2 : f2.type = tc)
    (htc : P.underlying tc = some (.slice ec)) (hec : P.underlying ec = some (.struct #[n0, n1, n2, n3, n4]))
    (honec : oneCellFields P #[n0, n1, n2, n3, n4] = true) (hCc : P.cellsOf ec = 5) (h0 : n0.type = tI) (h1 : n1.type = tI) (h2 : n2.type = tS) (h3 : n3.type = tS) (h4 : n4.type = tI)
    (hI : P.underlying tI = some (.int .i64)) (hS : P.underlying tS = some .string)
    (h : DataW.trod enc P w base spare held fuel t [.slice A len cap] = some x) :
    ∃ l : List EditD, l.length = len ∧ len ≤ 9223372036854775807 ∧ len ≤ cap ∧ (∀ d ∈ l, EditOk d) ∧ CR w (fun b => b < w.heap.size) (.sl (l.map EditD.cs)) (.slice A len cap) [] := by
  obtain ⟨l, k1, k2, k3, k4, vrows, k5, k6, k7⟩ := open_editS ht he hone hC g0 g1 g2 htc hec honec hCc h0 h1 h2 h3 h4 hI hS h
  refine ⟨l, k1, k2, k3, k4, 3, A, cap, vrows, by rw [List.length_map, k1], by rw [List.length_map, k1]; exact k3, trivial, k6, crss_edits l vrows k5 k7, rfl⟩
end
end Go.Proofs.YtioaieacogoemaaGreat

/- laws.FnExactApplyEdits answers true, at every argument, and its arguments read as they did. -/
namespace Go.Proofs.YtioaieacogoemaaGreat
open Go.ChangeShapes Go.WideShapes Go.ChangeAt Go.RowKit Go.Deep

theorem lawApplyEdits_any (x0 : List CellD) (hz0 : Sized x0) (A0 : Option Addr) (cap0 : Nat) (hcap0 : x0.length ≤ cap0) (x1 : List EditD) (hz1 : ∀ d ∈ x1, EditOk d) (A1 : Option Addr) (cap1 : Nat) (hcap1 : x1.length ≤ cap1) (w : World) (hl0 : x0.length ≤ 9223372036854775807) (hcs0 : Cells w (fun b => b < w.heap.size) A0 x0) (hl1 : x1.length ≤ 9223372036854775807) (hcs1 : CR w (fun b => b < w.heap.size) (.sl (x1.map EditD.cs)) (.slice A1 x1.length cap1) []) :
    Calls Tryz.prog 4 #[.slice A0 x0.length cap0, .slice A1 x1.length cap1] w fun e w' => e = .returned (.bool true) ∧ Below w.heap.size w w' :=
  AC.calls (S := fun b => b < w.heap.size) (lawApplyEdits_ac x0 x1 hz0 hz1 hl0 hl1) fun T hT κ => ⟨_, _, rfl, ar_cellsA hcap0 (hcs0.weaken fun b hb _ => hT b hb), _, _, rfl, CR.keep (Nat.le_refl _) (fun b hb _ => ⟨rfl, hT b hb⟩) (by simp) hcs1, rfl⟩

set_option maxRecDepth 100000 in
theorem applyEdits_lifted (os : Os) (started : os.Started) (H : Type) (enc : TypeId × Value → H) :
    ReturnsInHanded {} Tryz.checked os 4 .any (Rows.fnExactApplyEditsSpec.pre6 enc Tryz.prog Tryz.f4 Rows.fnExactApplyEditsRow.domain false) (Rows.fnExactApplyEditsSpec.post enc Tryz.prog Tryz.f4 false true false false) := by
  refine returnsInHanded_of_change (C := Tryz.checked) Tryz.own started (by kernel_rfl) Tryz.func4
    (ChangeSpec.witness6 (enc := enc) (C := Tryz.checked) false ⟨#[], #[.slice none 0 0, .slice none 0 0], []⟩ 8 (by kernel_rfl) (by kernel_rfl) (by kernel_rfl) (by kernel_rfl)) ?_
  intro W base args ds gs before hval0 hW hcnd _
  have hval : ∀ (j : Nat) t v, Tryz.f4.params[j]? = some t → args[j]? = some v → Value.okWide Tryz.prog W .any base t v := hval0
  have hW' := hW
  obtain ⟨p, q, hA0, hV, rfl, hfz, hnd⟩ := hW
  have hA : DataW.TrodAll enc Tryz.prog W 0 (fun _ => true) true Tryz.f4.params.toList args.toList ds p := hA0
  rw [Tryz.params4] at hA hval
  obtain ⟨v0, v1, d0, d1, p0, p1, rfl, rfl, rfl, t0, t1⟩ := trodAll_two hA
  obtain ⟨rfl, rfl⟩ := trodVars_none hV
  obtain ⟨a0, len0, cap0, rfl⟩ := okWide_slice Tryz.underlying22 (hval 0 22 v0 rfl rfl)
  have k0 := t0
  obtain ⟨fuel0, hf0⟩ := t0
  obtain ⟨a1, len1, cap1, rfl⟩ := okWide_slice Tryz.underlying34 (hval 1 34 v1 rfl rfl)
  have k1 := t1
  obtain ⟨fuel1, hf1⟩ := t1
  clear hA0 hval0
  simp only [List.append_nil] at hW'
  have hlt : ∀ x ∈ p0 ++ p1, x.block < W.heap.size := fun x hx => by simpa using hW'.lt x hx
  have hargs0 : ∀ (W' : World), Below W.heap.size W W' → DataW.Trod enc Tryz.prog W' 0 (fun b => decide (b < W.heap.size)) true 22 (.slice a0 len0 cap0) d0 p0 :=
    fun W' hn => Below.trod Tryz.laidOut (by kernel_rfl) (of_decide_eq_true (by kernel_rfl)) k0 hn (fun x hx => hlt x (by simp [hx]))
  have hargs1 : ∀ (W' : World), Below W.heap.size W W' → DataW.Trod enc Tryz.prog W' 0 (fun b => decide (b < W.heap.size)) true 34 (.slice a1 len1 cap1) d1 p1 :=
    fun W' hn => Below.trod Tryz.laidOut (by kernel_rfl) (of_decide_eq_true (by kernel_rfl)) k1 hn (fun x hx => hlt x (by simp [hx]))
  obtain ⟨x0, rfl, hl0, hcap0, hz0, hcs0⟩ := open_cellS Tryz.underlying22 Tryz.underlying55 (by kernel_rfl) (by kernel_rfl) rfl rfl rfl rfl rfl Tryz.underlying2 Tryz.underlying9 hf0
  obtain ⟨x1, rfl, hl1, hcap1, hz1, hcs1⟩ := open_edits Tryz.underlying34 Tryz.underlying69 (by kernel_rfl) (by kernel_rfl) rfl rfl rfl Tryz.underlying22 Tryz.underlying55 (by kernel_rfl) (by kernel_rfl) rfl rfl rfl rfl rfl Tryz.underlying2 Tryz.underlying9 hf1
  refine (lawApplyEdits_any x0 hz0 a0 cap0 hcap0 x1 hz1 a1 cap1 hcap1 W hl0 hcs0 hl1 hcs1).mono fun e W' ⟨he, hnx⟩ => ?_
  subst he
  exact ⟨_, rfl, _, _, _, [], p0 ++ p1, [], hW', trodAll_mk1 (shut_bool Tryz.underlying4 _), trodAll_mk2 (hargs0 _ hnx) (hargs1 _ hnx), rfl, hnx.frame _, fun h => by cases h⟩

theorem applyEdits_holds : Rows.FnExactApplyEditsSaid :=
  OpenClaim.holds_of_wide 4 Tryz.f4 rfl rfl rfl rfl rfl rfl rfl ⟨rfl, rfl, rfl, rfl, rfl⟩ rfl rfl rfl rfl rfl (by kernel_rfl) Tryz.func4 (by kernel_rfl)
    (of_decide_eq_true (by kernel_rfl)) (by unfold Func.isWrapper; first | (rw [if_pos (by decide +kernel)]; kernel_rfl) | (rw [if_neg (by decide +kernel)]; exact ⟨rfl, rfl⟩))
    (fun os started H enc _ => applyEdits_lifted os started H enc)
end Go.Proofs.YtioaieacogoemaaGreat
