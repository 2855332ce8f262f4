/- laws.FnExactPathText answers true, at every argument, and its argument reads as it did; the tables that it names read as the program lays them. -/
import Derived.Test.YtfmnoljflcpbgaaGreatDoorKP28
import Derived.Test.YtfmnoljflcpbgaaGreatDoorKF00
import Derived.Test.YtfmnoljflcpbgaaGreatDoorCards
import Derived.Test.YtfmnoljflcpbgaaGreatDoorTie
import Derived.Lib.LaidTab
import Derived.LaidMore
import Derived.Stop.Joined
import Derived.SevenTiedAt
set_option linter.unusedSimpArgs false
set_option linter.unusedVariables false
set_option linter.unnecessarySimpa false
namespace Go.Proofs.YtfmnoljflcpbgaaGreatDoor
open Go.ChangeShapes Go.WideShapes Go.ChangeAt Go.RowKit Go.Deep

def cellsOfD : DataW Unit → Array Value
  | .agg l => (l.map fun | .lit (.int k z) => Value.int k z | _ => .bool false).toArray
  | _ => #[]
def layD (d : DataW Unit) : Obj → Obj
  | .cells _ t fz => .cells (cellsOfD d) t fz
  | o => o
/-- The settled world with the tables laid. -/
noncomputable def laidWorld (os : Os) : World :=
  { World.holding Tryz.prog os ⟨#[], #[], []⟩ with heap := (((World.holding Tryz.prog os ⟨#[], #[], []⟩).heap.modify 2 (layD Rows.laid_math_bits_deBruijn32tab)).modify 3 (layD Rows.laid_math_bits_deBruijn64tab)).modify 0 (layD Rows.laid_internal_strconv_uint64pow10) }
abbrev laid3 : List (String × DataW Unit) := Rows.fnExactPathTextRow.laid
theorem laid_met (os : Os) (args : Array Value) : laidMetH Tryz.prog laid3 ((laidWorld os).forCall (fun _ _ => 0) ⟨#[], args, []⟩).memory :=
  show laidMet Tryz.prog laid3 _ from laidMet_of_run' 8 (by kernel_rfl) (by kernel_rfl)
theorem gPow : Tryz.prog.globalNamed "internal/strconv.uint64pow10" = some 0 := by kernel_rfl
theorem tPow : (Tryz.prog.globals[0]?).map (·.type) = some 245 := by kernel_rfl
theorem powD : (Rows.laid_internal_strconv_uint64pow10 : DataW Unit) = Lib.tabData .u64 Lib.pow10Tab := by kernel_rfl
theorem pow_of_laid {W : World} (h : laidMetH Tryz.prog laid3 W) : Lib.TabIs Tryz.prog W "internal/strconv.uint64pow10" .u64 Lib.pow10Tab := by
  have h' : laidMet Tryz.prog laid3 W := h
  obtain ⟨ps, ⟨g0, t0, cs0, f0, p0, q0, hg0, ht0, hv0, hd0, ⟨g1, t1, cs1, f1, p1, q1, hg1, ht1, hv1, hd1, ⟨g2, t2, cs2, f2, p2, q2, hg2, ht2, hv2, hd2, _, _⟩, _⟩, _⟩, _, _⟩ := h'
  obtain rfl := Option.some.inj (gPow.symm.trans hg2)
  obtain rfl := Option.some.inj (tPow.symm.trans ht2)
  rw [powD] at hd2
  unfold Lib.TabIs
  rw [hv2, ← Lib.cells_of_tab Tryz.underlying245 Tryz.underlying201 (by kernel_rfl) (by kernel_rfl) hd2]
/-- The cells of a value do not lie where a table of numbers lies. -/
theorem cells_off {W : World} {S : Nat → Prop} {A : Option Addr} {xs : List CellD} (hcs : Cells W S A xs) {g : Nat} (hg : Tryz.prog.globalNamed "internal/strconv.uint64pow10" = some g) (ht : Lib.TabIs Tryz.prog W "internal/strconv.uint64pow10" .u64 Lib.pow10Tab) :
    Cells W (fun b => S b ∧ b ≠ g) A xs := by
  refine ⟨hcs.1, fun h0 => ?_⟩
  have hl : 0 < xs.length := by simpa using h0
  obtain ⟨b, off, hA, hS, hb, hc⟩ := hcs.2 h0
  refine ⟨b, off, hA, ⟨hS, ?_⟩, hb, hc⟩
  rintro rfl
  obtain ⟨b', off', hA', _, _, hk, _⟩ := hcs.at_ hl
  rw [hA] at hA'
  cases hA'
  unfold Lib.TabIs at ht
  have h1 := World.var?_cell hg ht (off + 0 * 5)
  rw [hk] at h1
  rw [List.getElem?_toArray, List.getElem?_map] at h1
  cases hq : Lib.pow10Tab[off + 0 * 5]? with
  | none => rw [hq] at h1; cases h1
  | some z => rw [hq] at h1; simp at h1
theorem lawPathText_any (xs : List CellD) (hz : Sized xs) (A : Option Addr) (cap : Nat) (hcap : xs.length ≤ cap) (w : World) (hl : xs.length ≤ 9223372036854775807) (hcs : Cells w (fun b => b < w.heap.size) A xs) (ht : Lib.TabIs Tryz.prog w "internal/strconv.uint64pow10" .u64 Lib.pow10Tab) :
    Calls Tryz.prog 3 #[.slice A xs.length cap] w fun e w' => e = .returned (.bool true) ∧ Below w.heap.size w w' := by
  have hob : ∃ o, w.heap[0]? = some o := by
    unfold Lib.TabIs World.var? at ht
    rw [gPow] at ht
    simp only [Option.bind_some] at ht
    cases ho : w.heap[0]? with
    | none => rw [ho] at ht; cases ht
    | some o => exact ⟨o, rfl⟩
  obtain ⟨o, ho⟩ := hob
  exact AC.calls_tab (S := fun b => b < w.heap.size ∧ b ≠ 0) (lawPathText_ac (o := o) xs hz hl) gPow ho ht (fun h => h.2 rfl) fun T hT m κ => ⟨_, _, rfl, ar_cellsA hcap ((cells_off hcs gPow ht).weaken fun b hb _ => hT b hb), rfl⟩

set_option maxRecDepth 100000 in
theorem pathText_lifted (os : Os) (started : os.Started) (H : Type) (enc : TypeId × Value → H) :
    ReturnsInHanded {} Tryz.checked os 3 .any (fun w args => (Rows.fnExactPathTextSpec.pre enc Tryz.prog Tryz.f3 [] false w args ∧ laidMetH Tryz.prog laid3 w) ∧ sizedMet enc Tryz.prog Tryz.f3 (OpenSpec.ofChange Rows.fnExactPathTextSpec) false w args)
      (Rows.fnExactPathTextSpec.post enc Tryz.prog Tryz.f3 false true false false) := by
  refine returnsInHanded_of_change_and (C := Tryz.checked) (X := fun w _ => laidMetH Tryz.prog laid3 w) (fun _ _ _ hh h => h.of_heap hh) Tryz.own started (by kernel_rfl) Tryz.func3
    (ChangeSpec.witness_shaped (enc := enc) (C := Tryz.checked) (os := os) (X := fun w _ => laidMetH Tryz.prog laid3 w) false (laidWorld os) #[.slice none 0 0] 8 rfl (World.shaped_of_RefB (by kernel_rfl) (by kernel_rfl)) (by kernel_rfl) (by kernel_rfl) (by kernel_rfl) (laid_met os _)) ?_
  intro W base args ds gs before hval0 hW _ _ hL _
  have hval : ∀ (j : Nat) t v, Tryz.f3.params[j]? = some t → args[j]? = some v → Value.okWide Tryz.prog W .any base t v := hval0
  have hW' := hW
  obtain ⟨p, q, hA0, hV, rfl, hfz, hnd⟩ := hW
  have hA : DataW.TrodAll enc Tryz.prog W 0 (fun _ => true) true Tryz.f3.params.toList args.toList ds p := hA0
  rw [Tryz.params3] at hA hval
  obtain ⟨v0, d0, rfl, rfl, h0⟩ := trodAll_one hA
  obtain ⟨rfl, rfl⟩ := trodVars_none hV
  obtain ⟨a0, len, cap, rfl⟩ := okWide_slice Tryz.underlying22 (hval 0 22 v0 rfl rfl)
  have h0k := h0
  obtain ⟨fuel, hf⟩ := h0
  clear hA0 hval0
  simp only [List.append_nil] at hW'
  have hlt : ∀ x ∈ p, x.block < W.heap.size := fun x hx => by simpa using hW'.lt x hx
  have hargs : ∀ (W' : World), Below W.heap.size W W' → DataW.Trod enc Tryz.prog W' 0 (fun b => decide (b < W.heap.size)) true 22 (.slice a0 len cap) d0 p :=
    fun W' hn => Below.trod Tryz.laidOut (by kernel_rfl) (of_decide_eq_true (by kernel_rfl)) h0k hn hlt
  obtain ⟨xs, rfl, hl, hcap, hz, hcs⟩ := open_cellS Tryz.underlying22 Tryz.underlying65 (by kernel_rfl) (by kernel_rfl) rfl rfl rfl rfl rfl Tryz.underlying2 Tryz.underlying9 hf
  refine (lawPathText_any xs hz a0 cap hcap W hl hcs (pow_of_laid hL)).mono fun e W' ⟨he, hnx⟩ => ?_
  subst he
  exact ⟨_, rfl, _, _, _, [], p, [], hW', trodAll_mk1 (shut_bool Tryz.underlying4 _), trodAll_mk1 (hargs _ hnx), rfl, hnx.frame _, fun h => by cases h⟩

theorem pathText_row : Rows.FnExactPathTextSaid :=
  OpenClaim.holds_of_wide 3 Tryz.f3 rfl rfl rfl rfl rfl rfl rfl ⟨rfl, rfl, rfl, rfl, rfl⟩ rfl rfl rfl rfl rfl (by kernel_rfl) Tryz.func3 (by kernel_rfl)
    (of_decide_eq_true (by kernel_rfl)) (by unfold Func.isWrapper; first | (rw [if_pos (by decide +kernel)]; kernel_rfl) | (rw [if_neg (by decide +kernel)]; exact ⟨rfl, rfl⟩))
    (fun os started H enc _ => pathText_lifted os started H enc)
theorem pathText_holds : Rows.FnExactPathTextCardSaid :=
  Claim7.holds_tied_plain_at .later [] [.data, .data, .data] true (true, "0a42c3da5b1647a12f53a52518a84bd6d09b8b7f096529e5ad6ce69f1112b870") true
    pathText_row (fun _ h => by cases h) (by kernel_rfl) (fun _ h => by cases h) fnExactPathText_row_tie rfl ⟨rfl, rfl⟩ (by kernel_rfl) rfl
    (fun f fn hf hfn => by
      obtain rfl : f = 3 := Option.some.inj ((show Tryz.prog.funcNamed Rows.fnExactPathTextRow.func = some 3 by kernel_rfl).symm.trans hf) |>.symm
      obtain rfl : fn = Tryz.f3 := (Option.some.inj (Tryz.func3.symm.trans hfn)).symm
      exact ⟨by kernel_rfl, fun j t ht => by
        rw [Tryz.params3] at ht
        have hm : t ∈ [22] := by simpa using Array.mem_of_getElem? ht
        have hall : ([22].all fun u => !Tryz.prog.wantsStandIn u) = true := by kernel_rfl
        exact (show Tryz.prog.wantsStandIn t = false by simpa using List.all_eq_true.1 hall t hm)⟩)
    (by kernel_rfl)
end Go.Proofs.YtfmnoljflcpbgaaGreatDoor
