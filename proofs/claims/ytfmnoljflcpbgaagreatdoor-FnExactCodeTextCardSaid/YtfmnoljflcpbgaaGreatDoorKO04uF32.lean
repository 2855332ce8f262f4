/- Texts of this proof: O04 O09 F32. -/
import Derived.Test.YtfmnoljflcpbgaaGreatDoorKF00uO02
import Derived.Test.YtfmnoljflcpbgaaGreatDoorKG06uG08
import Derived.Deep.Slices
import Derived.Test.YtfmnoljflcpbgaaGreatDoorKM13uG35
import Derived.Test.YtfmnoljflcpbgaaGreatDoorKE34uP32
set_option linter.unusedSimpArgs false
set_option linter.unusedVariables false
set_option linter.unnecessarySimpa false
namespace Go.Proofs.YtfmnoljflcpbgaaGreatDoor
open Go.ChangeShapes Go.WideShapes Go.ChangeAt Go.RowKit Go.Deep
section
variable {H : Type} {enc : TypeId × Value → H} {P : Program} {w : World} {base : Nat} {spare : Nat → Bool} {held : Bool}
/-- An instruction as three cells. -/
def RIn (w : World) (d : InD) (row : List Value) : Prop := ∃ v, row = [.int .i64 d.op, .int .i64 d.arg, v] ∧ CR w (fun b => b < w.heap.size) (.sl (d.val.map CellD.cs)) v []
theorem crss_ins : ∀ (l : List (InD × List Value)), (∀ y ∈ l, RIn w y.1 y.2) → CRss w (fun b => b < w.heap.size) (l.map fun y => y.1.cs) (l.map fun y => y.2) []
  | [], _ => ⟨rfl, rfl⟩
  | y :: l, h => by
    obtain ⟨v, hv, hc⟩ := h y (by simp)
    refine ⟨y.2, _, [], [], rfl, rfl, ?_, crss_ins l fun z hz => h z (by simp [hz])⟩
    rw [hv]
    exact ⟨_, _, [], [], rfl, rfl, ⟨rfl, rfl⟩, _, _, [], [], rfl, rfl, ⟨rfl, rfl⟩, v, [], [], [], rfl, rfl, hc, rfl, rfl⟩
theorem open_inS {t e tc ec tI tS : TypeId} {f0 f1 f2 n0 n1 n2 n3 n4 : Field} {fuel len cap : Nat} {A : Option Addr} {x : DataW H × List MemPlace} (ht : P.underlying t = some (.slice e)) (he : P.underlying e = some (.struct #[f0, f1, f2]))
    (hone : oneCellFields P #[f0, f1, f2] = true) (hC : P.cellsOf e = 3) (g0 : f0.type = tI) (g1 : f1.type = tI) (g2 : f2.type = tc)
    (htc : P.underlying tc = some (.slice ec)) (hec : P.underlying ec = some (.struct #[n0, n1, n2, n3, n4]))
    (honec : oneCellFields P #[n0, n1, n2, n3, n4] = true) (hCc : P.cellsOf ec = 5) (h0 : n0.type = tI) (h1 : n1.type = tI) (h2 : n2.type = tS) (h3 : n3.type = tS) (h4 : n4.type = tI)
    (hI : P.underlying tI = some (.int .i64)) (hS : P.underlying tS = some .string)
    (h : DataW.trod enc P w base spare held fuel t [.slice A len cap] = some x) :
    ∃ l : List InD, l.length = len ∧ len ≤ 9223372036854775807 ∧ len ≤ cap ∧ (∀ d ∈ l, Sized d.val) ∧ (∀ d ∈ l, d.val.length ≤ 9223372036854775807) ∧ CR w (fun b => b < w.heap.size) (.sl (l.map InD.cs)) (.slice A len cap) [] := by
  rcases open_slice_fields ht he hone hC h with ⟨hcs, _⟩ | ⟨a, len', cap', m, D, Pl, hcs, _, hl, hm, hmm, _, hi⟩
  · simp only [List.cons.injEq, Value.slice.injEq, and_true] at hcs
    obtain ⟨rfl, rfl, rfl⟩ := hcs
    exact ⟨[], rfl, by omega, by omega, by simp, by simp, 0, none, 0, [], rfl, Nat.le_refl _, trivial, Row.nil, ⟨rfl, rfl⟩, rfl⟩
  · simp only [List.cons.injEq, Value.slice.injEq, and_true] at hcs
    obtain ⟨rfl, rfl, rfl⟩ := hcs
    have hlm : len ≤ m := by rw [hmm]; split <;> omega
    have hmx : maxLen = 9223372036854775807 := rfl
    obtain ⟨l, hll, hx⟩ := list_of (p := fun i (d : InD × List Value) => (Sized d.1.val ∧ d.1.val.length ≤ 9223372036854775807) ∧ RIn w d.1 d.2 ∧ ∀ j u, d.2[j]? = some u → w.cell? (a.add (i * 3 + j)) = some u) len (fun i hil => by
      obtain ⟨ys, n, _, _, _, hf⟩ := hi i (by omega)
      obtain ⟨v0, y0, c0, _, t0⟩ := hf 0 f0 rfl
      obtain ⟨v1, y1, c1, _, t1⟩ := hf 1 f1 rfl
      obtain ⟨v2, y2, c2, _, t2⟩ := hf 2 f2 rfl
      rw [g0] at t0; rw [g1] at t1; rw [g2] at t2
      obtain ⟨op, e0, _⟩ := DataW.trod_int hI t0
      obtain ⟨arg, e1, _⟩ := DataW.trod_int hI t1
      simp only [List.cons.injEq, and_true] at e0 e1
      subst e0 e1
      obtain ⟨Ax, cx, xs, rfl, x1, x2, x3, x4⟩ := open_cellV htc hec honec hCc h0 h1 h2 h3 h4 hI hS t2
      refine ⟨(⟨op, arg, xs⟩, [.int .i64 op, .int .i64 arg, .slice Ax xs.length cx]), ⟨x3, x1⟩, ⟨_, rfl, cr_cells.2 ⟨Ax, cx, rfl, x2, x4⟩⟩, fun j u hu => ?_⟩
      match j with
      | 0 => simp only [List.getElem?_cons_zero, Option.some.injEq] at hu; subst hu; exact c0
      | 1 => simp only [List.getElem?_cons_succ, List.getElem?_cons_zero, Option.some.injEq] at hu; subst hu; exact c1
      | 2 => simp only [List.getElem?_cons_succ, List.getElem?_cons_zero, Option.some.injEq] at hu; subst hu; exact c2
      | j + 3 => simp at hu)
    have hmem : ∀ y ∈ l, (Sized y.1.val ∧ y.1.val.length ≤ 9223372036854775807) ∧ RIn w y.1 y.2 := fun y hy => by
      obtain ⟨i, hi', rfl⟩ := List.getElem_of_mem hy
      exact ⟨(hx i hi').1, (hx i hi').2.1⟩
    refine ⟨l.map (·.1), by simp [hll], by omega, hl, fun d hd => ?_, fun d hd => ?_, 3, some a, cap, l.map fun y => y.2, by simp [hll], by simp [hll]; exact hl, trivial, ⟨fun x hx' => ?_, fun hn => ?_⟩, ?_, rfl⟩
    · simp only [List.mem_map] at hd
      obtain ⟨y, hy, rfl⟩ := hd
      exact (hmem y hy).1.1
    · simp only [List.mem_map] at hd
      obtain ⟨y, hy, rfl⟩ := hd
      exact (hmem y hy).1.2
    · simp only [List.mem_map] at hx'
      obtain ⟨y, hy, rfl⟩ := hx'
      obtain ⟨v, hv, _⟩ := (hmem y hy).2
      rw [hv]
      rfl
    · simp only [List.length_map] at hn
      obtain ⟨_, ⟨_, hrow, _⟩, hc0⟩ := hx 0 hn
      have hfirst := hc0 0 _ (by rw [hrow]; rfl)
      simp only [Nat.zero_mul, Nat.zero_add] at hfirst
      have hadd0 : a.add 0 = a := by unfold Addr.add; simp
      rw [hadd0] at hfirst
      obtain ⟨ab, ao, asp⟩ := a
      have hsp : asp = none := by
        unfold World.cell? at hfirst
        simp only at hfirst
        split at hfirst
        · split at hfirst
          · simp at hfirst
          · rename_i hns; simpa using hns
        · simp at hfirst
      subst hsp
      refine ⟨ab, ao, rfl, World.block_lt_of_cell? w _ hfirst, World.block_lt_of_cell? w _ hfirst, fun i x hxi j u hu => ?_⟩
      simp only [List.getElem?_map] at hxi
      by_cases hil : i < l.length
      · rw [List.getElem?_eq_getElem hil] at hxi
        simp only [Option.map_some, Option.some.injEq] at hxi
        subst hxi
        have := (hx i hil).2.2 j u hu
        have hadd : (⟨ab, ao, none⟩ : Addr).add (i * 3 + j) = ⟨ab, ao + i * 3 + j, none⟩ := by
          unfold Addr.add
          split
          · rename_i h0
            have hi0 : i = 0 := by omega
            subst hi0
            simp
          · simp [Nat.add_assoc]
        rw [hadd] at this
        exact this
      · rw [List.getElem?_eq_none (by omega)] at hxi
        simp at hxi
    · rw [List.map_map]
      exact crss_ins l fun y hy => (hmem y hy).2
end
end Go.Proofs.YtfmnoljflcpbgaaGreatDoor

/- Instructions do not lie where a table lies. -/
namespace Go.Proofs.YtfmnoljflcpbgaaGreatDoor
open Go.RowKit
theorem off_ins : ∀ l : List InD, (C.sl (l.map InD.cs)).offT = true
  | [] => rfl
  | d :: l => by
    have h := off_ins l
    have h1 := off_cells d.val
    simp only [C.offT] at h
    simp only [C.offT, List.map_cons, offTss, h, InD.cs, offTs]
    simp only [C.offT] at h1
    rw [h1]
    rfl
end Go.Proofs.YtfmnoljflcpbgaaGreatDoor

/- laws.FnExactCodeText answers true, at every argument, and its arguments read as they did. -/
namespace Go.Proofs.YtfmnoljflcpbgaaGreatDoor
open Go.ChangeShapes Go.WideShapes Go.ChangeAt Go.RowKit Go.Deep

theorem lawCodeText_any (x0 : List InD) (hz0 : ∀ d ∈ x0, Sized d.val) (A0 : Option Addr) (cap0 : Nat) (hcap0 : x0.length ≤ cap0) (hy0 : ∀ d ∈ x0, d.val.length ≤ 9223372036854775807) (x1 : Int) (w : World) (hl0 : x0.length ≤ 9223372036854775807) (hcs0 : CR w (fun b => b < w.heap.size) (.sl (x0.map InD.cs)) (.slice A0 x0.length cap0) [])  (ht : Lib.TabIs Tryz.prog w "internal/strconv.uint64pow10" .u64 Lib.pow10Tab) :
    Calls Tryz.prog 8 #[.slice A0 x0.length cap0, .int .i64 x1] w fun e w' => e = .returned (.bool true) ∧ Below w.heap.size w w' := by
  obtain ⟨o, ho⟩ := pow_block ht
  exact AC.calls_tab (S := fun b => b < w.heap.size ∧ b ≠ 0) (lawCodeText_ac (o := o) x0 x1 hz0 hl0 hy0) gPowL ho ht (fun h => h.2 rfl) fun T hT m κ => ⟨_, _, rfl, CR.keep (Nat.le_refl _) (fun b hb _ => ⟨rfl, hT b hb⟩) (by simp) (CR.off gPowL ht (off_ins _) hcs0), _, _, rfl, ⟨rfl, rfl⟩, rfl⟩

set_option maxRecDepth 100000 in
theorem codeText_lifted (os : Os) (started : os.Started) (H : Type) (enc : TypeId × Value → H) :
    ReturnsInHanded {} Tryz.checked os 8 .any (fun w args => (Rows.fnExactCodeTextSpec.pre enc Tryz.prog Tryz.f8 [] false w args ∧ laidMetH Tryz.prog laidL w) ∧ sizedMet enc Tryz.prog Tryz.f8 (OpenSpec.ofChange Rows.fnExactCodeTextSpec) false w args)
      (Rows.fnExactCodeTextSpec.post enc Tryz.prog Tryz.f8 false true false false) := by
  refine returnsInHanded_of_change_and (C := Tryz.checked) (X := fun w _ => laidMetH Tryz.prog laidL w) (fun _ _ _ hh h => h.of_heap hh) Tryz.own started (by kernel_rfl) Tryz.func8
    (ChangeSpec.witness_shaped (enc := enc) (C := Tryz.checked) (os := os) (X := fun w _ => laidMetH Tryz.prog laidL w) false (laidWorldL os) #[.slice none 0 0, .int .i64 0] 8 rfl (World.shaped_of_RefB (by kernel_rfl) (by kernel_rfl)) (by kernel_rfl) (by kernel_rfl) (by kernel_rfl) (laidL_met os _)) ?_
  intro W base args ds gs before hval0 hW _ _ hL _
  have hval : ∀ (j : Nat) t v, Tryz.f8.params[j]? = some t → args[j]? = some v → Value.okWide Tryz.prog W .any base t v := hval0
  have hW' := hW
  obtain ⟨p, q, hA0, hV, rfl, hfz, hnd⟩ := hW
  have hA : DataW.TrodAll enc Tryz.prog W 0 (fun _ => true) true Tryz.f8.params.toList args.toList ds p := hA0
  rw [Tryz.params8] at hA hval
  obtain ⟨v0, v1, d0, d1, p0, p1, rfl, rfl, rfl, t0, t1⟩ := trodAll_two hA
  obtain ⟨rfl, rfl⟩ := trodVars_none hV
  obtain ⟨a0, len0, cap0, rfl⟩ := okWide_slice Tryz.underlying45 (hval 0 45 v0 rfl rfl)
  have k0 := t0
  obtain ⟨fuel0, hf0⟩ := t0
  obtain ⟨x1, rfl⟩ := okWide_int Tryz.underlying2 (hval 1 2 v1 rfl rfl)
  have k1 := t1
  obtain ⟨fuel1, hf1⟩ := t1
  clear hA0 hval0
  simp only [List.append_nil] at hW'
  have hlt : ∀ x ∈ p0 ++ p1, x.block < W.heap.size := fun x hx => by simpa using hW'.lt x hx
  have hargs0 : ∀ (W' : World), Below W.heap.size W W' → DataW.Trod enc Tryz.prog W' 0 (fun b => decide (b < W.heap.size)) true 45 (.slice a0 len0 cap0) d0 p0 :=
    fun W' hn => Below.trod Tryz.laidOut (by kernel_rfl) (of_decide_eq_true (by kernel_rfl)) k0 hn (fun x hx => hlt x (by simp [hx]))
  have hargs1 : ∀ (W' : World), Below W.heap.size W W' → DataW.Trod enc Tryz.prog W' 0 (fun b => decide (b < W.heap.size)) true 2 (.int .i64 x1) d1 p1 :=
    fun W' hn => Below.trod Tryz.laidOut (by kernel_rfl) (of_decide_eq_true (by kernel_rfl)) k1 hn (fun x hx => hlt x (by simp [hx]))
  obtain ⟨x0, rfl, hl0, hcap0, hz0, hy0, hcs0⟩ := open_inS Tryz.underlying45 Tryz.underlying104 (by kernel_rfl) (by kernel_rfl) rfl rfl rfl Tryz.underlying22 Tryz.underlying65 (by kernel_rfl) (by kernel_rfl) rfl rfl rfl rfl rfl Tryz.underlying2 Tryz.underlying9 hf0
  refine (lawCodeText_any x0 hz0 a0 cap0 hcap0 hy0 x1 W hl0 hcs0 (powL_of hL)).mono fun e W' ⟨he, hnx⟩ => ?_
  subst he
  exact ⟨_, rfl, _, _, _, [], p0 ++ p1, [], hW', trodAll_mk1 (shut_bool Tryz.underlying4 _), trodAll_mk2 (hargs0 _ hnx) (hargs1 _ hnx), rfl, hnx.frame _, fun h => by cases h⟩

theorem codeText_row : Rows.FnExactCodeTextSaid :=
  OpenClaim.holds_of_wide 8 Tryz.f8 rfl rfl rfl rfl rfl rfl rfl ⟨rfl, rfl, rfl, rfl, rfl⟩ rfl rfl rfl rfl rfl (by kernel_rfl) Tryz.func8 (by kernel_rfl)
    (of_decide_eq_true (by kernel_rfl)) (by unfold Func.isWrapper; first | (rw [if_pos (by decide +kernel)]; kernel_rfl) | (rw [if_neg (by decide +kernel)]; exact ⟨rfl, rfl⟩))
    (fun os started H enc _ => codeText_lifted os started H enc)
theorem codeText_holds : Rows.FnExactCodeTextCardSaid :=
  Claim7.holds_tied_plain_at .later [] [.data, .data, .data] true (true, "0a42c3da5b1647a12f53a52518a84bd6d09b8b7f096529e5ad6ce69f1112b870") true
    codeText_row (fun _ h => by cases h) (by kernel_rfl) (fun _ h => by cases h) fnExactCodeText_row_tie rfl ⟨rfl, rfl⟩ (by kernel_rfl) rfl
    (fun f fn hf hfn => by
      obtain rfl : f = 8 := Option.some.inj ((show Tryz.prog.funcNamed Rows.fnExactCodeTextRow.func = some 8 by kernel_rfl).symm.trans hf) |>.symm
      obtain rfl : fn = Tryz.f8 := (Option.some.inj (Tryz.func8.symm.trans hfn)).symm
      exact ⟨by kernel_rfl, fun j t ht => by
        rw [Tryz.params8] at ht
        have hm : t ∈ [45, 2] := by simpa using Array.mem_of_getElem? ht
        have hall : ([45, 2].all fun u => !Tryz.prog.wantsStandIn u) = true := by kernel_rfl
        exact (show Tryz.prog.wantsStandIn t = false by simpa using List.all_eq_true.1 hall t hm)⟩)
    (by kernel_rfl)
end Go.Proofs.YtfmnoljflcpbgaaGreatDoor
