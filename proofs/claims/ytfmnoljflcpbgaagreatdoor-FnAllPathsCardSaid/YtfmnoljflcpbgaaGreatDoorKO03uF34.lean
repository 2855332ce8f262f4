/- Texts of this proof: O03 O06 O10 F34. -/
import Derived.Test.YtfmnoljflcpbgaaGreatDoorKF00uO02
import Derived.Test.YtfmnoljflcpbgaaGreatDoorKG06uG07
import Derived.Deep.Slices
import Derived.Test.YtfmnoljflcpbgaaGreatDoorKM3uM28
import Derived.Test.YtfmnoljflcpbgaaGreatDoorKH03uO01
set_option linter.unusedSimpArgs false
set_option linter.unusedVariables false
set_option linter.unnecessarySimpa false
namespace Go.Proofs.YtfmnoljflcpbgaaGreatDoor
open Go.ChangeShapes Go.WideShapes Go.ChangeAt Go.RowKit Go.Deep
section
variable {H : Type} {enc : TypeId × Value → H} {P : Program} {w : World} {base : Nat} {spare : Nat → Bool} {held : Bool}
theorem crss_ones {α : Type} {S : Nat → Prop} (f : α → C) : ∀ (l : List (α × Value)), (∀ y ∈ l, CR w S (f y.1) y.2 []) → CRss w S (l.map fun y => [f y.1]) (l.map fun y => [y.2]) []
  | [], _ => ⟨rfl, rfl⟩
  | y :: l, h => ⟨[y.2], _, [], [], rfl, rfl, ⟨y.2, [], [], [], rfl, rfl, h y (by simp), rfl, rfl⟩, crss_ones f l fun z hz => h z (by simp [hz])⟩
theorem open_ones {α : Type} {p : α → Prop} {f : α → C} {t e : TypeId} {fuel len cap : Nat} {A : Option Addr} {x : DataW H × List MemPlace} (ht : P.underlying t = some (.slice e)) (hC : P.cellsOf e = 1)
    (hel : ∀ (n : Nat) (v : Value) (y : DataW H × List MemPlace), DataW.trod enc P w base spare held n e [v] = some y → ∃ a : α, p a ∧ CR w (fun b => b < w.heap.size) (f a) v [])
    (h : DataW.trod enc P w base spare held fuel t [.slice A len cap] = some x) :
    ∃ l : List α, l.length = len ∧ len ≤ 9223372036854775807 ∧ len ≤ cap ∧ (∀ a ∈ l, p a) ∧ CR w (fun b => b < w.heap.size) (.sl (l.map fun a => [f a])) (.slice A len cap) [] := by
  rcases open_slice1 ht hC h with ⟨hcs, _⟩ | ⟨a, len', cap', m, n, V, D, Pl, hcs, _, hl, hm, hmm, _, hi⟩
  · simp only [List.cons.injEq, Value.slice.injEq, and_true] at hcs
    obtain ⟨rfl, rfl, rfl⟩ := hcs
    exact ⟨[], rfl, by omega, by omega, by simp, 0, none, 0, [], rfl, Nat.le_refl _, trivial, Row.nil, ⟨rfl, rfl⟩, rfl⟩
  · simp only [List.cons.injEq, Value.slice.injEq, and_true] at hcs
    obtain ⟨rfl, rfl, rfl⟩ := hcs
    have hlm : len ≤ m := by rw [hmm]; split <;> omega
    have hmx : maxLen = 9223372036854775807 := rfl
    obtain ⟨l, hll, hx⟩ := list_of (p := fun i (y : α × Value) => p y.1 ∧ CR w (fun b => b < w.heap.size) (f y.1) y.2 [] ∧ w.cell? (a.add i) = some y.2) len (fun i hil => by
      obtain ⟨c0, t0⟩ := hi i (by omega)
      obtain ⟨b, h1, h2⟩ := hel _ _ _ t0
      exact ⟨(b, V i), h1, h2, c0⟩)
    have hmem : ∀ y ∈ l, p y.1 ∧ CR w (fun b => b < w.heap.size) (f y.1) y.2 [] := fun y hy => by
      obtain ⟨i, hi', rfl⟩ := List.getElem_of_mem hy
      exact ⟨(hx i hi').1, (hx i hi').2.1⟩
    refine ⟨l.map (·.1), by simp [hll], by omega, hl, fun b hb => ?_, 1, some a, cap, l.map fun y => [y.2], by simp [hll], by simp [hll]; exact hl, trivial, ⟨fun x hx' => ?_, fun hn => ?_⟩, ?_, rfl⟩
    · simp only [List.mem_map] at hb
      obtain ⟨y, hy, rfl⟩ := hb
      exact (hmem y hy).1
    · simp only [List.mem_map] at hx'
      obtain ⟨y, _, rfl⟩ := hx'
      rfl
    · simp only [List.length_map] at hn
      have hfirst := (hx 0 hn).2.2
      have hadd0 : a.add 0 = a := by unfold Addr.add; simp
      rw [hadd0] at hfirst
      obtain ⟨ab, ao, asp⟩ := a
      have hsp : asp = none := by
        unfold World.cell? at hfirst
        simp only at hfirst
        split at hfirst
        · split at hfirst
          · simp at hfirst
          · rename_i hns; simpa using hns
        · simp at hfirst
      subst hsp
      refine ⟨ab, ao, rfl, World.block_lt_of_cell? w _ hfirst, World.block_lt_of_cell? w _ hfirst, fun i x hxi j u hu => ?_⟩
      simp only [List.getElem?_map] at hxi
      by_cases hil : i < l.length
      · rw [List.getElem?_eq_getElem hil] at hxi
        simp only [Option.map_some, Option.some.injEq] at hxi
        subst hxi
        have hj : j = 0 := by
          match j with
          | 0 => rfl
          | j + 1 => simp at hu
        subst hj
        simp only [List.getElem?_cons_zero, Option.some.injEq] at hu
        subst hu
        have := (hx i hil).2.2
        have hadd : (⟨ab, ao, none⟩ : Addr).add i = ⟨ab, ao + i * 1 + 0, none⟩ := by
          unfold Addr.add
          split
          · rename_i h0
            have hi0 : i = 0 := by omega
            subst hi0
            simp
          · simp
        rw [hadd] at this
        exact this
      · rw [List.getElem?_eq_none (by omega)] at hxi
        simp at hxi
    · rw [List.map_map]
      exact crss_ones f l fun y hy => (hmem y hy).2
theorem open_cellSS {t tc e tI tS : TypeId} {n0 n1 n2 n3 n4 : Field} {fuel len cap : Nat} {A : Option Addr} {x : DataW H × List MemPlace} (ht : P.underlying t = some (.slice tc)) (htc : P.underlying tc = some (.slice e)) (hC1 : P.cellsOf tc = 1) (he : P.underlying e = some (.struct #[n0, n1, n2, n3, n4]))
    (hone : oneCellFields P #[n0, n1, n2, n3, n4] = true) (hC : P.cellsOf e = 5) (h0 : n0.type = tI) (h1 : n1.type = tI) (h2 : n2.type = tS) (h3 : n3.type = tS) (h4 : n4.type = tI)
    (hI : P.underlying tI = some (.int .i64)) (hS : P.underlying tS = some .string)
    (h : DataW.trod enc P w base spare held fuel t [.slice A len cap] = some x) :
    ∃ l : List (List CellD), l.length = len ∧ len ≤ 9223372036854775807 ∧ len ≤ cap ∧ (∀ x ∈ l, Sized x) ∧ (∀ x ∈ l, x.length ≤ 9223372036854775807) ∧ CR w (fun b => b < w.heap.size) (.sl (l.map encCs)) (.slice A len cap) [] := by
  obtain ⟨l, g1, g2, g3, g4, g5⟩ := open_ones (α := List CellD) (p := fun xs => Sized xs ∧ xs.length ≤ 9223372036854775807) (f := fun xs => .sl (xs.map CellD.cs)) ht hC1 (fun n v y hy => by
    obtain ⟨A', c, xs, rfl, p1, p2, p3, p4⟩ := open_cellV htc he hone hC h0 h1 h2 h3 h4 hI hS hy
    exact ⟨xs, ⟨p3, p1⟩, cr_cells.2 ⟨A', c, rfl, p2, p4⟩⟩) h
  exact ⟨l, g1, g2, g3, fun x hx => (g4 x hx).1, fun x hx => (g4 x hx).2, g5⟩
end
end Go.Proofs.YtfmnoljflcpbgaaGreatDoor

/- An argument that is bytes, opened. -/
namespace Go.Proofs.YtfmnoljflcpbgaaGreatDoor
open Go.ChangeShapes Go.WideShapes Go.ChangeAt Go.RowKit Go.Deep
theorem open_bytes {H : Type} {enc : TypeId × Value → H} {P : Program} {w : World} {base : Nat} {spare : Nat → Bool} {held : Bool} {t e : TypeId} {fuel len cap : Nat} {A : Option Addr} {x : DataW H × List MemPlace} (ht : P.underlying t = some (.slice e)) (he : P.underlying e = some (.int .u8)) (hC : P.cellsOf e = 1)
    (h : DataW.trod enc P w base spare held fuel t [.slice A len cap] = some x) :
    ∃ bs : List Nat, bs.length = len ∧ len ≤ 9223372036854775807 ∧ len ≤ cap ∧ (∀ b ∈ bs, b < 256) ∧ CR w (fun b => b < w.heap.size) (.sl (bs.map byteCs)) (.slice A len cap) [] := by
  refine open_ones (α := Nat) (p := fun b => b < 256) (f := fun b => .int .u8 (b : Int)) ht hC (fun n v y hy => ?_) h
  obtain ⟨k, h1, _, h2⟩ := DataW.trod_int he hy
  simp only [List.cons.injEq, and_true] at h1
  subst h1
  simp only [Lit.wf, Bool.and_eq_true, decide_eq_true_eq] at h2
  have h3 : (0 : Int) ≤ k := h2.1
  have h4 : k ≤ 255 := h2.2
  exact ⟨k.toNat, by omega, by rw [show ((k.toNat : Nat) : Int) = k by omega], rfl⟩
end Go.Proofs.YtfmnoljflcpbgaaGreatDoor

/- Bytes do not lie where a table lies. -/
namespace Go.Proofs.YtfmnoljflcpbgaaGreatDoor
open Go.RowKit
theorem off_bytes : ∀ l : List Nat, (C.sl (l.map byteCs)).offT = true
  | [] => rfl
  | b :: l => by
    have h := off_bytes l
    simp only [C.offT] at h
    simp only [C.offT, List.map_cons, offTss, h, byteCs, offTs]
    rfl
end Go.Proofs.YtfmnoljflcpbgaaGreatDoor

/- laws.FnAllPaths answers true, at every argument, and its argument reads as it did. -/
namespace Go.Proofs.YtfmnoljflcpbgaaGreatDoor
open Go.ChangeShapes Go.WideShapes Go.ChangeAt Go.RowKit Go.Deep

theorem lawAllPaths_any (bs : List Nat) (hbb : ∀ b ∈ bs, b < 256) (A : Option Addr) (cap : Nat) (w : World) (hcs : CR w (fun b => b < w.heap.size) (.sl (bs.map byteCs)) (.slice A bs.length cap) []) (ht : Lib.TabIs Tryz.prog w "internal/strconv.uint64pow10" .u64 Lib.pow10Tab) :
    Calls Tryz.prog 9 #[.slice A bs.length cap] w fun e w' => e = .returned (.bool true) ∧ Below w.heap.size w w' := by
  obtain ⟨o, ho⟩ := pow_block ht
  exact AC.calls_tab (S := fun b => b < w.heap.size ∧ b ≠ 0) (lawAllPaths_ac (o := o) bs hbb) gPowL ho ht (fun h => h.2 rfl) fun T hT m κ => ⟨_, _, rfl, CR.keep (Nat.le_refl _) (fun b hb _ => ⟨rfl, hT b hb⟩) (by simp) (CR.off gPowL ht (off_bytes _) hcs), rfl⟩

set_option maxRecDepth 100000 in
theorem allPaths_lifted (os : Os) (started : os.Started) (H : Type) (enc : TypeId × Value → H) :
    ReturnsInHanded {} Tryz.checked os 9 .any (fun w args => (Rows.fnAllPathsSpec.pre enc Tryz.prog Tryz.f9 [] false w args ∧ laidMetH Tryz.prog laidL w) ∧ sizedMet enc Tryz.prog Tryz.f9 (OpenSpec.ofChange Rows.fnAllPathsSpec) false w args)
      (Rows.fnAllPathsSpec.post enc Tryz.prog Tryz.f9 false true false false) := by
  refine returnsInHanded_of_change_and (C := Tryz.checked) (X := fun w _ => laidMetH Tryz.prog laidL w) (fun _ _ _ hh h => h.of_heap hh) Tryz.own started (by kernel_rfl) Tryz.func9
    (ChangeSpec.witness_shaped (enc := enc) (C := Tryz.checked) (os := os) (X := fun w _ => laidMetH Tryz.prog laidL w) false (laidWorldL os) #[.slice none 0 0] 8 rfl (World.shaped_of_RefB (by kernel_rfl) (by kernel_rfl)) (by kernel_rfl) (by kernel_rfl) (by kernel_rfl) (laidL_met os _)) ?_
  intro W base args ds gs before hval0 hW _ _ hL _
  have hval : ∀ (j : Nat) t v, Tryz.f9.params[j]? = some t → args[j]? = some v → Value.okWide Tryz.prog W .any base t v := hval0
  have hW' := hW
  obtain ⟨p, q, hA0, hV, rfl, hfz, hnd⟩ := hW
  have hA : DataW.TrodAll enc Tryz.prog W 0 (fun _ => true) true Tryz.f9.params.toList args.toList ds p := hA0
  rw [Tryz.params9] at hA hval
  obtain ⟨v0, d0, rfl, rfl, t0⟩ := trodAll_one hA
  obtain ⟨rfl, rfl⟩ := trodVars_none hV
  obtain ⟨a0, len0, cap0, rfl⟩ := okWide_slice Tryz.underlying52 (hval 0 52 v0 rfl rfl)
  have k0 := t0
  obtain ⟨fuel0, hf0⟩ := t0
  clear hA0 hval0
  simp only [List.append_nil] at hW'
  have hlt : ∀ x ∈ p, x.block < W.heap.size := fun x hx => by simpa using hW'.lt x hx
  have hargs0 : ∀ (W' : World), Below W.heap.size W W' → DataW.Trod enc Tryz.prog W' 0 (fun b => decide (b < W.heap.size)) true 52 (.slice a0 len0 cap0) d0 p :=
    fun W' hn => Below.trod Tryz.laidOut (by kernel_rfl) (of_decide_eq_true (by kernel_rfl)) k0 hn hlt
  obtain ⟨bs, rfl, hl0, hcap0, hbb, hcs⟩ := open_bytes Tryz.underlying52 Tryz.underlying5 (by kernel_rfl) hf0
  refine (lawAllPaths_any bs hbb a0 cap0 W hcs (powL_of hL)).mono fun e W' ⟨he, hnx⟩ => ?_
  subst he
  exact ⟨_, rfl, _, _, _, [], p, [], hW', trodAll_mk1 (shut_bool Tryz.underlying4 _), trodAll_mk1 (hargs0 _ hnx), rfl, hnx.frame _, fun h => by cases h⟩

theorem allPaths_row : Rows.FnAllPathsSaid :=
  OpenClaim.holds_of_wide 9 Tryz.f9 rfl rfl rfl rfl rfl rfl rfl ⟨rfl, rfl, rfl, rfl, rfl⟩ rfl rfl rfl rfl rfl (by kernel_rfl) Tryz.func9 (by kernel_rfl)
    (of_decide_eq_true (by kernel_rfl)) (by unfold Func.isWrapper; first | (rw [if_pos (by decide +kernel)]; kernel_rfl) | (rw [if_neg (by decide +kernel)]; exact ⟨rfl, rfl⟩))
    (fun os started H enc _ => allPaths_lifted os started H enc)
theorem allPaths_holds : Rows.FnAllPathsCardSaid :=
  Claim7.holds_tied_plain_at .later [] [.data, .data, .data] true (true, "0a42c3da5b1647a12f53a52518a84bd6d09b8b7f096529e5ad6ce69f1112b870") true
    allPaths_row (fun _ h => by cases h) (by kernel_rfl) (fun _ h => by cases h) fnAllPaths_row_tie rfl ⟨rfl, rfl⟩ (by kernel_rfl) rfl
    (fun f fn hf hfn => by
      obtain rfl : f = 9 := Option.some.inj ((show Tryz.prog.funcNamed Rows.fnAllPathsRow.func = some 9 by kernel_rfl).symm.trans hf) |>.symm
      obtain rfl : fn = Tryz.f9 := (Option.some.inj (Tryz.func9.symm.trans hfn)).symm
      exact ⟨by kernel_rfl, fun j t ht => by
        rw [Tryz.params9] at ht
        have hm : t ∈ [52] := by simpa using Array.mem_of_getElem? ht
        have hall : ([52].all fun u => !Tryz.prog.wantsStandIn u) = true := by kernel_rfl
        exact (show Tryz.prog.wantsStandIn t = false by simpa using List.all_eq_true.1 hall t hm)⟩)
    (by kernel_rfl)
end Go.Proofs.YtfmnoljflcpbgaaGreatDoor
