/- spec.l1End, l1Children, l1Part, l1Parts. -/
import Derived.Test.YtfmkejgdooammaaB04
import Derived.Test.YtfmkejgdooammaaA05
import Derived.Test.YtfmkejgdooammaaM05
namespace Go.Proofs.Ytfmkejgdooammaa
open Go.RowKit

theorem info_int64 : (Try.prog.info? 2).map (fun i => (i.zero, i.size, i.bytes)) = some (some (.int .i64 0), 1, 8) := by kernel_rfl
theorem info_cell : (Try.prog.info? 47).map (fun i => (i.zero, i.size, i.bytes)) = some (some (.agg #[.int .i64 0, .int .i64 0, .string ⟨#[]⟩, .string ⟨#[]⟩, .int .i64 0]), 5, 56) := by kernel_rfl
theorem info_cells : (Try.prog.info? 25).map (fun i => (i.zero, i.size, i.bytes)) = some (some (.slice none 0 0), 1, 24) := by kernel_rfl

set_option maxHeartbeats 400000 in
theorem l1End_any (xs : List CellD) (hx : xs.length ≤ 200) (hn : ∀ c ∈ xs, c.n ≤ 200) (a : Int) (ha0 : 0 ≤ a) (ha : a ≤ 201) (A : Option Addr) (cap : Nat) (S : Nat → Prop) (w : World) (hcs : Cells w S A xs) :
    Calls Try.prog 72 #[.slice A xs.length cap, .int .i64 a] w fun e w' => e = .returned (.int .i64 (endOf xs.length (parseV xs.length (xs.drop a.toNat)))) ∧ Below w.heap.size w w' := by
  have H := Lib.hid (l1Shape_any xs hx hn xs.length a 0 A cap S w (by omega) (by omega) ha0 ha hcs)
  clear hn hcs
  go_enter Try.func72, Try.ntmps72
  go_wp2_with (go_at_call 42; refine H.out.mono ?_; rintro e w1 ⟨rfl, hb1⟩)
  go_ret
  exact ⟨rfl, hb1⟩

def kposL (t : V) (k : Nat) : List Int := (List.range k).map fun i => ((kp t.kids i : Nat) : Int)
theorem kposL_succ (t : V) (k : Nat) : kposL t (k + 1) = kposL t k ++ [((kp t.kids k : Nat) : Int)] := by simp [kposL, List.range_succ]
theorem kposL_len (t : V) (k : Nat) : (kposL t k).length = k := by simp [kposL]

set_option maxRecDepth 100000 in
set_option maxHeartbeats 2000000 in
theorem l1Children_any (t : V) (hw : t.wf) (hc : t.count ≤ 200) (A : Option Addr) (cap : Nat) (S : Nat → Prop) (w : World) (hcs : Cells w S A t.enc) :
    Calls Try.prog 62 #[.slice A t.enc.length cap, .int .i64 0] w fun e w' => (∃ A' c', e = .returned (.slice A' t.kids.length c') ∧ RowOf RI 1 w' (fun b => w.heap.size ≤ b) A' (kposL t t.kids.length)) ∧ Below w.heap.size w w' := by
  have hpos := count_pos t
  have hlen := enc_len t
  have hkl := kids_len_le hc
  have HC := Lib.hid hcs
  have HE : Hid (∀ i (h : i < t.kids.length) (W : World), Cells W S A t.enc → Calls Try.prog 72 #[.slice A t.enc.length cap, .int .i64 ((kp t.kids i : Nat) : Int)] W fun e w' => e = .returned (.int .i64 ((kp t.kids (i + 1) : Nat) : Int)) ∧ Below W.heap.size W w') := by
    intro i hi W hW
    have := kp_le t i
    have := l1End_any t.enc (by omega) (enc_n hw) (kp t.kids i : Nat) (by omega) (by omega) A cap S W hW
    rw [Int.toNat_natCast, end_kid hw hi (by omega)] at this
    exact this
  have Hw := Lib.hid hw
  have h0 := hcs.at_ (k := 0) (by omega)
  obtain ⟨b, off, rfl, hS, hl, -⟩ := h0
  have Hlen := Lib.hid hlen
  have hl1 : t.enc.length ≤ 200 := by omega
  have hl0 : 0 < t.enc.length := by omega
  clear hcs hw hlen
  go_enter Try.func62, Try.ntmps62
  go_wp2
  go_loopw [5, 6, 7] (fun ov nx ki wr => ∃ k : Nat, ki = .int .i64 k ∧ k ≤ t.kids.length ∧ nx = .int .i64 (kp t.kids k : Nat) ∧ OwnOf RI 1 2 wr (fun b => w.heap.size ≤ b) w.heap.size ov (kposL t k) ∧ Below w.heap.size w wr) (fun _ _ ki _ => t.kids.length - (intOf ki).toNat)
  case atStart =>
    refine ⟨0, rfl, Nat.zero_le _, by simp [kp, countL], ?_, (Below.refl _ _).alloc (Nat.le_refl _) _⟩
    exact OwnOf.made _ rfl (Nat.le_refl _)
  case round =>
    obtain ⟨k, rfl, hk, rfl, hown, hb⟩ := hrel
    have Hb := Lib.hid hb
    have HO := Lib.hid hown
    obtain ⟨b1, off1, hA1, _, _, _, _, _, _, c4⟩ := (HC.out.below hb).at_ hl0
    simp only [Option.some.injEq, Addr.mk.injEq, and_true] at hA1
    obtain ⟨rfl, rfl⟩ := hA1
    rw [enc_zero t hl0] at c4
    simp only [Nat.zero_mul, Nat.add_zero] at c4
    have hle := kp_le t k
    have hsz := hb.size
    obtain ⟨Ao, co, rfl, hco⟩ := hown.form' (kposL_len t k)
    clear hb hown
    by_cases hlt : k < t.kids.length
    · have HE1 := Lib.hid (HE.out k hlt)
      have HR := Lib.hid (HC.out.below Hb.out)
      go_wp2_with (first
        | (at_builtin; refine wpList_append_of rfl _ _ 95 rfl Try.underlying95 info_int64 rfl (by decide) (by decide) okI HO.out rfl Hb.out.size ((kp t.kids k : Nat) : Int) [.int .i64 ((kp t.kids k : Nat) : Int)] rfl rfl rfl (kposL_len t k) (by omega) ?_; intro v' w2 hown2 hg2 hex2; obtain ⟨g2, cap2, rfl, _, _, _⟩ := hex2; have hb2 := hg2.below Hb.out Hb.out.size (fun b hb => (HO.out.lt b hb).1); have Hb2 := Lib.hid hb2; have HO2 := Lib.hid hown2; have HR2 := Lib.hid (HC.out.below hb2); clear hb2 hown2 hg2)
        | (go_at_call 72; refine (HE1.out _ HR2.out).mono ?_; rintro e w1 ⟨rfl, hb1⟩))
      all_goals go_roundw
      case rel => exact ⟨k + 1, by go_num, by omega, rfl, by rw [kposL_succ]; exact OwnOf.below okI HO2.out hb1, Hb2.out.trans (hb1.mono Hb2.out.size)⟩
      case measure => simp [intOf]; omega
    · have hke : k = t.kids.length := by omega
      have Hke := Lib.hid hke
      clear hke
      go_wp2
      go_ret
      refine ⟨⟨Ao, co, ?_, ?_⟩, Hb.out⟩
      · rw [← Hke.out]
        rfl
      · rw [← Hke.out]
        exact OwnOf.row' okI (by omega) HO.out (kposL_len t k) (fun b h _ => h) (fun b h _ => h)

/-- The key of the first cell is turned. -/
theorem own_rekey (key' : ByteArray) {e : TypeId} {w : World} {E : Nat → Prop} {base g c : Nat} {t : V} {key : ByteArray} (h : OwnOf RC 5 e w E base (.slice (some ⟨g, 0, none⟩) (t.cells key).length c) (t.cells key)) :
    OwnOf RC 5 e (w.setCell ⟨g, 3, none⟩ (.string key')) E base (.slice (some ⟨g, 0, none⟩) (t.cells key).length c) (t.cells key') ∧ w.cell? ⟨g, 3, none⟩ = some (.string key) ∧ w.frozen? ⟨g, 3, none⟩ = false := by
  obtain ⟨rows, h1, h2, h3, h4⟩ := h
  have hrows : rows = (t.cells key).map vals := by
    apply List.ext_getElem?
    intro i
    by_cases hi : i < (t.cells key).length
    · have he : rows[i]? = some (rows[i]'(by omega)) := List.getElem?_eq_getElem (by omega)
      rw [he, h4 i hi _ he]
      simp [hi]
    · rw [List.getElem?_eq_none (by omega), List.getElem?_eq_none (by simp; omega)]
  subst hrows
  have hl : (t.cells key).length = (t.cells key').length := by rw [cells_len, cells_len]
  have hpos : 0 < (t.cells key).length := by rw [cells_len]; exact count_pos t
  refine ⟨⟨(t.cells key').map vals, by simp, by simp [vals], ?_, fun i hi row hr => by simp [hi] at hr; exact hr.symm⟩, ?_, h3.frozenAt 3⟩
  · have := h3.stored 3 (.string key')
    rw [hl] at this ⊢
    have he : ((t.cells key).map vals).flatten.set 3 (.string key') = ((t.cells key').map vals).flatten := by
      rw [cells_head, cells_head]
      simp [vals]
    rw [← he]
    exact this.1
  · rw [h3.cellAt 3 (by omega), cells_head]
    simp [vals]

set_option maxRecDepth 100000 in
set_option maxHeartbeats 2000000 in
theorem l1Part_any (t : V) (hw : t.wf) (hc : t.count ≤ 200) (i : Nat) (hi : i < t.kids.length) (A : Option Addr) (cap : Nat) (hcap : t.enc.length ≤ cap) (S : Nat → Prop) (w : World) (hcs : Cells w S A t.enc) :
    Calls Try.prog 63 #[.slice A t.enc.length cap, .int .i64 ((kp t.kids i : Nat) : Int)] w fun e w' => (∃ A' c', e = .returned (.slice A' t.kids[i].enc.length c') ∧ t.kids[i].enc.length ≤ c' ∧ Cells w' (fun b => w.heap.size ≤ b) A' t.kids[i].enc) ∧ Below w.heap.size w w' := by
  have hpos := count_pos t
  have hlen := enc_len t
  have HC := Lib.hid hcs
  have HE : Hid (∀ (W : World), Cells W S A t.enc → Calls Try.prog 72 #[.slice A t.enc.length cap, .int .i64 ((kp t.kids i : Nat) : Int)] W fun e w' => e = .returned (.int .i64 ((kp t.kids (i + 1) : Nat) : Int)) ∧ Below W.heap.size W w') := by
    intro W hW
    have := kp_le t i
    have := l1End_any t.enc (by omega) (enc_n hw) (kp t.kids i : Nat) (by omega) (by omega) A cap S W hW
    rw [Int.toNat_natCast, end_kid hw hi (by omega)] at this
    exact this
  have h0 := hcs.at_ (k := 0) (by omega)
  obtain ⟨b, off, rfl, hS, hl, -⟩ := h0
  have hsucc := kp_succ t.kids hi
  have hkp1 := kp_le t (i + 1)
  have hcp := count_pos t.kids[i]
  have Hm : Hid (kp t.kids (i + 1) - kp t.kids i = (t.kids[i].cells (t.keyAt i)).length) := by
    show _ = _
    rw [cells_len]; omega
  have hcpos : 0 < (t.kids[i].cells (t.keyAt i)).length := by rw [cells_len]; exact hcp
  have hys : ([] : List CellD).length + (t.kids[i].cells (t.keyAt i)).length ≤ 1000000 := by rw [cells_len]; simp; omega
  have Hlen := Lib.hid hlen
  have hl2 : kp t.kids (i + 1) ≤ t.enc.length := by omega
  have Hsucc := Lib.hid hsucc
  have hlt : kp t.kids i < kp t.kids (i + 1) := by omega
  have hltc : kp t.kids i < cap := by omega
  clear hcs hw hlen hsucc
  go_enter Try.func63, Try.ntmps63
  have HRow : Hid (∀ W : World, Below w.heap.size w W → RowOf RC 5 W (fun b => b < w.heap.size) (some ⟨b, off + kp t.kids i * 5, none⟩) (t.kids[i].cells (t.keyAt i))) := by
    intro W hW
    rw [← cells_slice hi]
    exact (RowOf.below okC ((row_of_cells HC.out).weaken okC fun b _ hl => hl) hW).sub _ _
  go_wp2_with (first
    | (go_at_call 72; refine (HE.out _ (HC.out.keep (Same.alloc _ _ _))).mono ?_; rintro e w1 ⟨rfl, hb1⟩; have Hb1 := Lib.hid hb1; clear hb1)
    | (at_builtin; (refine wpList_append_many rfl _ _ 25 rfl Try.underlying25 info_cell rfl (by decide) (by decide) okC (E := fun b => w.heap.size ≤ b) (S := fun b => b < w.heap.size) (xs := []) (base := w.heap.size) (OwnOf.below okC (OwnOf.made #[] rfl (Nat.le_refl _)) Hb1.out) rfl (by have := Hb1.out.size; simp at this; omega) rfl (ys := t.kids[i].cells (t.keyAt i)) Hm.out (HRow.out _ (((Below.refl _ _).alloc (Nat.le_refl _) _).trans (Hb1.out.mono (by simp)))) (by simp) (by simp) (.inr fun _ _ _ _ _ h => h) hys ?_); intro v' w2 hown2 (hg2 : Grew w1 w2 (.slice (some ⟨w.heap.size, 0, none⟩) 0 0) v'); rw [List.nil_append] at hown2; obtain ⟨g2, cap2, rfl, hc2, hg0, hgl⟩ := hown2.formPos hcpos; obtain ⟨hU, hu3, hu4⟩ := own_rekey ByteArray.empty hown2; have HU := Lib.hid hU; have Hbw := Lib.hid (hg2.below (((Below.refl w.heap.size w).alloc (Nat.le_refl _) _).trans (Hb1.out.mono (by simp))) (by have := Hb1.out.size; simp at this; omega) (by simp [Value.ownBlock])); clear hU hown2 hg2))
  go_ret
  have hl : (t.kids[i].cells (t.keyAt i)).length = t.kids[i].enc.length := by rw [cells_len, enc_len]
  have hU := HU.out
  rw [hl] at hU
  refine ⟨⟨some ⟨g2, 0, none⟩, cap2, ?_, by omega, cells_of_row (OwnOf.row okC (by omega) hU (fun b h _ => h) (fun b h _ => h))⟩, Hbw.out.setCell hg0 _⟩
  exact congrArg (fun n => Ending.returned (.slice (some ⟨g2, 0, none⟩) n cap2)) hl
end Go.Proofs.Ytfmkejgdooammaa
