/- (*strings.Replacer).Replace, the first time, and encodeString, by hand. -/
import Derived.Test.YtfmnoljflcpbgaaGreatDoorKR06
set_option linter.unusedSimpArgs false
set_option linter.unusedVariables false
set_option linter.unnecessarySimpa false
namespace Go.Proofs.YtfmnoljflcpbgaaGreatDoor
open Go.RowKit
/-- The method that an interface value of a built replacer has. -/
theorem method_is (fuel : Nat) (p : Option Addr) (W : World) : (method (fuel + 1) 271 (.pointer p) "Replace").run Tryz.prog W = .ok (276, .pointer p) W := by
  obtain ⟨i, hi, hi2⟩ := Option.map_eq_some_iff.1 (show (Tryz.prog.info? 271).map (fun i => (i.methods.find? (·.name == "Replace")).map fun m => (m.path.toList.length, m.func)) = some (some (0, some (276, true))) by kernel_rfl)
  obtain ⟨m, hm, hm2⟩ := Option.map_eq_some_iff.1 hi2
  simp only [Prod.mk.injEq, List.length_eq_zero_iff] at hm2
  have hu := Tryz.underlying271
  simp [method, typeInfo, hi, hm, hm2.1, hm2.2, follow, receiverAt, run_underlying hu, Place.get]
set_option maxRecDepth 100000 in
set_option maxHeartbeats 3200000 in
theorem replace_walk (b g c : Nat) (s : ByteArray) (hs : s.size ≤ 1000000) (w : World) (x3 : Value) (hbl : b < w.heap.size)
    (h0 : w.cell? ⟨b, 0, none⟩ = some (.int .u32 0)) (h1 : w.cell? ⟨b, 1, none⟩ = some (.int .i32 0)) (f0 : w.frozen? ⟨b, 0, none⟩ = false) (f1 : w.frozen? ⟨b, 1, none⟩ = false)
    (hb3 : w.cell? ⟨b, 3, none⟩ = some x3) (f3 : w.frozen? ⟨b, 3, none⟩ = false) (hb4 : w.cell? ⟨b, 4, none⟩ = some (.slice (some ⟨g, 0, none⟩) 4 c)) (f4 : w.frozen? ⟨b, 4, none⟩ = false)
    (hg : g < w.heap.size) (hgb : g ≠ b) (s0 : w.cell? ⟨g, 0, none⟩ = some (.string ⟨#[34]⟩)) (s1 : w.cell? ⟨g, 1, none⟩ = some (.string ⟨#[92, 34]⟩)) (s2 : w.cell? ⟨g, 2, none⟩ = some (.string ⟨#[92]⟩)) (s3 : w.cell? ⟨g, 3, none⟩ = some (.string ⟨#[92, 92]⟩)) :
    Calls Tryz.prog 154 #[.pointer (some ⟨b, 0, none⟩), .string s] w fun x w' => x = .returned (.string ⟨(escL s.data.toList).toArray⟩) ∧ Below b w w' := by
  have hmf : ∀ (fn : Fn) (first cap : Array Value) (w : World), (Instr.makeFunc fn first cap).run Tryz.prog w = .ok (.func fn first cap) w := fun _ _ _ _ => rfl
  have hbo := buildOnce_walk b g c (w.setCell ⟨b, 1, none⟩ (.int .i32 1)) x3 (by simpa [World.setCell] using hbl) ((World.cell?_setCell_other _ ⟨b, 1, none⟩ ⟨b, 3, none⟩ _ (by simp)).trans hb3) (by simp [f3]) ((World.cell?_setCell_other _ ⟨b, 1, none⟩ ⟨b, 4, none⟩ _ (by simp)).trans hb4) (by simp [f4]) (by simpa [World.setCell] using hg)
    ((World.cell?_setCell_other _ ⟨b, 1, none⟩ ⟨g, 0, none⟩ _ (by simp [Ne.symm hgb])).trans s0) ((World.cell?_setCell_other _ ⟨b, 1, none⟩ ⟨g, 1, none⟩ _ (by simp [Ne.symm hgb])).trans s1) ((World.cell?_setCell_other _ ⟨b, 1, none⟩ ⟨g, 2, none⟩ _ (by simp [Ne.symm hgb])).trans s2) ((World.cell?_setCell_other _ ⟨b, 1, none⟩ ⟨g, 3, none⟩ _ (by simp [Ne.symm hgb])).trans s3)
  have hdo := once_do b (.pointer (some ⟨b, 0, none⟩)) w _ h0 h1 f0 f1 hbo
  clear hbo
  go_enter Tryz.func154, Tryz.ntmps154
  have hme := fun fuel p W => method_is fuel p W
  go_wp2_with (go_at_call 191; refine hdo.mono ?_; rintro e w2 ⟨rfl, w1, hk, ⟨hbw, hsz, hc3, hB⟩, rfl⟩)
  have hms : b < (w.setCell ⟨b, 1, none⟩ (.int .i32 1)).heap.size := by simpa [World.setCell] using hbl
  have hB2 := ((hB.setCell (p := ⟨b, 0, none⟩) hms (.int .u32 1)).setCell (p := ⟨b, 1, none⟩) hms (.int .i32 0)).drew
  rw [show (w.setCell ⟨b, 1, none⟩ (.int .i32 1)).heap.size = w.heap.size by simp [World.setCell]] at hB2
  obtain ⟨n, e, ce, e', ce', HC⟩ := hB2.cells
  have hlow : Below b w (((w1.setCell ⟨b, 0, none⟩ (.int .u32 1)).setCell ⟨b, 1, none⟩ (.int .i32 0)).drew) :=
    ((((Below.refl b w).setCell (p := ⟨b, 1, none⟩) (Nat.le_refl _) _).trans hbw).setCell (p := ⟨b, 0, none⟩) (Nat.le_refl _) _ |>.setCell (p := ⟨b, 1, none⟩) (Nat.le_refl _) _).drew
  have hbsz : b ≤ (((w1.setCell ⟨b, 0, none⟩ (.int .u32 1)).setCell ⟨b, 1, none⟩ (.int .i32 0)).drew).heap.size := Nat.le_trans (Nat.le_of_lt hbl) hlow.size
  go_wp2_with (go_at_call 276; refine (bsrReplace_walk _ n e ce e' ce' s _ HC hs).mono ?_; rintro q w3 ⟨rfl, hb3⟩)
  go_ret
  exact ⟨rfl, hlow.trans (hb3.mono hbsz)⟩
end Go.Proofs.YtfmnoljflcpbgaaGreatDoor
