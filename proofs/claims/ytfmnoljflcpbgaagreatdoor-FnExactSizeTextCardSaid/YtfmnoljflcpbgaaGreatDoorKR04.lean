/- (*strings.Replacer).buildOnce and Replace's first call, by hand. -/
import Derived.Test.YtfmnoljflcpbgaaGreatDoorKR03
set_option linter.unusedSimpArgs false
set_option linter.unusedVariables false
set_option linter.unnecessarySimpa false
namespace Go.Proofs.YtfmnoljflcpbgaaGreatDoor
open Go.RowKit
theorem ByteRow.cells {w w' : World} {e : Nat} {l : List Int} (h : ByteRow w e l) (hs : w.heap.size ≤ w'.heap.size) (hb : w'.heap[e]? = w.heap[e]?) : ByteRow w' e l :=
  ⟨Nat.lt_of_lt_of_le h.1 hs, fun j b hj => (World.cell?_of_block hb).trans (h.2 j b hj)⟩
theorem BsrAt.setCell {m d : Nat} {w : World} (h : BsrAt m w d) {p : Addr} (hp : p.block < m) (v : Value) : BsrAt m (w.setCell p v) d := by
  obtain ⟨n, e, c, e', c', h1, h2, h3, h4, b1, r1, r2, b2⟩ := h
  have hs : w.heap.size ≤ (w.setCell p v).heap.size := by simp [World.setCell]
  exact ⟨n, e, c, e', c', h1, h2, h3, h4, b1.far (by omega) v, r1.cells hs (Below.heap_setCell _ _ _ _ (by omega)), r2.cells hs (Below.heap_setCell _ _ _ _ (by omega)), b2.far (by omega) v⟩
theorem BsrAt.drew {m d : Nat} {w : World} (h : BsrAt m w d) : BsrAt m w.drew d := h
set_option maxRecDepth 100000 in
set_option maxHeartbeats 3200000 in
theorem buildOnce_walk (b g c : Nat) (w : World) (x3 : Value) (hbl : b < w.heap.size) (hb3 : w.cell? ⟨b, 3, none⟩ = some x3) (f3 : w.frozen? ⟨b, 3, none⟩ = false) (hb4 : w.cell? ⟨b, 4, none⟩ = some (.slice (some ⟨g, 0, none⟩) 4 c)) (f4 : w.frozen? ⟨b, 4, none⟩ = false)
    (hg : g < w.heap.size) (s0 : w.cell? ⟨g, 0, none⟩ = some (.string ⟨#[34]⟩)) (s1 : w.cell? ⟨g, 1, none⟩ = some (.string ⟨#[92, 34]⟩)) (s2 : w.cell? ⟨g, 2, none⟩ = some (.string ⟨#[92]⟩)) (s3 : w.cell? ⟨g, 3, none⟩ = some (.string ⟨#[92, 92]⟩)) :
    Calls Tryz.prog 192 #[.pointer (some ⟨b, 0, none⟩)] w fun e w' => e = .returned (.tuple #[]) ∧ OnceKept b w w' ∧ (Below b w w' ∧ w.heap.size ≤ w'.heap.size ∧ w'.cell? ⟨b, 3, none⟩ = some (.iface 271 (.pointer (some ⟨w.heap.size + 1, 0, none⟩))) ∧ BsrAt w.heap.size w' (w.heap.size + 1)) := by
  go_enter Tryz.func192, Tryz.ntmps192
  go_wp2_with (go_at_call 213; refine (build_walk b g c w hb4 hg s0 s1 s2 s3).mono ?_; rintro e w1 ⟨rfl, hb, hB⟩; have e3 := (hb.cell (p := ⟨b, 3, none⟩) hbl).trans hb3; have e3f := (hb.frozen (p := ⟨b, 3, none⟩) hbl).trans f3; have e4 := (hb.cell (p := ⟨b, 4, none⟩) hbl).trans hb4; have e4f := (hb.frozen (p := ⟨b, 4, none⟩) hbl).trans f4; have HB := Lib.hid hB; have Hb := Lib.hid hb; clear hB hb)
  go_end0
  have hB := HB.out
  have hb := Hb.out
  refine ⟨rfl, ⟨?_, ?_, ?_, ?_⟩, ?_, ?_, ?_, ?_⟩
  · rw [World.cell?_setCell_other _ ⟨b, 4, none⟩ ⟨b, 0, none⟩ _ (by simp), World.cell?_setCell_other _ ⟨b, 3, none⟩ ⟨b, 0, none⟩ _ (by simp)]; exact hb.cell (p := ⟨b, 0, none⟩) hbl
  · rw [World.cell?_setCell_other _ ⟨b, 4, none⟩ ⟨b, 1, none⟩ _ (by simp), World.cell?_setCell_other _ ⟨b, 3, none⟩ ⟨b, 1, none⟩ _ (by simp)]; exact hb.cell (p := ⟨b, 1, none⟩) hbl
  · simp; exact hb.frozen (p := ⟨b, 0, none⟩) hbl
  · simp; exact hb.frozen (p := ⟨b, 1, none⟩) hbl
  · exact ((hb.mono (Nat.le_of_lt hbl)).setCell (p := ⟨b, 3, none⟩) (Nat.le_refl _) _).setCell (p := ⟨b, 4, none⟩) (Nat.le_refl _) _
  · have := hb.size; simp [World.setCell]; omega
  · rw [World.cell?_setCell_other _ _ _ _ (by simp)]
    exact World.cell?_setCell_same _ _ _ e3
  · exact (hB.setCell (p := ⟨b, 3, none⟩) hbl _).setCell (p := ⟨b, 4, none⟩) hbl _
end Go.Proofs.YtfmnoljflcpbgaaGreatDoor
