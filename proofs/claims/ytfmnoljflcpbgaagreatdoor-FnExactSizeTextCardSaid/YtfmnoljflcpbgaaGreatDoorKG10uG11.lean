/- Texts of this proof: G10 G11. -/
import Derived.Test.YtfmnoljflcpbgaaGreatDoorKE5
import Derived.Test.YtfmnoljflcpbgaaGreatDoorKG07uG08
import Derived.Test.YtfmnoljflcpbgaaGreatDoorKL1
import Derived.Test.YtfmnoljflcpbgaaGreatDoorKA1
import Derived.Deep.RegionHeld3
import Derived.Deep.RegionWith
set_option linter.unusedSimpArgs false
set_option linter.unusedVariables false
set_option linter.unnecessarySimpa false
namespace Go.Proofs.YtfmnoljflcpbgaaGreatDoor
open Go.RowKit
theorem eqCellS_ac (xs : List CellD) (hl : xs.length ≤ 9223372036854775807) : AC Tryz.prog 15 [cellsA xs, cellsA xs] [] (.c (.bool true)) [] := by
  refine AC.of_calls fun S w κ vs hv => ?_
  obtain ⟨v, vs', rfl, h1, v2, vs2, rfl, h2, rfl⟩ := hv
  obtain ⟨A, cap, rfl, _, hc⟩ := cr_cells.1 h1
  obtain ⟨B, cap', rfl, _, hc'⟩ := cr_cells.1 h2
  refine (eqCellS_same xs hl A B cap cap' S S w hc hc').mono ?_
  rintro e w' ⟨rfl, hb⟩
  exact ⟨hb, _, rfl, fun T _ _ => ⟨rfl, rfl⟩⟩
set_option maxRecDepth 10000
end Go.Proofs.YtfmnoljflcpbgaaGreatDoor

/- laws.markCellSS: slices of cells in a row are marked one by one. -/
namespace Go.Proofs.YtfmnoljflcpbgaaGreatDoor
open Go.RowKit
def oslCs (xs : List CellD) : List C := [.osl (xs.map CellD.cs)]
/-- Slices of cells, each of which no one else reaches; bs: their blocks. -/
def Nest (w : World) : List (List CellD) → List Value → List Nat → Prop
  | [], vs, bs => vs = [] ∧ bs = []
  | x :: l, vs, bs => ∃ v vs' b1 b2, vs = v :: vs' ∧ bs = b1 ++ b2 ∧ CR w (fun _ => False) (.osl (x.map CellD.cs)) v b1 ∧ Nest w l vs' b2
theorem Nest.length {w : World} : ∀ {l : List (List CellD)} {vs : List Value} {bs : List Nat}, Nest w l vs bs → vs.length = l.length
  | [], vs, bs, h => by rw [h.1]; rfl
  | x :: l, vs, bs, h => by
    obtain ⟨v, vs', b1, b2, rfl, rfl, h1, h2⟩ := h
    simp [Nest.length h2]
theorem Nest.keep {w w' : World} (hz : w.heap.size ≤ w'.heap.size) : ∀ {l : List (List CellD)} {vs : List Value} {bs : List Nat}, (∀ b, b ∈ bs → b < w.heap.size → w'.heap[b]? = w.heap[b]?) → Nest w l vs bs → Nest w' l vs bs
  | [], vs, bs, _, h => h
  | x :: l, vs, bs, hb, h => by
    obtain ⟨v, vs', b1, b2, rfl, rfl, h1, h2⟩ := h
    exact ⟨v, vs', b1, b2, rfl, rfl, CR.keep hz (fun b hf => hf.elim) (fun b hb1 => hb b (by simp [hb1])) h1, Nest.keep hz (fun b hb2 => hb b (by simp [hb2])) h2⟩
theorem Nest.at_ {w : World} : ∀ {l : List (List CellD)} {vs : List Value} {bs : List Nat}, Nest w l vs bs → bs.Nodup → ∀ {i : Nat} (hi : i < l.length), ∃ v bi, vs[i]? = some v ∧ CR w (fun _ => False) (.osl (l[i].map CellD.cs)) v bi ∧ (∀ b, b ∈ bi → b ∈ bs) ∧
    ∀ (w' : World) (y : List CellD), w.heap.size ≤ w'.heap.size → CR w' (fun _ => False) (.osl (y.map CellD.cs)) v bi → (∀ b, b ∈ bs → b ∉ bi → b < w.heap.size → w'.heap[b]? = w.heap[b]?) → Nest w' (l.set i y) vs bs
  | [], vs, bs, _, _, i, hi => by simp at hi
  | x :: l, vs, bs, h, hnd, 0, _ => by
    obtain ⟨v, vs', b1, b2, rfl, rfl, h1, h2⟩ := h
    refine ⟨v, b1, rfl, h1, fun b hb => by simp [hb], fun w' y hz hy hk => ⟨v, vs', b1, b2, rfl, rfl, hy, Nest.keep hz (fun b hb => hk b (by simp [hb]) ?_) h2⟩⟩
    intro hb1
    exact (List.nodup_append.1 hnd).2.2 b hb1 b hb rfl
  | x :: l, vs, bs, h, hnd, i + 1, hi => by
    obtain ⟨v, vs', b1, b2, rfl, rfl, h1, h2⟩ := h
    obtain ⟨v1, bi, g1, g2, g3, g4⟩ := Nest.at_ h2 (List.nodup_append.1 hnd).2.1 (i := i) (by simpa using hi)
    refine ⟨v1, bi, by simpa using g1, by simpa using g2, fun b hb => by simp [g3 b hb], fun w' y hz hy hk => ⟨v, vs', b1, b2, rfl, rfl, CR.keep hz (fun b hf => hf.elim) (fun b hb => hk b (by simp [hb]) ?_) h1, g4 w' y hz hy fun b hb => hk b (by simp [hb])⟩⟩
    intro hbi
    exact (List.nodup_append.1 hnd).2.2 b hb b (g3 b hbi) rfl
theorem get_one {p : Id × AO} {i : Id} {o : AO} (h : Mem.get [p] i = some o) : i = p.1 ∧ o = p.2 := by
  obtain ⟨a, b⟩ := p
  simp only [Mem.get, List.lookup_cons, List.lookup_nil] at h
  split at h
  · rename_i hq
    exact ⟨by simpa using hq, (Option.some.inj h).symm⟩
  · cases h
end Go.Proofs.YtfmnoljflcpbgaaGreatDoor
