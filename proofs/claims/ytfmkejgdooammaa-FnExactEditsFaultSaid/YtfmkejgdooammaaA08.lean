/- Memory, on: 'make([]T, n)' and then one store an element. Printed by gen_a08.py. -/
import Derived.Test.YtfmkejgdooammaaA06
namespace Go.Proofs.Ytfmkejgdooammaa
open Go.RowKit

/-- The first k of n elements of the call's own row at block g are filled; what they reach lies in E, and not in that row. -/
def FillOf {α : Type} (R : World → (Nat → Prop) → α → List Value → Prop) (size : Nat) (e : TypeId) (w : World) (E : Nat → Prop) (base g n : Nat) (xs : List α) (k : Nat) : Prop :=
  ∃ rows : List (List Value), rows.length = n ∧ (∀ x ∈ rows, x.length = size) ∧ w.ownsRow base e size (.slice (some ⟨g, 0, none⟩) n n) n rows.flatten ∧ ∀ i (h : i < xs.length) row, i < k → rows[i]? = some row → R w (fun b => E b ∧ b ≠ g) xs[i] row

section
variable {α : Type} {R : World → (Nat → Prop) → α → List Value → Prop} {size : Nat} {e : TypeId} {w w' : World} {E : Nat → Prop} {base g n k : Nat} {xs : List α}
theorem FillOf.start (z : List Value) (hz : 0 < z.length) (h : w.ownsRow base e z.length (.slice (some ⟨g, 0, none⟩) n n) n (madeCells z.toArray (n * z.length)).toList) : FillOf R z.length e w E base g n xs 0 :=
  ⟨List.replicate n z, by simp, by simp, by rw [← made_flatten z hz n]; exact h, fun i _ _ h => absurd h (by omega)⟩
theorem FillOf.below (hR : RepOk R size) (h : FillOf R size e w E base g n xs k) (hb : Below w.heap.size w w') : FillOf R size e w' E base g n xs k := by
  obtain ⟨rows, h1, h2, h3, h4⟩ := h
  exact ⟨rows, h1, h2, ownsRow_below h3 hb, fun i hi row hk hr => hR.keep (Same.below hb) (h4 i hi row hk hr)⟩
theorem FillOf.lt (h : FillOf R size e w E base g n xs k) : base ≤ g ∧ g < w.heap.size := by
  obtain ⟨rows, _, _, h3, _⟩ := h
  exact h3.lt g rfl
theorem FillOf.done (h : FillOf R size e w E base g n xs n) (hn : xs.length = n) : OwnOf R size e w E base (.slice (some ⟨g, 0, none⟩) n n) xs := by
  subst hn
  obtain ⟨rows, h1, h2, h3, h4⟩ := h
  exact ⟨rows, h1, h2, h3, fun i hi row hr => by
    have : (fun b => E b ∧ (Value.slice (some ⟨g, 0, none⟩) xs.length xs.length).ownBlock ≠ some b) = fun b => E b ∧ b ≠ g := by
      funext b
      simp only [Value.ownBlock, ne_eq, Option.some.injEq, eq_iff_iff]
      exact ⟨fun h => ⟨h.1, fun e => h.2 e.symm⟩, fun h => ⟨h.1, fun e => h.2 e.symm⟩⟩
    rw [this]
    exact h4 i hi row hi hr⟩
/-- 1 cells are stored at element k. -/
theorem FillOf.store1 (hR : RepOk R 1) (h : FillOf R 1 e w E base g n xs k) (hk : k < n) (hkx : k < xs.length) (a0 : Value) (hx : R w (fun b => E b ∧ b ≠ g) xs[k] [a0]) :
    (∃ v0, w.cell? ⟨g, k, none⟩ = some v0) ∧ (∀ i, w.frozen? ⟨g, i, none⟩ = false) ∧
    FillOf R 1 e (w.setCell ⟨g, k, none⟩ a0) E base g n xs (k + 1) := by
  obtain ⟨rows, h1, h2, h3, h4⟩ := h
  have hkr : k < rows.length := by omega
  obtain ⟨row, hrow⟩ : ∃ row, rows[k]? = some row := ⟨_, List.getElem?_eq_getElem hkr⟩
  have hrl : row.length = 1 := h2 row (List.mem_of_getElem? hrow)
  match row, hrl with
  | [r0], _ =>
    have hc : ∀ j u, ([r0] : List Value)[j]? = some u → w.cell? ⟨g, k * 1 + j, none⟩ = some u := by
      intro j u hu
      have hj : j < 1 := by
        rcases Nat.lt_or_ge j 1 with h | h
        · exact h
        · rw [List.getElem?_eq_none (by simpa using h)] at hu; simp at hu
      rw [h3.cellAt (k * 1 + j) (by omega)]
      exact flatten_get h2 k _ hrow j u hu
    have s0 := h3
    have l0 : ∀ x ∈ rows, x.length = 1 := h2
    have g0 : rows[k]? = some [r0] := hrow
    have s1 := (World.ownsRow.stored (xs := rows.flatten) s0 (k * 1 + 0) a0).1
    have e0 := flatten_set l0 k [r0] 0 a0 g0 (by omega)
    rw [← e0] at s1
    refine ⟨⟨r0, by simpa using hc 0 _ rfl⟩, fun i => h3.frozenAt i, rows.set k [a0], by simp [h1], set_rows h2 rfl, by simpa using s1, fun i hi row hik hr => ?_⟩
    have sm : Same (fun b => E b ∧ b ≠ g) w (w.setCell ⟨g, k, none⟩ a0) :=
      Same.setCell _ _ _ (by simp)
    refine hR.keep sm ?_
    by_cases he : i = k
    · subst he
      rw [List.getElem?_set_self hkr] at hr
      simp only [Option.some.injEq] at hr
      subst hr
      exact hx
    · rw [List.getElem?_set_ne (fun e => he e.symm)] at hr
      exact h4 i hi row (by omega) hr
/-- 3 cells are stored at element k. -/
theorem FillOf.store3 (hR : RepOk R 3) (h : FillOf R 3 e w E base g n xs k) (hk : k < n) (hkx : k < xs.length) (a0 a1 a2 : Value) (hx : R w (fun b => E b ∧ b ≠ g) xs[k] [a0, a1, a2]) :
    (∃ v0 v1 v2, w.cell? ⟨g, k * 3, none⟩ = some v0 ∧ w.cell? ⟨g, k * 3 + 1, none⟩ = some v1 ∧ w.cell? ⟨g, k * 3 + 2, none⟩ = some v2) ∧ (∀ i, w.frozen? ⟨g, i, none⟩ = false) ∧
    FillOf R 3 e (((w.setCell ⟨g, k * 3, none⟩ a0).setCell ⟨g, k * 3 + 1, none⟩ a1).setCell ⟨g, k * 3 + 2, none⟩ a2) E base g n xs (k + 1) := by
  obtain ⟨rows, h1, h2, h3, h4⟩ := h
  have hkr : k < rows.length := by omega
  obtain ⟨row, hrow⟩ : ∃ row, rows[k]? = some row := ⟨_, List.getElem?_eq_getElem hkr⟩
  have hrl : row.length = 3 := h2 row (List.mem_of_getElem? hrow)
  match row, hrl with
  | [r0, r1, r2], _ =>
    have hc : ∀ j u, ([r0, r1, r2] : List Value)[j]? = some u → w.cell? ⟨g, k * 3 + j, none⟩ = some u := by
      intro j u hu
      have hj : j < 3 := by
        rcases Nat.lt_or_ge j 3 with h | h
        · exact h
        · rw [List.getElem?_eq_none (by simpa using h)] at hu; simp at hu
      rw [h3.cellAt (k * 3 + j) (by omega)]
      exact flatten_get h2 k _ hrow j u hu
    have s0 := h3
    have l0 : ∀ x ∈ rows, x.length = 3 := h2
    have g0 : rows[k]? = some [r0, r1, r2] := hrow
    have s1 := (World.ownsRow.stored (xs := rows.flatten) s0 (k * 3 + 0) a0).1
    have e0 := flatten_set l0 k [r0, r1, r2] 0 a0 g0 (by omega)
    rw [← e0] at s1
    have l1 : ∀ x ∈ (rows.set k [a0, r1, r2]), x.length = 3 := set_rows h2 (k := k) (row := [a0, r1, r2]) rfl
    have g1 : (rows.set k [a0, r1, r2])[k]? = some [a0, r1, r2] := by rw [List.getElem?_set_self hkr]
    have s2 := (World.ownsRow.stored (xs := (rows.set k [a0, r1, r2]).flatten) s1 (k * 3 + 1) a1).1
    have e1 := flatten_set l1 k [a0, r1, r2] 1 a1 g1 (by omega)
    rw [← e1] at s2
    rw [List.set_set] at s2
    have l2 : ∀ x ∈ (rows.set k [a0, a1, r2]), x.length = 3 := set_rows h2 (k := k) (row := [a0, a1, r2]) rfl
    have g2 : (rows.set k [a0, a1, r2])[k]? = some [a0, a1, r2] := by rw [List.getElem?_set_self hkr]
    have s3 := (World.ownsRow.stored (xs := (rows.set k [a0, a1, r2]).flatten) s2 (k * 3 + 2) a2).1
    have e2 := flatten_set l2 k [a0, a1, r2] 2 a2 g2 (by omega)
    rw [← e2] at s3
    rw [List.set_set] at s3
    refine ⟨⟨r0, r1, r2, by simpa using hc 0 _ rfl, by simpa using hc 1 _ rfl, by simpa using hc 2 _ rfl⟩, fun i => h3.frozenAt i, rows.set k [a0, a1, a2], by simp [h1], set_rows h2 rfl, by simpa using s3, fun i hi row hik hr => ?_⟩
    have sm : Same (fun b => E b ∧ b ≠ g) w (((w.setCell ⟨g, k * 3, none⟩ a0).setCell ⟨g, k * 3 + 1, none⟩ a1).setCell ⟨g, k * 3 + 2, none⟩ a2) :=
      ((Same.setCell _ _ _ (by simp)).trans (Same.setCell _ _ _ (by simp))).trans (Same.setCell _ _ _ (by simp))
    refine hR.keep sm ?_
    by_cases he : i = k
    · subst he
      rw [List.getElem?_set_self hkr] at hr
      simp only [Option.some.injEq] at hr
      subst hr
      exact hx
    · rw [List.getElem?_set_ne (fun e => he e.symm)] at hr
      exact h4 i hi row (by omega) hr
/-- 4 cells are stored at element k. -/
theorem FillOf.store4 (hR : RepOk R 4) (h : FillOf R 4 e w E base g n xs k) (hk : k < n) (hkx : k < xs.length) (a0 a1 a2 a3 : Value) (hx : R w (fun b => E b ∧ b ≠ g) xs[k] [a0, a1, a2, a3]) :
    (∃ v0 v1 v2 v3, w.cell? ⟨g, k * 4, none⟩ = some v0 ∧ w.cell? ⟨g, k * 4 + 1, none⟩ = some v1 ∧ w.cell? ⟨g, k * 4 + 2, none⟩ = some v2 ∧ w.cell? ⟨g, k * 4 + 3, none⟩ = some v3) ∧ (∀ i, w.frozen? ⟨g, i, none⟩ = false) ∧
    FillOf R 4 e ((((w.setCell ⟨g, k * 4, none⟩ a0).setCell ⟨g, k * 4 + 1, none⟩ a1).setCell ⟨g, k * 4 + 2, none⟩ a2).setCell ⟨g, k * 4 + 3, none⟩ a3) E base g n xs (k + 1) := by
  obtain ⟨rows, h1, h2, h3, h4⟩ := h
  have hkr : k < rows.length := by omega
  obtain ⟨row, hrow⟩ : ∃ row, rows[k]? = some row := ⟨_, List.getElem?_eq_getElem hkr⟩
  have hrl : row.length = 4 := h2 row (List.mem_of_getElem? hrow)
  match row, hrl with
  | [r0, r1, r2, r3], _ =>
    have hc : ∀ j u, ([r0, r1, r2, r3] : List Value)[j]? = some u → w.cell? ⟨g, k * 4 + j, none⟩ = some u := by
      intro j u hu
      have hj : j < 4 := by
        rcases Nat.lt_or_ge j 4 with h | h
        · exact h
        · rw [List.getElem?_eq_none (by simpa using h)] at hu; simp at hu
      rw [h3.cellAt (k * 4 + j) (by omega)]
      exact flatten_get h2 k _ hrow j u hu
    have s0 := h3
    have l0 : ∀ x ∈ rows, x.length = 4 := h2
    have g0 : rows[k]? = some [r0, r1, r2, r3] := hrow
    have s1 := (World.ownsRow.stored (xs := rows.flatten) s0 (k * 4 + 0) a0).1
    have e0 := flatten_set l0 k [r0, r1, r2, r3] 0 a0 g0 (by omega)
    rw [← e0] at s1
    have l1 : ∀ x ∈ (rows.set k [a0, r1, r2, r3]), x.length = 4 := set_rows h2 (k := k) (row := [a0, r1, r2, r3]) rfl
    have g1 : (rows.set k [a0, r1, r2, r3])[k]? = some [a0, r1, r2, r3] := by rw [List.getElem?_set_self hkr]
    have s2 := (World.ownsRow.stored (xs := (rows.set k [a0, r1, r2, r3]).flatten) s1 (k * 4 + 1) a1).1
    have e1 := flatten_set l1 k [a0, r1, r2, r3] 1 a1 g1 (by omega)
    rw [← e1] at s2
    rw [List.set_set] at s2
    have l2 : ∀ x ∈ (rows.set k [a0, a1, r2, r3]), x.length = 4 := set_rows h2 (k := k) (row := [a0, a1, r2, r3]) rfl
    have g2 : (rows.set k [a0, a1, r2, r3])[k]? = some [a0, a1, r2, r3] := by rw [List.getElem?_set_self hkr]
    have s3 := (World.ownsRow.stored (xs := (rows.set k [a0, a1, r2, r3]).flatten) s2 (k * 4 + 2) a2).1
    have e2 := flatten_set l2 k [a0, a1, r2, r3] 2 a2 g2 (by omega)
    rw [← e2] at s3
    rw [List.set_set] at s3
    have l3 : ∀ x ∈ (rows.set k [a0, a1, a2, r3]), x.length = 4 := set_rows h2 (k := k) (row := [a0, a1, a2, r3]) rfl
    have g3 : (rows.set k [a0, a1, a2, r3])[k]? = some [a0, a1, a2, r3] := by rw [List.getElem?_set_self hkr]
    have s4 := (World.ownsRow.stored (xs := (rows.set k [a0, a1, a2, r3]).flatten) s3 (k * 4 + 3) a3).1
    have e3 := flatten_set l3 k [a0, a1, a2, r3] 3 a3 g3 (by omega)
    rw [← e3] at s4
    rw [List.set_set] at s4
    refine ⟨⟨r0, r1, r2, r3, by simpa using hc 0 _ rfl, by simpa using hc 1 _ rfl, by simpa using hc 2 _ rfl, by simpa using hc 3 _ rfl⟩, fun i => h3.frozenAt i, rows.set k [a0, a1, a2, a3], by simp [h1], set_rows h2 rfl, by simpa using s4, fun i hi row hik hr => ?_⟩
    have sm : Same (fun b => E b ∧ b ≠ g) w ((((w.setCell ⟨g, k * 4, none⟩ a0).setCell ⟨g, k * 4 + 1, none⟩ a1).setCell ⟨g, k * 4 + 2, none⟩ a2).setCell ⟨g, k * 4 + 3, none⟩ a3) :=
      (((Same.setCell _ _ _ (by simp)).trans (Same.setCell _ _ _ (by simp))).trans (Same.setCell _ _ _ (by simp))).trans (Same.setCell _ _ _ (by simp))
    refine hR.keep sm ?_
    by_cases he : i = k
    · subst he
      rw [List.getElem?_set_self hkr] at hr
      simp only [Option.some.injEq] at hr
      subst hr
      exact hx
    · rw [List.getElem?_set_ne (fun e => he e.symm)] at hr
      exact h4 i hi row (by omega) hr
/-- 5 cells are stored at element k. -/
theorem FillOf.store5 (hR : RepOk R 5) (h : FillOf R 5 e w E base g n xs k) (hk : k < n) (hkx : k < xs.length) (a0 a1 a2 a3 a4 : Value) (hx : R w (fun b => E b ∧ b ≠ g) xs[k] [a0, a1, a2, a3, a4]) :
    (∃ v0 v1 v2 v3 v4, w.cell? ⟨g, k * 5, none⟩ = some v0 ∧ w.cell? ⟨g, k * 5 + 1, none⟩ = some v1 ∧ w.cell? ⟨g, k * 5 + 2, none⟩ = some v2 ∧ w.cell? ⟨g, k * 5 + 3, none⟩ = some v3 ∧ w.cell? ⟨g, k * 5 + 4, none⟩ = some v4) ∧ (∀ i, w.frozen? ⟨g, i, none⟩ = false) ∧
    FillOf R 5 e (((((w.setCell ⟨g, k * 5, none⟩ a0).setCell ⟨g, k * 5 + 1, none⟩ a1).setCell ⟨g, k * 5 + 2, none⟩ a2).setCell ⟨g, k * 5 + 3, none⟩ a3).setCell ⟨g, k * 5 + 4, none⟩ a4) E base g n xs (k + 1) := by
  obtain ⟨rows, h1, h2, h3, h4⟩ := h
  have hkr : k < rows.length := by omega
  obtain ⟨row, hrow⟩ : ∃ row, rows[k]? = some row := ⟨_, List.getElem?_eq_getElem hkr⟩
  have hrl : row.length = 5 := h2 row (List.mem_of_getElem? hrow)
  match row, hrl with
  | [r0, r1, r2, r3, r4], _ =>
    have hc : ∀ j u, ([r0, r1, r2, r3, r4] : List Value)[j]? = some u → w.cell? ⟨g, k * 5 + j, none⟩ = some u := by
      intro j u hu
      have hj : j < 5 := by
        rcases Nat.lt_or_ge j 5 with h | h
        · exact h
        · rw [List.getElem?_eq_none (by simpa using h)] at hu; simp at hu
      rw [h3.cellAt (k * 5 + j) (by omega)]
      exact flatten_get h2 k _ hrow j u hu
    have s0 := h3
    have l0 : ∀ x ∈ rows, x.length = 5 := h2
    have g0 : rows[k]? = some [r0, r1, r2, r3, r4] := hrow
    have s1 := (World.ownsRow.stored (xs := rows.flatten) s0 (k * 5 + 0) a0).1
    have e0 := flatten_set l0 k [r0, r1, r2, r3, r4] 0 a0 g0 (by omega)
    rw [← e0] at s1
    have l1 : ∀ x ∈ (rows.set k [a0, r1, r2, r3, r4]), x.length = 5 := set_rows h2 (k := k) (row := [a0, r1, r2, r3, r4]) rfl
    have g1 : (rows.set k [a0, r1, r2, r3, r4])[k]? = some [a0, r1, r2, r3, r4] := by rw [List.getElem?_set_self hkr]
    have s2 := (World.ownsRow.stored (xs := (rows.set k [a0, r1, r2, r3, r4]).flatten) s1 (k * 5 + 1) a1).1
    have e1 := flatten_set l1 k [a0, r1, r2, r3, r4] 1 a1 g1 (by omega)
    rw [← e1] at s2
    rw [List.set_set] at s2
    have l2 : ∀ x ∈ (rows.set k [a0, a1, r2, r3, r4]), x.length = 5 := set_rows h2 (k := k) (row := [a0, a1, r2, r3, r4]) rfl
    have g2 : (rows.set k [a0, a1, r2, r3, r4])[k]? = some [a0, a1, r2, r3, r4] := by rw [List.getElem?_set_self hkr]
    have s3 := (World.ownsRow.stored (xs := (rows.set k [a0, a1, r2, r3, r4]).flatten) s2 (k * 5 + 2) a2).1
    have e2 := flatten_set l2 k [a0, a1, r2, r3, r4] 2 a2 g2 (by omega)
    rw [← e2] at s3
    rw [List.set_set] at s3
    have l3 : ∀ x ∈ (rows.set k [a0, a1, a2, r3, r4]), x.length = 5 := set_rows h2 (k := k) (row := [a0, a1, a2, r3, r4]) rfl
    have g3 : (rows.set k [a0, a1, a2, r3, r4])[k]? = some [a0, a1, a2, r3, r4] := by rw [List.getElem?_set_self hkr]
    have s4 := (World.ownsRow.stored (xs := (rows.set k [a0, a1, a2, r3, r4]).flatten) s3 (k * 5 + 3) a3).1
    have e3 := flatten_set l3 k [a0, a1, a2, r3, r4] 3 a3 g3 (by omega)
    rw [← e3] at s4
    rw [List.set_set] at s4
    have l4 : ∀ x ∈ (rows.set k [a0, a1, a2, a3, r4]), x.length = 5 := set_rows h2 (k := k) (row := [a0, a1, a2, a3, r4]) rfl
    have g4 : (rows.set k [a0, a1, a2, a3, r4])[k]? = some [a0, a1, a2, a3, r4] := by rw [List.getElem?_set_self hkr]
    have s5 := (World.ownsRow.stored (xs := (rows.set k [a0, a1, a2, a3, r4]).flatten) s4 (k * 5 + 4) a4).1
    have e4 := flatten_set l4 k [a0, a1, a2, a3, r4] 4 a4 g4 (by omega)
    rw [← e4] at s5
    rw [List.set_set] at s5
    refine ⟨⟨r0, r1, r2, r3, r4, by simpa using hc 0 _ rfl, by simpa using hc 1 _ rfl, by simpa using hc 2 _ rfl, by simpa using hc 3 _ rfl, by simpa using hc 4 _ rfl⟩, fun i => h3.frozenAt i, rows.set k [a0, a1, a2, a3, a4], by simp [h1], set_rows h2 rfl, by simpa using s5, fun i hi row hik hr => ?_⟩
    have sm : Same (fun b => E b ∧ b ≠ g) w (((((w.setCell ⟨g, k * 5, none⟩ a0).setCell ⟨g, k * 5 + 1, none⟩ a1).setCell ⟨g, k * 5 + 2, none⟩ a2).setCell ⟨g, k * 5 + 3, none⟩ a3).setCell ⟨g, k * 5 + 4, none⟩ a4) :=
      ((((Same.setCell _ _ _ (by simp)).trans (Same.setCell _ _ _ (by simp))).trans (Same.setCell _ _ _ (by simp))).trans (Same.setCell _ _ _ (by simp))).trans (Same.setCell _ _ _ (by simp))
    refine hR.keep sm ?_
    by_cases he : i = k
    · subst he
      rw [List.getElem?_set_self hkr] at hr
      simp only [Option.some.injEq] at hr
      subst hr
      exact hx
    · rw [List.getElem?_set_ne (fun e => he e.symm)] at hr
      exact h4 i hi row (by omega) hr
/-- 6 cells are stored at element k. -/
theorem FillOf.store6 (hR : RepOk R 6) (h : FillOf R 6 e w E base g n xs k) (hk : k < n) (hkx : k < xs.length) (a0 a1 a2 a3 a4 a5 : Value) (hx : R w (fun b => E b ∧ b ≠ g) xs[k] [a0, a1, a2, a3, a4, a5]) :
    (∃ v0 v1 v2 v3 v4 v5, w.cell? ⟨g, k * 6, none⟩ = some v0 ∧ w.cell? ⟨g, k * 6 + 1, none⟩ = some v1 ∧ w.cell? ⟨g, k * 6 + 2, none⟩ = some v2 ∧ w.cell? ⟨g, k * 6 + 3, none⟩ = some v3 ∧ w.cell? ⟨g, k * 6 + 4, none⟩ = some v4 ∧ w.cell? ⟨g, k * 6 + 5, none⟩ = some v5) ∧ (∀ i, w.frozen? ⟨g, i, none⟩ = false) ∧
    FillOf R 6 e ((((((w.setCell ⟨g, k * 6, none⟩ a0).setCell ⟨g, k * 6 + 1, none⟩ a1).setCell ⟨g, k * 6 + 2, none⟩ a2).setCell ⟨g, k * 6 + 3, none⟩ a3).setCell ⟨g, k * 6 + 4, none⟩ a4).setCell ⟨g, k * 6 + 5, none⟩ a5) E base g n xs (k + 1) := by
  obtain ⟨rows, h1, h2, h3, h4⟩ := h
  have hkr : k < rows.length := by omega
  obtain ⟨row, hrow⟩ : ∃ row, rows[k]? = some row := ⟨_, List.getElem?_eq_getElem hkr⟩
  have hrl : row.length = 6 := h2 row (List.mem_of_getElem? hrow)
  match row, hrl with
  | [r0, r1, r2, r3, r4, r5], _ =>
    have hc : ∀ j u, ([r0, r1, r2, r3, r4, r5] : List Value)[j]? = some u → w.cell? ⟨g, k * 6 + j, none⟩ = some u := by
      intro j u hu
      have hj : j < 6 := by
        rcases Nat.lt_or_ge j 6 with h | h
        · exact h
        · rw [List.getElem?_eq_none (by simpa using h)] at hu; simp at hu
      rw [h3.cellAt (k * 6 + j) (by omega)]
      exact flatten_get h2 k _ hrow j u hu
    have s0 := h3
    have l0 : ∀ x ∈ rows, x.length = 6 := h2
    have g0 : rows[k]? = some [r0, r1, r2, r3, r4, r5] := hrow
    have s1 := (World.ownsRow.stored (xs := rows.flatten) s0 (k * 6 + 0) a0).1
    have e0 := flatten_set l0 k [r0, r1, r2, r3, r4, r5] 0 a0 g0 (by omega)
    rw [← e0] at s1
    have l1 : ∀ x ∈ (rows.set k [a0, r1, r2, r3, r4, r5]), x.length = 6 := set_rows h2 (k := k) (row := [a0, r1, r2, r3, r4, r5]) rfl
    have g1 : (rows.set k [a0, r1, r2, r3, r4, r5])[k]? = some [a0, r1, r2, r3, r4, r5] := by rw [List.getElem?_set_self hkr]
    have s2 := (World.ownsRow.stored (xs := (rows.set k [a0, r1, r2, r3, r4, r5]).flatten) s1 (k * 6 + 1) a1).1
    have e1 := flatten_set l1 k [a0, r1, r2, r3, r4, r5] 1 a1 g1 (by omega)
    rw [← e1] at s2
    rw [List.set_set] at s2
    have l2 : ∀ x ∈ (rows.set k [a0, a1, r2, r3, r4, r5]), x.length = 6 := set_rows h2 (k := k) (row := [a0, a1, r2, r3, r4, r5]) rfl
    have g2 : (rows.set k [a0, a1, r2, r3, r4, r5])[k]? = some [a0, a1, r2, r3, r4, r5] := by rw [List.getElem?_set_self hkr]
    have s3 := (World.ownsRow.stored (xs := (rows.set k [a0, a1, r2, r3, r4, r5]).flatten) s2 (k * 6 + 2) a2).1
    have e2 := flatten_set l2 k [a0, a1, r2, r3, r4, r5] 2 a2 g2 (by omega)
    rw [← e2] at s3
    rw [List.set_set] at s3
    have l3 : ∀ x ∈ (rows.set k [a0, a1, a2, r3, r4, r5]), x.length = 6 := set_rows h2 (k := k) (row := [a0, a1, a2, r3, r4, r5]) rfl
    have g3 : (rows.set k [a0, a1, a2, r3, r4, r5])[k]? = some [a0, a1, a2, r3, r4, r5] := by rw [List.getElem?_set_self hkr]
    have s4 := (World.ownsRow.stored (xs := (rows.set k [a0, a1, a2, r3, r4, r5]).flatten) s3 (k * 6 + 3) a3).1
    have e3 := flatten_set l3 k [a0, a1, a2, r3, r4, r5] 3 a3 g3 (by omega)
    rw [← e3] at s4
    rw [List.set_set] at s4
    have l4 : ∀ x ∈ (rows.set k [a0, a1, a2, a3, r4, r5]), x.length = 6 := set_rows h2 (k := k) (row := [a0, a1, a2, a3, r4, r5]) rfl
    have g4 : (rows.set k [a0, a1, a2, a3, r4, r5])[k]? = some [a0, a1, a2, a3, r4, r5] := by rw [List.getElem?_set_self hkr]
    have s5 := (World.ownsRow.stored (xs := (rows.set k [a0, a1, a2, a3, r4, r5]).flatten) s4 (k * 6 + 4) a4).1
    have e4 := flatten_set l4 k [a0, a1, a2, a3, r4, r5] 4 a4 g4 (by omega)
    rw [← e4] at s5
    rw [List.set_set] at s5
    have l5 : ∀ x ∈ (rows.set k [a0, a1, a2, a3, a4, r5]), x.length = 6 := set_rows h2 (k := k) (row := [a0, a1, a2, a3, a4, r5]) rfl
    have g5 : (rows.set k [a0, a1, a2, a3, a4, r5])[k]? = some [a0, a1, a2, a3, a4, r5] := by rw [List.getElem?_set_self hkr]
    have s6 := (World.ownsRow.stored (xs := (rows.set k [a0, a1, a2, a3, a4, r5]).flatten) s5 (k * 6 + 5) a5).1
    have e5 := flatten_set l5 k [a0, a1, a2, a3, a4, r5] 5 a5 g5 (by omega)
    rw [← e5] at s6
    rw [List.set_set] at s6
    refine ⟨⟨r0, r1, r2, r3, r4, r5, by simpa using hc 0 _ rfl, by simpa using hc 1 _ rfl, by simpa using hc 2 _ rfl, by simpa using hc 3 _ rfl, by simpa using hc 4 _ rfl, by simpa using hc 5 _ rfl⟩, fun i => h3.frozenAt i, rows.set k [a0, a1, a2, a3, a4, a5], by simp [h1], set_rows h2 rfl, by simpa using s6, fun i hi row hik hr => ?_⟩
    have sm : Same (fun b => E b ∧ b ≠ g) w ((((((w.setCell ⟨g, k * 6, none⟩ a0).setCell ⟨g, k * 6 + 1, none⟩ a1).setCell ⟨g, k * 6 + 2, none⟩ a2).setCell ⟨g, k * 6 + 3, none⟩ a3).setCell ⟨g, k * 6 + 4, none⟩ a4).setCell ⟨g, k * 6 + 5, none⟩ a5) :=
      (((((Same.setCell _ _ _ (by simp)).trans (Same.setCell _ _ _ (by simp))).trans (Same.setCell _ _ _ (by simp))).trans (Same.setCell _ _ _ (by simp))).trans (Same.setCell _ _ _ (by simp))).trans (Same.setCell _ _ _ (by simp))
    refine hR.keep sm ?_
    by_cases he : i = k
    · subst he
      rw [List.getElem?_set_self hkr] at hr
      simp only [Option.some.injEq] at hr
      subst hr
      exact hx
    · rw [List.getElem?_set_ne (fun e => he e.symm)] at hr
      exact h4 i hi row (by omega) hr
end
end Go.Proofs.Ytfmkejgdooammaa
