/- Memory, on: a row of the call's own whose elements are stored one by one. -/
import Derived.Test.YtfmkejgdooammaaA05
namespace Go.Proofs.Ytfmkejgdooammaa
open Go.RowKit

theorem flatten_set {size : Nat} : ∀ {rows : List (List Value)}, (∀ x ∈ rows, x.length = size) → ∀ (k : Nat) (row : List Value) (j : Nat) (u : Value), rows[k]? = some row → j < size →
    (rows.set k (row.set j u)).flatten = rows.flatten.set (k * size + j) u
  | [], _, k, row, j, u, h, _ => by simp at h
  | r :: rs, hl, 0, row, j, u, h, hj => by
    simp only [List.getElem?_cons_zero, Option.some.injEq] at h
    subst h
    have := hl r (by simp)
    simp only [List.set_cons_zero, List.flatten_cons, Nat.zero_mul, Nat.zero_add]
    rw [List.set_append_left _ _ (by omega)]
  | r :: rs, hl, k + 1, row, j, u, h, hj => by
    simp only [List.getElem?_cons_succ] at h
    have h1 := hl r (by simp)
    have ih := flatten_set (fun x hx => hl x (by simp [hx])) k row j u h hj
    simp only [List.set_cons_succ, List.flatten_cons]
    rw [ih, List.set_append_right _ _ (by rw [Nat.add_mul]; omega)]
    congr 1
    rw [h1]
    congr 1
    rw [Nat.add_mul]
    omega
theorem set_rows {size : Nat} {rows : List (List Value)} (h : ∀ x ∈ rows, x.length = size) {k : Nat} {row : List Value} (hr : row.length = size) : ∀ x ∈ rows.set k row, x.length = size := by
  intro x hx
  rcases List.mem_or_eq_of_mem_set hx with hx | rfl
  · exact h x hx
  · exact hr
/-- Five cells are stored at one element's place. -/
theorem own_store5 {w : World} {base : Nat} {e : TypeId} {g n cap : Nat} {rows : List (List Value)} (hl : ∀ x ∈ rows, x.length = 5) (hn : rows.length = n) (h : w.ownsRow base e 5 (.slice (some ⟨g, 0, none⟩) n cap) n rows.flatten)
    {k : Nat} (hk : k < n) (a b c d f : Value) :
    (∃ v0 v1 v2 v3 v4, w.cell? ⟨g, k * 5, none⟩ = some v0 ∧ w.cell? ⟨g, k * 5 + 1, none⟩ = some v1 ∧ w.cell? ⟨g, k * 5 + 2, none⟩ = some v2 ∧ w.cell? ⟨g, k * 5 + 3, none⟩ = some v3 ∧ w.cell? ⟨g, k * 5 + 4, none⟩ = some v4) ∧ (∀ i, w.frozen? ⟨g, i, none⟩ = false) ∧
    (((((w.setCell ⟨g, k * 5, none⟩ a).setCell ⟨g, k * 5 + 1, none⟩ b).setCell ⟨g, k * 5 + 2, none⟩ c).setCell ⟨g, k * 5 + 3, none⟩ d).setCell ⟨g, k * 5 + 4, none⟩ f).ownsRow base e 5 (.slice (some ⟨g, 0, none⟩) n cap) n (rows.set k [a, b, c, d, f]).flatten := by
  have hkr : k < rows.length := by omega
  obtain ⟨row, hrow⟩ : ∃ row, rows[k]? = some row := ⟨_, List.getElem?_eq_getElem hkr⟩
  have hrl : row.length = 5 := hl row (List.mem_of_getElem? hrow)
  match row, hrl with
  | [r0, r1, r2, r3, r4], _ =>
    have hc : ∀ j u, ([r0, r1, r2, r3, r4] : List Value)[j]? = some u → w.cell? ⟨g, k * 5 + j, none⟩ = some u := by
      intro j u hu
      have hj : j < 5 := by
        rcases Nat.lt_or_ge j 5 with h | h
        · exact h
        · rw [List.getElem?_eq_none (by simpa using h)] at hu; simp at hu
      rw [h.cellAt (k * 5 + j) (by omega)]
      exact flatten_get hl k _ hrow j u hu
    refine ⟨⟨r0, r1, r2, r3, r4, hc 0 _ rfl, hc 1 _ rfl, hc 2 _ rfl, hc 3 _ rfl, hc 4 _ rfl⟩, fun i => h.frozenAt i, ?_⟩
    have s0 := (h.stored (k * 5) a).1
    have e0 := flatten_set hl k [r0, r1, r2, r3, r4] 0 a hrow (by omega)
    simp only [Nat.add_zero] at e0
    rw [← e0] at s0
    have l0 := set_rows hl (k := k) (row := [a, r1, r2, r3, r4]) rfl
    have g0 : (rows.set k [a, r1, r2, r3, r4])[k]? = some [a, r1, r2, r3, r4] := by rw [List.getElem?_set_self hkr]
    have s1 := (s0.stored (k * 5 + 1) b).1
    have e1 := flatten_set l0 k [a, r1, r2, r3, r4] 1 b g0 (by omega)
    have s1' : (((w.setCell ⟨g, k * 5, none⟩ a).setCell ⟨g, k * 5 + 1, none⟩ b)).ownsRow base e 5 (.slice (some ⟨g, 0, none⟩) n cap) n ((rows.set k [a, r1, r2, r3, r4]).set k [a, b, r2, r3, r4]).flatten := by rw [show [a, b, r2, r3, r4] = [a, r1, r2, r3, r4].set 1 b from rfl, e1]; exact s1
    rw [List.set_set] at s1'
    have l1 := set_rows hl (k := k) (row := [a, b, r2, r3, r4]) rfl
    have g1 : (rows.set k [a, b, r2, r3, r4])[k]? = some [a, b, r2, r3, r4] := by rw [List.getElem?_set_self hkr]
    have s2 := (s1'.stored (k * 5 + 2) c).1
    have e2 := flatten_set l1 k [a, b, r2, r3, r4] 2 c g1 (by omega)
    rw [← e2, List.set_set] at s2
    have l2 := set_rows hl (k := k) (row := [a, b, c, r3, r4]) rfl
    have g2 : (rows.set k [a, b, c, r3, r4])[k]? = some [a, b, c, r3, r4] := by rw [List.getElem?_set_self hkr]
    have s3 := (World.ownsRow.stored (xs := (rows.set k [a, b, c, r3, r4]).flatten) s2 (k * 5 + 3) d).1
    have e3 := flatten_set l2 k [a, b, c, r3, r4] 3 d g2 (by omega)
    rw [← e3, List.set_set] at s3
    have l3 := set_rows hl (k := k) (row := [a, b, c, d, r4]) rfl
    have g3 : (rows.set k [a, b, c, d, r4])[k]? = some [a, b, c, d, r4] := by rw [List.getElem?_set_self hkr]
    have s4 := (World.ownsRow.stored (xs := (rows.set k [a, b, c, d, r4]).flatten) s3 (k * 5 + 4) f).1
    have e4 := flatten_set l3 k [a, b, c, d, r4] 4 f g3 (by omega)
    rw [← e4, List.set_set] at s4
    exact s4
theorem made_flatten (z : List Value) (hz : 0 < z.length) (n : Nat) : (madeCells z.toArray (n * z.length)).toList = (List.replicate n z).flatten := by
  apply List.ext_getElem?
  intro j
  have hfl : (List.replicate n z).flatten.length = n * z.length := by simp
  by_cases hj : j < n * z.length
  · have h1 : (madeCells z.toArray (n * z.length)).toList[j]? = z[j % z.length]? := by
      simp [madeCells, hj]
      rw [List.getElem?_eq_getElem (Nat.mod_lt _ hz)]
      rfl
    rw [h1]
    have hd : j / z.length < n := Nat.div_lt_of_lt_mul (by rw [Nat.mul_comm]; exact hj)
    have := flatten_get (xs := List.replicate n z) (size := z.length) (by simp) (j / z.length) z (by rw [List.getElem?_replicate]; simp [hd]) (j % z.length) (z[j % z.length]'(Nat.mod_lt _ hz)) (List.getElem?_eq_getElem _)
    rw [Nat.div_add_mod'] at this
    rw [this, List.getElem?_eq_getElem]
  · rw [List.getElem?_eq_none (by simp [size_madeCells]; omega), List.getElem?_eq_none (by omega)]
end Go.Proofs.Ytfmkejgdooammaa
