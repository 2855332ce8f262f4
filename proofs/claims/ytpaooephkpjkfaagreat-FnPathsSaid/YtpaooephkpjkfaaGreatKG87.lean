/- spec.l14Near, DrawDiffValues, DrawMergeValues, by the engine. Printed by gen_near.py. -/
import Derived.Test.YtpaooephkpjkfaaGreatKG86
import Derived.Test.YtpaooephkpjkfaaGreatKGX
import Derived.Test.YtpaooephkpjkfaaGreatKGD
import Derived.Test.YtpaooephkpjkfaaGreatKG45uG34
set_option linter.unusedSimpArgs false
set_option linter.unusedVariables false
set_option linter.unnecessarySimpa false
namespace Go.Proofs.YtpaooephkpjkfaaGreat
open Go.RowKit
set_option maxRecDepth 10000
theorem pick3 (bs : List Nat) (a : Nat) : -1000000000000000 ≤ pickN bs a [200, 199, -9] ∧ pickN bs a [200, 199, -9] ≤ 1000000000000000 := by
  have h := pickN_mem bs a (l := [200, 199, -9]) (by simp)
  simp only [List.mem_cons, List.not_mem_nil, or_false] at h
  omega
theorem two_sk (bs : List Nat) (a b : Nat) (i : Nat) (hi : i < 2) : ∃ q, [strV (keyN bs a), numV ((nextN bs b 5 : Nat) - 2 : Int)][i]? = some q ∧ sKey q := by
  have hy := nextN_lt bs b (n := 5) (by omega)
  rcases (show i = 0 ∨ i = 1 by omega) with rfl | rfl
  · exact ⟨_, rfl, sKey_str (keyWords_ok _ (keyN_mem bs a)).1⟩
  · exact ⟨_, rfl, sKey_num (by omega)⟩
theorem sk_nil : ∀ q ∈ ([] : List V), sKey q := fun q hq => absurd hq (by simp)
theorem sk_len {P : List V} (h : ∀ q ∈ P, sKey q) (hl : P.length ≤ 15) : PathOk P := ⟨hl, h⟩
theorem sk_cut {P : List V} (h : ∀ q ∈ P, sKey q) : PathOk (P.take 15) := ⟨by rw [List.length_take]; omega, sk_take h 15⟩
theorem allP_all (l : List (List V × V)) : allP false l = l.map (·.1) := by
  unfold allP
  congr 1
  exact List.filter_eq_self.2 fun p _ => rfl
set_option maxHeartbeats 1000000 in
theorem l13DrawPath_ac (bs : List Nat) (hb : BytesOk bs) (a : Nat) (ha : a ≤ 700000) (xs : List CellD) : ∃ P a', PathOk P ∧ a ≤ a' ∧ a' ≤ a + 20 ∧ DrawPathAC bs a xs P a' := by
  rcases dec_way xs with ⟨h1, h2⟩ | ⟨t, h1, hx, h4, h5, h6⟩
  · have h2 : (dec xs).1 ≠ 0 := h2
    cases h3 : nextN bs a 3 == 0 with
    | false =>
      cases h30 : nextN bs (a + 1) 30 == 0 with
      | false =>
        exact ⟨_, (a + 2), sk_len (P := []) sk_nil (by simp), by omega, by omega, drawPath_b000 bs hb a (by omega) xs h2 h3 h30 sk_nil⟩
      | true =>
        exact ⟨_, (a + 3), sk_len (P := [numV (pickN bs (a + 2) [200, 199, -9])]) (sk_snoc sk_nil (sKey_num (pick3 bs _))) (by simp), by omega, by omega, drawPath_b010 bs hb a (by omega) xs h2 h3 h30 _ rfl (sk_snoc sk_nil (sKey_num (pick3 bs _)))⟩
    | true =>
      obtain ⟨q, hq, hqs⟩ := two_sk bs (a + 1) (a + 2) (nextN bs (a + 3) 2) (nextN_lt bs _ (by omega))
      cases h30 : nextN bs (a + 4) 30 == 0 with
      | false =>
        exact ⟨_, (a + 5), sk_len (P := [q]) (sk_snoc sk_nil hqs) (by simp), by omega, by omega, drawPath_b100 bs hb a (by omega) xs h2 h3 h30 q hq (sk_snoc sk_nil hqs)⟩
      | true =>
        exact ⟨_, (a + 6), sk_len (P := [q, numV (pickN bs (a + 5) [200, 199, -9])]) (sk_snoc (sk_snoc sk_nil hqs) (sKey_num (pick3 bs _))) (by simp), by omega, by omega, drawPath_b110 bs hb a (by omega) xs h2 h3 h30 q hq _ rfl (sk_snoc (sk_snoc sk_nil hqs) (sKey_num (pick3 bs _)))⟩
  · subst hx
    have ht : t.right := ⟨h4, h5, h6⟩
    have hpl := paths_len t []
    have hall := allP_all (t.paths [])
    have hlen : 0 < (allP false (t.paths [])).length ∧ (allP false (t.paths [])).length ≤ 200 := by
      rw [hall, List.length_map, hpl]
      exact ⟨count_pos t, h5⟩
    have hlt := nextN_lt bs a hlen.1
    obtain ⟨P0, hP0⟩ : ∃ P0, (allP false (t.paths []))[nextN bs a (allP false (t.paths [])).length]? = some P0 := ⟨_, List.getElem?_eq_getElem hlt⟩
    have hmem : P0 ∈ (t.paths []).map (·.1) := by rw [← hall]; exact List.mem_of_getElem? hP0
    obtain ⟨pr, hpr, rfl⟩ := List.mem_map.1 hmem
    obtain ⟨hs0, hd0⟩ := paths_sk t [] ht (by simp) pr hpr
    have hl0 : pr.1.length ≤ 20 := by
      have := depth_pos pr.2
      simp only [List.length_nil, Nat.zero_add] at hd0
      omega
    generalize pr.1 = P0 at *
    cases h3 : nextN bs (a + 1) 3 == 0 with
    | false =>
      cases h30 : nextN bs (a + 2) 30 == 0 with
      | false =>
        by_cases hcut : P0.length > 15
        · exact ⟨_, (a + 3), sk_cut hs0, by omega, by omega, drawPath_v001 bs hb a (by omega) ht P0 hP0 hlen hs0 hl0 h3 h30 hcut hs0⟩
        · exact ⟨_, (a + 3), sk_len hs0 (by omega), by omega, by omega, drawPath_v000 bs hb a (by omega) ht P0 hP0 hlen hs0 hl0 h3 h30 (by omega) hs0⟩
      | true =>
        by_cases hcut : (P0 ++ [numV (pickN bs (a + 3) [200, 199, -9])]).length > 15
        · exact ⟨_, (a + 4), sk_cut (sk_snoc hs0 (sKey_num (pick3 bs _))), by omega, by omega, drawPath_v011 bs hb a (by omega) ht P0 hP0 hlen hs0 hl0 h3 h30 _ rfl hcut (sk_snoc hs0 (sKey_num (pick3 bs _)))⟩
        · exact ⟨_, (a + 4), sk_len (sk_snoc hs0 (sKey_num (pick3 bs _))) (by omega), by omega, by omega, drawPath_v010 bs hb a (by omega) ht P0 hP0 hlen hs0 hl0 h3 h30 _ rfl (by omega) (sk_snoc hs0 (sKey_num (pick3 bs _)))⟩
    | true =>
      obtain ⟨q, hq, hqs⟩ := two_sk bs (a + 2) (a + 3) (nextN bs (a + 4) 2) (nextN_lt bs _ (by omega))
      cases h30 : nextN bs (a + 5) 30 == 0 with
      | false =>
        by_cases hcut : (P0 ++ [q]).length > 15
        · exact ⟨_, (a + 6), sk_cut (sk_snoc hs0 hqs), by omega, by omega, drawPath_v101 bs hb a (by omega) ht P0 hP0 hlen hs0 hl0 h3 h30 q hq hcut (sk_snoc hs0 hqs)⟩
        · exact ⟨_, (a + 6), sk_len (sk_snoc hs0 hqs) (by omega), by omega, by omega, drawPath_v100 bs hb a (by omega) ht P0 hP0 hlen hs0 hl0 h3 h30 q hq (by omega) (sk_snoc hs0 hqs)⟩
      | true =>
        by_cases hcut : ((P0 ++ [q]) ++ [numV (pickN bs (a + 6) [200, 199, -9])]).length > 15
        · exact ⟨_, (a + 7), sk_cut (sk_snoc (sk_snoc hs0 hqs) (sKey_num (pick3 bs _))), by omega, by omega, drawPath_v111 bs hb a (by omega) ht P0 hP0 hlen hs0 hl0 h3 h30 q hq _ rfl hcut (sk_snoc (sk_snoc hs0 hqs) (sKey_num (pick3 bs _)))⟩
        · exact ⟨_, (a + 7), sk_len (sk_snoc (sk_snoc hs0 hqs) (sKey_num (pick3 bs _))) (by omega), by omega, by omega, drawPath_v110 bs hb a (by omega) ht P0 hP0 hlen hs0 hl0 h3 h30 q hq _ rfl (by omega) (sk_snoc (sk_snoc hs0 hqs) (sKey_num (pick3 bs _)))⟩
theorem okRes_ways {r : Int × Option V} (h : okRes r) : (∃ v, r = (0, some v) ∧ v.right) ∨ ∃ c, c ≠ 0 ∧ r = (c, none) := by
  obtain ⟨c, o⟩ := r
  cases o with
  | none => exact .inr ⟨c, h, rfl⟩
  | some v => exact .inl ⟨v, by rw [show c = 0 from h.1], h.2⟩
end Go.Proofs.YtpaooephkpjkfaaGreat
