/- Texts of this proof: M23 M28. -/
import Derived.Test.YtlciedpfjhkkdaaGreatDoorKG21uM3
import Derived.Test.YtlciedpfjhkkdaaGreatDoorKM2
set_option linter.unusedSimpArgs false
set_option linter.unusedVariables false
set_option linter.unnecessarySimpa false
namespace Go.Proofs.YtlciedpfjhkkdaaGreatDoor
open Go.RowKit
theorem leaf_right {k n : Int} {s : ByteArray} (h : cellCode k n s ByteArray.empty 0 = 0) (h6 : k ≠ 6) : (V.mk k n s [] []).right := by
 refine ⟨⟨h, ?_, trivial⟩, by simp [V.count, countL], by simp [V.depth, depthL]⟩
 unfold keysOk
 rw [if_neg h6]
theorem numV_right {n : Int} (h : -1000000000000000 ≤ n ∧ n ≤ 1000000000000000) : (numV n).right := by
 refine leaf_right ?_ (by decide)
 unfold cellCode
 have h1 : inB 3 0 6 = true := by decide
 have h2 : inB n (-1000000000000000) 1000000000000000 = true := by unfold inB; simp; omega
 simp [h1, cF, cR, cT, okText_empty, holds, h2, inB]
 omega
def byteCs (b : Nat) : List C := [.int .u8 (b : Int)]
def nextN (bs : List Nat) (at1 n : Nat) : Nat :=
 if n < 1 then 0 else if bs = [] then (at1 * 7) % n
 else if n ≤ 200 then (bs.getD (at1 % bs.length) 0 + at1 / bs.length * 37) % n
 else ((bs.getD (at1 % bs.length) 0 + at1 / bs.length * 37) * 251 + bs.getD ((at1 + 1) % bs.length) 0 * 13 + at1) % n
theorem nextN_lt (bs : List Nat) (at1 : Nat) {n : Nat} (h : 0 < n) : nextN bs at1 n < n := by
 unfold nextN
 rw [if_neg (by omega)]
 split
 ·exact Nat.mod_lt _ h
 ·split
  ·exact Nat.mod_lt _ h
  ·exact Nat.mod_lt _ h
def pickN (bs : List Nat) (at1 : Nat) (l : List Int) : Int := l.getD (nextN bs at1 l.length) 0
theorem pickN_mem (bs : List Nat) (at1 : Nat) {l : List Int} (h : l ≠ []) : pickN bs at1 l ∈ l := by
 unfold pickN
 have hl : 0 < l.length := List.length_pos_iff.2 h
 have := nextN_lt bs at1 hl
 rw [List.getD_eq_getElem?_getD, List.getElem?_eq_getElem this, Option.getD_some]
 exact List.getElem_mem _
def words : List ByteArray := [⟨#[97]⟩, ⟨#[98]⟩, ⟨#[99]⟩, ⟨#[105, 100]⟩, ByteArray.empty, ⟨#[120, 32, 121]⟩, ⟨#[97, 98]⟩, ⟨#[34, 113, 92]⟩]
def keyWords : List ByteArray := [⟨#[97]⟩, ⟨#[98]⟩, ⟨#[99]⟩, ⟨#[105, 100]⟩]
def wordN (bs : List Nat) (at1 : Nat) : ByteArray := words.getD (nextN bs at1 8) ByteArray.empty
def keyN (bs : List Nat) (at1 : Nat) : ByteArray := keyWords.getD (nextN bs at1 4) ByteArray.empty
theorem words_ok : ∀ w ∈ words, okText w = true ∧ w.size ≤ 60 := by decide +kernel
theorem keyWords_ok : ∀ w ∈ keyWords, okText w = true ∧ w.size ≤ 60 := by decide +kernel
theorem wordN_mem (bs : List Nat) (at1 : Nat) : wordN bs at1 ∈ words := by
 unfold wordN
 have := nextN_lt bs at1 (n := 8) (by omega)
 rw [List.getD_eq_getElem?_getD, List.getElem?_eq_getElem (by exact this), Option.getD_some]
 exact List.getElem_mem _
theorem keyN_mem (bs : List Nat) (at1 : Nat) : keyN bs at1 ∈ keyWords := by
 unfold keyN
 have := nextN_lt bs at1 (n := 4) (by omega)
 rw [List.getD_eq_getElem?_getD, List.getElem?_eq_getElem (by exact this), Option.getD_some]
 exact List.getElem_mem _
def drawL (f : Nat → V × Nat) : Nat → Nat → List V × Nat
 | 0, a => ([], a)
 | n + 1, a => ((f a).1 :: (drawL f n (f a).2).1, (drawL f n (f a).2).2)
def drawK (bs : List Nat) (f : Nat → V × Nat) : Nat → Nat → List ByteArray × List V × Nat
 | 0, a => ([], [], a)
 | n + 1, a => (keyN bs a :: (drawK bs f n (f (a + 1)).2).1, (f (a + 1)).1 :: (drawK bs f n (f (a + 1)).2).2.1, (drawK bs f n (f (a + 1)).2).2.2)
def leafD (bs : List Nat) (k a : Nat) : V × Nat :=
 if k ≤ 2 then (V.mk k 0 ByteArray.empty [] [], a)
 else if k ≤ 5 then (numV (pickN bs (a + 3) [(nextN bs a 9 : Int), (nextN bs (a + 1) 9 : Int), -(nextN bs (a + 2) 40 : Int), 1000000000000000]), a + 4)
 else (strV (wordN bs a), a + 1)
def kindD (bs : List Nat) (d a : Nat) : Nat := if d = 0 ∧ nextN bs a 10 > 6 then nextN bs a 10 - 5 else nextN bs a 10
def valD (bs : List Nat) : Nat → Nat → V × Nat
 | 0, a => leafD bs (kindD bs 0 a) (a + 1)
 | d + 1, a =>
  if kindD bs (d + 1) a ≤ 6 then leafD bs (kindD bs (d + 1) a) (a + 1)
  else if kindD bs (d + 1) a ≤ 8 then (arrV (drawL (valD bs d) (nextN bs (a + 1) 4) (a + 2)).1, (drawL (valD bs d) (nextN bs (a + 1) 4) (a + 2)).2)
  else (objV (drawK bs (valD bs d) (nextN bs (a + 1) 4) (a + 2)).1 (drawK bs (valD bs d) (nextN bs (a + 1) 4) (a + 2)).2.1, (drawK bs (valD bs d) (nextN bs (a + 1) 4) (a + 2)).2.2)
theorem kindD_le (bs : List Nat) (d a : Nat) : kindD bs d a ≤ 9 ∧ (d = 0 → kindD bs d a ≤ 6) := by
 unfold kindD
 have := nextN_lt bs a (n := 10) (by omega)
 split <;> omega
def DrawnOk (a : Nat) (C D B : Nat) (r : V × Nat) : Prop := r.1.wf ∧ r.1.count ≤ C ∧ r.1.depth ≤ D ∧ a ≤ r.2 ∧ r.2 ≤ a + B
theorem leafD_ok (bs : List Nat) {k : Nat} (hk : k ≤ 6) (a : Nat) : DrawnOk a 1 1 4 (leafD bs k a) := by
 unfold leafD
 split
 ·have : (V.mk (k : Int) 0 ByteArray.empty [] []).right := by
   rcases (show k = 0 ∨ k = 1 ∨ k = 2 by omega) with rfl | rfl | rfl
   ·exact leaf_right (by decide +kernel) (by decide)
   ·exact leaf_right (by decide +kernel) (by decide)
   ·exact leaf_right (by decide +kernel) (by decide)
  exact ⟨this.1, by simp [V.count, countL], by simp [V.depth, depthL], Nat.le_refl _, by omega⟩
 ·split
  ·have h1 := pickN_mem bs (a + 3) (l := [(nextN bs a 9 : Int), (nextN bs (a + 1) 9 : Int), -(nextN bs (a + 2) 40 : Int), 1000000000000000]) (by simp)
   have n1 := nextN_lt bs a (n := 9) (by omega)
   have n2 := nextN_lt bs (a + 1) (n := 9) (by omega)
   have n3 := nextN_lt bs (a + 2) (n := 40) (by omega)
   generalize pickN bs (a + 3) _ = x at *
   have hx : -1000000000000000 ≤ x ∧ x ≤ 1000000000000000 := by
    simp only [List.mem_cons, List.not_mem_nil, or_false] at h1
    omega
   exact ⟨(numV_right hx).1, by simp [numV, V.count, countL], by simp [numV, V.depth, depthL], by show a ≤ a + 4; omega, by show a + 4 ≤ a + 4; omega⟩
  ·have hw := words_ok _ (wordN_mem bs a)
   have : (strV (wordN bs a)).right := by
    refine leaf_right ?_ (by decide)
    unfold cellCode
    have h2 : inB 0 (-1000000000000000) 1000000000000000 = true := by decide
    simp [cF, cR, cT, okText_empty, holds, h2, inB, hw.1]
   exact ⟨this.1, by simp [strV, V.count, countL], by simp [strV, V.depth, depthL], by show a ≤ a + 1; omega, by show a + 1 ≤ a + 4; omega⟩
def capC : Nat → Nat
 | 0 => 1
 | d + 1 => 1 + 3 * capC d
def capB : Nat → Nat
 | 0 => 5
 | d + 1 => 5 + 3 * (1 + capB d)
theorem drawL_ok {f : Nat → V × Nat} {C B D : Nat} (hf : ∀ a, DrawnOk a C D B (f a)) : ∀ (n a : Nat), (drawL f n a).1.length = n ∧ wfL (drawL f n a).1 ∧ countL (drawL f n a).1 ≤ n * C ∧ depthL (drawL f n a).1 ≤ D ∧ a ≤ (drawL f n a).2 ∧ (drawL f n a).2 ≤ a + n * B
 | 0, a => ⟨rfl, trivial, Nat.zero_le _, Nat.zero_le _, Nat.le_refl _, by simp [drawL]⟩
 | n + 1, a => by
  obtain ⟨h1, h2, h3, h4, h5⟩ := hf a
  obtain ⟨g1, g2, g3, g4, g5, g6⟩ := drawL_ok hf n (f a).2
  refine ⟨by simp [drawL, g1], ⟨h1, g2⟩, ?_, ?_, ?_, ?_⟩
  ·show countL (_ :: _) ≤ _
   simp only [countL]
   rw [Nat.succ_mul]
   omega
  ·show depthL (_ :: _) ≤ _
   simp only [depthL]
   omega
  ·show a ≤ (drawL f n (f a).2).2
   omega
  ·show (drawL f n (f a).2).2 ≤ _
   rw [Nat.succ_mul]
   omega
theorem drawK_ok (bs : List Nat) {f : Nat → V × Nat} {C B D : Nat} (hf : ∀ a, DrawnOk a C D B (f a)) : ∀ (n a : Nat), (drawK bs f n a).1.length = n ∧ (∀ k ∈ (drawK bs f n a).1, k ∈ keyWords) ∧ (drawK bs f n a).2.1.length = n ∧ wfL (drawK bs f n a).2.1 ∧ countL (drawK bs f n a).2.1 ≤ n * C ∧ depthL (drawK bs f n a).2.1 ≤ D ∧ a ≤ (drawK bs f n a).2.2 ∧ (drawK bs f n a).2.2 ≤ a + n * (B + 1)
 | 0, a => ⟨rfl, by simp [drawK], rfl, trivial, Nat.zero_le _, Nat.zero_le _, Nat.le_refl _, by simp [drawK]⟩
 | n + 1, a => by
  obtain ⟨h1, h2, h3, h4, h5⟩ := hf (a + 1)
  obtain ⟨g1, g0, g7, g2, g3, g4, g5, g6⟩ := drawK_ok bs hf n (f (a + 1)).2
  refine ⟨by simp [drawK, g1], fun k hk => ?_, by simp [drawK, g7], ⟨h1, g2⟩, ?_, ?_, ?_, ?_⟩
  ·have hk : k ∈ keyN bs a :: (drawK bs f n (f (a + 1)).2).1 := hk
   rcases List.mem_cons.1 hk with rfl | hk
   ·exact keyN_mem bs a
   ·exact g0 k hk
  ·show countL (_ :: _) ≤ _
   simp only [countL]
   rw [Nat.succ_mul]
   omega
  ·show depthL (_ :: _) ≤ _
   simp only [depthL]
   omega
  ·show a ≤ (drawK bs f n (f (a + 1)).2).2.2
   omega
  ·show (drawK bs f n (f (a + 1)).2).2.2 ≤ _
   rw [Nat.succ_mul]
   omega
theorem valD_ok (bs : List Nat) : ∀ (d a : Nat), DrawnOk a (capC d) (d + 1) (capB d) (valD bs d a)
 | 0, a => by
  have hk := (kindD_le bs 0 a).2 rfl
  obtain ⟨h1, h2, h3, h4, h5⟩ := leafD_ok bs hk (a + 1)
  unfold valD
  exact ⟨h1, h2, h3, by omega, by show _ ≤ a + 5; omega⟩
 | d + 1, a => by
  have hk := (kindD_le bs (d + 1) a).1
  have ih := valD_ok bs d
  have hn := nextN_lt bs (a + 1) (n := 4) (by omega)
  have hc1 : capC (d + 1) = 1 + 3 * capC d := rfl
  have hb1 : capB (d + 1) = 5 + 3 * (1 + capB d) := rfl
  unfold valD
  split
  ·rename_i h6
   obtain ⟨h1, h2, h3, h4, h5⟩ := leafD_ok bs h6 (a + 1)
   exact ⟨h1, by omega, by omega, by omega, by omega⟩
  ·split
   ·obtain ⟨g1, g2, g3, g4, g5, g6⟩ := drawL_ok ih (nextN bs (a + 1) 4) (a + 2)
    generalize drawL (valD bs d) (nextN bs (a + 1) 4) (a + 2) = q at *
    generalize nextN bs (a + 1) 4 = n at *
    have hm1 : n * capC d ≤ 3 * capC d := Nat.mul_le_mul_right _ (by omega)
    have hm2 : n * capB d ≤ 3 * capB d := Nat.mul_le_mul_right _ (by omega)
    refine ⟨arr_wf g2 (by omega), ?_, ?_, ?_, ?_⟩
    ·simp only [arrV, V.count]; omega
    ·simp only [arrV, V.depth]; omega
    ·show a ≤ q.2; omega
    ·show q.2 ≤ _; omega
   ·obtain ⟨g1, g0, g7, g2, g3, g4, g5, g6⟩ := drawK_ok bs ih (nextN bs (a + 1) 4) (a + 2)
    generalize drawK bs (valD bs d) (nextN bs (a + 1) 4) (a + 2) = q at *
    generalize nextN bs (a + 1) 4 = n at *
    have hm1 : n * capC d ≤ 3 * capC d := Nat.mul_le_mul_right _ (by omega)
    have hm2 : n * (capB d + 1) ≤ 3 * (capB d + 1) := Nat.mul_le_mul_right _ (by omega)
    have hc := objV_count n q.1 q.2.1 g1 g7
    have hmem : ∀ v ∈ (objKeys q.1).map (lastKid q.1 q.2.1), v ∈ q.2.1 := fun v hv => by
     obtain ⟨x, hx, rfl⟩ := List.mem_map.1 hv
     obtain ⟨j, _, _, h3⟩ := lastKid_at (kids := q.2.1) (by omega) (objKeys_mem.1 hx)
     exact List.mem_of_getElem? h3
    have hcl := countL_len ((objKeys q.1).map (lastKid q.1 q.2.1))
    have hlen : ((objKeys q.1).map (lastKid q.1 q.2.1)).length ≤ 200 := by
     have := objKeys_len q.1
     rw [List.length_map]; omega
    refine ⟨obj_wf (by simp) (fun k hk => (keyWords_ok k (g0 k (objKeys_mem.1 hk))).1) (objKeys_up _) (fun v hv => wfL_mem g2 v (hmem v hv)) hlen, ?_, ?_, ?_, ?_⟩
    ·simp only [objV, V.count]; omega
    ·simp only [objV, V.depth]
     have := depthL_le (m := depthL q.2.1) (h := fun v hv => depthL_mem (hmem v hv))
     omega
    ·show a ≤ q.2.2; omega
    ·show q.2.2 ≤ _; omega
end Go.Proofs.YtlciedpfjhkkdaaGreatDoor
