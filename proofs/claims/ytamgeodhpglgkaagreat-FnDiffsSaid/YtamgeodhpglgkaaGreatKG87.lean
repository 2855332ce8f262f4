/- spec.l14Near, DrawDiffValues, DrawMergeValues, by the engine. Printed by gen_near.py. -/
import Derived.Test.YtamgeodhpglgkaaGreatKG86
import Derived.Test.YtamgeodhpglgkaaGreatKGX
import Derived.Test.YtamgeodhpglgkaaGreatKGD
set_option linter.unusedSimpArgs false
set_option maxHeartbeats 8000000
namespace Go.Proofs.YtamgeodhpglgkaaGreat
open Go.RowKit
set_option maxRecDepth 10000
theorem pick3 (bs : List Nat) (a : Nat) : -1000000000000000 ≤ pickN bs a [200, 199, -9] ∧ pickN bs a [200, 199, -9] ≤ 1000000000000000 := by
 have h := pickN_mem bs a (l := [200, 199, -9]) (by simp)
 simp only [List.mem_cons, List.not_mem_nil, or_false] at h
 omega
theorem two_sk (bs : List Nat) (a b : Nat) (i : Nat) (hi : i < 2) : ∃ q, [strV (keyN bs a), numV ((nextN bs b 5 : Nat) - 2 : Int)][i]? = some q ∧ sKey q := by
 have hy := nextN_lt bs b (n := 5) (by omega)
 rcases (show i = 0 ∨ i = 1 by omega) with rfl | rfl
 ·exact ⟨_, rfl, sKey_str (keyWords_ok _ (keyN_mem bs a)).1⟩
 ·exact ⟨_, rfl, sKey_num (by omega)⟩
theorem sk_nil : ∀ q ∈ ([] : List V), sKey q := fun q hq => absurd hq (by simp)
theorem sk_len {P : List V} (h : ∀ q ∈ P, sKey q) (hl : P.length ≤ 15) : PathOk P := ⟨hl, h⟩
theorem sk_cut {P : List V} (h : ∀ q ∈ P, sKey q) : PathOk (P.take 15) := ⟨by rw [List.length_take]; omega, sk_take h 15⟩
theorem allP_all (l : List (List V × V)) : allP false l = l.map (·.1) := by
 unfold allP
 congr 1
 exact List.filter_eq_self.2 fun p _ => rfl
theorem l13DrawPath_ac (bs : List Nat) (hb : BytesOk bs) (a : Nat) (ha : a ≤ 700000) (xs : List CellD) : ∃ P a', PathOk P ∧ a ≤ a' ∧ a' ≤ a + 20 ∧ DrawPathAC bs a xs P a' := by
 rcases dec_way xs with ⟨h1, h2⟩ | ⟨t, h1, hx, h4, h5, h6⟩
 ·have h2 : (dec xs).1 ≠ 0 := h2
  cases h3 : nextN bs a 3 == 0 with
  | false =>
   cases h30 : nextN bs (a + 1) 30 == 0 with
   | false =>
    exact ⟨_, (a + 2), sk_len (P := []) sk_nil (by simp), by omega, by omega, drawPath_b000 bs hb a (by omega) xs h2 h3 h30 sk_nil⟩
   | true =>
    exact ⟨_, (a + 3), sk_len (P := [numV (pickN bs (a + 2) [200, 199, -9])]) (sk_snoc sk_nil (sKey_num (pick3 bs _))) (by simp), by omega, by omega, drawPath_b010 bs hb a (by omega) xs h2 h3 h30 _ rfl (sk_snoc sk_nil (sKey_num (pick3 bs _)))⟩
  | true =>
   obtain ⟨q, hq, hqs⟩ := two_sk bs (a + 1) (a + 2) (nextN bs (a + 3) 2) (nextN_lt bs _ (by omega))
   cases h30 : nextN bs (a + 4) 30 == 0 with
   | false =>
    exact ⟨_, (a + 5), sk_len (P := [q]) (sk_snoc sk_nil hqs) (by simp), by omega, by omega, drawPath_b100 bs hb a (by omega) xs h2 h3 h30 q hq (sk_snoc sk_nil hqs)⟩
   | true =>
    exact ⟨_, (a + 6), sk_len (P := [q, numV (pickN bs (a + 5) [200, 199, -9])]) (sk_snoc (sk_snoc sk_nil hqs) (sKey_num (pick3 bs _))) (by simp), by omega, by omega, drawPath_b110 bs hb a (by omega) xs h2 h3 h30 q hq _ rfl (sk_snoc (sk_snoc sk_nil hqs) (sKey_num (pick3 bs _)))⟩
 ·subst hx
  have ht : t.right := ⟨h4, h5, h6⟩
  have hpl := paths_len t []
  have hall := allP_all (t.paths [])
  have hlen : 0 < (allP false (t.paths [])).length ∧ (allP false (t.paths [])).length ≤ 200 := by
   rw [hall, List.length_map, hpl]
   exact ⟨count_pos t, h5⟩
  have hlt := nextN_lt bs a hlen.1
  obtain ⟨P0, hP0⟩ : ∃ P0, (allP false (t.paths []))[nextN bs a (allP false (t.paths [])).length]? = some P0 := ⟨_, List.getElem?_eq_getElem hlt⟩
  have hmem : P0 ∈ (t.paths []).map (·.1) := by rw [← hall]; exact List.mem_of_getElem? hP0
  obtain ⟨pr, hpr, rfl⟩ := List.mem_map.1 hmem
  obtain ⟨hs0, hd0⟩ := paths_sk t [] ht (by simp) pr hpr
  have hl0 : pr.1.length ≤ 20 := by
   have := depth_pos pr.2
   simp only [List.length_nil, Nat.zero_add] at hd0
   omega
  generalize pr.1 = P0 at *
  cases h3 : nextN bs (a + 1) 3 == 0 with
  | false =>
   cases h30 : nextN bs (a + 2) 30 == 0 with
   | false =>
    by_cases hcut : P0.length > 15
    ·exact ⟨_, (a + 3), sk_cut hs0, by omega, by omega, drawPath_v001 bs hb a (by omega) ht P0 hP0 hlen hs0 hl0 h3 h30 hcut hs0⟩
    ·exact ⟨_, (a + 3), sk_len hs0 (by omega), by omega, by omega, drawPath_v000 bs hb a (by omega) ht P0 hP0 hlen hs0 hl0 h3 h30 (by omega) hs0⟩
   | true =>
    by_cases hcut : (P0 ++ [numV (pickN bs (a + 3) [200, 199, -9])]).length > 15
    ·exact ⟨_, (a + 4), sk_cut (sk_snoc hs0 (sKey_num (pick3 bs _))), by omega, by omega, drawPath_v011 bs hb a (by omega) ht P0 hP0 hlen hs0 hl0 h3 h30 _ rfl hcut (sk_snoc hs0 (sKey_num (pick3 bs _)))⟩
    ·exact ⟨_, (a + 4), sk_len (sk_snoc hs0 (sKey_num (pick3 bs _))) (by omega), by omega, by omega, drawPath_v010 bs hb a (by omega) ht P0 hP0 hlen hs0 hl0 h3 h30 _ rfl (by omega) (sk_snoc hs0 (sKey_num (pick3 bs _)))⟩
  | true =>
   obtain ⟨q, hq, hqs⟩ := two_sk bs (a + 2) (a + 3) (nextN bs (a + 4) 2) (nextN_lt bs _ (by omega))
   cases h30 : nextN bs (a + 5) 30 == 0 with
   | false =>
    by_cases hcut : (P0 ++ [q]).length > 15
    ·exact ⟨_, (a + 6), sk_cut (sk_snoc hs0 hqs), by omega, by omega, drawPath_v101 bs hb a (by omega) ht P0 hP0 hlen hs0 hl0 h3 h30 q hq hcut (sk_snoc hs0 hqs)⟩
    ·exact ⟨_, (a + 6), sk_len (sk_snoc hs0 hqs) (by omega), by omega, by omega, drawPath_v100 bs hb a (by omega) ht P0 hP0 hlen hs0 hl0 h3 h30 q hq (by omega) (sk_snoc hs0 hqs)⟩
   | true =>
    by_cases hcut : ((P0 ++ [q]) ++ [numV (pickN bs (a + 6) [200, 199, -9])]).length > 15
    ·exact ⟨_, (a + 7), sk_cut (sk_snoc (sk_snoc hs0 hqs) (sKey_num (pick3 bs _))), by omega, by omega, drawPath_v111 bs hb a (by omega) ht P0 hP0 hlen hs0 hl0 h3 h30 q hq _ rfl hcut (sk_snoc (sk_snoc hs0 hqs) (sKey_num (pick3 bs _)))⟩
    ·exact ⟨_, (a + 7), sk_len (sk_snoc (sk_snoc hs0 hqs) (sKey_num (pick3 bs _))) (by omega), by omega, by omega, drawPath_v110 bs hb a (by omega) ht P0 hP0 hlen hs0 hl0 h3 h30 q hq _ rfl (by omega) (sk_snoc (sk_snoc hs0 hqs) (sKey_num (pick3 bs _)))⟩
def nearStep (bs : List Nat) (f : Nat → V → List V × Nat) (x : V × Nat) : V × Nat :=
 (match (if nextN bs (valD bs 1 (f x.2 x.1).2).2 3 == 0 then dropPathV (f x.2 x.1).1 x.1 else setPathV (valD bs 1 (f x.2 x.1).2).1 (f x.2 x.1).1 x.1).2 with
  | some v => v
  | none => x.1, (valD bs 1 (f x.2 x.1).2).2 + 1)
def nearGo (bs : List Nat) (f : Nat → V → List V × Nat) : Nat → V × Nat → V × Nat
 | 0, x => x
 | n + 1, x => nearGo bs f n (nearStep bs f x)
theorem right13 {t : V} (h1 : t.wf) (h2 : t.count ≤ 13) (h3 : t.depth ≤ 3) : t.right := ⟨h1, by omega, by omega⟩
theorem near_fun (bs : List Nat) (hb : BytesOk bs) : ∃ f : Nat → V → List V × Nat, ∀ a u, a ≤ 700000 → PathOk (f a u).1 ∧ a ≤ (f a u).2 ∧ (f a u).2 ≤ a + 20 ∧ DrawPathAC bs a u.enc (f a u).1 (f a u).2 := by
 obtain ⟨f, hf⟩ := Classical.axiomOfChoice (r := fun (x : Nat × V) (y : List V × Nat) => x.1 ≤ 700000 → PathOk y.1 ∧ x.1 ≤ y.2 ∧ y.2 ≤ x.1 + 20 ∧ DrawPathAC bs x.1 x.2.enc y.1 y.2) (fun x => by
  by_cases hx : x.1 ≤ 700000
  ·obtain ⟨P, a', h1, h2, h3, h4⟩ := l13DrawPath_ac bs hb x.1 hx x.2.enc
   exact ⟨(P, a'), fun _ => ⟨h1, h2, h3, h4⟩⟩
  ·exact ⟨([], 0), fun h => absurd h hx⟩)
 exact ⟨fun a u => f (a, u), fun a u h => hf (a, u) h⟩
theorem pathOk_keys {P : List V} (h : PathOk P) : P.length ≤ 1000000 ∧ ∀ k ∈ P, k.right ∧ (k.kind = 3 ∨ k.kind = 4) := ⟨by have := h.1; omega, fun k hk => ⟨(h.2 k hk).1, (h.2 k hk).2.2.2⟩⟩
theorem nearStep_ok (bs : List Nat) {f : Nat → V → List V × Nat} (hf : ∀ a u, a ≤ 700000 → PathOk (f a u).1 ∧ a ≤ (f a u).2 ∧ (f a u).2 ≤ a + 20 ∧ DrawPathAC bs a u.enc (f a u).1 (f a u).2) {x : V × Nat} (hu : x.1.right) (ha : x.2 ≤ 600000) :
  (nearStep bs f x).1.right ∧ x.2 ≤ (nearStep bs f x).2 ∧ (nearStep bs f x).2 ≤ x.2 + 50 := by
 obtain ⟨h1, h2, h3, _⟩ := hf x.2 x.1 (by omega)
 obtain ⟨v1, v2, v3, v4, v5⟩ := valD_ok bs 1 (f x.2 x.1).2
 have hB1 : capB 1 = 23 := rfl
 have hC1 : capC 1 = 4 := rfl
 have hw : (valD bs 1 (f x.2 x.1).2).1.right := ⟨v1, by omega, by omega⟩
 have hk := (pathOk_keys h1).2
 refine ⟨?_, by show x.2 ≤ _ + 1; omega, by show _ + 1 ≤ _; omega⟩
 unfold nearStep
 dsimp only
 split
 ·rename_i v hv
  split at hv
  ·have := dropPath_ok (f x.2 x.1).1 hk x.1 hu
   unfold okRes at this
   rw [hv] at this
   exact this.2
  ·have := setPath_ok hw (f x.2 x.1).1 hk x.1 hu
   unfold okRes at this
   rw [hv] at this
   exact this.2
 ·exact hu
theorem okRes_ways {r : Int × Option V} (h : okRes r) : (∃ v, r = (0, some v) ∧ v.right) ∨ ∃ c, c ≠ 0 ∧ r = (c, none) := by
 obtain ⟨c, o⟩ := r
 cases o with
 | none => exact .inr ⟨c, h, rfl⟩
 | some v => exact .inl ⟨v, by rw [show c = 0 from h.1], h.2⟩
theorem l14Near_ac (bs : List Nat) (hb : BytesOk bs) : ∃ xs ys a', Sized xs ∧ Sized ys ∧ a' ≤ 2000 ∧ AC Tryz.prog 74 [.c (.sl (bs.map byteCs))] [] (.tup [cellsA xs, cellsA ys, .ptr (0, 0) 0]) (srcM bs a') := by
 obtain ⟨f, hf⟩ := near_fun bs hb
 have s0 := l1Source_ac bs
 obtain ⟨v1, v2, v3, v4, v5⟩ := valD_ok bs 2 0
 have hB2 : capB 2 = 77 := rfl
 have hC2 : capC 2 = 13 := rfl
 have hB1 : capB 1 = 23 := rfl
 have hC1 : capC 1 = 4 := rfl
 have c1 : AC Tryz.prog 143 [.ptr (0, 0) 0, .c (.int .i64 3)] (srcM bs 0) (.own (0, 1)) (bentM bs (valD bs 2 0).1.enc (valD bs 2 0).2) := l1Value_ac bs hb 2 (by omega) 0 (by omega)
 have ht : (valD bs 2 0).1.right := right13 v1 (by omega) v3
 have hel := enc_len (valD bs 2 0).1
 generalize valD bs 2 0 = r0 at *
 obtain ⟨t, a0⟩ := r0
 dsimp only at v1 v2 v3 v4 v5 c1 ht hel
 have hz1 : 0 + t.enc.length ≤ 1000000 := by omega
 have n1 := l1Next_ac bs hb a0 4 (by omega) (by omega)
 have hn := nextN_lt bs a0 (n := 4) (by omega)
 generalize nextN bs a0 4 = n at *
 -- what is there behind the loop
 obtain ⟨y, hy⟩ : ∃ y, nearGo bs f n (t, a0 + 1) = y := ⟨_, rfl⟩
 have hgo : ∀ (m : Nat) (x : V × Nat), m ≤ 3 → x.1.right → x.2 + 50 * m ≤ 600000 → (nearGo bs f m x).1.right ∧ (nearGo bs f m x).2 ≤ x.2 + 50 * m := fun m => by
  induction m with
  | zero => intro x _ hu _; exact ⟨hu, by simp [nearGo]⟩
  | succ m ih =>
   intro x hm hu hx
   obtain ⟨g1, g2, g3⟩ := nearStep_ok bs hf hu (by omega)
   obtain ⟨k1, k2⟩ := ih (nearStep bs f x) (by omega) g1 (by omega)
   exact ⟨k1, by show (nearGo bs f m (nearStep bs f x)).2 ≤ _; omega⟩
 have hyr := hgo n (t, a0 + 1) (by omega) ht (by dsimp only; omega)
 rw [hy] at hyr
 dsimp only at hyr
 obtain ⟨u, au⟩ := y
 dsimp only at hyr
 obtain ⟨hur, hau⟩ := hyr
 -- behind the loop
 have c6 := l1Chance_ac bs hb au 6 (by omega) (by omega)
 obtain ⟨w1, w2, w3, w4, w5⟩ := valD_ok bs 2 (au + 1)
 have cv : AC Tryz.prog 143 [.ptr (0, 0) 0, .c (.int .i64 3)] (srcM bs (au + 1)) (.own (0, 1)) (bentM bs (valD bs 2 (au + 1)).1.enc (valD bs 2 (au + 1)).2) := l1Value_ac bs hb 2 (by omega) (au + 1) (by omega)
 have hwr : (valD bs 2 (au + 1)).1.right := right13 w1 (by omega) w3
 generalize valD bs 2 (au + 1) = r1 at *
 obtain ⟨t2, a2⟩ := r1
 dsimp only at w1 w2 w3 w4 w5 cv hwr
 obtain ⟨b6, hb6⟩ : ∃ b6, (nextN bs au 6 == 0) = b6 := ⟨_, rfl⟩
 rw [hb6] at c6
 obtain ⟨a3, ha3⟩ : ∃ a3, (if b6 = true then a2 else au + 1) = a3 := ⟨_, rfl⟩
 have ha3l : a3 ≤ 1000 := by rw [← ha3]; split <;> omega
 have n20 := l1Next_ac bs hb a3 20 (by omega) (by omega)
 obtain ⟨z, hzz⟩ : ∃ z : Int, ((nextN bs a3 20 : Nat) : Int) = z := ⟨_, rfl⟩
 rw [hzz] at n20
 have hz20 : 0 ≤ z := by omega
 obtain ⟨es, a4, ⟨g1, g2, g3, g4⟩, cb⟩ := l1Bent_ac bs hb (a3 + 1) (by omega)
 have hts := right_sized ht
 have hus := right_sized hur
 have hws := right_sized hwr
 have e0 : z = 0 ∨ z = 1 ∨ ((z == 0) = false ∧ (z == 1) = false ∧ z ≠ 0 ∧ z ≠ 1) := by simp only [beq_eq_false_iff_ne]; omega
 obtain ⟨X, hX⟩ : ∃ X : List CellD, X = if z = 0 then es else t.enc := ⟨_, rfl⟩
 obtain ⟨Y, hY⟩ : ∃ Y : List CellD, Y = if z = 1 then es else if b6 = true then t2.enc else u.enc := ⟨_, rfl⟩
 obtain ⟨A, hA⟩ : ∃ A : Nat, A = if z = 0 ∨ z = 1 then a4 else a3 + 1 := ⟨_, rfl⟩
 refine ⟨X, Y, A, by rw [hX]; split; exact g2; exact hts, by rw [hY]; split; exact g2; split; exact hws; exact hus, by rw [hA]; split <;> omega, ?_⟩
 refine wEnter Tryz.func74 Tryz.ntmps74 ?_
 refine wRUN trivial ?_
 refine w12 (op_rowF [] s0) trivial ?_
 refine wRUN trivial ?_
 refine wCall (op_any_call [((0, 0), (12, 0))] [((0, 0), (12, 0)), ((0, 1), (14, 0))] c1) trivial ?_
 refine wRUN (j2 hz1 @List.nil_append.{0}) ?_
 refine wCall (op_any_call [((0, 0), (12, 0))] [((0, 0), (12, 0))] n1) trivial ?_
 refine wRUN trivial ?_
 refine a_loop (κ := V × Nat × Nat) (fun x => ⟨mkS 0 60 [(5, .ptr (12, 0) 0), (6, .own (14, 0)), (7, cellsA x.1.enc), (8, .c (.int .i64 (x.2.1 : Int)))], [((12, 0), srcO bs x.2.2), ((14, 0), .row false 5 95 (t.enc.map CellD.cs))]⟩)
  (fun x => x.1.right ∧ x.2.1 ≤ 3 ∧ x.2.2 + 50 * x.2.1 ≤ 600000 ∧ nearGo bs f x.2.1 (x.1, x.2.2) = (u, au)) (fun x => x.2.1) (t, n, a0 + 1) ⟨ht, by show n ≤ 3; omega, by show a0 + 1 + 50 * n ≤ _; omega, hy⟩ ?_ ?_
 ·exact wSays (Says.of [((12, 0), (12, 0)), ((14, 0), (14, 0))] [(17, 0)]) hz1
 ·rintro ⟨b, m, a1⟩ ⟨i1, i2, i3, i4⟩
  dsimp only at i1 i2 i3 i4 ⊢
  cases m with
  | succ m =>
   obtain ⟨p1, p2, p3, pc⟩ := hf a1 b (by omega)
   have hst := nearStep_ok bs hf (x := (b, a1)) i1 (by dsimp only; omega)
   have i4' : nearGo bs f m (nearStep bs f (b, a1)) = (u, au) := i4
   obtain ⟨r, hr⟩ : ∃ r, nearStep bs f (b, a1) = r := ⟨_, rfl⟩
   rw [hr] at hst i4'
   unfold nearStep at hr
   dsimp only at hr hst
   unfold DrawPathAC at pc
   obtain ⟨q1, q2, q3, q4, q5⟩ := valD_ok bs 1 (f a1 b).2
   have cw : AC Tryz.prog 143 [.ptr (0, 0) 0, .c (.int .i64 2)] (srcM bs (f a1 b).2) (.own (0, 1)) (bentM bs (valD bs 1 (f a1 b).2).1.enc (valD bs 1 (f a1 b).2).2) := l1Value_ac bs hb 1 (by omega) (f a1 b).2 (by omega)
   have hwr1 : (valD bs 1 (f a1 b).2).1.right := ⟨q1, by omega, by omega⟩
   generalize valD bs 1 (f a1 b).2 = rw1 at *
   obtain ⟨w, aw⟩ := rw1
   dsimp only at q1 q2 q3 q4 q5 cw hwr1 hr
   generalize f a1 b = rp at *
   obtain ⟨P, ap⟩ := rp
   dsimp only at p1 p2 p3 pc hr
   have hpr := path_right p1.2 (by have := p1.1; omega)
   have pp := l1Parts_ac (t := arrV P) hpr.1 hpr.2.1
   have hkids : (arrV P).kids = P := rfl
   rw [hkids] at pp
   have cs := l13Set_ac hwr1 P (pathOk_keys p1).1 (pathOk_keys p1).2 b i1
   have cd := l13Drop_ac P (pathOk_keys p1).1 (pathOk_keys p1).2 b i1
   have os := setPath_ok hwr1 P (pathOk_keys p1).2 b i1
   have od := dropPath_ok P (pathOk_keys p1).2 b i1
   have c3 := l1Chance_ac bs hb aw 3 (by omega) (by omega)
   have h0 : decide (((m + 1 : Nat) : Int) > 0) = true := decide_eq_true (by omega)
   have hw : IntKind.i64.wrap (((m + 1 : Nat) : Int) - 1) = (m : Int) := wrapN (by omega) (by omega)
   have h01 : ((0 : Int) == 0) = true := rfl
   have start : r.2 = aw + 1 := by rw [← hr]
   generalize setPathV w P b = rs at *
   generalize dropPathV P b = rd at *
   generalize (arrV P).enc = PE at *
   generalize (P.map V.enc).map encCs = PR at *
   generalize w.enc = we at *
   cases hb3 : nextN bs aw 3 == 0 with
   | false =>
    rw [hb3] at c3 hr
    have hr' : (match rs.2 with | some v => v | none => b, aw + 1) = r := hr
    rcases okRes_ways os with ⟨v, rfl, hv⟩ | ⟨c, hc, rfl⟩
    ·rw [vrA_some] at cs
     have hrv : r = (v, aw + 1) := hr'.symm
     refine wRUN h0 ?_
     refine wCall (op_any_call [((0, 0), (12, 0))] [((0, 0), (12, 0)), ((0, 1), (26, 0))] pc) trivial ?_
     refine wRUN trivial ?_
     refine w9 (op_shared [(26, 0)] pp) trivial ?_
     refine wRUN trivial ?_
     refine wCall (op_any_call [((0, 0), (12, 0))] [((0, 0), (12, 0)), ((0, 1), (31, 0))] cw) trivial ?_
     refine wRUN trivial ?_
     refine w9 (op_shared [(31, 0)] cs) trivial ?_
     refine wRUN trivial ?_
     refine wCall (op_any_call [((0, 0), (12, 0))] [((0, 0), (12, 0))] c3) trivial ?_
     refine wRUN (j2 h01 hw) ?_
     refine ⟨(v, m, aw + 1), by dsimp only; omega, ⟨hv, by dsimp only; omega, by dsimp only; omega, by rw [← hrv]; exact i4'⟩, ?_⟩
     exact wSays (Says.of [((12, 0), (12, 0)), ((14, 0), (14, 0))] []) hw
    ·rw [vrA_none] at cs
     have hrv : r = (b, aw + 1) := hr'.symm
     have hc0 : (c == 0) = false := by simpa using hc
     refine wRUN h0 ?_
     refine wCall (op_any_call [((0, 0), (12, 0))] [((0, 0), (12, 0)), ((0, 1), (26, 0))] pc) trivial ?_
     refine wRUN trivial ?_
     refine w9 (op_shared [(26, 0)] pp) trivial ?_
     refine wRUN trivial ?_
     refine wCall (op_any_call [((0, 0), (12, 0))] [((0, 0), (12, 0)), ((0, 1), (31, 0))] cw) trivial ?_
     refine wRUN trivial ?_
     refine w9 (op_shared [(31, 0)] cs) trivial ?_
     refine wRUN trivial ?_
     refine wCall (op_any_call [((0, 0), (12, 0))] [((0, 0), (12, 0))] c3) trivial ?_
     refine wRUN (j2 hc0 hw) ?_
     refine ⟨(b, m, aw + 1), by dsimp only; omega, ⟨i1, by dsimp only; omega, by dsimp only; omega, by rw [← hrv]; exact i4'⟩, ?_⟩
     exact wSays (Says.of [((12, 0), (12, 0)), ((14, 0), (14, 0))] []) hw
   | true =>
    rw [hb3] at c3 hr
    have hr' : (match rd.2 with | some v => v | none => b, aw + 1) = r := hr
    rcases okRes_ways os with ⟨vs, rfl, _⟩ | ⟨c1, _, rfl⟩
    all_goals
     first | rw [vrA_some] at cs | rw [vrA_none] at cs
     rcases okRes_ways od with ⟨v, rfl, hv⟩ | ⟨c, hc, rfl⟩
     ·rw [vrA_some] at cd
      have hrv : r = (v, aw + 1) := hr'.symm
      refine wRUN h0 ?_
      refine wCall (op_any_call [((0, 0), (12, 0))] [((0, 0), (12, 0)), ((0, 1), (26, 0))] pc) trivial ?_
      refine wRUN trivial ?_
      refine w9 (op_shared [(26, 0)] pp) trivial ?_
      refine wRUN trivial ?_
      refine wCall (op_any_call [((0, 0), (12, 0))] [((0, 0), (12, 0)), ((0, 1), (31, 0))] cw) trivial ?_
      refine wRUN trivial ?_
      refine w9 (op_shared [(31, 0)] cs) trivial ?_
      refine wRUN trivial ?_
      refine wCall (op_any_call [((0, 0), (12, 0))] [((0, 0), (12, 0))] c3) trivial ?_
      refine wRUN hw ?_
      refine w9 (op_shared [] cd) trivial ?_
      refine wRUN (j2 h01 hw) ?_
      refine ⟨(v, m, aw + 1), by dsimp only; omega, ⟨hv, by dsimp only; omega, by dsimp only; omega, by rw [← hrv]; exact i4'⟩, ?_⟩
      exact wSays (Says.of [((12, 0), (12, 0)), ((14, 0), (14, 0))] []) hw
     ·rw [vrA_none] at cd
      have hrv : r = (b, aw + 1) := hr'.symm
      have hc0 : (c == 0) = false := by simpa using hc
      refine wRUN h0 ?_
      refine wCall (op_any_call [((0, 0), (12, 0))] [((0, 0), (12, 0)), ((0, 1), (26, 0))] pc) trivial ?_
      refine wRUN trivial ?_
      refine w9 (op_shared [(26, 0)] pp) trivial ?_
      refine wRUN trivial ?_
      refine wCall (op_any_call [((0, 0), (12, 0))] [((0, 0), (12, 0)), ((0, 1), (31, 0))] cw) trivial ?_
      refine wRUN trivial ?_
      refine w9 (op_shared [(31, 0)] cs) trivial ?_
      refine wRUN trivial ?_
      refine wCall (op_any_call [((0, 0), (12, 0))] [((0, 0), (12, 0))] c3) trivial ?_
      refine wRUN hw ?_
      refine w9 (op_shared [] cd) trivial ?_
      refine wRUN (j2 hc0 hw) ?_
      refine ⟨(b, m, aw + 1), by dsimp only; omega, ⟨i1, by dsimp only; omega, by dsimp only; omega, by rw [← hrv]; exact i4'⟩, ?_⟩
      exact wSays (Says.of [((12, 0), (12, 0)), ((14, 0), (14, 0))] []) hw
  | zero =>
   have hbu : b = u := congrArg Prod.fst i4
   have hba : a1 = au := congrArg Prod.snd i4
   rw [hbu, hba]
   have h0 : decide (((0 : Nat) : Int) > 0) = false := rfl
   have h01 : ((0 : Int) == 0) = true := rfl
   have h10 : ((1 : Int) == 0) = false := rfl
   have h11 : ((1 : Int) == 1) = true := rfl
   cases b6 with
   | false =>
    have ha3e : a3 = au + 1 := ha3.symm
    subst ha3e
    rcases e0 with rfl | rfl | ⟨e0, e1, z0, z1⟩
    ·rw [if_pos rfl] at hX
     rw [if_neg (by decide), if_neg (by decide)] at hY
     rw [if_pos (.inl rfl)] at hA
     rw [hX, hY, hA]
     refine wRUN h0 ?_
     refine wCall (op_any_call [((0, 0), (12, 0))] [((0, 0), (12, 0))] c6) trivial ?_
     refine wRUN trivial ?_
     refine wCall (op_any_call [((0, 0), (12, 0))] [((0, 0), (12, 0))] n20) trivial ?_
     refine wRUN h01 ?_
     refine wCall (op_any_call [((0, 0), (12, 0))] [((0, 0), (12, 0)), ((0, 1), (52, 0))] cb) trivial ?_
     refine wRUN trivial ?_
     exact wRetOf (ret_of [((0, 0), (12, 0))] [(52, 0)]) Tryz.results74 h0
    ·rw [if_neg (by decide)] at hX
     rw [if_pos rfl] at hY
     rw [if_pos (.inr rfl)] at hA
     rw [hX, hY, hA]
     refine wRUN h0 ?_
     refine wCall (op_any_call [((0, 0), (12, 0))] [((0, 0), (12, 0))] c6) trivial ?_
     refine wRUN trivial ?_
     refine wCall (op_any_call [((0, 0), (12, 0))] [((0, 0), (12, 0))] n20) trivial ?_
     refine wRUN (j2 h10 h11) ?_
     refine wCall (op_any_call [((0, 0), (12, 0))] [((0, 0), (12, 0)), ((0, 1), (56, 0))] cb) trivial ?_
     refine wRUN trivial ?_
     exact wRetOf (ret_of [((0, 0), (12, 0))] [(14, 0), (56, 0)]) Tryz.results74 h0
    ·rw [if_neg z0] at hX
     rw [if_neg z1, if_neg (by decide)] at hY
     rw [if_neg (fun h => h.elim z0 z1)] at hA
     rw [hX, hY, hA]
     refine wRUN h0 ?_
     refine wCall (op_any_call [((0, 0), (12, 0))] [((0, 0), (12, 0))] c6) trivial ?_
     refine wRUN trivial ?_
     refine wCall (op_any_call [((0, 0), (12, 0))] [((0, 0), (12, 0))] n20) trivial ?_
     refine wRUN (j2 e0 e1) ?_
     exact wRetOf (ret_of [((0, 0), (12, 0))] [(14, 0)]) Tryz.results74 h0
   | true =>
    have ha3e : a3 = a2 := ha3.symm
    subst ha3e
    rcases e0 with rfl | rfl | ⟨e0, e1, z0, z1⟩
    ·rw [if_pos rfl] at hX
     rw [if_neg (by decide), if_pos rfl] at hY
     rw [if_pos (.inl rfl)] at hA
     rw [hX, hY, hA]
     refine wRUN h0 ?_
     refine wCall (op_any_call [((0, 0), (12, 0))] [((0, 0), (12, 0))] c6) trivial ?_
     refine wRUN trivial ?_
     refine wCall (op_any_call [((0, 0), (12, 0))] [((0, 0), (12, 0)), ((0, 1), (46, 0))] cv) trivial ?_
     refine wRUN trivial ?_
     refine wCall (op_any_call [((0, 0), (12, 0))] [((0, 0), (12, 0))] n20) trivial ?_
     refine wRUN h01 ?_
     refine wCall (op_any_call [((0, 0), (12, 0))] [((0, 0), (12, 0)), ((0, 1), (52, 0))] cb) trivial ?_
     refine wRUN trivial ?_
     exact wRetOf (ret_of [((0, 0), (12, 0))] [(52, 0), (46, 0)]) Tryz.results74 h0
    ·rw [if_neg (by decide)] at hX
     rw [if_pos rfl] at hY
     rw [if_pos (.inr rfl)] at hA
     rw [hX, hY, hA]
     refine wRUN h0 ?_
     refine wCall (op_any_call [((0, 0), (12, 0))] [((0, 0), (12, 0))] c6) trivial ?_
     refine wRUN trivial ?_
     refine wCall (op_any_call [((0, 0), (12, 0))] [((0, 0), (12, 0)), ((0, 1), (46, 0))] cv) trivial ?_
     refine wRUN trivial ?_
     refine wCall (op_any_call [((0, 0), (12, 0))] [((0, 0), (12, 0))] n20) trivial ?_
     refine wRUN (j2 h10 h11) ?_
     refine wCall (op_any_call [((0, 0), (12, 0))] [((0, 0), (12, 0)), ((0, 1), (56, 0))] cb) trivial ?_
     refine wRUN trivial ?_
     exact wRetOf (ret_of [((0, 0), (12, 0))] [(14, 0), (56, 0)]) Tryz.results74 h0
    ·rw [if_neg z0] at hX
     rw [if_neg z1, if_pos rfl] at hY
     rw [if_neg (fun h => h.elim z0 z1)] at hA
     rw [hX, hY, hA]
     refine wRUN h0 ?_
     refine wCall (op_any_call [((0, 0), (12, 0))] [((0, 0), (12, 0))] c6) trivial ?_
     refine wRUN trivial ?_
     refine wCall (op_any_call [((0, 0), (12, 0))] [((0, 0), (12, 0)), ((0, 1), (46, 0))] cv) trivial ?_
     refine wRUN trivial ?_
     refine wCall (op_any_call [((0, 0), (12, 0))] [((0, 0), (12, 0))] n20) trivial ?_
     refine wRUN (j2 e0 e1) ?_
     exact wRetOf (ret_of [((0, 0), (12, 0))] [(14, 0), (46, 0)]) Tryz.results74 h0
theorem drawDiff_ac (bs : List Nat) (hb : BytesOk bs) : ∃ xs ys, Sized xs ∧ Sized ys ∧ AC Tryz.prog 21 [.c (.sl (bs.map byteCs))] [] (.tup [cellsA xs, cellsA ys]) [] := by
 obtain ⟨xs, ys, a', h1, h2, h3, hc⟩ := l14Near_ac bs hb
 refine ⟨xs, ys, h1, h2, ?_⟩
 refine wEnter Tryz.func21 Tryz.ntmps21 ?_
 refine wRUN trivial ?_
 refine w12 (op_rowF [] hc) trivial ?_
 refine wRUN trivial ?_
 exact wRetOf (ret_of [] []) Tryz.results21 h3
end Go.Proofs.YtamgeodhpglgkaaGreat
