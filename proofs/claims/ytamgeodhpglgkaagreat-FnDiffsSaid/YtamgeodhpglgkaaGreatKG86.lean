/- spec.l13DrawPath, by the engine. Printed by gen_drawpath.py. -/
import Derived.Test.YtamgeodhpglgkaaGreatKG83
import Derived.Test.YtamgeodhpglgkaaGreatKG15uM29
import Derived.Test.YtamgeodhpglgkaaGreatKG06uG08
set_option linter.unusedSimpArgs false
set_option maxHeartbeats 8000000
namespace Go.Proofs.YtamgeodhpglgkaaGreat
open Go.RowKit
set_option maxRecDepth 10000
theorem row_encsV {L : List V} {i : Nat} (h : i < L.length) : rowsAt ((L.map V.enc).map encCs) 1 ((i : Nat) : Int) = true ∧ ((L.map V.enc).map encCs)[i]? = some [.sl (L[i].enc.map CellD.cs)] := ⟨by simp [rowsAt, h, encCs], by simp [h, encCs]⟩
theorem row_pths {L : List (List V)} {i : Nat} (h : i < L.length) : rowsAt (L.map pthCs) 1 ((i : Nat) : Int) = true ∧ (L.map pthCs)[i]? = some [.sl ((L[i].map V.enc).map encCs)] := ⟨by simp [rowsAt, h, pthCs], by simp [h, pthCs]⟩
theorem encs_snoc (P : List V) (q : V) : (P.map V.enc).map encCs ++ [[C.sl (q.enc.map CellD.cs)]] = ((P ++ [q]).map V.enc).map encCs := by rw [List.map_append, List.map_append]; rfl
theorem encs_take (P : List V) (n : Nat) : ((P.map V.enc).map encCs).take n = ((P.take n).map V.enc).map encCs := by rw [List.map_take, List.map_take]
theorem arr_small {P : List V} (h : ∀ q ∈ P, sKey q) (hl : P.length ≤ 100) : (arrV P).count ≤ 500000 := by have := (path_right h hl).2.1; omega
abbrev DrawPathAC (bs : List Nat) (a : Nat) (xs : List CellD) (P : List V) (a' : Nat) : Prop := AC Tryz.prog 145 [.ptr (0, 0) 0, cellsA xs] (srcM bs a) (.own (0, 1)) [((0, 0), srcO bs a'), ((0, 1), .row false 5 95 ((arrV P).enc.map CellD.cs))]
theorem drawPath_b000 (bs : List Nat) (hb : BytesOk bs) (a : Nat) (ha : a ≤ 800000) (xs : List CellD) (hx : (dec xs).1 ≠ 0)
  (h3 : (nextN bs a 3 == 0) = false) (h30 : (nextN bs (a + 1) 30 == 0) = false)
  (hall : ∀ x ∈ ([] : List V), sKey x) : DrawPathAC bs a xs ([] : List V) (a + 2) := by
 have hf := fault_ac xs
 have h00 : ((dec xs).1 == 0) = false := by simpa using hx
 generalize (dec xs).1 = fx at *
 have c3 := l1Chance_ac bs hb a 3 (by omega) (by omega)
 rw [h3] at c3
 have c30 := l1Chance_ac bs hb (a + 1) 30 (by omega) (by omega)
 rw [h30] at c30
 have har := l1Array_ac ([] : List V) (arr_small hall (by simp))
 have hcut : ([] : List V).length ≤ 15 := by simp
 simp only [List.map_cons, List.map_nil, encCs] at har
 have dl0 : decide (((0 : Nat) : Int) > 15) = false := rfl
 have dl1 : decide (((1 : Nat) : Int) > 15) = false := rfl
 have dl2 : decide (((2 : Nat) : Int) > 15) = false := rfl
 have dl3 : decide (((0 + 1 : Nat) : Int) > 15) = false := rfl
 have dl4 : decide (((0 + 1 + 1 : Nat) : Int) > 15) = false := rfl
 have hd15 : decide ((([] : List V).length : Int) > 15) = false := decide_eq_false (by omega)
 have hmn : (([] : List V).map V.enc).map encCs = [] := rfl
 unfold DrawPathAC
 generalize (arrV ([] : List V)).enc = FE at *
 refine wEnter Tryz.func145 Tryz.ntmps145 ?_
 refine wRUN trivial ?_
 refine w7 (op_data [] hf) trivial ?_
 refine wRUN h00 ?_
 refine wCall (op_any_call [((0, 0), (0, 0))] [((0, 0), (0, 0))] c3) trivial ?_
 refine wRUN hmn ?_
 refine wCall (op_any_call [((0, 0), (0, 0))] [((0, 0), (0, 0))] c30) trivial ?_
 refine wRUN (j8 dl0 dl1 dl2 dl3 dl4 @List.nil_append.{0} @List.cons_append.{0} hmn) ?_
 refine w12 (op_rowF [(7, 0)] har) trivial ?_
 refine wRUN trivial ?_
 exact wRetOf (ret_of [((0, 0), (0, 0)), ((0, 1), (56, 0))] []) Tryz.results145 h00
theorem drawPath_b010 (bs : List Nat) (hb : BytesOk bs) (a : Nat) (ha : a ≤ 800000) (xs : List CellD) (hx : (dec xs).1 ≠ 0)
  (h3 : (nextN bs a 3 == 0) = false) (h30 : (nextN bs (a + 1) 30 == 0) = true) (p : Int) (hp : pickN bs (a + 2) [200, 199, -9] = p)
  (hall : ∀ x ∈ ([numV p] : List V), sKey x) : DrawPathAC bs a xs ([numV p] : List V) (a + 3) := by
 have hf := fault_ac xs
 have h00 : ((dec xs).1 == 0) = false := by simpa using hx
 generalize (dec xs).1 = fx at *
 have c3 := l1Chance_ac bs hb a 3 (by omega) (by omega)
 rw [h3] at c3
 have c30 := l1Chance_ac bs hb (a + 1) 30 (by omega) (by omega)
 rw [h30] at c30
 have pc := l1Pick_ac bs hb (a + 2) [200, 199, -9] (by simp) (by simp) (by omega)
 rw [hp] at pc
 simp only [List.map_cons, List.map_nil, intCs] at pc
 have npc := l1Number_ac p
 have har := l1Array_ac ([numV p] : List V) (arr_small hall (by simp))
 have hcut : ([numV p] : List V).length ≤ 15 := by simp
 simp only [List.map_cons, List.map_nil, encCs] at har
 have dl0 : decide (((0 : Nat) : Int) > 15) = false := rfl
 have dl1 : decide (((1 : Nat) : Int) > 15) = false := rfl
 have dl2 : decide (((2 : Nat) : Int) > 15) = false := rfl
 have dl3 : decide (((0 + 1 : Nat) : Int) > 15) = false := rfl
 have dl4 : decide (((0 + 1 + 1 : Nat) : Int) > 15) = false := rfl
 have hd15 : decide ((([numV p] : List V).length : Int) > 15) = false := decide_eq_false (by omega)
 have hmn : (([] : List V).map V.enc).map encCs = [] := rfl
 unfold DrawPathAC
 generalize (arrV ([numV p] : List V)).enc = FE at *
 generalize (numV p).enc = PE at *
 refine wEnter Tryz.func145 Tryz.ntmps145 ?_
 refine wRUN trivial ?_
 refine w7 (op_data [] hf) trivial ?_
 refine wRUN h00 ?_
 refine wCall (op_any_call [((0, 0), (0, 0))] [((0, 0), (0, 0))] c3) trivial ?_
 refine wRUN hmn ?_
 refine wCall (op_any_call [((0, 0), (0, 0))] [((0, 0), (0, 0))] c30) trivial ?_
 refine wRUN (j8 dl0 dl1 dl2 dl3 dl4 @List.nil_append.{0} @List.cons_append.{0} hmn) ?_
 refine wCallB (op_callB [(45, 0)] [((0, 0), (0, 0))] [((0, 0), (0, 0))] pc) trivial ?_
 refine wRUN h00 ?_
 refine w9 (op_shared [] npc) trivial ?_
 refine wRUN (j8 dl0 dl1 dl2 dl3 dl4 @List.nil_append.{0} @List.cons_append.{0} hmn) ?_
 refine w12 (op_rowF [(49, 0)] har) trivial ?_
 refine wRUN trivial ?_
 exact wRetOf (ret_of [((0, 0), (0, 0)), ((0, 1), (56, 0))] []) Tryz.results145 h00
theorem drawPath_b100 (bs : List Nat) (hb : BytesOk bs) (a : Nat) (ha : a ≤ 800000) (xs : List CellD) (hx : (dec xs).1 ≠ 0)
  (h3 : (nextN bs a 3 == 0) = true) (h30 : (nextN bs (a + 4) 30 == 0) = false) (q : V) (hq : [strV (keyN bs (a + 1)), numV ((nextN bs (a + 2) 5 : Nat) - 2 : Int)][nextN bs (a + 3) 2]? = some q)
  (hall : ∀ x ∈ ([q] : List V), sKey x) : DrawPathAC bs a xs ([q] : List V) (a + 5) := by
 have hf := fault_ac xs
 have h00 : ((dec xs).1 == 0) = false := by simpa using hx
 generalize (dec xs).1 = fx at *
 have c3 := l1Chance_ac bs hb a 3 (by omega) (by omega)
 rw [h3] at c3
 have c30 := l1Chance_ac bs hb (a + 4) 30 (by omega) (by omega)
 rw [h30] at c30
 have kc := l1Key_ac bs hb (a + 1) (by omega)
 have sc := l1String_ac (keyN bs (a + 1))
 have nc := l1Next_ac bs hb (a + 2) 5 (by omega) (by omega)
 have hy5 := nextN_lt bs (a + 2) (n := 5) (by omega)
 have wc : IntKind.i64.wrap ((nextN bs (a + 2) 5 : Nat) - 2 : Int) = ((nextN bs (a + 2) 5 : Nat) - 2 : Int) := IntWalk.i64_in _ (by omega)
 have nmc := l1Number_ac ((nextN bs (a + 2) 5 : Nat) - 2 : Int)
 have n2 := l1Next_ac bs hb (a + 3) 2 (by omega) (by omega)
 have hlt2 := nextN_lt bs (a + 3) (n := 2) (by omega)
 obtain ⟨k0, k1⟩ := row_encsV (L := [strV (keyN bs (a + 1)), numV ((nextN bs (a + 2) 5 : Nat) - 2 : Int)]) hlt2
 rw [List.getElem?_eq_getElem (by exact hlt2), Option.some.injEq] at hq
 rw [hq] at k1
 simp only [List.map_cons, List.map_nil, encCs] at k0 k1
 generalize (strV (keyN bs (a + 1))).enc = E1 at *
 generalize (numV ((nextN bs (a + 2) 5 : Nat) - 2 : Int)).enc = E2 at *
 obtain ⟨z5, hz5⟩ : ∃ z5 : Int, ((nextN bs (a + 2) 5 : Nat) - 2 : Int) = z5 := ⟨_, rfl⟩
 have wc5 : IntKind.i64.wrap ((nextN bs (a + 2) 5 : Nat) - 2 : Int) = z5 := by rw [wc]; exact hz5
 clear wc
 rw [hz5] at nmc
 generalize keyN bs (a + 1) = s at *
 generalize nextN bs (a + 3) 2 = i2 at *
 have har := l1Array_ac ([q] : List V) (arr_small hall (by simp))
 have hcut : ([q] : List V).length ≤ 15 := by simp
 simp only [List.map_cons, List.map_nil, encCs] at har
 have dl0 : decide (((0 : Nat) : Int) > 15) = false := rfl
 have dl1 : decide (((1 : Nat) : Int) > 15) = false := rfl
 have dl2 : decide (((2 : Nat) : Int) > 15) = false := rfl
 have dl3 : decide (((0 + 1 : Nat) : Int) > 15) = false := rfl
 have dl4 : decide (((0 + 1 + 1 : Nat) : Int) > 15) = false := rfl
 have hd15 : decide ((([q] : List V).length : Int) > 15) = false := decide_eq_false (by omega)
 have hmn : (([] : List V).map V.enc).map encCs = [] := rfl
 unfold DrawPathAC
 generalize (arrV ([q] : List V)).enc = FE at *
 refine wEnter Tryz.func145 Tryz.ntmps145 ?_
 refine wRUN trivial ?_
 refine w7 (op_data [] hf) trivial ?_
 refine wRUN h00 ?_
 refine wCall (op_any_call [((0, 0), (0, 0))] [((0, 0), (0, 0))] c3) trivial ?_
 refine wRUN hmn ?_
 refine wCall (op_any_call [((0, 0), (0, 0))] [((0, 0), (0, 0))] kc) trivial ?_
 refine wRUN h00 ?_
 refine w9 (op_shared [] sc) trivial ?_
 refine wRUN h00 ?_
 refine wCall (op_any_call [((0, 0), (0, 0))] [((0, 0), (0, 0))] nc) trivial ?_
 refine wRUN wc5 ?_
 refine w9 (op_shared [] nmc) trivial ?_
 refine wRUN h00 ?_
 refine wCall (op_any_call [((0, 0), (0, 0))] [((0, 0), (0, 0))] n2) trivial ?_
 refine wRUN (j10 k0 k1 dl0 dl1 dl2 dl3 dl4 @List.nil_append.{0} @List.cons_append.{0} hmn) ?_
 refine wCall (op_any_call [((0, 0), (0, 0))] [((0, 0), (0, 0))] c30) trivial ?_
 refine wRUN (j8 dl0 dl1 dl2 dl3 dl4 @List.nil_append.{0} @List.cons_append.{0} hmn) ?_
 refine w12 (op_rowF [(38, 0)] har) trivial ?_
 refine wRUN trivial ?_
 exact wRetOf (ret_of [((0, 0), (0, 0)), ((0, 1), (56, 0))] []) Tryz.results145 h00
theorem drawPath_b110 (bs : List Nat) (hb : BytesOk bs) (a : Nat) (ha : a ≤ 800000) (xs : List CellD) (hx : (dec xs).1 ≠ 0)
  (h3 : (nextN bs a 3 == 0) = true) (h30 : (nextN bs (a + 4) 30 == 0) = true) (q : V) (hq : [strV (keyN bs (a + 1)), numV ((nextN bs (a + 2) 5 : Nat) - 2 : Int)][nextN bs (a + 3) 2]? = some q) (p : Int) (hp : pickN bs (a + 5) [200, 199, -9] = p)
  (hall : ∀ x ∈ ([q, numV p] : List V), sKey x) : DrawPathAC bs a xs ([q, numV p] : List V) (a + 6) := by
 have hf := fault_ac xs
 have h00 : ((dec xs).1 == 0) = false := by simpa using hx
 generalize (dec xs).1 = fx at *
 have c3 := l1Chance_ac bs hb a 3 (by omega) (by omega)
 rw [h3] at c3
 have c30 := l1Chance_ac bs hb (a + 4) 30 (by omega) (by omega)
 rw [h30] at c30
 have kc := l1Key_ac bs hb (a + 1) (by omega)
 have sc := l1String_ac (keyN bs (a + 1))
 have nc := l1Next_ac bs hb (a + 2) 5 (by omega) (by omega)
 have hy5 := nextN_lt bs (a + 2) (n := 5) (by omega)
 have wc : IntKind.i64.wrap ((nextN bs (a + 2) 5 : Nat) - 2 : Int) = ((nextN bs (a + 2) 5 : Nat) - 2 : Int) := IntWalk.i64_in _ (by omega)
 have nmc := l1Number_ac ((nextN bs (a + 2) 5 : Nat) - 2 : Int)
 have n2 := l1Next_ac bs hb (a + 3) 2 (by omega) (by omega)
 have hlt2 := nextN_lt bs (a + 3) (n := 2) (by omega)
 obtain ⟨k0, k1⟩ := row_encsV (L := [strV (keyN bs (a + 1)), numV ((nextN bs (a + 2) 5 : Nat) - 2 : Int)]) hlt2
 rw [List.getElem?_eq_getElem (by exact hlt2), Option.some.injEq] at hq
 rw [hq] at k1
 simp only [List.map_cons, List.map_nil, encCs] at k0 k1
 generalize (strV (keyN bs (a + 1))).enc = E1 at *
 generalize (numV ((nextN bs (a + 2) 5 : Nat) - 2 : Int)).enc = E2 at *
 obtain ⟨z5, hz5⟩ : ∃ z5 : Int, ((nextN bs (a + 2) 5 : Nat) - 2 : Int) = z5 := ⟨_, rfl⟩
 have wc5 : IntKind.i64.wrap ((nextN bs (a + 2) 5 : Nat) - 2 : Int) = z5 := by rw [wc]; exact hz5
 clear wc
 rw [hz5] at nmc
 generalize keyN bs (a + 1) = s at *
 generalize nextN bs (a + 3) 2 = i2 at *
 have pc := l1Pick_ac bs hb (a + 5) [200, 199, -9] (by simp) (by simp) (by omega)
 rw [hp] at pc
 simp only [List.map_cons, List.map_nil, intCs] at pc
 have npc := l1Number_ac p
 have har := l1Array_ac ([q, numV p] : List V) (arr_small hall (by simp))
 have hcut : ([q, numV p] : List V).length ≤ 15 := by simp
 simp only [List.map_cons, List.map_nil, encCs] at har
 have dl0 : decide (((0 : Nat) : Int) > 15) = false := rfl
 have dl1 : decide (((1 : Nat) : Int) > 15) = false := rfl
 have dl2 : decide (((2 : Nat) : Int) > 15) = false := rfl
 have dl3 : decide (((0 + 1 : Nat) : Int) > 15) = false := rfl
 have dl4 : decide (((0 + 1 + 1 : Nat) : Int) > 15) = false := rfl
 have hd15 : decide ((([q, numV p] : List V).length : Int) > 15) = false := decide_eq_false (by omega)
 have hmn : (([] : List V).map V.enc).map encCs = [] := rfl
 unfold DrawPathAC
 generalize (arrV ([q, numV p] : List V)).enc = FE at *
 generalize (numV p).enc = PE at *
 refine wEnter Tryz.func145 Tryz.ntmps145 ?_
 refine wRUN trivial ?_
 refine w7 (op_data [] hf) trivial ?_
 refine wRUN h00 ?_
 refine wCall (op_any_call [((0, 0), (0, 0))] [((0, 0), (0, 0))] c3) trivial ?_
 refine wRUN hmn ?_
 refine wCall (op_any_call [((0, 0), (0, 0))] [((0, 0), (0, 0))] kc) trivial ?_
 refine wRUN h00 ?_
 refine w9 (op_shared [] sc) trivial ?_
 refine wRUN h00 ?_
 refine wCall (op_any_call [((0, 0), (0, 0))] [((0, 0), (0, 0))] nc) trivial ?_
 refine wRUN wc5 ?_
 refine w9 (op_shared [] nmc) trivial ?_
 refine wRUN h00 ?_
 refine wCall (op_any_call [((0, 0), (0, 0))] [((0, 0), (0, 0))] n2) trivial ?_
 refine wRUN (j10 k0 k1 dl0 dl1 dl2 dl3 dl4 @List.nil_append.{0} @List.cons_append.{0} hmn) ?_
 refine wCall (op_any_call [((0, 0), (0, 0))] [((0, 0), (0, 0))] c30) trivial ?_
 refine wRUN (j8 dl0 dl1 dl2 dl3 dl4 @List.nil_append.{0} @List.cons_append.{0} hmn) ?_
 refine wCallB (op_callB [(45, 0)] [((0, 0), (0, 0))] [((0, 0), (0, 0))] pc) trivial ?_
 refine wRUN h00 ?_
 refine w9 (op_shared [] npc) trivial ?_
 refine wRUN (j8 dl0 dl1 dl2 dl3 dl4 @List.nil_append.{0} @List.cons_append.{0} hmn) ?_
 refine w12 (op_rowF [(49, 0)] har) trivial ?_
 refine wRUN trivial ?_
 exact wRetOf (ret_of [((0, 0), (0, 0)), ((0, 1), (56, 0))] []) Tryz.results145 h00
theorem drawPath_v000 (bs : List Nat) (hb : BytesOk bs) (a : Nat) (ha : a ≤ 800000) {t : V} (ht : t.right) (P0 : List V) (hP0 : (allP false (t.paths []))[nextN bs a (allP false (t.paths [])).length]? = some P0) (hlen : 0 < (allP false (t.paths [])).length ∧ (allP false (t.paths [])).length ≤ 200) (hs0 : ∀ q ∈ P0, sKey q) (hl0 : P0.length ≤ 20)
  (h3 : (nextN bs (a + 1) 3 == 0) = false) (h30 : (nextN bs (a + 2) 30 == 0) = false) (hcut : P0.length ≤ 15)
  (hall : ∀ x ∈ P0, sKey x) : DrawPathAC bs a t.enc P0 (a + 3) := by
 have hf := fault_ac t.enc
 rw [right_dec ht] at hf
 have hal := l13All_ac false t.count t [] (Nat.le_refl _) ht.2.1 ht.1 (by have := ht.2.1; simp; omega)
 have hal2 : AC Tryz.prog 247 [cellsA t.enc, .c (.sl []), .c (.bool false)] [] (.c (.sl ((allP false (t.paths [])).map pthCs))) [] := hal
 have hn0 := l1Next_ac bs hb a (allP false (t.paths [])).length (by omega) (by omega)
 have hlt := nextN_lt bs a hlen.1
 obtain ⟨hr0, hg0⟩ := row_pths hlt
 rw [List.getElem?_eq_getElem hlt, Option.some.injEq] at hP0
 rw [hP0] at hg0
 generalize nextN bs a (allP false (t.paths [])).length = i0 at *
 have hlm : ((allP false (t.paths [])).map pthCs).length = (allP false (t.paths [])).length := by simp
 clear hP0 hlt
 generalize hLP : (allP false (t.paths [])).length = LP at *
 generalize (allP false (t.paths [])).map pthCs = RP at *
 have h00 : ((0 : Int) == 0) = true := rfl
 have hz0 : P0.length + 1 ≤ 1000000 := by omega
 have hz1 : 0 + P0.length ≤ 1000000 := by omega
 have hzz : P0.length + 1 + 1 ≤ 1000000 := by omega
 have c3 := l1Chance_ac bs hb (a + 1) 3 (by omega) (by omega)
 rw [h3] at c3
 have c30 := l1Chance_ac bs hb (a + 2) 30 (by omega) (by omega)
 rw [h30] at c30
 have hlq : P0.length ≤ 30 := by omega
 have har := l1Array_ac P0 (arr_small hall (by omega))
 have hd15 : decide ((P0.length : Int) > 15) = false := decide_eq_false (by omega)
 have hlenP : ((P0.map V.enc).map encCs).length = P0.length := by simp
 have hmn : (([] : List V).map V.enc).map encCs = [] := rfl
 have hfg : forgetLL ((P0.map V.enc).map encCs) = (P0.map V.enc).map encCs := forget_encs _
 unfold DrawPathAC
 generalize (arrV P0).enc = FE at *
 refine wEnter Tryz.func145 Tryz.ntmps145 ?_
 refine wRUN trivial ?_
 refine w7 (op_data [] hf) trivial ?_
 refine wRUN h00 ?_
 refine w9 (op_shared [] hal2) trivial ?_
 refine wRUN hlm ?_
 refine wCall (op_any_call [((0, 0), (0, 0))] [((0, 0), (0, 0))] hn0) trivial ?_
 refine wRUN (j2 hr0 hg0) ?_
 refine wCall (op_any_call [((0, 0), (0, 0))] [((0, 0), (0, 0))] c3) trivial ?_
 refine wRUN (j4 hz0 hz1 hzz hlm) ?_
 refine wCall (op_any_call [((0, 0), (0, 0))] [((0, 0), (0, 0))] c30) trivial ?_
 refine wRUN (j5 hz0 hz1 hzz hd15 hlenP) ?_
 refine w12 (op_rowF [] har) hfg ?_
 refine wRUN trivial ?_
 exact wRetOf (ret_of [((0, 0), (0, 0)), ((0, 1), (56, 0))] []) Tryz.results145 h00
theorem drawPath_v001 (bs : List Nat) (hb : BytesOk bs) (a : Nat) (ha : a ≤ 800000) {t : V} (ht : t.right) (P0 : List V) (hP0 : (allP false (t.paths []))[nextN bs a (allP false (t.paths [])).length]? = some P0) (hlen : 0 < (allP false (t.paths [])).length ∧ (allP false (t.paths [])).length ≤ 200) (hs0 : ∀ q ∈ P0, sKey q) (hl0 : P0.length ≤ 20)
  (h3 : (nextN bs (a + 1) 3 == 0) = false) (h30 : (nextN bs (a + 2) 30 == 0) = false) (hcut : P0.length > 15)
  (hall : ∀ x ∈ P0, sKey x) : DrawPathAC bs a t.enc (P0.take 15) (a + 3) := by
 have hf := fault_ac t.enc
 rw [right_dec ht] at hf
 have hal := l13All_ac false t.count t [] (Nat.le_refl _) ht.2.1 ht.1 (by have := ht.2.1; simp; omega)
 have hal2 : AC Tryz.prog 247 [cellsA t.enc, .c (.sl []), .c (.bool false)] [] (.c (.sl ((allP false (t.paths [])).map pthCs))) [] := hal
 have hn0 := l1Next_ac bs hb a (allP false (t.paths [])).length (by omega) (by omega)
 have hlt := nextN_lt bs a hlen.1
 obtain ⟨hr0, hg0⟩ := row_pths hlt
 rw [List.getElem?_eq_getElem hlt, Option.some.injEq] at hP0
 rw [hP0] at hg0
 generalize nextN bs a (allP false (t.paths [])).length = i0 at *
 have hlm : ((allP false (t.paths [])).map pthCs).length = (allP false (t.paths [])).length := by simp
 clear hP0 hlt
 generalize hLP : (allP false (t.paths [])).length = LP at *
 generalize (allP false (t.paths [])).map pthCs = RP at *
 have h00 : ((0 : Int) == 0) = true := rfl
 have hz0 : P0.length + 1 ≤ 1000000 := by omega
 have hz1 : 0 + P0.length ≤ 1000000 := by omega
 have hzz : P0.length + 1 + 1 ≤ 1000000 := by omega
 have c3 := l1Chance_ac bs hb (a + 1) 3 (by omega) (by omega)
 rw [h3] at c3
 have c30 := l1Chance_ac bs hb (a + 2) 30 (by omega) (by omega)
 rw [h30] at c30
 have hlq : P0.length ≤ 30 := by omega
 have har := l1Array_ac (P0.take 15) (arr_small (sk_take hall 15) (by rw [List.length_take]; omega))
 have hd15 : decide ((P0.length : Int) > 15) = true := decide_eq_true (by omega)
 have hlenP : ((P0.map V.enc).map encCs).length = P0.length := by simp
 have hi0 : (0 : Int) ≤ 15 := by decide
 have hi1 : (15 : Int) ≤ (P0.length : Int) := by omega
 have hi2 : 15 ≤ P0.length := by omega
 have htk := encs_take P0 15
 have hcb : cutB P0.length (some (AV.c (C.int IntKind.i64 15))) = some 15 := by simp [cutB]
 have hc2 : (0 ≤ 15 ∧ 15 ≤ P0.length) = True := eq_true ⟨by omega, hi2⟩
 have hdz : ∀ l : List (List C), l.drop 0 = l := fun l => rfl
 have hmn : (([] : List V).map V.enc).map encCs = [] := rfl
 have hfg : forgetLL (((P0.take 15).map V.enc).map encCs) = ((P0.take 15).map V.enc).map encCs := forget_encs _
 unfold DrawPathAC
 generalize (arrV (P0.take 15)).enc = FE at *
 generalize hR3 : ((P0.take 15).map V.enc).map encCs = R3 at *
 refine wEnter Tryz.func145 Tryz.ntmps145 ?_
 refine wRUN trivial ?_
 refine w7 (op_data [] hf) trivial ?_
 refine wRUN h00 ?_
 refine w9 (op_shared [] hal2) trivial ?_
 refine wRUN hlm ?_
 refine wCall (op_any_call [((0, 0), (0, 0))] [((0, 0), (0, 0))] hn0) trivial ?_
 refine wRUN (j2 hr0 hg0) ?_
 refine wCall (op_any_call [((0, 0), (0, 0))] [((0, 0), (0, 0))] c3) trivial ?_
 refine wRUN (j4 hz0 hz1 hzz hlm) ?_
 refine wCall (op_any_call [((0, 0), (0, 0))] [((0, 0), (0, 0))] c30) trivial ?_
 refine wRUN (j5 hz0 hz1 hzz hd15 hlenP) ?_
 refine wRUN (j8 hi0 hi1 hi2 hlenP htk hcb hc2 hdz) ?_
 refine w12 (op_rowF [] har) hfg ?_
 refine wRUN trivial ?_
 exact wRetOf (ret_of [((0, 0), (0, 0)), ((0, 1), (56, 0))] []) Tryz.results145 h00
theorem drawPath_v010 (bs : List Nat) (hb : BytesOk bs) (a : Nat) (ha : a ≤ 800000) {t : V} (ht : t.right) (P0 : List V) (hP0 : (allP false (t.paths []))[nextN bs a (allP false (t.paths [])).length]? = some P0) (hlen : 0 < (allP false (t.paths [])).length ∧ (allP false (t.paths [])).length ≤ 200) (hs0 : ∀ q ∈ P0, sKey q) (hl0 : P0.length ≤ 20)
  (h3 : (nextN bs (a + 1) 3 == 0) = false) (h30 : (nextN bs (a + 2) 30 == 0) = true) (p : Int) (hp : pickN bs (a + 3) [200, 199, -9] = p) (hcut : (P0 ++ [numV p]).length ≤ 15)
  (hall : ∀ x ∈ (P0 ++ [numV p]), sKey x) : DrawPathAC bs a t.enc (P0 ++ [numV p]) (a + 4) := by
 have hf := fault_ac t.enc
 rw [right_dec ht] at hf
 have hal := l13All_ac false t.count t [] (Nat.le_refl _) ht.2.1 ht.1 (by have := ht.2.1; simp; omega)
 have hal2 : AC Tryz.prog 247 [cellsA t.enc, .c (.sl []), .c (.bool false)] [] (.c (.sl ((allP false (t.paths [])).map pthCs))) [] := hal
 have hn0 := l1Next_ac bs hb a (allP false (t.paths [])).length (by omega) (by omega)
 have hlt := nextN_lt bs a hlen.1
 obtain ⟨hr0, hg0⟩ := row_pths hlt
 rw [List.getElem?_eq_getElem hlt, Option.some.injEq] at hP0
 rw [hP0] at hg0
 generalize nextN bs a (allP false (t.paths [])).length = i0 at *
 have hlm : ((allP false (t.paths [])).map pthCs).length = (allP false (t.paths [])).length := by simp
 clear hP0 hlt
 generalize hLP : (allP false (t.paths [])).length = LP at *
 generalize (allP false (t.paths [])).map pthCs = RP at *
 have h00 : ((0 : Int) == 0) = true := rfl
 have hz0 : P0.length + 1 ≤ 1000000 := by omega
 have hz1 : 0 + P0.length ≤ 1000000 := by omega
 have hzz : P0.length + 1 + 1 ≤ 1000000 := by omega
 have c3 := l1Chance_ac bs hb (a + 1) 3 (by omega) (by omega)
 rw [h3] at c3
 have c30 := l1Chance_ac bs hb (a + 2) 30 (by omega) (by omega)
 rw [h30] at c30
 have pc := l1Pick_ac bs hb (a + 3) [200, 199, -9] (by simp) (by simp) (by omega)
 rw [hp] at pc
 simp only [List.map_cons, List.map_nil, intCs] at pc
 have npc := l1Number_ac p
 have hrow2 := encs_snoc P0 (numV p)
 have hlq : (P0 ++ [numV p]).length ≤ 30 := by simp; omega
 have har := l1Array_ac (P0 ++ [numV p]) (arr_small hall (by omega))
 have hd15 : decide (((P0 ++ [numV p]).length : Int) > 15) = false := decide_eq_false (by omega)
 have hlenP : (((P0 ++ [numV p]).map V.enc).map encCs).length = (P0 ++ [numV p]).length := by simp
 have hmn : (([] : List V).map V.enc).map encCs = [] := rfl
 have hfg : forgetLL (((P0 ++ [numV p]).map V.enc).map encCs) = ((P0 ++ [numV p]).map V.enc).map encCs := forget_encs _
 unfold DrawPathAC
 generalize (arrV (P0 ++ [numV p])).enc = FE at *
 generalize (numV p).enc = PE at *
 generalize hL2 : (P0 ++ [numV p]).length = L2 at *
 generalize hR2 : ((P0 ++ [numV p]).map V.enc).map encCs = R2 at *
 refine wEnter Tryz.func145 Tryz.ntmps145 ?_
 refine wRUN trivial ?_
 refine w7 (op_data [] hf) trivial ?_
 refine wRUN h00 ?_
 refine w9 (op_shared [] hal2) trivial ?_
 refine wRUN hlm ?_
 refine wCall (op_any_call [((0, 0), (0, 0))] [((0, 0), (0, 0))] hn0) trivial ?_
 refine wRUN (j2 hr0 hg0) ?_
 refine wCall (op_any_call [((0, 0), (0, 0))] [((0, 0), (0, 0))] c3) trivial ?_
 refine wRUN (j4 hz0 hz1 hzz hlm) ?_
 refine wCall (op_any_call [((0, 0), (0, 0))] [((0, 0), (0, 0))] c30) trivial ?_
 refine wRUN (j5 hz0 hz1 hzz hd15 hlenP) ?_
 refine wCallB (op_callB [(45, 0)] [((0, 0), (0, 0))] [((0, 0), (0, 0))] pc) trivial ?_
 refine wRUN (j4 hz0 hz1 hzz h00) ?_
 refine w9 (op_shared [] npc) trivial ?_
 refine wRUN (j6 hz0 hz1 hzz hrow2 hd15 hlenP) ?_
 refine w12 (op_rowF [(49, 0)] har) hfg ?_
 refine wRUN trivial ?_
 exact wRetOf (ret_of [((0, 0), (0, 0)), ((0, 1), (56, 0))] []) Tryz.results145 h00
theorem drawPath_v011 (bs : List Nat) (hb : BytesOk bs) (a : Nat) (ha : a ≤ 800000) {t : V} (ht : t.right) (P0 : List V) (hP0 : (allP false (t.paths []))[nextN bs a (allP false (t.paths [])).length]? = some P0) (hlen : 0 < (allP false (t.paths [])).length ∧ (allP false (t.paths [])).length ≤ 200) (hs0 : ∀ q ∈ P0, sKey q) (hl0 : P0.length ≤ 20)
  (h3 : (nextN bs (a + 1) 3 == 0) = false) (h30 : (nextN bs (a + 2) 30 == 0) = true) (p : Int) (hp : pickN bs (a + 3) [200, 199, -9] = p) (hcut : (P0 ++ [numV p]).length > 15)
  (hall : ∀ x ∈ (P0 ++ [numV p]), sKey x) : DrawPathAC bs a t.enc ((P0 ++ [numV p]).take 15) (a + 4) := by
 have hf := fault_ac t.enc
 rw [right_dec ht] at hf
 have hal := l13All_ac false t.count t [] (Nat.le_refl _) ht.2.1 ht.1 (by have := ht.2.1; simp; omega)
 have hal2 : AC Tryz.prog 247 [cellsA t.enc, .c (.sl []), .c (.bool false)] [] (.c (.sl ((allP false (t.paths [])).map pthCs))) [] := hal
 have hn0 := l1Next_ac bs hb a (allP false (t.paths [])).length (by omega) (by omega)
 have hlt := nextN_lt bs a hlen.1
 obtain ⟨hr0, hg0⟩ := row_pths hlt
 rw [List.getElem?_eq_getElem hlt, Option.some.injEq] at hP0
 rw [hP0] at hg0
 generalize nextN bs a (allP false (t.paths [])).length = i0 at *
 have hlm : ((allP false (t.paths [])).map pthCs).length = (allP false (t.paths [])).length := by simp
 clear hP0 hlt
 generalize hLP : (allP false (t.paths [])).length = LP at *
 generalize (allP false (t.paths [])).map pthCs = RP at *
 have h00 : ((0 : Int) == 0) = true := rfl
 have hz0 : P0.length + 1 ≤ 1000000 := by omega
 have hz1 : 0 + P0.length ≤ 1000000 := by omega
 have hzz : P0.length + 1 + 1 ≤ 1000000 := by omega
 have c3 := l1Chance_ac bs hb (a + 1) 3 (by omega) (by omega)
 rw [h3] at c3
 have c30 := l1Chance_ac bs hb (a + 2) 30 (by omega) (by omega)
 rw [h30] at c30
 have pc := l1Pick_ac bs hb (a + 3) [200, 199, -9] (by simp) (by simp) (by omega)
 rw [hp] at pc
 simp only [List.map_cons, List.map_nil, intCs] at pc
 have npc := l1Number_ac p
 have hrow2 := encs_snoc P0 (numV p)
 have hlq : (P0 ++ [numV p]).length ≤ 30 := by simp; omega
 have har := l1Array_ac ((P0 ++ [numV p]).take 15) (arr_small (sk_take hall 15) (by rw [List.length_take]; omega))
 have hd15 : decide (((P0 ++ [numV p]).length : Int) > 15) = true := decide_eq_true (by omega)
 have hlenP : (((P0 ++ [numV p]).map V.enc).map encCs).length = (P0 ++ [numV p]).length := by simp
 have hi0 : (0 : Int) ≤ 15 := by decide
 have hi1 : (15 : Int) ≤ ((P0 ++ [numV p]).length : Int) := by omega
 have hi2 : 15 ≤ (P0 ++ [numV p]).length := by omega
 have htk := encs_take (P0 ++ [numV p]) 15
 have hcb : cutB (P0 ++ [numV p]).length (some (AV.c (C.int IntKind.i64 15))) = some 15 := by simp [cutB]
 have hc2 : (0 ≤ 15 ∧ 15 ≤ (P0 ++ [numV p]).length) = True := eq_true ⟨by omega, hi2⟩
 have hdz : ∀ l : List (List C), l.drop 0 = l := fun l => rfl
 have hmn : (([] : List V).map V.enc).map encCs = [] := rfl
 have hfg : forgetLL ((((P0 ++ [numV p]).take 15).map V.enc).map encCs) = (((P0 ++ [numV p]).take 15).map V.enc).map encCs := forget_encs _
 unfold DrawPathAC
 generalize (arrV ((P0 ++ [numV p]).take 15)).enc = FE at *
 generalize hR3 : (((P0 ++ [numV p]).take 15).map V.enc).map encCs = R3 at *
 generalize (numV p).enc = PE at *
 generalize hL2 : (P0 ++ [numV p]).length = L2 at *
 generalize hR2 : ((P0 ++ [numV p]).map V.enc).map encCs = R2 at *
 refine wEnter Tryz.func145 Tryz.ntmps145 ?_
 refine wRUN trivial ?_
 refine w7 (op_data [] hf) trivial ?_
 refine wRUN h00 ?_
 refine w9 (op_shared [] hal2) trivial ?_
 refine wRUN hlm ?_
 refine wCall (op_any_call [((0, 0), (0, 0))] [((0, 0), (0, 0))] hn0) trivial ?_
 refine wRUN (j2 hr0 hg0) ?_
 refine wCall (op_any_call [((0, 0), (0, 0))] [((0, 0), (0, 0))] c3) trivial ?_
 refine wRUN (j4 hz0 hz1 hzz hlm) ?_
 refine wCall (op_any_call [((0, 0), (0, 0))] [((0, 0), (0, 0))] c30) trivial ?_
 refine wRUN (j5 hz0 hz1 hzz hd15 hlenP) ?_
 refine wCallB (op_callB [(45, 0)] [((0, 0), (0, 0))] [((0, 0), (0, 0))] pc) trivial ?_
 refine wRUN (j4 hz0 hz1 hzz h00) ?_
 refine w9 (op_shared [] npc) trivial ?_
 refine wRUN (j6 hz0 hz1 hzz hrow2 hd15 hlenP) ?_
 ((with_reducible apply op_prefix); (iterate 10 (focus (first | (simp only [go_sem, Nat.reduceEqDiff, Nat.reduceAdd, Nat.reduceSub, Nat.reduceLeDiff, Nat.reduceMul, Nat.reduceBEq, Nat.reduceLT, Int.reduceToNat, reduceCtorEq, hi0, hi1, hlenP, htk]; first | done | exact rfl | (and_intros <;> rfl)) | exact rfl | decide))))
 refine wRUN (j5 hi0 hi1 hi2 hlenP htk) ?_
 refine w12 (op_rowF [(54, 0)] har) hfg ?_
 refine wRUN trivial ?_
 exact wRetOf (ret_of [((0, 0), (0, 0)), ((0, 1), (56, 0))] []) Tryz.results145 h00
theorem drawPath_v100 (bs : List Nat) (hb : BytesOk bs) (a : Nat) (ha : a ≤ 800000) {t : V} (ht : t.right) (P0 : List V) (hP0 : (allP false (t.paths []))[nextN bs a (allP false (t.paths [])).length]? = some P0) (hlen : 0 < (allP false (t.paths [])).length ∧ (allP false (t.paths [])).length ≤ 200) (hs0 : ∀ q ∈ P0, sKey q) (hl0 : P0.length ≤ 20)
  (h3 : (nextN bs (a + 1) 3 == 0) = true) (h30 : (nextN bs (a + 5) 30 == 0) = false) (q : V) (hq : [strV (keyN bs (a + 2)), numV ((nextN bs (a + 3) 5 : Nat) - 2 : Int)][nextN bs (a + 4) 2]? = some q) (hcut : (P0 ++ [q]).length ≤ 15)
  (hall : ∀ x ∈ (P0 ++ [q]), sKey x) : DrawPathAC bs a t.enc (P0 ++ [q]) (a + 6) := by
 have hf := fault_ac t.enc
 rw [right_dec ht] at hf
 have hal := l13All_ac false t.count t [] (Nat.le_refl _) ht.2.1 ht.1 (by have := ht.2.1; simp; omega)
 have hal2 : AC Tryz.prog 247 [cellsA t.enc, .c (.sl []), .c (.bool false)] [] (.c (.sl ((allP false (t.paths [])).map pthCs))) [] := hal
 have hn0 := l1Next_ac bs hb a (allP false (t.paths [])).length (by omega) (by omega)
 have hlt := nextN_lt bs a hlen.1
 obtain ⟨hr0, hg0⟩ := row_pths hlt
 rw [List.getElem?_eq_getElem hlt, Option.some.injEq] at hP0
 rw [hP0] at hg0
 generalize nextN bs a (allP false (t.paths [])).length = i0 at *
 have hlm : ((allP false (t.paths [])).map pthCs).length = (allP false (t.paths [])).length := by simp
 clear hP0 hlt
 generalize hLP : (allP false (t.paths [])).length = LP at *
 generalize (allP false (t.paths [])).map pthCs = RP at *
 have h00 : ((0 : Int) == 0) = true := rfl
 have hz0 : P0.length + 1 ≤ 1000000 := by omega
 have hz1 : 0 + P0.length ≤ 1000000 := by omega
 have hzz : P0.length + 1 + 1 ≤ 1000000 := by omega
 have c3 := l1Chance_ac bs hb (a + 1) 3 (by omega) (by omega)
 rw [h3] at c3
 have c30 := l1Chance_ac bs hb (a + 5) 30 (by omega) (by omega)
 rw [h30] at c30
 have kc := l1Key_ac bs hb (a + 2) (by omega)
 have sc := l1String_ac (keyN bs (a + 2))
 have nc := l1Next_ac bs hb (a + 3) 5 (by omega) (by omega)
 have hy5 := nextN_lt bs (a + 3) (n := 5) (by omega)
 have wc : IntKind.i64.wrap ((nextN bs (a + 3) 5 : Nat) - 2 : Int) = ((nextN bs (a + 3) 5 : Nat) - 2 : Int) := IntWalk.i64_in _ (by omega)
 have nmc := l1Number_ac ((nextN bs (a + 3) 5 : Nat) - 2 : Int)
 have n2 := l1Next_ac bs hb (a + 4) 2 (by omega) (by omega)
 have hlt2 := nextN_lt bs (a + 4) (n := 2) (by omega)
 obtain ⟨k0, k1⟩ := row_encsV (L := [strV (keyN bs (a + 2)), numV ((nextN bs (a + 3) 5 : Nat) - 2 : Int)]) hlt2
 rw [List.getElem?_eq_getElem (by exact hlt2), Option.some.injEq] at hq
 rw [hq] at k1
 simp only [List.map_cons, List.map_nil, encCs] at k0 k1
 generalize (strV (keyN bs (a + 2))).enc = E1 at *
 generalize (numV ((nextN bs (a + 3) 5 : Nat) - 2 : Int)).enc = E2 at *
 obtain ⟨z5, hz5⟩ : ∃ z5 : Int, ((nextN bs (a + 3) 5 : Nat) - 2 : Int) = z5 := ⟨_, rfl⟩
 have wc5 : IntKind.i64.wrap ((nextN bs (a + 3) 5 : Nat) - 2 : Int) = z5 := by rw [wc]; exact hz5
 clear wc
 rw [hz5] at nmc
 generalize keyN bs (a + 2) = s at *
 generalize nextN bs (a + 4) 2 = i2 at *
 have hrow1 := encs_snoc P0 q
 have hq1 : 0 + (P0 ++ [q]).length ≤ 1000000 := by simp; omega
 have hq2 : 0 + (P0.length + 1) ≤ 1000000 := by omega
 have hq3 : (P0 ++ [q]).length + 1 ≤ 1000000 := by simp; omega
 have hlq : (P0 ++ [q]).length ≤ 30 := by simp; omega
 have har := l1Array_ac (P0 ++ [q]) (arr_small hall (by omega))
 have hd15 : decide (((P0 ++ [q]).length : Int) > 15) = false := decide_eq_false (by omega)
 have hlenP : (((P0 ++ [q]).map V.enc).map encCs).length = (P0 ++ [q]).length := by simp
 have hmn : (([] : List V).map V.enc).map encCs = [] := rfl
 have hfg : forgetLL (((P0 ++ [q]).map V.enc).map encCs) = ((P0 ++ [q]).map V.enc).map encCs := forget_encs _
 unfold DrawPathAC
 generalize (arrV (P0 ++ [q])).enc = FE at *
 generalize hL2 : (P0 ++ [q]).length = L2 at *
 generalize hR2 : ((P0 ++ [q]).map V.enc).map encCs = R2 at *
 refine wEnter Tryz.func145 Tryz.ntmps145 ?_
 refine wRUN trivial ?_
 refine w7 (op_data [] hf) trivial ?_
 refine wRUN h00 ?_
 refine w9 (op_shared [] hal2) trivial ?_
 refine wRUN hlm ?_
 refine wCall (op_any_call [((0, 0), (0, 0))] [((0, 0), (0, 0))] hn0) trivial ?_
 refine wRUN (j2 hr0 hg0) ?_
 refine wCall (op_any_call [((0, 0), (0, 0))] [((0, 0), (0, 0))] c3) trivial ?_
 refine wRUN (j7 hz0 hz1 hzz hq1 hq2 hq3 hlm) ?_
 refine wCall (op_any_call [((0, 0), (0, 0))] [((0, 0), (0, 0))] kc) trivial ?_
 refine wRUN (j7 hz0 hz1 hzz hq1 hq2 hq3 h00) ?_
 refine w9 (op_shared [] sc) trivial ?_
 refine wRUN (j7 hz0 hz1 hzz hq1 hq2 hq3 h00) ?_
 refine wCall (op_any_call [((0, 0), (0, 0))] [((0, 0), (0, 0))] nc) trivial ?_
 refine wRUN (j7 hz0 hz1 hzz hq1 hq2 hq3 wc5) ?_
 refine w9 (op_shared [] nmc) trivial ?_
 refine wRUN (j7 hz0 hz1 hzz hq1 hq2 hq3 h00) ?_
 refine wCall (op_any_call [((0, 0), (0, 0))] [((0, 0), (0, 0))] n2) trivial ?_
 refine wRUN (j9 hz0 hz1 hzz hq1 hq2 hq3 k0 k1 hrow1) ?_
 refine wCall (op_any_call [((0, 0), (0, 0))] [((0, 0), (0, 0))] c30) trivial ?_
 refine wRUN (j9 hz0 hz1 hzz hq1 hq2 hq3 hd15 hlenP hrow1) ?_
 refine w12 (op_rowF [(38, 0)] har) hfg ?_
 refine wRUN trivial ?_
 exact wRetOf (ret_of [((0, 0), (0, 0)), ((0, 1), (56, 0))] []) Tryz.results145 h00
theorem drawPath_v101 (bs : List Nat) (hb : BytesOk bs) (a : Nat) (ha : a ≤ 800000) {t : V} (ht : t.right) (P0 : List V) (hP0 : (allP false (t.paths []))[nextN bs a (allP false (t.paths [])).length]? = some P0) (hlen : 0 < (allP false (t.paths [])).length ∧ (allP false (t.paths [])).length ≤ 200) (hs0 : ∀ q ∈ P0, sKey q) (hl0 : P0.length ≤ 20)
  (h3 : (nextN bs (a + 1) 3 == 0) = true) (h30 : (nextN bs (a + 5) 30 == 0) = false) (q : V) (hq : [strV (keyN bs (a + 2)), numV ((nextN bs (a + 3) 5 : Nat) - 2 : Int)][nextN bs (a + 4) 2]? = some q) (hcut : (P0 ++ [q]).length > 15)
  (hall : ∀ x ∈ (P0 ++ [q]), sKey x) : DrawPathAC bs a t.enc ((P0 ++ [q]).take 15) (a + 6) := by
 have hf := fault_ac t.enc
 rw [right_dec ht] at hf
 have hal := l13All_ac false t.count t [] (Nat.le_refl _) ht.2.1 ht.1 (by have := ht.2.1; simp; omega)
 have hal2 : AC Tryz.prog 247 [cellsA t.enc, .c (.sl []), .c (.bool false)] [] (.c (.sl ((allP false (t.paths [])).map pthCs))) [] := hal
 have hn0 := l1Next_ac bs hb a (allP false (t.paths [])).length (by omega) (by omega)
 have hlt := nextN_lt bs a hlen.1
 obtain ⟨hr0, hg0⟩ := row_pths hlt
 rw [List.getElem?_eq_getElem hlt, Option.some.injEq] at hP0
 rw [hP0] at hg0
 generalize nextN bs a (allP false (t.paths [])).length = i0 at *
 have hlm : ((allP false (t.paths [])).map pthCs).length = (allP false (t.paths [])).length := by simp
 clear hP0 hlt
 generalize hLP : (allP false (t.paths [])).length = LP at *
 generalize (allP false (t.paths [])).map pthCs = RP at *
 have h00 : ((0 : Int) == 0) = true := rfl
 have hz0 : P0.length + 1 ≤ 1000000 := by omega
 have hz1 : 0 + P0.length ≤ 1000000 := by omega
 have hzz : P0.length + 1 + 1 ≤ 1000000 := by omega
 have c3 := l1Chance_ac bs hb (a + 1) 3 (by omega) (by omega)
 rw [h3] at c3
 have c30 := l1Chance_ac bs hb (a + 5) 30 (by omega) (by omega)
 rw [h30] at c30
 have kc := l1Key_ac bs hb (a + 2) (by omega)
 have sc := l1String_ac (keyN bs (a + 2))
 have nc := l1Next_ac bs hb (a + 3) 5 (by omega) (by omega)
 have hy5 := nextN_lt bs (a + 3) (n := 5) (by omega)
 have wc : IntKind.i64.wrap ((nextN bs (a + 3) 5 : Nat) - 2 : Int) = ((nextN bs (a + 3) 5 : Nat) - 2 : Int) := IntWalk.i64_in _ (by omega)
 have nmc := l1Number_ac ((nextN bs (a + 3) 5 : Nat) - 2 : Int)
 have n2 := l1Next_ac bs hb (a + 4) 2 (by omega) (by omega)
 have hlt2 := nextN_lt bs (a + 4) (n := 2) (by omega)
 obtain ⟨k0, k1⟩ := row_encsV (L := [strV (keyN bs (a + 2)), numV ((nextN bs (a + 3) 5 : Nat) - 2 : Int)]) hlt2
 rw [List.getElem?_eq_getElem (by exact hlt2), Option.some.injEq] at hq
 rw [hq] at k1
 simp only [List.map_cons, List.map_nil, encCs] at k0 k1
 generalize (strV (keyN bs (a + 2))).enc = E1 at *
 generalize (numV ((nextN bs (a + 3) 5 : Nat) - 2 : Int)).enc = E2 at *
 obtain ⟨z5, hz5⟩ : ∃ z5 : Int, ((nextN bs (a + 3) 5 : Nat) - 2 : Int) = z5 := ⟨_, rfl⟩
 have wc5 : IntKind.i64.wrap ((nextN bs (a + 3) 5 : Nat) - 2 : Int) = z5 := by rw [wc]; exact hz5
 clear wc
 rw [hz5] at nmc
 generalize keyN bs (a + 2) = s at *
 generalize nextN bs (a + 4) 2 = i2 at *
 have hrow1 := encs_snoc P0 q
 have hq1 : 0 + (P0 ++ [q]).length ≤ 1000000 := by simp; omega
 have hq2 : 0 + (P0.length + 1) ≤ 1000000 := by omega
 have hq3 : (P0 ++ [q]).length + 1 ≤ 1000000 := by simp; omega
 have hlq : (P0 ++ [q]).length ≤ 30 := by simp; omega
 have har := l1Array_ac ((P0 ++ [q]).take 15) (arr_small (sk_take hall 15) (by rw [List.length_take]; omega))
 have hd15 : decide (((P0 ++ [q]).length : Int) > 15) = true := decide_eq_true (by omega)
 have hlenP : (((P0 ++ [q]).map V.enc).map encCs).length = (P0 ++ [q]).length := by simp
 have hi0 : (0 : Int) ≤ 15 := by decide
 have hi1 : (15 : Int) ≤ ((P0 ++ [q]).length : Int) := by omega
 have hi2 : 15 ≤ (P0 ++ [q]).length := by omega
 have htk := encs_take (P0 ++ [q]) 15
 have hcb : cutB (P0 ++ [q]).length (some (AV.c (C.int IntKind.i64 15))) = some 15 := by simp [cutB]
 have hc2 : (0 ≤ 15 ∧ 15 ≤ (P0 ++ [q]).length) = True := eq_true ⟨by omega, hi2⟩
 have hdz : ∀ l : List (List C), l.drop 0 = l := fun l => rfl
 have hmn : (([] : List V).map V.enc).map encCs = [] := rfl
 have hfg : forgetLL ((((P0 ++ [q]).take 15).map V.enc).map encCs) = (((P0 ++ [q]).take 15).map V.enc).map encCs := forget_encs _
 unfold DrawPathAC
 generalize (arrV ((P0 ++ [q]).take 15)).enc = FE at *
 generalize hR3 : (((P0 ++ [q]).take 15).map V.enc).map encCs = R3 at *
 generalize hL2 : (P0 ++ [q]).length = L2 at *
 generalize hR2 : ((P0 ++ [q]).map V.enc).map encCs = R2 at *
 refine wEnter Tryz.func145 Tryz.ntmps145 ?_
 refine wRUN trivial ?_
 refine w7 (op_data [] hf) trivial ?_
 refine wRUN h00 ?_
 refine w9 (op_shared [] hal2) trivial ?_
 refine wRUN hlm ?_
 refine wCall (op_any_call [((0, 0), (0, 0))] [((0, 0), (0, 0))] hn0) trivial ?_
 refine wRUN (j2 hr0 hg0) ?_
 refine wCall (op_any_call [((0, 0), (0, 0))] [((0, 0), (0, 0))] c3) trivial ?_
 refine wRUN (j7 hz0 hz1 hzz hq1 hq2 hq3 hlm) ?_
 refine wCall (op_any_call [((0, 0), (0, 0))] [((0, 0), (0, 0))] kc) trivial ?_
 refine wRUN (j7 hz0 hz1 hzz hq1 hq2 hq3 h00) ?_
 refine w9 (op_shared [] sc) trivial ?_
 refine wRUN (j7 hz0 hz1 hzz hq1 hq2 hq3 h00) ?_
 refine wCall (op_any_call [((0, 0), (0, 0))] [((0, 0), (0, 0))] nc) trivial ?_
 refine wRUN (j7 hz0 hz1 hzz hq1 hq2 hq3 wc5) ?_
 refine w9 (op_shared [] nmc) trivial ?_
 refine wRUN (j7 hz0 hz1 hzz hq1 hq2 hq3 h00) ?_
 refine wCall (op_any_call [((0, 0), (0, 0))] [((0, 0), (0, 0))] n2) trivial ?_
 refine wRUN (j9 hz0 hz1 hzz hq1 hq2 hq3 k0 k1 hrow1) ?_
 refine wCall (op_any_call [((0, 0), (0, 0))] [((0, 0), (0, 0))] c30) trivial ?_
 refine wRUN (j9 hz0 hz1 hzz hq1 hq2 hq3 hd15 hlenP hrow1) ?_
 ((with_reducible apply op_prefix); (iterate 10 (focus (first | (simp only [go_sem, Nat.reduceEqDiff, Nat.reduceAdd, Nat.reduceSub, Nat.reduceLeDiff, Nat.reduceMul, Nat.reduceBEq, Nat.reduceLT, Int.reduceToNat, reduceCtorEq, hi0, hi1, hlenP, htk]; first | done | exact rfl | (and_intros <;> rfl)) | exact rfl | decide))))
 refine wRUN (j5 hi0 hi1 hi2 hlenP htk) ?_
 refine w12 (op_rowF [(54, 0)] har) hfg ?_
 refine wRUN trivial ?_
 exact wRetOf (ret_of [((0, 0), (0, 0)), ((0, 1), (56, 0))] []) Tryz.results145 h00
theorem drawPath_v110 (bs : List Nat) (hb : BytesOk bs) (a : Nat) (ha : a ≤ 800000) {t : V} (ht : t.right) (P0 : List V) (hP0 : (allP false (t.paths []))[nextN bs a (allP false (t.paths [])).length]? = some P0) (hlen : 0 < (allP false (t.paths [])).length ∧ (allP false (t.paths [])).length ≤ 200) (hs0 : ∀ q ∈ P0, sKey q) (hl0 : P0.length ≤ 20)
  (h3 : (nextN bs (a + 1) 3 == 0) = true) (h30 : (nextN bs (a + 5) 30 == 0) = true) (q : V) (hq : [strV (keyN bs (a + 2)), numV ((nextN bs (a + 3) 5 : Nat) - 2 : Int)][nextN bs (a + 4) 2]? = some q) (p : Int) (hp : pickN bs (a + 6) [200, 199, -9] = p) (hcut : ((P0 ++ [q]) ++ [numV p]).length ≤ 15)
  (hall : ∀ x ∈ ((P0 ++ [q]) ++ [numV p]), sKey x) : DrawPathAC bs a t.enc ((P0 ++ [q]) ++ [numV p]) (a + 7) := by
 have hf := fault_ac t.enc
 rw [right_dec ht] at hf
 have hal := l13All_ac false t.count t [] (Nat.le_refl _) ht.2.1 ht.1 (by have := ht.2.1; simp; omega)
 have hal2 : AC Tryz.prog 247 [cellsA t.enc, .c (.sl []), .c (.bool false)] [] (.c (.sl ((allP false (t.paths [])).map pthCs))) [] := hal
 have hn0 := l1Next_ac bs hb a (allP false (t.paths [])).length (by omega) (by omega)
 have hlt := nextN_lt bs a hlen.1
 obtain ⟨hr0, hg0⟩ := row_pths hlt
 rw [List.getElem?_eq_getElem hlt, Option.some.injEq] at hP0
 rw [hP0] at hg0
 generalize nextN bs a (allP false (t.paths [])).length = i0 at *
 have hlm : ((allP false (t.paths [])).map pthCs).length = (allP false (t.paths [])).length := by simp
 clear hP0 hlt
 generalize hLP : (allP false (t.paths [])).length = LP at *
 generalize (allP false (t.paths [])).map pthCs = RP at *
 have h00 : ((0 : Int) == 0) = true := rfl
 have hz0 : P0.length + 1 ≤ 1000000 := by omega
 have hz1 : 0 + P0.length ≤ 1000000 := by omega
 have hzz : P0.length + 1 + 1 ≤ 1000000 := by omega
 have c3 := l1Chance_ac bs hb (a + 1) 3 (by omega) (by omega)
 rw [h3] at c3
 have c30 := l1Chance_ac bs hb (a + 5) 30 (by omega) (by omega)
 rw [h30] at c30
 have kc := l1Key_ac bs hb (a + 2) (by omega)
 have sc := l1String_ac (keyN bs (a + 2))
 have nc := l1Next_ac bs hb (a + 3) 5 (by omega) (by omega)
 have hy5 := nextN_lt bs (a + 3) (n := 5) (by omega)
 have wc : IntKind.i64.wrap ((nextN bs (a + 3) 5 : Nat) - 2 : Int) = ((nextN bs (a + 3) 5 : Nat) - 2 : Int) := IntWalk.i64_in _ (by omega)
 have nmc := l1Number_ac ((nextN bs (a + 3) 5 : Nat) - 2 : Int)
 have n2 := l1Next_ac bs hb (a + 4) 2 (by omega) (by omega)
 have hlt2 := nextN_lt bs (a + 4) (n := 2) (by omega)
 obtain ⟨k0, k1⟩ := row_encsV (L := [strV (keyN bs (a + 2)), numV ((nextN bs (a + 3) 5 : Nat) - 2 : Int)]) hlt2
 rw [List.getElem?_eq_getElem (by exact hlt2), Option.some.injEq] at hq
 rw [hq] at k1
 simp only [List.map_cons, List.map_nil, encCs] at k0 k1
 generalize (strV (keyN bs (a + 2))).enc = E1 at *
 generalize (numV ((nextN bs (a + 3) 5 : Nat) - 2 : Int)).enc = E2 at *
 obtain ⟨z5, hz5⟩ : ∃ z5 : Int, ((nextN bs (a + 3) 5 : Nat) - 2 : Int) = z5 := ⟨_, rfl⟩
 have wc5 : IntKind.i64.wrap ((nextN bs (a + 3) 5 : Nat) - 2 : Int) = z5 := by rw [wc]; exact hz5
 clear wc
 rw [hz5] at nmc
 generalize keyN bs (a + 2) = s at *
 generalize nextN bs (a + 4) 2 = i2 at *
 have hrow1 := encs_snoc P0 q
 have hq1 : 0 + (P0 ++ [q]).length ≤ 1000000 := by simp; omega
 have hq2 : 0 + (P0.length + 1) ≤ 1000000 := by omega
 have hq3 : (P0 ++ [q]).length + 1 ≤ 1000000 := by simp; omega
 have pc := l1Pick_ac bs hb (a + 6) [200, 199, -9] (by simp) (by simp) (by omega)
 rw [hp] at pc
 simp only [List.map_cons, List.map_nil, intCs] at pc
 have npc := l1Number_ac p
 have hrow2 := encs_snoc (P0 ++ [q]) (numV p)
 have hlq : ((P0 ++ [q]) ++ [numV p]).length ≤ 30 := by simp; omega
 have har := l1Array_ac ((P0 ++ [q]) ++ [numV p]) (arr_small hall (by omega))
 have hd15 : decide ((((P0 ++ [q]) ++ [numV p]).length : Int) > 15) = false := decide_eq_false (by omega)
 have hlenP : ((((P0 ++ [q]) ++ [numV p]).map V.enc).map encCs).length = ((P0 ++ [q]) ++ [numV p]).length := by simp
 have hmn : (([] : List V).map V.enc).map encCs = [] := rfl
 have hfg : forgetLL ((((P0 ++ [q]) ++ [numV p]).map V.enc).map encCs) = (((P0 ++ [q]) ++ [numV p]).map V.enc).map encCs := forget_encs _
 unfold DrawPathAC
 generalize (arrV ((P0 ++ [q]) ++ [numV p])).enc = FE at *
 generalize (numV p).enc = PE at *
 generalize hL2 : ((P0 ++ [q]) ++ [numV p]).length = L2 at *
 generalize hR2 : (((P0 ++ [q]) ++ [numV p]).map V.enc).map encCs = R2 at *
 refine wEnter Tryz.func145 Tryz.ntmps145 ?_
 refine wRUN trivial ?_
 refine w7 (op_data [] hf) trivial ?_
 refine wRUN h00 ?_
 refine w9 (op_shared [] hal2) trivial ?_
 refine wRUN hlm ?_
 refine wCall (op_any_call [((0, 0), (0, 0))] [((0, 0), (0, 0))] hn0) trivial ?_
 refine wRUN (j2 hr0 hg0) ?_
 refine wCall (op_any_call [((0, 0), (0, 0))] [((0, 0), (0, 0))] c3) trivial ?_
 refine wRUN (j7 hz0 hz1 hzz hq1 hq2 hq3 hlm) ?_
 refine wCall (op_any_call [((0, 0), (0, 0))] [((0, 0), (0, 0))] kc) trivial ?_
 refine wRUN (j7 hz0 hz1 hzz hq1 hq2 hq3 h00) ?_
 refine w9 (op_shared [] sc) trivial ?_
 refine wRUN (j7 hz0 hz1 hzz hq1 hq2 hq3 h00) ?_
 refine wCall (op_any_call [((0, 0), (0, 0))] [((0, 0), (0, 0))] nc) trivial ?_
 refine wRUN (j7 hz0 hz1 hzz hq1 hq2 hq3 wc5) ?_
 refine w9 (op_shared [] nmc) trivial ?_
 refine wRUN (j7 hz0 hz1 hzz hq1 hq2 hq3 h00) ?_
 refine wCall (op_any_call [((0, 0), (0, 0))] [((0, 0), (0, 0))] n2) trivial ?_
 refine wRUN (j9 hz0 hz1 hzz hq1 hq2 hq3 k0 k1 hrow1) ?_
 refine wCall (op_any_call [((0, 0), (0, 0))] [((0, 0), (0, 0))] c30) trivial ?_
 refine wRUN (j9 hz0 hz1 hzz hq1 hq2 hq3 hd15 hlenP hrow1) ?_
 refine wCallB (op_callB [(45, 0)] [((0, 0), (0, 0))] [((0, 0), (0, 0))] pc) trivial ?_
 refine wRUN (j7 hz0 hz1 hzz hq1 hq2 hq3 h00) ?_
 refine w9 (op_shared [] npc) trivial ?_
 refine wRUN (j9 hz0 hz1 hzz hq1 hq2 hq3 hrow2 hd15 hlenP) ?_
 refine w12 (op_rowF [(49, 0)] har) hfg ?_
 refine wRUN trivial ?_
 exact wRetOf (ret_of [((0, 0), (0, 0)), ((0, 1), (56, 0))] []) Tryz.results145 h00
theorem drawPath_v111 (bs : List Nat) (hb : BytesOk bs) (a : Nat) (ha : a ≤ 800000) {t : V} (ht : t.right) (P0 : List V) (hP0 : (allP false (t.paths []))[nextN bs a (allP false (t.paths [])).length]? = some P0) (hlen : 0 < (allP false (t.paths [])).length ∧ (allP false (t.paths [])).length ≤ 200) (hs0 : ∀ q ∈ P0, sKey q) (hl0 : P0.length ≤ 20)
  (h3 : (nextN bs (a + 1) 3 == 0) = true) (h30 : (nextN bs (a + 5) 30 == 0) = true) (q : V) (hq : [strV (keyN bs (a + 2)), numV ((nextN bs (a + 3) 5 : Nat) - 2 : Int)][nextN bs (a + 4) 2]? = some q) (p : Int) (hp : pickN bs (a + 6) [200, 199, -9] = p) (hcut : ((P0 ++ [q]) ++ [numV p]).length > 15)
  (hall : ∀ x ∈ ((P0 ++ [q]) ++ [numV p]), sKey x) : DrawPathAC bs a t.enc (((P0 ++ [q]) ++ [numV p]).take 15) (a + 7) := by
 have hf := fault_ac t.enc
 rw [right_dec ht] at hf
 have hal := l13All_ac false t.count t [] (Nat.le_refl _) ht.2.1 ht.1 (by have := ht.2.1; simp; omega)
 have hal2 : AC Tryz.prog 247 [cellsA t.enc, .c (.sl []), .c (.bool false)] [] (.c (.sl ((allP false (t.paths [])).map pthCs))) [] := hal
 have hn0 := l1Next_ac bs hb a (allP false (t.paths [])).length (by omega) (by omega)
 have hlt := nextN_lt bs a hlen.1
 obtain ⟨hr0, hg0⟩ := row_pths hlt
 rw [List.getElem?_eq_getElem hlt, Option.some.injEq] at hP0
 rw [hP0] at hg0
 generalize nextN bs a (allP false (t.paths [])).length = i0 at *
 have hlm : ((allP false (t.paths [])).map pthCs).length = (allP false (t.paths [])).length := by simp
 clear hP0 hlt
 generalize hLP : (allP false (t.paths [])).length = LP at *
 generalize (allP false (t.paths [])).map pthCs = RP at *
 have h00 : ((0 : Int) == 0) = true := rfl
 have hz0 : P0.length + 1 ≤ 1000000 := by omega
 have hz1 : 0 + P0.length ≤ 1000000 := by omega
 have hzz : P0.length + 1 + 1 ≤ 1000000 := by omega
 have c3 := l1Chance_ac bs hb (a + 1) 3 (by omega) (by omega)
 rw [h3] at c3
 have c30 := l1Chance_ac bs hb (a + 5) 30 (by omega) (by omega)
 rw [h30] at c30
 have kc := l1Key_ac bs hb (a + 2) (by omega)
 have sc := l1String_ac (keyN bs (a + 2))
 have nc := l1Next_ac bs hb (a + 3) 5 (by omega) (by omega)
 have hy5 := nextN_lt bs (a + 3) (n := 5) (by omega)
 have wc : IntKind.i64.wrap ((nextN bs (a + 3) 5 : Nat) - 2 : Int) = ((nextN bs (a + 3) 5 : Nat) - 2 : Int) := IntWalk.i64_in _ (by omega)
 have nmc := l1Number_ac ((nextN bs (a + 3) 5 : Nat) - 2 : Int)
 have n2 := l1Next_ac bs hb (a + 4) 2 (by omega) (by omega)
 have hlt2 := nextN_lt bs (a + 4) (n := 2) (by omega)
 obtain ⟨k0, k1⟩ := row_encsV (L := [strV (keyN bs (a + 2)), numV ((nextN bs (a + 3) 5 : Nat) - 2 : Int)]) hlt2
 rw [List.getElem?_eq_getElem (by exact hlt2), Option.some.injEq] at hq
 rw [hq] at k1
 simp only [List.map_cons, List.map_nil, encCs] at k0 k1
 generalize (strV (keyN bs (a + 2))).enc = E1 at *
 generalize (numV ((nextN bs (a + 3) 5 : Nat) - 2 : Int)).enc = E2 at *
 obtain ⟨z5, hz5⟩ : ∃ z5 : Int, ((nextN bs (a + 3) 5 : Nat) - 2 : Int) = z5 := ⟨_, rfl⟩
 have wc5 : IntKind.i64.wrap ((nextN bs (a + 3) 5 : Nat) - 2 : Int) = z5 := by rw [wc]; exact hz5
 clear wc
 rw [hz5] at nmc
 generalize keyN bs (a + 2) = s at *
 generalize nextN bs (a + 4) 2 = i2 at *
 have hrow1 := encs_snoc P0 q
 have hq1 : 0 + (P0 ++ [q]).length ≤ 1000000 := by simp; omega
 have hq2 : 0 + (P0.length + 1) ≤ 1000000 := by omega
 have hq3 : (P0 ++ [q]).length + 1 ≤ 1000000 := by simp; omega
 have pc := l1Pick_ac bs hb (a + 6) [200, 199, -9] (by simp) (by simp) (by omega)
 rw [hp] at pc
 simp only [List.map_cons, List.map_nil, intCs] at pc
 have npc := l1Number_ac p
 have hrow2 := encs_snoc (P0 ++ [q]) (numV p)
 have hlq : ((P0 ++ [q]) ++ [numV p]).length ≤ 30 := by simp; omega
 have har := l1Array_ac (((P0 ++ [q]) ++ [numV p]).take 15) (arr_small (sk_take hall 15) (by rw [List.length_take]; omega))
 have hd15 : decide ((((P0 ++ [q]) ++ [numV p]).length : Int) > 15) = true := decide_eq_true (by omega)
 have hlenP : ((((P0 ++ [q]) ++ [numV p]).map V.enc).map encCs).length = ((P0 ++ [q]) ++ [numV p]).length := by simp
 have hi0 : (0 : Int) ≤ 15 := by decide
 have hi1 : (15 : Int) ≤ (((P0 ++ [q]) ++ [numV p]).length : Int) := by omega
 have hi2 : 15 ≤ ((P0 ++ [q]) ++ [numV p]).length := by omega
 have htk := encs_take ((P0 ++ [q]) ++ [numV p]) 15
 have hcb : cutB ((P0 ++ [q]) ++ [numV p]).length (some (AV.c (C.int IntKind.i64 15))) = some 15 := by simp [cutB]
 have hc2 : (0 ≤ 15 ∧ 15 ≤ ((P0 ++ [q]) ++ [numV p]).length) = True := eq_true ⟨by omega, hi2⟩
 have hdz : ∀ l : List (List C), l.drop 0 = l := fun l => rfl
 have hmn : (([] : List V).map V.enc).map encCs = [] := rfl
 have hfg : forgetLL (((((P0 ++ [q]) ++ [numV p]).take 15).map V.enc).map encCs) = ((((P0 ++ [q]) ++ [numV p]).take 15).map V.enc).map encCs := forget_encs _
 unfold DrawPathAC
 generalize (arrV (((P0 ++ [q]) ++ [numV p]).take 15)).enc = FE at *
 generalize hR3 : ((((P0 ++ [q]) ++ [numV p]).take 15).map V.enc).map encCs = R3 at *
 generalize (numV p).enc = PE at *
 generalize hL2 : ((P0 ++ [q]) ++ [numV p]).length = L2 at *
 generalize hR2 : (((P0 ++ [q]) ++ [numV p]).map V.enc).map encCs = R2 at *
 refine wEnter Tryz.func145 Tryz.ntmps145 ?_
 refine wRUN trivial ?_
 refine w7 (op_data [] hf) trivial ?_
 refine wRUN h00 ?_
 refine w9 (op_shared [] hal2) trivial ?_
 refine wRUN hlm ?_
 refine wCall (op_any_call [((0, 0), (0, 0))] [((0, 0), (0, 0))] hn0) trivial ?_
 refine wRUN (j2 hr0 hg0) ?_
 refine wCall (op_any_call [((0, 0), (0, 0))] [((0, 0), (0, 0))] c3) trivial ?_
 refine wRUN (j7 hz0 hz1 hzz hq1 hq2 hq3 hlm) ?_
 refine wCall (op_any_call [((0, 0), (0, 0))] [((0, 0), (0, 0))] kc) trivial ?_
 refine wRUN (j7 hz0 hz1 hzz hq1 hq2 hq3 h00) ?_
 refine w9 (op_shared [] sc) trivial ?_
 refine wRUN (j7 hz0 hz1 hzz hq1 hq2 hq3 h00) ?_
 refine wCall (op_any_call [((0, 0), (0, 0))] [((0, 0), (0, 0))] nc) trivial ?_
 refine wRUN (j7 hz0 hz1 hzz hq1 hq2 hq3 wc5) ?_
 refine w9 (op_shared [] nmc) trivial ?_
 refine wRUN (j7 hz0 hz1 hzz hq1 hq2 hq3 h00) ?_
 refine wCall (op_any_call [((0, 0), (0, 0))] [((0, 0), (0, 0))] n2) trivial ?_
 refine wRUN (j9 hz0 hz1 hzz hq1 hq2 hq3 k0 k1 hrow1) ?_
 refine wCall (op_any_call [((0, 0), (0, 0))] [((0, 0), (0, 0))] c30) trivial ?_
 refine wRUN (j9 hz0 hz1 hzz hq1 hq2 hq3 hd15 hlenP hrow1) ?_
 refine wCallB (op_callB [(45, 0)] [((0, 0), (0, 0))] [((0, 0), (0, 0))] pc) trivial ?_
 refine wRUN (j7 hz0 hz1 hzz hq1 hq2 hq3 h00) ?_
 refine w9 (op_shared [] npc) trivial ?_
 refine wRUN (j9 hz0 hz1 hzz hq1 hq2 hq3 hrow2 hd15 hlenP) ?_
 ((with_reducible apply op_prefix); (iterate 10 (focus (first | (simp only [go_sem, Nat.reduceEqDiff, Nat.reduceAdd, Nat.reduceSub, Nat.reduceLeDiff, Nat.reduceMul, Nat.reduceBEq, Nat.reduceLT, Int.reduceToNat, reduceCtorEq, hi0, hi1, hlenP, htk]; first | done | exact rfl | (and_intros <;> rfl)) | exact rfl | decide))))
 refine wRUN (j5 hi0 hi1 hi2 hlenP htk) ?_
 refine w12 (op_rowF [(54, 0)] har) hfg ?_
 refine wRUN trivial ?_
 exact wRetOf (ret_of [((0, 0), (0, 0)), ((0, 1), (56, 0))] []) Tryz.results145 h00
end Go.Proofs.YtamgeodhpglgkaaGreat
