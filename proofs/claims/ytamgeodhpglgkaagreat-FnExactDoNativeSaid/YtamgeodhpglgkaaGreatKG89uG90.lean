/- Texts of this proof: G89 G90. -/
import Derived.Test.YtamgeodhpglgkaaGreatKG16uG35
import Derived.Lib.SlicesCompact
import Derived.Test.YtamgeodhpglgkaaGreatKG25uG26
import Derived.Test.YtamgeodhpglgkaaGreatKE6
import Derived.Test.YtamgeodhpglgkaaGreatKG01uG02
set_option linter.unusedSimpArgs false
set_option maxHeartbeats 8000000
namespace Go.Proofs.YtamgeodhpglgkaaGreat
open Go.RowKit
set_option maxRecDepth 10000
theorem deep_ac : ∀ (m : Nat) (t : V), t.count ≤ m → t.count ≤ 500000 → AC Tryz.prog 242 [t.av] [] (.own (0, 0)) [((0, 0), .row false 5 101 (t.deep.map V.cs))] := by
 intro m
 induction m with
 | zero => intro t hm _; have := count_pos t; omega
 | succ m ih =>
  intro t hm hM
  have hkc := count_kids t
  have hkl := countL_len t.kids
  have hdl := deep_len t
  obtain ⟨R, hR⟩ : ∃ R : Nat → List V, ∀ k, R k = t :: deepL (t.kids.take k) := ⟨_, fun _ => rfl⟩
  have h0 : (R 0).map V.cs = [t.cs] := by rw [hR]; simp [deepL]
  rw [V.cs_eq] at h0
  refine wEnter Tryz.func242 Tryz.ntmps242 ?_
  refine wRUN trivial ?_
  refine a_loop (κ := Nat) (fun k => ⟨mkS 0 21 [(1, .ptr (1, 0) 0), (3, .own (99, 0)), (9, .c (.sl (t.kids.map V.cs))), (10, .c (.int .i64 t.kids.length)), (11, .c (.int .i64 k))],
    [((1, 0), .box [.c (.int .i64 t.kind), .c (.int .i64 t.num), .c (.str t.text), .c (.sl (t.keys.map strCs)), .c (.sl (t.kids.map V.cs))]), ((99, 0), .row false 5 101 ((R k).map V.cs))]⟩)
   (fun k => k ≤ t.kids.length) (fun k => t.kids.length - k) 0 (Nat.zero_le _) ?_ ?_
  ·exact wSays (Says.of [((1, 0), (1, 0)), ((99, 0), (7, 0))] []) h0
  ·intro k hk
   by_cases hlt : k < t.kids.length
   ·have hd : decide ((k : Int) < (t.kids.length : Int)) = true := by simpa using hlt
    have hr : rowsAt (t.kids.map V.cs) 5 k = true := by simp [rowsAt, hlt, V.cs_eq]
    have hg : (t.kids.map V.cs)[k]? = some t.kids[k].cs := by simp [hlt]
    have hmem := countL_mem (List.getElem_mem hlt)
    have hRk : R (k + 1) = R k ++ t.kids[k].deep := by rw [hR, hR, List.take_succ_eq_append_getElem hlt, deepL_app]; simp [deepL]
    have hRl : (R k).length + t.kids[k].deep.length ≤ t.count := by
     have h1 := countL_take_le t.kids (k + 1)
     rw [List.take_succ_eq_append_getElem hlt, countL_snoc] at h1
     rw [hR, List.length_cons, deepL_len, deep_len]
     omega
    have hol : (R k).length + t.kids[k].deep.length ≤ 1000000 := by omega
    have hrow : (R k).map V.cs ++ t.kids[k].deep.map V.cs = (R (k + 1)).map V.cs := by rw [hRk, List.map_append]
    have hw := wrap_succ (k := k) (by omega)
    generalize t.kids[k] = u at *
    have hi := ih u (by omega) (by omega)
    refine wRUN (j3 hd hr hg) ?_
    refine w12 (op_rowF [] hi) trivial ?_
    refine wRUN (j2 hol hw) ?_
    refine ⟨k + 1, by omega, by omega, ?_⟩
    exact wSays (Says.of [((1, 0), (1, 0)), ((99, 0), (18, 0))] []) hrow
   ·have hd : decide ((k : Int) < (t.kids.length : Int)) = false := by simpa using hlt
    have hke : R k = t.deep := by rw [hR, List.take_of_length_le (by omega), deep_eq]
    refine wRUN hd ?_
    exact wRetOf (ret_of [((0, 0), (99, 0))] []) Tryz.results242 hke
def deepV (t : V) : Int × Option V := giveR (arrV t.deep)
theorem deep_fit {t : V} (ht : t.right) : (arrV t.deep).fit ∧ (arrV t.deep).count ≤ 40001 := by
 have hc := ht.2.1
 have hl := deep_len t
 refine ⟨arr_fit fun s hs => fit_right (deep_right t ht s hs).1, ?_⟩
 have h := countL_le (l := t.deep) (m := 200) fun s hs => (deep_right t ht s hs).1.2.1
 simp only [arrV, V.count]
 have : 200 * t.deep.length ≤ 200 * 200 := Nat.mul_le_mul_left _ (by omega)
 omega
theorem deepV_ok {t : V} (ht : t.right) : okRes (deepV t) := give_ok (deep_fit ht).1
theorem deepOf_ac {t : V} (ht : t.right) : AC Tryz.prog 141 [t.av] [] (resA (deepV t)) [] := by
 have h1 := deep_ac t.count t (Nat.le_refl _) (by have := ht.2.1; omega)
 have h2 := array_ac t.deep
 obtain ⟨f1, f2⟩ := deep_fit ht
 have h3 := gives_any f1 (by omega)
 unfold deepV
 generalize arrV t.deep = d at *
 rcases okRes_ways (give_ok f1) with ⟨v, h, hv⟩ | ⟨c, hc, h⟩
 ·rw [h, resA_some] at h3 ⊢
  refine wEnter Tryz.func141 Tryz.ntmps141 ?_
  refine wRUN trivial ?_
  refine w12 (op_rowF [] h1) trivial ?_
  refine wRUN trivial ?_
  refine w9 (op_shared [(4, 0)] h2) trivial ?_
  refine wRUN trivial ?_
  refine w9 (op_shared [] h3) trivial ?_
  refine wRUN trivial ?_
  exact wRetOf (ret_of [] []) Tryz.results141 f2
 ·rw [h, resA_none] at h3 ⊢
  refine wEnter Tryz.func141 Tryz.ntmps141 ?_
  refine wRUN trivial ?_
  refine w12 (op_rowF [] h1) trivial ?_
  refine wRUN trivial ?_
  refine w9 (op_shared [(4, 0)] h2) trivial ?_
  refine wRUN trivial ?_
  refine w9 (op_shared [] h3) trivial ?_
  refine wRUN trivial ?_
  exact wRetOf (ret_of [] []) Tryz.results141 f2
def oneR (F : V → Int × Option V) (xs : List CellD) : Int × Option V := match dec xs with
 | (c, none) => (c, none)
 | (_, some t) => F t
set_option maxRecDepth 10000
theorem l6All_ac : ∀ (m : Nat) (t : V), t.count ≤ m → t.right → AC Tryz.prog 232 [cellsA t.enc] [] (.own (0, 0)) [((0, 0), .row true 1 24 ((t.deep.map V.enc).map oslCs))] := by
 intro m
 induction m with
 | zero => intro t hm _; have := count_pos t; omega
 | succ m ih =>
  intro t hm ht
  have _a1 := all_osl
  have _a2 := closed_osl
  have _a3 := forget_osl
  have hM := ht.2.1
  have hkc := count_kids t
  have hkl := countL_len t.kids
  have hdl := deep_len t
  have hel := enc_len t
  have hps := l1Parts_ac ht.1 ht.2.1
  have hkr := fun k hk => right_mem ht (k := k) hk
  obtain ⟨R, hR⟩ : ∃ R : Nat → List V, ∀ k, R k = t :: deepL (t.kids.take k) := ⟨_, fun _ => rfl⟩
  have h0 : ((R 0).map V.enc).map oslCs = [[.osl (t.enc.map CellD.cs)]] := by rw [hR]; simp [deepL, oslCs]
  have hz1 : 0 + t.enc.length ≤ 1000000 := by omega
  have hRlen : ∀ k, (R k).length ≤ t.count := fun k => by
   rw [hR, List.length_cons, deepL_len]
   have := countL_take_le t.kids k
   omega
  have hRdeep : ∀ (h : t.kids.length ≤ t.kids.length), R t.kids.length = t.deep := fun _ => by rw [hR, List.take_length, deep_eq]
  have hRs : ∀ (k : Nat) (h : k < t.kids.length), R (k + 1) = R k ++ t.kids[k].deep := fun k h => by rw [hR, hR, List.take_succ_eq_append_getElem h, deepL_app]; simp [deepL]
  have hmemc : ∀ (k : Nat) (h : k < t.kids.length), t.kids[k].count ≤ m := fun k h => by have := countL_mem (List.getElem_mem h); omega
  have hlp : ((t.kids.map V.enc).map encCs).length = t.kids.length := by simp
  have hRend := hRdeep (Nat.le_refl _)
  rw [← hRend]
  clear _a1 _a2 _a3
  generalize t.enc = te at *
  generalize t.kids = l at *
  refine wEnter Tryz.func232 Tryz.ntmps232 ?_
  refine wRUN (j2 hz1 @List.nil_append.{0}) ?_
  refine w9 (op_shared [] hps) trivial ?_
  refine wRUN trivial ?_
  refine a_loop (κ := Nat) (fun k => ⟨mkS 0 26 [(3, .own (99, 0)), (4, .c (.sl ((l.map V.enc).map encCs))), (5, .c (.int .i64 k))], [((99, 0), .row true 1 24 (((R k).map V.enc).map oslCs))]⟩)
   (fun k => k ≤ l.length) (fun k => l.length - k) 0 (Nat.zero_le _) ?_ ?_
  ·exact wSays (Says.of [((99, 0), (9, 0))] []) h0
  ·intro k hk
   by_cases hlt : k < l.length
   ·have hd : decide ((k : Int) < (l.length : Int)) = true := by simpa using hlt
    have hw := wrap_succ (k := k) (by omega)
    obtain ⟨hr0, hg0⟩ := row_encsV hlt
    have hi := ih l[k] (hmemc k hlt) (hkr _ (List.getElem_mem hlt))
    have hs := hRs k hlt
    have h1 := hRlen (k + 1)
    rw [hs, List.length_append] at h1
    have hol : (R k).length + l[k].deep.length ≤ 1000000 := by omega
    have hrow : ((R k).map V.enc).map oslCs ++ (l[k].deep.map V.enc).map oslCs = ((R (k + 1)).map V.enc).map oslCs := by rw [hs, List.map_append, List.map_append]
    generalize l[k] = u at *
    refine wRUN (j4 hd hlp hr0 hg0) ?_
    refine w12 (op_rowF [] hi) trivial ?_
    refine wRUN (j2 hol hw) ?_
    refine ⟨k + 1, by omega, by omega, ?_⟩
    exact wSays (Says.of [((99, 0), (24, 0))] []) hrow
   ·have hd : decide ((k : Int) < (l.length : Int)) = false := by simpa using hlt
    have hke : k = l.length := by omega
    rw [hke]
    rw [hke] at hd
    refine wRUN (j2 hd hlp) ?_
    exact wRetOf (ret_of [((0, 0), (99, 0))] []) Tryz.results232 hd
theorem l6Deep_ac {t : V} (ht : t.right) : AC Tryz.prog 132 [cellsA t.enc] [] (vrA (deepV t)) [] := by
 have h1 := l6All_ac t.count t (Nat.le_refl _) ht
 have h2 := l1Array_ac t.deep (by have := (deep_fit ht).2; omega)
 have h3 := l1Told_ac (arrV t.deep)
 have hok := deepV_ok ht
 unfold deepV at *
 generalize giveR (arrV t.deep) = r at *
 generalize (arrV t.deep).enc = de at *
 generalize t.enc = te at *
 rcases okRes_ways hok with ⟨v, rfl, _⟩ | ⟨c, _, rfl⟩
 ·rw [vrA_some] at h3 ⊢
  refine wEnter Tryz.func132 Tryz.ntmps132 ?_
  refine wRUN trivial ?_
  refine w12 (op_rowF [] h1) trivial ?_
  refine wRUN trivial ?_
  refine w12 (op_rowF [(4, 0)] h2) trivial ?_
  refine wRUN trivial ?_
  refine w9 (op_shared [(5, 0)] h3) trivial ?_
  refine wRUN trivial ?_
  exact wRetOf (ret_of [] []) Tryz.results132 hok
 ·rw [vrA_none] at h3 ⊢
  refine wEnter Tryz.func132 Tryz.ntmps132 ?_
  refine wRUN trivial ?_
  refine w12 (op_rowF [] h1) trivial ?_
  refine wRUN trivial ?_
  refine w12 (op_rowF [(4, 0)] h2) trivial ?_
  refine wRUN trivial ?_
  refine w9 (op_shared [(5, 0)] h3) trivial ?_
  refine wRUN trivial ?_
  exact wRetOf (ret_of [] []) Tryz.results132 hok
end Go.Proofs.YtamgeodhpglgkaaGreat
