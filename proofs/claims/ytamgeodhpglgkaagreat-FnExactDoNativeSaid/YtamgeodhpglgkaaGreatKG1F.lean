/- spec.l3Sort, by the engine. -/
import Derived.Test.YtamgeodhpglgkaaGreatKG1E
import Derived.Test.YtamgeodhpglgkaaGreatKM36uM37
set_option linter.unusedSimpArgs false
set_option maxHeartbeats 8000000
namespace Go.Proofs.YtamgeodhpglgkaaGreat
open Go.RowKit
set_option maxRecDepth 10000
def rowsV (l : List V) : List (List C) := (l.map V.enc).map encCs
theorem rowsV_len (l : List V) : (rowsV l).length = l.length := by simp [rowsV]
theorem rowsV_at {l : List V} {k : Nat} (h : k < l.length) : rowsAt (rowsV l) 1 (k : Int) = true ∧ (rowsV l)[k]? = some [.sl (l[k].enc.map CellD.cs)] := ⟨by simp [rowsAt, rowsV, h, encCs], by simp [rowsV, h, encCs]⟩
theorem rowsV_all (l : List V) : ((rowsV l).all fun r => r.length == 1) = true := by simp [rowsV, encCs]
theorem rowsV_app (a b : List V) : rowsV (a ++ b) = rowsV a ++ rowsV b := by simp [rowsV]
theorem rowsV_cons (x : V) (b : List V) : rowsV (x :: b) = [.sl (x.enc.map CellD.cs)] :: rowsV b := rfl
theorem rowsV_take (l : List V) (q : Nat) : (rowsV l).take q = rowsV (l.take q) := by simp [rowsV]
theorem rowsV_drop (l : List V) (q : Nat) : (rowsV l).drop q = rowsV (l.drop q) := by simp [rowsV]
theorem forget_rowsV (l : List V) : forgetLL (rowsV l) = rowsV l := by
 induction l with
 | nil => rfl
 | cons x l ih => simp only [rowsV_cons, forgetLL, ih, forgetL, C.forget, forget_cells]
attribute [go_sem] forget_rowsV rowsV_all
theorem l3Sort_bad {t : V} (h : t.kind ≠ 5) : AC Tryz.prog 129 [cellsA t.enc] [] (.agg [.c (.int .i64 6), .c (.sl [])]) [] := by
 have ra := enc_rows t
 have ga := enc_head t
 have b5 : (t.kind != 5) = true := by simpa using h
 have h1 := l3Bad_ac 6
 refine wEnter Tryz.func129 Tryz.ntmps129 ?_
 refine wRUN (j3 ra ga b5) ?_
 refine w9 (op_shared [] h1) noV_eq ?_
 refine wRUN noV_eq ?_
 exact wRetOf (ret_of [] []) Tryz.results129 ra
theorem l3Sort_ok {t : V} (ht : t.right) (h5 : t.kind = 5) : AC Tryz.prog 129 [cellsA t.enc] [] (.agg [.c (.int .i64 0), .c (.sl ((arrV (sortV t.kids)).enc.map CellD.cs))]) [] := by
 have ra := enc_rows t
 have ga := enc_head t
 have b5 : (t.kind != 5) = false := by simp [h5]
 have hps := l1Parts_ac ht.1 ht.2.1
 rw [show (t.kids.map V.enc).map encCs = rowsV t.kids from rfl] at hps
 have hr : ∀ x ∈ t.kids, x.right := fun x hx => right_mem ht hx
 have hM := ht.2.1
 have hkc := count_kids t
 have hkl := countL_len t.kids
 have hcs : (arrV (sortV t.kids)).count ≤ 500000 := by
  have := sortOfV_ok ht
  unfold sortOfV at this
  rw [if_pos h5] at this
  have := this.2.2.1
  omega
 have h3 := l1ArrayS_ac (sortV t.kids) hcs
 rw [show ((sortV t.kids).map V.enc).map encCs = rowsV (sortV t.kids) from rfl] at h3
 generalize hA : (arrV (sortV t.kids)).enc = d at *
 refine wEnter Tryz.func129 Tryz.ntmps129 ?_
 refine wRUN (j3 ra ga b5) ?_
 refine w9 (op_shared [] hps) trivial ?_
 refine wRUN trivial ?_
 have hl200 : t.kids.length ≤ 200 := by omega
 clear hkc hkl
 generalize t.kids = l at *
 have hlm := rowsV_len l
 have hs0 : rowsV (sortV []) = [] := by simp [sortV, rowsV]
 refine a_loop (κ := Nat) (fun k => ⟨mkS 0 59 [(0, cellsA t.enc), (2, .ptr (2, 0) 0), (3, .c (.sl (rowsV l))), (4, .c (.sl (rowsV (sortV (l.take k))))), (5, .c (.int .i64 k))], [((2, 0), .box [.c (.int .i64 0), .nils])]⟩)
  (fun k => k ≤ l.length) (fun k => l.length - k) 0 (Nat.zero_le _) ?_ ?_
 ·exact wSays (Says.of [((2, 0), (2, 0))] [(15, 0)]) hs0
 ·intro k hk
  by_cases hlt : k < l.length
  ·have hd1 : decide ((k : Int) < (l.length : Int)) = true := decide_eq_true (by omega)
   obtain ⟨hr0, hg0⟩ := rowsV_at hlt
   have hw := wrap_succ (k := k) (by omega)
   have hxr := hr _ (List.getElem_mem hlt)
   have hnext := fun q h1 h2 => ins_next (X := l) hlt (q := q) h1 h2
   have hsort := sortV_sorted (l.take k)
   have hmem : ∀ u ∈ sortV (l.take k), u.right := fun u hu => hr _ (List.mem_of_mem_take (sortV_mem.1 hu))
   have hTl : (sortV (l.take k)).length = k := by rw [sortV_len, List.length_take]; omega
   generalize hT : sortV (l.take k) = T at *
   generalize l[k] = x at *
   have hTm := rowsV_len T
   refine wRUN (j3 hlm hd1 hTm) ?_
   refine a_loop (κ := Nat) (fun j => ⟨mkS 0 59 [(0, cellsA t.enc), (2, .ptr (2, 0) 0), (3, .c (.sl (rowsV l))), (4, .c (.sl (rowsV T))), (5, .c (.int .i64 k)), (6, .c (.int .i64 j))], [((2, 0), .box [.c (.int .i64 0), .nils])]⟩)
    (fun j => j ≤ T.length ∧ ∀ w ∈ T.drop j, leV x w) (fun j => j) T.length ⟨Nat.le_refl _, by simp⟩ ?_ ?_
   ·exact wSays (Says.of [((2, 0), (2, 0))] []) hTm
   ·rintro j ⟨hj, hge⟩
    have hall := rowsV_all T
    have hjl : (j : Int) ≤ (T.length : Int) := by omega
    have fin : (∀ u ∈ T.take j, leV u x) → rowsV (T.take j) ++ [[.sl (x.enc.map CellD.cs)]] ++ rowsV (T.drop j) = rowsV (sortV (l.take (k + 1))) := fun h => by
     rw [← hnext j h hge, rowsV_app, rowsV_cons, List.append_assoc]
     rfl
    have ht1 := rowsV_take T j
    have hd2 := rowsV_drop T j
    have q1 : (rowsV (T.take j)).length = j := by rw [rowsV_len, List.length_take]; omega
    have q2 : (rowsV (T.drop j)).length = T.length - j := by rw [rowsV_len, List.length_drop]
    have hb1 : (rowsV (T.take j)).length ≤ 1000000 := by omega
    have hb2 : (rowsV (T.take j)).length + 1 ≤ 1000000 := by omega
    have hb3 : (rowsV (T.take j) ++ [[C.sl (x.enc.map CellD.cs)]]).length + (rowsV (T.drop j)).length ≤ 1000000 := by rw [List.length_append]; simp only [List.length_cons, List.length_nil]; omega
    have hjl2 : j ≤ (rowsV T).length ∧ (rowsV T).length ≤ (rowsV T).length := by omega
    have hj0' : 0 ≤ j ∧ j ≤ (rowsV T).length := by omega
    have htl : (rowsV T).take (rowsV T).length = rowsV T := List.take_length
    have hb0 : 0 + (rowsV (T.take j)).length ≤ 1000000 := by omega
    have hb00 : ([] : List (List C)).length + (rowsV (T.take j)).length ≤ 1000000 := by simp only [List.length_nil]; omega
    have hb4 : 1 + (rowsV T).length ≤ 1000000 := by omega
    have hb5 : (rowsV T).length + 1 ≤ 1000000 := by omega
    have hb6 : (rowsV (T.take j)).length + 1 + (rowsV (T.drop j)).length ≤ 1000000 := by omega
    have hcl : cutB (rowsV T).length (some (AV.c (C.int IntKind.i64 (j : Int)))) = some j := by simp [cutB]
    have hcm : cutB 0 (some (AV.c (C.int IntKind.i64 (j : Int)))) = some j := by simp [cutB]
    by_cases hj0 : j = 0
    ·subst hj0
     have hdj : decide (((0 : Nat) : Int) > 0) = false := rfl
     have hrow := fin (by simp)
     have hrow0 : [[C.sl (x.enc.map CellD.cs)]] ++ rowsV T = rowsV (sortV (l.take (k + 1))) := by simpa [rowsV] using hrow
     have hrow1 : [C.sl (x.enc.map CellD.cs)] :: rowsV T = rowsV (sortV (l.take (k + 1))) := hrow0
     refine wRUN (j2 (j12 hdj hr0 hg0 hcl hcm hjl2 hj0' ht1 hd2 hb1 hb2 hb3) (j4 hb4 hb5 htl hw)) ?_
     refine ⟨k + 1, by omega, by omega, ?_⟩
     exact wSays (Says.of [((2, 0), (2, 0))] [(55, 0)]) (j2 hrow0 hrow1)
    ·have hdj : decide ((j : Int) > 0) = true := decide_eq_true (by omega)
     have hwj : IntKind.i64.wrap ((j : Int) - 1) = ((j - 1 : Nat) : Int) := by rw [wrap_in (by omega) (by omega)]; omega
     have hjm : j - 1 < T.length := by omega
     obtain ⟨hr1, hg1⟩ := rowsV_at hjm
     have hyr := hmem _ (List.getElem_mem hjm)
     have hcmp := l1Compare_ac _ T[j - 1] x (Nat.le_refl _) hyr hxr
     by_cases hgt : T[j - 1].cmp x > 0
     ·have hdc : decide (T[j - 1].cmp x > 0) = true := decide_eq_true hgt
      have hge' : ∀ w ∈ T.drop (j - 1), leV x w := fun w hw => by
       rw [List.drop_eq_getElem_cons hjm, show j - 1 + 1 = j by omega] at hw
       rcases List.mem_cons.1 hw with rfl | hw
       ·unfold leV; have := cmp_flip (T[j - 1]) x; omega
       ·exact hge w hw
      generalize T[j - 1] = y at *
      refine wRUN (j6 hdj hwj hr1 hg1 hr0 hg0) ?_
      refine w7 (op_data [] hcmp) trivial ?_
      refine wRUN (j2 hdc hwj) ?_
      refine ⟨j - 1, by omega, ⟨by omega, hge'⟩, ?_⟩
      exact wSays (Says.of [((2, 0), (2, 0))] []) hwj
     ·have hdc : decide (T[j - 1].cmp x > 0) = false := decide_eq_false hgt
      have hrow := fin fun u hu => by
       have h2 := take_le hsort hjm u (by rw [show j - 1 + 1 = j by omega]; exact hu)
       exact leV_trans h2 (by unfold leV; omega)
      generalize T[j - 1] = y at *
      refine wRUN (j6 hdj hwj hr1 hg1 hr0 hg0) ?_
      refine w7 (op_data [] hcmp) trivial ?_
      refine wRUN (j2 (j12 hdc hr0 hg0 hcl hcm hjl2 hj0' ht1 hd2 hb1 hb2 hb3) (j6 hb6 hb0 hb00 htl hw @List.nil_append.{0})) ?_
      refine ⟨k + 1, by omega, by omega, ?_⟩
      exact wSays (Says.of [((2, 0), (2, 0))] [(55, 0)]) hrow
  ·have hd1 : decide ((k : Int) < (l.length : Int)) = false := decide_eq_false (by omega)
   have hke : l.take k = l := List.take_of_length_le (by omega)
   rw [hke]
   refine wRUN (j2 hlm hd1) ?_
   refine w9 (op_shared [] h3) trivial ?_
   refine wRUN trivial ?_
   exact wRetOf (ret_of [] []) Tryz.results129 hd1
end Go.Proofs.YtamgeodhpglgkaaGreat
