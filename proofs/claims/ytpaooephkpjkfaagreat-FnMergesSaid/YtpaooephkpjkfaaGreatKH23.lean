/- laws.FnMerges: the walk of the law, by the engine. -/
import Derived.Test.YtpaooephkpjkfaaGreatKG85uM29
import Derived.Test.YtpaooephkpjkfaaGreatKG87
import Derived.Test.YtpaooephkpjkfaaGreatKM26uH14
set_option linter.unusedSimpArgs false
set_option linter.unusedVariables false
set_option linter.unnecessarySimpa false
namespace Go.Proofs.YtpaooephkpjkfaaGreat
open Go.RowKit
set_option maxRecDepth 10000
theorem mergeS_ways (x y : List CellD) : (∃ v, mergeR x y = okR v ∧ v.right ∧ ∃ t u, dec x = (0, some t) ∧ dec y = (0, some u) ∧ t.right ∧ u.right ∧ x = t.enc ∧ y = u.enc ∧ v = mergeV t u) ∨ ∃ c, c ≠ 0 ∧ mergeR x y = (c, none) := by
  rcases merge_ways x y with ⟨h1, h2, h3, h4⟩ | ⟨t, hd, h1, h2, h3, h4⟩ | ⟨t, u, hd, hy, ht, hu, hx, hy', h3, h4⟩
  · exact .inr ⟨_, h2, h3⟩
  · exact .inr ⟨_, h2, h3⟩
  · have hok := give_ok (merge_fit t u (fit_right ht) (fit_right hu))
    rw [h3]
    cases hb : giveR (mergeV t u) with
    | mk c o =>
      rw [hb] at hok
      cases o with
      | none => exact .inr ⟨c, hok, rfl⟩
      | some v =>
        obtain ⟨g1, g2, g3⟩ := give_some hb
        rw [g1]
        exact .inl ⟨v, rfl, hok.2, t, u, hd, hy, ht, hu, hx, hy', g2⟩
theorem implMergeS_ac (x y : List CellD) (hz : Sized x) (hzy : Sized y) : AC Tryz.prog 24 [cellsA x, cellsA y] [] (vrA (mergeR x y)) [] := by
  rcases mergeS_ways x y with ⟨v, h, hv, _⟩ | ⟨c, hc, h⟩
  · have hb := implMergeValues_ok x y hz hzy h hv
    rw [h]
    unfold vrA okR
    (apply (AC.says [] [(0, 0)] hb); (focus (simp only [go_sem, Nat.reduceEqDiff, Nat.reduceAdd, Nat.reduceSub, Nat.reduceLeDiff, Nat.reduceMul, Nat.reduceBEq, Nat.reduceLT, Int.reduceToNat, reduceCtorEq]; try (and_intros <;> rfl))); (focus exact rfl); (focus (simp only [go_sem, Nat.reduceEqDiff, Nat.reduceAdd, Nat.reduceSub, Nat.reduceLeDiff, Nat.reduceMul, Nat.reduceBEq, Nat.reduceLT, Int.reduceToNat, reduceCtorEq]; try (and_intros <;> rfl))); (focus exact rfl); (iterate 4 (focus (simp [go_sem]; done))))
  · have hb := implMergeValues_bad x y hz hzy hc h
    rw [h]
    unfold vrA
    (apply (AC.says [] [] hb); (focus (simp only [go_sem, Nat.reduceEqDiff, Nat.reduceAdd, Nat.reduceSub, Nat.reduceLeDiff, Nat.reduceMul, Nat.reduceBEq, Nat.reduceLT, Int.reduceToNat, reduceCtorEq]; try (and_intros <;> rfl))); (focus exact rfl); (focus (simp only [go_sem, Nat.reduceEqDiff, Nat.reduceAdd, Nat.reduceSub, Nat.reduceLeDiff, Nat.reduceMul, Nat.reduceBEq, Nat.reduceLT, Int.reduceToNat, reduceCtorEq]; try (and_intros <;> rfl))); (focus exact rfl); (iterate 4 (focus (simp [go_sem]; done))))
set_option maxHeartbeats 8000000 in
theorem lawMerges_ac (bs : List Nat) (hbb : ∀ b ∈ bs, b < 256) : AC Tryz.prog 5 [.c (.sl (bs.map byteCs))] [] (.c (.bool true)) [] := by
  have hbig := lwBig_ac bs
  by_cases hl : bs.length ≤ 1048576
  · have hd : decide ((bs.length : Int) > 1048576) = false := decide_eq_false (by omega)
    rw [hd] at hbig
    have hb : BytesOk bs := ⟨hl, hbb⟩
    obtain ⟨xs, ys, zx, zy, hdraw⟩ := drawMerge_ac bs hb
    have hB := implMergeS_ac xs ys zx zy
    have hS := specMergeValues_ac xs ys
    rcases mergeS_ways xs ys with ⟨v, h, hv, t, u, hdx, hdy, ht, hu, rfl, rfl, hvm⟩ | ⟨c, hc, h⟩
    · rw [h] at hB
      replace hB : AC Tryz.prog 24 [cellsA t.enc, cellsA u.enc] [] (.agg [.c (.int .i64 0), .c (.sl (v.enc.map CellD.cs))]) [] := hB
      have hagain : mergeR v.enc u.enc = okR v := by
        unfold mergeR
        rw [right_dec hv, right_dec hu]
        show giveR (mergeV v u) = okR v
        rw [hvm, merge_again u.count t u (Nat.le_refl _) ht.1 hu.1 (fit_right hu), ← hvm]
        exact give_right hv
      have hA := implMergeS_ac v.enc u.enc (right_sized hv) (right_sized hu)
      rw [hagain] at hA
      replace hA : AC Tryz.prog 24 [cellsA v.enc, cellsA u.enc] [] (.agg [.c (.int .i64 0), .c (.sl (v.enc.map CellD.cs))]) [] := hA
      have f1 := faultS hv
      have e1 := sameS hv
      have hr0 : rowsAt (u.enc.map CellD.cs) 5 0 = true := by unfold rowsAt; rw [show (0 : Int).toNat = 0 from rfl, enc_head]; rfl
      have hg0 := enc_head u
      have h00 : ((0 : Int) != 0) = false := rfl
      have h01 : ((0 : Int) == 0) = true := rfl
      cases hk : u.kind == 6 with
      | true =>
        generalize v.enc = ve at *
        generalize t.enc = te at *
        generalize u.enc = ue at *
        refine wEnter Tryz.func5 Tryz.ntmps5 ?_
        refine wRUN trivial ?_
        refine w7 (op_data [] hbig) trivial ?_
        refine wRUN trivial ?_
        refine w9 (op_shared [] hdraw) trivial ?_
        refine wRUN trivial ?_
        refine w9 (op_shared [] hB) trivial ?_
        refine wRUN h00 ?_
        refine w9 (op_shared [] hA) trivial ?_
        refine wRUN h00 ?_
        refine w7 (op_data [] f1) trivial ?_
        refine wRUN h01 ?_
        refine w7 (op_data [] e1) trivial ?_
        refine wRUN (j4 h01 hr0 hg0 hk) ?_
        exact wRet (ret_data []) Tryz.results5
      | false =>
        have hvu : v = u := by rw [hvm]; exact mergeV_plain (by simpa using hk)
        have e2 : AC Tryz.prog 13 [cellsA v.enc, cellsA u.enc] [] (.c (.bool true)) [] := by rw [hvu]; exact sameS hu
        clear hvm hvu hagain
        generalize v.enc = ve at *
        generalize t.enc = te at *
        generalize u.enc = ue at *
        refine wEnter Tryz.func5 Tryz.ntmps5 ?_
        refine wRUN trivial ?_
        refine w7 (op_data [] hbig) trivial ?_
        refine wRUN trivial ?_
        refine w9 (op_shared [] hdraw) trivial ?_
        refine wRUN trivial ?_
        refine w9 (op_shared [] hB) trivial ?_
        refine wRUN h00 ?_
        refine w9 (op_shared [] hA) trivial ?_
        refine wRUN h00 ?_
        refine w7 (op_data [] f1) trivial ?_
        refine wRUN h01 ?_
        refine w7 (op_data [] e1) trivial ?_
        refine wRUN (j4 h01 hr0 hg0 hk) ?_
        refine w7 (op_data [] e2) trivial ?_
        refine wRUN h01 ?_
        exact wRet (ret_data []) Tryz.results5
    · rw [h] at hB hS
      replace hB : AC Tryz.prog 24 [cellsA xs, cellsA ys] [] (.agg [.c (.int .i64 c), .c (.sl [])]) [] := hB
      replace hS : AC Tryz.prog 25 [cellsA xs, cellsA ys] [] (.agg [.c (.int .i64 c), .c (.sl [])]) [] := hS
      have h0 : (c != 0) = true := by simpa using hc
      have h1 : (c == c) = true := by simp
      refine wEnter Tryz.func5 Tryz.ntmps5 ?_
      refine wRUN trivial ?_
      refine w7 (op_data [] hbig) trivial ?_
      refine wRUN trivial ?_
      refine w9 (op_shared [] hdraw) trivial ?_
      refine wRUN trivial ?_
      refine w9 (op_shared [] hB) trivial ?_
      refine wRUN h0 ?_
      refine w9 (op_shared [] hS) trivial ?_
      refine wRUN (j2 h0 h1) ?_
      exact wRet (ret_data []) Tryz.results5
  · have hd : decide ((bs.length : Int) > 1048576) = true := decide_eq_true (by omega)
    rw [hd] at hbig
    refine wEnter Tryz.func5 Tryz.ntmps5 ?_
    refine wRUN trivial ?_
    refine w7 (op_data [] hbig) trivial ?_
    refine wRUN trivial ?_
    exact wRet (ret_data []) Tryz.results5
end Go.Proofs.YtpaooephkpjkfaaGreat
