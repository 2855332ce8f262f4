/- Texts of this proof: M27 H22. -/
import Derived.Test.YtpaooephkpjkfaaGreatKM23
import Derived.Test.YtpaooephkpjkfaaGreatKG85
set_option linter.unusedSimpArgs false
set_option linter.unusedVariables false
set_option linter.unnecessarySimpa false
namespace Go.Proofs.YtpaooephkpjkfaaGreat
open Go.RowKit
theorem sums_div {x y : Int} (hy : y ≠ 0) : binV 10 (numV x) (numV y) = okR (numV (x.tdiv y)) := by
  unfold binV
  rw [if_neg (by decide), if_neg (by decide), if_pos (by decide)]
  unfold reckonV
  rw [if_pos ⟨rfl, rfl⟩, if_neg (by decide), if_neg (show ¬ (numV y).num = 0 from hy), if_pos rfl]
  rfl
theorem sums_mod {x y : Int} (hy : y ≠ 0) : binV 11 (numV x) (numV y) = okR (numV (x.tmod y)) := by
  unfold binV
  rw [if_neg (by decide), if_neg (by decide), if_pos (by decide)]
  unfold reckonV
  rw [if_pos ⟨rfl, rfl⟩, if_neg (by decide), if_neg (show ¬ (numV y).num = 0 from hy), if_neg (by decide)]
  rfl
theorem sums_mul {q y : Int} (h : tooBig q y = false) : binV 3 (numV q) (numV y) = okR (numV (q * y)) := by
  unfold binV
  rw [if_neg (by decide), if_neg (by decide), if_pos (by decide)]
  unfold reckonV
  rw [if_pos ⟨rfl, rfl⟩, if_pos rfl, show tooBig (numV q).num (numV y).num = false from h]
  rfl
theorem sums_add (a b : Int) : binV 1 (numV a) (numV b) = giveR (numV (a + b)) := by
  unfold binV
  rw [if_pos rfl]
  unfold addV
  rw [if_neg (show ¬ (numV a).kind = 0 from fun h => absurd (show (3 : Int) = 0 from h) (by decide)), if_neg (show ¬ (numV b).kind = 0 from fun h => absurd (show (3 : Int) = 0 from h) (by decide)), if_pos ⟨rfl, rfl⟩]
  rfl
theorem sums_small {x y : Int} (hx : -4500 ≤ x ∧ x ≤ 4500) (hy : 1 ≤ y ∧ y ≤ 90) : tooBig (x.tdiv y) y = false := by
  unfold tooBig absI
  have h1 : (x.tdiv y).natAbs = x.natAbs / y.natAbs := Int.natAbs_tdiv x y
  have h2 := Nat.div_mul_le_self x.natAbs y.natAbs
  have h3 : (((x.natAbs / y.natAbs : Nat) : Int) * (y.natAbs : Int)) = ((x.natAbs / y.natAbs * y.natAbs : Nat) : Int) := by rw [Int.natCast_mul]
  rw [h1, h3]
  simp only [decide_eq_false_iff_not]
  omega
theorem sums_back (x y : Int) : x.tdiv y * y + x.tmod y = x := by
  have := Int.mul_tdiv_add_tmod x y
  rw [Int.mul_comm] at this
  exact this
theorem sums_null (a : V) : binV 1 nullV a = okR a := by
  unfold binV
  rw [if_pos rfl]
  unfold addV
  rw [if_pos (show nullV.kind = 0 from rfl)]
theorem sums_same (a : V) : binV 4 a a = okR (boolV true) := by
  unfold binV
  rw [if_neg (by decide), if_neg (by decide), if_neg (by decide), if_pos rfl, cmp_null.2 rfl]
  rfl
end Go.Proofs.YtpaooephkpjkfaaGreat

/- laws.FnSums: the walk of the law, by the engine. -/
namespace Go.Proofs.YtpaooephkpjkfaaGreat
open Go.RowKit
set_option maxRecDepth 10000
theorem twoR_right (F : V → V → Int × Option V) {t u : V} (ht : t.right) (hu : u.right) : twoR F t.enc u.enc = F t u := by
  unfold twoR
  rw [right_dec ht, right_dec hu]
theorem give_right {t : V} (h : t.right) : giveR t = okR t := by
  unfold giveR
  rw [right_dec h]
  rfl
theorem binS {op : Int} {t u v : V} (ht : t.right) (hu : u.right) (h : binV op t u = okR v) : AC Tryz.prog 17 [.c (.int .i64 op), cellsA t.enc, cellsA u.enc] [] (.agg [.c (.int .i64 0), .c (.sl (v.enc.map CellD.cs))]) [] := by
  have := implBinaryS_ac op t.enc u.enc (right_sized ht) (right_sized hu)
  rw [twoR_right _ ht hu, h] at this
  exact this
theorem faultS {t : V} (ht : t.right) : AC Tryz.prog 21 [cellsA t.enc] [] (.c (.int .i64 0)) [] := by
  have := implFault_ac t.enc (right_sized ht)
  rw [right_dec ht] at this
  exact this
theorem sameS {t : V} (ht : t.right) : AC Tryz.prog 13 [cellsA t.enc, cellsA t.enc] [] (.c (.bool true)) [] := by
  have := implSame_ac t.enc t.enc (right_sized ht) (right_sized ht)
  rw [sameC_self ht] at this
  exact this
set_option maxHeartbeats 8000000 in
theorem lawSums_ac (bs : List Nat) (hbb : ∀ b ∈ bs, b < 256) : AC Tryz.prog 4 [.c (.sl (bs.map byteCs))] [] (.c (.bool true)) [] := by
  have hbig := lwBig_ac bs
  by_cases hl : bs.length ≤ 1048576
  · have hd : decide ((bs.length : Int) > 1048576) = false := decide_eq_false (by omega)
    rw [hd] at hbig
    have hb : BytesOk bs := ⟨hl, hbb⟩
    obtain ⟨op, xs, ys, zx, zy, hdraw⟩ := drawBinary_ac bs hb
    have hB := implBinaryS_ac op xs ys zx zy
    have hS := specBinary_ac op xs ys
    rcases twoR_ok (op := op) (x := xs) (y := ys) with ⟨v, h, hv, t, u, hdx, hdy, ht, hu, rfl, rfl, hbin⟩ | ⟨c, hc, h⟩
    · rw [h] at hB
      replace hB : AC Tryz.prog 17 [.c (.int .i64 op), cellsA t.enc, cellsA u.enc] [] (.agg [.c (.int .i64 0), .c (.sl (v.enc.map CellD.cs))]) [] := hB
      have a1 := lwAt_ac bs hb 1 9000 (by omega) (by omega)
      have a2 := lwAt_ac bs hb 2 90 (by omega) (by omega)
      have l1 := lwN_lt bs 1 (n := 9000) (by omega)
      have l2 := lwN_lt bs 2 (n := 90) (by omega)
      generalize lwN bs 1 9000 = k1 at *
      generalize lwN bs 2 90 = k2 at *
      obtain ⟨x, hx⟩ : ∃ x : Int, (k1 : Int) - 4500 = x := ⟨_, rfl⟩
      obtain ⟨y, hy⟩ : ∃ y : Int, 1 + (k2 : Int) = y := ⟨_, rfl⟩
      have w1 : IntKind.i64.wrap ((k1 : Int) - 4500) = x := by rw [IntWalk.i64_in _ (by omega)]; exact hx
      have w2 : IntKind.i64.wrap (1 + (k2 : Int)) = y := by rw [IntWalk.i64_in _ (by omega)]; exact hy
      have c1 := numberValueS_ac x (by omega)
      have c2 := numberValueS_ac y (by omega)
      have rx := numV_right (n := x) (by omega)
      have ry := numV_right (n := y) (by omega)
      have hy0 : y ≠ 0 := by omega
      have hq := tdiv_small (x := x) (y := y) (by omega)
      have hm := tmod_small (x := x) (y := y) (by omega)
      have rq := numV_right hq
      have rm := numV_right hm
      have hbk := sums_back x y
      have hqy : -1000000000000000 ≤ x.tdiv y * y ∧ x.tdiv y * y ≤ 1000000000000000 := by
        have hm2 := Int.natAbs_tmod x y
        have hm3 := Nat.mod_le x.natAbs y.natAbs
        omega
      have rqy := numV_right hqy
      have b1 := binS rx ry (sums_div (x := x) hy0)
      have b2 := binS rx ry (sums_mod (x := x) hy0)
      have b3 := binS rq ry (sums_mul (sums_small (x := x) (y := y) (by omega) (by omega)))
      have hadd : binV 1 (numV (x.tdiv y * y)) (numV (x.tmod y)) = okR (numV x) := by rw [sums_add, hbk]; exact give_right rx
      have b4 := binS rqy rm hadd
      have b5 := binS right_null ht (sums_null t)
      have b6 := binS ht ht (sums_same t)
      have f1 := faultS hv
      have e1 := sameS rx
      have e2 := sameS ht
      have tr := implTruthy_ac (boolV_right true)
      have htr : ((boolV true).kind != 0 && (boolV true).kind != 1) = true := rfl
      rw [htr] at tr
      have h00 : ((0 : Int) != 0) = false := rfl
      have h01 : ((0 : Int) == 0) = true := rfl
      replace b5 : AC Tryz.prog 17 [.c (.int .i64 1), .c (.sl [[.int .i64 0, .int .i64 0, .str ByteArray.empty, .str ByteArray.empty, .int .i64 0]]), cellsA t.enc] [] (.agg [.c (.int .i64 0), .c (.sl (t.enc.map CellD.cs))]) [] := b5
      generalize (numV x).enc = nx at *
      generalize (numV y).enc = ny at *
      generalize (numV (x.tdiv y)).enc = nq at *
      generalize (numV (x.tmod y)).enc = nm at *
      generalize (numV (x.tdiv y * y)).enc = nqy at *
      generalize (boolV true).enc = nb at *
      refine wEnter Tryz.func4 Tryz.ntmps4 ?_
      refine wRUN trivial ?_
      refine w7 (op_data [] hbig) trivial ?_
      refine wRUN trivial ?_
      refine w9 (op_shared [] hdraw) trivial ?_
      refine wRUN trivial ?_
      refine w9 (op_shared [] hB) trivial ?_
      refine wRUN h00 ?_
      refine w7 (op_data [] a1) trivial ?_
      refine wRUN w1 ?_
      refine w7 (op_data [] a2) trivial ?_
      refine wRUN w2 ?_
      refine w9 (op_shared [] c1) trivial ?_
      refine wRUN trivial ?_
      refine w9 (op_shared [] c2) trivial ?_
      refine wRUN trivial ?_
      refine w9 (op_shared [] b1) trivial ?_
      refine wRUN trivial ?_
      refine w9 (op_shared [] b2) trivial ?_
      refine wRUN trivial ?_
      refine w9 (op_shared [] b3) trivial ?_
      refine wRUN trivial ?_
      refine w9 (op_shared [] b4) trivial ?_
      refine wRUN trivial ?_
      refine w9 (op_shared [(66, 0)] b5) trivial ?_
      refine wRUN trivial ?_
      refine w7 (op_data [] f1) trivial ?_
      refine wRUN h01 ?_
      refine w7 (op_data [] e1) trivial ?_
      refine wRUN h01 ?_
      refine w7 (op_data [] e2) trivial ?_
      refine wRUN h01 ?_
      refine w9 (op_shared [] b6) trivial ?_
      refine wRUN h01 ?_
      refine w7 (op_data [] tr) trivial ?_
      refine wRUN h01 ?_
      exact wRet (ret_data []) Tryz.results4
    · rw [h] at hB hS
      replace hB : AC Tryz.prog 17 [.c (.int .i64 op), cellsA xs, cellsA ys] [] (.agg [.c (.int .i64 c), .c (.sl [])]) [] := hB
      replace hS : AC Tryz.prog 18 [.c (.int .i64 op), cellsA xs, cellsA ys] [] (.agg [.c (.int .i64 c), .c (.sl [])]) [] := hS
      have h0 : (c != 0) = true := by simpa using hc
      have h1 : (c == c) = true := by simp
      refine wEnter Tryz.func4 Tryz.ntmps4 ?_
      refine wRUN trivial ?_
      refine w7 (op_data [] hbig) trivial ?_
      refine wRUN trivial ?_
      refine w9 (op_shared [] hdraw) trivial ?_
      refine wRUN trivial ?_
      refine w9 (op_shared [] hB) trivial ?_
      refine wRUN h0 ?_
      refine w9 (op_shared [] hS) trivial ?_
      refine wRUN (j2 h0 h1) ?_
      exact wRet (ret_data []) Tryz.results4
  · have hd : decide ((bs.length : Int) > 1048576) = true := decide_eq_true (by omega)
    rw [hd] at hbig
    refine wEnter Tryz.func4 Tryz.ntmps4 ?_
    refine wRUN trivial ?_
    refine w7 (op_data [] hbig) trivial ?_
    refine wRUN trivial ?_
    exact wRet (ret_data []) Tryz.results4
end Go.Proofs.YtpaooephkpjkfaaGreat
