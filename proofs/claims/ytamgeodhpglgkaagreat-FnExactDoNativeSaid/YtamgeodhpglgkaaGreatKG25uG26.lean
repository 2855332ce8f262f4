/- Texts of this proof: G25 G55 G34 G56 G26. -/
import Derived.Test.YtamgeodhpglgkaaGreatKG06uG08
import Derived.Test.YtamgeodhpglgkaaGreatKG14uS02
import Derived.Test.YtamgeodhpglgkaaGreatKE5
import Derived.Test.YtamgeodhpglgkaaGreatKM2
import Derived.Test.YtamgeodhpglgkaaGreatKG49uG52
import Derived.Test.YtamgeodhpglgkaaGreatKG9
import Derived.Test.YtamgeodhpglgkaaGreatKG21uM23
import Derived.Test.YtamgeodhpglgkaaGreatKG45
set_option linter.unusedSimpArgs false
set_option maxHeartbeats 8000000
namespace Go.Proofs.YtamgeodhpglgkaaGreat
open Go.RowKit
set_option maxRecDepth 10000
theorem l3Bad_ac (c : Int) : AC Tryz.prog 64 [.c (.int .i64 c)] [] (.agg [.c (.int .i64 c), .nils]) [] := by
 refine wEnter Tryz.func64 Tryz.ntmps64 ?_
 refine wRUN trivial ?_
 exact wRet (ret_data []) Tryz.results64
theorem enc_null : nullV.enc.map CellD.cs = [[.int .i64 0, .int .i64 0, .str ByteArray.empty, .str ByteArray.empty, .int .i64 0]] := rfl
theorem l3Null_ac : AC Tryz.prog 170 [] [] (.own (0, 0)) [((0, 0), .row false 5 95 (nullV.enc.map CellD.cs))] := by
 rw [enc_null]
 refine wEnter Tryz.func170 Tryz.ntmps170 ?_
 refine wRUN trivial ?_
 (apply (ret_of [((0, 0), (2, 0))] []); (focus (simp only [Tryz.results170, go_sem, Nat.reduceBEq, Nat.reduceLT, enc_null]; exact rfl)); (focus (simp only [go_sem, Nat.reduceEqDiff, Nat.reduceAdd, Nat.reduceSub, Nat.reduceLeDiff, Nat.reduceMul, Nat.reduceBEq, Nat.reduceLT, Int.reduceToNat, reduceCtorEq, enc_null]; try (and_intros <;> rfl))); (focus exact rfl); (focus (simp only [go_sem, Nat.reduceEqDiff, Nat.reduceAdd, Nat.reduceSub, Nat.reduceLeDiff, Nat.reduceMul, Nat.reduceBEq, Nat.reduceLT, Int.reduceToNat, reduceCtorEq, enc_null]; try (and_intros <;> rfl))); (focus exact rfl); (iterate 4 (focus (simp [go_sem, enc_null]; done))))
def vrA (r : Int × Option V) : AV := match r.2 with
 | some t => .agg [.c (.int .i64 0), .c (.sl (t.enc.map CellD.cs))]
 | none => .agg [.c (.int .i64 r.1), .c (.sl [])]
theorem vrA_some (c : Int) (t : V) : vrA (c, some t) = .agg [.c (.int .i64 0), .c (.sl (t.enc.map CellD.cs))] := rfl
theorem vrA_none (c : Int) : vrA (c, none) = .agg [.c (.int .i64 c), .c (.sl [])] := rfl
theorem vrA_ok (t : V) : vrA (okR t) = .agg [.c (.int .i64 0), .c (.sl (t.enc.map CellD.cs))] := rfl
theorem vrA_bad (c : Int) : vrA (badR c) = .agg [.c (.int .i64 c), .c (.sl [])] := rfl
set_option maxRecDepth 10000
theorem l1Told_ok (xs : List CellD) (h : (dec xs).1 = 0) : AC Tryz.prog 231 [cellsA xs] [] (.agg [.c (.int .i64 0), cellsA xs]) [] := by
 have hf := fault_ac xs
 rw [h] at hf
 have h00 : ((0 : Int) != 0) = false := rfl
 refine wEnter Tryz.func231 Tryz.ntmps231 ?_
 refine wRUN trivial ?_
 refine w7 (op_data [] hf) trivial ?_
 refine wRUN h00 ?_
 exact wRet (ret_data []) Tryz.results231
theorem l1Told_bad (xs : List CellD) (h : (dec xs).1 ≠ 0) : AC Tryz.prog 231 [cellsA xs] [] (.agg [.c (.int .i64 (dec xs).1), .c (.sl [])]) [] := by
 have hf := fault_ac xs
 have hb : ((dec xs).1 != 0) = true := by simpa using h
 refine wEnter Tryz.func231 Tryz.ntmps231 ?_
 refine wRUN trivial ?_
 refine w7 (op_data [] hf) trivial ?_
 refine wRUN hb ?_
 exact wRet (ret_data []) Tryz.results231
theorem l1Told_ac (t : V) : AC Tryz.prog 231 [cellsA t.enc] [] (vrA (giveR t)) [] := by
 unfold giveR
 split
 ·rename_i h
  exact l1Told_ok t.enc h
 ·rename_i h
  exact l1Told_bad t.enc h
theorem enc_rows (t : V) : rowsAt (t.enc.map CellD.cs) 5 0 = true := by unfold rowsAt; rw [show (0 : Int).toNat = 0 from rfl, enc_head]; rfl
theorem l3NullS_ac : AC Tryz.prog 170 [] [] (.c (.sl (nullV.enc.map CellD.cs))) [] := by
 have h := l3Null_ac
 (apply (AC.says [] [(0, 0)] h); (focus (simp only [go_sem, Nat.reduceEqDiff, Nat.reduceAdd, Nat.reduceSub, Nat.reduceLeDiff, Nat.reduceMul, Nat.reduceBEq, Nat.reduceLT, Int.reduceToNat, reduceCtorEq]; try (and_intros <;> rfl))); (focus exact rfl); (focus (simp only [go_sem, Nat.reduceEqDiff, Nat.reduceAdd, Nat.reduceSub, Nat.reduceLeDiff, Nat.reduceMul, Nat.reduceBEq, Nat.reduceLT, Int.reduceToNat, reduceCtorEq]; try (and_intros <;> rfl))); (focus exact rfl); (iterate 4 (focus (simp [go_sem]; done))))
set_option maxRecDepth 10000
theorem l1ArrayS_ac (ps : List V) (hc : (arrV ps).count ≤ 500000) : AC Tryz.prog 229 [.c (.sl ((ps.map V.enc).map encCs))] [] (.c (.sl ((arrV ps).enc.map CellD.cs))) [] := by
 have h := l1Array_ac ps hc
 (apply (AC.says [] [(0, 0)] h); (focus (simp only [go_sem, Nat.reduceEqDiff, Nat.reduceAdd, Nat.reduceSub, Nat.reduceLeDiff, Nat.reduceMul, Nat.reduceBEq, Nat.reduceLT, Int.reduceToNat, reduceCtorEq]; try (and_intros <;> rfl))); (focus exact rfl); (focus (simp only [go_sem, Nat.reduceEqDiff, Nat.reduceAdd, Nat.reduceSub, Nat.reduceLeDiff, Nat.reduceMul, Nat.reduceBEq, Nat.reduceLT, Int.reduceToNat, reduceCtorEq]; try (and_intros <;> rfl))); (focus exact rfl); (iterate 4 (focus (simp [go_sem]; done))))
theorem l1Part_ac {t : V} (hw : t.wf) (hc : t.count ≤ 200) (i : Nat) (hi : i < t.kids.length) : AC Tryz.prog 169 [cellsA t.enc, .c (.int .i64 ((kp t.kids i : Nat) : Int))] [] (.c (.sl (t.kids[i].enc.map CellD.cs))) [] := by
 refine AC.of_calls fun S w κ vs hv => ?_
 obtain ⟨v, vs', rfl, h1, v2, vs2, rfl, h2, rfl⟩ := hv
 obtain ⟨rfl, _⟩ := h2
 obtain ⟨A, cap, rfl, hcap, hcs⟩ := cr_cells.1 h1
 refine (l1Part_any t hw hc i hi A cap hcap S w hcs).mono ?_
 rintro e w' ⟨⟨A', c', rfl, hc', hr⟩, hb⟩
 exact ⟨hb, _, rfl, fun T _ hT => cr_cells.2 ⟨A', c', rfl, hc', hr.weaken fun b hb _ => hT b hb⟩⟩
theorem l1PartsO_ac {t : V} (hw : t.wf) (hc : t.count ≤ 200) : AC Tryz.prog 84 [cellsA t.enc] [] (.own (0, 0)) [((0, 0), .row false 1 24 ((t.kids.map V.enc).map encCs))] := by
 have hkl := kids_len_le hc
 have hkn := kposL_len t t.kids.length
 have hch := l1Children_ac hw hc
 refine wEnter Tryz.func84 Tryz.ntmps84 ?_
 refine wRUN trivial ?_
 refine w9 (op_shared [] hch) trivial ?_
 refine wRUN trivial ?_
 refine a_loop (κ := Nat) (fun k => ⟨mkS 0 25 [(0, cellsA t.enc), (3, .own (3, 0)), (4, .c (.sl ((kposL t t.kids.length).map intCs))), (5, .c (.int .i64 k))],
   [((3, 0), .row false 1 24 (((t.kids.take k).map V.enc).map encCs))]⟩)
  (fun k => k ≤ t.kids.length) (fun k => t.kids.length - k) 0 (Nat.zero_le _) ?_ ?_
 ·exact wSays (Says.of [((3, 0), (6, 0))] []) hkl
 ·intro k hk
  by_cases hlt : k < t.kids.length
  ·have hd : decide ((k : Int) < (t.kids.length : Int)) = true := by simpa using hlt
   have hw1 := wrap_succ (k := k) (by omega)
   have h1 : (((t.kids.take k).map V.enc).map encCs).length + 1 ≤ 1000000 := by simp; omega
   have hr1 : rowsAt ((kposL t t.kids.length).map intCs) 1 k = true := by simp [rowsAt, kposL, hlt, intCs]
   have hg1 : ((kposL t t.kids.length).map intCs)[k]? = some [.int .i64 ((kp t.kids k : Nat) : Int)] := by simp [kposL, hlt, intCs]
   have hp := l1Part_ac hw hc k hlt
   have hn : ((t.kids.take k).map V.enc).map encCs ++ [[.sl (t.kids[k].enc.map CellD.cs)]] = ((t.kids.take (k + 1)).map V.enc).map encCs := by rw [List.take_succ_eq_append_getElem hlt, List.map_append, List.map_append]; rfl
   generalize hR : ((t.kids.take k).map V.enc).map encCs = R at *
   generalize hR2 : ((t.kids.take (k + 1)).map V.enc).map encCs = R2 at *
   generalize t.kids[k] = u at *
   refine wRUN (j4 hd hkn hr1 hg1) ?_
   refine w9 (op_shared [] hp) trivial ?_
   refine wRUN (j2 h1 hw1) ?_
   refine ⟨k + 1, by omega, by omega, ?_⟩
   exact wSays (Says.of [((3, 0), (23, 0))] []) (j2 hn hR2)
  ·have hd : decide ((k : Int) < (t.kids.length : Int)) = false := by simpa using hlt
   have hke : t.kids.take k = t.kids := List.take_of_length_le (by omega)
   refine wRUN (j2 hkn hd) ?_
   exact wRetOf (ret_of [((0, 0), (3, 0))] []) Tryz.results84 hke
set_option maxRecDepth 10000
theorem l1KeysO_ac {t : V} (hw : t.wf) (hc : t.count ≤ 200) : AC Tryz.prog 227 [cellsA t.enc] [] (.own (0, 0)) [((0, 0), .row false 1 9 ((keysOf t t.kids.length).map strCs))] := by
 have hkl := kids_len_le hc
 have hkn := kposL_len t t.kids.length
 have hch := l1Children_ac hw hc
 refine wEnter Tryz.func227 Tryz.ntmps227 ?_
 refine wRUN trivial ?_
 refine w9 (op_shared [] hch) trivial ?_
 refine wRUN trivial ?_
 refine a_loop (κ := Nat) (fun k => ⟨mkS 0 27 [(0, cellsA t.enc), (3, .own (3, 0)), (4, .c (.sl ((kposL t t.kids.length).map intCs))), (5, .c (.int .i64 k))],
   [((3, 0), .row false 1 9 ((keysOf t k).map strCs))]⟩)
  (fun k => k ≤ t.kids.length) (fun k => t.kids.length - k) 0 (Nat.zero_le _) ?_ ?_
 ·(apply (Says.of [((3, 0), (6, 0))] []); (iterate 2 ((focus (simp only [go_sem, Nat.reduceEqDiff, Nat.reduceAdd, Nat.reduceSub, Nat.reduceLeDiff, Nat.reduceMul, Nat.reduceBEq, Nat.reduceLT, Int.reduceToNat, reduceCtorEq, keysOf]; try (and_intros <;> rfl))); (focus exact rfl))); (iterate 4 (focus (simp [go_sem, keysOf]; done))))
 ·intro k hk
  by_cases hlt : k < t.kids.length
  ·have hd : decide ((k : Int) < (t.kids.length : Int)) = true := by simpa using hlt
   have hw1 := wrap_succ (k := k) (by omega)
   have h1 : (keysOf t k).length + 1 ≤ 1000000 := by rw [keysOf_len]; omega
   have hr1 : rowsAt ((kposL t t.kids.length).map intCs) 1 k = true := by simp [rowsAt, kposL, hlt, intCs]
   have hg1 : ((kposL t t.kids.length).map intCs)[k]? = some [.int .i64 ((kp t.kids k : Nat) : Int)] := by simp [kposL, hlt, intCs]
   have hg2 := enc_at_kid t hlt
   have hr2 : rowsAt (t.enc.map CellD.cs) 5 ((kp t.kids k : Nat) : Int) = true := by unfold rowsAt; rw [Int.toNat_natCast, hg2]; simp
   have hn : (keysOf t k).map strCs ++ [[.str (t.keyAt k)]] = (keysOf t (k + 1)).map strCs := by rw [keysOf_succ, List.map_append]; rfl
   refine wRUN (j8 hd hkn hr1 hg1 hr2 hg2 h1 hw1) ?_
   refine ⟨k + 1, by omega, by omega, ?_⟩
   exact wSays (Says.of [((3, 0), (25, 0))] []) hn
  ·have hd : decide ((k : Int) < (t.kids.length : Int)) = false := by simpa using hlt
   have hke : k = t.kids.length := by omega
   refine wRUN (j2 hkn hd) ?_
   subst hke
   exact wRetOf (ret_of [((0, 0), (3, 0))] []) Tryz.results227 hd
set_option maxRecDepth 10000
theorem l1In_ac (n lo hi : Int) : AC Tryz.prog 65 [.c (.int .i64 n), .c (.int .i64 lo), .c (.int .i64 hi)] [] (.c (.bool (decide (n ≥ lo) && decide (n ≤ hi)))) [] := by
 cases h1 : decide (n ≥ lo) <;> cases h2 : decide (n ≤ hi)
 all_goals
  refine wEnter Tryz.func65 Tryz.ntmps65 ?_
  refine wRUN (j2 h1 h2) ?_
  exact wRet (ret_data []) Tryz.results65
end Go.Proofs.YtamgeodhpglgkaaGreat
