/- Texts of this proof: G07 G08. -/
import Derived.Test.YtfmnoljflcpbgaaGreatDoorKG06
set_option linter.unusedSimpArgs false
set_option linter.unusedVariables false
set_option linter.unnecessarySimpa false
namespace Go.Proofs.YtfmnoljflcpbgaaGreatDoor
open Go.RowKit
def keysOf (t : V) (k : Nat) : List ByteArray := (List.range k).map t.keyAt
theorem keysOf_succ (t : V) (k : Nat) : keysOf t (k + 1) = keysOf t k ++ [t.keyAt k] := by simp [keysOf, List.range_succ]
theorem keysOf_len (t : V) (k : Nat) : (keysOf t k).length = k := by simp [keysOf]
theorem enc_at_kid (t : V) {k : Nat} (h : k < t.kids.length) : (t.enc.map CellD.cs)[kp t.kids k]? = some [.int .i64 t.kids[k].kind, .int .i64 t.kids[k].num, .str t.kids[k].text, .str (t.keyAt k), .int .i64 t.kids[k].kids.length] := by
  have h1 := enc_kid t h
  have h2 : t.enc[kp t.kids k]? = some ⟨t.kids[k].kind, t.kids[k].num, t.kids[k].text, t.keyAt k, t.kids[k].kids.length⟩ := by
    have h3 : (t.enc.drop (kp t.kids k))[0]? = t.enc[kp t.kids k]? := by rw [List.getElem?_drop]; rfl
    rw [← h3, h1, cells_head]
    rfl
  rw [List.getElem?_map, h2]
  rfl

set_option maxRecDepth 10000
set_option maxHeartbeats 1000000 in
theorem l1Keys_ac {t : V} (hw : t.wf) (hc : t.count ≤ 200) : AC Tryz.prog 101 [cellsA t.enc] [] (.c (.sl ((keysOf t t.kids.length).map strCs))) [] := by
  have hkl := kids_len_le hc
  have hkn := kposL_len t t.kids.length
  have hch := l1Children_ac hw hc
  refine wEnter Tryz.func101 Tryz.ntmps101 ?_
  refine wRUN trivial ?_
  refine w9 (op_shared [] hch) trivial ?_
  refine wRUN trivial ?_
  refine a_loop (κ := Nat) (fun k => ⟨mkS 0 27 [(0, cellsA t.enc), (3, .own (3, 0)), (4, .c (.sl ((kposL t t.kids.length).map intCs))), (5, .c (.int .i64 k))],
      [((3, 0), .row false 1 9 ((keysOf t k).map strCs))]⟩)
    (fun k => k ≤ t.kids.length) (fun k => t.kids.length - k) 0 (Nat.zero_le _) ?_ ?_
  · (apply (Says.of [((3, 0), (6, 0))] []); (iterate 2 ((focus (simp only [go_sem, Nat.reduceEqDiff, Nat.reduceAdd, Nat.reduceSub, Nat.reduceLeDiff, Nat.reduceMul, Nat.reduceBEq, Nat.reduceLT, Int.reduceToNat, reduceCtorEq, keysOf]; try (and_intros <;> rfl))); (focus exact rfl))); (iterate 4 (focus (simp [go_sem, keysOf]; done))))
  · intro k hk
    by_cases hlt : k < t.kids.length
    · have hd : decide ((k : Int) < (t.kids.length : Int)) = true := by simpa using hlt
      have hw1 := wrap_succ (k := k) (by omega)
      have h1 : (keysOf t k).length + 1 ≤ 1000000 := by rw [keysOf_len]; omega
      have hr1 : rowsAt ((kposL t t.kids.length).map intCs) 1 k = true := by simp [rowsAt, kposL, hlt, intCs]
      have hg1 : ((kposL t t.kids.length).map intCs)[k]? = some [.int .i64 ((kp t.kids k : Nat) : Int)] := by simp [kposL, hlt, intCs]
      have hg2 := enc_at_kid t hlt
      have hr2 : rowsAt (t.enc.map CellD.cs) 5 ((kp t.kids k : Nat) : Int) = true := by unfold rowsAt; rw [Int.toNat_natCast, hg2]; simp
      have hn : (keysOf t k).map strCs ++ [[.str (t.keyAt k)]] = (keysOf t (k + 1)).map strCs := by rw [keysOf_succ, List.map_append]; rfl
      refine wRUN (j8 hd hkn hr1 hg1 hr2 hg2 h1 hw1) ?_
      refine ⟨k + 1, by omega, by omega, ?_⟩
      exact wSays (Says.of [((3, 0), (25, 0))] []) hn
    · have hd : decide ((k : Int) < (t.kids.length : Int)) = false := by simpa using hlt
      have hke : k = t.kids.length := by omega
      refine wRUN (j2 hkn hd) ?_
      subst hke
      exact wRetOf (ret_of [] [(3, 0)]) Tryz.results101 hd
end Go.Proofs.YtfmnoljflcpbgaaGreatDoor

/- spec.l13All, by the engine. -/
namespace Go.Proofs.YtfmnoljflcpbgaaGreatDoor
open Go.RowKit
/-- Which values count: all, or those without kids. -/
def keep (b : Bool) (p : List V × V) : Bool := !b || p.2.kids.isEmpty
def pthCs (p : List V) : List C := [.sl ((p.map V.enc).map encCs)]
theorem all_pths (l : List (List V)) : ((l.map pthCs).all fun r => r.length == 1) = true := by simp [pthCs]
theorem fl_pth (p : List V) : forgetL (pthCs p) = pthCs p := rfl
theorem forget_pths (l : List (List V)) : forgetLL (l.map pthCs) = l.map pthCs := forget_map _ fl_pth l
attribute [go_sem] all_pths forget_pths
set_option maxRecDepth 10000
end Go.Proofs.YtfmnoljflcpbgaaGreatDoor
