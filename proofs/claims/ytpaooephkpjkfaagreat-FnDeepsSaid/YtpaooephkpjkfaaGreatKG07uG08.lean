/- Texts of this proof: G07 G08. -/
import Derived.Test.YtpaooephkpjkfaaGreatKG06
set_option linter.unusedSimpArgs false
set_option linter.unusedVariables false
set_option linter.unnecessarySimpa false
namespace Go.Proofs.YtpaooephkpjkfaaGreat
open Go.RowKit
set_option maxRecDepth 10000
set_option maxHeartbeats 1000000 in
theorem l1Array_ac (ps : List V) (hc : (arrV ps).count ≤ 500000) : AC Tryz.prog 60 [.c (.sl ((ps.map V.enc).map encCs))] [] (.own (0, 0)) [((0, 0), .row false 5 42 ((arrV ps).enc.map CellD.cs))] := by
  have hcl := countL_len ps
  have hcc := arr_count ps
  obtain ⟨R, hR⟩ : ∃ R : Nat → List CellD, ∀ k, R k = (arrV ps).enc.take (kp (arrV ps).kids k) := ⟨_, fun _ => rfl⟩
  have h0 : (R 0).map CellD.cs = [[.int .i64 5, .int .i64 0, .str ByteArray.empty, .str ByteArray.empty, .int .i64 ps.length]] := by
    rw [hR, enc_take_one]; rfl
  refine wEnter Tryz.func60 Tryz.ntmps60 ?_
  refine wRUN trivial ?_
  refine a_loop (κ := Nat) (fun k => ⟨mkS 0 22 [(0, .c (.sl ((ps.map V.enc).map encCs))), (3, .own (3, 0)), (4, .c (.int .i64 k))],
      [((3, 0), .row false 5 42 ((R k).map CellD.cs))]⟩)
    (fun k => k ≤ ps.length) (fun k => ps.length - k) 0 (Nat.zero_le _) ?_ ?_
  · exact wSays (Says.of [((3, 0), (8, 0))] []) h0
  · intro k hk
    by_cases hlt : k < ps.length
    · have hd : decide ((k : Int) < (ps.length : Int)) = true := by simpa using hlt
      have hw1 := wrap_succ (k := k) (by omega)
      have hr1 : rowsAt ((ps.map V.enc).map encCs) 1 k = true := by simp [rowsAt, hlt, encCs]
      have hg1 : ((ps.map V.enc).map encCs)[k]? = some [.sl (ps[k].enc.map CellD.cs)] := by simp [hlt, encCs]
      have hts := enc_take_succ (arrV ps) (i := k) hlt
      have h56 : (arrV ps).kind ≠ 6 := show (5 : Int) ≠ 6 by decide
      rw [keyAt_none h56, ← hR, ← hR] at hts
      have htl := enc_take_len (arrV ps) k
      have hkl := kp_le (arrV ps) k
      have hm := countL_mem (List.getElem_mem hlt)
      have hel := enc_len ps[k]
      have h1 : (R k).length + ps[k].enc.length ≤ 1000000 := by rw [hR, htl, hel]; omega
      have hn : (R k).map CellD.cs ++ ps[k].enc.map CellD.cs = (R (k + 1)).map CellD.cs := by
        rw [hts, List.map_append]; rfl
      generalize ps[k] = u at *
      refine wRUN (j5 hd hr1 hg1 h1 hw1) ?_
      refine ⟨k + 1, by omega, by omega, ?_⟩
      exact wSays (Says.of [((3, 0), (20, 0))] []) hn
    · have hd : decide ((k : Int) < (ps.length : Int)) = false := by simpa using hlt
      have hke : k = ps.length := by omega
      have hall : R k = (V.mk 5 0 ByteArray.empty [] ps).enc := by rw [hR, hke]; exact enc_take_all (arrV ps)
      refine wRUN hd ?_
      exact wRetOf (ret_of [((0, 0), (3, 0))] []) Tryz.results60 hall
end Go.Proofs.YtpaooephkpjkfaaGreat

/- spec.l13All, by the engine. -/
namespace Go.Proofs.YtpaooephkpjkfaaGreat
open Go.RowKit
/-- Which values count: all, or those without kids. -/
def keep (b : Bool) (p : List V × V) : Bool := !b || p.2.kids.isEmpty
def pthCs (p : List V) : List C := [.sl ((p.map V.enc).map encCs)]
theorem all_pths (l : List (List V)) : ((l.map pthCs).all fun r => r.length == 1) = true := by simp [pthCs]
theorem fl_pth (p : List V) : forgetL (pthCs p) = pthCs p := rfl
theorem forget_pths (l : List (List V)) : forgetLL (l.map pthCs) = l.map pthCs := forget_map _ fl_pth l
attribute [go_sem] all_pths forget_pths
set_option maxRecDepth 10000
end Go.Proofs.YtpaooephkpjkfaaGreat
