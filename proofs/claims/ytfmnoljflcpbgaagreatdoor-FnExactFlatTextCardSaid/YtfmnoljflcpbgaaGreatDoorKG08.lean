/- spec.l13All, by the engine. -/
import Derived.Test.YtfmnoljflcpbgaaGreatDoorKG07
set_option linter.unusedSimpArgs false
set_option linter.unusedVariables false
set_option linter.unnecessarySimpa false
namespace Go.Proofs.YtfmnoljflcpbgaaGreatDoor
open Go.RowKit
/-- Which values count: all, or those without kids. -/
def keep (b : Bool) (p : List V × V) : Bool := !b || p.2.kids.isEmpty
def allP (b : Bool) (l : List (List V × V)) : List (List V) := (l.filter (keep b)).map (·.1)
def pthCs (p : List V) : List C := [.sl ((p.map V.enc).map encCs)]
theorem all_pths (l : List (List V)) : ((l.map pthCs).all fun r => r.length == 1) = true := by simp [pthCs]
theorem fl_pth (p : List V) : forgetL (pthCs p) = pthCs p := rfl
theorem forget_pths (l : List (List V)) : forgetLL (l.map pthCs) = l.map pthCs := forget_map _ fl_pth l
attribute [go_sem] all_pths forget_pths
def preCs (b : Bool) (t : V) (ahead : List V) : List (List C) := if keep b (ahead, t) then [[.osl ((ahead.map V.enc).map encCs)]] else []
theorem allP_append (b : Bool) (l l' : List (List V × V)) : allP b (l ++ l') = allP b l ++ allP b l' := by simp [allP]
theorem allP_len (b : Bool) (l : List (List V × V)) : (allP b l).length ≤ l.length := by simp only [allP, List.length_map]; exact List.length_filter_le _ _
theorem preCs_len (b : Bool) (t : V) (ahead : List V) : (preCs b t ahead).length ≤ 1 := by unfold preCs; split <;> simp
theorem forget_app : ∀ (a b : List (List C)), forgetLL (a ++ b) = forgetLL a ++ forgetLL b
  | [], b => rfl
  | x :: a, b => by simp only [List.cons_append, forgetLL, forget_app a b]
theorem pre_forget (b : Bool) (t : V) (ahead : List V) (rest : List (List V × V)) : forgetLL (preCs b t ahead ++ (allP b rest).map pthCs) = (allP b ((ahead, t) :: rest)).map pthCs := by
  rw [forget_app, forget_pths]
  unfold preCs allP
  rw [List.filter_cons]
  by_cases h : keep b (ahead, t) = true
  · rw [if_pos h, if_pos h]
    simp only [List.map_cons]
    show [[C.sl (forgetLL ((ahead.map V.enc).map encCs))]] ++ _ = _
    rw [forget_encs]
    rfl
  · rw [if_neg h, if_neg h]
    rfl
theorem key_more (ahead : List V) (q : V) : forgetLL ((ahead.map V.enc).map encCs ++ [[.sl (q.enc.map CellD.cs)]]) = ((ahead ++ [q]).map V.enc).map encCs := by
  rw [← forget_encs ((ahead ++ [q]).map V.enc), List.map_append, List.map_append]
  rfl
set_option maxRecDepth 10000
set_option maxHeartbeats 8000000 in
theorem l13All_ac (b : Bool) : ∀ (m : Nat) (t : V) (ahead : List V), t.count ≤ m → t.count ≤ 200 → t.wf → ahead.length + t.count ≤ 900000 →
    AC Tryz.prog 141 [cellsA t.enc, .c (.sl ((ahead.map V.enc).map encCs)), .c (.bool b)] [] (.c (.sl ((allP b (t.paths ahead)).map pthCs))) [] := by
  intro m
  induction m with
  | zero => intro t _ hm; have := count_pos t; omega
  | succ m ih =>
    intro t ahead hm hc hw hl
    have hkc := count_kids t
    have hkl := kids_len_le hc
    have hr0 : rowsAt (t.enc.map CellD.cs) 5 0 = true := by unfold rowsAt; rw [show (0 : Int).toNat = 0 from rfl, enc_head]; rfl
    have hg0 := enc_head t
    have hn0 : 0 + ahead.length ≤ 1000000 := by omega
    have hpl := paths_len t ahead
    have hparts := l1Parts_ac hw hc
    have hkeys := l1Keys_ac hw hc
    refine wEnter Tryz.func141 Tryz.ntmps141 ?_
    rcases (by cases b <;> cases ((t.kids.length : Int) == 0) <;> simp : b = false ∨ (b = true ∧ ((t.kids.length : Int) == 0) = true) ∨ (b = true ∧ ((t.kids.length : Int) == 0) = false)) with hb | ⟨hb, hz⟩ | ⟨hb, hz⟩
    case' inl =>
      have hpre : preCs false t ahead = [[.osl ((ahead.map V.enc).map encCs)]] := by unfold preCs keep; rw [if_pos]; rfl
      refine wRUN (j4 hb hr0 hg0 hn0) ?_
    case' inr.inl =>
      have hpre : preCs true t ahead = [[.osl ((ahead.map V.enc).map encCs)]] := by unfold preCs keep; rw [if_pos]; simp at hz ⊢; exact hz
      refine wRUN (j5 hb hr0 hg0 hz hn0) ?_
    case' inr.inr =>
      have hpre : preCs true t ahead = [] := by unfold preCs keep; rw [if_neg]; simp at hz ⊢; exact hz
      refine wRUN (j5 hb hr0 hg0 hz hn0) ?_
    all_goals
      refine w9 (op_shared [] hparts) trivial ?_
      refine wRUN trivial ?_
      refine w9 (op_shared [] hkeys) trivial ?_
      refine wRUN trivial ?_
      refine a_loop (κ := Nat × List (List V × V)) (fun x => ⟨mkS 0 65 [(0, cellsA t.enc), (1, .c (.sl ((ahead.map V.enc).map encCs))), (2, .c (.bool b)), (7, .own (7, 0)), (8, .c (.sl ((t.kids.map V.enc).map encCs))), (9, .c (.sl ((keysOf t t.kids.length).map strCs))), (10, .c (.int .i64 x.1))],
          [((7, 0), .row true 1 55 (preCs b t ahead ++ (allP b x.2).map pthCs))]⟩)
        (fun x => x.1 ≤ t.kids.length ∧ x.2 ++ pathsL t.keyV x.1 (t.kids.drop x.1) ahead = pathsL t.keyV 0 t.kids ahead) (fun x => t.kids.length - x.1) (0, []) ⟨Nat.zero_le _, rfl⟩ ?_ ?_
      · first
          | (apply (Says.of [((7, 0), (27, 0))] []); (iterate 2 ((focus (simp only [go_sem, Nat.reduceEqDiff, Nat.reduceAdd, Nat.reduceSub, Nat.reduceLeDiff, Nat.reduceMul, Nat.reduceBEq, Nat.reduceLT, Int.reduceToNat, reduceCtorEq, hpre, hb, allP]; try (and_intros <;> rfl))); (focus exact rfl))); (iterate 4 (focus (simp [go_sem, hpre, hb, allP]; done))))
          | (apply (Says.of [((7, 0), (12, 0))] []); (iterate 2 ((focus (simp only [go_sem, Nat.reduceEqDiff, Nat.reduceAdd, Nat.reduceSub, Nat.reduceLeDiff, Nat.reduceMul, Nat.reduceBEq, Nat.reduceLT, Int.reduceToNat, reduceCtorEq, hpre, hb, allP]; try (and_intros <;> rfl))); (focus exact rfl))); (iterate 4 (focus (simp [go_sem, hpre, hb, allP]; done))))
      · rintro ⟨k, done⟩ ⟨hk, hd0⟩
        dsimp only at hk hd0 ⊢
        by_cases hlt : k < t.kids.length
        · have hd : decide ((k : Int) < (t.kids.length : Int)) = true := by simpa using hlt
          have hw1 := wrap_succ (k := k) (by omega)
          have hr1 : rowsAt ((t.kids.map V.enc).map encCs) 1 k = true := by simp [rowsAt, hlt, encCs]
          have hg1 : ((t.kids.map V.enc).map encCs)[k]? = some [.sl (t.kids[k].enc.map CellD.cs)] := by simp [hlt, encCs]
          have hr2 : rowsAt ((keysOf t t.kids.length).map strCs) 1 k = true := by simp [rowsAt, keysOf, hlt, strCs]
          have hg2 : ((keysOf t t.kids.length).map strCs)[k]? = some [.str (t.keyAt k)] := by simp [keysOf, hlt, strCs]
          have hmem := countL_mem (List.getElem_mem hlt)
          have hwk := wf_kid hw hlt
          rw [pathsL_drop t.keyV ahead t.kids hlt] at hd0
          obtain ⟨q, hq⟩ : ∃ q, q = t.keyV k := ⟨_, rfl⟩
          rw [← hq] at hd0
          generalize t.kids[k] = u at *
          have hpu := paths_len u (ahead ++ [q])
          have hpk := pathsL_len t.keyV 0 t.kids ahead
          have hdl : done.length + (u.paths (ahead ++ [q])).length ≤ countL t.kids := by
            have := congrArg List.length hd0
            simp only [List.length_append] at this
            omega
          have h1 : ahead.length + 1 ≤ 1000000 := by omega
          have h2 : (preCs b t ahead ++ (allP b done).map pthCs).length + (allP b (u.paths (ahead ++ [q]))).length ≤ 1000000 := by
            have := preCs_len b t ahead
            have := allP_len b done
            have := allP_len b (u.paths (ahead ++ [q]))
            rw [List.length_append, List.length_map]
            omega
          have hn : preCs b t ahead ++ (allP b done).map pthCs ++ (allP b (u.paths (ahead ++ [q]))).map pthCs = preCs b t ahead ++ (allP b (done ++ u.paths (ahead ++ [q]))).map pthCs := by rw [allP_append, List.map_append, List.append_assoc]
          by_cases h6 : t.kind = 6
          · have hb6 : (t.kind == 6) = true := by simpa using h6
            have hqs : q = strV (t.keyAt k) := by rw [hq]; unfold V.keyV; rw [if_pos h6]
            refine wRUN hd ?_
            refine w9 (op_shared [] (l1Number_ac k)) trivial ?_
            refine wRUN (j5 hr0 hg0 hb6 hr2 hg2) ?_
            have hkm : forgetLL ((ahead.map V.enc).map encCs ++ [[.sl ((V.mk 4 0 (t.keyAt k) [] []).enc.map CellD.cs)]]) = ((ahead ++ [q]).map V.enc).map encCs := by rw [← key_more, hqs]; rfl
            refine w9 (op_shared [] (l1String_ac (t.keyAt k))) trivial ?_
            refine wRUN (j4 hr1 hg1 hn0 h1) ?_
            refine w9 (op_shared [(60, 0)] (ih u (ahead ++ [q]) (by omega) (by omega) hwk (by simp only [List.length_append, List.length_singleton]; omega))) hkm ?_
            refine wRUN (j2 h2 hw1) ?_
            refine ⟨(k + 1, done ++ u.paths (ahead ++ [q])), by dsimp only; omega, ⟨by dsimp only; omega, by simpa using hd0⟩, ?_⟩
            exact wSays (Says.of [((7, 0), (63, 0))] []) hn
          · have hb6 : (t.kind == 6) = false := by simpa using h6
            have hqs : q = numV k := by rw [hq]; unfold V.keyV; rw [if_neg h6]
            have hkm : forgetLL ((ahead.map V.enc).map encCs ++ [[.sl ((V.mk 3 k ByteArray.empty [] []).enc.map CellD.cs)]]) = ((ahead ++ [q]).map V.enc).map encCs := by rw [← key_more, hqs]; rfl
            refine wRUN hd ?_
            refine w9 (op_shared [] (l1Number_ac k)) trivial ?_
            refine wRUN (j7 hr0 hg0 hb6 hr1 hg1 hn0 h1) ?_
            refine w9 (op_shared [(60, 0)] (ih u (ahead ++ [q]) (by omega) (by omega) hwk (by simp only [List.length_append, List.length_singleton]; omega))) hkm ?_
            refine wRUN (j2 h2 hw1) ?_
            refine ⟨(k + 1, done ++ u.paths (ahead ++ [q])), by dsimp only; omega, ⟨by dsimp only; omega, by simpa using hd0⟩, ?_⟩
            exact wSays (Says.of [((7, 0), (63, 0))] []) hn
        · have hd : decide ((k : Int) < (t.kids.length : Int)) = false := by simpa using hlt
          rw [pathsL_end _ _ _ _ (by omega), List.append_nil] at hd0
          have hfin : forgetLL (preCs b t ahead ++ (allP b done).map pthCs) = (allP b (t.paths ahead)).map pthCs := by rw [pre_forget, hd0, ← paths_eq]
          refine wRUN hd ?_
          exact wRetOf (ret_of [] [(7, 0)]) Tryz.results141 hfin
end Go.Proofs.YtfmnoljflcpbgaaGreatDoor
