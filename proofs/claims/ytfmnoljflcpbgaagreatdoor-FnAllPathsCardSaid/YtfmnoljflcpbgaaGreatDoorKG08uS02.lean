/- Texts of this proof: G08 G09 G11 G14 S02. -/
import Derived.Test.YtfmnoljflcpbgaaGreatDoorKG06uG07
import Derived.Test.YtfmnoljflcpbgaaGreatDoorKE5
import Derived.Test.YtfmnoljflcpbgaaGreatDoorKB3
import Derived.Deep.RegionHeld3
import Derived.Deep.RegionWith
import Derived.Test.YtfmnoljflcpbgaaGreatDoorKA1
import Derived.Test.YtfmnoljflcpbgaaGreatDoorKT01
import Derived.Shelf.SlGeneric
import Derived.Shelf.SlLaysM
set_option linter.unusedSimpArgs false
set_option linter.unusedVariables false
set_option linter.unnecessarySimpa false
namespace Go.Proofs.YtfmnoljflcpbgaaGreatDoor
open Go.RowKit
/-- Which values count: all, or those without kids. -/
def keep (b : Bool) (p : List V × V) : Bool := !b || p.2.kids.isEmpty
def allP (b : Bool) (l : List (List V × V)) : List (List V) := (l.filter (keep b)).map (·.1)
def pthCs (p : List V) : List C := [.sl ((p.map V.enc).map encCs)]
theorem all_pths (l : List (List V)) : ((l.map pthCs).all fun r => r.length == 1) = true := by simp [pthCs]
theorem fl_pth (p : List V) : forgetL (pthCs p) = pthCs p := rfl
theorem forget_pths (l : List (List V)) : forgetLL (l.map pthCs) = l.map pthCs := forget_map _ fl_pth l
attribute [go_sem] all_pths forget_pths
def preCs (b : Bool) (t : V) (ahead : List V) : List (List C) := if keep b (ahead, t) then [[.osl ((ahead.map V.enc).map encCs)]] else []
theorem allP_append (b : Bool) (l l' : List (List V × V)) : allP b (l ++ l') = allP b l ++ allP b l' := by simp [allP]
theorem allP_len (b : Bool) (l : List (List V × V)) : (allP b l).length ≤ l.length := by simp only [allP, List.length_map]; exact List.length_filter_le _ _
theorem preCs_len (b : Bool) (t : V) (ahead : List V) : (preCs b t ahead).length ≤ 1 := by unfold preCs; split <;> simp
theorem forget_app : ∀ (a b : List (List C)), forgetLL (a ++ b) = forgetLL a ++ forgetLL b
  | [], b => rfl
  | x :: a, b => by simp only [List.cons_append, forgetLL, forget_app a b]
theorem pre_forget (b : Bool) (t : V) (ahead : List V) (rest : List (List V × V)) : forgetLL (preCs b t ahead ++ (allP b rest).map pthCs) = (allP b ((ahead, t) :: rest)).map pthCs := by
  rw [forget_app, forget_pths]
  unfold preCs allP
  rw [List.filter_cons]
  by_cases h : keep b (ahead, t) = true
  · rw [if_pos h, if_pos h]
    simp only [List.map_cons]
    show [[C.sl (forgetLL ((ahead.map V.enc).map encCs))]] ++ _ = _
    rw [forget_encs]
    rfl
  · rw [if_neg h, if_neg h]
    rfl
theorem key_more (ahead : List V) (q : V) : forgetLL ((ahead.map V.enc).map encCs ++ [[.sl (q.enc.map CellD.cs)]]) = ((ahead ++ [q]).map V.enc).map encCs := by
  rw [← forget_encs ((ahead ++ [q]).map V.enc), List.map_append, List.map_append]
  rfl
set_option maxRecDepth 10000
set_option maxHeartbeats 8000000 in
theorem l13All_ac (b : Bool) : ∀ (m : Nat) (t : V) (ahead : List V), t.count ≤ m → t.count ≤ 200 → t.wf → ahead.length + t.count ≤ 900000 →
    AC Tryz.prog 141 [cellsA t.enc, .c (.sl ((ahead.map V.enc).map encCs)), .c (.bool b)] [] (.c (.sl ((allP b (t.paths ahead)).map pthCs))) [] := by
  intro m
  induction m with
  | zero => intro t _ hm; have := count_pos t; omega
  | succ m ih =>
    intro t ahead hm hc hw hl
    have hkc := count_kids t
    have hkl := kids_len_le hc
    have hr0 : rowsAt (t.enc.map CellD.cs) 5 0 = true := by unfold rowsAt; rw [show (0 : Int).toNat = 0 from rfl, enc_head]; rfl
    have hg0 := enc_head t
    have hn0 : 0 + ahead.length ≤ 1000000 := by omega
    have hpl := paths_len t ahead
    have hparts := l1Parts_ac hw hc
    have hkeys := l1Keys_ac hw hc
    refine wEnter Tryz.func141 Tryz.ntmps141 ?_
    rcases (by cases b <;> cases ((t.kids.length : Int) == 0) <;> simp : b = false ∨ (b = true ∧ ((t.kids.length : Int) == 0) = true) ∨ (b = true ∧ ((t.kids.length : Int) == 0) = false)) with hb | ⟨hb, hz⟩ | ⟨hb, hz⟩
    case' inl =>
      have hpre : preCs false t ahead = [[.osl ((ahead.map V.enc).map encCs)]] := by unfold preCs keep; rw [if_pos]; rfl
      refine wRUN (j4 hb hr0 hg0 hn0) ?_
    case' inr.inl =>
      have hpre : preCs true t ahead = [[.osl ((ahead.map V.enc).map encCs)]] := by unfold preCs keep; rw [if_pos]; simp at hz ⊢; exact hz
      refine wRUN (j5 hb hr0 hg0 hz hn0) ?_
    case' inr.inr =>
      have hpre : preCs true t ahead = [] := by unfold preCs keep; rw [if_neg]; simp at hz ⊢; exact hz
      refine wRUN (j5 hb hr0 hg0 hz hn0) ?_
    all_goals
      refine w9 (op_shared [] hparts) trivial ?_
      refine wRUN trivial ?_
      refine w9 (op_shared [] hkeys) trivial ?_
      refine wRUN trivial ?_
      refine a_loop (κ := Nat × List (List V × V)) (fun x => ⟨mkS 0 65 [(0, cellsA t.enc), (1, .c (.sl ((ahead.map V.enc).map encCs))), (2, .c (.bool b)), (7, .own (7, 0)), (8, .c (.sl ((t.kids.map V.enc).map encCs))), (9, .c (.sl ((keysOf t t.kids.length).map strCs))), (10, .c (.int .i64 x.1))],
          [((7, 0), .row true 1 55 (preCs b t ahead ++ (allP b x.2).map pthCs))]⟩)
        (fun x => x.1 ≤ t.kids.length ∧ x.2 ++ pathsL t.keyV x.1 (t.kids.drop x.1) ahead = pathsL t.keyV 0 t.kids ahead) (fun x => t.kids.length - x.1) (0, []) ⟨Nat.zero_le _, rfl⟩ ?_ ?_
      · first
          | (apply (Says.of [((7, 0), (27, 0))] []); (iterate 2 ((focus (simp only [go_sem, Nat.reduceEqDiff, Nat.reduceAdd, Nat.reduceSub, Nat.reduceLeDiff, Nat.reduceMul, Nat.reduceBEq, Nat.reduceLT, Int.reduceToNat, reduceCtorEq, hpre, hb, allP]; try (and_intros <;> rfl))); (focus exact rfl))); (iterate 4 (focus (simp [go_sem, hpre, hb, allP]; done))))
          | (apply (Says.of [((7, 0), (12, 0))] []); (iterate 2 ((focus (simp only [go_sem, Nat.reduceEqDiff, Nat.reduceAdd, Nat.reduceSub, Nat.reduceLeDiff, Nat.reduceMul, Nat.reduceBEq, Nat.reduceLT, Int.reduceToNat, reduceCtorEq, hpre, hb, allP]; try (and_intros <;> rfl))); (focus exact rfl))); (iterate 4 (focus (simp [go_sem, hpre, hb, allP]; done))))
      · rintro ⟨k, done⟩ ⟨hk, hd0⟩
        dsimp only at hk hd0 ⊢
        by_cases hlt : k < t.kids.length
        · have hd : decide ((k : Int) < (t.kids.length : Int)) = true := by simpa using hlt
          have hw1 := wrap_succ (k := k) (by omega)
          have hr1 : rowsAt ((t.kids.map V.enc).map encCs) 1 k = true := by simp [rowsAt, hlt, encCs]
          have hg1 : ((t.kids.map V.enc).map encCs)[k]? = some [.sl (t.kids[k].enc.map CellD.cs)] := by simp [hlt, encCs]
          have hr2 : rowsAt ((keysOf t t.kids.length).map strCs) 1 k = true := by simp [rowsAt, keysOf, hlt, strCs]
          have hg2 : ((keysOf t t.kids.length).map strCs)[k]? = some [.str (t.keyAt k)] := by simp [keysOf, hlt, strCs]
          have hmem := countL_mem (List.getElem_mem hlt)
          have hwk := wf_kid hw hlt
          rw [pathsL_drop t.keyV ahead t.kids hlt] at hd0
          obtain ⟨q, hq⟩ : ∃ q, q = t.keyV k := ⟨_, rfl⟩
          rw [← hq] at hd0
          generalize t.kids[k] = u at *
          have hpu := paths_len u (ahead ++ [q])
          have hpk := pathsL_len t.keyV 0 t.kids ahead
          have hdl : done.length + (u.paths (ahead ++ [q])).length ≤ countL t.kids := by
            have := congrArg List.length hd0
            simp only [List.length_append] at this
            omega
          have h1 : ahead.length + 1 ≤ 1000000 := by omega
          have h2 : (preCs b t ahead ++ (allP b done).map pthCs).length + (allP b (u.paths (ahead ++ [q]))).length ≤ 1000000 := by
            have := preCs_len b t ahead
            have := allP_len b done
            have := allP_len b (u.paths (ahead ++ [q]))
            rw [List.length_append, List.length_map]
            omega
          have hn : preCs b t ahead ++ (allP b done).map pthCs ++ (allP b (u.paths (ahead ++ [q]))).map pthCs = preCs b t ahead ++ (allP b (done ++ u.paths (ahead ++ [q]))).map pthCs := by rw [allP_append, List.map_append, List.append_assoc]
          by_cases h6 : t.kind = 6
          · have hb6 : (t.kind == 6) = true := by simpa using h6
            have hqs : q = strV (t.keyAt k) := by rw [hq]; unfold V.keyV; rw [if_pos h6]
            refine wRUN hd ?_
            refine w9 (op_shared [] (l1Number_ac k)) trivial ?_
            refine wRUN (j5 hr0 hg0 hb6 hr2 hg2) ?_
            have hkm : forgetLL ((ahead.map V.enc).map encCs ++ [[.sl ((V.mk 4 0 (t.keyAt k) [] []).enc.map CellD.cs)]]) = ((ahead ++ [q]).map V.enc).map encCs := by rw [← key_more, hqs]; rfl
            refine w9 (op_shared [] (l1String_ac (t.keyAt k))) trivial ?_
            refine wRUN (j4 hr1 hg1 hn0 h1) ?_
            refine w9 (op_shared [(60, 0)] (ih u (ahead ++ [q]) (by omega) (by omega) hwk (by simp only [List.length_append, List.length_singleton]; omega))) hkm ?_
            refine wRUN (j2 h2 hw1) ?_
            refine ⟨(k + 1, done ++ u.paths (ahead ++ [q])), by dsimp only; omega, ⟨by dsimp only; omega, by simpa using hd0⟩, ?_⟩
            exact wSays (Says.of [((7, 0), (63, 0))] []) hn
          · have hb6 : (t.kind == 6) = false := by simpa using h6
            have hqs : q = numV k := by rw [hq]; unfold V.keyV; rw [if_neg h6]
            have hkm : forgetLL ((ahead.map V.enc).map encCs ++ [[.sl ((V.mk 3 k ByteArray.empty [] []).enc.map CellD.cs)]]) = ((ahead ++ [q]).map V.enc).map encCs := by rw [← key_more, hqs]; rfl
            refine wRUN hd ?_
            refine w9 (op_shared [] (l1Number_ac k)) trivial ?_
            refine wRUN (j7 hr0 hg0 hb6 hr1 hg1 hn0 h1) ?_
            refine w9 (op_shared [(60, 0)] (ih u (ahead ++ [q]) (by omega) (by omega) hwk (by simp only [List.length_append, List.length_singleton]; omega))) hkm ?_
            refine wRUN (j2 h2 hw1) ?_
            refine ⟨(k + 1, done ++ u.paths (ahead ++ [q])), by dsimp only; omega, ⟨by dsimp only; omega, by simpa using hd0⟩, ?_⟩
            exact wSays (Says.of [((7, 0), (63, 0))] []) hn
        · have hd : decide ((k : Int) < (t.kids.length : Int)) = false := by simpa using hlt
          rw [pathsL_end _ _ _ _ (by omega), List.append_nil] at hd0
          have hfin : forgetLL (preCs b t ahead ++ (allP b done).map pthCs) = (allP b (t.paths ahead)).map pthCs := by rw [pre_forget, hd0, ← paths_eq]
          refine wRUN hd ?_
          exact wRetOf (ret_of [] [(7, 0)]) Tryz.results141 hfin
end Go.Proofs.YtfmnoljflcpbgaaGreatDoor

/- spec.l13Paths, spec.PathsIn, by the engine. -/
namespace Go.Proofs.YtfmnoljflcpbgaaGreatDoor
open Go.RowKit
/-- A path as a cell of the result: a slice that no one else reaches. -/
def resCs (p : List V) : List C := [.osl ((arrV p).enc.map CellD.cs)]
theorem all_res (l : List (List V)) : ((l.map resCs).all fun r => r.length == 1) = true := by simp [resCs]
attribute [go_sem] all_res
set_option maxRecDepth 10000
set_option maxHeartbeats 1000000 in
theorem l13Paths_bad (xs : List CellD) (b : Bool) (h0 : (dec xs).1 ≠ 0) : AC Tryz.prog 87 [cellsA xs, .c (.bool b)] [] (.agg [.c (.int .i64 (dec xs).1), .nils]) [] := by
  have hb : ((dec xs).1 != 0) = true := by simpa using h0
  have hv := fault_ac xs
  refine wEnter Tryz.func87 Tryz.ntmps87 ?_
  refine wRUN trivial ?_
  refine w7 (op_data [] hv) trivial ?_
  refine wRUN hb ?_
  exact wRet (ret_data []) Tryz.results87
set_option maxHeartbeats 2000000 in
theorem l13Paths_ac {t : V} (b : Bool) (hw : t.wf) (hc : t.count ≤ 200) (hd : t.depth ≤ 20) :
    AC Tryz.prog 87 [cellsA t.enc, .c (.bool b)] [] (.agg [.c (.int .i64 0), .own (0, 0)]) [((0, 0), .row true 1 27 ((allP b (t.paths [])).map resCs))] := by
  have h0 : ((dec t.enc).1 != 0) = false := by rw [dec_enc hw hc hd]; rfl
  have hv := fault_ac t.enc
  have hall := l13All_ac b t.count t [] (Nat.le_refl _) hc hw (by simp; omega)
  simp only [List.map_nil] at hall
  have hpl := paths_len t []
  have hok : ∀ p ∈ allP b (t.paths []), (arrV p).count ≤ 500000 := by
    intro p hp
    simp only [allP, List.mem_map, List.mem_filter] at hp
    obtain ⟨x, ⟨hx, _⟩, rfl⟩ := hp
    obtain ⟨h1, h2⟩ := paths_ok t [] trivial x hx
    rw [arr_count]
    simp only [countL] at h2
    omega
  have hl : (allP b (t.paths [])).length ≤ 200 := Nat.le_trans (allP_len b _) (by omega)
  generalize allP b (t.paths []) = l at *
  have hb : decide ((l.length : Int) > 200) = false := by simp; omega
  refine wEnter Tryz.func87 Tryz.ntmps87 ?_
  refine wRUN trivial ?_
  refine w7 (op_data [] hv) trivial ?_
  refine wRUN h0 ?_
  refine w9 (op_shared [] hall) trivial ?_
  refine wRUN hb ?_
  refine a_loop (κ := Nat) (fun k => ⟨mkS 0 40 [(4, .ptr (4, 0) 0), (6, .c (.sl (l.map pthCs))), (7, .ptr (7, 0) 0), (8, .c (.int .i64 k))],
      [((4, 0), .box [.c (.int .i64 0), .nils]), ((7, 0), .box [.c (.int .i64 0), .own (99, 0)]), ((99, 0), .row true 1 27 ((l.take k).map resCs))]⟩)
    (fun k => k ≤ l.length) (fun k => l.length - k) 0 (Nat.zero_le _) ?_ ?_
  · exact wSays (Says.of [((4, 0), (4, 0)), ((7, 0), (7, 0))] []) hb
  · intro k hk
    by_cases hlt : k < l.length
    · have hd : decide ((k : Int) < (l.length : Int)) = true := by simpa using hlt
      have hr : rowsAt (l.map pthCs) 1 k = true := by simp [rowsAt, hlt, pthCs]
      have hg : (l.map pthCs)[k]? = some [.sl ((l[k].map V.enc).map encCs)] := by simp [hlt, pthCs]
      have hcc := hok _ (List.getElem_mem hlt)
      have hts : l.take (k + 1) = l.take k ++ [l[k]] := List.take_succ_eq_append_getElem hlt
      generalize l[k] = p at *
      have hw := wrap_succ (k := k) (by omega)
      have h1 : (l.take k).length + 1 ≤ 1000000 := by rw [List.length_take]; omega
      have ha := l1Array_ac p hcc
      have hrow : (l.take k).map resCs ++ [[.osl ((V.mk 5 0 ByteArray.empty [] p).enc.map CellD.cs)]] = (l.take (k + 1)).map resCs := by rw [hts, List.map_append]; rfl
      refine wRUN (j3 hd hr hg) ?_
      refine w12 (op_rowF [] ha) trivial ?_
      refine wRUN (j2 h1 hw) ?_
      refine ⟨k + 1, by omega, by omega, ?_⟩
      exact wSays (Says.of [((4, 0), (4, 0)), ((7, 0), (7, 0)), ((99, 0), (37, 0))] []) hrow
    · have hd : decide ((k : Int) < (l.length : Int)) = false := by simpa using hlt
      have hke : l.take k = l := List.take_of_length_le (by omega)
      refine wRUN hd ?_
      exact wRetOf (ret_of [((0, 0), (99, 0))] []) Tryz.results87 hke
end Go.Proofs.YtfmnoljflcpbgaaGreatDoor

/- laws.markCellSS: slices of cells in a row are marked one by one. -/
namespace Go.Proofs.YtfmnoljflcpbgaaGreatDoor
open Go.RowKit
def oslCs (xs : List CellD) : List C := [.osl (xs.map CellD.cs)]
/-- Slices of cells, each of which no one else reaches; bs: their blocks. -/
def Nest (w : World) : List (List CellD) → List Value → List Nat → Prop
  | [], vs, bs => vs = [] ∧ bs = []
  | x :: l, vs, bs => ∃ v vs' b1 b2, vs = v :: vs' ∧ bs = b1 ++ b2 ∧ CR w (fun _ => False) (.osl (x.map CellD.cs)) v b1 ∧ Nest w l vs' b2
theorem Nest.length {w : World} : ∀ {l : List (List CellD)} {vs : List Value} {bs : List Nat}, Nest w l vs bs → vs.length = l.length
  | [], vs, bs, h => by rw [h.1]; rfl
  | x :: l, vs, bs, h => by
    obtain ⟨v, vs', b1, b2, rfl, rfl, h1, h2⟩ := h
    simp [Nest.length h2]
theorem Nest.keep {w w' : World} (hz : w.heap.size ≤ w'.heap.size) : ∀ {l : List (List CellD)} {vs : List Value} {bs : List Nat}, (∀ b, b ∈ bs → b < w.heap.size → w'.heap[b]? = w.heap[b]?) → Nest w l vs bs → Nest w' l vs bs
  | [], vs, bs, _, h => h
  | x :: l, vs, bs, hb, h => by
    obtain ⟨v, vs', b1, b2, rfl, rfl, h1, h2⟩ := h
    exact ⟨v, vs', b1, b2, rfl, rfl, CR.keep hz (fun b hf => hf.elim) (fun b hb1 => hb b (by simp [hb1])) h1, Nest.keep hz (fun b hb2 => hb b (by simp [hb2])) h2⟩
theorem Nest.at_ {w : World} : ∀ {l : List (List CellD)} {vs : List Value} {bs : List Nat}, Nest w l vs bs → bs.Nodup → ∀ {i : Nat} (hi : i < l.length), ∃ v bi, vs[i]? = some v ∧ CR w (fun _ => False) (.osl (l[i].map CellD.cs)) v bi ∧ (∀ b, b ∈ bi → b ∈ bs) ∧
    ∀ (w' : World) (y : List CellD), w.heap.size ≤ w'.heap.size → CR w' (fun _ => False) (.osl (y.map CellD.cs)) v bi → (∀ b, b ∈ bs → b ∉ bi → b < w.heap.size → w'.heap[b]? = w.heap[b]?) → Nest w' (l.set i y) vs bs
  | [], vs, bs, _, _, i, hi => by simp at hi
  | x :: l, vs, bs, h, hnd, 0, _ => by
    obtain ⟨v, vs', b1, b2, rfl, rfl, h1, h2⟩ := h
    refine ⟨v, b1, rfl, h1, fun b hb => by simp [hb], fun w' y hz hy hk => ⟨v, vs', b1, b2, rfl, rfl, hy, Nest.keep hz (fun b hb => hk b (by simp [hb]) ?_) h2⟩⟩
    intro hb1
    exact (List.nodup_append.1 hnd).2.2 b hb1 b hb rfl
  | x :: l, vs, bs, h, hnd, i + 1, hi => by
    obtain ⟨v, vs', b1, b2, rfl, rfl, h1, h2⟩ := h
    obtain ⟨v1, bi, g1, g2, g3, g4⟩ := Nest.at_ h2 (List.nodup_append.1 hnd).2.1 (i := i) (by simpa using hi)
    refine ⟨v1, bi, by simpa using g1, by simpa using g2, fun b hb => by simp [g3 b hb], fun w' y hz hy hk => ⟨v, vs', b1, b2, rfl, rfl, CR.keep hz (fun b hf => hf.elim) (fun b hb => hk b (by simp [hb]) ?_) h1, g4 w' y hz hy fun b hb => hk b (by simp [hb])⟩⟩
    intro hbi
    exact (List.nodup_append.1 hnd).2.2 b hb b (g3 b hbi) rfl
theorem get_one {p : Id × AO} {i : Id} {o : AO} (h : Mem.get [p] i = some o) : i = p.1 ∧ o = p.2 := by
  obtain ⟨a, b⟩ := p
  simp only [Mem.get, List.lookup_cons, List.lookup_nil] at h
  split at h
  · rename_i hq
    exact ⟨by simpa using hq, (Option.some.inj h).symm⟩
  · cases h
end Go.Proofs.YtfmnoljflcpbgaaGreatDoor

/- The laws' own function toCellS as the engine's contract; a row that a function of the old kind returns. -/
namespace Go.Proofs.YtfmnoljflcpbgaaGreatDoor
open Go.RowKit
theorem ownsRow_lt {w : World} {base : Nat} {e : TypeId} {es n : Nat} {v : Value} {cs : List Value} (h : w.ownsRow base e es v n cs) {b : Nat} (hb : v.ownBlock = some b) : base ≤ b ∧ b < w.heap.size := by
  rcases h.2 with ⟨rfl, _⟩ | ⟨g, cap, cur, rfl, hg, hh, _⟩
  · cases hb
  · have : g = b := by simpa [Value.ownBlock] using hb
    subst this
    exact ⟨hg, (Array.getElem?_eq_some_iff.1 hh).1⟩
theorem ownsRow_zero {w : World} {base : Nat} {e : TypeId} {es n : Nat} {v : Value} {cs : List Value} (h : w.ownsRow base e es v n cs) : w.ownsRow 0 e es v n cs := by
  refine ⟨h.1, ?_⟩
  rcases h.2 with h | ⟨g, cap, cur, e1, hg, r⟩
  · exact .inl h
  · exact .inr ⟨g, cap, cur, e1, Nat.zero_le _, r⟩
/-- A contract of a function that is handed no object and makes a row. -/
theorem AC.of_row {P : Program} {f : FuncId} {args : List AV} {es : Nat} {e : TypeId} {rows : List (List C)} (hc : closedLL rows = true)
    (h : ∀ (S : Nat → Prop) (w : World) (κ : Id → Value) (vals : List Value), ARs w S [] κ args vals → Calls P f vals.toArray w fun e1 w' => Below w.heap.size w w' ∧ ∃ v vrows, e1 = .returned v ∧ CRss w' (fun _ => False) rows vrows [] ∧ (∀ x ∈ vrows, x.length = es) ∧ w'.ownsRow w.heap.size e es v rows.length vrows.flatten) :
    AC P f args [] (.own (0, 0)) [((0, 0), .row false es e rows)] := by
  intro Γ vals hE hA
  have how : ∀ b, Γ.ow b = none := by
    intro b
    cases hb : Γ.ow b with
    | none => rfl
    | some i => obtain ⟨_, o, h1, _⟩ := hE.own b i hb; simp [Mem.get] at h1
  refine (h _ _ _ _ hA).mono ?_
  rintro e1 w' ⟨hb, v, vrows, rfl, h1, h2, h3⟩
  refine ⟨v, fun b => if v.ownBlock = some b then some (0, 0) else none, fun _ => v, rfl, ⟨⟨ownsRow_one h3, _, rfl, fun _ => rfl⟩, ?_, ?_, hb.os, hb.tape, hb.output, hb.size, ?_, fun i o o' h => (by simp [Mem.get] at h)⟩⟩
  · intro i o hi
    obtain ⟨rfl, rfl⟩ := get_one hi
    refine ⟨vrows, [], CRss.closed hc h1, fun _ => rfl, h2, ownsRow_zero h3, ?_, fun b hb => ?_⟩
    · show (v.ownBlock.toList ++ []).Nodup
      cases v.ownBlock <;> simp
    · have hb' : b ∈ v.ownBlock.toList ++ [] := hb
      have : v.ownBlock = some b := by simpa using hb'
      exact if_pos this
  · intro b i hbi
    split at hbi
    · rename_i hv
      refine ⟨(ownsRow_lt h3 hv).2, .row false es e rows, ?_, rfl⟩
      rw [← Option.some.inj hbi]
      rfl
    · cases hbi
  · intro b hl _
    refine ⟨hb.block b hl, ?_⟩
    refine if_neg fun hv => ?_
    have := (ownsRow_lt h3 hv).1
    omega
theorem closed_cells (l : List CellD) : closedLL (l.map CellD.cs) = true := by
  induction l with
  | nil => rfl
  | cons c l ih => simp only [List.map_cons, closedLL, ih, Bool.and_true]; rfl
attribute [go_sem] closed_cells AO.closed
end Go.Proofs.YtfmnoljflcpbgaaGreatDoor

/- slices.Sort at []string: that the program bears its closure (printed by gen_lay.py out of the kit's own laying). -/
namespace Go.Proofs.YtfmnoljflcpbgaaGreatDoor
open Go.RowKit Go.Shelf
end Go.Proofs.YtfmnoljflcpbgaaGreatDoor
