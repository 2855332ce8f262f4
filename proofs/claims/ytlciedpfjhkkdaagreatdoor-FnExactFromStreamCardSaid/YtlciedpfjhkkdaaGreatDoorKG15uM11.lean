/- Texts of this proof: G15 G28 M11. -/
import Derived.Test.YtlciedpfjhkkdaaGreatDoorKG04uG08
import Derived.Test.YtlciedpfjhkkdaaGreatDoorKE5
import Derived.Test.YtlciedpfjhkkdaaGreatDoorKG20uG21
import Derived.Test.YtlciedpfjhkkdaaGreatDoorKM2
import Derived.Test.YtlciedpfjhkkdaaGreatDoorKA1
set_option linter.unusedSimpArgs false
set_option linter.unusedVariables false
set_option linter.unnecessarySimpa false
set_option maxHeartbeats 8000000
namespace Go.Proofs.YtlciedpfjhkkdaaGreatDoor
open Go.RowKit
set_option maxRecDepth 10000
theorem isLeaf_ac (t : V) : AC Tryz.prog 95 [t.av] [] (.c (.bool t.kids.isEmpty)) [] := by
 have h0 : (((t.kids.length : Int)) == 0) = t.kids.isEmpty := by cases t.kids <;> simp; omega
 refine wEnter Tryz.func95 Tryz.ntmps95 ?_
 refine wRUN trivial ?_
 exact ret_data [] (by simp only [Tryz.results95, go_sem, Nat.reduceBEq, Nat.reduceLT]; exact rfl) (by simp only [go_sem, Nat.reduceEqDiff, Nat.reduceAdd, Nat.reduceSub, Nat.reduceLeDiff, Nat.reduceMul, Nat.reduceBEq, Nat.reduceLT, Int.reduceToNat, reduceCtorEq, h0]) rfl
set_option maxRecDepth 10000
def leafC : Option V → C
 | none => .raw (.pointer none)
 | some t => .ref t.cs
def evCs (e : Ev) : List C := [.sl (e.1.map V.cs), leafC e.2]
def evO (e : Ev) : List C := [.osl (e.1.map V.cs), leafC e.2]
theorem leafC_forget (o : Option V) : (leafC o).forget = leafC o := by cases o <;> rfl
theorem forget_evO (l : List Ev) : forgetLL (l.map evO) = l.map evCs := by
 induction l with
 | nil => rfl
 | cons e l ih => simp only [List.map_cons, forgetLL, ih, evO, evCs, forgetL, C.forget, forget_trees, leafC_forget]
theorem forget_evCs (l : List Ev) : forgetLL (l.map evCs) = l.map evCs := by
 induction l with
 | nil => rfl
 | cons e l ih => simp only [List.map_cons, forgetLL, ih, evCs, forgetL, C.forget, leafC_forget]
theorem all_evCs (l : List Ev) : ((l.map evCs).all fun r => r.length == 2) = true := by simp [evCs]
attribute [go_sem] forget_evO forget_evCs all_evCs leafC_forget
theorem stream_ac : ∀ (m : Nat) (t : V), t.count ≤ m → t.right → AC Tryz.prog 48 [t.av] [] (.c (.sl (t.stream.map evCs))) [] := by
 intro m
 induction m with
 | zero => intro t hm; have := count_pos t; omega
 | succ m ih =>
  intro t hm ht
  have hc := ht.2.1
  have hkc := count_kids t
  have hkl := kids_len_le hc
  have hlf := isLeaf_ac t
  cases hk : t.kids.isEmpty with
  | true =>
   rw [hk] at hlf
   have hst : t.stream.map evCs = [[.sl [], .ref [.int .i64 t.kind, .int .i64 t.num, .str t.text, .sl (t.keys.map strCs), .sl (t.kids.map V.cs)]]] := by
    rw [stream_leaf hk]
    simp only [List.map_cons, List.map_nil, evCs, leafC, V.cs_eq]
   rw [hst]
   refine wEnter Tryz.func48 Tryz.ntmps48 ?_
   refine wRUN trivial ?_
   refine w7 (op_data [] hlf) trivial ?_
   (repeat (first | (with_reducible first | refine a_seq ?_ | refine a_region ?_ | refine a_block ?_ | refine a_scope ?_) | ((with_reducible apply op_any); (iterate 2 (focus (first | (simp only [go_sem, Nat.reduceEqDiff, Nat.reduceAdd, Nat.reduceSub, Nat.reduceLeDiff, Nat.reduceMul, Nat.reduceBEq, Nat.reduceLT, Int.reduceToNat, reduceCtorEq, plainCs]; first | done | exact rfl | (and_intros <;> rfl)) | exact rfl | decide)))) | ((with_reducible refine o_nil ?_); dsimp only; try ((with_reducible apply o_draw); (focus (simp only [go_sem]; exact rfl)); (focus decide))) | ((with_reducible first | refine a_ret ?_ | refine a_skip ?_ | refine a_label ?_); dsimp only) | ((with_reducible refine a_exit ?_); dsimp only; simp only [if_true, if_false, Nat.reduceEqDiff]) | ((with_reducible apply a_if); (focus (simp only [go_sem, Nat.reduceBEq, Nat.reduceLT, plainCs]; exact rfl)); dsimp only [cond_true, cond_false]) | ((with_reducible refine a_draw ?_ ?_); (focus exact rfl))))
   exact wRetOf (ret_of [] [(11, 0)]) Tryz.results48 hst
  | false =>
   rw [hk] at hlf
   have hne : 0 < t.kids.length := by
    cases hkk : t.kids with
    | nil => rw [hkk] at hk; cases hk
    | cons x xs => simp
   have hsl := streamL_len t.keyV 0 t.kids
   refine wEnter Tryz.func48 Tryz.ntmps48 ?_
   refine wRUN trivial ?_
   refine w7 (op_data [] hlf) trivial ?_
   refine wRUN trivial ?_
   refine a_loop (κ := Nat × List Ev) (fun x => ⟨mkS 0 54 [(1, .ptr (1, 0) 0), (3, .own (3, 0)), (14, .c (.sl (t.kids.map V.cs))), (15, .c (.int .i64 t.kids.length)), (16, .c (.int .i64 x.1))],
     [((1, 0), .box [.c (.int .i64 t.kind), .c (.int .i64 t.num), .c (.str t.text), .c (.sl (t.keys.map strCs)), .c (.sl (t.kids.map V.cs))]), ((3, 0), .row true 2 81 (x.2.map evO))]⟩)
    (fun x => x.1 ≤ t.kids.length ∧ x.2 ++ streamL t.keyV x.1 (t.kids.drop x.1) = streamL t.keyV 0 t.kids) (fun x => t.kids.length - x.1) (0, []) ⟨Nat.zero_le _, rfl⟩ ?_ ?_
   ·exact wSays (Says.of [((1, 0), (1, 0)), ((3, 0), (12, 0))] []) hk
   ·rintro ⟨k, done⟩ ⟨hkk, hd0⟩
    dsimp only at hkk hd0 ⊢
    by_cases hlt : k < t.kids.length
    ·have hd : decide ((k : Int) < (t.kids.length : Int)) = true := by simpa using hlt
     have hr : rowsAt (t.kids.map V.cs) 5 k = true := by simp [rowsAt, hlt, V.cs_eq]
     have hg : (t.kids.map V.cs)[k]? = some t.kids[k].cs := by simp [hlt]
     have hmem := countL_mem (List.getElem_mem hlt)
     have hkr := right_mem ht (List.getElem_mem hlt)
     rw [streamL_drop t.keyV t.kids hlt] at hd0
     have hkey := keyAt_ac t (right_neat ht) k hlt
     have hwk := wrap_succ (k := k) (by omega)
     generalize t.kids[k] = u at *
     have hul := stream_len u
     have hi := ih u (by omega) hkr
     have hdl : done.length + u.stream.length ≤ t.count := by
      have := congrArg List.length hd0
      simp only [List.length_append, List.length_map] at this
      omega
     generalize t.keyV k = q at *
     refine wRUN (j3 hd hr hg) ?_
     refine w9 (op_shared [] hi) trivial ?_
     refine wRUN trivial ?_
     refine a_loop (κ := Nat) (fun j => ⟨mkS 0 54 [(1, .ptr (1, 0) 0), (3, .own (3, 0)), (4, .c (.int .i64 k)), (14, .c (.sl (t.kids.map V.cs))), (15, .c (.int .i64 t.kids.length)), (16, .c (.int .i64 k)), (22, .c (.sl (u.stream.map evCs))), (23, .c (.int .i64 u.stream.length)), (24, .c (.int .i64 j))],
       [((1, 0), .box [.c (.int .i64 t.kind), .c (.int .i64 t.num), .c (.str t.text), .c (.sl (t.keys.map strCs)), .c (.sl (t.kids.map V.cs))]), ((3, 0), .row true 2 81 ((done ++ (u.stream.take j).map (evUnder q)).map evO))]⟩)
      (fun j => j ≤ u.stream.length) (fun j => u.stream.length - j) 0 (Nat.zero_le _) ?_ ?_
     ·exact wSays (Says.of [((1, 0), (1, 0)), ((3, 0), (3, 0))] []) hul
     ·intro j hj
      by_cases hjl : j < u.stream.length
      ·have hdj : decide ((j : Int) < (u.stream.length : Int)) = true := by simpa using hjl
       have hrj : rowsAt (u.stream.map evCs) 2 j = true := by simp [rowsAt, hjl, evCs]
       have hgj : (u.stream.map evCs)[j]? = some [.sl (u.stream[j].1.map V.cs), leafC u.stream[j].2] := by simp [hjl, evCs]
       have hwj := wrap_succ (k := j) (by omega)
       have hel := stream_ok u hkr u.stream[j] (List.getElem_mem hjl)
       have hpl : 1 + u.stream[j].1.length ≤ 1000000 := by have := hel.1; have := hkr.2.2; omega
       have hol : (done ++ (u.stream.take j).map (evUnder q)).length + 1 ≤ 1000000 := by simp; omega
       have hnx : (done ++ (u.stream.take (j + 1)).map (evUnder q)).map evO = (done ++ (u.stream.take j).map (evUnder q)).map evO ++ [[.osl ([.int .i64 q.kind, .int .i64 q.num, .str q.text, .sl (q.keys.map strCs), .sl (q.kids.map V.cs)] :: u.stream[j].1.map V.cs), leafC u.stream[j].2]] := by
        rw [List.take_succ_eq_append_getElem hjl]
        simp only [List.map_append, List.map_cons, List.map_nil, List.append_assoc, evO, evUnder, V.cs_eq]
       refine wRUN (j3 hdj hrj hgj) ?_
       refine w9 (op_shared [] hkey) trivial ?_
       refine wRUN (j3 hpl hol hwj) ?_
       refine ⟨j + 1, by omega, by omega, ?_⟩
       exact wSays (Says.of [((1, 0), (1, 0)), ((3, 0), (40, 0))] []) hnx
      ·have hdj : decide ((j : Int) < (u.stream.length : Int)) = false := by simpa using hjl
       have hje : u.stream.take j = u.stream := List.take_of_length_le (by omega)
       refine wRUN (j2 hdj hwk) ?_
       refine ⟨(k + 1, done ++ u.stream.map (evUnder q)), by dsimp only; omega, ⟨by dsimp only; omega, by simpa using hd0⟩, ?_⟩
       exact wSays (Says.of [((1, 0), (1, 0)), ((3, 0), (3, 0))] []) hje
    ·have hd : decide ((k : Int) < (t.kids.length : Int)) = false := by simpa using hlt
     rw [List.drop_eq_nil_of_le (by omega)] at hd0
     simp only [streamL, List.append_nil] at hd0
     have hkey := keyAt_ac t (right_neat ht) (t.kids.length - 1) (by omega)
     have hwl : IntKind.i64.wrap ((t.kids.length : Int) - 1) = ((t.kids.length - 1 : Nat) : Int) := by rw [IntWalk.i64_in _ (by omega)]; omega
     have hdl : done.length + 1 ≤ 1000000 := by rw [hd0]; omega
     have hfin : forgetLL (done.map evO ++ [[.osl [[.int .i64 (t.keyV (t.kids.length - 1)).kind, .int .i64 (t.keyV (t.kids.length - 1)).num, .str (t.keyV (t.kids.length - 1)).text, .sl ((t.keyV (t.kids.length - 1)).keys.map strCs), .sl ((t.keyV (t.kids.length - 1)).kids.map V.cs)]], .raw (.pointer none)]]) = t.stream.map evCs := by
      rw [stream_node hk, ← hd0, ← forget_evO, List.map_append]
      simp only [List.map_cons, List.map_nil, evO, leafC, V.cs_eq]
     generalize t.keyV (t.kids.length - 1) = q at *
     refine wRUN (j2 hd hwl) ?_
     refine w9 (op_shared [] hkey) trivial ?_
     refine wRUN hdl ?_
     exact wRetOf (ret_of [] [(53, 0)]) Tryz.results48 hfin
def evDec (xs : List CellD) : Int × Option Ev :=
 match dec xs with
 | (c, none) => (c, none)
 | (_, some t) => if t.kind = 5 then match t.kids with
  | [q] => match pathDec q.enc with
   | (c, none) => (c, none)
   | (_, some p) => if p = [] then (1, none) else (0, some (p, none))
  | [q, u] => match pathDec q.enc with
   | (c, none) => (c, none)
   | (_, some p) => if u.kids = [] then (0, some (p, some u)) else (1, none)
  | _ => (6, none)
 else (6, none)
theorem path_some {q : V} (h : q.right) {p : List V} (hp : pathDec q.enc = (0, some p)) : q.kids = p ∧ q.kind = 5 ∧ p.any badKid = false := by
 rw [pathDec_enc h.1 h.2.1 h.2.2] at hp
 split at hp
 ·cases hp
 ·rename_i hb
  cases hp
  simp at hb
  exact ⟨rfl, hb.1, by simpa using hb.2⟩
theorem path_way {q : V} (h : q.right) : (pathDec q.enc = (0, some q.kids) ∧ q.kind = 5 ∧ q.kids.any badKid = false) ∨ ∃ c, c ≠ 0 ∧ pathDec q.enc = (c, none) := by
 rw [pathDec_enc h.1 h.2.1 h.2.2]
 cases hb : (q.kind != 5 || q.kids.any badKid)
 ·simp at hb
  exact .inl ⟨rfl, hb.1, by simpa using hb.2⟩
 ·exact .inr ⟨6, by omega, rfl⟩
theorem ev_way (xs : List CellD) :
    ((dec xs).2 = none ∧ (dec xs).1 ≠ 0 ∧ evDec xs = ((dec xs).1, none)) ∨ ∃ t : V, dec xs = (0, some t) ∧ xs = t.enc ∧ t.right ∧
    ((t.kind ≠ 5 ∧ evDec xs = (6, none)) ∨ (t.kind = 5 ∧ (t.kids.length < 1 ∨ 2 < t.kids.length) ∧ evDec xs = (6, none)) ∨
     ∃ q r, t.kind = 5 ∧ t.kids = q :: r ∧ r.length ≤ 1 ∧ q.right ∧ ((∃ c, c ≠ 0 ∧ pathDec q.enc = (c, none) ∧ evDec xs = (c, none)) ∨
       (pathDec q.enc = (0, some q.kids) ∧ q.kind = 5 ∧ q.kids.any badKid = false ∧
        ((r = [] ∧ q.kids = [] ∧ evDec xs = (1, none)) ∨ (r = [] ∧ q.kids ≠ [] ∧ evDec xs = (0, some (q.kids, none))) ∨
         (∃ u : V, r = [u] ∧ u.right ∧ u.kids ≠ [] ∧ evDec xs = (1, none)) ∨ (∃ u : V, r = [u] ∧ u.right ∧ u.kids = [] ∧ evDec xs = (0, some (q.kids, some u))))))) := by
  rcases dec_cases xs with ⟨t, ht⟩ | ⟨c, hc, hd⟩
  · refine .inr ⟨t, ht, ?_⟩
    obtain ⟨hx, h1, h2, h3⟩ := dec_ok ht
    have hr : t.right := ⟨h1, h2, h3⟩
    refine ⟨hx, hr, ?_⟩
    by_cases h5 : t.kind = 5
    · match hk : t.kids with
      | [] => exact .inr (.inl ⟨h5, by simp, by unfold evDec; rw [ht]; simp only []; rw [if_pos h5, hk]⟩)
      | q :: v :: u :: r => exact .inr (.inl ⟨h5, by simp, by unfold evDec; rw [ht]; simp only []; rw [if_pos h5, hk]⟩)
      | [q] =>
        have hq := right_mem hr (k := q) (by rw [hk]; simp)
        have he : evDec xs = match pathDec q.enc with
          | (c, none) => (c, none)
          | (_, some p) => if p = [] then (1, none) else (0, some (p, none)) := by unfold evDec; rw [ht]; simp only []; rw [if_pos h5, hk]
        refine .inr (.inr ⟨q, [], h5, rfl, by simp, hq, ?_⟩)
        rcases path_way hq with ⟨hp, hp2, hp3⟩ | ⟨c, hc, hp⟩
        · refine .inr ⟨hp, hp2, hp3, ?_⟩
          rw [hp] at he
          by_cases hn : q.kids = []
          · exact .inl ⟨rfl, hn, by rw [he]; simp only []; rw [if_pos hn]⟩
          · exact .inr (.inl ⟨rfl, hn, by rw [he]; simp only []; rw [if_neg hn]⟩)
        · exact .inl ⟨c, hc, hp, by rw [he, hp]⟩
      | [q, u] =>
        have hq := right_mem hr (k := q) (by rw [hk]; simp)
        have hu := right_mem hr (k := u) (by rw [hk]; simp)
        have he : evDec xs = match pathDec q.enc with
          | (c, none) => (c, none)
          | (_, some p) => if u.kids = [] then (0, some (p, some u)) else (1, none) := by unfold evDec; rw [ht]; simp only []; rw [if_pos h5, hk]
        refine .inr (.inr ⟨q, [u], h5, rfl, by simp, hq, ?_⟩)
        rcases path_way hq with ⟨hp, hp2, hp3⟩ | ⟨c, hc, hp⟩
        · refine .inr ⟨hp, hp2, hp3, ?_⟩
          rw [hp] at he
          by_cases hn : u.kids = []
          · exact .inr (.inr (.inr ⟨u, rfl, hu, hn, by rw [he]; simp only []; rw [if_pos hn]⟩))
          · exact .inr (.inr (.inl ⟨u, rfl, hu, hn, by rw [he]; simp only []; rw [if_neg hn]⟩))
        · exact .inl ⟨c, hc, hp, by rw [he, hp]⟩
    · exact .inl ⟨h5, by unfold evDec; rw [ht]; simp only []; rw [if_neg h5]⟩
  · refine .inl ⟨by rw [hd], by rw [hd]; exact hc, by unfold evDec; rw [hd]⟩
def evsGo (i : Nat) : List (List CellD) → Int × Int
 | [] => (0, 0)
 | x :: r => if (evDec x).1 = 0 then evsGo (i + 1) r else ((evDec x).1, i)
def evsFault (l : List (List CellD)) : Int × Int := if l.length < 1 ∨ 200 < l.length then (2, 0) else evsGo 0 l
theorem evsGo_drop (l : List (List CellD)) {k : Nat} (h : k < l.length) : evsGo k (l.drop k) = if (evDec l[k]).1 = 0 then evsGo (k + 1) (l.drop (k + 1)) else ((evDec l[k]).1, (k : Int)) := by
 rw [List.drop_eq_getElem_cons h]
 rfl
theorem ev_ok {xs : List CellD} (h : (evDec xs).1 = 0) : ∃ e, evDec xs = (0, some e) := by
 rcases ev_way xs with ⟨_, h0, he⟩ | ⟨t, _, _, _, ⟨_, he⟩ | ⟨_, _, he⟩ | ⟨q, r, _, _, _, _, ⟨c, h0, _, he⟩ | ⟨_, _, _, ⟨_, _, he⟩ | ⟨_, _, he⟩ | ⟨u, _, _, _, he⟩ | ⟨u, _, _, _, he⟩⟩⟩⟩
 all_goals first | exact ⟨_, he⟩ | (rw [he] at h; first | exact absurd h h0 | exact absurd h (by decide))
end Go.Proofs.YtlciedpfjhkkdaaGreatDoor
