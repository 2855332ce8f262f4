/- Texts of this proof: G31 H17. -/
import Derived.Test.YtamgeodhpglgkaaGreatKG04uG20
import Derived.Test.YtamgeodhpglgkaaGreatKG15uM29
import Derived.Test.YtamgeodhpglgkaaGreatKM2
import Derived.Test.YtamgeodhpglgkaaGreatKG49uG52
import Derived.Test.YtamgeodhpglgkaaGreatKA1
import Derived.Test.YtamgeodhpglgkaaGreatKG27uGE
import Derived.Test.YtamgeodhpglgkaaGreatKGD
set_option linter.unusedSimpArgs false
set_option maxHeartbeats 8000000
namespace Go.Proofs.YtamgeodhpglgkaaGreat
open Go.RowKit
set_option maxRecDepth 10000
theorem count_right {q : V} (h : q.right) : AC Tryz.prog 81 [q.av] [] (.own (0, 0)) [((0, 0), .row false 5 95 (q.enc.map CellD.cs))] :=
 cells_ac q.count q (Nat.le_refl _) (by have := h.2.1; omega) (right_neat h)
set_option maxRecDepth 10000
def stepV (d : EditD) (v : V) : Int × Option V := match pathDec d.path with
 | (c, none) => (c, none)
 | (_, some ks) => if d.op = 2 then dropPathV ks v else match dec d.x with
  | (c, none) => (c, none)
  | (_, some x) => setPathV x ks v
def applyGo : List EditD → V → Nat → (Int × Int) × Option V
 | [], v, _ => ((0, 0), some v)
 | d :: l, v, i => match stepV d v with
  | (c, none) => ((c, (i : Int)), none)
  | (_, some u) => applyGo l u (i + 1)
def applyAll (xs : List CellD) (l : List EditD) : (Int × Int) × Option V := match dec xs with
 | (c, none) => ((c, 0), none)
 | (_, some t) => if editsCode l ≠ 0 then ((editsCode l, 0), none) else applyGo l t 0
theorem kid_kinds' {s : V} (hs : s.right) (h : s.kids.any badKid = false) : ∀ k ∈ s.kids, k.right ∧ (k.kind = 3 ∨ k.kind = 4) := fun k hk => by
 refine ⟨right_mem hs hk, ?_⟩
 rw [List.any_eq_false] at h
 have := h k hk
 simp [badKid] at this
 by_cases h4 : k.kind = 4
 ·exact .inr h4
 ·exact .inl (this h4)
theorem edit_way {d : EditD} (h : editCode d = 0) : ∃ s : V, d.path = s.enc ∧ s.right ∧ pathDec d.path = (0, some s.kids) ∧ s.kids.any badKid = false ∧ (d.op = 2 ∨ (d.op = 1 ∧ ∃ x : V, d.x = x.enc ∧ x.right ∧ dec d.x = (0, some x))) := by
 unfold editCode at h
 by_cases hb : (d.op != 1 && d.op != 2) = true
 ·rw [if_pos hb] at h; exact absurd h (by decide)
 ·rw [if_neg hb] at h
  rcases pathDec_cases d.path with ⟨s, h1, h2, h3, h4, _, h6, h7⟩ | ⟨c, hc, hp⟩
  ·refine ⟨s, h1, ⟨h2, h3, h4⟩, h7, h6, ?_⟩
   rw [h7] at h
   by_cases h2' : d.op = 2
   ·exact .inl h2'
   ·have h1' : d.op = 1 := by simp at hb; omega
    refine .inr ⟨h1', ?_⟩
    have he : (d.op == 1) = true := by simp [h1']
    simp only [he, if_true] at h
    rcases dec_cases d.x with ⟨x, hx⟩ | ⟨c, hc, hx⟩
    ·obtain ⟨hx1, hx2⟩ := right_of_dec hx
     exact ⟨x, hx1, hx2, hx⟩
    ·rw [hx] at h; exact absurd h hc
  ·rw [hp] at h; exact absurd h hc
theorem step_ok {d : EditD} (h : editCode d = 0) {v : V} (hv : v.right) : okRes (stepV d v) := by
 obtain ⟨s, h1, h2, h3, h4, h5⟩ := edit_way h
 unfold stepV
 rw [h3]
 rcases h5 with h5 | ⟨h5, x, hx1, hx2, hx3⟩
 ·simp only [if_pos h5]
  exact dropPath_ok s.kids (kid_kinds' h2 h4) v hv
 ·simp only [if_neg (show ¬ d.op = 2 by omega), hx3]
  exact setPath_ok hx2 s.kids (kid_kinds' h2 h4) v hv
theorem first_all : ∀ {l : List EditD}, firstEdit l = 0 → ∀ d ∈ l, editCode d = 0
 | [], _, d, hd => by simp at hd
 | e :: l, h, d, hd => by
  unfold firstEdit at h
  by_cases he : editCode e ≠ 0
  ·rw [if_pos he] at h; exact absurd h he
  ·rw [if_neg he] at h
   rcases List.mem_cons.1 hd with rfl | hd
   ·simpa using he
   ·exact first_all h d hd
theorem edits_all {l : List EditD} (h : editsCode l = 0) : ∀ d ∈ l, editCode d = 0 := by
 unfold editsCode at h
 split at h
 ·exact absurd h (by decide)
 ·exact first_all h
theorem applyGo_at {l : List EditD} {k : Nat} (h : k < l.length) (v : V) (i : Nat) : applyGo (l.drop k) v i = match stepV l[k] v with
  | (c, none) => ((c, (i : Int)), none)
  | (_, some u) => applyGo (l.drop (k + 1)) u (i + 1) := by
 rw [List.drop_eq_getElem_cons h]
 rfl
theorem applyOne_ac (d : EditD) (hz : EditOk d) (h : editCode d = 0) {v : V} (hv : v.right) : AC Tryz.prog 80 [d.av, v.av] [] (resA (stepV d v)) [] := by
 obtain ⟨s, h1, h2, h3, h4, h5⟩ := edit_way h
 have hkl := kids_len_le h2.2.1
 have hpo := pathOf_ac d.path hz.1 h3
 unfold stepV
 rw [h3]
 rcases h5 with h5 | ⟨h5, x, hx1, hx2, hx3⟩
 ·have hb : (d.op == 2) = true := by simpa using h5
  have hd := dropPath_ac s.kids (by omega) (kid_kinds' h2 h4) v hv
  simp only [if_pos h5]
  generalize dropPathV s.kids v = r at *
  rcases r with ⟨c, _ | u⟩
  all_goals
   simp only [resA_some, resA_none] at hd ⊢
   refine wEnter Tryz.func80 Tryz.ntmps80 ?_
   refine wRUN trivial ?_
   refine w9 (op_shared [] hpo) trivial ?_
   refine wRUN hb ?_
   refine w9 (op_shared [] hd) trivial ?_
   refine wRUN trivial ?_
   exact wRet (ret_data []) Tryz.results80
 ·have hb : (d.op == 2) = false := by simp [h5]
  have hvo := valOf_ac d.x hz.2.1 (t := x) (by rw [hx3])
  have hd := setPath_ac hx2 s.kids (by omega) (kid_kinds' h2 h4) v hv
  simp only [if_neg (show ¬ d.op = 2 by omega), hx3]
  generalize setPathV x s.kids v = r at *
  rcases r with ⟨c, _ | u⟩
  all_goals
   simp only [resA_some, resA_none] at hd ⊢
   refine wEnter Tryz.func80 Tryz.ntmps80 ?_
   refine wRUN trivial ?_
   refine w9 (op_shared [] hpo) trivial ?_
   refine wRUN hb ?_
   refine w9 (op_shared [] hvo) trivial ?_
   refine wRUN trivial ?_
   refine w9 (op_shared [] hd) trivial ?_
   refine wRUN trivial ?_
   exact wRet (ret_data []) Tryz.results80
theorem implApply_ok (xs : List CellD) (l : List EditD) (hz : Sized xs) (hzl : ∀ d ∈ l, EditOk d) (hl : l.length ≤ 1048576) {u : V} (h : applyAll xs l = ((0, 0), some u)) :
  AC Tryz.prog 24 [cellsA xs, editsA l] [] (.agg [.c (.int .i64 0), .c (.int .i64 0), .own (0, 0)]) [((0, 0), .row false 5 95 (u.enc.map CellD.cs))] := by
 have hed := implEdits_ac l hzl (by omega)
 have hln : (l.map EditD.cs).length = l.length := by simp
 have h00 : ((0 : Int) != 0) = false := rfl
 unfold applyAll at h
 rcases dec_cases xs with ⟨t, ht⟩ | ⟨c, hc, ht⟩
 ·rw [ht] at h
  have hvo := valOf_ac xs hz (t := t) (by rw [ht])
  have htr := (right_of_dec ht).2
  by_cases he : editsCode l ≠ 0
  ·simp [if_pos he] at h
  ·simp only [if_neg he] at h
   have he0 : editsCode l = 0 := by simpa using he
   have hall := edits_all he0
   rw [he0] at hed
   refine wEnter Tryz.func24 Tryz.ntmps24 ?_
   refine wRUN trivial ?_
   refine w9 (op_shared [] hvo) trivial ?_
   refine wRUN h00 ?_
   refine w7 (op_data [] hed) trivial ?_
   refine wRUN (j2 h00 hln) ?_
   refine a_loop (κ := Nat × V) (fun x => ⟨mkS 0 49 [(4, .ptr (4, 0) 0), (5, .ptr (5, 0) 0), (26, editsA l), (27, .c (.int .i64 l.length)), (28, .c (.int .i64 x.1))],
     [((4, 0), .box [.c (.int .i64 0), .c (.int .i64 0), .nils]), ((5, 0), .box [.c (.int .i64 x.2.kind), .c (.int .i64 x.2.num), .c (.str x.2.text), .c (.sl (x.2.keys.map strCs)), .c (.sl (x.2.kids.map V.cs))])]⟩)
    (fun x => x.1 ≤ l.length ∧ x.2.right ∧ applyGo (l.drop x.1) x.2 x.1 = ((0, 0), some u)) (fun x => l.length - x.1) (0, t) ⟨Nat.zero_le _, htr, h⟩ ?_ ?_
   ·exact wSays (Says.of [((4, 0), (4, 0)), ((5, 0), (5, 0))] []) h00
   ·rintro ⟨k, v⟩ ⟨hk, hv, hgo⟩
    dsimp only at hk hv hgo ⊢
    by_cases hlt : k < l.length
    ·have hdk : decide ((k : Int) < (l.length : Int)) = true := by simpa using hlt
     have hw := wrap_succ (k := k) (by omega)
     obtain ⟨hr0, hg0⟩ := edit_row l hlt
     have hmem := List.getElem_mem hlt
     have hca := applyOne_ac l[k] (hzl _ hmem) (hall _ hmem) hv
     have hok := step_ok (hall _ hmem) hv
     rw [applyGo_at hlt] at hgo
     generalize l[k] = d at *
     generalize stepV d v = r at *
     rcases r with ⟨c, _ | q⟩
     ·simp at hgo
     ·dsimp only at hgo
      simp only [resA_some] at hca
      refine wRUN (j3 hdk hr0 hg0) ?_
      refine w9 (op_shared [] hca) trivial ?_
      refine wRUN (j2 h00 hw) ?_
      refine ⟨(k + 1, q), by dsimp only; omega, ⟨by dsimp only; omega, hok.2, hgo⟩, ?_⟩
      exact wSays (Says.of [((4, 0), (4, 0)), ((5, 0), (5, 0))] []) hw
    ·have hdk : decide ((k : Int) < (l.length : Int)) = false := by simpa using hlt
     rw [List.drop_eq_nil_of_le (by omega)] at hgo
     have hvu : v = u := by simpa [applyGo] using hgo
     subst hvu
     have hcs := count_right hv
     refine wRUN hdk ?_
     refine w12 (op_rowF [] hcs) trivial ?_
     refine wRUN trivial ?_
     exact wRetOf (ret_of [((0, 0), (47, 0))] []) Tryz.results24 hdk
 ·rw [ht] at h; simp at h
theorem implApply_bad (xs : List CellD) (l : List EditD) (hz : Sized xs) (hzl : ∀ d ∈ l, EditOk d) (hl : l.length ≤ 1048576) {c a : Int} (h : applyAll xs l = ((c, a), none)) :
  AC Tryz.prog 24 [cellsA xs, editsA l] [] (.agg [.c (.int .i64 c), .c (.int .i64 a), .nils]) [] := by
 have hed := implEdits_ac l hzl (by omega)
 have hln : (l.map EditD.cs).length = l.length := by simp
 have h00 : ((0 : Int) != 0) = false := rfl
 unfold applyAll at h
 rcases dec_cases xs with ⟨t, ht⟩ | ⟨c', hc', ht⟩
 ·rw [ht] at h
  have hvo := valOf_ac xs hz (t := t) (by rw [ht])
  have htr := (right_of_dec ht).2
  by_cases he : editsCode l ≠ 0
  ·simp only [if_pos he, Prod.mk.injEq, and_true] at h
   obtain ⟨rfl, rfl⟩ := h
   have hb : (editsCode l != 0) = true := by simpa using he
   refine wEnter Tryz.func24 Tryz.ntmps24 ?_
   refine wRUN trivial ?_
   refine w9 (op_shared [] hvo) trivial ?_
   refine wRUN h00 ?_
   refine w7 (op_data [] hed) trivial ?_
   refine wRUN hb ?_
   exact wRet (ret_data []) Tryz.results24
  ·simp only [if_neg he] at h
   have he0 : editsCode l = 0 := by simpa using he
   have hall := edits_all he0
   rw [he0] at hed
   refine wEnter Tryz.func24 Tryz.ntmps24 ?_
   refine wRUN trivial ?_
   refine w9 (op_shared [] hvo) trivial ?_
   refine wRUN h00 ?_
   refine w7 (op_data [] hed) trivial ?_
   refine wRUN (j2 h00 hln) ?_
   refine a_loop (κ := Nat × V) (fun x => ⟨mkS 0 49 [(4, .ptr (4, 0) 0), (5, .ptr (5, 0) 0), (26, editsA l), (27, .c (.int .i64 l.length)), (28, .c (.int .i64 x.1))],
     [((4, 0), .box [.c (.int .i64 0), .c (.int .i64 0), .nils]), ((5, 0), .box [.c (.int .i64 x.2.kind), .c (.int .i64 x.2.num), .c (.str x.2.text), .c (.sl (x.2.keys.map strCs)), .c (.sl (x.2.kids.map V.cs))])]⟩)
    (fun x => x.1 ≤ l.length ∧ x.2.right ∧ applyGo (l.drop x.1) x.2 x.1 = ((c, a), none)) (fun x => l.length - x.1) (0, t) ⟨Nat.zero_le _, htr, h⟩ ?_ ?_
   ·exact wSays (Says.of [((4, 0), (4, 0)), ((5, 0), (5, 0))] []) h00
   ·rintro ⟨k, v⟩ ⟨hk, hv, hgo⟩
    dsimp only at hk hv hgo ⊢
    by_cases hlt : k < l.length
    ·have hdk : decide ((k : Int) < (l.length : Int)) = true := by simpa using hlt
     have hw := wrap_succ (k := k) (by omega)
     obtain ⟨hr0, hg0⟩ := edit_row l hlt
     have hmem := List.getElem_mem hlt
     have hca := applyOne_ac l[k] (hzl _ hmem) (hall _ hmem) hv
     have hok := step_ok (hall _ hmem) hv
     rw [applyGo_at hlt] at hgo
     generalize l[k] = d at *
     generalize stepV d v = r at *
     rcases r with ⟨c2, _ | q⟩
     ·simp only [Prod.mk.injEq, and_true] at hgo
      obtain ⟨rfl, rfl⟩ := hgo
      have hcb : (c2 != 0) = true := by simpa using (show c2 ≠ 0 from hok)
      simp only [resA_none] at hca
      refine wRUN (j3 hdk hr0 hg0) ?_
      refine w9 (op_shared [] hca) trivial ?_
      refine wRUN hcb ?_
      exact wRet (ret_data []) Tryz.results24
     ·dsimp only at hgo
      simp only [resA_some] at hca
      refine wRUN (j3 hdk hr0 hg0) ?_
      refine w9 (op_shared [] hca) trivial ?_
      refine wRUN (j2 h00 hw) ?_
      refine ⟨(k + 1, q), by dsimp only; omega, ⟨by dsimp only; omega, hok.2, hgo⟩, ?_⟩
      exact wSays (Says.of [((4, 0), (4, 0)), ((5, 0), (5, 0))] []) hw
    ·rw [List.drop_eq_nil_of_le (by omega)] at hgo
     simp [applyGo] at hgo
 ·rw [ht] at h
  simp only [Prod.mk.injEq, and_true] at h
  obtain ⟨rfl, rfl⟩ := h
  have hvo := valOf_bad xs hz (by rw [ht])
  rw [ht] at hvo
  have hb : (c' != 0) = true := by simpa using hc'
  refine wEnter Tryz.func24 Tryz.ntmps24 ?_
  refine wRUN trivial ?_
  refine w9 (op_shared [] hvo) noV_eq ?_
  refine wRUN (j2 hb noV_eq) ?_
  exact wRet (ret_data []) Tryz.results24
def rrA (r : (Int × Int) × Option V) : AV := match r.2 with
 | some t => .agg [.c (.int .i64 0), .c (.int .i64 0), .c (.sl (t.enc.map CellD.cs))]
 | none => .agg [.c (.int .i64 r.1.1), .c (.int .i64 r.1.2), .c (.sl [])]
theorem rrA_some (c : Int × Int) (t : V) : rrA (c, some t) = .agg [.c (.int .i64 0), .c (.int .i64 0), .c (.sl (t.enc.map CellD.cs))] := rfl
theorem rrA_none (c a : Int) : rrA ((c, a), none) = .agg [.c (.int .i64 c), .c (.int .i64 a), .c (.sl [])] := rfl
theorem specApply_ac (xs : List CellD) (l : List EditD) (hl : l.length ≤ 1048576) : AC Tryz.prog 25 [cellsA xs, editsA l] [] (rrA (applyAll xs l)) [] := by
 have hed := specEdits_ac l (by omega)
 have hln : (l.map EditD.cs).length = l.length := by simp
 have h00 : ((0 : Int) != 0) = false := rfl
 have hfa := fault_ac xs
 unfold applyAll
 rcases dec_cases xs with ⟨t, ht⟩ | ⟨c, hc, ht⟩
 ·rw [ht] at hfa ⊢
  obtain ⟨hx, htr⟩ := right_of_dec ht
  by_cases he : editsCode l ≠ 0
  ·have hb : (editsCode l != 0) = true := by simpa using he
   simp only [if_pos he, rrA_none]
   refine wEnter Tryz.func25 Tryz.ntmps25 ?_
   refine wRUN trivial ?_
   refine w7 (op_data [] hfa) trivial ?_
   refine wRUN h00 ?_
   refine w7 (op_data [] hed) trivial ?_
   refine wRUN hb ?_
   exact wRet (ret_data []) Tryz.results25
  ·have he0 : editsCode l = 0 := by simpa using he
   have hall := edits_all he0
   simp only [if_neg he]
   rw [he0] at hed
   have hel := enc_len t
   have htc := htr.2.1
   subst hx
   have hac := all_cells t.enc
   have hb0 : 0 + t.enc.length ≤ 1000000 := by omega
   obtain ⟨R, hR⟩ : ∃ R, applyGo l t 0 = R := ⟨_, rfl⟩
   rw [hR]
   refine wEnter Tryz.func25 Tryz.ntmps25 ?_
   refine wRUN trivial ?_
   refine w7 (op_data [] hfa) trivial ?_
   refine wRUN h00 ?_
   refine w7 (op_data [] hed) trivial ?_
   refine wRUN (j3 h00 hac hb0) ?_
   refine a_loop (κ := Nat × V) (fun x => ⟨mkS 0 70 [(1, editsA l), (4, .ptr (4, 0) 0), (7, .c (.sl (x.2.enc.map CellD.cs))), (8, .c (.int .i64 x.1))], [((4, 0), .box [.c (.int .i64 0), .c (.int .i64 0), .nils])]⟩)
    (fun x => x.1 ≤ l.length ∧ x.2.right ∧ applyGo (l.drop x.1) x.2 x.1 = R) (fun x => l.length - x.1) (0, t) ⟨Nat.zero_le _, htr, hR⟩ ?_ ?_
   ·exact wSays (Says.of [((4, 0), (4, 0))] [(24, 0)]) h00
   ·rintro ⟨k, v⟩ ⟨hk, hv, hgo⟩
    dsimp only at hk hv hgo ⊢
    by_cases hlt : k < l.length
    ·have hdk : decide ((k : Int) < (l.length : Int)) = true := by simpa using hlt
     have hw := wrap_succ (k := k) (by omega)
     obtain ⟨hr0, hg0⟩ := edit_row l hlt
     have hmem := List.getElem_mem hlt
     obtain ⟨s, h1, h2, h3, h4, h5⟩ := edit_way (hall _ hmem)
     have hkl := kids_len_le h2.2.1
     have hpO := l1Parts_ac h2.1 h2.2.1
     rw [← h1] at hpO
     have hok := step_ok (hall _ hmem) hv
     rw [applyGo_at hlt] at hgo
     generalize l[k] = d at *
     rcases h5 with h5 | ⟨h5, x, hx1, hx2, hx3⟩
     ·have hb : (d.op == 1) = false := by simp [h5]
      have hsv : stepV d v = dropPathV s.kids v := by unfold stepV; rw [h3]; simp only [if_pos h5]
      have hd := l13Drop_ac s.kids (by omega) (kid_kinds' h2 h4) v hv
      rw [hsv] at hgo hok
      generalize dropPathV s.kids v = r at *
      rcases r with ⟨c2, _ | q⟩
      ·have hcb : (c2 != 0) = true := by simpa using (show c2 ≠ 0 from hok)
       dsimp only at hgo
       subst hgo
       simp only [rrA_none, vrA_none] at hd ⊢
       refine wRUN (j5 hln hdk hr0 hg0 hb) ?_
       refine w9 (op_shared [] hpO) trivial ?_
       refine wRUN trivial ?_
       refine w9 (op_shared [] hd) trivial ?_
       refine wRUN hcb ?_
       exact wRet (ret_data []) Tryz.results25
      ·dsimp only at hgo
       simp only [vrA_some] at hd
       refine wRUN (j5 hln hdk hr0 hg0 hb) ?_
       refine w9 (op_shared [] hpO) trivial ?_
       refine wRUN trivial ?_
       refine w9 (op_shared [] hd) trivial ?_
       refine wRUN (j2 h00 hw) ?_
       refine ⟨(k + 1, q), by dsimp only; omega, ⟨by dsimp only; omega, hok.2, hgo⟩, ?_⟩
       exact wSays (Says.of [((4, 0), (4, 0))] []) hw
     ·have hb : (d.op == 1) = true := by simp [h5]
      have hsv : stepV d v = setPathV x s.kids v := by unfold stepV; rw [h3]; simp only [if_neg (show ¬ d.op = 2 by omega), hx3]
      have hd := l13Set_ac hx2 s.kids (by omega) (kid_kinds' h2 h4) v hv
      rw [← hx1] at hd
      rw [hsv] at hgo hok
      generalize setPathV x s.kids v = r at *
      rcases r with ⟨c2, _ | q⟩
      ·have hcb : (c2 != 0) = true := by simpa using (show c2 ≠ 0 from hok)
       dsimp only at hgo
       subst hgo
       simp only [rrA_none, vrA_none] at hd ⊢
       refine wRUN (j5 hln hdk hr0 hg0 hb) ?_
       refine w9 (op_shared [] hpO) trivial ?_
       refine wRUN (j2 hr0 hg0) ?_
       refine w9 (op_shared [] hd) trivial ?_
       refine wRUN hcb ?_
       exact wRet (ret_data []) Tryz.results25
      ·dsimp only at hgo
       simp only [vrA_some] at hd
       refine wRUN (j5 hln hdk hr0 hg0 hb) ?_
       refine w9 (op_shared [] hpO) trivial ?_
       refine wRUN (j2 hr0 hg0) ?_
       refine w9 (op_shared [] hd) trivial ?_
       refine wRUN (j2 h00 hw) ?_
       refine ⟨(k + 1, q), by dsimp only; omega, ⟨by dsimp only; omega, hok.2, hgo⟩, ?_⟩
       exact wSays (Says.of [((4, 0), (4, 0))] []) hw
    ·have hdk : decide ((k : Int) < (l.length : Int)) = false := by simpa using hlt
     rw [List.drop_eq_nil_of_le (by omega)] at hgo
     simp only [applyGo] at hgo
     subst hgo
     rw [rrA_some]
     refine wRUN (j2 hln hdk) ?_
     exact wRet (ret_data []) Tryz.results25
 ·rw [ht] at hfa ⊢
  have hb : (c != 0) = true := by simpa using hc
  simp only [rrA_none]
  refine wEnter Tryz.func25 Tryz.ntmps25 ?_
  refine wRUN trivial ?_
  refine w7 (op_data [] hfa) trivial ?_
  refine wRUN hb ?_
  exact wRet (ret_data []) Tryz.results25
end Go.Proofs.YtamgeodhpglgkaaGreat
