/- The plain mathematics of events: what event cells are; the first fault of a stream. -/
import Derived.Test.YtijadbifkehccaaKM10
import Derived.Test.YtijadbifkehccaaKA1
set_option linter.unusedSimpArgs false
set_option linter.unusedVariables false
set_option linter.unnecessarySimpa false
namespace Go.Proofs.Ytijadbifkehccaa
open Go.RowKit
/-- The event that cells are, or a code. -/
def evDec (xs : List CellD) : Int × Option Ev :=
  match dec xs with
  | (c, none) => (c, none)
  | (_, some t) => if t.kind = 5 then match t.kids with
    | [q] => match pathDec q.enc with
      | (c, none) => (c, none)
      | (_, some p) => if p = [] then (1, none) else (0, some (p, none))
    | [q, u] => match pathDec q.enc with
      | (c, none) => (c, none)
      | (_, some p) => if u.kids = [] then (0, some (p, some u)) else (1, none)
    | _ => (6, none)
  else (6, none)
theorem path_some {q : V} (h : q.right) {p : List V} (hp : pathDec q.enc = (0, some p)) : q.kids = p ∧ q.kind = 5 ∧ p.any badKid = false := by
  rw [pathDec_enc h.1 h.2.1 h.2.2] at hp
  split at hp
  · cases hp
  · rename_i hb
    cases hp
    simp at hb
    exact ⟨rfl, hb.1, by simpa using hb.2⟩
theorem path_way {q : V} (h : q.right) : (pathDec q.enc = (0, some q.kids) ∧ q.kind = 5 ∧ q.kids.any badKid = false) ∨ ∃ c, c ≠ 0 ∧ pathDec q.enc = (c, none) := by
  rw [pathDec_enc h.1 h.2.1 h.2.2]
  cases hb : (q.kind != 5 || q.kids.any badKid)
  · simp at hb
    exact .inl ⟨rfl, hb.1, by simpa using hb.2⟩
  · exact .inr ⟨6, by omega, rfl⟩
/-- The ways of event cells. -/
theorem ev_way (xs : List CellD) :
    ((dec xs).2 = none ∧ (dec xs).1 ≠ 0 ∧ evDec xs = ((dec xs).1, none)) ∨ ∃ t : V, dec xs = (0, some t) ∧ xs = t.enc ∧ t.right ∧
    ((t.kind ≠ 5 ∧ evDec xs = (6, none)) ∨ (t.kind = 5 ∧ (t.kids.length < 1 ∨ 2 < t.kids.length) ∧ evDec xs = (6, none)) ∨
     ∃ q r, t.kind = 5 ∧ t.kids = q :: r ∧ r.length ≤ 1 ∧ q.right ∧ ((∃ c, c ≠ 0 ∧ pathDec q.enc = (c, none) ∧ evDec xs = (c, none)) ∨
       (pathDec q.enc = (0, some q.kids) ∧ q.kind = 5 ∧ q.kids.any badKid = false ∧
        ((r = [] ∧ q.kids = [] ∧ evDec xs = (1, none)) ∨ (r = [] ∧ q.kids ≠ [] ∧ evDec xs = (0, some (q.kids, none))) ∨
         (∃ u : V, r = [u] ∧ u.right ∧ u.kids ≠ [] ∧ evDec xs = (1, none)) ∨ (∃ u : V, r = [u] ∧ u.right ∧ u.kids = [] ∧ evDec xs = (0, some (q.kids, some u))))))) := by
  rcases dec_cases xs with ⟨t, ht⟩ | ⟨c, hc, hd⟩
  · refine .inr ⟨t, ht, ?_⟩
    obtain ⟨hx, h1, h2, h3⟩ := dec_ok ht
    have hr : t.right := ⟨h1, h2, h3⟩
    refine ⟨hx, hr, ?_⟩
    by_cases h5 : t.kind = 5
    · match hk : t.kids with
      | [] => exact .inr (.inl ⟨h5, by simp, by unfold evDec; rw [ht]; simp only []; rw [if_pos h5, hk]⟩)
      | q :: v :: u :: r => exact .inr (.inl ⟨h5, by simp, by unfold evDec; rw [ht]; simp only []; rw [if_pos h5, hk]⟩)
      | [q] =>
        have hq := right_mem hr (k := q) (by rw [hk]; simp)
        have he : evDec xs = match pathDec q.enc with
          | (c, none) => (c, none)
          | (_, some p) => if p = [] then (1, none) else (0, some (p, none)) := by unfold evDec; rw [ht]; simp only []; rw [if_pos h5, hk]
        refine .inr (.inr ⟨q, [], h5, rfl, by simp, hq, ?_⟩)
        rcases path_way hq with ⟨hp, hp2, hp3⟩ | ⟨c, hc, hp⟩
        · refine .inr ⟨hp, hp2, hp3, ?_⟩
          rw [hp] at he
          by_cases hn : q.kids = []
          · exact .inl ⟨rfl, hn, by rw [he]; simp only []; rw [if_pos hn]⟩
          · exact .inr (.inl ⟨rfl, hn, by rw [he]; simp only []; rw [if_neg hn]⟩)
        · exact .inl ⟨c, hc, hp, by rw [he, hp]⟩
      | [q, u] =>
        have hq := right_mem hr (k := q) (by rw [hk]; simp)
        have hu := right_mem hr (k := u) (by rw [hk]; simp)
        have he : evDec xs = match pathDec q.enc with
          | (c, none) => (c, none)
          | (_, some p) => if u.kids = [] then (0, some (p, some u)) else (1, none) := by unfold evDec; rw [ht]; simp only []; rw [if_pos h5, hk]
        refine .inr (.inr ⟨q, [u], h5, rfl, by simp, hq, ?_⟩)
        rcases path_way hq with ⟨hp, hp2, hp3⟩ | ⟨c, hc, hp⟩
        · refine .inr ⟨hp, hp2, hp3, ?_⟩
          rw [hp] at he
          by_cases hn : u.kids = []
          · exact .inr (.inr (.inr ⟨u, rfl, hu, hn, by rw [he]; simp only []; rw [if_pos hn]⟩))
          · exact .inr (.inr (.inl ⟨u, rfl, hu, hn, by rw [he]; simp only []; rw [if_neg hn]⟩))
        · exact .inl ⟨c, hc, hp, by rw [he, hp]⟩
    · exact .inl ⟨h5, by unfold evDec; rw [ht]; simp only []; rw [if_neg h5]⟩
  · refine .inl ⟨by rw [hd], by rw [hd]; exact hc, by unfold evDec; rw [hd]⟩
/-- The first fault of cells from place i on. -/
def evsGo (i : Nat) : List (List CellD) → Int × Int
  | [] => (0, 0)
  | x :: r => if (evDec x).1 = 0 then evsGo (i + 1) r else ((evDec x).1, i)
def evsFault (l : List (List CellD)) : Int × Int := if l.length < 1 ∨ 200 < l.length then (2, 0) else evsGo 0 l
theorem evsGo_drop (l : List (List CellD)) {k : Nat} (h : k < l.length) : evsGo k (l.drop k) = if (evDec l[k]).1 = 0 then evsGo (k + 1) (l.drop (k + 1)) else ((evDec l[k]).1, (k : Int)) := by
  rw [List.drop_eq_getElem_cons h]
  rfl
theorem ev_ok {xs : List CellD} (h : (evDec xs).1 = 0) : ∃ e, evDec xs = (0, some e) := by
  rcases ev_way xs with ⟨_, h0, he⟩ | ⟨t, _, _, _, ⟨_, he⟩ | ⟨_, _, he⟩ | ⟨q, r, _, _, _, _, ⟨c, h0, _, he⟩ | ⟨_, _, _, ⟨_, _, he⟩ | ⟨_, _, he⟩ | ⟨u, _, _, _, he⟩ | ⟨u, _, _, _, he⟩⟩⟩⟩
  all_goals first | exact ⟨_, he⟩ | (rw [he] at h; first | exact absurd h h0 | exact absurd h (by decide))
theorem ev_bad {xs : List CellD} (h : (evDec xs).1 ≠ 0) : evDec xs = ((evDec xs).1, none) := by
  rcases ev_way xs with ⟨_, h0, he⟩ | ⟨t, _, _, _, ⟨_, he⟩ | ⟨_, _, he⟩ | ⟨q, r, _, _, _, _, ⟨c, h0, _, he⟩ | ⟨_, _, _, ⟨_, _, he⟩ | ⟨_, _, he⟩ | ⟨u, _, _, _, he⟩ | ⟨u, _, _, _, he⟩⟩⟩⟩
  all_goals first | (rw [he]; done) | (rw [he] at h; exact absurd rfl h)
end Go.Proofs.Ytijadbifkehccaa
