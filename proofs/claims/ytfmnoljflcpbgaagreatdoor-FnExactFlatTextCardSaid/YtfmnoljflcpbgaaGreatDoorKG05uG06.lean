/- Texts of this proof: G05 G06. -/
import Derived.Test.YtfmnoljflcpbgaaGreatDoorKG04
import Derived.Test.YtfmnoljflcpbgaaGreatDoorKB3
set_option linter.unusedSimpArgs false
set_option linter.unusedVariables false
set_option linter.unnecessarySimpa false
namespace Go.Proofs.YtfmnoljflcpbgaaGreatDoor
open Go.RowKit

/-- A path as a cell of the result: a slice that no one else reaches. -/
def pathCs (p : List V × V) : List C := [.osl ((arrV p.1).enc.map CellD.cs)]
theorem all_paths (l : List (List V × V)) : ((l.map pathCs).all fun r => r.length == 1) = true := by simp [pathCs]
attribute [go_sem] all_paths
set_option maxRecDepth 10000
theorem neatL_snoc {l : List V} {q : V} (h : neatL l) (hq : q.neat) : neatL (l ++ [q]) := by
  induction l with
  | nil => exact ⟨hq, trivial⟩
  | cons x l ih => exact ⟨h.1, ih h.2⟩
mutual
theorem paths_ok : ∀ (t : V) (ahead : List V), neatL ahead → ∀ p ∈ t.paths ahead, neatL p.1 ∧ countL p.1 + 1 ≤ countL ahead + t.count
  | .mk kind num text keys kids, ahead, ha => by
    intro p hp
    simp only [V.paths, List.mem_cons] at hp
    rcases hp with rfl | hp
    · exact ⟨ha, by simp only [V.count]; omega⟩
    · have := pathsL_ok (V.mk kind num text keys kids).keyV (fun i => by unfold V.keyV; split <;> simp [strV, numV, V.neat, neatL, V.count, countL]) 0 kids ahead ha p hp
      exact ⟨this.1, by simp only [V.count]; omega⟩
theorem pathsL_ok : ∀ (key : Nat → V), (∀ i, (key i).neat ∧ (key i).count = 1) → ∀ (i : Nat) (ks ahead : List V), neatL ahead → ∀ p ∈ pathsL key i ks ahead, neatL p.1 ∧ countL p.1 + 1 ≤ countL ahead + 1 + countL ks
  | _, _, _, [], _, _ => by simp [pathsL]
  | key, hk, i, k :: ks, ahead, ha => by
    intro p hp
    simp only [pathsL, List.mem_append] at hp
    rcases hp with hp | hp
    · have := paths_ok k (ahead ++ [key i]) (neatL_snoc ha (hk i).1) p hp
      rw [countL_snoc, (hk i).2] at this
      exact ⟨this.1, by simp only [countL]; omega⟩
    · have := pathsL_ok key hk (i + 1) ks ahead ha p hp
      exact ⟨this.1, by simp only [countL]; omega⟩
end
theorem arr_count (l : List V) : (arrV l).count = countL l + 1 := rfl
end Go.Proofs.YtfmnoljflcpbgaaGreatDoor

/- Specification functions as the engine's contracts: fault, l1End, l1Children, l1Parts, l1Keys, l1Number, l1String, l1Array. -/
namespace Go.Proofs.YtfmnoljflcpbgaaGreatDoor
open Go.RowKit
def intCs (n : Int) : List C := [.int .i64 n]
def encCs (xs : List CellD) : List C := [.sl (xs.map CellD.cs)]
theorem all_ints (l : List Int) : ((l.map intCs).all fun r => r.length == 1) = true := by simp [intCs]
theorem all_encs (l : List (List CellD)) : ((l.map encCs).all fun r => r.length == 1) = true := by simp [encCs]
theorem fl_int (n : Int) : forgetL (intCs n) = intCs n := rfl
theorem fl_enc (xs : List CellD) : forgetL (encCs xs) = encCs xs := rfl
theorem forget_ints (l : List Int) : forgetLL (l.map intCs) = l.map intCs := forget_map _ fl_int l
theorem forget_encs (l : List (List CellD)) : forgetLL (l.map encCs) = l.map encCs := forget_map _ fl_enc l
attribute [go_sem] all_ints all_encs forget_ints forget_encs intCs encCs

theorem fault_ac (xs : List CellD) : AC Tryz.prog 49 [cellsA xs] [] (.c (.int .i64 (dec xs).1)) [] := by
  refine AC.of_calls fun S w κ vs hv => ?_
  obtain ⟨v, vs', rfl, h1, rfl⟩ := hv
  obtain ⟨A, cap, rfl, _, hc⟩ := cr_cells.1 h1
  refine (specFault_any xs A cap S w hc).mono ?_
  rintro e w' ⟨rfl, hb⟩
  exact ⟨hb, _, rfl, fun T _ _ => ⟨rfl, rfl⟩⟩
theorem l1End_ac {t : V} (hw : t.wf) (hc : t.count ≤ 200) {i : Nat} (hi : i < t.kids.length) : AC Tryz.prog 151 [cellsA t.enc, .c (.int .i64 ((kp t.kids i : Nat) : Int))] [] (.c (.int .i64 ((kp t.kids (i + 1) : Nat) : Int))) [] := by
  refine AC.of_calls fun S w κ vs hv => ?_
  obtain ⟨v, vs', rfl, h1, v2, vs2, rfl, h2, rfl⟩ := hv
  obtain ⟨rfl, _⟩ := h2
  obtain ⟨A, cap, rfl, _, hcs⟩ := cr_cells.1 h1
  have := kp_le t i
  have hlen := enc_len t
  have := l1End_any t.enc (by omega) (enc_n hw) (kp t.kids i : Nat) (by omega) (by omega) A cap S w hcs
  rw [Int.toNat_natCast, end_kid hw hi (by omega)] at this
  refine this.mono ?_
  rintro e w' ⟨rfl, hb⟩
  exact ⟨hb, _, rfl, fun T _ _ => ⟨rfl, rfl⟩⟩
theorem crss_of {α : Type} {w : World} {S : Nat → Prop} {f : α → List C} : ∀ {l : List α} {rows : List (List Value)}, rows.length = l.length → (∀ i (h : i < l.length) row, rows[i]? = some row → CRs w S (f l[i]) row []) → CRss w S (l.map f) rows []
  | [], rows, hl, _ => by
    have : rows = [] := List.eq_nil_of_length_eq_zero (by simpa using hl)
    subst this
    exact ⟨rfl, rfl⟩
  | x :: l, [], hl, _ => by simp at hl
  | x :: l, r :: rows, hl, h => by
    simp only [List.map_cons, CRss]
    exact ⟨r, rows, [], [], rfl, rfl, h 0 (by simp) r rfl, crss_of (by simpa using hl) fun i hi row hr => by
      have := h (i + 1) (by simpa using hi) row (by simpa using hr)
      simpa using this⟩
theorem l1Parts_ac {t : V} (hw : t.wf) (hc : t.count ≤ 200) : AC Tryz.prog 43 [cellsA t.enc] [] (.c (.sl ((t.kids.map V.enc).map encCs))) [] := by
  refine AC.of_calls fun S w κ vs hv => ?_
  obtain ⟨v, vs', rfl, h1, rfl⟩ := hv
  obtain ⟨A, cap, rfl, hcap, hcs⟩ := cr_cells.1 h1
  refine (l1Parts_any t hw hc A cap hcap S w hcs).mono ?_
  rintro e w' ⟨⟨A', c', rfl, hcap', hr⟩, hb⟩
  refine ⟨hb, _, rfl, fun T _ hT => ?_⟩
  obtain ⟨rows, hl, hrow, hat⟩ := hr
  simp only [AR, CR]
  refine ⟨1, A', c', rows, by simp, by simpa using hcap', trivial, hrow.weaken fun b hb _ => hT b hb, crss_of hl fun i hi row hri => ?_, trivial⟩
  obtain ⟨Ai, ci, rfl, h3, h4⟩ := hat i hi row hri
  exact ⟨_, _, [], [], rfl, rfl, cr_cells.2 ⟨Ai, ci, rfl, h3, h4.weaken fun b hb _ => hT b hb⟩, rfl, rfl⟩

set_option maxRecDepth 10000
theorem l1Number_ac (n : Int) : AC Tryz.prog 173 [.c (.int .i64 n)] [] (.c (.sl ((numV n).enc.map CellD.cs))) [] := by
  have he : (numV n).enc.map CellD.cs = [[.int .i64 3, .int .i64 n, .str ByteArray.empty, .str ByteArray.empty, .int .i64 0]] := rfl
  rw [he]
  refine wEnter Tryz.func173 Tryz.ntmps173 ?_
  refine wRUN trivial ?_
  exact wRetOf (ret_of [] [(5, 0)]) Tryz.results173 he
theorem l1String_ac (s : ByteArray) : AC Tryz.prog 174 [.c (.str s)] [] (.c (.sl ((strV s).enc.map CellD.cs))) [] := by
  have he : (strV s).enc.map CellD.cs = [[.int .i64 4, .int .i64 0, .str s, .str ByteArray.empty, .int .i64 0]] := rfl
  rw [he]
  refine wEnter Tryz.func174 Tryz.ntmps174 ?_
  refine wRUN trivial ?_
  exact wRetOf (ret_of [] [(5, 0)]) Tryz.results174 he
set_option maxHeartbeats 1000000 in
theorem l1Children_ac {t : V} (hw : t.wf) (hc : t.count ≤ 200) : AC Tryz.prog 97 [cellsA t.enc, .c (.int .i64 0)] [] (.c (.sl ((kposL t t.kids.length).map intCs))) [] := by
  have hw0 : IntKind.i64.wrap (0 + 1) = 1 := rfl
  have hk0 : ((kp t.kids 0 : Nat) : Int) = 1 := by simp [kp, countL]
  have hkl := kids_len_le hc
  have hr0 : rowsAt (t.enc.map CellD.cs) 5 0 = true := by unfold rowsAt; rw [show (0 : Int).toNat = 0 from rfl, enc_head]; rfl
  have hg0 := enc_head t
  refine wEnter Tryz.func97 Tryz.ntmps97 ?_
  refine wRUN hw0 ?_
  refine a_loop (κ := Nat) (fun k => ⟨mkS 0 28 [(0, cellsA t.enc), (1, .c (.int .i64 0)), (5, .own (5, 0)), (6, .c (.int .i64 ((kp t.kids k : Nat) : Int))), (7, .c (.int .i64 k))],
      [((5, 0), .row false 1 2 ((kposL t k).map intCs))]⟩)
    (fun k => k ≤ t.kids.length) (fun k => t.kids.length - k) 0 (Nat.zero_le _) ?_ ?_
  · (apply (Says.of [((5, 0), (8, 0))] []); (iterate 2 ((focus (simp only [go_sem, Nat.reduceEqDiff, Nat.reduceAdd, Nat.reduceSub, Nat.reduceLeDiff, Nat.reduceMul, Nat.reduceBEq, Nat.reduceLT, Int.reduceToNat, reduceCtorEq, hk0, kposL]; try (and_intros <;> rfl))); (focus exact rfl))); (iterate 4 (focus (simp [go_sem, hk0, kposL]; done))))
  · intro k hk
    by_cases hlt : k < t.kids.length
    · have hd : decide ((k : Int) < (t.kids.length : Int)) = true := by simpa using hlt
      have hw1 := wrap_succ (k := k) (by omega)
      have h1 : (kposL t k).length + 1 ≤ 1000000 := by rw [kposL_len]; omega
      have he := l1End_ac hw hc hlt
      have hn : (kposL t k).map intCs ++ [[.int .i64 ((kp t.kids k : Nat) : Int)]] = (kposL t (k + 1)).map intCs := by rw [kposL_succ, List.map_append]; rfl
      refine wRUN (j4 hr0 hg0 hd h1) ?_
      refine w7 (op_data [] he) trivial ?_
      refine wRUN hw1 ?_
      refine ⟨k + 1, by omega, by omega, ?_⟩
      exact wSays (Says.of [((5, 0), (23, 0))] []) hn
    · have hd : decide ((k : Int) < (t.kids.length : Int)) = false := by simpa using hlt
      have hke : k = t.kids.length := by omega
      refine wRUN (j3 hr0 hg0 hd) ?_
      subst hke
      exact wRetOf (ret_of [] [(5, 0)]) Tryz.results97 hd
end Go.Proofs.YtfmnoljflcpbgaaGreatDoor
