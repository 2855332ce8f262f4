/- Texts of this proof: G16 H99 G33. -/
import Derived.Test.YtioaieacogoemaaGreatKG14
import Derived.Test.YtioaieacogoemaaGreatKE5
set_option linter.unusedSimpArgs false
set_option linter.unusedVariables false
set_option linter.unnecessarySimpa false
namespace Go.Proofs.YtioaieacogoemaaGreat
open Go.RowKit
set_option maxRecDepth 10000
theorem szR_le (xs : List CellD) (left : Int) (h : 0 ≤ left) : szR xs left ≤ left := by
  unfold szR
  split
  · omega
  · have : (0 : Int) ≤ (xs.length : Int) := by omega
    have : (0 : Int) ≤ (bulk xs : Int) := by omega
    omega
theorem markCellS_nil (K : Nat) : AC Tryz.prog 13 [.nils, .c (.int .i64 K)] [] (.c (.int .i64 K)) [] := by
  have hd : decide ((0 : Int) < 0) = false := rfl
  refine wEnter Tryz.func13 Tryz.ntmps13 ?_
  refine wRUN trivial ?_
  refine a_loop (κ := Nat) (fun k => ⟨mkS 0 50 [(0, .nils), (1, .c (.int .i64 K)), (5, .c (.int .i64 0))], []⟩)
    (fun _ => True) (fun k => k) 0 trivial ?_ ?_
  · exact wSays (Says.of [] []) hd
  · intro k hk
    refine wRUN hd ?_
    exact wRet (ret_data []) Tryz.results13
end Go.Proofs.YtioaieacogoemaaGreat

/- Facts that the laws' walks share: a value has a fault or is a tree; rows of slices. -/
namespace Go.Proofs.YtioaieacogoemaaGreat
open Go.RowKit
theorem closed_osl (l : List (List CellD)) : closedLL (l.map oslCs) = true := by
  induction l with
  | nil => rfl
  | cons c l ih => simp only [List.map_cons, closedLL, ih, Bool.and_true, oslCs, closedL, C.closed, closed_cells]
theorem forget_osl (l : List (List CellD)) : forgetLL (l.map oslCs) = l.map encCs := by
  induction l with
  | nil => rfl
  | cons c l ih => simp only [List.map_cons, forgetLL, ih, oslCs, forgetL, C.forget, forget_cells, encCs]
attribute [go_sem] closed_osl forget_osl
/-- Cells in memory as a value that no one writes. -/
theorem ar_cellsA {w : World} {S : Nat → Prop} {m : Mem} {κ : Id → Value} {xs : List CellD} {A : Option Addr} {cap : Nat} (hcap : xs.length ≤ cap) (h : Cells w S A xs) : AR w S m κ (cellsA xs) (.slice A xs.length cap) :=
  cr_cells.2 ⟨A, cap, rfl, hcap, h⟩
end Go.Proofs.YtioaieacogoemaaGreat

/- The laws' own functions on an argument [][]Cell: szCellSS, toCellSS. -/
namespace Go.Proofs.YtioaieacogoemaaGreat
open Go.RowKit
set_option maxRecDepth 10000
def szGo : List (List CellD) → Int → Int
  | [], left => left
  | x :: r, left => if szR x left < 0 then -1 else szGo r (szR x left)
theorem szGo_le : ∀ (l : List (List CellD)) (left : Int), 0 ≤ left → szGo l left ≤ left
  | [], _, _ => Int.le_refl _
  | x :: r, left, h => by
    unfold szGo
    have := szR_le x left h
    split
    · omega
    · have := szGo_le r (szR x left) (by omega)
      omega
theorem szR_sub {x : List CellD} {left : Int} (h : ¬ szR x left < 0) : szR x left ≤ left - x.length := by
  unfold szR at h ⊢
  split
  · omega
  · have : (0 : Int) ≤ (bulk x : Int) := by omega
    omega
theorem szGo_tot : ∀ (l : List (List CellD)) (left : Int), 0 ≤ left → ¬ szGo l left < 0 → (tot l : Int) ≤ left ∧ ∀ x ∈ l, (x.length : Int) ≤ left
  | [], left, h, _ => by simp [tot]; exact h
  | x :: r, left, h, hn => by
    unfold szGo at hn
    by_cases hs : szR x left < 0
    · rw [if_pos hs] at hn; exact absurd (by decide) hn
    · rw [if_neg hs] at hn
      have h1 := szR_sub hs
      obtain ⟨h2, h3⟩ := szGo_tot r (szR x left) (by omega) hn
      have h4 : tot (x :: r) = x.length + tot r := by simp [tot]
      refine ⟨by rw [h4]; omega, fun y hy => ?_⟩
      rcases List.mem_cons.1 hy with rfl | hy
      · omega
      · have := h3 y hy; omega
end Go.Proofs.YtioaieacogoemaaGreat
