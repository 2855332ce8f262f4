/- impl.behind, (*impl.differ).set and drop, by the engine. -/
import Derived.Test.YtioaieacogoemaaGreatKM24
import Derived.Test.YtioaieacogoemaaGreatKG55uGE
import Derived.Test.YtioaieacogoemaaGreatKG49uG52
import Derived.Test.YtioaieacogoemaaGreatKG07uG08
import Derived.Test.YtioaieacogoemaaGreatKG14
import Derived.Test.YtioaieacogoemaaGreatKE5
import Derived.Test.YtioaieacogoemaaGreatKM2
import Derived.Test.YtioaieacogoemaaGreatKG21
set_option linter.unusedSimpArgs false
set_option linter.unusedVariables false
set_option linter.unnecessarySimpa false
namespace Go.Proofs.YtioaieacogoemaaGreat
open Go.RowKit
set_option maxRecDepth 10000
/-- The rows of a list; a row of its own, or none. -/
def ownC (l : List CellD) : C := match l with
  | [] => .sl []
  | x :: r => .osl ((x :: r).map CellD.cs)
def EditD.ox (d : EditD) : List C := [.int .i64 d.op, .osl (d.path.map CellD.cs), ownC d.x]
abbrev dP (es : List EditD) : Mem := [((0, 0), .box [.own (0, 1)]), ((0, 1), .row true 3 73 (es.map EditD.ox))]
abbrev dQ (es : List EditD) : Mem := [((0, 0), .box [.own (1, 0)]), ((1, 0), .row true 3 73 (es.map EditD.ox))]
theorem ownC_forget (l : List CellD) : (ownC l).forget = .sl (l.map CellD.cs) := by
  unfold ownC
  cases l with
  | nil => rfl
  | cons x r => simp only [C.forget, forget_cells]
theorem forget_ox (l : List EditD) : forgetLL (l.map EditD.ox) = l.map EditD.cs := by
  induction l with
  | nil => rfl
  | cons d l ih => simp only [List.map_cons, forgetLL, ih, EditD.ox, EditD.cs, forgetL, ownC_forget, C.forget, forget_cells]
theorem all_ox (l : List EditD) : ((l.map EditD.ox).all fun r => r.length == 3) = true := by simp [EditD.ox]
attribute [go_sem] forget_ox all_ox
theorem behindV_ac (p : List V) (k : V) (hp : p.length ≤ 900000) : AC Tryz.prog 152 [valsA p, k.av] [] (valsA (p ++ [k])) [] := by
  have hcl := cloneVals_ac p (by omega)
  have hol : p.length + 1 ≤ 1000000 := by omega
  have hrow : p.map V.cs ++ [[.int .i64 k.kind, .int .i64 k.num, .str k.text, .sl (k.keys.map strCs), .sl (k.kids.map V.cs)]] = (p ++ [k]).map V.cs := by rw [List.map_append, List.map_cons, List.map_nil, V.cs_eq]
  refine wEnter Tryz.func152 Tryz.ntmps152 ?_
  refine wRUN trivial ?_
  refine w12 (op_rowF [] hcl) trivial ?_
  refine wRUN hol ?_
  exact wRetOf (ret_of [] [(9, 0)]) Tryz.results152 hrow
theorem enc_cons (t : V) : ∃ x r, t.enc = x :: r := by
  cases h : t.enc with
  | nil => have h1 := enc_len t; have := count_pos t; rw [h, List.length_nil] at h1; omega
  | cons x r => exact ⟨x, r, rfl⟩
theorem dropD_ac (es : List EditD) (p : List V) (hp : (arrV p).count ≤ 500000) (hn : (arrV p).neat) (hl : es.length ≤ 900000) : AC Tryz.prog 155 [.ptr (0, 0) 0, valsA p] (dP es) (.tup []) (dQ (es ++ [dropE p])) := by
  have hce := cells_ac _ (arrV p) (Nat.le_refl _) hp hn
  have hol : es.length + 1 ≤ 1000000 := by omega
  have hrow : (es ++ [dropE p]).map EditD.ox = es.map EditD.ox ++ [[.int .i64 2, .osl ((arrV p).enc.map CellD.cs), .sl []]] := by rw [List.map_append]; rfl
  refine wEnter Tryz.func155 Tryz.ntmps155 ?_
  refine wRUN trivial ?_
  refine w9 (op_shared [] (array_ac p)) trivial ?_
  refine w12 (op_rowF [] hce) trivial ?_
  refine wRUN hol ?_
  exact wRetOf (ret_of [((0, 0), (0, 0)), ((1, 0), (14, 0))] []) Tryz.results155 hrow
theorem setD_ac (es : List EditD) (p : List V) (x : V) (hp : (arrV p).count ≤ 500000) (hn : (arrV p).neat) (hx : x.count ≤ 500000) (hxn : x.neat) (hl : es.length ≤ 900000) : AC Tryz.prog 101 [.ptr (0, 0) 0, valsA p, x.av] (dP es) (.tup []) (dQ (es ++ [setE p x])) := by
  have hce := cells_ac _ (arrV p) (Nat.le_refl _) hp hn
  have hcx := cells_ac _ x (Nat.le_refl _) hx hxn
  have hol : es.length + 1 ≤ 1000000 := by omega
  obtain ⟨y, r, hyr⟩ := enc_cons x
  have hrow : (es ++ [setE p x]).map EditD.ox = es.map EditD.ox ++ [[.int .i64 1, .osl ((arrV p).enc.map CellD.cs), .osl (x.enc.map CellD.cs)]] := by
    rw [List.map_append, List.map_cons, List.map_nil]
    unfold EditD.ox setE ownC
    rw [hyr]
  refine wEnter Tryz.func101 Tryz.ntmps101 ?_
  refine wRUN trivial ?_
  refine w9 (op_shared [] (array_ac p)) trivial ?_
  refine w12 (op_rowF [] hce) trivial ?_
  refine wRUN trivial ?_
  refine w12 (op_rowF [] hcx) trivial ?_
  refine wRUN hol ?_
  exact wRetOf (ret_of [((0, 0), (0, 0)), ((1, 0), (18, 0))] []) Tryz.results101 hrow
end Go.Proofs.YtioaieacogoemaaGreat
