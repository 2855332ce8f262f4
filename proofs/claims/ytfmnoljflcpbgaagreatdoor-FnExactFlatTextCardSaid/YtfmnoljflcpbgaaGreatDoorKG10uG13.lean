/- Texts of this proof: G10 G11 G13. -/
import Derived.Test.YtfmnoljflcpbgaaGreatDoorKE5
import Derived.Test.YtfmnoljflcpbgaaGreatDoorKG09
import Derived.Test.YtfmnoljflcpbgaaGreatDoorKL1
import Derived.Test.YtfmnoljflcpbgaaGreatDoorKA1
import Derived.Deep.RegionHeld3
import Derived.Deep.RegionWith
set_option linter.unusedSimpArgs false
set_option linter.unusedVariables false
set_option linter.unnecessarySimpa false
namespace Go.Proofs.YtfmnoljflcpbgaaGreatDoor
open Go.RowKit
theorem eqCellS_ac (xs : List CellD) (hl : xs.length ≤ 9223372036854775807) : AC Tryz.prog 15 [cellsA xs, cellsA xs] [] (.c (.bool true)) [] := by
  refine AC.of_calls fun S w κ vs hv => ?_
  obtain ⟨v, vs', rfl, h1, v2, vs2, rfl, h2, rfl⟩ := hv
  obtain ⟨A, cap, rfl, _, hc⟩ := cr_cells.1 h1
  obtain ⟨B, cap', rfl, _, hc'⟩ := cr_cells.1 h2
  refine (eqCellS_same xs hl A B cap cap' S S w hc hc').mono ?_
  rintro e w' ⟨rfl, hb⟩
  exact ⟨hb, _, rfl, fun T _ _ => ⟨rfl, rfl⟩⟩
set_option maxRecDepth 10000
end Go.Proofs.YtfmnoljflcpbgaaGreatDoor

/- laws.markCellSS: slices of cells in a row are marked one by one. -/
namespace Go.Proofs.YtfmnoljflcpbgaaGreatDoor
open Go.RowKit
def oslCs (xs : List CellD) : List C := [.osl (xs.map CellD.cs)]
/-- Slices of cells, each of which no one else reaches; bs: their blocks. -/
def Nest (w : World) : List (List CellD) → List Value → List Nat → Prop
  | [], vs, bs => vs = [] ∧ bs = []
  | x :: l, vs, bs => ∃ v vs' b1 b2, vs = v :: vs' ∧ bs = b1 ++ b2 ∧ CR w (fun _ => False) (.osl (x.map CellD.cs)) v b1 ∧ Nest w l vs' b2
theorem Nest.length {w : World} : ∀ {l : List (List CellD)} {vs : List Value} {bs : List Nat}, Nest w l vs bs → vs.length = l.length
  | [], vs, bs, h => by rw [h.1]; rfl
  | x :: l, vs, bs, h => by
    obtain ⟨v, vs', b1, b2, rfl, rfl, h1, h2⟩ := h
    simp [Nest.length h2]
theorem Nest.keep {w w' : World} (hz : w.heap.size ≤ w'.heap.size) : ∀ {l : List (List CellD)} {vs : List Value} {bs : List Nat}, (∀ b, b ∈ bs → b < w.heap.size → w'.heap[b]? = w.heap[b]?) → Nest w l vs bs → Nest w' l vs bs
  | [], vs, bs, _, h => h
  | x :: l, vs, bs, hb, h => by
    obtain ⟨v, vs', b1, b2, rfl, rfl, h1, h2⟩ := h
    exact ⟨v, vs', b1, b2, rfl, rfl, CR.keep hz (fun b hf => hf.elim) (fun b hb1 => hb b (by simp [hb1])) h1, Nest.keep hz (fun b hb2 => hb b (by simp [hb2])) h2⟩
theorem Nest.at_ {w : World} : ∀ {l : List (List CellD)} {vs : List Value} {bs : List Nat}, Nest w l vs bs → bs.Nodup → ∀ {i : Nat} (hi : i < l.length), ∃ v bi, vs[i]? = some v ∧ CR w (fun _ => False) (.osl (l[i].map CellD.cs)) v bi ∧ (∀ b, b ∈ bi → b ∈ bs) ∧
    ∀ (w' : World) (y : List CellD), w.heap.size ≤ w'.heap.size → CR w' (fun _ => False) (.osl (y.map CellD.cs)) v bi → (∀ b, b ∈ bs → b ∉ bi → b < w.heap.size → w'.heap[b]? = w.heap[b]?) → Nest w' (l.set i y) vs bs
  | [], vs, bs, _, _, i, hi => by simp at hi
  | x :: l, vs, bs, h, hnd, 0, _ => by
    obtain ⟨v, vs', b1, b2, rfl, rfl, h1, h2⟩ := h
    refine ⟨v, b1, rfl, h1, fun b hb => by simp [hb], fun w' y hz hy hk => ⟨v, vs', b1, b2, rfl, rfl, hy, Nest.keep hz (fun b hb => hk b (by simp [hb]) ?_) h2⟩⟩
    intro hb1
    exact (List.nodup_append.1 hnd).2.2 b hb1 b hb rfl
  | x :: l, vs, bs, h, hnd, i + 1, hi => by
    obtain ⟨v, vs', b1, b2, rfl, rfl, h1, h2⟩ := h
    obtain ⟨v1, bi, g1, g2, g3, g4⟩ := Nest.at_ h2 (List.nodup_append.1 hnd).2.1 (i := i) (by simpa using hi)
    refine ⟨v1, bi, by simpa using g1, by simpa using g2, fun b hb => by simp [g3 b hb], fun w' y hz hy hk => ⟨v, vs', b1, b2, rfl, rfl, CR.keep hz (fun b hf => hf.elim) (fun b hb => hk b (by simp [hb]) ?_) h1, g4 w' y hz hy fun b hb => hk b (by simp [hb])⟩⟩
    intro hbi
    exact (List.nodup_append.1 hnd).2.2 b hb b (g3 b hbi) rfl
theorem get_one {p : Id × AO} {i : Id} {o : AO} (h : Mem.get [p] i = some o) : i = p.1 ∧ o = p.2 := by
  obtain ⟨a, b⟩ := p
  simp only [Mem.get, List.lookup_cons, List.lookup_nil] at h
  split at h
  · rename_i hq
    exact ⟨by simpa using hq, (Option.some.inj h).symm⟩
  · cases h
end Go.Proofs.YtfmnoljflcpbgaaGreatDoor

/- The laws' own functions on the argument: szCell, szCellS (by the engine), toCellS (its old contract). -/
namespace Go.Proofs.YtfmnoljflcpbgaaGreatDoor
open Go.RowKit
def szC (t y : ByteArray) (left : Int) : Int := if left - t.size < 0 then -1 else if left - t.size - y.size < 0 then -1 else left - t.size - y.size
def szR (xs : List CellD) (left : Int) : Int := if left - xs.length - bulk xs < 0 then -1 else left - xs.length - bulk xs
set_option maxRecDepth 10000
theorem wrap_in {n : Int} (h1 : -9223372036854775808 ≤ n) (h2 : n ≤ 9223372036854775807) : IntKind.i64.wrap n = n := IntWalk.i64_in _ (by omega)
set_option maxHeartbeats 1000000 in
theorem szCell_ac (c : CellD) (left : Int) (h0 : 0 ≤ left) (h1 : left ≤ 1048576) (ht : c.text.size ≤ 9223372036854775807) (hy : c.key.size ≤ 9223372036854775807) : AC Tryz.prog 41 [c.av, .c (.int .i64 left)] [] (.c (.int .i64 (szC c.text c.key left))) [] := by
  have w1 : IntKind.i64.wrap (left - c.text.size) = left - c.text.size := wrap_in (by omega) (by omega)
  by_cases hn : left - c.text.size < 0
  · have hr : szC c.text c.key left = -1 := by unfold szC; rw [if_pos hn]
    have hd : decide (left - c.text.size < 0) = true := by simpa using hn
    rw [hr]
    refine wEnter Tryz.func41 Tryz.ntmps41 ?_
    refine wRUN (j2 w1 hd) ?_
    exact wRet (ret_data []) Tryz.results41
  · have hd : decide (left - c.text.size < 0) = false := by simpa using hn
    have w2 : IntKind.i64.wrap (left - c.text.size - c.key.size) = left - c.text.size - c.key.size := wrap_in (by omega) (by omega)
    by_cases hm : left - c.text.size - c.key.size < 0
    · have hr : szC c.text c.key left = -1 := by unfold szC; rw [if_neg hn, if_pos hm]
      have hd2 : decide (left - c.text.size - c.key.size < 0) = true := by simpa using hm
      rw [hr]
      refine wEnter Tryz.func41 Tryz.ntmps41 ?_
      refine wRUN (j4 w1 hd w2 hd2) ?_
      exact wRet (ret_data []) Tryz.results41
    · have hr : szC c.text c.key left = left - c.text.size - c.key.size := by unfold szC; rw [if_neg hn, if_neg hm]
      have hd2 : decide (left - c.text.size - c.key.size < 0) = false := by simpa using hm
      rw [hr]
      refine wEnter Tryz.func41 Tryz.ntmps41 ?_
      refine wRUN (j4 w1 hd w2 hd2) ?_
      exact wRet (ret_data []) Tryz.results41
theorem bulk_take (xs : List CellD) (k : Nat) : bulk (xs.take k) ≤ bulk xs := by
  induction xs generalizing k with
  | nil => simp
  | cons c xs ih => cases k with
    | zero => simp [bulk]
    | succ k => have := ih k; simp only [List.take_succ_cons, bulk]; omega
set_option maxHeartbeats 2000000 in
theorem szCellS_ac (xs : List CellD) (hz : Sized63 xs) (hl : xs.length ≤ 9223372036854775807) (left : Int) (h0 : 0 ≤ left) (h1 : left ≤ 1048576) : AC Tryz.prog 10 [cellsA xs, .c (.int .i64 left)] [] (.c (.int .i64 (szR xs left))) [] := by
  have w1 : IntKind.i64.wrap (left - xs.length) = left - xs.length := wrap_in (by omega) (by omega)
  by_cases hn : left - xs.length < 0
  · have hr : szR xs left = -1 := by unfold szR; rw [if_pos (by omega)]
    have hd : decide (left - (xs.length : Int) < 0) = true := by simpa using hn
    rw [hr]
    refine wEnter Tryz.func10 Tryz.ntmps10 ?_
    refine wRUN (j2 w1 hd) ?_
    exact wRet (ret_data []) Tryz.results10
  · have hd : decide (left - (xs.length : Int) < 0) = false := by simpa using hn
    obtain ⟨L, hL⟩ : ∃ L : Nat → Int, ∀ k, L k = left - xs.length - (bulk (xs.take k) : Nat) := ⟨_, fun _ => rfl⟩
    have hb0 : left - (xs.length : Int) = L 0 := by rw [hL]; simp [bulk]
    refine wEnter Tryz.func10 Tryz.ntmps10 ?_
    refine wRUN (j2 w1 hd) ?_
    refine a_loop (κ := Nat) (fun k => ⟨mkS 0 27 [(0, cellsA xs), (1, .c (.int .i64 (L k))), (5, .c (.int .i64 k))], []⟩)
      (fun k => k ≤ xs.length ∧ 0 ≤ L k) (fun k => xs.length - k) 0 ⟨Nat.zero_le _, by rw [← hb0]; omega⟩ ?_ ?_
    · exact wSays (Says.of [] []) hb0
    · rintro k ⟨hk, hge⟩
      by_cases hlt : k < xs.length
      · have hdk : decide ((k : Int) < (xs.length : Int)) = true := by simpa using hlt
        have hw := wrap_succ (k := k) (by omega)
        have hr0 : rowsAt (xs.map CellD.cs) 5 k = true := by simp [rowsAt, hlt, CellD.cs]
        have hg0 : (xs.map CellD.cs)[k]? = some [.int .i64 xs[k].kind, .int .i64 xs[k].num, .str xs[k].text, .str xs[k].key, .int .i64 xs[k].n] := by simp [hlt, CellD.cs]
        have hs := hz _ (List.getElem_mem hlt)
        have hsn := bulk_snoc (xs.take k) xs[k]
        rw [← List.take_succ_eq_append_getElem hlt] at hsn
        have hbt := bulk_take xs (k + 1)
        have hca := szCell_ac xs[k] (L k) hge (by rw [hL]; omega) hs.1 hs.2
        have hLk := hL k
        have hLk1 := hL (k + 1)
        generalize xs[k] = c at *
        by_cases hm : L (k + 1) < 0
        · have hq : szC c.text c.key (L k) = -1 := by unfold szC; split; rfl; rw [if_pos (by omega)]
          rw [hq] at hca
          have hr : szR xs left = -1 := by unfold szR; rw [if_pos (by omega)]
          have hdm : decide ((-1 : Int) < 0) = true := rfl
          refine wRUN (j3 hdk hr0 hg0) ?_
          refine w7 (op_data [] hca) trivial ?_
          refine wRUN hdm ?_
          rw [hr]
          exact wRet (ret_data []) Tryz.results10
        · have hq : szC c.text c.key (L k) = L (k + 1) := by unfold szC; rw [if_neg (by omega), if_neg (by omega)]; omega
          rw [hq] at hca
          have hdm : decide (L (k + 1) < 0) = false := by simpa using hm
          refine wRUN (j3 hdk hr0 hg0) ?_
          refine w7 (op_data [] hca) trivial ?_
          refine wRUN (j2 hdm hw) ?_
          refine ⟨k + 1, by omega, ⟨by omega, by omega⟩, ?_⟩
          exact wSays (Says.of [] []) hw
      · have hdk : decide ((k : Int) < (xs.length : Int)) = false := by simpa using hlt
        have hke : xs.take k = xs := List.take_of_length_le (by omega)
        have hLk := hL k
        rw [hke] at hLk
        have hr : szR xs left = L k := by unfold szR; rw [if_neg (by omega), hLk]
        refine wRUN hdk ?_
        rw [hr]
        exact wRet (ret_data []) Tryz.results10
theorem szR_len {xs : List CellD} {left : Int} (h : 0 ≤ szR xs left) (hl : left ≤ 1048576) : xs.length ≤ 1048576 := by
  unfold szR at h
  split at h
  · omega
  · omega
end Go.Proofs.YtfmnoljflcpbgaaGreatDoor
