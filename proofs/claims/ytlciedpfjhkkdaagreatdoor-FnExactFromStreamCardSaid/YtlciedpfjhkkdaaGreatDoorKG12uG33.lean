/- Texts of this proof: G12 G13 G14 G16 H99 G33. -/
import Derived.Test.YtlciedpfjhkkdaaGreatDoorKG10uG11
import Derived.Test.YtlciedpfjhkkdaaGreatDoorKL1
import Derived.Test.YtlciedpfjhkkdaaGreatDoorKE5
set_option linter.unusedSimpArgs false
set_option linter.unusedVariables false
set_option linter.unnecessarySimpa false
set_option maxHeartbeats 8000000
namespace Go.Proofs.YtlciedpfjhkkdaaGreatDoor
open Go.RowKit
set_option maxRecDepth 10000
theorem eqCellSS_ac (l : List (List CellD)) (hl : l.length ≤ 1048576) (hx : ∀ x ∈ l, x.length ≤ 9223372036854775807) : AC Tryz.prog 33 [.c (.sl (l.map encCs)), .c (.sl (l.map encCs))] [] (.c (.bool true)) [] := by
 have hne : ((l.length : Int) != (l.length : Int)) = false := by simp
 refine wEnter Tryz.func33 Tryz.ntmps33 ?_
 refine wRUN hne ?_
 refine a_loop (κ := Nat) (fun k => ⟨mkS 0 27 [(0, .c (.sl (l.map encCs))), (1, .c (.sl (l.map encCs))), (5, .c (.int .i64 k))], []⟩)
  (fun k => k ≤ l.length) (fun k => l.length - k) 0 (Nat.zero_le _) ?_ ?_
 ·exact wSays (Says.of [] []) hne
 ·intro k hk
  by_cases hlt : k < l.length
  ·have hd : decide ((k : Int) < (l.length : Int)) = true := by simpa using hlt
   have hw := wrap_succ (k := k) (by omega)
   have hr : rowsAt (l.map encCs) 1 k = true := by simp [rowsAt, hlt, encCs]
   have hg : (l.map encCs)[k]? = some [.sl (l[k].map CellD.cs)] := by simp [hlt, encCs]
   have he := eqCellS_ac l[k] (hx _ (List.getElem_mem hlt))
   refine wRUN (j3 hd hr hg) ?_
   refine w7 (op_data [] he) trivial ?_
   refine wRUN hw ?_
   refine ⟨k + 1, by omega, by omega, ?_⟩
   exact wSays (Says.of [] []) hw
  ·have hd : decide ((k : Int) < (l.length : Int)) = false := by simpa using hlt
   refine wRUN hd ?_
   exact wRet (ret_data []) Tryz.results33
def szC (t y : ByteArray) (left : Int) : Int := if left - t.size < 0 then -1 else if left - t.size - y.size < 0 then -1 else left - t.size - y.size
def szR (xs : List CellD) (left : Int) : Int := if left - xs.length - bulk xs < 0 then -1 else left - xs.length - bulk xs
set_option maxRecDepth 10000
theorem wrap_in {n : Int} (h1 : -9223372036854775808 ≤ n) (h2 : n ≤ 9223372036854775807) : IntKind.i64.wrap n = n := IntWalk.i64_in _ (by omega)
theorem szCell_ac (c : CellD) (left : Int) (h0 : 0 ≤ left) (h1 : left ≤ 1048576) (ht : c.text.size ≤ 9223372036854775807) (hy : c.key.size ≤ 9223372036854775807) : AC Tryz.prog 118 [c.av, .c (.int .i64 left)] [] (.c (.int .i64 (szC c.text c.key left))) [] := by
 have w1 : IntKind.i64.wrap (left - c.text.size) = left - c.text.size := wrap_in (by omega) (by omega)
 by_cases hn : left - c.text.size < 0
 ·have hr : szC c.text c.key left = -1 := by unfold szC; rw [if_pos hn]
  have hd : decide (left - c.text.size < 0) = true := by simpa using hn
  rw [hr]
  refine wEnter Tryz.func118 Tryz.ntmps118 ?_
  refine wRUN (j2 w1 hd) ?_
  exact wRet (ret_data []) Tryz.results118
 ·have hd : decide (left - c.text.size < 0) = false := by simpa using hn
  have w2 : IntKind.i64.wrap (left - c.text.size - c.key.size) = left - c.text.size - c.key.size := wrap_in (by omega) (by omega)
  by_cases hm : left - c.text.size - c.key.size < 0
  ·have hr : szC c.text c.key left = -1 := by unfold szC; rw [if_neg hn, if_pos hm]
   have hd2 : decide (left - c.text.size - c.key.size < 0) = true := by simpa using hm
   rw [hr]
   refine wEnter Tryz.func118 Tryz.ntmps118 ?_
   refine wRUN (j4 w1 hd w2 hd2) ?_
   exact wRet (ret_data []) Tryz.results118
  ·have hr : szC c.text c.key left = left - c.text.size - c.key.size := by unfold szC; rw [if_neg hn, if_neg hm]
   have hd2 : decide (left - c.text.size - c.key.size < 0) = false := by simpa using hm
   rw [hr]
   refine wEnter Tryz.func118 Tryz.ntmps118 ?_
   refine wRUN (j4 w1 hd w2 hd2) ?_
   exact wRet (ret_data []) Tryz.results118
theorem bulk_take (xs : List CellD) (k : Nat) : bulk (xs.take k) ≤ bulk xs := by
 induction xs generalizing k with
 | nil => simp
 | cons c xs ih => cases k with
  | zero => simp [bulk]
  | succ k => have := ih k; simp only [List.take_succ_cons, bulk]; omega
theorem szCellS_ac (xs : List CellD) (hz : Sized63 xs) (hl : xs.length ≤ 9223372036854775807) (left : Int) (h0 : 0 ≤ left) (h1 : left ≤ 1048576) : AC Tryz.prog 64 [cellsA xs, .c (.int .i64 left)] [] (.c (.int .i64 (szR xs left))) [] := by
 have w1 : IntKind.i64.wrap (left - xs.length) = left - xs.length := wrap_in (by omega) (by omega)
 by_cases hn : left - xs.length < 0
 ·have hr : szR xs left = -1 := by unfold szR; rw [if_pos (by omega)]
  have hd : decide (left - (xs.length : Int) < 0) = true := by simpa using hn
  rw [hr]
  refine wEnter Tryz.func64 Tryz.ntmps64 ?_
  refine wRUN (j2 w1 hd) ?_
  exact wRet (ret_data []) Tryz.results64
 ·have hd : decide (left - (xs.length : Int) < 0) = false := by simpa using hn
  obtain ⟨L, hL⟩ : ∃ L : Nat → Int, ∀ k, L k = left - xs.length - (bulk (xs.take k) : Nat) := ⟨_, fun _ => rfl⟩
  have hb0 : left - (xs.length : Int) = L 0 := by rw [hL]; simp [bulk]
  refine wEnter Tryz.func64 Tryz.ntmps64 ?_
  refine wRUN (j2 w1 hd) ?_
  refine a_loop (κ := Nat) (fun k => ⟨mkS 0 27 [(0, cellsA xs), (1, .c (.int .i64 (L k))), (5, .c (.int .i64 k))], []⟩)
   (fun k => k ≤ xs.length ∧ 0 ≤ L k) (fun k => xs.length - k) 0 ⟨Nat.zero_le _, by rw [← hb0]; omega⟩ ?_ ?_
  ·exact wSays (Says.of [] []) hb0
  ·rintro k ⟨hk, hge⟩
   by_cases hlt : k < xs.length
   ·have hdk : decide ((k : Int) < (xs.length : Int)) = true := by simpa using hlt
    have hw := wrap_succ (k := k) (by omega)
    have hr0 : rowsAt (xs.map CellD.cs) 5 k = true := by simp [rowsAt, hlt, CellD.cs]
    have hg0 : (xs.map CellD.cs)[k]? = some [.int .i64 xs[k].kind, .int .i64 xs[k].num, .str xs[k].text, .str xs[k].key, .int .i64 xs[k].n] := by simp [hlt, CellD.cs]
    have hs := hz _ (List.getElem_mem hlt)
    have hsn := bulk_snoc (xs.take k) xs[k]
    rw [← List.take_succ_eq_append_getElem hlt] at hsn
    have hbt := bulk_take xs (k + 1)
    have hca := szCell_ac xs[k] (L k) hge (by rw [hL]; omega) hs.1 hs.2
    have hLk := hL k
    have hLk1 := hL (k + 1)
    generalize xs[k] = c at *
    by_cases hm : L (k + 1) < 0
    ·have hq : szC c.text c.key (L k) = -1 := by unfold szC; split; rfl; rw [if_pos (by omega)]
     rw [hq] at hca
     have hr : szR xs left = -1 := by unfold szR; rw [if_pos (by omega)]
     have hdm : decide ((-1 : Int) < 0) = true := rfl
     refine wRUN (j3 hdk hr0 hg0) ?_
     refine w7 (op_data [] hca) trivial ?_
     refine wRUN hdm ?_
     rw [hr]
     exact wRet (ret_data []) Tryz.results64
    ·have hq : szC c.text c.key (L k) = L (k + 1) := by unfold szC; rw [if_neg (by omega), if_neg (by omega)]; omega
     rw [hq] at hca
     have hdm : decide (L (k + 1) < 0) = false := by simpa using hm
     refine wRUN (j3 hdk hr0 hg0) ?_
     refine w7 (op_data [] hca) trivial ?_
     refine wRUN (j2 hdm hw) ?_
     refine ⟨k + 1, by omega, ⟨by omega, by omega⟩, ?_⟩
     exact wSays (Says.of [] []) hw
   ·have hdk : decide ((k : Int) < (xs.length : Int)) = false := by simpa using hlt
    have hke : xs.take k = xs := List.take_of_length_le (by omega)
    have hLk := hL k
    rw [hke] at hLk
    have hr : szR xs left = L k := by unfold szR; rw [if_neg (by omega), hLk]
    refine wRUN hdk ?_
    rw [hr]
    exact wRet (ret_data []) Tryz.results64
theorem ownsRow_lt {w : World} {base : Nat} {e : TypeId} {es n : Nat} {v : Value} {cs : List Value} (h : w.ownsRow base e es v n cs) {b : Nat} (hb : v.ownBlock = some b) : base ≤ b ∧ b < w.heap.size := by
 rcases h.2 with ⟨rfl, _⟩ | ⟨g, cap, cur, rfl, hg, hh, _⟩
 ·cases hb
 ·have : g = b := by simpa [Value.ownBlock] using hb
  subst this
  exact ⟨hg, (Array.getElem?_eq_some_iff.1 hh).1⟩
theorem ownsRow_zero {w : World} {base : Nat} {e : TypeId} {es n : Nat} {v : Value} {cs : List Value} (h : w.ownsRow base e es v n cs) : w.ownsRow 0 e es v n cs := by
 refine ⟨h.1, ?_⟩
 rcases h.2 with h | ⟨g, cap, cur, e1, hg, r⟩
 ·exact .inl h
 ·exact .inr ⟨g, cap, cur, e1, Nat.zero_le _, r⟩
theorem AC.of_row {P : Program} {f : FuncId} {args : List AV} {es : Nat} {e : TypeId} {rows : List (List C)} (hc : closedLL rows = true)
  (h : ∀ (S : Nat → Prop) (w : World) (κ : Id → Value) (vals : List Value), ARs w S [] κ args vals → Calls P f vals.toArray w fun e1 w' => Below w.heap.size w w' ∧ ∃ v vrows, e1 = .returned v ∧ CRss w' (fun _ => False) rows vrows [] ∧ (∀ x ∈ vrows, x.length = es) ∧ w'.ownsRow w.heap.size e es v rows.length vrows.flatten) :
  AC P f args [] (.own (0, 0)) [((0, 0), .row false es e rows)] := by
 intro Γ vals hE hA
 have how : ∀ b, Γ.ow b = none := by
  intro b
  cases hb : Γ.ow b with
  | none => rfl
  | some i => obtain ⟨_, o, h1, _⟩ := hE.own b i hb; simp [Mem.get] at h1
 refine (h _ _ _ _ hA).mono ?_
 rintro e1 w' ⟨hb, v, vrows, rfl, h1, h2, h3⟩
 refine ⟨v, fun b => if v.ownBlock = some b then some (0, 0) else none, fun _ => v, rfl, ⟨⟨ownsRow_one h3, _, rfl, fun _ => rfl⟩, ?_, ?_, hb.os, hb.tape, hb.output, hb.size, ?_, fun i o o' h => (by simp [Mem.get] at h)⟩⟩
 ·intro i o hi
  obtain ⟨rfl, rfl⟩ := get_one hi
  refine ⟨vrows, [], CRss.closed hc h1, fun _ => rfl, h2, ownsRow_zero h3, ?_, fun b hb => ?_⟩
  ·show (v.ownBlock.toList ++ []).Nodup
   cases v.ownBlock <;> simp
  ·have hb' : b ∈ v.ownBlock.toList ++ [] := hb
   have : v.ownBlock = some b := by simpa using hb'
   exact if_pos this
 ·intro b i hbi
  split at hbi
  ·rename_i hv
   refine ⟨(ownsRow_lt h3 hv).2, .row false es e rows, ?_, rfl⟩
   rw [← Option.some.inj hbi]
   rfl
  ·cases hbi
 ·intro b hl _
  refine ⟨hb.block b hl, ?_⟩
  refine if_neg fun hv => ?_
  have := (ownsRow_lt h3 hv).1
  omega
theorem closed_cells (l : List CellD) : closedLL (l.map CellD.cs) = true := by
 induction l with
 | nil => rfl
 | cons c l ih => simp only [List.map_cons, closedLL, ih, Bool.and_true]; rfl
attribute [go_sem] closed_cells AO.closed
theorem toCellS_ac (xs : List CellD) (hl : xs.length ≤ 1048576) : AC Tryz.prog 70 [cellsA xs] [] (.own (0, 0)) [((0, 0), .row false 5 94 (xs.map CellD.cs))] := by
 refine AC.of_row (closed_cells xs) fun S w κ vs hv => ?_
 obtain ⟨v, vs', rfl, h1, rfl⟩ := hv
 obtain ⟨A, cap, rfl, _, hc⟩ := cr_cells.1 h1
 refine (toCellS_any xs hl A cap S w hc).mono ?_
 rintro e w' ⟨⟨g, rfl, rows, q1, q2, q3, q4⟩, hb⟩
 have : rows = xs.map vals := by
  apply List.ext_getElem?
  intro i
  by_cases hi : i < xs.length
  ·rw [List.getElem?_eq_getElem (by omega)]
   have := q4 i hi _ (List.getElem?_eq_getElem (by omega))
   rw [List.getElem?_map, List.getElem?_eq_getElem hi]
   exact congrArg some this
  ·rw [List.getElem?_eq_none (by omega), List.getElem?_eq_none (by simp; omega)]
 subst this
 refine ⟨hb, _, xs.map vals, rfl, (crss_map crs_cell).2 ⟨rfl, rfl⟩, q2, ?_⟩
 rw [List.length_map]
 exact q3
set_option maxRecDepth 10000
theorem szR_le (xs : List CellD) (left : Int) (h : 0 ≤ left) : szR xs left ≤ left := by
 unfold szR
 split
 ·omega
 ·have : (0 : Int) ≤ (xs.length : Int) := by omega
  have : (0 : Int) ≤ (bulk xs : Int) := by omega
  omega
theorem markCellS_nil (K : Nat) : AC Tryz.prog 42 [.nils, .c (.int .i64 K)] [] (.c (.int .i64 K)) [] := by
 have hd : decide ((0 : Int) < 0) = false := rfl
 refine wEnter Tryz.func42 Tryz.ntmps42 ?_
 refine wRUN trivial ?_
 refine a_loop (κ := Nat) (fun k => ⟨mkS 0 50 [(0, .nils), (1, .c (.int .i64 K)), (5, .c (.int .i64 0))], []⟩)
  (fun _ => True) (fun k => k) 0 trivial ?_ ?_
 ·exact wSays (Says.of [] []) hd
 ·intro k hk
  refine wRUN hd ?_
  exact wRet (ret_data []) Tryz.results42
theorem closed_osl (l : List (List CellD)) : closedLL (l.map oslCs) = true := by
 induction l with
 | nil => rfl
 | cons c l ih => simp only [List.map_cons, closedLL, ih, Bool.and_true, oslCs, closedL, C.closed, closed_cells]
theorem forget_osl (l : List (List CellD)) : forgetLL (l.map oslCs) = l.map encCs := by
 induction l with
 | nil => rfl
 | cons c l ih => simp only [List.map_cons, forgetLL, ih, oslCs, forgetL, C.forget, forget_cells, encCs]
attribute [go_sem] closed_osl forget_osl
set_option maxRecDepth 10000
def szGo : List (List CellD) → Int → Int
 | [], left => left
 | x :: r, left => if szR x left < 0 then -1 else szGo r (szR x left)
def szLR (l : List (List CellD)) (left : Int) : Int := if left - l.length < 0 then -1 else szGo l (left - l.length)
theorem szGo_le : ∀ (l : List (List CellD)) (left : Int), 0 ≤ left → szGo l left ≤ left
 | [], _, _ => Int.le_refl _
 | x :: r, left, h => by
  unfold szGo
  have := szR_le x left h
  split
  ·omega
  ·have := szGo_le r (szR x left) (by omega)
   omega
theorem szLR_le (l : List (List CellD)) (left : Int) (h : 0 ≤ left) : szLR l left ≤ left := by
 unfold szLR
 split
 ·omega
 ·have := szGo_le l (left - l.length) (by omega)
  omega
theorem szR_sub {x : List CellD} {left : Int} (h : ¬ szR x left < 0) : szR x left ≤ left - x.length := by
 unfold szR at h ⊢
 split
 ·omega
 ·have : (0 : Int) ≤ (bulk x : Int) := by omega
  omega
theorem szGo_tot : ∀ (l : List (List CellD)) (left : Int), 0 ≤ left → ¬ szGo l left < 0 → (tot l : Int) ≤ left ∧ ∀ x ∈ l, (x.length : Int) ≤ left
 | [], left, h, _ => by simp [tot]; exact h
 | x :: r, left, h, hn => by
  unfold szGo at hn
  by_cases hs : szR x left < 0
  ·rw [if_pos hs] at hn; exact absurd (by decide) hn
  ·rw [if_neg hs] at hn
   have h1 := szR_sub hs
   obtain ⟨h2, h3⟩ := szGo_tot r (szR x left) (by omega) hn
   have h4 : tot (x :: r) = x.length + tot r := by simp [tot]
   refine ⟨by rw [h4]; omega, fun y hy => ?_⟩
   rcases List.mem_cons.1 hy with rfl | hy
   ·omega
   ·have := h3 y hy; omega
theorem szLR_tot {l : List (List CellD)} {left : Int} (h : ¬ szLR l left < 0) (hl : left ≤ 1048576) : l.length ≤ 1048576 ∧ tot l ≤ 1048576 ∧ ∀ x ∈ l, x.length ≤ 1048576 := by
 unfold szLR at h
 by_cases hs : left - l.length < 0
 ·rw [if_pos hs] at h; exact absurd (by decide) h
 ·rw [if_neg hs] at h
  obtain ⟨h1, h2⟩ := szGo_tot l _ (by omega) h
  exact ⟨by omega, by omega, fun x hx => by have := h2 x hx; omega⟩
theorem szGo_drop (l : List (List CellD)) {k : Nat} (h : k < l.length) (left : Int) : szGo (l.drop k) left = if szR l[k] left < 0 then -1 else szGo (l.drop (k + 1)) (szR l[k] left) := by
 rw [List.drop_eq_getElem_cons h]
 rfl
theorem row_enc (l : List (List CellD)) {k : Nat} (h : k < l.length) : rowsAt (l.map encCs) 1 k = true ∧ (l.map encCs)[k]? = some [.sl (l[k].map CellD.cs)] := ⟨by simp [rowsAt, h, encCs], by simp [h, encCs]⟩
theorem szCellSS_ac (l : List (List CellD)) (hz : ∀ x ∈ l, Sized63 x) (hl : l.length ≤ 9223372036854775807) (hy : ∀ x ∈ l, x.length ≤ 9223372036854775807) (left : Int) (h0 : 0 ≤ left) (h1 : left ≤ 1048576) : AC Tryz.prog 30 [.c (.sl (l.map encCs)), .c (.int .i64 left)] [] (.c (.int .i64 (szLR l left))) [] := by
 have w1 : IntKind.i64.wrap (left - l.length) = left - l.length := wrap_in (by omega) (by omega)
 have hln : (l.map encCs).length = l.length := by simp
 by_cases hn : left - l.length < 0
 ·have hr : szLR l left = -1 := by unfold szLR; rw [if_pos hn]
  have hd : decide (left - (l.length : Int) < 0) = true := by simpa using hn
  rw [hr]
  refine wEnter Tryz.func30 Tryz.ntmps30 ?_
  refine wRUN (j3 w1 hd hln) ?_
  exact wRet (ret_data []) Tryz.results30
 ·have hd : decide (left - (l.length : Int) < 0) = false := by simpa using hn
  have hr : szLR l left = szGo l (left - l.length) := by unfold szLR; rw [if_neg hn]
  obtain ⟨R, hR⟩ : ∃ R, R = szLR l left := ⟨_, rfl⟩
  rw [← hR] at hr ⊢
  clear hR
  refine wEnter Tryz.func30 Tryz.ntmps30 ?_
  refine wRUN (j3 w1 hd hln) ?_
  refine a_loop (κ := Nat × Int) (fun x => ⟨mkS 0 27 [(0, .c (.sl (l.map encCs))), (1, .c (.int .i64 x.2)), (5, .c (.int .i64 x.1))], []⟩)
   (fun x => x.1 ≤ l.length ∧ 0 ≤ x.2 ∧ x.2 ≤ 1048576 ∧ R = szGo (l.drop x.1) x.2) (fun x => l.length - x.1) (0, left - l.length) ⟨Nat.zero_le _, by omega, by omega, hr⟩ ?_ ?_
  ·exact wSays (Says.of [] []) hd
  ·rintro ⟨k, L⟩ ⟨hk, hL0, hL1, hRk⟩
   dsimp only at hk hL0 hL1 hRk ⊢
   by_cases hlt : k < l.length
   ·have hdk : decide ((k : Int) < (l.length : Int)) = true := by simpa using hlt
    have hw := wrap_succ (k := k) (by omega)
    obtain ⟨hr0, hg0⟩ := row_enc l hlt
    have hmem := List.getElem_mem hlt
    have hca := szCellS_ac l[k] (hz _ hmem) (hy _ hmem) L hL0 hL1
    have hle := szR_le l[k] L hL0
    rw [szGo_drop l hlt] at hRk
    generalize l[k] = x at *
    by_cases hm : szR x L < 0
    ·rw [if_pos hm] at hRk
     have hdm : decide (szR x L < 0) = true := by simpa using hm
     subst hRk
     refine wRUN (j4 hdk hr0 hg0 hln) ?_
     refine w7 (op_data [] hca) trivial ?_
     refine wRUN hdm ?_
     exact wRet (ret_data []) Tryz.results30
    ·rw [if_neg hm] at hRk
     have hdm : decide (szR x L < 0) = false := by simpa using hm
     refine wRUN (j4 hdk hr0 hg0 hln) ?_
     refine w7 (op_data [] hca) trivial ?_
     refine wRUN (j2 hdm hw) ?_
     refine ⟨(k + 1, szR x L), by dsimp only; omega, ⟨by dsimp only; omega, by dsimp only; omega, by dsimp only; omega, hRk⟩, ?_⟩
     exact wSays (Says.of [] []) hw
   ·have hdk : decide ((k : Int) < (l.length : Int)) = false := by simpa using hlt
    rw [List.drop_eq_nil_of_le (by omega)] at hRk
    have hRL : R = L := hRk
    subst hRL
    refine wRUN (j2 hdk hln) ?_
    exact wRet (ret_data []) Tryz.results30
def madeR (l : List (List CellD)) (k : Nat) : List (List C) := (l.take k).map oslCs ++ List.replicate (l.length - k) [.sl []]
theorem madeR_zero (l : List (List CellD)) : madeR l 0 = List.replicate l.length [.sl []] := by simp [madeR]
theorem madeR_full (l : List (List CellD)) : madeR l l.length = l.map oslCs := by simp [madeR]
theorem madeR_at (l : List (List CellD)) {k : Nat} (h : k < l.length) : (madeR l k)[k]? = some [.sl []] := by
 unfold madeR
 rw [List.getElem?_append_right (by simp; omega), List.length_map, List.length_take, Nat.min_eq_left (by omega), Nat.sub_self, List.getElem?_replicate, if_pos (by omega)]
theorem madeR_rows (l : List (List CellD)) {k : Nat} (h : k < l.length) : rowsAt (madeR l k) 1 k = true := by
 unfold rowsAt
 rw [show ((k : Nat) : Int).toNat = k from rfl, madeR_at l h]
 simp
theorem madeR_set (l : List (List CellD)) {k : Nat} (h : k < l.length) : (madeR l k).set k [.osl (l[k].map CellD.cs)] = madeR l (k + 1) := by
 have hl : ((l.take k).map oslCs).length = k := by simp; omega
 unfold madeR
 rw [List.set_append_right _ _ (by omega), hl, Nat.sub_self, List.take_succ_eq_append_getElem h, List.map_append, List.append_assoc]
 have : l.length - k = (l.length - (k + 1)) + 1 := by omega
 rw [this, List.replicate_succ]
 simp [oslCs]
theorem toCellSS_ac (l : List (List CellD)) (hl : l.length ≤ 1048576) (hy : ∀ x ∈ l, x.length ≤ 1048576) : AC Tryz.prog 32 [.c (.sl (l.map encCs))] [] (.own (0, 0)) [((0, 0), .row true 1 22 (l.map oslCs))] := by
 have hln : (l.map encCs).length = l.length := by simp
 have h2 : (0 : Int) ≤ (l.length : Int) := by omega
 have h3 : (l.length : Int) ≤ 2000000 := by omega
 have hmz := madeR_zero l
 refine wEnter Tryz.func32 Tryz.ntmps32 ?_
 refine wRUN (j3 hln h2 h3) ?_
 refine a_loop (κ := Nat) (fun k => ⟨mkS 0 23 [(0, .c (.sl (l.map encCs))), (3, .own (99, 0)), (4, .c (.int .i64 k))], [((99, 0), .row true 1 22 (madeR l k))]⟩)
  (fun k => k ≤ l.length) (fun k => l.length - k) 0 (Nat.zero_le _) ?_ ?_
 ·exact wSays (Says.of [((99, 0), (7, 0))] []) hmz
 ·intro k hk
  by_cases hlt : k < l.length
  ·have hdk : decide ((k : Int) < (l.length : Int)) = true := by simpa using hlt
   have hw := wrap_succ (k := k) (by omega)
   obtain ⟨hr0, hg0⟩ := row_enc l hlt
   have hmem := List.getElem_mem hlt
   have hca := toCellS_ac l[k] (hy _ hmem)
   have hm1 := madeR_at l hlt
   have hm2 := madeR_rows l hlt
   have hm3 := madeR_set l hlt
   generalize l[k] = x at *
   refine wRUN (j4 hdk hr0 hg0 hln) ?_
   refine w12 (op_rowT [] hca) trivial ?_
   refine wRUN hm2 ?_
   ((with_reducible apply op_give); (iterate 13 (focus (first | (simp only [go_sem, Nat.reduceEqDiff, Nat.reduceAdd, Nat.reduceSub, Nat.reduceLeDiff, Nat.reduceMul, Nat.reduceBEq, Nat.reduceLT, Int.reduceToNat, reduceCtorEq, hm1, List.set_cons_zero, C.plain]; first | done | exact rfl | (and_intros <;> rfl)) | exact rfl | decide))))
   refine wRUN hw ?_
   refine ⟨k + 1, by omega, by omega, ?_⟩
   exact wSays (Says.of [((99, 0), (99, 0))] []) hm3
  ·have hdk : decide ((k : Int) < (l.length : Int)) = false := by simpa using hlt
   have hke : k = l.length := by omega
   subst hke
   have hmf := madeR_full l
   refine wRUN (j2 hdk hln) ?_
   exact wRetOf (ret_of [((0, 0), (99, 0))] []) Tryz.results32 hmf
end Go.Proofs.YtlciedpfjhkkdaaGreatDoor
