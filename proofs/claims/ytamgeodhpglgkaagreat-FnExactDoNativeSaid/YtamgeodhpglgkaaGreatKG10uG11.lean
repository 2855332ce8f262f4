/- Texts of this proof: G10 G11. -/
import Derived.Test.YtamgeodhpglgkaaGreatKE5
import Derived.Test.YtamgeodhpglgkaaGreatKG06uG08
import Derived.Test.YtamgeodhpglgkaaGreatKL1
set_option linter.unusedSimpArgs false
set_option maxHeartbeats 8000000
namespace Go.Proofs.YtamgeodhpglgkaaGreat
open Go.RowKit
theorem markText_ac (m : Nat) (hm : m ≤ 4000000000) : AC Tryz.prog 72 [.c (.int .i64 m)] [] (.c (.str (mText m))) [] := by
 refine AC.of_calls fun S w κ vs hv => ?_
 obtain ⟨v, vs', rfl, ⟨rfl, _⟩, rfl⟩ := hv
 refine (markText_any m hm w).mono ?_
 rintro e w' ⟨rfl, hb⟩
 exact ⟨hb, _, rfl, fun T _ _ => ⟨rfl, rfl⟩⟩
theorem heldCellS_ac (n K : Nat) (hK : K + 5 * n ≤ 3000000000) : AC Tryz.prog 73 [cellsA (marks K n), .c (.int .i64 K)] [] (.c (.int .i64 ((K + 5 * n : Nat) : Int))) [] := by
 refine AC.of_calls fun S w κ vs hv => ?_
 obtain ⟨v, vs', rfl, h1, v2, vs2, rfl, ⟨rfl, _⟩, rfl⟩ := hv
 obtain ⟨A, cap, rfl, _, hc⟩ := cr_cells.1 h1
 rw [marks_len]
 refine (heldCellS_any n cap K A hK S w hc).mono ?_
 rintro e w' ⟨rfl, hb⟩
 exact ⟨hb, _, rfl, fun T _ _ => ⟨rfl, rfl⟩⟩
theorem eqCellS_ac (xs : List CellD) (hl : xs.length ≤ 9223372036854775807) : AC Tryz.prog 16 [cellsA xs, cellsA xs] [] (.c (.bool true)) [] := by
 refine AC.of_calls fun S w κ vs hv => ?_
 obtain ⟨v, vs', rfl, h1, v2, vs2, rfl, h2, rfl⟩ := hv
 obtain ⟨A, cap, rfl, _, hc⟩ := cr_cells.1 h1
 obtain ⟨B, cap', rfl, _, hc'⟩ := cr_cells.1 h2
 refine (eqCellS_same xs hl A B cap cap' S S w hc hc').mono ?_
 rintro e w' ⟨rfl, hb⟩
 exact ⟨hb, _, rfl, fun T _ _ => ⟨rfl, rfl⟩⟩
theorem marks_succ (K n : Nat) : marks K (n + 1) = marks K n ++ [markC (K + 5 * n)] := by simp [marks, List.range_succ]
def markRest (K : Nat) (xs : List CellD) (k : Nat) : List CellD := marks K k ++ xs.drop k
theorem markRest_len {K : Nat} {xs : List CellD} {k : Nat} (h : k ≤ xs.length) : (markRest K xs k).length = xs.length := by simp [markRest, marks_len]; omega
theorem markRest_at {K : Nat} {xs : List CellD} {k : Nat} (h : k < xs.length) : (markRest K xs k)[k]? = some xs[k] := by
 unfold markRest
 rw [List.getElem?_append_right (by rw [marks_len]; omega), marks_len, List.getElem?_drop]
 simp [h]
theorem markRest_succ {K : Nat} {xs : List CellD} {k : Nat} (h : k < xs.length) : (markRest K xs k).set k (markC (K + 5 * k)) = markRest K xs (k + 1) := by
 unfold markRest
 have hd : (xs.drop k).set 0 (markC (K + 5 * k)) = markC (K + 5 * k) :: xs.drop (k + 1) := by rw [List.drop_eq_getElem_cons h]; rfl
 rw [List.set_append_right _ _ (by rw [marks_len]; omega), marks_len, Nat.sub_self, hd, marks_succ]
 simp
set_option maxRecDepth 10000
theorem markCellS_ac (xs : List CellD) (K es : Nat) (e : TypeId) (hes : xs ≠ [] → es = 5) (hK : K + 5 * xs.length ≤ 3000000000) :
  AC Tryz.prog 17 [.own (0, 0), .c (.int .i64 K)] [((0, 0), .row false es e (xs.map CellD.cs))] (.c (.int .i64 ((K + 5 * xs.length : Nat) : Int))) [((0, 0), .row false es e ((marks K xs.length).map CellD.cs))] := by
 have h0 : (markRest K xs 0) = xs := by simp [markRest, marks]
 refine wEnter Tryz.func17 Tryz.ntmps17 ?_
 refine wRUN trivial ?_
 refine a_loop (κ := Nat) (fun k => ⟨mkS 0 50 [(0, .own (0, 0)), (1, .c (.int .i64 ((K + 5 * k : Nat) : Int))), (5, .c (.int .i64 k))],
   [((0, 0), .row false es e ((markRest K xs k).map CellD.cs))]⟩)
  (fun k => k ≤ xs.length) (fun k => xs.length - k) 0 (Nat.zero_le _) ?_ ?_
 ·exact wSays (Says.of [((0, 0), (0, 0))] []) h0
 ·intro k hk
  have hml := markRest_len (K := K) hk
  by_cases hlt : k < xs.length
  ·have h5 : es = 5 := hes (by intro h; rw [h] at hlt; simp at hlt)
   subst h5
   have hd : decide ((k : Int) < (xs.length : Int)) = true := by simpa using hlt
   have hw := wrap_succ (k := k) (by omega)
   have hat := markRest_at (K := K) hlt
   have hnx : ((markRest K xs k).map CellD.cs).set k (markC (K + 5 * k)).cs = (markRest K xs (k + 1)).map CellD.cs := by rw [← List.map_set, markRest_succ hlt]
   have hKn : ((K + 5 * (k + 1) : Nat) : Int) = ((K + 5 * k + 5 : Nat) : Int) := by omega
   have hll : ((markRest K xs k).map CellD.cs).length = xs.length := by rw [List.length_map, hml]
   have hg0 : ((markRest K xs k).map CellD.cs)[k]? = some [.int .i64 xs[k].kind, .int .i64 xs[k].num, .str xs[k].text, .str xs[k].key, .int .i64 xs[k].n] := by rw [List.getElem?_map, hat]; rfl
   simp only [CellD.cs, markC] at hnx
   generalize (markRest K xs k).map CellD.cs = L at *
   have hr0 : rowsAt L 5 k = true := by unfold rowsAt; rw [Int.toNat_natCast, hg0]; simp
   have hg1 : ∀ a b c d e : C, (L.set k [a, b, c, d, e])[k]? = some [a, b, c, d, e] := by intro a b c d e; rw [List.getElem?_set_self (by rw [hll]; exact hlt)]
   have hr1 : ∀ a b c d e : C, rowsAt (L.set k [a, b, c, d, e]) 5 k = true := by intro a b c d e; unfold rowsAt; rw [Int.toNat_natCast, hg1]; simp
   have hs : ∀ x y : List C, (L.set k x).set k y = L.set k y := fun x y => List.set_set ..
   generalize hM : K + 5 * k = M at *
   have w0 := wrap_succ (k := M) (by omega)
   have w1 := wrap_succ (k := M + 1) (by omega)
   have w2 := wrap_succ (k := M + 2) (by omega)
   have w3 := wrap_succ (k := M + 3) (by omega)
   have w4 := wrap_succ (k := M + 4) (by omega)
   refine wRUN (j12 hll hd hr0 hg0 hr1 hg1 hs w0 w1 w2 w3 w4) ?_
   refine w7 (op_data [] (markText_ac (M + 2) (by omega))) trivial ?_
   refine wRUN (j12 hll hd hr0 hg0 hr1 hg1 hs w0 w1 w2 w3 w4) ?_
   refine w7 (op_data [] (markText_ac (M + 3) (by omega))) trivial ?_
   refine wRUN (j2 (j12 hll hd hr0 hg0 hr1 hg1 hs w0 w1 w2 w3 w4) hw) ?_
   refine ⟨k + 1, by omega, by omega, ?_⟩
   exact wSays (Says.of [((0, 0), (0, 0))] []) (j2 hnx hKn)
  ·have hd : decide ((k : Int) < (xs.length : Int)) = false := by simpa using hlt
   have hke : k = xs.length := by omega
   have hall : markRest K xs k = marks K xs.length := by rw [hke]; simp [markRest]
   refine wRUN (j2 hml hd) ?_
   subst hke
   exact wRetOf (ret_of [((0, 0), (0, 0))] []) Tryz.results17 hall
def oslCs (xs : List CellD) : List C := [.osl (xs.map CellD.cs)]
def Nest (w : World) : List (List CellD) → List Value → List Nat → Prop
 | [], vs, bs => vs = [] ∧ bs = []
 | x :: l, vs, bs => ∃ v vs' b1 b2, vs = v :: vs' ∧ bs = b1 ++ b2 ∧ CR w (fun _ => False) (.osl (x.map CellD.cs)) v b1 ∧ Nest w l vs' b2
theorem Nest.length {w : World} : ∀ {l : List (List CellD)} {vs : List Value} {bs : List Nat}, Nest w l vs bs → vs.length = l.length
 | [], vs, bs, h => by rw [h.1]; rfl
 | x :: l, vs, bs, h => by
  obtain ⟨v, vs', b1, b2, rfl, rfl, h1, h2⟩ := h
  simp [Nest.length h2]
theorem Nest.keep {w w' : World} (hz : w.heap.size ≤ w'.heap.size) : ∀ {l : List (List CellD)} {vs : List Value} {bs : List Nat}, (∀ b, b ∈ bs → b < w.heap.size → w'.heap[b]? = w.heap[b]?) → Nest w l vs bs → Nest w' l vs bs
 | [], vs, bs, _, h => h
 | x :: l, vs, bs, hb, h => by
  obtain ⟨v, vs', b1, b2, rfl, rfl, h1, h2⟩ := h
  exact ⟨v, vs', b1, b2, rfl, rfl, CR.keep hz (fun b hf => hf.elim) (fun b hb1 => hb b (by simp [hb1])) h1, Nest.keep hz (fun b hb2 => hb b (by simp [hb2])) h2⟩
theorem Nest.at_ {w : World} : ∀ {l : List (List CellD)} {vs : List Value} {bs : List Nat}, Nest w l vs bs → bs.Nodup → ∀ {i : Nat} (hi : i < l.length), ∃ v bi, vs[i]? = some v ∧ CR w (fun _ => False) (.osl (l[i].map CellD.cs)) v bi ∧ (∀ b, b ∈ bi → b ∈ bs) ∧
  ∀ (w' : World) (y : List CellD), w.heap.size ≤ w'.heap.size → CR w' (fun _ => False) (.osl (y.map CellD.cs)) v bi → (∀ b, b ∈ bs → b ∉ bi → b < w.heap.size → w'.heap[b]? = w.heap[b]?) → Nest w' (l.set i y) vs bs
 | [], vs, bs, _, _, i, hi => by simp at hi
 | x :: l, vs, bs, h, hnd, 0, _ => by
  obtain ⟨v, vs', b1, b2, rfl, rfl, h1, h2⟩ := h
  refine ⟨v, b1, rfl, h1, fun b hb => by simp [hb], fun w' y hz hy hk => ⟨v, vs', b1, b2, rfl, rfl, hy, Nest.keep hz (fun b hb => hk b (by simp [hb]) ?_) h2⟩⟩
  intro hb1
  exact (List.nodup_append.1 hnd).2.2 b hb1 b hb rfl
 | x :: l, vs, bs, h, hnd, i + 1, hi => by
  obtain ⟨v, vs', b1, b2, rfl, rfl, h1, h2⟩ := h
  obtain ⟨v1, bi, g1, g2, g3, g4⟩ := Nest.at_ h2 (List.nodup_append.1 hnd).2.1 (i := i) (by simpa using hi)
  refine ⟨v1, bi, by simpa using g1, by simpa using g2, fun b hb => by simp [g3 b hb], fun w' y hz hy hk => ⟨v, vs', b1, b2, rfl, rfl, CR.keep hz (fun b hf => hf.elim) (fun b hb => hk b (by simp [hb]) ?_) h1, g4 w' y hz hy fun b hb => hk b (by simp [hb])⟩⟩
  intro hbi
  exact (List.nodup_append.1 hnd).2.2 b hb b (g3 b hbi) rfl
theorem get_one {p : Id × AO} {i : Id} {o : AO} (h : Mem.get [p] i = some o) : i = p.1 ∧ o = p.2 := by
 obtain ⟨a, b⟩ := p
 simp only [Mem.get, List.lookup_cons, List.lookup_nil] at h
 split at h
 ·rename_i hq
  exact ⟨by simpa using hq, (Option.some.inj h).symm⟩
 ·cases h
end Go.Proofs.YtamgeodhpglgkaaGreat
