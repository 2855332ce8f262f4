/- Texts of this proof: G10 G11. -/
import Derived.Test.YtlciedpfjhkkdaaGreatDoorKE5
import Derived.Test.YtlciedpfjhkkdaaGreatDoorKG04uG08
import Derived.Test.YtlciedpfjhkkdaaGreatDoorKL1
set_option linter.unusedSimpArgs false
set_option linter.unusedVariables false
set_option linter.unnecessarySimpa false
set_option maxHeartbeats 8000000
namespace Go.Proofs.YtlciedpfjhkkdaaGreatDoor
open Go.RowKit
theorem markText_ac (m : Nat) (hm : m ≤ 4000000000) : AC Tryz.prog 84 [.c (.int .i64 m)] [] (.c (.str (mText m))) [] := by
 refine AC.of_calls fun S w κ vs hv => ?_
 obtain ⟨v, vs', rfl, ⟨rfl, _⟩, rfl⟩ := hv
 refine (markText_any m hm w).mono ?_
 rintro e w' ⟨rfl, hb⟩
 exact ⟨hb, _, rfl, fun T _ _ => ⟨rfl, rfl⟩⟩
theorem heldCellS_ac (n K : Nat) (hK : K + 5 * n ≤ 3000000000) : AC Tryz.prog 43 [cellsA (marks K n), .c (.int .i64 K)] [] (.c (.int .i64 ((K + 5 * n : Nat) : Int))) [] := by
 refine AC.of_calls fun S w κ vs hv => ?_
 obtain ⟨v, vs', rfl, h1, v2, vs2, rfl, ⟨rfl, _⟩, rfl⟩ := hv
 obtain ⟨A, cap, rfl, _, hc⟩ := cr_cells.1 h1
 rw [marks_len]
 refine (heldCellS_any n cap K A hK S w hc).mono ?_
 rintro e w' ⟨rfl, hb⟩
 exact ⟨hb, _, rfl, fun T _ _ => ⟨rfl, rfl⟩⟩
theorem eqCellS_ac (xs : List CellD) (hl : xs.length ≤ 9223372036854775807) : AC Tryz.prog 41 [cellsA xs, cellsA xs] [] (.c (.bool true)) [] := by
 refine AC.of_calls fun S w κ vs hv => ?_
 obtain ⟨v, vs', rfl, h1, v2, vs2, rfl, h2, rfl⟩ := hv
 obtain ⟨A, cap, rfl, _, hc⟩ := cr_cells.1 h1
 obtain ⟨B, cap', rfl, _, hc'⟩ := cr_cells.1 h2
 refine (eqCellS_same xs hl A B cap cap' S S w hc hc').mono ?_
 rintro e w' ⟨rfl, hb⟩
 exact ⟨hb, _, rfl, fun T _ _ => ⟨rfl, rfl⟩⟩
theorem marks_succ (K n : Nat) : marks K (n + 1) = marks K n ++ [markC (K + 5 * n)] := by simp [marks, List.range_succ]
def markRest (K : Nat) (xs : List CellD) (k : Nat) : List CellD := marks K k ++ xs.drop k
theorem markRest_len {K : Nat} {xs : List CellD} {k : Nat} (h : k ≤ xs.length) : (markRest K xs k).length = xs.length := by simp [markRest, marks_len]; omega
theorem markRest_at {K : Nat} {xs : List CellD} {k : Nat} (h : k < xs.length) : (markRest K xs k)[k]? = some xs[k] := by
 unfold markRest
 rw [List.getElem?_append_right (by rw [marks_len]; omega), marks_len, List.getElem?_drop]
 simp [h]
theorem markRest_succ {K : Nat} {xs : List CellD} {k : Nat} (h : k < xs.length) : (markRest K xs k).set k (markC (K + 5 * k)) = markRest K xs (k + 1) := by
 unfold markRest
 have hd : (xs.drop k).set 0 (markC (K + 5 * k)) = markC (K + 5 * k) :: xs.drop (k + 1) := by rw [List.drop_eq_getElem_cons h]; rfl
 rw [List.set_append_right _ _ (by rw [marks_len]; omega), marks_len, Nat.sub_self, hd, marks_succ]
 simp
set_option maxRecDepth 10000
theorem markCellS_ac (xs : List CellD) (K es : Nat) (e : TypeId) (hes : xs ≠ [] → es = 5) (hK : K + 5 * xs.length ≤ 3000000000) :
  AC Tryz.prog 42 [.own (0, 0), .c (.int .i64 K)] [((0, 0), .row false es e (xs.map CellD.cs))] (.c (.int .i64 ((K + 5 * xs.length : Nat) : Int))) [((0, 0), .row false es e ((marks K xs.length).map CellD.cs))] := by
 have h0 : (markRest K xs 0) = xs := by simp [markRest, marks]
 refine wEnter Tryz.func42 Tryz.ntmps42 ?_
 refine wRUN trivial ?_
 refine a_loop (κ := Nat) (fun k => ⟨mkS 0 50 [(0, .own (0, 0)), (1, .c (.int .i64 ((K + 5 * k : Nat) : Int))), (5, .c (.int .i64 k))],
   [((0, 0), .row false es e ((markRest K xs k).map CellD.cs))]⟩)
  (fun k => k ≤ xs.length) (fun k => xs.length - k) 0 (Nat.zero_le _) ?_ ?_
 ·exact wSays (Says.of [((0, 0), (0, 0))] []) h0
 ·intro k hk
  have hml := markRest_len (K := K) hk
  by_cases hlt : k < xs.length
  ·have h5 : es = 5 := hes (by intro h; rw [h] at hlt; simp at hlt)
   subst h5
   have hd : decide ((k : Int) < (xs.length : Int)) = true := by simpa using hlt
   have hw := wrap_succ (k := k) (by omega)
   have hat := markRest_at (K := K) hlt
   have hnx : ((markRest K xs k).map CellD.cs).set k (markC (K + 5 * k)).cs = (markRest K xs (k + 1)).map CellD.cs := by rw [← List.map_set, markRest_succ hlt]
   have hKn : ((K + 5 * (k + 1) : Nat) : Int) = ((K + 5 * k + 5 : Nat) : Int) := by omega
   have hll : ((markRest K xs k).map CellD.cs).length = xs.length := by rw [List.length_map, hml]
   have hg0 : ((markRest K xs k).map CellD.cs)[k]? = some [.int .i64 xs[k].kind, .int .i64 xs[k].num, .str xs[k].text, .str xs[k].key, .int .i64 xs[k].n] := by rw [List.getElem?_map, hat]; rfl
   simp only [CellD.cs, markC] at hnx
   generalize (markRest K xs k).map CellD.cs = L at *
   have hr0 : rowsAt L 5 k = true := by unfold rowsAt; rw [Int.toNat_natCast, hg0]; simp
   have hg1 : ∀ a b c d e : C, (L.set k [a, b, c, d, e])[k]? = some [a, b, c, d, e] := by intro a b c d e; rw [List.getElem?_set_self (by rw [hll]; exact hlt)]
   have hr1 : ∀ a b c d e : C, rowsAt (L.set k [a, b, c, d, e]) 5 k = true := by intro a b c d e; unfold rowsAt; rw [Int.toNat_natCast, hg1]; simp
   have hs : ∀ x y : List C, (L.set k x).set k y = L.set k y := fun x y => List.set_set ..
   generalize hM : K + 5 * k = M at *
   have w0 := wrap_succ (k := M) (by omega)
   have w1 := wrap_succ (k := M + 1) (by omega)
   have w2 := wrap_succ (k := M + 2) (by omega)
   have w3 := wrap_succ (k := M + 3) (by omega)
   have w4 := wrap_succ (k := M + 4) (by omega)
   refine wRUN (j12 hll hd hr0 hg0 hr1 hg1 hs w0 w1 w2 w3 w4) ?_
   refine w7 (op_data [] (markText_ac (M + 2) (by omega))) trivial ?_
   refine wRUN (j12 hll hd hr0 hg0 hr1 hg1 hs w0 w1 w2 w3 w4) ?_
   refine w7 (op_data [] (markText_ac (M + 3) (by omega))) trivial ?_
   refine wRUN (j2 (j12 hll hd hr0 hg0 hr1 hg1 hs w0 w1 w2 w3 w4) hw) ?_
   refine ⟨k + 1, by omega, by omega, ?_⟩
   exact wSays (Says.of [((0, 0), (0, 0))] []) (j2 hnx hKn)
  ·have hd : decide ((k : Int) < (xs.length : Int)) = false := by simpa using hlt
   have hke : k = xs.length := by omega
   have hall : markRest K xs k = marks K xs.length := by rw [hke]; simp [markRest]
   refine wRUN (j2 hml hd) ?_
   subst hke
   exact wRetOf (ret_of [((0, 0), (0, 0))] []) Tryz.results42 hall
theorem markCellS_calls (xs : List CellD) (K : Nat) (hK : K + 5 * xs.length ≤ 3000000000) {w : World} {S : Nat → Prop} {v : Value} {bs : List Nat} (h : CR w S (.osl (xs.map CellD.cs)) v bs) (hlt : ∀ b, b ∈ bs → b < w.heap.size) :
  Calls Tryz.prog 42 #[v, .int .i64 K] w fun e w' => e = .returned (.int .i64 ((K + 5 * xs.length : Nat) : Int)) ∧ (∀ T : Nat → Prop, CR w' T (.osl ((marks K xs.length).map CellD.cs)) v bs) ∧
   (∀ b, b < w.heap.size → b ∉ bs → w'.heap[b]? = w.heap[b]?) ∧ w.heap.size ≤ w'.heap.size ∧ (w'.os = w.os ∧ w'.tape = w.tape ∧ w'.output = w.output) := by
 simp only [CR] at h
 obtain ⟨es, vrows, bs', e, h1, h2, h3, rfl⟩ := h
 obtain ⟨rfl, rfl⟩ := (crss_map crs_cell).1 h1
 rw [List.append_nil] at hlt
 have hes : xs ≠ [] → es = 5 := by
  intro hne
  cases xs with
  | nil => exact absurd rfl hne
  | cons x xs => exact (h2 (vals x) (by simp)).symm
 let Γ : Ctx := ⟨w, fun _ => False, fun b => if v.ownBlock = some b then some (0, 0) else none, fun _ => v, [(0, 0)]⟩
 have how : ∀ b, Γ.ow b = if v.ownBlock = some b then some (0, 0) else none := fun _ => rfl
 have hown : ∀ b i, Γ.ow b = some i → v.ownBlock = some b ∧ i = (0, 0) := by
  intro b i hb
  rw [how] at hb
  split at hb
  ·rename_i hv; exact ⟨hv, (Option.some.inj hb).symm⟩
  ·cases hb
 have hE : Entry Γ [((0, 0), .row false es e (xs.map CellD.cs))] := by
  refine ⟨?_, ?_, rfl⟩
  ·intro i o hi
   have hi' : i = (0, 0) ∧ o = .row false es e (xs.map CellD.cs) := by
    simp only [Mem.get, List.lookup_cons, List.lookup_nil] at hi
    split at hi
    ·rename_i hq
     exact ⟨by simpa using hq, (Option.some.inj hi).symm⟩
    ·cases hi
   obtain ⟨rfl, rfl⟩ := hi'
   refine ⟨xs.map vals, [], (crss_map crs_cell).2 ⟨rfl, rfl⟩, fun _ => rfl, h2, h3, ?_, ?_⟩
   ·show (v.ownBlock.toList ++ []).Nodup
    cases v.ownBlock <;> simp
   ·intro b hb
    have : v.ownBlock = some b := by
     have hb' : b ∈ v.ownBlock.toList ++ [] := hb
     simpa using hb'
    rw [how, if_pos this]
  ·intro b i hb
   obtain ⟨hv, rfl⟩ := hown b i hb
   exact ⟨hlt b (by rw [hv]; simp), _, rfl, rfl⟩
 refine (markCellS_ac xs K es e hes hK Γ [v, .int .i64 K] hE ⟨v, _, rfl, ⟨ownsRow_one h3, _, rfl, fun _ => rfl⟩, _, _, rfl, ⟨rfl, rfl⟩, rfl⟩).mono ?_
 rintro e1 w' ⟨v1, ow, κ, rfl, hx⟩
 obtain ⟨rfl, _⟩ := hx.res
 have hk : κ (0, 0) = v := hx.kap (0, 0) _ _ rfl rfl
 obtain ⟨vrows', bs', c1, c2, c3, c4, c5, c6⟩ := hx.objs (0, 0) _ rfl
 rw [hk] at c4
 refine ⟨rfl, fun T => ?_, fun b hb hn => (hx.frame b hb ?_).1, hx.size, hx.os, hx.tape, hx.output⟩
 ·obtain ⟨rfl, rfl⟩ := (crss_map crs_cell).1 c1
  exact ⟨es, _, [], e, (crss_map crs_cell).2 ⟨rfl, rfl⟩, c3, c4, rfl⟩
 ·rw [how, if_neg]
  intro hv
  exact hn (by rw [hv]; simp)
def oslCs (xs : List CellD) : List C := [.osl (xs.map CellD.cs)]
def Nest (w : World) : List (List CellD) → List Value → List Nat → Prop
 | [], vs, bs => vs = [] ∧ bs = []
 | x :: l, vs, bs => ∃ v vs' b1 b2, vs = v :: vs' ∧ bs = b1 ++ b2 ∧ CR w (fun _ => False) (.osl (x.map CellD.cs)) v b1 ∧ Nest w l vs' b2
theorem cr_osl_any {w : World} {S T : Nat → Prop} {xs : List CellD} {v : Value} {bs : List Nat} (h : CR w S (.osl (xs.map CellD.cs)) v bs) : CR w T (.osl (xs.map CellD.cs)) v bs := by
 simp only [CR] at h ⊢
 obtain ⟨es, vrows, bs', e, h1, h2, h3, h4⟩ := h
 exact ⟨es, vrows, bs', e, (crss_map crs_cell).2 ((crss_map crs_cell).1 h1), h2, h3, h4⟩
theorem nest_of {w : World} {S : Nat → Prop} : ∀ {l : List (List CellD)} {vrows : List (List Value)} {bs : List Nat}, CRss w S (l.map oslCs) vrows bs → ∃ vs, vrows = vs.map (fun v => [v]) ∧ Nest w l vs bs
 | [], vrows, bs, h => by
  simp only [List.map_nil, CRss] at h
  exact ⟨[], by rw [h.1]; rfl, rfl, h.2⟩
 | x :: l, vrows, bs, h => by
  simp only [List.map_cons, CRss] at h
  obtain ⟨r, rs, b1, b2, rfl, rfl, h1, h2⟩ := h
  obtain ⟨vs, rfl, h3⟩ := nest_of h2
  simp only [oslCs, CRs] at h1
  obtain ⟨v, vs', b3, b4, rfl, rfl, h4, rfl, rfl⟩ := h1
  exact ⟨v :: vs, rfl, v, vs, b3, b2, rfl, by simp, cr_osl_any h4, h3⟩
theorem of_nest {w : World} {S : Nat → Prop} : ∀ {l : List (List CellD)} {vs : List Value} {bs : List Nat}, Nest w l vs bs → CRss w S (l.map oslCs) (vs.map fun v => [v]) bs
 | [], vs, bs, h => by
  obtain ⟨rfl, rfl⟩ := h
  exact ⟨rfl, rfl⟩
 | x :: l, vs, bs, h => by
  obtain ⟨v, vs', b1, b2, rfl, rfl, h1, h2⟩ := h
  exact ⟨_, _, b1, b2, rfl, rfl, ⟨v, [], b1, [], rfl, by simp, cr_osl_any h1, rfl, rfl⟩, of_nest h2⟩
theorem Nest.length {w : World} : ∀ {l : List (List CellD)} {vs : List Value} {bs : List Nat}, Nest w l vs bs → vs.length = l.length
 | [], vs, bs, h => by rw [h.1]; rfl
 | x :: l, vs, bs, h => by
  obtain ⟨v, vs', b1, b2, rfl, rfl, h1, h2⟩ := h
  simp [Nest.length h2]
theorem Nest.keep {w w' : World} (hz : w.heap.size ≤ w'.heap.size) : ∀ {l : List (List CellD)} {vs : List Value} {bs : List Nat}, (∀ b, b ∈ bs → b < w.heap.size → w'.heap[b]? = w.heap[b]?) → Nest w l vs bs → Nest w' l vs bs
 | [], vs, bs, _, h => h
 | x :: l, vs, bs, hb, h => by
  obtain ⟨v, vs', b1, b2, rfl, rfl, h1, h2⟩ := h
  exact ⟨v, vs', b1, b2, rfl, rfl, CR.keep hz (fun b hf => hf.elim) (fun b hb1 => hb b (by simp [hb1])) h1, Nest.keep hz (fun b hb2 => hb b (by simp [hb2])) h2⟩
theorem Nest.at_ {w : World} : ∀ {l : List (List CellD)} {vs : List Value} {bs : List Nat}, Nest w l vs bs → bs.Nodup → ∀ {i : Nat} (hi : i < l.length), ∃ v bi, vs[i]? = some v ∧ CR w (fun _ => False) (.osl (l[i].map CellD.cs)) v bi ∧ (∀ b, b ∈ bi → b ∈ bs) ∧
  ∀ (w' : World) (y : List CellD), w.heap.size ≤ w'.heap.size → CR w' (fun _ => False) (.osl (y.map CellD.cs)) v bi → (∀ b, b ∈ bs → b ∉ bi → b < w.heap.size → w'.heap[b]? = w.heap[b]?) → Nest w' (l.set i y) vs bs
 | [], vs, bs, _, _, i, hi => by simp at hi
 | x :: l, vs, bs, h, hnd, 0, _ => by
  obtain ⟨v, vs', b1, b2, rfl, rfl, h1, h2⟩ := h
  refine ⟨v, b1, rfl, h1, fun b hb => by simp [hb], fun w' y hz hy hk => ⟨v, vs', b1, b2, rfl, rfl, hy, Nest.keep hz (fun b hb => hk b (by simp [hb]) ?_) h2⟩⟩
  intro hb1
  exact (List.nodup_append.1 hnd).2.2 b hb1 b hb rfl
 | x :: l, vs, bs, h, hnd, i + 1, hi => by
  obtain ⟨v, vs', b1, b2, rfl, rfl, h1, h2⟩ := h
  obtain ⟨v1, bi, g1, g2, g3, g4⟩ := Nest.at_ h2 (List.nodup_append.1 hnd).2.1 (i := i) (by simpa using hi)
  refine ⟨v1, bi, by simpa using g1, by simpa using g2, fun b hb => by simp [g3 b hb], fun w' y hz hy hk => ⟨v, vs', b1, b2, rfl, rfl, CR.keep hz (fun b hf => hf.elim) (fun b hb => hk b (by simp [hb]) ?_) h1, g4 w' y hz hy fun b hb => hk b (by simp [hb])⟩⟩
  intro hbi
  exact (List.nodup_append.1 hnd).2.2 b hb b (g3 b hbi) rfl
def tot (l : List (List CellD)) : Nat := (l.map List.length).sum
def markL (K : Nat) : List (List CellD) → List (List CellD)
 | [] => []
 | x :: l => marks K x.length :: markL (K + 5 * x.length) l
theorem markL_len : ∀ (K : Nat) (l : List (List CellD)), (markL K l).length = l.length
 | _, [] => rfl
 | K, x :: l => by simp [markL, markL_len]
theorem markL_snoc : ∀ (K : Nat) (l : List (List CellD)) (x : List CellD), markL K (l ++ [x]) = markL K l ++ [marks (K + 5 * tot l) x.length]
 | K, [], x => by simp [markL, tot]
 | K, y :: l, x => by
  simp only [List.cons_append, markL, markL_snoc, tot, List.map_cons, List.sum_cons]
  rw [show K + 5 * y.length + 5 * (l.map List.length).sum = K + 5 * (y.length + (l.map List.length).sum) by omega]
theorem tot_snoc (l : List (List CellD)) (x : List CellD) : tot (l ++ [x]) = tot l + x.length := by simp [tot]
theorem tot_take (l : List (List CellD)) (i : Nat) : tot (l.take i) ≤ tot l := by
 have : tot l = tot (l.take i) + tot (l.drop i) := by
  unfold tot
  rw [← List.sum_append, ← List.map_append, List.take_append_drop]
 omega
def restL (K : Nat) (l : List (List CellD)) (i : Nat) : List (List CellD) := markL K (l.take i) ++ l.drop i
theorem restL_len {K : Nat} {l : List (List CellD)} {i : Nat} (h : i ≤ l.length) : (restL K l i).length = l.length := by simp [restL, markL_len]; omega
theorem restL_at {K : Nat} {l : List (List CellD)} {i : Nat} (h : i < l.length) : (restL K l i)[i]? = some l[i] := by
 have hm : (markL K (l.take i)).length = i := by rw [markL_len, List.length_take]; omega
 unfold restL
 rw [List.getElem?_append_right (by omega), hm, List.getElem?_drop]
 simp [h]
theorem restL_succ {K : Nat} {l : List (List CellD)} {i : Nat} (h : i < l.length) : (restL K l i).set i (marks (K + 5 * tot (l.take i)) l[i].length) = restL K l (i + 1) := by
 have hm : (markL K (l.take i)).length = i := by rw [markL_len, List.length_take]; omega
 have hd : (l.drop i).set 0 (marks (K + 5 * tot (l.take i)) l[i].length) = marks (K + 5 * tot (l.take i)) l[i].length :: l.drop (i + 1) := by rw [List.drop_eq_getElem_cons h]; rfl
 unfold restL
 rw [List.set_append_right _ _ (by omega), hm, Nat.sub_self, hd, List.take_succ_eq_append_getElem h, markL_snoc]
 simp
set_option maxRecDepth 100000 in
theorem markCellSS_calls (l : List (List CellD)) (K : Nat) (hK : K + 5 * tot l ≤ 3000000000) (hl9 : l.length ≤ 1048576) {w : World} {v : Value} {vs : List Value} {bs : List Nat} {e : TypeId} (hn : Nest w l vs bs) (hnd : (v.ownBlock.toList ++ bs).Nodup)
  (hlt : ∀ b, b ∈ v.ownBlock.toList ++ bs → b < w.heap.size) (ho : w.ownsRow 0 e 1 v l.length (vs.map fun v => [v]).flatten) :
  Calls Tryz.prog 34 #[v, .int .i64 K] w fun e1 w' => e1 = .returned (.int .i64 ((K + 5 * tot l : Nat) : Int)) ∧ Nest w' (markL K l) vs bs ∧ (∀ b, b < w.heap.size → b ∉ bs → w'.heap[b]? = w.heap[b]?) ∧ w.heap.size ≤ w'.heap.size ∧ (w'.os = w.os ∧ w'.tape = w.tape ∧ w'.output = w.output) := by
 have hvl := hn.length
 obtain ⟨A, cap, rfl, hcap, _, hrow⟩ := Row.of_owns (T := fun b => v.ownBlock = some b) (xs := vs.map fun v => [v]) (by simp) (by simp [hvl]) (.inl (by decide)) ho (fun b hb => hb)
 have H0 : Hid (∀ (wr : World), (∀ b, b < w.heap.size → b ∉ bs → wr.heap[b]? = w.heap[b]?) → ∀ i (hi : i < l.length) (v1 : Value), vs[i]? = some v1 → ∃ b off, A = some ⟨b, off, none⟩ ∧ wr.cell? ⟨b, off + i, none⟩ = some v1 ∧ b < w.heap.size) := Lib.hid (by
  intro wr hf i hi v1 hv1
  obtain ⟨b, off, hA, hb, hbl, hc⟩ := hrow.2 (by simp [hvl]; omega)
  have hbb : b ∉ bs := by
   intro hbs
   rw [show (Value.slice A l.length cap).ownBlock = some b from hb] at hnd
   simp at hnd
   exact hnd.1 hbs
  refine ⟨b, off, hA, ?_, hbl⟩
  have := hc i [v1] (by simp [hv1]) 0 v1 rfl
  rw [World.cell?_of_block (hf b hbl hbb)]
  simpa using this)
 have HN := Lib.hid hn
 have HD := Lib.hid (List.nodup_append.1 hnd).2.1
 have HL : Hid (∀ b, b ∈ bs → b < w.heap.size) := Lib.hid fun b hb => hlt b (by simp [hb])
 have h0 : restL K l 0 = l := by simp [restL, markL]
 clear hn hnd hlt ho hrow
 go_enter Tryz.func34, Tryz.ntmps34
 go_wp2
 go_loopw [1, 5] (fun kv iv wr => ∃ i M : Nat, iv = .int .i64 i ∧ i ≤ l.length ∧ kv = .int .i64 M ∧ M = K + 5 * tot (l.take i) ∧ Nest wr (restL K l i) vs bs ∧ (∀ b, b < w.heap.size → b ∉ bs → wr.heap[b]? = w.heap[b]?) ∧ w.heap.size ≤ wr.heap.size ∧ (wr.os = w.os ∧ wr.tape = w.tape ∧ wr.output = w.output)) (fun _ iv _ => l.length - (intOf iv).toNat)
 case atStart => exact ⟨0, K, rfl, Nat.zero_le _, rfl, by simp [tot], by rw [h0]; exact HN.out, fun _ _ _ => rfl, Nat.le_refl _, rfl, rfl, rfl⟩
 case round =>
  obtain ⟨i, M, rfl, hi, rfl, hM, hne, hfr, hsz, hst⟩ := hrel
  have hti := tot_take l i
  have HM := Lib.hid hM
  have Hne := Lib.hid hne
  have Hfr := Lib.hid hfr
  have Hst := Lib.hid hst
  clear hM hne hfr hst
  by_cases hlt : i < l.length
  ·have hil : i < (restL K l i).length := by rw [restL_len hi]; exact hlt
   obtain ⟨v1, bi, g1, g2, g3, g4⟩ := Hne.out.at_ HD.out hil
   have hx : (restL K l i)[i] = l[i] := by
    have := restL_at (K := K) hlt
    rw [List.getElem?_eq_getElem hil] at this
    exact Option.some.inj this
   rw [hx] at g2
   obtain ⟨b, off, rfl, hcell, hbl⟩ := H0.out wr Hfr.out i hlt v1 g1
   have htk : tot (l.take (i + 1)) = tot (l.take i) + l[i].length := by rw [List.take_succ_eq_append_getElem hlt, tot_snoc]
   have htk1 := tot_take l (i + 1)
   have HG2 := Lib.hid g2
   have HG3 := Lib.hid g3
   have HG4 := Lib.hid g4
   have hKM : M + 5 * l[i].length ≤ 3000000000 := by rw [HM.out]; omega
   have hblr : b < wr.heap.size := by omega
   have hi0 : (0 : Int) ≤ (i : Int) := by omega
   have hi1 : (i : Int) < (l.length : Int) := by omega
   clear g2 g3 g4 hx hil
   go_wp2_with (go_at_call 42; refine (markCellS_calls l[i] M hKM HG2.out (fun b hb => Nat.lt_of_lt_of_le (HL.out b (HG3.out b hb)) hsz)).mono ?_; rintro e1 w1 ⟨rfl, hy, hf1, hs1, ht1⟩; have Hy := Lib.hid hy; have Hf1 := Lib.hid hf1; have Ht1 := Lib.hid ht1; clear hy hf1 ht1)
   go_roundw
   case rel =>
    refine ⟨i + 1, M + 5 * l[i].length, by go_num, by omega, rfl, by rw [htk, HM.out]; omega, ?_, ?_, by omega, ?_⟩
    ·have := HG4.out w1 _ hs1 (Hy.out _) (fun b hb hnb hbl => Hf1.out b hbl hnb)
     rw [HM.out, restL_succ hlt] at this
     exact this
    ·intro b hbl hnb
     rw [Hf1.out b (by omega) (fun hb => hnb (HG3.out b hb)), Hfr.out b hbl hnb]
    ·exact ⟨Ht1.out.1.trans Hst.out.1, Ht1.out.2.1.trans Hst.out.2.1, Ht1.out.2.2.trans Hst.out.2.2⟩
   case measure => simp [intOf]; omega
  ·have hin : i = l.length := by omega
   have Hin := Lib.hid hin
   clear hin
   go_wp2
   go_ret
   have hall : restL K l i = markL K l := by rw [Hin.out]; simp [restL]
   refine ⟨by rw [HM.out, Hin.out, List.take_length]; rfl, by rw [← hall]; exact Hne.out, Hfr.out, hsz, Hst.out⟩
theorem get_one {p : Id × AO} {i : Id} {o : AO} (h : Mem.get [p] i = some o) : i = p.1 ∧ o = p.2 := by
 obtain ⟨a, b⟩ := p
 simp only [Mem.get, List.lookup_cons, List.lookup_nil] at h
 split at h
 ·rename_i hq
  exact ⟨by simpa using hq, (Option.some.inj h).symm⟩
 ·cases h
theorem markCellSS_ac (l : List (List CellD)) (K : Nat) (e : TypeId) (hK : K + 5 * tot l ≤ 3000000000) (hl9 : l.length ≤ 1048576) :
  AC Tryz.prog 34 [.own (0, 0), .c (.int .i64 K)] [((0, 0), .row true 1 e (l.map oslCs))] (.c (.int .i64 ((K + 5 * tot l : Nat) : Int))) [((0, 0), .row true 1 e ((markL K l).map oslCs))] := by
 intro Γ vals hE hA
 obtain ⟨v, vs1, rfl, ⟨_, o, ho, hv⟩, v2, vs2, rfl, ⟨rfl, _⟩, rfl⟩ := hA
 obtain ⟨_, rfl⟩ := get_one ho
 have hv := hv (by simp)
 subst hv
 obtain ⟨vrows, bs, h1, _, h2, h3, h4, h5⟩ := hE.objs (0, 0) _ rfl
 obtain ⟨vs, rfl, hn⟩ := nest_of h1
 rw [List.length_map] at h3
 refine (markCellSS_calls l K hK hl9 hn h4 (fun b hb => (hE.own b _ (h5 b hb)).1) h3).mono ?_
 rintro e1 w' ⟨rfl, hn', hf, hs, ho1, ho2, ho3⟩
 have hbs : ∀ b, Γ.ow b = none → b ∉ bs := by
  intro b hb hbs
  rw [h5 b (by simp [hbs])] at hb
  cases hb
 have hown : ∀ b, (Γ.κ (0, 0)).ownBlock = some b → b ∉ bs := by
  intro b hb hbs
  rw [hb] at h4
  simp at h4
  exact h4.1 hbs
 refine ⟨_, Γ.ow, Γ.κ, rfl, ⟨⟨rfl, rfl⟩, ?_, ?_, ho1, ho2, ho3, hs, fun b hl hb => ⟨hf b hl (hbs b hb), hb⟩, fun _ _ _ _ _ => rfl⟩⟩
 ·intro i o hi
  obtain ⟨rfl, rfl⟩ := get_one hi
  refine ⟨_, bs, of_nest hn', fun h => (by cases h), h2, ?_, h4, h5⟩
  rw [List.length_map, markL_len]
  exact ownsRow_keep h3 (S := fun b => (Γ.κ (0, 0)).ownBlock = some b) ⟨hs, fun b hb hl => hf b hl (hown b hb)⟩ (fun b hb => hb)
 ·intro b i hb
  obtain ⟨g1, o, g2, g3⟩ := hE.own b i hb
  obtain ⟨rfl, rfl⟩ := get_one g2
  exact ⟨Nat.lt_of_lt_of_le g1 hs, _, rfl, rfl⟩
end Go.Proofs.YtlciedpfjhkkdaaGreatDoor
