/- Texts of this proof: M26 M30 H14. -/
import Derived.Test.YtpaooephkpjkfaaGreatKM2
import Derived.Test.YtpaooephkpjkfaaGreatKM3
import Derived.Test.YtpaooephkpjkfaaGreatKG55
import Derived.Test.YtpaooephkpjkfaaGreatKG52
import Derived.Test.YtpaooephkpjkfaaGreatKG43
import Derived.Test.YtpaooephkpjkfaaGreatKG45uG25
import Derived.Test.YtpaooephkpjkfaaGreatKG05uG20
import Derived.Test.YtpaooephkpjkfaaGreatKE5
import Derived.Test.YtpaooephkpjkfaaGreatKG49uG22
import Derived.Test.YtpaooephkpjkfaaGreatKG26
import Derived.Test.YtpaooephkpjkfaaGreatKG08
set_option linter.unusedSimpArgs false
set_option linter.unusedVariables false
set_option linter.unnecessarySimpa false
namespace Go.Proofs.YtpaooephkpjkfaaGreat
open Go.RowKit
theorem memL_map {ks : List ByteArray} (h : Up ks) (f : ByteArray → V) {x : ByteArray} (hx : x ∈ ks) : memL ks (ks.map f) x = f x := by
  obtain ⟨i, hi, rfl⟩ := List.mem_iff_getElem.1 hx
  exact memL_at h (List.getElem?_eq_getElem hi) (by rw [List.getElem?_map, List.getElem?_eq_getElem hi]; rfl)
theorem mergeV_plain {a b : V} (h : b.kind ≠ 6) : mergeV a b = b := by
  cases b with
  | mk kind num text keys kids =>
    have h' : ¬ kind = 6 := h
    unfold mergeV
    rw [if_neg h']
theorem mergeV_obj {a b : V} (h : b.kind = 6) : mergeV a b = mergeO (asObj a) b.keys b.kids (mergeL (asObj a) b.keys b.kids) := by
  cases b with
  | mk kind num text keys kids =>
    have h' : kind = 6 := h
    conv => lhs; unfold mergeV
    rw [if_pos h']
    rfl
theorem merge_again : ∀ (n : Nat) (a b : V), b.count ≤ n → a.wf → b.wf → b.fit → mergeV (mergeV a b) b = mergeV a b
  | 0, a, b, hn, _, _, _ => by have := count_pos b; omega
  | n + 1, a, b, hn, ha, hb, hbf => by
    by_cases h6 : b.kind = 6
    · have hup : Up b.keys := by have := obj_up hb; unfold asObj at this; rwa [if_pos h6] at this
      have hlen : b.keys.length = b.kids.length := by have := obj_len hbf; unfold asObj at this; rwa [if_pos h6] at this
      have hAw := wf_obj ha
      have hAu := obj_up ha
      have hck := count_kids b
      rw [mergeV_obj (a := a) h6]
      generalize asObj a = A at *
      obtain ⟨M, hM⟩ : ∃ M, mergeL A b.keys b.kids = M := ⟨_, rfl⟩
      rw [hM]
      obtain ⟨KS, hKS⟩ : ∃ KS, (objKeys (A.keys ++ b.keys)).filter (keepK b.keys b.kids) = KS := ⟨_, rfl⟩
      have hKu : Up KS := by rw [← hKS]; exact up_filter (objKeys_up _) _
      have hr : mergeO A b.keys b.kids M = .mk 6 0 ByteArray.empty KS (KS.map (pickV A b.keys M)) := by unfold mergeO; rw [hKS]
      rw [hr, mergeV_obj h6]
      have hKmem : ∀ x, x ∈ KS ↔ (x ∈ A.keys ∨ x ∈ b.keys) ∧ keepK b.keys b.kids x = true := fun x => by rw [← hKS, List.mem_filter, objKeys_mem, List.mem_append]
      have hrm : ∀ x ∈ KS, (V.mk 6 0 ByteArray.empty KS (KS.map (pickV A b.keys M))).member x = pickV A b.keys M x := fun x hx => memL_map hKu _ hx
      have hao : asObj (V.mk 6 0 ByteArray.empty KS (KS.map (pickV A b.keys M))) = V.mk 6 0 ByteArray.empty KS (KS.map (pickV A b.keys M)) := if_pos rfl
      rw [hao]
      generalize hrr : V.mk 6 0 ByteArray.empty KS (KS.map (pickV A b.keys M)) = r at *
      have hrk : r.keys = KS := by rw [← hrr]; rfl
      have hk2 : (objKeys (r.keys ++ b.keys)).filter (keepK b.keys b.kids) = KS := by
        refine up_eq (up_filter (objKeys_up _) _) hKu fun x => ?_
        rw [List.mem_filter, objKeys_mem, List.mem_append, hrk, hKmem]
        constructor
        · rintro ⟨h | h, h2⟩
          · exact h
          · exact ⟨.inr h, h2⟩
        · rintro ⟨h, h2⟩
          exact ⟨.inl ⟨h, h2⟩, h2⟩
      unfold mergeO
      rw [hk2, ← hrr]
      congr 1
      refine List.map_congr_left fun x hx => ?_
      rw [hrr]
      have hpx := hrm x hx
      unfold pickV at hpx ⊢
      cases hf : (findKey b.keys x).isSome with
      | false =>
        rw [hf] at hpx
        simpa using hpx
      | true =>
        rw [hf] at hpx
        simp only [if_true] at hpx ⊢
        obtain ⟨i, hi, hix⟩ := List.mem_iff_getElem.1 (findKey_iff.1 hf)
        have hi2 : i < b.kids.length := by omega
        have hbx : b.keys[i]? = some x := by rw [List.getElem?_eq_getElem hi, hix]
        have e1 := memL_at hup hbx (mergeL_get r b.keys b.kids i hi hi2)
        have e2 := memL_at hup hbx (mergeL_get A b.keys b.kids i hi hi2)
        rw [hM] at e2
        rw [e1, e2, hix]
        rw [e2, hix] at hpx
        rw [hpx]
        have hmem := countL_mem (List.getElem_mem hi2)
        have hbm : (b.kids[i]).wf := by
          have := wf_member hb x
          rwa [member_memL, memL_at hup hbx (List.getElem?_eq_getElem hi2)] at this
        exact merge_again n (A.member x) b.kids[i] (by omega) (wf_member hAw x) hbm (fit_wf _ hbm)
    · rw [mergeV_plain h6, mergeV_plain h6]
end Go.Proofs.YtpaooephkpjkfaaGreat

/- The plain mathematics of FnPaths: what is put at a path is got there; what is dropped is null. -/
namespace Go.Proofs.YtpaooephkpjkfaaGreat
open Go.RowKit
theorem give_some {t r : V} {c : Int} (h : giveR t = (c, some r)) : c = 0 ∧ r = t ∧ giveR t = okR t := by
  unfold giveR at h ⊢
  split at h
  · rename_i h0
    rw [if_pos h0]
    simp only [Prod.mk.injEq, Option.some.injEq] at h
    exact ⟨h.1.symm, h.2.symm, rfl⟩
  · simp at h
end Go.Proofs.YtpaooephkpjkfaaGreat

/- impl.MergeValues and spec.MergeValues, by the engine. -/
namespace Go.Proofs.YtpaooephkpjkfaaGreat
open Go.RowKit
set_option maxRecDepth 10000
/-- What two slices of cells come to. -/
def mergeR (x y : List CellD) : Int × Option V := match (dec x).2, (dec y).2 with
  | some t, some u => giveR (mergeV t u)
  | _, _ => (bothCode x y, none)
theorem merge_ways (x y : List CellD) : ((dec x).2 = none ∧ (dec x).1 ≠ 0 ∧ mergeR x y = ((dec x).1, none) ∧ bothCode x y = (dec x).1) ∨ (∃ t, dec x = (0, some t) ∧ (dec y).2 = none ∧ (dec y).1 ≠ 0 ∧ mergeR x y = ((dec y).1, none) ∧ bothCode x y = (dec y).1)
    ∨ ∃ t u, dec x = (0, some t) ∧ dec y = (0, some u) ∧ t.right ∧ u.right ∧ x = t.enc ∧ y = u.enc ∧ mergeR x y = giveR (mergeV t u) ∧ bothCode x y = 0 := by
  unfold mergeR bothCode
  rcases dec_cases x with ⟨t, h1⟩ | ⟨c, hc, h1⟩
  · rcases dec_cases y with ⟨u, h2⟩ | ⟨c, hc, h2⟩
    · obtain ⟨e1, a1, a2, a3⟩ := dec_ok h1
      obtain ⟨e2, b1, b2, b3⟩ := dec_ok h2
      refine .inr (.inr ⟨t, u, h1, h2, ⟨a1, a2, a3⟩, ⟨b1, b2, b3⟩, e1, e2, ?_, ?_⟩)
      · rw [h1, h2]
      · rw [h1, h2]; rfl
    · refine .inr (.inl ⟨t, h1, by rw [h2], by rw [h2]; exact hc, ?_, ?_⟩)
      · rw [h1, h2]; rfl
      · rw [h1, h2]; rfl
  · refine .inl ⟨by rw [h1], by rw [h1]; exact hc, ?_, ?_⟩
    · rw [h1]; dsimp only; rw [if_neg hc]
    · rw [h1]; dsimp only; rw [if_neg hc]
theorem specMergeValues_ac (x y : List CellD) : AC Tryz.prog 25 [cellsA x, cellsA y] [] (vrA (mergeR x y)) [] := by
  have hv := l3Both_ac x y
  have bad : ∀ c, c ≠ 0 → bothCode x y = c → mergeR x y = (c, none) → AC Tryz.prog 25 [cellsA x, cellsA y] [] (vrA (mergeR x y)) [] := by
    intro c hc h1 h2
    rw [h1] at hv
    rw [h2, vrA_none]
    have hb : (c != 0) = true := by simpa using hc
    refine wEnter Tryz.func25 Tryz.ntmps25 ?_
    refine wRUN trivial ?_
    refine w7 (op_data [] hv) trivial ?_
    refine wRUN hb ?_
    refine w7 (op_data [] (l3Bad_ac c)) trivial ?_
    refine wRUN trivial ?_
    exact wRet (ret_data []) Tryz.results25
  rcases merge_ways x y with ⟨_, h2, h3, h4⟩ | ⟨t, _, _, h2, h3, h4⟩ | ⟨t, u, hd, hy, ht, hu, hx, hy', h3, h4⟩
  · exact bad _ h2 h4 h3
  · exact bad _ h2 h4 h3
  · rw [h4] at hv
    rw [h3]
    subst hx
    subst hy'
    have h00 : ((0 : Int) != 0) = false := rfl
    have hm := l14Merge_ac u.count t u (Nat.le_refl _) ht hu
    have hl := l1Told_ac (mergeV t u)
    generalize mergeV t u = m at *
    generalize giveR m = r at *
    rcases r with ⟨c, _ | v⟩
    all_goals
      simp only [vrA_some, vrA_none] at hl ⊢
      refine wEnter Tryz.func25 Tryz.ntmps25 ?_
      refine wRUN trivial ?_
      refine w7 (op_data [] hv) trivial ?_
      refine wRUN h00 ?_
      refine w12 (op_rowT [] hm) trivial ?_
      refine w9 (op_shared [(15, 0)] hl) trivial ?_
      refine wRUN trivial ?_
      exact wRet (ret_data []) Tryz.results25
theorem mergeGives_ac {t u : V} (ht : t.right) (hu : u.right) : AC Tryz.prog 71 [t.av, u.av] [] (resA (giveR (mergeV t u))) [] := by
  have hm := merge_ac u.count t u (Nat.le_refl _) ht hu
  have hg := gives_any (merge_fit t u (fit_right ht) (fit_right hu)) (by have := merge_small ht hu; omega)
  generalize mergeV t u = m at *
  generalize giveR m = r at *
  rcases r with ⟨c, _ | v⟩
  all_goals
    simp only [resA_some, resA_none] at hg ⊢
    refine wEnter Tryz.func71 Tryz.ntmps71 ?_
    refine wRUN trivial ?_
    refine w9 (op_shared [] hm) trivial ?_
    refine w9 (op_shared [] hg) trivial ?_
    refine wRUN trivial ?_
    exact wRet (ret_data []) Tryz.results71
theorem implMergeValues_ok (x y : List CellD) (hz : Sized x) (hzy : Sized y) {v : V} (h : mergeR x y = (0, some v)) (hv : v.right) :
    AC Tryz.prog 24 [cellsA x, cellsA y] [] (.agg [.c (.int .i64 0), .own (0, 0)]) [((0, 0), .row false 5 42 (v.enc.map CellD.cs))] := by
  rcases merge_ways x y with ⟨_, h2, h3, h4⟩ | ⟨t, _, _, h2, h3, h4⟩ | ⟨t, u, hd, hy, ht, hu, hx, hy', h3, h4⟩
  · rw [h3] at h; simp at h
  · rw [h3] at h; simp at h
  · rw [h3] at h
    have hg := mergeGives_ac ht hu
    rw [h, resA_some] at hg
    have hw := ofTwo_ac 71 (by simp only [go_sem]) x y hz hzy hd hy hv hg
    refine wEnter Tryz.func24 Tryz.ntmps24 ?_
    refine wRUN trivial ?_
    refine w12 (op_rowT [] hw) trivial ?_
    refine wRUN trivial ?_
    exact wRetOf (ret_of [((0, 0), (7, 0))] []) Tryz.results24 hd
theorem implMergeValues_bad (x y : List CellD) (hz : Sized x) (hzy : Sized y) {c : Int} (hc : c ≠ 0) (h : mergeR x y = (c, none)) :
    AC Tryz.prog 24 [cellsA x, cellsA y] [] (.agg [.c (.int .i64 c), .nils]) [] := by
  have key : AC Tryz.prog 61 [cellsA x, cellsA y, .clo 71 []] [] (.agg [.c (.int .i64 c), .nils]) [] := by
    rcases merge_ways x y with ⟨h1, h2, h3, h4⟩ | ⟨t, hd, h1, h2, h3, h4⟩ | ⟨t, u, hd, hy, ht, hu, hx, hy', h3, h4⟩
    · rw [h3] at h
      simp only [Prod.mk.injEq, and_true] at h
      subst h
      exact ofTwo_none 71 x y hz h1 h2
    · rw [h3] at h
      simp only [Prod.mk.injEq, and_true] at h
      subst h
      exact ofTwo_none2 71 x y hz hzy hd h1 h2
    · rw [h3] at h
      have hg := mergeGives_ac ht hu
      rw [h, resA_none] at hg
      exact ofTwo_no 71 (by simp only [go_sem]) x y hz hzy hd hy hc hg
  refine wEnter Tryz.func24 Tryz.ntmps24 ?_
  refine wRUN trivial ?_
  refine w7 (op_data [] key) trivial ?_
  refine wRUN trivial ?_
  exact wRet (ret_data []) Tryz.results24
end Go.Proofs.YtpaooephkpjkfaaGreat
