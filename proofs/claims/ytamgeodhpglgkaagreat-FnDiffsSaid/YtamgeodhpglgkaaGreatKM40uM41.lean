/- Texts of this proof: M40 M41. -/
import Derived.Test.YtamgeodhpglgkaaGreatKM30uM12
set_option linter.unusedSimpArgs false
namespace Go.Proofs.YtamgeodhpglgkaaGreat
open Go.RowKit
theorem wfL_app' : ∀ {a b : List V}, wfL a → wfL b → wfL (a ++ b)
 | [], _, _, hb => hb
 | _ :: _, _, ha, hb => ⟨ha.1, wfL_app' ha.2 hb⟩
theorem wfL_take' : ∀ {a : List V} (k : Nat), wfL a → wfL (a.take k)
 | _, 0, _ => by simp [wfL]
 | [], _ + 1, _ => trivial
 | _ :: _, k + 1, h => ⟨h.1, wfL_take' k h.2⟩
theorem wfL_drop' : ∀ {a : List V} (k : Nat), wfL a → wfL (a.drop k)
 | _, 0, h => h
 | [], _ + 1, _ => trivial
 | _ :: _, k + 1, h => wfL_drop' (a := _) k h.2
theorem depthL_app' {a b : List V} {D : Nat} (ha : depthL a ≤ D) (hb : depthL b ≤ D) : depthL (a ++ b) ≤ D := depthL_le fun v hv => by
 rcases List.mem_append.1 hv with hv | hv
 ·have := depthL_mem hv; omega
 ·have := depthL_mem hv; omega
theorem run_common {f : V → V → List V → List EditD} {C : V → V} {p : List V} {K D : Nat} (h : Hole C p K (D + 1)) (hD : D ≤ 19) {xs ys : List V} (ha : wfL xs) (hb : wfL ys) (da : depthL xs ≤ D) (db : depthL ys ≤ D) (la : xs.length ≤ 199)
  (hf : ∀ (i : Nat) (x y : V) (C' : V → V) (K' : Nat), i < 200 → x ∈ xs → y ∈ ys → Hole C' (p ++ [numV (i : Int)]) K' D → Runs (f x y (p ++ [numV (i : Int)])) (C' x) (C' y) (K' + x.count + y.count)) :
  ∀ k, k ≤ xs.length → k ≤ ys.length → Runs ((List.range k).flatMap (bothAt f (arrV xs) (arrV ys) p)) (C (arrV xs)) (C (arrV (ys.take k ++ xs.drop k))) (K + 2 + countL xs + countL ys)
 | 0, _, _ => by simpa using runs_nil (C (arrV xs)) _
 | k + 1, hka, hkb => by
  have ih := run_common h hD ha hb da db la hf k (by omega) (by omega)
  rw [List.range_succ, List.flatMap_append]
  refine runs_app ih ?_
  have hL : (ys.take k ++ xs.drop k).length = xs.length := by rw [List.length_append, List.length_take, List.length_drop]; omega
  have hi : k < (ys.take k ++ xs.drop k).length := by omega
  have hd1 : depthL (ys.take k ++ xs.drop k) ≤ D := depthL_app' (Nat.le_trans (depthL_take_le ys k) db) (Nat.le_trans (depthL_drop k xs) da)
  have H := hole_idx h hi (by omega) (wfL_app' (wfL_take' k hb) (wfL_drop' k ha)) hd1 hD
  have hr := hf k xs[k] ys[k] _ _ (by omega) (List.getElem_mem _) (List.getElem_mem _) H
  have hbl : (ys.take k).length = k := by rw [List.length_take]; omega
  have e1 : ∀ u : V, (ys.take k ++ xs.drop k).set k u = ys.take k ++ u :: xs.drop (k + 1) := fun u => by
   rw [List.drop_eq_getElem_cons (by omega : k < xs.length), List.set_append_right _ _ (by omega), hbl, Nat.sub_self, List.set_cons_zero]
  have e2 : (ys.take k ++ xs.drop k)[k] = xs[k] := by
   rw [List.getElem_append_right (by omega)]
   simp [hbl]
  have e3 : ys.take k ++ xs[k] :: xs.drop (k + 1) = ys.take k ++ xs.drop k := by rw [← List.drop_eq_getElem_cons (by omega : k < xs.length)]
  have e4 : ys.take k ++ ys[k] :: xs.drop (k + 1) = ys.take (k + 1) ++ xs.drop (k + 1) := by
   rw [List.take_succ_eq_append_getElem (show k < ys.length by omega), List.append_assoc]
   rfl
  simp only [e1, e3, e4] at hr
  have hc1 : countL (ys.take k ++ xs.drop k) = countL (ys.take k) + countL (xs.drop k) := countL_app _ _
  have hc2 : countL (ys.take (k + 1)) = countL (ys.take k) + ys[k].count := by rw [List.take_succ_eq_append_getElem (by omega), countL_snoc]
  have hc3 := countL_take_le ys (k + 1)
  have hc4 := countL_drop k xs
  have hc5 := countL_mem (List.getElem_mem hi)
  rw [e2] at hr hc5
  have hl1 : (arrV xs).kids.getD k nullV = xs[k] := by show xs.getD k nullV = _; simp [List.getD_eq_getElem?_getD, List.getElem?_eq_getElem (show k < xs.length by omega)]
  have hl2 : (arrV ys).kids.getD k nullV = ys[k] := by show ys.getD k nullV = _; simp [List.getD_eq_getElem?_getD, List.getElem?_eq_getElem (show k < ys.length by omega)]
  simp only [List.flatMap_cons, List.flatMap_nil, List.append_nil]
  unfold bothAt
  rw [hl1, hl2]
  exact runs_more hr (by omega)
theorem run_drops {C : V → V} {p : List V} {K D : Nat} (h : Hole C p K (D + 1)) (hp : ∀ q ∈ p, sKey q) (hpl : p.length ≤ 50) {xs l : List V} (hl : l.length = xs.length) (hw : wfL l) (hd : depthL l ≤ D) (ln : l.length ≤ 199) {N : Nat} (hN : K + 1 + countL l ≤ N) :
  ∀ j, j ≤ l.length → Runs ((List.range j).map (dropsAt (arrV xs) p)) (C (arrV l)) (C (arrV (l.take (l.length - j)))) N
 | 0, _ => by
  have e : l.take (l.length - 0) = l := List.take_of_length_le (by omega)
  rw [e]
  exact runs_nil _ _
 | j + 1, hj => by
  have ih := run_drops h hp hpl hl hw hd ln hN j (by omega)
  rw [List.range_succ, List.map_append]
  refine runs_app ih ?_
  obtain ⟨m, hm⟩ : ∃ m, m + 1 = l.length - j := ⟨l.length - j - 1, by omega⟩
  have hm2 : l.length - (j + 1) = m := by omega
  have hml : m < l.length := by omega
  rw [← hm, hm2, List.take_succ_eq_append_getElem hml]
  have hmt : (l.take m).length = m := by rw [List.length_take]; omega
  have hde := drop_end (l.take m) l[m]
  rw [hmt] at hde
  have fits : ∀ k, (arrV (l.take k)).wf ∧ (arrV (l.take k)).depth ≤ D + 1 := fun k => by
   have := depthL_take_le l k
   exact ⟨arr_wf (wfL_take' k hw) (by rw [List.length_take]; omega), by simp only [arrV, V.depth]; omega⟩
  have f1 := fits (m + 1)
  rw [List.take_succ_eq_append_getElem hml] at f1
  have hidx : (((arrV xs).kids.length - 1 - j : Nat) : Int) = (m : Int) := by
   show ((xs.length - 1 - j : Nat) : Int) = _
   omega
  have hsk : ∀ q ∈ p ++ [numV (m : Int)], sKey q := sk_snoc hp (sKey_ok (.inr ⟨(m : Int), rfl, by omega, by omega⟩))
  have hcl := countL_take_le l m
  show Runs [dropE (p ++ [numV (((arrV xs).kids.length - 1 - j : Nat) : Int)])] _ _ _
  rw [hidx]
  refine runs_one (fun hv => ?_) (by rw [h.cnt]; simp only [arrV, V.count]; omega)
  rw [step_drop _ hsk (by rw [List.length_append]; simp; omega)]
  refine h.drop _ _ _ (by simp) (show (5 : Int) ≠ 0 by decide) f1.1 f1.2 (fits m).1 (fits m).2 ?_
  rw [hde]
  rw [h.cnt] at hv
  simp only [arrV, V.count, countL_snoc] at hv
  unfold small
  rw [if_pos (by simp only [arrV, V.count]; omega)]
  rfl
theorem run_sets {C : V → V} {p : List V} {K D : Nat} (h : Hole C p K (D + 1)) (hp : ∀ q ∈ p, sKey q) (hpl : p.length ≤ 50) {ys : List V} (hr : ∀ y ∈ ys, y.right) (hw : wfL ys) (hd : depthL ys ≤ D) (hD : D ≤ 19) (ln : ys.length ≤ 199) (m : Nat) {N : Nat} (hN : K + 1 + countL ys ≤ N) :
  ∀ j, m + j ≤ ys.length → Runs ((List.range j).map fun i => setsAt (arrV ys) p (m + i)) (C (arrV (ys.take m))) (C (arrV (ys.take (m + j)))) N
 | 0, _ => runs_nil _ _
 | j + 1, hj => by
  have ih := run_sets h hp hpl hr hw hd hD ln m hN j (by omega)
  rw [List.range_succ, List.map_append]
  refine runs_app ih ?_
  have hk : m + j < ys.length := by omega
  obtain ⟨k, hk'⟩ : ∃ k, m + j = k := ⟨_, rfl⟩
  have hj' : m + (j + 1) = k + 1 := by omega
  simp only [List.map_cons, List.map_nil]
  rw [hj', hk']
  rw [hk'] at hk
  have hkt : (ys.take k).length = k := by rw [List.length_take]; omega
  have fits : ∀ k, (arrV (ys.take k)).wf ∧ (arrV (ys.take k)).depth ≤ D + 1 := fun k => by
   have := depthL_take_le ys k
   exact ⟨arr_wf (wfL_take' k hw) (by rw [List.length_take]; omega), by simp only [arrV, V.depth]; omega⟩
  have f1 := fits k
  have f2 := fits (k + 1)
  have hcl := countL_take_le ys (k + 1)
  have hsk : ∀ q ∈ p ++ [numV (k : Int)], sKey q := sk_snoc hp (sKey_ok (.inr ⟨(k : Int), rfl, by omega, by omega⟩))
  have hg : (arrV ys).kids.getD k nullV = ys[k] := by show ys.getD k nullV = _; simp [List.getD_eq_getElem?_getD, List.getElem?_eq_getElem hk]
  have et : ys.take (k + 1) = ys.take k ++ [ys[k]] := List.take_succ_eq_append_getElem hk
  have hpe := put_end (x := ys[k]) (kids := ys.take k) (by omega) (by rw [← et]; exact f2.1) (by rw [← et]; omega)
  rw [hkt, ← et] at hpe
  unfold setsAt
  rw [hg]
  refine runs_one (fun hv => ?_) (by rw [h.cnt]; simp only [arrV, V.count]; omega)
  rw [step_set _ hsk (by rw [List.length_append]; simp; omega) (hr _ (List.getElem_mem hk))]
  exact h.put _ _ _ _ f1.1 f1.2 f2.1 f2.2 hpe
theorem run_arr {f : V → V → List V → List EditD} {C : V → V} {p : List V} {K D : Nat} (h : Hole C p K (D + 1)) (hD : D ≤ 19) (hp : ∀ q ∈ p, sKey q) (hpl : p.length ≤ 50) {xs ys : List V} (ha : wfL xs) (hb : wfL ys) (da : depthL xs ≤ D) (db : depthL ys ≤ D) (la : xs.length ≤ 199) (lb : ys.length ≤ 199) (hr : ∀ y ∈ ys, y.right)
  (hf : ∀ (i : Nat) (x y : V) (C' : V → V) (K' : Nat), i < 200 → x ∈ xs → y ∈ ys → Hole C' (p ++ [numV (i : Int)]) K' D → Runs (f x y (p ++ [numV (i : Int)])) (C' x) (C' y) (K' + x.count + y.count)) :
  Runs (arrD f (arrV xs) (arrV ys) p) (C (arrV xs)) (C (arrV ys)) (K + 2 + countL xs + countL ys) := by
 unfold arrD
 show Runs ((List.range (min xs.length ys.length)).flatMap (bothAt f (arrV xs) (arrV ys) p) ++ (List.range (xs.length - min xs.length ys.length)).map (dropsAt (arrV xs) p) ++ (List.range (ys.length - min xs.length ys.length)).map (fun j => setsAt (arrV ys) p (min xs.length ys.length + j))) _ _ _
 obtain ⟨m, hm⟩ : ∃ m, min xs.length ys.length = m := ⟨_, rfl⟩
 rw [hm]
 have hmx : m ≤ xs.length := by omega
 have hmy : m ≤ ys.length := by omega
 have r1 := run_common h hD ha hb da db la hf m hmx hmy
 have hyl : (ys.take m).length = m := by rw [List.length_take]; omega
 have hL : (ys.take m ++ xs.drop m).length = xs.length := by rw [List.length_append, hyl, List.length_drop]; omega
 have hc1 : countL (ys.take m ++ xs.drop m) = countL (ys.take m) + countL (xs.drop m) := countL_app _ _
 have hc2 := countL_take_le ys m
 have hc3 := countL_drop m xs
 have r2 := run_drops h hp hpl (xs := xs) hL (wfL_app' (wfL_take' m hb) (wfL_drop' m ha)) (depthL_app' (Nat.le_trans (depthL_take_le ys m) db) (Nat.le_trans (depthL_drop m xs) da)) (by omega) (N := K + 2 + countL xs + countL ys) (by omega) (xs.length - m) (by omega)
 have e2 : (ys.take m ++ xs.drop m).take ((ys.take m ++ xs.drop m).length - (xs.length - m)) = ys.take m := by
  rw [hL, show xs.length - (xs.length - m) = m by omega]
  exact List.take_left' hyl
 rw [e2] at r2
 have r3 := run_sets h hp hpl hr hb db hD lb m (N := K + 2 + countL xs + countL ys) (by omega) (ys.length - m) (by omega)
 have e3 : ys.take (m + (ys.length - m)) = ys := List.take_of_length_le (by omega)
 rw [e3] at r3
 exact runs_app (runs_app r1 r2) r3
abbrev Mem1 := ByteArray × V
def fsts (l : List Mem1) : List ByteArray := l.map Prod.fst
def snds (l : List Mem1) : List V := l.map Prod.snd
def ovV (l : List Mem1) : V := .mk 6 0 ByteArray.empty (fsts l) (snds l)
theorem fsts_app (a b : List Mem1) : fsts (a ++ b) = fsts a ++ fsts b := List.map_append
theorem snds_app (a b : List Mem1) : snds (a ++ b) = snds a ++ snds b := List.map_append
theorem fsts_cons (k : ByteArray) (v : V) (b : List Mem1) : fsts ((k, v) :: b) = k :: fsts b := rfl
theorem fs_len (l : List Mem1) : (fsts l).length = (snds l).length := by unfold fsts snds; rw [List.length_map, List.length_map]
theorem up_one {l : List Mem1} (h : Up (fsts l)) {k : ByteArray} {u v : V} (h1 : (k, u) ∈ l) (h2 : (k, v) ∈ l) : u = v := by
 obtain ⟨i, hi, e1⟩ := List.mem_iff_getElem.1 h1
 obtain ⟨j, hj, e2⟩ := List.mem_iff_getElem.1 h2
 have g1 : (fsts l)[i]? = some k := by unfold fsts; rw [List.getElem?_map, List.getElem?_eq_getElem hi, e1]; rfl
 have g2 : (fsts l)[j]? = some k := by unfold fsts; rw [List.getElem?_map, List.getElem?_eq_getElem hj, e2]; rfl
 have := up_inj h g1 g2
 subst this
 rw [e1] at e2
 exact (Prod.mk.inj e2).2
theorem ov_member {l : List Mem1} (h : Up (fsts l)) {k : ByteArray} {u : V} (h1 : (k, u) ∈ l) : (ovV l).member k = u := by
 obtain ⟨i, hi, e1⟩ := List.mem_iff_getElem.1 h1
 rw [member_memL]
 refine memL_at (i := i) h ?_ ?_
 ·show (fsts l)[i]? = some k
  unfold fsts; rw [List.getElem?_map, List.getElem?_eq_getElem hi, e1]; rfl
 ·show (snds l)[i]? = some u
  unfold snds; rw [List.getElem?_map, List.getElem?_eq_getElem hi, e1]; rfl
theorem ov_none {l : List Mem1} {k : ByteArray} (h : k ∉ fsts l) : (ovV l).member k = nullV := by
 rw [member_memL]
 exact memL_none h
theorem lastKid_mem {l : List Mem1} (h : Up (fsts l)) {k : ByteArray} {u : V} (h1 : (k, u) ∈ l) : lastKid (fsts l) (snds l) k = u := by
 have hk : k ∈ fsts l := List.mem_map.2 ⟨(k, u), h1, rfl⟩
 obtain ⟨j, g1, _, g3⟩ := lastKid_at (fs_len l) hk
 obtain ⟨i, hi, e1⟩ := List.mem_iff_getElem.1 h1
 have q1 : (fsts l)[i]? = some k := by unfold fsts; rw [List.getElem?_map, List.getElem?_eq_getElem hi, e1]; rfl
 have := up_inj h g1 q1
 subst this
 have q2 : (snds l)[j]? = some u := by unfold snds; rw [List.getElem?_map, List.getElem?_eq_getElem hi, e1]; rfl
 rw [q2] at g3
 exact (Option.some.inj g3).symm
theorem ov_set {l r : List Mem1} (hl : Up (fsts l)) (hr : Up (fsts r)) {k : ByteArray} {x : V} (hx : (k, x) ∈ r) (hk : ∀ y, (y ∈ fsts l ∨ y = k) ↔ y ∈ fsts r) (hm : ∀ e ∈ r, e.1 ≠ k → e ∈ l) :
  objV ((ovV l).keys ++ [k]) ((ovV l).kids ++ [x]) = ovV r := by
 show objV (fsts l ++ [k]) (snds l ++ [x]) = _
 unfold objV
 have e : objKeys (fsts l ++ [k]) = fsts r := up_eq (objKeys_up _) hr fun y => by
  rw [objKeys_mem, List.mem_append, List.mem_singleton]
  exact hk y
 rw [e]
 unfold ovV
 congr 1
 unfold snds
 rw [show fsts r = r.map Prod.fst from rfl, List.map_map]
 refine List.map_congr_left fun q hq => ?_
 obtain ⟨y, v⟩ := q
 show lastKid (fsts l ++ [k]) (snds l ++ [x]) y = v
 rw [lastKid_snoc (fs_len l) (by
  rcases (hk y).2 (List.mem_map.2 ⟨(y, v), hq, rfl⟩) with h | h
  ·exact .inr h
  ·exact .inl h)]
 split
 ·rename_i he
  subst he
  exact up_one hr hx hq
 ·rename_i he
  exact lastKid_mem hl (hm _ hq he)
theorem ov_put {L R : List Mem1} {k : ByteArray} {u x : V} (h : Up (fsts (L ++ (k, u) :: R))) : objV ((ovV (L ++ (k, u) :: R)).keys ++ [k]) ((ovV (L ++ (k, u) :: R)).kids ++ [x]) = ovV (L ++ (k, x) :: R) := by
 have e : ∀ v, fsts (L ++ (k, v) :: R) = fsts L ++ k :: fsts R := fun v => by rw [fsts_app, fsts_cons]
 refine ov_set h (by rw [e] at h ⊢; exact h) (List.mem_append.2 (.inr (by simp))) (fun y => ?_) (fun q hq hne => ?_)
 ·rw [e, e]
  exact ⟨fun h => h.elim id fun e => by rw [e]; simp, .inl⟩
 ·rcases List.mem_append.1 hq with hq | hq
  ·exact List.mem_append.2 (.inl hq)
  ·rcases List.mem_cons.1 hq with rfl | hq
   ·exact absurd rfl hne
   ·exact List.mem_append.2 (.inr (List.mem_cons_of_mem _ hq))
theorem ov_new {L R : List Mem1} {k : ByteArray} {x : V} (h : Up (fsts (L ++ (k, x) :: R))) : objV ((ovV (L ++ R)).keys ++ [k]) ((ovV (L ++ R)).kids ++ [x]) = ovV (L ++ (k, x) :: R) := by
 have e : fsts (L ++ (k, x) :: R) = fsts L ++ k :: fsts R := by rw [fsts_app, fsts_cons]
 have hs : Up (fsts (L ++ R)) := by
  rw [e] at h
  rw [fsts_app]
  exact List.Pairwise.sublist (List.Sublist.append (List.Sublist.refl _) (List.sublist_cons_self _ _)) h
 refine ov_set hs h (List.mem_append.2 (.inr (by simp))) (fun y => ?_) (fun q hq hne => ?_)
 ·rw [e, fsts_app]
  simp only [List.mem_append, List.mem_cons]
  constructor
  ·rintro ((h | h) | h)
   ·exact .inl h
   ·exact .inr (.inr h)
   ·exact .inr (.inl h)
  ·rintro (h | h | h)
   ·exact .inl (.inl h)
   ·exact .inr h
   ·exact .inl (.inr h)
 ·rcases List.mem_append.1 hq with hq | hq
  ·exact List.mem_append.2 (.inl hq)
  ·rcases List.mem_cons.1 hq with rfl | hq
   ·exact absurd rfl hne
   ·exact List.mem_append.2 (.inr hq)
theorem up_apart {L R : List Mem1} {k : ByteArray} {u : V} (h : Up (fsts (L ++ (k, u) :: R))) : (∀ e ∈ L, lessB e.1 k = true) ∧ (∀ e ∈ R, lessB k e.1 = true) := by
 rw [fsts_app, fsts_cons] at h
 obtain ⟨_, h2, h3⟩ := List.pairwise_append.1 (show List.Pairwise _ _ from h)
 refine ⟨fun e he => h3 _ (List.mem_map.2 ⟨e, he, rfl⟩) _ (by simp), fun e he => (List.pairwise_cons.1 h2).1 _ (List.mem_map.2 ⟨e, he, rfl⟩)⟩
theorem less_ne {a b : ByteArray} (h : lessB a b = true) : a ≠ b := fun e => by subst e; rw [lessB_irrefl] at h; cases h
theorem ov_drop {L R : List Mem1} {k : ByteArray} {u : V} (h : Up (fsts (L ++ (k, u) :: R))) : dropK (ovV (L ++ (k, u) :: R)) k = ovV (L ++ R) := by
 obtain ⟨h1, h2⟩ := up_apart h
 have hs : Up (fsts (L ++ R)) := by
  rw [fsts_app, fsts_cons] at h
  rw [fsts_app]
  exact List.Pairwise.sublist (List.Sublist.append (List.Sublist.refl _) (List.sublist_cons_self _ _)) h
 have hf : ∀ l : List Mem1, (∀ e ∈ l, e.1 ≠ k) → (fsts l).filter (fun y => !(y.toList == k.toList)) = fsts l := fun l hl => by
  rw [List.filter_eq_self]
  intro y hy
  obtain ⟨e, he, rfl⟩ := List.mem_map.1 hy
  have : (e.1.toList == k.toList) = false := by
   cases hb : e.1.toList == k.toList with
   | false => rfl
   | true => exact absurd (ByteArray_toList_inj (by simpa using hb)) (hl e he)
  rw [this]; rfl
 have hk : (ovV (L ++ (k, u) :: R)).keys.filter (fun y => !(y.toList == k.toList)) = fsts (L ++ R) := by
  show (fsts (L ++ (k, u) :: R)).filter _ = _
  rw [fsts_app, fsts_cons, List.filter_append, List.filter_cons, hf L fun e he => less_ne (h1 e he), hf R fun e he => (less_ne (h2 e he)).symm, fsts_app]
  simp
 unfold dropK
 rw [hk]
 unfold ovV
 congr 1
 show (fsts (L ++ R)).map (ovV (L ++ (k, u) :: R)).member = snds (L ++ R)
 unfold snds
 rw [show fsts (L ++ R) = (L ++ R).map Prod.fst from rfl, List.map_map]
 refine List.map_congr_left fun q hq => ?_
 obtain ⟨y, v⟩ := q
 refine ov_member h ?_
 rcases List.mem_append.1 hq with hq | hq
 ·exact List.mem_append.2 (.inl hq)
 ·exact List.mem_append.2 (.inr (List.mem_cons_of_mem _ hq))
theorem ov_in {L R : List Mem1} {k : ByteArray} {u : V} (h : Up (fsts (L ++ (k, u) :: R))) : (ovV (L ++ (k, u) :: R)).member k = u := ov_member h (List.mem_append.2 (.inr (by simp)))
def cntL (l : List Mem1) : Nat := countL (snds l)
theorem cnt_app (a b : List Mem1) : cntL (a ++ b) = cntL a + cntL b := by unfold cntL; rw [snds_app, countL_app]
theorem cnt_cons (k : ByteArray) (v : V) (b : List Mem1) : cntL ((k, v) :: b) = v.count + cntL b := rfl
theorem cnt_len (l : List Mem1) : l.length ≤ cntL l := by
 have := countL_len (snds l)
 unfold snds at this
 rw [List.length_map] at this
 exact this
theorem ov_count (l : List Mem1) : (ovV l).count = 1 + cntL l := by unfold ovV cntL; rw [V.count]; omega
def FitL (D : Nat) (l : List Mem1) : Prop := ∀ e ∈ l, okText e.1 = true ∧ e.2.wf ∧ e.2.depth ≤ D
theorem ov_fit {D : Nat} {l : List Mem1} (h : Up (fsts l)) (hf : FitL D l) (hl : l.length ≤ 200) : (ovV l).wf ∧ (ovV l).depth ≤ D + 1 := by
 refine ⟨obj_wf (fs_len l) (fun k hk => ?_) h (fun v hv => ?_) (by unfold snds; rw [List.length_map]; exact hl), ?_⟩
 ·obtain ⟨e, he, rfl⟩ := List.mem_map.1 hk
  exact (hf e he).1
 ·obtain ⟨e, he, rfl⟩ := List.mem_map.1 hv
  exact (hf e he).2.1
 ·have : depthL (snds l) ≤ D := depthL_le fun v hv => by
   obtain ⟨e, he, rfl⟩ := List.mem_map.1 hv
   exact (hf e he).2.2
  unfold ovV
  rw [V.depth]
  omega
theorem str_ne3 (k : ByteArray) : ¬ (strV k).kind = 3 := show ¬ (4 : Int) = 3 by decide
theorem put_key {q : List V} {x u v' : V} {L R : List Mem1} {k : ByteArray} (h : Up (fsts (L ++ (k, u) :: R))) (hput : setPathV x q u = small v') (hw : (ovV (L ++ (k, v') :: R)).wf) (hd : (ovV (L ++ (k, v') :: R)).depth ≤ 20) :
  setPathV x (strV k :: q) (ovV (L ++ (k, u) :: R)) = small (ovV (L ++ (k, v') :: R)) := by
 have hg : getKeyV (ovV (L ++ (k, u) :: R)) (strV k).text = okR u := by
  rw [getKey_obj rfl]
  exact congrArg okR (ov_in h)
 unfold setPathV
 rw [if_neg (str_ne3 k), hg]
 show (match setPathV x q u with
  | (_, some r) => setKeyV _ _ r
  | (c, none) => (c, none)) = _
 rw [hput]
 by_cases hc : v'.count ≤ 200
 ·have : small v' = (0, some v') := by unfold small; rw [if_pos hc]; rfl
  rw [this]
  show setKeyV _ _ v' = _
  unfold setKeyV
  rw [if_pos (.inr rfl), show (strV k).text = k from rfl, ov_put h]
  exact give_small hw hd
 ·have h1 : small v' = (2, none) := by unfold small; rw [if_neg hc]; rfl
  have h3 : ¬ (ovV (L ++ (k, v') :: R)).count ≤ 200 := by rw [ov_count, cnt_app, cnt_cons]; omega
  have h4 : small (ovV (L ++ (k, v') :: R)) = (2, none) := by unfold small; rw [if_neg h3]; rfl
  rw [h1, h4]
theorem put_new {x : V} {L R : List Mem1} {k : ByteArray} (h : Up (fsts (L ++ (k, x) :: R))) (hw : (ovV (L ++ (k, x) :: R)).wf) (hd : (ovV (L ++ (k, x) :: R)).depth ≤ 20) :
  setPathV x [strV k] (ovV (L ++ R)) = small (ovV (L ++ (k, x) :: R)) := by
 obtain ⟨h1, h2⟩ := up_apart h
 have hg : getKeyV (ovV (L ++ R)) (strV k).text = okR nullV := by
  rw [getKey_obj rfl]
  refine congrArg okR (ov_none fun hm => ?_)
  obtain ⟨e, he, hk⟩ := List.mem_map.1 hm
  rcases List.mem_append.1 he with he | he
  ·exact less_ne (h1 e he) hk
  ·exact less_ne (h2 e he) hk.symm
 unfold setPathV
 rw [if_neg (str_ne3 k), hg]
 show (match setPathV x [] nullV with
  | (_, some r) => setKeyV _ _ r
  | (c, none) => (c, none)) = _
 rw [setPathV]
 show setKeyV _ _ x = _
 unfold setKeyV
 rw [if_pos (.inr rfl), show (strV k).text = k from rfl, ov_new h]
 exact give_small hw hd
theorem drop_key {q : List V} {u v' : V} {L R : List Mem1} {k : ByteArray} (hq : q ≠ []) (h : Up (fsts (L ++ (k, u) :: R))) (h0 : u.kind ≠ 0) (hdrop : dropPathV q u = small v') (hw : (ovV (L ++ (k, v') :: R)).wf) (hd : (ovV (L ++ (k, v') :: R)).depth ≤ 20) :
  dropPathV (strV k :: q) (ovV (L ++ (k, u) :: R)) = small (ovV (L ++ (k, v') :: R)) := by
 obtain ⟨k', q', rfl⟩ := List.exists_cons_of_ne_nil hq
 have hg : getAtV (ovV (L ++ (k, u) :: R)) (strV k) = (0, some u) := by
  rw [getAt_key rfl, getKey_obj rfl]
  exact congrArg okR (ov_in h)
 rw [dropPathV, hg]
 dsimp only
 rw [if_neg h0, hdrop]
 by_cases hc : v'.count ≤ 200
 ·have e : small v' = (0, some v') := by unfold small; rw [if_pos hc]; rfl
  rw [e]
  dsimp only
  exact put_key (q := []) (x := v') (u := u) h (by rw [setPathV, e]; rfl) hw hd
 ·have h1 : small v' = (2, none) := by unfold small; rw [if_neg hc]; rfl
  have h3 : ¬ (ovV (L ++ (k, v') :: R)).count ≤ 200 := by rw [ov_count, cnt_app, cnt_cons]; omega
  have h4 : small (ovV (L ++ (k, v') :: R)) = (2, none) := by unfold small; rw [if_neg h3]; rfl
  rw [h1, h4]
theorem drop_own {u : V} {L R : List Mem1} {k : ByteArray} (h : Up (fsts (L ++ (k, u) :: R))) : dropPathV [strV k] (ovV (L ++ (k, u) :: R)) = (0, some (ovV (L ++ R))) := by
 rw [dropPathV, if_pos (show (strV k).kind = 4 from rfl)]
 unfold dropKeyV
 rw [if_neg (show ¬ (ovV (L ++ (k, u) :: R)).kind = 0 from show ¬ (6 : Int) = 0 by decide), if_pos (show (ovV (L ++ (k, u) :: R)).kind = 6 from rfl), show (strV k).text = k from rfl, ov_drop h]
 rfl
theorem fit_swap {D : Nat} {L R : List Mem1} {k : ByteArray} {u v : V} (h : FitL D (L ++ (k, u) :: R)) (hw : v.wf) (hd : v.depth ≤ D) : FitL D (L ++ (k, v) :: R) := fun e he => by
 rcases List.mem_append.1 he with he | he
 ·exact h e (List.mem_append.2 (.inl he))
 ·rcases List.mem_cons.1 he with rfl | he
  ·exact ⟨(h (k, u) (List.mem_append.2 (.inr (by simp)))).1, hw, hd⟩
  ·exact h e (List.mem_append.2 (.inr (List.mem_cons_of_mem _ he)))
theorem hole_key {C : V → V} {p : List V} {K D : Nat} (h : Hole C p K (D + 1)) {L R : List Mem1} {k : ByteArray} {u0 : V} (hu : Up (fsts (L ++ (k, u0) :: R))) (hf : FitL D (L ++ (k, u0) :: R)) (hl : (L ++ (k, u0) :: R).length ≤ 200) (hD : D ≤ 19) :
  Hole (fun u => C (ovV (L ++ (k, u) :: R))) (p ++ [strV k]) (K + 1 + cntL L + cntL R) D := by
 have hU : ∀ u : V, Up (fsts (L ++ (k, u) :: R)) := fun u => by
  rw [fsts_app, fsts_cons] at hu ⊢
  exact hu
 have hL : ∀ u : V, (L ++ (k, u) :: R).length ≤ 200 := fun u => by
  rw [List.length_append, List.length_cons] at hl ⊢
  exact hl
 have fit : ∀ u : V, u.wf → u.depth ≤ D → (ovV (L ++ (k, u) :: R)).wf ∧ (ovV (L ++ (k, u) :: R)).depth ≤ D + 1 := fun u h1 h2 => ov_fit (hU u) (fit_swap hf h1 h2) (hL u)
 refine ⟨fun u => ?_, fun u h1 h2 => h.fits _ (fit u h1 h2).1 (fit u h1 h2).2, fun q x u v' h1 h2 h3 h4 h5 => ?_, fun q u v' hq h0 h1 h2 h3 h4 h5 => ?_⟩
 ·rw [h.cnt, ov_count, cnt_app, cnt_cons]
  omega
 ·have f1 := fit u h1 h2
  have f2 := fit v' h3 h4
  rw [List.append_assoc]
  exact h.put _ x _ _ f1.1 f1.2 f2.1 f2.2 (put_key (hU u) h5 f2.1 (by omega))
 ·have f1 := fit u h1 h2
  have f2 := fit v' h3 h4
  rw [List.append_assoc]
  exact h.drop _ _ _ (by simp) (by show (6 : Int) ≠ 0; decide) f1.1 f1.2 f2.1 f2.2 (drop_key hq (hU u) h0 h5 f2.1 (by omega))
end Go.Proofs.YtamgeodhpglgkaaGreat
