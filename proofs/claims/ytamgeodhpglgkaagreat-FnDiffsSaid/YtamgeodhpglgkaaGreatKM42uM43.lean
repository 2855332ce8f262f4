/- Texts of this proof: M42 M43. -/
import Derived.Test.YtamgeodhpglgkaaGreatKM40uM41
set_option linter.unusedSimpArgs false
namespace Go.Proofs.YtamgeodhpglgkaaGreat
open Go.RowKit
theorem up_sub {L R : List Mem1} {k : ByteArray} {u : V} (h : Up (fsts (L ++ (k, u) :: R))) : Up (fsts (L ++ R)) := by
 rw [fsts_app, fsts_cons] at h
 rw [fsts_app]
 exact List.Pairwise.sublist (List.Sublist.append (List.Sublist.refl _) (List.sublist_cons_self _ _)) h
theorem up_put {L R : List Mem1} {k : ByteArray} {u : V} (h : Up (fsts (L ++ R))) (h1 : ∀ e ∈ L, lessB e.1 k = true) (h2 : ∀ e ∈ R, lessB k e.1 = true) : Up (fsts (L ++ (k, u) :: R)) := by
 rw [fsts_app] at h
 rw [fsts_app, fsts_cons]
 obtain ⟨g1, g2, g3⟩ := List.pairwise_append.1 (show List.Pairwise _ _ from h)
 refine List.pairwise_append.2 ⟨g1, List.pairwise_cons.2 ⟨fun y hy => ?_, g2⟩, fun y hy z hz => ?_⟩
 ·obtain ⟨e, he, rfl⟩ := List.mem_map.1 hy
  exact h2 e he
 ·rcases List.mem_cons.1 hz with rfl | hz
  ·obtain ⟨e, he, rfl⟩ := List.mem_map.1 hy
   exact h1 e he
  ·exact g3 y hy z hz
theorem fit_sub {D : Nat} {L R : List Mem1} {e : Mem1} (h : FitL D (L ++ e :: R)) : FitL D (L ++ R) := fun q hq => by
 rcases List.mem_append.1 hq with hq | hq
 ·exact h q (List.mem_append.2 (.inl hq))
 ·exact h q (List.mem_append.2 (.inr (List.mem_cons_of_mem _ hq)))
theorem step_new {C : V → V} {p : List V} {K D : Nat} (h : Hole C p K (D + 1)) (hD : D ≤ 19) (hp : ∀ q ∈ p, sKey q) (hpl : p.length ≤ 50) {L R : List Mem1} {k : ByteArray} {x : V} (hu : Up (fsts (L ++ (k, x) :: R))) (hf : FitL D (L ++ (k, x) :: R)) (hx : x.right) {N : Nat} (hN : K + 1 + cntL L + x.count + cntL R ≤ N) :
  Runs [setE (p ++ [strV k]) x] (C (ovV (L ++ R))) (C (ovV (L ++ (k, x) :: R))) N := by
 have hkt := (hf (k, x) (List.mem_append.2 (.inr (by simp)))).1
 have hsk : ∀ q ∈ p ++ [strV k], sKey q := sk_snoc hp (sKey_str hkt)
 refine runs_one (fun hv => ?_) (by rw [h.cnt, ov_count, cnt_app, cnt_cons]; omega)
 rw [h.cnt, ov_count, cnt_app] at hv
 have l1 := cnt_len L
 have l2 := cnt_len R
 have f1 := ov_fit (up_sub hu) (fit_sub hf) (by rw [List.length_append]; omega)
 have f2 := ov_fit hu hf (by rw [List.length_append, List.length_cons]; omega)
 rw [step_set _ hsk (by rw [List.length_append]; simp; omega) hx]
 exact h.put _ _ _ _ f1.1 f1.2 f2.1 f2.2 (put_new hu f2.1 (by omega))
theorem step_gone {C : V → V} {p : List V} {K D : Nat} (h : Hole C p K (D + 1)) (hp : ∀ q ∈ p, sKey q) (hpl : p.length ≤ 50) {L R : List Mem1} {k : ByteArray} {x : V} (hu : Up (fsts (L ++ (k, x) :: R))) (hf : FitL D (L ++ (k, x) :: R)) {N : Nat} (hN : K + 1 + cntL L + cntL R ≤ N) :
  Runs [dropE (p ++ [strV k])] (C (ovV (L ++ (k, x) :: R))) (C (ovV (L ++ R))) N := by
 have hkt := (hf (k, x) (List.mem_append.2 (.inr (by simp)))).1
 have hsk : ∀ q ∈ p ++ [strV k], sKey q := sk_snoc hp (sKey_str hkt)
 refine runs_one (fun hv => ?_) (by rw [h.cnt, ov_count, cnt_app]; omega)
 rw [h.cnt, ov_count, cnt_app, cnt_cons] at hv
 have l1 := cnt_len L
 have l2 := cnt_len R
 have l3 := count_pos x
 have f1 := ov_fit (up_sub hu) (fit_sub hf) (by rw [List.length_append]; omega)
 have f2 := ov_fit hu hf (by rw [List.length_append, List.length_cons]; omega)
 rw [step_drop _ hsk (by rw [List.length_append]; simp; omega)]
 refine h.drop _ _ _ (by simp) (show (6 : Int) ≠ 0 by decide) f2.1 f2.2 f1.1 f1.2 ?_
 rw [drop_own hu]
 unfold small
 rw [if_pos (by rw [ov_count, cnt_app]; omega)]
 rfl
theorem step_both {f : V → V → List V → List EditD} {C : V → V} {p : List V} {K D : Nat} (h : Hole C p K (D + 1)) (hD : D ≤ 19) {L R : List Mem1} {k : ByteArray} {u v : V} (hu : Up (fsts (L ++ (k, u) :: R))) (hf : FitL D (L ++ (k, u) :: R))
  (hr : ∀ (C' : V → V) (K' : Nat), Hole C' (p ++ [strV k]) K' D → Runs (f u v (p ++ [strV k])) (C' u) (C' v) (K' + u.count + v.count)) {N : Nat} (hN : K + 1 + cntL L + u.count + v.count + cntL R ≤ N) :
  Runs (f u v (p ++ [strV k])) (C (ovV (L ++ (k, u) :: R))) (C (ovV (L ++ (k, v) :: R))) N := fun hv => by
 have hv' := hv
 rw [h.cnt, ov_count, cnt_app, cnt_cons] at hv'
 have l1 := cnt_len L
 have l2 := cnt_len R
 have l3 := count_pos u
 have H := hole_key h hu hf (by rw [List.length_append, List.length_cons]; omega) hD
 exact runs_more (hr _ _ H) (by omega) hv
theorem mergeU_lt {x y : ByteArray} {a b : List ByteArray} (h : lessB x y = true) : mergeU (x :: a) (y :: b) = x :: mergeU a (y :: b) := by
 conv => lhs; unfold mergeU
 rw [if_pos h]
theorem mergeU_same (x : ByteArray) (a b : List ByteArray) : mergeU (x :: a) (x :: b) = x :: mergeU a b := by
 conv => lhs; unfold mergeU
 rw [if_neg (by rw [lessB_irrefl]; decide), if_pos (by simp)]
theorem mergeU_gt {x y : ByteArray} {a b : List ByteArray} (h : lessB y x = true) : mergeU (x :: a) (y :: b) = y :: mergeU (x :: a) b := by
 have n1 : ¬ lessB x y = true := fun h' => by have := lessB_trans h' h; rw [lessB_irrefl] at this; cases this
 have n2 : ¬ (x.toList == y.toList) = true := fun h' => by have e : x = y := ByteArray_toList_inj (by simpa using h'); subst e; exact n1 h
 conv => lhs; unfold mergeU
 rw [if_neg n1, if_neg n2]
theorem run_merge {f : V → V → List V → List EditD} {C : V → V} {p : List V} {K D : Nat} (h : Hole C p K (D + 1)) (hD : D ≤ 19) (hp : ∀ q ∈ p, sKey q) (hpl : p.length ≤ 50) {A B : List Mem1} (hA : Up (fsts A)) (hB : Up (fsts B)) (fA : FitL D A) (fB : FitL D B) (rB : ∀ e ∈ B, e.2.right) {g : ByteArray → List EditD}
  (g1 : ∀ k, k ∈ fsts A → k ∉ fsts B → g k = [dropE (p ++ [strV k])])
  (g2 : ∀ k v, (k, v) ∈ B → k ∉ fsts A → g k = [setE (p ++ [strV k]) v])
  (g3 : ∀ k u v, (k, u) ∈ A → (k, v) ∈ B → g k = f u v (p ++ [strV k]))
  (hf : ∀ k u v, (k, u) ∈ A → (k, v) ∈ B → ∀ (C' : V → V) (K' : Nat), Hole C' (p ++ [strV k]) K' D → Runs (f u v (p ++ [strV k])) (C' u) (C' v) (K' + u.count + v.count)) {N : Nat} :
  ∀ (n : Nat) (P Q A' B' : List Mem1), A'.length + B'.length ≤ n → A = Q ++ A' → B = P ++ B' → Up (fsts (P ++ A')) → (∀ e ∈ Q, ∀ e' ∈ B', lessB e.1 e'.1 = true) → K + 1 + cntL P + cntL A' + cntL B' ≤ N →
   Runs ((mergeU (fsts A') (fsts B')).flatMap g) (C (ovV (P ++ A'))) (C (ovV B)) N := by
 intro n
 induction n with
 | zero =>
  intro P Q A' B' hn ea eb hu hQ hN
  have e1 : A' = [] := List.eq_nil_of_length_eq_zero (by omega)
  have e2 : B' = [] := List.eq_nil_of_length_eq_zero (by omega)
  subst e1; subst e2
  rw [eb]
  have : mergeU (fsts []) (fsts []) = [] := mergeU_left _
  rw [this]
  exact runs_nil _ _
 | succ n ih =>
  intro P Q A' B' hn ea eb hu hQ hN
  have hfit : FitL D (P ++ A') := fun e he => by
   rcases List.mem_append.1 he with he | he
   ·exact fB e (by rw [eb]; exact List.mem_append.2 (.inl he))
   ·exact fA e (by rw [ea]; exact List.mem_append.2 (.inr he))
  have dropCase : ∀ (x : ByteArray) (u : V) (A2 : List Mem1), A' = (x, u) :: A2 → (∀ e ∈ B', lessB x e.1 = true) → mergeU (fsts A') (fsts B') = x :: mergeU (fsts A2) (fsts B') →
    Runs ((mergeU (fsts A') (fsts B')).flatMap g) (C (ovV (P ++ A'))) (C (ovV B)) N := fun x u A2 e2 hlt hm => by
   rw [hm, List.flatMap_cons]
   subst e2
   obtain ⟨a1, a2⟩ := up_apart hu
   have gx : g x = [dropE (p ++ [strV x])] := g1 x (by rw [ea]; exact List.mem_map.2 ⟨(x, u), List.mem_append.2 (.inr (by simp)), rfl⟩) fun hx => by
    obtain ⟨e, he, hex⟩ := List.mem_map.1 hx
    rw [eb] at he
    rcases List.mem_append.1 he with he | he
    ·exact less_ne (a1 e he) hex
    ·exact less_ne (hlt e he) hex.symm
   rw [gx]
   rw [cnt_cons] at hN
   refine runs_app (step_gone h hp hpl hu hfit (by omega)) ?_
   refine ih P (Q ++ [(x, u)]) A2 B' (by simp only [List.length_cons] at hn; omega) (by rw [ea]; simp) eb (up_sub hu) (fun e he e' he' => ?_) (by omega)
   rcases List.mem_append.1 he with he | he
   ·exact hQ e he e' he'
   ·rw [List.mem_singleton.1 he]
    exact hlt e' he'
  have setCase : ∀ (y : ByteArray) (v : V) (B2 : List Mem1), B' = (y, v) :: B2 → (∀ e ∈ A', lessB y e.1 = true) → mergeU (fsts A') (fsts B') = y :: mergeU (fsts A') (fsts B2) →
    Runs ((mergeU (fsts A') (fsts B')).flatMap g) (C (ovV (P ++ A'))) (C (ovV B)) N := fun y v B2 e2 hlt hm => by
   rw [hm, List.flatMap_cons]
   subst e2
   have hB' := hB
   rw [eb] at hB'
   obtain ⟨a1, a2⟩ := up_apart hB'
   have hmem : (y, v) ∈ B := by rw [eb]; exact List.mem_append.2 (.inr (by simp))
   have gy : g y = [setE (p ++ [strV y]) v] := g2 y v hmem fun hx => by
    obtain ⟨e, he, hex⟩ := List.mem_map.1 hx
    rw [ea] at he
    rcases List.mem_append.1 he with he | he
    ·exact less_ne (hQ e he (y, v) (by simp)) hex
    ·exact less_ne (hlt e he) hex.symm
   rw [gy]
   rw [cnt_cons] at hN
   have hu2 : Up (fsts (P ++ (y, v) :: A')) := up_put hu a1 hlt
   have hfit2 : FitL D (P ++ (y, v) :: A') := fun e he => by
    rcases List.mem_append.1 he with he | he
    ·exact hfit e (List.mem_append.2 (.inl he))
    ·rcases List.mem_cons.1 he with rfl | he
     ·exact fB _ hmem
     ·exact hfit e (List.mem_append.2 (.inr he))
   refine runs_app (step_new h hD hp hpl hu2 hfit2 (rB _ hmem) (by omega)) ?_
   have e3 : P ++ (y, v) :: A' = (P ++ [(y, v)]) ++ A' := by simp
   rw [e3] at hu2 ⊢
   refine ih (P ++ [(y, v)]) Q A' B2 (by simp only [List.length_cons] at hn; omega) ea (by rw [eb]; simp) hu2 (fun e he e' he' => hQ e he e' (List.mem_cons_of_mem _ he')) ?_
   rw [cnt_app, cnt_cons]
   show K + 1 + (cntL P + (v.count + 0)) + cntL A' + cntL B2 ≤ N
   omega
  match hA' : A', hB' : B' with
  | [], [] =>
   rw [eb]
   have : mergeU (fsts []) (fsts []) = [] := mergeU_left _
   rw [this]
   exact runs_nil _ _
  | [], (y, v) :: B2 => exact setCase y v B2 rfl (by simp) (by show mergeU [] (y :: fsts B2) = y :: mergeU [] (fsts B2); rw [mergeU_left, mergeU_left])
  | (x, u) :: A2, [] => exact dropCase x u A2 rfl (by simp) (by show mergeU (x :: fsts A2) [] = x :: mergeU (fsts A2) []; rw [mergeU_nil, mergeU_nil])
  | (x, u) :: A2, (y, v) :: B2 =>
   have hA2 := hA
   rw [ea] at hA2
   obtain ⟨_, b2⟩ := up_apart hA2
   have hB2 := hB
   rw [eb] at hB2
   obtain ⟨_, c2⟩ := up_apart hB2
   rcases lessB_tri x y with hl | he | hl
   ·refine dropCase x u A2 rfl (fun e he => ?_) (mergeU_lt hl)
    rcases List.mem_cons.1 he with rfl | he
    ·exact hl
    ·exact lessB_trans hl (c2 e he)
   ·subst he
    have hm : mergeU (fsts ((x, u) :: A2)) (fsts ((x, v) :: B2)) = x :: mergeU (fsts A2) (fsts B2) := mergeU_same _ _ _
    have ma : (x, u) ∈ A := by rw [ea]; exact List.mem_append.2 (.inr (by simp))
    have mb : (x, v) ∈ B := by rw [eb]; exact List.mem_append.2 (.inr (by simp))
    rw [hm, List.flatMap_cons, g3 x u v ma mb]
    rw [cnt_cons, cnt_cons] at hN
    refine runs_app (step_both h hD hu hfit (hf x u v ma mb) (by omega)) ?_
    have hu2 : Up (fsts (P ++ (x, v) :: A2)) := by
     rw [fsts_app, fsts_cons] at hu ⊢
     exact hu
    have e3 : P ++ (x, v) :: A2 = (P ++ [(x, v)]) ++ A2 := by simp
    rw [e3] at hu2 ⊢
    refine ih (P ++ [(x, v)]) (Q ++ [(x, u)]) A2 B2 (by simp only [List.length_cons] at hn; omega) (by rw [ea]; simp) (by rw [eb]; simp) hu2 (fun e he e' he' => ?_) ?_
    ·rcases List.mem_append.1 he with he | he
     ·exact hQ e he e' (List.mem_cons_of_mem _ he')
     ·rw [List.mem_singleton.1 he]
      exact c2 e' he'
    ·rw [cnt_app, cnt_cons]
     show K + 1 + (cntL P + (v.count + 0)) + cntL A2 + cntL B2 ≤ N
     omega
   ·refine setCase y v B2 rfl (fun e he => ?_) (mergeU_gt hl)
    rcases List.mem_cons.1 he with rfl | he
    ·exact hl
    ·exact lessB_trans hl (b2 e he)
theorem run_obj {f : V → V → List V → List EditD} {C : V → V} {p : List V} {K D : Nat} (h : Hole C p K (D + 1)) (hD : D ≤ 19) (hp : ∀ q ∈ p, sKey q) (hpl : p.length ≤ 50) {A B : List Mem1} (hA : Up (fsts A)) (hB : Up (fsts B)) (fA : FitL D A) (fB : FitL D B) (rB : ∀ e ∈ B, e.2.right)
  (hf : ∀ k u v, (k, u) ∈ A → (k, v) ∈ B → ∀ (C' : V → V) (K' : Nat), Hole C' (p ++ [strV k]) K' D → Runs (f u v (p ++ [strV k])) (C' u) (C' v) (K' + u.count + v.count)) :
  Runs ((mergeU (ovV A).keys (ovV B).keys).flatMap (objAt f (ovV A) (ovV B) p)) (C (ovV A)) (C (ovV B)) (K + 1 + cntL A + cntL B) := by
 have nofind : ∀ {l : List Mem1} {k : ByteArray}, k ∉ fsts l → (findKey (ovV l).keys k).isSome = false := fun {l k} hk => by
  cases hb : (findKey (ovV l).keys k).isSome with
  | false => rfl
  | true => exact absurd (find_mem.1 hb) hk
 have yes : ∀ {l : List Mem1} {k : ByteArray} {v : V}, (k, v) ∈ l → (findKey (ovV l).keys k).isSome = true := fun {l k v} hk => find_mem.2 (List.mem_map.2 ⟨(k, v), hk, rfl⟩)
 refine run_merge h hD hp hpl hA hB fA fB rB (g := objAt f (ovV A) (ovV B) p) (fun k h1 h2 => ?_) (fun k v h1 h2 => ?_) (fun k u v h1 h2 => ?_) hf (A.length + B.length) [] [] A B (Nat.le_refl _) rfl rfl hA (by simp) ?_
 ·unfold objAt
  rw [if_pos (nofind h2)]
 ·unfold objAt
  rw [if_neg (by rw [yes h1]; decide), if_pos (nofind h2), ov_member hB h1]
 ·unfold objAt
  rw [if_neg (by rw [yes h2]; decide), if_neg (by rw [yes h1]; decide), ov_member hA h1, ov_member hB h2]
 ·show K + 1 + 0 + cntL A + cntL B ≤ _
  omega
theorem arr_eta {t : V} (h : t.wf) (h5 : t.kind = 5) : t = arrV t.kids := by
 obtain ⟨_, _, h3, h4, h6, _⟩ := right_shape h
 cases t with
 | mk kind num text keys kids =>
  simp only [V.kind, V.num, V.text, V.keys] at h5 h3 h4 h6
  rw [h3 (by omega), h4 (by omega), h6 (by omega), h5]
  rfl
def pairsV (t : V) : List Mem1 := t.keys.zip t.kids
theorem pairs_f {t : V} (h : t.keys.length = t.kids.length) : fsts (pairsV t) = t.keys := by
 unfold fsts pairsV
 exact List.map_fst_zip (by omega)
theorem pairs_s {t : V} (h : t.keys.length = t.kids.length) : snds (pairsV t) = t.kids := by
 unfold snds pairsV
 exact List.map_snd_zip (by omega)
theorem obj_eta {t : V} (h : t.right) (h6 : t.kind = 6) : t = ovV (pairsV t) := by
 obtain ⟨_, _, hl⟩ := right_asc h h6
 obtain ⟨_, _, h3, h4, _, _⟩ := right_shape h.1
 unfold ovV
 rw [pairs_f hl, pairs_s hl]
 cases t with
 | mk kind num text keys kids =>
  simp only [V.kind, V.num, V.text] at h6 h3 h4
  rw [h3 (by omega), h4 (by omega), h6]
  rfl
theorem pairs_mem {t : V} (h : t.right) (h6 : t.kind = 6) {e : Mem1} (he : e ∈ pairsV t) : e.1 ∈ t.keys ∧ e.2 ∈ t.kids := List.of_mem_zip he
theorem diff_runs : ∀ (n : Nat) (a b : V) (C : V → V) (p : List V) (K D : Nat), a.count ≤ n → Hole C p K D → D ≤ 20 → a.right → b.right → a.depth ≤ D → b.depth ≤ D → (∀ q ∈ p, sKey q) → p.length + D ≤ 50 → Runs (diffV n a b p) (C a) (C b) (K + a.count + b.count)
 | 0, a, b, C, p, K, D, hn, _, _, _, _, _, _, _, _ => by have := count_pos a; omega
 | n + 1, a, b, C, p, K, D, hn, h, hD, ha, hb, da, db, hp, hpl => by
  unfold diffV
  have hca := count_node a
  have hda := depth_node a
  have hdb := depth_node b
  obtain ⟨E, rfl⟩ : ∃ E, D = E + 1 := ⟨D - 1, by omega⟩
  split
  ·rename_i h0
   rw [cmp_null.1 h0]
   exact runs_nil _ _
  ·split
   ·rename_i h6
    obtain ⟨ua, ta, la⟩ := right_asc ha h6.1
    obtain ⟨ub, tb, lb⟩ := right_asc hb h6.2
    have fit : ∀ {t : V}, t.right → t.kind = 6 → (∀ k ∈ t.keys, okText k = true) → depthL t.kids ≤ E → FitL E (pairsV t) := fun {t} ht h6 hk hd e he => by
     obtain ⟨m1, m2⟩ := pairs_mem ht h6 he
     have := depthL_mem m2
     exact ⟨hk _ m1, (right_mem ht m2).1, by omega⟩
    have ra : cntL (pairsV a) = countL a.kids := by unfold cntL; rw [pairs_s la]
    have rb : cntL (pairsV b) = countL b.kids := by unfold cntL; rw [pairs_s lb]
    have hcb := count_node b
    have r := run_obj (f := diffV n) h (by omega) hp (by omega) (A := pairsV a) (B := pairsV b) (by rw [pairs_f la]; exact up_of ua) (by rw [pairs_f lb]; exact up_of ub) (fit ha h6.1 ta (by omega)) (fit hb h6.2 tb (by omega)) (fun e he => right_mem hb (pairs_mem hb h6.2 he).2)
     (fun k u v h1 h2 C' K' H => by
      have m1 := (pairs_mem ha h6.1 h1).2
      have m2 := (pairs_mem hb h6.2 h2).2
      have c1 : u.count ≤ countL a.kids := countL_mem m1
      have d1 : u.depth ≤ depthL a.kids := depthL_mem m1
      have d2 : v.depth ≤ depthL b.kids := depthL_mem m2
      refine diff_runs n u v C' _ K' E (by omega) H (by omega) (right_mem ha m1) (right_mem hb m2) (by omega) (by omega) (sk_snoc hp (sKey_str (ta k (pairs_mem ha h6.1 h1).1))) (by rw [List.length_append, List.length_singleton]; omega))
    rw [← obj_eta ha h6.1, ← obj_eta hb h6.2, ra, rb] at r
    exact runs_more r (by omega)
   ·split
    ·rename_i h5
     have hcb := count_node b
     have hla := countL_len a.kids
     have hlb := countL_len b.kids
     have q1 := ha.2.1
     have q2 := hb.2.1
     have r := run_arr (f := diffV n) h (by omega) hp (by omega) (xs := a.kids) (ys := b.kids) (wfL_kids ha.1) (wfL_kids hb.1) (by omega) (by omega) (by omega) (by omega) (fun y hy => right_mem hb hy)
      (fun i u v C' K' hi m1 m2 H => by
       have c1 := countL_mem m1
       have d1 := depthL_mem m1
       have d2 := depthL_mem m2
       refine diff_runs n u v C' _ K' E (by omega) H (by omega) (right_mem ha m1) (right_mem hb m2) (by omega) (by omega) (sk_snoc hp (sKey_num (by omega))) (by rw [List.length_append, List.length_singleton]; omega))
     rw [← arr_eta ha.1 h5.1, ← arr_eta hb.1 h5.2] at r
     exact runs_more r (by omega)
    ·refine runs_one (fun _ => ?_) (by rw [h.cnt]; omega)
     rw [step_set _ hp (by omega) hb]
     have := h.put [] b a b ha.1 da hb.1 db (by rw [setPathV]; unfold small; rw [if_pos hb.2.1])
     rwa [List.append_nil] at this
theorem diff_apply {a b : V} (ha : a.right) (hb : b.right) : applyGo (diffV a.count a b []) a 0 = ((0, 0), some b) ∨ ∃ j, applyGo (diffV a.count a b []) a 0 = ((2, j), none) ∧ 200 < a.count + b.count := by
 have r := diff_runs a.count a b id [] 0 20 (Nat.le_refl _) hole_all (Nat.le_refl _) ha hb ha.2.2 hb.2.2 (by simp) (by simp)
 rcases r ha.2.1 0 with ⟨h, _⟩ | ⟨j, h, hN⟩
 ·exact .inl h
 ·exact .inr ⟨j, h, by omega⟩
theorem diff_nil {a b : V} (ha : a.right) (hb : b.right) : diffV a.count a b [] = [] ↔ a = b := by
 constructor
 ·intro h
  have h1 := diff_apply ha hb
  rw [h] at h1
  rcases h1 with h1 | ⟨j, h1, _⟩
  ·have : (((0 : Int), (0 : Int)), some a) = ((0, 0), some b) := h1
   exact Option.some.inj (Prod.mk.inj this).2
  ·have : (((0 : Int), (0 : Int)), some a) = ((2, j), none) := h1
   cases this
 ·rintro rfl
  obtain ⟨m, hm⟩ : ∃ m, a.count = m + 1 := ⟨a.count - 1, by have := count_pos a; omega⟩
  rw [hm]
  unfold diffV
  rw [if_pos (cmp_null.2 rfl)]
end Go.Proofs.YtamgeodhpglgkaaGreat
