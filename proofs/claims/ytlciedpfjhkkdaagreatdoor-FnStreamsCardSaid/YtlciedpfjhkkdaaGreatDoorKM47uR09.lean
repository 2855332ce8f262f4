/- Texts of this proof: M47 E35 R09. -/
import Derived.Test.YtlciedpfjhkkdaaGreatDoorKM13uM43
import Derived.Test.YtlciedpfjhkkdaaGreatDoorKM11uG31
import Derived.Test.YtlciedpfjhkkdaaGreatDoorKE6
import Derived.Laws.IdiomStrings
import Derived.Laws.Strings2
import Derived.Laws.Slices
import Derived.Test.YtlciedpfjhkkdaaGreatDoorKG06uS02
import Derived.Shelf.Strconv.Itoa4
set_option linter.unusedSimpArgs false
set_option linter.unusedVariables false
set_option linter.unnecessarySimpa false
namespace Go.Proofs.YtlciedpfjhkkdaaGreatDoor
open Go.RowKit
def fromGo : List Ev → Nat → V → (Int × Nat) × Option V
 | [], _, v => ((0, 0), some v)
 | (_, none) :: r, i, v => fromGo r (i + 1) v
 | (p, some t) :: r, i, v => match setPathV t p v with
  | (_, some u) => fromGo r (i + 1) u
  | (c, none) => ((c, i), none)
theorem fromGo_end {p : List V} {r : List Ev} {i : Nat} {v : V} : fromGo ((p, none) :: r) i v = fromGo r (i + 1) v := by
 conv => lhs; unfold fromGo
theorem fromGo_ok {p : List V} {t u : V} {r : List Ev} {i : Nat} {v : V} {c : Int} (h : setPathV t p v = (c, some u)) : fromGo ((p, some t) :: r) i v = fromGo r (i + 1) u := by
 conv => lhs; unfold fromGo
 rw [h]
theorem fromGo_bad {p : List V} {t : V} {r : List Ev} {i : Nat} {v : V} {c : Int} (h : setPathV t p v = (c, none)) : fromGo ((p, some t) :: r) i v = ((c, i), none) := by
 conv => lhs; unfold fromGo
 rw [h]
inductive Bld (L D : Nat) : V → List Ev → V → Prop
 | nil (v : V) : Bld L D v [] v
 | skip {v w : V} {p : List V} {r : List Ev} : Bld L D v r w → Bld L D v ((p, none) :: r) w
 | put {v u w t : V} {p : List V} {r : List Ev} : setPathV t p v = small u → u.wf → u.count ≤ L → u.depth ≤ D → Bld L D u r w → Bld L D v ((p, some t) :: r) w
theorem Bld.mono {L D L' D' : Nat} (hL : L ≤ L') (hD : D ≤ D') {v w : V} {l : List Ev} (h : Bld L D v l w) : Bld L' D' v l w := by
 induction h with
 | nil v => exact .nil v
 | skip _ ih => exact .skip ih
 | put h1 h2 h3 h4 _ ih => exact .put h1 h2 (by omega) (by omega) ih
theorem Bld.app {L D : Nat} {v w x : V} {a b : List Ev} (h : Bld L D v a w) (h2 : Bld L D w b x) : Bld L D v (a ++ b) x := by
 induction h with
 | nil v => exact h2
 | skip _ ih => exact .skip (ih h2)
 | put g1 g2 g3 g4 _ ih => exact .put g1 g2 g3 g4 (ih h2)
theorem small_ok {u : V} (h : u.count ≤ 200) : small u = okR u := by unfold small; rw [if_pos h]
theorem Bld.go {L D : Nat} {v w : V} {l : List Ev} (h : Bld L D v l w) (hL : L ≤ 200) : ∀ i, fromGo l i v = ((0, 0), some w) := by
 induction h with
 | nil v => intro i; rfl
 | skip _ ih => intro i; rw [fromGo_end]; exact ih _
 | put g1 g2 g3 g4 _ ih => intro i; rw [fromGo_ok (g1.trans (small_ok (by omega)))]; exact ih _
theorem stream_head : ∀ (t : V), ∃ p x r, t.stream = (p, some x) :: r
 | .mk kind num text keys kids => by
  cases kids with
  | nil => exact ⟨_, _, _, stream_leaf rfl⟩
  | cons k ks =>
   obtain ⟨p, x, r, h⟩ := stream_head k
   have e : (V.mk kind num text keys (k :: ks)).stream = (k.stream.map (evUnder ((V.mk kind num text keys (k :: ks)).keyV 0)) ++ streamL (V.mk kind num text keys (k :: ks)).keyV 1 ks) ++ [([(V.mk kind num text keys (k :: ks)).keyV ((V.mk kind num text keys (k :: ks)).kids.length - 1)], none)] := stream_node rfl
   rw [h] at e
   exact ⟨_, _, _, e⟩
def idxB (v : V) (P : List V) : Prop := v = arrV P ∨ (v = nullV ∧ P = [])
theorem idxB_of {v : V} {P : List V} (h : idxB v P) : (v.kind = 5 ∨ v.kind = 0) ∧ v.kids = P := by
 rcases h with rfl | ⟨rfl, rfl⟩
 ·exact ⟨.inl rfl, rfl⟩
 ·exact ⟨.inr rfl, rfl⟩
theorem put_idx0 {q : List V} {x v' v : V} {P : List V} (hb : idxB v P) (hl : P.length < 200) (hput : setPathV x q nullV = okR v') (hw : (arrV (P ++ [v'])).wf) (hd : (arrV (P ++ [v'])).depth ≤ 20) :
  setPathV x (numV (P.length : Int) :: q) v = small (arrV (P ++ [v'])) := by
 obtain ⟨hk, rfl⟩ := idxB_of hb
 have hf : fromEnd (numV (v.kids.length : Int)).num v.kids.length = (v.kids.length : Int) := by
  unfold fromEnd
  rw [show (numV (v.kids.length : Int)).num = (v.kids.length : Int) from rfl, if_neg (show ¬ ((v.kids.length : Int) < 0) by omega)]
 have hp : padV v.kids v.kids.length = v.kids ++ [nullV] := by
  unfold padV
  rw [show v.kids.length + 1 - v.kids.length = 1 by omega]
  rfl
 have e : setPathV x (numV (v.kids.length : Int) :: q) v = setIdxV v (numV (v.kids.length : Int)).num (setPathV x q) := by
  conv => lhs; unfold setPathV
  rw [if_pos (show (numV (v.kids.length : Int)).kind = 3 from rfl)]
 rw [e]
 unfold setIdxV
 rw [if_pos hk, hf, if_neg (by omega), if_neg (by omega), Int.toNat_natCast]
 have hg : (padV v.kids v.kids.length).getD v.kids.length nullV = nullV := by rw [hp]; simp
 rw [hg, hput]
 show giveR (arrV ((padV v.kids v.kids.length).set v.kids.length v')) = _
 rw [hp, List.set_append_right _ _ (Nat.le_refl _), Nat.sub_self, List.set_cons_zero]
 exact give_small hw hd
theorem arr_all {P : List V} {u : V} {D : Nat} (hP : wfL P) (hl : P.length < 200) (hd : depthL P ≤ D) (hu : u.wf) (hud : u.depth ≤ D) : (arrV (P ++ [u])).wf ∧ (arrV (P ++ [u])).depth ≤ D + 1 ∧ (arrV (P ++ [u])).count = 1 + countL P + u.count := by
 refine ⟨arr_wf (wfL_iff.2 fun x hx => ?_) (by simp; omega), ?_, ?_⟩
 ·rcases List.mem_append.1 hx with hx | hx
  ·exact wfL_iff.1 hP x hx
  ·rw [List.mem_singleton.1 hx]; exact hu
 ·have : depthL (P ++ [u]) ≤ D := depthL_le fun x hx => by
   rcases List.mem_append.1 hx with hx | hx
   ·have := depthL_mem hx; omega
   ·rw [List.mem_singleton.1 hx]; exact hud
  simp only [arrV, V.depth]
  omega
 ·simp only [arrV, V.count, countL_snoc]
  omega
theorem bld_idx1 {L D : Nat} {P : List V} (hP : wfL P) (hl : P.length < 200) (hd : depthL P ≤ D) (hD : D + 1 ≤ 20) {c c' : V} {l : List Ev} (h : Bld L D c l c') :
  Bld (1 + countL P + L) (D + 1) (arrV (P ++ [c])) (l.map (evUnder (numV (P.length : Int)))) (arrV (P ++ [c'])) := by
 induction h with
 | nil v => exact .nil _
 | skip _ ih => exact .skip ih
 | @put v u w t p r g1 g2 g3 g4 _ ih =>
  obtain ⟨a1, a2, a3⟩ := arr_all hP hl hd g2 g4
  have hs : ∀ y : V, (P ++ [v]).set P.length y = P ++ [y] := fun y => by rw [List.set_append_right _ _ (Nat.le_refl _), Nat.sub_self, List.set_cons_zero]
  have hi := put_idx (q := p) (x := t) (u := v) (v' := u) (kids := P ++ [v]) (i := P.length) (by simp) (by simp; omega) g1 (by rw [hs]; exact a1) (by rw [hs]; omega)
  rw [hs, hs] at hi
  exact .put hi a1 (by omega) a2 ih
theorem bld_idx0 {L D : Nat} {P : List V} (hP : wfL P) (hl : P.length < 200) (hd : depthL P ≤ D) (hD : D + 1 ≤ 20) (hL : L ≤ 200) {v c' : V} (hb : idxB v P) {l : List Ev} (hh : ∃ p x r, l = (p, some x) :: r) (h : Bld L D nullV l c') :
  Bld (1 + countL P + L) (D + 1) v (l.map (evUnder (numV (P.length : Int)))) (arrV (P ++ [c'])) := by
 obtain ⟨p, x, r, rfl⟩ := hh
 cases h with
 | put g1 g2 g3 g4 g5 =>
  obtain ⟨a1, a2, a3⟩ := arr_all hP hl hd g2 g4
  exact .put (put_idx0 hb hl (g1.trans (small_ok (by omega))) a1 (by omega)) a1 (by omega) a2 (bld_idx1 hP hl hd hD g5)
theorem bld_arr {D : Nat} (hD : D + 1 ≤ 20) : ∀ (ks P : List V) (v : V), idxB v P → wfL P → wfL ks → P.length + ks.length ≤ 200 → depthL P ≤ D → depthL ks ≤ D → countL ks ≤ 200 → (∀ k ∈ ks, Bld k.count k.depth nullV k.stream k) →
  ∃ w, Bld (1 + countL P + countL ks) (D + 1) v (streamL (fun i => numV (i : Int)) P.length ks) w ∧ idxB w (P ++ ks)
 | [], P, v, hb, _, _, _, _, _, _, _ => ⟨v, .nil v, by rw [List.append_nil]; exact hb⟩
 | k :: ks, P, v, hb, hP, hk, hl, hdP, hdk, hc, h => by
  have d1 : k.depth ≤ D := Nat.le_trans (depthL_mem (List.mem_cons_self ..)) hdk
  have d2 : depthL ks ≤ D := depthL_le fun x hx => Nat.le_trans (depthL_mem (List.mem_cons_of_mem _ hx)) hdk
  have hc1 : k.count + countL ks ≤ 200 := hc
  have hll : P.length + (ks.length + 1) ≤ 200 := hl
  have h1 := bld_idx0 hP (by omega) hdP hD (by omega) hb (stream_head k) ((h k (List.mem_cons_self ..)).mono (Nat.le_refl _) d1)
  obtain ⟨a1, a2, a3⟩ := arr_all hP (by omega) hdP hk.1 d1
  have hP' : wfL (P ++ [k]) := wfL_iff.2 fun x hx => by
   rcases List.mem_append.1 hx with hx | hx
   ·exact wfL_iff.1 hP x hx
   ·rw [List.mem_singleton.1 hx]; exact hk.1
  have hdP' : depthL (P ++ [k]) ≤ D := depthL_le fun x hx => by
   rcases List.mem_append.1 hx with hx | hx
   ·have := depthL_mem hx; omega
   ·rw [List.mem_singleton.1 hx]; exact d1
  obtain ⟨w, h2, h3⟩ := bld_arr hD ks (P ++ [k]) (arrV (P ++ [k])) (.inl rfl) hP' hk.2 (by simp; omega) hdP' d2 (by omega) fun x hx => h x (List.mem_cons_of_mem _ hx)
  refine ⟨w, ?_, ?_⟩
  ·have e : (P ++ [k]).length = P.length + 1 := by simp
   rw [e, countL_snoc] at h2
   show Bld _ _ _ (k.stream.map (evUnder (numV (P.length : Int))) ++ streamL _ (P.length + 1) ks) _
   exact (h1.mono (by simp only [countL]; omega) (Nat.le_refl _)).app (h2.mono (by simp only [countL]; omega) (Nat.le_refl _))
  ·rw [List.append_assoc] at h3
   exact h3
def keyB (v : V) (P : List Mem1) : Prop := v = ovV P ∨ (v = nullV ∧ P = [])
theorem put_key0 {q : List V} {x v' v : V} {P : List Mem1} {k : ByteArray} (hb : keyB v P) (hu : Up (fsts (P ++ [(k, v')]))) (hput : setPathV x q nullV = okR v') (hw : (ovV (P ++ [(k, v')])).wf) (hd : (ovV (P ++ [(k, v')])).depth ≤ 20) :
  setPathV x (strV k :: q) v = small (ovV (P ++ [(k, v')])) := by
 have hu' : Up (fsts (P ++ (k, v') :: [])) := hu
 obtain ⟨h1, _⟩ := up_apart hu'
 have hg : getKeyV v (strV k).text = okR nullV := by
  rcases hb with rfl | ⟨rfl, rfl⟩
  ·rw [getKey_obj rfl]
   refine congrArg okR (ov_none fun hm => ?_)
   obtain ⟨e, he, hk⟩ := List.mem_map.1 hm
   exact less_ne (h1 e he) hk
  ·rfl
 have hn := ov_new hu'
 rw [List.append_nil] at hn
 have hkk : v.kind = 0 ∨ v.kind = 6 := by
  rcases hb with rfl | ⟨rfl, rfl⟩
  ·exact .inr rfl
  ·exact .inl rfl
 have he : objV (v.keys ++ [k]) (v.kids ++ [v']) = ovV (P ++ [(k, v')]) := by
  rcases hb with rfl | ⟨rfl, rfl⟩
  ·exact hn
  ·exact hn
 unfold setPathV
 rw [if_neg (str_ne3 k), hg]
 show (match setPathV x q nullV with
  | (_, some r) => setKeyV _ _ r
  | (c, none) => (c, none)) = _
 rw [hput]
 show setKeyV _ _ v' = _
 unfold setKeyV
 rw [if_pos hkk, show (strV k).text = k from rfl, he]
 exact give_small hw hd
theorem ov_all {P : List Mem1} {k : ByteArray} {u : V} {D : Nat} (hu : Up (fsts (P ++ [(k, u)]))) (hP : FitL D P) (hl : P.length < 200) (hk : okText k = true) (hw : u.wf) (hd : u.depth ≤ D) : (ovV (P ++ [(k, u)])).wf ∧ (ovV (P ++ [(k, u)])).depth ≤ D + 1 ∧ (ovV (P ++ [(k, u)])).count = 1 + cntL P + u.count := by
 have hf : FitL D (P ++ [(k, u)]) := fun e he => by
  rcases List.mem_append.1 he with he | he
  ·exact hP e he
  ·rw [List.mem_singleton.1 he]; exact ⟨hk, hw, hd⟩
 obtain ⟨h1, h2⟩ := ov_fit hu hf (by simp; omega)
 refine ⟨h1, h2, ?_⟩
 rw [ov_count, cnt_app, cnt_cons]
 show 1 + (cntL P + (u.count + 0)) = _
 omega
theorem up_swap {P : List Mem1} {k : ByteArray} {u v : V} (h : Up (fsts (P ++ [(k, u)]))) : Up (fsts (P ++ [(k, v)])) := by
 rw [fsts_app, fsts_cons] at h ⊢
 exact h
theorem bld_key1 {L D : Nat} {P : List Mem1} {k : ByteArray} (hk : okText k = true) (hP : FitL D P) (hl : P.length < 200) (hD : D + 1 ≤ 20) {c c' : V} (hu : Up (fsts (P ++ [(k, c)]))) {l : List Ev} (h : Bld L D c l c') :
  Bld (1 + cntL P + L) (D + 1) (ovV (P ++ [(k, c)])) (l.map (evUnder (strV k))) (ovV (P ++ [(k, c')])) := by
 induction h with
 | nil v => exact .nil _
 | skip _ ih => exact .skip (ih hu)
 | @put v u w t p r g1 g2 g3 g4 _ ih =>
  obtain ⟨a1, a2, a3⟩ := ov_all (up_swap hu) hP hl hk g2 g4
  have hi := put_key (q := p) (x := t) (u := v) (v' := u) (L := P) (R := []) (k := k) hu g1 a1 (by omega)
  exact .put hi a1 (by omega) a2 (ih (up_swap hu))
theorem bld_key0 {L D : Nat} {P : List Mem1} {k : ByteArray} (hk : okText k = true) (hP : FitL D P) (hl : P.length < 200) (hD : D + 1 ≤ 20) (hL : L ≤ 200) {v c' : V} (hu : Up (fsts (P ++ [(k, c')]))) (hb : keyB v P) {l : List Ev} (hh : ∃ p x r, l = (p, some x) :: r) (h : Bld L D nullV l c') :
  Bld (1 + cntL P + L) (D + 1) v (l.map (evUnder (strV k))) (ovV (P ++ [(k, c')])) := by
 obtain ⟨p, x, r, rfl⟩ := hh
 cases h with
 | put g1 g2 g3 g4 g5 =>
  obtain ⟨a1, a2, a3⟩ := ov_all (up_swap hu) hP hl hk g2 g4
  exact .put (put_key0 hb (up_swap hu) (g1.trans (small_ok (by omega))) a1 (by omega)) a1 (by omega) a2 (bld_key1 hk hP hl hD (up_swap hu) g5)
theorem up_front {a b : List Mem1} (h : Up (fsts (a ++ b))) : Up (fsts a) := by
 rw [fsts_app] at h
 exact (List.pairwise_append.1 (show List.Pairwise _ _ from h)).1
theorem bld_obj {D : Nat} (hD : D + 1 ≤ 20) (key : Nat → V) : ∀ (ks P : List Mem1) (v : V), keyB v P → Up (fsts (P ++ ks)) → FitL D P → FitL D ks → P.length + ks.length ≤ 200 → cntL ks ≤ 200 → (∀ j (hj : j < ks.length), key (P.length + j) = strV ks[j].1) → (∀ e ∈ ks, Bld e.2.count e.2.depth nullV e.2.stream e.2) →
  ∃ w, Bld (1 + cntL P + cntL ks) (D + 1) v (streamL key P.length (snds ks)) w ∧ keyB w (P ++ ks)
 | [], P, v, hb, _, _, _, _, _, _, _ => ⟨v, .nil v, by rw [List.append_nil]; exact hb⟩
 | (k, u) :: ks, P, v, hb, hup, hP, hk, hl, hc, hkey, h => by
  obtain ⟨k1, k2, k3⟩ : okText k = true ∧ u.wf ∧ u.depth ≤ D := hk (k, u) (List.mem_cons_self ..)
  have hc1 : u.count + cntL ks ≤ 200 := hc
  have hll : P.length + (ks.length + 1) ≤ 200 := hl
  have hup1 : Up (fsts ((P ++ [(k, u)]) ++ ks)) := by rw [List.append_assoc]; exact hup
  have hu1 := up_front hup1
  have hkey0 : key P.length = strV k := hkey 0 (by simp)
  have hb1 : Bld u.count u.depth nullV u.stream u := h (k, u) (List.mem_cons_self ..)
  have h1 := bld_key0 k1 hP (by omega) hD (by omega) hu1 hb (stream_head u) (hb1.mono (Nat.le_refl _) k3)
  have hP' : FitL D (P ++ [(k, u)]) := fun e he => by
   rcases List.mem_append.1 he with he | he
   ·exact hP e he
   ·rw [List.mem_singleton.1 he]; exact ⟨k1, k2, k3⟩
  obtain ⟨w, h2, h3⟩ := bld_obj hD key ks (P ++ [(k, u)]) (ovV (P ++ [(k, u)])) (.inl rfl) hup1 hP' (fun e he => hk e (List.mem_cons_of_mem _ he)) (by simp; omega) (by omega) (fun j hj => by
   have := hkey (j + 1) (by simp; omega)
   simp only [List.length_append, List.length_singleton]
   rw [show P.length + 1 + j = P.length + (j + 1) by omega, this]
   rfl) fun x hx => h x (List.mem_cons_of_mem _ hx)
  refine ⟨w, ?_, ?_⟩
  ·have e : (P ++ [(k, u)]).length = P.length + 1 := by simp
   rw [e, cnt_app, cnt_cons] at h2
   have h2' : Bld (1 + (cntL P + (u.count + 0)) + cntL ks) (D + 1) (ovV (P ++ [(k, u)])) (streamL key (P.length + 1) (snds ks)) w := h2
   rw [snds_cons]
   show Bld _ _ _ (u.stream.map (evUnder (key P.length)) ++ streamL key (P.length + 1) (snds ks)) _
   rw [hkey0]
   exact (h1.mono (by rw [cnt_cons]; omega) (Nat.le_refl _)).app (h2'.mono (by rw [cnt_cons]; omega) (Nat.le_refl _))
  ·rw [List.append_assoc] at h3
   exact h3
theorem stream_bld : ∀ (n : Nat) (t : V), t.count ≤ n → t.right → Bld t.count t.depth nullV t.stream t
 | 0, t, hn, _ => by have := count_pos t; omega
 | n + 1, t, hn, ht => by
  have hcn := count_node t
  have hdn := depth_node t
  have hkl := kids_len_le ht.2.1
  have hc2 := ht.2.1
  have hd2 := ht.2.2
  cases he : t.kids.isEmpty with
  | true =>
   rw [stream_leaf he]
   refine .put (u := t) ?_ ht.1 (Nat.le_refl _) (Nat.le_refl _) (.nil t)
   rw [small_ok hc2]
   rfl
  | false =>
   rw [stream_node he]
   have hne : t.kids ≠ [] := fun e => by rw [e] at he; cases he
   have hkid : ∀ k ∈ t.kids, Bld k.count k.depth nullV k.stream k := fun k hk => stream_bld n k (by have := countL_mem hk; omega) (right_mem ht hk)
   have hwk : wfL t.kids := wfL_iff.2 fun k hk => (right_mem ht hk).1
   obtain ⟨D, hDe⟩ : ∃ D, t.depth = D + 1 := ⟨depthL t.kids, by omega⟩
   by_cases h6 : t.kind = 6
   ·obtain ⟨ua, ta, la⟩ := right_asc ht h6
    have hs := pairs_s la
    have hcp : cntL (pairsV t) = countL t.kids := by unfold cntL; rw [hs]
    have hlp : (pairsV t).length = t.kids.length := by unfold pairsV; rw [List.length_zip]; omega
    obtain ⟨w, h1, h2⟩ := bld_obj (D := D) (by omega) t.keyV (pairsV t) [] nullV (.inr ⟨rfl, rfl⟩) (by rw [List.nil_append, pairs_f la]; exact up_of ua) (fun e he => absurd he (by simp)) (fun e he => by
      obtain ⟨m1, m2⟩ := pairs_mem ht h6 he
      have := depthL_mem m2
      exact ⟨ta _ m1, (right_mem ht m2).1, by omega⟩) (by simp only [List.length_nil]; omega) (by omega) (fun j hj => by
      have hj' : j < t.kids.length := by omega
      obtain ⟨hk', e⟩ := keyAt_get (right_neat ht) h6 hj'
      show t.keyV (0 + j) = _
      rw [Nat.zero_add]
      unfold V.keyV
      rw [if_pos h6, e]
      have hz : (pairsV t)[j].1 = t.keys[j] := by simp [pairsV]
      rw [hz]) fun e he => hkid _ (pairs_mem ht h6 he).2
    rw [hs, hcp] at h1
    have hw : w = t := by
     rw [List.nil_append] at h2
     rcases h2 with rfl | ⟨_, hp⟩
     ·exact (obj_eta ht h6).symm
     ·rw [hp] at hlp
      exact absurd (List.eq_nil_of_length_eq_zero hlp.symm) hne
    subst hw
    rw [hDe]
    exact (h1.mono (by show 1 + 0 + _ ≤ _; omega) (Nat.le_refl _)).app (.skip (.nil _))
   ·have h5 : t.kind = 5 := Classical.byContradiction fun h => hne ((right_shape ht.1).2.2.2.2.2 h h6)
    have hkey : t.keyV = fun i : Nat => numV (i : Int) := by funext i; unfold V.keyV; rw [if_neg h6]
    obtain ⟨w, h1, h2⟩ := bld_arr (D := D) (by omega) t.kids [] nullV (.inr ⟨rfl, rfl⟩) trivial hwk (by simp only [List.length_nil]; omega) (by simp [depthL]) (by omega) (by omega) hkid
    have hw : w = t := by
     rw [List.nil_append] at h2
     rcases h2 with rfl | ⟨_, hp⟩
     ·exact (arr_eta ht.1 h5).symm
     ·exact absurd hp hne
    subst hw
    rw [hkey, hDe]
    exact (h1.mono (by show 1 + 0 + _ ≤ _; omega) (Nat.le_refl _)).app (.skip (.nil _))
theorem from_stream {t : V} (ht : t.right) : fromGo t.stream 0 nullV = ((0, 0), some t) := (stream_bld t.count t (Nat.le_refl _) ht).go ht.2.1 0
theorem fromGo_right : ∀ (l : List Ev) (i : Nat) (v : V), (∀ e ∈ l, (∀ k ∈ e.1, k.right ∧ (k.kind = 3 ∨ k.kind = 4)) ∧ ∀ t, e.2 = some t → t.right) → v.right → match fromGo l i v with
  | (c, some u) => c = (0, 0) ∧ u.right
  | (c, none) => c.1 ≠ 0
 | [], i, v, _, hv => ⟨rfl, hv⟩
 | (p, none) :: r, i, v, h, hv => by
  rw [fromGo_end]
  exact fromGo_right r (i + 1) v (fun e he => h e (List.mem_cons_of_mem _ he)) hv
 | (p, some t) :: r, i, v, h, hv => by
  obtain ⟨h1, h2⟩ := h (p, some t) (List.mem_cons_self ..)
  have ho := setPath_ok (h2 t rfl) p h1 v hv
  cases hs : setPathV t p v with
  | mk c o =>
   rw [hs] at ho
   cases o with
   | none =>
    rw [fromGo_bad hs]
    exact ho
   | some u =>
    rw [fromGo_ok hs]
    exact fromGo_right r (i + 1) u (fun e he => h e (List.mem_cons_of_mem _ he)) ho.2
end Go.Proofs.YtlciedpfjhkkdaaGreatDoor
namespace Go.Proofs.YtlciedpfjhkkdaaGreatDoor
open Go.RowKit
section
variable {P : Program} {o : Oper} {σ : ASt} {src dst e t : TypeId}
def byteRows (l : List UInt8) : List (List C) := l.map fun b => [.int .u8 (b.toNat : Int)]
theorem byte_row {w : World} {S : Nat → Prop} {b : UInt8} {vr : List Value} {bs : List Nat} (h : CRs w S [.int .u8 (b.toNat : Int)] vr bs) : vr = [.int .u8 (b.toNat : Int)] := by
 simp only [CRs, CR] at h
 obtain ⟨v, vs', b1, b2, rfl, _, ⟨rfl, _⟩, rfl, _⟩ := h
 rfl
theorem run_conv {x : Operand} {i : Id} (l : List UInt8) (hl : l ≠ []) (ho : o.op = .convert src dst x) (hx : σ.ev x = .own i) (hs : P.underlying src = some (.slice e)) (he : P.underlying e = some (.int .u8)) (hd : P.underlying dst = some .string)
  (hi : σ.mem.get i = some (.row false 1 t (byteRows l))) : OpRun P o σ ⟨[i], [], .c (.str ⟨l.toArray⟩)⟩ := by
 refine OpRun.pure fun Γ σ' a w ow κ hag hr => ?_
 have hi' : σ'.mem.get i = some (.row false 1 t (byteRows l)) := by rw [hag.2.1 i (by simp), hi]
 obtain ⟨_, o1, k1, k2⟩ := hag.ev hr (by rw [ho]; simp [Op.operands]) hx
 rw [hi'] at k1
 cases k1
 have e1 := k2 (by simp)
 obtain ⟨vrows, bs, h1, h2, h3, h4, h5, h6⟩ := hr.objs i _ hi'
 have hlen := CRss.length h1
 have hrl : (byteRows l).length = l.length := by simp [byteRows]
 have hl0 : 0 < l.length := List.length_pos_iff.2 hl
 obtain ⟨A, cap, hA, hc1, hc2, hrow⟩ := Row.of_owns h3 (n := (byteRows l).length) (by omega) (.inl Nat.one_pos) h4 (T := fun _ => True) (fun _ _ => trivial)
 obtain ⟨b, off, rfl, _, _, hcl⟩ := hrow.2 (by omega)
 refine ⟨.string ⟨l.toArray⟩, ?_, ⟨rfl, rfl⟩⟩
 have hc : ∀ j (hj : j < l.length), w.cell? ((⟨b, off, none⟩ : Addr).add j) = some (.int .u8 (l[j].toNat : Int)) := by
  intro j hj
  obtain ⟨vr, b', g1, g2, _⟩ := CRss.at_ h1 (i := j) (row := [.int .u8 (l[j].toNat : Int)]) (by simp [byteRows, hj])
  have g3 := byte_row g2
  subst g3
  have := hcl j _ g1 0 _ rfl
  by_cases hj0 : j = 0
  ·subst hj0
   simpa [Addr.add] using this
  ·simpa [Addr.add, hj0] using this
 have hrun := run_convert_bytes_back w src dst e ⟨b, off, none⟩ cap l hs he hd hc
 unfold execOp
 rw [ho]
 rw [hrl] at hA
 simp [e1, hA, hrun]
theorem run_sub {x lo hi : Operand} {s : ByteArray} {i j : Int} (ho : o.op = .slice t x (some lo) (some hi) none) (hx : σ.ev x = .c (.str s)) (hlo : σ.ev lo = .c (.int .i64 i)) (hhi : σ.ev hi = .c (.int .i64 j)) (ht : P.underlying t = some .string)
  (h0 : 0 ≤ i) (h1 : i ≤ j) (h2 : j ≤ s.size) : OpRun P o σ ⟨[], [], .c (.str (s.extract i.toNat j.toNat))⟩ := by
 refine OpRun.pure fun Γ σ' a w ow κ hag hr => ?_
 have e1 := AR.str (hag.ev hr (by rw [ho]; simp [Op.operands]) hx)
 have e2 := (hag.ev hr (by rw [ho]; simp [Op.operands]) hlo).1
 have e3 := (hag.ev hr (by rw [ho]; simp [Op.operands]) hhi).1
 refine ⟨.string (s.extract i.toNat j.toNat), ?_, ⟨rfl, rfl⟩⟩
 have hrun := run_slice_string (P := P) w t s .i64 .i64 i j ht h0 h1 h2
 unfold execOp
 rw [ho]
 simp [e1, e2, e3, hrun, run_sliceAt_string _ t _ _ _ _ ht]
end
section
variable {P : Program} {σ τ : ASt} {ops : Array Oper} {r : List Oper} {fs : List AEff} {K : ASt → List AEff → Prop} {E : AEff} {src dst e t : TypeId} {d : Option Tmp} {ty' : TypeId} {pos : String} {af : Array Edge} {gd : Option (Nat × Bool)}
theorem op_conv {x : Operand} {i : Id} {y : ByteArray} (l : List UInt8) (hy : (⟨l.toArray⟩ : ByteArray) = y) (hl : l ≠ []) (hs : P.underlying src = some (.slice e)) (he : P.underlying e = some (.int .u8)) (hd : P.underlying dst = some .string)
  (hg : gate ops σ ⟨d, .convert src dst x, ty', pos, af, gd⟩ = some true) (hn : eff P σ.ev σ.mem.get (σ.fresh ⟨d, .convert src dst x, ty', pos, af, gd⟩) ⟨d, .convert src dst x, ty', pos, af, gd⟩ = none) (hx : σ.ev x = .own i) (hi : σ.mem.get i = some (.row false 1 t (byteRows l)))
  (hE : (⟨[i], [], .c (.str y)⟩ : AEff) = E) (hτ : σ.upd d E = τ) (h : awpOps P ops r τ (fs ++ [E]) K) : awpOps P ops (⟨d, .convert src dst x, ty', pos, af, gd⟩ :: r) σ fs K := by
 subst hE hy
 exact op_sound hg hn (run_conv l hl rfl hx hs he hd hi).sound hτ h
theorem op_sub {t : TypeId} {x lo hi : Operand} {s y : ByteArray} {i j : Int} (hy : s.extract i.toNat j.toNat = y) (h0 : 0 ≤ i) (h1 : i ≤ j) (h2 : j ≤ s.size) (ht : P.underlying t = some .string)
  (hg : gate ops σ ⟨d, .slice t x (some lo) (some hi) none, ty', pos, af, gd⟩ = some true) (hn : eff P σ.ev σ.mem.get (σ.fresh ⟨d, .slice t x (some lo) (some hi) none, ty', pos, af, gd⟩) ⟨d, .slice t x (some lo) (some hi) none, ty', pos, af, gd⟩ = none) (hx : σ.ev x = .c (.str s)) (hlo : σ.ev lo = .c (.int .i64 i)) (hhi : σ.ev hi = .c (.int .i64 j))
  (hE : (⟨[], [], .c (.str y)⟩ : AEff) = E) (hτ : σ.upd d E = τ) (h : awpOps P ops r τ (fs ++ [E]) K) : awpOps P ops (⟨d, .slice t x (some lo) (some hi) none, ty', pos, af, gd⟩ :: r) σ fs K := by
 subst hE hy
 exact op_sound hg hn (run_sub rfl hx hlo hhi ht h0 h1 h2).sound hτ h
end
end Go.Proofs.YtlciedpfjhkkdaaGreatDoor
namespace Go.Proofs.YtlciedpfjhkkdaaGreatDoor
open Go.RowKit Go.Shelf
def fmtInt_ren : Ren where
 f := fun x => match x with
  | 173 => 112
  | 246 => 166
  | 283 => 198
  | 284 => 199
  | 285 => 200
  | 286 => 201
  | 129 => 224
  | 317 => 223
  | 318 => 225
  | 319 => 226
  | 320 => 227
  | 337 => 250
  | 338 => 251
  | n => n
 t := fun x => match x with
  | 2 => 2
  | 3 => 3
  | 9 => 9
  | 4 => 4
  | 171 => 215
  | 0 => 0
  | 53 => 216
  | 37 => 29
  | 5 => 5
  | 173 => 219
  | 212 => 253
  | 51 => 224
  | 20 => 20
  | 213 => 254
  | 46 => 243
  | 232 => 299
  | 233 => 300
  | n => n
 g := fun x => match x with
  | 17 => 1
  | 18 => 4
  | 19 => 5
  | n => n
theorem fmtInt_lays : LaysM.n173 Tryz.prog fmtInt_ren where
 mixed := follows_mixed
 f129 := by kernel_rfl
 f173 := by kernel_rfl
 f246 := by kernel_rfl
 f283 := by kernel_rfl
 f284 := by kernel_rfl
 f285 := by kernel_rfl
 f286 := by kernel_rfl
 f317 := by kernel_rfl
 f318 := by kernel_rfl
 f319 := by kernel_rfl
 f320 := by kernel_rfl
 f337 := by kernel_rfl
 f338 := by kernel_rfl
 t0 := Tryz.underlying0
 a0 := Tryz.isAgg0
 z0 := Tryz.sizeOf0
 v0 := Tryz.zeroValue0
 t2 := Tryz.underlying2
 a2 := Tryz.isAgg2
 z2 := Tryz.sizeOf2
 v2 := Tryz.zeroValue2
 t3 := Tryz.underlying3
 a3 := Tryz.isAgg3
 z3 := Tryz.sizeOf3
 v3 := Tryz.zeroValue3
 t4 := Tryz.underlying4
 a4 := Tryz.isAgg4
 z4 := Tryz.sizeOf4
 v4 := Tryz.zeroValue4
 t5 := Tryz.underlying5
 a5 := Tryz.isAgg5
 z5 := Tryz.sizeOf5
 v5 := Tryz.zeroValue5
 t9 := Tryz.underlying9
 a9 := Tryz.isAgg9
 z9 := Tryz.sizeOf9
 v9 := Tryz.zeroValue9
 t20 := Tryz.underlying20
 a20 := Tryz.isAgg20
 z20 := Tryz.sizeOf20
 v20 := Tryz.zeroValue20
 t37 := Tryz.underlying29
 a37 := Tryz.isAgg29
 z37 := Tryz.sizeOf29
 v37 := Tryz.zeroValue29
 t46 := Tryz.underlying243
 a46 := Tryz.isAgg243
 z46 := Tryz.sizeOf243
 v46 := Tryz.zeroValue243
 t51 := Tryz.underlying224
 a51 := Tryz.isAgg224
 z51 := Tryz.sizeOf224
 v51 := Tryz.zeroValue224
 t53 := Tryz.underlying216
 a53 := Tryz.isAgg216
 z53 := Tryz.sizeOf216
 v53 := Tryz.zeroValue216
 t171 := Tryz.underlying215
 a171 := Tryz.isAgg215
 z171 := Tryz.sizeOf215
 v171 := Tryz.zeroValue215
 t173 := Tryz.underlying219
 a173 := Tryz.isAgg219
 z173 := Tryz.sizeOf219
 v173 := Tryz.zeroValue219
 t212 := Tryz.underlying253
 a212 := Tryz.isAgg253
 z212 := Tryz.sizeOf253
 v212 := Tryz.zeroValue253
 t213 := Tryz.underlying254
 a213 := Tryz.isAgg254
 z213 := Tryz.sizeOf254
 t232 := Tryz.underlying299
 a232 := Tryz.isAgg299
 z232 := Tryz.sizeOf299
 v232 := Tryz.zeroValue299
 t233 := Tryz.underlying300
 a233 := Tryz.isAgg300
 z233 := Tryz.sizeOf300
 v233 := Tryz.zeroValue300
 g17 := by kernel_rfl
 g18 := by kernel_rfl
 g19 := by kernel_rfl
 i0 := by kernel_rfl
 i2 := by kernel_rfl
 i3 := by kernel_rfl
 i4 := by kernel_rfl
 i5 := by kernel_rfl
 i9 := by kernel_rfl
 i20 := by kernel_rfl
 i37 := by kernel_rfl
 i46 := by kernel_rfl
 i51 := by kernel_rfl
 i53 := by kernel_rfl
 i171 := by kernel_rfl
 i173 := by kernel_rfl
 i212 := by kernel_rfl
 i232 := by kernel_rfl
 i233 := by kernel_rfl
 m17 := by kernel_rfl
 m18 := by kernel_rfl
 m19 := by kernel_rfl
def tabR (o : Obj) (b : Nat) (_ : Value) (_ : List (List Value)) (obj : Obj) : Prop := obj = o ∧ Tryz.prog.globalNamed "internal/strconv.uint64pow10" = some b ∧ ∀ w : World, w.heap[b]? = some obj → Lib.TabIs Tryz.prog w "internal/strconv.uint64pow10" .u64 Lib.pow10Tab
abbrev tabM (o : Obj) : Mem := [((8, 0), .blk (tabR o) [])]
theorem AC.of_tab {o : Obj} {f : FuncId} {args : List AV} {res : AV}
  (h : ∀ (S : Nat → Prop) (w : World) (m : Mem) (κ : Id → Value) (vals : List Value), Lib.TabIs Tryz.prog w "internal/strconv.uint64pow10" .u64 Lib.pow10Tab → ARs w S m κ args vals → Calls Tryz.prog f vals.toArray w fun e w' => Below w.heap.size w w' ∧ ∃ v, e = .returned v ∧ ∀ T : Nat → Prop, (∀ b, S b → T b) → (∀ b, w.heap.size ≤ b → T b) → AR w' T m κ res v) : AC Tryz.prog f args (tabM o) res (tabM o) := by
 intro Γ vals hE hA
 obtain ⟨b, obj, vrows, h1, h2, h3, h4⟩ := hE.objs (8, 0) _ rfl
 refine (h _ _ _ _ _ (h4.2.2 _ h2) hA).mono ?_
 rintro e w' ⟨hb, v, rfl, hv⟩
 have hlt : ∀ b i, Γ.ow b = some i → b < Γ.w.heap.size := fun b i hbi => (hE.own b i hbi).1
 have hnone : ∀ b, Γ.w.heap.size ≤ b → Γ.ow b = none := by
  intro b hb
  cases hbi : Γ.ow b with
  | none => rfl
  | some i => have := hlt b i hbi; omega
 refine ⟨v, Γ.ow, Γ.κ, rfl, ⟨hv _ (fun _ h => h) (fun b hb => ⟨hnone b hb, .inr (.inl hb)⟩), ?_, ?_, hb.os, hb.tape, hb.output, hb.size, fun b hl ho => ⟨hb.block b hl, ho⟩, fun i o1 o2 _ _ => rfl⟩⟩
 ·intro i o' hi
  obtain ⟨rfl, rfl⟩ : i = (8, 0) ∧ o' = .blk (tabR o) [] := by
   simp only [Mem.get, List.lookup_cons, List.lookup_nil] at hi
   by_cases hq : i = (8, 0)
   ·subst hq
    simpa [eq_comm] using hi
   ·have : (i == ((8, 0) : Id)) = false := by simpa using hq
    rw [this] at hi
    cases hi
  refine ⟨b, obj, vrows, h1, (hb.block b (hlt b _ h1)).trans h2, ?_, h4⟩
  simp only [CRss] at h3 ⊢
  exact h3
 ·intro b i hbi
  obtain ⟨k1, o1, k2, k3⟩ := hE.own b i hbi
  exact ⟨Nat.lt_of_lt_of_le k1 hb.size, o1, k2, k3⟩
def numS (n : Int) : ByteArray := ⟨(Lib.itoa n).toArray⟩
theorem formatInt_ac {o : Obj} (n : Int) (h0 : -9223372036854775808 ≤ n) (h1 : n ≤ 9223372036854775807) : AC Tryz.prog 112 [.c (.int .i64 n), .c (.int .i64 10)] (tabM o) (.c (.str (numS n))) (tabM o) := by
 refine AC.of_tab fun S w m κ vals ht hv => ?_
 obtain ⟨v, vs, rfl, ⟨rfl, _⟩, u, us, rfl, ⟨rfl, _⟩, rfl⟩ := hv
 refine (Any.strconv_FormatInt_10 fmtInt_lays n h0 h1 w ht).mono ?_
 rintro e w' ⟨rfl, k, os, rfl⟩
 exact ⟨⟨rfl, rfl, rfl, by simp [Sort.grow], fun b hb => Sort.heap_grow_old (w.drewN k) os hb⟩, _, rfl, fun T _ _ => ⟨rfl, rfl⟩⟩
theorem AC.calls_tab {o : Obj} {f : FuncId} {args : List AV} {b : Bool} (h : AC Tryz.prog f args (tabM o) (.c (.bool b)) (tabM o)) {w : World} {S : Nat → Prop} {vals : List Value} {g : Nat}
  (hg : Tryz.prog.globalNamed "internal/strconv.uint64pow10" = some g) (ho : w.heap[g]? = some o) (htab : Lib.TabIs Tryz.prog w "internal/strconv.uint64pow10" .u64 Lib.pow10Tab) (hS : ¬ S g)
  (hv : ∀ (T : Nat → Prop), (∀ b, S b → T b) → ∀ m κ, ARs w T m κ args vals) : Calls Tryz.prog f vals.toArray w fun e w' => e = .returned (.bool b) ∧ Below w.heap.size w w' := by
 have hgl : g < w.heap.size := (Array.getElem?_eq_some_iff.1 ho).1
 let Γ : Ctx := ⟨w, S, fun b => if b = g then some (8, 0) else none, fun _ => .bool false, [(8, 0)]⟩
 have hE : Entry Γ (tabM o) := by
  refine ⟨fun i o' hi => ?_, fun b i hb => ?_, rfl⟩
  ·obtain ⟨rfl, rfl⟩ : i = (8, 0) ∧ o' = .blk (tabR o) [] := by
    simp only [Mem.get, List.lookup_cons, List.lookup_nil] at hi
    by_cases hq : i = (8, 0)
    ·subst hq
     simpa [eq_comm] using hi
    ·have : (i == ((8, 0) : Id)) = false := by simpa using hq
     rw [this] at hi
     cases hi
   refine ⟨g, o, [], by simp [Γ], ho, by simp [CRss], rfl, hg, fun w2 h2 => ?_⟩
   unfold Lib.TabIs World.var? at htab ⊢
   rw [hg] at htab ⊢
   simp only [Option.bind_some, h2, ho] at htab ⊢
   exact htab
  ·simp only [Γ] at hb
   split at hb
   ·rename_i e
    subst e
    cases hb
    exact ⟨hgl, _, rfl, rfl⟩
   ·cases hb
 refine (h Γ vals hE (hv _ (fun b hb => ⟨by simp only [Γ]; rw [if_neg]; rintro rfl; exact hS hb, .inl hb⟩) _ _)).mono ?_
 rintro e w' ⟨v, ow, κ, rfl, hx⟩
 obtain ⟨rfl, _⟩ := hx.res
 refine ⟨rfl, hx.os, hx.tape, hx.output, hx.size, fun b hb => ?_⟩
 by_cases hbg : b = g
 ·subst hbg
  obtain ⟨b', obj, vr, k1, k2, k3, rfl, k5, k6⟩ := hx.objs (8, 0) _ rfl
  rw [hg] at k5
  cases k5
  rw [k2]
  exact ho.symm
 ·exact (hx.frame b hb (by simp only [Γ]; rw [if_neg hbg])).1
end Go.Proofs.YtlciedpfjhkkdaaGreatDoor
