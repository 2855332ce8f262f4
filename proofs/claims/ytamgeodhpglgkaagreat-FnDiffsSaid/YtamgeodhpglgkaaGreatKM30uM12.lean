/- Texts of this proof: M30 M24 M38 M39 M12. -/
import Derived.Test.YtamgeodhpglgkaaGreatKM3
import Derived.Test.YtamgeodhpglgkaaGreatKM2
import Derived.Test.YtamgeodhpglgkaaGreatKA1
import Derived.Test.YtamgeodhpglgkaaGreatKG31uH17
import Derived.Test.YtamgeodhpglgkaaGreatKG15uM29
set_option linter.unusedSimpArgs false
namespace Go.Proofs.YtamgeodhpglgkaaGreat
open Go.RowKit
theorem give_right' {t : V} (h : t.right) : giveR t = okR t := by
 unfold giveR
 rw [right_dec h]
 rfl
theorem getAt_key {t k : V} (h : k.kind = 4) : getAtV t k = getKeyV t k.text := by
 unfold getAtV
 rw [if_pos h]
theorem getKey_obj {t : V} (h : t.kind = 6) (key : ByteArray) : getKeyV t key = okR (t.member key) := by
 unfold getKeyV
 rw [if_neg (by omega), if_pos h]
def setE (p : List V) (x : V) : EditD := ⟨1, (arrV p).enc, x.enc⟩
def dropE (p : List V) : EditD := ⟨2, (arrV p).enc, []⟩
def objAt (f : V → V → List V → List EditD) (a b : V) (p : List V) (k : ByteArray) : List EditD :=
 if (findKey b.keys k).isSome = false then [dropE (p ++ [strV k])]
 else if (findKey a.keys k).isSome = false then [setE (p ++ [strV k]) (b.member k)]
 else f (a.member k) (b.member k) (p ++ [strV k])
def bothAt (f : V → V → List V → List EditD) (a b : V) (p : List V) (i : Nat) : List EditD := f (a.kids.getD i nullV) (b.kids.getD i nullV) (p ++ [numV i])
def dropsAt (a : V) (p : List V) (j : Nat) : EditD := dropE (p ++ [numV ((a.kids.length - 1 - j : Nat) : Int)])
def setsAt (b : V) (p : List V) (i : Nat) : EditD := setE (p ++ [numV i]) (b.kids.getD i nullV)
def arrD (f : V → V → List V → List EditD) (a b : V) (p : List V) : List EditD :=
 (List.range (min a.kids.length b.kids.length)).flatMap (bothAt f a b p) ++ (List.range (a.kids.length - min a.kids.length b.kids.length)).map (dropsAt a p) ++ (List.range (b.kids.length - min a.kids.length b.kids.length)).map fun j => setsAt b p (min a.kids.length b.kids.length + j)
def diffV : Nat → V → V → List V → List EditD
 | 0, _, _, _ => []
 | n + 1, a, b, p =>
  if a.cmp b = 0 then []
  else if a.kind = 6 ∧ b.kind = 6 then (mergeU a.keys b.keys).flatMap (objAt (diffV n) a b p)
  else if a.kind = 5 ∧ b.kind = 5 then arrD (diffV n) a b p
  else [setE p b]
def mc : List ByteArray → List V → ByteArray → Nat
 | x :: ks, v :: vs, k => if k = x then v.count else mc ks vs k
 | _, _, _ => 0
theorem mc_find : ∀ {ks : List ByteArray} {vs : List V} {k : ByteArray} {i : Nat}, findKey ks k = some i → (h : i < vs.length) → mc ks vs k = vs[i].count
 | [], _, k, i, h, _ => by simp [findKey] at h
 | _ :: _, [], _, _, _, h => absurd h (by simp)
 | x :: ks, v :: vs, k, i, h, hi => by
  unfold mc
  unfold findKey at h
  rw [List.findIdx?_cons] at h
  by_cases he : k = x
  ·rw [if_pos he]
   subst he
   rw [show (k.toList == k.toList) = true by simp] at h
   cases h
   rfl
  ·rw [if_neg he]
   have : (x.toList == k.toList) = false := by
    cases hb : x.toList == k.toList with
    | false => rfl
    | true => exact absurd (ByteArray_toList_inj (by simpa using hb)).symm he
   rw [this] at h
   simp only [Bool.false_eq_true, if_false, Option.map_eq_some_iff] at h
   obtain ⟨j, hj, rfl⟩ := h
   exact mc_find hj (by simpa using hi)
theorem zero_sum {α : Type} (K : List α) : (K.map fun _ => 0).sum = 0 := by
 induction K with
 | nil => rfl
 | cons x K ih => rw [List.map_cons, List.sum_cons, ih]
open Classical in
theorem mc_sum : ∀ (ks : List ByteArray) (vs : List V) (K : List ByteArray), K.Nodup → (K.map (mc ks vs)).sum ≤ countL vs
 | [], vs, K, _ => by
  have : K.map (mc [] vs) = K.map fun _ => 0 := List.map_congr_left fun x _ => by unfold mc; rfl
  rw [this, zero_sum]
  exact Nat.zero_le _
 | x :: ks, [], K, _ => by
  have : K.map (mc (x :: ks) []) = K.map fun _ => 0 := List.map_congr_left fun x _ => by unfold mc; rfl
  rw [this, zero_sum]
  exact Nat.zero_le _
 | x :: ks, v :: vs, K, h => by
  have ih := mc_sum ks vs K h
  have key : ∀ L : List ByteArray, L.Nodup → (L.map (mc (x :: ks) (v :: vs))).sum ≤ (if x ∈ L then v.count else 0) + (L.map (mc ks vs)).sum := by
   intro L hL
   induction L with
   | nil => simp
   | cons y L ihL =>
    rw [List.nodup_cons] at hL
    have := ihL hL.2
    simp only [List.map_cons, List.sum_cons, List.mem_cons]
    by_cases he : y = x
    ·subst he
     rw [if_neg hL.1] at this
     have e1 : mc (y :: ks) (v :: vs) y = v.count := by unfold mc; rw [if_pos rfl]
     rw [e1]
     simp only [true_or, if_true]
     omega
    ·have e1 : mc (x :: ks) (v :: vs) y = mc ks vs y := by conv => lhs; unfold mc; rw [if_neg he]
     rw [e1]
     have e2 : (x = y ∨ x ∈ L) = (x ∈ L) := propext ⟨fun h => h.resolve_left fun h => he h.symm, .inr⟩
     simp only [e2]
     omega
  have := key K h
  have e : countL (v :: vs) = v.count + countL vs := rfl
  rw [e]
  split at this <;> omega
theorem mc_pos {ks : List ByteArray} {vs : List V} {k : ByteArray} (h : (findKey ks k).isSome = true) (hl : ks.length = vs.length) : 1 ≤ mc ks vs k := by
 obtain ⟨i, hi⟩ := Option.isSome_iff_exists.1 h
 obtain ⟨h1, _⟩ := findKey_some hi
 rw [mc_find hi (by omega)]
 exact count_pos _
theorem mc_member {v : V} {k : ByteArray} (h : (findKey v.keys k).isSome = true) (hl : v.keys.length = v.kids.length) : mc v.keys v.kids k = (v.member k).count := by
 obtain ⟨i, hi⟩ := Option.isSome_iff_exists.1 h
 obtain ⟨h1, _⟩ := findKey_some hi
 rw [mc_find hi (by omega), member_at hi (List.getElem?_eq_getElem (by omega))]
theorem find_mem {ks : List ByteArray} {k : ByteArray} : (findKey ks k).isSome = true ↔ k ∈ ks := by
 constructor
 ·intro h
  obtain ⟨i, hi⟩ := Option.isSome_iff_exists.1 h
  obtain ⟨h1, h2, _⟩ := findKey_some hi
  rw [← h2]
  exact List.getElem_mem h1
 ·intro h
  unfold findKey
  rw [List.findIdx?_isSome, List.any_eq_true]
  exact ⟨k, h, by simp⟩
theorem sum_add {α : Type} (f g : α → Nat) : ∀ l : List α, (l.map fun x => f x + g x).sum = (l.map f).sum + (l.map g).sum
 | [] => rfl
 | x :: l => by
  have := sum_add f g l
  simp only [List.map_cons, List.sum_cons]
  omega
theorem flat_le {α β : Type} (f : α → List β) (g : α → Nat) : ∀ l : List α, (∀ x ∈ l, (f x).length ≤ g x) → (l.flatMap f).length ≤ (l.map g).sum
 | [], _ => by simp
 | x :: l, h => by
  have := flat_le f g l fun y hy => h y (List.mem_cons_of_mem _ hy)
  have := h x (by simp)
  simp only [List.flatMap_cons, List.length_append, List.map_cons, List.sum_cons]
  omega
theorem both_len (f : V → V → List V → List EditD) (a b : V) (p : List V) (hf : ∀ x y q, x ∈ a.kids → y ∈ b.kids → (f x y q).length ≤ x.count + y.count) : ∀ m : Nat, m ≤ a.kids.length → m ≤ b.kids.length → ((List.range m).flatMap (bothAt f a b p)).length ≤ countL (a.kids.take m) + countL (b.kids.take m)
 | 0, _, _ => by simp
 | m + 1, ha, hb => by
  have ih := both_len f a b p hf m (by omega) (by omega)
  have h1 := hf a.kids[m] b.kids[m] (p ++ [numV m]) (List.getElem_mem _) (List.getElem_mem _)
  rw [List.range_succ, List.flatMap_append, List.length_append, List.take_succ_eq_append_getElem (by omega), List.take_succ_eq_append_getElem (by omega), countL_app, countL_app]
  simp only [List.flatMap_cons, List.flatMap_nil, List.append_nil, bothAt, List.getD_eq_getElem?_getD, List.getElem?_eq_getElem (show m < a.kids.length by omega), List.getElem?_eq_getElem (show m < b.kids.length by omega), Option.getD_some, countL]
  omega
theorem countL_drop_len (l : List V) (m : Nat) : countL (l.take m) + (l.length - m) ≤ countL l := by
 have h1 := countL_len (l.drop m)
 have h2 : countL l = countL (l.take m) + countL (l.drop m) := by rw [← countL_app, List.take_append_drop]
 rw [List.length_drop] at h1
 omega
theorem diff_len : ∀ (n : Nat) (a b : V) (p : List V), a.right → b.right → (diffV n a b p).length ≤ a.count + b.count
 | 0, a, b, p, _, _ => by simp [diffV]
 | n + 1, a, b, p, ha, hb => by
  have hka := count_kids a
  have hkb := count_kids b
  unfold diffV
  split
  ·simp
  ·split
   ·rename_i h6
    obtain ⟨ua, _, la⟩ := right_asc ha h6.1
    obtain ⟨ub, _, lb⟩ := right_asc hb h6.2
    have hK : (mergeU a.keys b.keys).Nodup := up_nodup (mergeU_up _ _ _ (Nat.le_refl _) (up_of ua) (up_of ub))
    have h1 := mc_sum a.keys a.kids _ hK
    have h2 := mc_sum b.keys b.kids _ hK
    refine Nat.le_trans (flat_le _ (fun k => mc a.keys a.kids k + mc b.keys b.kids k) _ fun k hk => ?_) (by rw [sum_add]; omega)
    have hkm := (mergeU_mem _ a.keys b.keys (Nat.le_refl _) k).1 hk
    unfold objAt
    cases hB : (findKey b.keys k).isSome with
    | false =>
     have hA : (findKey a.keys k).isSome = true := by
      rcases hkm with h | h
      ·exact find_mem.2 h
      ·rw [find_mem.2 h] at hB; cases hB
     have := mc_pos hA (by omega)
     simp only [if_true, List.length_singleton]
     omega
    | true =>
     have hb1 := mc_pos hB (by omega)
     cases hA : (findKey a.keys k).isSome with
     | false =>
      simp only [Bool.true_eq_false, if_true, if_false, List.length_singleton]
      omega
     | true =>
      simp only [Bool.true_eq_false, if_false]
      rw [mc_member hA (by omega), mc_member hB (by omega)]
      exact diff_len n _ _ _ (right_member ha h6.1 k) (right_member hb h6.2 k)
   ·split
    ·have hf := fun x y q hx hy => diff_len n x y q (right_mem ha hx) (right_mem hb hy)
     have h1 := both_len (diffV n) a b p hf (min a.kids.length b.kids.length) (by omega) (by omega)
     have h2 := countL_drop_len a.kids (min a.kids.length b.kids.length)
     have h3 := countL_drop_len b.kids (min a.kids.length b.kids.length)
     unfold arrD
     simp only [List.length_append, List.length_map, List.length_range]
     omega
    ·simp only [List.length_singleton]
     omega
def small (t : V) : Int × Option V := if t.count ≤ 200 then okR t else badR 2
theorem give_small {t : V} (hw : t.wf) (hd : t.depth ≤ 20) : giveR t = small t := by
 unfold small
 split
 ·exact give_right' ⟨hw, ‹_›, hd⟩
 ·unfold giveR
  rw [dec_many (.inr (by rw [enc_len]; omega))]
  rfl
structure Hole (C : V → V) (p : List V) (K D : Nat) : Prop where
 cnt : ∀ u, (C u).count = K + u.count
 fits : ∀ u : V, u.wf → u.depth ≤ D → (C u).wf ∧ (C u).depth ≤ 20
 put : ∀ q x u v', u.wf → u.depth ≤ D → v'.wf → v'.depth ≤ D → setPathV x q u = small v' → setPathV x (p ++ q) (C u) = small (C v')
 drop : ∀ q (u v' : V), q ≠ [] → u.kind ≠ 0 → u.wf → u.depth ≤ D → v'.wf → v'.depth ≤ D → dropPathV q u = small v' → dropPathV (p ++ q) (C u) = small (C v')
theorem hole_all : Hole id [] 0 20 := ⟨fun u => by simp, fun u h1 h2 => ⟨h1, h2⟩, fun q x u v' _ _ _ _ h => h, fun q u v' _ _ _ _ _ _ h => h⟩
theorem countL_set : ∀ (l : List V) (i : Nat) (u : V) (h : i < l.length), countL (l.set i u) + l[i].count = countL l + u.count
 | [], i, u, h => absurd h (by simp)
 | x :: l, 0, u, h => by simp only [List.set_cons_zero, countL, List.getElem_cons_zero]; omega
 | x :: l, i + 1, u, h => by
  have := countL_set l i u (by simpa using h)
  simp only [List.set_cons_succ, countL, List.getElem_cons_succ]
  omega
theorem depthL_set {m : Nat} {l : List V} {i : Nat} {u : V} (h : depthL l ≤ m) (hu : u.depth ≤ m) : depthL (l.set i u) ≤ m := depthL_le fun v hv => by
 rcases List.mem_or_eq_of_mem_set hv with hv | rfl
 ·have := depthL_mem hv; omega
 ·exact hu
theorem wfL_set : ∀ {l : List V} {i : Nat} {u : V}, wfL l → u.wf → wfL (l.set i u)
 | [], _, _, _, _ => trivial
 | _ :: _, 0, _, h, hu => ⟨hu, h.2⟩
 | _ :: _, _ + 1, _, h, hu => ⟨h.1, wfL_set h.2 hu⟩
theorem put_idx {q : List V} {x u v' : V} {kids : List V} {i : Nat} (hi : i < kids.length) (hl : kids.length ≤ 200) (hput : setPathV x q u = small v') (hw : (arrV (kids.set i v')).wf) (hd : (arrV (kids.set i v')).depth ≤ 20) :
  setPathV x (numV (i : Int) :: q) (arrV (kids.set i u)) = small (arrV (kids.set i v')) := by
 have hf : fromEnd (numV (i : Int)).num (arrV (kids.set i u)).kids.length = (i : Int) := by
  unfold fromEnd
  rw [show (numV (i : Int)).num = (i : Int) from rfl, if_neg (show ¬ ((i : Int) < 0) by omega)]
 have hp : padV (kids.set i u) i = kids.set i u := by
  unfold padV
  rw [List.length_set, show i + 1 - kids.length = 0 by omega]
  simp
 have hg : (kids.set i u).getD i nullV = u := by simp [hi]
 have e : setPathV x (numV (i : Int) :: q) (arrV (kids.set i u)) = setIdxV (arrV (kids.set i u)) (numV (i : Int)).num (setPathV x q) := by
  conv => lhs; unfold setPathV
  rw [if_pos (show (numV (i : Int)).kind = 3 from rfl)]
 rw [e]
 unfold setIdxV
 rw [if_pos (.inl (show (arrV (kids.set i u)).kind = 5 from rfl)), hf, if_neg (by omega), if_neg (by omega), Int.toNat_natCast]
 show onSome (setPathV x q ((padV (kids.set i u) i).getD i nullV)) (fun r => giveR (arrV ((padV (kids.set i u) i).set i r))) = _
 rw [hp, hg, hput]
 by_cases hc : v'.count ≤ 200
 ·have : small v' = (0, some v') := by unfold small; rw [if_pos hc]; rfl
  rw [this]
  show giveR (arrV ((kids.set i u).set i v')) = _
  rw [List.set_set]
  exact give_small hw hd
 ·have h1 : small v' = (2, none) := by unfold small; rw [if_neg hc]; rfl
  have h2 := countL_mem (t := v') (ks := kids.set i v') (List.mem_iff_getElem.2 ⟨i, by simpa using hi, by simp⟩)
  have h3 : ¬ (arrV (kids.set i v')).count ≤ 200 := by simp only [arrV, V.count]; omega
  have h4 : small (arrV (kids.set i v')) = (2, none) := by unfold small; rw [if_neg h3]; rfl
  rw [h1, h4]
  rfl
theorem get_idx {u : V} {kids : List V} {i : Nat} (hi : i < kids.length) : getAtV (arrV (kids.set i u)) (numV (i : Int)) = (0, some u) := by
 have hf : fromEnd (numV (i : Int)).num (arrV (kids.set i u)).kids.length = (i : Int) := by
  unfold fromEnd
  rw [show (numV (i : Int)).num = (i : Int) from rfl, if_neg (show ¬ ((i : Int) < 0) by omega)]
 have h34 : ∀ i : Nat, ¬ (numV (i : Int)).kind = 4 := fun i => show ¬ (3 : Int) = 4 by decide
 have h50 : ¬ (arrV (kids.set i u)).kind = 0 := show ¬ (5 : Int) = 0 by decide
 unfold getAtV
 rw [if_neg (h34 i), if_pos (show (numV (i : Int)).kind = 3 from rfl)]
 unfold getIdxV
 have hl : (arrV (kids.set i u)).kids.length = kids.length := List.length_set
 rw [if_neg h50, if_pos (show (arrV (kids.set i u)).kind = 5 from rfl), hf, if_pos (by rw [hl]; omega), Int.toNat_natCast]
 have hg : (kids.set i u).getD i nullV = u := by simp [hi]
 exact congrArg (fun z => ((0 : Int), some z)) hg
theorem drop_idx {q : List V} {u v' : V} {kids : List V} {i : Nat} (hq : q ≠ []) (hi : i < kids.length) (hl : kids.length ≤ 200) (h0 : u.kind ≠ 0) (hdrop : dropPathV q u = small v') (hw : (arrV (kids.set i v')).wf) (hd : (arrV (kids.set i v')).depth ≤ 20) :
  dropPathV (numV (i : Int) :: q) (arrV (kids.set i u)) = small (arrV (kids.set i v')) := by
 obtain ⟨k', q', rfl⟩ := List.exists_cons_of_ne_nil hq
 rw [dropPathV, get_idx hi]
 dsimp only
 rw [if_neg h0, hdrop]
 by_cases hc : v'.count ≤ 200
 ·have e : small v' = (0, some v') := by unfold small; rw [if_pos hc]; rfl
  rw [e]
  dsimp only
  exact put_idx hi hl (q := []) (x := v') (u := u) (by rw [setPathV, e]; rfl) hw hd
 ·have h1 : small v' = (2, none) := by unfold small; rw [if_neg hc]; rfl
  have h2 := countL_mem (t := v') (ks := kids.set i v') (List.mem_iff_getElem.2 ⟨i, by simpa using hi, by simp⟩)
  have h3 : ¬ (arrV (kids.set i v')).count ≤ 200 := by simp only [arrV, V.count]; omega
  have h4 : small (arrV (kids.set i v')) = (2, none) := by unfold small; rw [if_neg h3]; rfl
  rw [h1, h4]
theorem hole_idx {C : V → V} {p : List V} {K D : Nat} (h : Hole C p K (D + 1)) {kids : List V} {i : Nat} (hi : i < kids.length) (hl : kids.length ≤ 200) (hw : wfL kids) (hd : depthL kids ≤ D) (hD : D ≤ 19) :
  Hole (fun u => C (arrV (kids.set i u))) (p ++ [numV (i : Int)]) (K + 1 + (countL kids - kids[i].count)) D := by
 have fit : ∀ u : V, u.wf → u.depth ≤ D → (arrV (kids.set i u)).wf ∧ (arrV (kids.set i u)).depth ≤ D + 1 := fun u h1 h2 => by
  have := depthL_set (i := i) hd h2
  exact ⟨arr_wf (wfL_set hw h1) (by rw [List.length_set]; exact hl), by simp only [arrV, V.depth]; omega⟩
 refine ⟨fun u => ?_, fun u h1 h2 => h.fits _ (fit u h1 h2).1 (fit u h1 h2).2, fun q x u v' h1 h2 h3 h4 h5 => ?_, fun q u v' hq h0 h1 h2 h3 h4 h5 => ?_⟩
 ·have h1 := countL_set kids i u hi
  have h2 := countL_mem (List.getElem_mem hi)
  rw [h.cnt]
  simp only [arrV, V.count]
  omega
 ·have f1 := fit u h1 h2
  have f2 := fit v' h3 h4
  rw [List.append_assoc]
  exact h.put _ x _ _ f1.1 f1.2 f2.1 f2.2 (put_idx hi hl h5 f2.1 (by omega))
 ·have f1 := fit u h1 h2
  have f2 := fit v' h3 h4
  rw [List.append_assoc]
  exact h.drop _ _ _ (by simp) (by show (5 : Int) ≠ 0; decide) f1.1 f1.2 f2.1 f2.2 (drop_idx hq hi hl h0 h5 f2.1 (by omega))
theorem put_end {x : V} {kids : List V} (hl : kids.length < 200) (hw : (arrV (kids ++ [x])).wf) (hd : (arrV (kids ++ [x])).depth ≤ 20) :
  setPathV x [numV (kids.length : Int)] (arrV kids) = small (arrV (kids ++ [x])) := by
 have hf : fromEnd (numV (kids.length : Int)).num (arrV kids).kids.length = (kids.length : Int) := by
  unfold fromEnd
  rw [show (numV (kids.length : Int)).num = (kids.length : Int) from rfl, if_neg (show ¬ ((kids.length : Int) < 0) by omega)]
 have hp : padV kids kids.length = kids ++ [nullV] := by
  unfold padV
  rw [show kids.length + 1 - kids.length = 1 by omega]
  rfl
 have e : setPathV x [numV (kids.length : Int)] (arrV kids) = setIdxV (arrV kids) (numV (kids.length : Int)).num (setPathV x []) := by
  conv => lhs; unfold setPathV
  rw [if_pos (show (numV (kids.length : Int)).kind = 3 from rfl)]
 rw [e]
 unfold setIdxV
 rw [if_pos (.inl (show (arrV kids).kind = 5 from rfl)), hf, if_neg (by omega), if_neg (by omega), Int.toNat_natCast]
 show onSome (setPathV x [] ((padV kids kids.length).getD kids.length nullV)) (fun r => giveR (arrV ((padV kids kids.length).set kids.length r))) = _
 rw [hp, setPathV]
 show giveR (arrV ((kids ++ [nullV]).set kids.length x)) = _
 rw [List.set_append_right _ _ (Nat.le_refl _), Nat.sub_self, List.set_cons_zero]
 exact give_small hw hd
theorem drop_end (kids : List V) (y : V) : dropPathV [numV (kids.length : Int)] (arrV (kids ++ [y])) = (0, some (arrV kids)) := by
 have hf : fromEnd (numV (kids.length : Int)).num (arrV (kids ++ [y])).kids.length = (kids.length : Int) := by
  unfold fromEnd
  rw [show (numV (kids.length : Int)).num = (kids.length : Int) from rfl, if_neg (show ¬ ((kids.length : Int) < 0) by omega)]
 have h34 : ¬ (numV (kids.length : Int)).kind = 4 := show ¬ (3 : Int) = 4 by decide
 have h50 : ¬ (arrV (kids ++ [y])).kind = 0 := show ¬ (5 : Int) = 0 by decide
 rw [dropPathV, if_neg h34]
 unfold dropIdxV
 rw [if_neg h50, if_pos (show (arrV (kids ++ [y])).kind = 5 from rfl), hf]
 have hl : (kids.length : Int) < ((kids ++ [y]).length : Int) := by simp; omega
 have hd : dropAt (arrV (kids ++ [y])).kids (kids.length : Int) = kids := by
  show dropAt (kids ++ [y]) (kids.length : Int) = kids
  unfold dropAt
  rw [if_pos ⟨by omega, hl⟩, Int.toNat_natCast, List.eraseIdx_append_of_length_le (Nat.le_refl _), Nat.sub_self]
  exact List.append_nil _
 rw [hd]
 rfl
def Runs (l : List EditD) (v r : V) (N : Nat) : Prop := v.count ≤ 200 → ∀ i, (applyGo l v i = ((0, 0), some r) ∧ r.count ≤ 200) ∨ ∃ j, applyGo l v i = ((2, j), none) ∧ 200 < N
theorem runs_nil (v : V) (N : Nat) : Runs [] v v N := fun h _ => .inl ⟨rfl, h⟩
theorem applyGo_app : ∀ (l m : List EditD) (v : V) (i : Nat), applyGo (l ++ m) v i = match applyGo l v i with
  | (c, none) => (c, none)
  | (_, some u) => applyGo m u (i + l.length)
 | [], m, v, i => rfl
 | d :: l, m, v, i => by
  simp only [List.cons_append, applyGo]
  rcases h : stepV d v with ⟨c, _ | u⟩
  ·rfl
  ·dsimp only
   rw [applyGo_app l m u (i + 1), List.length_cons, show i + 1 + l.length = i + (l.length + 1) by omega]
theorem runs_app {l m : List EditD} {v u r : V} {N : Nat} (h1 : Runs l v u N) (h2 : Runs m u r N) : Runs (l ++ m) v r N := fun hv i => by
 rw [applyGo_app]
 rcases h1 hv i with ⟨h, hu⟩ | ⟨j, h, hN⟩
 ·rw [h]; exact h2 hu _
 ·rw [h]; exact .inr ⟨j, rfl, hN⟩
theorem runs_one {d : EditD} {v u : V} {N : Nat} (h : v.count ≤ 200 → stepV d v = small u) (hN : u.count ≤ N) : Runs [d] v u N := fun hv i => by
 unfold applyGo
 rw [h hv]
 by_cases hc : u.count ≤ 200
 ·have : small u = (0, some u) := by unfold small; rw [if_pos hc]; rfl
  rw [this]
  exact .inl ⟨rfl, hc⟩
 ·have : small u = (2, none) := by unfold small; rw [if_neg hc]; rfl
  rw [this]
  exact .inr ⟨_, rfl, by omega⟩
theorem runs_more {l : List EditD} {v r : V} {N M : Nat} (h : Runs l v r N) (hM : N ≤ M) : Runs l v r M := fun hv i => by
 rcases h hv i with h | ⟨j, h, hN⟩
 ·exact .inl h
 ·exact .inr ⟨j, h, by omega⟩
theorem path_told {p : List V} (hp : ∀ q ∈ p, sKey q) (hl : p.length ≤ 100) : pathDec (arrV p).enc = (0, some p) := by
 obtain ⟨h1, h2, h3⟩ := path_right hp hl
 have hb : (arrV p).kids.any badKid = false := by
  rw [List.any_eq_false]
  intro q hq
  obtain ⟨_, _, _, h⟩ := hp q hq
  unfold badKid
  rcases h with h | h <;> simp [h]
 rw [pathDec_enc h1 h2 h3, hb]
 rfl
theorem step_set {p : List V} {x : V} (v : V) (hp : ∀ q ∈ p, sKey q) (hl : p.length ≤ 100) (hx : x.right) : stepV (setE p x) v = setPathV x p v := by
 unfold stepV setE
 dsimp only
 rw [path_told hp hl, right_dec hx]
 rfl
theorem step_drop {p : List V} (v : V) (hp : ∀ q ∈ p, sKey q) (hl : p.length ≤ 100) : stepV (dropE p) v = dropPathV p v := by
 unfold stepV dropE
 dsimp only
 rw [path_told hp hl]
 rfl
theorem countL_drop : ∀ (d : Nat) (l : List V), countL (l.drop d) ≤ countL l
 | 0, _ => Nat.le_refl _
 | _ + 1, [] => Nat.le_refl _
 | d + 1, x :: l => by
  have := countL_drop d l
  simp only [List.drop_succ_cons, countL]
  omega
theorem depthL_drop : ∀ (d : Nat) (l : List V), depthL (l.drop d) ≤ depthL l
 | 0, _ => Nat.le_refl _
 | _ + 1, [] => Nat.le_refl _
 | d + 1, x :: l => by
  have := depthL_drop d l
  simp only [List.drop_succ_cons, depthL]
  omega
theorem count_node (t : V) : t.count = 1 + countL t.kids := by
 cases t
 simp only [V.count, V.kids]
 omega
theorem depth_node (t : V) : t.depth = 1 + depthL t.kids := by
 cases t
 simp only [V.depth, V.kids]
 omega
theorem wfL_kids {t : V} (h : t.wf) : wfL t.kids := by cases t; exact h.2.2
end Go.Proofs.YtamgeodhpglgkaaGreat
