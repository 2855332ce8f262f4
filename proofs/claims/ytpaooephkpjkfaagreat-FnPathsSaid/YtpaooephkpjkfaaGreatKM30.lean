/- The plain mathematics of FnPaths: what is put at a path is got there; what is dropped is null. -/
import Derived.Test.YtpaooephkpjkfaaGreatKM3
import Derived.Test.YtpaooephkpjkfaaGreatKG84uM26
set_option linter.unusedSimpArgs false
set_option linter.unusedVariables false
set_option linter.unnecessarySimpa false
namespace Go.Proofs.YtpaooephkpjkfaaGreat
open Go.RowKit
theorem give_some {t r : V} {c : Int} (h : giveR t = (c, some r)) : c = 0 ∧ r = t ∧ giveR t = okR t := by
  unfold giveR at h ⊢
  split at h
  · rename_i h0
    rw [if_pos h0]
    simp only [Prod.mk.injEq, Option.some.injEq] at h
    exact ⟨h.1.symm, h.2.symm, rfl⟩
  · simp at h
theorem give_right' {t : V} (h : t.right) : giveR t = okR t := by
  unfold giveR
  rw [right_dec h]
  rfl
theorem obj_snoc {ks : List ByteArray} {vs : List V} (hl : ks.length = vs.length) (k : ByteArray) (x : V) : (objV (ks ++ [k]) (vs ++ [x])).member k = x := by
  have hm : (objV (ks ++ [k]) (vs ++ [x])).member k = lastKid (ks ++ [k]) (vs ++ [x]) k := memL_map (objKeys_up _) _ (objKeys_mem.2 (by simp))
  rw [hm, lastKid_snoc hl (.inl rfl), if_pos rfl]
theorem kl_eq {v : V} (h : v.right) (hk : v.kind = 0 ∨ v.kind = 6) : v.keys.length = v.kids.length := right_kl6 h hk
/-- Where a number leads, and where it leads behind it. -/
theorem fromEnd_same {n : Int} {len L : Nat} (h : 0 ≤ fromEnd n len) (hL : L = max len ((fromEnd n len).toNat + 1)) : fromEnd n L = fromEnd n len ∧ (fromEnd n len).toNat < L := by
  unfold fromEnd at *
  split at h
  · rename_i h0
    rw [if_pos h0] at hL ⊢
    rw [if_pos h0]
    omega
  · rename_i h0
    rw [if_neg h0] at hL ⊢
    rw [if_neg h0]
    omega
theorem idx_get {l : List V} {n : Int} {i : Nat} {y : V} (hi : fromEnd n l.length = (i : Int)) (hg : l[i]? = some y) : getIdxV (arrV l) n = okR y := by
  have hl := (List.getElem?_eq_some_iff.1 hg).1
  unfold getIdxV
  rw [if_neg (show ¬ (arrV l).kind = 0 from fun h => absurd (show (5 : Int) = 0 from h) (by decide)), if_pos (show (arrV l).kind = 5 from rfl)]
  have hk : (arrV l).kids = l := rfl
  rw [hk, hi, if_pos ⟨by omega, by omega⟩, Int.toNat_natCast, List.getD_eq_getElem?_getD, hg]
  rfl
/-- What SetPath's steps are. -/
theorem set_num {x v r : V} {k : V} {p : List V} {c : Int} (h3 : k.kind = 3) (h : setPathV x (k :: p) v = (c, some r)) :
    ∃ (i : Nat) (w r0 : V) (c0 : Int), fromEnd k.num v.kids.length = (i : Int) ∧ i < 200 ∧ setPathV x p w = (c0, some r0) ∧ (w = nullV ∨ w ∈ v.kids) ∧ r = arrV ((padV v.kids i).set i r0) ∧ giveR r = okR r ∧ c = 0 := by
  unfold setPathV at h
  rw [if_pos h3] at h
  unfold setIdxV at h
  split at h
  · split at h
    · simp [badR] at h
    · split at h
      · simp [badR] at h
      · rename_i h1 h2
        unfold onSome at h
        split at h
        · rename_i c0 r0 hr0
          obtain ⟨g1, g2, g3⟩ := give_some h
          refine ⟨(fromEnd k.num v.kids.length).toNat, _, r0, c0, by omega, by omega, hr0, ?_, g2, by rw [g2]; exact g3, g1⟩
          rw [pad_get]
          split
          · exact .inr (List.getElem_mem _)
          · exact .inl rfl
        · simp at h
  · simp [badR] at h
theorem set_key {x v r : V} {k : V} {p : List V} {c : Int} (h4 : k.kind = 4) (h : setPathV x (k :: p) v = (c, some r)) :
    ∃ (w r0 : V) (c0 : Int), getKeyV v k.text = okR w ∧ setPathV x p w = (c0, some r0) ∧ (v.kind = 0 ∨ v.kind = 6) ∧ r = objV (v.keys ++ [k.text]) (v.kids ++ [r0]) ∧ giveR r = okR r ∧ c = 0 := by
  unfold setPathV at h
  rw [if_neg (by omega)] at h
  cases hg : getKeyV v k.text with
  | mk cg og =>
    rw [hg] at h
    cases og with
    | none => simp at h
    | some w =>
      dsimp only at h
      have hw : getKeyV v k.text = okR w := by
        unfold getKeyV at hg ⊢
        split
        · rename_i h0; rw [if_pos h0] at hg; simp only [okR, Prod.mk.injEq, Option.some.injEq] at hg ⊢; exact ⟨trivial, hg.2⟩
        · rename_i h0
          rw [if_neg h0] at hg
          split
          · rename_i h6; rw [if_pos h6] at hg; simp only [okR, Prod.mk.injEq, Option.some.injEq] at hg ⊢; exact ⟨trivial, hg.2⟩
          · rename_i h6; rw [if_neg h6] at hg; simp [badR] at hg
      cases hs : setPathV x p w with
      | mk c0 o0 =>
        rw [hs] at h
        cases o0 with
        | none => simp at h
        | some r0 =>
          dsimp only at h
          unfold setKeyV at h
          split at h
          · rename_i hk
            obtain ⟨g1, g2, g3⟩ := give_some h
            exact ⟨w, r0, c0, by rw [← hg, hw], hs, hk, g2, by rw [g2]; exact g3, g1⟩
          · simp [badR] at h
theorem getAt_num {t k : V} (h : k.kind = 3) : getAtV t k = getIdxV t k.num := by
  unfold getAtV
  rw [if_neg (by omega), if_pos h]
theorem getAt_key {t k : V} (h : k.kind = 4) : getAtV t k = getKeyV t k.text := by
  unfold getAtV
  rw [if_pos h]
theorem getKey_obj {t : V} (h : t.kind = 6) (key : ByteArray) : getKeyV t key = okR (t.member key) := by
  unfold getKeyV
  rw [if_neg (by omega), if_pos h]
theorem getPath_cons {t u k : V} {p : List V} (h : getAtV t k = okR u) : getPathV t (k :: p) = getPathV u p := by
  conv => lhs; unfold getPathV
  rw [h]
  rfl
def keyed (p : List V) : Prop := ∀ k ∈ p, k.right ∧ (k.kind = 3 ∨ k.kind = 4)
theorem getKey_right {v w : V} (hv : v.right) {key : ByteArray} (h : getKeyV v key = okR w) : w.right := by
  have := getKey_ok hv key
  rw [h] at this
  exact this.2
theorem num_right {v w : V} (hv : v.right) (h : w = nullV ∨ w ∈ v.kids) : w.right := by
  rcases h with rfl | h
  · exact right_null
  · exact right_mem hv h
theorem set_get {x : V} : ∀ (p : List V), keyed p → ∀ (v r : V) (c : Int), v.right → setPathV x p v = (c, some r) → getPathV r p = okR x
  | [], _, v, r, c, _, h => by
    unfold setPathV okR at h
    simp only [Prod.mk.injEq, Option.some.injEq] at h
    rw [← h.2]
    rfl
  | k :: p, hk, v, r, c, hv, h => by
    have hkp : keyed p := fun y hy => hk y (by simp [hy])
    rcases (hk k (by simp)).2 with h3 | h4
    · obtain ⟨i, w, r0, c0, hi, hi2, hs, hw, hr, _⟩ := set_num h3 h
      have ih := set_get p hkp w r0 c0 (num_right hv hw) hs
      have hlen : ((padV v.kids i).set i r0).length = max v.kids.length (i + 1) := by rw [List.length_set, pad_len]
      have hf := fromEnd_same (n := k.num) (len := v.kids.length) (L := ((padV v.kids i).set i r0).length) (by omega) (by rw [hi, Int.toNat_natCast]; exact hlen)
      rw [hi, Int.toNat_natCast] at hf
      rw [getPath_cons (u := r0) (by rw [getAt_num h3, hr]; exact idx_get hf.1 (by rw [List.getElem?_set_self (by rw [List.length_set] at hf; exact hf.2)]))]
      exact ih
    · obtain ⟨w, r0, c0, hg, hs, hk6, hr, _⟩ := set_key h4 h
      have ih := set_get p hkp w r0 c0 (getKey_right hv hg) hs
      have hm := obj_snoc (kl_eq hv hk6) k.text r0
      rw [getPath_cons (u := r0) (by rw [getAt_key h4, getKey_obj (by rw [hr]; rfl), hr, hm])]
      exact ih
theorem set_right {x : V} (hx : x.right) {p : List V} (hk : keyed p) {v r : V} {c : Int} (hv : v.right) (h : setPathV x p v = (c, some r)) : r.right ∧ c = 0 := by
  have := setPath_ok hx p hk v hv
  rw [h] at this
  exact ⟨this.2, this.1⟩
theorem countL_mono : ∀ {a b : List V}, a.length = b.length → (∀ (i : Nat) (h1 : i < a.length) (h2 : i < b.length), a[i].count ≤ b[i].count ∧ a[i].depth ≤ b[i].depth) → countL a ≤ countL b ∧ depthL a ≤ depthL b
  | [], [], _, _ => ⟨Nat.le_refl _, Nat.le_refl _⟩
  | x :: a, y :: b, hl, h => by
    have h0 := h 0 (by simp) (by simp)
    have ih := countL_mono (a := a) (b := b) (by simpa using hl) fun i h1 h2 => by
      have := h (i + 1) (by simpa using h1) (by simpa using h2)
      simpa using this
    simp only [List.getElem_cons_zero] at h0
    simp only [countL, depthL]
    omega
/-- Dropping what was put. -/
theorem set_drop {x : V} (hx : x.right) : ∀ (p : List V), keyed p → p ≠ [] → ∀ (v r : V) (c : Int), v.right → setPathV x p v = (c, some r) →
    ∃ d, dropPathV p r = okR d ∧ d.right ∧ d.count ≤ r.count ∧ d.depth ≤ r.depth ∧ (r.kind = 5 ∨ r.kind = 6) ∧ (∀ k, p.getLast? = some k → k.kind = 4 → getPathV d p = okR nullV)
  | [], _, hne, _, _, _, _, _ => absurd rfl hne
  | [k], hk, _, v, r, c, hv, h => by
    have hrr := (set_right hx hk hv h).1
    rcases (hk k (by simp)).2 with h3 | h4
    · obtain ⟨i, w, r0, c0, hi, hi2, hs, hw, hr, _⟩ := set_num h3 h
      have hr5 : r.kind = 5 := by rw [hr]; rfl
      refine ⟨arrV (dropAt r.kids (fromEnd k.num r.kids.length)), ?_, dropIdx_right hrr _, ?_, ?_, .inl hr5, fun k' hk' h4 => ?_⟩
      · unfold dropPathV dropIdxV
        rw [if_neg (by omega), if_neg (by omega), if_pos hr5]
      · have : countL (dropAt r.kids (fromEnd k.num r.kids.length)) ≤ countL r.kids := by
          unfold dropAt
          split
          · exact countL_erase _ _
          · exact Nat.le_refl _
        have h2 := count_kids r
        simp only [arrV, V.count]
        omega
      · have : depthL (dropAt r.kids (fromEnd k.num r.kids.length)) ≤ depthL r.kids := depthL_le fun y hy => depthL_mem (by
          unfold dropAt at hy
          split at hy
          · exact List.mem_of_mem_eraseIdx hy
          · exact hy)
        have h2 := depth_kids r
        simp only [arrV, V.depth]
        omega
      · have he : k = k' := by simpa using hk'
        rw [← he] at h4
        omega
    · obtain ⟨w, r0, c0, hg, hs, hk6, hr, _⟩ := set_key h4 h
      have hr6 : r.kind = 6 := by rw [hr]; rfl
      have hc := filter_count (fun q => !(q.toList == k.text.toList)) r.member r.keys
      rw [obj_members hrr hr6] at hc
      have hck := count_kids r
      refine ⟨dropK r k.text, ?_, dropK_right hrr hr6 _, ?_, ?_, .inr hr6, fun k' hk' _ => ?_⟩
      · unfold dropPathV dropKeyV
        rw [if_pos h4, if_neg (by omega), if_pos hr6]
      · have := count_kids (dropK r k.text)
        simp only [dropK, V.kids] at this ⊢
        omega
      · have h4 : depthL ((r.keys.filter fun q => !(q.toList == k.text.toList)).map r.member) ≤ depthL r.kids := depthL_le fun y hy => by
          obtain ⟨q, hq, rfl⟩ := List.mem_map.1 hy
          have : r.member q ∈ r.kids := by
            rw [← obj_members hrr hr6]
            exact List.mem_map_of_mem (List.mem_filter.1 hq).1
          exact depthL_mem this
        have h5 := depth_kids (dropK r k.text)
        have h7 := depth_kids r
        simp only [dropK, V.kids] at h5 ⊢
        omega
      · rw [getPath_cons (u := nullV) (by
          rw [getAt_key h4, getKey_obj rfl]
          congr 1
          refine member_no ?_
          cases hf : findKey (dropK r k.text).keys k.text with
          | none => rfl
          | some j =>
            obtain ⟨j1, j2, _⟩ := findKey_some hf
            have hmem : (dropK r k.text).keys[j] ∈ r.keys.filter fun q => !(q.toList == k.text.toList) := List.getElem_mem j1
            have := (List.mem_filter.1 hmem).2
            rw [j2] at this
            simp at this)]
        rfl
  | k :: k' :: p, hk, _, v, r, c, hv, h => by
    have hkp : keyed (k' :: p) := fun y hy => hk y (by simp [hy])
    have hrr := (set_right hx hk hv h).1
    rcases (hk k (by simp)).2 with h3 | h4
    · obtain ⟨i, w, r0, c0, hi, hi2, hs, hw, hr, _⟩ := set_num h3 h
      have hwr := num_right hv hw
      obtain ⟨d0, e1, e2, e3, e4, e5, e6⟩ := set_drop hx (k' :: p) hkp (by simp) w r0 c0 hwr hs
      have hr0 := (set_right hx hkp hwr hs).1
      have hlen : ((padV v.kids i).set i r0).length = max v.kids.length (i + 1) := by rw [List.length_set, pad_len]
      have hf := fromEnd_same (n := k.num) (len := v.kids.length) (L := ((padV v.kids i).set i r0).length) (by omega) (by rw [hi, Int.toNat_natCast]; exact hlen)
      rw [hi, Int.toNat_natCast] at hf
      obtain ⟨l, hl⟩ : ∃ l, (padV v.kids i).set i r0 = l := ⟨_, rfl⟩
      have hli : l[i]? = some r0 := by rw [← hl, List.getElem?_set_self (by rw [List.length_set] at hf; exact hf.2)]
      rw [hl] at hf hr
      have hat : getAtV r k = okR r0 := by rw [getAt_num h3, hr]; exact idx_get hf.1 hli
      have hpad : padV l i = l := by
        unfold padV
        rw [show i + 1 - l.length = 0 by omega]
        simp
      obtain ⟨hil, hie⟩ := List.getElem?_eq_some_iff.1 hli
      have hmono := countL_mono (a := l.set i d0) (b := l) (by simp) fun j h1 h2 => by
        rw [List.getElem_set]
        split
        · rename_i hj
          subst hj
          rw [hie]
          exact ⟨e3, e4⟩
        · exact ⟨Nat.le_refl _, Nat.le_refl _⟩
      have hcr : r.count = countL l + 1 := by rw [hr]; rfl
      have hdr : r.depth = depthL l + 1 := by rw [hr]; rfl
      have hdright : (arrV (l.set i d0)).right := by
        have h1 := hrr.2.1
        have h2 := hrr.2.2
        have h3' := countL_len (l.set i d0)
        refine ⟨arr_wf (wfL_iff.2 fun y hy => ?_) (by omega), by simp only [arrV, V.count]; omega, by simp only [arrV, V.depth]; omega⟩
        rcases List.mem_or_eq_of_mem_set hy with hy | rfl
        · have hm : y ∈ r.kids := by rw [hr]; exact hy
          exact (right_mem hrr hm).1
        · exact e2.1
      have hset : setPathV d0 [k] r = okR (arrV (l.set i d0)) := by
        unfold setPathV
        rw [if_pos h3]
        unfold setIdxV
        have hkk : r.kids = l := by rw [hr]; rfl
        rw [if_pos (.inl (by rw [hr]; rfl)), hkk, hf.1, if_neg (by omega), if_neg (by omega), Int.toNat_natCast, hpad]
        show giveR (arrV (l.set i d0)) = _
        exact give_right' hdright
      have hdrop : dropPathV (k :: k' :: p) r = okR (arrV (l.set i d0)) := by
        unfold dropPathV
        rw [hat]
        show (if r0.kind = 0 then okR r else _) = _
        rw [if_neg (by omega), e1]
        exact hset
      refine ⟨_, hdrop, hdright, by rw [hcr]; simp only [arrV, V.count]; omega, by rw [hdr]; simp only [arrV, V.depth]; omega, .inl (by rw [hr]; rfl), fun kl hkl h4l => ?_⟩
      rw [getPath_cons (u := d0) (by rw [getAt_num h3]; exact idx_get (by rw [List.length_set]; exact hf.1) (by rw [List.getElem?_set_self hil]))]
      exact e6 kl (by simpa using hkl) h4l
    · obtain ⟨w, r0, c0, hg, hs, hk6, hr, _⟩ := set_key h4 h
      have hwr := getKey_right hv hg
      obtain ⟨d0, e1, e2, e3, e4, e5, e6⟩ := set_drop hx (k' :: p) hkp (by simp) w r0 c0 hwr hs
      have hr6 : r.kind = 6 := by rw [hr]; rfl
      have hm : r.member k.text = r0 := by rw [hr]; exact obj_snoc (kl_eq hv hk6) k.text r0
      have hat : getAtV r k = okR r0 := by rw [getAt_key h4, getKey_obj hr6, hm]
      have hkl := kl_eq hrr (.inr hr6)
      obtain ⟨a1, a2, a3⟩ := right_asc hrr hr6
      have hup := up_of a1
      have hin : k.text ∈ r.keys := by rw [hr]; exact objKeys_mem.2 (by simp)
      have hkeys : objKeys (r.keys ++ [k.text]) = r.keys := up_eq (objKeys_up _) hup fun y => by
        rw [objKeys_mem]
        simp only [List.mem_append, List.mem_singleton]
        exact ⟨fun h => h.elim id fun e => by rw [e]; exact hin, .inl⟩
      have hD : objV (r.keys ++ [k.text]) (r.kids ++ [d0]) = .mk 6 0 ByteArray.empty r.keys (r.keys.map (lastKid (r.keys ++ [k.text]) (r.kids ++ [d0]))) := by unfold objV; rw [hkeys]
      have hrk : r.keys.map r.member = r.kids := obj_members hrr hr6
      have hone : ∀ y ∈ r.keys, lastKid (r.keys ++ [k.text]) (r.kids ++ [d0]) y = if y = k.text then d0 else r.member y := fun y hy => by
        rw [lastKid_snoc hkl (.inr hy)]
        split
        · rfl
        · obtain ⟨j, g1, g2, g3⟩ := lastKid_at (kids := r.kids) hkl hy
          obtain ⟨jl, je⟩ := List.getElem?_eq_some_iff.1 g1
          have := member_at (findKey_own a1 jl) (by rw [g3])
          rw [je] at this
          exact this.symm
      have hmono := countL_mono (a := r.keys.map (lastKid (r.keys ++ [k.text]) (r.kids ++ [d0]))) (b := r.kids) (by rw [List.length_map]; exact hkl) fun j h1 h2 => by
        have hj : j < r.keys.length := by simpa using h1
        rw [List.getElem_map, hone _ (List.getElem_mem hj)]
        have hb : r.kids[j] = r.member r.keys[j] := (member_at (findKey_own a1 hj) (List.getElem?_eq_getElem h2)).symm
        rw [hb]
        split
        · rename_i he
          rw [he, hm]
          exact ⟨e3, e4⟩
        · exact ⟨Nat.le_refl _, Nat.le_refl _⟩
      have hcr := count_kids r
      have hdr := depth_kids r
      have hdright : (objV (r.keys ++ [k.text]) (r.kids ++ [d0])).right := by
        have h1 := hrr.2.1
        have h2 := hrr.2.2
        have h3' := countL_len (r.keys.map (lastKid (r.keys ++ [k.text]) (r.kids ++ [d0])))
        rw [hD]
        refine ⟨obj_wf (by rw [List.length_map]) a2 hup (fun y hy => ?_) (by omega), by simp only [V.count]; omega, by simp only [V.depth]; omega⟩
        obtain ⟨q, hq, rfl⟩ := List.mem_map.1 hy
        rw [hone q hq]
        split
        · exact e2.1
        · exact (right_member hrr hr6 q).1
      have hset : setPathV d0 [k] r = okR (objV (r.keys ++ [k.text]) (r.kids ++ [d0])) := by
        unfold setPathV
        rw [if_neg (by omega), getKey_obj hr6]
        show setKeyV r k.text d0 = _
        unfold setKeyV
        rw [if_pos (.inr hr6)]
        exact give_right' hdright
      have hdrop : dropPathV (k :: k' :: p) r = okR (objV (r.keys ++ [k.text]) (r.kids ++ [d0])) := by
        unfold dropPathV
        rw [hat]
        show (if r0.kind = 0 then okR r else _) = _
        rw [if_neg (by omega), e1]
        exact hset
      refine ⟨_, hdrop, hdright, by rw [hD]; simp only [V.count]; omega, by rw [hD]; simp only [V.depth]; omega, .inr hr6, fun kl hkl' h4l => ?_⟩
      rw [getPath_cons (u := d0) (by rw [getAt_key h4, getKey_obj rfl, obj_snoc hkl])]
      exact e6 kl (by simpa using hkl') h4l
end Go.Proofs.YtpaooephkpjkfaaGreat
