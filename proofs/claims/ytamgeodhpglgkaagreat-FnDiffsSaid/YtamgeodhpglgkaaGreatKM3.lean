/- Texts of this proof: M20 M21 M22. -/
import Derived.Test.YtamgeodhpglgkaaGreatKM2
import Derived.Test.YtamgeodhpglgkaaGreatKG21
set_option linter.unusedSimpArgs false
namespace Go.Proofs.YtamgeodhpglgkaaGreat
open Go.RowKit
def mergeU : List ByteArray → List ByteArray → List ByteArray
 | [], b => b
 | x :: a, [] => x :: a
 | x :: a, y :: b => if lessB x y then x :: mergeU a (y :: b) else if x.toList == y.toList then y :: mergeU a b else y :: mergeU (x :: a) b
termination_by a b => a.length + b.length
theorem mergeU_nil (a : List ByteArray) : mergeU a [] = a := by cases a <;> simp [mergeU]
theorem mergeU_left (b : List ByteArray) : mergeU [] b = b := by simp [mergeU]
theorem mergeU_mem : ∀ (n : Nat) (a b : List ByteArray), a.length + b.length ≤ n → ∀ x, x ∈ mergeU a b ↔ x ∈ a ∨ x ∈ b
 | _, [], b, _, x => by simp [mergeU]
 | _, y :: a, [], _, x => by simp [mergeU]
 | 0, y :: a, z :: b, h, x => by simp at h
 | n + 1, y :: a, z :: b, h, x => by
  simp only [List.length_cons] at h
  unfold mergeU
  split
  ·rw [List.mem_cons, mergeU_mem n a (z :: b) (by simp only [List.length_cons]; omega) x]
   simp only [List.mem_cons]
   exact or_assoc.symm
  ·split
   ·rename_i he
    have hyz : y = z := ByteArray_toList_inj (by simpa using he)
    subst hyz
    rw [List.mem_cons, mergeU_mem n a b (by omega) x]
    simp only [List.mem_cons]
    constructor
    ·rintro (h | h | h)
     ·exact .inl (.inl h)
     ·exact .inl (.inr h)
     ·exact .inr (.inr h)
    ·rintro ((h | h) | (h | h))
     ·exact .inl h
     ·exact .inr (.inl h)
     ·exact .inl h
     ·exact .inr (.inr h)
   ·rw [List.mem_cons, mergeU_mem n (y :: a) b (by simp only [List.length_cons]; omega) x]
    simp only [List.mem_cons]
    constructor
    ·rintro (h | h | h)
     ·exact .inr (.inl h)
     ·exact .inl h
     ·exact .inr (.inr h)
    ·rintro (h | (h | h))
     ·exact .inr (.inl h)
     ·exact .inl h
     ·exact .inr (.inr h)
theorem mergeU_up : ∀ (n : Nat) (a b : List ByteArray), a.length + b.length ≤ n → Up a → Up b → Up (mergeU a b)
 | _, [], b, _, _, hb => by rw [mergeU_left]; exact hb
 | _, y :: a, [], _, ha, _ => by rw [mergeU_nil]; exact ha
 | 0, y :: a, z :: b, h, _, _ => by simp at h
 | n + 1, y :: a, z :: b, h, ha, hb => by
  simp only [List.length_cons] at h
  have ha' := List.pairwise_cons.1 (show List.Pairwise _ (y :: a) from ha)
  have hb' := List.pairwise_cons.1 (show List.Pairwise _ (z :: b) from hb)
  unfold mergeU
  split
  ·rename_i hl
   refine List.pairwise_cons.2 ⟨fun x hx => ?_, mergeU_up n a (z :: b) (by simp only [List.length_cons]; omega) ha'.2 hb⟩
   rcases (mergeU_mem n a (z :: b) (by simp only [List.length_cons]; omega) x).1 hx with h | h
   ·exact ha'.1 x h
   ·rcases List.mem_cons.1 h with rfl | h
    ·exact hl
    ·exact lessB_trans hl (hb'.1 x h)
  ·rename_i hl
   split
   ·rename_i he
    have hyz : y = z := ByteArray_toList_inj (by simpa using he)
    subst hyz
    refine List.pairwise_cons.2 ⟨fun x hx => ?_, mergeU_up n a b (by omega) ha'.2 hb'.2⟩
    rcases (mergeU_mem n a b (by omega) x).1 hx with h | h
    ·exact ha'.1 x h
    ·exact hb'.1 x h
   ·rename_i he
    have hzy : lessB z y = true := by
     rcases lessB_tri y z with g | g | g
     ·exact absurd g hl
     ·subst g; exact absurd (by simp) he
     ·exact g
    refine List.pairwise_cons.2 ⟨fun x hx => ?_, mergeU_up n (y :: a) b (by simp only [List.length_cons]; omega) ha hb'.2⟩
    rcases (mergeU_mem n (y :: a) b (by simp only [List.length_cons]; omega) x).1 hx with h | h
    ·rcases List.mem_cons.1 h with rfl | h
     ·exact hzy
     ·exact lessB_trans hzy (ha'.1 x h)
    ·exact hb'.1 x h
theorem mergeU_keys {a b : List ByteArray} (ha : Up a) (hb : Up b) : mergeU a b = objKeys (a ++ b) :=
 up_eq (mergeU_up _ a b (Nat.le_refl _) ha hb) (objKeys_up _) fun x => by rw [mergeU_mem _ a b (Nat.le_refl _), objKeys_mem, List.mem_append]
theorem lessB_asym {a b : ByteArray} (h : lessB a b = true) : lessB b a = false := by
 cases h2 : lessB b a with
 | false => rfl
 | true =>
  have := lessB_trans h h2
  rw [lessB_irrefl] at this
  cases this
theorem bsPos_cons (x : ByteArray) (r : List ByteArray) (k : ByteArray) : bsPos (x :: r) k = if lessB x k then bsPos r k + 1 else 0 := by
 unfold bsPos
 rw [List.findIdx_cons]
 cases lessB x k <;> rfl
theorem bsFound_iff {l : List ByteArray} {k : ByteArray} : bsFound l k = true ↔ l[bsPos l k]? = some k := by
 unfold bsFound
 split
 ·rename_i h
  rw [List.getElem?_eq_getElem h, beq_iff_eq, Option.some.injEq]
  exact ⟨ByteArray_toList_inj, fun e => by rw [e]⟩
 ·rename_i h
  rw [List.getElem?_eq_none (by omega)]
  simp
theorem bsPos_at {l : List ByteArray} {k : ByteArray} (h : bsPos l k < l.length) : lessB l[bsPos l k] k = false := by
 have h2 : (fun x => !lessB x k) (l[bsPos l k]) = true := List.findIdx_getElem (w := h)
 simpa using h2
theorem insKey_pos : ∀ {l : List ByteArray} {k : ByteArray}, Up l → insKey k l = if bsFound l k then l else l.take (bsPos l k) ++ [k] ++ l.drop (bsPos l k)
 | [], k, _ => by simp [insKey, bsFound, bsPos]
 | x :: r, k, h => by
  have h' := List.pairwise_cons.1 (show List.Pairwise _ (x :: r) from h)
  unfold insKey
  split
  ·rename_i hl
   have hx := lessB_asym hl
   have hp : bsPos (x :: r) k = 0 := by rw [bsPos_cons, hx]; rfl
   have hf : bsFound (x :: r) k = false := by
    cases hf : bsFound (x :: r) k with
    | false => rfl
    | true =>
     have := bsFound_iff.1 hf
     rw [hp] at this
     have e : x = k := by simpa using this
     subst e
     rw [lessB_irrefl] at hl
     cases hl
   rw [hf, hp]
   simp
  ·rename_i hl
   split
   ·rename_i he
    have e : k = x := ByteArray_toList_inj (by simpa using he)
    subst e
    have hp : bsPos (k :: r) k = 0 := by rw [bsPos_cons, lessB_irrefl]; rfl
    have hf : bsFound (k :: r) k = true := bsFound_iff.2 (by rw [hp]; rfl)
    rw [hf]
    rfl
   ·rename_i he
    have hxk : lessB x k = true := by
     rcases lessB_tri x k with g | g | g
     ·exact g
     ·subst g; exact absurd (by simp) he
     ·exact absurd g hl
    have hp : bsPos (x :: r) k = bsPos r k + 1 := by rw [bsPos_cons, hxk]; rfl
    have hf : bsFound (x :: r) k = bsFound r k := by
     have : bsFound (x :: r) k = true ↔ bsFound r k = true := by
      rw [bsFound_iff, bsFound_iff, hp, List.getElem?_cons_succ]
     cases h1 : bsFound (x :: r) k <;> cases h2 : bsFound r k <;> simp_all
    rw [hf, hp, insKey_pos h'.2]
    split
    ·rfl
    ·simp
theorem setMap {l : List ByteArray} (h : Up l) {p : Nat} {k : ByteArray} (hp : l[p]? = some k) (g g' : ByteArray → V) (v : V) (hk : g' k = v) (hg : ∀ x ∈ l, x ≠ k → g' x = g x) : l.map g' = (l.map g).set p v := by
 refine List.ext_getElem (by simp) fun i h1 h2 => ?_
 have hi : i < l.length := by simpa using h1
 rw [List.getElem_map, List.getElem_set]
 split
 ·rename_i e
  subst e
  rw [List.getElem?_eq_getElem hi] at hp
  rw [Option.some.inj hp, hk]
 ·rename_i e
  rw [List.getElem_map]
  refine hg _ (List.getElem_mem hi) fun hx => e ?_
  exact up_inj h hp (List.getElem?_eq_some_iff.2 ⟨hi, hx⟩)
theorem member_at {a : V} {s : ByteArray} {j : Nat} {v : V} (h : findKey a.keys s = some j) (hv : a.kids[j]? = some v) : a.member s = v := by
 unfold V.member
 rw [h]
 simp only
 rw [List.getD_eq_getElem?_getD, hv]
 rfl
def setKeyV (v : V) (key : ByteArray) (x : V) : Int × Option V := if v.kind = 0 ∨ v.kind = 6 then giveR (objV (v.keys ++ [key]) (v.kids ++ [x])) else badR 6
def padV (kids : List V) (n : Nat) : List V := kids ++ List.replicate (n + 1 - kids.length) nullV
def onSome (r : Int × Option V) (g : V → Int × Option V) : Int × Option V := match r with
 | (_, some u) => g u
 | (c, none) => (c, none)
def setIdxV (v : V) (n : Int) (f : V → Int × Option V) : Int × Option V :=
 if v.kind = 5 ∨ v.kind = 0 then
  if fromEnd n v.kids.length < 0 then badR 3
  else if fromEnd n v.kids.length ≥ 200 then badR 2
  else onSome (f ((padV v.kids (fromEnd n v.kids.length).toNat).getD (fromEnd n v.kids.length).toNat nullV)) fun r => giveR (arrV ((padV v.kids (fromEnd n v.kids.length).toNat).set (fromEnd n v.kids.length).toNat r))
 else badR 6
def setPathV (x : V) : List V → V → Int × Option V
 | [], _ => okR x
 | k :: p, v => if k.kind = 3 then setIdxV v k.num (setPathV x p)
  else match getKeyV v k.text with
   | (_, some w) => match setPathV x p w with
    | (_, some r) => setKeyV v k.text r
    | (c, none) => (c, none)
   | (c, none) => (c, none)
theorem give_ok {t : V} (h : t.fit) : okRes (giveR t) := by
 unfold giveR
 split
 ·rename_i h0
  exact ⟨rfl, fit_dec h h0⟩
 ·rename_i h0
  exact h0
theorem pad_len (kids : List V) (n : Nat) : (padV kids n).length = max kids.length (n + 1) := by
 unfold padV
 rw [List.length_append, List.length_replicate]
 omega
theorem pad_right {kids : List V} (h : ∀ v ∈ kids, v.right) (n : Nat) : ∀ v ∈ padV kids n, v.right := fun v hv => by
 rcases List.mem_append.1 hv with hv | hv
 ·exact h v hv
 ·rw [(List.mem_replicate.1 hv).2]
  exact right_null
theorem pad_get {kids : List V} {n : Nat} : (padV kids n).getD n nullV = if h : n < kids.length then kids[n] else nullV := by
 unfold padV
 rw [List.getD_eq_getElem?_getD]
 split
 ·rename_i h
  rw [List.getElem?_append_left h, List.getElem?_eq_getElem h]
  rfl
 ·rename_i h
  rw [List.getElem?_append_right (by omega)]
  cases hg : (List.replicate (n + 1 - kids.length) nullV)[n - kids.length]? with
  | none => rfl
  | some y => exact (List.mem_replicate.1 (List.mem_of_getElem? hg)).2
theorem countL_le {l : List V} {m : Nat} (h : ∀ v ∈ l, v.count ≤ m) : countL l ≤ m * l.length := by
 induction l with
 | nil => simp [countL]
 | cons x l ih =>
  have h1 := h x (by simp)
  have h2 := ih fun v hv => h v (by simp [hv])
  simp only [countL, List.length_cons, Nat.mul_add]
  omega
theorem arr_fit {l : List V} (h : ∀ v ∈ l, v.fit) : (arrV l).fit := ⟨Nat.zero_le _, by simp, fun h => absurd h (by decide), fun h => absurd h (by decide), fun _ => rfl, fitL_iff.2 h⟩
theorem obj_fit {ks : List ByteArray} {vs : List V} (hl : ks.length = vs.length) (hk : ∀ k ∈ ks, k.size ≤ 60) (hv : ∀ v ∈ vs, v.fit) : (objV ks vs).fit := by
 refine ⟨Nat.zero_le _, fun k h => hk k (objKeys_mem.1 h), fun h => absurd h (by decide), fun _ => (List.length_map _).symm, fun h => absurd rfl h, fitL_iff.2 fun v h => ?_⟩
 obtain ⟨k, hk', rfl⟩ := List.mem_map.1 h
 obtain ⟨j, _, _, h3⟩ := lastKid_at (kids := vs) hl (objKeys_mem.1 hk')
 exact hv _ (List.mem_of_getElem? h3)
theorem set_all {l : List V} {p : V → Prop} (h : ∀ v ∈ l, p v) {n : Nat} {r : V} (hr : p r) : ∀ v ∈ l.set n r, p v := fun v hv => by
 rcases List.mem_or_eq_of_mem_set hv with hv | rfl
 ·exact h v hv
 ·exact hr
theorem right_keys {v : V} (h : v.right) : ∀ k ∈ v.keys, k.size ≤ 60 := fit_keys (fit_right h)
theorem right_kids0 {v : V} (h : v.right) (h0 : v.kind = 0) : v.keys = [] ∧ v.kids = [] := by
 have := right_shape h.1
 exact ⟨this.2.2.2.2.1 (by omega), this.2.2.2.2.2 (by omega) (by omega)⟩
theorem right_kl6 {v : V} (h : v.right) (hk : v.kind = 0 ∨ v.kind = 6) : v.keys.length = v.kids.length := by
 rcases hk with h0 | h6
 ·rw [(right_kids0 h h0).1, (right_kids0 h h0).2]; rfl
 ·exact (right_asc h h6).2.2
theorem setKey_fit {v x : V} (h : v.right) (hx : x.right) {key : ByteArray} (hk : okText key = true) (h6 : v.kind = 0 ∨ v.kind = 6) : (objV (v.keys ++ [key]) (v.kids ++ [x])).fit := by
 refine obj_fit (by rw [List.length_append, List.length_append, right_kl6 h h6]; rfl) (fun k hk' => ?_) fun y hy => ?_
 ·rcases List.mem_append.1 hk' with h1 | h1
  ·exact right_keys h k h1
  ·rw [List.mem_singleton.1 h1]; exact okText_le hk
 ·rcases List.mem_append.1 hy with h1 | h1
  ·exact fit_right (right_mem h h1)
  ·rw [List.mem_singleton.1 h1]; exact fit_right hx
theorem setKey_count {v x : V} (h : v.right) (hx : x.right) (key : ByteArray) (h6 : v.kind = 0 ∨ v.kind = 6) : countL (v.kids ++ [x]) ≤ 400 ∧ (objV (v.keys ++ [key]) (v.kids ++ [x])).count ≤ 401 := by
 have h1 := count_kids v
 have h2 := h.2.1
 have h3 := hx.2.1
 have h4 : countL (v.kids ++ [x]) ≤ 400 := by
  rw [countL_app]
  simp only [countL]
  omega
 refine ⟨h4, ?_⟩
 have h5 := objV_count _ (v.keys ++ [key]) (v.kids ++ [x]) rfl (by rw [List.length_append, List.length_append, right_kl6 h h6]; rfl)
 have h7 := count_kids (objV (v.keys ++ [key]) (v.kids ++ [x]))
 have h8 : (objV (v.keys ++ [key]) (v.kids ++ [x])).kids = (objKeys (v.keys ++ [key])).map (lastKid (v.keys ++ [key]) (v.kids ++ [x])) := rfl
 rw [h8] at h7
 omega
theorem setKey_ok {v x : V} (h : v.right) (hx : x.right) {key : ByteArray} (hk : okText key = true) : okRes (setKeyV v key x) := by
 unfold setKeyV
 split
 ·rename_i h6
  exact give_ok (setKey_fit h hx hk h6)
 ·exact okRes_bad (by decide)
theorem setIdx_fit {v r : V} (h : v.right) (hr : r.right) (n : Nat) : (arrV ((padV v.kids n).set n r)).fit :=
 arr_fit fun y hy => fit_right (set_all (pad_right (fun z hz => right_mem h hz) n) hr y hy)
theorem setIdx_count {v r : V} (h : v.right) (hr : r.right) {n : Nat} (hn : n < 200) : (arrV ((padV v.kids n).set n r)).count ≤ 40001 := by
 have h1 := countL_le (l := (padV v.kids n).set n r) (m := 200) fun y hy => (set_all (pad_right (fun z hz => right_mem h hz) n) hr y hy).2.1
 have h2 := kids_len_le h.2.1
 rw [List.length_set, pad_len] at h1
 have h3 := count_kids (arrV ((padV v.kids n).set n r))
 rw [show (arrV ((padV v.kids n).set n r)).kids = (padV v.kids n).set n r from rfl] at h3
 have : 200 * max v.kids.length (n + 1) ≤ 200 * 200 := Nat.mul_le_mul_left _ (by omega)
 omega
theorem pad_at {v : V} (h : v.right) (n : Nat) : ((padV v.kids n).getD n nullV).right := by
 rw [pad_get]
 split
 ·exact right_mem h (List.getElem_mem _)
 ·exact right_null
theorem setPath_ok {x : V} (hx : x.right) : ∀ (p : List V), (∀ k ∈ p, k.right ∧ (k.kind = 3 ∨ k.kind = 4)) → ∀ (v : V), v.right → okRes (setPathV x p v)
 | [], _, v, _ => okRes_ok hx
 | k :: p, hp, v, hv => by
  have ih := setPath_ok hx p fun y hy => hp y (by simp [hy])
  unfold setPathV
  split
  ·unfold setIdxV
   split
   ·split
    ·exact okRes_bad (by decide)
    ·split
     ·exact okRes_bad (by decide)
     ·have h1 := ih _ (pad_at hv (fromEnd k.num v.kids.length).toNat)
      generalize setPathV x p _ = q at *
      rcases q with ⟨c, _ | r⟩
      ·exact h1
      ·exact give_ok (setIdx_fit hv h1.2 _)
   ·exact okRes_bad (by decide)
  ·rename_i h3
   have hk4 : k.kind = 4 := (hp k (by simp)).2.resolve_left h3
   have hkt : okText k.text = true := by
    have := (hp k (by simp)).1.1
    cases k
    exact (code_text (c := ⟨_, _, _, ByteArray.empty, _⟩) this.1).1
   have h1 := getKey_ok hv k.text
   generalize getKeyV v k.text = q at *
   rcases q with ⟨c, _ | w⟩
   ·exact h1
   ·have h2 := ih w h1.2
    dsimp only
    generalize setPathV x p w = q at *
    rcases q with ⟨c, _ | r⟩
    ·exact h2
    ·exact setKey_ok hv h2.2 hkt
def dropK (v : V) (key : ByteArray) : V := .mk 6 0 ByteArray.empty (v.keys.filter fun k => !(k.toList == key.toList)) ((v.keys.filter fun k => !(k.toList == key.toList)).map v.member)
def dropKeyV (v : V) (key : ByteArray) : Int × Option V := if v.kind = 0 then okR nullV else if v.kind = 6 then okR (dropK v key) else badR 6
def dropAt (l : List V) (m : Int) : List V := if 0 ≤ m ∧ m < l.length then l.eraseIdx m.toNat else l
def dropIdxV (v : V) (n : Int) : Int × Option V := if v.kind = 0 then okR nullV else if v.kind = 5 then okR (arrV (dropAt v.kids (fromEnd n v.kids.length))) else badR 6
def dropPathV : List V → V → Int × Option V
 | [], _ => okR nullV
 | [k], v => if k.kind = 4 then dropKeyV v k.text else dropIdxV v k.num
 | k :: k' :: p, v => match getAtV v k with
  | (_, some w) => if w.kind = 0 then okR v else match dropPathV (k' :: p) w with
   | (_, some r) => setPathV r [k] v
   | (c, none) => (c, none)
  | (c, none) => (c, none)
theorem asc_of : ∀ {l : List ByteArray} {p : Option ByteArray}, Up l → (∀ k ∈ l, ∀ q, p = some q → lessB q k = true) → asc p l
 | [], p, _, _ => by unfold asc; trivial
 | k :: l, p, h, hp => by
  have h' := List.pairwise_cons.1 (show List.Pairwise _ (k :: l) from h)
  have ih : asc (some k) l := asc_of h'.2 fun x hx q hq => by cases hq; exact h'.1 x hx
  cases p with
  | none => exact ih
  | some q => exact ⟨hp k (by simp) q rfl, ih⟩
theorem wfL_iff : ∀ {l : List V}, wfL l ↔ ∀ v ∈ l, v.wf
 | [] => by simp [wfL]
 | v :: l => by simp only [wfL, List.mem_cons, forall_eq_or_imp, wfL_iff (l := l)]
theorem depthL_le {l : List V} {m : Nat} (h : ∀ v ∈ l, v.depth ≤ m) : depthL l ≤ m := by
 induction l with
 | nil => exact Nat.zero_le _
 | cons x l ih =>
  have h1 := h x (by simp)
  have h2 := ih fun v hv => h v (by simp [hv])
  simp only [depthL]
  omega
theorem obj_wf {ks : List ByteArray} {vs : List V} (hl : ks.length = vs.length) (hk : ∀ k ∈ ks, okText k = true) (hu : Up ks) (hv : ∀ v ∈ vs, v.wf) (hn : vs.length ≤ 200) : (V.mk 6 0 ByteArray.empty ks vs).wf := by
 refine ⟨?_, ?_, wfL_iff.2 hv⟩
 ·unfold cellCode
  have h1 : inB 6 0 6 = true := by decide
  have h2 : inB (vs.length : Int) 0 200 = true := by unfold inB; simp; omega
  simp [h1, cF, cR, cT, okText_empty, holds, h2, inB]
  omega
 ·unfold keysOk
  rw [if_pos rfl]
  exact ⟨hl, hk, asc_of hu (by simp)⟩
theorem obj_members {v : V} (h : v.right) (h6 : v.kind = 6) : v.keys.map v.member = v.kids := by
 obtain ⟨h1, h2, h3⟩ := right_asc h h6
 refine List.ext_getElem (by rw [List.length_map, h3]) fun i h4 h5 => ?_
 rw [List.getElem_map]
 have h4' : i < v.keys.length := by simpa using h4
 exact member_at (findKey_own h1 h4') (List.getElem?_eq_getElem h5)
theorem dropK_right {v : V} (h : v.right) (h6 : v.kind = 6) (key : ByteArray) : (dropK v key).right := by
 obtain ⟨h1, h2, h3⟩ := right_asc h h6
 have hc := filter_count (fun k => !(k.toList == key.toList)) v.member v.keys
 rw [obj_members h h6] at hc
 have hck := count_kids v
 have hv := h.2.1
 have hlen := countL_len ((v.keys.filter fun k => !(k.toList == key.toList)).map v.member)
 refine ⟨obj_wf (by rw [List.length_map]) (fun k hk => h2 k (List.mem_filter.1 hk).1) (up_filter (up_of h1) _) (fun x hx => ?_) (by omega), ?_, ?_⟩
 ·obtain ⟨k, _, rfl⟩ := List.mem_map.1 hx
  exact (right_member h h6 k).1
 ·have := count_kids (dropK v key)
  simp only [dropK, V.kids] at this ⊢
  omega
 ·have h4 : depthL ((v.keys.filter fun k => !(k.toList == key.toList)).map v.member) ≤ depthL v.kids := depthL_le fun x hx => by
   obtain ⟨k, hk, rfl⟩ := List.mem_map.1 hx
   have : v.member k ∈ v.kids := by
    rw [← obj_members h h6]
    exact List.mem_map_of_mem (List.mem_filter.1 hk).1
   exact depthL_mem this
  have h5 := depth_kids (dropK v key)
  have h7 := depth_kids v
  have h8 := h.2.2
  simp only [dropK, V.kids] at h5 ⊢
  omega
theorem countL_erase (l : List V) (n : Nat) : countL (l.eraseIdx n) ≤ countL l := by
 induction l generalizing n with
 | nil => simp
 | cons x l ih =>
  cases n with
  | zero => simp only [List.eraseIdx_cons_zero, countL]; omega
  | succ n =>
   have := ih n
   simp only [List.eraseIdx_cons_succ, countL]
   omega
theorem dropIdx_right {v : V} (h : v.right) (m : Int) : (arrV (dropAt v.kids m)).right := by
 have hm : ∀ x ∈ dropAt v.kids m, x ∈ v.kids := fun x hx => by
  unfold dropAt at hx
  split at hx
  ·exact List.mem_of_mem_eraseIdx hx
  ·exact hx
 have hc : countL (dropAt v.kids m) ≤ countL v.kids := by
  unfold dropAt
  split
  ·exact countL_erase _ _
  ·exact Nat.le_refl _
 have hd : depthL (dropAt v.kids m) ≤ depthL v.kids := depthL_le fun x hx => depthL_mem (hm x hx)
 have hck := count_kids v
 have hv := h.2.1
 have hlen := countL_len (dropAt v.kids m)
 have hdn := depth_kids v
 have hv2 := h.2.2
 refine ⟨arr_wf (wfL_iff.2 fun x hx => (right_mem h (hm x hx)).1) (by omega), ?_, ?_⟩
 ·simp only [arrV, V.count]; omega
 ·simp only [arrV, V.depth]; omega
theorem dropKey_ok {v : V} (h : v.right) (key : ByteArray) : okRes (dropKeyV v key) := by
 unfold dropKeyV
 split
 ·exact okRes_ok right_null
 ·split
  ·rename_i h6
   exact okRes_ok (dropK_right h h6 key)
  ·exact okRes_bad (by decide)
theorem dropIdx_ok {v : V} (h : v.right) (n : Int) : okRes (dropIdxV v n) := by
 unfold dropIdxV
 split
 ·exact okRes_ok right_null
 ·split
  ·exact okRes_ok (dropIdx_right h _)
  ·exact okRes_bad (by decide)
theorem dropPath_ok : ∀ (p : List V), (∀ k ∈ p, k.right ∧ (k.kind = 3 ∨ k.kind = 4)) → ∀ (v : V), v.right → okRes (dropPathV p v)
 | [], _, v, _ => okRes_ok right_null
 | [k], _, v, hv => by
  unfold dropPathV
  split
  ·exact dropKey_ok hv _
  ·exact dropIdx_ok hv _
 | k :: k' :: p, hp, v, hv => by
  have ih := dropPath_ok (k' :: p) fun y hy => hp y (by simp only [List.mem_cons] at hy ⊢; exact .inr hy)
  have h1 := getAt_ok hv k
  unfold dropPathV
  generalize getAtV v k = q at *
  rcases q with ⟨c, _ | w⟩
  ·exact h1
  ·dsimp only
   split
   ·exact okRes_ok hv
   ·have h2 := ih w h1.2
    generalize dropPathV (k' :: p) w = q at *
    rcases q with ⟨c, _ | r⟩
    ·exact h2
    ·exact setPath_ok h2.2 [k] (fun y hy => hp y (by simp only [List.mem_singleton] at hy; simp [hy])) v hv
end Go.Proofs.YtamgeodhpglgkaaGreat
