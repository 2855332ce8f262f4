/- Texts of this proof: M20 M21 M22 G48 S02. -/
import Derived.Test.YtlciedpfjhkkdaaGreatDoorKM2
import Derived.Test.YtlciedpfjhkkdaaGreatDoorKG20uG21
import Derived.Test.YtlciedpfjhkkdaaGreatDoorKG12uG33
import Derived.Test.YtlciedpfjhkkdaaGreatDoorKT01
import Derived.Shelf.SlGeneric
import Derived.Shelf.SlLaysM
set_option linter.unusedSimpArgs false
set_option linter.unusedVariables false
set_option linter.unnecessarySimpa false
namespace Go.Proofs.YtlciedpfjhkkdaaGreatDoor
open Go.RowKit
theorem lessB_asym {a b : ByteArray} (h : lessB a b = true) : lessB b a = false := by
 cases h2 : lessB b a with
 | false => rfl
 | true =>
  have := lessB_trans h h2
  rw [lessB_irrefl] at this
  cases this
theorem bsPos_cons (x : ByteArray) (r : List ByteArray) (k : ByteArray) : bsPos (x :: r) k = if lessB x k then bsPos r k + 1 else 0 := by
 unfold bsPos
 rw [List.findIdx_cons]
 cases lessB x k <;> rfl
theorem bsFound_iff {l : List ByteArray} {k : ByteArray} : bsFound l k = true ↔ l[bsPos l k]? = some k := by
 unfold bsFound
 split
 ·rename_i h
  rw [List.getElem?_eq_getElem h, beq_iff_eq, Option.some.injEq]
  exact ⟨ByteArray_toList_inj, fun e => by rw [e]⟩
 ·rename_i h
  rw [List.getElem?_eq_none (by omega)]
  simp
theorem bsPos_at {l : List ByteArray} {k : ByteArray} (h : bsPos l k < l.length) : lessB l[bsPos l k] k = false := by
 have h2 : (fun x => !lessB x k) (l[bsPos l k]) = true := List.findIdx_getElem (w := h)
 simpa using h2
theorem insKey_pos : ∀ {l : List ByteArray} {k : ByteArray}, Up l → insKey k l = if bsFound l k then l else l.take (bsPos l k) ++ [k] ++ l.drop (bsPos l k)
 | [], k, _ => by simp [insKey, bsFound, bsPos]
 | x :: r, k, h => by
  have h' := List.pairwise_cons.1 (show List.Pairwise _ (x :: r) from h)
  unfold insKey
  split
  ·rename_i hl
   have hx := lessB_asym hl
   have hp : bsPos (x :: r) k = 0 := by rw [bsPos_cons, hx]; rfl
   have hf : bsFound (x :: r) k = false := by
    cases hf : bsFound (x :: r) k with
    | false => rfl
    | true =>
     have := bsFound_iff.1 hf
     rw [hp] at this
     have e : x = k := by simpa using this
     subst e
     rw [lessB_irrefl] at hl
     cases hl
   rw [hf, hp]
   simp
  ·rename_i hl
   split
   ·rename_i he
    have e : k = x := ByteArray_toList_inj (by simpa using he)
    subst e
    have hp : bsPos (k :: r) k = 0 := by rw [bsPos_cons, lessB_irrefl]; rfl
    have hf : bsFound (k :: r) k = true := bsFound_iff.2 (by rw [hp]; rfl)
    rw [hf]
    rfl
   ·rename_i he
    have hxk : lessB x k = true := by
     rcases lessB_tri x k with g | g | g
     ·exact g
     ·subst g; exact absurd (by simp) he
     ·exact absurd g hl
    have hp : bsPos (x :: r) k = bsPos r k + 1 := by rw [bsPos_cons, hxk]; rfl
    have hf : bsFound (x :: r) k = bsFound r k := by
     have : bsFound (x :: r) k = true ↔ bsFound r k = true := by
      rw [bsFound_iff, bsFound_iff, hp, List.getElem?_cons_succ]
     cases h1 : bsFound (x :: r) k <;> cases h2 : bsFound r k <;> simp_all
    rw [hf, hp, insKey_pos h'.2]
    split
    ·rfl
    ·simp
theorem setMap {l : List ByteArray} (h : Up l) {p : Nat} {k : ByteArray} (hp : l[p]? = some k) (g g' : ByteArray → V) (v : V) (hk : g' k = v) (hg : ∀ x ∈ l, x ≠ k → g' x = g x) : l.map g' = (l.map g).set p v := by
 refine List.ext_getElem (by simp) fun i h1 h2 => ?_
 have hi : i < l.length := by simpa using h1
 rw [List.getElem_map, List.getElem_set]
 split
 ·rename_i e
  subst e
  rw [List.getElem?_eq_getElem hi] at hp
  rw [Option.some.inj hp, hk]
 ·rename_i e
  rw [List.getElem_map]
  refine hg _ (List.getElem_mem hi) fun hx => e ?_
  exact up_inj h hp (List.getElem?_eq_some_iff.2 ⟨hi, hx⟩)
def setKeyV (v : V) (key : ByteArray) (x : V) : Int × Option V := if v.kind = 0 ∨ v.kind = 6 then giveR (objV (v.keys ++ [key]) (v.kids ++ [x])) else badR 6
def padV (kids : List V) (n : Nat) : List V := kids ++ List.replicate (n + 1 - kids.length) nullV
def onSome (r : Int × Option V) (g : V → Int × Option V) : Int × Option V := match r with
 | (_, some u) => g u
 | (c, none) => (c, none)
def setIdxV (v : V) (n : Int) (f : V → Int × Option V) : Int × Option V :=
 if v.kind = 5 ∨ v.kind = 0 then
  if fromEnd n v.kids.length < 0 then badR 3
  else if fromEnd n v.kids.length ≥ 200 then badR 2
  else onSome (f ((padV v.kids (fromEnd n v.kids.length).toNat).getD (fromEnd n v.kids.length).toNat nullV)) fun r => giveR (arrV ((padV v.kids (fromEnd n v.kids.length).toNat).set (fromEnd n v.kids.length).toNat r))
 else badR 6
def setPathV (x : V) : List V → V → Int × Option V
 | [], _ => okR x
 | k :: p, v => if k.kind = 3 then setIdxV v k.num (setPathV x p)
  else match getKeyV v k.text with
   | (_, some w) => match setPathV x p w with
    | (_, some r) => setKeyV v k.text r
    | (c, none) => (c, none)
   | (c, none) => (c, none)
theorem give_ok {t : V} (h : t.fit) : okRes (giveR t) := by
 unfold giveR
 split
 ·rename_i h0
  exact ⟨rfl, fit_dec h h0⟩
 ·rename_i h0
  exact h0
theorem pad_len (kids : List V) (n : Nat) : (padV kids n).length = max kids.length (n + 1) := by
 unfold padV
 rw [List.length_append, List.length_replicate]
 omega
theorem pad_right {kids : List V} (h : ∀ v ∈ kids, v.right) (n : Nat) : ∀ v ∈ padV kids n, v.right := fun v hv => by
 rcases List.mem_append.1 hv with hv | hv
 ·exact h v hv
 ·rw [(List.mem_replicate.1 hv).2]
  exact right_null
theorem pad_get {kids : List V} {n : Nat} : (padV kids n).getD n nullV = if h : n < kids.length then kids[n] else nullV := by
 unfold padV
 rw [List.getD_eq_getElem?_getD]
 split
 ·rename_i h
  rw [List.getElem?_append_left h, List.getElem?_eq_getElem h]
  rfl
 ·rename_i h
  rw [List.getElem?_append_right (by omega)]
  cases hg : (List.replicate (n + 1 - kids.length) nullV)[n - kids.length]? with
  | none => rfl
  | some y => exact (List.mem_replicate.1 (List.mem_of_getElem? hg)).2
theorem countL_le {l : List V} {m : Nat} (h : ∀ v ∈ l, v.count ≤ m) : countL l ≤ m * l.length := by
 induction l with
 | nil => simp [countL]
 | cons x l ih =>
  have h1 := h x (by simp)
  have h2 := ih fun v hv => h v (by simp [hv])
  simp only [countL, List.length_cons, Nat.mul_add]
  omega
theorem arr_fit {l : List V} (h : ∀ v ∈ l, v.fit) : (arrV l).fit := ⟨Nat.zero_le _, by simp, fun h => absurd h (by decide), fun h => absurd h (by decide), fun _ => rfl, fitL_iff.2 h⟩
theorem obj_fit {ks : List ByteArray} {vs : List V} (hl : ks.length = vs.length) (hk : ∀ k ∈ ks, k.size ≤ 60) (hv : ∀ v ∈ vs, v.fit) : (objV ks vs).fit := by
 refine ⟨Nat.zero_le _, fun k h => hk k (objKeys_mem.1 h), fun h => absurd h (by decide), fun _ => (List.length_map _).symm, fun h => absurd rfl h, fitL_iff.2 fun v h => ?_⟩
 obtain ⟨k, hk', rfl⟩ := List.mem_map.1 h
 obtain ⟨j, _, _, h3⟩ := lastKid_at (kids := vs) hl (objKeys_mem.1 hk')
 exact hv _ (List.mem_of_getElem? h3)
theorem set_all {l : List V} {p : V → Prop} (h : ∀ v ∈ l, p v) {n : Nat} {r : V} (hr : p r) : ∀ v ∈ l.set n r, p v := fun v hv => by
 rcases List.mem_or_eq_of_mem_set hv with hv | rfl
 ·exact h v hv
 ·exact hr
theorem right_keys {v : V} (h : v.right) : ∀ k ∈ v.keys, k.size ≤ 60 := fit_keys (fit_right h)
theorem right_kids0 {v : V} (h : v.right) (h0 : v.kind = 0) : v.keys = [] ∧ v.kids = [] := by
 have := right_shape h.1
 exact ⟨this.2.2.2.2.1 (by omega), this.2.2.2.2.2 (by omega) (by omega)⟩
theorem right_kl6 {v : V} (h : v.right) (hk : v.kind = 0 ∨ v.kind = 6) : v.keys.length = v.kids.length := by
 rcases hk with h0 | h6
 ·rw [(right_kids0 h h0).1, (right_kids0 h h0).2]; rfl
 ·exact (right_asc h h6).2.2
theorem setKey_fit {v x : V} (h : v.right) (hx : x.right) {key : ByteArray} (hk : okText key = true) (h6 : v.kind = 0 ∨ v.kind = 6) : (objV (v.keys ++ [key]) (v.kids ++ [x])).fit := by
 refine obj_fit (by rw [List.length_append, List.length_append, right_kl6 h h6]; rfl) (fun k hk' => ?_) fun y hy => ?_
 ·rcases List.mem_append.1 hk' with h1 | h1
  ·exact right_keys h k h1
  ·rw [List.mem_singleton.1 h1]; exact okText_le hk
 ·rcases List.mem_append.1 hy with h1 | h1
  ·exact fit_right (right_mem h h1)
  ·rw [List.mem_singleton.1 h1]; exact fit_right hx
theorem setKey_count {v x : V} (h : v.right) (hx : x.right) (key : ByteArray) (h6 : v.kind = 0 ∨ v.kind = 6) : countL (v.kids ++ [x]) ≤ 400 ∧ (objV (v.keys ++ [key]) (v.kids ++ [x])).count ≤ 401 := by
 have h1 := count_kids v
 have h2 := h.2.1
 have h3 := hx.2.1
 have h4 : countL (v.kids ++ [x]) ≤ 400 := by
  rw [countL_app]
  simp only [countL]
  omega
 refine ⟨h4, ?_⟩
 have h5 := objV_count _ (v.keys ++ [key]) (v.kids ++ [x]) rfl (by rw [List.length_append, List.length_append, right_kl6 h h6]; rfl)
 have h7 := count_kids (objV (v.keys ++ [key]) (v.kids ++ [x]))
 have h8 : (objV (v.keys ++ [key]) (v.kids ++ [x])).kids = (objKeys (v.keys ++ [key])).map (lastKid (v.keys ++ [key]) (v.kids ++ [x])) := rfl
 rw [h8] at h7
 omega
theorem setKey_ok {v x : V} (h : v.right) (hx : x.right) {key : ByteArray} (hk : okText key = true) : okRes (setKeyV v key x) := by
 unfold setKeyV
 split
 ·rename_i h6
  exact give_ok (setKey_fit h hx hk h6)
 ·exact okRes_bad (by decide)
theorem setIdx_fit {v r : V} (h : v.right) (hr : r.right) (n : Nat) : (arrV ((padV v.kids n).set n r)).fit :=
 arr_fit fun y hy => fit_right (set_all (pad_right (fun z hz => right_mem h hz) n) hr y hy)
theorem setIdx_count {v r : V} (h : v.right) (hr : r.right) {n : Nat} (hn : n < 200) : (arrV ((padV v.kids n).set n r)).count ≤ 40001 := by
 have h1 := countL_le (l := (padV v.kids n).set n r) (m := 200) fun y hy => (set_all (pad_right (fun z hz => right_mem h hz) n) hr y hy).2.1
 have h2 := kids_len_le h.2.1
 rw [List.length_set, pad_len] at h1
 have h3 := count_kids (arrV ((padV v.kids n).set n r))
 rw [show (arrV ((padV v.kids n).set n r)).kids = (padV v.kids n).set n r from rfl] at h3
 have : 200 * max v.kids.length (n + 1) ≤ 200 * 200 := Nat.mul_le_mul_left _ (by omega)
 omega
theorem pad_at {v : V} (h : v.right) (n : Nat) : ((padV v.kids n).getD n nullV).right := by
 rw [pad_get]
 split
 ·exact right_mem h (List.getElem_mem _)
 ·exact right_null
theorem setPath_ok {x : V} (hx : x.right) : ∀ (p : List V), (∀ k ∈ p, k.right ∧ (k.kind = 3 ∨ k.kind = 4)) → ∀ (v : V), v.right → okRes (setPathV x p v)
 | [], _, v, _ => okRes_ok hx
 | k :: p, hp, v, hv => by
  have ih := setPath_ok hx p fun y hy => hp y (by simp [hy])
  unfold setPathV
  split
  ·unfold setIdxV
   split
   ·split
    ·exact okRes_bad (by decide)
    ·split
     ·exact okRes_bad (by decide)
     ·have h1 := ih _ (pad_at hv (fromEnd k.num v.kids.length).toNat)
      generalize setPathV x p _ = q at *
      rcases q with ⟨c, _ | r⟩
      ·exact h1
      ·exact give_ok (setIdx_fit hv h1.2 _)
   ·exact okRes_bad (by decide)
  ·rename_i h3
   have hk4 : k.kind = 4 := (hp k (by simp)).2.resolve_left h3
   have hkt : okText k.text = true := by
    have := (hp k (by simp)).1.1
    cases k
    exact (code_text (c := ⟨_, _, _, ByteArray.empty, _⟩) this.1).1
   have h1 := getKey_ok hv k.text
   generalize getKeyV v k.text = q at *
   rcases q with ⟨c, _ | w⟩
   ·exact h1
   ·have h2 := ih w h1.2
    dsimp only
    generalize setPathV x p w = q at *
    rcases q with ⟨c, _ | r⟩
    ·exact h2
    ·exact setKey_ok hv h2.2 hkt
theorem AC.of_mut {P : Program} {f : FuncId} {es : Nat} {e : TypeId} {rows rows' : List (List C)} (hc : closedLL rows' = true)
  (h : ∀ (S : Nat → Prop) (w : World) (v : Value) (vrows : List (List Value)), CRss w S rows vrows [] → (∀ x ∈ vrows, x.length = es) → w.ownsRow 0 e es v rows.length vrows.flatten → Calls P f #[v] w fun e1 w' => e1 = .returned (.tuple #[]) ∧ w.grownBy w' v.ownBlock ∧ ∃ vrows', CRss w' (fun _ => False) rows' vrows' [] ∧ (∀ x ∈ vrows', x.length = es) ∧ w'.ownsRow 0 e es v rows'.length vrows'.flatten) :
  AC P f [.own (0, 0)] [((0, 0), .row false es e rows)] (.tup []) [((0, 0), .row false es e rows')] := by
 intro Γ vals hE hA
 obtain ⟨v, vs, rfl, hv, rfl⟩ := hA
 obtain ⟨_, o, ho, hk⟩ := hv
 obtain ⟨_, rfl⟩ := get_one ho
 obtain ⟨vrows, bs, h1, h2, h3, h4, h5, h6⟩ := hE.objs (0, 0) _ rfl
 have hbs := h2 rfl
 subst hbs
 have hkv := hk (by simp)
 rw [← hkv] at h4 h5 h6
 refine (h _ _ _ _ h1 h3 h4).mono ?_
 rintro e1 w' ⟨rfl, hg, vrows', g1, g2, g3⟩
 have hob : ∀ b, b < Γ.w.heap.size → Γ.ow b = none → some b ≠ v.ownBlock := by
  intro b _ hb hv
  have := h6 b (by simp [← hv])
  rw [hb] at this
  cases this
 refine ⟨.tuple #[], Γ.ow, Γ.κ, rfl, ⟨⟨[], rfl, rfl⟩, ?_, ?_, hg.os, hg.tape, hg.output, hg.size, ?_, fun i o o' _ _ => rfl⟩⟩
 ·intro i o hi
  obtain ⟨rfl, rfl⟩ := get_one hi
  refine ⟨vrows', [], CRss.closed hc g1, fun _ => rfl, g2, by rw [← hkv]; exact g3, by rw [← hkv]; exact h5, fun b hb => h6 b (by rw [hkv]; exact hb)⟩
 ·intro b i hbi
  obtain ⟨k1, o, k2, k3⟩ := hE.own b i hbi
  obtain ⟨rfl, _⟩ := get_one k2
  exact ⟨Nat.lt_of_lt_of_le k1 hg.size, _, rfl, rfl⟩
 ·intro b hl hb
  exact ⟨hg.block b hl (hob b hl hb), hb⟩
end Go.Proofs.YtlciedpfjhkkdaaGreatDoor
namespace Go.Proofs.YtlciedpfjhkkdaaGreatDoor
open Go.RowKit Go.Shelf
def sortS_ren : Ren where
 f := fun x => match x with
  | 6 => 185
  | 8 => 212
  | 9 => 211
  | 19 => 245
  | 20 => 224
  | 21 => 237
  | 22 => 238
  | 23 => 239
  | 24 => 240
  | 25 => 241
  | 26 => 242
  | 27 => 214
  | 28 => 243
  | 29 => 244
  | 36 => 264
  | 31 => 265
  | 32 => 266
  | 37 => 267
  | 38 => 268
  | 39 => 218
  | 41 => 281
  | n => n
 t := fun x => match x with
  | 27 => 59
  | 29 => 9
  | 3 => 3
  | 32 => 243
  | 26 => 59
  | 0 => 0
  | 44 => 224
  | 46 => 216
  | 4 => 4
  | 36 => 261
  | 35 => 260
  | 41 => 208
  | 5 => 5
  | 9 => 9
  | 53 => 288
  | 57 => 292
  | 63 => 319
  | 64 => 95
  | n => n
 g := fun n => n
theorem sortS_lays : SlLaysM.n6 Tryz.prog sortS_ren where
 mixed := follows_mixed
 f6 := ⟨Tryz.f185.name, by kernel_rfl, by kernel_rfl⟩
 f8 := by kernel_rfl
 f9 := ⟨Tryz.f211.name, by kernel_rfl, by kernel_rfl⟩
 f19 := by kernel_rfl
 f20 := by kernel_rfl
 f21 := ⟨Tryz.f237.name, by kernel_rfl, by kernel_rfl⟩
 f22 := ⟨Tryz.f238.name, by kernel_rfl, by kernel_rfl⟩
 f23 := ⟨Tryz.f239.name, by kernel_rfl, by kernel_rfl⟩
 f24 := ⟨Tryz.f240.name, by kernel_rfl, by kernel_rfl⟩
 f25 := ⟨Tryz.f241.name, by kernel_rfl, by kernel_rfl⟩
 f26 := ⟨Tryz.f242.name, by kernel_rfl, by kernel_rfl⟩
 f27 := ⟨Tryz.f214.name, by kernel_rfl, by kernel_rfl⟩
 f28 := ⟨Tryz.f243.name, by kernel_rfl, by kernel_rfl⟩
 f29 := ⟨Tryz.f244.name, by kernel_rfl, by kernel_rfl⟩
 f31 := by kernel_rfl
 f32 := by kernel_rfl
 f36 := ⟨Tryz.f264.name, by kernel_rfl, by kernel_rfl⟩
 f37 := ⟨Tryz.f267.name, by kernel_rfl, by kernel_rfl⟩
 f38 := ⟨Tryz.f268.name, by kernel_rfl, by kernel_rfl⟩
 f39 := ⟨Tryz.f218.name, by kernel_rfl, by kernel_rfl⟩
 f41 := ⟨Tryz.f281.name, by kernel_rfl, by kernel_rfl⟩
 t0 := Tryz.underlying0
 a0 := Tryz.isAgg0
 z0 := Tryz.sizeOf0
 v0 := Tryz.zeroValue0
 t3 := Tryz.underlying3
 a3 := Tryz.isAgg3
 z3 := Tryz.sizeOf3
 v3 := Tryz.zeroValue3
 t4 := Tryz.underlying4
 a4 := Tryz.isAgg4
 z4 := Tryz.sizeOf4
 v4 := Tryz.zeroValue4
 t5 := Tryz.underlying5
 a5 := Tryz.isAgg5
 z5 := Tryz.sizeOf5
 v5 := Tryz.zeroValue5
 t9 := Tryz.underlying9
 a9 := Tryz.isAgg9
 z9 := Tryz.sizeOf9
 v9 := Tryz.zeroValue9
 t26 := Tryz.underlying59
 a26 := Tryz.isAgg59
 z26 := Tryz.sizeOf59
 v26 := Tryz.zeroValue59
 t27 := Tryz.underlying59
 a27 := Tryz.isAgg59
 z27 := Tryz.sizeOf59
 v27 := Tryz.zeroValue59
 t29 := Tryz.underlying9
 a29 := Tryz.isAgg9
 z29 := Tryz.sizeOf9
 v29 := Tryz.zeroValue9
 t32 := Tryz.underlying243
 a32 := Tryz.isAgg243
 z32 := Tryz.sizeOf243
 v32 := Tryz.zeroValue243
 t35 := Tryz.underlying260
 a35 := Tryz.isAgg260
 z35 := Tryz.sizeOf260
 v35 := Tryz.zeroValue260
 t36 := Tryz.underlying261
 a36 := Tryz.isAgg261
 z36 := Tryz.sizeOf261
 v36 := Tryz.zeroValue261
 t41 := Tryz.underlying208
 a41 := Tryz.isAgg208
 z41 := Tryz.sizeOf208
 v41 := Tryz.zeroValue208
 t44 := Tryz.underlying224
 a44 := Tryz.isAgg224
 z44 := Tryz.sizeOf224
 v44 := Tryz.zeroValue224
 t46 := Tryz.underlying216
 a46 := Tryz.isAgg216
 z46 := Tryz.sizeOf216
 v46 := Tryz.zeroValue216
 t53 := Tryz.underlying288
 a53 := Tryz.isAgg288
 z53 := Tryz.sizeOf288
 v53 := Tryz.zeroValue288
 t57 := Tryz.underlying292
 a57 := Tryz.isAgg292
 z57 := Tryz.sizeOf292
 v57 := Tryz.zeroValue292
 t63 := Tryz.underlying319
 a63 := Tryz.isAgg319
 z63 := Tryz.sizeOf319
 v63 := Tryz.zeroValue319
 t64 := Tryz.underlying95
 a64 := Tryz.isAgg95
 z64 := Tryz.sizeOf95
 v64 := Tryz.zeroValue95
end Go.Proofs.YtlciedpfjhkkdaaGreatDoor
