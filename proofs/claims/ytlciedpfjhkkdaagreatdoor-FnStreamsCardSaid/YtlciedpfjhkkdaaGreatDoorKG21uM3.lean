/- Texts of this proof: G21 M20 M21 M22. -/
import Derived.Test.YtlciedpfjhkkdaaGreatDoorKG04uG20
import Derived.Test.YtlciedpfjhkkdaaGreatDoorKM2
set_option linter.unusedSimpArgs false
set_option linter.unusedVariables false
set_option linter.unnecessarySimpa false
set_option maxHeartbeats 8000000
namespace Go.Proofs.YtlciedpfjhkkdaaGreatDoor
open Go.RowKit
set_option maxRecDepth 10000
theorem isNaNc_ac (s : ByteArray) : AC Tryz.prog 218 [.c (.str s)] [] (.c (.bool false)) [] := by
 refine wEnter Tryz.func218 Tryz.ntmps218 ?_
 (repeat (first | (with_reducible first | refine a_seq ?_ | refine a_region ?_ | refine a_block ?_ | refine a_scope ?_) | ((with_reducible apply op_any); (iterate 2 (focus (first | (simp only [go_sem, Nat.reduceEqDiff, Nat.reduceAdd, Nat.reduceSub, Nat.reduceLeDiff, Nat.reduceMul, Nat.reduceBEq, Nat.reduceLT, Int.reduceToNat, reduceCtorEq, beq_self_eq_true]; first | done | exact rfl | (and_intros <;> rfl)) | exact rfl | decide)))) | ((with_reducible refine o_nil ?_); dsimp only; try ((with_reducible apply o_draw); (focus (simp only [go_sem]; exact rfl)); (focus decide))) | ((with_reducible first | refine a_ret ?_ | refine a_skip ?_ | refine a_label ?_); dsimp only) | ((with_reducible refine a_exit ?_); dsimp only; simp only [if_true, if_false, Nat.reduceEqDiff]) | ((with_reducible apply a_if); (focus (simp only [go_sem, Nat.reduceBEq, Nat.reduceLT, beq_self_eq_true]; exact rfl)); dsimp only [cond_true, cond_false]) | ((with_reducible refine a_draw ?_ ?_); (focus exact rfl))))
 exact wRet (ret_data []) Tryz.results218
theorem isNaNs_ac (s : ByteArray) : AC Tryz.prog 215 [.c (.str s)] [] (.c (.bool false)) [] := by
 refine wEnter Tryz.func215 Tryz.ntmps215 ?_
 (repeat (first | (with_reducible first | refine a_seq ?_ | refine a_region ?_ | refine a_block ?_ | refine a_scope ?_) | ((with_reducible apply op_any); (iterate 2 (focus (first | (simp only [go_sem, Nat.reduceEqDiff, Nat.reduceAdd, Nat.reduceSub, Nat.reduceLeDiff, Nat.reduceMul, Nat.reduceBEq, Nat.reduceLT, Int.reduceToNat, reduceCtorEq, beq_self_eq_true]; first | done | exact rfl | (and_intros <;> rfl)) | exact rfl | decide)))) | ((with_reducible refine o_nil ?_); dsimp only; try ((with_reducible apply o_draw); (focus (simp only [go_sem]; exact rfl)); (focus decide))) | ((with_reducible first | refine a_ret ?_ | refine a_skip ?_ | refine a_label ?_); dsimp only) | ((with_reducible refine a_exit ?_); dsimp only; simp only [if_true, if_false, Nat.reduceEqDiff]) | ((with_reducible apply a_if); (focus (simp only [go_sem, Nat.reduceBEq, Nat.reduceLT, beq_self_eq_true]; exact rfl)); dsimp only [cond_true, cond_false]) | ((with_reducible refine a_draw ?_ ?_); (focus exact rfl))))
 exact wRet (ret_data []) Tryz.results215
theorem cmpLess_ac (a b : ByteArray) : AC Tryz.prog 214 [.c (.str a), .c (.str b)] [] (.c (.bool (lessB a b))) [] := by
 refine wEnter Tryz.func214 Tryz.ntmps214 ?_
 refine wRUN trivial ?_
 refine w7 (op_data [] (isNaNc_ac a)) trivial ?_
 refine wRUN trivial ?_
 exact ret_data [] (by simp only [Tryz.results214, go_sem, Nat.reduceBEq, Nat.reduceLT]; exact rfl) (by simp only [go_sem, Nat.reduceEqDiff, Nat.reduceAdd, Nat.reduceSub, Nat.reduceLeDiff, Nat.reduceMul, Nat.reduceBEq, Nat.reduceLT, Int.reduceToNat, reduceCtorEq, lessB]) rfl
def bsPos (ks : List ByteArray) (key : ByteArray) : Nat := ks.findIdx fun k => !lessB k key
theorem bsPos_le (ks : List ByteArray) (key : ByteArray) : bsPos ks key ≤ ks.length := List.findIdx_le_length
theorem bsPos_low {ks : List ByteArray} {key : ByteArray} {t : Nat} (h : t < bsPos ks key) : lessB (ks[t]'(by have := bsPos_le ks key; omega)) key = true := by
 have := List.not_of_lt_findIdx h
 simpa using this
theorem bsPos_high {ks : List ByteArray} {key : ByteArray} (hs : asc none ks) {t : Nat} (ht : t < ks.length) (h : bsPos ks key ≤ t) : lessB ks[t] key = false := by
 have hp : bsPos ks key < ks.length := by omega
 have h1 : lessB (ks[bsPos ks key]) key = false := by
  have h2 : (fun k => !lessB k key) (ks[bsPos ks key]) = true := List.findIdx_getElem (w := hp)
  simpa using h2
 by_cases he : t = bsPos ks key
 ·subst he; exact h1
 ·have h2 := asc_sorted hs (i := bsPos ks key) (j := t) (by omega) ht
  cases hl : lessB ks[t] key with
  | false => rfl
  | true =>
   have := lessB_trans h2 hl
   rw [h1] at this
   cases this
def bsFound (ks : List ByteArray) (key : ByteArray) : Bool := if h : bsPos ks key < ks.length then ks[bsPos ks key].toList == key.toList else false
theorem findKey_bs {ks : List ByteArray} {key : ByteArray} (hs : asc none ks) : findKey ks key = if bsFound ks key then some (bsPos ks key) else none := by
 rw [findKey_at hs (bsPos_le ks key) (fun t h => bsPos_low h) (fun t h hp => bsPos_high hs h hp)]
 unfold bsFound
 by_cases h : bsPos ks key < ks.length
 ·rw [dif_pos h, dif_pos h]
 ·rw [dif_neg h, dif_neg h]; rfl
theorem binSearch_ac (ks : List ByteArray) (key : ByteArray) (hs : asc none ks) (hl : ks.length ≤ 1000000) : AC Tryz.prog 189 [.c (.sl (ks.map strCs)), .c (.str key)] [] (.tup [.c (.int .i64 (bsPos ks key)), .c (.bool (bsFound ks key))]) [] := by
 have hple := bsPos_le ks key
 obtain ⟨p, hp⟩ : ∃ p, p = bsPos ks key := ⟨_, rfl⟩
 rw [← hp] at hple
 refine wEnter Tryz.func189 Tryz.ntmps189 ?_
 refine wRUN trivial ?_
 refine a_loop (κ := Nat × Nat) (fun x => ⟨mkS 0 54 [(0, .c (.sl (ks.map strCs))), (1, .c (.str key)), (6, .c (.int .i64 ks.length)), (7, .c (.int .i64 x.1)), (8, .c (.int .i64 x.2))], []⟩)
  (fun x => x.1 ≤ p ∧ p ≤ x.2 ∧ x.2 ≤ ks.length) (fun x => x.2 - x.1) (0, ks.length) ⟨Nat.zero_le _, hple, Nat.le_refl _⟩ ?_ ?_
 ·exact wSays (Says.of [] []) hl
 ·rintro ⟨i, j⟩ ⟨hi, hj, hjn⟩
  dsimp only at hi hj hjn ⊢
  by_cases hlt : i < j
  ·have hdk : decide ((i : Int) < (j : Int)) = true := by simpa using hlt
   have hm1 : (i + j) / 2 < j := by omega
   have hm2 : i ≤ (i + j) / 2 := by omega
   have hwa : IntKind.i64.wrap ((i : Int) + (j : Int)) = ((i + j : Nat) : Int) := by rw [IntWalk.i64_in _ (by omega)]; omega
   have hwu : IntKind.u64.wrap ((i + j : Nat) : Int) = ((i + j : Nat) : Int) := by
    unfold IntKind.wrap
    simp [IntKind.bits, IntKind.signed]
    omega
   have hwh : IntKind.i64.wrap (((i + j) / 2 : Nat) : Int) = (((i + j) / 2 : Nat) : Int) := by rw [IntWalk.i64_in _ (by omega)]
   generalize hH : (i + j) / 2 = h at *
   have hhl : h < ks.length := by omega
   have hr : rowsAt (ks.map strCs) 1 h = true := by simp [rowsAt, hhl, strCs]
   have hg : (ks.map strCs)[h]? = some [.str ks[h]] := by simp [hhl, strCs]
   have hc := cmpLess_ac ks[h] key
   have hw1 := wrap_succ (k := h) (by omega)
   cases hb : lessB ks[h] key with
   | true =>
    rw [hb] at hc
    have hhp : h < p := by
     by_cases hq : h < p
     ·exact hq
     ·rw [hp] at hq
      have := bsPos_high (key := key) hs hhl (by omega)
      rw [this] at hb
      cases hb
    refine wRUN (j3 hdk hwa hwu) ?_
    ((with_reducible apply op_half); (iterate 4 (focus (first | (simp only [go_sem, Nat.reduceEqDiff, Nat.reduceAdd, Nat.reduceSub, Nat.reduceLeDiff, Nat.reduceMul, Nat.reduceBEq, Nat.reduceLT, Int.reduceToNat, reduceCtorEq, hwa, hwu]; first | done | exact rfl | (and_intros <;> rfl)) | exact rfl | decide))))
    refine wRUN (j4 hH hwh hr hg) ?_
    refine w7 (op_data [] hc) trivial ?_
    refine wRUN hw1 ?_
    refine ⟨(h + 1, j), by dsimp only; omega, ⟨by dsimp only; omega, hj, hjn⟩, ?_⟩
    exact wSays (Says.of [] []) hw1
   | false =>
    rw [hb] at hc
    have hhp : p ≤ h := by
     by_cases hq : p ≤ h
     ·exact hq
     ·rw [hp] at hq
      have := bsPos_low (ks := ks) (key := key) (t := h) (by omega)
      rw [this] at hb
      cases hb
    refine wRUN (j3 hdk hwa hwu) ?_
    ((with_reducible apply op_half); (iterate 4 (focus (first | (simp only [go_sem, Nat.reduceEqDiff, Nat.reduceAdd, Nat.reduceSub, Nat.reduceLeDiff, Nat.reduceMul, Nat.reduceBEq, Nat.reduceLT, Int.reduceToNat, reduceCtorEq, hwa, hwu]; first | done | exact rfl | (and_intros <;> rfl)) | exact rfl | decide))))
    refine wRUN (j4 hH hwh hr hg) ?_
    refine w7 (op_data [] hc) trivial ?_
    refine wRUN trivial ?_
    refine ⟨(i, h), by dsimp only; omega, ⟨hi, hhp, by dsimp only; omega⟩, ?_⟩
    exact wSays (Says.of [] []) hw1
  ·have hdk : decide ((i : Int) < (j : Int)) = false := by simpa using hlt
   have hip : i = p := by omega
   subst hip
   by_cases hpn : i < ks.length
   ·have hdn : decide ((i : Int) < (ks.length : Int)) = true := by simpa using hpn
    have hr : rowsAt (ks.map strCs) 1 i = true := by simp [rowsAt, hpn, strCs]
    have hg : (ks.map strCs)[i]? = some [.str ks[i]] := by simp [hpn, strCs]
    have hf : bsFound ks key = (ks[i].toList == key.toList) := by
     unfold bsFound
     rw [dif_pos (by omega)]
     simp only [← hp]
    rw [hf, ← hp]
    cases hb : ks[i].toList == key.toList with
    | true =>
     refine wRUN (j5 hdk hdn hr hg hb) ?_
     exact wRet (ret_data []) Tryz.results189
    | false =>
     refine wRUN (j5 hdk hdn hr hg hb) ?_
     refine w7 (op_data [] (isNaNs_ac _)) trivial ?_
     refine wRUN trivial ?_
     exact wRet (ret_data []) Tryz.results189
   ·have hdn : decide ((i : Int) < (ks.length : Int)) = false := by simpa using hpn
    have hf : bsFound ks key = false := by
     unfold bsFound
     rw [dif_neg (by omega)]
    rw [hf, ← hp]
    refine wRUN (j2 hdk hdn) ?_
    exact wRet (ret_data []) Tryz.results189
theorem member_ac {t : V} (h : t.right) (h6 : t.kind = 6) (key : ByteArray) : AC Tryz.prog 156 [t.av, .c (.str key)] [] (t.member key).av [] := by
 obtain ⟨hs, _, hkl⟩ := right_asc h h6
 have hlc := countL_len t.kids
 have hck := count_kids t
 have hc := h.2.1
 have hb := binSearch_ac t.keys key hs (by omega)
 have hfk := findKey_bs (ks := t.keys) (key := key) hs
 cases hf : bsFound t.keys key with
 | false =>
  rw [hf] at hfk hb
  have hm : t.member key = nullV := by unfold V.member; rw [hfk]; rfl
  rw [hm]
  refine wEnter Tryz.func156 Tryz.ntmps156 ?_
  refine wRUN trivial ?_
  refine w7 (op_data [] hb) trivial ?_
  refine wRUN trivial ?_
  refine w7 (op_data [] null_ac) trivial ?_
  refine wRUN trivial ?_
  exact wRet (ret_data []) Tryz.results156
 | true =>
  rw [hf] at hfk hb
  have hp : bsPos t.keys key < t.kids.length := by
   unfold bsFound at hf
   split at hf
   ·omega
   ·cases hf
  have hm : t.member key = t.kids[bsPos t.keys key] := by
   unfold V.member
   rw [hfk]
   simp only [if_true]
   rw [List.getD_eq_getElem?_getD, List.getElem?_eq_getElem hp, Option.getD_some]
  rw [hm]
  generalize bsPos t.keys key = p at *
  have hr : rowsAt (t.kids.map V.cs) 5 p = true := by simp [rowsAt, hp, V.cs_eq]
  have hg : (t.kids.map V.cs)[p]? = some t.kids[p].cs := by simp [hp]
  refine wEnter Tryz.func156 Tryz.ntmps156 ?_
  refine wRUN trivial ?_
  refine w7 (op_data [] hb) trivial ?_
  refine wRUN (j2 hr hg) ?_
  exact wRet (ret_data []) Tryz.results156
theorem lessB_asym {a b : ByteArray} (h : lessB a b = true) : lessB b a = false := by
 cases h2 : lessB b a with
 | false => rfl
 | true =>
  have := lessB_trans h h2
  rw [lessB_irrefl] at this
  cases this
theorem bsPos_cons (x : ByteArray) (r : List ByteArray) (k : ByteArray) : bsPos (x :: r) k = if lessB x k then bsPos r k + 1 else 0 := by
 unfold bsPos
 rw [List.findIdx_cons]
 cases lessB x k <;> rfl
theorem bsFound_iff {l : List ByteArray} {k : ByteArray} : bsFound l k = true ↔ l[bsPos l k]? = some k := by
 unfold bsFound
 split
 ·rename_i h
  rw [List.getElem?_eq_getElem h, beq_iff_eq, Option.some.injEq]
  exact ⟨ByteArray_toList_inj, fun e => by rw [e]⟩
 ·rename_i h
  rw [List.getElem?_eq_none (by omega)]
  simp
theorem bsPos_at {l : List ByteArray} {k : ByteArray} (h : bsPos l k < l.length) : lessB l[bsPos l k] k = false := by
 have h2 : (fun x => !lessB x k) (l[bsPos l k]) = true := List.findIdx_getElem (w := h)
 simpa using h2
theorem insKey_pos : ∀ {l : List ByteArray} {k : ByteArray}, Up l → insKey k l = if bsFound l k then l else l.take (bsPos l k) ++ [k] ++ l.drop (bsPos l k)
 | [], k, _ => by simp [insKey, bsFound, bsPos]
 | x :: r, k, h => by
  have h' := List.pairwise_cons.1 (show List.Pairwise _ (x :: r) from h)
  unfold insKey
  split
  ·rename_i hl
   have hx := lessB_asym hl
   have hp : bsPos (x :: r) k = 0 := by rw [bsPos_cons, hx]; rfl
   have hf : bsFound (x :: r) k = false := by
    cases hf : bsFound (x :: r) k with
    | false => rfl
    | true =>
     have := bsFound_iff.1 hf
     rw [hp] at this
     have e : x = k := by simpa using this
     subst e
     rw [lessB_irrefl] at hl
     cases hl
   rw [hf, hp]
   simp
  ·rename_i hl
   split
   ·rename_i he
    have e : k = x := ByteArray_toList_inj (by simpa using he)
    subst e
    have hp : bsPos (k :: r) k = 0 := by rw [bsPos_cons, lessB_irrefl]; rfl
    have hf : bsFound (k :: r) k = true := bsFound_iff.2 (by rw [hp]; rfl)
    rw [hf]
    rfl
   ·rename_i he
    have hxk : lessB x k = true := by
     rcases lessB_tri x k with g | g | g
     ·exact g
     ·subst g; exact absurd (by simp) he
     ·exact absurd g hl
    have hp : bsPos (x :: r) k = bsPos r k + 1 := by rw [bsPos_cons, hxk]; rfl
    have hf : bsFound (x :: r) k = bsFound r k := by
     have : bsFound (x :: r) k = true ↔ bsFound r k = true := by
      rw [bsFound_iff, bsFound_iff, hp, List.getElem?_cons_succ]
     cases h1 : bsFound (x :: r) k <;> cases h2 : bsFound r k <;> simp_all
    rw [hf, hp, insKey_pos h'.2]
    split
    ·rfl
    ·simp
theorem setMap {l : List ByteArray} (h : Up l) {p : Nat} {k : ByteArray} (hp : l[p]? = some k) (g g' : ByteArray → V) (v : V) (hk : g' k = v) (hg : ∀ x ∈ l, x ≠ k → g' x = g x) : l.map g' = (l.map g).set p v := by
 refine List.ext_getElem (by simp) fun i h1 h2 => ?_
 have hi : i < l.length := by simpa using h1
 rw [List.getElem_map, List.getElem_set]
 split
 ·rename_i e
  subst e
  rw [List.getElem?_eq_getElem hi] at hp
  rw [Option.some.inj hp, hk]
 ·rename_i e
  rw [List.getElem_map]
  refine hg _ (List.getElem_mem hi) fun hx => e ?_
  exact up_inj h hp (List.getElem?_eq_some_iff.2 ⟨hi, hx⟩)
def setKeyV (v : V) (key : ByteArray) (x : V) : Int × Option V := if v.kind = 0 ∨ v.kind = 6 then giveR (objV (v.keys ++ [key]) (v.kids ++ [x])) else badR 6
def padV (kids : List V) (n : Nat) : List V := kids ++ List.replicate (n + 1 - kids.length) nullV
def onSome (r : Int × Option V) (g : V → Int × Option V) : Int × Option V := match r with
 | (_, some u) => g u
 | (c, none) => (c, none)
def setIdxV (v : V) (n : Int) (f : V → Int × Option V) : Int × Option V :=
 if v.kind = 5 ∨ v.kind = 0 then
  if fromEnd n v.kids.length < 0 then badR 3
  else if fromEnd n v.kids.length ≥ 200 then badR 2
  else onSome (f ((padV v.kids (fromEnd n v.kids.length).toNat).getD (fromEnd n v.kids.length).toNat nullV)) fun r => giveR (arrV ((padV v.kids (fromEnd n v.kids.length).toNat).set (fromEnd n v.kids.length).toNat r))
 else badR 6
def setPathV (x : V) : List V → V → Int × Option V
 | [], _ => okR x
 | k :: p, v => if k.kind = 3 then setIdxV v k.num (setPathV x p)
  else match getKeyV v k.text with
   | (_, some w) => match setPathV x p w with
    | (_, some r) => setKeyV v k.text r
    | (c, none) => (c, none)
   | (c, none) => (c, none)
theorem give_ok {t : V} (h : t.fit) : okRes (giveR t) := by
 unfold giveR
 split
 ·rename_i h0
  exact ⟨rfl, fit_dec h h0⟩
 ·rename_i h0
  exact h0
theorem pad_len (kids : List V) (n : Nat) : (padV kids n).length = max kids.length (n + 1) := by
 unfold padV
 rw [List.length_append, List.length_replicate]
 omega
theorem pad_right {kids : List V} (h : ∀ v ∈ kids, v.right) (n : Nat) : ∀ v ∈ padV kids n, v.right := fun v hv => by
 rcases List.mem_append.1 hv with hv | hv
 ·exact h v hv
 ·rw [(List.mem_replicate.1 hv).2]
  exact right_null
theorem pad_get {kids : List V} {n : Nat} : (padV kids n).getD n nullV = if h : n < kids.length then kids[n] else nullV := by
 unfold padV
 rw [List.getD_eq_getElem?_getD]
 split
 ·rename_i h
  rw [List.getElem?_append_left h, List.getElem?_eq_getElem h]
  rfl
 ·rename_i h
  rw [List.getElem?_append_right (by omega)]
  cases hg : (List.replicate (n + 1 - kids.length) nullV)[n - kids.length]? with
  | none => rfl
  | some y => exact (List.mem_replicate.1 (List.mem_of_getElem? hg)).2
theorem countL_le {l : List V} {m : Nat} (h : ∀ v ∈ l, v.count ≤ m) : countL l ≤ m * l.length := by
 induction l with
 | nil => simp [countL]
 | cons x l ih =>
  have h1 := h x (by simp)
  have h2 := ih fun v hv => h v (by simp [hv])
  simp only [countL, List.length_cons, Nat.mul_add]
  omega
theorem arr_fit {l : List V} (h : ∀ v ∈ l, v.fit) : (arrV l).fit := ⟨Nat.zero_le _, by simp, fun h => absurd h (by decide), fun h => absurd h (by decide), fun _ => rfl, fitL_iff.2 h⟩
theorem obj_fit {ks : List ByteArray} {vs : List V} (hl : ks.length = vs.length) (hk : ∀ k ∈ ks, k.size ≤ 60) (hv : ∀ v ∈ vs, v.fit) : (objV ks vs).fit := by
 refine ⟨Nat.zero_le _, fun k h => hk k (objKeys_mem.1 h), fun h => absurd h (by decide), fun _ => (List.length_map _).symm, fun h => absurd rfl h, fitL_iff.2 fun v h => ?_⟩
 obtain ⟨k, hk', rfl⟩ := List.mem_map.1 h
 obtain ⟨j, _, _, h3⟩ := lastKid_at (kids := vs) hl (objKeys_mem.1 hk')
 exact hv _ (List.mem_of_getElem? h3)
theorem set_all {l : List V} {p : V → Prop} (h : ∀ v ∈ l, p v) {n : Nat} {r : V} (hr : p r) : ∀ v ∈ l.set n r, p v := fun v hv => by
 rcases List.mem_or_eq_of_mem_set hv with hv | rfl
 ·exact h v hv
 ·exact hr
theorem right_keys {v : V} (h : v.right) : ∀ k ∈ v.keys, k.size ≤ 60 := fit_keys (fit_right h)
theorem right_kids0 {v : V} (h : v.right) (h0 : v.kind = 0) : v.keys = [] ∧ v.kids = [] := by
 have := right_shape h.1
 exact ⟨this.2.2.2.2.1 (by omega), this.2.2.2.2.2 (by omega) (by omega)⟩
theorem right_kl6 {v : V} (h : v.right) (hk : v.kind = 0 ∨ v.kind = 6) : v.keys.length = v.kids.length := by
 rcases hk with h0 | h6
 ·rw [(right_kids0 h h0).1, (right_kids0 h h0).2]; rfl
 ·exact (right_asc h h6).2.2
theorem setKey_fit {v x : V} (h : v.right) (hx : x.right) {key : ByteArray} (hk : okText key = true) (h6 : v.kind = 0 ∨ v.kind = 6) : (objV (v.keys ++ [key]) (v.kids ++ [x])).fit := by
 refine obj_fit (by rw [List.length_append, List.length_append, right_kl6 h h6]; rfl) (fun k hk' => ?_) fun y hy => ?_
 ·rcases List.mem_append.1 hk' with h1 | h1
  ·exact right_keys h k h1
  ·rw [List.mem_singleton.1 h1]; exact okText_le hk
 ·rcases List.mem_append.1 hy with h1 | h1
  ·exact fit_right (right_mem h h1)
  ·rw [List.mem_singleton.1 h1]; exact fit_right hx
theorem setKey_count {v x : V} (h : v.right) (hx : x.right) (key : ByteArray) (h6 : v.kind = 0 ∨ v.kind = 6) : countL (v.kids ++ [x]) ≤ 400 ∧ (objV (v.keys ++ [key]) (v.kids ++ [x])).count ≤ 401 := by
 have h1 := count_kids v
 have h2 := h.2.1
 have h3 := hx.2.1
 have h4 : countL (v.kids ++ [x]) ≤ 400 := by
  rw [countL_app]
  simp only [countL]
  omega
 refine ⟨h4, ?_⟩
 have h5 := objV_count _ (v.keys ++ [key]) (v.kids ++ [x]) rfl (by rw [List.length_append, List.length_append, right_kl6 h h6]; rfl)
 have h7 := count_kids (objV (v.keys ++ [key]) (v.kids ++ [x]))
 have h8 : (objV (v.keys ++ [key]) (v.kids ++ [x])).kids = (objKeys (v.keys ++ [key])).map (lastKid (v.keys ++ [key]) (v.kids ++ [x])) := rfl
 rw [h8] at h7
 omega
theorem setKey_ok {v x : V} (h : v.right) (hx : x.right) {key : ByteArray} (hk : okText key = true) : okRes (setKeyV v key x) := by
 unfold setKeyV
 split
 ·rename_i h6
  exact give_ok (setKey_fit h hx hk h6)
 ·exact okRes_bad (by decide)
theorem setIdx_fit {v r : V} (h : v.right) (hr : r.right) (n : Nat) : (arrV ((padV v.kids n).set n r)).fit :=
 arr_fit fun y hy => fit_right (set_all (pad_right (fun z hz => right_mem h hz) n) hr y hy)
theorem setIdx_count {v r : V} (h : v.right) (hr : r.right) {n : Nat} (hn : n < 200) : (arrV ((padV v.kids n).set n r)).count ≤ 40001 := by
 have h1 := countL_le (l := (padV v.kids n).set n r) (m := 200) fun y hy => (set_all (pad_right (fun z hz => right_mem h hz) n) hr y hy).2.1
 have h2 := kids_len_le h.2.1
 rw [List.length_set, pad_len] at h1
 have h3 := count_kids (arrV ((padV v.kids n).set n r))
 rw [show (arrV ((padV v.kids n).set n r)).kids = (padV v.kids n).set n r from rfl] at h3
 have : 200 * max v.kids.length (n + 1) ≤ 200 * 200 := Nat.mul_le_mul_left _ (by omega)
 omega
theorem pad_at {v : V} (h : v.right) (n : Nat) : ((padV v.kids n).getD n nullV).right := by
 rw [pad_get]
 split
 ·exact right_mem h (List.getElem_mem _)
 ·exact right_null
theorem setPath_ok {x : V} (hx : x.right) : ∀ (p : List V), (∀ k ∈ p, k.right ∧ (k.kind = 3 ∨ k.kind = 4)) → ∀ (v : V), v.right → okRes (setPathV x p v)
 | [], _, v, _ => okRes_ok hx
 | k :: p, hp, v, hv => by
  have ih := setPath_ok hx p fun y hy => hp y (by simp [hy])
  unfold setPathV
  split
  ·unfold setIdxV
   split
   ·split
    ·exact okRes_bad (by decide)
    ·split
     ·exact okRes_bad (by decide)
     ·have h1 := ih _ (pad_at hv (fromEnd k.num v.kids.length).toNat)
      generalize setPathV x p _ = q at *
      rcases q with ⟨c, _ | r⟩
      ·exact h1
      ·exact give_ok (setIdx_fit hv h1.2 _)
   ·exact okRes_bad (by decide)
  ·rename_i h3
   have hk4 : k.kind = 4 := (hp k (by simp)).2.resolve_left h3
   have hkt : okText k.text = true := by
    have := (hp k (by simp)).1.1
    cases k
    exact (code_text (c := ⟨_, _, _, ByteArray.empty, _⟩) this.1).1
   have h1 := getKey_ok hv k.text
   generalize getKeyV v k.text = q at *
   rcases q with ⟨c, _ | w⟩
   ·exact h1
   ·have h2 := ih w h1.2
    dsimp only
    generalize setPathV x p w = q at *
    rcases q with ⟨c, _ | r⟩
    ·exact h2
    ·exact setKey_ok hv h2.2 hkt
theorem asc_of : ∀ {l : List ByteArray} {p : Option ByteArray}, Up l → (∀ k ∈ l, ∀ q, p = some q → lessB q k = true) → asc p l
 | [], p, _, _ => by unfold asc; trivial
 | k :: l, p, h, hp => by
  have h' := List.pairwise_cons.1 (show List.Pairwise _ (k :: l) from h)
  have ih : asc (some k) l := asc_of h'.2 fun x hx q hq => by cases hq; exact h'.1 x hx
  cases p with
  | none => exact ih
  | some q => exact ⟨hp k (by simp) q rfl, ih⟩
theorem wfL_iff : ∀ {l : List V}, wfL l ↔ ∀ v ∈ l, v.wf
 | [] => by simp [wfL]
 | v :: l => by simp only [wfL, List.mem_cons, forall_eq_or_imp, wfL_iff (l := l)]
theorem depthL_le {l : List V} {m : Nat} (h : ∀ v ∈ l, v.depth ≤ m) : depthL l ≤ m := by
 induction l with
 | nil => exact Nat.zero_le _
 | cons x l ih =>
  have h1 := h x (by simp)
  have h2 := ih fun v hv => h v (by simp [hv])
  simp only [depthL]
  omega
theorem obj_wf {ks : List ByteArray} {vs : List V} (hl : ks.length = vs.length) (hk : ∀ k ∈ ks, okText k = true) (hu : Up ks) (hv : ∀ v ∈ vs, v.wf) (hn : vs.length ≤ 200) : (V.mk 6 0 ByteArray.empty ks vs).wf := by
 refine ⟨?_, ?_, wfL_iff.2 hv⟩
 ·unfold cellCode
  have h1 : inB 6 0 6 = true := by decide
  have h2 : inB (vs.length : Int) 0 200 = true := by unfold inB; simp; omega
  simp [h1, cF, cR, cT, okText_empty, holds, h2, inB]
  omega
 ·unfold keysOk
  rw [if_pos rfl]
  exact ⟨hl, hk, asc_of hu (by simp)⟩
end Go.Proofs.YtlciedpfjhkkdaaGreatDoor
