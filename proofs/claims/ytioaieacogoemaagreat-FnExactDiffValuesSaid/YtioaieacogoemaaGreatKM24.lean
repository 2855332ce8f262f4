/- The plain mathematics of DiffValues: the edits that make one value of another one. -/
import Derived.Test.YtioaieacogoemaaGreatKM3
import Derived.Test.YtioaieacogoemaaGreatKM2
import Derived.Test.YtioaieacogoemaaGreatKA1
set_option linter.unusedSimpArgs false
set_option linter.unusedVariables false
set_option linter.unnecessarySimpa false
namespace Go.Proofs.YtioaieacogoemaaGreat
open Go.RowKit
def setE (p : List V) (x : V) : EditD := ⟨1, (arrV p).enc, x.enc⟩
def dropE (p : List V) : EditD := ⟨2, (arrV p).enc, []⟩
/-- What one key of either object comes to. -/
def objAt (f : V → V → List V → List EditD) (a b : V) (p : List V) (k : ByteArray) : List EditD :=
  if (findKey b.keys k).isSome = false then [dropE (p ++ [strV k])]
  else if (findKey a.keys k).isSome = false then [setE (p ++ [strV k]) (b.member k)]
  else f (a.member k) (b.member k) (p ++ [strV k])
def bothAt (f : V → V → List V → List EditD) (a b : V) (p : List V) (i : Nat) : List EditD := f (a.kids.getD i nullV) (b.kids.getD i nullV) (p ++ [numV i])
def dropsAt (a : V) (p : List V) (j : Nat) : EditD := dropE (p ++ [numV ((a.kids.length - 1 - j : Nat) : Int)])
def setsAt (b : V) (p : List V) (i : Nat) : EditD := setE (p ++ [numV i]) (b.kids.getD i nullV)
def arrD (f : V → V → List V → List EditD) (a b : V) (p : List V) : List EditD :=
  (List.range (min a.kids.length b.kids.length)).flatMap (bothAt f a b p) ++ (List.range (a.kids.length - min a.kids.length b.kids.length)).map (dropsAt a p) ++ (List.range (b.kids.length - min a.kids.length b.kids.length)).map fun j => setsAt b p (min a.kids.length b.kids.length + j)
def diffV : Nat → V → V → List V → List EditD
  | 0, _, _, _ => []
  | n + 1, a, b, p =>
    if a.cmp b = 0 then []
    else if a.kind = 6 ∧ b.kind = 6 then (mergeU a.keys b.keys).flatMap (objAt (diffV n) a b p)
    else if a.kind = 5 ∧ b.kind = 5 then arrD (diffV n) a b p
    else [setE p b]
/-- How many cells the value of a key has; none without it. -/
def mc : List ByteArray → List V → ByteArray → Nat
  | x :: ks, v :: vs, k => if k = x then v.count else mc ks vs k
  | _, _, _ => 0
theorem mc_find : ∀ {ks : List ByteArray} {vs : List V} {k : ByteArray} {i : Nat}, findKey ks k = some i → (h : i < vs.length) → mc ks vs k = vs[i].count
  | [], _, k, i, h, _ => by simp [findKey] at h
  | _ :: _, [], _, _, _, h => absurd h (by simp)
  | x :: ks, v :: vs, k, i, h, hi => by
    unfold mc
    unfold findKey at h
    rw [List.findIdx?_cons] at h
    by_cases he : k = x
    · rw [if_pos he]
      subst he
      rw [show (k.toList == k.toList) = true by simp] at h
      cases h
      rfl
    · rw [if_neg he]
      have : (x.toList == k.toList) = false := by
        cases hb : x.toList == k.toList with
        | false => rfl
        | true => exact absurd (ByteArray_toList_inj (by simpa using hb)).symm he
      rw [this] at h
      simp only [Bool.false_eq_true, if_false, Option.map_eq_some_iff] at h
      obtain ⟨j, hj, rfl⟩ := h
      exact mc_find hj (by simpa using hi)
theorem zero_sum {α : Type} (K : List α) : (K.map fun _ => 0).sum = 0 := by
  induction K with
  | nil => rfl
  | cons x K ih => rw [List.map_cons, List.sum_cons, ih]
open Classical in
theorem mc_sum : ∀ (ks : List ByteArray) (vs : List V) (K : List ByteArray), K.Nodup → (K.map (mc ks vs)).sum ≤ countL vs
  | [], vs, K, _ => by
    have : K.map (mc [] vs) = K.map fun _ => 0 := List.map_congr_left fun x _ => by unfold mc; rfl
    rw [this, zero_sum]
    exact Nat.zero_le _
  | x :: ks, [], K, _ => by
    have : K.map (mc (x :: ks) []) = K.map fun _ => 0 := List.map_congr_left fun x _ => by unfold mc; rfl
    rw [this, zero_sum]
    exact Nat.zero_le _
  | x :: ks, v :: vs, K, h => by
    have ih := mc_sum ks vs K h
    have key : ∀ L : List ByteArray, L.Nodup → (L.map (mc (x :: ks) (v :: vs))).sum ≤ (if x ∈ L then v.count else 0) + (L.map (mc ks vs)).sum := by
      intro L hL
      induction L with
      | nil => simp
      | cons y L ihL =>
        rw [List.nodup_cons] at hL
        have := ihL hL.2
        simp only [List.map_cons, List.sum_cons, List.mem_cons]
        by_cases he : y = x
        · subst he
          rw [if_neg hL.1] at this
          have e1 : mc (y :: ks) (v :: vs) y = v.count := by unfold mc; rw [if_pos rfl]
          rw [e1]
          simp only [true_or, if_true]
          omega
        · have e1 : mc (x :: ks) (v :: vs) y = mc ks vs y := by conv => lhs; unfold mc; rw [if_neg he]
          rw [e1]
          have e2 : (x = y ∨ x ∈ L) = (x ∈ L) := propext ⟨fun h => h.resolve_left fun h => he h.symm, .inr⟩
          simp only [e2]
          omega
    have := key K h
    have e : countL (v :: vs) = v.count + countL vs := rfl
    rw [e]
    split at this <;> omega
theorem mc_pos {ks : List ByteArray} {vs : List V} {k : ByteArray} (h : (findKey ks k).isSome = true) (hl : ks.length = vs.length) : 1 ≤ mc ks vs k := by
  obtain ⟨i, hi⟩ := Option.isSome_iff_exists.1 h
  obtain ⟨h1, _⟩ := findKey_some hi
  rw [mc_find hi (by omega)]
  exact count_pos _
theorem mc_member {v : V} {k : ByteArray} (h : (findKey v.keys k).isSome = true) (hl : v.keys.length = v.kids.length) : mc v.keys v.kids k = (v.member k).count := by
  obtain ⟨i, hi⟩ := Option.isSome_iff_exists.1 h
  obtain ⟨h1, _⟩ := findKey_some hi
  rw [mc_find hi (by omega), member_at hi (List.getElem?_eq_getElem (by omega))]
theorem find_mem {ks : List ByteArray} {k : ByteArray} : (findKey ks k).isSome = true ↔ k ∈ ks := by
  constructor
  · intro h
    obtain ⟨i, hi⟩ := Option.isSome_iff_exists.1 h
    obtain ⟨h1, h2, _⟩ := findKey_some hi
    rw [← h2]
    exact List.getElem_mem h1
  · intro h
    unfold findKey
    rw [List.findIdx?_isSome, List.any_eq_true]
    exact ⟨k, h, by simp⟩
theorem sum_add {α : Type} (f g : α → Nat) : ∀ l : List α, (l.map fun x => f x + g x).sum = (l.map f).sum + (l.map g).sum
  | [] => rfl
  | x :: l => by
    have := sum_add f g l
    simp only [List.map_cons, List.sum_cons]
    omega
theorem flat_le {α β : Type} (f : α → List β) (g : α → Nat) : ∀ l : List α, (∀ x ∈ l, (f x).length ≤ g x) → (l.flatMap f).length ≤ (l.map g).sum
  | [], _ => by simp
  | x :: l, h => by
    have := flat_le f g l fun y hy => h y (List.mem_cons_of_mem _ hy)
    have := h x (by simp)
    simp only [List.flatMap_cons, List.length_append, List.map_cons, List.sum_cons]
    omega
theorem both_len (f : V → V → List V → List EditD) (a b : V) (p : List V) (hf : ∀ x y q, x ∈ a.kids → y ∈ b.kids → (f x y q).length ≤ x.count + y.count) : ∀ m : Nat, m ≤ a.kids.length → m ≤ b.kids.length → ((List.range m).flatMap (bothAt f a b p)).length ≤ countL (a.kids.take m) + countL (b.kids.take m)
  | 0, _, _ => by simp
  | m + 1, ha, hb => by
    have ih := both_len f a b p hf m (by omega) (by omega)
    have h1 := hf a.kids[m] b.kids[m] (p ++ [numV m]) (List.getElem_mem _) (List.getElem_mem _)
    rw [List.range_succ, List.flatMap_append, List.length_append, List.take_succ_eq_append_getElem (by omega), List.take_succ_eq_append_getElem (by omega), countL_app, countL_app]
    simp only [List.flatMap_cons, List.flatMap_nil, List.append_nil, bothAt, List.getD_eq_getElem?_getD, List.getElem?_eq_getElem (show m < a.kids.length by omega), List.getElem?_eq_getElem (show m < b.kids.length by omega), Option.getD_some, countL]
    omega
theorem countL_drop_len (l : List V) (m : Nat) : countL (l.take m) + (l.length - m) ≤ countL l := by
  have h1 := countL_len (l.drop m)
  have h2 : countL l = countL (l.take m) + countL (l.drop m) := by rw [← countL_app, List.take_append_drop]
  rw [List.length_drop] at h1
  omega
theorem diff_len : ∀ (n : Nat) (a b : V) (p : List V), a.right → b.right → (diffV n a b p).length ≤ a.count + b.count
  | 0, a, b, p, _, _ => by simp [diffV]
  | n + 1, a, b, p, ha, hb => by
    have hka := count_kids a
    have hkb := count_kids b
    unfold diffV
    split
    · simp
    · split
      · rename_i h6
        obtain ⟨ua, _, la⟩ := right_asc ha h6.1
        obtain ⟨ub, _, lb⟩ := right_asc hb h6.2
        have hK : (mergeU a.keys b.keys).Nodup := up_nodup (mergeU_up _ _ _ (Nat.le_refl _) (up_of ua) (up_of ub))
        have h1 := mc_sum a.keys a.kids _ hK
        have h2 := mc_sum b.keys b.kids _ hK
        refine Nat.le_trans (flat_le _ (fun k => mc a.keys a.kids k + mc b.keys b.kids k) _ fun k hk => ?_) (by rw [sum_add]; omega)
        have hkm := (mergeU_mem _ a.keys b.keys (Nat.le_refl _) k).1 hk
        unfold objAt
        cases hB : (findKey b.keys k).isSome with
        | false =>
          have hA : (findKey a.keys k).isSome = true := by
            rcases hkm with h | h
            · exact find_mem.2 h
            · rw [find_mem.2 h] at hB; cases hB
          have := mc_pos hA (by omega)
          simp only [if_true, List.length_singleton]
          omega
        | true =>
          have hb1 := mc_pos hB (by omega)
          cases hA : (findKey a.keys k).isSome with
          | false =>
            simp only [Bool.true_eq_false, if_true, if_false, List.length_singleton]
            omega
          | true =>
            simp only [Bool.true_eq_false, if_false]
            rw [mc_member hA (by omega), mc_member hB (by omega)]
            exact diff_len n _ _ _ (right_member ha h6.1 k) (right_member hb h6.2 k)
      · split
        · have hf := fun x y q hx hy => diff_len n x y q (right_mem ha hx) (right_mem hb hy)
          have h1 := both_len (diffV n) a b p hf (min a.kids.length b.kids.length) (by omega) (by omega)
          have h2 := countL_drop_len a.kids (min a.kids.length b.kids.length)
          have h3 := countL_drop_len b.kids (min a.kids.length b.kids.length)
          unfold arrD
          simp only [List.length_append, List.length_map, List.length_range]
          omega
        · simp only [List.length_singleton]
          omega
end Go.Proofs.YtioaieacogoemaaGreat
