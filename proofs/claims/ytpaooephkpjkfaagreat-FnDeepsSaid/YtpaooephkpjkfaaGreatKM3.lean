/- Texts of this proof: M20 M21 M22. -/
import Derived.Test.YtpaooephkpjkfaaGreatKM2
import Derived.Test.YtpaooephkpjkfaaGreatKG21
set_option linter.unusedSimpArgs false
set_option linter.unusedVariables false
set_option linter.unnecessarySimpa false
namespace Go.Proofs.YtpaooephkpjkfaaGreat
open Go.RowKit
theorem lessB_asym {a b : ByteArray} (h : lessB a b = true) : lessB b a = false := by
  cases h2 : lessB b a with
  | false => rfl
  | true =>
    have := lessB_trans h h2
    rw [lessB_irrefl] at this
    cases this
theorem bsPos_cons (x : ByteArray) (r : List ByteArray) (k : ByteArray) : bsPos (x :: r) k = if lessB x k then bsPos r k + 1 else 0 := by
  unfold bsPos
  rw [List.findIdx_cons]
  cases lessB x k <;> rfl
theorem bsFound_iff {l : List ByteArray} {k : ByteArray} : bsFound l k = true ↔ l[bsPos l k]? = some k := by
  unfold bsFound
  split
  · rename_i h
    rw [List.getElem?_eq_getElem h, beq_iff_eq, Option.some.injEq]
    exact ⟨ByteArray_toList_inj, fun e => by rw [e]⟩
  · rename_i h
    rw [List.getElem?_eq_none (by omega)]
    simp
theorem bsPos_at {l : List ByteArray} {k : ByteArray} (h : bsPos l k < l.length) : lessB l[bsPos l k] k = false := by
  have h2 : (fun x => !lessB x k) (l[bsPos l k]) = true := List.findIdx_getElem (w := h)
  simpa using h2
theorem insKey_pos : ∀ {l : List ByteArray} {k : ByteArray}, Up l → insKey k l = if bsFound l k then l else l.take (bsPos l k) ++ [k] ++ l.drop (bsPos l k)
  | [], k, _ => by simp [insKey, bsFound, bsPos]
  | x :: r, k, h => by
    have h' := List.pairwise_cons.1 (show List.Pairwise _ (x :: r) from h)
    unfold insKey
    split
    · rename_i hl
      have hx := lessB_asym hl
      have hp : bsPos (x :: r) k = 0 := by rw [bsPos_cons, hx]; rfl
      have hf : bsFound (x :: r) k = false := by
        cases hf : bsFound (x :: r) k with
        | false => rfl
        | true =>
          have := bsFound_iff.1 hf
          rw [hp] at this
          have e : x = k := by simpa using this
          subst e
          rw [lessB_irrefl] at hl
          cases hl
      rw [hf, hp]
      simp
    · rename_i hl
      split
      · rename_i he
        have e : k = x := ByteArray_toList_inj (by simpa using he)
        subst e
        have hp : bsPos (k :: r) k = 0 := by rw [bsPos_cons, lessB_irrefl]; rfl
        have hf : bsFound (k :: r) k = true := bsFound_iff.2 (by rw [hp]; rfl)
        rw [hf]
        rfl
      · rename_i he
        have hxk : lessB x k = true := by
          rcases lessB_tri x k with g | g | g
          · exact g
          · subst g; exact absurd (by simp) he
          · exact absurd g hl
        have hp : bsPos (x :: r) k = bsPos r k + 1 := by rw [bsPos_cons, hxk]; rfl
        have hf : bsFound (x :: r) k = bsFound r k := by
          have : bsFound (x :: r) k = true ↔ bsFound r k = true := by
            rw [bsFound_iff, bsFound_iff, hp, List.getElem?_cons_succ]
          cases h1 : bsFound (x :: r) k <;> cases h2 : bsFound r k <;> simp_all
        rw [hf, hp, insKey_pos h'.2]
        split
        · rfl
        · simp
theorem setMap {l : List ByteArray} (h : Up l) {p : Nat} {k : ByteArray} (hp : l[p]? = some k) (g g' : ByteArray → V) (v : V) (hk : g' k = v) (hg : ∀ x ∈ l, x ≠ k → g' x = g x) : l.map g' = (l.map g).set p v := by
  refine List.ext_getElem (by simp) fun i h1 h2 => ?_
  have hi : i < l.length := by simpa using h1
  rw [List.getElem_map, List.getElem_set]
  split
  · rename_i e
    subst e
    rw [List.getElem?_eq_getElem hi] at hp
    rw [Option.some.inj hp, hk]
  · rename_i e
    rw [List.getElem_map]
    refine hg _ (List.getElem_mem hi) fun hx => e ?_
    exact up_inj h hp (List.getElem?_eq_some_iff.2 ⟨hi, hx⟩)
end Go.Proofs.YtpaooephkpjkfaaGreat

/- The plain mathematics of merging, round by round; what stands at a path when a value is put there. -/
namespace Go.Proofs.YtpaooephkpjkfaaGreat
open Go.RowKit
theorem give_ok {t : V} (h : t.fit) : okRes (giveR t) := by
  unfold giveR
  split
  · rename_i h0
    exact ⟨rfl, fit_dec h h0⟩
  · rename_i h0
    exact h0
theorem countL_le {l : List V} {m : Nat} (h : ∀ v ∈ l, v.count ≤ m) : countL l ≤ m * l.length := by
  induction l with
  | nil => simp [countL]
  | cons x l ih =>
    have h1 := h x (by simp)
    have h2 := ih fun v hv => h v (by simp [hv])
    simp only [countL, List.length_cons, Nat.mul_add]
    omega
theorem arr_fit {l : List V} (h : ∀ v ∈ l, v.fit) : (arrV l).fit := ⟨Nat.zero_le _, by simp, fun h => absurd h (by decide), fun h => absurd h (by decide), fun _ => rfl, fitL_iff.2 h⟩
end Go.Proofs.YtpaooephkpjkfaaGreat

/- The plain mathematics of leaving out what stands at a path. -/
namespace Go.Proofs.YtpaooephkpjkfaaGreat
open Go.RowKit
theorem asc_of : ∀ {l : List ByteArray} {p : Option ByteArray}, Up l → (∀ k ∈ l, ∀ q, p = some q → lessB q k = true) → asc p l
  | [], p, _, _ => by unfold asc; trivial
  | k :: l, p, h, hp => by
    have h' := List.pairwise_cons.1 (show List.Pairwise _ (k :: l) from h)
    have ih : asc (some k) l := asc_of h'.2 fun x hx q hq => by cases hq; exact h'.1 x hx
    cases p with
    | none => exact ih
    | some q => exact ⟨hp k (by simp) q rfl, ih⟩
theorem wfL_iff : ∀ {l : List V}, wfL l ↔ ∀ v ∈ l, v.wf
  | [] => by simp [wfL]
  | v :: l => by simp only [wfL, List.mem_cons, forall_eq_or_imp, wfL_iff (l := l)]
theorem depthL_le {l : List V} {m : Nat} (h : ∀ v ∈ l, v.depth ≤ m) : depthL l ≤ m := by
  induction l with
  | nil => exact Nat.zero_le _
  | cons x l ih =>
    have h1 := h x (by simp)
    have h2 := ih fun v hv => h v (by simp [hv])
    simp only [depthL]
    omega
/-- An object made of right members in order is right, if it is not too great. -/
theorem obj_wf {ks : List ByteArray} {vs : List V} (hl : ks.length = vs.length) (hk : ∀ k ∈ ks, okText k = true) (hu : Up ks) (hv : ∀ v ∈ vs, v.wf) (hn : vs.length ≤ 200) : (V.mk 6 0 ByteArray.empty ks vs).wf := by
  refine ⟨?_, ?_, wfL_iff.2 hv⟩
  · unfold cellCode
    have h1 : inB 6 0 6 = true := by decide
    have h2 : inB (vs.length : Int) 0 200 = true := by unfold inB; simp; omega
    simp [h1, cF, cR, cT, okText_empty, holds, h2, inB]
    omega
  · unfold keysOk
    rw [if_pos rfl]
    exact ⟨hl, hk, asc_of hu (by simp)⟩
end Go.Proofs.YtpaooephkpjkfaaGreat
