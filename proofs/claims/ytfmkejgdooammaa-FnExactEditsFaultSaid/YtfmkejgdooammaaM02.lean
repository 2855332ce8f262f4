/- The plain mathematics of values, on: what the loops over the cells come to. -/
import Derived.Test.YtfmkejgdooammaaM01
namespace Go.Proofs.Ytfmkejgdooammaa
open Go.RowKit

def endOf (n : Nat) : Option (V × List CellD) → Int
  | none => -1
  | some x => ((n - x.2.length : Nat) : Int)
def deepOf : Option (V × List CellD) → Int
  | none => 0
  | some x => (x.1.depth : Int)

theorem parseK_depth {pv : List CellD → Option (V × List CellD)} (hp : ∀ l t r, pv l = some (t, r) → t.depth + r.length ≤ l.length) (kind : Int) :
    ∀ cnt last l x, parseK pv kind cnt last l = some x → depthL x.2.1 + x.2.2.length ≤ l.length := by
  intro cnt
  induction cnt with
  | zero => intro last l x h; simp only [parseK, Option.some.injEq] at h; subst h; simp [depthL]
  | succ cnt ih =>
    intro last l x h
    cases l with
    | nil => simp [parseK] at h
    | cons c l =>
      simp only [parseK] at h
      split at h
      · simp at h
      · split at h
        · simp at h
        · rename_i v r hv
          simp only [Option.map_eq_some_iff] at h
          obtain ⟨y, hy, rfl⟩ := h
          have h1 := ih _ _ _ hy
          have h2 := hp _ _ _ hv
          simp only [depthL]
          omega
theorem parseV_depth : ∀ m l t r, parseV m l = some (t, r) → t.depth + r.length ≤ l.length := by
  intro m
  induction m with
  | zero => intro l t r h; simp [parseV] at h
  | succ m ih =>
    intro l t r h
    cases l with
    | nil => simp [parseV] at h
    | cons c l =>
      simp only [parseV, Option.map_eq_some_iff] at h
      obtain ⟨x, hx, he⟩ := h
      simp only [Prod.mk.injEq] at he
      have := parseK_depth ih _ _ _ _ _ hx
      obtain ⟨rfl, rfl⟩ := he
      simp only [V.depth, List.length_cons]
      omega

theorem parseV_cons (m : Nat) (c : CellD) (l : List CellD) : parseV (m + 1) (c :: l) = (parseK (parseV m) c.kind c.n.toNat none l).map fun x => (.mk c.kind c.num c.text x.1 x.2.1, x.2.2) := rfl
theorem endOf_none (n : Nat) : endOf n none = -1 := rfl
theorem deepOf_none : deepOf none = 0 := rfl
theorem endOf_some (n : Nat) (t : V) (r : List CellD) : endOf n (some (t, r)) = ((n - r.length : Nat) : Int) := rfl
theorem deepOf_some (t : V) (r : List CellD) : deepOf (some (t, r)) = (t.depth : Int) := rfl
theorem parseV_fail {m : Nat} {c : CellD} {l : List CellD} (h : parseK (parseV m) c.kind c.n.toNat none l = none) : parseV (m + 1) (c :: l) = none := by rw [parseV_cons, h]; rfl
theorem parseV_good {m : Nat} {c : CellD} {l r : List CellD} {K : List ByteArray} {Vs : List V} (h : parseK (parseV m) c.kind c.n.toNat none l = some (K, Vs, r)) :
    parseV (m + 1) (c :: l) = some (.mk c.kind c.num c.text K Vs, r) := by rw [parseV_cons, h]; rfl
theorem drop_cons {xs : List CellD} {k : Nat} (h : k < xs.length) : xs.drop k = xs[k] :: xs.drop (k + 1) := List.drop_eq_getElem_cons h

section
variable {pv : List CellD → Option (V × List CellD)} {kind : Int} {N : Nat} {l0 : List CellD} {k : Nat} {K : List ByteArray} {Vs : List V} {last : Option ByteArray} {l : List CellD}
theorem KInv.keyOk {lst key : ByteArray} (h : KInv pv kind N l0 k K Vs last l) (hl : kind = 6 → 0 < k → K.getLast? = some lst) (h5 : kind = 5 → key.toList = [])
    (h6 : kind = 6 → 0 < k → Op.bytesLess key.toList lst.toList = false ∧ (key.toList == lst.toList) = false) : keyBad kind last key = false := by
  by_cases e6 : kind = 6
  · have hla := h.2.2.2.2.1 e6
    have hK := h.2.2.1 e6
    rcases Nat.eq_zero_or_pos k with h0 | h0
    · have : K = [] := List.eq_nil_of_length_eq_zero (by omega)
      subst this
      simp at hla
      subst hla
      simp [keyBad, e6]
    · rw [hl e6 h0] at hla
      subst hla
      have := h6 e6 h0
      have h2 := bytesLess_total key.toList lst.toList
      rw [this.1, this.2] at h2
      simp at h2
      simp [keyBad, e6, h2]
  · by_cases e5 : kind = 5
    · simp [keyBad, e5, h5 e5]
    · simp [keyBad, e5, e6]
theorem KInv.keyNo {lst key : ByteArray} (h : KInv pv kind N l0 k K Vs last l) (hl : kind = 6 → 0 < k → K.getLast? = some lst)
    (hb : (kind = 5 ∧ key.toList ≠ []) ∨ (kind = 6 ∧ 0 < k ∧ (Op.bytesLess key.toList lst.toList = true ∨ (key.toList == lst.toList) = true))) : keyBad kind last key = true := by
  rcases hb with ⟨h5, hk⟩ | ⟨h6, h0, hlt⟩
  · simp [keyBad, h5, hk]
  · have hla := h.2.2.2.2.1 h6
    rw [hl h6 h0] at hla
    subst hla
    have h2 := bytesLess_total key.toList lst.toList
    have : (Op.bytesLess key.toList lst.toList || key.toList == lst.toList) = true := by
      rcases hlt with h | h <;> simp [h]
    rw [this] at h2
    simp at h2
    simp [keyBad, h6, h2]
theorem KInv.len (h : KInv pv kind N l0 k K Vs last l) : K.length = if kind = 6 then k else 0 := by
  by_cases e : kind = 6
  · simp [e, h.2.2.1 e]
  · simp [e, h.2.2.2.1 e]
end
theorem firstCode_at {xs : List CellD} : ∀ {k : Nat} (hk : k < xs.length), (∀ i (hi : i < xs.length), i < k → xs[i].code = 0) → xs[k].code ≠ 0 → firstCode xs = xs[k].code := by
  induction xs with
  | nil => intro k hk; simp at hk
  | cons c l ih =>
    intro k hk h h0
    cases k with
    | zero => simp only [List.getElem_cons_zero] at h0 ⊢; simp [firstCode, h0]
    | succ k =>
      have h1 : c.code = 0 := h 0 (by simp) (by omega)
      simp only [List.getElem_cons_succ] at h0 ⊢
      simp only [firstCode, h1]
      exact ih (by simpa using hk) (fun i hi hik => h (i + 1) (by simpa using hi) (by omega)) h0
theorem firstCode_all {xs : List CellD} : (∀ i (hi : i < xs.length), xs[i].code = 0) → firstCode xs = 0 := by
  induction xs with
  | nil => intro _; rfl
  | cons c l ih =>
    intro h
    have h1 : c.code = 0 := h 0 (by simp)
    simp only [firstCode, h1]
    exact ih fun i hi => h (i + 1) (by simpa using hi)
theorem firstCode_zero {xs : List CellD} : firstCode xs = 0 → ∀ c ∈ xs, c.code = 0 := by
  induction xs with
  | nil => intro _ c hc; simp at hc
  | cons c l ih =>
    intro h d hd
    simp only [firstCode] at h
    split at h
    · rename_i h0; exact absurd h h0
    · rename_i h0
      simp only [List.mem_cons] at hd
      rcases hd with rfl | hd
      · simpa using h0
      · exact ih h d hd
theorem code_n {c : CellD} (h : c.code = 0) : 0 ≤ c.n ∧ c.n ≤ 200 := by
  unfold CellD.code cellCode at h
  have hr : cR c.num c.n = false := by
    cases hh : cR c.num c.n
    · rfl
    · rw [hh] at h
      split at h
      · omega
      · split at h
        · omega
        · simp at h
  simp [cR, inB] at hr
  omega
theorem code_text {c : CellD} (h : c.code = 0) : okText c.text = true ∧ okText c.key = true := by
  unfold CellD.code cellCode at h
  have hr : cT c.text c.key = false := by
    cases hh : cT c.text c.key
    · rfl
    · rw [hh] at h
      split at h
      · omega
      · split at h
        · omega
        · split at h
          · omega
          · simp at h
  simpa [cT] using hr
theorem dec_many {xs : List CellD} (h : xs.length < 1 ∨ 200 < xs.length) : dec xs = (2, none) := by
  unfold dec; rw [if_pos (by omega)]
theorem dec_code {xs : List CellD} (h : 1 ≤ xs.length) (h2 : xs.length ≤ 200) {k : Nat} (hk : k < xs.length) (h3 : ∀ i (hi : i < xs.length), i < k → xs[i].code = 0) (h4 : xs[k].code ≠ 0) : dec xs = (xs[k].code, none) := by
  unfold dec; rw [if_neg (by omega), firstCode_at hk h3 h4, if_pos h4]
/-- The reading, behind the cells' own codes. -/
def dec2 (xs : List CellD) : Int × Option V :=
  match parseV xs.length xs with
  | some (t, []) => if !((xs.headD ⟨0, 0, ByteArray.empty, ByteArray.empty, 0⟩).key.toList.isEmpty) then (1, none) else if 20 < t.depth then (7, none) else (0, some t)
  | _ => (1, none)
theorem dec_two {xs : List CellD} (h : 1 ≤ xs.length) (h2 : xs.length ≤ 200) (h3 : firstCode xs = 0) : dec xs = dec2 xs := by
  unfold dec; rw [if_neg (by omega), if_neg (by omega)]; rfl
theorem dec2_fst {xs : List CellD} (h : 0 < xs.length) : (dec2 xs).1 =
    if endOf xs.length (parseV xs.length xs) = xs.length then (if !(xs[0].key.toList.isEmpty) then 1 else if 20 < deepOf (parseV xs.length xs) then 7 else 0) else 1 := by
  match xs, h with
  | c :: l, h =>
    unfold dec2
    rcases hp : parseV (c :: l).length (c :: l) with _ | ⟨t, r⟩
    · simp [endOf]; omega
    · cases r with
      | nil =>
        show (if (!c.key.toList.isEmpty) = true then ((1, none) : Int × Option V) else if 20 < t.depth then (7, none) else (0, some t)).1 =
          if (((c :: l).length - 0 : Nat) : Int) = ((c :: l).length : Nat) then (if (!c.key.toList.isEmpty) = true then (1 : Int) else if 20 < (t.depth : Int) then 7 else 0) else 1
        rw [if_pos (show (((c :: l).length - 0 : Nat) : Int) = ((c :: l).length : Nat) from rfl)]
        by_cases hk : (!c.key.toList.isEmpty) = true
        · rw [if_pos hk, if_pos hk]
        · rw [if_neg hk, if_neg hk]
          by_cases hd : 20 < t.depth
          · rw [if_pos hd, if_pos (show (20 : Int) < (t.depth : Int) by omega)]
          · rw [if_neg hd, if_neg (show ¬ (20 : Int) < (t.depth : Int) by omega)]
      | cons y r =>
        have : ¬ (endOf (c :: l).length (some (t, y :: r)) = ((c :: l).length : Nat)) := by rw [endOf_some]; simp only [List.length_cons]; omega
        exact (if_neg this).symm
theorem parseV_nil (m : Nat) : parseV m [] = none := by cases m <;> rfl
theorem int_max {a b : Nat} (h : a < b) : ((max a b : Nat) : Int) = b := by omega
end Go.Proofs.Ytfmkejgdooammaa
