/- The plain mathematics of values: cells, trees, reading a tree off a list of cells. No program in sight. -/
import Derived.WalkKit
import Derived.Lib.Hide
namespace Go.Proofs.Ytfmkejgdooammaa
open Go.RowKit

def inB (v lo hi : Int) : Bool := decide (lo ≤ v) && decide (v ≤ hi)
def okByte (c : UInt8) : Bool := decide (32 ≤ c.toNat) && decide (c.toNat ≤ 126)
def okText (s : ByteArray) : Bool := decide (s.size ≤ 60) && s.data.toList.all okByte

structure CellD where
  kind : Int
  num : Int
  text : ByteArray
  key : ByteArray
  n : Int

def vals (c : CellD) : List Value := [.int .i64 c.kind, .int .i64 c.num, .string c.text, .string c.key, .int .i64 c.n]
def holds (k : Int) : Bool := k == 5 || k == 6
def cF (k m : Int) (t : ByteArray) (n : Int) : Bool := (m != 0 && k != 3) || (!(t.toList.isEmpty) && k != 4) || (n != 0 && !(holds k))
def cR (m n : Int) : Bool := !(inB m (-1000000000000000) 1000000000000000) || !(inB n 0 200)
def cT (t y : ByteArray) : Bool := !(okText t) || !(okText y)
def cellCode (k m : Int) (t y : ByteArray) (n : Int) : Int := if !(inB k 0 6) then 6 else if cF k m t n then 1 else if cR m n then 3 else if cT t y then 5 else 0
def CellD.code (c : CellD) : Int := cellCode c.kind c.num c.text c.key c.n

inductive V where
  | mk (kind num : Int) (text : ByteArray) (keys : List ByteArray) (kids : List V)

mutual
def V.depth : V → Nat
  | .mk _ _ _ _ kids => depthL kids + 1
def depthL : List V → Nat
  | [] => 0
  | k :: ks => max k.depth (depthL ks)
end
mutual
def V.count : V → Nat
  | .mk _ _ _ _ kids => countL kids + 1
def countL : List V → Nat
  | [] => 0
  | k :: ks => k.count + countL ks
end
def V.kind : V → Int | .mk k _ _ _ _ => k
def V.num : V → Int | .mk _ n _ _ _ => n
def V.text : V → ByteArray | .mk _ _ t _ _ => t
def V.keys : V → List ByteArray | .mk _ _ _ k _ => k
def V.kids : V → List V | .mk _ _ _ _ k => k
mutual
/-- The cells of a tree; the first one bears the key. -/
def V.cells (key : ByteArray) : V → List CellD
  | .mk kind num text keys kids => ⟨kind, num, text, key, kids.length⟩ :: cellsL kind keys kids
def cellsL (kind : Int) (keys : List ByteArray) : List V → List CellD
  | [] => []
  | k :: ks => k.cells (if kind = 6 then keys.headD ByteArray.empty else ByteArray.empty) ++ cellsL kind keys.tail ks
end

def keyBad (kind : Int) (last : Option ByteArray) (key : ByteArray) : Bool :=
  (kind == 5 && !(key.toList.isEmpty)) || (kind == 6 && match last with | none => false | some p => !(Op.bytesLess p.toList key.toList))

def parseK (pv : List CellD → Option (V × List CellD)) (kind : Int) : Nat → Option ByteArray → List CellD → Option (List ByteArray × List V × List CellD)
  | 0, _, l => some ([], [], l)
  | _ + 1, _, [] => none
  | cnt + 1, last, c :: l =>
    if keyBad kind last c.key then none else
    match pv (c :: l) with
    | none => none
    | some (v, r) => (parseK pv kind cnt (some c.key) r).map fun x => ((if kind = 6 then c.key :: x.1 else x.1), v :: x.2.1, x.2.2)

def parseV : Nat → List CellD → Option (V × List CellD)
  | 0, _ => none
  | _ + 1, [] => none
  | m + 1, c :: l => (parseK (parseV m) c.kind c.n.toNat none l).map fun x => (.mk c.kind c.num c.text x.1 x.2.1, x.2.2)

/-- The first code that is not 0. -/
def firstCode : List CellD → Int
  | [] => 0
  | c :: l => if c.code ≠ 0 then c.code else firstCode l

/-- The reading of cells as a tree, and its fault. -/
def dec (xs : List CellD) : Int × Option V :=
  if ¬ (1 ≤ xs.length ∧ xs.length ≤ 200) then (2, none) else
  if firstCode xs ≠ 0 then (firstCode xs, none) else
  match parseV xs.length xs with
  | some (t, []) => if !((xs.headD ⟨0, 0, ByteArray.empty, ByteArray.empty, 0⟩).key.toList.isEmpty) then (1, none) else if 20 < t.depth then (7, none) else (0, some t)
  | _ => (1, none)

/-! ### suffixes -/
theorem parseK_suffix {pv : List CellD → Option (V × List CellD)} (hp : ∀ l t r, pv l = some (t, r) → r <:+ l) (kind : Int) :
    ∀ cnt last l x, parseK pv kind cnt last l = some x → x.2.2 <:+ l := by
  intro cnt
  induction cnt with
  | zero => intro last l x h; simp only [parseK, Option.some.injEq] at h; subst h; exact List.suffix_refl _
  | succ cnt ih =>
    intro last l x h
    cases l with
    | nil => simp [parseK] at h
    | cons c l =>
      simp only [parseK] at h
      split at h
      · simp at h
      · split at h
        · simp at h
        · rename_i v r hv
          simp only [Option.map_eq_some_iff] at h
          obtain ⟨y, hy, rfl⟩ := h
          exact (ih _ _ _ hy).trans (hp _ _ _ hv)
theorem parseV_suffix : ∀ m l t r, parseV m l = some (t, r) → r <:+ l ∧ r.length < l.length := by
  intro m
  induction m with
  | zero => intro l t r h; simp [parseV] at h
  | succ m ih =>
    intro l t r h
    cases l with
    | nil => simp [parseV] at h
    | cons c l =>
      simp only [parseV, Option.map_eq_some_iff] at h
      obtain ⟨x, hx, he⟩ := h
      simp only [Prod.mk.injEq] at he
      have := parseK_suffix (fun l t r h => (ih l t r h).1) _ _ _ _ _ hx
      rw [he.2] at this
      exact ⟨this.trans (List.suffix_cons _ _), by have := this.length_le; simp; omega⟩

theorem suffix_drop {xs r : List CellD} (h : r <:+ xs) : r = xs.drop (xs.length - r.length) := by
  obtain ⟨p, rfl⟩ := h
  simp

/-! ### the loop over the kids -/
def glue (K : List ByteArray) (Vs : List V) (x : List ByteArray × List V × List CellD) : List ByteArray × List V × List CellD := (K ++ x.1, Vs ++ x.2.1, x.2.2)

/-- After k kids: K their keys (of an object), Vs the kids, l what is still to be read. -/
def KInv (pv : List CellD → Option (V × List CellD)) (kind : Int) (N : Nat) (l0 : List CellD) (k : Nat) (K : List ByteArray) (Vs : List V) (last : Option ByteArray) (l : List CellD) : Prop :=
  k ≤ N ∧ Vs.length = k ∧ (kind = 6 → K.length = k) ∧ (kind ≠ 6 → K = []) ∧ (kind = 6 → last = K.getLast?) ∧ parseK pv kind N none l0 = (parseK pv kind (N - k) last l).map (glue K Vs)

section
variable {pv : List CellD → Option (V × List CellD)} {kind : Int} {N : Nat} {l0 : List CellD} {k : Nat} {K : List ByteArray} {Vs : List V} {last : Option ByteArray} {l : List CellD}
theorem KInv.start : KInv pv kind N l0 0 [] [] none l0 :=
  ⟨Nat.zero_le _, rfl, fun _ => rfl, fun _ => rfl, fun _ => rfl, by
    rw [Nat.sub_zero]
    cases parseK pv kind N none l0 <;> simp [glue]⟩
theorem KInv.done (h : KInv pv kind N l0 N K Vs last l) : parseK pv kind N none l0 = some (K, Vs, l) := by
  rw [h.2.2.2.2.2, Nat.sub_self]
  simp [parseK, glue]
theorem KInv.empty (h : KInv pv kind N l0 k K Vs last []) (hk : k < N) : parseK pv kind N none l0 = none := by
  rw [h.2.2.2.2.2, show N - k = (N - k - 1) + 1 from by omega]
  simp [parseK]
theorem KInv.bad {c : CellD} (h : KInv pv kind N l0 k K Vs last (c :: l)) (hk : k < N) (hb : keyBad kind last c.key = true) : parseK pv kind N none l0 = none := by
  rw [h.2.2.2.2.2, show N - k = (N - k - 1) + 1 from by omega]
  simp [parseK, hb]
theorem KInv.kid {c : CellD} (h : KInv pv kind N l0 k K Vs last (c :: l)) (hk : k < N) (hb : pv (c :: l) = none) : parseK pv kind N none l0 = none := by
  rw [h.2.2.2.2.2, show N - k = (N - k - 1) + 1 from by omega]
  simp [parseK, hb]
theorem KInv.step {c : CellD} {v : V} {r : List CellD} (h : KInv pv kind N l0 k K Vs last (c :: l)) (hk : k < N) (hb : keyBad kind last c.key = false) (hv : pv (c :: l) = some (v, r)) :
    KInv pv kind N l0 (k + 1) (if kind = 6 then K ++ [c.key] else K) (Vs ++ [v]) (some c.key) r := by
  obtain ⟨h1, h2, h3, h4, h5, h6⟩ := h
  refine ⟨by omega, by simp [h2], fun hq => by simp [hq, h3 hq], fun hq => by simp [hq, h4 hq], fun hq => by simp [hq], ?_⟩
  rw [h6, show N - k = (N - (k + 1)) + 1 from by omega]
  simp only [parseK, hb, hv, Bool.false_eq_true, if_false, Option.map_map]
  congr 1
  funext x
  by_cases hq : kind = 6 <;> simp [glue, hq]
end

theorem depthL_append (a : List V) (v : V) : depthL (a ++ [v]) = max (depthL a) v.depth := by
  induction a with
  | nil => simp [depthL]
  | cons x a ih => simp [depthL, ih, Nat.max_assoc]
theorem bytesLess_total (a b : List UInt8) : (Op.bytesLess a b || (a == b)) = !(Op.bytesLess b a) := by
  induction a generalizing b with
  | nil => cases b <;> simp [Op.bytesLess]
  | cons x a ih =>
    cases b with
    | nil => simp [Op.bytesLess]
    | cons y b =>
      have := ih b
      simp only [Op.bytesLess, List.cons_beq_cons]
      by_cases h1 : x < y
      · have h2 : ¬ y < x := by simp only [UInt8.lt_iff_toNat_lt] at *; omega
        have h3 : (y == x) = false := by simp; rintro rfl; simp at h1
        simp [h1, h2, h3]
      · by_cases h2 : y < x
        · have h3 : (x == y) = false := by simp; rintro rfl; simp at h2
          simp [h1, h2, h3]
        · have h3 : x = y := by apply UInt8.toNat_inj.1; simp only [UInt8.lt_iff_toNat_lt] at *; omega
          subst h3
          simpa [h1] using this
end Go.Proofs.Ytfmkejgdooammaa
