/- Memory: rows of cells, cells of values, trees in memory; how they are kept. -/
import Derived.Test.YtfmkejgdooammaaM01
import Derived.Laws.OwnMore
namespace Go.Proofs.Ytfmkejgdooammaa
open Go.RowKit

theorem bcell {W w1 : World} (hb : Below W.heap.size W w1) : (∀ b o, b < W.heap.size → w1.cell? ⟨b, o, none⟩ = W.cell? ⟨b, o, none⟩) ∧ (∀ b o, b < W.heap.size → w1.frozen? ⟨b, o, none⟩ = W.frozen? ⟨b, o, none⟩) :=
  ⟨fun b o h => hb.cell (p := ⟨b, o, none⟩) h, fun b o h => hb.frozen (p := ⟨b, o, none⟩) h⟩

/-- The blocks of S are as they were, and no block has gone. -/
structure Same (S : Nat → Prop) (w w' : World) : Prop where
  size : w.heap.size ≤ w'.heap.size
  block : ∀ b, S b → b < w.heap.size → w'.heap[b]? = w.heap[b]?
theorem Same.refl (S : Nat → Prop) (w : World) : Same S w w := ⟨Nat.le_refl _, fun _ _ _ => rfl⟩
theorem Same.trans {S : Nat → Prop} {a b c : World} (h : Same S a b) (k : Same S b c) : Same S a c :=
  ⟨Nat.le_trans h.size k.size, fun i hi hl => (k.block i hi (Nat.lt_of_lt_of_le hl h.size)).trans (h.block i hi hl)⟩
theorem Same.of_below {S : Nat → Prop} {B : Nat} {w w' : World} (h : Below B w w') (hS : ∀ b, S b → b < w.heap.size → b < B) : Same S w w' := ⟨h.size, fun b hb hl => h.block b (hS b hb hl)⟩
theorem Same.below {S : Nat → Prop} {w w' : World} (h : Below w.heap.size w w') : Same S w w' := Same.of_below h fun _ _ h => h
theorem Same.grown {S : Nat → Prop} {w w' : World} {row : Option Nat} (h : w.grownBy w' row) (hS : ∀ b, S b → some b ≠ row) : Same S w w' := ⟨h.size, fun b hb hl => h.block b hl (hS b hb)⟩
theorem Same.alloc (S : Nat → Prop) (w : World) (o : Obj) : Same S w (w.alloc o) := ⟨by simp, fun b _ hl => Below.heap_alloc w o b hl⟩
theorem Same.setCell {S : Nat → Prop} (w : World) (p : Addr) (u : Value) (hp : ¬ S p.block) : Same S w (w.setCell p u) :=
  ⟨by simp [World.setCell], fun b hb _ => Below.heap_setCell w p u b (fun e => hp (e ▸ hb))⟩
theorem Same.drew (S : Nat → Prop) (w : World) : Same S w w.drew := ⟨Nat.le_refl _, fun _ _ _ => rfl⟩
theorem Same.mono {S T : Nat → Prop} {w w' : World} (h : Same S w w') (hT : ∀ b, T b → S b) : Same T w w' := ⟨h.size, fun b hb hl => h.block b (hT b hb) hl⟩

/-- A slice that starts at A reads as the rows xs of 'size' cells each; its block is one of S. -/
def Row (w : World) (S : Nat → Prop) (size : Nat) (A : Option Addr) (xs : List (List Value)) : Prop :=
  (∀ x ∈ xs, x.length = size) ∧ (0 < xs.length → ∃ b off, A = some ⟨b, off, none⟩ ∧ S b ∧ b < w.heap.size ∧ ∀ i x, xs[i]? = some x → ∀ j u, x[j]? = some u → w.cell? ⟨b, off + i * size + j, none⟩ = some u)

section
variable {w w' : World} {S T : Nat → Prop} {size : Nat} {A : Option Addr} {xs : List (List Value)}
theorem Row.nil : Row w S size A [] := ⟨by simp, fun h => absurd h (by simp)⟩
theorem Row.keep (h : Row w S size A xs) (hs : Same S w w') : Row w' S size A xs :=
  ⟨h.1, fun hn => by
    obtain ⟨b, off, hA, hb, hl, hc⟩ := h.2 hn
    exact ⟨b, off, hA, hb, Nat.lt_of_lt_of_le hl hs.size, fun i x hx j u hu => (World.cell?_of_block (hs.block b hb hl)).trans (hc i x hx j u hu)⟩⟩
theorem Row.below (h : Row w S size A xs) (hb : Below w.heap.size w w') : Row w' S size A xs := h.keep (Same.below hb)
theorem Row.weaken (h : Row w S size A xs) (hT : ∀ b, S b → b < w.heap.size → T b) : Row w T size A xs :=
  ⟨h.1, fun hn => by
    obtain ⟨b, off, hA, hb, hl, hc⟩ := h.2 hn
    exact ⟨b, off, hA, hT b hb hl, hl, hc⟩⟩
theorem Row.cut (h : Row w S size A xs) (k cap : Nat) (hc : xs.length ≤ cap) :
    Row w S size (if cap = k then A else A.map (·.add (k * size))) (xs.drop k) := by
  refine ⟨fun x hx => h.1 x (List.mem_of_mem_drop hx), fun hn => ?_⟩
  simp only [List.length_drop] at hn
  obtain ⟨b, off, rfl, hb, hl, hcell⟩ := h.2 (by omega)
  rw [if_neg (by omega)]
  refine ⟨b, off + k * size, ?_, hb, hl, fun i x hx j u hu => ?_⟩
  · simp only [Option.map_some, Addr.add]
    split
    · rename_i h0; simp [h0]
    · rfl
  · have := hcell (k + i) x (by rw [← List.getElem?_drop]; exact hx) j u hu
    rw [show off + k * size + i * size + j = off + (k + i) * size + j from by rw [Nat.add_mul]; omega]
    exact this
theorem Row.take (h : Row w S size A xs) (k : Nat) : Row w S size A (xs.take k) := by
  refine ⟨fun x hx => h.1 x (List.mem_of_mem_take hx), fun hn => ?_⟩
  obtain ⟨b, off, hA, hb, hl, hcell⟩ := h.2 (by simp at hn; omega)
  refine ⟨b, off, hA, hb, hl, fun i x hx j u hu => hcell i x ?_ j u hu⟩
  rw [List.getElem?_take] at hx
  split at hx
  · exact hx
  · simp at hx
end

/-- The cells of a value. -/
def Cells (w : World) (S : Nat → Prop) (A : Option Addr) (xs : List CellD) : Prop := Row w S 5 A (xs.map vals)
theorem Cells.at_ {w : World} {S : Nat → Prop} {A : Option Addr} {xs : List CellD} (h : Cells w S A xs) {k : Nat} (hk : k < xs.length) :
    ∃ b off, A = some ⟨b, off, none⟩ ∧ S b ∧ b < w.heap.size ∧ w.cell? ⟨b, off + k * 5, none⟩ = some (.int .i64 xs[k].kind) ∧ w.cell? ⟨b, off + k * 5 + 1, none⟩ = some (.int .i64 xs[k].num) ∧
      w.cell? ⟨b, off + k * 5 + 2, none⟩ = some (.string xs[k].text) ∧ w.cell? ⟨b, off + k * 5 + 3, none⟩ = some (.string xs[k].key) ∧ w.cell? ⟨b, off + k * 5 + 4, none⟩ = some (.int .i64 xs[k].n) := by
  obtain ⟨b, off, hA, hS, hl, hc⟩ := h.2 (by simp; omega)
  have := hc k (vals xs[k]) (by simp [List.getElem?_eq_getElem hk])
  exact ⟨b, off, hA, hS, hl, this 0 _ rfl, this 1 _ rfl, this 2 _ rfl, this 3 _ rfl, this 4 _ rfl⟩
theorem Cells.nil {w : World} {S : Nat → Prop} {A : Option Addr} : Cells w S A [] := Row.nil
theorem Cells.keep {w w' : World} {S : Nat → Prop} {A : Option Addr} {xs : List CellD} (h : Cells w S A xs) (hs : Same S w w') : Cells w' S A xs := Row.keep h hs
theorem Cells.below {w w' : World} {S : Nat → Prop} {A : Option Addr} {xs : List CellD} (h : Cells w S A xs) (hb : Below w.heap.size w w') : Cells w' S A xs := Row.below h hb
theorem Cells.weaken {w : World} {S T : Nat → Prop} {A : Option Addr} {xs : List CellD} (h : Cells w S A xs) (hT : ∀ b, S b → b < w.heap.size → T b) : Cells w T A xs := Row.weaken h hT

/-- A slice of strings. -/
def Strs (w : World) (S : Nat → Prop) (A : Option Addr) (ks : List ByteArray) : Prop := Row w S 1 A (ks.map fun k => [.string k])
theorem Strs.at_ {w : World} {S : Nat → Prop} {A : Option Addr} {xs : List ByteArray} (h : Strs w S A xs) {k : Nat} (hk : k < xs.length) :
    ∃ b off, A = some ⟨b, off, none⟩ ∧ S b ∧ b < w.heap.size ∧ w.cell? ⟨b, off + k, none⟩ = some (.string xs[k]) := by
  obtain ⟨b, off, hA, hS, hl, hc⟩ := h.2 (by simp; omega)
  have := hc k [.string xs[k]] (by simp [List.getElem?_eq_getElem hk]) 0 _ rfl
  exact ⟨b, off, hA, hS, hl, by simpa using this⟩

mutual
/-- The five cells vs are a tree's, as the program has it. -/
def VRep (w : World) (S : Nat → Prop) : V → List Value → Prop
  | .mk kind num text keys kids, vs => ∃ (Ak : Option Addr) (ck : Nat) (Av : Option Addr) (cv : Nat) (kvs : List (List Value)),
      vs = [.int .i64 kind, .int .i64 num, .string text, .slice Ak keys.length ck, .slice Av kids.length cv] ∧ keys.length ≤ ck ∧ kids.length ≤ cv ∧
      Strs w S Ak keys ∧ Row w S 5 Av kvs ∧ VReps w S kids kvs
def VReps (w : World) (S : Nat → Prop) : List V → List (List Value) → Prop
  | [], vs => vs = []
  | k :: ks, vs => ∃ v vs', vs = v :: vs' ∧ VRep w S k v ∧ VReps w S ks vs'
end
theorem VReps.length {w : World} {S : Nat → Prop} : ∀ {ks : List V} {vs : List (List Value)}, VReps w S ks vs → vs.length = ks.length
  | [], _, h => by simp only [VReps] at h; subst h; rfl
  | _ :: _, _, h => by
    simp only [VReps] at h
    obtain ⟨v, vs', rfl, _, h2⟩ := h
    simp [VReps.length h2]
mutual
theorem VRep.keep {w w' : World} {S : Nat → Prop} (hs : Same S w w') : ∀ {t : V} {vs : List Value}, VRep w S t vs → VRep w' S t vs
  | .mk _ _ _ _ _, _, h => by
    simp only [VRep] at h ⊢
    obtain ⟨Ak, ck, Av, cv, kvs, h1, h2, h3, h4, h5, h6⟩ := h
    exact ⟨Ak, ck, Av, cv, kvs, h1, h2, h3, Row.keep h4 hs, Row.keep h5 hs, VReps.keep hs h6⟩
theorem VReps.keep {w w' : World} {S : Nat → Prop} (hs : Same S w w') : ∀ {ks : List V} {vs : List (List Value)}, VReps w S ks vs → VReps w' S ks vs
  | [], _, h => by simp only [VReps] at h ⊢; exact h
  | _ :: _, _, h => by
    simp only [VReps] at h ⊢
    obtain ⟨v, vs', h0, h1, h2⟩ := h
    exact ⟨v, vs', h0, VRep.keep hs h1, VReps.keep hs h2⟩
end
mutual
theorem VRep.weaken {w : World} {S T : Nat → Prop} (hs : ∀ b, S b → b < w.heap.size → T b) : ∀ {t : V} {vs : List Value}, VRep w S t vs → VRep w T t vs
  | .mk _ _ _ _ _, _, h => by
    simp only [VRep] at h ⊢
    obtain ⟨Ak, ck, Av, cv, kvs, h1, h2, h3, h4, h5, h6⟩ := h
    exact ⟨Ak, ck, Av, cv, kvs, h1, h2, h3, Row.weaken h4 hs, Row.weaken h5 hs, VReps.weaken hs h6⟩
theorem VReps.weaken {w : World} {S T : Nat → Prop} (hs : ∀ b, S b → b < w.heap.size → T b) : ∀ {ks : List V} {vs : List (List Value)}, VReps w S ks vs → VReps w T ks vs
  | [], _, h => by simp only [VReps] at h ⊢; exact h
  | _ :: _, _, h => by
    simp only [VReps] at h ⊢
    obtain ⟨v, vs', h0, h1, h2⟩ := h
    exact ⟨v, vs', h0, VRep.weaken hs h1, VReps.weaken hs h2⟩
end
theorem VReps.snoc {w : World} {S : Nat → Prop} {k : V} {v : List Value} (h : VRep w S k v) : ∀ {ks : List V} {vs : List (List Value)}, VReps w S ks vs → VReps w S (ks ++ [k]) (vs ++ [v])
  | [], _, h0 => by
    simp only [VReps] at h0
    subst h0
    exact ⟨v, [], rfl, h, rfl⟩
  | _ :: _, _, h0 => by
    simp only [VReps] at h0
    obtain ⟨u, us, rfl, h1, h2⟩ := h0
    exact ⟨u, us ++ [v], rfl, h1, VReps.snoc h h2⟩
theorem VReps.at_ {w : World} {S : Nat → Prop} : ∀ {ks : List V} {vs : List (List Value)}, VReps w S ks vs → ∀ (i : Nat) (hi : i < ks.length), ∃ v, vs[i]? = some v ∧ VRep w S ks[i] v
  | [], _, _, i, hi => absurd hi (by simp)
  | _ :: _, _, h, i, hi => by
    simp only [VReps] at h
    obtain ⟨u, us, rfl, h1, h2⟩ := h
    cases i with
    | zero => exact ⟨u, rfl, h1⟩
    | succ i => exact VReps.at_ h2 i (by simpa using hi)
theorem VRep.below {w w' : World} {S : Nat → Prop} {t : V} {vs : List Value} (h : VRep w S t vs) (hb : Below w.heap.size w w') : VRep w' S t vs := h.keep (Same.below hb)
theorem VReps.below {w w' : World} {S : Nat → Prop} {t : List V} {vs : List (List Value)} (h : VReps w S t vs) (hb : Below w.heap.size w w') : VReps w' S t vs := h.keep (Same.below hb)
/-- What a tree's cells are. -/
theorem VRep.out {w : World} {S : Nat → Prop} {t : V} {vs : List Value} (h : VRep w S t vs) : ∃ (Ak : Option Addr) (ck : Nat) (Av : Option Addr) (cv : Nat) (kvs : List (List Value)),
      vs = [.int .i64 t.kind, .int .i64 t.num, .string t.text, .slice Ak t.keys.length ck, .slice Av t.kids.length cv] ∧ t.keys.length ≤ ck ∧ t.kids.length ≤ cv ∧
      Strs w S Ak t.keys ∧ Row w S 5 Av kvs ∧ VReps w S t.kids kvs := by
  obtain ⟨k, n, s, ks, vs⟩ := t
  exact h
theorem VRep.mk_ {w : World} {S : Nat → Prop} {kind num : Int} {text : ByteArray} {keys : List ByteArray} {kids : List V} {Ak : Option Addr} {ck : Nat} {Av : Option Addr} {cv : Nat} {kvs : List (List Value)}
    (h2 : keys.length ≤ ck) (h3 : kids.length ≤ cv) (h4 : Strs w S Ak keys) (h5 : Row w S 5 Av kvs) (h6 : VReps w S kids kvs) :
    VRep w S (.mk kind num text keys kids) [.int .i64 kind, .int .i64 num, .string text, .slice Ak keys.length ck, .slice Av kids.length cv] :=
  ⟨Ak, ck, Av, cv, kvs, rfl, h2, h3, h4, h5, h6⟩
theorem VRep.of {w : World} {S : Nat → Prop} {t : V} {Ak : Option Addr} {ck : Nat} {Av : Option Addr} {cv : Nat} {kvs : List (List Value)}
    (h2 : t.keys.length ≤ ck) (h3 : t.kids.length ≤ cv) (h4 : Strs w S Ak t.keys) (h5 : Row w S 5 Av kvs) (h6 : VReps w S t.kids kvs) :
    VRep w S t [.int .i64 t.kind, .int .i64 t.num, .string t.text, .slice Ak t.keys.length ck, .slice Av t.kids.length cv] := by
  obtain ⟨k, n, s, ks, vs⟩ := t
  exact VRep.mk_ h2 h3 h4 h5 h6
/-- The fields of the i-th tree of a row. -/
theorem Row.vat {w : World} {S : Nat → Prop} {A : Option Addr} {vs : List (List Value)} {ks : List V} (h : Row w S 5 A vs) (hv : VReps w S ks vs) {i : Nat} (hi : i < ks.length) :
    ∃ (b off : Nat) (Ak : Option Addr) (ck : Nat) (Av : Option Addr) (cv : Nat) (kvs : List (List Value)), A = some ⟨b, off, none⟩ ∧ S b ∧ b < w.heap.size ∧
      w.cell? ⟨b, off + i * 5, none⟩ = some (.int .i64 ks[i].kind) ∧ w.cell? ⟨b, off + i * 5 + 1, none⟩ = some (.int .i64 ks[i].num) ∧
      w.cell? ⟨b, off + i * 5 + 2, none⟩ = some (.string ks[i].text) ∧ w.cell? ⟨b, off + i * 5 + 3, none⟩ = some (.slice Ak ks[i].keys.length ck) ∧ w.cell? ⟨b, off + i * 5 + 4, none⟩ = some (.slice Av ks[i].kids.length cv) ∧
      ks[i].keys.length ≤ ck ∧ ks[i].kids.length ≤ cv ∧ Strs w S Ak ks[i].keys ∧ Row w S 5 Av kvs ∧ VReps w S ks[i].kids kvs := by
  obtain ⟨v, he, hr⟩ := hv.at_ i hi
  obtain ⟨Ak, ck, Av, cv, kvs, rfl, h2, h3, h4, h5, h6⟩ := hr.out
  obtain ⟨b, off, hA, hS, hl, hc⟩ := h.2 (by have := hv.length; omega)
  have := hc i _ he
  exact ⟨b, off, Ak, ck, Av, cv, kvs, hA, hS, hl, this 0 _ rfl, this 1 _ rfl, this 2 _ rfl, this 3 _ rfl, this 4 _ rfl, h2, h3, h4, h5, h6⟩

/-- A row that the call owns reads as what was put there. -/
theorem flatten_get {xs : List (List Value)} {size : Nat} (h1 : ∀ x ∈ xs, x.length = size) : ∀ i x, xs[i]? = some x → ∀ j u, x[j]? = some u → xs.flatten[i * size + j]? = some u := by
  induction xs with
  | nil => intro i x h; simp at h
  | cons y ys ih =>
    intro i x hx j u hu
    have hy : y.length = size := h1 y (by simp)
    cases i with
    | zero =>
      simp only [List.getElem?_cons_zero, Option.some.injEq] at hx
      subst hx
      have hj : j < y.length := by
        rcases Nat.lt_or_ge j y.length with h | h
        · exact h
        · rw [List.getElem?_eq_none h] at hu; simp at hu
      simp only [List.flatten_cons, Nat.zero_mul, Nat.zero_add]
      rw [List.getElem?_append_left hj]
      exact hu
    | succ i =>
      simp only [List.getElem?_cons_succ] at hx
      have := ih (fun x hx => h1 x (by simp [hx])) i x hx j u hu
      simp only [List.flatten_cons]
      rw [List.getElem?_append_right (by rw [Nat.add_mul]; omega), hy, show (i + 1) * size + j - size = i * size + j from by rw [Nat.add_mul]; omega]
      exact this
theorem Row.of_own {w : World} {base : Nat} {e : TypeId} {size n c : Nat} {A : Option Addr} {xs : List (List Value)} (h1 : ∀ x ∈ xs, x.length = size) (hs : 0 < size)
    (h : w.ownsRow base e size (.slice A n c) n xs.flatten) : Row w (fun b => (Value.slice A n c).ownBlock = some b) size A xs := by
  refine ⟨h1, fun hn => ?_⟩
  rcases h.2 with ⟨hv, h0⟩ | ⟨g, cap, cur, hv, _, hh, _⟩
  · exfalso
    have hl := h.1
    subst h0
    match xs, hn, h1, hl with
    | x :: xs, _, h1, hl =>
      have h2 := h1 x List.mem_cons_self
      simp only [List.flatten_cons, List.length_append, Nat.zero_mul] at hl
      omega
  simp only [Value.slice.injEq] at hv
  obtain ⟨rfl, _⟩ := hv
  have hlt : g < w.heap.size := (Array.getElem?_eq_some_iff.1 hh).1
  refine ⟨g, 0, rfl, rfl, hlt, fun i x hx j u hu => ?_⟩
  have := h.cells (g := g) rfl _ _ (flatten_get h1 i x hx j u hu)
  have hadd : (⟨g, 0, none⟩ : Addr).add (i * size + j) = ⟨g, 0 + i * size + j, none⟩ := by
    unfold Addr.add
    split
    · simp
    · simp
  rw [hadd] at this
  exact this
end Go.Proofs.Ytfmkejgdooammaa
