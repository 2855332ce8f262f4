/- Memory, on: slices of whatever is represented by some cells; rows of the call's own that hold such. -/
import Derived.Test.YtfmkejgdooammaaA02
namespace Go.Proofs.Ytfmkejgdooammaa
open Go.RowKit

/-- A way to represent things by 'size' cells each: it is kept where the blocks that it speaks of are kept. -/
structure RepOk {α : Type} (R : World → (Nat → Prop) → α → List Value → Prop) (size : Nat) : Prop where
  len : ∀ {w S x vs}, R w S x vs → vs.length = size
  one : ∀ {w S x vs}, R w S x vs → ∀ u ∈ vs, u.oneCell' = true
  keep : ∀ {w w' S x vs}, Same S w w' → R w S x vs → R w' S x vs
  weaken : ∀ {w S T x vs}, (∀ b, S b → b < w.heap.size → T b) → R w S x vs → R w T x vs

/-- The slice at A reads as the things xs. -/
def RowOf {α : Type} (R : World → (Nat → Prop) → α → List Value → Prop) (size : Nat) (w : World) (S : Nat → Prop) (A : Option Addr) (xs : List α) : Prop :=
  ∃ rows : List (List Value), rows.length = xs.length ∧ Row w S size A rows ∧ ∀ i (h : i < xs.length) row, rows[i]? = some row → R w S xs[i] row
/-- The slice value v, of n things, is a row of the call's own; what the things reach lies in E, and not in that row. -/
def OwnOf {α : Type} (R : World → (Nat → Prop) → α → List Value → Prop) (size : Nat) (e : TypeId) (w : World) (E : Nat → Prop) (base : Nat) (v : Value) (xs : List α) : Prop :=
  ∃ rows : List (List Value), rows.length = xs.length ∧ (∀ x ∈ rows, x.length = size) ∧ w.ownsRow base e size v xs.length rows.flatten ∧ ∀ i (h : i < xs.length) row, rows[i]? = some row → R w (fun b => E b ∧ v.ownBlock ≠ some b) xs[i] row

section
variable {α : Type} {R : World → (Nat → Prop) → α → List Value → Prop} {size : Nat} {e : TypeId} {w w' : World} {S T E : Nat → Prop} {A : Option Addr} {xs : List α} {base : Nat} {v v' : Value} {x : α} {cs : List Value}
theorem RowOf.nil : RowOf R size w S A [] := ⟨[], rfl, Row.nil, fun i h => absurd h (by simp)⟩
theorem RowOf.keep (hR : RepOk R size) (h : RowOf R size w S A xs) (hs : Same S w w') : RowOf R size w' S A xs := by
  obtain ⟨rows, h1, h2, h3⟩ := h
  exact ⟨rows, h1, h2.keep hs, fun i hi row hr => hR.keep hs (h3 i hi row hr)⟩
theorem RowOf.below (hR : RepOk R size) (h : RowOf R size w S A xs) (hb : Below w.heap.size w w') : RowOf R size w' S A xs := h.keep hR (Same.below hb)
theorem RowOf.weaken (hR : RepOk R size) (h : RowOf R size w S A xs) (hT : ∀ b, S b → b < w.heap.size → T b) : RowOf R size w T A xs := by
  obtain ⟨rows, h1, h2, h3⟩ := h
  exact ⟨rows, h1, h2.weaken hT, fun i hi row hr => hR.weaken hT (h3 i hi row hr)⟩
theorem RowOf.cut (h : RowOf R size w S A xs) (k cap : Nat) (hc : xs.length ≤ cap) : RowOf R size w S (if cap = k then A else A.map (·.add (k * size))) (xs.drop k) := by
  obtain ⟨rows, h1, h2, h3⟩ := h
  refine ⟨rows.drop k, by simp [h1], h2.cut k cap (by omega), fun i hi row hr => ?_⟩
  rw [List.getElem_drop]
  exact h3 (k + i) (by simp at hi; omega) row (by rw [← List.getElem?_drop]; exact hr)
theorem RowOf.take (h : RowOf R size w S A xs) (k : Nat) : RowOf R size w S A (xs.take k) := by
  obtain ⟨rows, h1, h2, h3⟩ := h
  refine ⟨rows.take k, by simp [h1], h2.take k, fun i hi row hr => ?_⟩
  rw [List.getElem_take]
  rw [List.getElem?_take] at hr
  split at hr
  · exact h3 i (by simp at hi; omega) row hr
  · simp at hr
theorem RowOf.at_ (h : RowOf R size w S A xs) {i : Nat} (hi : i < xs.length) : ∃ b off row, A = some ⟨b, off, none⟩ ∧ S b ∧ b < w.heap.size ∧ R w S xs[i] row ∧ ∀ j u, row[j]? = some u → w.cell? ⟨b, off + i * size + j, none⟩ = some u := by
  obtain ⟨rows, h1, h2, h3⟩ := h
  obtain ⟨b, off, hA, hb, hl, hc⟩ := h2.2 (by omega)
  have he : rows[i]? = some (rows[i]'(by omega)) := List.getElem?_eq_getElem (by omega)
  exact ⟨b, off, _, hA, hb, hl, h3 i hi _ he, hc i _ he⟩

theorem OwnOf.start : OwnOf R size e w E base (.slice none 0 0) ([] : List α) := ⟨[], rfl, by simp, World.ownsRow_nil _ _ _ _, fun i h => absurd h (by simp)⟩
theorem OwnOf.made (cs : Array Value) (hcs : cs.size = 0) (hb : base ≤ w.heap.size) : OwnOf R size e (w.alloc (.cells cs e)) E base (.slice (some ⟨w.heap.size, 0, none⟩) 0 0) ([] : List α) :=
  ⟨[], rfl, by simp, World.ownsRow_made w cs 0 hb (by simp [maxLen]) (by simp [hcs]), fun i h => absurd h (by simp)⟩
theorem OwnOf.keep (hR : RepOk R size) (h : OwnOf R size e w E base v xs) (hs : Same S w w') (hv : ∀ b, v.ownBlock = some b → S b) (hE : ∀ b, E b → S b) : OwnOf R size e w' E base v xs := by
  obtain ⟨rows, h1, h2, h3, h4⟩ := h
  exact ⟨rows, h1, h2, ownsRow_keep h3 hs hv, fun i hi row hr => hR.keep (hs.mono fun b hb => hE b hb.1) (h4 i hi row hr)⟩
theorem OwnOf.below (hR : RepOk R size) (h : OwnOf R size e w E base v xs) (hb : Below w.heap.size w w') : OwnOf R size e w' E base v xs :=
  h.keep hR (Same.below (S := fun _ => True) hb) (fun _ _ => trivial) fun _ _ => trivial
theorem OwnOf.alloc (hR : RepOk R size) (h : OwnOf R size e w E base v xs) (o : Obj) : OwnOf R size e (w.alloc o) E base v xs := h.below hR ((Below.refl _ _).alloc (Nat.le_refl _) o)
theorem OwnOf.lt (h : OwnOf R size e w E base v xs) : ∀ b, v.ownBlock = some b → base ≤ b ∧ b < w.heap.size := by
  obtain ⟨rows, _, _, h3, _⟩ := h
  exact h3.lt
theorem OwnOf.form (h : OwnOf R size e w E base v xs) : ∃ A c, v = .slice A xs.length c ∧ xs.length ≤ c := by
  obtain ⟨rows, _, _, h3, _⟩ := h
  rcases h3.2 with ⟨e1, h0⟩ | ⟨g, cap, cur, e1, _, _, hc, _⟩
  · exact ⟨none, 0, by rw [e1, h0], by omega⟩
  · exact ⟨_, _, e1, hc⟩
theorem OwnOf.form' (h : OwnOf R size e w E base v xs) {k : Nat} (hk : xs.length = k) : ∃ A c, v = .slice A k c ∧ k ≤ c := by
  subst hk
  exact h.form
theorem OwnOf.row' (hR : RepOk R size) (hs : 0 < size) {c k : Nat} (h : OwnOf R size e w E base (.slice A k c) xs) (hk : xs.length = k) (hT : ∀ b, base ≤ b → b < w.heap.size → T b) (hE : ∀ b, E b → b < w.heap.size → T b) : RowOf R size w T A xs := by
  subst hk
  obtain ⟨rows, h1, h2, h3, h4⟩ := h
  exact ⟨rows, h1, (Row.of_own h2 hs h3).weaken fun b hb hl => hT b (h3.lt b hb).1 hl, fun i hi row hr => hR.weaken (fun b hb hl => hE b hb.1 hl) (h4 i hi row hr)⟩
theorem OwnOf.row (hR : RepOk R size) (hs : 0 < size) {c : Nat} (h : OwnOf R size e w E base (.slice A xs.length c) xs) (hT : ∀ b, base ≤ b → b < w.heap.size → T b) (hE : ∀ b, E b → b < w.heap.size → T b) : RowOf R size w T A xs := by
  obtain ⟨rows, h1, h2, h3, h4⟩ := h
  exact ⟨rows, h1, (Row.of_own h2 hs h3).weaken fun b hb hl => hT b (h3.lt b hb).1 hl, fun i hi row hr => hR.weaken (fun b hb hl => hE b hb.1 hl) (h4 i hi row hr)⟩
theorem OwnOf.snoc (hR : RepOk R size) {rows : List (List Value)} (h1 : rows.length = xs.length) (h2 : ∀ x ∈ rows, x.length = size) (_ : w.ownsRow base e size v xs.length rows.flatten)
    (h4 : ∀ i (h : i < xs.length) row, rows[i]? = some row → R w (fun b => E b ∧ v.ownBlock ≠ some b) xs[i] row) (hx : R w (fun b => E b ∧ v.ownBlock ≠ some b) x cs)
    (ho : w'.ownsRow base e size v' (xs.length + 1) (rows ++ [cs]).flatten) (hg : Grew w w' v v') : OwnOf R size e w' E base v' (xs ++ [x]) := by
  have sm : Same (fun b => v.ownBlock ≠ some b) w w' := Same.grown hg.grown fun b hb e => hb e.symm
  have up : ∀ {y : α} {row : List Value}, R w (fun b => E b ∧ v.ownBlock ≠ some b) y row → R w' (fun b => E b ∧ v'.ownBlock ≠ some b) y row := fun hy => by
    have g1 := hR.weaken (T := fun b => v.ownBlock ≠ some b ∧ E b ∧ v'.ownBlock ≠ some b) (fun b hb hl => ⟨hb.2, hb.1, fun e => hb.2 (hg.new b hl e)⟩) hy
    exact hR.weaken (fun b hb _ => hb.2) (hR.keep (sm.mono fun b hb => hb.1) g1)
  refine ⟨rows ++ [cs], by simp [h1], ?_, by simpa using ho, fun i hi row hr => ?_⟩
  · intro y hy
    simp only [List.mem_append, List.mem_singleton] at hy
    rcases hy with hy | rfl
    · exact h2 y hy
    · exact hR.len hx
  · by_cases hlt : i < xs.length
    · rw [List.getElem_append_left hlt]
      rw [List.getElem?_append_left (by omega)] at hr
      exact up (h4 i hlt row hr)
    · have hie : i = xs.length := by simp at hi; omega
      subst hie
      rw [List.getElem_append_right (Nat.le_refl _)]
      rw [List.getElem?_append_right (by omega)] at hr
      simp [h1] at hr
      subst hr
      simpa using up hx
theorem wpList_append_of {P : Program} {ops : Array Oper} {rest : List Oper} {o : Oper} {a : Act} {Q : Exit → Act → World → Prop} (hgd : o.guard = none) (s x : Operand) (t : TypeId)
    (ho : o.op = .call { callee := .builtin .append, args := #[s, x], argTypes := #[t, t] })
    {e : TypeId} {z : Value} {size bytes : Nat} (ht : P.underlying t = some (.slice e)) (hinfo : (P.info? e).map (fun i => (i.zero, i.size, i.bytes)) = some (some z, size, bytes))
    (hzs : z.cells.size = size) (hsz : 0 < size) (hby : bytes ≤ 200) {α : Type} {R : World → (Nat → Prop) → α → List Value → Prop} (hR : RepOk R size) {E : Nat → Prop}
    {W : World} {base : Nat} {v : Value} {xs : List α} (hown : OwnOf R size e W E base v xs) (hs : a.eval s = v) (hbase : base ≤ W.heap.size) (y : α)
    (cs : List Value) {gg : Nat} (hx : a.eval x = .slice (some ⟨gg, 0, none⟩) 1 1) (hgg : gg = W.heap.size) (hy : R W (fun b => E b ∧ v.ownBlock ≠ some b) y cs) {k : Nat} (hk : xs.length = k) (hn : k ≤ 1000000)
    (h : ∀ v' w', OwnOf R size e w' E base v' (xs ++ [y]) → Grew W w' v v' → (∃ g cap, v' = .slice (some ⟨g, 0, none⟩) (k + 1) cap ∧ k + 1 ≤ cap ∧ base ≤ g ∧ g < w'.heap.size) → wpList P ops Q rest (a.put o.dst v') w') :
    wpList P ops Q (o :: rest) a (W.alloc (.cells cs.toArray e)) := by
  obtain ⟨rows, h1, h2, h3, h4⟩ := hown
  subst hk
  exact wpList_append_one hgd s x t ho ht hinfo hzs hsz hby h3 hs hbase cs hx hgg (hR.len hy) (hR.one hy) hn fun v' w' ho hg hex => h v' w' (OwnOf.snoc hR h1 h2 h3 h4 hy ho hg) hg hex
theorem Grew.below {B : Nat} {w0 W w' : World} {v v' : Value} (h : Grew W w' v v') (hb : Below B w0 W) (hB : B ≤ W.heap.size) (hv : ∀ b, v.ownBlock = some b → B ≤ b) : Below B w0 w' := hb.grown h.grown hB hv
theorem Grew.same {W w' : World} {v v' : Value} (h : Grew W w' v v') : Same (fun b => v.ownBlock ≠ some b) W w' := Same.grown h.grown fun _ hb e => hb e.symm
theorem Grew.row (hR : RepOk R size) (h : Grew w w' v v') {ys : List α} (hy : RowOf R size w (fun b => v.ownBlock ≠ some b) A ys) : RowOf R size w' (fun b => v'.ownBlock ≠ some b) A ys := by
  have g := RowOf.weaken hR (T := fun b => v.ownBlock ≠ some b ∧ v'.ownBlock ≠ some b) hy fun b hb hl => ⟨hb, fun e => hb (h.new b hl e)⟩
  exact RowOf.weaken hR (RowOf.keep hR g (h.same.mono fun b hb => hb.1)) fun b hb _ => hb.2
end

theorem RowOf.sub {α : Type} {R : World → (Nat → Prop) → α → List Value → Prop} {size : Nat} {w : World} {S : Nat → Prop} {b off : Nat} {xs : List α} (h : RowOf R size w S (some ⟨b, off, none⟩) xs) (k m : Nat) :
    RowOf R size w S (some ⟨b, off + k * size, none⟩) ((xs.drop k).take m) := by
  obtain ⟨rows, h1, h2, h3⟩ := h
  have g : RowOf R size w S (some ⟨b, off + k * size, none⟩) (xs.drop k) := by
    refine ⟨rows.drop k, by simp [h1], ⟨fun x hx => h2.1 x (List.mem_of_mem_drop hx), fun hn => ?_⟩, fun i hi row hr => ?_⟩
    · obtain ⟨b', off', hA, hb, hl, hc⟩ := h2.2 (by simp at hn; omega)
      simp only [Option.some.injEq, Addr.mk.injEq, and_true] at hA
      obtain ⟨rfl, rfl⟩ := hA
      refine ⟨_, _, rfl, hb, hl, fun i x hx j u hu => ?_⟩
      have := hc (k + i) x (by rw [← List.getElem?_drop]; exact hx) j u hu
      rw [show off + k * size + i * size + j = off + (k + i) * size + j from by rw [Nat.add_mul]; omega]
      exact this
    · rw [List.getElem_drop]
      exact h3 (k + i) (by simp at hi; omega) row (by rw [← List.getElem?_drop]; exact hr)
  exact g.take m
theorem OwnOf.formPos {α : Type} {R : World → (Nat → Prop) → α → List Value → Prop} {size : Nat} {e : TypeId} {w : World} {E : Nat → Prop} {base : Nat} {v : Value} {xs : List α} (h : OwnOf R size e w E base v xs) (hn : 0 < xs.length) :
    ∃ g c, v = .slice (some ⟨g, 0, none⟩) xs.length c ∧ xs.length ≤ c ∧ base ≤ g ∧ g < w.heap.size := by
  obtain ⟨rows, _, _, h3, _⟩ := h
  rcases h3.2 with ⟨_, h0⟩ | ⟨g, cap, cur, e1, hb, hh, hc, _⟩
  · omega
  · exact ⟨g, cap, e1, hc, hb, (Array.getElem?_eq_some_iff.1 hh).1⟩
theorem OwnOf.reE {α : Type} {R : World → (Nat → Prop) → α → List Value → Prop} {size : Nat} {e : TypeId} {w : World} {E F : Nat → Prop} {base : Nat} {v : Value} {xs : List α} (h : OwnOf R size e w E base v xs) (hp : ∀ w S T x vs, R w S x vs → R w T x vs) : OwnOf R size e w F base v xs := by
  obtain ⟨rows, h1, h2, h3, h4⟩ := h
  exact ⟨rows, h1, h2, h3, fun i hi row hr => hp _ _ _ _ _ (h4 i hi row hr)⟩
/-- Integers; strings; cells of a value; trees. -/
def RI (_ : World) (_ : Nat → Prop) (n : Int) (vs : List Value) : Prop := vs = [.int .i64 n]
def RS (_ : World) (_ : Nat → Prop) (s : ByteArray) (vs : List Value) : Prop := vs = [.string s]
def RC (_ : World) (_ : Nat → Prop) (c : CellD) (vs : List Value) : Prop := vs = vals c
/-- A slice of cells. -/
def RSl (w : World) (S : Nat → Prop) (xs : List CellD) (vs : List Value) : Prop := ∃ A c, vs = [.slice A xs.length c] ∧ xs.length ≤ c ∧ Cells w S A xs
theorem okI : RepOk RI 1 := ⟨fun h => by rw [h]; rfl, fun h u hu => by rw [h] at hu; simp at hu; subst hu; rfl, fun _ h => h, fun _ h => h⟩
theorem okS : RepOk RS 1 := ⟨fun h => by rw [h]; rfl, fun h u hu => by rw [h] at hu; simp at hu; subst hu; rfl, fun _ h => h, fun _ h => h⟩
theorem okC : RepOk RC 5 := ⟨fun h => by rw [h]; rfl, fun h u hu => by rw [h] at hu; simp [vals] at hu; rcases hu with rfl | rfl | rfl | rfl | rfl <;> rfl, fun _ h => h, fun _ h => h⟩
theorem okSl : RepOk RSl 1 := by
  refine ⟨fun h => ?_, fun h u hu => ?_, fun hs h => ?_, fun hs h => ?_⟩
  · obtain ⟨A, c, rfl, _⟩ := h; rfl
  · obtain ⟨A, c, rfl, _⟩ := h; simp at hu; subst hu; rfl
  · obtain ⟨A, c, rfl, h1, h2⟩ := h; exact ⟨A, c, rfl, h1, h2.keep hs⟩
  · obtain ⟨A, c, rfl, h1, h2⟩ := h; exact ⟨A, c, rfl, h1, h2.weaken hs⟩
theorem okV : RepOk VRep 5 := by
  refine ⟨fun h => ?_, fun h u hu => ?_, fun hs h => h.keep hs, fun hs h => h.weaken hs⟩
  · obtain ⟨Ak, ck, Av, cv, kvs, rfl, _⟩ := h.out; rfl
  · obtain ⟨Ak, ck, Av, cv, kvs, rfl, _⟩ := h.out; simp at hu; rcases hu with rfl | rfl | rfl | rfl | rfl <;> rfl
/-- A slice of slices of cells. -/
def CellsL (w : World) (S : Nat → Prop) (A : Option Addr) (xss : List (List CellD)) : Prop := RowOf RSl 1 w S A xss
theorem CellsL.at_ {w : World} {S : Nat → Prop} {A : Option Addr} {xss : List (List CellD)} (h : CellsL w S A xss) {i : Nat} (hi : i < xss.length) :
    ∃ b off Ai ci, A = some ⟨b, off, none⟩ ∧ S b ∧ b < w.heap.size ∧ w.cell? ⟨b, off + i, none⟩ = some (.slice Ai xss[i].length ci) ∧ xss[i].length ≤ ci ∧ Cells w S Ai xss[i] := by
  obtain ⟨b, off, row, hA, hb, hl, ⟨Ai, ci, rfl, h1, h2⟩, hc⟩ := RowOf.at_ h hi
  exact ⟨b, off, Ai, ci, hA, hb, hl, by simpa using hc 0 _ rfl, h1, h2⟩
theorem RowOf.int_at {w : World} {S : Nat → Prop} {A : Option Addr} {ns : List Int} (h : RowOf RI 1 w S A ns) {i : Nat} (hi : i < ns.length) :
    ∃ b off, A = some ⟨b, off, none⟩ ∧ S b ∧ b < w.heap.size ∧ w.cell? ⟨b, off + i, none⟩ = some (.int .i64 ns[i]) := by
  obtain ⟨b, off, row, hA, hb, hl, h1, hc⟩ := RowOf.at_ h hi
  rw [h1] at hc
  exact ⟨b, off, hA, hb, hl, by simpa using hc 0 _ rfl⟩
theorem row_of_cells {w : World} {S : Nat → Prop} {A : Option Addr} {xs : List CellD} (h : Cells w S A xs) : RowOf RC 5 w S A xs :=
  ⟨xs.map vals, by simp, h, fun i hi row hr => by simp [hi] at hr; exact hr.symm⟩
theorem cells_of_row {w : World} {S : Nat → Prop} {A : Option Addr} {xs : List CellD} (h : RowOf RC 5 w S A xs) : Cells w S A xs := by
  obtain ⟨rows, h1, h2, h3⟩ := h
  have : rows = xs.map vals := by
    apply List.ext_getElem?
    intro i
    by_cases hi : i < xs.length
    · have he : rows[i]? = some (rows[i]'(by omega)) := List.getElem?_eq_getElem (by omega)
      have := h3 i hi _ he
      rw [he, this]
      simp [hi]
    · rw [List.getElem?_eq_none (by omega), List.getElem?_eq_none (by simp; omega)]
  subst this
  exact h2
end Go.Proofs.Ytfmkejgdooammaa
