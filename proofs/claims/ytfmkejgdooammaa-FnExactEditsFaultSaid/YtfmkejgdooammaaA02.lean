/- Memory: blocks known whole; the append of one element onto a row of the call's own. -/
import Derived.Test.YtfmkejgdooammaaA01
import Derived.Maps.AppendAt
import Derived.OwnWalk
namespace Go.Proofs.Ytfmkejgdooammaa
open Go.RowKit

/-- Block g is just the cells cs of element type t, none frozen. -/
def Blk (w : World) (g : Nat) (t : TypeId) (cs : Array Value) : Prop := w.heap[g]? = some (.cells cs t (0, 0))
section
variable {w w' : World} {g : Nat} {t : TypeId} {cs : Array Value}
theorem Blk.lt (h : Blk w g t cs) : g < w.heap.size := by
  rcases Nat.lt_or_ge g w.heap.size with hlt | hge
  · exact hlt
  · unfold Blk at h; rw [Array.getElem?_eq_none hge] at h; cases h
theorem Blk.cell (h : Blk w g t cs) (i : Nat) : w.cell? ⟨g, i, none⟩ = cs[i]? := cell_of_row w g i cs t (0, 0) h
theorem Blk.frozen (h : Blk w g t cs) (i : Nat) : w.frozen? ⟨g, i, none⟩ = false := by
  unfold Blk at h
  simp [World.frozen?, h]
theorem Blk.new (w : World) (t : TypeId) (cs : Array Value) : Blk (w.alloc (.cells cs t)) w.heap.size t cs := heap_alloc_new w _
theorem Blk.alloc (h : Blk w g t cs) (o : Obj) : Blk (w.alloc o) g t cs := (Below.heap_alloc w o g h.lt).trans h
theorem Blk.set_ (h : Blk w g t cs) (i : Nat) (u : Value) : Blk (w.setCell ⟨g, i, none⟩ u) g t (cs.setIfInBounds i u) := by
  unfold Blk at h ⊢
  simp [World.setCell, Array.getElem?_modify, h]
theorem Blk.far (h : Blk w g t cs) {p : Addr} (hp : g ≠ p.block) (u : Value) : Blk (w.setCell p u) g t cs := (Below.heap_setCell w p u g hp).trans h
theorem Blk.below (h : Blk w g t cs) (hb : Below w.heap.size w w') : Blk w' g t cs := (hb.block g h.lt).trans h
theorem Blk.belowB {B : Nat} (h : Blk w g t cs) (hb : Below B w w') (hg : g < B) : Blk w' g t cs := (hb.block g hg).trans h
theorem Blk.grown {row : Option Nat} (h : Blk w g t cs) (hb : w.grownBy w' row) (hg : some g ≠ row) : Blk w' g t cs := (hb.block g h.lt hg).trans h
theorem Blk.keep {S : Nat → Prop} (h : Blk w g t cs) (hs : Same S w w') (hg : S g) : Blk w' g t cs := (hs.block g hg h.lt).trans h
theorem Blk.ne_ {g' : Nat} {t' : TypeId} {cs' : Array Value} (h : Blk w g t cs) (h' : Blk w g' t' cs') (hne : t ≠ t') : g ≠ g' := by
  rintro rfl
  unfold Blk at h h'
  rw [h] at h'
  injection h' with h'
  injection h' with _ ht
  exact hne ht
end

theorem Blk.five {w : World} {g : Nat} {t : TypeId} {a b c d e : Value} (h : Blk w g t #[a, b, c, d, e]) :
    w.cell? ⟨g, 0, none⟩ = some a ∧ w.cell? ⟨g, 1, none⟩ = some b ∧ w.cell? ⟨g, 2, none⟩ = some c ∧ w.cell? ⟨g, 3, none⟩ = some d ∧ w.cell? ⟨g, 4, none⟩ = some e ∧ (∀ i, w.frozen? ⟨g, i, none⟩ = false) :=
  ⟨h.cell 0, h.cell 1, h.cell 2, h.cell 3, h.cell 4, h.frozen⟩
theorem Blk.three {w : World} {g : Nat} {t : TypeId} {a b c : Value} (h : Blk w g t #[a, b, c]) :
    w.cell? ⟨g, 0, none⟩ = some a ∧ w.cell? ⟨g, 1, none⟩ = some b ∧ w.cell? ⟨g, 2, none⟩ = some c ∧ (∀ i, w.frozen? ⟨g, i, none⟩ = false) :=
  ⟨h.cell 0, h.cell 1, h.cell 2, h.frozen⟩
theorem Blk.two {w : World} {g : Nat} {t : TypeId} {a b : Value} (h : Blk w g t #[a, b]) :
    w.cell? ⟨g, 0, none⟩ = some a ∧ w.cell? ⟨g, 1, none⟩ = some b ∧ (∀ i, w.frozen? ⟨g, i, none⟩ = false) :=
  ⟨h.cell 0, h.cell 1, h.frozen⟩
theorem ownsRow_setCell {w : World} {base : Nat} {e : TypeId} {size : Nat} {v : Value} {n : Nat} {xs : List Value} (h : w.ownsRow base e size v n xs) {a : Addr} (ha : v.ownBlock ≠ some a.block) (u : Value) : (w.setCell a u).ownsRow base e size v n xs := by
  obtain ⟨h1, h2⟩ := h
  refine ⟨h1, ?_⟩
  rcases h2 with h2 | ⟨g, cap, cur, hv, hg, hh, r⟩
  · exact Or.inl h2
  · refine Or.inr ⟨g, cap, cur, hv, hg, ?_, r⟩
    rw [Below.heap_setCell _ _ _ _ (fun e => ha (by rw [hv]; simp [Value.ownBlock, e]))]
    exact hh
theorem ownsRow_keep {w w' : World} {base : Nat} {e : TypeId} {size : Nat} {v : Value} {n : Nat} {xs : List Value} (h : w.ownsRow base e size v n xs) {S : Nat → Prop} (hs : Same S w w') (hv : ∀ b, v.ownBlock = some b → S b) : w'.ownsRow base e size v n xs := by
  obtain ⟨h1, h2⟩ := h
  refine ⟨h1, ?_⟩
  rcases h2 with h2 | ⟨g, cap, cur, rfl, hg, hh, r⟩
  · exact Or.inl h2
  · exact Or.inr ⟨g, cap, cur, rfl, hg, (hs.block g (hv g rfl) (Array.getElem?_eq_some_iff.1 hh).1).trans hh, r⟩
theorem ownsRow_below {w w' : World} {base : Nat} {e : TypeId} {size : Nat} {v : Value} {n : Nat} {xs : List Value} (h : w.ownsRow base e size v n xs) (hb : Below w.heap.size w w') : w'.ownsRow base e size v n xs :=
  ownsRow_keep h (Same.below (S := fun _ => True) hb) fun _ _ => trivial
/-- Rows of two element types never share a block. -/
theorem own_ne {w : World} {base base' : Nat} {e e' : TypeId} {size size' n n' : Nat} {v v' : Value} {xs xs' : List Value} (h : w.ownsRow base e size v n xs) (h' : w.ownsRow base' e' size' v' n' xs') (hne : e ≠ e') {b : Nat} (hv : v.ownBlock = some b) : v'.ownBlock ≠ some b := by
  intro hv'
  rcases h.2 with ⟨rfl, _⟩ | ⟨g, cap, cur, rfl, _, hh, _⟩
  · simp [Value.ownBlock] at hv
  · rcases h'.2 with ⟨rfl, _⟩ | ⟨g', cap', cur', rfl, _, hh', _⟩
    · simp [Value.ownBlock] at hv'
    · simp only [Value.ownBlock, Option.some.injEq] at hv hv'
      subst hv
      subst hv'
      rw [hh] at hh'
      injection hh' with hh'
      injection hh' with _ ht
      exact hne ht
theorem own_blk_ne {w : World} {base : Nat} {e : TypeId} {size n : Nat} {v : Value} {xs : List Value} {g : Nat} {t : TypeId} {cs : Array Value} (h : w.ownsRow base e size v n xs) (_ : Blk w g t cs) (hb : g < base) : v.ownBlock ≠ some g := by
  intro hv
  have := (h.lt g hv).1
  omega

/-- What an append of one element does: the world grows, the old row alone is written; the new row lies where the old one lay, or is new. -/
structure Grew (W w' : World) (v v' : Value) : Prop where
  grown : W.grownBy w' v.ownBlock
  new : ∀ b, b < W.heap.size → v'.ownBlock = some b → v.ownBlock = some b

theorem Grew.blk {W w' : World} {v v' : Value} {g : Nat} {t : TypeId} {cs : Array Value} (h : Grew W w' v v') (hb : Blk W g t cs) (hv : v.ownBlock ≠ some g) : Blk w' g t cs := hb.grown h.grown (fun e => hv e.symm)
theorem grown_alloc {W w' : World} {o : Obj} {row : Option Nat} (h : (W.alloc o).grownBy w' row) : W.grownBy w' row :=
  ⟨h.os, h.tape, h.output, by have := h.size; simp at this; omega, fun k hk hr => (h.block k (by simp; omega) hr).trans (Below.heap_alloc W o k hk)⟩

section
variable {P : Program}
theorem wpList_append_one {ops : Array Oper} {rest : List Oper} {o : Oper} {a : Act} {Q : Exit → Act → World → Prop} (hgd : o.guard = none) (s x : Operand) (t : TypeId)
    (ho : o.op = .call { callee := .builtin .append, args := #[s, x], argTypes := #[t, t] })
    {e : TypeId} {z : Value} {size bytes : Nat} (ht : P.underlying t = some (.slice e)) (hinfo : (P.info? e).map (fun i => (i.zero, i.size, i.bytes)) = some (some z, size, bytes))
    (hzs : z.cells.size = size) (hsz : 0 < size) (hby : bytes ≤ 200)
    {W : World} {base : Nat} {v : Value} {n : Nat} {xs : List (List Value)} (hown : W.ownsRow base e size v n xs.flatten) (hs : a.eval s = v) (hbase : base ≤ W.heap.size)
    (cs : List Value) {gg : Nat} (hx : a.eval x = .slice (some ⟨gg, 0, none⟩) 1 1) (hgg : gg = W.heap.size) (hl : cs.length = size) (h1 : ∀ u ∈ cs, u.oneCell' = true) (hn : n ≤ 1000000)
    (h : ∀ v' w', w'.ownsRow base e size v' (n + 1) (xs ++ [cs]).flatten → Grew W w' v v' → (∃ g cap, v' = .slice (some ⟨g, 0, none⟩) (n + 1) cap ∧ n + 1 ≤ cap ∧ base ≤ g ∧ g < w'.heap.size) → wpList P ops Q rest (a.put o.dst v') w') :
    wpList P ops Q (o :: rest) a (W.alloc (.cells cs.toArray e)) := by
  obtain ⟨i, hi, hz0, hz1, hz2⟩ := info_parts hinfo
  subst hgg
  refine wpList_append_own_at _ hgd s x t ho base e i z size bytes ht hi hz0 hz1 hz2 hzs hsz v n xs.flatten hs (hown.alloc _) ⟨W.heap.size, 0, none⟩ 1 1 cs hx (by omega) (fun j u hu => ?_) h1
    (by simp only [maxLen]; omega) ?_ (by simp; omega) fun v' w' hown' hg _ hat => ?_
  · have hadd : (⟨W.heap.size, 0, none⟩ : Addr).add j = ⟨W.heap.size, j, none⟩ := by unfold Addr.add; split <;> simp_all
    rw [hadd, (Blk.new W e cs.toArray).cell]
    simpa using hu
  · calc (n + 1) * bytes ≤ 1000001 * 200 := Nat.mul_le_mul (by omega) hby
      _ ≤ _ := by omega
  · refine h v' w' (by simpa using hown') ⟨grown_alloc hg, fun b hb hv => ?_⟩ ?_
    · rcases hat with e1 | e1
      · rw [← e1]; exact hv
      · rw [e1] at hv
        simp at hv
        omega
    · rcases hown'.2 with ⟨_, h0⟩ | ⟨g, cap, cur, rfl, hg, hh, hc, _⟩
      · omega
      · exact ⟨g, cap, rfl, hc, hg, (Array.getElem?_eq_some_iff.1 hh).1⟩
end
end Go.Proofs.Ytfmkejgdooammaa
