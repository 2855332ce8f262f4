/- Memory, on: the append of many. -/
import Derived.Test.YtfmkejgdooammaaA04
namespace Go.Proofs.Ytfmkejgdooammaa
open Go.RowKit

section
variable {P : Program}
theorem run_append_of_nil (w : World) (base : Nat) (t ty e : TypeId) (i : TypeInfo) (size : Nat) (ht : P.underlying t = some (.slice e)) (hi : P.info? e = some i)
    (v : Value) (n : Nat) (xs : List Value) (hown : w.ownsRow base e size v n xs) (c : Nat) : (Builtin.append_ #[t, t] ty #[v, .slice none 0 c]).run P w = .ok v w := by
  rcases hown.2 with ⟨rfl, rfl⟩ | ⟨g, cap, cur, rfl, _, _, hnc, _⟩
  · simp [Builtin.append_, run_underlying ht, sizeOf, typeInfo, hi, Builtin.lenOf, Builtin.firstCells]
  · simp [Builtin.append_, run_underlying ht, sizeOf, typeInfo, hi, Builtin.lenOf, Builtin.firstCells, hnc, storeCells]

variable {α : Type} {R : World → (Nat → Prop) → α → List Value → Prop} {size : Nat} {e : TypeId} {w w' : World} {S T E : Nat → Prop} {A : Option Addr} {xs ys : List α} {base : Nat} {v v' : Value}
theorem flatten_len {xs : List (List Value)} (h : ∀ x ∈ xs, x.length = size) : xs.flatten.length = xs.length * size := by
  induction xs with
  | nil => simp
  | cons x xs ih =>
    simp only [List.flatten_cons, List.length_append, List.length_cons]
    rw [ih (fun y hy => h y (by simp [hy])), h x (by simp), Nat.add_mul]
    omega
theorem flatten_at {xs : List (List Value)} (h : ∀ x ∈ xs, x.length = size) (hs : 0 < size) (j : Nat) (u : Value) (hu : xs.flatten[j]? = some u) : ∃ x, xs[j / size]? = some x ∧ x[j % size]? = some u := by
  have hj : j < xs.length * size := by
    rw [← flatten_len h]
    rcases Nat.lt_or_ge j xs.flatten.length with hlt | hge
    · exact hlt
    · rw [List.getElem?_eq_none hge] at hu; simp at hu
  have hd : j / size < xs.length := Nat.div_lt_of_lt_mul (by rw [Nat.mul_comm]; exact hj)
  refine ⟨xs[j / size], List.getElem?_eq_getElem hd, ?_⟩
  have hm : j % size < xs[j / size].length := by rw [h _ (List.getElem_mem hd)]; exact Nat.mod_lt _ hs
  have := flatten_get h (j / size) xs[j / size] (List.getElem?_eq_getElem hd) (j % size) xs[j / size][j % size] (List.getElem?_eq_getElem hm)
  rw [show j / size * size + j % size = j from Nat.div_add_mod' j size] at this
  rw [this] at hu
  rw [List.getElem?_eq_getElem hm, hu]
theorem OwnOf.many (hR : RepOk R size) {rows news : List (List Value)} (h1 : rows.length = xs.length) (h2 : ∀ x ∈ rows, x.length = size)
    (h4 : ∀ i (h : i < xs.length) row, rows[i]? = some row → R w (fun b => E b ∧ v.ownBlock ≠ some b) xs[i] row)
    (g1 : news.length = ys.length) (g4 : ∀ i (h : i < ys.length) row, news[i]? = some row → R w (fun b => E b ∧ v.ownBlock ≠ some b) ys[i] row)
    (ho : w'.ownsRow base e size v' (xs.length + ys.length) (rows.flatten ++ news.flatten)) (hg : Grew w w' v v') : OwnOf R size e w' E base v' (xs ++ ys) := by
  have sm : Same (fun b => v.ownBlock ≠ some b) w w' := Same.grown hg.grown fun b hb e => hb e.symm
  have up : ∀ {y : α} {row : List Value}, R w (fun b => E b ∧ v.ownBlock ≠ some b) y row → R w' (fun b => E b ∧ v'.ownBlock ≠ some b) y row := fun hy => by
    have g1 := hR.weaken (T := fun b => v.ownBlock ≠ some b ∧ E b ∧ v'.ownBlock ≠ some b) (fun b hb hl => ⟨hb.2, hb.1, fun e => hb.2 (hg.new b hl e)⟩) hy
    exact hR.weaken (fun b hb _ => hb.2) (hR.keep (sm.mono fun b hb => hb.1) g1)
  refine ⟨rows ++ news, by simp [h1, g1], ?_, by simpa using ho, fun i hi row hr => ?_⟩
  · intro y hy
    simp only [List.mem_append] at hy
    rcases hy with hy | hy
    · exact h2 y hy
    · obtain ⟨i, hi, rfl⟩ := List.getElem_of_mem hy
      exact hR.len (g4 i (by omega) _ (List.getElem?_eq_getElem hi))
  · by_cases hlt : i < xs.length
    · rw [List.getElem_append_left hlt]
      rw [List.getElem?_append_left (by omega)] at hr
      exact up (h4 i hlt row hr)
    · simp only [List.length_append] at hi
      rw [List.getElem_append_right (by omega)]
      rw [List.getElem?_append_right (by omega), h1] at hr
      exact up (g4 _ (by omega) row hr)
theorem wpList_append_many {ops : Array Oper} {rest : List Oper} {o : Oper} {a : Act} {Q : Exit → Act → World → Prop} (hgd : o.guard = none) (s x : Operand) (t : TypeId)
    (ho : o.op = .call { callee := .builtin .append, args := #[s, x], argTypes := #[t, t] })
    {e : TypeId} {z : Value} {size bytes : Nat} (ht : P.underlying t = some (.slice e)) (hinfo : (P.info? e).map (fun i => (i.zero, i.size, i.bytes)) = some (some z, size, bytes))
    (hzs : z.cells.size = size) (hsz : 0 < size) (hby : bytes ≤ 200) {α : Type} {R : World → (Nat → Prop) → α → List Value → Prop} (hR : RepOk R size) {E S : Nat → Prop}
    {W : World} {base : Nat} {v : Value} {xs : List α} (hown : OwnOf R size e W E base v xs) (hs : a.eval s = v) (hbase : base ≤ W.heap.size)
    {A : Option Addr} {m c : Nat} {ys : List α} (hx : a.eval x = .slice A m c) (hm : m = ys.length) (hy : RowOf R size W S A ys) (hA : A = none → ys = []) (hsp : ∀ ad, A = some ad → ad.spot = none)
    (hS : (∀ b, S b → b < W.heap.size → E b ∧ v.ownBlock ≠ some b) ∨ (∀ w S T x vs, R w S x vs → R w T x vs)) (hn : xs.length + ys.length ≤ 1000000)
    (h : ∀ v' w', OwnOf R size e w' E base v' (xs ++ ys) → Grew W w' v v' → wpList P ops Q rest (a.put o.dst v') w') :
    wpList P ops Q (o :: rest) a W := by
  obtain ⟨rows, h1, h2, h3, h4⟩ := hown
  obtain ⟨i, hi, hz0, hz1, hz2⟩ := info_parts hinfo
  obtain ⟨news, g1, g2, g3⟩ := hy
  subst hm
  have g4 : ∀ i (h : i < ys.length) row, news[i]? = some row → R W (fun b => E b ∧ v.ownBlock ≠ some b) ys[i] row := fun i hi row hr => hS.elim (fun hS => hR.weaken hS (g3 i hi row hr)) fun hS => hS _ _ _ _ _ (g3 i hi row hr)
  rcases A with _ | ad
  · have hy0 : ys = [] := hA rfl
    subst hy0
    have hn0 : news = [] := List.eq_nil_of_length_eq_zero (by simpa using g1)
    subst hn0
    refine wpList_plain hgd fun K hK => ?_
    have hr := run_append_of_nil (P := P) W base t o.type e i size ht hi v xs.length rows.flatten h3 c
    unfold Oper.wp execOp
    simp only [ho, resolve, invoke, builtin, Sem.run_bind, Sem.run_pure, Result.andThen_ok, List.map_toArray, List.map_cons, List.map_nil, hs, hx, List.length_nil, hr]
    exact hK _ _ (h v W (OwnOf.many hR h1 h2 h4 g1 g4 (by simpa using h3) ⟨World.grownBy.refl W _, fun _ _ hv => hv⟩) ⟨World.grownBy.refl W _, fun _ _ hv => hv⟩)
  · have hfl : news.flatten.length = ys.length * size := by rw [flatten_len g2.1, g1]
    have hcell : ∀ j u, news.flatten[j]? = some u → W.cell? (ad.add j) = some u := by
      intro j u hu
      obtain ⟨row, hr1, hr2⟩ := flatten_at g2.1 hsz j u hu
      have hpos : 0 < news.length := by
        rcases Nat.eq_zero_or_pos news.length with h0 | h0
        · rw [List.eq_nil_of_length_eq_zero h0] at hr1; simp at hr1
        · exact h0
      obtain ⟨b, off, hA2, _, _, hc⟩ := g2.2 hpos
      simp only [Option.some.injEq] at hA2
      subst hA2
      have := hc _ _ hr1 _ _ hr2
      have hadd : (⟨b, off, none⟩ : Addr).add j = ⟨b, off + j / size * size + j % size, none⟩ := by
        rw [Nat.add_assoc, Nat.div_add_mod']
        unfold Addr.add
        split
        · simp [*]
        · rfl
      rw [hadd]
      exact this
    refine wpList_append_own_at _ hgd s x t ho base e i z size bytes ht hi hz0 hz1 hz2 hzs hsz v xs.length rows.flatten hs h3 ad ys.length c news.flatten hx hfl hcell ?_ (by simp only [maxLen]; omega) ?_ hbase fun v' w' ho' hg _ hat => ?_
    · intro u hu
      simp only [List.mem_flatten] at hu
      obtain ⟨row, hrow, hu⟩ := hu
      obtain ⟨k, hk, rfl⟩ := List.getElem_of_mem hrow
      exact hR.one (g3 k (by omega) _ (List.getElem?_eq_getElem hk)) u hu
    · calc (xs.length + ys.length) * bytes ≤ 1000000 * 200 := Nat.mul_le_mul hn hby
        _ ≤ _ := by omega
    · have hgr : Grew W w' v v' := ⟨hg, fun b hb hv => by
        rcases hat with e1 | e1
        · rw [← e1]; exact hv
        · rw [e1] at hv; simp at hv; omega⟩
      exact h v' w' (OwnOf.many hR h1 h2 h4 g1 g4 ho' hgr) hgr
/-- A literal of one element. -/
theorem OwnOf.lit1 (hR : RepOk R size) {x : α} {cs : List Value} (hb : base ≤ w.heap.size) (hx : R w S x cs) (hE : ∀ b, S b → b < w.heap.size → E b) :
    OwnOf R size e (w.alloc (.cells cs.toArray e)) E base (.slice (some ⟨w.heap.size, 0, none⟩) 1 1) [x] := by
  refine ⟨[cs], rfl, by simpa using hR.len hx, ?_, fun i hi row hr => ?_⟩
  · have := World.ownsRow_lit (e := e) (size := size) w cs.toArray 1 hb (by simp [maxLen]) (by simpa using hR.len hx)
    simpa using this
  · have hi0 : i = 0 := by simpa using hi
    subst hi0
    simp at hr
    subst hr
    refine hR.weaken (S := fun b => S b ∧ b < w.heap.size) (fun b hb _ => ⟨hE b hb.1 hb.2, by simp [Value.ownBlock]; omega⟩) (hR.keep (Same.alloc _ _ _) (hR.weaken (fun b hb hl => ⟨hb, hl⟩) hx))
end
end Go.Proofs.Ytfmkejgdooammaa
