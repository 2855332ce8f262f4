/- The engine: a strings.Builder as an object: what it is; appending a text's bytes, with where they lie; the step that lays a new one. -/
import Derived.Test.YtfmnoljflcpbgaaGreatDoorKE35
import Derived.Lib.AppendStr
import Derived.Lib.Builder
set_option linter.unusedSimpArgs false
set_option linter.unusedVariables false
set_option linter.unnecessarySimpa false
namespace Go.Proofs.YtfmnoljflcpbgaaGreatDoor
open Go.RowKit
/-- A builder that holds bytes: its two cells in one block, its buffer (if there is one) in another. -/
def bldR (T e : TypeId) (s : ByteArray) (κ : Value) (l : List (Nat × Obj)) : Prop :=
  ∃ b p v, κ = .pointer (some ⟨b, 0, none⟩) ∧ (p = .pointer none ∨ p = .pointer (some ⟨b, 0, none⟩)) ∧ (b, Obj.cells #[p, v] T (0, 0)) ∈ l ∧ v.ownBlock ≠ some b ∧ (∀ g, v.ownBlock = some g → ∃ o, (g, o) ∈ l) ∧
    ∀ w : World, (∀ q, q ∈ l → w.heap[q.1]? = some q.2) → w.ownsRow 0 e 1 v s.size (Lib.strCells s)
/-- .. in a world. -/
structure BldAt (T e : TypeId) (s : ByteArray) (w : World) (ow : Nat → Option Id) (i : Id) (b : Nat) (p v : Value) : Prop where
  ptr : p = .pointer none ∨ p = .pointer (some ⟨b, 0, none⟩)
  mine : ow b = some i
  cells : w.heap[b]? = some (.cells #[p, v] T (0, 0))
  ne : v.ownBlock ≠ some b
  buf : ∀ g, v.ownBlock = some g → ow g = some i
  owns : w.ownsRow 0 e 1 v s.size (Lib.strCells s)
section
variable {T e : TypeId} {s : ByteArray} {w : World} {S : Nat → Prop} {m : Mem} {ow : Nat → Option Id} {κ : Id → Value} {i : Id}
theorem bld_at (h : OR w S m ow κ i (.gen (bldR T e s))) : ∃ b p v, κ i = .pointer (some ⟨b, 0, none⟩) ∧ BldAt T e s w ow i b p v := by
  obtain ⟨l, h1, b, p, v, h2, h3, h4, h5, h6, h7⟩ := h
  refine ⟨b, p, v, h2, h3, (h1 _ h4).1, (h1 _ h4).2, h5, fun g hg => ?_, h7 w fun q hq => (h1 q hq).2⟩
  obtain ⟨o, ho⟩ := h6 g hg
  exact (h1 _ ho).1
theorem bld_of {b : Nat} {p v : Value} (hk : κ i = .pointer (some ⟨b, 0, none⟩)) (h : BldAt T e s w ow i b p v) : OR w S m ow κ i (.gen (bldR T e s)) := by
  have ho := h.owns
  rcases ho.2 with ⟨hv, hn⟩ | ⟨g, cap, cur, hv, hg0, hg, hrest⟩
  · refine ⟨[(b, .cells #[p, v] T (0, 0))], ?_, b, p, v, hk, h.ptr, by simp, h.ne, fun g hg => by rw [hv] at hg; simp [Value.ownBlock] at hg, fun w' _ => ⟨ho.1, .inl ⟨hv, hn⟩⟩⟩
    intro q hq
    obtain rfl : q = (b, .cells #[p, v] T (0, 0)) := by simpa using hq
    exact ⟨h.mine, h.cells⟩
  · have hb : v.ownBlock = some g := by rw [hv]; rfl
    refine ⟨[(b, .cells #[p, v] T (0, 0)), (g, .cells cur e (0, 0))], ?_, b, p, v, hk, h.ptr, by simp, h.ne, fun g' hg' => ?_, fun w' hw' => ⟨ho.1, .inr ⟨g, cap, cur, hv, hg0, hw' (g, .cells cur e (0, 0)) (by simp), hrest⟩⟩⟩
    · intro q hq
      simp only [List.mem_cons, List.not_mem_nil, or_false] at hq
      rcases hq with rfl | rfl
      · exact ⟨h.mine, h.cells⟩
      · exact ⟨h.buf g hb, hg⟩
    · rw [hb] at hg'
      cases hg'
      exact ⟨.cells cur e (0, 0), by simp⟩
end
section
variable {P : Program}
theorem run_append_str_at (w : World) (base : Nat) (t u ty e : TypeId) (i : TypeInfo) (ht : P.underlying t = some (.slice e)) (hu : P.underlying u = some .string) (hi : P.info? e = some i) (hz : i.zero = some (.int .u8 0))
    (hsize : i.size = 1) (hby : i.bytes = 1) (v : Value) (n : Nat) (xs : List Value) (hown : w.ownsRow base e 1 v n xs) (s : ByteArray) (hbytes : n + s.size ≤ 140737488355328) (hbase : base ≤ w.heap.size) :
    ∃ v' w', (Builtin.append_ #[t, u] ty #[v, .string s]).run P w = .ok v' w' ∧ w'.ownsRow base e 1 v' (n + s.size) (xs ++ Lib.strCells s) ∧ w.grownBy w' v.ownBlock ∧ (v'.ownBlock = v.ownBlock ∨ v'.ownBlock = some w.heap.size) := by
  obtain ⟨v', w', h1, h2, h3, h4⟩ := Lib.run_append_own_string (P := P) w base t u ty e i ht hu hi hz hsize hby v n xs hown s (by unfold maxLen; omega) hbytes hbase
  refine ⟨v', w', h1, h2, h3, ?_⟩
  have hxl : xs.length = n := by simpa using hown.1
  rcases hown.2 with ⟨rfl, rfl⟩ | ⟨g, cap, cur, rfl, hbg, hg, hnc, hcm, hcs, htake⟩
  · by_cases hm : s.size = 0
    · rw [h4.2 ⟨rfl, hm⟩]; exact .inl rfl
    · have hr := run_append_nil_string (P := P) w t u ty e i (.int .u8 0) ht hu hi hz s (by omega) (by omega) (by rw [hby]; omega)
      have h5 := h1.symm.trans hr
      injection h5 with h5 _
      rw [h5]
      exact .inr rfl
  · by_cases hroom : n + s.size ≤ cap
    · have hcs' : cur.size = cap := by simpa using hcs
      have hr := Lib.run_append_room_string (P := P) w t u ty e i ht hu hi hsize g n cap cur hg s hroom (by omega)
      have h5 := h1.symm.trans hr
      injection h5 with h5 _
      rw [h5]
      exact .inl rfl
    · have holds : ∀ j u, xs[j]? = some u → w.cell? ((⟨g, 0, none⟩ : Addr).add j) = some u := hown.cells (g := g) rfl
      have hr := Lib.run_append_grow_string (P := P) w t u ty e i (.int .u8 0) ht hu hi hz ⟨g, 0, none⟩ n cap xs (by rw [hsize]; simpa using hxl) holds s (by omega) (by omega) (by rw [hby]; exact growslice_fits (by omega) (by omega))
      have h5 := h1.symm.trans hr
      injection h5 with h5 _
      rw [h5]
      exact .inr rfl
theorem wpList_append_str_at {ops : Array Oper} {rest : List Oper} {o : Oper} {a : Act} {w : World} {Q : Exit → Act → World → Prop} (hgd : o.guard = none) (sl x : Operand) (t u : TypeId)
    (ho : o.op = .call { callee := .builtin .append, args := #[sl, x], argTypes := #[t, u] })
    (base : Nat) (e : TypeId) (i : TypeInfo) (ht : P.underlying t = some (.slice e)) (hu : P.underlying u = some .string) (hi : P.info? e = some i) (hz : i.zero = some (.int .u8 0))
    (hsize : i.size = 1) (hby : i.bytes = 1)
    (v : Value) (n : Nat) (xs : List Value) (hs : a.eval sl = v) (hown : w.ownsRow base e 1 v n xs) (s : ByteArray) (hx : a.eval x = .string s)
    (hbytes : n + s.size ≤ 140737488355328) (hbase : base ≤ w.heap.size)
    (h : ∀ v' w', w'.ownsRow base e 1 v' (n + s.size) (xs ++ Lib.strCells s) → w.grownBy w' v.ownBlock → (v'.ownBlock = v.ownBlock ∨ v'.ownBlock = some w.heap.size) → wpList P ops Q rest (a.put o.dst v') w') : wpList P ops Q (o :: rest) a w := by
  refine wpList_plain hgd fun K hK => ?_
  obtain ⟨v', w', hr, h2, h3, h4⟩ := run_append_str_at (P := P) w base t u o.type e i ht hu hi hz hsize hby v n xs hown s hbytes hbase
  unfold Oper.wp execOp
  simp only [ho, resolve, invoke, builtin, Sem.run_bind, Sem.run_pure, Result.andThen_ok, List.map_toArray, List.map_cons, List.map_nil, hs, hx, hr]
  exact hK _ _ (h v' w' h2 h3 h4)
end
/- A new builder. -/
/-- The type of a builder. -/
def IsBT (P : Program) (T : TypeId) : Prop := ∃ fs n, tin P T = some ⟨.st fs, 2, n, some (.agg #[.pointer none, .slice none 0 0])⟩ ∧ (fs.all fun f => (tin P f.1).isSome) = true
end Go.Proofs.YtfmnoljflcpbgaaGreatDoor
