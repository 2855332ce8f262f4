/- Texts of this proof: R15 E36. -/
import Derived.Test.YtlciedpfjhkkdaaGreatDoorKR12uR14
import Derived.Test.YtlciedpfjhkkdaaGreatDoorKG06uS02
import Derived.Test.YtlciedpfjhkkdaaGreatDoorKM47uR09
import Derived.Lib.AppendStr
import Derived.Lib.Builder
set_option linter.unusedSimpArgs false
set_option linter.unusedVariables false
set_option linter.unnecessarySimpa false
set_option maxHeartbeats 8000000
namespace Go.Proofs.YtlciedpfjhkkdaaGreatDoor
open Go.RowKit
set_option maxRecDepth 10000
theorem out_next {t : V} {k : Nat} (hk : k < t.kids.length) : joinS (bS 44) (t.parts.take (k + 1)) = if k = 0 then t.part k t.kids[k] else joinS (bS 44) (t.parts.take k) ++ bS 44 ++ t.part k t.kids[k] := by
 rw [joinS_next (bS 44) (by rw [parts_len]; exact hk), parts_at t hk]
theorem out_zero (t : V) : joinS (bS 44) (t.parts.take 0) = ByteArray.empty := by simp [joinS]
theorem encode_ac : ∀ (n : Nat) (t : V), t.count ≤ n → t.right → AC Tryz.prog 125 [cellsA t.enc] [] (.c (.str t.txt)) [] := by
 intro n
 induction n with
 | zero => intro t hn _; have := count_pos t; omega
 | succ n ih =>
  intro t hn ht
  have ra := enc_rows t
  have ga := enc_head t
  have hk := right_kind ht
  have hnum := right_num ht
  have hs := okText_size (right_text ht)
  have hcase : t.kind = 0 ∨ t.kind = 1 ∨ t.kind = 2 ∨ t.kind = 3 ∨ t.kind = 4 ∨ (t.kind = 5 ∨ t.kind = 6) := by omega
  rcases hcase with h | h | h | h | h | h
  ·have b0 : (t.kind == 0) = true := by simp [h]
   rw [txt_null h]; unfold nullS
   refine wEnter Tryz.func125 Tryz.ntmps125 ?_
   refine wRUN (j3 ra ga b0) ?_
   exact wRet (ret_data []) Tryz.results125
  ·have b0 : (t.kind == 0) = false := by simp [h]
   have b1 : (t.kind == 1) = true := by simp [h]
   rw [txt_false h]; unfold falseS
   refine wEnter Tryz.func125 Tryz.ntmps125 ?_
   refine wRUN (j4 ra ga b0 b1) ?_
   exact wRet (ret_data []) Tryz.results125
  ·have b0 : (t.kind == 0) = false := by simp [h]
   have b1 : (t.kind == 1) = false := by simp [h]
   have b2 : (t.kind == 2) = true := by simp [h]
   rw [txt_true h]; unfold trueS
   refine wEnter Tryz.func125 Tryz.ntmps125 ?_
   refine wRUN (j5 ra ga b0 b1 b2) ?_
   exact wRet (ret_data []) Tryz.results125
  ·have b0 : (t.kind == 0) = false := by simp [h]
   have b1 : (t.kind == 1) = false := by simp [h]
   have b2 : (t.kind == 2) = false := by simp [h]
   have b3 : (t.kind == 3) = true := by simp [h]
   have h1 := decimal_ac t.num (by omega) (by omega)
   rw [txt_num h]
   refine wEnter Tryz.func125 Tryz.ntmps125 ?_
   refine wRUN (j6 ra ga b0 b1 b2 b3) ?_
   refine w7 (op_data [] h1) trivial ?_
   refine wRUN trivial ?_
   exact wRet (ret_data []) Tryz.results125
  ·have b0 : (t.kind == 0) = false := by simp [h]
   have b1 : (t.kind == 1) = false := by simp [h]
   have b2 : (t.kind == 2) = false := by simp [h]
   have b3 : (t.kind == 3) = false := by simp [h]
   have b4 : (t.kind == 4) = true := by simp [h]
   have h1 := quote_ac t.text (by omega)
   rw [txt_str h]
   refine wEnter Tryz.func125 Tryz.ntmps125 ?_
   refine wRUN (j7 ra ga b0 b1 b2 b3 b4) ?_
   refine w7 (op_data [] h1) trivial ?_
   refine wRUN trivial ?_
   exact wRet (ret_data []) Tryz.results125
  ·have b0 : (t.kind == 0) = false := by simp; omega
   have b1 : (t.kind == 1) = false := by simp; omega
   have b2 : (t.kind == 2) = false := by simp; omega
   have b3 : (t.kind == 3) = false := by simp; omega
   have b4 : (t.kind == 4) = false := by simp; omega
   have hp := l1Parts_ac ht.1 ht.2.1
   have hq := l1Keys_ac ht.1 ht.2.1
   have hkl := kids_len_le ht.2.1
   have hlp : ((t.kids.map V.enc).map encCs).length = t.kids.length := by simp
   have h0 := out_zero t
   refine wEnter Tryz.func125 Tryz.ntmps125 ?_
   refine wRUN (j7 ra ga b0 b1 b2 b3 b4) ?_
   refine w9 (op_shared [] hp) trivial ?_
   refine wRUN trivial ?_
   refine w9 (op_shared [] hq) trivial ?_
   refine wRUN trivial ?_
   refine a_loop (κ := Nat) (fun k => ⟨mkS 0 76 [(0, cellsA t.enc), (3, .c (.sl ((t.kids.map V.enc).map encCs))), (4, .c (.sl ((keysOf t t.kids.length).map strCs))), (5, .c (.str (joinS (bS 44) (t.parts.take k)))), (6, .c (.int .i64 k))], []⟩)
    (fun k => k ≤ t.kids.length) (fun k => t.kids.length - k) 0 (Nat.zero_le _) ?_ ?_
   ·exact wSays (Says.of [] []) h0
   ·intro k hk1
    have hz := join_size ht hk1
    by_cases hlt : k < t.kids.length
    ·have hdk : decide ((k : Int) < (t.kids.length : Int)) = true := by simpa using hlt
     have hw := wrap_succ (k := k) (by omega)
     have hg : ((t.kids.map V.enc).map encCs)[k]? = some [.sl (t.kids[k].enc.map CellD.cs)] := by simp [hlt, encCs]
     have hra : rowsAt ((t.kids.map V.enc).map encCs) 1 k = true := by simp [rowsAt, hlt, encCs]
     have hgk : ((keysOf t t.kids.length).map strCs)[k]? = some [.str (t.keyAt k)] := by simp [keysOf, hlt, strCs]
     have hrk : rowsAt ((keysOf t t.kids.length).map strCs) 1 k = true := by simp [rowsAt, keysOf, hlt, strCs]
     have hks := right_keyAt ht k
     have hes := encS_size hks
     have hqk := quote_ac (t.keyAt k) (by omega)
     have hmem : t.kids[k] ∈ t.kids := List.getElem_mem hlt
     have hcm := countL_mem hmem
     have hck := count_kids t
     have hxs := txt_size' (right_mem ht hmem)
     have he := ih t.kids[k] (by omega) (right_mem ht hmem)
     have hnx := out_next hlt
     unfold V.part at hnx
     generalize t.kids[k] = x at *
     generalize t.keyAt k = key at *
     generalize hu0 : joinS (bS 44) (t.parts.take k) = u0 at *
     have key1 : ∀ u1 : ByteArray, u1.size ≤ 60000 → u1.size + (encS key).size ≤ 9223372036854775807 ∧ (u1 ++ encS key).size + 1 ≤ 9223372036854775807 ∧ (u1 ++ encS key ++ bS 58).size + x.txt.size ≤ 9223372036854775807 ∧ u1.size + x.txt.size ≤ 9223372036854775807 := by
      intro u1 h1
      simp only [ByteArray.size_append, one_size]
      omega
     rcases Nat.eq_zero_or_pos k with hk0 | hk0
     ·subst hk0
      have hgt : decide (((0 : Nat) : Int) > 0) = false := by simp
      rw [if_pos rfl] at hnx
      rw [out_zero] at hu0
      subst hu0
      obtain ⟨x1, x2, x3, x4⟩ := key1 ByteArray.empty (by simp)
      rcases h with h | h
      ·have b6 : (t.kind == 6) = false := by simp [h]
       rw [if_neg (by omega)] at hnx
       have hy : ByteArray.empty ++ x.txt = joinS (bS 44) (t.parts.take (0 + 1)) := by rw [hnx, ByteArray.empty_append]
       refine wRUN (j8 hlp hdk hgt ra ga b6 hra hg) ?_
       refine w7 (op_data [] he) trivial ?_
       refine wRUN (j3 x4 hy hw) ?_
       refine ⟨0 + 1, by omega, by omega, ?_⟩
       exact wSays (Says.of [] []) trivial
      ·have b6 : (t.kind == 6) = true := by simp [h]
       rw [if_pos h] at hnx
       have hy : ByteArray.empty ++ encS key ++ bS 58 ++ x.txt = joinS (bS 44) (t.parts.take (0 + 1)) := by rw [hnx, ByteArray.empty_append]
       generalize hv1 : ByteArray.empty ++ encS key = v1 at *
       generalize hv2 : v1 ++ bS 58 = v2 at *
       refine wRUN (j8 hlp hdk hgt ra ga b6 hrk hgk) ?_
       refine w7 (op_data [] hqk) trivial ?_
       refine wRUN (j6 x1 hv1 x2 hv2 hra hg) ?_
       refine w7 (op_data [] he) trivial ?_
       refine wRUN (j3 x3 hy hw) ?_
       refine ⟨0 + 1, by omega, by omega, ?_⟩
       exact wSays (Says.of [] []) trivial
     ·have hgt : decide ((k : Int) > 0) = true := by simp; omega
      rw [if_neg (by omega)] at hnx
      have x0 : u0.size + 1 ≤ 9223372036854775807 := by omega
      have hu1s : (u0 ++ bS 44).size ≤ 60000 := by rw [ByteArray.size_append, one_size]; omega
      obtain ⟨x1, x2, x3, x4⟩ := key1 (u0 ++ bS 44) hu1s
      generalize hu1 : u0 ++ bS 44 = u1 at *
      rcases h with h | h
      ·have b6 : (t.kind == 6) = false := by simp [h]
       rw [if_neg (by omega)] at hnx
       refine wRUN (j10 hlp hdk hgt x0 hu1 ra ga b6 hra hg) ?_
       refine w7 (op_data [] he) trivial ?_
       have hy := hnx.symm
       refine wRUN (j3 x4 hy hw) ?_
       refine ⟨k + 1, by omega, by omega, ?_⟩
       exact wSays (Says.of [] []) trivial
      ·have b6 : (t.kind == 6) = true := by simp [h]
       rw [if_pos h] at hnx
       have hy : u1 ++ encS key ++ bS 58 ++ x.txt = joinS (bS 44) (t.parts.take (k + 1)) := by rw [hnx]; simp only [ByteArray.append_assoc]
       generalize hv1 : u1 ++ encS key = v1 at *
       generalize hv2 : v1 ++ bS 58 = v2 at *
       refine wRUN (j10 hlp hdk hgt x0 hu1 ra ga b6 hrk hgk) ?_
       refine w7 (op_data [] hqk) trivial ?_
       refine wRUN (j6 x1 hv1 x2 hv2 hra hg) ?_
       refine w7 (op_data [] he) trivial ?_
       refine wRUN (j3 x3 hy hw) ?_
       refine ⟨k + 1, by omega, by omega, ?_⟩
       exact wSays (Says.of [] []) trivial
    ·have hdk : decide ((k : Int) < (t.kids.length : Int)) = false := by simpa using hlt
     obtain rfl : k = t.kids.length := by omega
     have hall : t.parts.take t.kids.length = t.parts := List.take_of_length_le (by rw [parts_len]; exact Nat.le_refl _)
     rw [hall] at hz
     have hx1 : 1 + (joinS (bS 44) t.parts).size ≤ 9223372036854775807 := by omega
     rcases h with h | h
     ·have b5 : (t.kind == 5) = true := by simp [h]
      have hx2 : (bS 91 ++ joinS (bS 44) t.parts).size + 1 ≤ 9223372036854775807 := by rw [ByteArray.size_append, one_size]; omega
      have ht5 := (txt_arr h).symm
      generalize hv1 : bS 91 ++ joinS (bS 44) t.parts = v1 at *
      refine wRUN (j10 hlp hdk ra ga b5 hall hx1 hv1 hx2 ht5) ?_
      exact wRetOf (ret_of [] []) Tryz.results125 ht5
     ·have b5 : (t.kind == 5) = false := by simp [h]
      have hx2 : (bS 123 ++ joinS (bS 44) t.parts).size + 1 ≤ 9223372036854775807 := by rw [ByteArray.size_append, one_size]; omega
      have ht5 := (txt_obj h).symm
      generalize hv1 : bS 123 ++ joinS (bS 44) t.parts = v1 at *
      refine wRUN (j10 hlp hdk ra ga b5 hall hx1 hv1 hx2 ht5) ?_
      exact wRetOf (ret_of [] []) Tryz.results125 ht5
end Go.Proofs.YtlciedpfjhkkdaaGreatDoor
namespace Go.Proofs.YtlciedpfjhkkdaaGreatDoor
open Go.RowKit
def bldR (T e : TypeId) (s : ByteArray) (κ : Value) (l : List (Nat × Obj)) : Prop :=
 ∃ b p v, κ = .pointer (some ⟨b, 0, none⟩) ∧ (p = .pointer none ∨ p = .pointer (some ⟨b, 0, none⟩)) ∧ (b, Obj.cells #[p, v] T (0, 0)) ∈ l ∧ v.ownBlock ≠ some b ∧ (∀ g, v.ownBlock = some g → ∃ o, (g, o) ∈ l) ∧
  ∀ w : World, (∀ q, q ∈ l → w.heap[q.1]? = some q.2) → w.ownsRow 0 e 1 v s.size (Lib.strCells s)
structure BldAt (T e : TypeId) (s : ByteArray) (w : World) (ow : Nat → Option Id) (i : Id) (b : Nat) (p v : Value) : Prop where
 ptr : p = .pointer none ∨ p = .pointer (some ⟨b, 0, none⟩)
 mine : ow b = some i
 cells : w.heap[b]? = some (.cells #[p, v] T (0, 0))
 ne : v.ownBlock ≠ some b
 buf : ∀ g, v.ownBlock = some g → ow g = some i
 owns : w.ownsRow 0 e 1 v s.size (Lib.strCells s)
section
variable {T e : TypeId} {s : ByteArray} {w : World} {S : Nat → Prop} {m : Mem} {ow : Nat → Option Id} {κ : Id → Value} {i : Id}
theorem bld_at (h : OR w S m ow κ i (.gen (bldR T e s))) : ∃ b p v, κ i = .pointer (some ⟨b, 0, none⟩) ∧ BldAt T e s w ow i b p v := by
 obtain ⟨l, h1, b, p, v, h2, h3, h4, h5, h6, h7⟩ := h
 refine ⟨b, p, v, h2, h3, (h1 _ h4).1, (h1 _ h4).2, h5, fun g hg => ?_, h7 w fun q hq => (h1 q hq).2⟩
 obtain ⟨o, ho⟩ := h6 g hg
 exact (h1 _ ho).1
theorem bld_of {b : Nat} {p v : Value} (hk : κ i = .pointer (some ⟨b, 0, none⟩)) (h : BldAt T e s w ow i b p v) : OR w S m ow κ i (.gen (bldR T e s)) := by
 have ho := h.owns
 rcases ho.2 with ⟨hv, hn⟩ | ⟨g, cap, cur, hv, hg0, hg, hrest⟩
 ·refine ⟨[(b, .cells #[p, v] T (0, 0))], ?_, b, p, v, hk, h.ptr, by simp, h.ne, fun g hg => by rw [hv] at hg; simp [Value.ownBlock] at hg, fun w' _ => ⟨ho.1, .inl ⟨hv, hn⟩⟩⟩
  intro q hq
  obtain rfl : q = (b, .cells #[p, v] T (0, 0)) := by simpa using hq
  exact ⟨h.mine, h.cells⟩
 ·have hb : v.ownBlock = some g := by rw [hv]; rfl
  refine ⟨[(b, .cells #[p, v] T (0, 0)), (g, .cells cur e (0, 0))], ?_, b, p, v, hk, h.ptr, by simp, h.ne, fun g' hg' => ?_, fun w' hw' => ⟨ho.1, .inr ⟨g, cap, cur, hv, hg0, hw' (g, .cells cur e (0, 0)) (by simp), hrest⟩⟩⟩
  ·intro q hq
   simp only [List.mem_cons, List.not_mem_nil, or_false] at hq
   rcases hq with rfl | rfl
   ·exact ⟨h.mine, h.cells⟩
   ·exact ⟨h.buf g hb, hg⟩
  ·rw [hb] at hg'
   cases hg'
   exact ⟨.cells cur e (0, 0), by simp⟩
end
section
variable {P : Program}
theorem run_append_str_at (w : World) (base : Nat) (t u ty e : TypeId) (i : TypeInfo) (ht : P.underlying t = some (.slice e)) (hu : P.underlying u = some .string) (hi : P.info? e = some i) (hz : i.zero = some (.int .u8 0))
  (hsize : i.size = 1) (hby : i.bytes = 1) (v : Value) (n : Nat) (xs : List Value) (hown : w.ownsRow base e 1 v n xs) (s : ByteArray) (hbytes : n + s.size ≤ 140737488355328) (hbase : base ≤ w.heap.size) :
  ∃ v' w', (Builtin.append_ #[t, u] ty #[v, .string s]).run P w = .ok v' w' ∧ w'.ownsRow base e 1 v' (n + s.size) (xs ++ Lib.strCells s) ∧ w.grownBy w' v.ownBlock ∧ (v'.ownBlock = v.ownBlock ∨ v'.ownBlock = some w.heap.size) := by
 obtain ⟨v', w', h1, h2, h3, h4⟩ := Lib.run_append_own_string (P := P) w base t u ty e i ht hu hi hz hsize hby v n xs hown s (by unfold maxLen; omega) hbytes hbase
 refine ⟨v', w', h1, h2, h3, ?_⟩
 have hxl : xs.length = n := by simpa using hown.1
 rcases hown.2 with ⟨rfl, rfl⟩ | ⟨g, cap, cur, rfl, hbg, hg, hnc, hcm, hcs, htake⟩
 ·by_cases hm : s.size = 0
  ·rw [h4.2 ⟨rfl, hm⟩]; exact .inl rfl
  ·have hr := run_append_nil_string (P := P) w t u ty e i (.int .u8 0) ht hu hi hz s (by omega) (by omega) (by rw [hby]; omega)
   have h5 := h1.symm.trans hr
   injection h5 with h5 _
   rw [h5]
   exact .inr rfl
 ·by_cases hroom : n + s.size ≤ cap
  ·have hcs' : cur.size = cap := by simpa using hcs
   have hr := Lib.run_append_room_string (P := P) w t u ty e i ht hu hi hsize g n cap cur hg s hroom (by omega)
   have h5 := h1.symm.trans hr
   injection h5 with h5 _
   rw [h5]
   exact .inl rfl
  ·have holds : ∀ j u, xs[j]? = some u → w.cell? ((⟨g, 0, none⟩ : Addr).add j) = some u := hown.cells (g := g) rfl
   have hr := Lib.run_append_grow_string (P := P) w t u ty e i (.int .u8 0) ht hu hi hz ⟨g, 0, none⟩ n cap xs (by rw [hsize]; simpa using hxl) holds s (by omega) (by omega) (by rw [hby]; exact growslice_fits (by omega) (by omega))
   have h5 := h1.symm.trans hr
   injection h5 with h5 _
   rw [h5]
   exact .inr rfl
theorem wpList_append_str_at {ops : Array Oper} {rest : List Oper} {o : Oper} {a : Act} {w : World} {Q : Exit → Act → World → Prop} (hgd : o.guard = none) (sl x : Operand) (t u : TypeId)
  (ho : o.op = .call { callee := .builtin .append, args := #[sl, x], argTypes := #[t, u] })
  (base : Nat) (e : TypeId) (i : TypeInfo) (ht : P.underlying t = some (.slice e)) (hu : P.underlying u = some .string) (hi : P.info? e = some i) (hz : i.zero = some (.int .u8 0))
  (hsize : i.size = 1) (hby : i.bytes = 1)
  (v : Value) (n : Nat) (xs : List Value) (hs : a.eval sl = v) (hown : w.ownsRow base e 1 v n xs) (s : ByteArray) (hx : a.eval x = .string s)
  (hbytes : n + s.size ≤ 140737488355328) (hbase : base ≤ w.heap.size)
  (h : ∀ v' w', w'.ownsRow base e 1 v' (n + s.size) (xs ++ Lib.strCells s) → w.grownBy w' v.ownBlock → (v'.ownBlock = v.ownBlock ∨ v'.ownBlock = some w.heap.size) → wpList P ops Q rest (a.put o.dst v') w') : wpList P ops Q (o :: rest) a w := by
 refine wpList_plain hgd fun K hK => ?_
 obtain ⟨v', w', hr, h2, h3, h4⟩ := run_append_str_at (P := P) w base t u o.type e i ht hu hi hz hsize hby v n xs hown s hbytes hbase
 unfold Oper.wp execOp
 simp only [ho, resolve, invoke, builtin, Sem.run_bind, Sem.run_pure, Result.andThen_ok, List.map_toArray, List.map_cons, List.map_nil, hs, hx, hr]
 exact hK _ _ (h v' w' h2 h3 h4)
end
def IsBT (P : Program) (T : TypeId) : Prop := ∃ fs n, tin P T = some ⟨.st fs, 2, n, some (.agg #[.pointer none, .slice none 0 0])⟩ ∧ (fs.all fun f => (tin P f.1).isSome) = true
section
variable {P : Program} {o : Oper} {σ : ASt}
theorem run_newBld {T e : TypeId} {fr : Id} (ho : o.op = .alloc T) (hz : IsBT P T) (hf : σ.mem.get fr = none) : OpRun P o σ ⟨[], [(fr, .gen (bldR T e ByteArray.empty))], .ptr fr 0⟩ := by
 obtain ⟨fs, sb, hz, _⟩ := hz
 intro Γ σ' a w ow κ hag hr
 have hf' : σ'.mem.get fr = none := by rw [hag.2.2 fr (by simp), hf]
 have st : Step σ'.mem [(fr, .gen (bldR T e ByteArray.empty))] w ow κ (w.alloc (.cells #[.pointer none, .slice none 0 0] T)) (owMake ow [] fr (some w.heap.size)) (kMake κ fr (.pointer (some ⟨w.heap.size, 0, none⟩))) :=
  Step.make (ks := []) rfl rfl rfl (by simp) hf' (by simp) rfl (fun b hb _ => Below.heap_alloc w _ b hb) (fun b hb => by cases hb; exact ⟨by simp, .inl (Nat.le_refl _)⟩) hr.owns
 refine ⟨.pointer (some ⟨w.heap.size, 0, none⟩), _, _, _, .inl ?_, hr.step (E := ⟨[], [(fr, .gen (bldR T e ByteArray.empty))], .ptr fr 0⟩) st ⟨rfl, .gen (bldR T e ByteArray.empty), get_make (ks := []) (by simp), fun _ => ⟨w.heap.size, by simp [kMake], rfl⟩⟩ (fun i hi o' ho' => ?_) o.dst⟩
 ·unfold execOp
  rw [ho]
  simp [Instr.alloc, run_zeroOf hz, newVar, newRow]
  rfl
 ·have hi' : i = fr := by simpa using hi
  subst hi'
  cases (get_make (m := σ'.mem) (ks := []) (fr := i) (obj := .gen (bldR T e ByteArray.empty)) (by simp)).symm.trans ho'
  refine bld_of (b := w.heap.size) (p := .pointer none) (v := .slice none 0 0) (by simp [kMake]) ⟨.inl rfl, by simp [owMake], heap_alloc_new w _, by simp [Value.ownBlock], fun g hg => by simp [Value.ownBlock] at hg, ?_⟩
  exact World.ownsRow_nil _ _ _ _
theorem run_storeBld {T e : TypeId} {y q : Operand} {i : Id} (ho : o.op = .store T y q) (hz : IsBT P T) (hy : σ.ev y = .ptr i 0) (hq : σ.ev q = .agg [.c (.raw (.pointer none)), .nils]) (hi : σ.mem.get i = some (.gen (bldR T e ByteArray.empty))) :
  OpRun P o σ ⟨[], [(i, .gen (bldR T e ByteArray.empty))], .skip⟩ := by
 obtain ⟨fs, sb, hz, _⟩ := hz
 intro Γ σ' a w ow κ hag hr
 have hi' : σ'.mem.get i = some (.gen (bldR T e ByteArray.empty)) := by rw [hag.2.2 i (by simp), hi]
 obtain ⟨_, o1, k1, k2⟩ := hag.ev hr (by rw [ho]; simp [Op.operands]) hy
 rw [hi'] at k1
 cases k1
 obtain ⟨b0, e1, e2⟩ := k2 rfl
 obtain ⟨vs, q1, q2, _⟩ := hag.ev hr (by rw [ho]; simp [Op.operands]) hq
 obtain ⟨v1, r1, rfl, ⟨rfl, _⟩, v2, r2, rfl, h2, hr2⟩ := q2
 simp only [AR] at h2
 subst h2
 simp only [ARs] at hr2
 subst hr2
 obtain ⟨b, p, v, g1, g2⟩ := bld_at (hr.objs i _ hi')
 obtain rfl : b0 = b := by
  have := e1.symm.trans g1
  simpa using this
 have hrun := run_storeVar_at hz g2.cells (off := 0) (v := .agg (List.toArray [Value.pointer none, .slice none 0 0])) (us := [.pointer none, .slice none 0 0]) rfl rfl (by simp) (by intro u hu; simp at hu; rcases hu with rfl | rfl <;> rfl)
 have hput : putL (#[p, v] : Array Value).toList 0 [Value.pointer none, .slice none 0 0] = [.pointer none, .slice none 0 0] := by simp [putL]
 rw [hput] at hrun
 have st : Step σ'.mem [(i, .gen (bldR T e ByteArray.empty))] w ow κ (w.setRow b0 [Value.pointer none, .slice none 0 0].toArray) ow κ :=
  Step.write rfl rfl rfl (by simp) hi' rfl rfl (fun b' hb' hne => setRow_other w b0 b' _ (fun e => hne (by rw [e]; exact g2.mine))) (fun b i hb => (hr.own b i hb).1)
 refine ⟨undef, _, ow, κ, .inr ⟨?_, rfl⟩, hr.step (E := ⟨[], [(i, .gen (bldR T e ByteArray.empty))], .skip⟩) st rfl (fun j hj o' ho' => ?_) o.dst⟩
 ·unfold execOp
  rw [ho]
  simp [Instr.storeAt, Instr.sureAddr, e2, q1, hrun]
 ·have hji : j = i := by simpa using hj
  subst hji
  have : o' = .gen (bldR T e ByteArray.empty) := by
   have : (σ'.mem.puts [(j, AO.gen (bldR T e ByteArray.empty))]).get j = some o' := ho'
   simp [Mem.puts, Mem.get_put] at this
   exact this.symm
  subst this
  exact bld_of (p := .pointer none) (v := .slice none 0 0) g1 ⟨.inl rfl, g2.mine, setRow_heap w b0 _ _ T _ g2.cells, by simp [Value.ownBlock], fun g hg => by simp [Value.ownBlock] at hg, World.ownsRow_nil _ _ _ _⟩
end
section
variable {P : Program} {σ τ : ASt} {ops : Array Oper} {r : List Oper} {fs : List AEff} {K : ASt → List AEff → Prop} {E : AEff} {d : Option Tmp} {ty' : TypeId} {pos : String} {af : Array Edge} {gd : Option (Nat × Bool)}
theorem op_newBld {T : TypeId} (e : TypeId) (hz : IsBT P T) (hg : gate ops σ ⟨d, .alloc T, ty', pos, af, gd⟩ = some true) (hf : σ.mem.get (σ.fresh ⟨d, .alloc T, ty', pos, af, gd⟩) = none)
  (he : (⟨[], [(σ.fresh ⟨d, .alloc T, ty', pos, af, gd⟩, .gen (bldR T e ByteArray.empty))], .ptr (σ.fresh ⟨d, .alloc T, ty', pos, af, gd⟩) 0⟩ : AEff) = E) (hτ : σ.upd d E = τ) (h : awpOps P ops r τ (fs ++ [E]) K) : awpOps P ops (⟨d, .alloc T, ty', pos, af, gd⟩ :: r) σ fs K := by
 subst he
 exact op_known hg (run_newBld rfl hz hf).sound hτ h
theorem op_storeBld {T e : TypeId} {y q : Operand} {i : Id} (hz : IsBT P T) (hg : gate ops σ ⟨d, .store T y q, ty', pos, af, gd⟩ = some true) (hy : σ.ev y = .ptr i 0) (hq : σ.ev q = .agg [.c (.raw (.pointer none)), .nils]) (hi : σ.mem.get i = some (.gen (bldR T e ByteArray.empty)))
  (he : (⟨[], [(i, .gen (bldR T e ByteArray.empty))], .skip⟩ : AEff) = E) (hτ : σ.upd d E = τ) (h : awpOps P ops r τ (fs ++ [E]) K) : awpOps P ops (⟨d, .store T y q, ty', pos, af, gd⟩ :: r) σ fs K := by
 subst he
 exact op_known hg (run_storeBld rfl hz hy hq hi).sound hτ h
theorem op_zeroBld {T : TypeId} (hz : IsBT P T) (hg : gate ops σ ⟨d, .build T #[], ty', pos, af, gd⟩ = some true)
  (he : (⟨[], [], .agg [.c (.raw (.pointer none)), .nils]⟩ : AEff) = E) (hτ : σ.upd d E = τ) (h : awpOps P ops r τ (fs ++ [E]) K) : awpOps P ops (⟨d, .build T #[], ty', pos, af, gd⟩ :: r) σ fs K := by
 subst he
 obtain ⟨fs, n, hz, hf⟩ := hz
 refine op_known hg (run_build rfl ?_).sound hτ h
 unfold effBuild
 rw [hz]
 have h0 : zeroA (some (.agg #[.pointer none, .slice none 0 0])) = some [.c (.raw (.pointer none)), .nils] := rfl
 simp only [h0, hf, if_true, fillA, Option.map_some]
end
end Go.Proofs.YtlciedpfjhkkdaaGreatDoor
