/- strings.Builder: copyCheck, WriteString, String: walks by hand that say which blocks turn; contracts over a builder as an object. -/
import Derived.Test.YtlciedpfjhkkdaaGreatDoorKT01
import Derived.Test.YtlciedpfjhkkdaaGreatDoorKR15uE36
import Derived.Test.YtlciedpfjhkkdaaGreatDoorKG06uS02
import Derived.Lib.UnsafeStr
import Derived.Shelf.Strings.OnBuilder
set_option linter.unusedSimpArgs false
set_option linter.unusedVariables false
set_option linter.unnecessarySimpa false
set_option maxHeartbeats 8000000
namespace Go.Proofs.YtlciedpfjhkkdaaGreatDoor
open Go.RowKit Go.Shelf
def join_ren : Ren where
 f := fun x => match x with
  | 156 => 114
  | 165 => 169
  | 166 => 158
  | 169 => 159
  | 240 => 190
  | 241 => 204
  | 276 => 216
  | 277 => 231
  | n => n
 t := fun x => match x with
  | 31 => 59
  | 9 => 9
  | 3 => 3
  | 4 => 4
  | 0 => 0
  | 20 => 20
  | 72 => 181
  | 76 => 184
  | 70 => 179
  | 37 => 29
  | 75 => 183
  | 127 => 210
  | 164 => 246
  | 5 => 5
  | 80 => 91
  | n => n
 g := fun x => match x with
  | n => n
theorem join_lays : Lays.n156 Tryz.prog join_ren where
 mixed := follows_mixed
 f156 := by kernel_rfl
 f165 := by kernel_rfl
 f166 := by kernel_rfl
 f169 := by kernel_rfl
 f240 := by kernel_rfl
 f241 := by kernel_rfl
 f276 := by kernel_rfl
 f277 := by kernel_rfl
 t0 := Tryz.underlying0
 a0 := Tryz.isAgg0
 z0 := Tryz.sizeOf0
 v0 := Tryz.zeroValue0
 t3 := Tryz.underlying3
 a3 := Tryz.isAgg3
 z3 := Tryz.sizeOf3
 v3 := Tryz.zeroValue3
 t4 := Tryz.underlying4
 a4 := Tryz.isAgg4
 z4 := Tryz.sizeOf4
 v4 := Tryz.zeroValue4
 t9 := Tryz.underlying9
 a9 := Tryz.isAgg9
 z9 := Tryz.sizeOf9
 v9 := Tryz.zeroValue9
 t20 := Tryz.underlying20
 a20 := Tryz.isAgg20
 z20 := Tryz.sizeOf20
 v20 := Tryz.zeroValue20
 t31 := Tryz.underlying59
 a31 := Tryz.isAgg59
 z31 := Tryz.sizeOf59
 v31 := Tryz.zeroValue59
 t37 := Tryz.underlying29
 a37 := Tryz.isAgg29
 z37 := Tryz.sizeOf29
 v37 := Tryz.zeroValue29
 t70 := Tryz.underlying179
 a70 := Tryz.isAgg179
 z70 := Tryz.sizeOf179
 v70 := Tryz.zeroValue179
 t72 := Tryz.underlying181
 a72 := Tryz.isAgg181
 z72 := Tryz.sizeOf181
 v72 := Tryz.zeroValue181
 t75 := Tryz.underlying183
 a75 := Tryz.isAgg183
 z75 := Tryz.sizeOf183
 v75 := Tryz.zeroValue183
 t76 := Tryz.underlying184
 a76 := Tryz.isAgg184
 z76 := Tryz.sizeOf184
 v76 := Tryz.zeroValue184
 t127 := Tryz.underlying210
 a127 := Tryz.isAgg210
 z127 := Tryz.sizeOf210
 v127 := Tryz.zeroValue210
 t164 := Tryz.underlying246
 a164 := Tryz.isAgg246
 z164 := Tryz.sizeOf246
 v164 := Tryz.zeroValue246
theorem join_extra : Builder.Extra Tryz.prog join_ren where
 sizeBuilder := by kernel_rfl
 liesBuilder := by kernel_rfl
 t5 := Tryz.underlying5
 a5 := Tryz.isAgg5
 z5 := Tryz.sizeOf5
 v5 := Tryz.zeroValue5
 infoByte := by kernel_rfl
 cellsByte := by kernel_rfl
 sizeByte := by kernel_rfl
 neB5 := by decide
theorem isBT : IsBT Tryz.prog 181 := ⟨[(179, 0), (29, 1)], 32, by kernel_rfl, by kernel_rfl⟩
abbrev bldA (s : ByteArray) : AO := .gen (bldR 181 5 s)
set_option maxRecDepth 100000 in
theorem copyCheck_used (b : Nat) (w : World) (h0 : w.cell? ⟨b, 0, none⟩ = some (.pointer (some ⟨b, 0, none⟩))) :
  Calls Tryz.prog 190 #[.pointer (some ⟨b, 0, none⟩)] w fun e w' => e = .returned (.tuple #[]) ∧ w' = w := by
 obtain ⟨j, hj, _⟩ := Option.map_eq_some_iff.1 (show (Tryz.prog.info? 181).map (·.size) = some 2 by kernel_rfl)
 go_enter Tryz.func190, Tryz.ntmps190
 go_wp2
 rw [Lib.run_neq_ptr_same w _ Tryz.underlying179 hj]
 go_wp2
 go_end0
 exact ⟨rfl, rfl⟩
set_option maxRecDepth 100000 in
theorem copyCheck_fresh (b : Nat) (w : World) (h0 : w.cell? ⟨b, 0, none⟩ = some (.pointer none)) (hsh : w.shape? b = some (181, 2)) (hfz : w.frozen? ⟨b, 0, none⟩ = false) :
  Calls Tryz.prog 190 #[.pointer (some ⟨b, 0, none⟩)] w fun e w' => e = .returned (.tuple #[]) ∧ w' = w.setCell ⟨b, 0, none⟩ (.pointer (some ⟨b, 0, none⟩)) := by
 obtain ⟨j, hj, hjs⟩ := Option.map_eq_some_iff.1 (show (Tryz.prog.info? 181).map (·.size) = some 2 by kernel_rfl)
 go_enter Tryz.func190, Tryz.ntmps190
 go_wp2
 rw [Lib.run_to_unsafe w ⟨b, 0, none⟩ Tryz.underlying179 Tryz.underlying246 hj (by rw [hjs]; decide) hsh (Nat.zero_lt_succ 1)]
 simp only [Result.andThen]
 rw [Oper.upon_value]
 go_wp2
 rw [run_callFunc_extern Tryz.func216 (by kernel_rfl) (by kernel_rfl) (by kernel_rfl) (e := Extern.AbiNoEscape.same) (by kernel_rfl)]
 rw [Lib.run_noEscape]
 simp only [Result.andThen]
 rw [Oper.upon_value]
 go_wp2
 rw [Lib.run_from_unsafe w ⟨b, 0, none⟩ Tryz.underlying246 Tryz.underlying179 hj hsh (by kernel_rfl)]
 simp only [Result.andThen]
 rw [Oper.upon_value]
 go_wp2
 go_end0
 exact ⟨rfl, rfl⟩
def WrPost (b : Nat) (v : Value) (s t : ByteArray) (w : World) (e : Ending) (w' : World) : Prop :=
 e = .returned (.tuple #[.int .i64 t.size, .nilIface]) ∧ ∃ v', w'.heap[b]? = some (.cells #[.pointer (some ⟨b, 0, none⟩), v'] 181 (0, 0)) ∧ w'.ownsRow 0 5 1 v' (s.size + t.size) (Lib.strCells s ++ Lib.strCells t) ∧
  v'.ownBlock ≠ some b ∧ (v'.ownBlock = v.ownBlock ∨ v'.ownBlock = some w.heap.size) ∧ w'.os = w.os ∧ w'.tape = w.tape ∧ w'.output = w.output ∧ w.heap.size ≤ w'.heap.size ∧ ∀ k, k < w.heap.size → k ≠ b → v.ownBlock ≠ some k → w'.heap[k]? = w.heap[k]?
set_option maxRecDepth 100000 in
theorem writeString_walk (b : Nat) (p v : Value) (s t : ByteArray) (w : World) (hp : p = .pointer none ∨ p = .pointer (some ⟨b, 0, none⟩)) (hb : w.heap[b]? = some (.cells #[p, v] 181 (0, 0))) (hne : v.ownBlock ≠ some b)
  (ho : w.ownsRow 0 5 1 v s.size (Lib.strCells s)) (hl : s.size + t.size ≤ 1000000000) : Calls Tryz.prog 158 #[.pointer (some ⟨b, 0, none⟩), .string t] w (WrPost b v s t w) := by
 have hbl : b < w.heap.size := (Array.getElem?_eq_some_iff.1 hb).1
 -- behind copyCheck
 have hcc : Calls Tryz.prog 190 #[.pointer (some ⟨b, 0, none⟩)] w fun e w1 => e = .returned (.tuple #[]) ∧ (w1.heap[b]? = some (.cells #[.pointer (some ⟨b, 0, none⟩), v] 181 (0, 0)) ∧ w1.ownsRow 0 5 1 v s.size (Lib.strCells s) ∧ w1.heap.size = w.heap.size ∧ w1.os = w.os ∧ w1.tape = w.tape ∧ w1.output = w.output ∧ ∀ k, k ≠ b → w1.heap[k]? = w.heap[k]?) := by
  have c0 : w.cell? ⟨b, 0, none⟩ = some p := by rw [Lib.cell_of_heap hb]; rfl
  rcases hp with rfl | rfl
  ·refine (copyCheck_fresh b w c0 (by simp [World.shape?, hb]) (Lib.frozen_of_heap hb 0)).mono ?_
   rintro e w1 ⟨rfl, rfl⟩
   have hk : ∀ k, k ≠ b → (w.setCell ⟨b, 0, none⟩ (.pointer (some ⟨b, 0, none⟩))).heap[k]? = w.heap[k]? := fun k hk => Below.heap_setCell _ _ _ _ hk
   refine ⟨rfl, by simp [World.setCell, Array.getElem?_modify, hb], ?_, by simp [World.setCell], rfl, rfl, rfl, hk⟩
   exact ho.kept (row := some b) ⟨rfl, rfl, rfl, by simp [World.setCell], fun k _ hk' => hk k (fun e => hk' (by simp [e]))⟩ (Or.inr hne)
  ·refine (copyCheck_used b w c0).mono ?_
   rintro e w1 ⟨rfl, rfl⟩
   exact ⟨rfl, hb, ho, rfl, rfl, rfl, rfl, fun _ _ => rfl⟩
 obtain ⟨i0, hi, hif⟩ := Option.map_eq_some_iff.1 (show (Tryz.prog.info? 5).map (fun i => (i.zero, i.size, i.bytes)) = some (some (.int .u8 0), 1, 1) by kernel_rfl)
 simp only [Prod.mk.injEq] at hif
 obtain ⟨hz0, hz1, hz2⟩ := hif
 have hcH := Lib.hid hcc
 clear hcc hp hb ho
 go_enter Tryz.func158, Tryz.ntmps158
 go_wp2_with (first | (go_at_call 190; refine hcH.out.mono ?_; rintro e w1 ⟨rfl, hb1, ho1, z1, z2, z3, z4, z5⟩; have c0 : w1.cell? ⟨b, 0, none⟩ = some (.pointer (some ⟨b, 0, none⟩)) := (by rw [Lib.cell_of_heap hb1]; rfl); have c1 : w1.cell? ⟨b, 1, none⟩ = some v := (by rw [Lib.cell_of_heap hb1]; rfl); have HB := Lib.hid hb1; have HO := Lib.hid ho1; have HZ := Lib.hid (And.intro z1 (And.intro z2 (And.intro z3 (And.intro z4 z5)))); clear hb1 ho1 z1 z2 z3 z4 z5) | (at_builtin; refine wpList_append_str_at rfl _ _ _ _ rfl 0 5 i0 Tryz.underlying29 Tryz.underlying9 hi hz0 hz1 hz2 _ _ _ rfl HO.out t rfl (by omega) (Nat.zero_le _) ?_))
 intro v' w2 hown' hgrow hblk
 have hlt : b < w1.heap.size := (Array.getElem?_eq_some_iff.1 HB.out).1
 have hb2 : w2.heap[b]? = some (.cells #[.pointer (some ⟨b, 0, none⟩), v] 181 (0, 0)) := by
  rw [hgrow.block b hlt (fun e => hne e.symm)]
  exact HB.out
 have hne' : v'.ownBlock ≠ some b := by
  rcases hblk with h | h
  ·rw [h]; exact hne
  ·rw [h]; intro e; cases e; omega
 have d0 : w2.cell? ⟨b, 0, none⟩ = some (.pointer (some ⟨b, 0, none⟩)) := by rw [Lib.cell_of_heap hb2]; rfl
 have d1 : w2.cell? ⟨b, 1, none⟩ = some v := by rw [Lib.cell_of_heap hb2]; rfl
 have f1 : w2.frozen? ⟨b, 1, none⟩ = false := Lib.frozen_of_heap hb2 1
 have HB2 := Lib.hid hb2
 have HG := Lib.hid hgrow
 have HW := Lib.hid hown'
 have HK := Lib.hid hblk
 clear hb2 hgrow hown' hblk
 obtain ⟨ao, n', cap, rfl⟩ : ∃ ao n' cap, v' = .slice ao n' cap := by
  rcases HW.out.2 with ⟨hv, _⟩ | ⟨g, cap, cur, hv, _⟩
  ·exact ⟨_, _, _, hv⟩
  ·exact ⟨_, _, _, hv⟩
 go_wp2
 go_ret2
 obtain ⟨z1, z2, z3, z4, z5⟩ := HZ.out
 have hg := HG.out
 refine ⟨rfl, _, by simp [World.setCell, Array.getElem?_modify, HB2.out], ?_, hne', by rw [← z1]; exact HK.out, hg.os.trans z2, hg.tape.trans z3, hg.output.trans z4, ?_, ?_⟩
 ·exact HW.out.kept (row := some b) ⟨rfl, rfl, rfl, by simp [World.setCell], fun k _ hk => Below.heap_setCell _ _ _ _ (fun e => hk (by simp [e]))⟩ (Or.inr hne')
 ·have := hg.size
  simp only [World.setCell, Array.size_modify]
  omega
 ·intro k hk hkb hkv
  rw [Below.heap_setCell _ _ _ _ hkb, hg.block k (by omega) (fun e => hkv e.symm)]
  exact z5 k hkb
def KeptBut (v : Value) (w w' : World) : Prop := w'.os = w.os ∧ w'.tape = w.tape ∧ w'.output = w.output ∧ w.heap.size ≤ w'.heap.size ∧ ∀ k, k < w.heap.size → v.ownBlock ≠ some k → w'.heap[k]? = w.heap[k]?
theorem keptBut_freeze {w W : World} {g n cap m : Nat} (h : Below w.heap.size w W) : KeptBut (.slice (some ⟨g, 0, none⟩) n cap) w (W.freeze ⟨g, 0, none⟩ m) := by
 unfold World.freeze
 split
 ·exact ⟨h.os, h.tape, h.output, h.size, fun k hk _ => h.block k hk⟩
 ·refine ⟨h.os, h.tape, h.output, by simpa using h.size, fun k hk hne => ?_⟩
  have hgk : ¬ g = k := fun e => hne (by simp [Value.ownBlock, e])
  simp only [Array.getElem?_modify]
  rw [if_neg hgk]
  exact h.block k hk
set_option maxRecDepth 100000 in
theorem bldString_walk (b : Nat) (p v : Value) (s : ByteArray) (w : World) (hp : p = .pointer none ∨ p = .pointer (some ⟨b, 0, none⟩)) (hb : w.heap[b]? = some (.cells #[p, v] 181 (0, 0))) (hne : v.ownBlock ≠ some b)
  (ho : w.ownsRow 0 5 1 v s.size (Lib.strCells s)) : Calls Tryz.prog 159 #[.pointer (some ⟨b, 0, none⟩)] w fun e w' => e = .returned (.string s) ∧ KeptBut v w w' := by
 by_cases h0 : s.size = 0
 ·have hs : s = ⟨#[]⟩ := by
   have : s.data = #[] := Array.eq_empty_of_size_eq_zero h0
   cases s; simp_all
  have post : ∀ (e : Ending) (w' : World), (e = .returned (.string ⟨#[]⟩) ∧ Below w.heap.size w w') → e = .returned (.string s) ∧ KeptBut v w w' := by
   rintro e w' ⟨rfl, h⟩
   exact ⟨by rw [hs], h.os, h.tape, h.output, h.size, fun k hk _ => h.block k hk⟩
  rw [h0] at ho
  rcases ho.2 with ⟨rfl, _⟩ | ⟨g, cap, cur, rfl, _, hg, _⟩
  ·exact (Any.Builder_String_nil { join_lays with } join_extra w.heap.size b p w hb).mono post
  ·by_cases hc0 : cap = 0
   ·subst hc0
    exact (Any.Builder_String_noroom { join_lays with } join_extra w.heap.size b g p cur w (Nat.le_refl _) hb hg).mono post
   ·exact (Any.Builder_String_room { join_lays with } join_extra w.heap.size b g cap p w hc0 hb).mono post
 ·obtain ⟨l, hl⟩ : ∃ l : List UInt8, l = s.data.toList := ⟨_, rfl⟩
  have hsl : s.size = l.length := by rw [hl, Array.length_toList]; rfl
  have hl0 : l.length ≠ 0 := by omega
  have hse : (⟨l.toArray⟩ : ByteArray) = s := by rw [hl]
  have hcells : Lib.strCells s = Lib.byteCells l := by rw [hl]; rfl
  rw [hsl, hcells] at ho
  obtain ⟨g, cap, cur, rfl, hbg, hg, hnc, hcm, hcs, htake⟩ : ∃ g cap cur, v = .slice (some ⟨g, 0, none⟩) l.length cap ∧ 0 ≤ g ∧ w.heap[g]? = some (.cells cur 5 (0, 0)) ∧ l.length ≤ cap ∧ cap ≤ maxLen ∧ cur.size = cap * 1 ∧ cur.toList.take (l.length * 1) = Lib.byteCells l := by
   rcases ho.2 with ⟨_, hz⟩ | ⟨g, cap, cur, hv, r⟩
   ·exact absurd hz hl0
   ·exact ⟨g, cap, cur, hv, r⟩
  have c1 : w.drew.cell? ⟨b, 1, none⟩ = some (.slice (some ⟨g, 0, none⟩) l.length cap) := by
   have : w.drew.heap[b]? = some (.cells #[p, .slice (some ⟨g, 0, none⟩) l.length cap] 181 (0, 0)) := hb
   rw [Lib.cell_of_heap this]; rfl
  have hSD : (Builtin.unsafeSliceData_ #[29] 210 #[.slice (some ⟨g, 0, none⟩) l.length cap]).run Tryz.prog w.drew = .ok (.pointer (some ⟨g, 0, none⟩)) w.drew :=
   Lib.run_unsafeSliceData_row _ _ _ _ _ _ (by omega)
  have hUS : (Builtin.unsafeString_ #[210, 3] 9 #[.pointer (some ⟨g, 0, none⟩), .int .i64 l.length]).run Tryz.prog w.drew = .ok (.string ⟨l.toArray⟩) (w.drew.freeze ⟨g, 0, none⟩ l.length) := by
   refine Lib.run_unsafeString_row w.drew 210 3 9 5 Tryz.underlying210 (by kernel_rfl) g cur.size (by have hg' : w.drew.heap[g]? = some (.cells cur 5 (0, 0)) := hg; simp [World.shape?, hg']) l (fun e => hl0 (by rw [e]; rfl)) (by omega) (by unfold maxLen at hcm; omega) ?_
   intro j x hx
   exact ho.cells (g := g) rfl j (.int .u8 x.toNat) (by simp [Lib.byteCells, hx])
  rw [← hse]
  clear ho hse hsl hcells hl htake hb
  have mixed := follows_mixed
  go_enter Tryz.func159, Tryz.ntmps159
  go_wp2
  go_region_o
  all_goals (go_wp2; go_ret; exact ⟨rfl, keptBut_freeze (Below.drew (Below.refl w.heap.size w))⟩)
theorem strCells_append (s t : ByteArray) : Lib.strCells (s ++ t) = Lib.strCells s ++ Lib.strCells t := by
 simp [Lib.strCells]
theorem get_bld {i : Id} {o x : AO} (hi : Mem.get [((0, 0), x)] i = some o) : i = (0, 0) ∧ o = x := by
 simp only [Mem.get, List.lookup_cons, List.lookup_nil] at hi
 by_cases hq : i = (0, 0)
 ·subst hq
  simpa [eq_comm] using hi
 ·have : (i == ((0, 0) : Id)) = false := by simpa using hq
  rw [this] at hi
  cases hi
theorem writeString_ac (s t : ByteArray) (hl : s.size + t.size ≤ 1000000000) : AC Tryz.prog 158 [.ptr (0, 0) 0, .c (.str t)] [((0, 0), bldA s)] (.tup [.c (.int .i64 t.size), .c (.raw .nilIface)]) [((0, 0), bldA (s ++ t))] := by
 intro Γ vals hE hA
 obtain ⟨v1, r1, rfl, ⟨_, o1, g1, g2⟩, v2, r2, rfl, ⟨rfl, _⟩, rfl⟩ := hA
 obtain ⟨_, rfl⟩ := get_bld g1
 obtain ⟨b0, e1, e2⟩ := g2 rfl
 obtain ⟨b, p, v, k1, k2⟩ := bld_at (hE.objs (0, 0) _ rfl)
 obtain rfl : b0 = b := by
  have := e1.symm.trans k1
  simpa using this
 subst e2
 have hnone : ∀ k, Γ.w.heap.size ≤ k → Γ.ow k = none := fun k hk => by
  cases ho : Γ.ow k with
  | none => rfl
  | some i => have := (hE.own k i ho).1; omega
 refine (writeString_walk b0 p v s t Γ.w k2.ptr k2.cells k2.ne k2.owns hl).mono ?_
 rintro e w' ⟨rfl, v', h1, h2, h3, h4, h5, h6, h7, h8, h9⟩
 refine ⟨_, fun k => if v'.ownBlock = some k then some (0, 0) else Γ.ow k, Γ.κ, rfl, ⟨⟨_, rfl, _, _, rfl, ⟨rfl, rfl⟩, _, _, rfl, ⟨rfl, rfl, rfl⟩, rfl⟩, ?_, ?_, h5, h6, h7, h8, ?_, fun i o o' _ _ => rfl⟩⟩
 ·intro i o hi
  obtain ⟨rfl, rfl⟩ := get_bld hi
  refine bld_of k1 ⟨.inr rfl, ?_, h1, h3, fun g hg => if_pos hg, ?_⟩
  ·rw [if_neg h3]; exact k2.mine
  ·rw [ByteArray.size_append, strCells_append]; exact h2
 ·intro k i hk
  split at hk
  ·rename_i hv
   cases hk
   exact ⟨(ownsRow_lt h2 hv).2, _, rfl, rfl⟩
  ·obtain ⟨f1, o, f2, _⟩ := hE.own k i hk
   obtain ⟨rfl, _⟩ := get_bld f2
   exact ⟨Nat.lt_of_lt_of_le f1 h8, _, rfl, rfl⟩
 ·intro k hk ho
  have hkb : k ≠ b0 := by rintro rfl; rw [k2.mine] at ho; cases ho
  have hkv : v.ownBlock ≠ some k := fun e => by rw [k2.buf k e] at ho; cases ho
  refine ⟨h9 k hk hkb hkv, ?_⟩
  rw [if_neg]
  ·exact ho
  ·intro e
   rcases h4 with h | h
   ·exact hkv (h.symm.trans e)
   ·rw [h] at e; cases e; omega
theorem bldString_ac (s : ByteArray) : AC Tryz.prog 159 [.ptr (0, 0) 0] [((0, 0), bldA s)] (.c (.str s)) [] := by
 intro Γ vals hE hA
 obtain ⟨v1, r1, rfl, ⟨_, o1, g1, g2⟩, rfl⟩ := hA
 obtain ⟨_, rfl⟩ := get_bld g1
 obtain ⟨b0, e1, e2⟩ := g2 rfl
 obtain ⟨b, p, v, k1, k2⟩ := bld_at (hE.objs (0, 0) _ rfl)
 obtain rfl : b0 = b := by
  have := e1.symm.trans k1
  simpa using this
 subst e2
 refine (bldString_walk b0 p v s Γ.w k2.ptr k2.cells k2.ne k2.owns).mono ?_
 rintro e w' ⟨rfl, h5, h6, h7, h8, h9⟩
 refine ⟨_, fun _ => none, Γ.κ, rfl, ⟨⟨rfl, rfl⟩, (fun i o hi => by simp [Mem.get] at hi), (fun k i hk => by cases hk), h5, h6, h7, h8, ?_, fun i o o' _ _ => rfl⟩⟩
 ·intro k hk ho
  exact ⟨h9 k hk (fun e => by rw [k2.buf k e] at ho; cases ho), rfl⟩
end Go.Proofs.YtlciedpfjhkkdaaGreatDoor
