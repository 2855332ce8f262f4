/- Texts of this proof: E35 G01 G02. -/
import Derived.Test.YtfmnoljflcpbgaaGreatDoorKE6
import Derived.Laws.IdiomStrings
import Derived.Laws.Strings2
import Derived.Laws.Slices
import Derived.Test.YtfmnoljflcpbgaaGreatDoorKM1
import Derived.IntWalk
set_option linter.unusedSimpArgs false
set_option linter.unusedVariables false
set_option linter.unnecessarySimpa false
namespace Go.Proofs.YtfmnoljflcpbgaaGreatDoor
open Go.RowKit
section
variable {P : Program} {o : Oper} {σ : ASt} {src dst e t : TypeId}
def byteRows (l : List UInt8) : List (List C) := l.map fun b => [.int .u8 (b.toNat : Int)]
theorem byte_row {w : World} {S : Nat → Prop} {b : UInt8} {vr : List Value} {bs : List Nat} (h : CRs w S [.int .u8 (b.toNat : Int)] vr bs) : vr = [.int .u8 (b.toNat : Int)] := by
  simp only [CRs, CR] at h
  obtain ⟨v, vs', b1, b2, rfl, _, ⟨rfl, _⟩, rfl, _⟩ := h
  rfl
theorem run_conv {x : Operand} {i : Id} (l : List UInt8) (hl : l ≠ []) (ho : o.op = .convert src dst x) (hx : σ.ev x = .own i) (hs : P.underlying src = some (.slice e)) (he : P.underlying e = some (.int .u8)) (hd : P.underlying dst = some .string)
    (hi : σ.mem.get i = some (.row false 1 t (byteRows l))) : OpRun P o σ ⟨[i], [], .c (.str ⟨l.toArray⟩)⟩ := by
  refine OpRun.pure fun Γ σ' a w ow κ hag hr => ?_
  have hi' : σ'.mem.get i = some (.row false 1 t (byteRows l)) := by rw [hag.2.1 i (by simp), hi]
  obtain ⟨_, o1, k1, k2⟩ := hag.ev hr (by rw [ho]; simp [Op.operands]) hx
  rw [hi'] at k1
  cases k1
  have e1 := k2 (by simp)
  obtain ⟨vrows, bs, h1, h2, h3, h4, h5, h6⟩ := hr.objs i _ hi'
  have hlen := CRss.length h1
  have hrl : (byteRows l).length = l.length := by simp [byteRows]
  have hl0 : 0 < l.length := List.length_pos_iff.2 hl
  obtain ⟨A, cap, hA, hc1, hc2, hrow⟩ := Row.of_owns h3 (n := (byteRows l).length) (by omega) (.inl Nat.one_pos) h4 (T := fun _ => True) (fun _ _ => trivial)
  obtain ⟨b, off, rfl, _, _, hcl⟩ := hrow.2 (by omega)
  refine ⟨.string ⟨l.toArray⟩, ?_, ⟨rfl, rfl⟩⟩
  have hc : ∀ j (hj : j < l.length), w.cell? ((⟨b, off, none⟩ : Addr).add j) = some (.int .u8 (l[j].toNat : Int)) := by
    intro j hj
    obtain ⟨vr, b', g1, g2, _⟩ := CRss.at_ h1 (i := j) (row := [.int .u8 (l[j].toNat : Int)]) (by simp [byteRows, hj])
    have g3 := byte_row g2
    subst g3
    have := hcl j _ g1 0 _ rfl
    by_cases hj0 : j = 0
    · subst hj0
      simpa [Addr.add] using this
    · simpa [Addr.add, hj0] using this
  have hrun := run_convert_bytes_back w src dst e ⟨b, off, none⟩ cap l hs he hd hc
  unfold execOp
  rw [ho]
  rw [hrl] at hA
  simp [e1, hA, hrun]
theorem run_sub {x lo hi : Operand} {s : ByteArray} {i j : Int} (ho : o.op = .slice t x (some lo) (some hi) none) (hx : σ.ev x = .c (.str s)) (hlo : σ.ev lo = .c (.int .i64 i)) (hhi : σ.ev hi = .c (.int .i64 j)) (ht : P.underlying t = some .string)
    (h0 : 0 ≤ i) (h1 : i ≤ j) (h2 : j ≤ s.size) : OpRun P o σ ⟨[], [], .c (.str (s.extract i.toNat j.toNat))⟩ := by
  refine OpRun.pure fun Γ σ' a w ow κ hag hr => ?_
  have e1 := AR.str (hag.ev hr (by rw [ho]; simp [Op.operands]) hx)
  have e2 := (hag.ev hr (by rw [ho]; simp [Op.operands]) hlo).1
  have e3 := (hag.ev hr (by rw [ho]; simp [Op.operands]) hhi).1
  refine ⟨.string (s.extract i.toNat j.toNat), ?_, ⟨rfl, rfl⟩⟩
  have hrun := run_slice_string (P := P) w t s .i64 .i64 i j ht h0 h1 h2
  unfold execOp
  rw [ho]
  simp [e1, e2, e3, hrun, run_sliceAt_string _ t _ _ _ _ ht]
end
section
variable {P : Program} {σ τ : ASt} {ops : Array Oper} {r : List Oper} {fs : List AEff} {K : ASt → List AEff → Prop} {E : AEff} {src dst e t : TypeId} {d : Option Tmp} {ty' : TypeId} {pos : String} {af : Array Edge} {gd : Option (Nat × Bool)}
theorem op_conv {x : Operand} {i : Id} {y : ByteArray} (l : List UInt8) (hy : (⟨l.toArray⟩ : ByteArray) = y) (hl : l ≠ []) (hs : P.underlying src = some (.slice e)) (he : P.underlying e = some (.int .u8)) (hd : P.underlying dst = some .string)
    (hg : gate ops σ ⟨d, .convert src dst x, ty', pos, af, gd⟩ = some true) (hn : eff P σ.ev σ.mem.get (σ.fresh ⟨d, .convert src dst x, ty', pos, af, gd⟩) ⟨d, .convert src dst x, ty', pos, af, gd⟩ = none) (hx : σ.ev x = .own i) (hi : σ.mem.get i = some (.row false 1 t (byteRows l)))
    (hE : (⟨[i], [], .c (.str y)⟩ : AEff) = E) (hτ : σ.upd d E = τ) (h : awpOps P ops r τ (fs ++ [E]) K) : awpOps P ops (⟨d, .convert src dst x, ty', pos, af, gd⟩ :: r) σ fs K := by
  subst hE hy
  exact op_sound hg hn (run_conv l hl rfl hx hs he hd hi).sound hτ h
theorem op_sub {t : TypeId} {x lo hi : Operand} {s y : ByteArray} {i j : Int} (hy : s.extract i.toNat j.toNat = y) (h0 : 0 ≤ i) (h1 : i ≤ j) (h2 : j ≤ s.size) (ht : P.underlying t = some .string)
    (hg : gate ops σ ⟨d, .slice t x (some lo) (some hi) none, ty', pos, af, gd⟩ = some true) (hn : eff P σ.ev σ.mem.get (σ.fresh ⟨d, .slice t x (some lo) (some hi) none, ty', pos, af, gd⟩) ⟨d, .slice t x (some lo) (some hi) none, ty', pos, af, gd⟩ = none) (hx : σ.ev x = .c (.str s)) (hlo : σ.ev lo = .c (.int .i64 i)) (hhi : σ.ev hi = .c (.int .i64 j))
    (hE : (⟨[], [], .c (.str y)⟩ : AEff) = E) (hτ : σ.upd d E = τ) (h : awpOps P ops r τ (fs ++ [E]) K) : awpOps P ops (⟨d, .slice t x (some lo) (some hi) none, ty', pos, af, gd⟩ :: r) σ fs K := by
  subst hE hy
  exact op_sound hg hn (run_sub rfl hx hlo hhi ht h0 h1 h2).sound hτ h
end
end Go.Proofs.YtfmnoljflcpbgaaGreatDoor

/- Trees and cells as the engine's data; leaf values. -/
namespace Go.Proofs.YtfmnoljflcpbgaaGreatDoor
open Go.RowKit

/-- The cells of a cell; a tree's. -/
def CellD.cs (c : CellD) : List C := [.int .i64 c.kind, .int .i64 c.num, .str c.text, .str c.key, .int .i64 c.n]
def strCs (s : ByteArray) : List C := [.str s]
mutual
def V.cs : V → List C
  | .mk kind num text keys kids => [.int .i64 kind, .int .i64 num, .str text, .sl (keys.map strCs), .sl (csL kids)]
def csL : List V → List (List C)
  | [] => []
  | k :: ks => k.cs :: csL ks
end
theorem csL_eq : ∀ (l : List V), csL l = l.map V.cs
  | [] => rfl
  | k :: ks => by simp [csL, csL_eq ks]
theorem V.cs_eq (t : V) : t.cs = [.int .i64 t.kind, .int .i64 t.num, .str t.text, .sl (t.keys.map strCs), .sl (t.kids.map V.cs)] := by
  cases t
  simp [V.cs, csL_eq, V.kind, V.num, V.text, V.keys, V.kids]
/-- A tree as a value; a cell as a value. -/
def V.av (t : V) : AV := .agg [.c (.int .i64 t.kind), .c (.int .i64 t.num), .c (.str t.text), .c (.sl (t.keys.map strCs)), .c (.sl (t.kids.map V.cs))]
def CellD.av (c : CellD) : AV := .agg [.c (.int .i64 c.kind), .c (.int .i64 c.num), .c (.str c.text), .c (.str c.key), .c (.int .i64 c.n)]
def valsA (l : List V) : AV := .c (.sl (l.map V.cs))
def cellsA (l : List CellD) : AV := .c (.sl (l.map CellD.cs))
section
variable (k n : Int) (s : ByteArray) (ks : List ByteArray) (vs : List V)
theorem kind_mk : (V.mk k n s ks vs).kind = k := rfl
theorem num_mk : (V.mk k n s ks vs).num = n := rfl
theorem text_mk : (V.mk k n s ks vs).text = s := rfl
theorem keys_mk : (V.mk k n s ks vs).keys = ks := rfl
theorem kids_mk : (V.mk k n s ks vs).kids = vs := rfl
end
attribute [go_sem] V.av CellD.av valsA cellsA CellD.cs strCs V.cs_eq strV numV arrV nullV kind_mk num_mk text_mk keys_mk kids_mk

set_option maxRecDepth 10000
theorem fl_cell (c : CellD) : forgetL c.cs = c.cs := rfl
theorem fl_str (s : ByteArray) : forgetL (strCs s) = strCs s := rfl
theorem fl_tree (t : V) : forgetL t.cs = t.cs := by rw [V.cs_eq]; rfl
theorem forget_cells (l : List CellD) : forgetLL (l.map CellD.cs) = l.map CellD.cs := forget_map _ fl_cell l
theorem forget_strs (l : List ByteArray) : forgetLL (l.map strCs) = l.map strCs := forget_map _ fl_str l
theorem forget_trees (l : List V) : forgetLL (l.map V.cs) = l.map V.cs := forget_map _ fl_tree l
theorem strV_av (s : ByteArray) : (strV s).av = .agg [.c (.int .i64 4), .c (.int .i64 0), .c (.str s), .c (.sl []), .c (.sl [])] := rfl
theorem numV_av (n : Int) : (numV n).av = .agg [.c (.int .i64 3), .c (.int .i64 n), .c (.str ByteArray.empty), .c (.sl []), .c (.sl [])] := rfl
attribute [go_sem] forget_cells forget_strs forget_trees

theorem text_ac (s : ByteArray) : AC Tryz.prog 179 [.c (.str s)] [] (strV s).av [] := by
  rw [strV_av]
  refine wEnter Tryz.func179 Tryz.ntmps179 ?_
  refine wRUN trivial ?_
  exact wRet (ret_data []) Tryz.results179
theorem number_ac (n : Int) : AC Tryz.prog 180 [.c (.int .i64 n)] [] (numV n).av [] := by
  rw [numV_av]
  refine wEnter Tryz.func180 Tryz.ntmps180 ?_
  refine wRUN trivial ?_
  exact wRet (ret_data []) Tryz.results180
set_option maxHeartbeats 1000000 in
theorem keyAt_ac (t : V) (hn : t.neat) (i : Nat) (hi : i < t.kids.length) : AC Tryz.prog 140 [t.av, .c (.int .i64 i)] [] (t.keyV i).av [] := by
  by_cases h6 : t.kind = 6
  · obtain ⟨hkk, hke⟩ := keyAt_get hn h6 hi
    have hk : t.keyV i = strV t.keys[i] := by unfold V.keyV; rw [if_pos h6, hke]
    have hb : (t.kind == 6) = true := by simpa using h6
    have hr : rowsAt (t.keys.map strCs) 1 i = true := by simp [rowsAt, hkk, strCs]
    have hg : (t.keys.map strCs)[i]? = some [.str t.keys[i]] := by simp [hkk, strCs]
    rw [hk, strV_av]
    refine wEnter Tryz.func140 Tryz.ntmps140 ?_
    refine wRUN (j3 hb hr hg) ?_
    refine w7 (op_data [] (text_ac _)) trivial ?_
    refine wRUN trivial ?_
    exact wRet (ret_data []) Tryz.results140
  · have hk : t.keyV i = numV i := if_neg h6
    have hb : (t.kind == 6) = false := by simpa using h6
    rw [hk, numV_av]
    refine wEnter Tryz.func140 Tryz.ntmps140 ?_
    refine wRUN hb ?_
    refine w7 (op_data [] (number_ac _)) trivial ?_
    refine wRUN trivial ?_
    exact wRet (ret_data []) Tryz.results140
end Go.Proofs.YtfmnoljflcpbgaaGreatDoor

/- (impl.val).cells, by the engine. -/
namespace Go.Proofs.YtfmnoljflcpbgaaGreatDoor
open Go.RowKit
theorem all_cells (l : List CellD) : ((l.map CellD.cs).all fun r => r.length == 5) = true := by simp [CellD.cs]
theorem all_trees (l : List V) : ((l.map V.cs).all fun r => r.length == 5) = true := by simp [V.cs_eq]
theorem all_strs (l : List ByteArray) : ((l.map strCs).all fun r => r.length == 1) = true := by simp [strCs]
attribute [go_sem] all_cells all_trees all_strs
theorem wrap_succ {k : Nat} (h : k < 9000000000000000000) : IntKind.i64.wrap ((k : Int) + 1) = ((k + 1 : Nat) : Int) := by
  rw [IntWalk.i64_in _ (by omega)]
  simp
theorem enc_head (u : V) : (u.enc.map CellD.cs)[0]? = some [.int .i64 u.kind, .int .i64 u.num, .str u.text, .str ByteArray.empty, .int .i64 u.kids.length] := by
  cases u
  simp [V.enc, V.cells, CellD.cs, kind_mk, num_mk, text_mk, kids_mk]

set_option maxRecDepth 10000
end Go.Proofs.YtfmnoljflcpbgaaGreatDoor
