/- Texts of this proof: G89 E35. -/
import Derived.Test.YtfmnoljflcpbgaaGreatDoorKG84uG79
import Derived.Test.YtfmnoljflcpbgaaGreatDoorKE6
import Derived.Laws.IdiomStrings
import Derived.Laws.Strings2
import Derived.Laws.Slices
set_option linter.unusedSimpArgs false
set_option linter.unusedVariables false
set_option linter.unnecessarySimpa false
namespace Go.Proofs.YtfmnoljflcpbgaaGreatDoor
open Go.RowKit
set_option maxRecDepth 10000
theorem valAt_ac {t : V} (ht : t.right) {i : Nat} (hi : i < t.deep.length) : AC Tryz.prog 111 [cellsA t.enc, .c (.int .i64 (i : Int))] [] (.tup [(t.deep[i]).av, .c (.int .i64 ((i + (t.deep[i]).count : Nat) : Int)), .c (.bool true)]) [] := by
  have hdl := deep_len t
  have hel := enc_len t
  have hc := ht.2.1
  obtain ⟨k', rest, e⟩ := deep_drop t ByteArray.empty i hi
  have hs := deep_right t ht _ (List.getElem_mem hi)
  have hp := parseV_cells (t.deep[i]) k' rest t.enc.length hs.1.1 (by omega)
  rw [← e] at hp
  have hlen : rest.length = t.count - i - (t.deep[i]).count := by
    have := congrArg List.length e
    rw [List.length_drop, List.length_append, cells_len, cells_len] at this
    omega
  have hle : i + (t.deep[i]).count ≤ t.count := by
    have := congrArg List.length e
    rw [List.length_drop, List.length_append, cells_len, cells_len] at this
    omega
  refine AC.of_calls fun S w κ vs hv => ?_
  obtain ⟨v, vs', rfl, h1, hv2⟩ := hv
  obtain ⟨v2, vs2, rfl, h2, rfl⟩ := hv2
  obtain ⟨A, cap, rfl, _, hcs⟩ := cr_cells.1 h1
  obtain ⟨rfl, _⟩ := h2
  refine (valAt_any t.enc (by omega) (enc_n ht.1) t.enc.length (i : Int) A cap S w (by omega) (by omega) (by omega) hcs).mono ?_
  rintro e1 w' ⟨hb, he⟩
  rw [Int.toNat_natCast] at he
  unfold V.enc at he hp
  rw [hp] at he
  obtain ⟨vs, rfl, hr⟩ := he
  refine ⟨hb, _, rfl, fun T _ hT => ⟨[_, _, _], rfl, _, _, rfl, ar_tree (hr.weaken fun b hb _ => hT b hb), _, _, rfl, ⟨?_, rfl⟩, _, _, rfl, ⟨rfl, rfl⟩, rfl⟩⟩
  show Value.int .i64 _ = Value.int .i64 _
  congr 1
  have : (t.cells ByteArray.empty).length = t.count := cells_len t _
  dsimp only
  omega
theorem endAt_ac {t : V} (ht : t.right) {i : Nat} (hi : i < t.deep.length) : AC Tryz.prog 95 [cellsA t.enc, .c (.int .i64 (i : Int))] [] (.c (.int .i64 ((i + (t.deep[i]).count : Nat) : Int))) [] := by
  have hv := valAt_ac ht hi
  generalize t.deep[i] = s at *
  refine wEnter Tryz.func95 Tryz.ntmps95 ?_
  refine wRUN trivial ?_
  refine w9 (op_shared [] hv) trivial ?_
  refine wRUN trivial ?_
  exact wRet (ret_data []) Tryz.results95
theorem sizeCells_ac (l : List CellD) : AC Tryz.prog 109 [cellsA l] [] (.c (.int .i64 l.length)) [] := by
  have hn : (l.map CellD.cs).length = l.length := by simp
  refine wEnter Tryz.func109 Tryz.ntmps109 ?_
  refine wRUN trivial ?_
  exact wRet (ret_data []) Tryz.results109
theorem placeFault_ac {t : V} (ht : t.right) {i : Nat} (hi : i < t.count) : AC Tryz.prog 93 [cellsA t.enc, .c (.int .i64 (i : Int))] [] (.c (.int .i64 0)) [] := by
  have f1 := faultS ht
  have hs := sizeCells_ac t.enc
  have hel := enc_len t
  rw [hel] at hs
  have hc := ht.2.1
  have hw : IntKind.i64.wrap ((t.count : Int) - 1) = ((t.count - 1 : Nat) : Int) := wrapN (by omega) (by omega)
  have hwi := within_ac (i : Int) 0 ((t.count - 1 : Nat) : Int)
  have h1 : decide ((i : Int) ≥ 0) = true := decide_eq_true (by omega)
  have h2 : decide ((i : Int) ≤ ((t.count - 1 : Nat) : Int)) = true := decide_eq_true (by omega)
  rw [h1, h2] at hwi
  have h00 : ((0 : Int) != 0) = false := rfl
  generalize t.enc = te at *
  refine wEnter Tryz.func93 Tryz.ntmps93 ?_
  refine wRUN trivial ?_
  refine w7 (op_data [] f1) trivial ?_
  refine wRUN h00 ?_
  refine w7 (op_data [] hs) trivial ?_
  refine wRUN hw ?_
  refine w7 (op_data [] hwi) trivial ?_
  refine wRUN trivial ?_
  exact wRet (ret_data []) Tryz.results93
theorem cells_key (s : V) (k' : ByteArray) : ((s.cells k').map CellD.cs).set 0 [.int .i64 s.kind, .int .i64 s.num, .str s.text, .str ByteArray.empty, .int .i64 s.kids.length] = s.enc.map CellD.cs := by
  cases s
  simp [V.enc, V.cells, CellD.cs, kind_mk, num_mk, text_mk, kids_mk]
theorem cells_key0 (s : V) (k' : ByteArray) : ((s.cells k').map CellD.cs)[0]? = some [.int .i64 s.kind, .int .i64 s.num, .str s.text, .str k', .int .i64 s.kids.length] := by
  cases s
  simp [V.cells, CellD.cs, kind_mk, num_mk, text_mk, kids_mk]
theorem partAt_ac {t : V} (ht : t.right) {i : Nat} (hi : i < t.deep.length) : AC Tryz.prog 40 [cellsA t.enc, .c (.int .i64 (i : Int))] [] (.agg [.c (.int .i64 0), .c (.sl ((t.deep[i]).enc.map CellD.cs))]) [] := by
  have hdl := deep_len t
  have hel := enc_len t
  have hc := ht.2.1
  have hpf := placeFault_ac ht (i := i) (by omega)
  have hen := endAt_ac ht hi
  obtain ⟨k', rest, e⟩ := deep_drop t ByteArray.empty i hi
  have hs := deep_right t ht _ (List.getElem_mem hi)
  have hcl := cells_len (t.deep[i]) k'
  have hle : i + (t.deep[i]).count ≤ t.count := by
    have := congrArg List.length e
    rw [List.length_drop, List.length_append, cells_len, cells_len] at this
    omega
  have hcut : ((t.enc.map CellD.cs).take (i + (t.deep[i]).count)).drop i = ((t.deep[i]).cells k').map CellD.cs := by
    rw [List.drop_take, ← List.map_drop]
    show (List.map CellD.cs ((t.cells ByteArray.empty).drop i)).take _ = _
    rw [e, List.map_append, List.take_append_of_le_length (by rw [List.length_map]; omega), List.take_of_length_le (by rw [List.length_map]; omega)]
  have hclone := cloneCells_ac ((t.deep[i]).cells k') (by omega)
  have hset := cells_key (t.deep[i]) k'
  have hg0 := cells_key0 (t.deep[i]) k'
  have hr0 : rowsAt (((t.deep[i]).cells k').map CellD.cs) 5 0 = true := by unfold rowsAt; rw [show (0 : Int).toNat = 0 from rfl, hg0]; rfl
  have hnl : (t.enc.map CellD.cs).length = t.count := by rw [List.length_map]; exact hel
  have h00 : ((0 : Int) != 0) = false := rfl
  have hb1 : (0 : Int) ≤ (i : Int) := by omega
  have hb2 : (0 : Int) ≤ ((i + (t.deep[i]).count : Nat) : Int) := by omega
  have hb3 : i ≤ i + (t.deep[i]).count := by omega
  have hall := all_cells t.enc
  generalize t.deep[i] = s at *
  generalize ((s.cells k').map CellD.cs) = SR at *
  generalize t.enc = te at *
  refine wEnter Tryz.func40 Tryz.ntmps40 ?_
  refine wRUN trivial ?_
  refine w7 (op_data [] hpf) trivial ?_
  refine wRUN h00 ?_
  refine w7 (op_data [] hen) trivial ?_
  refine wRUN (j6 hnl hle hb1 hb2 hb3 hcut) ?_
  refine w12 (op_rowF [] hclone) trivial ?_
  refine wRUN (j3 hr0 hg0 hset) ?_
  exact wRetOf (ret_of [] [(20, 0)]) Tryz.results40 h00
end Go.Proofs.YtfmnoljflcpbgaaGreatDoor

/- The engine: string(b) of a row of bytes of the call's own. -/
namespace Go.Proofs.YtfmnoljflcpbgaaGreatDoor
open Go.RowKit
section
variable {P : Program} {o : Oper} {σ : ASt} {src dst e t : TypeId}
def byteRows (l : List UInt8) : List (List C) := l.map fun b => [.int .u8 (b.toNat : Int)]
theorem byte_row {w : World} {S : Nat → Prop} {b : UInt8} {vr : List Value} {bs : List Nat} (h : CRs w S [.int .u8 (b.toNat : Int)] vr bs) : vr = [.int .u8 (b.toNat : Int)] := by
  simp only [CRs, CR] at h
  obtain ⟨v, vs', b1, b2, rfl, _, ⟨rfl, _⟩, rfl, _⟩ := h
  rfl
theorem run_conv {x : Operand} {i : Id} (l : List UInt8) (hl : l ≠ []) (ho : o.op = .convert src dst x) (hx : σ.ev x = .own i) (hs : P.underlying src = some (.slice e)) (he : P.underlying e = some (.int .u8)) (hd : P.underlying dst = some .string)
    (hi : σ.mem.get i = some (.row false 1 t (byteRows l))) : OpRun P o σ ⟨[i], [], .c (.str ⟨l.toArray⟩)⟩ := by
  refine OpRun.pure fun Γ σ' a w ow κ hag hr => ?_
  have hi' : σ'.mem.get i = some (.row false 1 t (byteRows l)) := by rw [hag.2.1 i (by simp), hi]
  obtain ⟨_, o1, k1, k2⟩ := hag.ev hr (by rw [ho]; simp [Op.operands]) hx
  rw [hi'] at k1
  cases k1
  have e1 := k2 (by simp)
  obtain ⟨vrows, bs, h1, h2, h3, h4, h5, h6⟩ := hr.objs i _ hi'
  have hlen := CRss.length h1
  have hrl : (byteRows l).length = l.length := by simp [byteRows]
  have hl0 : 0 < l.length := List.length_pos_iff.2 hl
  obtain ⟨A, cap, hA, hc1, hc2, hrow⟩ := Row.of_owns h3 (n := (byteRows l).length) (by omega) (.inl Nat.one_pos) h4 (T := fun _ => True) (fun _ _ => trivial)
  obtain ⟨b, off, rfl, _, _, hcl⟩ := hrow.2 (by omega)
  refine ⟨.string ⟨l.toArray⟩, ?_, ⟨rfl, rfl⟩⟩
  have hc : ∀ j (hj : j < l.length), w.cell? ((⟨b, off, none⟩ : Addr).add j) = some (.int .u8 (l[j].toNat : Int)) := by
    intro j hj
    obtain ⟨vr, b', g1, g2, _⟩ := CRss.at_ h1 (i := j) (row := [.int .u8 (l[j].toNat : Int)]) (by simp [byteRows, hj])
    have g3 := byte_row g2
    subst g3
    have := hcl j _ g1 0 _ rfl
    by_cases hj0 : j = 0
    · subst hj0
      simpa [Addr.add] using this
    · simpa [Addr.add, hj0] using this
  have hrun := run_convert_bytes_back w src dst e ⟨b, off, none⟩ cap l hs he hd hc
  unfold execOp
  rw [ho]
  rw [hrl] at hA
  simp [e1, hA, hrun]
theorem run_sub {x lo hi : Operand} {s : ByteArray} {i j : Int} (ho : o.op = .slice t x (some lo) (some hi) none) (hx : σ.ev x = .c (.str s)) (hlo : σ.ev lo = .c (.int .i64 i)) (hhi : σ.ev hi = .c (.int .i64 j)) (ht : P.underlying t = some .string)
    (h0 : 0 ≤ i) (h1 : i ≤ j) (h2 : j ≤ s.size) : OpRun P o σ ⟨[], [], .c (.str (s.extract i.toNat j.toNat))⟩ := by
  refine OpRun.pure fun Γ σ' a w ow κ hag hr => ?_
  have e1 := AR.str (hag.ev hr (by rw [ho]; simp [Op.operands]) hx)
  have e2 := (hag.ev hr (by rw [ho]; simp [Op.operands]) hlo).1
  have e3 := (hag.ev hr (by rw [ho]; simp [Op.operands]) hhi).1
  refine ⟨.string (s.extract i.toNat j.toNat), ?_, ⟨rfl, rfl⟩⟩
  have hrun := run_slice_string (P := P) w t s .i64 .i64 i j ht h0 h1 h2
  unfold execOp
  rw [ho]
  simp [e1, e2, e3, hrun, run_sliceAt_string _ t _ _ _ _ ht]
end
section
variable {P : Program} {σ τ : ASt} {ops : Array Oper} {r : List Oper} {fs : List AEff} {K : ASt → List AEff → Prop} {E : AEff} {src dst e t : TypeId} {d : Option Tmp} {ty' : TypeId} {pos : String} {af : Array Edge} {gd : Option (Nat × Bool)}
theorem op_conv {x : Operand} {i : Id} {y : ByteArray} (l : List UInt8) (hy : (⟨l.toArray⟩ : ByteArray) = y) (hl : l ≠ []) (hs : P.underlying src = some (.slice e)) (he : P.underlying e = some (.int .u8)) (hd : P.underlying dst = some .string)
    (hg : gate ops σ ⟨d, .convert src dst x, ty', pos, af, gd⟩ = some true) (hn : eff P σ.ev σ.mem.get (σ.fresh ⟨d, .convert src dst x, ty', pos, af, gd⟩) ⟨d, .convert src dst x, ty', pos, af, gd⟩ = none) (hx : σ.ev x = .own i) (hi : σ.mem.get i = some (.row false 1 t (byteRows l)))
    (hE : (⟨[i], [], .c (.str y)⟩ : AEff) = E) (hτ : σ.upd d E = τ) (h : awpOps P ops r τ (fs ++ [E]) K) : awpOps P ops (⟨d, .convert src dst x, ty', pos, af, gd⟩ :: r) σ fs K := by
  subst hE hy
  exact op_sound hg hn (run_conv l hl rfl hx hs he hd hi).sound hτ h
theorem op_sub {t : TypeId} {x lo hi : Operand} {s y : ByteArray} {i j : Int} (hy : s.extract i.toNat j.toNat = y) (h0 : 0 ≤ i) (h1 : i ≤ j) (h2 : j ≤ s.size) (ht : P.underlying t = some .string)
    (hg : gate ops σ ⟨d, .slice t x (some lo) (some hi) none, ty', pos, af, gd⟩ = some true) (hn : eff P σ.ev σ.mem.get (σ.fresh ⟨d, .slice t x (some lo) (some hi) none, ty', pos, af, gd⟩) ⟨d, .slice t x (some lo) (some hi) none, ty', pos, af, gd⟩ = none) (hx : σ.ev x = .c (.str s)) (hlo : σ.ev lo = .c (.int .i64 i)) (hhi : σ.ev hi = .c (.int .i64 j))
    (hE : (⟨[], [], .c (.str y)⟩ : AEff) = E) (hτ : σ.upd d E = τ) (h : awpOps P ops r τ (fs ++ [E]) K) : awpOps P ops (⟨d, .slice t x (some lo) (some hi) none, ty', pos, af, gd⟩ :: r) σ fs K := by
  subst hE hy
  exact op_sound hg hn (run_sub rfl hx hlo hhi ht h0 h1 h2).sound hτ h
end
end Go.Proofs.YtfmnoljflcpbgaaGreatDoor
