/- Texts of this proof: E35 E38 D01 D02 E32 E34. -/
import Derived.Test.YtlciedpfjhkkdaaGreatDoorKE6
import Derived.Laws.IdiomStrings
import Derived.Laws.Strings2
import Derived.Laws.Slices
import Derived.Lib.AppendStr
import Derived.Lib.Builder
import Derived.Laws.StructEq
import Derived.WideLaws
import Derived.Test.YtlciedpfjhkkdaaGreatDoorKM28uM46
import Derived.Test.YtlciedpfjhkkdaaGreatDoorKG01uG02
set_option linter.unusedSimpArgs false
set_option linter.unusedVariables false
set_option linter.unnecessarySimpa false
namespace Go.Proofs.YtlciedpfjhkkdaaGreatDoor
open Go.RowKit
section
variable {P : Program} {o : Oper} {σ : ASt} {src dst e t : TypeId}
def byteRows (l : List UInt8) : List (List C) := l.map fun b => [.int .u8 (b.toNat : Int)]
theorem byte_row {w : World} {S : Nat → Prop} {b : UInt8} {vr : List Value} {bs : List Nat} (h : CRs w S [.int .u8 (b.toNat : Int)] vr bs) : vr = [.int .u8 (b.toNat : Int)] := by
 simp only [CRs, CR] at h
 obtain ⟨v, vs', b1, b2, rfl, _, ⟨rfl, _⟩, rfl, _⟩ := h
 rfl
theorem run_conv {x : Operand} {i : Id} (l : List UInt8) (hl : l ≠ []) (ho : o.op = .convert src dst x) (hx : σ.ev x = .own i) (hs : P.underlying src = some (.slice e)) (he : P.underlying e = some (.int .u8)) (hd : P.underlying dst = some .string)
  (hi : σ.mem.get i = some (.row false 1 t (byteRows l))) : OpRun P o σ ⟨[i], [], .c (.str ⟨l.toArray⟩)⟩ := by
 refine OpRun.pure fun Γ σ' a w ow κ hag hr => ?_
 have hi' : σ'.mem.get i = some (.row false 1 t (byteRows l)) := by rw [hag.2.1 i (by simp), hi]
 obtain ⟨_, o1, k1, k2⟩ := hag.ev hr (by rw [ho]; simp [Op.operands]) hx
 rw [hi'] at k1
 cases k1
 have e1 := k2 (by simp)
 obtain ⟨vrows, bs, h1, h2, h3, h4, h5, h6⟩ := hr.objs i _ hi'
 have hlen := CRss.length h1
 have hrl : (byteRows l).length = l.length := by simp [byteRows]
 have hl0 : 0 < l.length := List.length_pos_iff.2 hl
 obtain ⟨A, cap, hA, hc1, hc2, hrow⟩ := Row.of_owns h3 (n := (byteRows l).length) (by omega) (.inl Nat.one_pos) h4 (T := fun _ => True) (fun _ _ => trivial)
 obtain ⟨b, off, rfl, _, _, hcl⟩ := hrow.2 (by omega)
 refine ⟨.string ⟨l.toArray⟩, ?_, ⟨rfl, rfl⟩⟩
 have hc : ∀ j (hj : j < l.length), w.cell? ((⟨b, off, none⟩ : Addr).add j) = some (.int .u8 (l[j].toNat : Int)) := by
  intro j hj
  obtain ⟨vr, b', g1, g2, _⟩ := CRss.at_ h1 (i := j) (row := [.int .u8 (l[j].toNat : Int)]) (by simp [byteRows, hj])
  have g3 := byte_row g2
  subst g3
  have := hcl j _ g1 0 _ rfl
  by_cases hj0 : j = 0
  ·subst hj0
   simpa [Addr.add] using this
  ·simpa [Addr.add, hj0] using this
 have hrun := run_convert_bytes_back w src dst e ⟨b, off, none⟩ cap l hs he hd hc
 unfold execOp
 rw [ho]
 rw [hrl] at hA
 simp [e1, hA, hrun]
theorem run_sub {x lo hi : Operand} {s : ByteArray} {i j : Int} (ho : o.op = .slice t x (some lo) (some hi) none) (hx : σ.ev x = .c (.str s)) (hlo : σ.ev lo = .c (.int .i64 i)) (hhi : σ.ev hi = .c (.int .i64 j)) (ht : P.underlying t = some .string)
  (h0 : 0 ≤ i) (h1 : i ≤ j) (h2 : j ≤ s.size) : OpRun P o σ ⟨[], [], .c (.str (s.extract i.toNat j.toNat))⟩ := by
 refine OpRun.pure fun Γ σ' a w ow κ hag hr => ?_
 have e1 := AR.str (hag.ev hr (by rw [ho]; simp [Op.operands]) hx)
 have e2 := (hag.ev hr (by rw [ho]; simp [Op.operands]) hlo).1
 have e3 := (hag.ev hr (by rw [ho]; simp [Op.operands]) hhi).1
 refine ⟨.string (s.extract i.toNat j.toNat), ?_, ⟨rfl, rfl⟩⟩
 have hrun := run_slice_string (P := P) w t s .i64 .i64 i j ht h0 h1 h2
 unfold execOp
 rw [ho]
 simp [e1, e2, e3, hrun, run_sliceAt_string _ t _ _ _ _ ht]
end
section
variable {P : Program} {σ τ : ASt} {ops : Array Oper} {r : List Oper} {fs : List AEff} {K : ASt → List AEff → Prop} {E : AEff} {src dst e t : TypeId} {d : Option Tmp} {ty' : TypeId} {pos : String} {af : Array Edge} {gd : Option (Nat × Bool)}
theorem op_conv {x : Operand} {i : Id} {y : ByteArray} (l : List UInt8) (hy : (⟨l.toArray⟩ : ByteArray) = y) (hl : l ≠ []) (hs : P.underlying src = some (.slice e)) (he : P.underlying e = some (.int .u8)) (hd : P.underlying dst = some .string)
  (hg : gate ops σ ⟨d, .convert src dst x, ty', pos, af, gd⟩ = some true) (hn : eff P σ.ev σ.mem.get (σ.fresh ⟨d, .convert src dst x, ty', pos, af, gd⟩) ⟨d, .convert src dst x, ty', pos, af, gd⟩ = none) (hx : σ.ev x = .own i) (hi : σ.mem.get i = some (.row false 1 t (byteRows l)))
  (hE : (⟨[i], [], .c (.str y)⟩ : AEff) = E) (hτ : σ.upd d E = τ) (h : awpOps P ops r τ (fs ++ [E]) K) : awpOps P ops (⟨d, .convert src dst x, ty', pos, af, gd⟩ :: r) σ fs K := by
 subst hE hy
 exact op_sound hg hn (run_conv l hl rfl hx hs he hd hi).sound hτ h
theorem op_sub {t : TypeId} {x lo hi : Operand} {s y : ByteArray} {i j : Int} (hy : s.extract i.toNat j.toNat = y) (h0 : 0 ≤ i) (h1 : i ≤ j) (h2 : j ≤ s.size) (ht : P.underlying t = some .string)
  (hg : gate ops σ ⟨d, .slice t x (some lo) (some hi) none, ty', pos, af, gd⟩ = some true) (hn : eff P σ.ev σ.mem.get (σ.fresh ⟨d, .slice t x (some lo) (some hi) none, ty', pos, af, gd⟩) ⟨d, .slice t x (some lo) (some hi) none, ty', pos, af, gd⟩ = none) (hx : σ.ev x = .c (.str s)) (hlo : σ.ev lo = .c (.int .i64 i)) (hhi : σ.ev hi = .c (.int .i64 j))
  (hE : (⟨[], [], .c (.str y)⟩ : AEff) = E) (hτ : σ.upd d E = τ) (h : awpOps P ops r τ (fs ++ [E]) K) : awpOps P ops (⟨d, .slice t x (some lo) (some hi) none, ty', pos, af, gd⟩ :: r) σ fs K := by
 subst hE hy
 exact op_sound hg hn (run_sub rfl hx hlo hhi ht h0 h1 h2).sound hτ h
end
end Go.Proofs.YtlciedpfjhkkdaaGreatDoor
namespace Go.Proofs.YtlciedpfjhkkdaaGreatDoor
open Go.RowKit
def errR : Value → List (Nat × Obj) → Prop := fun v l => l = [] ∧ v.oneCell' = true ∧ ∃ t x, v = .iface t x
section
variable {P : Program} {o : Oper} {σ : ASt}
theorem run_neqS {t t' : TypeId} {y z : Operand} {k : IntKind} {a b : Int} {s u : ByteArray} {r : Bool} (ho : o.op = .binOp .neq t y z t') (hy : σ.ev y = .agg [.c (.int k a), .c (.str s)]) (hz : σ.ev z = .agg [.c (.int k b), .c (.str u)])
  (hm : P.eqGuardType P.depth t = false) (hq : ∀ w, (Op.equalIn 10000 t (.agg #[.int k a, .string s]) (.agg #[.int k b, .string u])).run P w = .ok r w) : OpRun P o σ ⟨[], [], .c (.bool (!r))⟩ := by
 refine OpRun.pure fun Γ σ' a' w ow κ hag hr => ?_
 obtain ⟨vs, e1, h1, _⟩ := hag.ev hr (by rw [ho]; simp [Op.operands]) hy
 obtain ⟨us, e2, h2, _⟩ := hag.ev hr (by rw [ho]; simp [Op.operands]) hz
 simp only [ARs, AR, CR] at h1 h2
 obtain ⟨_, _, rfl, ⟨rfl, _⟩, _, _, rfl, ⟨rfl, _⟩, rfl⟩ := h1
 obtain ⟨_, _, rfl, ⟨rfl, _⟩, _, _, rfl, ⟨rfl, _⟩, rfl⟩ := h2
 refine ⟨.bool (!r), ?_, rfl, rfl⟩
 unfold execOp
 rw [ho]
 simp [e1, e2, run_eqGuard_agg _ _ _ _ _ _ _ hm, run_neq_struct, hq]
theorem run_errEq {op : BinOp} {t t' : TypeId} {y z : Operand} {i : Id} {x : AV} (ho : o.op = .binOp op t y z t') (hy : σ.ev y = .own i) (hz : σ.ev z = .c (.raw .nilIface)) (hi : σ.mem.get i = some (.gen errR))
  (ht : P.underlying t = some (.interface (P.methodsAt t))) (he : effEq op false = some x) : OpRun P o σ ⟨[i], [], x⟩ := by
 refine OpRun.pure fun Γ σ' a w ow κ hag hr => ?_
 have hi' : σ'.mem.get i = some (.gen errR) := by rw [hag.2.1 i (by simp), hi]
 obtain ⟨_, o1, k1, k2⟩ := hag.ev hr (by rw [ho]; simp [Op.operands]) hy
 rw [hi'] at k1
 cases k1
 have e1 := k2 (by simp)
 have e2 := (hag.ev hr (by rw [ho]; simp [Op.operands]) hz).1
 obtain ⟨l, _, _, _, q, x', hx⟩ := hr.objs i _ hi'
 rw [hx] at e1
 refine run_eqv (b := false) ho he e1 e2 (fun op => ?_) (run_eql_held_nil w t q x' ht) (run_neq_held_nil w t q x' ht)
 unfold eqGuard
 cases op <;> simp
theorem run_nilEq {op : BinOp} {t t' : TypeId} {y : Operand} {q : Value} {x : AV} (ho : o.op = .binOp op t y (.const q) t') (hy : σ.ev y = .c (.raw .nilIface)) (hz : σ.ev (.const q) = .c (.raw .nilIface))
  (ht : P.underlying t = some (.interface (P.methodsAt t))) (he : effEq op true = some x) : OpRun P o σ ⟨[], [], x⟩ := by
 refine OpRun.pure fun Γ σ' a w ow κ hag hr => ?_
 have e1 := (hag.ev hr (by rw [ho]; simp [Op.operands]) hy).1
 have e2 := (hag.ev hr (by rw [ho]; simp [Op.operands]) hz).1
 refine run_eqv (b := true) ho he e1 e2 (fun op => ?_) (run_eql_nil_nil w t ht) (run_neq_nil_nil w t ht)
 unfold eqGuard
 cases op <;> simp
end
section
variable {P : Program} {σ τ : ASt} {ops : Array Oper} {r : List Oper} {fs : List AEff} {K : ASt → List AEff → Prop} {E : AEff} {d : Option Tmp} {ty' : TypeId} {pos : String} {af : Array Edge} {gd : Option (Nat × Bool)}
theorem op_neqS {t t' : TypeId} {y z : Operand} {k : IntKind} {a b : Int} {s u : ByteArray} {q : Bool} (hm : P.eqGuardType P.depth t = false) (hq : ∀ w, (Op.equalIn 10000 t (.agg #[.int k a, .string s]) (.agg #[.int k b, .string u])).run P w = .ok q w)
  (hg : gate ops σ ⟨d, .binOp .neq t y z t', ty', pos, af, gd⟩ = some true) (hy : σ.ev y = .agg [.c (.int k a), .c (.str s)]) (hz : σ.ev z = .agg [.c (.int k b), .c (.str u)])
  (hE : (⟨[], [], .c (.bool (!q))⟩ : AEff) = E) (hτ : σ.upd d E = τ) (h : awpOps P ops r τ (fs ++ [E]) K) : awpOps P ops (⟨d, .binOp .neq t y z t', ty', pos, af, gd⟩ :: r) σ fs K := by
 subst hE
 exact op_known hg (run_neqS rfl hy hz hm hq).sound hτ h
theorem op_errEq {op : BinOp} {t t' : TypeId} {y z : Operand} {i : Id} {x : AV} (ht : P.underlying t = some (.interface (P.methodsAt t))) (hg : gate ops σ ⟨d, .binOp op t y z t', ty', pos, af, gd⟩ = some true) (hy : σ.ev y = .own i) (hz : σ.ev z = .c (.raw .nilIface)) (hi : σ.mem.get i = some (.gen errR)) (he : effEq op false = some x)
  (hE : (⟨[i], [], x⟩ : AEff) = E) (hτ : σ.upd d E = τ) (h : awpOps P ops r τ (fs ++ [E]) K) : awpOps P ops (⟨d, .binOp op t y z t', ty', pos, af, gd⟩ :: r) σ fs K := by
 subst hE
 exact op_known hg (run_errEq rfl hy hz hi ht he).sound hτ h
theorem op_nilEq {op : BinOp} {t t' : TypeId} {y : Operand} {q : Value} {x : AV} (ht : P.underlying t = some (.interface (P.methodsAt t))) (hg : gate ops σ ⟨d, .binOp op t y (.const q) t', ty', pos, af, gd⟩ = some true) (hy : σ.ev y = .c (.raw .nilIface)) (hz : σ.ev (.const q) = .c (.raw .nilIface)) (he : effEq op true = some x)
  (hE : (⟨[], [], x⟩ : AEff) = E) (hτ : σ.upd d E = τ) (h : awpOps P ops r τ (fs ++ [E]) K) : awpOps P ops (⟨d, .binOp op t y (.const q) t', ty', pos, af, gd⟩ :: r) σ fs K := by
 subst hE
 exact op_known hg (run_nilEq rfl hy hz ht he).sound hτ h
end
end Go.Proofs.YtlciedpfjhkkdaaGreatDoor
namespace Go.Proofs.YtlciedpfjhkkdaaGreatDoor
open Go.RowKit
set_option maxRecDepth 10000
theorem cast_beq (n m : Nat) : ((n : Int) == (m : Int)) = (n == m) := by
 rw [Bool.eq_iff_iff]; simp; omega
theorem blank_cast (n : Nat) : blankB n = ((((n : Int) == 32) || ((n : Int) == 9)) || ((n : Int) == 10) || ((n : Int) == 13)) := by
 unfold blankB
 rw [Bool.eq_iff_iff]; simp; omega
theorem dig_cast (n : Nat) : digB n = (decide ((n : Int) ≥ 48) && decide ((n : Int) ≤ 57)) := by
 unfold digB
 rw [Bool.eq_iff_iff]; simp; omega
set_option maxRecDepth 10000
theorem u8_in {n : Int} (h0 : 0 ≤ n) (h1 : n < 256) : IntKind.u8.wrap n = n := IntWalk.u8_in _ (by omega)
theorem i64_in {n : Int} (h0 : -9223372036854775808 ≤ n) (h1 : n ≤ 9223372036854775807) : IntKind.i64.wrap n = n := IntWalk.i64_in _ (by omega)
end Go.Proofs.YtlciedpfjhkkdaaGreatDoor
namespace Go.Proofs.YtlciedpfjhkkdaaGreatDoor
open Go.RowKit
section
variable {P : Program}
section
variable {σ : ASt} {a : Act} {w : World} {Γ : Ctx}
theorem returns_exitL {ow : Nat → Option Id} {κ : Id → Value} (h : RelAt Γ σ a w ow κ) {fn : Func} {m : Mem} {res : AV} {m' : Mem} (hΓ : ∀ i o o', m.get i = some o → m'.get i = some o' → i ∈ Γ.ext) (hR : Returns P fn m res m' σ) : ∃ v, (results fn a.tmps).run P w = .ok v w ∧ ∃ ow' κ', ExitAt Γ m m' w res v ow' κ' := by
 obtain ⟨r, h1, ρ, bw, h2, h3, h4, h5⟩ := hR
 obtain ⟨v, g1, g2⟩ := resAV_run h h1
 have hS : ∀ b, Γ.sees ow b → Γ.sees (owRen ρ m' ow) b := fun b hb => ⟨owRen_none hb.1, hb.2⟩
 have hT : ∀ b j, j ∈ bw → ow b = some j → Γ.sees (owRen ρ m' ow) b := fun b j hj hb => ⟨owRen_bw h4 hj hb, by
  by_cases h1 : Γ.w.heap.size ≤ b
  ·exact .inr (.inl h1)
  ·by_cases h2 : Γ.ow b = none
   ·have := (h.frame b (by omega) h2).2
    rw [this] at hb
    cases hb
   ·exact .inr (.inr h2)⟩
 refine ⟨v, g1, owRen ρ m' ow, kRen ρ κ, Mat.rep h4 hS hT h.objs h2 h3 g2, fun i o hi => MatO.rep h4 hS hT h.objs hi, fun b i hb => ?_, h.os, h.tape, h.output, h.size, fun b hb h0 => ?_, fun i o o' hi hi' => ?_⟩
 ·obtain ⟨⟨o, h1, h2⟩, j, _, h3⟩ := owRen_inv h4.nd hb
  exact ⟨(h.own b j h3).1, o, h1, h2⟩
 ·obtain ⟨h1, h2⟩ := h.frame b hb h0
  exact ⟨h1, owRen_none h2⟩
 ·have := h5 (i, o) (Mem.mem_of_get hi) (by simp [hi'])
  simp only at this
  simp only [kRen, this]
  exact (h.kap i (hΓ i o o' hi hi')).1
end
theorem AC.intro_ext (L : List Id) {f : FuncId} {fn : Func} {c : Code} {args : List AV} {m : Mem} {res : AV} {m' : Mem} (hm : P.follows .mixedOrders = true) (hf : P.funcs[f]? = some fn) (hb : fn.body = some c)
  (hL : (L.all fun i => (m.get i).isSome) = true) (hL' : (m'.all fun p => !(m.get p.1).isSome || L.contains p.1) = true)
  (h : awp P L c (fun e σ => match e with
   | .exit _ => False
   | _ => Returns P fn m res m' σ) ⟨args ++ List.replicate (fn.ntmps - args.length) .undef, m⟩) : AC P f args m res m' := by
 intro Γ vals hent hargs
 refine calls_of_wp hf hb ?_
 have hl := hargs.length
 have hr : Rel { Γ with ext := L } ⟨args ++ List.replicate (fn.ntmps - args.length) .undef, m⟩ { tmps := vals.toArray ++ Array.replicate (fn.ntmps - vals.toArray.size) undef, defers := [] } Γ.w := by
  refine ⟨Γ.ow, Γ.κ, by simp [hl], rfl, fun t => ?_, hent.objs, hent.own, rfl, rfl, rfl, Nat.le_refl _, fun b _ h0 => ⟨rfl, h0⟩, fun i hi => ⟨rfl, ?_⟩⟩
  ·have := ARs.getD hargs t
   by_cases ht : t < args.length
   ·have e1 : (⟨args ++ List.replicate (fn.ntmps - args.length) .undef, m⟩ : ASt).slot t = args.getD t .undef := by
     simp only [ASt.slot, List.getD, List.getElem?_append_left ht]
    have e2 : (vals.toArray ++ Array.replicate (fn.ntmps - vals.toArray.size) undef).getD t undef = vals.getD t undef := by
     rw [Array.getD_eq_getD_getElem?, Array.getElem?_append_left (by simp; omega)]
     simp [List.getD]
    show AR _ _ _ _ (ASt.slot _ t) (Array.getD _ t undef)
    rw [e1, e2]
    exact this
   ·have e1 : (⟨args ++ List.replicate (fn.ntmps - args.length) .undef, m⟩ : ASt).slot t = .undef := by
     simp only [ASt.slot, List.getD, List.getElem?_append_right (Nat.le_of_not_lt ht), List.getElem?_replicate]
     split <;> rfl
    show AR _ _ _ _ (ASt.slot _ t) (Array.getD _ t undef)
    rw [e1]
    trivial
  ·exact Option.isSome_iff_exists.1 (List.all_eq_true.1 hL i hi)
 have h' : awp P ({ Γ with ext := L } : Ctx).ext c _ _ := h
 refine wp_mono (awp_sound hm c _ _ _ _ h' hr) ?_
 intro e a' w' hq
 have fin : ∀ τ, Rel { Γ with ext := L } τ a' w' → Returns P fn m res m' τ → a'.defers = [] ∧ ∃ v, (results fn a'.tmps).run P w' = .ok v w' ∧ ∃ v', ∃ ow κ, Ending.returned v = .returned v' ∧ ExitAt Γ m m' w' res v' ow κ := by
  rintro τ ⟨ow, κ, hr'⟩ hR
  obtain ⟨v, g1, ow', κ', g2⟩ := returns_exitL hr' (fun i o o' h1 h2 => by
   have := List.all_eq_true.1 hL' (i, o') (Mem.mem_of_get h2)
   simp only [h1, Option.isSome_some, Bool.not_true, Bool.false_or] at this
   exact List.contains_iff_mem.1 this) hR
  exact ⟨hr'.defers, v, g1, v, ow', κ', rfl, ⟨g2.res, g2.objs, g2.own, g2.os, g2.tape, g2.output, g2.size, g2.frame, g2.kap⟩⟩
 cases e with
 | normal => obtain ⟨τ, h1, h2⟩ := hq; exact fin τ h1 h2
 | ret => obtain ⟨τ, h1, h2⟩ := hq; exact fin τ h1 h2
 | exit id => obtain ⟨τ, h1, h2⟩ := hq; exact h2
 | goto l => exact hq.elim
 | panic ch => exact hq.elim
 | outgrown => exact hq.elim
theorem AC.intro_spx (L : List Id) {f : FuncId} {fn : Func} {c : Code} {args : List AV} {m : Mem} {res : AV} {m' : Mem} {n : Nat} (hm : P.follows .mixedOrders = true) (hf : P.funcs[f]? = some fn) (hb : fn.body = some c) (hn : fn.ntmps = n) (hl : args.length ≤ n)
  (hL : (L.all fun i => (m.get i).isSome) = true) (hL' : (m'.all fun p => !(m.get p.1).isSome || L.contains p.1) = true)
  (h : awp P L c (fun e σ => match e with
   | .exit _ => False
   | _ => Returns P fn m res m' σ) ⟨sp n (argsAt 0 args), m⟩) : AC P f args m res m' := by
 refine AC.intro_ext L hm hf hb hL hL' ?_
 rw [hn, sp_ini hl]
 exact h
end
end Go.Proofs.YtlciedpfjhkkdaaGreatDoor
namespace Go.Proofs.YtlciedpfjhkkdaaGreatDoor
open Go.RowKit
section
variable {P : Program} {ops : Array Oper} {r : List Oper} {σ τ : ASt} {fs : List AEff} {K : ASt → List AEff → Prop} {E : AEff}
theorem Fits.ofB (bw : List Id) (ρ ρ' : List (Id × Id)) {fz : List (Id × AO)} {m : Mem} {res : AV} {m' : Mem} (h1 : MatL (rn ρ) σ.mem bw m) (h2 : (m.all fun p => p.2.refs m) = true) (hfz : frzOf σ.mem bw = fz) (hids : fz.map (·.1) = bw) (hndb : bw.Nodup) (h3 : (m.map (·.1)).Nodup) (h4 : (m.filterMap fun p => if p.2.live then rn ρ p.1 else none).Nodup)
  (hl : (m.all fun p => p.2.live) = true) (hl' : (m'.all fun p => p.2.live) = true) (hnd : (m'.map fun p => rnF ρ' p.1).Nodup) (hnd' : (m'.map (·.1)).Nodup)
  (hnew : ∀ p, p ∈ m' → ((m.get p.1).isSome = true ∧ rn ρ p.1 = some (rnF ρ' p.1)) ∨ (m.get p.1 = none ∧ σ.mem.get (rnF ρ' p.1) = none))
  (hbw : ∀ j, j ∈ (m.filterMap fun p => if p.2.live then rn ρ p.1 else none) → j ∉ bw) : Fits σ (rn ρ) bw fz false (rnF ρ') m res m' := by
 subst hfz
 refine ⟨MatM.of h1 h2 h3 h4 hbw, fun p hp => List.all_eq_true.1 hl p hp, hnd, hnd', fun p hp => List.all_eq_true.1 hl' p hp, fun p hp => ?_, fun p hp => ?_, fun _ j hj => by rw [hids]; exact hj, by rw [hids]; exact hndb, fun h => by cases h⟩
 ·rcases hnew p hp with ⟨g1, g2⟩ | g
  ·obtain ⟨o, ho⟩ := Option.isSome_iff_exists.1 g1
   exact .inl ⟨o, ho, g2⟩
  ·exact .inr g
 ·unfold frzOf at hp
  simp only [List.mem_filterMap, Option.map_eq_some_iff] at hp
  obtain ⟨j, hj, rows, hr, rfl⟩ := hp
  exact ⟨hj, rows, rfl, hr⟩
theorem Fits.ofC (bw : List Id) (ρ ρ' : List (Id × Id)) {m : Mem} {res : AV} {m' : Mem} (h1 : MatL (rn ρ) σ.mem bw m) (h2 : (m.all fun p => p.2.refs m) = true) (hc1 : res.closed = true) (hc2 : (m'.all fun p => p.2.closed) = true) (h3 : (m.map (·.1)).Nodup) (h4 : (m.filterMap fun p => if p.2.live then rn ρ p.1 else none).Nodup)
  (hl : (m.all fun p => p.2.live) = true) (hl' : (m'.all fun p => p.2.live) = true) (hnd : (m'.map fun p => rnF ρ' p.1).Nodup) (hnd' : (m'.map (·.1)).Nodup)
  (hnew : ∀ p, p ∈ m' → ((m.get p.1).isSome = true ∧ rn ρ p.1 = some (rnF ρ' p.1)) ∨ (m.get p.1 = none ∧ σ.mem.get (rnF ρ' p.1) = none))
  (hbw : ∀ j, j ∈ (m.filterMap fun p => if p.2.live then rn ρ p.1 else none) → j ∉ bw) : Fits σ (rn ρ) bw [] true (rnF ρ') m res m' := by
 refine ⟨MatM.of h1 h2 h3 h4 hbw, fun p hp => List.all_eq_true.1 hl p hp, hnd, hnd', fun p hp => List.all_eq_true.1 hl' p hp, fun p hp => ?_, fun p hp => absurd hp (by simp), fun h => Bool.noConfusion h, List.nodup_nil, fun _ => ⟨hc1, fun p hp => List.all_eq_true.1 hc2 p hp⟩⟩
 rcases hnew p hp with ⟨g1, g2⟩ | g
 ·obtain ⟨o, ho⟩ := Option.isSome_iff_exists.1 g1
  exact .inl ⟨o, ho, g2⟩
 ·exact .inr g
theorem op_callC (bw : List Id) (ρ ρ' : List (Id × Id)) {d : Option Tmp} {fv : Operand} {args : Array Operand} {tys : Array TypeId} {ty : TypeId} {pos : String} {af : Array Edge} {gd : Option (Nat × Bool)} {m : Mem} {res : AV} {m' : Mem} {f : FuncId} {caps cargs : List AV}
  (hac : AC P f cargs m res m') (hg : gate ops σ ⟨d, .call ⟨.value fv, args, tys⟩, ty, pos, af, gd⟩ = some true) (hv : σ.ev fv = .clo f caps) (hc : callable P f = true)
  (hm : Mats (rn ρ) σ.mem bw cargs (args.toList.map σ.ev ++ caps)) (hrefs : refsL m cargs = true) (h1 : MatL (rn ρ) σ.mem bw m) (h2 : (m.all fun p => p.2.refs m) = true) (hc1 : res.closed = true) (hc2 : (m'.all fun p => p.2.closed) = true) (h3 : (m.map (·.1)).Nodup) (h4 : (m.filterMap fun p => if p.2.live then rn ρ p.1 else none).Nodup)
  (hl : (m.all fun p => p.2.live) = true) (hl' : (m'.all fun p => p.2.live) = true) (hnd : (m'.map fun p => rnF ρ' p.1).Nodup) (hnd' : (m'.map (·.1)).Nodup)
  (hnew : ∀ p, p ∈ m' → ((m.get p.1).isSome = true ∧ rn ρ p.1 = some (rnF ρ' p.1)) ∨ (m.get p.1 = none ∧ σ.mem.get (rnF ρ' p.1) = none))
  (hbw : ∀ j, j ∈ (m.filterMap fun p => if p.2.live then rn ρ p.1 else none) → j ∉ bw)
  (he : (⟨bw, kills (rn ρ) m ++ [] ++ m'.map (fun p => (rnF ρ' p.1, p.2.ren (rnF ρ'))), res.ren (rnF ρ')⟩ : AEff) = E) (hτ : σ.upd d E = τ) (h : awpOps P ops r τ (fs ++ [E]) K) : awpOps P ops (⟨d, .call ⟨.value fv, args, tys⟩, ty, pos, af, gd⟩ :: r) σ fs K := by
 subst he
 have := op_call hac hg hv hc hm hrefs (Fits.ofC bw ρ ρ' h1 h2 hc1 hc2 h3 h4 hl hl' hnd hnd' hnew hbw) (τ := τ) (r := r) (fs := fs) (K := K)
 unfold callEff at this
 exact this hτ h
theorem op_callB (bw : List Id) (ρ ρ' : List (Id × Id)) {d : Option Tmp} {fv : Operand} {args : Array Operand} {tys : Array TypeId} {ty : TypeId} {pos : String} {af : Array Edge} {gd : Option (Nat × Bool)} {fz : List (Id × AO)} {m : Mem} {res : AV} {m' : Mem} {f : FuncId} {caps cargs : List AV}
  (hac : AC P f cargs m res m') (hg : gate ops σ ⟨d, .call ⟨.value fv, args, tys⟩, ty, pos, af, gd⟩ = some true) (hv : σ.ev fv = .clo f caps) (hc : callable P f = true)
  (hm : Mats (rn ρ) σ.mem bw cargs (args.toList.map σ.ev ++ caps)) (hrefs : refsL m cargs = true) (h1 : MatL (rn ρ) σ.mem bw m) (h2 : (m.all fun p => p.2.refs m) = true) (hfz : frzOf σ.mem bw = fz) (hids : fz.map (·.1) = bw) (hndb : bw.Nodup) (h3 : (m.map (·.1)).Nodup) (h4 : (m.filterMap fun p => if p.2.live then rn ρ p.1 else none).Nodup)
  (hl : (m.all fun p => p.2.live) = true) (hl' : (m'.all fun p => p.2.live) = true) (hnd : (m'.map fun p => rnF ρ' p.1).Nodup) (hnd' : (m'.map (·.1)).Nodup)
  (hnew : ∀ p, p ∈ m' → ((m.get p.1).isSome = true ∧ rn ρ p.1 = some (rnF ρ' p.1)) ∨ (m.get p.1 = none ∧ σ.mem.get (rnF ρ' p.1) = none))
  (hbw : ∀ j, j ∈ (m.filterMap fun p => if p.2.live then rn ρ p.1 else none) → j ∉ bw)
  (he : (⟨bw, kills (rn ρ) m ++ fz ++ m'.map (fun p => (rnF ρ' p.1, p.2.ren (rnF ρ'))), res.ren (rnF ρ')⟩ : AEff) = E) (hτ : σ.upd d E = τ) (h : awpOps P ops r τ (fs ++ [E]) K) : awpOps P ops (⟨d, .call ⟨.value fv, args, tys⟩, ty, pos, af, gd⟩ :: r) σ fs K := by
 subst he
 have := op_call hac hg hv hc hm hrefs (Fits.ofB bw ρ ρ' h1 h2 hfz hids hndb h3 h4 hl hl' hnd hnd' hnew hbw) (τ := τ) (r := r) (fs := fs) (K := K)
 unfold callEff at this
 exact this hτ h
end
attribute [go_sem] AO.closed
theorem wCallB {A Φ G' G : Prop} (f : A) (F : Φ) (h : G') (e : A → Φ → G' → G := by intro f F hh; apply f; (iterate 10 (focus (first | (simp only [go_sem, Nat.reduceEqDiff, Nat.reduceAdd, Nat.reduceSub, Nat.reduceLeDiff, Nat.reduceMul, Nat.reduceBEq, Nat.reduceLT, Int.reduceToNat, reduceCtorEq, F]; first | done | exact rfl | (and_intros <;> rfl)) | exact rfl | decide))); (iterate 8 (focus (simp [go_sem, F]; done))); (iterate 2 (focus (first | (simp only [go_sem, Nat.reduceEqDiff, Nat.reduceAdd, Nat.reduceSub, Nat.reduceLeDiff, Nat.reduceMul, Nat.reduceBEq, Nat.reduceLT, Int.reduceToNat, reduceCtorEq, F]; first | done | exact rfl | (and_intros <;> rfl)) | exact rfl | decide))); exact hh) : G := e f F h
end Go.Proofs.YtlciedpfjhkkdaaGreatDoor
