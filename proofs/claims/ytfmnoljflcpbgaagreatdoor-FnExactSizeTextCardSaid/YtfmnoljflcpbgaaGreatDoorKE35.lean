/- The engine: string(b) of a row of bytes of the call's own. -/
import Derived.Test.YtfmnoljflcpbgaaGreatDoorKE6
import Derived.Laws.IdiomStrings
import Derived.Laws.Strings2
import Derived.Laws.Slices
set_option linter.unusedSimpArgs false
set_option linter.unusedVariables false
set_option linter.unnecessarySimpa false
namespace Go.Proofs.YtfmnoljflcpbgaaGreatDoor
open Go.RowKit
section
variable {P : Program} {o : Oper} {σ : ASt} {src dst e t : TypeId}
def byteRows (l : List UInt8) : List (List C) := l.map fun b => [.int .u8 (b.toNat : Int)]
theorem byte_row {w : World} {S : Nat → Prop} {b : UInt8} {vr : List Value} {bs : List Nat} (h : CRs w S [.int .u8 (b.toNat : Int)] vr bs) : vr = [.int .u8 (b.toNat : Int)] := by
  simp only [CRs, CR] at h
  obtain ⟨v, vs', b1, b2, rfl, _, ⟨rfl, _⟩, rfl, _⟩ := h
  rfl
theorem run_conv {x : Operand} {i : Id} (l : List UInt8) (hl : l ≠ []) (ho : o.op = .convert src dst x) (hx : σ.ev x = .own i) (hs : P.underlying src = some (.slice e)) (he : P.underlying e = some (.int .u8)) (hd : P.underlying dst = some .string)
    (hi : σ.mem.get i = some (.row false 1 t (byteRows l))) : OpRun P o σ ⟨[i], [], .c (.str ⟨l.toArray⟩)⟩ := by
  refine OpRun.pure fun Γ σ' a w ow κ hag hr => ?_
  have hi' : σ'.mem.get i = some (.row false 1 t (byteRows l)) := by rw [hag.2.1 i (by simp), hi]
  obtain ⟨_, o1, k1, k2⟩ := hag.ev hr (by rw [ho]; simp [Op.operands]) hx
  rw [hi'] at k1
  cases k1
  have e1 := k2 (by simp)
  obtain ⟨vrows, bs, h1, h2, h3, h4, h5, h6⟩ := hr.objs i _ hi'
  have hlen := CRss.length h1
  have hrl : (byteRows l).length = l.length := by simp [byteRows]
  have hl0 : 0 < l.length := List.length_pos_iff.2 hl
  obtain ⟨A, cap, hA, hc1, hc2, hrow⟩ := Row.of_owns h3 (n := (byteRows l).length) (by omega) (.inl Nat.one_pos) h4 (T := fun _ => True) (fun _ _ => trivial)
  obtain ⟨b, off, rfl, _, _, hcl⟩ := hrow.2 (by omega)
  refine ⟨.string ⟨l.toArray⟩, ?_, ⟨rfl, rfl⟩⟩
  have hc : ∀ j (hj : j < l.length), w.cell? ((⟨b, off, none⟩ : Addr).add j) = some (.int .u8 (l[j].toNat : Int)) := by
    intro j hj
    obtain ⟨vr, b', g1, g2, _⟩ := CRss.at_ h1 (i := j) (row := [.int .u8 (l[j].toNat : Int)]) (by simp [byteRows, hj])
    have g3 := byte_row g2
    subst g3
    have := hcl j _ g1 0 _ rfl
    by_cases hj0 : j = 0
    · subst hj0
      simpa [Addr.add] using this
    · simpa [Addr.add, hj0] using this
  have hrun := run_convert_bytes_back w src dst e ⟨b, off, none⟩ cap l hs he hd hc
  unfold execOp
  rw [ho]
  rw [hrl] at hA
  simp [e1, hA, hrun]
theorem run_sub {x lo hi : Operand} {s : ByteArray} {i j : Int} (ho : o.op = .slice t x (some lo) (some hi) none) (hx : σ.ev x = .c (.str s)) (hlo : σ.ev lo = .c (.int .i64 i)) (hhi : σ.ev hi = .c (.int .i64 j)) (ht : P.underlying t = some .string)
    (h0 : 0 ≤ i) (h1 : i ≤ j) (h2 : j ≤ s.size) : OpRun P o σ ⟨[], [], .c (.str (s.extract i.toNat j.toNat))⟩ := by
  refine OpRun.pure fun Γ σ' a w ow κ hag hr => ?_
  have e1 := AR.str (hag.ev hr (by rw [ho]; simp [Op.operands]) hx)
  have e2 := (hag.ev hr (by rw [ho]; simp [Op.operands]) hlo).1
  have e3 := (hag.ev hr (by rw [ho]; simp [Op.operands]) hhi).1
  refine ⟨.string (s.extract i.toNat j.toNat), ?_, ⟨rfl, rfl⟩⟩
  have hrun := run_slice_string (P := P) w t s .i64 .i64 i j ht h0 h1 h2
  unfold execOp
  rw [ho]
  simp [e1, e2, e3, hrun, run_sliceAt_string _ t _ _ _ _ ht]
end
section
variable {P : Program} {σ τ : ASt} {ops : Array Oper} {r : List Oper} {fs : List AEff} {K : ASt → List AEff → Prop} {E : AEff} {src dst e t : TypeId} {d : Option Tmp} {ty' : TypeId} {pos : String} {af : Array Edge} {gd : Option (Nat × Bool)}
theorem op_conv {x : Operand} {i : Id} {y : ByteArray} (l : List UInt8) (hy : (⟨l.toArray⟩ : ByteArray) = y) (hl : l ≠ []) (hs : P.underlying src = some (.slice e)) (he : P.underlying e = some (.int .u8)) (hd : P.underlying dst = some .string)
    (hg : gate ops σ ⟨d, .convert src dst x, ty', pos, af, gd⟩ = some true) (hn : eff P σ.ev σ.mem.get (σ.fresh ⟨d, .convert src dst x, ty', pos, af, gd⟩) ⟨d, .convert src dst x, ty', pos, af, gd⟩ = none) (hx : σ.ev x = .own i) (hi : σ.mem.get i = some (.row false 1 t (byteRows l)))
    (hE : (⟨[i], [], .c (.str y)⟩ : AEff) = E) (hτ : σ.upd d E = τ) (h : awpOps P ops r τ (fs ++ [E]) K) : awpOps P ops (⟨d, .convert src dst x, ty', pos, af, gd⟩ :: r) σ fs K := by
  subst hE hy
  exact op_sound hg hn (run_conv l hl rfl hx hs he hd hi).sound hτ h
theorem op_sub {t : TypeId} {x lo hi : Operand} {s y : ByteArray} {i j : Int} (hy : s.extract i.toNat j.toNat = y) (h0 : 0 ≤ i) (h1 : i ≤ j) (h2 : j ≤ s.size) (ht : P.underlying t = some .string)
    (hg : gate ops σ ⟨d, .slice t x (some lo) (some hi) none, ty', pos, af, gd⟩ = some true) (hn : eff P σ.ev σ.mem.get (σ.fresh ⟨d, .slice t x (some lo) (some hi) none, ty', pos, af, gd⟩) ⟨d, .slice t x (some lo) (some hi) none, ty', pos, af, gd⟩ = none) (hx : σ.ev x = .c (.str s)) (hlo : σ.ev lo = .c (.int .i64 i)) (hhi : σ.ev hi = .c (.int .i64 j))
    (hE : (⟨[], [], .c (.str y)⟩ : AEff) = E) (hτ : σ.upd d E = τ) (h : awpOps P ops r τ (fs ++ [E]) K) : awpOps P ops (⟨d, .slice t x (some lo) (some hi) none, ty', pos, af, gd⟩ :: r) σ fs K := by
  subst hE hy
  exact op_sound hg hn (run_sub rfl hx hlo hhi ht h0 h1 h2).sound hτ h
end
end Go.Proofs.YtfmnoljflcpbgaaGreatDoor
