/- impl.valAt: what holds at its loop's head. -/
import Derived.Test.YtfmkejgdooammaaA02
import Derived.Test.YtfmkejgdooammaaM02
namespace Go.Proofs.Ytfmkejgdooammaa
open Go.RowKit

def zero5 : Array Value := #[.int .i64 0, .int .i64 0, .string ⟨#[]⟩, .slice none 0 0, .slice none 0 0]

structure VA (tC tV tS : TypeId) (B : Nat) (w wr : World) (c : CellD) (K : List ByteArray) (Vs : List V) (vk vv : Value) : Prop where
  below : Below B w wr
  res : Blk wr B tV zero5
  cpy : Blk wr (B + 1) tC (vals c).toArray
  out : Blk wr (B + 2) tV #[.int .i64 c.kind, .int .i64 c.num, .string c.text, vk, vv]
  ownK : wr.ownsRow (B + 3) tS 1 vk K.length (K.map fun k => [Value.string k]).flatten
  ownV : ∃ kvs, wr.ownsRow (B + 3) tV 5 vv Vs.length (List.flatten kvs) ∧ (∀ x ∈ kvs, x.length = 5) ∧ VReps wr (fun b => B + 3 ≤ b ∧ vk.ownBlock ≠ some b ∧ vv.ownBlock ≠ some b) Vs kvs

section
variable {tC tV tS : TypeId} {B : Nat} {w wr w1 : World} {c : CellD} {K : List ByteArray} {Vs : List V} {vk vv : Value}
theorem VA.size (h : VA tC tV tS B w wr c K Vs vk vv) : B + 3 ≤ wr.heap.size := by have := h.out.lt; omega
theorem VA.lts (h : VA tC tV tS B w wr c K Vs vk vv) : B < wr.heap.size ∧ B + 1 < wr.heap.size ∧ B + 2 < wr.heap.size := by have := h.size; omega
/-- What lies in blocks that are new lies in neither of the two rows. -/
theorem VA.fresh (h : VA tC tV tS B w wr c K Vs vk vv) {n : Nat} : ∀ b, wr.heap.size ≤ b → b < n → B + 3 ≤ b ∧ vk.ownBlock ≠ some b ∧ vv.ownBlock ≠ some b := by
  intro b hb _
  have hs := h.size
  obtain ⟨kvs, h6, _⟩ := h.ownV
  exact ⟨by omega, fun e => by have := (h.ownK.lt b e).2; omega, fun e => by have := (h6.lt b e).2; omega⟩
theorem VA.call (h : VA tC tV tS B w wr c K Vs vk vv) (hb : Below wr.heap.size wr w1) : VA tC tV tS B w w1 c K Vs vk vv := by
  have hs := h.size
  obtain ⟨h1, h2, h3, h4, h5, kvs, h6, h7, h8⟩ := h
  exact ⟨h1.trans (hb.mono (by omega)), h2.below hb, h3.below hb, h4.below hb, ownsRow_below h5 hb, kvs, ownsRow_below h6 hb, h7, h8.below hb⟩
theorem VA.alloc (h : VA tC tV tS B w wr c K Vs vk vv) (o : Obj) : VA tC tV tS B w (wr.alloc o) c K Vs vk vv :=
  h.call ((Below.refl _ _).alloc (Nat.le_refl _) o)
/-- Behind the append of a key. -/
theorem VA.key (h : VA tC tV tS B w wr c K Vs vk vv) (hne : tS ≠ tV) {key : ByteArray} {vk' : Value} (hown : w1.ownsRow (B + 3) tS 1 vk' (K.length + 1) ((K.map fun k => [Value.string k]) ++ [[Value.string key]]).flatten) (hg : Grew wr w1 vk vk') :
    VA tC tV tS B w (w1.setCell ⟨B + 2, 3, none⟩ vk') c (K ++ [key]) Vs vk' vv := by
  have hs := h.size
  have hz := hg.grown.size
  obtain ⟨h1, h2, h3, h4, h5, kvs, h6, h7, h8⟩ := h
  have hk3 : ∀ b, vk.ownBlock = some b → B + 3 ≤ b := fun b hb => (h5.lt b hb).1
  have hk3' : ∀ b, vk'.ownBlock = some b → B + 3 ≤ b := fun b hb => (hown.lt b hb).1
  have hv3 : ∀ b, vv.ownBlock = some b → B + 3 ≤ b := fun b hb => (h6.lt b hb).1
  have hnv : ∀ b, vv.ownBlock = some b → vk.ownBlock ≠ some b := fun b hb hb' => own_ne h5 h6 hne hb' hb
  have sm : Same (fun b => vk.ownBlock ≠ some b) wr w1 := Same.grown hg.grown fun b hb e => hb e.symm
  have hbl : ∀ g : Nat, g < B + 3 → vk.ownBlock ≠ some g := fun g hg e => by have := hk3 g e; omega
  refine ⟨(h1.grown hg.grown (by omega) fun k hk => by have := hk3 k hk; omega).setCell (by show B ≤ B + 2; omega) _, (h2.keep sm (hbl _ (by omega))).far (by simp) _, (h3.keep sm (hbl _ (by omega))).far (by simp) _, ?_, ?_, kvs, ?_, h7, ?_⟩
  · exact (h4.keep sm (hbl _ (by omega))).set_ 3 vk'
  · refine ownsRow_setCell ?_ (fun e => by have := hk3' _ e; simp at this) _
    simpa using hown
  · exact ownsRow_setCell (ownsRow_keep h6 sm fun b hb => hnv b hb) (fun e => by have := hv3 _ e; simp at this) _
  · have g1 := h8.weaken (T := fun b => vk.ownBlock ≠ some b ∧ B + 3 ≤ b ∧ vk'.ownBlock ≠ some b ∧ vv.ownBlock ≠ some b) fun b hb hl => ⟨hb.2.1, hb.1, fun e => hb.2.1 (hg.new b hl e), hb.2.2⟩
    exact ((g1.keep (sm.mono fun b hb => hb.1)).weaken fun b hb _ => hb.2).keep (Same.setCell _ _ _ (by simp))
/-- Behind the append of a kid. -/
theorem VA.kid (h : VA tC tV tS B w wr c K Vs vk vv) (hne : tS ≠ tV) {v : V} {vs : List Value} {vv' : Value} (hl5 : vs.length = 5) (hv : VRep wr (fun b => B + 3 ≤ b ∧ vk.ownBlock ≠ some b ∧ vv.ownBlock ≠ some b) v vs)
    {kvs : List (List Value)} (h7 : ∀ x ∈ kvs, x.length = 5) (h8 : VReps wr (fun b => B + 3 ≤ b ∧ vk.ownBlock ≠ some b ∧ vv.ownBlock ≠ some b) Vs kvs)
    (hown : w1.ownsRow (B + 3) tV 5 vv' (Vs.length + 1) (kvs ++ [vs]).flatten) (hg : Grew wr w1 vv vv') :
    VA tC tV tS B w (w1.setCell ⟨B + 2, 4, none⟩ vv') c K (Vs ++ [v]) vk vv' := by
  have hs := h.size
  have hz := hg.grown.size
  obtain ⟨h1, h2, h3, h4, h5, _, h6, _, _⟩ := h
  have hk3 : ∀ b, vk.ownBlock = some b → B + 3 ≤ b := fun b hb => (h5.lt b hb).1
  have hv3 : ∀ b, vv.ownBlock = some b → B + 3 ≤ b := fun b hb => (h6.lt b hb).1
  have hv3' : ∀ b, vv'.ownBlock = some b → B + 3 ≤ b := fun b hb => (hown.lt b hb).1
  have hnv : ∀ b, vk.ownBlock = some b → vv.ownBlock ≠ some b := fun b hb hb' => own_ne h5 h6 hne hb hb'
  have sm : Same (fun b => vv.ownBlock ≠ some b) wr w1 := Same.grown hg.grown fun b hb e => hb e.symm
  have hbl : ∀ g : Nat, g < B + 3 → vv.ownBlock ≠ some g := fun g hg e => by have := hv3 g e; omega
  refine ⟨(h1.grown hg.grown (by omega) fun k hk => by have := hv3 k hk; omega).setCell (by show B ≤ B + 2; omega) _, (h2.keep sm (hbl _ (by omega))).far (by simp) _, (h3.keep sm (hbl _ (by omega))).far (by simp) _, ?_, ?_, kvs ++ [vs], ?_, ?_, ?_⟩
  · exact (h4.keep sm (hbl _ (by omega))).set_ 4 vv'
  · exact ownsRow_setCell (ownsRow_keep h5 sm fun b hb => hnv b hb) (fun e => by have := hk3 _ e; simp at this) _
  · refine ownsRow_setCell ?_ (fun e => by have := hv3' _ e; simp at this) _
    simpa using hown
  · intro x hx
    simp only [List.mem_append, List.mem_singleton] at hx
    rcases hx with hx | rfl
    · exact h7 x hx
    · exact hl5
  · have g1 := (VReps.snoc hv h8).weaken (T := fun b => vv.ownBlock ≠ some b ∧ B + 3 ≤ b ∧ vk.ownBlock ≠ some b ∧ vv'.ownBlock ≠ some b) fun b hb hl => ⟨hb.2.2, hb.1, hb.2.1, fun e => hb.2.2 (hg.new b hl e)⟩
    exact ((g1.keep (sm.mono fun b hb => hb.1)).weaken fun b hb _ => hb.2).keep (Same.setCell _ _ _ (by simp))
theorem VA.afterV (h : VA tC tV tS B w wr c K Vs vk vv) {vv' : Value} (hg : Grew wr w1 vv vv') : Blk w1 (B + 2) tV #[.int .i64 c.kind, .int .i64 c.num, .string c.text, vk, vv] := by
  obtain ⟨kvs, h6, _⟩ := h.ownV
  exact hg.blk h.out (own_blk_ne h6 h.out (by omega))
theorem VA.afterK (h : VA tC tV tS B w wr c K Vs vk vv) {vk' : Value} (hg : Grew wr w1 vk vk') : Blk w1 (B + 2) tV #[.int .i64 c.kind, .int .i64 c.num, .string c.text, vk, vv] :=
  hg.blk h.out (own_blk_ne h.ownK h.out (by omega))
theorem VA.notOwnK (h : VA tC tV tS B w wr c K Vs vk vv) : vk.ownBlock ≠ some wr.heap.size := fun e => by have := (h.ownK.lt _ e).2; omega
theorem VA.keepKid (_ : VA tC tV tS B w wr c K Vs vk vv) {vk' : Value} (hg : Grew wr w1 vk vk') {v : V} {vs : List Value} (hv : VRep wr (fun b => B + 3 ≤ b ∧ vk.ownBlock ≠ some b ∧ vv.ownBlock ≠ some b) v vs) :
    VRep (w1.setCell ⟨B + 2, 3, none⟩ vk') (fun b => B + 3 ≤ b ∧ vk'.ownBlock ≠ some b ∧ vv.ownBlock ≠ some b) v vs := by
  have sm : Same (fun b => vk.ownBlock ≠ some b) wr w1 := Same.grown hg.grown fun b hb e => hb e.symm
  have g1 := hv.weaken (T := fun b => vk.ownBlock ≠ some b ∧ B + 3 ≤ b ∧ vk'.ownBlock ≠ some b ∧ vv.ownBlock ≠ some b) fun b hb hl => ⟨hb.2.1, hb.1, fun e => hb.2.1 (hg.new b hl e), hb.2.2⟩
  exact ((g1.keep (sm.mono fun b hb => hb.1)).weaken fun b hb _ => hb.2).keep (Same.setCell _ _ _ (by simp))
theorem VA.start (w : World) (c : CellD) : VA tC tV tS w.heap.size w (((w.alloc (.cells zero5 tV)).alloc (.cells (vals c).toArray tC)).alloc (.cells #[.int .i64 c.kind, .int .i64 c.num, .string c.text, .slice none 0 0, .slice none 0 0] tV)) c [] [] (.slice none 0 0) (.slice none 0 0) := by
  have b1 : Blk ((w.alloc (.cells zero5 tV)).alloc (.cells (vals c).toArray tC)) (w.heap.size + 1) tC (vals c).toArray := by
    have := Blk.new (w.alloc (.cells zero5 tV)) tC (vals c).toArray
    simpa using this
  have b2 := Blk.new ((w.alloc (.cells zero5 tV)).alloc (.cells (vals c).toArray tC)) tV #[.int .i64 c.kind, .int .i64 c.num, .string c.text, .slice none 0 0, .slice none 0 0]
  simp at b2
  exact ⟨(((Below.refl _ _).alloc (Nat.le_refl _) _).alloc (by simp) _).alloc (by simp; omega) _, ((Blk.new _ _ _).alloc _).alloc _, b1.alloc _, b2, World.ownsRow_nil _ _ _ _, [], World.ownsRow_nil _ _ _ _, by simp, rfl⟩
/-- The keys' slice reads as the keys; the kids' slice reads as the kids. -/
theorem VA.slices (h : VA tC tV tS B w wr c K Vs vk vv) : ∃ (Ak : Option Addr) (ck : Nat) (Av : Option Addr) (cv : Nat) (kvs : List (List Value)), vk = .slice Ak K.length ck ∧ vv = .slice Av Vs.length cv ∧ K.length ≤ ck ∧ Vs.length ≤ cv ∧
    Strs wr (fun b => B + 3 ≤ b) Ak K ∧ Row wr (fun b => B + 3 ≤ b) 5 Av kvs ∧ VReps wr (fun b => B + 3 ≤ b) Vs kvs := by
  obtain ⟨h1, h2, h3, h4, h5, kvs, h6, h7, h8⟩ := h
  have e1 : ∃ Ak ck, vk = .slice Ak K.length ck ∧ K.length ≤ ck := by
    rcases h5.2 with ⟨e, h0⟩ | ⟨g, cap, cur, e, _, _, hc, _⟩
    · exact ⟨none, 0, by rw [e, h0], by omega⟩
    · exact ⟨_, _, e, hc⟩
  have e2 : ∃ Ak ck, vv = .slice Ak Vs.length ck ∧ Vs.length ≤ ck := by
    rcases h6.2 with ⟨e, h0⟩ | ⟨g, cap, cur, e, _, _, hc, _⟩
    · exact ⟨none, 0, by rw [e, h0], by omega⟩
    · exact ⟨_, _, e, hc⟩
  obtain ⟨Ak, ck, rfl, hk⟩ := e1
  obtain ⟨Av, cv, rfl, hv⟩ := e2
  refine ⟨Ak, ck, Av, cv, kvs, rfl, rfl, hk, hv, ?_, ?_, h8.weaken fun b hb _ => hb.1⟩
  · exact (Row.of_own (by simp) (by omega) h5).weaken fun b hb _ => (h5.lt b hb).1
  · exact (Row.of_own h7 (by omega) h6).weaken fun b hb _ => (h6.lt b hb).1
end
end Go.Proofs.Ytfmkejgdooammaa
