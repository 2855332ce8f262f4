/- Texts of this proof: G16 H99 G64 G65 G66 E37. -/
import Derived.Test.YtfmnoljflcpbgaaGreatDoorKG14
import Derived.Test.YtfmnoljflcpbgaaGreatDoorKE5
import Derived.Test.YtfmnoljflcpbgaaGreatDoorKA1
import Derived.Test.YtfmnoljflcpbgaaGreatDoorKE6
import Derived.Test.YtfmnoljflcpbgaaGreatDoorKG27uR12
import Derived.Test.YtfmnoljflcpbgaaGreatDoorKE36
set_option linter.unusedSimpArgs false
set_option linter.unusedVariables false
set_option linter.unnecessarySimpa false
namespace Go.Proofs.YtfmnoljflcpbgaaGreatDoor
open Go.RowKit
set_option maxRecDepth 10000
theorem szR_le (xs : List CellD) (left : Int) (h : 0 ≤ left) : szR xs left ≤ left := by
  unfold szR
  split
  · omega
  · have : (0 : Int) ≤ (xs.length : Int) := by omega
    have : (0 : Int) ≤ (bulk xs : Int) := by omega
    omega
end Go.Proofs.YtfmnoljflcpbgaaGreatDoor

/- Facts that the laws' walks share: a value has a fault or is a tree; rows of slices. -/
namespace Go.Proofs.YtfmnoljflcpbgaaGreatDoor
open Go.RowKit
theorem closed_osl (l : List (List CellD)) : closedLL (l.map oslCs) = true := by
  induction l with
  | nil => rfl
  | cons c l ih => simp only [List.map_cons, closedLL, ih, Bool.and_true, oslCs, closedL, C.closed, closed_cells]
theorem forget_osl (l : List (List CellD)) : forgetLL (l.map oslCs) = l.map encCs := by
  induction l with
  | nil => rfl
  | cons c l ih => simp only [List.map_cons, forgetLL, ih, oslCs, forgetL, C.forget, forget_cells, encCs]
attribute [go_sem] closed_osl forget_osl
/-- Cells in memory as a value that no one writes. -/
theorem ar_cellsA {w : World} {S : Nat → Prop} {m : Mem} {κ : Id → Value} {xs : List CellD} {A : Option Addr} {cap : Nat} (hcap : xs.length ≤ cap) (h : Cells w S A xs) : AR w S m κ (cellsA xs) (.slice A xs.length cap) :=
  cr_cells.2 ⟨A, cap, rfl, hcap, h⟩
end Go.Proofs.YtfmnoljflcpbgaaGreatDoor

/- The laws' own functions on an argument []Edit: szEdit, szEditS, toEdit, toEditS, eqEdit, eqEditS, markEditS. -/
namespace Go.Proofs.YtfmnoljflcpbgaaGreatDoor
open Go.RowKit
set_option maxRecDepth 10000
def EditD.cs (d : EditD) : List C := [.int .i64 d.op, .sl (d.path.map CellD.cs), .sl (d.x.map CellD.cs)]
def EditD.os (d : EditD) : List C := [.int .i64 d.op, .osl (d.path.map CellD.cs), .osl (d.x.map CellD.cs)]
def EditD.av (d : EditD) : AV := .agg [.c (.int .i64 d.op), .c (.sl (d.path.map CellD.cs)), .c (.sl (d.x.map CellD.cs))]
theorem forget_edits (l : List EditD) : forgetLL (l.map EditD.os) = l.map EditD.cs := by
  induction l with
  | nil => rfl
  | cons d l ih => simp only [List.map_cons, forgetLL, ih, EditD.os, EditD.cs, forgetL, C.forget, forget_cells]
theorem closed_edits (l : List EditD) : closedLL (l.map EditD.os) = true := by
  induction l with
  | nil => rfl
  | cons d l ih => simp only [List.map_cons, closedLL, ih, Bool.and_true, EditD.os, closedL, C.closed, closed_cells]
theorem all_edits (l : List EditD) : ((l.map EditD.os).all fun r => r.length == 3) = true := by simp [EditD.os]
attribute [go_sem] forget_edits closed_edits all_edits EditD.av
end Go.Proofs.YtfmnoljflcpbgaaGreatDoor



/- The engine: a call that only looks at an object whose block and content are known for good. -/
namespace Go.Proofs.YtfmnoljflcpbgaaGreatDoor
open Go.RowKit
section
variable {P : Program} {o : Oper} {σ : ASt} {R : Nat → Value → List (List Value) → Obj → Prop}
theorem reads_sound (hpin : ∀ b v vr obj b' v' vr' obj', R b v vr obj → R b' v' vr' obj' → b' = b ∧ obj' = obj) (hany : ∀ b v v' vr obj, R b v vr obj → R b v' vr obj)
    {t : Id} {bw : List Id} {x : C} {f : FuncId} {caps cargs : List AV} {fv : Operand} {args : Array Operand} {tys : Array TypeId} (ho : o.op = .call ⟨.value fv, args, tys⟩) (hv : σ.ev fv = .clo f caps) (hc : callable P f = true)
    (hac : AC P f cargs [((8, 0), .blk R [])] (.c x) [((8, 0), .blk R [])]) (hm : Mats (fun _ => none) σ.mem bw cargs (args.toList.map σ.ev ++ caps)) (hrefs : refsL [] cargs = true) (hcl : x.closed = true) (ht : σ.mem.get t = some (.blk R [])) (htb : t ∉ bw) :
    OpSound P o σ ⟨t :: bw, [], .c x⟩ := by
  intro Γ σ' a w hag ⟨ow, κ, hr⟩ K Q hK
  have ht' : σ'.mem.get t = some (.blk R []) := by rw [hag.2.1 t (by simp), ht]
  have hm' : Mats (fun _ => none) σ'.mem bw cargs (args.toList.map σ.ev ++ caps) := hm.agree fun j hj => hag.2.1 j (by simp [hj])
  obtain ⟨g, obj, vr, g1, g2, g3, g4⟩ := hr.objs t _ ht'
  obtain ⟨vs, v1, v2⟩ := hag.ev hr (by rw [ho]; simp [Op.operands, Call.operands]) hv
  have hargs : ARs w (Γ.sees ow) σ'.mem κ (args.toList.map σ.ev ++ caps) (args.toList.map a.eval ++ vs) :=
    (ARs.map_ev hr _ fun x hx => hag.1 x (by rw [ho]; simp [Op.operands, Call.operands]; exact .inr (by simpa using hx))).append v2
  let S0 : Nat → Prop := fun b => Γ.sees ow b ∨ ∃ j, j ∈ bw ∧ ow b = some j
  let ow0 : Nat → Option Id := fun b => if b = g then some (8, 0) else none
  have hne : ∀ b, S0 b → b ≠ g := by
    rintro b (hb | ⟨j, hj, hb⟩) rfl
    · rw [hb.1] at g1; cases g1
    · rw [g1] at hb; cases hb; exact htb hj
  have hS : ∀ b, S0 b → (⟨w, S0, ow0, κ, [(8, 0)]⟩ : Ctx).sees ow0 b := fun b hb => ⟨if_neg (hne b hb), .inl hb⟩
  have hglt : g < w.heap.size := (Array.getElem?_eq_some_iff.1 g2).1
  have hent : Entry ⟨w, S0, ow0, κ, [(8, 0)]⟩ [((8, 0), .blk R [])] := by
    refine ⟨fun i o' hi => ?_, fun b i hb => ?_, rfl⟩
    · simp only [Mem.get, List.lookup_cons, List.lookup_nil] at hi
      by_cases hq : i = (8, 0)
      · subst hq
        obtain rfl : o' = .blk R [] := by simpa [eq_comm] using hi
        simp only [CRss] at g3
        refine ⟨g, obj, vr, if_pos rfl, g2, ?_, hany _ _ _ _ _ g4⟩
        simp only [CRss]
        exact g3
      · have : (i == ((8, 0) : Id)) = false := by simpa using hq
        rw [this] at hi
        cases hi
    · simp only [ow0] at hb
      split at hb
      · rename_i e
        subst e
        cases hb
        exact ⟨hglt, _, rfl, rfl⟩
      · cases hb
  have hmm : MatM (fun _ => none) bw [] σ'.mem := ⟨by simp, by simp, by simp, by simp, by simp⟩
  have har := Mats.rep hmm (T := (⟨w, S0, ow0, κ, [(8, 0)]⟩ : Ctx).sees ow0) (fun b hb => hS b (.inl hb)) (fun b j hj hb => hS b (.inr ⟨j, hj, hb⟩)) hr.objs hm' hrefs hargs
  have har' : ARs w ((⟨w, S0, ow0, κ, [(8, 0)]⟩ : Ctx).sees ow0) [((8, 0), .blk R [])] κ cargs (args.toList.map a.eval ++ vs) :=
    ARs.keep (Nat.le_refl _) (fun b hb _ => ⟨rfl, hb⟩) (fun i o h => by simp [Mem.get] at h) har
  have hcall := hac ⟨w, S0, ow0, κ, [(8, 0)]⟩ (args.toList.map a.eval ++ vs) hent har'
  unfold Oper.wp
  have hrun : (execOp a.eval o).run P w = .ok (.enter f (args.toList.map a.eval ++ vs).toArray) w := by
    unfold execOp
    rw [ho]
    simp only [resolve, v1, Deferred.ofValue, Sem.run_bind, Sem.run_pure, Result.andThen_ok, invoke]
    rw [run_callFunc hc]
    congr 2
    apply Array.ext'
    simp
  rw [hrun, Oper.upon_enter]
  refine hcall.mono ?_
  rintro e w' ⟨v, ow', κ', rfl, hx⟩
  obtain ⟨b', obj', vr', k1, k2, k3, k4⟩ := hx.objs (8, 0) _ rfl
  obtain ⟨rfl, rfl⟩ := hpin _ _ _ _ _ _ _ _ g4 k4
  have hall : ∀ b, b < w.heap.size → w'.heap[b]? = w.heap[b]? := fun b hb => by
    by_cases hbg : b = b'
    · subst hbg
      exact k2.trans g2.symm
    · exact (hx.frame b hb (if_neg hbg)).1
  have hres : CR w' (Γ.sees ow) x v [] := CR.closed hcl hx.res
  have st : Step σ'.mem [] w ow κ w' ow κ := ⟨hx.os, hx.tape, hx.output, hx.size, fun b hb _ => ⟨hall b hb, rfl⟩, fun b i hb => .inl ⟨by simp, hb⟩, fun _ _ _ => rfl, fun i hi => by simp at hi⟩
  exact hK _ _ ⟨ow, κ, hr.step (E := ⟨t :: bw, [], .c x⟩) st hres (fun i hi => by simp at hi) o.dst⟩
end
section
variable {P : Program} {σ τ : ASt} {ops : Array Oper} {r : List Oper} {fs : List AEff} {K : ASt → List AEff → Prop} {E : AEff} {R : Nat → Value → List (List Value) → Obj → Prop} {d : Option Tmp} {ty : TypeId} {pos : String} {af : Array Edge} {gd : Option (Nat × Bool)}
theorem op_reads (hpin : ∀ b v vr obj b' v' vr' obj', R b v vr obj → R b' v' vr' obj' → b' = b ∧ obj' = obj) (hany : ∀ b v v' vr obj, R b v vr obj → R b v' vr obj)
    (t : Id) (bw : List Id) {x : C} {f : FuncId} {caps cargs : List AV} {fv : Operand} {args : Array Operand} {tys : Array TypeId}
    (hac : AC P f cargs [((8, 0), .blk R [])] (.c x) [((8, 0), .blk R [])]) (hg : gate ops σ ⟨d, .call ⟨.value fv, args, tys⟩, ty, pos, af, gd⟩ = some true) (hv : σ.ev fv = .clo f caps) (hc : callable P f = true)
    (hm : Mats (fun _ => none) σ.mem bw cargs (args.toList.map σ.ev ++ caps)) (hrefs : refsL [] cargs = true) (hcl : x.closed = true) (ht : σ.mem.get t = some (.blk R [])) (htb : t ∉ bw)
    (he : (⟨t :: bw, [], .c x⟩ : AEff) = E) (hτ : σ.upd d E = τ) (h : awpOps P ops r τ (fs ++ [E]) K) : awpOps P ops (⟨d, .call ⟨.value fv, args, tys⟩, ty, pos, af, gd⟩ :: r) σ fs K := by
  subst he
  exact op_known hg (reads_sound hpin hany rfl hv hc hac hm hrefs hcl ht htb) hτ h
end
end Go.Proofs.YtfmnoljflcpbgaaGreatDoor
