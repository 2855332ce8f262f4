/- Texts of this proof: R17 R13 R18 E37 R19 H12. -/
import Derived.Test.YtlciedpfjhkkdaaGreatDoorKR16
import Derived.Test.YtlciedpfjhkkdaaGreatDoorKR12uR14
import Derived.Test.YtlciedpfjhkkdaaGreatDoorKG49uG52
import Derived.Test.YtlciedpfjhkkdaaGreatDoorKR15uE36
import Derived.Test.YtlciedpfjhkkdaaGreatDoorKG27uM30
import Derived.Test.YtlciedpfjhkkdaaGreatDoorKG43
import Derived.Test.YtlciedpfjhkkdaaGreatDoorKM29uG26
import Derived.Test.YtlciedpfjhkkdaaGreatDoorKG06uS02
set_option linter.unusedSimpArgs false
set_option linter.unusedVariables false
set_option linter.unnecessarySimpa false
set_option maxHeartbeats 8000000
namespace Go.Proofs.YtlciedpfjhkkdaaGreatDoor
open Go.RowKit Go.Shelf
theorem joinS_eq (sep : ByteArray) : ∀ l : List ByteArray, (⟨(Lib.join (l.map (·.data.toList)) sep.data.toList).toArray⟩ : ByteArray) = joinS sep l
 | [] => rfl
 | [x] => by rw [List.map_cons, List.map_nil, Lib.join_one]; rfl
 | x :: y :: r => by
  have ih := joinS_eq sep (y :: r)
  rw [joinS_cons sep x (by simp), ← ih]
  have e : Lib.join (List.map (fun x : ByteArray => x.data.toList) (x :: y :: r)) sep.data.toList = x.data.toList ++ sep.data.toList ++ Lib.join (List.map (fun x : ByteArray => x.data.toList) (y :: r)) sep.data.toList := by
   simp [Lib.join, List.intercalate]
  rw [e, ← str_mk_append, ← str_mk_append]
theorem join_ac (l : List ByteArray) (sep : ByteArray) (hl : l.length ≤ 1000000) (hsz : (joinS sep l).size ≤ 1000000000) : AC Tryz.prog 114 [.c (.sl (l.map strCs)), .c (.str sep)] [] (.c (.str (joinS sep l))) [] := by
 refine AC.of_calls fun S w κ vs hv => ?_
 obtain ⟨v, vs', rfl, h1, v2, vs2, rfl, ⟨rfl, _⟩, rfl⟩ := hv
 obtain ⟨A, cap, rfl, hcap, hc⟩ := cr_strs.1 h1
 by_cases h0 : l = []
 ·subst h0
  refine (Any.strings_Join_none join_lays join_extra A cap sep w).mono ?_
  rintro e w' ⟨rfl, rfl⟩
  exact ⟨Below.refl _ _, _, rfl, fun T _ _ => ⟨rfl, rfl⟩⟩
 ·have hp : 0 < l.length := List.length_pos_iff.2 h0
  obtain ⟨b, o, rfl, hb⟩ : ∃ b o, A = some ⟨b, o, none⟩ ∧ (b < w.heap.size ∧ ∀ (j : Nat) x, l[j]? = some x → w.cell? ⟨b, o + j, none⟩ = some (.string x)) := by
   obtain ⟨b, off, rfl, _, hbl, hcl⟩ := hc.2 (by simpa using hp)
   refine ⟨b, off, rfl, hbl, fun j x hx => ?_⟩
   have := hcl j [.string x] (by simp [hx]) 0 _ rfl
   simpa using this
  refine (Any.strings_Join join_lays join_extra b o cap l sep w hb.2 hb.1 (by omega) hcap ?_).mono ?_
  ·have := joinS_eq sep l
   rw [← this] at hsz
   have h2 : (⟨(Lib.join (l.map (·.data.toList)) sep.data.toList).toArray⟩ : ByteArray).size = (Lib.join (l.map (·.data.toList)) sep.data.toList).length := by show (List.toArray _).size = _; simp
   omega
  ·rintro e w' ⟨rfl, hbw⟩
   exact ⟨hbw, _, rfl, fun T _ _ => ⟨joinS_eq sep l ▸ rfl, rfl⟩⟩
end Go.Proofs.YtlciedpfjhkkdaaGreatDoor
namespace Go.Proofs.YtlciedpfjhkkdaaGreatDoor
open Go.RowKit
set_option maxRecDepth 10000
variable {o : Obj}
end Go.Proofs.YtlciedpfjhkkdaaGreatDoor
namespace Go.Proofs.YtlciedpfjhkkdaaGreatDoor
open Go.RowKit
set_option maxRecDepth 10000
variable {o : Obj}
theorem encodeV_ac : ∀ (n : Nat) (t : V), t.count ≤ n → t.right → AC Tryz.prog 61 [t.av] (tabM o) (.c (.str t.txt)) (tabM o) := by
 intro n
 induction n with
 | zero => intro t hn _; have := count_pos t; omega
 | succ n ih =>
  intro t hn ht
  have hk := right_kind ht
  have hnum := right_num ht
  have hs := okText_size (right_text ht)
  have hcase : t.kind = 0 ∨ t.kind = 1 ∨ t.kind = 2 ∨ t.kind = 3 ∨ t.kind = 4 ∨ (t.kind = 5 ∨ t.kind = 6) := by omega
  rcases hcase with h | h | h | h | h | h
  ·have b0 : (t.kind == 0) = true := by simp [h]
   have hr : nullS = ⟨#[110, 117, 108, 108]⟩ := rfl
   rw [txt_null h]
   refine wEnter Tryz.func61 Tryz.ntmps61 ?_
   refine wRUN b0 ?_
   exact wRetOf (ret_of [((8, 0), (8, 0))] []) Tryz.results61 hr
  ·have b0 : (t.kind == 0) = false := by simp [h]
   have b1 : (t.kind == 1) = true := by simp [h]
   have hr : falseS = ⟨#[102, 97, 108, 115, 101]⟩ := rfl
   rw [txt_false h]
   refine wEnter Tryz.func61 Tryz.ntmps61 ?_
   refine wRUN (j2 b0 b1) ?_
   exact wRetOf (ret_of [((8, 0), (8, 0))] []) Tryz.results61 hr
  ·have b0 : (t.kind == 0) = false := by simp [h]
   have b1 : (t.kind == 1) = false := by simp [h]
   have b2 : (t.kind == 2) = true := by simp [h]
   have hr : trueS = ⟨#[116, 114, 117, 101]⟩ := rfl
   rw [txt_true h]
   refine wEnter Tryz.func61 Tryz.ntmps61 ?_
   refine wRUN (j3 b0 b1 b2) ?_
   exact wRetOf (ret_of [((8, 0), (8, 0))] []) Tryz.results61 hr
  ·have b0 : (t.kind == 0) = false := by simp [h]
   have b1 : (t.kind == 1) = false := by simp [h]
   have b2 : (t.kind == 2) = false := by simp [h]
   have b3 : (t.kind == 3) = true := by simp [h]
   have h1 := formatInt_ac (o := o) t.num (by omega) (by omega)
   rw [txt_num h]
   refine wEnter Tryz.func61 Tryz.ntmps61 ?_
   refine wRUN (j4 b0 b1 b2 b3) ?_
   refine wCall (op_any_call [((8, 0), (8, 0))] [((8, 0), (8, 0))] h1) trivial ?_
   refine wRUN trivial ?_
   exact wRetOf (ret_of [((8, 0), (8, 0))] []) Tryz.results61 b0
  ·have b0 : (t.kind == 0) = false := by simp [h]
   have b1 : (t.kind == 1) = false := by simp [h]
   have b2 : (t.kind == 2) = false := by simp [h]
   have b3 : (t.kind == 3) = false := by simp [h]
   have b4 : (t.kind == 4) = true := by simp [h]
   have h1 := encodeString_ac t.text (by omega)
   rw [txt_str h]
   refine wEnter Tryz.func61 Tryz.ntmps61 ?_
   refine wRUN (j5 b0 b1 b2 b3 b4) ?_
   refine w7 (op_data [] h1) trivial ?_
   refine wRUN trivial ?_
   exact wRetOf (ret_of [((8, 0), (8, 0))] []) Tryz.results61 b0
  ·have b0 : (t.kind == 0) = false := by simp; omega
   have b1 : (t.kind == 1) = false := by simp; omega
   have b2 : (t.kind == 2) = false := by simp; omega
   have b3 : (t.kind == 3) = false := by simp; omega
   have b4 : (t.kind == 4) = false := by simp; omega
   have hkl := kids_len_le ht.2.1
   have hlk : (t.kids.map V.cs).length = t.kids.length := by simp
   have h0 : (t.parts.take 0).map strCs = [] := rfl
   refine wEnter Tryz.func61 Tryz.ntmps61 ?_
   refine wRUN (j6 b0 b1 b2 b3 b4 hlk) ?_
   refine a_loop (κ := Nat) (fun k => ⟨mkS 0 64 [(1, .ptr (1, 0) 0), (3, .own (98, 0)), (27, .c (.sl (t.kids.map V.cs))), (28, .c (.int .i64 t.kids.length)), (29, .c (.int .i64 k))],
     [((1, 0), .box [.c (.int .i64 t.kind), .c (.int .i64 t.num), .c (.str t.text), .c (.sl (t.keys.map strCs)), .c (.sl (t.kids.map V.cs))]), ((98, 0), .row false 1 9 ((t.parts.take k).map strCs)), ((8, 0), .blk (tabR o) [])]⟩)
    (fun k => k ≤ t.kids.length) (fun k => t.kids.length - k) 0 (Nat.zero_le _) ?_ ?_
   ·exact wSays (Says.of [((1, 0), (1, 0)), ((98, 0), (25, 0)), ((8, 0), (8, 0))] []) h0
   ·intro k hk1
    have hz := join_size ht hk1
    by_cases hlt : k < t.kids.length
    ·have hdk : decide ((k : Int) < (t.kids.length : Int)) = true := by simpa using hlt
     have hw := wrap_succ (k := k) (by omega)
     have hr : rowsAt (t.kids.map V.cs) 5 k = true := by simp [rowsAt, hlt, V.cs_eq]
     have hg : (t.kids.map V.cs)[k]? = some [.int .i64 t.kids[k].kind, .int .i64 t.kids[k].num, .str t.kids[k].text, .sl (t.kids[k].keys.map strCs), .sl (t.kids[k].kids.map V.cs)] := by simp [hlt, V.cs_eq]
     have hks := right_keyAt ht k
     have hes := encS_size hks
     have hqk := encodeString_ac (t.keyAt k) (by omega)
     have hmem : t.kids[k] ∈ t.kids := List.getElem_mem hlt
     have hcm := countL_mem hmem
     have hck := count_kids t
     have hxs := txt_size' (right_mem ht hmem)
     have he := ih t.kids[k] (by omega) (right_mem ht hmem)
     have hpl : (t.parts.take k).length + 1 ≤ 1000000 := by rw [List.length_take]; omega
     have hnext : (t.parts.take k).map strCs ++ [[.str (t.part k t.kids[k])]] = (t.parts.take (k + 1)).map strCs := by
      rw [List.take_succ_eq_append_getElem (by rw [parts_len]; exact hlt), parts_at t hlt, List.map_append]; rfl
     unfold V.part at hnext
     rcases h with h | h
     ·have b6 : (t.kind == 6) = false := by simp [h]
      rw [if_neg (by omega)] at hnext
      generalize t.kids[k] = x at *
      refine wRUN (j3 hdk hr hg) ?_
      refine wCall (op_any_call [((8, 0), (8, 0))] [((8, 0), (8, 0))] he) trivial ?_
      refine wRUN (j3 b6 hpl hw) ?_
      refine ⟨k + 1, by omega, by omega, ?_⟩
      exact wSays (Says.of [((1, 0), (1, 0)), ((98, 0), (51, 0)), ((8, 0), (8, 0))] []) hnext
     ·have b6 : (t.kind == 6) = true := by simp [h]
      rw [if_pos h] at hnext
      obtain ⟨hkk, hkey⟩ := keyAt_get (right_neat ht) h hlt
      have hrk : rowsAt (t.keys.map strCs) 1 k = true := by simp [rowsAt, hkk, strCs]
      have hgk : (t.keys.map strCs)[k]? = some [.str (t.keyAt k)] := by simp [hkk, strCs, hkey]
      generalize t.kids[k] = x at *
      generalize t.keyAt k = key at *
      have x1 : (encS key).size + 1 ≤ 9223372036854775807 := by omega
      have x2 : (encS key ++ bS 58).size + x.txt.size ≤ 9223372036854775807 := by simp only [ByteArray.size_append, one_size]; omega
      generalize hv1 : encS key ++ bS 58 = v1 at *
      refine wRUN (j3 hdk hr hg) ?_
      refine wCall (op_any_call [((8, 0), (8, 0))] [((8, 0), (8, 0))] he) trivial ?_
      refine wRUN (j3 b6 hrk hgk) ?_
      refine w7 (op_data [] hqk) trivial ?_
      refine wRUN (j5 x1 hv1 x2 hpl hw) ?_
      refine ⟨k + 1, by omega, by omega, ?_⟩
      exact wSays (Says.of [((1, 0), (1, 0)), ((98, 0), (51, 0)), ((8, 0), (8, 0))] []) hnext
    ·have hdk : decide ((k : Int) < (t.kids.length : Int)) = false := by simpa using hlt
     obtain rfl : k = t.kids.length := by omega
     have hall : t.parts.take t.kids.length = t.parts := List.take_of_length_le (by rw [parts_len]; exact Nat.le_refl _)
     rw [hall] at hz
     have hj := join_ac t.parts (bS 44) (by rw [parts_len]; omega) (by omega)
     have hx1 : 1 + (joinS (bS 44) t.parts).size ≤ 9223372036854775807 := by omega
     rcases h with h | h
     ·have b5 : (t.kind == 5) = true := by simp [h]
      have hx2 : (bS 91 ++ joinS (bS 44) t.parts).size + 1 ≤ 9223372036854775807 := by rw [ByteArray.size_append, one_size]; omega
      have ht5 := (txt_arr h).symm
      generalize hv1 : bS 91 ++ joinS (bS 44) t.parts = v1 at *
      refine wRUN (j3 hdk b5 hall) ?_
      refine w7 (op_data [(98, 0)] hj) trivial ?_
      refine wRUN (j4 hx1 hv1 hx2 ht5) ?_
      exact wRetOf (ret_of [((8, 0), (8, 0))] []) Tryz.results61 ht5
     ·have b5 : (t.kind == 5) = false := by simp [h]
      have hx2 : (bS 123 ++ joinS (bS 44) t.parts).size + 1 ≤ 9223372036854775807 := by rw [ByteArray.size_append, one_size]; omega
      have ht5 := (txt_obj h).symm
      generalize hv1 : bS 123 ++ joinS (bS 44) t.parts = v1 at *
      refine wRUN (j3 hdk b5 hall) ?_
      refine w7 (op_data [(98, 0)] hj) trivial ?_
      refine wRUN (j4 hx1 hv1 hx2 ht5) ?_
      exact wRetOf (ret_of [((8, 0), (8, 0))] []) Tryz.results61 ht5
theorem encodeR_ac {t : V} (h : t.right) : AC Tryz.prog 61 [t.av] (tabM o) (.c (.str t.txt)) (tabM o) := encodeV_ac _ t (Nat.le_refl _) h
end Go.Proofs.YtlciedpfjhkkdaaGreatDoor
namespace Go.Proofs.YtlciedpfjhkkdaaGreatDoor
open Go.RowKit
section
variable {P : Program} {o : Oper} {σ : ASt} {R : Nat → Value → List (List Value) → Obj → Prop}
theorem reads_sound (hpin : ∀ b v vr obj b' v' vr' obj', R b v vr obj → R b' v' vr' obj' → b' = b ∧ obj' = obj) (hany : ∀ b v v' vr obj, R b v vr obj → R b v' vr obj)
  {t : Id} {bw : List Id} {x : C} {f : FuncId} {caps cargs : List AV} {fv : Operand} {args : Array Operand} {tys : Array TypeId} (ho : o.op = .call ⟨.value fv, args, tys⟩) (hv : σ.ev fv = .clo f caps) (hc : callable P f = true)
  (hac : AC P f cargs [((8, 0), .blk R [])] (.c x) [((8, 0), .blk R [])]) (hm : Mats (fun _ => none) σ.mem bw cargs (args.toList.map σ.ev ++ caps)) (hrefs : refsL [] cargs = true) (hcl : x.closed = true) (ht : σ.mem.get t = some (.blk R [])) (htb : t ∉ bw) :
  OpSound P o σ ⟨t :: bw, [], .c x⟩ := by
 intro Γ σ' a w hag ⟨ow, κ, hr⟩ K Q hK
 have ht' : σ'.mem.get t = some (.blk R []) := by rw [hag.2.1 t (by simp), ht]
 have hm' : Mats (fun _ => none) σ'.mem bw cargs (args.toList.map σ.ev ++ caps) := hm.agree fun j hj => hag.2.1 j (by simp [hj])
 obtain ⟨g, obj, vr, g1, g2, g3, g4⟩ := hr.objs t _ ht'
 obtain ⟨vs, v1, v2⟩ := hag.ev hr (by rw [ho]; simp [Op.operands, Call.operands]) hv
 have hargs : ARs w (Γ.sees ow) σ'.mem κ (args.toList.map σ.ev ++ caps) (args.toList.map a.eval ++ vs) :=
  (ARs.map_ev hr _ fun x hx => hag.1 x (by rw [ho]; simp [Op.operands, Call.operands]; exact .inr (by simpa using hx))).append v2
 let S0 : Nat → Prop := fun b => Γ.sees ow b ∨ ∃ j, j ∈ bw ∧ ow b = some j
 let ow0 : Nat → Option Id := fun b => if b = g then some (8, 0) else none
 have hne : ∀ b, S0 b → b ≠ g := by
  rintro b (hb | ⟨j, hj, hb⟩) rfl
  ·rw [hb.1] at g1; cases g1
  ·rw [g1] at hb; cases hb; exact htb hj
 have hS : ∀ b, S0 b → (⟨w, S0, ow0, κ, [(8, 0)]⟩ : Ctx).sees ow0 b := fun b hb => ⟨if_neg (hne b hb), .inl hb⟩
 have hglt : g < w.heap.size := (Array.getElem?_eq_some_iff.1 g2).1
 have hent : Entry ⟨w, S0, ow0, κ, [(8, 0)]⟩ [((8, 0), .blk R [])] := by
  refine ⟨fun i o' hi => ?_, fun b i hb => ?_, rfl⟩
  ·simp only [Mem.get, List.lookup_cons, List.lookup_nil] at hi
   by_cases hq : i = (8, 0)
   ·subst hq
    obtain rfl : o' = .blk R [] := by simpa [eq_comm] using hi
    simp only [CRss] at g3
    refine ⟨g, obj, vr, if_pos rfl, g2, ?_, hany _ _ _ _ _ g4⟩
    simp only [CRss]
    exact g3
   ·have : (i == ((8, 0) : Id)) = false := by simpa using hq
    rw [this] at hi
    cases hi
  ·simp only [ow0] at hb
   split at hb
   ·rename_i e
    subst e
    cases hb
    exact ⟨hglt, _, rfl, rfl⟩
   ·cases hb
 have hmm : MatM (fun _ => none) bw [] σ'.mem := ⟨by simp, by simp, by simp, by simp, by simp⟩
 have har := Mats.rep hmm (T := (⟨w, S0, ow0, κ, [(8, 0)]⟩ : Ctx).sees ow0) (fun b hb => hS b (.inl hb)) (fun b j hj hb => hS b (.inr ⟨j, hj, hb⟩)) hr.objs hm' hrefs hargs
 have har' : ARs w ((⟨w, S0, ow0, κ, [(8, 0)]⟩ : Ctx).sees ow0) [((8, 0), .blk R [])] κ cargs (args.toList.map a.eval ++ vs) :=
  ARs.keep (Nat.le_refl _) (fun b hb _ => ⟨rfl, hb⟩) (fun i o h => by simp [Mem.get] at h) har
 have hcall := hac ⟨w, S0, ow0, κ, [(8, 0)]⟩ (args.toList.map a.eval ++ vs) hent har'
 unfold Oper.wp
 have hrun : (execOp a.eval o).run P w = .ok (.enter f (args.toList.map a.eval ++ vs).toArray) w := by
  unfold execOp
  rw [ho]
  simp only [resolve, v1, Deferred.ofValue, Sem.run_bind, Sem.run_pure, Result.andThen_ok, invoke]
  rw [run_callFunc hc]
  congr 2
  apply Array.ext'
  simp
 rw [hrun, Oper.upon_enter]
 refine hcall.mono ?_
 rintro e w' ⟨v, ow', κ', rfl, hx⟩
 obtain ⟨b', obj', vr', k1, k2, k3, k4⟩ := hx.objs (8, 0) _ rfl
 obtain ⟨rfl, rfl⟩ := hpin _ _ _ _ _ _ _ _ g4 k4
 have hall : ∀ b, b < w.heap.size → w'.heap[b]? = w.heap[b]? := fun b hb => by
  by_cases hbg : b = b'
  ·subst hbg
   exact k2.trans g2.symm
  ·exact (hx.frame b hb (if_neg hbg)).1
 have hres : CR w' (Γ.sees ow) x v [] := CR.closed hcl hx.res
 have st : Step σ'.mem [] w ow κ w' ow κ := ⟨hx.os, hx.tape, hx.output, hx.size, fun b hb _ => ⟨hall b hb, rfl⟩, fun b i hb => .inl ⟨by simp, hb⟩, fun _ _ _ => rfl, fun i hi => by simp at hi⟩
 exact hK _ _ ⟨ow, κ, hr.step (E := ⟨t :: bw, [], .c x⟩) st hres (fun i hi => by simp at hi) o.dst⟩
end
section
variable {P : Program} {σ τ : ASt} {ops : Array Oper} {r : List Oper} {fs : List AEff} {K : ASt → List AEff → Prop} {E : AEff} {R : Nat → Value → List (List Value) → Obj → Prop} {d : Option Tmp} {ty : TypeId} {pos : String} {af : Array Edge} {gd : Option (Nat × Bool)}
theorem op_reads (hpin : ∀ b v vr obj b' v' vr' obj', R b v vr obj → R b' v' vr' obj' → b' = b ∧ obj' = obj) (hany : ∀ b v v' vr obj, R b v vr obj → R b v' vr obj)
  (t : Id) (bw : List Id) {x : C} {f : FuncId} {caps cargs : List AV} {fv : Operand} {args : Array Operand} {tys : Array TypeId}
  (hac : AC P f cargs [((8, 0), .blk R [])] (.c x) [((8, 0), .blk R [])]) (hg : gate ops σ ⟨d, .call ⟨.value fv, args, tys⟩, ty, pos, af, gd⟩ = some true) (hv : σ.ev fv = .clo f caps) (hc : callable P f = true)
  (hm : Mats (fun _ => none) σ.mem bw cargs (args.toList.map σ.ev ++ caps)) (hrefs : refsL [] cargs = true) (hcl : x.closed = true) (ht : σ.mem.get t = some (.blk R [])) (htb : t ∉ bw)
  (he : (⟨t :: bw, [], .c x⟩ : AEff) = E) (hτ : σ.upd d E = τ) (h : awpOps P ops r τ (fs ++ [E]) K) : awpOps P ops (⟨d, .call ⟨.value fv, args, tys⟩, ty, pos, af, gd⟩ :: r) σ fs K := by
 subst he
 exact op_known hg (reads_sound hpin hany rfl hv hc hac hm hrefs hcl ht htb) hτ h
end
end Go.Proofs.YtlciedpfjhkkdaaGreatDoor
namespace Go.Proofs.YtlciedpfjhkkdaaGreatDoor
open Go.RowKit
set_option maxRecDepth 10000
variable {o : Obj}
theorem tab_pin : ∀ b v vr obj b' v' vr' obj', tabR o b v vr obj → tabR o b' v' vr' obj' → b' = b ∧ obj' = obj := by
 rintro b v vr obj b' v' vr' obj' ⟨h1, h2, _⟩ ⟨k1, k2, _⟩
 exact ⟨Option.some.inj (k2.symm.trans h2), k1.trans h1.symm⟩
theorem tab_any : ∀ b v v' vr obj, tabR o b v vr obj → tabR o b v' vr obj := fun _ _ _ _ _ h => h
def treeOf (xs : List CellD) : V := (dec xs).2.getD nullV
def dropS : ByteArray := ⟨#[100, 114, 111, 112, 32]⟩
def setS : ByteArray := ⟨#[115, 101, 116, 32]⟩
def lineS (d : EditD) : ByteArray := if d.op = 2 then dropS ++ (treeOf d.path).txt else setS ++ (treeOf d.path).txt ++ bS 32 ++ (treeOf d.x).txt
def lnS (d : EditD) : ByteArray := lineS d ++ bS 10
def linesS (l : List EditD) : ByteArray := l.foldl (fun a d => a ++ lnS d) ByteArray.empty
theorem linesS_next {l : List EditD} {k : Nat} (h : k < l.length) : linesS (l.take (k + 1)) = linesS (l.take k) ++ lnS l[k] := by
 unfold linesS
 rw [List.take_succ_eq_append_getElem h, List.foldl_append]
 rfl
theorem edit_cases {d : EditD} (h : editCode d = 0) : (∃ q, dec d.path = (0, some q) ∧ d.path = q.enc ∧ q.right) ∧ (d.op = 2 ∨ (d.op = 1 ∧ ∃ u, dec d.x = (0, some u) ∧ d.x = u.enc ∧ u.right)) := by
 unfold editCode at h
 split at h
 ·omega
 ·rename_i hop
  have hop' : d.op = 1 ∨ d.op = 2 := by
   by_cases h1 : d.op = 1
   ·exact .inl h1
   ·by_cases h2 : d.op = 2
    ·exact .inr h2
    ·exfalso; apply hop; simp [h1, h2]
  rcases pathDec_cases d.path with ⟨t, ht, hw, hc, hdp, hk5, hkb, hpd⟩ | ⟨c, hc0, hpd⟩
  ·have hr : t.right := ⟨hw, hc, hdp⟩
   have hq : dec d.path = (0, some t) := by rw [ht]; exact right_dec hr
   refine ⟨⟨t, hq, ht, hr⟩, ?_⟩
   rw [hpd] at h
   simp only at h
   rcases hop' with h1 | h2
   ·refine .inr ⟨h1, ?_⟩
    rw [if_pos (by simp [h1])] at h
    rcases dec_cases d.x with ⟨u, hu⟩ | ⟨c, hc, hd⟩
    ·obtain ⟨e1, w1, w2, w3⟩ := dec_ok hu
     exact ⟨u, hu, e1, w1, w2, w3⟩
    ·rw [hd] at h; exact absurd h hc
   ·exact .inl h2
  ·rw [hpd] at h
   exact absurd h hc0
theorem tree_is {xs : List CellD} {t : V} (h : dec xs = (0, some t)) : treeOf xs = t := by unfold treeOf; rw [h]; rfl
theorem lnS_size {d : EditD} (h : editCode d = 0) : (lnS d).size ≤ 100010 := by
 obtain ⟨⟨q, hq, _, hqr⟩, hx⟩ := edit_cases h
 have h1 := txt_size' hqr
 unfold lnS lineS
 rw [tree_is hq]
 have e1 : dropS.size = 5 := rfl
 have e2 : setS.size = 4 := rfl
 rcases hx with h2 | ⟨h2, u, hu, _, hur⟩
 ·rw [if_pos h2]
  simp only [ByteArray.size_append, one_size]
  omega
 ·rw [if_neg (by omega), tree_is hu]
  have h3 := txt_size' hur
  simp only [ByteArray.size_append, one_size]
  omega
theorem linesS_size {l : List EditD} (h : ∀ d ∈ l, editCode d = 0) : ∀ k, k ≤ l.length → (linesS (l.take k)).size ≤ 100010 * k := by
 intro k
 induction k with
 | zero => intro _; simp [linesS]
 | succ k ih =>
  intro hk
  have h1 := ih (by omega)
  have h2 := lnS_size (h _ (List.getElem_mem (by omega : k < l.length)))
  rw [linesS_next (by omega), ByteArray.size_append]
  omega
theorem edits_none {l : List EditD} (h : editsCode l = 0) : l.length ≤ 100 ∧ ∀ d ∈ l, editCode d = 0 := by
 unfold editsCode at h
 split at h
 ·omega
 ·rename_i hl
  refine ⟨by omega, ?_⟩
  clear hl
  induction l with
  | nil => simp
  | cons d l ih =>
   unfold firstEdit at h
   split at h
   ·omega
   ·rename_i h0
    intro e he
    rcases List.mem_cons.1 he with rfl | he
    ·simpa using h0
    ·exact ih h e he
end Go.Proofs.YtlciedpfjhkkdaaGreatDoor
namespace Go.Proofs.YtlciedpfjhkkdaaGreatDoor
open Go.RowKit
set_option maxRecDepth 10000
def firstBad : List (List CellD) → Int
 | [] => 0
 | x :: r => if (dec x).1 = 0 then firstBad r else (dec x).1
def treesOf (l : List (List CellD)) : List V := l.filterMap fun x => (dec x).2
theorem firstBad_drop (l : List (List CellD)) {k : Nat} (h : k < l.length) : firstBad (l.drop k) = if (dec l[k]).1 = 0 then firstBad (l.drop (k + 1)) else (dec l[k]).1 := by
 rw [List.drop_eq_getElem_cons h]
 rfl
theorem treesOf_take {l : List (List CellD)} {k : Nat} (h : k < l.length) {t : V} (hd : dec l[k] = (0, some t)) : treesOf (l.take (k + 1)) = treesOf (l.take k) ++ [t] := by
 unfold treesOf
 rw [List.take_succ_eq_append_getElem h, List.filterMap_append]
 simp [hd]
theorem treesOf_len (l : List (List CellD)) : (treesOf l).length ≤ l.length := List.length_filterMap_le _ _
theorem valsOf_ac (l : List (List CellD)) (hz : ∀ x ∈ l, Sized x) (hl : l.length ≤ 900000) (h : firstBad l = 0) : AC Tryz.prog 108 [.c (.sl (l.map encCs))] [] (.tup [.c (.sl ((treesOf l).map V.cs)), .c (.int .i64 0)]) [] := by
 have hln : (l.map encCs).length = l.length := by simp
 refine wEnter Tryz.func108 Tryz.ntmps108 ?_
 refine wRUN hln ?_
 refine a_loop (κ := Nat) (fun k => ⟨mkS 0 30 [(4, .own (99, 0)), (10, .c (.sl (l.map encCs))), (11, .c (.int .i64 l.length)), (12, .c (.int .i64 k))], [((99, 0), .row false 5 62 ((treesOf (l.take k)).map V.cs))]⟩)
  (fun k => k ≤ l.length ∧ firstBad (l.drop k) = 0) (fun k => l.length - k) 0 ⟨Nat.zero_le _, h⟩ ?_ ?_
 ·(apply (Says.of [((99, 0), (9, 0))] []); (iterate 2 ((focus (simp only [go_sem, Nat.reduceEqDiff, Nat.reduceAdd, Nat.reduceSub, Nat.reduceLeDiff, Nat.reduceMul, Nat.reduceBEq, Nat.reduceLT, Int.reduceToNat, reduceCtorEq, treesOf]; try (and_intros <;> rfl))); (focus exact rfl))); (iterate 4 (focus (simp [go_sem, treesOf]; done))))
 ·rintro k ⟨hk, hRk⟩
  by_cases hlt : k < l.length
  ·have hdk : decide ((k : Int) < (l.length : Int)) = true := by simpa using hlt
   have hw := wrap_succ (k := k) (by omega)
   have hr : rowsAt (l.map encCs) 1 k = true := by simp [rowsAt, hlt, encCs]
   have hg : (l.map encCs)[k]? = some [.sl (l[k].map CellD.cs)] := by simp [hlt, encCs]
   have hzk := hz _ (List.getElem_mem hlt)
   have hol : (treesOf (l.take k)).length + 1 ≤ 1000000 := by have := treesOf_len (l.take k); rw [List.length_take] at this; omega
   rw [firstBad_drop l hlt] at hRk
   rcases dec_cases l[k] with ⟨t, ht⟩ | ⟨c, hc, hd⟩
   ·rw [if_pos (by rw [ht])] at hRk
    have hv := valOf_ac l[k] hzk (t := t) (by rw [ht])
    have h00 : ((0 : Int) != 0) = false := rfl
    have hrow : (treesOf (l.take k)).map V.cs ++ [[.int .i64 t.kind, .int .i64 t.num, .str t.text, .sl (t.keys.map strCs), .sl (t.kids.map V.cs)]] = (treesOf (l.take (k + 1))).map V.cs := by rw [treesOf_take hlt ht, List.map_append, List.map_cons, List.map_nil, V.cs_eq]
    generalize l[k] = x at *
    refine wRUN (j3 hdk hr hg) ?_
    refine w9 (op_shared [] hv) trivial ?_
    refine wRUN (j3 h00 hol hw) ?_
    refine ⟨k + 1, by omega, ⟨by omega, hRk⟩, ?_⟩
    exact wSays (Says.of [((99, 0), (27, 0))] []) hrow
   ·rw [if_neg (by rw [hd]; exact hc), hd] at hRk
    exact absurd hRk hc
  ·have hdk : decide ((k : Int) < (l.length : Int)) = false := by simpa using hlt
   have hke : l.take k = l := List.take_of_length_le (by omega)
   refine wRUN hdk ?_
   exact wRetOf (ret_of [] [(99, 0)]) Tryz.results108 hke
end Go.Proofs.YtlciedpfjhkkdaaGreatDoor
