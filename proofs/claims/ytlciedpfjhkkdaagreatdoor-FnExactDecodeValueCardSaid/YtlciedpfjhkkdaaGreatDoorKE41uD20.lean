/- Texts of this proof: E41 D20. -/
import Derived.Test.YtlciedpfjhkkdaaGreatDoorKE40
import Derived.Test.YtlciedpfjhkkdaaGreatDoorKD19
import Derived.Test.YtlciedpfjhkkdaaGreatDoorKD02uG08
set_option linter.unusedSimpArgs false
set_option linter.unusedVariables false
set_option linter.unnecessarySimpa false
set_option maxHeartbeats 8000000
namespace Go.Proofs.YtlciedpfjhkkdaaGreatDoor
open Go.RowKit Go.ChangeMaps Go.MapKept Go.Maps
open Go.WideElems (Fit rd rg pl)
def C.val : C → Option Value
 | .int k n => some (.int k n)
 | .bool b => some (.bool b)
 | .str s => some (.string s)
 | _ => none
theorem C.val_of {c : C} {u v : Value} {w : World} {S : Nat → Prop} {bs : List Nat} (h : c.val = some u) (hr : CR w S c v bs) : v = u := by
 cases c <;> simp only [C.val, Option.some.injEq] at h <;> first | (subst h; exact hr.1) | cases h
theorem C.val_rep {c : C} {u : Value} {w : World} {S : Nat → Prop} (h : c.val = some u) : CR w S c u [] := by
 cases c <;> simp only [C.val, Option.some.injEq] at h <;> first | (subst h; exact ⟨rfl, rfl⟩) | cases h
def gmD (l : List (Lit × Value)) : DataW Value := l.foldl (fun D p => D.put p.1 (.held p.2)) (.map [])
theorem gmD_snoc (l : List (Lit × Value)) (p : Lit × Value) : gmD (l ++ [p]) = (gmD l).put p.1 (.held p.2) := by
 unfold gmD
 rw [List.foldl_append]
 rfl
def gmGet : List (Lit × Value) → Lit → Option Value
 | [], _ => none
 | p :: r, k => match gmGet r k with
  | some v => some v
  | none => if p.1.sameKey k = true then some p.2 else none
theorem gmGet_snoc (l : List (Lit × Value)) (p : Lit × Value) (k : Lit) : gmGet (l ++ [p]) k = if p.1.sameKey k = true then some p.2 else gmGet l k := by
 induction l with
 | nil => simp [gmGet]
 | cons q l ih =>
  simp only [List.cons_append, gmGet, ih]
  by_cases h : p.1.sameKey k = true
  ·rw [if_pos h, if_pos h]
  ·rw [if_neg h, if_neg h]
theorem gmD_isMap (l : List (Lit × Value)) : IsMap (gmD l) := by
 suffices h : ∀ D : DataW Value, IsMap D → IsMap (l.foldl (fun D p => D.put p.1 (.held p.2)) D) from h _ isMap_empty
 induction l with
 | nil => exact fun D h => h
 | cons p l ih => exact fun D h => ih _ (h.put _ _)
theorem gmD_at {l : List (Lit × Value)} (hk : ∀ p ∈ l, WideAt.IsKeyLit p.1) (k : Lit) (z : DataW Value) : (gmD l).atKey k z = match gmGet l k with | some v => .held v | none => z := by
 suffices h : ∀ n (l : List (Lit × Value)), l.length = n → (∀ p ∈ l, WideAt.IsKeyLit p.1) → (gmD l).atKey k z = match gmGet l k with | some v => .held v | none => z from h _ l rfl hk
 intro n
 induction n with
 | zero =>
  intro l hl _
  rw [List.eq_nil_of_length_eq_zero hl]
  exact WideAt.atKey_none z (fun p hp => by simp at hp)
 | succ n ih =>
  intro l hl hk
  obtain ⟨p, r, rfl⟩ := snoc_of l (by omega)
  rw [gmD_snoc, gmGet_snoc]
  by_cases h : p.1.sameKey k = true
  ·rw [if_pos h, ← WideAt.sameKey_eq h]
   exact atKey_put_same (gmD_isMap r) (hk p (by simp)) _ _
  ·rw [if_neg h, atKey_put_other (fun e => h (by rw [← e]; exact WideAt.sameKey_self (by rw [e]; exact hk p (by simp))))]
   exact ih r (by simpa using hl) fun q hq => hk q (by simp [hq])
def gmR (P : Program) (kt : TypeId) (l : List (Lit × Value)) : Value → List (Nat × Obj) → Prop := fun v bl => ∃ b obj, v = .map (some b) ∧ bl = [(b, obj)] ∧ (∀ p ∈ l, WideAt.IsKeyLit p.1) ∧ ∃ es clock, obj = .map es clock ∧ Fit P kt RV es clock ∧ es.size ≤ l.length ∧ gmD l = .map ((es.toList.map (rg P kt RV)).foldr DataW.insert [])
abbrev gmA (P : Program) (kt : TypeId) (l : List (Lit × Value)) : AO := .gen (gmR P kt l)
section
variable {P : Program} {o : Oper} {σ : ASt} {kt et : TypeId}
theorem run_gmNew {ty : TypeId} {fr : Id} (ho : o.op = .makeMap ty none) (hf : σ.mem.get fr = none) : OpRun P o σ ⟨[], [(fr, gmA P kt [])], .own fr⟩ := by
 intro Γ σ' a w ow κ hag hr
 have hf' : σ'.mem.get fr = none := by rw [hag.2.2 fr (by simp), hf]
 have st : Step σ'.mem [(fr, gmA P kt [])] w ow κ (w.alloc (.map #[] 0)) (owMake ow [] fr (some w.heap.size)) (kMake κ fr (.map (some w.heap.size))) :=
  Step.make (ks := []) rfl rfl rfl (by simp) hf' (by simp) rfl (fun b hb _ => Below.heap_alloc w _ b hb) (fun b hb => by cases hb; exact ⟨by simp, .inl (Nat.le_refl _)⟩) hr.owns
 refine ⟨.map (some w.heap.size), _, _, _, .inl (by unfold execOp; rw [ho]; rfl), hr.step (E := ⟨[], [(fr, gmA P kt [])], .own fr⟩) st ⟨rfl, gmA P kt [], get_make (ks := []) (by simp), fun _ => by simp [kMake]⟩ (fun i hi o' ho' => ?_) o.dst⟩
 have hi' : i = fr := by simpa using hi
 subst hi'
 cases (get_make (m := σ'.mem) (ks := []) (fr := i) (obj := gmA P kt []) (by simp)).symm.trans ho'
 obtain ⟨es, clock, g1, g2, g3, g4⟩ := World.ownsMap_made w P kt RV
 refine ⟨[(w.heap.size, .map es clock)], fun p hp => ?_, w.heap.size, _, by simp [kMake], rfl, by simp, es, clock, rfl, g2, g3, g4⟩
 have : p = (w.heap.size, .map es clock) := by simpa using hp
 subst this
 exact ⟨by simp [owMake], g1⟩
theorem run_gmPut {m x y : Operand} {i : Id} {l : List (Lit × Value)} {cx cy : C} {key val : Value} {kl : Lit} {ty : TypeId} (ho : o.op = .mapUpdate ty m x y ∨ o.op = .insert ty m x y) (hm : σ.ev m = .own i) (hx : σ.ev x = .c cx) (hxv : cx.val = some key) (hy : σ.ev y = .c cy) (hyv : cy.val = some val)
  (ht : P.underlying ty = some (.map kt et)) (hK : Keyed P kt) (hkey : keyOf P kt key = some kl) (hkl : WideAt.IsKeyLit kl) (hi : σ.mem.get i = some (gmA P kt l)) (hn : l.length < 9223372036854775807) :
  OpRun P o σ ⟨[], [(i, gmA P kt (l ++ [(kl, val)]))], .skip⟩ := by
 have hop : ∀ z, z = m ∨ z = x ∨ z = y → z ∈ o.op.operands := fun z hz => by
  rcases ho with ho | ho <;> (rw [ho]; simpa [Op.operands] using hz)
 intro Γ σ' a w ow κ hag hr
 have hi' : σ'.mem.get i = some (gmA P kt l) := by rw [hag.2.2 i (by simp), hi]
 obtain ⟨_, o1, k1, k2⟩ := hag.ev hr (hop m (.inl rfl)) hm
 rw [hi'] at k1
 cases k1
 have e1 := k2 (by simp)
 have e2 := C.val_of hxv (hag.ev hr (hop x (.inr (.inl rfl))) hx)
 have e3 := C.val_of hyv (hag.ev hr (hop y (.inr (.inr rfl))) hy)
 obtain ⟨bl, g1, b, obj, g2, rfl, g3, es, clock, rfl, g4, g5, g6⟩ := hr.objs i _ hi'
 obtain ⟨hob, hb⟩ := g1 (b, .map es clock) (by simp)
 have hown : w.ownsMap P kt RV b l.length (gmD l) := ⟨es, clock, hb, g4, g5, g6⟩
 have hmx : maxLen = 9223372036854775807 := rfl
 obtain ⟨w', hrun, r1, r2⟩ := hown.update hK ht (by rw [hmx]; exact hn) (key := key) (val := val) hkey (d := .held val) (ps := []) rfl
 have st : Step σ'.mem [(i, gmA P kt (l ++ [(kl, val)]))] w ow κ w' ow κ :=
  Step.turn r2.os r2.tape r2.output r2.size hi' rfl rfl (fun b' hb' hne => r2.block b' hb' (fun e => hne (by cases e; exact hob))) (fun b i hb => (hr.own b i hb).1)
 refine ⟨undef, w', ow, κ, .inr ⟨?_, rfl⟩, hr.step (E := ⟨[], [(i, gmA P kt (l ++ [(kl, val)]))], .skip⟩) st rfl (fun j hj o' ho' => ?_) o.dst⟩
 ·rw [← e1] at g2
  unfold execOp
  rcases ho with ho | ho
  ·rw [ho]
   simp [g2, e2, e3, hrun]
  ·rw [ho]
   simp [g2, e2, e3, hrun]
 ·have hji : j = i := by simpa using hj
  subst hji
  have : o' = gmA P kt (l ++ [(kl, val)]) := by
   have : (σ'.mem.puts [(j, gmA P kt (l ++ [(kl, val)]))]).get j = some o' := ho'
   simp [Mem.puts, Mem.get_put] at this
   exact this.symm
  subst this
  obtain ⟨es', clock', f1, f2, f3, f4⟩ := r1
  refine ⟨[(b, .map es' clock')], fun p hp => ?_, b, _, g2, rfl, fun p hp => ?_, es', clock', rfl, f2, by simpa using f3, by rw [gmD_snoc]; exact f4⟩
  ·have : p = (b, .map es' clock') := by simpa using hp
   subst this
   exact ⟨hob, f1⟩
  ·rcases List.mem_append.1 hp with hp | hp
   ·exact g3 p hp
   ·rw [List.mem_singleton.1 hp]; exact hkl
theorem run_gmGet {m x : Operand} {i : Id} {l : List (Lit × Value)} {cx c : C} {key u z : Value} {kl : Lit} {ty : TypeId} (ho : o.op = .lookup ty m x false) (hm : σ.ev m = .own i) (hx : σ.ev x = .c cx) (hxv : cx.val = some key)
  (ht : P.underlying ty = some (.map kt et)) (hK : Keyed P kt) (hkey : keyOf P kt key = some kl) (hz : ∀ w, (zeroValue et).run P w = .ok z w) (hi : σ.mem.get i = some (gmA P kt l)) (hg : (gmGet l kl).getD z = u) (hc : c.val = some u) : OpRun P o σ ⟨[i], [], .c c⟩ := by
 refine OpRun.pure fun Γ σ' a w ow κ hag hr => ?_
 have hi' : σ'.mem.get i = some (gmA P kt l) := by rw [hag.2.1 i (by simp), hi]
 obtain ⟨_, o1, k1, k2⟩ := hag.ev hr (by rw [ho]; simp [Op.operands]) hm
 rw [hi'] at k1
 cases k1
 have e1 := k2 (by simp)
 have e2 := C.val_of hxv (hag.ev hr (by rw [ho]; simp [Op.operands]) hx)
 obtain ⟨bl, g1, b, obj, g2, rfl, g3, es, clock, rfl, g4, g5, g6⟩ := hr.objs i _ hi'
 obtain ⟨hob, hb⟩ := g1 (b, .map es clock) (by simp)
 have hown : w.ownsMap P kt RV b l.length (gmD l) := ⟨es, clock, hb, g4, g5, g6⟩
 obtain ⟨v, ps, hrun, hat⟩ := hown.lookup hK ht (hz w) (zd := .held z) (zp := []) rfl (key := key) hkey
 rw [gmD_at g3] at hat
 have hve : v = u := by
  have h1 : RV v = some (match gmGet l kl with | some v => .held v | none => .held z, ps) := hat
  rw [← hg]
  cases hq : gmGet l kl with
  | none => rw [hq] at h1; simpa [RV] using (Prod.mk.inj (Option.some.inj h1)).1
  | some v' => rw [hq] at h1; simpa [RV] using (Prod.mk.inj (Option.some.inj h1)).1
 subst hve
 refine ⟨v, ?_, C.val_rep hc⟩
 rw [← e1] at g2
 unfold execOp
 rw [ho]
 simp [g2, e2, hrun]
end
section
variable {P : Program} {σ τ : ASt} {ops : Array Oper} {r : List Oper} {fs : List AEff} {K : ASt → List AEff → Prop} {E : AEff} {kt et : TypeId} {d : Option Tmp} {ty ty' : TypeId} {pos : String} {af : Array Edge} {gd : Option (Nat × Bool)}
theorem op_gmNew (kt : TypeId) (hg : gate ops σ ⟨d, .makeMap ty none, ty', pos, af, gd⟩ = some true) (hf : σ.mem.get (σ.fresh ⟨d, .makeMap ty none, ty', pos, af, gd⟩) = none)
  (he : (⟨[], [(σ.fresh ⟨d, .makeMap ty none, ty', pos, af, gd⟩, gmA P kt [])], .own (σ.fresh ⟨d, .makeMap ty none, ty', pos, af, gd⟩)⟩ : AEff) = E) (hτ : σ.upd d E = τ) (h : awpOps P ops r τ (fs ++ [E]) K) : awpOps P ops (⟨d, .makeMap ty none, ty', pos, af, gd⟩ :: r) σ fs K := by
 subst he
 exact op_known hg (run_gmNew (kt := kt) rfl hf).sound hτ h
theorem op_gmInsert {m x y : Operand} {i : Id} {l : List (Lit × Value)} {cx cy : C} {key val : Value} {kl : Lit} (ht : P.underlying ty = some (.map kt et)) (hK : Keyed P kt) (hkl : WideAt.IsKeyLit kl) (hn : l.length < 9223372036854775807) (hxv : cx.val = some key) (hyv : cy.val = some val) (hkey : keyOf P kt key = some kl)
  (hg : gate ops σ ⟨d, .insert ty m x y, ty', pos, af, gd⟩ = some true) (hm : σ.ev m = .own i) (hx : σ.ev x = .c cx) (hy : σ.ev y = .c cy) (hi : σ.mem.get i = some (gmA P kt l))
  (he : (⟨[], [(i, gmA P kt (l ++ [(kl, val)]))], .skip⟩ : AEff) = E) (hτ : σ.upd d E = τ) (h : awpOps P ops r τ (fs ++ [E]) K) : awpOps P ops (⟨d, .insert ty m x y, ty', pos, af, gd⟩ :: r) σ fs K := by
 subst he
 exact op_known hg (run_gmPut (.inr rfl) hm hx hxv hy hyv ht hK hkey hkl hi hn).sound hτ h
theorem op_gmPut {m x y : Operand} {i : Id} {l : List (Lit × Value)} {cx cy : C} {key val : Value} {kl : Lit} (ht : P.underlying ty = some (.map kt et)) (hK : Keyed P kt) (hkl : WideAt.IsKeyLit kl) (hn : l.length < 9223372036854775807) (hxv : cx.val = some key) (hyv : cy.val = some val) (hkey : keyOf P kt key = some kl)
  (hg : gate ops σ ⟨d, .mapUpdate ty m x y, ty', pos, af, gd⟩ = some true) (hm : σ.ev m = .own i) (hx : σ.ev x = .c cx) (hy : σ.ev y = .c cy) (hi : σ.mem.get i = some (gmA P kt l))
  (he : (⟨[], [(i, gmA P kt (l ++ [(kl, val)]))], .skip⟩ : AEff) = E) (hτ : σ.upd d E = τ) (h : awpOps P ops r τ (fs ++ [E]) K) : awpOps P ops (⟨d, .mapUpdate ty m x y, ty', pos, af, gd⟩ :: r) σ fs K := by
 subst he
 exact op_known hg (run_gmPut (.inl rfl) hm hx hxv hy hyv ht hK hkey hkl hi hn).sound hτ h
theorem op_gmGet {m x : Operand} {i : Id} {l : List (Lit × Value)} {cx c : C} {key u z : Value} {kl : Lit} (ht : P.underlying ty = some (.map kt et)) (hK : Keyed P kt) (hz : ∀ w, (zeroValue et).run P w = .ok z w) (hxv : cx.val = some key) (hkey : keyOf P kt key = some kl) (hgv : (gmGet l kl).getD z = u) (hc : c.val = some u)
  (hg : gate ops σ ⟨d, .lookup ty m x false, ty', pos, af, gd⟩ = some true) (hm : σ.ev m = .own i) (hx : σ.ev x = .c cx) (hi : σ.mem.get i = some (gmA P kt l))
  (he : (⟨[i], [], .c c⟩ : AEff) = E) (hτ : σ.upd d E = τ) (h : awpOps P ops r τ (fs ++ [E]) K) : awpOps P ops (⟨d, .lookup ty m x false, ty', pos, af, gd⟩ :: r) σ fs K := by
 subst he
 exact op_known hg (run_gmGet rfl hm hx hxv ht hK hkey hz hi hgv hc).sound hτ h
end
end Go.Proofs.YtlciedpfjhkkdaaGreatDoor
namespace Go.Proofs.YtlciedpfjhkkdaaGreatDoor
open Go.RowKit
set_option maxRecDepth 10000
variable {o1 o2 : Obj}
abbrev memA (o1 o2 : Obj) (s : ByteArray) (d : DS) (kids : List V) (deep : Int) : Mem := [((0, 0), .box [.c (.str s), .c (.int .i64 d.pl), .c (.int .i64 d.code), .c (.int .i64 d.bad)]), ((8, 1), .gen (errsR o1 o2)), ((1, 0), .box [.own (1, 1)]), ((1, 1), .row false 5 62 (kids.map V.cs)), ((2, 0), .box [.ptr (0, 0) 0]), ((3, 0), .box [.c (.int .i64 deep)])]
abbrev memA' (o1 o2 : Obj) (s : ByteArray) (d : DS) (kids : List V) (deep : Int) : Mem := [((0, 0), .box [.c (.str s), .c (.int .i64 d.pl), .c (.int .i64 d.code), .c (.int .i64 d.bad)]), ((8, 1), .gen (errsR o1 o2)), ((1, 0), .box [.own (4, 0)]), ((4, 0), .row false 5 62 (kids.map V.cs)), ((2, 0), .box [.ptr (0, 0) 0]), ((3, 0), .box [.c (.int .i64 deep)])]
theorem put_last (kids : List V) (v : V) : (kids.map V.cs ++ [[C.int .i64 0, .int .i64 0, .str ByteArray.empty, .sl [], .sl []]]).set kids.length [.int .i64 v.kind, .int .i64 v.num, .str v.text, .sl (v.keys.map strCs), .sl (v.kids.map V.cs)] = (kids ++ [v]).map V.cs := by
 have hl : (kids.map V.cs).length = kids.length := by simp
 rw [← hl, List.map_append, List.set_append, if_neg (Nat.lt_irrefl _), Nat.sub_self, List.set_cons_zero, List.map_cons, List.map_nil, V.cs_eq]
theorem last_at (kids : List V) : rowsAt (kids.map V.cs ++ [[C.int .i64 0, .int .i64 0, .str ByteArray.empty, .sl [], .sl []]]) 5 (kids.length : Nat) = true ∧ (kids.map V.cs ++ [[C.int .i64 0, .int .i64 0, .str ByteArray.empty, .sl [], .sl []]])[kids.length]? = some [C.int .i64 0, .int .i64 0, .str ByteArray.empty, .sl [], .sl []] := by
 have h : (kids.map V.cs ++ [[C.int .i64 0, .int .i64 0, .str ByteArray.empty, .sl [], .sl []]])[kids.length]? = some [C.int .i64 0, .int .i64 0, .str ByteArray.empty, .sl [], .sl []] := by
  rw [List.getElem?_append_right (by simp)]
  simp
 refine ⟨?_, h⟩
 unfold rowsAt
 rw [Int.toNat_natCast, h]
 simp
theorem part1_ac (s : ByteArray) (d d2 : DS) (kids : List V) (v : V) (n : Nat) (hn : n ≤ 100) (hl : kids.length ≤ 900000) (hv : AC Tryz.prog 79 [.ptr (0, 0) 0, .c (.int .i64 ((n + 1 : Nat) : Int))] (dsE o1 o2 s d) v.av (dsE o1 o2 s d2)) :
  AC Tryz.prog 142 [.ptr (1, 0) 0, .ptr (2, 0) 0, .ptr (3, 0) 0] (memA o1 o2 s d kids n) (.tup []) (memA' o1 o2 s d2 (kids ++ [v]) n) := by
 have hw := wrap_succ (k := n) (by omega)
 have hol : kids.length + 1 ≤ 1000000 := by omega
 have hrow := put_last kids v
 obtain ⟨hr, hg⟩ := last_at kids
 simp only [dsE_eq] at hv
 refine wEnter Tryz.func142 Tryz.ntmps142 ?_
 refine wRUN hw ?_
 refine wCallB (op_callB [] [((0, 0), (0, 0)), ((8, 1), (8, 1))] [((0, 0), (0, 0)), ((8, 1), (8, 1))] hv) trivial ?_
 refine wRUN (j4 hol hr hg hrow) ?_
 exact wRetOf (ret_of [((0, 0), (0, 0)), ((8, 1), (8, 1)), ((1, 0), (1, 0)), ((4, 0), (10, 0)), ((2, 0), (2, 0)), ((3, 0), (3, 0))] []) Tryz.results142 hrow
abbrev memO (o1 o2 : Obj) (s : ByteArray) (d : DS) (keys : List ByteArray) (kids : List V) (deep : Int) : Mem := [((0, 0), .box [.c (.str s), .c (.int .i64 d.pl), .c (.int .i64 d.code), .c (.int .i64 d.bad)]), ((8, 1), .gen (errsR o1 o2)), ((1, 0), .box [.own (1, 1)]), ((1, 1), .row false 1 9 (keys.map strCs)), ((5, 0), .box [.own (5, 1)]), ((5, 1), .row false 5 62 (kids.map V.cs)), ((2, 0), .box [.ptr (0, 0) 0]), ((3, 0), .box [.c (.int .i64 deep)])]
abbrev memO' (o1 o2 : Obj) (s : ByteArray) (d : DS) (keys : List ByteArray) (kids : List V) (deep : Int) : Mem := [((0, 0), .box [.c (.str s), .c (.int .i64 d.pl), .c (.int .i64 d.code), .c (.int .i64 d.bad)]), ((8, 1), .gen (errsR o1 o2)), ((1, 0), .box [.own (4, 0)]), ((4, 0), .row false 1 9 (keys.map strCs)), ((5, 0), .box [.own (6, 0)]), ((6, 0), .row false 5 62 (kids.map V.cs)), ((2, 0), .box [.ptr (0, 0) 0]), ((3, 0), .box [.c (.int .i64 deep)])]
theorem part2_ac (s : ByteArray) (hs : s.size ≤ 100000) (d d2 : DS) (hd : d.pl ≤ s.size) (hd3 : (d.str s).2.pl ≤ s.size) (keys : List ByteArray) (kids : List V) (v : V) (n : Nat) (hn : n ≤ 100) (hl : kids.length ≤ 900000) (hkk : keys.length ≤ 900000)
  (hv : AC Tryz.prog 79 [.ptr (0, 0) 0, .c (.int .i64 ((n + 1 : Nat) : Int))] (dsE o1 o2 s (((d.str s).2.skip s).want s 58)) v.av (dsE o1 o2 s d2)) :
  AC Tryz.prog 144 [.ptr (1, 0) 0, .ptr (2, 0) 0, .ptr (5, 0) 0, .ptr (3, 0) 0] (memO o1 o2 s d keys kids n) (.tup []) (memO' o1 o2 s d2 (keys ++ [(d.str s).1]) (kids ++ [v]) n) := by
 have hs' : s.size ≤ 1000000 := by omega
 have hw := wrap_succ (k := n) (by omega)
 have hol : kids.length + 1 ≤ 1000000 := by omega
 have holk : keys.length + 1 ≤ 1000000 := by omega
 have hrow := put_last kids v
 obtain ⟨hr, hg⟩ := last_at kids
 have hst := strD_ac (o1 := o1) (o2 := o2) s hs d hd
 have hsk := skip_ac s hs' (d.str s).2 hd3
 have hwa := want_ac s hs' ((d.str s).2.skip s) (skip_pl hd3).2 58 (by decide)
 have hrowk : (keys ++ [(d.str s).1]).map strCs = keys.map strCs ++ [[.str (d.str s).1]] := by rw [List.map_append]; rfl
 generalize (d.str s).1 = key at *
 generalize (d.str s).2 = d3 at *
 generalize (d3.skip s).want s 58 = d5 at *
 generalize d3.skip s = d4 at *
 simp only [dsM_eq, dsE_eq] at hv hst hsk hwa
 refine wEnter Tryz.func144 Tryz.ntmps144 ?_
 refine wRUN trivial ?_
 refine wCall (op_any_call [((0, 0), (0, 0)), ((8, 1), (8, 1))] [((0, 0), (0, 0)), ((8, 1), (8, 1))] hst) trivial ?_
 refine wRUN holk ?_
 refine wCall (op_any_call [((0, 0), (0, 0))] [((0, 0), (0, 0))] hsk) trivial ?_
 refine wRUN trivial ?_
 refine wCall (op_any_call [((0, 0), (0, 0))] [((0, 0), (0, 0))] hwa) trivial ?_
 refine wRUN hw ?_
 refine wCallB (op_callB [] [((0, 0), (0, 0)), ((8, 1), (8, 1))] [((0, 0), (0, 0)), ((8, 1), (8, 1))] hv) trivial ?_
 refine wRUN (j4 hol hr hg hrow) ?_
 exact wRetOf (ret_of [((0, 0), (0, 0)), ((8, 1), (8, 1)), ((1, 0), (1, 0)), ((4, 0), (8, 0)), ((5, 0), (5, 0)), ((6, 0), (20, 0)), ((2, 0), (2, 0)), ((3, 0), (3, 0))] []) Tryz.results144 (j2 hrow hrowk)
theorem want_next {s : ByteArray} {d : DS} {b : Nat} (hb : b < 256) (h : (d.want s b).code = 0) : (d.want s b).pl = d.pl + 1 := by
 unfold DS.want at h ⊢
 cases hi : d.is s b with
 | true => simp only [if_true]; rfl
 | false =>
  rw [hi] at h
  simp only [Bool.false_eq_true, if_false] at h
  unfold DS.fail at h
  split at h
  ·exact absurd h (by show ¬ ((5 : Int) = 0); decide)
  ·rename_i h2; exact absurd h h2
def flagC (d : DS) : Nat := if d.code = 0 then 1 else 0
theorem listA_ac (s : ByteArray) (hs : s.size ≤ 100000) (rd : DS → V × DS) (n : Nat) (hn : n ≤ 100) (hpl : ∀ d, d.pl ≤ s.size → d.pl ≤ (rd d).2.pl ∧ (rd d).2.pl ≤ s.size)
  (hv : ∀ d, d.pl ≤ s.size → AC Tryz.prog 79 [.ptr (0, 0) 0, .c (.int .i64 ((n + 1 : Nat) : Int))] (dsE o1 o2 s d) (rd d).1.av (dsE o1 o2 s (rd d).2)) (d : DS) (hd : d.pl ≤ s.size) (hd1 : 1 ≤ d.pl) :
  AC Tryz.prog 141 [.ptr (0, 0) 0, .c (.int .u8 93), .clo 142 [.ptr (1, 0) 0, .ptr (2, 0) 0, .ptr (3, 0) 0]] (memA o1 o2 s d [] n) (.tup []) (memA' o1 o2 s (DS.list s (elemP rd) 93 d []).1 (DS.list s (elemP rd) 93 d []).2 n) := by
 have hs' : s.size ≤ 1000000 := by omega
 have hsk := skip_ac s hs' d hd
 obtain ⟨p1, p2⟩ := skip_pl (s := s) hd
 have htk := take_ac s hs' (d.skip s) p2 93 (by decide)
 unfold DS.list
 cases hi : (d.skip s).is s 93 with
 | true =>
  unfold DS.take at htk
  rw [hi] at htk
  simp only [if_true] at htk ⊢
  generalize (d.skip s).go ((d.skip s).pl + 1) = d2 at *
  generalize d.skip s = d1 at *
  simp only [dsM_eq] at htk hsk
  refine wEnter Tryz.func141 Tryz.ntmps141 ?_
  refine wRUN trivial ?_
  refine wCall (op_any_call [((0, 0), (0, 0))] [((0, 0), (0, 0))] hsk) trivial ?_
  refine wRUN trivial ?_
  refine wCall (op_any_call [((0, 0), (0, 0))] [((0, 0), (0, 0))] htk) trivial ?_
  refine wRUN trivial ?_
  exact wRetOf (ret_of [((0, 0), (0, 0)), ((8, 1), (8, 1)), ((1, 0), (1, 0)), ((4, 0), (1, 1)), ((2, 0), (2, 0)), ((3, 0), (3, 0))] []) Tryz.results141 hn
 | false =>
  unfold DS.take at htk
  rw [hi] at htk
  simp only [Bool.false_eq_true, if_false] at htk ⊢
  obtain ⟨R, hR⟩ : ∃ R, DS.listGo s (elemP rd) 93 (s.size + 1) (d.skip s) [] = R := ⟨_, rfl⟩
  rw [hR]
  generalize d.skip s = d1 at *
  simp only [dsM_eq] at htk hsk
  (refine AC.intro_spx [(0, 0), (8, 1), (1, 0), (2, 0), (3, 0)] follows_mixed Tryz.func141 rfl Tryz.ntmps141 (Nat.le_of_ble_eq_true rfl) rfl rfl ?_; simp only [go_sem, Nat.reduceAdd])
  refine wRUN trivial ?_
  refine wCall (op_any_call [((0, 0), (0, 0))] [((0, 0), (0, 0))] hsk) trivial ?_
  refine wRUN trivial ?_
  refine wCall (op_any_call [((0, 0), (0, 0))] [((0, 0), (0, 0))] htk) trivial ?_
  refine wRUN trivial ?_
  refine a_loop (κ := DS × List V) (fun k => ⟨mkS 0 27 [(0, .ptr (0, 0) 0), (1, .c (.int .u8 93)), (2, .clo 142 [.ptr (1, 0) 0, .ptr (2, 0) 0, .ptr (3, 0) 0])],
    [((0, 0), .box [.c (.str s), .c (.int .i64 k.1.pl), .c (.int .i64 k.1.code), .c (.int .i64 k.1.bad)]), ((8, 1), .gen (errsR o1 o2)), ((1, 0), .box [.own (99, 0)]), ((99, 0), .row false 5 62 (k.2.map V.cs)), ((2, 0), .box [.ptr (0, 0) 0]), ((3, 0), .box [.c (.int .i64 n)])]⟩)
   (fun k => k.1.pl ≤ s.size ∧ k.2.length + flagC k.1 ≤ k.1.pl + 1 ∧ ∃ m, s.size - k.1.pl + flagC k.1 < m + 1 ∧ DS.listGo s (elemP rd) 93 m k.1 k.2 = R) (fun k => s.size - k.1.pl + flagC k.1) (d1, []) ⟨p2, by dsimp only; unfold flagC; split <;> simp, s.size + 1, by dsimp only; unfold flagC; split <;> omega, hR⟩ ?_ ?_
  ·exact wSays (Says.of [((0, 0), (0, 0)), ((8, 1), (8, 1)), ((1, 0), (1, 0)), ((99, 0), (1, 1)), ((2, 0), (2, 0)), ((3, 0), (3, 0))] []) @List.map_nil.{0,0}
  ·rintro ⟨q, kids⟩ ⟨hq, hkl, m, hm, hgo⟩
   dsimp only at hq hkl hm hgo ⊢
   by_cases hc : q.code = 0
   ·have hcc : (q.code == 0) = true := by simpa using hc
    have hf1 : flagC q = 1 := by unfold flagC; rw [if_pos hc]
    rw [hf1] at hkl hm
    obtain ⟨m, rfl⟩ : ∃ m', m = m' + 1 := ⟨m - 1, by omega⟩
    unfold DS.listGo elemP at hgo
    rw [if_neg (by simpa using hc)] at hgo
    simp only at hgo
    have hvq := hv q hq
    obtain ⟨v1, v2⟩ := hpl q hq
    have hp := part1_ac s q (rd q).2 kids (rd q).1 n hn (by omega) hvq
    have hsk2 := skip_ac s hs' (rd q).2 v2
    obtain ⟨k1, k2⟩ := skip_pl (s := s) v2
    have htk2 := take_ac s hs' ((rd q).2.skip s) k2 93 (by decide)
    unfold DS.take at htk2
    cases hi2 : ((rd q).2.skip s).is s 93 with
    | true =>
     rw [hi2] at hgo htk2
     simp only [if_true] at hgo htk2
     subst hgo
     simp only [dsM_eq] at htk2 hsk2
     generalize ((rd q).2.skip s).go (((rd q).2.skip s).pl + 1) = q3 at *
     generalize (rd q).2.skip s = q2 at *
     refine wRUN hcc ?_
     refine wCall (op_any_call [((0, 0), (0, 0)), ((8, 1), (8, 1)), ((1, 0), (1, 0)), ((1, 1), (99, 0)), ((2, 0), (2, 0)), ((3, 0), (3, 0))] [((0, 0), (0, 0)), ((8, 1), (8, 1)), ((1, 0), (1, 0)), ((4, 0), (17, 0)), ((2, 0), (2, 0)), ((3, 0), (3, 0))] hp) trivial ?_
     refine wRUN trivial ?_
     refine wCall (op_any_call [((0, 0), (0, 0))] [((0, 0), (0, 0))] hsk2) trivial ?_
     refine wRUN trivial ?_
     refine wCall (op_any_call [((0, 0), (0, 0))] [((0, 0), (0, 0))] htk2) trivial ?_
     refine wRUN trivial ?_
     exact wRetOf (ret_of [((0, 0), (0, 0)), ((8, 1), (8, 1)), ((1, 0), (1, 0)), ((4, 0), (17, 0)), ((2, 0), (2, 0)), ((3, 0), (3, 0))] []) Tryz.results141 hn
    | false =>
     rw [hi2] at hgo htk2
     simp only [Bool.false_eq_true, if_false] at hgo htk2
     have hwa := want_ac s hs' ((rd q).2.skip s) k2 44 (by decide)
     obtain ⟨w1, w2, w3⟩ := want_pl (s := s) (d := (rd q).2.skip s) (b := 44) (by decide) k2
     have hwn := want_next (s := s) (d := (rd q).2.skip s) (b := 44) (by decide)
     have hsk3 := skip_ac s hs' (((rd q).2.skip s).want s 44) w2
     obtain ⟨j1, j2⟩ := skip_pl (s := s) w2
     have hcd := skip_code (s := s) (((rd q).2.skip s).want s 44)
     obtain ⟨q4, hq4⟩ : ∃ q4, (((rd q).2.skip s).want s 44).skip s = q4 := ⟨_, rfl⟩
     rw [hq4] at hgo hsk3 j1 j2 hcd
     obtain ⟨q3, hq3⟩ : ∃ q3, ((rd q).2.skip s).want s 44 = q3 := ⟨_, rfl⟩
     rw [hq3] at hwa w1 w2 w3 hwn hsk3 j1 hcd
     simp only [dsM_eq] at htk2 hsk2 hwa hsk3
     have hmm : (q4.code = 0 → q.pl + 1 ≤ q4.pl) := fun h => by
      have := hwn (by rw [← hcd]; exact h)
      omega
     have hfl : flagC q4 = 1 ∧ q4.code = 0 ∨ flagC q4 = 0 := by
      unfold flagC
      by_cases h : q4.code = 0
      ·exact .inl ⟨if_pos h, h⟩
      ·exact .inr (if_neg h)
     have hmes : s.size - q4.pl + flagC q4 < s.size - q.pl + 1 ∧ s.size - q4.pl + flagC q4 < m + 1 ∧ kids.length + 1 + flagC q4 ≤ q4.pl + 1 := by
      rcases hfl with ⟨h1, h2⟩ | h1
      ·have := hmm h2; omega
      ·omega
     refine wRUN hcc ?_
     refine wCall (op_any_call [((0, 0), (0, 0)), ((8, 1), (8, 1)), ((1, 0), (1, 0)), ((1, 1), (99, 0)), ((2, 0), (2, 0)), ((3, 0), (3, 0))] [((0, 0), (0, 0)), ((8, 1), (8, 1)), ((1, 0), (1, 0)), ((4, 0), (17, 0)), ((2, 0), (2, 0)), ((3, 0), (3, 0))] hp) trivial ?_
     refine wRUN trivial ?_
     refine wCall (op_any_call [((0, 0), (0, 0))] [((0, 0), (0, 0))] hsk2) trivial ?_
     refine wRUN trivial ?_
     refine wCall (op_any_call [((0, 0), (0, 0))] [((0, 0), (0, 0))] htk2) trivial ?_
     refine wRUN trivial ?_
     refine wCall (op_any_call [((0, 0), (0, 0))] [((0, 0), (0, 0))] hwa) trivial ?_
     refine wRUN trivial ?_
     refine wCall (op_any_call [((0, 0), (0, 0))] [((0, 0), (0, 0))] hsk3) trivial ?_
     refine wRUN trivial ?_
     refine ⟨(q4, kids ++ [(rd q).1]), by dsimp only; rw [hf1]; exact hmes.1, ⟨j2, by dsimp only; rw [List.length_append]; exact hmes.2.2, m, hmes.2.1, hgo⟩, ?_⟩
     exact wSays (Says.of [((0, 0), (0, 0)), ((8, 1), (8, 1)), ((1, 0), (1, 0)), ((99, 0), (17, 0)), ((2, 0), (2, 0)), ((3, 0), (3, 0))] []) hn
   ·have hcc : (q.code == 0) = false := by simpa using hc
    rw [listGo_err hc] at hgo
    subst hgo
    refine wRUN hcc ?_
    exact wRetOf (ret_of [((0, 0), (0, 0)), ((8, 1), (8, 1)), ((1, 0), (1, 0)), ((4, 0), (99, 0)), ((2, 0), (2, 0)), ((3, 0), (3, 0))] []) Tryz.results141 hn
end Go.Proofs.YtlciedpfjhkkdaaGreatDoor
