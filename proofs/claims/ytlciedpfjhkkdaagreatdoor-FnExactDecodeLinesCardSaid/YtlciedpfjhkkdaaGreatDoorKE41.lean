/- The engine: a map of the function's own whose keys and values are one cell of data each. -/
import Derived.Test.YtlciedpfjhkkdaaGreatDoorKE40
set_option linter.all false
namespace Go.Proofs.YtlciedpfjhkkdaaGreatDoor
open Go.RowKit Go.ChangeMaps Go.MapKept Go.Maps
open Go.WideElems (Fit rd rg pl)
def C.val:C→Option Value
 | .int k n=>some (.int k n)
 | .bool b=>some (.bool b)
 | .str s=>some (.string s)
 |_=>none
theorem C.val_of {c:C}{u v:Value}{w:World}{S:Nat→Prop}{bs:List Nat}(h:c.val=some u) (hr:CR w S c v bs):v=u:=by
 cases c<;>simp only[C.val,Option.some.injEq]at h<;>first | (subst h;exact hr.1) | cases h
theorem C.val_rep {c:C}{u:Value}{w:World}{S:Nat→Prop}(h:c.val=some u):CR w S c u []:=by
 cases c<;>simp only[C.val,Option.some.injEq]at h<;>first | (subst h;exact⟨rfl,rfl⟩) | cases h
def gmD (l:List (Lit×Value)):DataW Value:=l.foldl (fun D p=>D.put p.1 (.held p.2)) (.map [])
theorem Mj (l:List (Lit×Value)) (p:Lit×Value):gmD (l++[p])=(gmD l).put p.1 (.held p.2):=by
 unfold gmD
 rw[List.foldl_append]
 rfl
def EJ:List (Lit×Value)→Lit→Option Value
 | [],_=>none
 |p::r,k=>match EJ r k with
  |some v=>some v
  |none=>if p.1.sameKey k=true then some p.2 else none
theorem MM (l:List (Lit×Value)) (p:Lit×Value) (k:Lit):EJ (l++[p]) k=if p.1.sameKey k=true then some p.2 else EJ l k:=by
 induction l with
 |nil=>simp[EJ]
 |cons q l ih =>
  simp only[List.cons_append,EJ,ih]
  by_cases h:p.1.sameKey k=true
  ·rw[if_pos h,if_pos h]
  ·rw[if_neg h,if_neg h]
theorem Pk (l:List (Lit×Value)):IsMap (gmD l):=by
 suffices h:∀D:DataW Value,IsMap D→IsMap (l.foldl (fun D p=>D.put p.1 (.held p.2)) D) from h _ isMap_empty
 induction l with
 |nil=>exact fun D h=>h
 |cons p l ih=>exact fun D h=>ih _ (h.put _ _)
theorem SG {l:List (Lit×Value)}(hk:∀p∈l,WideAt.IsKeyLit p.1) (k:Lit) (z:DataW Value):(gmD l).atKey k z=match EJ l k with | some v=>.held v | none=>z:=by
 suffices h:∀n (l:List (Lit×Value)),l.length=n→(∀p∈l,WideAt.IsKeyLit p.1)→(gmD l).atKey k z=match EJ l k with | some v=>.held v | none=>z from h _ l rfl hk
 intro n
 induction n with
 |zero =>
  intro l hl _
  rw[List.eq_nil_of_length_eq_zero hl]
  exact WideAt.atKey_none z (fun p hp=>by simp at hp)
 |succ n ih =>
  intro l hl hk
  obtain⟨p,r,rfl⟩:=E6 l (by omega)
  rw[Mj,MM]
  by_cases h:p.1.sameKey k=true
  ·rw[if_pos h,←WideAt.sameKey_eq h]
   exact atKey_put_same (Pk r) (hk p (by simp)) _ _
  ·rw[if_neg h,atKey_put_other (fun e=>h (by rw[←e];exact WideAt.sameKey_self (by rw[e];exact hk p (by simp))))]
   exact ih r (by simpa using hl) fun q hq=>hk q (by simp[hq])
def gmR (P:Program) (kt:TypeId) (l:List (Lit×Value)):Value→List (Nat×Obj)→Prop:=fun v bl=>∃b obj,v=.map (some b)∧bl=[(b,obj)]∧(∀p∈l,WideAt.IsKeyLit p.1)∧∃es clock,obj=.map es clock∧Fit P kt RV es clock∧es.size≤l.length∧gmD l=.map ((es.toList.map (rg P kt RV)).foldr DataW.insert [])
abbrev gmA (P:Program) (kt:TypeId) (l:List (Lit×Value)):AO:=.gen (gmR P kt l)
section
variable {P:Program} {o:Oper} {σ:ASt} {kt et:TypeId}
theorem OB {ty:TypeId}{fr:Id}(ho:o.op=.makeMap ty none) (hf:σ.mem.get fr=none):Ag P o σ ⟨[],[(fr,gmA P kt [])],.own fr⟩:=by
 intro Γ σ' a w ow κ hag hr
 have hf':σ'.mem.get fr=none:=by rw[hag.2.2 fr (by simp),hf]
 have st:Step σ'.mem [(fr,gmA P kt [])] w ow κ (w.alloc (.map #[] 0)) (C6 ow [] fr (some w.heap.size)) (BZ κ fr (.map (some w.heap.size))) :=
  Step.make (ks:=[]) rfl rfl rfl (by simp) hf' (by simp) rfl (fun b hb _=>Below.heap_alloc w _ b hb) (fun b hb=>by cases hb;exact⟨by simp,.inl (Nat.le_refl _)⟩) hr.owns
 refine⟨.map (some w.heap.size),_,_,_,.inl (by unfold execOp;rw[ho];rfl),hr.step (E:=⟨[],[(fr,gmA P kt [])],.own fr⟩) st ⟨rfl,gmA P kt [],Bp (ks:=[]) (by simp),fun _=>by simp[BZ]⟩ (fun i hi o' ho'=>?_) o.dst⟩
 have hi':i=fr:=by simpa using hi
 subst hi'
 cases (Bp (m:=σ'.mem) (ks:=[]) (fr:=i) (obj:=gmA P kt []) (by simp)).symm.trans ho'
 obtain⟨es,clock,g1,g2,g3,g4⟩:=World.ownsMap_made w P kt RV
 refine⟨[(w.heap.size,.map es clock)],fun p hp=>?_,w.heap.size,_,by simp[BZ],rfl,by simp,es,clock,rfl,g2,g3,g4⟩
 have:p=(w.heap.size,.map es clock):=by simpa using hp
 subst this
 exact⟨by simp[C6],g1⟩
theorem JT {m x y:Operand}{i:Id}{l:List (Lit×Value)}{cx cy:C}{key val:Value}{kl:Lit}{ty:TypeId}(ho:o.op=.mapUpdate ty m x y∨o.op=.insert ty m x y) (hm:σ.ev m=.own i) (hx:σ.ev x=.c cx) (hxv:cx.val=some key) (hy:σ.ev y=.c cy) (hyv:cy.val=some val)
  (ht:P.underlying ty=some (.map kt et)) (hK:Keyed P kt) (hkey:keyOf P kt key=some kl) (hkl:WideAt.IsKeyLit kl) (hi:σ.mem.get i=some (gmA P kt l)) (hn:l.length<9223372036854775807) :
  Ag P o σ ⟨[],[(i,gmA P kt (l++[(kl,val)]))],.skip⟩:=by
 have hop:∀z,z=m∨z=x∨z=y→z∈o.op.operands:=fun z hz=>by
  rcases ho with ho | ho<;>(rw[ho];simpa [Op.operands] using hz)
 intro Γ σ' a w ow κ hag hr
 have hi':σ'.mem.get i=some (gmA P kt l):=by rw[hag.2.2 i (by simp),hi]
 obtain⟨_,o1,k1,k2⟩:=hag.ev hr (hop m (.inl rfl)) hm
 rw[hi']at k1
 cases k1
 have e1:=k2 (by simp)
 have e2:=C.val_of hxv (hag.ev hr (hop x (.inr (.inl rfl))) hx)
 have e3:=C.val_of hyv (hag.ev hr (hop y (.inr (.inr rfl))) hy)
 obtain⟨bl,g1,b,obj,g2,rfl,g3,es,clock,rfl,g4,g5,g6⟩:=hr.objs i _ hi'
 obtain⟨hob,hb⟩:=g1 (b,.map es clock) (by simp)
 have hown:w.ownsMap P kt RV b l.length (gmD l):=⟨es,clock,hb,g4,g5,g6⟩
 have hmx:maxLen=9223372036854775807:=rfl
 obtain⟨w',hrun,r1,r2⟩:=hown.update hK ht (by rw[hmx];exact hn) (key:=key) (val:=val) hkey (d:=.held val) (ps:=[]) rfl
 have st:Step σ'.mem [(i,gmA P kt (l++[(kl,val)]))] w ow κ w' ow κ :=
  Step.turn r2.os r2.tape r2.output r2.size hi' rfl rfl (fun b' hb' hne=>r2.block b' hb' (fun e=>hne (by cases e;exact hob))) (fun b i hb=>(hr.own b i hb).1)
 refine⟨undef,w',ow,κ,.inr ⟨?_,rfl⟩,hr.step (E:=⟨[],[(i,gmA P kt (l++[(kl,val)]))],.skip⟩) st rfl (fun j hj o' ho'=>?_) o.dst⟩
 ·rw[←e1]at g2
  unfold execOp
  rcases ho with ho | ho
  ·rw[ho]
   simp[g2,e2,e3,hrun]
  ·rw[ho]
   simp[g2,e2,e3,hrun]
 ·have hji:j=i:=by simpa using hj
  subst hji
  have:o'=gmA P kt (l++[(kl,val)]):=by
   have:(σ'.mem.puts [(j,gmA P kt (l++[(kl,val)]))]).get j=some o':=ho'
   simp[Mem.puts,Mem.get_put]at this
   exact this.symm
  subst this
  obtain⟨es',clock',f1,f2,f3,f4⟩:=r1
  refine⟨[(b,.map es' clock')],fun p hp=>?_,b,_,g2,rfl,fun p hp=>?_,es',clock',rfl,f2,by simpa using f3,by rw[Mj];exact f4⟩
  ·have:p=(b,.map es' clock'):=by simpa using hp
   subst this
   exact⟨hob,f1⟩
  ·rcases List.mem_append.1 hp with hp | hp
   ·exact g3 p hp
   ·rw[List.mem_singleton.1 hp];exact hkl
theorem OS {m x:Operand}{i:Id}{l:List (Lit×Value)}{cx c:C}{key u z:Value}{kl:Lit}{ty:TypeId}(ho:o.op=.lookup ty m x false) (hm:σ.ev m=.own i) (hx:σ.ev x=.c cx) (hxv:cx.val=some key)
  (ht:P.underlying ty=some (.map kt et)) (hK:Keyed P kt) (hkey:keyOf P kt key=some kl) (hz:∀w,(zeroValue et).run P w=.ok z w) (hi:σ.mem.get i=some (gmA P kt l)) (hg:(EJ l kl).getD z=u) (hc:c.val=some u):Ag P o σ ⟨[i],[],.c c⟩:=by
 refine Ag.pure fun Γ σ' a w ow κ hag hr=>?_
 have hi':σ'.mem.get i=some (gmA P kt l):=by rw[hag.2.1 i (by simp),hi]
 obtain⟨_,o1,k1,k2⟩:=hag.ev hr (by rw[ho];simp[Op.operands]) hm
 rw[hi']at k1
 cases k1
 have e1:=k2 (by simp)
 have e2:=C.val_of hxv (hag.ev hr (by rw[ho];simp[Op.operands]) hx)
 obtain⟨bl,g1,b,obj,g2,rfl,g3,es,clock,rfl,g4,g5,g6⟩:=hr.objs i _ hi'
 obtain⟨hob,hb⟩:=g1 (b,.map es clock) (by simp)
 have hown:w.ownsMap P kt RV b l.length (gmD l):=⟨es,clock,hb,g4,g5,g6⟩
 obtain⟨v,ps,hrun,hat⟩:=hown.lookup hK ht (hz w) (zd:=.held z) (zp:=[]) rfl (key:=key) hkey
 rw[SG g3]at hat
 have hve:v=u:=by
  have h1:RV v=some (match EJ l kl with | some v=>.held v | none=>.held z,ps):=hat
  rw[←hg]
  cases hq:EJ l kl with
  |none=>rw[hq]at h1;simpa [RV] using (Prod.mk.inj (Option.some.inj h1)).1
  |some v'=>rw[hq]at h1;simpa [RV] using (Prod.mk.inj (Option.some.inj h1)).1
 subst hve
 refine⟨v,?_,C.val_rep hc⟩
 rw[←e1]at g2
 unfold execOp
 rw[ho]
 simp[g2,e2,hrun]
end
section
variable {P:Program} {σ τ:ASt} {ops:Array Oper} {r:List Oper} {fs:List AEff} {K:ASt→List AEff→Prop} {E:AEff} {kt et:TypeId} {d:Option Tmp} {ty ty':TypeId} {pos:String} {af:Array Edge} {gd:Option (Nat×Bool)}
theorem Ma (kt:TypeId) (hg:AY ops σ ⟨d,.makeMap ty none,ty',pos,af,gd⟩=some true) (hf:σ.mem.get (σ.fresh ⟨d,.makeMap ty none,ty',pos,af,gd⟩)=none)
  (he:(⟨[],[(σ.fresh ⟨d,.makeMap ty none,ty',pos,af,gd⟩,gmA P kt [])],.own (σ.fresh ⟨d,.makeMap ty none,ty',pos,af,gd⟩)⟩:AEff)=E) (hτ:σ.upd d E=τ) (h:A9 P ops r τ (fs++[E]) K):A9 P ops (⟨d,.makeMap ty none,ty',pos,af,gd⟩::r) σ fs K:=by
 subst he
 exact B7 hg (OB (kt:=kt) rfl hf).sound hτ h
theorem DE {m x y:Operand}{i:Id}{l:List (Lit×Value)}{cx cy:C}{key val:Value}{kl:Lit}(ht:P.underlying ty=some (.map kt et)) (hK:Keyed P kt) (hkl:WideAt.IsKeyLit kl) (hn:l.length<9223372036854775807) (hxv:cx.val=some key) (hyv:cy.val=some val) (hkey:keyOf P kt key=some kl)
  (hg:AY ops σ ⟨d,.insert ty m x y,ty',pos,af,gd⟩=some true) (hm:σ.ev m=.own i) (hx:σ.ev x=.c cx) (hy:σ.ev y=.c cy) (hi:σ.mem.get i=some (gmA P kt l))
  (he:(⟨[],[(i,gmA P kt (l++[(kl,val)]))],.skip⟩:AEff)=E) (hτ:σ.upd d E=τ) (h:A9 P ops r τ (fs++[E]) K):A9 P ops (⟨d,.insert ty m x y,ty',pos,af,gd⟩::r) σ fs K:=by
 subst he
 exact B7 hg (JT (.inr rfl) hm hx hxv hy hyv ht hK hkey hkl hi hn).sound hτ h
theorem Ts {m x y:Operand}{i:Id}{l:List (Lit×Value)}{cx cy:C}{key val:Value}{kl:Lit}(ht:P.underlying ty=some (.map kt et)) (hK:Keyed P kt) (hkl:WideAt.IsKeyLit kl) (hn:l.length<9223372036854775807) (hxv:cx.val=some key) (hyv:cy.val=some val) (hkey:keyOf P kt key=some kl)
  (hg:AY ops σ ⟨d,.mapUpdate ty m x y,ty',pos,af,gd⟩=some true) (hm:σ.ev m=.own i) (hx:σ.ev x=.c cx) (hy:σ.ev y=.c cy) (hi:σ.mem.get i=some (gmA P kt l))
  (he:(⟨[],[(i,gmA P kt (l++[(kl,val)]))],.skip⟩:AEff)=E) (hτ:σ.upd d E=τ) (h:A9 P ops r τ (fs++[E]) K):A9 P ops (⟨d,.mapUpdate ty m x y,ty',pos,af,gd⟩::r) σ fs K:=by
 subst he
 exact B7 hg (JT (.inl rfl) hm hx hxv hy hyv ht hK hkey hkl hi hn).sound hτ h
theorem LB {m x:Operand}{i:Id}{l:List (Lit×Value)}{cx c:C}{key u z:Value}{kl:Lit}(ht:P.underlying ty=some (.map kt et)) (hK:Keyed P kt) (hz:∀w,(zeroValue et).run P w=.ok z w) (hxv:cx.val=some key) (hkey:keyOf P kt key=some kl) (hgv:(EJ l kl).getD z=u) (hc:c.val=some u)
  (hg:AY ops σ ⟨d,.lookup ty m x false,ty',pos,af,gd⟩=some true) (hm:σ.ev m=.own i) (hx:σ.ev x=.c cx) (hi:σ.mem.get i=some (gmA P kt l))
  (he:(⟨[i],[],.c c⟩:AEff)=E) (hτ:σ.upd d E=τ) (h:A9 P ops r τ (fs++[E]) K):A9 P ops (⟨d,.lookup ty m x false,ty',pos,af,gd⟩::r) σ fs K:=by
 subst he
 exact B7 hg (OS rfl hm hx hxv ht hK hkey hz hi hgv hc).sound hτ h
end
end Go.Proofs.YtlciedpfjhkkdaaGreatDoor
