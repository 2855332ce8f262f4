/- Texts of this proof: E38 D01 D02 E32 E34 G80. -/
import Derived.Test.YtllfmaflodbieaaGreatDoorKE37uM57
import Derived.Laws.StructEq
import Derived.WideLaws
set_option linter.all false
namespace Go.Proofs.YtllfmaflodbieaaGreatDoor
section
open Go.RowKit
def Qd:Value→List (Nat×Obj)→Prop:=fun v l=>l=[]∧v.oneCell'=true∧∃t x,v=.iface t x
section
variable {P:Program} {o:Oper} {σ:ASt}
theorem a2f {t t':TypeId}{y z:Operand}{k:IntKind}{a b:Int}{s u:ByteArray}{r:Bool}(ho:o.op=.binOp .neq t y z t') (hy:σ.ev y=.agg [.c (.int k a),.c (.str s)]) (hz:σ.ev z=.agg [.c (.int k b),.c (.str u)])
  (hm:P.eqGuardType P.depth t=false) (hq:∀w,(Op.equalIn 10000 t (.agg #[.int k a,.string s]) (.agg #[.int k b,.string u])).run P w=.ok r w):A3 P o σ ⟨[],[],.c (.bool (!r))⟩:=by
 refine A3.pure fun Γ σ' a' w ow κ hag hr=>?_
 obtain⟨vs,e1,h1,_⟩:=hag.ev hr (by rw[ho];simp[Op.operands]) hy
 obtain⟨us,e2,h2,_⟩:=hag.ev hr (by rw[ho];simp[Op.operands]) hz
 simp only[ARs,AR,CR]at h1 h2
 obtain⟨_,_,rfl,⟨rfl,_⟩,_,_,rfl,⟨rfl,_⟩,rfl⟩:=h1
 obtain⟨_,_,rfl,⟨rfl,_⟩,_,_,rfl,⟨rfl,_⟩,rfl⟩:=h2
 refine⟨.bool (!r),?_,rfl,rfl⟩
 unfold execOp
 rw[ho]
 simp[e1,e2,run_eqGuard_agg _ _ _ _ _ _ _ hm,run_neq_struct,hq]
theorem o7 {op:BinOp}{t t':TypeId}{y z:Operand}{i:Id}{x:AV}(ho:o.op=.binOp op t y z t') (hy:σ.ev y=.own i) (hz:σ.ev z=.c (.raw .nilIface)) (hi:σ.mem.get i=some (.gen Qd))
  (ht:P.underlying t=some (.interface (P.methodsAt t))) (he:C5 op false=some x):A3 P o σ ⟨[i],[],x⟩:=by
 refine A3.pure fun Γ σ' a w ow κ hag hr=>?_
 have hi':σ'.mem.get i=some (.gen Qd):=by rw[hag.2.1 i (by simp),hi]
 obtain⟨_,o1,k1,k2⟩:=hag.ev hr (by rw[ho];simp[Op.operands]) hy
 rw[hi']at k1
 cases k1
 have e1:=k2 (by simp)
 have e2:=(hag.ev hr (by rw[ho];simp[Op.operands]) hz).1
 obtain⟨l,_,_,_,q,x',hx⟩:=hr.objs i _ hi'
 rw[hx]at e1
 refine C1 (b:=false) ho he e1 e2 (fun op=>?_) (run_eql_held_nil w t q x' ht) (run_neq_held_nil w t q x' ht)
 unfold eqGuard
 cases op<;>simp
theorem p7 {op:BinOp}{t t':TypeId}{y:Operand}{q:Value}{x:AV}(ho:o.op=.binOp op t y (.const q) t') (hy:σ.ev y=.c (.raw .nilIface)) (hz:σ.ev (.const q)=.c (.raw .nilIface))
  (ht:P.underlying t=some (.interface (P.methodsAt t))) (he:C5 op true=some x):A3 P o σ ⟨[],[],x⟩:=by
 refine A3.pure fun Γ σ' a w ow κ hag hr=>?_
 have e1:=(hag.ev hr (by rw[ho];simp[Op.operands]) hy).1
 have e2:=(hag.ev hr (by rw[ho];simp[Op.operands]) hz).1
 refine C1 (b:=true) ho he e1 e2 (fun op=>?_) (run_eql_nil_nil w t ht) (run_neq_nil_nil w t ht)
 unfold eqGuard
 cases op<;>simp
end
section
variable {P:Program} {σ τ:ASt} {ops:Array Oper} {r:List Oper} {fs:List AEff} {K:ASt→List AEff→Prop} {E:AEff} {d:Option Tmp} {ty':TypeId} {pos:String} {af:Array Edge} {gd:Option (Nat×Bool)}
theorem a6t {t t':TypeId}{y z:Operand}{k:IntKind}{a b:Int}{s u:ByteArray}{q:Bool}(hm:P.eqGuardType P.depth t=false) (hq:∀w,(Op.equalIn 10000 t (.agg #[.int k a,.string s]) (.agg #[.int k b,.string u])).run P w=.ok q w)
  (hg:AB ops σ ⟨d,.binOp .neq t y z t',ty',pos,af,gd⟩=some true) (hy:σ.ev y=.agg [.c (.int k a),.c (.str s)]) (hz:σ.ev z=.agg [.c (.int k b),.c (.str u)])
  (hE:(⟨[],[],.c (.bool (!q))⟩:AEff)=E) (hτ:σ.upd d E=τ) (h:A4 P ops r τ (fs++[E]) K):A4 P ops (⟨d,.binOp .neq t y z t',ty',pos,af,gd⟩::r) σ fs K:=by
 subst hE
 exact Ku hg (a2f rfl hy hz hm hq).sound hτ h
theorem WA {op:BinOp}{t t':TypeId}{y z:Operand}{i:Id}{x:AV}(ht:P.underlying t=some (.interface (P.methodsAt t))) (hg:AB ops σ ⟨d,.binOp op t y z t',ty',pos,af,gd⟩=some true) (hy:σ.ev y=.own i) (hz:σ.ev z=.c (.raw .nilIface)) (hi:σ.mem.get i=some (.gen Qd)) (he:C5 op false=some x)
  (hE:(⟨[i],[],x⟩:AEff)=E) (hτ:σ.upd d E=τ) (h:A4 P ops r τ (fs++[E]) K):A4 P ops (⟨d,.binOp op t y z t',ty',pos,af,gd⟩::r) σ fs K:=by
 subst hE
 exact Ku hg (o7 rfl hy hz hi ht he).sound hτ h
theorem Nw {op:BinOp}{t t':TypeId}{y:Operand}{q:Value}{x:AV}(ht:P.underlying t=some (.interface (P.methodsAt t))) (hg:AB ops σ ⟨d,.binOp op t y (.const q) t',ty',pos,af,gd⟩=some true) (hy:σ.ev y=.c (.raw .nilIface)) (hz:σ.ev (.const q)=.c (.raw .nilIface)) (he:C5 op true=some x)
  (hE:(⟨[],[],x⟩:AEff)=E) (hτ:σ.upd d E=τ) (h:A4 P ops r τ (fs++[E]) K):A4 P ops (⟨d,.binOp op t y (.const q) t',ty',pos,af,gd⟩::r) σ fs K:=by
 subst hE
 exact Ku hg (p7 rfl hy hz ht he).sound hτ h
end
end
section
open Go.RowKit
set_option maxRecDepth 10000
theorem a0c (n m:Nat):((n:Int)==(m:Int))=(n==m):=by
 rw[Bool.eq_iff_iff];simp;omega
theorem X8 (n:Nat):Fb n=((((n:Int)==32)||((n:Int)==9))||((n:Int)==10)||((n:Int)==13)):=by
 unfold Fb
 rw[Bool.eq_iff_iff];simp;omega
theorem a0k (n:Nat):G0 n=(decide ((n:Int)≥48)&&decide ((n:Int)≤57)):=by
 unfold G0
 rw[Bool.eq_iff_iff];simp;omega
set_option maxRecDepth 10000
theorem Um {n:Int}(h0:0≤n) (h1:n<256):IntKind.u8.wrap n=n:=IntWalk.u8_in _ (by omega)
theorem S5 {n:Int}(h0:-9223372036854775808≤n) (h1:n≤9223372036854775807):IntKind.i64.wrap n=n:=IntWalk.i64_in _ (by omega)
end
section
open Go.RowKit
section
variable {P:Program}
section
variable {σ:ASt} {a:Act} {w:World} {Γ:Ctx}
theorem Td {ow:Nat→Option Id}{κ:Id→Value}(h:RelAt Γ σ a w ow κ) {fn:Func}{m:Mem}{res:AV}{m':Mem}(hΓ:∀i o o',m.get i=some o→m'.get i=some o'→i∈Γ.ext) (hR:D0 P fn m res m' σ):∃v,(results fn a.tmps).run P w=.ok v w∧∃ow' κ',ExitAt Γ m m' w res v ow' κ':=by
 obtain⟨r,h1,ρ,bw,h2,h3,h4,h5⟩:=hR
 obtain⟨v,g1,g2⟩:=Gj h h1
 have hS:∀b,Γ.sees ow b→Γ.sees (Al ρ m' ow) b:=fun b hb=>⟨AI hb.1,hb.2⟩
 have hT:∀b j,j∈bw→ow b=some j→Γ.sees (Al ρ m' ow) b:=fun b j hj hb=>⟨Cp h4 hj hb,by
  by_cases h1:Γ.w.heap.size≤b
  ·exact .inr (.inl h1)
  ·by_cases h2:Γ.ow b=none
   ·have:=(h.frame b (by omega) h2).2
    rw[this]at hb
    cases hb
   ·exact .inr (.inr h2)⟩
 refine⟨v,g1,Al ρ m' ow,AA ρ κ,Mat.rep h4 hS hT h.objs h2 h3 g2,fun i o hi=>AM.rep h4 hS hT h.objs hi,fun b i hb=>?_,h.os,h.tape,h.output,h.size,fun b hb h0=>?_,fun i o o' hi hi'=>?_⟩
 ·obtain⟨⟨o,h1,h2⟩,j,_,h3⟩:=AS h4.nd hb
  exact⟨(h.own b j h3).1,o,h1,h2⟩
 ·obtain⟨h1,h2⟩:=h.frame b hb h0
  exact⟨h1,AI h2⟩
 ·have:=h5 (i,o) (Mem.mem_of_get hi) (by simp[hi'])
  simp only at this
  simp only[AA,this]
  exact (h.kap i (hΓ i o o' hi hi')).1
end
theorem AC.intro_ext (L:List Id) {f:FuncId}{fn:Func}{c:Code}{args:List AV}{m:Mem}{res:AV}{m':Mem}(hm:P.follows .mixedOrders=true) (hf:P.funcs[f]? = some fn) (hb:fn.body=some c)
  (hL:(L.all fun i=>(m.get i).isSome)=true) (hL':(m'.all fun p=>!(m.get p.1).isSome||L.contains p.1)=true)
  (h:awp P L c (fun e σ=>match e with
   | .exit _=>False
   |_=>D0 P fn m res m' σ) ⟨args++List.replicate (fn.ntmps-args.length) .undef,m⟩):AC P f args m res m':=by
 intro Γ Bh hent hargs
 refine calls_of_wp hf hb ?_
 have hl:=hargs.length
 have hr:Rel { Γ with ext:=L } ⟨args++List.replicate (fn.ntmps-args.length) .undef,m⟩ { tmps:=Bh.toArray++Array.replicate (fn.ntmps-Bh.toArray.size) undef,defers:=[] } Γ.w:=by
  refine⟨Γ.ow,Γ.κ,by simp[hl],rfl,fun t=>?_,hent.objs,hent.own,rfl,rfl,rfl,Nat.le_refl _,fun b _ h0=>⟨rfl,h0⟩,fun i hi=>⟨rfl,?_⟩⟩
  ·have:=ARs.getD hargs t
   by_cases ht:t<args.length
   ·have e1:(⟨args++List.replicate (fn.ntmps-args.length) .undef,m⟩:ASt).slot t=args.getD t .undef:=by
     simp only[ASt.slot,List.getD,List.getElem?_append_left ht]
    have e2:(Bh.toArray++Array.replicate (fn.ntmps-Bh.toArray.size) undef).getD t undef=Bh.getD t undef:=by
     rw[Array.getD_eq_getD_getElem?,Array.getElem?_append_left (by simp;omega)]
     simp[List.getD]
    show AR _ _ _ _ (ASt.slot _ t) (Array.getD _ t undef)
    rw[e1,e2]
    exact this
   ·have e1:(⟨args++List.replicate (fn.ntmps-args.length) .undef,m⟩:ASt).slot t=.undef:=by
     simp only[ASt.slot,List.getD,List.getElem?_append_right (Nat.le_of_not_lt ht),List.getElem?_replicate]
     split<;>rfl
    show AR _ _ _ _ (ASt.slot _ t) (Array.getD _ t undef)
    rw[e1]
    trivial
  ·exact Option.isSome_iff_exists.1 (List.all_eq_true.1 hL i hi)
 have h':awp P ({ Γ with ext:=L }:Ctx).ext c _ _:=h
 refine wp_mono (AK hm c _ _ _ _ h' hr) ?_
 intro e a' w' hq
 have fin:∀τ,Rel { Γ with ext:=L } τ a' w'→D0 P fn m res m' τ→a'.defers=[]∧∃v,(results fn a'.tmps).run P w'=.ok v w'∧∃v',∃ow κ,Ending.returned v=.returned v'∧ExitAt Γ m m' w' res v' ow κ:=by
  rintro τ ⟨ow,κ,hr'⟩ hR
  obtain⟨v,g1,ow',κ',g2⟩:=Td hr' (fun i o o' h1 h2=>by
   have:=List.all_eq_true.1 hL' (i,o') (Mem.mem_of_get h2)
   simp only[h1,Option.isSome_some,Bool.not_true,Bool.false_or]at this
   exact List.contains_iff_mem.1 this) hR
  exact⟨hr'.defers,v,g1,v,ow',κ',rfl,⟨g2.res,g2.objs,g2.own,g2.os,g2.tape,g2.output,g2.size,g2.frame,g2.kap⟩⟩
 cases e with
 |normal=>obtain⟨τ,h1,h2⟩:=hq;exact fin τ h1 h2
 |ret=>obtain⟨τ,h1,h2⟩:=hq;exact fin τ h1 h2
 |exit id=>obtain⟨τ,h1,h2⟩:=hq;exact h2
 |goto l=>exact hq.elim
 |panic ch=>exact hq.elim
 |outgrown=>exact hq.elim
theorem AC.intro_spx (L:List Id) {f:FuncId}{fn:Func}{c:Code}{args:List AV}{m:Mem}{res:AV}{m':Mem}{n:Nat}(hm:P.follows .mixedOrders=true) (hf:P.funcs[f]? = some fn) (hb:fn.body=some c) (hn:fn.ntmps=n) (hl:args.length≤n)
  (hL:(L.all fun i=>(m.get i).isSome)=true) (hL':(m'.all fun p=>!(m.get p.1).isSome||L.contains p.1)=true)
  (h:awp P L c (fun e σ=>match e with
   | .exit _=>False
   |_=>D0 P fn m res m' σ) ⟨sp n (Ct 0 args),m⟩):AC P f args m res m':=by
 refine AC.intro_ext L hm hf hb hL hL' ?_
 rw[hn,J5 hl]
 exact h
end
end
section
open Go.RowKit
section
variable {P:Program} {ops:Array Oper} {r:List Oper} {σ τ:ASt} {fs:List AEff} {K:ASt→List AEff→Prop} {E:AEff}
theorem Fits.ofB (bw:List Id) (ρ ρ':List (Id×Id)) {fz:List (Id×AO)}{m:Mem}{res:AV}{m':Mem}(h1:Er (rn ρ) σ.mem bw m) (h2:(m.all fun p=>p.2.refs m)=true) (hfz:Dc σ.mem bw=fz) (hids:fz.map (·.1)=bw) (hndb:bw.Nodup) (h3:(m.map (·.1)).Nodup) (h4:(m.filterMap fun p=>if p.2.live then rn ρ p.1 else none).Nodup)
  (hl:(m.all fun p=>p.2.live)=true) (hl':(m'.all fun p=>p.2.live)=true) (hnd:(m'.map fun p=>rnF ρ' p.1).Nodup) (hnd':(m'.map (·.1)).Nodup)
  (hnew:∀p,p∈m'→((m.get p.1).isSome=true∧rn ρ p.1=some (rnF ρ' p.1))∨(m.get p.1=none∧σ.mem.get (rnF ρ' p.1)=none))
  (hbw:∀j,j∈(m.filterMap fun p=>if p.2.live then rn ρ p.1 else none)→j ∉ bw):Fits σ (rn ρ) bw fz false (rnF ρ') m res m':=by
 subst hfz
 refine⟨MatM.of h1 h2 h3 h4 hbw,fun p hp=>List.all_eq_true.1 hl p hp,hnd,hnd',fun p hp=>List.all_eq_true.1 hl' p hp,fun p hp=>?_,fun p hp=>?_,fun _ j hj=>by rw[hids];exact hj,by rw[hids];exact hndb,fun h=>by cases h⟩
 ·rcases hnew p hp with⟨g1,g2⟩ | g
  ·obtain⟨o,ho⟩:=Option.isSome_iff_exists.1 g1
   exact .inl ⟨o,ho,g2⟩
  ·exact .inr g
 ·unfold Dc at hp
  simp only[List.mem_filterMap,Option.map_eq_some_iff]at hp
  obtain⟨j,hj,rows,hr,rfl⟩:=hp
  exact⟨hj,rows,rfl,hr⟩
theorem Fits.ofC (bw:List Id) (ρ ρ':List (Id×Id)) {m:Mem}{res:AV}{m':Mem}(h1:Er (rn ρ) σ.mem bw m) (h2:(m.all fun p=>p.2.refs m)=true) (hc1:res.closed=true) (hc2:(m'.all fun p=>p.2.closed)=true) (h3:(m.map (·.1)).Nodup) (h4:(m.filterMap fun p=>if p.2.live then rn ρ p.1 else none).Nodup)
  (hl:(m.all fun p=>p.2.live)=true) (hl':(m'.all fun p=>p.2.live)=true) (hnd:(m'.map fun p=>rnF ρ' p.1).Nodup) (hnd':(m'.map (·.1)).Nodup)
  (hnew:∀p,p∈m'→((m.get p.1).isSome=true∧rn ρ p.1=some (rnF ρ' p.1))∨(m.get p.1=none∧σ.mem.get (rnF ρ' p.1)=none))
  (hbw:∀j,j∈(m.filterMap fun p=>if p.2.live then rn ρ p.1 else none)→j ∉ bw):Fits σ (rn ρ) bw [] true (rnF ρ') m res m':=by
 refine⟨MatM.of h1 h2 h3 h4 hbw,fun p hp=>List.all_eq_true.1 hl p hp,hnd,hnd',fun p hp=>List.all_eq_true.1 hl' p hp,fun p hp=>?_,fun p hp=>absurd hp (by simp),fun h=>Bool.noConfusion h,List.nodup_nil,fun _=>⟨hc1,fun p hp=>List.all_eq_true.1 hc2 p hp⟩⟩
 rcases hnew p hp with⟨g1,g2⟩ | g
 ·obtain⟨o,ho⟩:=Option.isSome_iff_exists.1 g1
  exact .inl ⟨o,ho,g2⟩
 ·exact .inr g
theorem a6f (bw:List Id) (ρ ρ':List (Id×Id)) {d:Option Tmp}{fv:Operand}{args:Array Operand}{tys:Array TypeId}{ty:TypeId}{pos:String}{af:Array Edge}{gd:Option (Nat×Bool)}{m:Mem}{res:AV}{m':Mem}{f:FuncId}{caps cargs:List AV}
  (hac:AC P f cargs m res m') (hg:AB ops σ ⟨d,.call ⟨.value fv,args,tys⟩,ty,pos,af,gd⟩=some true) (hv:σ.ev fv=.clo f caps) (hc:Is P f=true)
  (hm:A9 (rn ρ) σ.mem bw cargs (args.toList.map σ.ev++caps)) (hrefs:Aq m cargs=true) (h1:Er (rn ρ) σ.mem bw m) (h2:(m.all fun p=>p.2.refs m)=true) (hc1:res.closed=true) (hc2:(m'.all fun p=>p.2.closed)=true) (h3:(m.map (·.1)).Nodup) (h4:(m.filterMap fun p=>if p.2.live then rn ρ p.1 else none).Nodup)
  (hl:(m.all fun p=>p.2.live)=true) (hl':(m'.all fun p=>p.2.live)=true) (hnd:(m'.map fun p=>rnF ρ' p.1).Nodup) (hnd':(m'.map (·.1)).Nodup)
  (hnew:∀p,p∈m'→((m.get p.1).isSome=true∧rn ρ p.1=some (rnF ρ' p.1))∨(m.get p.1=none∧σ.mem.get (rnF ρ' p.1)=none))
  (hbw:∀j,j∈(m.filterMap fun p=>if p.2.live then rn ρ p.1 else none)→j ∉ bw)
  (he:(⟨bw,B6 (rn ρ) m++[]++m'.map (fun p=>(rnF ρ' p.1,p.2.ren (rnF ρ'))),res.ren (rnF ρ')⟩:AEff)=E) (hτ:σ.upd d E=τ) (h:A4 P ops r τ (fs++[E]) K):A4 P ops (⟨d,.call ⟨.value fv,args,tys⟩,ty,pos,af,gd⟩::r) σ fs K:=by
 subst he
 have:=BZ hac hg hv hc hm hrefs (Fits.ofC bw ρ ρ' h1 h2 hc1 hc2 h3 h4 hl hl' hnd hnd' hnew hbw) (τ:=τ) (r:=r) (fs:=fs) (K:=K)
 unfold A7 at this
 exact this hτ h
theorem K6 (bw:List Id) (ρ ρ':List (Id×Id)) {d:Option Tmp}{fv:Operand}{args:Array Operand}{tys:Array TypeId}{ty:TypeId}{pos:String}{af:Array Edge}{gd:Option (Nat×Bool)}{fz:List (Id×AO)}{m:Mem}{res:AV}{m':Mem}{f:FuncId}{caps cargs:List AV}
  (hac:AC P f cargs m res m') (hg:AB ops σ ⟨d,.call ⟨.value fv,args,tys⟩,ty,pos,af,gd⟩=some true) (hv:σ.ev fv=.clo f caps) (hc:Is P f=true)
  (hm:A9 (rn ρ) σ.mem bw cargs (args.toList.map σ.ev++caps)) (hrefs:Aq m cargs=true) (h1:Er (rn ρ) σ.mem bw m) (h2:(m.all fun p=>p.2.refs m)=true) (hfz:Dc σ.mem bw=fz) (hids:fz.map (·.1)=bw) (hndb:bw.Nodup) (h3:(m.map (·.1)).Nodup) (h4:(m.filterMap fun p=>if p.2.live then rn ρ p.1 else none).Nodup)
  (hl:(m.all fun p=>p.2.live)=true) (hl':(m'.all fun p=>p.2.live)=true) (hnd:(m'.map fun p=>rnF ρ' p.1).Nodup) (hnd':(m'.map (·.1)).Nodup)
  (hnew:∀p,p∈m'→((m.get p.1).isSome=true∧rn ρ p.1=some (rnF ρ' p.1))∨(m.get p.1=none∧σ.mem.get (rnF ρ' p.1)=none))
  (hbw:∀j,j∈(m.filterMap fun p=>if p.2.live then rn ρ p.1 else none)→j ∉ bw)
  (he:(⟨bw,B6 (rn ρ) m++fz++m'.map (fun p=>(rnF ρ' p.1,p.2.ren (rnF ρ'))),res.ren (rnF ρ')⟩:AEff)=E) (hτ:σ.upd d E=τ) (h:A4 P ops r τ (fs++[E]) K):A4 P ops (⟨d,.call ⟨.value fv,args,tys⟩,ty,pos,af,gd⟩::r) σ fs K:=by
 subst he
 have:=BZ hac hg hv hc hm hrefs (Fits.ofB bw ρ ρ' h1 h2 hfz hids hndb h3 h4 hl hl' hnd hnd' hnew hbw) (τ:=τ) (r:=r) (fs:=fs) (K:=K)
 unfold A7 at this
 exact this hτ h
end
attribute [go_sem] AO.closed
theorem KC {A Φ G' G:Prop}(f:A) (F:Φ) (h:G') (e:A→Φ→G'→G:=by intro f F hh;apply f;(iterate 10 (focus (first | (simp only[go_sem,Nat.reduceEqDiff,Nat.reduceAdd,Nat.reduceSub,Nat.reduceLeDiff,Nat.reduceMul,Nat.reduceBEq,Nat.reduceLT,Int.reduceToNat,reduceCtorEq,F];first | done | exact rfl | (and_intros<;>rfl)) | exact rfl | decide)));(iterate 8 (focus (simp[go_sem,F];done)));(iterate 2 (focus (first | (simp only[go_sem,Nat.reduceEqDiff,Nat.reduceAdd,Nat.reduceSub,Nat.reduceLeDiff,Nat.reduceMul,Nat.reduceBEq,Nat.reduceLT,Int.reduceToNat,reduceCtorEq,F];first | done | exact rfl | (and_intros<;>rfl)) | exact rfl | decide)));exact hh):G:=e f F h
end
section
open Go.RowKit
set_option maxRecDepth 10000
abbrev a2m (bs:List Nat) (a:Nat):AO:=.box [.c (.sl (bs.map Li)),.c (.int .i64 (a:Int))]
abbrev OP (bs:List Nat) (a:Nat):Mem:=[((0,0),a2m bs a)]
def M2 (bs:List Nat):Prop:=bs.length≤1048576∧∀b∈bs,b<256
theorem Wn (bs:List Nat):AC Tryz.prog 53 [.c (.sl (bs.map Li))] [] (.ptr (0,0) 0) (OP bs 0):=by
 have h0:((0:Nat):Int)=0:=rfl
 refine JI Tryz.func53 Tryz.ntmps53 ?_
 refine JV q9 ?_
 exact JJ (JN [((0,0),(5,0))] []) Tryz.results53 h0
theorem Mc {x:Int}{n:Nat}(h:x=(n:Int)) (hn:n<9000000000000000000):IntKind.i64.wrap x=(n:Int):=by
 rw[IntWalk.i64_in _ (by omega)];exact h
theorem X0 (a b:Nat):Int.tmod (a:Int) (b:Int)=((a % b:Nat):Int):=rfl
theorem a6s (a b:Nat):Int.tdiv (a:Int) (b:Int)=((a / b:Nat):Int):=rfl
theorem Vu {bs:List Nat}(h:M2 bs) {i:Nat}(hi:i<bs.length):∃u:Nat,B4 (bs.map Li) 1 ((i:Nat):Int)=true∧(bs.map Li)[i]? = some [.int .u8 (u:Int)]∧bs.getD i 0=u∧u<256:=by
 refine⟨bs[i],by simp[B4,hi,Li],by simp[hi,Li],by rw[List.getD_eq_getElem?_getD,List.getElem?_eq_getElem hi,Option.getD_some],h.2 _ (List.getElem_mem hi)⟩
theorem Km (bs:List Nat) (hb:M2 bs) (a n:Nat) (ha:a≤1000000) (hn:n≤1000000):AC Tryz.prog 102 [.ptr (0,0) 0,.c (.int .i64 (n:Int))] (OP bs a) (.c (.int .i64 (K0 bs a n))) (OP bs (a+1)):=by
 have hw1:=JX (k:=a) (by omega)
 have hs1:IntKind.i64.wrap (((a+1:Nat):Int)-1)=(a:Int):=Mc (by omega) (by omega)
 have hln:(bs.map Li).length=bs.length:=by simp
 unfold K0
 by_cases h1:n<1
 ·rw[if_pos h1]
  have hd:decide ((n:Int)<1)=true:=decide_eq_true (by omega)
  have h0:((0:Nat):Int)=0:=rfl
  refine JI Tryz.func102 Tryz.ntmps102 ?_
  refine JV (j2 hw1 hd) ?_
  exact JJ (JN [((0,0),(0,0))] []) Tryz.results102 h0
 ·rw[if_neg h1]
  have hd:decide ((n:Int)<1)=false:=decide_eq_false (by omega)
  have hn0:((n:Int)=0)=False:=by simp;omega
  by_cases h2:bs=[]
  ·rw[if_pos h2]
   have hk:((bs.length:Int)==0)=true:=by rw[h2];rfl
   have hm:IntKind.i64.wrap ((a:Int)*7)=((a*7:Nat):Int):=Mc (by omega) (by omega)
   have ht:=X0 (a*7) n
   generalize hx:a*7 % n=x at *
   refine JI Tryz.func102 Tryz.ntmps102 ?_
   refine JV (j8 hw1 hd hs1 hln hk hm hn0 ht) ?_
   exact JJ (JN [((0,0),(0,0))] []) Tryz.results102 hx
  ·rw[if_neg h2]
   have hlp:0<bs.length:=List.length_pos_iff.2 h2
   have hk:((bs.length:Int)==0)=false:=by simp;exact h2
   have hk0:((bs.length:Int)=0)=False:=by simp;exact h2
   obtain⟨u,r1,g1,d1,b1⟩:=Vu hb (Nat.mod_lt a hlp)
   obtain⟨v,r2,g2,d2,b2⟩:=Vu hb (Nat.mod_lt (a+1) hlp)
   have t1:=X0 a bs.length
   have t2:=X0 (a+1) bs.length
   have q1:=a6s a bs.length
   have q2:IntKind.i64.wrap (((a / bs.length:Nat):Int))=((a / bs.length:Nat):Int):=Mc rfl (by have:=Nat.div_le_self a bs.length;omega)
   have hq:=Nat.div_le_self a bs.length
   rw[d1,d2]
   generalize a / bs.length=e at *
   generalize a % bs.length=i1 at *
   generalize (a+1) % bs.length=i2 at *
   have c1:IntKind.i64.wrap (u:Int)=(u:Int):=Mc rfl (by omega)
   have c2:IntKind.i64.wrap (v:Int)=(v:Int):=Mc rfl (by omega)
   have m1:IntKind.i64.wrap ((e:Int)*37)=((e*37:Nat):Int):=Mc (by omega) (by omega)
   have p1:IntKind.i64.wrap ((u:Int)+((e*37:Nat):Int))=((u+e*37:Nat):Int):=Mc (by omega) (by omega)
   by_cases h3:n≤200
   ·rw[if_pos h3]
    have hg:decide ((n:Int)>200)=false:=decide_eq_false (by omega)
    have ht:=X0 (u+e*37) n
    generalize u+e*37=y at *
    generalize hx:y % n=x at *
    refine JI Tryz.func102 Tryz.ntmps102 ?_
    refine JV (j2 (j12 hw1 hd hs1 hln hk hk0 t1 r1 g1 c1 q1 q2) (j5 m1 p1 hg hn0 ht)) ?_
    exact JJ (JN [((0,0),(0,0))] []) Tryz.results102 hx
   ·rw[if_neg h3]
    have hg:decide ((n:Int)>200)=true:=decide_eq_true (by omega)
    have m2:IntKind.i64.wrap (((u+e*37:Nat):Int)*251)=(((u+e*37)*251:Nat):Int):=Mc (by omega) (by omega)
    have m3:IntKind.i64.wrap ((v:Int)*13)=((v*13:Nat):Int):=Mc (by omega) (by omega)
    have p2:IntKind.i64.wrap ((((u+e*37)*251:Nat):Int)+((v*13:Nat):Int))=(((u+e*37)*251+v*13:Nat):Int):=Mc (by omega) (by omega)
    have p3:IntKind.i64.wrap ((((u+e*37)*251+v*13:Nat):Int)+(a:Int))=(((u+e*37)*251+v*13+a:Nat):Int):=Mc (by omega) (by omega)
    have ht:=X0 ((u+e*37)*251+v*13+a) n
    generalize hx:((u+e*37)*251+v*13+a) % n=x at *
    refine JI Tryz.func102 Tryz.ntmps102 ?_
    refine JV (j2 (j12 hw1 hd hs1 hln hk hk0 t1 r1 g1 c1 q1 q2) (j2 (j12 m1 p1 hg t2 r2 g2 c2 m2 m3 p2 p3 hn0) ht)) ?_
    exact JJ (JN [((0,0),(0,0))] []) Tryz.results102 hx
theorem a2c {l:List Int}{i:Nat}(h:i<l.length):B4 (l.map Dd) 1 ((i:Nat):Int)=true∧(l.map Dd)[i]? = some [.int .i64 l[i]]:=⟨by simp[B4,h,Dd],by simp[h,Dd]⟩
theorem Nt (bs:List Nat) (hb:M2 bs) (a:Nat) (l:List Int) (hl:l≠[]) (hll:l.length≤1000) (ha:a≤1000000):AC Tryz.prog 55 [.ptr (0,0) 0,.c (.sl (l.map Dd))] (OP bs a) (.c (.int .i64 (N9 bs a l))) (OP bs (a+1)):=by
 have hc:=Km bs hb a l.length ha (by omega)
 have hln:(l.map Dd).length=l.length:=by simp
 have hlt:=Kn bs a (List.length_pos_iff.2 hl)
 have hp:N9 bs a l=l[K0 bs a l.length]:=by
  unfold N9
  rw[List.getD_eq_getElem?_getD,List.getElem?_eq_getElem hlt,Option.getD_some]
 rw[hp]
 obtain⟨hr0,hg0⟩:=a2c hlt
 generalize hx:l[K0 bs a l.length]=x at *
 generalize K0 bs a l.length=i at *
 refine JI Tryz.func55 Tryz.ntmps55 ?_
 refine JV hln ?_
 refine JO (Im [((0,0),(0,0))] [((0,0),(0,0))] hc) q9 ?_
 refine JV (j2 hr0 hg0) ?_
 exact JJ (JN [((0,0),(0,0))] []) Tryz.results55 hx
theorem OI {L:List ByteArray}{i:Nat}(h:i<L.length):B4 (L.map CX) 1 ((i:Nat):Int)=true∧(L.map CX)[i]? = some [.str L[i]]:=by
 exact⟨by simp[B4,h,CX],by simp[h,CX]⟩
theorem ZO (bs:List Nat) (hb:M2 bs) (a:Nat) (ha:a≤1000000):AC Tryz.prog 161 [.ptr (0,0) 0] (OP bs a) (.c (.str (P5 bs a))) (OP bs (a+1)):=by
 have hc:=Km bs hb a 8 ha (by omega)
 have hlt:=Kn bs a (n:=8) (by omega)
 obtain⟨hr0,hg0⟩:=OI (L:=JR) hlt
 have hp:P5 bs a=JR[K0 bs a 8]:=by
  unfold P5
  rw[List.getD_eq_getElem?_getD,List.getElem?_eq_getElem (by exact hlt),Option.getD_some]
 rw[hp]
 generalize hx:JR[K0 bs a 8]=x at *
 generalize K0 bs a 8=i at *
 unfold JR at hr0 hg0
 simp only[List.map_cons,List.map_nil,CX]at hr0 hg0
 refine JI Tryz.func161 Tryz.ntmps161 ?_
 refine JV q9 ?_
 refine JO (Im [((0,0),(0,0))] [((0,0),(0,0))] hc) q9 ?_
 refine JV (j2 hr0 hg0) ?_
 exact JJ (JN [((0,0),(0,0))] []) Tryz.results161 hx
theorem a07 (bs:List Nat) (hb:M2 bs) (a:Nat) (ha:a≤1000000):AC Tryz.prog 162 [.ptr (0,0) 0] (OP bs a) (.c (.str (UT bs a))) (OP bs (a+1)):=by
 have hc:=Km bs hb a 4 ha (by omega)
 have hlt:=Kn bs a (n:=4) (by omega)
 obtain⟨hr0,hg0⟩:=OI (L:=MA) hlt
 have hp:UT bs a=MA[K0 bs a 4]:=by
  unfold UT
  rw[List.getD_eq_getElem?_getD,List.getElem?_eq_getElem (by exact hlt),Option.getD_some]
 rw[hp]
 generalize hx:MA[K0 bs a 4]=x at *
 generalize K0 bs a 4=i at *
 unfold MA at hr0 hg0
 simp only[List.map_cons,List.map_nil,CX]at hr0 hg0
 refine JI Tryz.func162 Tryz.ntmps162 ?_
 refine JV q9 ?_
 refine JO (Im [((0,0),(0,0))] [((0,0),(0,0))] hc) q9 ?_
 refine JV (j2 hr0 hg0) ?_
 exact JJ (JN [((0,0),(0,0))] []) Tryz.results162 hx
end
end Go.Proofs.YtllfmaflodbieaaGreatDoor
