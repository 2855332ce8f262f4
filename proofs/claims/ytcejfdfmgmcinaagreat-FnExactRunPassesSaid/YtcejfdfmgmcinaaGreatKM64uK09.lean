/- Texts of this proof: M64 E32 E33 K09. -/
import Derived.Test.YtcejfdfmgmcinaaGreatKK15uK08
set_option linter.all false
set_option maxHeartbeats 8000000
namespace Go.Proofs.YtcejfdfmgmcinaaGreat
section
open Go.RowKit
inductive PT where
 |mk (d:CoD) (kids:List PT)
def PT.d:PT→CoD | .mk d _=>d
def PT.kids:PT→List PT | .mk _ kids=>kids
mutual
def PT.ct:PT→CT
 | .mk d kids=>.mk d.op d.num d.val (ctL kids)
def ctL:List PT→List CT
 | []=>[]
 |p::r=>p.ct::ctL r
end
theorem GB:∀l:List PT,ctL l=l.map PT.ct
 | []=>by rw[ctL];rfl
 |p::r=>by rw[ctL,GB r];rfl
theorem FJ (l:List PT):(ctL l).length=l.length:=by rw[GB,List.length_map]
mutual
def PT.zero:PT→Prop
 | .mk d kids=>(kids.length<1→d.a=0)∧(kids.length<2→d.b=0)∧(kids.length<3→d.c=0)∧MJ kids
def MJ:List PT→Prop
 | []=>True
 |p::r=>p.zero∧MJ r
end
theorem M4:∀{l:List PT},MJ l↔∀p∈l,p.zero
 | []=>by unfold MJ;simp
 |p::r=>by unfold MJ;rw[M4];simp
def PT.fine (p:PT):Prop:=p.ct.ok∧p.zero
theorem PT.fine_kid {p k:PT}(h:p.fine) (hk:k∈p.kids):k.fine:=by
 cases p with
 |mk d kids =>
  have hk:k∈kids:=hk
  obtain⟨h1,h2⟩:=h
  unfold PT.ct CT.ok at h1
  unfold PT.zero at h2
  refine⟨B4.1 h1.2.2 _ ?_,M4.1 h2.2.2.2 k hk⟩
  rw[GB]
  exact List.mem_map.2 ⟨k,hk,rfl⟩
theorem PT.fine_len {p:PT}(h:p.fine):p.kids.length=Au p.d.op:=by
 cases p with
 |mk d kids =>
  have h1:=h.1
  unfold PT.ct CT.ok at h1
  have:=h1.2.1
  rw[FJ]at this
  exact this
theorem PT.fine_node {p:PT}(h:p.fine):NodeOk p.d.op p.d.num p.d.val:=by
 cases p with
 |mk d kids =>
  have h1:=h.1
  unfold PT.ct CT.ok at h1
  exact h1.1
def EK (v:V):PT:=.mk ⟨2,0,0,0,0,v.enc⟩ []
def Da:PT:=.mk ⟨17,0,0,0,0,[]⟩ []
def DA:PT:=.mk ⟨0,0,0,0,0,[]⟩ []
theorem a0b {d:CoD}{kids:List PT}(h:(PT.mk d kids).zero) {ends:List Nat}(he:ends.length=kids.length) (hl:kids.length≤3) :
  B9 d.op d.num d.val ends=⟨d.op,if 0<kids.length then (ends[0]?.getD 0:Nat) else d.a,if 1<kids.length then (ends[1]?.getD 0:Nat) else d.b,if 2<kids.length then (ends[2]?.getD 0:Nat) else d.c,d.num,d.val⟩:=by
 unfold PT.zero at h
 obtain⟨h1,h2,h3,_⟩:=h
 unfold B9
 rw[←he]at h1 h2 h3 hl ⊢
 match ends,hl with
 | [],_=>simp[h1,h2,h3]
 | [x],_=>simp at h2 h3;simp[h2,h3]
 | [x,y],_=>simp at h3;simp[h3]
 | [x,y,z],_=>simp
 |a::b::c::e::r,h=>simp at h
theorem Fw {L:List CoD}:∀(l:List CT) (b k:Nat) (h:k<l.length),OL L b l→Seg L (b+Ah (l.take k)) l[k]
 | [],b,k,h,_=>absurd h (by simp)
 |t::r,b,0,h,hs=>by
  simp only[List.take_zero,Ah,Nat.add_zero,List.getElem_cons_zero]
  exact hs.head
 |t::r,b,k+1,h,hs=>by
  have h1:=Fw r (b+t.size) k (by simpa using h) hs.tail
  simp only[List.take_succ_cons,Ah,List.getElem_cons_succ]
  rw[←Nat.add_assoc]
  exact h1
theorem F2:∀(l:List CT) (b k:Nat) (h:k<l.length),(Az b l)[k]? = some (b+Ah (l.take k)+l[k].size-1)
 | [],b,k,h=>absurd h (by simp)
 |t::r,b,0,h=>by
  rw[Az]
  simp[Ah]
 |t::r,b,k+1,h=>by
  have h1:=F2 r (b+t.size) k (by simpa using h)
  rw[Az]
  simp only[List.getElem?_cons_succ,List.take_succ_cons,Ah,List.getElem_cons_succ,h1,←Nat.add_assoc]
theorem X3 (F:Int→Int→List CellD→List CT→Option CT):∀l r:List CT,(rwL F (l++r)).1=(rwL F l).1++(rwL F r).1∧(rwL F (l++r)).2=(rwL F l).2+(rwL F r).2
 | [],r=>by simp[rwL]
 |t::l,r=>by
  obtain⟨h1,h2⟩:=X3 F l r
  rw[List.cons_append,rwL,rwL]
  exact⟨by rw[h1];rfl,by rw[h2];simp only;omega⟩
theorem Ox (F:Int→Int→List CellD→List CT→Option CT) (l:List CT) {k:Nat}(h:k<l.length):(rwL F (l.take (k+1))).1=(rwL F (l.take k)).1++[(l[k].rw F).1]∧(rwL F (l.take (k+1))).2=(rwL F (l.take k)).2+(l[k].rw F).2:=by
 rw[List.take_succ_eq_append_getElem h]
 obtain⟨h1,h2⟩:=X3 F (l.take k) [l[k]]
 rw[h1,h2,rwL,rwL]
 exact⟨rfl,rfl⟩
theorem D5 (l:List CT) {k:Nat}(h:k<l.length):Ah (l.take (k+1))=Ah (l.take k)+l[k].size:=by
 rw[List.take_succ_eq_append_getElem h,Ii,Ah,Ah,Nat.add_zero]
theorem Di (l:List CT) (k:Nat):Ah (l.take k)≤Ah l:=by
 have h:=Ii (l.take k) (l.drop k)
 rw[List.take_append_drop]at h
 omega
theorem Et {l:List CT}{t:CT}(h:t∈l):t.size≤Ah l:=by
 obtain⟨k,hk,rfl⟩:=List.getElem_of_mem h
 have h1:=D5 l hk
 have h2:=Di l (k+1)
 omega
end
section
open Go.RowKit
section
variable {P:Program}
section
variable {σ:ASt} {a:Act} {w:World} {Γ:Ctx}
theorem P5 {ow:Nat→Option Id}{κ:Id→Value}(h:RelAt Γ σ a w ow κ) {fn:Func}{m:Mem}{res:AV}{m':Mem}(hΓ:∀i o o',m.get i=some o→m'.get i=some o'→i∈Γ.ext) (hR:Fe P fn m res m' σ):∃v,(results fn a.tmps).run P w=.ok v w∧∃ow' κ',ExitAt Γ m m' w res v ow' κ':=by
 obtain⟨r,h1,ρ,bw,h2,h3,h4,h5⟩:=hR
 obtain⟨v,g1,g2⟩:=Qe h h1
 have hS:∀b,Γ.sees ow b→Γ.sees (CA ρ m' ow) b:=fun b hb=>⟨Dt hb.1,hb.2⟩
 have hT:∀b j,j∈bw→ow b=some j→Γ.sees (CA ρ m' ow) b:=fun b j hj hb=>⟨IY h4 hj hb,by
  by_cases h1:Γ.w.heap.size≤b
  ·exact .inr (.inl h1)
  ·by_cases h2:Γ.ow b=none
   ·have:=(h.frame b (by omega) h2).2
    rw[this]at hb
    cases hb
   ·exact .inr (.inr h2)⟩
 refine⟨v,g1,CA ρ m' ow,Dp ρ κ,Mat.rep h4 hS hT h.objs h2 h3 g2,fun i o hi=>En.rep h4 hS hT h.objs hi,fun b i hb=>?_,h.os,h.tape,h.output,h.size,fun b hb h0=>?_,fun i o o' hi hi'=>?_⟩
 ·obtain⟨⟨o,h1,h2⟩,j,_,h3⟩:=EB h4.nd hb
  exact⟨(h.own b j h3).1,o,h1,h2⟩
 ·obtain⟨h1,h2⟩:=h.frame b hb h0
  exact⟨h1,Dt h2⟩
 ·have:=h5 (i,o) (Mem.mem_of_get hi) (by simp[hi'])
  simp only at this
  simp only[Dp,this]
  exact (h.kap i (hΓ i o o' hi hi')).1
end
theorem AC.intro_ext (L:List Id) {f:FuncId}{fn:Func}{c:Code}{args:List AV}{m:Mem}{res:AV}{m':Mem}(hm:P.follows .mixedOrders=true) (hf:P.funcs[f]? = some fn) (hb:fn.body=some c)
  (hL:(L.all fun i=>(m.get i).isSome)=true) (hL':(m'.all fun p=>!(m.get p.1).isSome||L.contains p.1)=true)
  (h:awp P L c (fun e σ=>match e with
   | .exit _=>False
   |_=>Fe P fn m res m' σ) ⟨args++List.replicate (fn.ntmps-args.length) .undef,m⟩):AC P f args m res m':=by
 intro Γ vals hent hargs
 refine calls_of_wp hf hb ?_
 have hl:=hargs.length
 have hr:Rel { Γ with ext:=L } ⟨args++List.replicate (fn.ntmps-args.length) .undef,m⟩ { tmps:=vals.toArray++Array.replicate (fn.ntmps-vals.toArray.size) undef,defers:=[] } Γ.w:=by
  refine⟨Γ.ow,Γ.κ,by simp[hl],rfl,fun t=>?_,hent.objs,hent.own,rfl,rfl,rfl,Nat.le_refl _,fun b _ h0=>⟨rfl,h0⟩,fun i hi=>⟨rfl,?_⟩⟩
  ·have:=ARs.getD hargs t
   by_cases ht:t<args.length
   ·have e1:(⟨args++List.replicate (fn.ntmps-args.length) .undef,m⟩:ASt).slot t=args.getD t .undef:=by
     simp only[ASt.slot,List.getD,List.getElem?_append_left ht]
    have e2:(vals.toArray++Array.replicate (fn.ntmps-vals.toArray.size) undef).getD t undef=vals.getD t undef:=by
     rw[Array.getD_eq_getD_getElem?,Array.getElem?_append_left (by simp;omega)]
     simp[List.getD]
    show AR _ _ _ _ (ASt.slot _ t) (Array.getD _ t undef)
    rw[e1,e2]
    exact this
   ·have e1:(⟨args++List.replicate (fn.ntmps-args.length) .undef,m⟩:ASt).slot t=.undef:=by
     simp only[ASt.slot,List.getD,List.getElem?_append_right (Nat.le_of_not_lt ht),List.getElem?_replicate]
     split<;>rfl
    show AR _ _ _ _ (ASt.slot _ t) (Array.getD _ t undef)
    rw[e1]
    trivial
  ·exact Option.isSome_iff_exists.1 (List.all_eq_true.1 hL i hi)
 have h':awp P ({ Γ with ext:=L }:Ctx).ext c _ _:=h
 refine wp_mono (E1 hm c _ _ _ _ h' hr) ?_
 intro e a' w' hq
 have fin:∀τ,Rel { Γ with ext:=L } τ a' w'→Fe P fn m res m' τ→a'.defers=[]∧∃v,(results fn a'.tmps).run P w'=.ok v w'∧∃v',∃ow κ,Ending.returned v=.returned v'∧ExitAt Γ m m' w' res v' ow κ:=by
  rintro τ ⟨ow,κ,hr'⟩ hR
  obtain⟨v,g1,ow',κ',g2⟩:=P5 hr' (fun i o o' h1 h2=>by
   have:=List.all_eq_true.1 hL' (i,o') (Mem.mem_of_get h2)
   simp only[h1,Option.isSome_some,Bool.not_true,Bool.false_or]at this
   exact List.contains_iff_mem.1 this) hR
  exact⟨hr'.defers,v,g1,v,ow',κ',rfl,⟨g2.res,g2.objs,g2.own,g2.os,g2.tape,g2.output,g2.size,g2.frame,g2.kap⟩⟩
 cases e with
 |normal=>obtain⟨τ,h1,h2⟩:=hq;exact fin τ h1 h2
 |ret=>obtain⟨τ,h1,h2⟩:=hq;exact fin τ h1 h2
 |exit id=>obtain⟨τ,h1,h2⟩:=hq;exact h2
 |goto l=>exact hq.elim
 |panic ch=>exact hq.elim
 |outgrown=>exact hq.elim
theorem AC.intro_spx (L:List Id) {f:FuncId}{fn:Func}{c:Code}{args:List AV}{m:Mem}{res:AV}{m':Mem}{n:Nat}(hm:P.follows .mixedOrders=true) (hf:P.funcs[f]? = some fn) (hb:fn.body=some c) (hn:fn.ntmps=n) (hl:args.length≤n)
  (hL:(L.all fun i=>(m.get i).isSome)=true) (hL':(m'.all fun p=>!(m.get p.1).isSome||L.contains p.1)=true)
  (h:awp P L c (fun e σ=>match e with
   | .exit _=>False
   |_=>Fe P fn m res m' σ) ⟨sp n (JW 0 args),m⟩):AC P f args m res m':=by
 refine AC.intro_ext L hm hf hb hL hL' ?_
 rw[hn,a1a hl]
 exact h
end
end
section
open Go.RowKit
def MD:C→AV
 | .osl _=>.undef
 | .oref _=>.undef
 | .tsl .. => .undef
 | .any=>.undef
 |c=>.c c
theorem CR.peek {w:World}{S:Nat→Prop}{m:Mem}{κ:Id→Value}{c:C}{u:Value}{b:List Nat}(h:CR w S c u b):AR w S m κ (MD c) u:=by
 cases c with
 |osl rows=>trivial
 |oref row=>trivial
 |tsl es e rows=>trivial
 |any=>trivial
 |int k n=>exact⟨h.1,rfl⟩
 |bool x=>exact⟨h.1,rfl⟩
 |str s=>exact⟨h.1,rfl⟩
 |raw v=>exact⟨h.1,h.2.1,rfl⟩
 |sl rows =>
  obtain⟨es,A,cap,vrows,h1,h2,h3,h4,h5,h6⟩:=h
  exact⟨es,A,cap,vrows,h1,h2,h3,h4,h5,rfl⟩
 |ref row =>
  obtain⟨A,vr,h1,h2,h3,h4⟩:=h
  exact⟨A,vr,h1,h2,h3,rfl⟩
theorem CRs.peek {w:World}{S:Nat→Prop}{m:Mem}{κ:Id→Value}:∀{row:List C}{vr:List Value}{b:List Nat},CRs w S row vr b→ARs w S m κ (row.map MD) vr∧∀u∈vr,u.oneCell'=true
 | [],vr,b,h=>by
  simp only[CRs]at h
  obtain⟨rfl,_⟩:=h
  exact⟨rfl,by simp⟩
 |c::row,vr,b,h=>by
  obtain⟨u,vs',d1,d2,rfl,rfl,h1,h2⟩:=h
  obtain⟨g1,g2⟩:=CRs.peek (m:=m) (κ:=κ) h2
  refine⟨⟨u,vs',rfl,h1.peek,g1⟩,fun x hx=>?_⟩
  rcases List.mem_cons.1 hx with rfl | hx
  ·exact h1.one
  ·exact g2 x hx
section
variable {P:Program} {ops:Array Oper} {o:Oper} {σ τ:ASt}
theorem TN {ty:TypeId}{y:Operand}{i:Id}{es:Nat}{e:TypeId}{rows:List (List C)}{r:Nat}{row:List C}{ti:TI}{by':Nat}{z:Option Value}(ho:o.op=.load ty y) (hy:σ.ev y=.rptr i es r 0) (ht:tin P ty=some ⟨ti,es,by',z⟩) (hg:ti.agg=some true)
  (hi:σ.mem.get i=some (.row true es e rows)) (hr:rows[r]? = some row) (hl:row.length=es):AB P o σ ⟨[i],[],.agg (row.map MD)⟩:=by
 refine AB.pure fun Γ σ' a w ow κ hag hrel=>?_
 have e1:=hrel.ev y
 rw[hag.1 y (by rw[ho];simp[Op.operands]),hy]at e1
 have hi':σ'.mem.get i=some (.row true es e rows):=by rw[hag.2.1 i (by simp),hi]
 obtain⟨_,o1,k1,k2⟩:=e1
 rw[hi']at k1
 cases k1
 obtain⟨b,n,cap,k3,k4⟩:=k2 rfl
 obtain⟨vrows,bs,h1,_,h3,h4,h5,h6⟩:=hrel.objs i _ hi'
 obtain⟨vr,bb,m1,m2,m3⟩:=An.at_ h1 hr
 obtain⟨p1,p2⟩:=CRs.peek (m:=σ'.mem) (κ:=κ) m2
 rw[k3]at h4
 have hcell:=h4.cells (g:=b) rfl
 obtain⟨u,r1,r2⟩:=Lf ht hg p1 p2 (off:=0) (v:=.agg (row.map MD)) (by
  unfold Gz
  rw[if_pos (by rw[List.length_map];omega),List.drop_zero,List.take_of_length_le (by rw[List.length_map];omega)]) (b:=b) (q:=r*es) (fun j v hv=>by
  have:=hcell _ _ (BR h3 r vr m1 j v hv)
  rwa [Addr.add_mid,Nat.zero_add]at this)
 refine⟨u,?_,r2⟩
 unfold execOp
 rw[ho]
 rw[Nat.add_zero]at r1 k4
 simp[Instr.loadAt,Instr.sureAddr,k4,r1]
theorem a43 {d:Option Tmp}{r':List Oper}{fs:List AEff}{K:ASt→List AEff→Prop}{E:AEff}{ty ty':TypeId}{y:Operand}{pos:String}{af:Array Edge}{gd:Option (Nat×Bool)}{i:Id}{es:Nat}{e:TypeId}{rows:List (List C)}{r:Nat}{row:List C}{ti:TI}{by':Nat}{z:Option Value}
  (hg:CJ ops σ ⟨d,.load ty y,ty',pos,af,gd⟩=some true) (hy:σ.ev y=.rptr i es r 0) (ht:tin P ty=some ⟨ti,es,by',z⟩) (hag:ti.agg=some true)
  (hi:σ.mem.get i=some (.row true es e rows)) (hr:rows[r]? = some row) (hl:row.length=es)
  (he:(⟨[i],[],.agg (row.map MD)⟩:AEff)=E) (hτ:σ.upd d E=τ) (h:Ay P ops r' τ (fs++[E]) K):Ay P ops (⟨d,.load ty y,ty',pos,af,gd⟩::r') σ fs K:=by
 subst he
 refine Ca hg ?_ (TN rfl hy ht hag hi hr hl).sound hτ h
 simp[eff,EN,ht,hag,hy,hi]
theorem Z7 {ty:TypeId}{y:Operand}{i:Id}{es:Nat}{e:TypeId}{rows:List (List C)}{r off:Nat}{row:List C}{c:C}{ti:TI}{size by':Nat}{z:Option Value}(ho:o.op=.load ty y) (hy:σ.ev y=.rptr i es r off) (ht:tin P ty=some ⟨ti,size,by',z⟩) (hg:ti.agg=some false)
  (hi:σ.mem.get i=some (.row true es e rows)) (hr:rows[r]? = some row) (hro:row[off]? = some c):AB P o σ ⟨[i],[],MD c⟩:=by
 refine AB.pure fun Γ σ' a w ow κ hag hrel=>?_
 have e1:=hrel.ev y
 rw[hag.1 y (by rw[ho];simp[Op.operands]),hy]at e1
 have hi':σ'.mem.get i=some (.row true es e rows):=by rw[hag.2.1 i (by simp),hi]
 obtain⟨_,o1,k1,k2⟩:=e1
 rw[hi']at k1
 cases k1
 obtain⟨b,n,cap,k3,k4⟩:=k2 rfl
 obtain⟨vrows,bs,h1,_,h3,h4,h5,h6⟩:=hrel.objs i _ hi'
 obtain⟨vr,u,b1,b2,b3,g0,g1,rfl,g3,g4⟩:=An.split h1 hr hro
 have hcell:w.cell? ⟨b,r*es+off,none⟩=some u:=by
  rw[k3]at h4
  have:=h4.cells (g:=b) rfl _ _ (BR h3 r vr g0 off u g1)
  rwa [Addr.add_mid,Nat.zero_add]at this
 refine⟨u,?_,g3.peek⟩
 obtain⟨d,inf,t1,t2,t3⟩:=BE ht
 simp only[TIn.mk.injEq]at t3
 unfold execOp
 rw[ho]
 simp[Instr.loadAt,Instr.sureAddr,k4,loadVar,Lu (by rw[←t3.1];exact hg) t1 w,hcell]
theorem a0i {d:Option Tmp}{r':List Oper}{fs:List AEff}{K:ASt→List AEff→Prop}{E:AEff}{ty ty':TypeId}{y:Operand}{pos:String}{af:Array Edge}{gd:Option (Nat×Bool)}{i:Id}{es:Nat}{e:TypeId}{rows:List (List C)}{r off:Nat}{row:List C}{c:C}{ti:TI}{size by':Nat}{z:Option Value}
  (hg:CJ ops σ ⟨d,.load ty y,ty',pos,af,gd⟩=some true) (hy:σ.ev y=.rptr i es r off) (ht:tin P ty=some ⟨ti,size,by',z⟩) (hag:ti.agg=some false)
  (hi:σ.mem.get i=some (.row true es e rows)) (hr:rows[r]? = some row) (hro:row[off]? = some c)
  (he:(⟨[i],[],MD c⟩:AEff)=E) (hτ:σ.upd d E=τ) (h:Ay P ops r' τ (fs++[E]) K):Ay P ops (⟨d,.load ty y,ty',pos,af,gd⟩::r') σ fs K:=by
 subst he
 refine Ca hg ?_ (Z7 rfl hy ht hag hi hr hro).sound hτ h
 simp[eff,EN,ht,hag,hy,hi]
theorem a5u {d:Option Tmp}{r':List Oper}{fs:List AEff}{K:ASt→List AEff→Prop}{E:AEff}{ty ty':TypeId}{y:Operand}{pos:String}{af:Array Edge}{gd:Option (Nat×Bool)}{cells:List AV}
  (hg:CJ ops σ ⟨d,.box ty y,ty',pos,af,gd⟩=some true) (hy:(σ.ev y).cells=some cells) (hc:cells.all AV.isCell=false) (hf:σ.mem.get (σ.fresh ⟨d,.box ty y,ty',pos,af,gd⟩)=none)
  (he:(⟨[],[(σ.fresh ⟨d,.box ty y,ty',pos,af,gd⟩,.box cells)],.ptr (σ.fresh ⟨d,.box ty y,ty',pos,af,gd⟩) 0⟩:AEff)=E) (hτ:σ.upd d E=τ) (h:Ay P ops r' τ (fs++[E]) K):Ay P ops (⟨d,.box ty y,ty',pos,af,gd⟩::r') σ fs K:=by
 subst he
 refine Ca hg ?_ (WZ rfl hy hf).sound hτ h
 simp[eff,hy,hc,hf]
end
attribute [go_sem] MD
end
section
open Go.RowKit
set_option maxRecDepth 10000
theorem FU (d:CoD) {k:Nat}(h:k<Au d.op):d.named[k]? = some (d.kid k):=by
 have hal:=Bx d.op
 unfold CoD.named CoD.all CoD.kid
 rw[List.getElem?_take,if_pos h]
 have:k=0∨k=1∨k=2:=by omega
 rcases this with rfl | rfl | rfl<;>rfl
theorem Vv (d:CoD) {k:Nat}(h:k<Au d.op):d.named.drop k=d.kid k::d.named.drop (k+1):=by
 have h1:=FU d h
 obtain⟨h2,h3⟩:=List.getElem?_eq_some_iff.1 h1
 rw[List.drop_eq_getElem_cons h2,h3]
theorem O1 {L:List CoD}(hL:∀(k:Nat) (h:k<L.length),CoOk L[k] k) (hz:L.length≤900):∀(f i:Nat) (out:List Int),i<f→f≤900→i<L.length→out.length≤L.length →
  AC Tryz.prog 131 [AE L,.c (.int .i64 i),.own (0,0)] [((0,0),.row false 1 2 (out.map As))] (.own (1,0)) [((1,0),.row false 1 2 ((CO L L.length f i out).map As))]
 | 0,i,out,hf,_,_,_=>absurd hf (by omega)
 |f+1,i,out,hf,hf9,hi,hout=>by
  have ih:=O1 hL hz f
  have ho:=hL i hi
  obtain⟨hr0,hg0⟩:=EJ L hi
  have hK:=G0 L[i].op ho.op.1 ho.op.2
  have hkid:=IQ L[i]
  have hah:=ho.ahead
  have hal:=Bx L[i].op
  have hnl:=L[i].named_len
  have hkn:=fun k=>@FU L[i] k
  have hnd:=fun k=>@Vv L[i] k
  have hO:CO L L.length (f+1) i out=Db L.length (CO L L.length f) L[i].named out++[(i:Int)]:=by
   conv=>lhs;unfold CO
   rw[List.getElem?_eq_getElem hi]
  have hlen:∀k X,X.length≤L.length→(CO L L.length f k X).length≤L.length+f:=fun k X h=>Kp f k X h
  rw[hO]
  obtain⟨G,hG⟩:∃G,Db L.length (CO L L.length f) L[i].named out=G:=⟨_,rfl⟩
  rw[hG]
  obtain⟨Y,hY⟩:∃Y,Y=G++[(i:Int)]:=⟨_,rfl⟩
  rw[←hY]
  have hln:(L.map CoD.cs).length=L.length:=by simp
  unfold CoD.av at hkid
  generalize L[i]=d at *
  (refine AC.intro_spx [] DG Tryz.func131 rfl Tryz.ntmps131 (Nat.le_of_ble_eq_true rfl) rfl rfl ?_;simp only[go_sem,Nat.reduceAdd])
  refine Ab (j2 hr0 hg0) ?_
  refine Ar (κ:=Nat×List Int) (fun x=>⟨mkS 0 37 [(0,AE L),(1,.c (.int .i64 i)),(2,.own (99,0)),(7,.ptr (7,0) 0),(8,.c (.int .i64 x.1))],[((7,0),.box [.c (.int .i64 d.op),.c (.int .i64 d.a),.c (.int .i64 d.b),.c (.int .i64 d.c),.c (.int .i64 d.num),.c (.sl (d.val.map CellD.cs))]),((99,0),.row false 1 2 (x.2.map As))]⟩)
   (fun x=>x.1≤Au d.op∧x.2.length≤L.length+f∧Db L.length (CO L L.length f) (d.named.drop x.1) x.2=G) (fun x=>3-x.1) (0,out) ⟨by omega,by dsimp only;omega,hG⟩ ?_ ?_
  ·exact Ac (Aj.of [((7,0),(7,0)),((99,0),(0,0))] []) hln
  ·rintro⟨k,X⟩ ⟨hk,hX,hgo⟩
   dsimp only at hk hX hgo ⊢
   have hXl:(X.map As).length=X.length:=by simp
   by_cases hlt:k<Au d.op
   ·have hdk:decide ((k:Int)<(Au d.op:Nat))=true:=decide_eq_true (by omega)
    by_cases hle:X.length≤L.length
    ·have hdl:decide ((X.length:Int)≤(L.length:Int))=true:=decide_eq_true (by omega)
     have hkd:=hkid k (by omega)
     have hmem:=List.mem_of_getElem? (hkn k hlt)
     obtain⟨h0,h1⟩:=hah _ hmem
     rw[hnd k hlt]at hgo
     unfold Db at hgo
     rw[if_pos hle]at hgo
     have hl2:=hlen (d.kid k).toNat X hle
     have hrec:=ih (d.kid k).toNat X (by omega) (by omega) (by omega) hle
     obtain⟨j,hj⟩:∃j:Nat,d.kid k=(j:Int):=⟨(d.kid k).toNat,by omega⟩
     rw[hj]at hkd
     rw[hj,Int.toNat_natCast]at hrec hgo hl2
     have hw:=Ad (k:=k) (by omega)
     refine Ab q9 ?_
     refine v7 (A3 [] hK) q9 (j4 hdk hXl hln hdl) ?_
     refine v7 (A3 [] hkd) q9 q9 ?_
     refine v10 (MX (99,0) hrec) q9 hw ?_
     refine⟨(k+1,CO L L.length f j X),by dsimp only;omega,⟨by dsimp only;omega,hl2,hgo⟩,?_⟩
     exact Ac (Aj.of [((7,0),(7,0)),((99,0),(32,0))] []) hw
    ·have hdl:decide ((X.length:Int)≤(L.length:Int))=false:=decide_eq_false (by omega)
     rw[hnd k hlt]at hgo
     unfold Db at hgo
     rw[if_neg hle]at hgo
     subst hgo
     have hol:X.length+1≤1000000:=by omega
     have hrow:X.map As++[[C.int .i64 i]]=Y.map As:=by rw[hY,List.map_append];rfl
     refine Ab q9 ?_
     refine v7 (A3 [] hK) q9 (j5 hdk hXl hln hdl hol) ?_
     exact Aa (A9 [((1,0),(36,0))] []) Tryz.results131 hrow
   ·have hdk:decide ((k:Int)<(Au d.op:Nat))=false:=decide_eq_false (by omega)
    have hge:d.named.drop k=[]:=List.drop_eq_nil_of_le (by omega)
    rw[hge]at hgo
    unfold Db at hgo
    subst hgo
    have hol:X.length+1≤1000000:=by omega
    have hrow:X.map As++[[C.int .i64 i]]=Y.map As:=by rw[hY,List.map_append];rfl
    refine Ab q9 ?_
    refine v7 (A3 [] hK) q9 (j2 hdk hol) ?_
    exact Aa (A9 [((1,0),(36,0))] []) Tryz.results131 hrow
end
end Go.Proofs.YtcejfdfmgmcinaaGreat
