/- Texts of this proof: K25 K26 K27 E41 E43 K29 K30 K31 K32. -/
import Derived.Test.YtcejfdfmgmcinaaGreatKG1AuK01
import Derived.Laws.IdiomStrings
import Derived.Laws.Strings2
import Derived.Laws.Slices
import Derived.Lib.AppendStr
import Derived.Lib.Builder
import Derived.Laws.StructEq
import Derived.WideLaws
import Derived.Laws.Strings3
import Derived.Lib.IfaceEq
import Derived.Lib.IfaceNeq
set_option linter.all false
set_option maxHeartbeats 8000000
namespace Go.Proofs.YtcejfdfmgmcinaaGreat
section
open Go.RowKit
set_option maxRecDepth 10000
theorem Qf (p:PT) {v:V}(hv:v.right) (he:p.d.val=v.enc):AC Tryz.prog 122 [p.av] [] v.av []:=by
 have hO:=Km v.enc (Kw (Cx hv)) (t:=v) (by rw[Ix hv])
 unfold PT.av
 rw[he]
 generalize v.enc=W at *
 refine A7 Tryz.func122 Tryz.ntmps122 q9 ?_
 refine v9 (A4 [] hO) q9 q9 ?_
 exact Aj (A5 []) Tryz.results122
set_option maxRecDepth 10000
theorem JM (v:V):(F3 v).av=.agg [.c (.int .i64 2),.c (.int .i64 0),.c (.int .i64 0),.c (.int .i64 0),.c (.int .i64 0),.c (.sl (v.enc.map CellD.cs)),.c (.sl [])]:=rfl
theorem Lu {v:V}(hv:v.right):AC Tryz.prog 128 [v.av] [] (F3 v).av []:=by
 have hc:=LY 200 v hv.2.1 (Nat.le_trans hv.2.1 (by decide)) (Mr v (Cx hv))
 rw[JM]
 generalize v.enc=W at *
 refine A7 Tryz.func128 Tryz.ntmps128 q9 ?_
 refine v12 (AU [] hc) q9 q9 ?_
 exact A9 (A8 [] [(4,0)]) Tryz.results128 hv
set_option maxRecDepth 10000
theorem YX (l:List PT) {k:Nat}(h:k<l.length):Aa (l.map PT.cs) 7 k=true∧(l.map PT.cs)[k]? = some [.int .i64 l[k].d.op,.int .i64 l[k].d.a,.int .i64 l[k].d.b,.int .i64 l[k].d.c,.int .i64 l[k].d.num,.sl (l[k].d.val.map CellD.cs),.sl (l[k].kids.map PT.cs)]:=⟨by simp[Aa,h,PT.cs_eq],by rw[List.getElem?_map,List.getElem?_eq_getElem h,Option.map_some,PT.cs_eq]⟩
end
section
open Go.RowKit Go.ChangeMaps Go.MapKept Go.Maps
open Go.WideElems (Fit rd rg pl)
def C.val:C→Option Value
 | .int k n=>some (.int k n)
 | .bool b=>some (.bool b)
 | .str s=>some (.string s)
 |_=>none
end
section
open Go.RowKit
section
variable {P:Program} {o:Oper} {σ:ASt}
theorem RelAt.newBsl {Γ:Ctx}{a:Act}{w:World}{ow:Nat→Option Id}{κ:Id→Value}(h:RelAt Γ σ a w ow κ) {fr:Id}(hf:σ.mem.get fr=none) {cells:List AV}{vs:List Value}(hv:ARs w (Γ.sees ow) σ.mem κ cells vs) (h1:∀u∈vs,u.oneCell'=true) (T:TypeId) (k:Nat) (dst:Option Tmp) :
  ∃ow' κ',RelAt Γ (σ.upd dst ⟨[],[(fr,.box cells)],.bsl fr k⟩) (a.put dst (.slice (some ⟨w.heap.size,0,none⟩) k k)) (w.alloc (.cells vs.toArray T)) ow' κ':=by
 have st:Step σ.mem [(fr,.box cells)] w ow κ (w.alloc (.cells vs.toArray T)) (Df ow [] fr (some w.heap.size)) (CN κ fr (.pointer (some ⟨w.heap.size,0,none⟩))) :=
  Step.make (ks:=[]) rfl rfl rfl (by simp) hf (by simp) rfl (fun b hb _=>Below.heap_alloc w _ b hb) (fun b hb=>by cases hb;exact⟨by simp,.inl (Nat.le_refl _)⟩) h.owns
 refine⟨_,_,h.step (E:=⟨[],[(fr,.box cells)],.bsl fr k⟩) st ⟨rfl,.box cells,?_,fun _=>⟨w.heap.size,by simp[CN],rfl⟩⟩ (fun i hi o ho=>?_) dst⟩
 ·exact Cj (ks:=[]) (by simp)
 ·have hi':i=fr:=by simpa using hi
  subst hi'
  cases (Cj (m:=σ.mem) (ks:=[]) (fr:=i) (obj:=.box cells) (by simp)).symm.trans ho
  exact⟨w.heap.size,vs,T,by simp[CN],by simp[Df],heap_alloc_new w _,ARs.keep (by simp) (st.sees (Γ:=Γ)) st.mem hv,h1⟩
theorem ARs.ones {w:World}{S:Nat→Prop}{m:Mem}{κ:Id→Value}:∀{xs:List AV}{vs:List Value},ARs w S m κ xs vs→xs.all AV.isCell=true→∀u∈vs,u.oneCell'=true
 | [],vs,h,_=>by simp only[ARs]at h;simp[h]
 |x::xs,vs,h,hx=>by
  simp only[ARs]at h
  obtain⟨v,vs',rfl,h1,h2⟩:=h
  simp only[List.all_cons,Bool.and_eq_true]at hx
  intro u hu
  rcases List.mem_cons.1 hu with rfl | hu
  ·exact AR.one hx.1 h1
  ·exact ARs.ones h2 hx.2 u hu
theorem p7 {ty e:TypeId}{len s b by':Nat}{z:Option Value}{zv:Value}{ti:TI}{parts:Array (Nat×Operand)}{fr:Id}(ho:o.op=.buildSlice ty len parts) (hf:σ.mem.get fr=none) (ht:tin P ty=some ⟨.sl e,s,b,z⟩) (ht':tin P e=some ⟨ti,1,by',some zv⟩)
  (c1:parts.toList.map (·.1)=List.range len) (c2:len≤1000) (c3:(parts.toList.map fun p=>σ.ev p.2).all AV.isCell=true):Ay P o σ ⟨[],[(fr,.box (parts.toList.map fun p=>σ.ev p.2))],.bsl fr len⟩:=by
 intro Γ σ' a w ow κ hag hr
 have hpl:parts.toList.length=len:=by have:=congrArg List.length c1;simpa using this
 have hars:ARs w (Γ.sees ow) σ'.mem κ (parts.toList.map fun p=>σ.ev p.2) (parts.toList.map fun p=>a.eval p.2):=by
  have:=ARs.map_ev (σ:=σ) hr (parts.toList.map (·.2)) fun x hx=>hag.1 x (by rw[ho];simpa [Op.operands] using hx)
  simp only[List.map_map]at this
  exact this
 have h1:=hars.ones c3
 obtain⟨ow',κ',hr'⟩:=hr.newBsl (by rw[hag.2.2 fr (by simp),hf]) hars h1 e len o.dst
 refine⟨.slice (some ⟨w.heap.size,0,none⟩) len len,_,ow',κ',.inl ?_,hr'⟩
 unfold execOp
 rw[ho]
 have hsz:¬(2 ^ 24<len*1):=by omega
 have hp1:(parts.toList.map fun p=>(p.1,a.eval p.2)).map (·.1)=List.range' 0 (parts.toList.map fun p=>(p.1,a.eval p.2)).length:=by
  rw[List.map_map,List.length_map,hpl,←List.range_eq_range',←c1];rfl
 have hp2:(parts.toList.map fun p=>(p.1,a.eval p.2)).map (fun p=>p.2.cells)=(parts.toList.map fun p=>[a.eval p.2]).map List.toArray:=by
  rw[List.map_map,List.map_map]
  refine List.map_congr_left fun p hp=>?_
  exact Value.cells_one (h1 _ (List.mem_map.2 ⟨p,hp,rfl⟩))
 have hfl:(parts.toList.map fun p=>[a.eval p.2]).flatten=parts.toList.map fun p=>a.eval p.2:=by
  induction parts.toList with
  |nil=>rfl
  |cons p l ih=>simp[ih]
 have hfill:∀(cells:List Value),cells.length=len*1→_:=fun cells hl=>Mo (size:=1) (parts.toList.map fun p=>(p.1,a.eval p.2)) (parts.toList.map fun p=>[a.eval p.2]) 0 cells hp1 hp2 (fun x hx=>by obtain⟨p,_,rfl⟩:=List.mem_map.1 hx;rfl) (by rw[hl,List.length_map,hpl,Nat.zero_add])
 simp only[Nat.zero_mul,List.take_zero,List.nil_append,hfl]at hfill
 have hfill':∀(zc:Array Value),Instr.fill (fun i=>some (i*1,1)) ((Array.range (len*1)).map (fun x=>zc[x % zc.size]!)) (parts.toList.map fun p=>(p.1,a.eval p.2))=some (parts.toList.map fun p=>a.eval p.2).toArray:=by
  intro zc
  have:=hfill ((Array.range (len*1)).map (fun x=>zc[x % zc.size]!)).toList (by simp)
  rwa [Array.toArray_toList]at this
 simp only[Instr.buildSlice,Sem.run_bind,run_underlying (Gi ht),Result.andThen_ok,D3 ht',gt_iff_lt,hsz,if_false,Sem.run_ite,Array.toList_map]
 simp only[hfill']
 by_cases hz0:len*1=0
 ·simp only[hz0,if_true,newRow,Sem.run_pure,Result.andThen_ok,Sem.run_bind,run_newObj,World.alloc_eq]
 ·simp only[hz0,if_false,FP ht',newRow,Sem.run_pure,Result.andThen_ok,Sem.run_bind,run_newObj,World.alloc_eq]
theorem Xg {ty e:TypeId}{y z:Operand}{s b by' len:Nat}{zz z':Option Value}{ti:TI}{k:IntKind}{n:Int}{j:Id}{cells:List AV}(ho:o.op=.indexAddr ty y z) (hy:σ.ev y=.bsl j len) (hz:σ.ev z=.c (.int k n)) (ht:tin P ty=some ⟨.sl e,s,b,zz⟩) (ht':tin P e=some ⟨ti,1,by',z'⟩)
  (hm:σ.mem.get j=some (.box cells)) (hn:0≤n∧n.toNat<len):Ay P o σ ⟨[j],[],.ptr j n.toNat⟩:=by
 refine Ay.pure fun Γ σ' a w ow κ hag hr=>?_
 have e2:σ'.mem.get j=some (.box cells):=by rw[hag.2.1 j (by simp),hm]
 have hzo:z∈o.op.operands:=by rw[ho];simp[Op.operands]
 have hyo:y∈o.op.operands:=by rw[ho];simp[Op.operands]
 obtain⟨_,o1,k1,k2⟩:=hag.ev hr hyo hy
 rw[e2]at k1
 cases k1
 obtain⟨bb,q1,q2⟩:=k2 rfl
 have k6:=(hag.ev hr hzo hz).int
 refine⟨.pointer (some ⟨bb,n.toNat,none⟩),?_,rfl,_,e2,fun _=>⟨bb,q1,rfl⟩⟩
 unfold execOp
 rw[ho]
 have h5:n<(len:Int):=by omega
 have hu:=Gi ht
 simp[Instr.indexAt,q2,k6,asIntOf,run_underlying hu,hn.1,h5,D3 ht',Addr.add_mid]
section
variable {d:Option Tmp} {ops:Array Oper} {r':List Oper} {τ:ASt} {fs:List AEff} {K:ASt→List AEff→Prop} {E:AEff} {ty':TypeId} {pos:String} {af:Array Edge} {gd:Option (Nat×Bool)}
theorem U9 {ty e:TypeId}{len s b by':Nat}{z:Option Value}{zv:Value}{ti:TI}{parts:Array (Nat×Operand)}(hg:Cr ops σ ⟨d,.buildSlice ty len parts,ty',pos,af,gd⟩=some true) (ht:tin P ty=some ⟨.sl e,s,b,z⟩) (ht':tin P e=some ⟨ti,1,by',some zv⟩)
  (c1:parts.toList.map (·.1)=List.range len) (c2:len≤1000) (c3:(parts.toList.map fun p=>σ.ev p.2).all AV.isCell=true) (hf:σ.mem.get (σ.fresh ⟨d,.buildSlice ty len parts,ty',pos,af,gd⟩)=none)
  (he:(⟨[],[(σ.fresh ⟨d,.buildSlice ty len parts,ty',pos,af,gd⟩,.box (parts.toList.map fun p=>σ.ev p.2))],.bsl (σ.fresh ⟨d,.buildSlice ty len parts,ty',pos,af,gd⟩) len⟩:AEff)=E) (hτ:σ.upd d E=τ) (h:Aq P ops r' τ (fs++[E]) K):Aq P ops (⟨d,.buildSlice ty len parts,ty',pos,af,gd⟩::r') σ fs K:=by
 subst he
 exact MZ hg (p7 rfl hf ht ht' c1 c2 c3).sound hτ h
theorem MY {ty e:TypeId}{y z:Operand}{s b by' len:Nat}{zz z':Option Value}{ti:TI}{k:IntKind}{n:Int}{j:Id}{cells:List AV}(hg:Cr ops σ ⟨d,.indexAddr ty y z,ty',pos,af,gd⟩=some true) (hy:σ.ev y=.bsl j len) (hz:σ.ev z=.c (.int k n)) (ht:tin P ty=some ⟨.sl e,s,b,zz⟩) (ht':tin P e=some ⟨ti,1,by',z'⟩)
  (hm:σ.mem.get j=some (.box cells)) (hn:0≤n∧n.toNat<len) (he:(⟨[j],[],.ptr j n.toNat⟩:AEff)=E) (hτ:σ.upd d E=τ) (h:Aq P ops r' τ (fs++[E]) K):Aq P ops (⟨d,.indexAddr ty y z,ty',pos,af,gd⟩::r') σ fs K:=by
 subst he
 exact MZ hg (Xg rfl hy hz ht ht' hm hn).sound hτ h
end
end
end
section
open Go.RowKit
set_option maxRecDepth 10000
def Il (r:Int×Option V):PT×Bool:=match r.2 with
 |some v=>(F3 v,true)
 |none=>(IV,false)
def T7 (r:PT×Bool):AV:=.tup [r.1.av,.c (.bool r.2)]
theorem Kf:IV.av=.agg [.c (.int .i64 0),.c (.int .i64 0),.c (.int .i64 0),.c (.int .i64 0),.c (.int .i64 0),.c (.sl []),.c (.sl [])]:=rfl
theorem Wa {r:Int×Option V}(hr:CH r):AC Tryz.prog 120 [FM r] [] (T7 (Il r)) []:=by
 obtain⟨c,o⟩:=r
 cases o with
 |some v =>
  obtain⟨rfl,hv⟩:=hr
  have hc:=Lu hv
  have h00:((0:Int) != 0)=false:=rfl
  show AC _ _ [Dq 0 v] _ (.tup [(F3 v).av,.c (.bool true)]) _
  rw[JM]at hc ⊢
  unfold Dq
  generalize v.enc=W at *
  refine A7 Tryz.func120 Tryz.ntmps120 h00 ?_
  refine v9 (A4 [] hc) q9 q9 ?_
  exact Aj (A5 []) Tryz.results120
 |none =>
  have hc:(c != 0)=true:=by
   have:c≠0:=hr
   simpa using this
  show AC _ _ [Dq c BG] _ (.tup [IV.av,.c (.bool false)]) _
  rw[KG,Kf]
  refine A7 Tryz.func120 Tryz.ntmps120 hc ?_
  exact Aj (A5 []) Tryz.results120
def SM (o:Option CT) (q:PT) (b:Bool):Prop:=(b=true∧q.fine∧o=some q.ct)∨(b=false∧o=none)
theorem M7 (v:V):(F3 v).ct=AG v:=by unfold F3;rw[PT.ct,ctL];rfl
theorem Pu {v:V}(h:v.right):(F3 v).fine:=by
 refine⟨by rw[M7];exact M8 h,?_⟩
 unfold F3 PT.zero Ny
 exact⟨fun _=>rfl,fun _=>rfl,fun _=>rfl,trivial⟩
theorem Re {r:Int×Option V}(hr:CH r):SM (FD r) (Il r).1 (Il r).2:=by
 obtain⟨c,o⟩:=r
 cases o with
 |some v =>
  obtain⟨rfl,hv⟩:=hr
  exact .inl ⟨rfl,Pu hv,by rw[show (Il (0,some v)).1=F3 v from rfl,M7];rfl⟩
 |none=>exact .inr ⟨rfl,rfl⟩
theorem Ug {p:PT}(h:p.fine) (h2:p.d.op=2):∃v:V,v.right∧p.d.val=v.enc∧vOf p.ct.val=v:=by
 have h1:=p.ct.op
 have hc:p.ct.op=2:=by cases p;exact h2
 obtain⟨v,hv,e1,e2,_⟩:=CK h.1 hc
 refine⟨v,hv,?_,e2⟩
 cases p
 exact e1
theorem x8 (p:PT):p.ct.op=p.d.op:=by cases p;rfl
theorem a0l (p:PT):p.ct.num=p.d.num:=by cases p;rfl
theorem Kz {p:PT}{op:Int}(h:p.d.op=op):AC Tryz.prog 118 [p.av,.c (.int .i64 op)] [] (.c (.bool true)) []:=by
 have:=OP p op
 rwa [Gn h]at this
theorem K3 {p:PT}{op:Int}(h:p.d.op≠op):AC Tryz.prog 118 [p.av,.c (.int .i64 op)] [] (.c (.bool false)) []:=by
 have:=OP p op
 rwa [DH h]at this
theorem Bd {p:PT}{l:List PT}(hk:p.kids=l) {k:Nat}{a:PT}(ha:l[k]? = some a):Aa (p.kids.map PT.cs) 7 k=true∧(p.kids.map PT.cs)[k]? = some [.int .i64 a.d.op,.int .i64 a.d.a,.int .i64 a.d.b,.int .i64 a.d.c,.int .i64 a.d.num,.sl (a.d.val.map CellD.cs),.sl (a.kids.map PT.cs)]:=by
 subst hk
 obtain⟨h,e⟩:=List.getElem?_eq_some_iff.1 ha
 subst e
 exact YX _ h
set_option maxRecDepth 10000
theorem W6 {p:PT}(h:p.fine):p.kids.length≤3:=by rw[PT.fine_len h];exact Bl _
theorem Ul (r:Int×Option V):∃c w,FM r=Dq c w:=by
 obtain⟨c,o⟩:=r
 cases o with
 |some v=>exact⟨0,v,rfl⟩
 |none=>exact⟨c,BG,rfl⟩
set_option maxRecDepth 10000
theorem i9 {p:PT}(h3:p.d.op≠3):AC Tryz.prog 65 [p.av] [] (.tup [IV.av,.c (.bool false)]) []:=by
 have hI:=K3 h3
 rw[Kf]
 unfold PT.av at *
 generalize p.d=d,p.kids.map PT.cs=P at *
 refine A7 Tryz.func65 Tryz.ntmps65 q9 ?_
 refine v7 (A3 [] hI) q9 q9 ?_
 exact Aj (A5 []) Tryz.results65
theorem a1d {p a b:PT}(ho:p.d.op=3) (hk:p.kids=[a,b]) (h1:a.d.op=1):AC Tryz.prog 65 [p.av] [] (T7 (b,true)) []:=by
 have hI:=Kz ho
 have ia1:=Kz (p:=a) (op:=1) (by omega)
 have hr0:Aa (p.kids.map PT.cs) 7 0=true:=(Bd hk (k:=0) (a:=a) rfl).1
 have hg0:=(Bd hk (k:=0) (a:=a) rfl).2
 have hr1:Aa (p.kids.map PT.cs) 7 1=true:=(Bd hk (k:=1) (a:=b) rfl).1
 have hg1:=(Bd hk (k:=1) (a:=b) rfl).2
 show AC _ _ _ _ (.tup [b.av,.c (.bool true)]) _
 unfold PT.av at *
 generalize a.d=da,a.kids.map PT.cs=Pa,b.d=db,b.kids.map PT.cs=Pb,p.d=d,p.kids.map PT.cs=P at *
 refine A7 Tryz.func65 Tryz.ntmps65 q9 ?_
 refine v7 (A3 [] hI) q9 (j4 hr0 hg0 hr1 hg1) ?_
 refine v7 (A3 [] ia1) q9 q9 ?_
 exact Aj (A5 []) Tryz.results65
theorem a1e {p a b:PT}(ho:p.d.op=3) (hk:p.kids=[a,b]) (h1:a.d.op≠1) (h2:b.d.op=1):AC Tryz.prog 65 [p.av] [] (T7 (a,true)) []:=by
 have hI:=Kz ho
 have ia1:=K3 (p:=a) (op:=1) (by omega)
 have ib1:=Kz (p:=b) (op:=1) (by omega)
 have hr0:Aa (p.kids.map PT.cs) 7 0=true:=(Bd hk (k:=0) (a:=a) rfl).1
 have hg0:=(Bd hk (k:=0) (a:=a) rfl).2
 have hr1:Aa (p.kids.map PT.cs) 7 1=true:=(Bd hk (k:=1) (a:=b) rfl).1
 have hg1:=(Bd hk (k:=1) (a:=b) rfl).2
 show AC _ _ _ _ (.tup [a.av,.c (.bool true)]) _
 unfold PT.av at *
 generalize a.d=da,a.kids.map PT.cs=Pa,b.d=db,b.kids.map PT.cs=Pb,p.d=d,p.kids.map PT.cs=P at *
 refine A7 Tryz.func65 Tryz.ntmps65 q9 ?_
 refine v7 (A3 [] hI) q9 (j4 hr0 hg0 hr1 hg1) ?_
 refine v7 (A3 [] ia1) q9 q9 ?_
 refine v7 (A3 [] ib1) q9 q9 ?_
 exact Aj (A5 []) Tryz.results65
theorem a1f {p a b:PT}(ho:p.d.op=3) (hk:p.kids=[a,b]) (h1:a.d.op≠1) (h2:b.d.op≠1) (h3:a.d.op=2) (h4:b.d.op=2):AC Tryz.prog 65 [p.av] [] (T7 (b,true)) []:=by
 have hI:=Kz ho
 have ia1:=K3 (p:=a) (op:=1) (by omega)
 have ib1:=K3 (p:=b) (op:=1) (by omega)
 have ia2:=Kz (p:=a) (op:=2) (by omega)
 have ib2:=Kz (p:=b) (op:=2) (by omega)
 have hr0:Aa (p.kids.map PT.cs) 7 0=true:=(Bd hk (k:=0) (a:=a) rfl).1
 have hg0:=(Bd hk (k:=0) (a:=a) rfl).2
 have hr1:Aa (p.kids.map PT.cs) 7 1=true:=(Bd hk (k:=1) (a:=b) rfl).1
 have hg1:=(Bd hk (k:=1) (a:=b) rfl).2
 show AC _ _ _ _ (.tup [b.av,.c (.bool true)]) _
 unfold PT.av at *
 generalize a.d=da,a.kids.map PT.cs=Pa,b.d=db,b.kids.map PT.cs=Pb,p.d=d,p.kids.map PT.cs=P at *
 refine A7 Tryz.func65 Tryz.ntmps65 q9 ?_
 refine v7 (A3 [] hI) q9 (j4 hr0 hg0 hr1 hg1) ?_
 refine v7 (A3 [] ia1) q9 q9 ?_
 refine v7 (A3 [] ib1) q9 q9 ?_
 refine v7 (A3 [] ia2) q9 q9 ?_
 refine v7 (A3 [] ib2) q9 q9 ?_
 exact Aj (A5 []) Tryz.results65
theorem a1g {p a b:PT}(ho:p.d.op=3) (hk:p.kids=[a,b]) (h1:a.d.op≠1) (h2:b.d.op≠1) (h3:a.d.op≠2):AC Tryz.prog 65 [p.av] [] (.tup [IV.av,.c (.bool false)]) []:=by
 have hI:=Kz ho
 have ia1:=K3 (p:=a) (op:=1) (by omega)
 have ib1:=K3 (p:=b) (op:=1) (by omega)
 have ia2:=K3 (p:=a) (op:=2) (by omega)
 have hr0:Aa (p.kids.map PT.cs) 7 0=true:=(Bd hk (k:=0) (a:=a) rfl).1
 have hg0:=(Bd hk (k:=0) (a:=a) rfl).2
 have hr1:Aa (p.kids.map PT.cs) 7 1=true:=(Bd hk (k:=1) (a:=b) rfl).1
 have hg1:=(Bd hk (k:=1) (a:=b) rfl).2
 rw[Kf]
 unfold PT.av at *
 generalize a.d=da,a.kids.map PT.cs=Pa,b.d=db,b.kids.map PT.cs=Pb,p.d=d,p.kids.map PT.cs=P at *
 refine A7 Tryz.func65 Tryz.ntmps65 q9 ?_
 refine v7 (A3 [] hI) q9 (j4 hr0 hg0 hr1 hg1) ?_
 refine v7 (A3 [] ia1) q9 q9 ?_
 refine v7 (A3 [] ib1) q9 q9 ?_
 refine v7 (A3 [] ia2) q9 q9 ?_
 refine v7 (A3 [] ia2) q9 q9 ?_
 exact Aj (A5 []) Tryz.results65
theorem a1h {p a b:PT}(ho:p.d.op=3) (hk:p.kids=[a,b]) (h1:a.d.op≠1) (h2:b.d.op≠1) (h3:a.d.op=2) (h4:b.d.op≠2) (h5:b.d.op≠16):AC Tryz.prog 65 [p.av] [] (.tup [IV.av,.c (.bool false)]) []:=by
 have hI:=Kz ho
 have ia1:=K3 (p:=a) (op:=1) (by omega)
 have ib1:=K3 (p:=b) (op:=1) (by omega)
 have ia2:=Kz (p:=a) (op:=2) (by omega)
 have ib2:=K3 (p:=b) (op:=2) (by omega)
 have ib16:=K3 (p:=b) (op:=16) (by omega)
 have hr0:Aa (p.kids.map PT.cs) 7 0=true:=(Bd hk (k:=0) (a:=a) rfl).1
 have hg0:=(Bd hk (k:=0) (a:=a) rfl).2
 have hr1:Aa (p.kids.map PT.cs) 7 1=true:=(Bd hk (k:=1) (a:=b) rfl).1
 have hg1:=(Bd hk (k:=1) (a:=b) rfl).2
 rw[Kf]
 unfold PT.av at *
 generalize a.d=da,a.kids.map PT.cs=Pa,b.d=db,b.kids.map PT.cs=Pb,p.d=d,p.kids.map PT.cs=P at *
 refine A7 Tryz.func65 Tryz.ntmps65 q9 ?_
 refine v7 (A3 [] hI) q9 (j4 hr0 hg0 hr1 hg1) ?_
 refine v7 (A3 [] ia1) q9 q9 ?_
 refine v7 (A3 [] ib1) q9 q9 ?_
 refine v7 (A3 [] ia2) q9 q9 ?_
 refine v7 (A3 [] ib2) q9 q9 ?_
 refine v7 (A3 [] ia2) q9 q9 ?_
 refine v7 (A3 [] ib16) q9 q9 ?_
 exact Aj (A5 []) Tryz.results65
theorem X5 {p a b:PT}(ho:p.d.op=3) (hk:p.kids=[a,b]) (h1:a.d.op=2) (h2:b.d.op=16) {v:V}(hv:v.right) (hav:a.d.val=v.enc):AC Tryz.prog 65 [p.av] [] (T7 (Il (BX b.d.num v))) []:=by
 have hI:=Kz ho
 have ia1:=K3 (p:=a) (op:=1) (by omega)
 have ib1:=K3 (p:=b) (op:=1) (by omega)
 have ia2:=Kz (p:=a) (op:=2) (by omega)
 have ib2:=K3 (p:=b) (op:=2) (by omega)
 have ib16:=Kz (p:=b) (op:=16) (by omega)
 have hr0:Aa (p.kids.map PT.cs) 7 0=true:=(Bd hk (k:=0) (a:=a) rfl).1
 have hg0:=(Bd hk (k:=0) (a:=a) rfl).2
 have hr1:Aa (p.kids.map PT.cs) 7 1=true:=(Bd hk (k:=1) (a:=b) rfl).1
 have hg1:=(Bd hk (k:=1) (a:=b) rfl).2
 have hca:=Qf a hv hav
 have hop:=WO b.d.num hv
 have hok:CH (BX b.d.num v):=FG _ hv
 have hf:=Wa hok
 obtain⟨rc,rw,hrw⟩:=Ul (BX b.d.num v)
 obtain⟨q,b',hqb⟩:∃q b',Il (BX b.d.num v)=(q,b'):=⟨_,_,rfl⟩
 rw[hrw]at hop hf
 rw[hqb]at hf ⊢
 replace hf:AC Tryz.prog 120 [Dq rc rw] [] (.tup [q.av,.c (.bool b')]) []:=hf
 show AC _ _ _ _ (.tup [q.av,.c (.bool b')]) _
 clear hrw hqb hok
 unfold Dq at hf hop
 unfold V.av at *
 unfold PT.av at *
 generalize a.d=da,a.kids.map PT.cs=Pa,b.d=db,b.kids.map PT.cs=Pb,q.d=dq,q.kids.map PT.cs=Pq,p.d=d,p.kids.map PT.cs=P at *
 refine A7 Tryz.func65 Tryz.ntmps65 q9 ?_
 refine v7 (A3 [] hI) q9 (j4 hr0 hg0 hr1 hg1) ?_
 refine v7 (A3 [] ia1) q9 q9 ?_
 refine v7 (A3 [] ib1) q9 q9 ?_
 refine v7 (A3 [] ia2) q9 q9 ?_
 refine v7 (A3 [] ib2) q9 q9 ?_
 refine v7 (A3 [] ia2) q9 q9 ?_
 refine v7 (A3 [] ib16) q9 q9 ?_
 refine v9 (A4 [] hca) q9 q9 ?_
 refine v9 (A4 [] hop) q9 q9 ?_
 refine v9 (A4 [] hf) q9 q9 ?_
 exact Aj (A5 []) Tryz.results65
set_option maxRecDepth 10000
theorem Q3:SM none IV false:=.inr ⟨rfl,rfl⟩
theorem Nl {q:PT}(h:q.fine):SM (some q.ct) q true:=.inl ⟨rfl,h,rfl⟩
theorem a1t {p:PT}(h:p.fine) (ha:An p.d.op=2):∃a b,p.kids=[a,b]∧a.fine∧b.fine:=by
 have hl:=PT.fine_len h
 rw[ha]at hl
 match hk:p.kids,hl with
 | [a,b],_=>exact⟨a,b,rfl,PT.fine_kid h (by rw[hk];simp),PT.fine_kid h (by rw[hk];simp)⟩
theorem Ui {p:PT}(h:p.fine):∃q b,SM (FK p.d.op (ctL p.kids)) q b∧AC Tryz.prog 65 [p.av] [] (T7 (q,b)) []:=by
 by_cases h3:p.d.op=3
 ·obtain⟨a,b,hk,ha,hb⟩:=a1t h (by rw[h3];rfl)
  have hT:FK p.d.op (ctL p.kids)=if a.d.op=1 then some b.ct else if b.d.op=1 then some a.ct else if a.d.op=2∧b.d.op=2 then some b.ct else if a.d.op=2∧b.d.op=16 then FD (BX b.d.num (vOf a.ct.val)) else none:=by
   rw[hk,ctL,ctL,ctL,h3]
   unfold FK
   dsimp only
   rw[if_pos rfl,x8,x8,a0l]
  rw[hT]
  by_cases c1:a.d.op=1
  ·rw[if_pos c1];exact⟨b,true,Nl hb,a1d h3 hk c1⟩
  by_cases c2:b.d.op=1
  ·rw[if_neg c1,if_pos c2];exact⟨a,true,Nl ha,a1e h3 hk c1 c2⟩
  rw[if_neg c1,if_neg c2]
  by_cases c3:a.d.op=2
  ·by_cases c4:b.d.op=2
   ·rw[if_pos ⟨c3,c4⟩];exact⟨b,true,Nl hb,a1f h3 hk c1 c2 c3 c4⟩
   ·rw[if_neg (fun h=>c4 h.2)]
    by_cases c5:b.d.op=16
    ·rw[if_pos ⟨c3,c5⟩]
     obtain⟨v,hv,ev,ev'⟩:=Ug ha c3
     rw[ev']
     exact⟨_,_,Re (FG _ hv),X5 h3 hk c3 c5 hv ev⟩
    ·rw[if_neg (fun h=>c5 h.2)]
     exact⟨IV,false,Q3,a1h h3 hk c1 c2 c3 c4 c5⟩
  ·rw[if_neg (fun h=>c3 h.1),if_neg (fun h=>c3 h.1)]
   exact⟨IV,false,Q3,a1g h3 hk c1 c2 c3⟩
 ·refine⟨IV,false,?_,i9 h3⟩
  have:FK p.d.op (ctL p.kids)=none:=by
   unfold FK
   split
   ·rw[if_neg h3]
   ·rfl
  rw[this]
  exact Q3
end
end Go.Proofs.YtcejfdfmgmcinaaGreat
