/- Texts of this proof: E43 K29 K30. -/
import Derived.Test.YtcejfdfmgmcinaaGreatKM33uE41
set_option linter.all false
set_option maxHeartbeats 8000000
namespace Go.Proofs.YtcejfdfmgmcinaaGreat
section
open Go.RowKit
section
variable {P:Program} {o:Oper} {σ:ASt}
theorem RelAt.newBsl {Γ:Ctx}{a:Act}{w:World}{ow:Nat→Option Id}{κ:Id→Value}(h:RelAt Γ σ a w ow κ) {fr:Id}(hf:σ.mem.get fr=none) {cells:List AV}{vs:List Value}(hv:ARs w (Γ.sees ow) σ.mem κ cells vs) (h1:∀u∈vs,u.oneCell'=true) (T:TypeId) (k:Nat) (dst:Option Tmp) :
  ∃ow' κ',RelAt Γ (σ.upd dst ⟨[],[(fr,.box cells)],.bsl fr k⟩) (a.put dst (.slice (some ⟨w.heap.size,0,none⟩) k k)) (w.alloc (.cells vs.toArray T)) ow' κ':=by
 have st:Step σ.mem [(fr,.box cells)] w ow κ (w.alloc (.cells vs.toArray T)) (DO ow [] fr (some w.heap.size)) (Dp κ fr (.pointer (some ⟨w.heap.size,0,none⟩))) :=
  Step.make (ks:=[]) rfl rfl rfl (by simp) hf (by simp) rfl (fun b hb _=>Below.heap_alloc w _ b hb) (fun b hb=>by cases hb;exact⟨by simp,.inl (Nat.le_refl _)⟩) h.owns
 refine⟨_,_,h.step (E:=⟨[],[(fr,.box cells)],.bsl fr k⟩) st ⟨rfl,.box cells,?_,fun _=>⟨w.heap.size,by simp[Dp],rfl⟩⟩ (fun i hi o ho=>?_) dst⟩
 ·exact CF (ks:=[]) (by simp)
 ·have hi':i=fr:=by simpa using hi
  subst hi'
  cases (CF (m:=σ.mem) (ks:=[]) (fr:=i) (obj:=.box cells) (by simp)).symm.trans ho
  exact⟨w.heap.size,vs,T,by simp[Dp],by simp[DO],heap_alloc_new w _,ARs.keep (by simp) (st.sees (Γ:=Γ)) st.mem hv,h1⟩
theorem ARs.ones {w:World}{S:Nat→Prop}{m:Mem}{κ:Id→Value}:∀{xs:List AV}{vs:List Value},ARs w S m κ xs vs→xs.all AV.isCell=true→∀u∈vs,u.oneCell'=true
 | [],vs,h,_=>by simp only[ARs]at h;simp[h]
 |x::xs,vs,h,hx=>by
  simp only[ARs]at h
  obtain⟨v,vs',rfl,h1,h2⟩:=h
  simp only[List.all_cons,Bool.and_eq_true]at hx
  intro u hu
  rcases List.mem_cons.1 hu with rfl | hu
  ·exact AR.one hx.1 h1
  ·exact ARs.ones h2 hx.2 u hu
theorem a18 {ty e:TypeId}{len s b by':Nat}{z:Option Value}{zv:Value}{ti:TI}{parts:Array (Nat×Operand)}{fr:Id}(ho:o.op=.buildSlice ty len parts) (hf:σ.mem.get fr=none) (ht:tin P ty=some ⟨.sl e,s,b,z⟩) (ht':tin P e=some ⟨ti,1,by',some zv⟩)
  (c1:parts.toList.map (·.1)=List.range len) (c2:len≤1000) (c3:(parts.toList.map fun p=>σ.ev p.2).all AV.isCell=true):AF P o σ ⟨[],[(fr,.box (parts.toList.map fun p=>σ.ev p.2))],.bsl fr len⟩:=by
 intro Γ σ' a w ow κ hag hr
 have hpl:parts.toList.length=len:=by have:=congrArg List.length c1;simpa using this
 have hars:ARs w (Γ.sees ow) σ'.mem κ (parts.toList.map fun p=>σ.ev p.2) (parts.toList.map fun p=>a.eval p.2):=by
  have:=ARs.map_ev (σ:=σ) hr (parts.toList.map (·.2)) fun x hx=>hag.1 x (by rw[ho];simpa [Op.operands] using hx)
  simp only[List.map_map]at this
  exact this
 have h1:=hars.ones c3
 obtain⟨ow',κ',hr'⟩:=hr.newBsl (by rw[hag.2.2 fr (by simp),hf]) hars h1 e len o.dst
 refine⟨.slice (some ⟨w.heap.size,0,none⟩) len len,_,ow',κ',.inl ?_,hr'⟩
 unfold execOp
 rw[ho]
 have hsz:¬(2 ^ 24<len*1):=by omega
 have hp1:(parts.toList.map fun p=>(p.1,a.eval p.2)).map (·.1)=List.range' 0 (parts.toList.map fun p=>(p.1,a.eval p.2)).length:=by
  rw[List.map_map,List.length_map,hpl,←List.range_eq_range',←c1];rfl
 have hp2:(parts.toList.map fun p=>(p.1,a.eval p.2)).map (fun p=>p.2.cells)=(parts.toList.map fun p=>[a.eval p.2]).map List.toArray:=by
  rw[List.map_map,List.map_map]
  refine List.map_congr_left fun p hp=>?_
  exact Value.cells_one (h1 _ (List.mem_map.2 ⟨p,hp,rfl⟩))
 have hfl:(parts.toList.map fun p=>[a.eval p.2]).flatten=parts.toList.map fun p=>a.eval p.2:=by
  induction parts.toList with
  |nil=>rfl
  |cons p l ih=>simp[ih]
 have hfill:∀(cells:List Value),cells.length=len*1→_:=fun cells hl=>Nt (size:=1) (parts.toList.map fun p=>(p.1,a.eval p.2)) (parts.toList.map fun p=>[a.eval p.2]) 0 cells hp1 hp2 (fun x hx=>by obtain⟨p,_,rfl⟩:=List.mem_map.1 hx;rfl) (by rw[hl,List.length_map,hpl,Nat.zero_add])
 simp only[Nat.zero_mul,List.take_zero,List.nil_append,hfl]at hfill
 have hfill':∀(zc:Array Value),Instr.fill (fun i=>some (i*1,1)) ((Array.range (len*1)).map (fun x=>zc[x % zc.size]!)) (parts.toList.map fun p=>(p.1,a.eval p.2))=some (parts.toList.map fun p=>a.eval p.2).toArray:=by
  intro zc
  have:=hfill ((Array.range (len*1)).map (fun x=>zc[x % zc.size]!)).toList (by simp)
  rwa [Array.toArray_toList]at this
 simp only[Instr.buildSlice,Sem.run_bind,run_underlying (GS ht),Result.andThen_ok,DC ht',gt_iff_lt,hsz,if_false,Sem.run_ite,Array.toList_map]
 simp only[hfill']
 by_cases hz0:len*1=0
 ·simp only[hz0,if_true,newRow,Sem.run_pure,Result.andThen_ok,Sem.run_bind,run_newObj,World.alloc_eq]
 ·simp only[hz0,if_false,Gq ht',newRow,Sem.run_pure,Result.andThen_ok,Sem.run_bind,run_newObj,World.alloc_eq]
theorem YC {ty e:TypeId}{y z:Operand}{s b by' len:Nat}{zz z':Option Value}{ti:TI}{k:IntKind}{n:Int}{j:Id}{cells:List AV}(ho:o.op=.indexAddr ty y z) (hy:σ.ev y=.bsl j len) (hz:σ.ev z=.c (.int k n)) (ht:tin P ty=some ⟨.sl e,s,b,zz⟩) (ht':tin P e=some ⟨ti,1,by',z'⟩)
  (hm:σ.mem.get j=some (.box cells)) (hn:0≤n∧n.toNat<len):AF P o σ ⟨[j],[],.ptr j n.toNat⟩:=by
 refine AF.pure fun Γ σ' a w ow κ hag hr=>?_
 have e2:σ'.mem.get j=some (.box cells):=by rw[hag.2.1 j (by simp),hm]
 have hzo:z∈o.op.operands:=by rw[ho];simp[Op.operands]
 have hyo:y∈o.op.operands:=by rw[ho];simp[Op.operands]
 obtain⟨_,o1,k1,k2⟩:=hag.ev hr hyo hy
 rw[e2]at k1
 cases k1
 obtain⟨bb,q1,q2⟩:=k2 rfl
 have k6:=(hag.ev hr hzo hz).int
 refine⟨.pointer (some ⟨bb,n.toNat,none⟩),?_,rfl,_,e2,fun _=>⟨bb,q1,rfl⟩⟩
 unfold execOp
 rw[ho]
 have h5:n<(len:Int):=by omega
 have hu:=GS ht
 simp[Instr.indexAt,q2,k6,asIntOf,run_underlying hu,hn.1,h5,DC ht',Addr.add_mid]
section
variable {d:Option Tmp} {ops:Array Oper} {r':List Oper} {τ:ASt} {fs:List AEff} {K:ASt→List AEff→Prop} {E:AEff} {ty':TypeId} {pos:String} {af:Array Edge} {gd:Option (Nat×Bool)}
theorem LQ {ty e:TypeId}{len s b by':Nat}{z:Option Value}{zv:Value}{ti:TI}{parts:Array (Nat×Operand)}(hg:CS ops σ ⟨d,.buildSlice ty len parts,ty',pos,af,gd⟩=some true) (ht:tin P ty=some ⟨.sl e,s,b,z⟩) (ht':tin P e=some ⟨ti,1,by',some zv⟩)
  (c1:parts.toList.map (·.1)=List.range len) (c2:len≤1000) (c3:(parts.toList.map fun p=>σ.ev p.2).all AV.isCell=true) (hf:σ.mem.get (σ.fresh ⟨d,.buildSlice ty len parts,ty',pos,af,gd⟩)=none)
  (he:(⟨[],[(σ.fresh ⟨d,.buildSlice ty len parts,ty',pos,af,gd⟩,.box (parts.toList.map fun p=>σ.ev p.2))],.bsl (σ.fresh ⟨d,.buildSlice ty len parts,ty',pos,af,gd⟩) len⟩:AEff)=E) (hτ:σ.upd d E=τ) (h:Az P ops r' τ (fs++[E]) K):Az P ops (⟨d,.buildSlice ty len parts,ty',pos,af,gd⟩::r') σ fs K:=by
 subst he
 exact O6 hg (a18 rfl hf ht ht' c1 c2 c3).sound hτ h
theorem H5 {ty e:TypeId}{y z:Operand}{s b by' len:Nat}{zz z':Option Value}{ti:TI}{k:IntKind}{n:Int}{j:Id}{cells:List AV}(hg:CS ops σ ⟨d,.indexAddr ty y z,ty',pos,af,gd⟩=some true) (hy:σ.ev y=.bsl j len) (hz:σ.ev z=.c (.int k n)) (ht:tin P ty=some ⟨.sl e,s,b,zz⟩) (ht':tin P e=some ⟨ti,1,by',z'⟩)
  (hm:σ.mem.get j=some (.box cells)) (hn:0≤n∧n.toNat<len) (he:(⟨[j],[],.ptr j n.toNat⟩:AEff)=E) (hτ:σ.upd d E=τ) (h:Az P ops r' τ (fs++[E]) K):Az P ops (⟨d,.indexAddr ty y z,ty',pos,af,gd⟩::r') σ fs K:=by
 subst he
 exact O6 hg (YC rfl hy hz ht ht' hm hn).sound hτ h
end
end
end
section
open Go.RowKit
set_option maxRecDepth 10000
def DQ (r:Int×Option V):PT×Bool:=match r.2 with
 |some v=>(EN v,true)
 |none=>(CX,false)
def Is (r:PT×Bool):AV:=.tup [r.1.av,.c (.bool r.2)]
theorem Cg:CX.av=.agg [.c (.int .i64 0),.c (.int .i64 0),.c (.int .i64 0),.c (.int .i64 0),.c (.int .i64 0),.c (.sl []),.c (.sl [])]:=rfl
theorem H1 {r:Int×Option V}(hr:CH r):AC Tryz.prog 120 [EK r] [] (Is (DQ r)) []:=by
 obtain⟨c,o⟩:=r
 cases o with
 |some v =>
  obtain⟨rfl,hv⟩:=hr
  have hc:=Il hv
  have h00:((0:Int) != 0)=false:=rfl
  show AC _ _ [Dh 0 v] _ (.tup [(EN v).av,.c (.bool true)]) _
  rw[Hu]at hc ⊢
  unfold Dh
  generalize v.enc=W at *
  refine A7 Tryz.func120 Tryz.ntmps120 ?_
  refine A3 h00 ?_
  refine w9 (A5 [] hc) q9 ?_
  refine A3 q9 ?_
  exact Ad (A6 []) Tryz.results120
 |none =>
  have hc:(c != 0)=true:=by
   have:c≠0:=hr
   simpa using this
  show AC _ _ [Dh c BE] _ (.tup [CX.av,.c (.bool false)]) _
  rw[LS,Cg]
  refine A7 Tryz.func120 Tryz.ntmps120 ?_
  refine A3 hc ?_
  exact Ad (A6 []) Tryz.results120
def MC (o:Option CT) (q:PT) (b:Bool):Prop:=(b=true∧q.fine∧o=some q.ct)∨(b=false∧o=none)
theorem JY (v:V):(EN v).ct=AE v:=by unfold EN;rw[PT.ct,ctL];rfl
theorem KF {v:V}(h:v.right):(EN v).fine:=by
 refine⟨by rw[JY];exact Nb h,?_⟩
 unfold EN PT.zero MB
 exact⟨fun _=>rfl,fun _=>rfl,fun _=>rfl,trivial⟩
theorem Fw {r:Int×Option V}(hr:CH r):MC (EX r) (DQ r).1 (DQ r).2:=by
 obtain⟨c,o⟩:=r
 cases o with
 |some v =>
  obtain⟨rfl,hv⟩:=hr
  exact .inl ⟨rfl,KF hv,by rw[show (DQ (0,some v)).1=EN v from rfl,JY];rfl⟩
 |none=>exact .inr ⟨rfl,rfl⟩
theorem Ff {p:PT}(h:p.fine) (h2:p.d.op=2):∃v:V,v.right∧p.d.val=v.enc∧vOf p.ct.val=v:=by
 have h1:=p.ct.op
 have hc:p.ct.op=2:=by cases p;exact h2
 obtain⟨v,hv,e1,e2,_⟩:=D4 h.1 hc
 refine⟨v,hv,?_,e2⟩
 cases p
 exact e1
theorem EP (p:PT):p.ct.op=p.d.op:=by cases p;rfl
theorem EJ {p:PT}{op:Int}(h:p.d.op=op):AC Tryz.prog 118 [p.av,.c (.int .i64 op)] [] (.c (.bool true)) []:=by
 have:=AQ p op
 rwa [BL h]at this
theorem Bt {p:PT}{op:Int}(h:p.d.op≠op):AC Tryz.prog 118 [p.av,.c (.int .i64 op)] [] (.c (.bool false)) []:=by
 have:=AQ p op
 rwa [Bh h]at this
theorem Ae {p:PT}{l:List PT}(hk:p.kids=l) {k:Nat}{a:PT}(ha:l[k]? = some a):A9 (p.kids.map PT.cs) 7 k=true∧(p.kids.map PT.cs)[k]? = some [.int .i64 a.d.op,.int .i64 a.d.a,.int .i64 a.d.b,.int .i64 a.d.c,.int .i64 a.d.num,.sl (a.d.val.map CellD.cs),.sl (a.kids.map PT.cs)]:=by
 subst hk
 obtain⟨h,e⟩:=List.getElem?_eq_some_iff.1 ha
 subst e
 exact Rz _ h
set_option maxRecDepth 10000
theorem D5 {p:PT}{k:Nat}(hk:k≤p.kids.length) (hl:p.kids.length≤3) {b:Bool}(hb:((p.kids.take k).all fun x=>x.d.op==2)=b):AC Tryz.prog 119 [p.av,.c (.int .i64 k)] [] (.c (.bool b)) []:=by
 have:=OP p hk (by omega)
 rwa [hb]at this
theorem LF {p:PT}(h:p.fine):p.kids.length≤3:=by rw[PT.fine_len h];exact Bz _
theorem Gn (r:Int×Option V):∃c w,EK r=Dh c w:=by
 obtain⟨c,o⟩:=r
 cases o with
 |some v=>exact⟨0,v,rfl⟩
 |none=>exact⟨c,BE,rfl⟩
def Ii (p:PT):Prop:=AC Tryz.prog 62 [p.av] [] (.tup [CX.av,.c (.bool false)]) []
theorem a3s {p:PT}(n6:p.d.op≠6) (n7:p.d.op≠7) (n12:p.d.op≠12) (n11:p.d.op≠11) (n10:p.d.op≠10):Ii p:=by
 have h6:=Bt n6
 have h7:=Bt n7
 have h12:=Bt n12
 have h11:=Bt n11
 have h10:=Bt n10
 unfold Ii
 rw[Cg]
 unfold PT.av at *
 generalize p.d=d at *
 generalize p.kids.map PT.cs=P at *
 refine A7 Tryz.func62 Tryz.ntmps62 ?_
 refine A3 q9 ?_
 refine w7 (A4 [] h6) q9 ?_
 refine A3 q9 ?_
 refine w7 (A4 [] h7) q9 ?_
 refine A3 q9 ?_
 refine w7 (A4 [] h12) q9 ?_
 refine A3 q9 ?_
 refine w7 (A4 [] h11) q9 ?_
 refine A3 q9 ?_
 refine w7 (A4 [] h10) q9 ?_
 refine A3 q9 ?_
 refine w7 (A4 [] h10) q9 ?_
 refine A3 q9 ?_
 exact Ad (A6 []) Tryz.results62
theorem Zz {p:PT}(ho:p.d.op=6) (hl:p.kids.length≤3) (hk:2≤p.kids.length) (hn:((p.kids.take 2).all fun x=>x.d.op==2)=false):Ii p:=by
 have hc:AC Tryz.prog 119 [p.av,.c (.int .i64 2)] [] (.c (.bool false)) []:=D5 (k:=2) hk hl hn
 have h6:=EJ (p:=p) (op:=6) (by omega)
 have h7:=Bt (p:=p) (op:=7) (by omega)
 have h12:=Bt (p:=p) (op:=12) (by omega)
 have h11:=Bt (p:=p) (op:=11) (by omega)
 have h10:=Bt (p:=p) (op:=10) (by omega)
 unfold Ii
 rw[Cg]
 unfold PT.av at *
 generalize p.d=d at *
 generalize p.kids.map PT.cs=P at *
 refine A7 Tryz.func62 Tryz.ntmps62 ?_
 refine A3 q9 ?_
 refine w7 (A4 [] h6) q9 ?_
 refine A3 q9 ?_
 refine w7 (A4 [] hc) q9 ?_
 refine A3 q9 ?_
 refine w7 (A4 [] h7) q9 ?_
 refine A3 q9 ?_
 refine w7 (A4 [] h12) q9 ?_
 refine A3 q9 ?_
 refine w7 (A4 [] h11) q9 ?_
 refine A3 q9 ?_
 refine w7 (A4 [] h10) q9 ?_
 refine A3 q9 ?_
 refine w7 (A4 [] h10) q9 ?_
 refine A3 q9 ?_
 exact Ad (A6 []) Tryz.results62
theorem ZA {p:PT}(ho:p.d.op=7) (hl:p.kids.length≤3) (hk:2≤p.kids.length) (hn:((p.kids.take 2).all fun x=>x.d.op==2)=false):Ii p:=by
 have hc:AC Tryz.prog 119 [p.av,.c (.int .i64 2)] [] (.c (.bool false)) []:=D5 (k:=2) hk hl hn
 have h6:=Bt (p:=p) (op:=6) (by omega)
 have h7:=EJ (p:=p) (op:=7) (by omega)
 have h12:=Bt (p:=p) (op:=12) (by omega)
 have h11:=Bt (p:=p) (op:=11) (by omega)
 have h10:=Bt (p:=p) (op:=10) (by omega)
 unfold Ii
 rw[Cg]
 unfold PT.av at *
 generalize p.d=d at *
 generalize p.kids.map PT.cs=P at *
 refine A7 Tryz.func62 Tryz.ntmps62 ?_
 refine A3 q9 ?_
 refine w7 (A4 [] h6) q9 ?_
 refine A3 q9 ?_
 refine w7 (A4 [] h7) q9 ?_
 refine A3 q9 ?_
 refine w7 (A4 [] hc) q9 ?_
 refine A3 q9 ?_
 refine w7 (A4 [] h12) q9 ?_
 refine A3 q9 ?_
 refine w7 (A4 [] h11) q9 ?_
 refine A3 q9 ?_
 refine w7 (A4 [] h10) q9 ?_
 refine A3 q9 ?_
 refine w7 (A4 [] h10) q9 ?_
 refine A3 q9 ?_
 exact Ad (A6 []) Tryz.results62
theorem Xw {p:PT}(ho:p.d.op=11) (hl:p.kids.length≤3) (hk:2≤p.kids.length) (hn:((p.kids.take 2).all fun x=>x.d.op==2)=false):Ii p:=by
 have hc:AC Tryz.prog 119 [p.av,.c (.int .i64 2)] [] (.c (.bool false)) []:=D5 (k:=2) hk hl hn
 have h6:=Bt (p:=p) (op:=6) (by omega)
 have h7:=Bt (p:=p) (op:=7) (by omega)
 have h12:=Bt (p:=p) (op:=12) (by omega)
 have h11:=EJ (p:=p) (op:=11) (by omega)
 have h10:=Bt (p:=p) (op:=10) (by omega)
 unfold Ii
 rw[Cg]
 unfold PT.av at *
 generalize p.d=d at *
 generalize p.kids.map PT.cs=P at *
 refine A7 Tryz.func62 Tryz.ntmps62 ?_
 refine A3 q9 ?_
 refine w7 (A4 [] h6) q9 ?_
 refine A3 q9 ?_
 refine w7 (A4 [] h7) q9 ?_
 refine A3 q9 ?_
 refine w7 (A4 [] h12) q9 ?_
 refine A3 q9 ?_
 refine w7 (A4 [] h11) q9 ?_
 refine A3 q9 ?_
 refine w7 (A4 [] hc) q9 ?_
 refine A3 q9 ?_
 refine w7 (A4 [] h10) q9 ?_
 refine A3 q9 ?_
 refine w7 (A4 [] h10) q9 ?_
 refine A3 q9 ?_
 exact Ad (A6 []) Tryz.results62
theorem Xx {p:PT}(ho:p.d.op=12) (hl:p.kids.length≤3) (hk:1≤p.kids.length) (hn:((p.kids.take 1).all fun x=>x.d.op==2)=false):Ii p:=by
 have hc:AC Tryz.prog 119 [p.av,.c (.int .i64 1)] [] (.c (.bool false)) []:=D5 (k:=1) hk hl hn
 have h6:=Bt (p:=p) (op:=6) (by omega)
 have h7:=Bt (p:=p) (op:=7) (by omega)
 have h12:=EJ (p:=p) (op:=12) (by omega)
 have h11:=Bt (p:=p) (op:=11) (by omega)
 have h10:=Bt (p:=p) (op:=10) (by omega)
 unfold Ii
 rw[Cg]
 unfold PT.av at *
 generalize p.d=d at *
 generalize p.kids.map PT.cs=P at *
 refine A7 Tryz.func62 Tryz.ntmps62 ?_
 refine A3 q9 ?_
 refine w7 (A4 [] h6) q9 ?_
 refine A3 q9 ?_
 refine w7 (A4 [] h7) q9 ?_
 refine A3 q9 ?_
 refine w7 (A4 [] h12) q9 ?_
 refine A3 q9 ?_
 refine w7 (A4 [] hc) q9 ?_
 refine A3 q9 ?_
 refine w7 (A4 [] h11) q9 ?_
 refine A3 q9 ?_
 refine w7 (A4 [] h10) q9 ?_
 refine A3 q9 ?_
 refine w7 (A4 [] h10) q9 ?_
 refine A3 q9 ?_
 exact Ad (A6 []) Tryz.results62
theorem Xv {p a:PT}(ho:p.d.op=10) (hk:p.kids=[a]) (n2:a.d.op≠2) (n17:a.d.op≠17):Ii p:=by
 have hc:AC Tryz.prog 119 [p.av,.c (.int .i64 1)] [] (.c (.bool false)) []:=D5 (p:=p) (k:=1) (b:=false) (by rw[hk];simp) (by rw[hk];simp) (by rw[hk];simp[n2])
 have h17:=Bt n17
 have hr0:A9 (p.kids.map PT.cs) 7 0=true:=(Ae hk (k:=0) (a:=a) rfl).1
 have hg0:=(Ae hk (k:=0) (a:=a) rfl).2
 have h6:=Bt (p:=p) (op:=6) (by omega)
 have h7:=Bt (p:=p) (op:=7) (by omega)
 have h12:=Bt (p:=p) (op:=12) (by omega)
 have h11:=Bt (p:=p) (op:=11) (by omega)
 have h10:=EJ (p:=p) (op:=10) (by omega)
 unfold Ii
 rw[Cg]
 unfold PT.av at *
 generalize a.d=da at *
 generalize a.kids.map PT.cs=Pa at *
 generalize p.d=d at *
 generalize p.kids.map PT.cs=P at *
 refine A7 Tryz.func62 Tryz.ntmps62 ?_
 refine A3 q9 ?_
 refine w7 (A4 [] h6) q9 ?_
 refine A3 q9 ?_
 refine w7 (A4 [] h7) q9 ?_
 refine A3 q9 ?_
 refine w7 (A4 [] h12) q9 ?_
 refine A3 q9 ?_
 refine w7 (A4 [] h11) q9 ?_
 refine A3 q9 ?_
 refine w7 (A4 [] h10) q9 ?_
 refine A3 q9 ?_
 refine w7 (A4 [] hc) q9 ?_
 refine A3 q9 ?_
 refine w7 (A4 [] h10) q9 ?_
 refine A3 (j2 hr0 hg0) ?_
 refine w7 (A4 [] h17) q9 ?_
 refine A3 q9 ?_
 exact Ad (A6 []) Tryz.results62
theorem Xu {p a:PT}(ho:p.d.op=10) (hk:p.kids=[a]) (e17:a.d.op=17):AC Tryz.prog 62 [p.av] [] (Is (EN (AZ []),true)) []:=by
 have hc:AC Tryz.prog 119 [p.av,.c (.int .i64 1)] [] (.c (.bool false)) []:=D5 (p:=p) (k:=1) (b:=false) (by rw[hk];simp) (by rw[hk];simp) (by rw[hk];simp[e17])
 have h17:=EJ e17
 have hcp:=Il LU
 have har:=EL []
 have hr0:A9 (p.kids.map PT.cs) 7 0=true:=(Ae hk (k:=0) (a:=a) rfl).1
 have hg0:=(Ae hk (k:=0) (a:=a) rfl).2
 have h6:=Bt (p:=p) (op:=6) (by omega)
 have h7:=Bt (p:=p) (op:=7) (by omega)
 have h12:=Bt (p:=p) (op:=12) (by omega)
 have h11:=Bt (p:=p) (op:=11) (by omega)
 have h10:=EJ (p:=p) (op:=10) (by omega)
 show AC _ _ _ _ (.tup [(EN (AZ [])).av,.c (.bool true)]) _
 rw[Hu]at hcp ⊢
 rw[Qq]at hcp har
 generalize (AZ []).enc=W at *
 unfold PT.av at *
 generalize a.d=da at *
 generalize a.kids.map PT.cs=Pa at *
 generalize p.d=d at *
 generalize p.kids.map PT.cs=P at *
 refine A7 Tryz.func62 Tryz.ntmps62 ?_
 refine A3 q9 ?_
 refine w7 (A4 [] h6) q9 ?_
 refine A3 q9 ?_
 refine w7 (A4 [] h7) q9 ?_
 refine A3 q9 ?_
 refine w7 (A4 [] h12) q9 ?_
 refine A3 q9 ?_
 refine w7 (A4 [] h11) q9 ?_
 refine A3 q9 ?_
 refine w7 (A4 [] h10) q9 ?_
 refine A3 q9 ?_
 refine w7 (A4 [] hc) q9 ?_
 refine A3 q9 ?_
 refine w7 (A4 [] h10) q9 ?_
 refine A3 (j2 hr0 hg0) ?_
 refine w7 (A4 [] h17) q9 ?_
 refine A3 q9 ?_
 refine w7 (A4 [] har) @List.map_nil.{0,0} ?_
 refine A3 q9 ?_
 refine w9 (A5 [] hcp) @List.map_nil.{0,0} ?_
 refine A3 q9 ?_
 exact Ad (A6 []) Tryz.results62
theorem Sy {p a b c:PT}(ho:p.d.op=12) (hk:p.kids=[a,b,c]) (a2:a.d.op=2) {v:V}(hv:v.right) (he:a.d.val=v.enc) (htr:CM v=true):AC Tryz.prog 62 [p.av] [] (Is (b,true)) []:=by
 have hc:AC Tryz.prog 119 [p.av,.c (.int .i64 1)] [] (.c (.bool true)) []:=D5 (p:=p) (k:=1) (b:=true) (by rw[hk];simp) (by rw[hk];simp) (by rw[hk];simp[a2])
 have hca:=BC a hv he
 have htv:=Jo v
 rw[htr]at htv
 have hr0:A9 (p.kids.map PT.cs) 7 0=true:=(Ae hk (k:=0) (a:=a) rfl).1
 have hg0:=(Ae hk (k:=0) (a:=a) rfl).2
 have hr1:A9 (p.kids.map PT.cs) 7 1=true:=(Ae hk (k:=1) (a:=b) rfl).1
 have hg1:=(Ae hk (k:=1) (a:=b) rfl).2
 have h6:=Bt (p:=p) (op:=6) (by omega)
 have h7:=Bt (p:=p) (op:=7) (by omega)
 have h12:=EJ (p:=p) (op:=12) (by omega)
 have h11:=Bt (p:=p) (op:=11) (by omega)
 have h10:=Bt (p:=p) (op:=10) (by omega)
 show AC _ _ _ _ (.tup [b.av,.c (.bool true)]) _
 have hva:∃x,v.av=x:=⟨_,rfl⟩
 unfold V.av at *
 unfold PT.av at *
 generalize a.d=da at *
 generalize a.kids.map PT.cs=Pa at *
 generalize b.d=db at *
 generalize b.kids.map PT.cs=Pb at *
 generalize p.d=d at *
 generalize p.kids.map PT.cs=P at *
 refine A7 Tryz.func62 Tryz.ntmps62 ?_
 refine A3 q9 ?_
 refine w7 (A4 [] h6) q9 ?_
 refine A3 q9 ?_
 refine w7 (A4 [] h7) q9 ?_
 refine A3 q9 ?_
 refine w7 (A4 [] h12) q9 ?_
 refine A3 q9 ?_
 refine w7 (A4 [] hc) q9 ?_
 refine A3 q9 ?_
 refine A3 (j2 hr0 hg0) ?_
 refine w9 (A5 [] hca) q9 ?_
 refine A3 q9 ?_
 refine w7 (A4 [] htv) q9 ?_
 refine A3 (j2 hr1 hg1) ?_
 exact Ad (A6 []) Tryz.results62
theorem QU {p a b c:PT}(ho:p.d.op=12) (hk:p.kids=[a,b,c]) (a2:a.d.op=2) {v:V}(hv:v.right) (he:a.d.val=v.enc) (htr:CM v=false):AC Tryz.prog 62 [p.av] [] (Is (c,true)) []:=by
 have hc:AC Tryz.prog 119 [p.av,.c (.int .i64 1)] [] (.c (.bool true)) []:=D5 (p:=p) (k:=1) (b:=true) (by rw[hk];simp) (by rw[hk];simp) (by rw[hk];simp[a2])
 have hca:=BC a hv he
 have htv:=Jo v
 rw[htr]at htv
 have hr0:A9 (p.kids.map PT.cs) 7 0=true:=(Ae hk (k:=0) (a:=a) rfl).1
 have hg0:=(Ae hk (k:=0) (a:=a) rfl).2
 have hr1:A9 (p.kids.map PT.cs) 7 2=true:=(Ae hk (k:=2) (a:=c) rfl).1
 have hg1:=(Ae hk (k:=2) (a:=c) rfl).2
 have h6:=Bt (p:=p) (op:=6) (by omega)
 have h7:=Bt (p:=p) (op:=7) (by omega)
 have h12:=EJ (p:=p) (op:=12) (by omega)
 have h11:=Bt (p:=p) (op:=11) (by omega)
 have h10:=Bt (p:=p) (op:=10) (by omega)
 show AC _ _ _ _ (.tup [c.av,.c (.bool true)]) _
 have hva:∃x,v.av=x:=⟨_,rfl⟩
 unfold V.av at *
 unfold PT.av at *
 generalize a.d=da at *
 generalize a.kids.map PT.cs=Pa at *
 generalize c.d=dc at *
 generalize c.kids.map PT.cs=Pc at *
 generalize p.d=d at *
 generalize p.kids.map PT.cs=P at *
 refine A7 Tryz.func62 Tryz.ntmps62 ?_
 refine A3 q9 ?_
 refine w7 (A4 [] h6) q9 ?_
 refine A3 q9 ?_
 refine w7 (A4 [] h7) q9 ?_
 refine A3 q9 ?_
 refine w7 (A4 [] h12) q9 ?_
 refine A3 q9 ?_
 refine w7 (A4 [] hc) q9 ?_
 refine A3 q9 ?_
 refine A3 (j2 hr0 hg0) ?_
 refine w9 (A5 [] hca) q9 ?_
 refine A3 q9 ?_
 refine w7 (A4 [] htv) q9 ?_
 refine A3 (j2 hr1 hg1) ?_
 exact Ad (A6 []) Tryz.results62
theorem ZC {p a b:PT}(ho:p.d.op=6) (hk:p.kids=[a,b]) (a2:a.d.op=2) (b2:b.d.op=2) {v u:V}(hv:v.right) (hu:u.right) (hav:a.d.val=v.enc) (hbv:b.d.val=u.enc):AC Tryz.prog 62 [p.av] [] (Is (DQ (JS p.d.num v u))) []:=by
 have hc:AC Tryz.prog 119 [p.av,.c (.int .i64 2)] [] (.c (.bool true)) []:=D5 (p:=p) (k:=2) (b:=true) (by rw[hk];simp) (by rw[hk];simp) (by rw[hk];simp[a2,b2])
 have hca:=BC a hv hav
 have hcb:=BC b hu hbv
 have hop:=Xc p.d.num hv hu
 have hok:CH (JS p.d.num v u):=Qt _ hv hu
 have hf:=H1 hok
 have hr0:A9 (p.kids.map PT.cs) 7 0=true:=(Ae hk (k:=0) (a:=a) rfl).1
 have hg0:=(Ae hk (k:=0) (a:=a) rfl).2
 have hr1:A9 (p.kids.map PT.cs) 7 1=true:=(Ae hk (k:=1) (a:=b) rfl).1
 have hg1:=(Ae hk (k:=1) (a:=b) rfl).2
 have h6:=EJ (p:=p) (op:=6) (by omega)
 have h7:=Bt (p:=p) (op:=7) (by omega)
 have h12:=Bt (p:=p) (op:=12) (by omega)
 have h11:=Bt (p:=p) (op:=11) (by omega)
 have h10:=Bt (p:=p) (op:=10) (by omega)
 obtain⟨rc,rw,hrw⟩:=Gn (JS p.d.num v u)
 obtain⟨q,b',hqb⟩:∃q b',DQ (JS p.d.num v u)=(q,b'):=⟨_,_,rfl⟩
 rw[hrw]at hop hf
 rw[hqb]at hf ⊢
 replace hf:AC Tryz.prog 120 [Dh rc rw] [] (.tup [q.av,.c (.bool b')]) []:=hf
 show AC _ _ _ _ (.tup [q.av,.c (.bool b')]) _
 clear hrw hqb hok
 unfold Dh at hf hop
 unfold V.av at *
 unfold PT.av at *
 generalize a.d=da at *
 generalize a.kids.map PT.cs=Pa at *
 generalize b.d=db at *
 generalize b.kids.map PT.cs=Pb at *
 generalize q.d=dq at *
 generalize q.kids.map PT.cs=Pq at *
 generalize p.d=d at *
 generalize p.kids.map PT.cs=P at *
 refine A7 Tryz.func62 Tryz.ntmps62 ?_
 refine A3 q9 ?_
 refine w7 (A4 [] h6) q9 ?_
 refine A3 q9 ?_
 refine w7 (A4 [] hc) q9 ?_
 refine A3 q9 ?_
 refine A3 (j2 hr0 hg0) ?_
 refine w9 (A5 [] hca) q9 ?_
 refine A3 (j2 hr1 hg1) ?_
 refine w9 (A5 [] hcb) q9 ?_
 refine A3 q9 ?_
 refine w9 (A5 [] hop) q9 ?_
 refine A3 q9 ?_
 refine w9 (A5 [] hf) q9 ?_
 refine A3 q9 ?_
 exact Ad (A6 []) Tryz.results62
theorem ZD {p a b:PT}(ho:p.d.op=7) (hk:p.kids=[a,b]) (a2:a.d.op=2) (b2:b.d.op=2) {v u:V}(hv:v.right) (hu:u.right) (hav:a.d.val=v.enc) (hbv:b.d.val=u.enc):AC Tryz.prog 62 [p.av] [] (Is (DQ (CB v u))) []:=by
 have hc:AC Tryz.prog 119 [p.av,.c (.int .i64 2)] [] (.c (.bool true)) []:=D5 (p:=p) (k:=2) (b:=true) (by rw[hk];simp) (by rw[hk];simp) (by rw[hk];simp[a2,b2])
 have hca:=BC a hv hav
 have hcb:=BC b hu hbv
 have hop:=ZG hv hu
 have hok:CH (CB v u):=KU hv _
 have hf:=H1 hok
 have hr0:A9 (p.kids.map PT.cs) 7 0=true:=(Ae hk (k:=0) (a:=a) rfl).1
 have hg0:=(Ae hk (k:=0) (a:=a) rfl).2
 have hr1:A9 (p.kids.map PT.cs) 7 1=true:=(Ae hk (k:=1) (a:=b) rfl).1
 have hg1:=(Ae hk (k:=1) (a:=b) rfl).2
 have h6:=Bt (p:=p) (op:=6) (by omega)
 have h7:=EJ (p:=p) (op:=7) (by omega)
 have h12:=Bt (p:=p) (op:=12) (by omega)
 have h11:=Bt (p:=p) (op:=11) (by omega)
 have h10:=Bt (p:=p) (op:=10) (by omega)
 obtain⟨rc,rw,hrw⟩:=Gn (CB v u)
 obtain⟨q,b',hqb⟩:∃q b',DQ (CB v u)=(q,b'):=⟨_,_,rfl⟩
 rw[hrw]at hop hf
 rw[hqb]at hf ⊢
 replace hf:AC Tryz.prog 120 [Dh rc rw] [] (.tup [q.av,.c (.bool b')]) []:=hf
 show AC _ _ _ _ (.tup [q.av,.c (.bool b')]) _
 clear hrw hqb hok
 unfold Dh at hf hop
 unfold V.av at *
 unfold PT.av at *
 generalize a.d=da at *
 generalize a.kids.map PT.cs=Pa at *
 generalize b.d=db at *
 generalize b.kids.map PT.cs=Pb at *
 generalize q.d=dq at *
 generalize q.kids.map PT.cs=Pq at *
 generalize p.d=d at *
 generalize p.kids.map PT.cs=P at *
 refine A7 Tryz.func62 Tryz.ntmps62 ?_
 refine A3 q9 ?_
 refine w7 (A4 [] h6) q9 ?_
 refine A3 q9 ?_
 refine w7 (A4 [] h7) q9 ?_
 refine A3 q9 ?_
 refine w7 (A4 [] hc) q9 ?_
 refine A3 q9 ?_
 refine A3 (j2 hr0 hg0) ?_
 refine w9 (A5 [] hca) q9 ?_
 refine A3 (j2 hr1 hg1) ?_
 refine w9 (A5 [] hcb) q9 ?_
 refine A3 q9 ?_
 refine w9 (A5 [] hop) q9 ?_
 refine A3 q9 ?_
 refine w9 (A5 [] hf) q9 ?_
 refine A3 q9 ?_
 exact Ad (A6 []) Tryz.results62
theorem Xy {p a b:PT}(ho:p.d.op=11) (hk:p.kids=[a,b]) (a2:a.d.op=2) (b2:b.d.op=2) {v u:V}(hv:v.right) (hu:u.right) (hav:a.d.val=v.enc) (hbv:b.d.val=u.enc) {k:V}(hkr:k.right) (hpv:p.d.val=k.enc) (hkt:Bl k.text=true):AC Tryz.prog 62 [p.av] [] (Is (DQ (DD v k.text u))) []:=by
 have hc:AC Tryz.prog 119 [p.av,.c (.int .i64 2)] [] (.c (.bool true)) []:=D5 (p:=p) (k:=2) (b:=true) (by rw[hk];simp) (by rw[hk];simp) (by rw[hk];simp[a2,b2])
 have hca:=BC a hv hav
 have hcb:=BC b hu hbv
 have hop:=YM hv hu k.text hkt
 have hck:=BC p hkr hpv
 have hok:CH (DD v k.text u):=Jk hv hu hkt
 have hf:=H1 hok
 have hr0:A9 (p.kids.map PT.cs) 7 0=true:=(Ae hk (k:=0) (a:=a) rfl).1
 have hg0:=(Ae hk (k:=0) (a:=a) rfl).2
 have hr1:A9 (p.kids.map PT.cs) 7 1=true:=(Ae hk (k:=1) (a:=b) rfl).1
 have hg1:=(Ae hk (k:=1) (a:=b) rfl).2
 have h6:=Bt (p:=p) (op:=6) (by omega)
 have h7:=Bt (p:=p) (op:=7) (by omega)
 have h12:=Bt (p:=p) (op:=12) (by omega)
 have h11:=EJ (p:=p) (op:=11) (by omega)
 have h10:=Bt (p:=p) (op:=10) (by omega)
 obtain⟨rc,rw,hrw⟩:=Gn (DD v k.text u)
 obtain⟨q,b',hqb⟩:∃q b',DQ (DD v k.text u)=(q,b'):=⟨_,_,rfl⟩
 rw[hrw]at hop hf
 rw[hqb]at hf ⊢
 replace hf:AC Tryz.prog 120 [Dh rc rw] [] (.tup [q.av,.c (.bool b')]) []:=hf
 show AC _ _ _ _ (.tup [q.av,.c (.bool b')]) _
 clear hrw hqb hok
 unfold Dh at hf hop
 unfold V.av at *
 unfold PT.av at *
 generalize a.d=da at *
 generalize a.kids.map PT.cs=Pa at *
 generalize b.d=db at *
 generalize b.kids.map PT.cs=Pb at *
 generalize q.d=dq at *
 generalize q.kids.map PT.cs=Pq at *
 generalize p.d=d at *
 generalize p.kids.map PT.cs=P at *
 refine A7 Tryz.func62 Tryz.ntmps62 ?_
 refine A3 q9 ?_
 refine w7 (A4 [] h6) q9 ?_
 refine A3 q9 ?_
 refine w7 (A4 [] h7) q9 ?_
 refine A3 q9 ?_
 refine w7 (A4 [] h12) q9 ?_
 refine A3 q9 ?_
 refine w7 (A4 [] h11) q9 ?_
 refine A3 q9 ?_
 refine w7 (A4 [] hc) q9 ?_
 refine A3 q9 ?_
 refine A3 (j2 hr0 hg0) ?_
 refine w9 (A5 [] hca) q9 ?_
 refine A3 q9 ?_
 refine w9 (A5 [] hck) q9 ?_
 refine A3 (j2 hr1 hg1) ?_
 refine w9 (A5 [] hcb) q9 ?_
 refine A3 q9 ?_
 refine w9 (A5 [] hop) q9 ?_
 refine A3 q9 ?_
 refine w9 (A5 [] hf) q9 ?_
 refine A3 q9 ?_
 exact Ad (A6 []) Tryz.results62
theorem Zy {p a:PT}(ho:p.d.op=10) (hk:p.kids=[a]) (a2:a.d.op=2) {v:V}(hv:v.right) (hav:a.d.val=v.enc):AC Tryz.prog 62 [p.av] [] (Is (DQ (Cw (AZ [v])))) []:=by
 have hc:AC Tryz.prog 119 [p.av,.c (.int .i64 1)] [] (.c (.bool true)) []:=D5 (p:=p) (k:=1) (b:=true) (by rw[hk];simp) (by rw[hk];simp) (by rw[hk];simp[a2])
 have hca:=BC a hv hav
 have hfit:(AZ [v]).fit:=J3 fun x hx=>by rw[List.mem_singleton.1 hx];exact Cu hv
 have hcnt:(AZ [v]).count≤500000:=by
  have:=hv.2.1
  show Aw [v]+1≤500000
  simp only[Aw]
  omega
 have har:=EL [v]
 have hop:=EA hfit hcnt
 have hok:CH (Cw (AZ [v])):=Et hfit
 have hf:=H1 hok
 have hr0:A9 (p.kids.map PT.cs) 7 0=true:=(Ae hk (k:=0) (a:=a) rfl).1
 have hg0:=(Ae hk (k:=0) (a:=a) rfl).2
 have h6:=Bt (p:=p) (op:=6) (by omega)
 have h7:=Bt (p:=p) (op:=7) (by omega)
 have h12:=Bt (p:=p) (op:=12) (by omega)
 have h11:=Bt (p:=p) (op:=11) (by omega)
 have h10:=EJ (p:=p) (op:=10) (by omega)
 obtain⟨rc,rw,hrw⟩:=Gn (Cw (AZ [v]))
 obtain⟨q,b',hqb⟩:∃q b',DQ (Cw (AZ [v]))=(q,b'):=⟨_,_,rfl⟩
 rw[hrw]at hop hf
 rw[hqb]at hf ⊢
 replace hf:AC Tryz.prog 120 [Dh rc rw] [] (.tup [q.av,.c (.bool b')]) []:=hf
 show AC _ _ _ _ (.tup [q.av,.c (.bool b')]) _
 clear hrw hqb hok
 unfold Dh at hf hop
 clear hfit hcnt
 rw[Qq]at har hop
 have hrow:[v].map V.cs=[[.int .i64 v.kind,.int .i64 v.num,.str v.text,.sl (v.keys.map Ag),.sl (v.kids.map V.cs)]]:=by rw[List.map_cons,V.cs_eq,List.map_nil]
 unfold WY at har
 rw[hrow]at har hop
 unfold V.av at *
 unfold PT.av at *
 generalize a.d=da at *
 generalize a.kids.map PT.cs=Pa at *
 generalize q.d=dq at *
 generalize q.kids.map PT.cs=Pq at *
 generalize p.d=d at *
 generalize p.kids.map PT.cs=P at *
 refine A7 Tryz.func62 Tryz.ntmps62 ?_
 refine A3 q9 ?_
 refine w7 (A4 [] h6) q9 ?_
 refine A3 q9 ?_
 refine w7 (A4 [] h7) q9 ?_
 refine A3 q9 ?_
 refine w7 (A4 [] h12) q9 ?_
 refine A3 q9 ?_
 refine w7 (A4 [] h11) q9 ?_
 refine A3 q9 ?_
 refine w7 (A4 [] h10) q9 ?_
 refine A3 q9 ?_
 refine w7 (A4 [] hc) q9 ?_
 refine A3 q9 ?_
 refine A3 (j2 hr0 hg0) ?_
 refine w9 (A5 [] hca) q9 ?_
 refine A3 q9 ?_
 refine w9 (A5 [(106,0)] har) q9 ?_
 refine A3 q9 ?_
 refine w9 (A5 [] hop) q9 ?_
 refine A3 q9 ?_
 refine w9 (A5 [] hf) q9 ?_
 refine A3 q9 ?_
 exact Ad (A6 []) Tryz.results62
end
end Go.Proofs.YtcejfdfmgmcinaaGreat
