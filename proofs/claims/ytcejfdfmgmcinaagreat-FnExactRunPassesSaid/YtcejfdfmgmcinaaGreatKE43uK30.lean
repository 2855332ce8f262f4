/- Texts of this proof: E43 K29 K30. -/
import Derived.Test.YtcejfdfmgmcinaaGreatKG1AuE41
set_option linter.all false
set_option maxHeartbeats 8000000
namespace Go.Proofs.YtcejfdfmgmcinaaGreat
section
open Go.RowKit
section
variable {P:Program} {o:Oper} {σ:ASt}
theorem RelAt.newBsl {Γ:Ctx}{a:Act}{w:World}{ow:Nat→Option Id}{κ:Id→Value}(h:RelAt Γ σ a w ow κ) {fr:Id}(hf:σ.mem.get fr=none) {cells:List AV}{vs:List Value}(hv:ARs w (Γ.sees ow) σ.mem κ cells vs) (h1:∀u∈vs,u.oneCell'=true) (T:TypeId) (k:Nat) (dst:Option Tmp) :
  ∃ow' κ',RelAt Γ (σ.upd dst ⟨[],[(fr,.box cells)],.bsl fr k⟩) (a.put dst (.slice (some ⟨w.heap.size,0,none⟩) k k)) (w.alloc (.cells vs.toArray T)) ow' κ':=by
 have st:Step σ.mem [(fr,.box cells)] w ow κ (w.alloc (.cells vs.toArray T)) (DK ow [] fr (some w.heap.size)) (Dg κ fr (.pointer (some ⟨w.heap.size,0,none⟩))) :=
  Step.make (ks:=[]) rfl rfl rfl (by simp) hf (by simp) rfl (fun b hb _=>Below.heap_alloc w _ b hb) (fun b hb=>by cases hb;exact⟨by simp,.inl (Nat.le_refl _)⟩) h.owns
 refine⟨_,_,h.step (E:=⟨[],[(fr,.box cells)],.bsl fr k⟩) st ⟨rfl,.box cells,?_,fun _=>⟨w.heap.size,by simp[Dg],rfl⟩⟩ (fun i hi o ho=>?_) dst⟩
 ·exact Cy (ks:=[]) (by simp)
 ·have hi':i=fr:=by simpa using hi
  subst hi'
  cases (Cy (m:=σ.mem) (ks:=[]) (fr:=i) (obj:=.box cells) (by simp)).symm.trans ho
  exact⟨w.heap.size,vs,T,by simp[Dg],by simp[DK],heap_alloc_new w _,ARs.keep (by simp) (st.sees (Γ:=Γ)) st.mem hv,h1⟩
theorem ARs.ones {w:World}{S:Nat→Prop}{m:Mem}{κ:Id→Value}:∀{xs:List AV}{vs:List Value},ARs w S m κ xs vs→xs.all AV.isCell=true→∀u∈vs,u.oneCell'=true
 | [],vs,h,_=>by simp only[ARs]at h;simp[h]
 |x::xs,vs,h,hx=>by
  simp only[ARs]at h
  obtain⟨v,vs',rfl,h1,h2⟩:=h
  simp only[List.all_cons,Bool.and_eq_true]at hx
  intro u hu
  rcases List.mem_cons.1 hu with rfl | hu
  ·exact AR.one hx.1 h1
  ·exact ARs.ones h2 hx.2 u hu
theorem a25 {ty e:TypeId}{len s b by':Nat}{z:Option Value}{zv:Value}{ti:TI}{parts:Array (Nat×Operand)}{fr:Id}(ho:o.op=.buildSlice ty len parts) (hf:σ.mem.get fr=none) (ht:tin P ty=some ⟨.sl e,s,b,z⟩) (ht':tin P e=some ⟨ti,1,by',some zv⟩)
  (c1:parts.toList.map (·.1)=List.range len) (c2:len≤1000) (c3:(parts.toList.map fun p=>σ.ev p.2).all AV.isCell=true):AB P o σ ⟨[],[(fr,.box (parts.toList.map fun p=>σ.ev p.2))],.bsl fr len⟩:=by
 intro Γ σ' a w ow κ hag hr
 have hpl:parts.toList.length=len:=by have:=congrArg List.length c1;simpa using this
 have hars:ARs w (Γ.sees ow) σ'.mem κ (parts.toList.map fun p=>σ.ev p.2) (parts.toList.map fun p=>a.eval p.2):=by
  have:=ARs.map_ev (σ:=σ) hr (parts.toList.map (·.2)) fun x hx=>hag.1 x (by rw[ho];simpa [Op.operands] using hx)
  simp only[List.map_map]at this
  exact this
 have h1:=hars.ones c3
 obtain⟨ow',κ',hr'⟩:=hr.newBsl (by rw[hag.2.2 fr (by simp),hf]) hars h1 e len o.dst
 refine⟨.slice (some ⟨w.heap.size,0,none⟩) len len,_,ow',κ',.inl ?_,hr'⟩
 unfold execOp
 rw[ho]
 have hsz:¬(2 ^ 24<len*1):=by omega
 have hp1:(parts.toList.map fun p=>(p.1,a.eval p.2)).map (·.1)=List.range' 0 (parts.toList.map fun p=>(p.1,a.eval p.2)).length:=by
  rw[List.map_map,List.length_map,hpl,←List.range_eq_range',←c1];rfl
 have hp2:(parts.toList.map fun p=>(p.1,a.eval p.2)).map (fun p=>p.2.cells)=(parts.toList.map fun p=>[a.eval p.2]).map List.toArray:=by
  rw[List.map_map,List.map_map]
  refine List.map_congr_left fun p hp=>?_
  exact Value.cells_one (h1 _ (List.mem_map.2 ⟨p,hp,rfl⟩))
 have hfl:(parts.toList.map fun p=>[a.eval p.2]).flatten=parts.toList.map fun p=>a.eval p.2:=by
  induction parts.toList with
  |nil=>rfl
  |cons p l ih=>simp[ih]
 have hfill:∀(cells:List Value),cells.length=len*1→_:=fun cells hl=>NB (size:=1) (parts.toList.map fun p=>(p.1,a.eval p.2)) (parts.toList.map fun p=>[a.eval p.2]) 0 cells hp1 hp2 (fun x hx=>by obtain⟨p,_,rfl⟩:=List.mem_map.1 hx;rfl) (by rw[hl,List.length_map,hpl,Nat.zero_add])
 simp only[Nat.zero_mul,List.take_zero,List.nil_append,hfl]at hfill
 have hfill':∀(zc:Array Value),Instr.fill (fun i=>some (i*1,1)) ((Array.range (len*1)).map (fun x=>zc[x % zc.size]!)) (parts.toList.map fun p=>(p.1,a.eval p.2))=some (parts.toList.map fun p=>a.eval p.2).toArray:=by
  intro zc
  have:=hfill ((Array.range (len*1)).map (fun x=>zc[x % zc.size]!)).toList (by simp)
  rwa [Array.toArray_toList]at this
 simp only[Instr.buildSlice,Sem.run_bind,run_underlying (GW ht),Result.andThen_ok,Dv ht',gt_iff_lt,hsz,if_false,Sem.run_ite,Array.toList_map]
 simp only[hfill']
 by_cases hz0:len*1=0
 ·simp only[hz0,if_true,newRow,Sem.run_pure,Result.andThen_ok,Sem.run_bind,run_newObj,World.alloc_eq]
 ·simp only[hz0,if_false,Gt ht',newRow,Sem.run_pure,Result.andThen_ok,Sem.run_bind,run_newObj,World.alloc_eq]
theorem YZ {ty e:TypeId}{y z:Operand}{s b by' len:Nat}{zz z':Option Value}{ti:TI}{k:IntKind}{n:Int}{j:Id}{cells:List AV}(ho:o.op=.indexAddr ty y z) (hy:σ.ev y=.bsl j len) (hz:σ.ev z=.c (.int k n)) (ht:tin P ty=some ⟨.sl e,s,b,zz⟩) (ht':tin P e=some ⟨ti,1,by',z'⟩)
  (hm:σ.mem.get j=some (.box cells)) (hn:0≤n∧n.toNat<len):AB P o σ ⟨[j],[],.ptr j n.toNat⟩:=by
 refine AB.pure fun Γ σ' a w ow κ hag hr=>?_
 have e2:σ'.mem.get j=some (.box cells):=by rw[hag.2.1 j (by simp),hm]
 have hzo:z∈o.op.operands:=by rw[ho];simp[Op.operands]
 have hyo:y∈o.op.operands:=by rw[ho];simp[Op.operands]
 obtain⟨_,o1,k1,k2⟩:=hag.ev hr hyo hy
 rw[e2]at k1
 cases k1
 obtain⟨bb,q1,q2⟩:=k2 rfl
 have k6:=(hag.ev hr hzo hz).int
 refine⟨.pointer (some ⟨bb,n.toNat,none⟩),?_,rfl,_,e2,fun _=>⟨bb,q1,rfl⟩⟩
 unfold execOp
 rw[ho]
 have h5:n<(len:Int):=by omega
 have hu:=GW ht
 simp[Instr.indexAt,q2,k6,asIntOf,run_underlying hu,hn.1,h5,Dv ht',Addr.add_mid]
section
variable {d:Option Tmp} {ops:Array Oper} {r':List Oper} {τ:ASt} {fs:List AEff} {K:ASt→List AEff→Prop} {E:AEff} {ty':TypeId} {pos:String} {af:Array Edge} {gd:Option (Nat×Bool)}
theorem VJ {ty e:TypeId}{len s b by':Nat}{z:Option Value}{zv:Value}{ti:TI}{parts:Array (Nat×Operand)}(hg:CJ ops σ ⟨d,.buildSlice ty len parts,ty',pos,af,gd⟩=some true) (ht:tin P ty=some ⟨.sl e,s,b,z⟩) (ht':tin P e=some ⟨ti,1,by',some zv⟩)
  (c1:parts.toList.map (·.1)=List.range len) (c2:len≤1000) (c3:(parts.toList.map fun p=>σ.ev p.2).all AV.isCell=true) (hf:σ.mem.get (σ.fresh ⟨d,.buildSlice ty len parts,ty',pos,af,gd⟩)=none)
  (he:(⟨[],[(σ.fresh ⟨d,.buildSlice ty len parts,ty',pos,af,gd⟩,.box (parts.toList.map fun p=>σ.ev p.2))],.bsl (σ.fresh ⟨d,.buildSlice ty len parts,ty',pos,af,gd⟩) len⟩:AEff)=E) (hτ:σ.upd d E=τ) (h:Ay P ops r' τ (fs++[E]) K):Ay P ops (⟨d,.buildSlice ty len parts,ty',pos,af,gd⟩::r') σ fs K:=by
 subst he
 exact Od hg (a25 rfl hf ht ht' c1 c2 c3).sound hτ h
theorem Oc {ty e:TypeId}{y z:Operand}{s b by' len:Nat}{zz z':Option Value}{ti:TI}{k:IntKind}{n:Int}{j:Id}{cells:List AV}(hg:CJ ops σ ⟨d,.indexAddr ty y z,ty',pos,af,gd⟩=some true) (hy:σ.ev y=.bsl j len) (hz:σ.ev z=.c (.int k n)) (ht:tin P ty=some ⟨.sl e,s,b,zz⟩) (ht':tin P e=some ⟨ti,1,by',z'⟩)
  (hm:σ.mem.get j=some (.box cells)) (hn:0≤n∧n.toNat<len) (he:(⟨[j],[],.ptr j n.toNat⟩:AEff)=E) (hτ:σ.upd d E=τ) (h:Ay P ops r' τ (fs++[E]) K):Ay P ops (⟨d,.indexAddr ty y z,ty',pos,af,gd⟩::r') σ fs K:=by
 subst he
 exact Od hg (YZ rfl hy hz ht ht' hm hn).sound hτ h
end
end
end
section
open Go.RowKit
set_option maxRecDepth 10000
def DN (r:Int×Option V):PT×Bool:=match r.2 with
 |some v=>(EK v,true)
 |none=>(DA,false)
def Iy (r:PT×Bool):AV:=.tup [r.1.av,.c (.bool r.2)]
theorem CN:DA.av=.agg [.c (.int .i64 0),.c (.int .i64 0),.c (.int .i64 0),.c (.int .i64 0),.c (.int .i64 0),.c (.sl []),.c (.sl [])]:=rfl
theorem H7 {r:Int×Option V}(hr:CH r):AC Tryz.prog 120 [EF r] [] (Iy (DN r)) []:=by
 obtain⟨c,o⟩:=r
 cases o with
 |some v =>
  obtain⟨rfl,hv⟩:=hr
  have hc:=Ir hv
  have h00:((0:Int) != 0)=false:=rfl
  show AC _ _ [D7 0 v] _ (.tup [(EK v).av,.c (.bool true)]) _
  rw[HK]at hc ⊢
  unfold D7
  generalize v.enc=W at *
  refine A6 Tryz.func120 Tryz.ntmps120 h00 ?_
  refine v9 (A4 [] hc) q9 q9 ?_
  exact Ag (A5 []) Tryz.results120
 |none =>
  have hc:(c != 0)=true:=by
   have:c≠0:=hr
   simpa using this
  show AC _ _ [D7 c BD] _ (.tup [DA.av,.c (.bool false)]) _
  rw[LV,CN]
  refine A6 Tryz.func120 Tryz.ntmps120 hc ?_
  exact Ag (A5 []) Tryz.results120
def MK (o:Option CT) (q:PT) (b:Bool):Prop:=(b=true∧q.fine∧o=some q.ct)∨(b=false∧o=none)
theorem K4 (v:V):(EK v).ct=AH v:=by unfold EK;rw[PT.ct,ctL];rfl
theorem KL {v:V}(h:v.right):(EK v).fine:=by
 refine⟨by rw[K4];exact Ni h,?_⟩
 unfold EK PT.zero MJ
 exact⟨fun _=>rfl,fun _=>rfl,fun _=>rfl,trivial⟩
theorem Fs {r:Int×Option V}(hr:CH r):MK (ET r) (DN r).1 (DN r).2:=by
 obtain⟨c,o⟩:=r
 cases o with
 |some v =>
  obtain⟨rfl,hv⟩:=hr
  exact .inl ⟨rfl,KL hv,by rw[show (DN (0,some v)).1=EK v from rfl,K4];rfl⟩
 |none=>exact .inr ⟨rfl,rfl⟩
theorem F8 {p:PT}(h:p.fine) (h2:p.d.op=2):∃v:V,v.right∧p.d.val=v.enc∧vOf p.ct.val=v:=by
 have h1:=p.ct.op
 have hc:p.ct.op=2:=by cases p;exact h2
 obtain⟨v,hv,e1,e2,_⟩:=De h.1 hc
 refine⟨v,hv,?_,e2⟩
 cases p
 exact e1
theorem Ga (p:PT):p.ct.op=p.d.op:=by cases p;rfl
theorem a4b (p:PT):p.ct.num=p.d.num:=by cases p;rfl
theorem EE {p:PT}{op:Int}(h:p.d.op=op):AC Tryz.prog 118 [p.av,.c (.int .i64 op)] [] (.c (.bool true)) []:=by
 have:=B1 p op
 rwa [GZ h]at this
theorem Br {p:PT}{op:Int}(h:p.d.op≠op):AC Tryz.prog 118 [p.av,.c (.int .i64 op)] [] (.c (.bool false)) []:=by
 have:=B1 p op
 rwa [Ed h]at this
theorem Af {p:PT}{l:List PT}(hk:p.kids=l) {k:Nat}{a:PT}(ha:l[k]? = some a):A8 (p.kids.map PT.cs) 7 k=true∧(p.kids.map PT.cs)[k]? = some [.int .i64 a.d.op,.int .i64 a.d.a,.int .i64 a.d.b,.int .i64 a.d.c,.int .i64 a.d.num,.sl (a.d.val.map CellD.cs),.sl (a.kids.map PT.cs)]:=by
 subst hk
 obtain⟨h,e⟩:=List.getElem?_eq_some_iff.1 ha
 subst e
 exact VU _ h
theorem Wq {p a:PT}(h9:p.d.op=9) (ha:p.kids=[a]) (hb:[2,1,15,17,9].contains a.d.op=true):AC Tryz.prog 75 [p.av] [] (Iy (a,true)) []:=by
 have hI:=EE h9
 have hC:AC Tryz.prog 140 [.c (.sl [[.int .i64 2],[.int .i64 1],[.int .i64 15],[.int .i64 17],[.int .i64 9]]),.c (.int .i64 a.d.op)] [] (.c (.bool ([2,1,15,17,9].contains a.d.op))) []:=IF [2,1,15,17,9] a.d.op (by decide)
 rw[hb]at hC
 have hr0:A8 (p.kids.map PT.cs) 7 0=true:=(Af ha (k:=0) (a:=a) rfl).1
 have hg0:=(Af ha (k:=0) (a:=a) rfl).2
 show AC _ _ _ _ (.tup [a.av,.c (.bool true)]) _
 unfold PT.av at *
 generalize a.d=da,a.kids.map PT.cs=Pa,p.d=d,p.kids.map PT.cs=P at *
 refine A6 Tryz.func75 Tryz.ntmps75 q9 ?_
 refine v7 (A3 [] hI) q9 (j2 hr0 hg0) ?_
 refine v7 (A3 [(8,0)] hC) q9 (j2 hr0 hg0) ?_
 exact Ag (A5 []) Tryz.results75
theorem Zr {p a:PT}(h9:p.d.op=9) (ha:p.kids=[a]) (hb:[2,1,15,17,9].contains a.d.op=false):AC Tryz.prog 75 [p.av] [] (.tup [DA.av,.c (.bool false)]) []:=by
 have hI:=EE h9
 have hC:AC Tryz.prog 140 [.c (.sl [[.int .i64 2],[.int .i64 1],[.int .i64 15],[.int .i64 17],[.int .i64 9]]),.c (.int .i64 a.d.op)] [] (.c (.bool ([2,1,15,17,9].contains a.d.op))) []:=IF [2,1,15,17,9] a.d.op (by decide)
 rw[hb]at hC
 have hr0:A8 (p.kids.map PT.cs) 7 0=true:=(Af ha (k:=0) (a:=a) rfl).1
 have hg0:=(Af ha (k:=0) (a:=a) rfl).2
 rw[CN]
 unfold PT.av at *
 generalize a.d=da,a.kids.map PT.cs=Pa,p.d=d,p.kids.map PT.cs=P at *
 refine A6 Tryz.func75 Tryz.ntmps75 q9 ?_
 refine v7 (A3 [] hI) q9 (j2 hr0 hg0) ?_
 refine v7 (A3 [(8,0)] hC) q9 q9 ?_
 exact Ag (A5 []) Tryz.results75
theorem Wp {p:PT}(h9:p.d.op≠9):AC Tryz.prog 75 [p.av] [] (.tup [DA.av,.c (.bool false)]) []:=by
 have hI:=Br h9
 rw[CN]
 unfold PT.av at *
 generalize p.d=d,p.kids.map PT.cs=P at *
 refine A6 Tryz.func75 Tryz.ntmps75 q9 ?_
 refine v7 (A3 [] hI) q9 q9 ?_
 exact Ag (A5 []) Tryz.results75
theorem Zq {p:PT}(h:p.fine):∃q b,MK (Lv p.d.op (ctL p.kids)) q b∧AC Tryz.prog 75 [p.av] [] (Iy (q,b)) []:=by
 by_cases h9:p.d.op=9
 ·have hl:=PT.fine_len h
  rw[h9]at hl
  obtain⟨a,ha⟩:∃a,p.kids=[a]:=List.length_eq_one_iff.1 hl
  have hfa:a.fine:=PT.fine_kid h (by rw[ha];simp)
  have hct:Lv p.d.op (ctL p.kids)=if a.d.op=2∨a.d.op=1∨a.d.op=15∨a.d.op=17∨a.d.op=9 then some a.ct else none:=by
   rw[ha,ctL,ctL,h9]
   unfold Lv
   dsimp only
   rw[Ga]
   simp only[true_and]
  have hcon:[2,1,15,17,9].contains a.d.op=true↔(a.d.op=2∨a.d.op=1∨a.d.op=15∨a.d.op=17∨a.d.op=9):=by
   rw[List.contains_iff_mem]
   simp
  rw[hct]
  cases hb:[2,1,15,17,9].contains a.d.op with
  |true=>exact⟨a,true,.inl ⟨rfl,hfa,if_pos (hcon.1 hb)⟩,Wq h9 ha hb⟩
  |false=>exact⟨DA,false,.inr ⟨rfl,if_neg (fun h=>by rw[hcon.2 h]at hb;cases hb)⟩,Zr h9 ha hb⟩
 ·refine⟨DA,false,.inr ⟨rfl,?_⟩,Wp h9⟩
  unfold Lv
  split
  ·rw[if_neg (fun hh=>h9 hh.1)]
  ·rfl
set_option maxRecDepth 10000
theorem CU {p:PT}{k:Nat}(hk:k≤p.kids.length) (hl:p.kids.length≤3) {b:Bool}(hb:((p.kids.take k).all fun x=>x.d.op==2)=b):AC Tryz.prog 119 [p.av,.c (.int .i64 k)] [] (.c (.bool b)) []:=by
 have:=OW p hk (by omega)
 rwa [hb]at this
theorem PE {p:PT}(h:p.fine):p.kids.length≤3:=by rw[PT.fine_len h];exact Bx _
theorem Gr (r:Int×Option V):∃c w,EF r=D7 c w:=by
 obtain⟨c,o⟩:=r
 cases o with
 |some v=>exact⟨0,v,rfl⟩
 |none=>exact⟨c,BD,rfl⟩
def Io (p:PT):Prop:=AC Tryz.prog 62 [p.av] [] (.tup [DA.av,.c (.bool false)]) []
theorem a4l {p:PT}(n6:p.d.op≠6) (n7:p.d.op≠7) (n12:p.d.op≠12) (n11:p.d.op≠11) (n10:p.d.op≠10):Io p:=by
 have h6:=Br n6
 have h7:=Br n7
 have h12:=Br n12
 have h11:=Br n11
 have h10:=Br n10
 unfold Io
 rw[CN]
 unfold PT.av at *
 generalize p.d=d,p.kids.map PT.cs=P at *
 refine A6 Tryz.func62 Tryz.ntmps62 q9 ?_
 refine v7 (A3 [] h6) q9 q9 ?_
 refine v7 (A3 [] h7) q9 q9 ?_
 refine v7 (A3 [] h12) q9 q9 ?_
 refine v7 (A3 [] h11) q9 q9 ?_
 refine v7 (A3 [] h10) q9 q9 ?_
 refine v7 (A3 [] h10) q9 q9 ?_
 exact Ag (A5 []) Tryz.results62
theorem d7 {p:PT}(ho:p.d.op=6) (hl:p.kids.length≤3) (hk:2≤p.kids.length) (hn:((p.kids.take 2).all fun x=>x.d.op==2)=false):Io p:=by
 have hc:AC Tryz.prog 119 [p.av,.c (.int .i64 2)] [] (.c (.bool false)) []:=CU (k:=2) hk hl hn
 have h6:=EE (p:=p) (op:=6) (by omega)
 have h7:=Br (p:=p) (op:=7) (by omega)
 have h12:=Br (p:=p) (op:=12) (by omega)
 have h11:=Br (p:=p) (op:=11) (by omega)
 have h10:=Br (p:=p) (op:=10) (by omega)
 unfold Io
 rw[CN]
 unfold PT.av at *
 generalize p.d=d,p.kids.map PT.cs=P at *
 refine A6 Tryz.func62 Tryz.ntmps62 q9 ?_
 refine v7 (A3 [] h6) q9 q9 ?_
 refine v7 (A3 [] hc) q9 q9 ?_
 refine v7 (A3 [] h7) q9 q9 ?_
 refine v7 (A3 [] h12) q9 q9 ?_
 refine v7 (A3 [] h11) q9 q9 ?_
 refine v7 (A3 [] h10) q9 q9 ?_
 refine v7 (A3 [] h10) q9 q9 ?_
 exact Ag (A5 []) Tryz.results62
theorem d8 {p:PT}(ho:p.d.op=7) (hl:p.kids.length≤3) (hk:2≤p.kids.length) (hn:((p.kids.take 2).all fun x=>x.d.op==2)=false):Io p:=by
 have hc:AC Tryz.prog 119 [p.av,.c (.int .i64 2)] [] (.c (.bool false)) []:=CU (k:=2) hk hl hn
 have h6:=Br (p:=p) (op:=6) (by omega)
 have h7:=EE (p:=p) (op:=7) (by omega)
 have h12:=Br (p:=p) (op:=12) (by omega)
 have h11:=Br (p:=p) (op:=11) (by omega)
 have h10:=Br (p:=p) (op:=10) (by omega)
 unfold Io
 rw[CN]
 unfold PT.av at *
 generalize p.d=d,p.kids.map PT.cs=P at *
 refine A6 Tryz.func62 Tryz.ntmps62 q9 ?_
 refine v7 (A3 [] h6) q9 q9 ?_
 refine v7 (A3 [] h7) q9 q9 ?_
 refine v7 (A3 [] hc) q9 q9 ?_
 refine v7 (A3 [] h12) q9 q9 ?_
 refine v7 (A3 [] h11) q9 q9 ?_
 refine v7 (A3 [] h10) q9 q9 ?_
 refine v7 (A3 [] h10) q9 q9 ?_
 exact Ag (A5 []) Tryz.results62
theorem XN {p:PT}(ho:p.d.op=11) (hl:p.kids.length≤3) (hk:2≤p.kids.length) (hn:((p.kids.take 2).all fun x=>x.d.op==2)=false):Io p:=by
 have hc:AC Tryz.prog 119 [p.av,.c (.int .i64 2)] [] (.c (.bool false)) []:=CU (k:=2) hk hl hn
 have h6:=Br (p:=p) (op:=6) (by omega)
 have h7:=Br (p:=p) (op:=7) (by omega)
 have h12:=Br (p:=p) (op:=12) (by omega)
 have h11:=EE (p:=p) (op:=11) (by omega)
 have h10:=Br (p:=p) (op:=10) (by omega)
 unfold Io
 rw[CN]
 unfold PT.av at *
 generalize p.d=d,p.kids.map PT.cs=P at *
 refine A6 Tryz.func62 Tryz.ntmps62 q9 ?_
 refine v7 (A3 [] h6) q9 q9 ?_
 refine v7 (A3 [] h7) q9 q9 ?_
 refine v7 (A3 [] h12) q9 q9 ?_
 refine v7 (A3 [] h11) q9 q9 ?_
 refine v7 (A3 [] hc) q9 q9 ?_
 refine v7 (A3 [] h10) q9 q9 ?_
 refine v7 (A3 [] h10) q9 q9 ?_
 exact Ag (A5 []) Tryz.results62
theorem XO {p:PT}(ho:p.d.op=12) (hl:p.kids.length≤3) (hk:1≤p.kids.length) (hn:((p.kids.take 1).all fun x=>x.d.op==2)=false):Io p:=by
 have hc:AC Tryz.prog 119 [p.av,.c (.int .i64 1)] [] (.c (.bool false)) []:=CU (k:=1) hk hl hn
 have h6:=Br (p:=p) (op:=6) (by omega)
 have h7:=Br (p:=p) (op:=7) (by omega)
 have h12:=EE (p:=p) (op:=12) (by omega)
 have h11:=Br (p:=p) (op:=11) (by omega)
 have h10:=Br (p:=p) (op:=10) (by omega)
 unfold Io
 rw[CN]
 unfold PT.av at *
 generalize p.d=d,p.kids.map PT.cs=P at *
 refine A6 Tryz.func62 Tryz.ntmps62 q9 ?_
 refine v7 (A3 [] h6) q9 q9 ?_
 refine v7 (A3 [] h7) q9 q9 ?_
 refine v7 (A3 [] h12) q9 q9 ?_
 refine v7 (A3 [] hc) q9 q9 ?_
 refine v7 (A3 [] h11) q9 q9 ?_
 refine v7 (A3 [] h10) q9 q9 ?_
 refine v7 (A3 [] h10) q9 q9 ?_
 exact Ag (A5 []) Tryz.results62
theorem XM {p a:PT}(ho:p.d.op=10) (hk:p.kids=[a]) (n2:a.d.op≠2) (n17:a.d.op≠17):Io p:=by
 have hc:AC Tryz.prog 119 [p.av,.c (.int .i64 1)] [] (.c (.bool false)) []:=CU (p:=p) (k:=1) (b:=false) (by rw[hk];simp) (by rw[hk];simp) (by rw[hk];simp[n2])
 have h17:=Br n17
 have hr0:A8 (p.kids.map PT.cs) 7 0=true:=(Af hk (k:=0) (a:=a) rfl).1
 have hg0:=(Af hk (k:=0) (a:=a) rfl).2
 have h6:=Br (p:=p) (op:=6) (by omega)
 have h7:=Br (p:=p) (op:=7) (by omega)
 have h12:=Br (p:=p) (op:=12) (by omega)
 have h11:=Br (p:=p) (op:=11) (by omega)
 have h10:=EE (p:=p) (op:=10) (by omega)
 unfold Io
 rw[CN]
 unfold PT.av at *
 generalize a.d=da,a.kids.map PT.cs=Pa,p.d=d,p.kids.map PT.cs=P at *
 refine A6 Tryz.func62 Tryz.ntmps62 q9 ?_
 refine v7 (A3 [] h6) q9 q9 ?_
 refine v7 (A3 [] h7) q9 q9 ?_
 refine v7 (A3 [] h12) q9 q9 ?_
 refine v7 (A3 [] h11) q9 q9 ?_
 refine v7 (A3 [] h10) q9 q9 ?_
 refine v7 (A3 [] hc) q9 q9 ?_
 refine v7 (A3 [] h10) q9 (j2 hr0 hg0) ?_
 refine v7 (A3 [] h17) q9 q9 ?_
 exact Ag (A5 []) Tryz.results62
theorem XL {p a:PT}(ho:p.d.op=10) (hk:p.kids=[a]) (e17:a.d.op=17):AC Tryz.prog 62 [p.av] [] (Iy (EK (AY []),true)) []:=by
 have hc:AC Tryz.prog 119 [p.av,.c (.int .i64 1)] [] (.c (.bool false)) []:=CU (p:=p) (k:=1) (b:=false) (by rw[hk];simp) (by rw[hk];simp) (by rw[hk];simp[e17])
 have h17:=EE e17
 have hcp:=Ir LX
 have har:=EH []
 have hr0:A8 (p.kids.map PT.cs) 7 0=true:=(Af hk (k:=0) (a:=a) rfl).1
 have hg0:=(Af hk (k:=0) (a:=a) rfl).2
 have h6:=Br (p:=p) (op:=6) (by omega)
 have h7:=Br (p:=p) (op:=7) (by omega)
 have h12:=Br (p:=p) (op:=12) (by omega)
 have h11:=Br (p:=p) (op:=11) (by omega)
 have h10:=EE (p:=p) (op:=10) (by omega)
 show AC _ _ _ _ (.tup [(EK (AY [])).av,.c (.bool true)]) _
 rw[HK]at hcp ⊢
 rw[Qw]at hcp har
 generalize (AY []).enc=W at *
 unfold PT.av at *
 generalize a.d=da,a.kids.map PT.cs=Pa,p.d=d,p.kids.map PT.cs=P at *
 refine A6 Tryz.func62 Tryz.ntmps62 q9 ?_
 refine v7 (A3 [] h6) q9 q9 ?_
 refine v7 (A3 [] h7) q9 q9 ?_
 refine v7 (A3 [] h12) q9 q9 ?_
 refine v7 (A3 [] h11) q9 q9 ?_
 refine v7 (A3 [] h10) q9 q9 ?_
 refine v7 (A3 [] hc) q9 q9 ?_
 refine v7 (A3 [] h10) q9 (j2 hr0 hg0) ?_
 refine v7 (A3 [] h17) q9 q9 ?_
 refine v7 (A3 [] har) @List.map_nil.{0,0} q9 ?_
 refine v9 (A4 [] hcp) @List.map_nil.{0,0} q9 ?_
 exact Ag (A5 []) Tryz.results62
theorem SI {p a b c:PT}(ho:p.d.op=12) (hk:p.kids=[a,b,c]) (a2:a.d.op=2) {v:V}(hv:v.right) (he:a.d.val=v.enc) (htr:CE v=true):AC Tryz.prog 62 [p.av] [] (Iy (b,true)) []:=by
 have hc:AC Tryz.prog 119 [p.av,.c (.int .i64 1)] [] (.c (.bool true)) []:=CU (p:=p) (k:=1) (b:=true) (by rw[hk];simp) (by rw[hk];simp) (by rw[hk];simp[a2])
 have hca:=BC a hv he
 have htv:=Jv v
 rw[htr]at htv
 have hr0:A8 (p.kids.map PT.cs) 7 0=true:=(Af hk (k:=0) (a:=a) rfl).1
 have hg0:=(Af hk (k:=0) (a:=a) rfl).2
 have hr1:A8 (p.kids.map PT.cs) 7 1=true:=(Af hk (k:=1) (a:=b) rfl).1
 have hg1:=(Af hk (k:=1) (a:=b) rfl).2
 have h6:=Br (p:=p) (op:=6) (by omega)
 have h7:=Br (p:=p) (op:=7) (by omega)
 have h12:=EE (p:=p) (op:=12) (by omega)
 have h11:=Br (p:=p) (op:=11) (by omega)
 have h10:=Br (p:=p) (op:=10) (by omega)
 show AC _ _ _ _ (.tup [b.av,.c (.bool true)]) _
 have hva:∃x,v.av=x:=⟨_,rfl⟩
 unfold V.av at *
 unfold PT.av at *
 generalize a.d=da,a.kids.map PT.cs=Pa,b.d=db,b.kids.map PT.cs=Pb,p.d=d,p.kids.map PT.cs=P at *
 refine A6 Tryz.func62 Tryz.ntmps62 q9 ?_
 refine v7 (A3 [] h6) q9 q9 ?_
 refine v7 (A3 [] h7) q9 q9 ?_
 refine v7 (A3 [] h12) q9 q9 ?_
 refine v7 (A3 [] hc) q9 q9 ?_
 refine Ab (j2 hr0 hg0) ?_
 refine v9 (A4 [] hca) q9 q9 ?_
 refine v7 (A3 [] htv) q9 (j2 hr1 hg1) ?_
 exact Ag (A5 []) Tryz.results62
theorem R8 {p a b c:PT}(ho:p.d.op=12) (hk:p.kids=[a,b,c]) (a2:a.d.op=2) {v:V}(hv:v.right) (he:a.d.val=v.enc) (htr:CE v=false):AC Tryz.prog 62 [p.av] [] (Iy (c,true)) []:=by
 have hc:AC Tryz.prog 119 [p.av,.c (.int .i64 1)] [] (.c (.bool true)) []:=CU (p:=p) (k:=1) (b:=true) (by rw[hk];simp) (by rw[hk];simp) (by rw[hk];simp[a2])
 have hca:=BC a hv he
 have htv:=Jv v
 rw[htr]at htv
 have hr0:A8 (p.kids.map PT.cs) 7 0=true:=(Af hk (k:=0) (a:=a) rfl).1
 have hg0:=(Af hk (k:=0) (a:=a) rfl).2
 have hr1:A8 (p.kids.map PT.cs) 7 2=true:=(Af hk (k:=2) (a:=c) rfl).1
 have hg1:=(Af hk (k:=2) (a:=c) rfl).2
 have h6:=Br (p:=p) (op:=6) (by omega)
 have h7:=Br (p:=p) (op:=7) (by omega)
 have h12:=EE (p:=p) (op:=12) (by omega)
 have h11:=Br (p:=p) (op:=11) (by omega)
 have h10:=Br (p:=p) (op:=10) (by omega)
 show AC _ _ _ _ (.tup [c.av,.c (.bool true)]) _
 have hva:∃x,v.av=x:=⟨_,rfl⟩
 unfold V.av at *
 unfold PT.av at *
 generalize a.d=da,a.kids.map PT.cs=Pa,c.d=dc,c.kids.map PT.cs=Pc,p.d=d,p.kids.map PT.cs=P at *
 refine A6 Tryz.func62 Tryz.ntmps62 q9 ?_
 refine v7 (A3 [] h6) q9 q9 ?_
 refine v7 (A3 [] h7) q9 q9 ?_
 refine v7 (A3 [] h12) q9 q9 ?_
 refine v7 (A3 [] hc) q9 q9 ?_
 refine Ab (j2 hr0 hg0) ?_
 refine v9 (A4 [] hca) q9 q9 ?_
 refine v7 (A3 [] htv) q9 (j2 hr1 hg1) ?_
 exact Ag (A5 []) Tryz.results62
theorem e7 {p a b:PT}(ho:p.d.op=6) (hk:p.kids=[a,b]) (a2:a.d.op=2) (b2:b.d.op=2) {v u:V}(hv:v.right) (hu:u.right) (hav:a.d.val=v.enc) (hbv:b.d.val=u.enc):AC Tryz.prog 62 [p.av] [] (Iy (DN (JZ p.d.num v u))) []:=by
 have hc:AC Tryz.prog 119 [p.av,.c (.int .i64 2)] [] (.c (.bool true)) []:=CU (p:=p) (k:=2) (b:=true) (by rw[hk];simp) (by rw[hk];simp) (by rw[hk];simp[a2,b2])
 have hca:=BC a hv hav
 have hcb:=BC b hu hbv
 have hop:=Xq p.d.num hv hu
 have hok:CH (JZ p.d.num v u):=Qz _ hv hu
 have hf:=H7 hok
 have hr0:A8 (p.kids.map PT.cs) 7 0=true:=(Af hk (k:=0) (a:=a) rfl).1
 have hg0:=(Af hk (k:=0) (a:=a) rfl).2
 have hr1:A8 (p.kids.map PT.cs) 7 1=true:=(Af hk (k:=1) (a:=b) rfl).1
 have hg1:=(Af hk (k:=1) (a:=b) rfl).2
 have h6:=EE (p:=p) (op:=6) (by omega)
 have h7:=Br (p:=p) (op:=7) (by omega)
 have h12:=Br (p:=p) (op:=12) (by omega)
 have h11:=Br (p:=p) (op:=11) (by omega)
 have h10:=Br (p:=p) (op:=10) (by omega)
 obtain⟨rc,rw,hrw⟩:=Gr (JZ p.d.num v u)
 obtain⟨q,b',hqb⟩:∃q b',DN (JZ p.d.num v u)=(q,b'):=⟨_,_,rfl⟩
 rw[hrw]at hop hf
 rw[hqb]at hf ⊢
 replace hf:AC Tryz.prog 120 [D7 rc rw] [] (.tup [q.av,.c (.bool b')]) []:=hf
 show AC _ _ _ _ (.tup [q.av,.c (.bool b')]) _
 clear hrw hqb hok
 unfold D7 at hf hop
 unfold V.av at *
 unfold PT.av at *
 generalize a.d=da,a.kids.map PT.cs=Pa,b.d=db,b.kids.map PT.cs=Pb,q.d=dq,q.kids.map PT.cs=Pq,p.d=d,p.kids.map PT.cs=P at *
 refine A6 Tryz.func62 Tryz.ntmps62 q9 ?_
 refine v7 (A3 [] h6) q9 q9 ?_
 refine v7 (A3 [] hc) q9 q9 ?_
 refine Ab (j2 hr0 hg0) ?_
 refine v9 (A4 [] hca) q9 (j2 hr1 hg1) ?_
 refine v9 (A4 [] hcb) q9 q9 ?_
 refine v9 (A4 [] hop) q9 q9 ?_
 refine v9 (A4 [] hf) q9 q9 ?_
 exact Ag (A5 []) Tryz.results62
theorem e8 {p a b:PT}(ho:p.d.op=7) (hk:p.kids=[a,b]) (a2:a.d.op=2) (b2:b.d.op=2) {v u:V}(hv:v.right) (hu:u.right) (hav:a.d.val=v.enc) (hbv:b.d.val=u.enc):AC Tryz.prog 62 [p.av] [] (Iy (DN (Cu v u))) []:=by
 have hc:AC Tryz.prog 119 [p.av,.c (.int .i64 2)] [] (.c (.bool true)) []:=CU (p:=p) (k:=2) (b:=true) (by rw[hk];simp) (by rw[hk];simp) (by rw[hk];simp[a2,b2])
 have hca:=BC a hv hav
 have hcb:=BC b hu hbv
 have hop:=i7 hv hu
 have hok:CH (Cu v u):=L4 hv _
 have hf:=H7 hok
 have hr0:A8 (p.kids.map PT.cs) 7 0=true:=(Af hk (k:=0) (a:=a) rfl).1
 have hg0:=(Af hk (k:=0) (a:=a) rfl).2
 have hr1:A8 (p.kids.map PT.cs) 7 1=true:=(Af hk (k:=1) (a:=b) rfl).1
 have hg1:=(Af hk (k:=1) (a:=b) rfl).2
 have h6:=Br (p:=p) (op:=6) (by omega)
 have h7:=EE (p:=p) (op:=7) (by omega)
 have h12:=Br (p:=p) (op:=12) (by omega)
 have h11:=Br (p:=p) (op:=11) (by omega)
 have h10:=Br (p:=p) (op:=10) (by omega)
 obtain⟨rc,rw,hrw⟩:=Gr (Cu v u)
 obtain⟨q,b',hqb⟩:∃q b',DN (Cu v u)=(q,b'):=⟨_,_,rfl⟩
 rw[hrw]at hop hf
 rw[hqb]at hf ⊢
 replace hf:AC Tryz.prog 120 [D7 rc rw] [] (.tup [q.av,.c (.bool b')]) []:=hf
 show AC _ _ _ _ (.tup [q.av,.c (.bool b')]) _
 clear hrw hqb hok
 unfold D7 at hf hop
 unfold V.av at *
 unfold PT.av at *
 generalize a.d=da,a.kids.map PT.cs=Pa,b.d=db,b.kids.map PT.cs=Pb,q.d=dq,q.kids.map PT.cs=Pq,p.d=d,p.kids.map PT.cs=P at *
 refine A6 Tryz.func62 Tryz.ntmps62 q9 ?_
 refine v7 (A3 [] h6) q9 q9 ?_
 refine v7 (A3 [] h7) q9 q9 ?_
 refine v7 (A3 [] hc) q9 q9 ?_
 refine Ab (j2 hr0 hg0) ?_
 refine v9 (A4 [] hca) q9 (j2 hr1 hg1) ?_
 refine v9 (A4 [] hcb) q9 q9 ?_
 refine v9 (A4 [] hop) q9 q9 ?_
 refine v9 (A4 [] hf) q9 q9 ?_
 exact Ag (A5 []) Tryz.results62
theorem XP {p a b:PT}(ho:p.d.op=11) (hk:p.kids=[a,b]) (a2:a.d.op=2) (b2:b.d.op=2) {v u:V}(hv:v.right) (hu:u.right) (hav:a.d.val=v.enc) (hbv:b.d.val=u.enc) {k:V}(hkr:k.right) (hpv:p.d.val=k.enc) (hkt:Bi k.text=true):AC Tryz.prog 62 [p.av] [] (Iy (DN (Dw v k.text u))) []:=by
 have hc:AC Tryz.prog 119 [p.av,.c (.int .i64 2)] [] (.c (.bool true)) []:=CU (p:=p) (k:=2) (b:=true) (by rw[hk];simp) (by rw[hk];simp) (by rw[hk];simp[a2,b2])
 have hca:=BC a hv hav
 have hcb:=BC b hu hbv
 have hop:=Z9 hv hu k.text hkt
 have hck:=BC p hkr hpv
 have hok:CH (Dw v k.text u):=Jr hv hu hkt
 have hf:=H7 hok
 have hr0:A8 (p.kids.map PT.cs) 7 0=true:=(Af hk (k:=0) (a:=a) rfl).1
 have hg0:=(Af hk (k:=0) (a:=a) rfl).2
 have hr1:A8 (p.kids.map PT.cs) 7 1=true:=(Af hk (k:=1) (a:=b) rfl).1
 have hg1:=(Af hk (k:=1) (a:=b) rfl).2
 have h6:=Br (p:=p) (op:=6) (by omega)
 have h7:=Br (p:=p) (op:=7) (by omega)
 have h12:=Br (p:=p) (op:=12) (by omega)
 have h11:=EE (p:=p) (op:=11) (by omega)
 have h10:=Br (p:=p) (op:=10) (by omega)
 obtain⟨rc,rw,hrw⟩:=Gr (Dw v k.text u)
 obtain⟨q,b',hqb⟩:∃q b',DN (Dw v k.text u)=(q,b'):=⟨_,_,rfl⟩
 rw[hrw]at hop hf
 rw[hqb]at hf ⊢
 replace hf:AC Tryz.prog 120 [D7 rc rw] [] (.tup [q.av,.c (.bool b')]) []:=hf
 show AC _ _ _ _ (.tup [q.av,.c (.bool b')]) _
 clear hrw hqb hok
 unfold D7 at hf hop
 unfold V.av at *
 unfold PT.av at *
 generalize a.d=da,a.kids.map PT.cs=Pa,b.d=db,b.kids.map PT.cs=Pb,q.d=dq,q.kids.map PT.cs=Pq,p.d=d,p.kids.map PT.cs=P at *
 refine A6 Tryz.func62 Tryz.ntmps62 q9 ?_
 refine v7 (A3 [] h6) q9 q9 ?_
 refine v7 (A3 [] h7) q9 q9 ?_
 refine v7 (A3 [] h12) q9 q9 ?_
 refine v7 (A3 [] h11) q9 q9 ?_
 refine v7 (A3 [] hc) q9 q9 ?_
 refine Ab (j2 hr0 hg0) ?_
 refine v9 (A4 [] hca) q9 q9 ?_
 refine v9 (A4 [] hck) q9 (j2 hr1 hg1) ?_
 refine v9 (A4 [] hcb) q9 q9 ?_
 refine v9 (A4 [] hop) q9 q9 ?_
 refine v9 (A4 [] hf) q9 q9 ?_
 exact Ag (A5 []) Tryz.results62
theorem b9 {p a:PT}(ho:p.d.op=10) (hk:p.kids=[a]) (a2:a.d.op=2) {v:V}(hv:v.right) (hav:a.d.val=v.enc):AC Tryz.prog 62 [p.av] [] (Iy (DN (Co (AY [v])))) []:=by
 have hc:AC Tryz.prog 119 [p.av,.c (.int .i64 1)] [] (.c (.bool true)) []:=CU (p:=p) (k:=1) (b:=true) (by rw[hk];simp) (by rw[hk];simp) (by rw[hk];simp[a2])
 have hca:=BC a hv hav
 have hfit:(AY [v]).fit:=J7 fun x hx=>by rw[List.mem_singleton.1 hx];exact Cd hv
 have hcnt:(AY [v]).count≤500000:=by
  have:=hv.2.1
  show Aw [v]+1≤500000
  simp only[Aw]
  omega
 have har:=EH [v]
 have hop:=Ev hfit hcnt
 have hok:CH (Co (AY [v])):=El hfit
 have hf:=H7 hok
 have hr0:A8 (p.kids.map PT.cs) 7 0=true:=(Af hk (k:=0) (a:=a) rfl).1
 have hg0:=(Af hk (k:=0) (a:=a) rfl).2
 have h6:=Br (p:=p) (op:=6) (by omega)
 have h7:=Br (p:=p) (op:=7) (by omega)
 have h12:=Br (p:=p) (op:=12) (by omega)
 have h11:=Br (p:=p) (op:=11) (by omega)
 have h10:=EE (p:=p) (op:=10) (by omega)
 obtain⟨rc,rw,hrw⟩:=Gr (Co (AY [v]))
 obtain⟨q,b',hqb⟩:∃q b',DN (Co (AY [v]))=(q,b'):=⟨_,_,rfl⟩
 rw[hrw]at hop hf
 rw[hqb]at hf ⊢
 replace hf:AC Tryz.prog 120 [D7 rc rw] [] (.tup [q.av,.c (.bool b')]) []:=hf
 show AC _ _ _ _ (.tup [q.av,.c (.bool b')]) _
 clear hrw hqb hok
 unfold D7 at hf hop
 clear hfit hcnt
 rw[Qw]at har hop
 have hrow:[v].map V.cs=[[.int .i64 v.kind,.int .i64 v.num,.str v.text,.sl (v.keys.map Ae),.sl (v.kids.map V.cs)]]:=by rw[List.map_cons,V.cs_eq,List.map_nil]
 unfold Xd at har
 rw[hrow]at har hop
 unfold V.av at *
 unfold PT.av at *
 generalize a.d=da,a.kids.map PT.cs=Pa,q.d=dq,q.kids.map PT.cs=Pq,p.d=d,p.kids.map PT.cs=P at *
 refine A6 Tryz.func62 Tryz.ntmps62 q9 ?_
 refine v7 (A3 [] h6) q9 q9 ?_
 refine v7 (A3 [] h7) q9 q9 ?_
 refine v7 (A3 [] h12) q9 q9 ?_
 refine v7 (A3 [] h11) q9 q9 ?_
 refine v7 (A3 [] h10) q9 q9 ?_
 refine v7 (A3 [] hc) q9 q9 ?_
 refine Ab (j2 hr0 hg0) ?_
 refine v9 (A4 [] hca) q9 q9 ?_
 refine v9 (A4 [(106,0)] har) q9 q9 ?_
 refine v9 (A4 [] hop) q9 q9 ?_
 refine v9 (A4 [] hf) q9 q9 ?_
 exact Ag (A5 []) Tryz.results62
end
end Go.Proofs.YtcejfdfmgmcinaaGreat
