/- Texts of this proof: E37 R19 M56 R28 M57. -/
import Derived.Test.YtllfmaflodbieaaGreatDoorKR16uR18
import Derived.Test.YtllfmaflodbieaaGreatDoorKM53
set_option linter.all false
set_option maxHeartbeats 8000000
namespace Go.Proofs.YtllfmaflodbieaaGreatDoor
section
open Go.RowKit
section
variable {P:Program} {o:Oper} {σ:ASt} {R:Nat→Value→List (List Value)→Obj→Prop}
theorem WV (hpin:∀b v vr obj b' v' vr' obj',R b v vr obj→R b' v' vr' obj'→b'=b∧obj'=obj) (hany:∀b v v' vr obj,R b v vr obj→R b v' vr obj)
  {t:Id} {bw:List Id} {x:C} {f:FuncId} {caps cargs:List AV} {fv:Operand} {args:Array Operand} {tys:Array TypeId} (ho:o.op=.call ⟨.value fv,args,tys⟩) (hv:σ.ev fv=.clo f caps) (hc:Is P f=true)
  (hac:AC P f cargs [((8,0),.blk R [])] (.c x) [((8,0),.blk R [])]) (hm:A9 (fun _=>none) σ.mem bw cargs (args.toList.map σ.ev++caps)) (hrefs:Aq [] cargs=true) (hcl:x.closed=true) (ht:σ.mem.get t=some (.blk R [])) (htb:t ∉ bw) :
  B7 P o σ ⟨t::bw,[],.c x⟩:=by
 intro Γ σ' a w hag ⟨ow,κ,hr⟩ K Q hK
 have ht':σ'.mem.get t=some (.blk R []):=by rw[hag.2.1 t (by simp),ht]
 have hm':A9 (fun _=>none) σ'.mem bw cargs (args.toList.map σ.ev++caps):=hm.agree fun j hj=>hag.2.1 j (by simp[hj])
 obtain⟨g,obj,vr,g1,g2,g3,g4⟩:=hr.objs t _ ht'
 obtain⟨vs,v1,v2⟩:=hag.ev hr (by rw[ho];simp[Op.operands,Call.operands]) hv
 have hargs:ARs w (Γ.sees ow) σ'.mem κ (args.toList.map σ.ev++caps) (args.toList.map a.eval++vs) :=
  (ARs.map_ev hr _ fun x hx=>hag.1 x (by rw[ho];simp[Op.operands,Call.operands];exact .inr (by simpa using hx))).append v2
 let S0:Nat→Prop:=fun b=>Γ.sees ow b∨∃j,j∈bw∧ow b=some j
 let ow0:Nat→Option Id:=fun b=>if b=g then some (8,0) else none
 have hne:∀b,S0 b→b≠g:=by
  rintro b (hb | ⟨j,hj,hb⟩) rfl
  ·rw[hb.1]at g1;cases g1
  ·rw[g1]at hb;cases hb;exact htb hj
 have hS:∀b,S0 b→(⟨w,S0,ow0,κ,[(8,0)]⟩:Ctx).sees ow0 b:=fun b hb=>⟨if_neg (hne b hb),.inl hb⟩
 have hglt:g<w.heap.size:=(Array.getElem?_eq_some_iff.1 g2).1
 have hent:Entry ⟨w,S0,ow0,κ,[(8,0)]⟩ [((8,0),.blk R [])]:=by
  refine⟨fun i o' hi=>?_,fun b i hb=>?_,rfl⟩
  ·simp only[Mem.get,List.lookup_cons,List.lookup_nil]at hi
   by_cases hq:i=(8,0)
   ·subst hq
    obtain rfl:o'=.blk R []:=by simpa [eq_comm] using hi
    simp only[A0]at g3
    refine⟨g,obj,vr,if_pos rfl,g2,?_,hany _ _ _ _ _ g4⟩
    simp only[A0]
    exact g3
   ·have:(i==((8,0):Id))=false:=by simpa using hq
    rw[this]at hi
    cases hi
  ·simp only[ow0]at hb
   split at hb
   ·rename_i e
    subst e
    cases hb
    exact⟨hglt,_,rfl,rfl⟩
   ·cases hb
 have hmm:MatM (fun _=>none) bw [] σ'.mem:=⟨by simp,by simp,by simp,by simp,by simp⟩
 have har:=A9.rep hmm (T:=(⟨w,S0,ow0,κ,[(8,0)]⟩:Ctx).sees ow0) (fun b hb=>hS b (.inl hb)) (fun b j hj hb=>hS b (.inr ⟨j,hj,hb⟩)) hr.objs hm' hrefs hargs
 have har':ARs w ((⟨w,S0,ow0,κ,[(8,0)]⟩:Ctx).sees ow0) [((8,0),.blk R [])] κ cargs (args.toList.map a.eval++vs) :=
  ARs.keep (Nat.le_refl _) (fun b hb _=>⟨rfl,hb⟩) (fun i o h=>by simp[Mem.get]at h) har
 have hcall:=hac ⟨w,S0,ow0,κ,[(8,0)]⟩ (args.toList.map a.eval++vs) hent har'
 unfold Oper.wp
 have hrun:(execOp a.eval o).run P w=.ok (.enter f (args.toList.map a.eval++vs).toArray) w:=by
  unfold execOp
  rw[ho]
  simp only[resolve,v1,Deferred.ofValue,Sem.run_bind,Sem.run_pure,Result.andThen_ok,invoke]
  rw[El hc]
  congr 2
  apply Array.ext'
  simp
 rw[hrun,Oper.upon_enter]
 refine hcall.mono ?_
 rintro e w' ⟨v,ow',κ',rfl,hx⟩
 obtain⟨b',obj',vr',k1,k2,k3,k4⟩:=hx.objs (8,0) _ rfl
 obtain⟨rfl,rfl⟩:=hpin _ _ _ _ _ _ _ _ g4 k4
 have hall:∀b,b<w.heap.size→w'.heap[b]? = w.heap[b]?:=fun b hb=>by
  by_cases hbg:b=b'
  ·subst hbg
   exact k2.trans g2.symm
  ·exact (hx.frame b hb (if_neg hbg)).1
 have hres:CR w' (Γ.sees ow) x v []:=CR.closed hcl hx.res
 have st:Step σ'.mem [] w ow κ w' ow κ:=⟨hx.os,hx.tape,hx.output,hx.size,fun b hb _=>⟨hall b hb,rfl⟩,fun b i hb=>.inl ⟨by simp,hb⟩,fun _ _ _=>rfl,fun i hi=>by simp at hi⟩
 exact hK _ _ ⟨ow,κ,hr.step (E:=⟨t::bw,[],.c x⟩) st hres (fun i hi=>by simp at hi) o.dst⟩
end
section
variable {P:Program} {σ τ:ASt} {ops:Array Oper} {r:List Oper} {fs:List AEff} {K:ASt→List AEff→Prop} {E:AEff} {R:Nat→Value→List (List Value)→Obj→Prop} {d:Option Tmp} {ty:TypeId} {pos:String} {af:Array Edge} {gd:Option (Nat×Bool)}
theorem Kk (hpin:∀b v vr obj b' v' vr' obj',R b v vr obj→R b' v' vr' obj'→b'=b∧obj'=obj) (hany:∀b v v' vr obj,R b v vr obj→R b v' vr obj)
  (t:Id) (bw:List Id) {x:C} {f:FuncId} {caps cargs:List AV} {fv:Operand} {args:Array Operand} {tys:Array TypeId}
  (hac:AC P f cargs [((8,0),.blk R [])] (.c x) [((8,0),.blk R [])]) (hg:AB ops σ ⟨d,.call ⟨.value fv,args,tys⟩,ty,pos,af,gd⟩=some true) (hv:σ.ev fv=.clo f caps) (hc:Is P f=true)
  (hm:A9 (fun _=>none) σ.mem bw cargs (args.toList.map σ.ev++caps)) (hrefs:Aq [] cargs=true) (hcl:x.closed=true) (ht:σ.mem.get t=some (.blk R [])) (htb:t ∉ bw)
  (he:(⟨t::bw,[],.c x⟩:AEff)=E) (hτ:σ.upd d E=τ) (h:A4 P ops r τ (fs++[E]) K):A4 P ops (⟨d,.call ⟨.value fv,args,tys⟩,ty,pos,af,gd⟩::r) σ fs K:=by
 subst he
 exact Ku hg (WV hpin hany rfl hv hc hac hm hrefs hcl ht htb) hτ h
end
end
section
open Go.RowKit
set_option maxRecDepth 10000
variable {o:Obj}
theorem Ky:∀b v vr obj b' v' vr' obj',Ps o b v vr obj→Ps o b' v' vr' obj'→b'=b∧obj'=obj:=by
 rintro b v vr obj b' v' vr' obj' ⟨h1,h2,_⟩ ⟨k1,k2,_⟩
 exact⟨Option.some.inj (k2.symm.trans h2),k1.trans h1.symm⟩
theorem Kx:∀b v v' vr obj,Ps o b v vr obj→Ps o b v' vr obj:=fun _ _ _ _ _ h=>h
def SU (xs:List CellD):V:=(dec xs).2.getD Dq
theorem Vl {xs:List CellD}{t:V}(h:dec xs=(0,some t)):SU xs=t:=by unfold SU;rw[h];rfl
end
section
open Go.RowKit
def OV (s:ByteArray):Option (V×ByteArray):=match LE 20 s (Io s 0) with
 | .ok v e=>if 200<v.count then none else some (v,s.extract e s.size)
 | .bad _ _=>none
theorem a4t {a b:ByteArray}(h:a=b):(a.toList==b.toList)=true:=by rw[h];simp
theorem a0a {a b:ByteArray}(h:a≠b):(a.toList==b.toList)=false:=by
 cases hq:(a.toList==b.toList) with
 |false=>rfl
 |true=>exact absurd (K3 (by simpa using hq)) h
theorem OB {a b:ByteArray}(h:a.data.toList=b.data.toList):a=b:=by
 apply ByteArray.ext
 exact Array.toList_inj.1 h
theorem MU {s:ByteArray}{e:Nat}{l:List UInt8}(h:s.data.toList.drop e=l):s.extract e s.size=⟨l.toArray⟩:=by
 apply OB
 rw[L1,List.take_of_length_le (by rw[JY];exact Nat.le_refl _),h]
theorem RU {s:ByteArray}{e:Nat}{a l:List UInt8}(h:s.data.toList=a++l) (he:a.length=e):s.extract 0 e=⟨a.toArray⟩:=by
 apply OB
 rw[L1,h,List.drop_zero]
 subst he
 simp
theorem Nl {s:ByteArray}{e:Nat}{b:UInt8}{l:List UInt8}(h:s.data.toList.drop e=b::l):bAt s e=b.toNat:=Sub.head (l:=l) ⟨[],by rw[h];simp⟩
theorem VK {s:ByteArray}{e:Nat}(h:s.data.toList.drop e=[]):s.size≤e:=by
 have:=congrArg List.length h
 rw[List.length_drop,JY]at this
 have h2:s.size-e=0:=this
 omega
def a2n:List UInt8→Prop
 | []=>True
 |b::_=>G0 b.toNat=false∧JA b.toNat=false
theorem a4k {s:ByteArray}{e:Nat}{l:List UInt8}(h:s.data.toList.drop e=l) (hl:a2n l):Ol s e:=by
 cases l with
 |nil=>unfold Ol;rw[Lw (VK h)];exact⟨by decide,by decide⟩
 |cons b l=>unfold Ol;rw[Nl h];exact hl
theorem VN {s:ByteArray}{i:Nat}{t:V}{l:List UInt8}(h:s.data.toList.drop i=t.txt.data.toList++l):s.data.toList.drop (i+t.txt.size)=l:=by
 rw[←List.drop_drop,h,←JY]
 simp
theorem a56 {s:ByteArray}{i:Nat}{t:V}{l:List UInt8}(ht:t.right) (h:s.data.toList.drop i=t.txt.data.toList++l) (hl:a2n l):LE 20 s i=.ok t (i+t.txt.size)∧Io s i=i :=
 ⟨On 20 t i ht ht.2.2 ⟨l,h⟩ (a4k (VN h) hl),PY ht (l:=l) ⟨[],by rw[h,List.append_nil]⟩⟩
theorem ZG {s:ByteArray}{i:Nat}{t:V}{l:List UInt8}(ht:t.right) (hi:Io s 0=Io s i) (h:s.data.toList.drop i=t.txt.data.toList++l) (hl:a2n l):OV s=some (t,⟨l.toArray⟩):=by
 obtain⟨h1,h2⟩:=a56 ht h hl
 have hc:=ht.2.1
 unfold OV
 rw[hi,h2,h1]
 dsimp only
 rw[if_neg (by omega),MU (VN h)]
theorem Pd {s:ByteArray}{v:V}{r:ByteArray}(h:OV s=some (v,r)):∃e,LE 20 s (Io s 0)=.ok v e∧v.right∧e≤s.size∧r=s.extract e s.size∧r.size≤s.size:=by
 have hf:=Lh (s:=s) 20 (Io s 0) (Ks (Nat.zero_le _)).2.1
 unfold OV at h
 split at h
 ·rename_i v' e hR
  rw[hR]at hf
  obtain⟨_,f2,f3,f4,f5,f6⟩:=hf
  split at h
  ·cases h
  ·rename_i hc
   cases h
   exact⟨e,hR,⟨f6 (by omega),by omega,f4⟩,f2,rfl,by rw[LI (Nat.le_refl _)];omega⟩
 ·cases h
theorem Ph (s:ByteArray):∀(n f i:Nat),(Lj s n f i).length≤n+1
 | 0,f,i=>by
  unfold Lj
  split<;>simp
 |n+1,f,i=>by
  unfold Lj
  split
  ·have:=Ph s n (i+1) (i+1)
   rw[List.length_cons]
   omega
  ·have:=Ph s n f (i+1)
   omega
end
section
open Go.RowKit
set_option maxRecDepth 10000
variable {o:Obj}
def Ke (t:V):List (List V×V):=(t.paths []).filter fun p=>!M7 p
def RT:ByteArray:=⟨#[32,61,32]⟩
def P1 (p:List V×V):ByteArray:=KF p.1++RT++p.2.txt++bS 10
def L4 (l:List (List V×V)):ByteArray:=l.foldl (fun a p=>a++P1 p) ByteArray.empty
theorem RZ {l:List (List V×V)}{k:Nat}(h:k<l.length):L4 (l.take (k+1))=L4 (l.take k)++P1 l[k]:=by
 unfold L4
 rw[List.take_succ_eq_append_getElem h,List.foldl_append]
 rfl
structure LeafOk (t:V) (p:List V×V):Prop where
 get:O4 t p.1=okR p.2
 keys:∀k∈p.1,k.right
 len:p.1.length≤20
 right:p.2.right
 sk:∀q∈p.1,Ni q
theorem YQ {t:V}(ht:t.right) {p:List V×V}(hp:p∈Ke t):LeafOk t p:=by
 have hm:=(List.mem_filter.1 hp).1
 obtain⟨h1,h2,h3,h4⟩:=a11 ht hm
 exact⟨h1,h2,h3,h4,(WN t [] ht (by simp) p hm).1⟩
theorem Wr {t:V}(ht:t.right):(Ke t).length≤200:=by
 have h1:=List.length_filter_le (fun p:List V×V=>!M7 p) (t.paths [])
 rw[Mo]at h1
 have:=ht.2.1
 unfold Ke
 omega
theorem Ub {p:List V}(h:∀k∈p,k.right) (hl:p.length≤20):(KF p).size≤2500:=by
 have h1:=N2 h p.length (Nat.le_refl _)
 rw[List.take_length]at h1
 omega
theorem Zw:RT.size=3:=rfl
theorem Sr {t:V}{p:List V×V}(h:LeafOk t p):(P1 p).size≤53000:=by
 have h1:=Ub h.keys h.len
 have h2:=Mv h.right
 unfold P1
 simp only[ByteArray.size_append,Zw,K9]
 omega
theorem Xq {l:List (List V×V)}(h:∀p∈l,(P1 p).size≤53000):∀k,k≤l.length→(L4 (l.take k)).size≤53000*k:=by
 intro k
 induction k with
 |zero=>intro _;simp[L4]
 |succ k ih =>
  intro hk
  have h1:=ih (by omega)
  have h2:=h _ (List.getElem_mem (by omega:k<l.length))
  rw[RZ (by omega),ByteArray.size_append]
  omega
theorem YG {t:V}(ht:t.right):AC Tryz.prog 48 [t.av] (Nk o) (.c (.str (L4 (Ke t)))) (Nk o):=by
 have hc:=ht.2.1
 have hlv:=ZS t (by omega) (Lc ht)
 have hok:=fun p hp=>YQ (p:=p) ht hp
 have hll:=Wr ht
 change AC Tryz.prog 97 [t.av] [] (.own (0,0)) [((0,0),.row false 6 79 ((Ke t).map JZ))]at hlv
 generalize Ke t=l at *
 have hsz:=Xq (l:=l) fun p hp=>Sr (hok p hp)
 have hln:(l.map JZ).length=l.length:=by simp
 have h0:L4 (l.take 0)=ByteArray.empty:=rfl
 refine JI Tryz.func48 Tryz.ntmps48 ?_
 refine JP q9 ?_
 refine GH ?_
 refine JP q9 ?_
 refine GH ?_
 (refine w3 (XT a5i) q9 ?_;refine w4 (b7 5 a5i) q9 ?_;refine w6 (WD a5i) q9 ?_)
 refine JV q9 ?_
 refine w12 (Kj [] hlv) q9 ?_
 refine JV hln ?_
 refine Jz (κ:=Nat) (fun k=>⟨mkS 0 26 [(3,.ptr (3,0) 0),(8,.own (97,0)),(9,.c (.int .i64 l.length)),(10,.c (.int .i64 k))],
   [((3,0),a3c (L4 (l.take k))),((97,0),.row false 6 79 (l.map JZ)),((8,0),.blk (Ps o) [])]⟩)
  (fun k=>k≤l.length) (fun k=>l.length-k) 0 (Nat.zero_le _) ?_ ?_
 ·exact JQ (F7.of [((3,0),(3,0)),((97,0),(8,1)),((8,0),(8,0))] []) h0
 ·intro k hk
  have hz1:=hsz k hk
  by_cases hlt:k<l.length
  ·have hdk:decide ((k:Int)<(l.length:Int))=true:=by simpa using hlt
   have hw:=JX (k:=k) (by omega)
   have hr:B4 (l.map JZ) 6 k=true:=by simp[B4,hlt,JZ]
   have hg:(l.map JZ)[k]? = some [.sl (l[k].1.map V.cs),.int .i64 l[k].2.kind,.int .i64 l[k].2.num,.str l[k].2.text,.sl (l[k].2.keys.map CX),.sl (l[k].2.kids.map V.cs)]:=by simp[hlt,JZ]
   have hp:=hok _ (List.getElem_mem hlt)
   have hpt:=N8 (o:=o) hp.keys (by have:=hp.len;omega)
   have hen:=MT (o:=o) hp.right
   have hps:=Ub hp.keys hp.len
   have hts:=Mv hp.right
   have hls:=Sr hp
   have hnx:=(RZ hlt).symm
   have hwr:=SZ (L4 (l.take k)) (P1 l[k]) (by omega)
   rw[hnx]at hwr
   unfold P1 RT at hwr
   have x1:(KF l[k].1).size+3≤9223372036854775807:=by omega
   have x2:(KF l[k].1++⟨#[32,61,32]⟩).size+l[k].2.txt.size≤9223372036854775807:=by rw[ByteArray.size_append];have:(⟨#[32,61,32]⟩:ByteArray).size=3:=rfl;omega
   have x3:(KF l[k].1++⟨#[32,61,32]⟩++l[k].2.txt).size+1≤9223372036854775807:=by simp only[ByteArray.size_append];have:(⟨#[32,61,32]⟩:ByteArray).size=3:=rfl;omega
   generalize l[k]=q at *
   generalize hu1:KF q.1++⟨#[32,61,32]⟩=u1 at *
   generalize hu2:u1++q.2.txt=u2 at *
   refine JV (j3 hdk hr hg) ?_
   refine w10 (Kk Ky Kx (8,0) [] hpt) q9 ?_
   refine JV (j2 x1 hu1) ?_
   refine w10 (Kk Ky Kx (8,0) [] hen) q9 ?_
   refine JV (j3 x2 hu2 x3) ?_
   refine JO (Im [((0,0),(3,0))] [((0,0),(3,0))] hwr) q9 ?_
   refine JV hw ?_
   refine⟨k+1,by omega,by omega,?_⟩
   exact JQ (F7.of [((3,0),(3,0)),((97,0),(97,0)),((8,0),(8,0))] []) q9
  ·have hdk:decide ((k:Int)<(l.length:Int))=false:=by simpa using hlt
   obtain rfl:k=l.length:=by omega
   have hall:l.take l.length=l:=List.take_length
   have hst:=Uz (L4 l)
   refine JV (j2 hdk hall) ?_
   refine JO (Im [((0,0),(3,0))] [] hst) q9 ?_
   refine JV q9 ?_
   exact JJ (JN [((8,0),(8,0))] []) Tryz.results48 hdk
theorem W9 (xs:List CellD) (hz:Lk xs) {t:V}(hd:dec xs=(0,some t)) (ht:t.right):AC Tryz.prog 24 [Iw xs] (Nk o) (.agg [.c (.int .i64 0),.c (.str (L4 (Ke t)))]) (Nk o):=by
 have hne:((0:Int) != 0)=false:=rfl
 have h1:=LK xs hz (t:=t) (by rw[hd])
 have h2:=YG (o:=o) ht
 refine JI Tryz.func24 Tryz.ntmps24 ?_
 refine JV q9 ?_
 refine w9 (Ja [] h1) q9 ?_
 refine JV hne ?_
 refine w10 (Kk Ky Kx (8,0) [] h2) q9 ?_
 refine JV q9 ?_
 exact JJ (JN [((8,0),(8,0))] []) Tryz.results24 hne
end
section
open Go.RowKit
def Ln (b:Nat) (s:ByteArray):ByteArray:=if bAt s 0=b then s.extract 1 s.size else s
def N5 (s:ByteArray):ByteArray:=if 3≤s.size∧s.extract 0 3=RT then s.extract 3 s.size else s
def Mh:Nat→ByteArray→List V→Option (List V×ByteArray)
 | 0,_,_=>none
 |n+1,s,acc=>if bAt s 0=91 then match OV (s.extract 1 s.size) with
   |some (v,r)=>if v.kind=4∨v.kind=3 then Mh n (Ln 93 r) (acc++[v]) else none
   |none=>none
  else some (acc,s)
def P0 (s:ByteArray):V:=match (Kw (N5 s)).2 with
 |some v=>v
 |none=>Dq
def a0v (s:ByteArray):Option (List V×V):=match Mh (s.size+1) (Ln 46 s) [] with
 |some (p,r)=>some (p,P0 r)
 |none=>none
structure FlatOk (p:List V×V) (s:ByteArray):Prop where
 leaf:p.2.kids.isEmpty=true
 keys:∀k∈p.1,Ni k
 len:p.1.length≤199
 right:p.2.right
 text:KF p.1++RT++p.2.txt=s
open Classical in
noncomputable def Oa (s:ByteArray):Option (List V×V):=match a0v s with
 |some p=>if FlatOk p s then some p else none
 |none=>none
def M9 (p:List V):List UInt8:=p.flatMap fun k=>91::(k.txt.data.toList++[93])
theorem a3i {k:V}(h:Ni k):elS k=k.txt:=by
 unfold elS
 rcases h.2.2.2 with h3 | h4
 ·rw[if_neg (by omega),NT h3]
 ·rw[if_pos h4,NU h4]
theorem WL:∀(p:List V) (a:ByteArray),(∀k∈p,Ni k)→(p.foldl (fun a v=>a++a0l v) a).data.toList=a.data.toList++M9 p
 | [],a,_=>by simp[M9]
 |k::p,a,h=>by
  rw[List.foldl_cons,WL p _ fun x hx=>h x (List.mem_cons_of_mem _ hx),K5]
  unfold a0l M9
  rw[a3i (h k (by simp)),K5,K5]
  simp
theorem XZ {p:List V}(h:∀k∈p,Ni k):(KF p).data.toList=46::M9 p:=by
 unfold KF
 rw[WL p _ h]
 rfl
theorem Qe {p:List V×V}{s:ByteArray}(h:FlatOk p s):s.data.toList=46::(M9 p.1++[32,61,32]++p.2.txt.data.toList):=by
 rw[←h.text,K5,K5,XZ h.keys]
 simp[RT]
theorem Vm {b:UInt8}{s:ByteArray}{l:List UInt8}(h:s.data.toList=b::l):Ln b.toNat s=⟨l.toArray⟩:=by
 unfold Ln
 rw[if_pos (Nl (e:=0) (l:=l) (by rw[List.drop_zero];exact h)),MU (l:=l) (by rw[h];rfl)]
theorem UR:∀(p:List V) (n:Nat) (acc:List V) (s:ByteArray) (r:List UInt8),(∀k∈p,Ni k)→s.data.toList=M9 p++32::r→p.length<n→Mh n s acc=some (acc++p,⟨(32::r).toArray⟩)
 | [],n,acc,s,r,_,hs,hn=>by
  obtain⟨n,rfl⟩:∃m,n=m+1:=⟨n-1,by simp at hn;omega⟩
  have hs':s.data.toList=32::r:=hs
  unfold Mh
  rw[if_neg (by rw[Nl (e:=0) (b:=32) (l:=r) (by rw[List.drop_zero];exact hs')];decide),List.append_nil]
  congr 2
  exact OB (by rw[hs'])
 |k::p,n,acc,s,r,hk,hs,hn=>by
  obtain⟨n,rfl⟩:∃m,n=m+1:=⟨n-1,by simp at hn;omega⟩
  have hk0:=hk k (by simp)
  have hs1:s.data.toList=91::(k.txt.data.toList++93::(M9 p++32::r)):=by rw[hs];unfold M9;simp
  have h2:=ZG (s:=s.extract 1 s.size) (i:=0) (l:=93::(M9 p++32::r)) hk0.1 rfl (by rw[MU (e:=1) (l:=k.txt.data.toList++93::(M9 p++32::r)) (by rw[hs1];rfl)];simp) ⟨by decide,by decide⟩
  unfold Mh
  rw[if_pos (show bAt s 0=91 from Nl (e:=0) (b:=91) (by rw[List.drop_zero];exact hs1)),h2]
  dsimp only
  rw[if_pos (by have:=hk0.2.2.2;omega),show Ln 93 _=_ from Vm (b:=93) (l:=M9 p++32::r) (by simp)]
  rw[UR p n (acc++[k]) _ r (fun x hx=>hk x (List.mem_cons_of_mem _ hx)) (by simp) (by simp at hn;omega)]
  simp
theorem Qo:∀p:List V,2*p.length≤(M9 p).length
 | []=>by simp
 |k::p=>by
  have:=Qo p
  unfold M9 at this ⊢
  rw[List.flatMap_cons,List.length_append,List.length_cons,List.length_cons,List.length_append,List.length_singleton]
  omega
theorem ZR {s:ByteArray}{v:V}(hv:v.right) (hs:s.data.toList=[32,61,32]++v.txt.data.toList) (hz:s.size≤4000):P0 s=v:=by
 have h1:3≤s.size:=by rw[←JY,hs];simp
 have h2:s.extract 0 3=RT:=RU hs rfl
 have h3:s.extract 3 s.size=v.txt:=OB (by rw[MU (e:=3) (l:=v.txt.data.toList) (by rw[hs];rfl)])
 have h4:v.txt.size≤4000:=by have:=JY s;rw[hs]at this;simp only[List.length_append,JY]at this;omega
 unfold P0 N5
 rw[if_pos ⟨h1,h2⟩,h3,RM hv h4]
theorem a0w {p:List V×V}{s:ByteArray}(hz:s.size≤4000) (h:FlatOk p s):a0v s=some p:=by
 have hl:=Qe h
 have hlen:=JY s
 have hp:=Qo p.1
 have hl2:s.data.toList=46::(M9 p.1++32::([61,32]++p.2.txt.data.toList)):=by rw[hl];simp
 have ht:=Vm (b:=46) hl2
 rw[hl2]at hlen
 simp only[List.length_cons,List.length_append,JY,List.length_nil]at hlen
 have hg:=UR p.1 (s.size+1) [] ⟨(M9 p.1++32::([61,32]++p.2.txt.data.toList)).toArray⟩ ([61,32]++p.2.txt.data.toList) h.keys (by simp) (by omega)
 have hlf:=ZR (s:=⟨(32::([61,32]++p.2.txt.data.toList)).toArray⟩) h.right (by simp) (by rw[←JY];simp[JY];omega)
 unfold a0v
 rw[show Ln 46 s=_ from ht,hg]
 dsimp only
 rw[hlf,List.nil_append]
theorem OA {s:ByteArray}(hz:s.size≤4000) {p:List V×V}:Oa s=some p↔FlatOk p s:=by
 constructor
 ·intro h
  unfold Oa at h
  split at h
  ·split at h
   ·rename_i hh
    injection h with h
    subst h
    exact hh
   ·cases h
  ·cases h
 ·intro h
  unfold Oa
  rw[a0w hz h]
  dsimp only
  rw[if_pos h]
theorem XI {s:ByteArray}(hz:s.size≤4000) (h:Oa s=none) (p:List V×V):¬FlatOk p s:=fun hf=>by
 rw[(OA hz).2 hf]at h
 cases h
end
end Go.Proofs.YtllfmaflodbieaaGreatDoor
