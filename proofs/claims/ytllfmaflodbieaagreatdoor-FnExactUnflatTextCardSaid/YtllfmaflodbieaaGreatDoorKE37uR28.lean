/- Texts of this proof: E37 R19 M56 H04 H06 R28. -/
import Derived.Test.YtllfmaflodbieaaGreatDoorKR16uR18
import Derived.Test.YtllfmaflodbieaaGreatDoorKM53
set_option linter.all false
set_option maxHeartbeats 8000000
namespace Go.Proofs.YtllfmaflodbieaaGreatDoor
section
open Go.RowKit
section
variable {P:Program} {o:Oper} {σ:ASt} {R:Nat→Value→List (List Value)→Obj→Prop}
theorem PR (hpin:∀b v vr obj b' v' vr' obj',R b v vr obj→R b' v' vr' obj'→b'=b∧obj'=obj) (hany:∀b v v' vr obj,R b v vr obj→R b v' vr obj)
  {t:Id} {bw:List Id} {x:C} {f:FuncId} {caps cargs:List AV} {fv:Operand} {args:Array Operand} {tys:Array TypeId} (ho:o.op=.call ⟨.value fv,args,tys⟩) (hv:σ.ev fv=.clo f caps) (hc:A5 P f=true)
  (hac:AC P f cargs [((8,0),.blk R [])] (.c x) [((8,0),.blk R [])]) (hm:B5 (fun _=>none) σ.mem bw cargs (args.toList.map σ.ev++caps)) (hrefs:BE [] cargs=true) (hcl:x.closed=true) (ht:σ.mem.get t=some (.blk R [])) (htb:t ∉ bw) :
  DP P o σ ⟨t::bw,[],.c x⟩:=by
 intro Γ σ' a w hag ⟨ow,κ,hr⟩ K Q hK
 have ht':σ'.mem.get t=some (.blk R []):=by rw[hag.2.1 t (by simp),ht]
 have hm':B5 (fun _=>none) σ'.mem bw cargs (args.toList.map σ.ev++caps):=hm.agree fun j hj=>hag.2.1 j (by simp[hj])
 obtain⟨g,obj,vr,g1,g2,g3,g4⟩:=hr.objs t _ ht'
 obtain⟨vs,v1,v2⟩:=hag.ev hr (by rw[ho];simp[Op.operands,Call.operands]) hv
 have hargs:ARs w (Γ.sees ow) σ'.mem κ (args.toList.map σ.ev++caps) (args.toList.map a.eval++vs) :=
  (ARs.map_ev hr _ fun x hx=>hag.1 x (by rw[ho];simp[Op.operands,Call.operands];exact .inr (by simpa using hx))).append v2
 let S0:Nat→Prop:=fun b=>Γ.sees ow b∨∃j,j∈bw∧ow b=some j
 let ow0:Nat→Option Id:=fun b=>if b=g then some (8,0) else none
 have hne:∀b,S0 b→b≠g:=by
  rintro b (hb | ⟨j,hj,hb⟩) rfl
  ·rw[hb.1]at g1;cases g1
  ·rw[g1]at hb;cases hb;exact htb hj
 have hS:∀b,S0 b→(⟨w,S0,ow0,κ,[(8,0)]⟩:Ctx).sees ow0 b:=fun b hb=>⟨if_neg (hne b hb),.inl hb⟩
 have hglt:g<w.heap.size:=(Array.getElem?_eq_some_iff.1 g2).1
 have hent:Entry ⟨w,S0,ow0,κ,[(8,0)]⟩ [((8,0),.blk R [])]:=by
  refine⟨fun i o' hi=>?_,fun b i hb=>?_,rfl⟩
  ·simp only[Mem.get,List.lookup_cons,List.lookup_nil]at hi
   by_cases hq:i=(8,0)
   ·subst hq
    obtain rfl:o'=.blk R []:=by simpa [eq_comm] using hi
    simp only[Ag]at g3
    refine⟨g,obj,vr,if_pos rfl,g2,?_,hany _ _ _ _ _ g4⟩
    simp only[Ag]
    exact g3
   ·have:(i==((8,0):Id))=false:=by simpa using hq
    rw[this]at hi
    cases hi
  ·simp only[ow0]at hb
   split at hb
   ·rename_i e
    subst e
    cases hb
    exact⟨hglt,_,rfl,rfl⟩
   ·cases hb
 have hmm:MatM (fun _=>none) bw [] σ'.mem:=⟨by simp,by simp,by simp,by simp,by simp⟩
 have har:=B5.rep hmm (T:=(⟨w,S0,ow0,κ,[(8,0)]⟩:Ctx).sees ow0) (fun b hb=>hS b (.inl hb)) (fun b j hj hb=>hS b (.inr ⟨j,hj,hb⟩)) hr.objs hm' hrefs hargs
 have har':ARs w ((⟨w,S0,ow0,κ,[(8,0)]⟩:Ctx).sees ow0) [((8,0),.blk R [])] κ cargs (args.toList.map a.eval++vs) :=
  ARs.keep (Nat.le_refl _) (fun b hb _=>⟨rfl,hb⟩) (fun i o h=>by simp[Mem.get]at h) har
 have hcall:=hac ⟨w,S0,ow0,κ,[(8,0)]⟩ (args.toList.map a.eval++vs) hent har'
 unfold Oper.wp
 have hrun:(execOp a.eval o).run P w=.ok (.enter f (args.toList.map a.eval++vs).toArray) w:=by
  unfold execOp
  rw[ho]
  simp only[resolve,v1,Deferred.ofValue,Sem.run_bind,Sem.run_pure,Result.andThen_ok,invoke]
  rw[II hc]
  congr 2
  apply Array.ext'
  simp
 rw[hrun,Oper.upon_enter]
 refine hcall.mono ?_
 rintro e w' ⟨v,ow',κ',rfl,hx⟩
 obtain⟨b',obj',vr',k1,k2,k3,k4⟩:=hx.objs (8,0) _ rfl
 obtain⟨rfl,rfl⟩:=hpin _ _ _ _ _ _ _ _ g4 k4
 have hall:∀b,b<w.heap.size→w'.heap[b]? = w.heap[b]?:=fun b hb=>by
  by_cases hbg:b=b'
  ·subst hbg
   exact k2.trans g2.symm
  ·exact (hx.frame b hb (if_neg hbg)).1
 have hres:CR w' (Γ.sees ow) x v []:=CR.closed hcl hx.res
 have st:Step σ'.mem [] w ow κ w' ow κ:=⟨hx.os,hx.tape,hx.output,hx.size,fun b hb _=>⟨hall b hb,rfl⟩,fun b i hb=>.inl ⟨by simp,hb⟩,fun _ _ _=>rfl,fun i hi=>by simp at hi⟩
 exact hK _ _ ⟨ow,κ,hr.step (E:=⟨t::bw,[],.c x⟩) st hres (fun i hi=>by simp at hi) o.dst⟩
end
section
variable {P:Program} {σ τ:ASt} {ops:Array Oper} {r:List Oper} {fs:List AEff} {K:ASt→List AEff→Prop} {E:AEff} {R:Nat→Value→List (List Value)→Obj→Prop} {d:Option Tmp} {ty:TypeId} {pos:String} {af:Array Edge} {gd:Option (Nat×Bool)}
theorem EB (hpin:∀b v vr obj b' v' vr' obj',R b v vr obj→R b' v' vr' obj'→b'=b∧obj'=obj) (hany:∀b v v' vr obj,R b v vr obj→R b v' vr obj)
  (t:Id) (bw:List Id) {x:C} {f:FuncId} {caps cargs:List AV} {fv:Operand} {args:Array Operand} {tys:Array TypeId}
  (hac:AC P f cargs [((8,0),.blk R [])] (.c x) [((8,0),.blk R [])]) (hg:Bi ops σ ⟨d,.call ⟨.value fv,args,tys⟩,ty,pos,af,gd⟩=some true) (hv:σ.ev fv=.clo f caps) (hc:A5 P f=true)
  (hm:B5 (fun _=>none) σ.mem bw cargs (args.toList.map σ.ev++caps)) (hrefs:BE [] cargs=true) (hcl:x.closed=true) (ht:σ.mem.get t=some (.blk R [])) (htb:t ∉ bw)
  (he:(⟨t::bw,[],.c x⟩:AEff)=E) (hτ:σ.upd d E=τ) (h:Ad P ops r τ (fs++[E]) K):Ad P ops (⟨d,.call ⟨.value fv,args,tys⟩,ty,pos,af,gd⟩::r) σ fs K:=by
 subst he
 exact Bt hg (PR hpin hany rfl hv hc hac hm hrefs hcl ht htb) hτ h
end
end
section
open Go.RowKit
set_option maxRecDepth 10000
variable {o:Obj}
theorem FM:∀b v vr obj b' v' vr' obj',Kb o b v vr obj→Kb o b' v' vr' obj'→b'=b∧obj'=obj:=by
 rintro b v vr obj b' v' vr' obj' ⟨h1,h2,_⟩ ⟨k1,k2,_⟩
 exact⟨Option.some.inj (k2.symm.trans h2),k1.trans h1.symm⟩
theorem FI:∀b v v' vr obj,Kb o b v vr obj→Kb o b v' vr obj:=fun _ _ _ _ _ h=>h
end
section
open Go.RowKit
def BG (s:ByteArray):Option (V×ByteArray):=match Cq 20 s (Af s 0) with
 | .ok v e=>if 200<v.count then none else some (v,s.extract e s.size)
 | .bad _ _=>none
theorem H4 {a b:ByteArray}(h:a=b):(a.toList==b.toList)=true:=by rw[h];simp
theorem J1 {a b:ByteArray}(h:a≠b):(a.toList==b.toList)=false:=by
 cases hq:(a.toList==b.toList) with
 |false=>rfl
 |true=>exact absurd (AA (by simpa using hq)) h
theorem O5 {a b:ByteArray}(h:a.data.toList=b.data.toList):a=b:=by
 apply ByteArray.ext
 exact Array.toList_inj.1 h
theorem OX {s:ByteArray}{e:Nat}{l:List UInt8}(h:s.data.toList.drop e=l):s.extract e s.size=⟨l.toArray⟩:=by
 apply O5
 rw[CJ,List.take_of_length_le (by rw[AL];exact Nat.le_refl _),h]
theorem KX {s:ByteArray}{e:Nat}{a l:List UInt8}(h:s.data.toList=a++l) (he:a.length=e):s.extract 0 e=⟨a.toArray⟩:=by
 apply O5
 rw[CJ,h,List.drop_zero]
 subst he
 simp
theorem Iq {s:ByteArray}{e:Nat}{b:UInt8}{l:List UInt8}(h:s.data.toList.drop e=b::l):bAt s e=b.toNat:=Sub.head (l:=l) ⟨[],by rw[h];simp⟩
theorem WC {s:ByteArray}{e:Nat}(h:s.data.toList.drop e=[]):s.size≤e:=by
 have:=congrArg List.length h
 rw[List.length_drop,AL]at this
 have h2:s.size-e=0:=this
 omega
def VV:List UInt8→Prop
 | []=>True
 |b::_=>AP b.toNat=false∧G6 b.toNat=false
theorem XM {s:ByteArray}{e:Nat}{l:List UInt8}(h:s.data.toList.drop e=l) (hl:VV l):MH s e:=by
 cases l with
 |nil=>unfold MH;rw[BX (WC h)];exact⟨by decide,by decide⟩
 |cons b l=>unfold MH;rw[Iq h];exact hl
theorem KJ {s:ByteArray}{i:Nat}{t:V}{l:List UInt8}(h:s.data.toList.drop i=t.txt.data.toList++l):s.data.toList.drop (i+t.txt.size)=l:=by
 rw[←List.drop_drop,h,←AL]
 simp
theorem NE {s:ByteArray}{i:Nat}{t:V}{l:List UInt8}(ht:t.right) (h:s.data.toList.drop i=t.txt.data.toList++l) (hl:VV l):Cq 20 s i=.ok t (i+t.txt.size)∧Af s i=i :=
 ⟨Lb 20 t i ht ht.2.2 ⟨l,h⟩ (XM (KJ h) hl),Lk ht (l:=l) ⟨[],by rw[h,List.append_nil]⟩⟩
theorem Jh {s:ByteArray}{i:Nat}{t:V}{l:List UInt8}(ht:t.right) (hi:Af s 0=Af s i) (h:s.data.toList.drop i=t.txt.data.toList++l) (hl:VV l):BG s=some (t,⟨l.toArray⟩):=by
 obtain⟨h1,h2⟩:=NE ht h hl
 have hc:=ht.2.1
 unfold BG
 rw[hi,h2,h1]
 dsimp only
 rw[if_neg (by omega),OX (KJ h)]
theorem CI {s:ByteArray}{v:V}{r:ByteArray}(h:BG s=some (v,r)):∃e,Cq 20 s (Af s 0)=.ok v e∧v.right∧e≤s.size∧r=s.extract e s.size∧r.size≤s.size:=by
 have hf:=C2 (s:=s) 20 (Af s 0) (AM (Nat.zero_le _)).2.1
 unfold BG at h
 split at h
 ·rename_i v' e hR
  rw[hR]at hf
  obtain⟨_,f2,f3,f4,f5,f6⟩:=hf
  split at h
  ·cases h
  ·rename_i hc
   cases h
   exact⟨e,hR,⟨f6 (by omega),by omega,f4⟩,f2,rfl,by rw[E2 (Nat.le_refl _)];omega⟩
 ·cases h
theorem FF (s:ByteArray):∀(n f i:Nat),(Ct s n f i).length≤n+1
 | 0,f,i=>by
  unfold Ct
  split<;>simp
 |n+1,f,i=>by
  unfold Ct
  split
  ·have:=FF s n (i+1) (i+1)
   rw[List.length_cons]
   omega
  ·have:=FF s n f (i+1)
   omega
set_option maxRecDepth 10000
theorem a03 (l:List (List V×V)):(EL true l).map Yx=(l.filter fun p=>!FR p).map Wd:=by
 have:l.filter (keep true)=l.filter fun p=>!FR p:=by
  congr 1
  funext p
  simp[keep,FR]
 unfold EL
 rw[this,List.map_map]
 rfl
theorem Si {t:V}(hw:t.wf) (hc:t.count≤200) (hd:t.depth≤20) :
  AC Tryz.prog 84 [Ce t.enc] [] (.agg [.c (.int .i64 0),.own (0,0)]) [((0,0),.row true 1 36 (((t.paths []).filter fun p=>!FR p).map Wd))]:=by
 have hv:=s9 true hw hc hd
 rw[a03]at hv
 refine A6 Tryz.func84 Tryz.ntmps84 ?_
 refine A0 trivial ?_
 refine w12 (IE [] hv) trivial ?_
 refine A0 trivial ?_
 exact A9 (A8 [((0,0),(4,0))] []) Tryz.results84 hd
set_option maxRecDepth 10000
theorem ZA (xs ps:List CellD):AC Tryz.prog 85 [Ce xs,Ce ps] [] (vrA (G3 xs ps D8)) []:=by
 rcases a2j xs ps D8 with⟨h1,h2,h3⟩ | ⟨t,hd,hx,ht,⟨c,hc,hp,h3⟩ | ⟨s,hs,hps,_,_,hp,h3⟩⟩
 ·have ha:=e9 xs ps h2
  have hb:((dec xs).1 != 0)=true:=by simpa using h2
  rw[h3,CD]
  refine A6 Tryz.func85 Tryz.ntmps85 ?_
  refine A0 trivial ?_
  refine w7 (A3 [] ha) trivial ?_
  refine A0 hb ?_
  refine w7 (A3 [] (E9 (dec xs).1)) trivial ?_
  refine A0 trivial ?_
  exact Am (A7 []) Tryz.results85
 ·have ha:=O4 xs ps (by rw[hd])
  rw[hp]at ha
  have hb:(c != 0)=true:=by simpa using hc
  rw[h3,CD]
  refine A6 Tryz.func85 Tryz.ntmps85 ?_
  refine A0 trivial ?_
  refine w7 (A3 [] ha) trivial ?_
  refine A0 hb ?_
  refine w7 (A3 [] (E9 c)) trivial ?_
  refine A0 trivial ?_
  exact Am (A7 []) Tryz.results85
 ·have ha:=O4 xs ps (by rw[hd])
  rw[hp]at ha
  have h0:((0:Int) != 0)=false:=rfl
  have hparts:=S5 hs.1 hs.2.1
  have hkl:=Cj hs.2.1
  have hg:=a1g ht s.kids (by omega) (fun k hk=>Cg hs hk)
  rw[h3]
  subst hx
  subst hps
  generalize D8 t s.kids=r at *
  rcases r with⟨c,_ | u⟩
  all_goals
   simp only[Dh,CD]at hg ⊢
   refine A6 Tryz.func85 Tryz.ntmps85 ?_
   refine A0 trivial ?_
   refine w7 (A3 [] ha) trivial ?_
   refine A0 h0 ?_
   refine w9 (Aa [] hparts) trivial ?_
   refine w9 (Aa [] hg) trivial ?_
   refine A0 trivial ?_
   exact Am (A7 []) Tryz.results85
end
section
open Go.RowKit
set_option maxRecDepth 10000
variable {o:Obj}
def Dd (t:V):List (List V×V):=(t.paths []).filter fun p=>!FR p
def JZ:ByteArray:=⟨#[32,61,32]⟩
def QU (p:List V×V):ByteArray:=AW p.1++JZ++p.2.txt++bS 10
def DF (l:List (List V×V)):ByteArray:=l.foldl (fun a p=>a++QU p) ByteArray.empty
theorem Mh {l:List (List V×V)}{k:Nat}(h:k<l.length):DF (l.take (k+1))=DF (l.take k)++QU l[k]:=by
 unfold DF
 rw[List.take_succ_eq_append_getElem h,List.foldl_append]
 rfl
structure LeafOk (t:V) (p:List V×V):Prop where
 get:D8 t p.1=okR p.2
 keys:∀k∈p.1,k.right
 len:p.1.length≤20
 right:p.2.right
 sk:∀q∈p.1,FV q
theorem a0x {t:V}(ht:t.right) {p:List V×V}(hp:p∈Dd t):LeafOk t p:=by
 have hm:=(List.mem_filter.1 hp).1
 obtain⟨h1,h2,h3,h4⟩:=a2a ht hm
 exact⟨h1,h2,h3,h4,(v8 t [] ht (by simp) p hm).1⟩
theorem R1 {t:V}(ht:t.right):(Dd t).length≤200:=by
 have h1:=List.length_filter_le (fun p:List V×V=>!FR p) (t.paths [])
 rw[DI]at h1
 have:=ht.2.1
 unfold Dd
 omega
theorem Q9 {p:List V}(h:∀k∈p,k.right) (hl:p.length≤20):(AW p).size≤2500:=by
 have h1:=Ee h p.length (Nat.le_refl _)
 rw[List.take_length]at h1
 omega
theorem a08:JZ.size=3:=rfl
theorem I6 {t:V}{p:List V×V}(h:LeafOk t p):(QU p).size≤53000:=by
 have h1:=Q9 h.keys h.len
 have h2:=En h.right
 unfold QU
 simp only[ByteArray.size_append,a08,BJ]
 omega
theorem Vq {l:List (List V×V)}(h:∀p∈l,(QU p).size≤53000):∀k,k≤l.length→(DF (l.take k)).size≤53000*k:=by
 intro k
 induction k with
 |zero=>intro _;simp[DF]
 |succ k ih =>
  intro hk
  have h1:=ih (by omega)
  have h2:=h _ (List.getElem_mem (by omega:k<l.length))
  rw[Mh (by omega),ByteArray.size_append]
  omega
theorem a2p {t:V}(ht:t.right):AC Tryz.prog 48 [t.av] (Kc o) (.c (.str (DF (Dd t)))) (Kc o):=by
 have hc:=ht.2.1
 have hlv:=a1m t (by omega) (Ls ht)
 have hok:=fun p hp=>a0x (p:=p) ht hp
 have hll:=R1 ht
 change AC Tryz.prog 97 [t.av] [] (.own (0,0)) [((0,0),.row false 6 79 ((Dd t).map Ac))]at hlv
 generalize Dd t=l at *
 have hsz:=Vq (l:=l) fun p hp=>I6 (hok p hp)
 have hln:(l.map Ac).length=l.length:=by simp
 have h0:DF (l.take 0)=ByteArray.empty:=rfl
 refine A6 Tryz.func48 Tryz.ntmps48 ?_
 refine ER trivial ?_
 refine Br ?_
 refine ER trivial ?_
 refine Br ?_
 (apply (a0l a22);(iterate 3 (focus (first | (simp only[go_sem,Nat.reduceEqDiff,Nat.reduceAdd,Nat.reduceSub,Nat.reduceLeDiff,Nat.reduceMul,Nat.reduceBEq,Nat.reduceLT,Int.reduceToNat,reduceCtorEq];first | done | exact rfl | (and_intros<;>rfl)) | exact rfl | decide))));(apply (a1o 5 a22);(iterate 4 (focus (first | (simp only[go_sem,Nat.reduceEqDiff,Nat.reduceAdd,Nat.reduceSub,Nat.reduceLeDiff,Nat.reduceMul,Nat.reduceBEq,Nat.reduceLT,Int.reduceToNat,reduceCtorEq];first | done | exact rfl | (and_intros<;>rfl)) | exact rfl | decide))));(apply (u5 a22);(iterate 6 (focus (first | (simp only[go_sem,Nat.reduceEqDiff,Nat.reduceAdd,Nat.reduceSub,Nat.reduceLeDiff,Nat.reduceMul,Nat.reduceBEq,Nat.reduceLT,Int.reduceToNat,reduceCtorEq];first | done | exact rfl | (and_intros<;>rfl)) | exact rfl | decide))))
 refine A0 trivial ?_
 refine w12 (IE [] hlv) trivial ?_
 refine A0 hln ?_
 refine AG (κ:=Nat) (fun k=>⟨mkS 0 26 [(3,.ptr (3,0) 0),(8,.own (97,0)),(9,.c (.int .i64 l.length)),(10,.c (.int .i64 k))],
   [((3,0),a2k (DF (l.take k))),((97,0),.row false 6 79 (l.map Ac)),((8,0),.blk (Kb o) [])]⟩)
  (fun k=>k≤l.length) (fun k=>l.length-k) 0 (Nat.zero_le _) ?_ ?_
 ·exact Aq (As.of [((3,0),(3,0)),((97,0),(8,1)),((8,0),(8,0))] []) h0
 ·intro k hk
  have hz1:=hsz k hk
  by_cases hlt:k<l.length
  ·have hdk:decide ((k:Int)<(l.length:Int))=true:=by simpa using hlt
   have hw:=Ae (k:=k) (by omega)
   have hr:Aj (l.map Ac) 6 k=true:=by simp[Aj,hlt,Ac]
   have hg:(l.map Ac)[k]? = some [.sl (l[k].1.map V.cs),.int .i64 l[k].2.kind,.int .i64 l[k].2.num,.str l[k].2.text,.sl (l[k].2.keys.map Ab),.sl (l[k].2.kids.map V.cs)]:=by simp[hlt,Ac]
   have hp:=hok _ (List.getElem_mem hlt)
   have hpt:=Hi (o:=o) hp.keys (by have:=hp.len;omega)
   have hen:=QM (o:=o) hp.right
   have hps:=Q9 hp.keys hp.len
   have hts:=En hp.right
   have hls:=I6 hp
   have hnx:=(Mh hlt).symm
   have hwr:=ZD (DF (l.take k)) (QU l[k]) (by omega)
   rw[hnx]at hwr
   unfold QU JZ at hwr
   have x1:(AW l[k].1).size+3≤9223372036854775807:=by omega
   have x2:(AW l[k].1++⟨#[32,61,32]⟩).size+l[k].2.txt.size≤9223372036854775807:=by rw[ByteArray.size_append];have:(⟨#[32,61,32]⟩:ByteArray).size=3:=rfl;omega
   have x3:(AW l[k].1++⟨#[32,61,32]⟩++l[k].2.txt).size+1≤9223372036854775807:=by simp only[ByteArray.size_append];have:(⟨#[32,61,32]⟩:ByteArray).size=3:=rfl;omega
   generalize l[k]=q at *
   generalize hu1:AW q.1++⟨#[32,61,32]⟩=u1 at *
   generalize hu2:u1++q.2.txt=u2 at *
   refine A0 (j3 hdk hr hg) ?_
   refine w10 (EB FM FI (8,0) [] hpt) trivial ?_
   refine A0 (j2 x1 hu1) ?_
   refine w10 (EB FM FI (8,0) [] hen) trivial ?_
   refine A0 (j3 x2 hu2 x3) ?_
   refine Ah (A4 [((0,0),(3,0))] [((0,0),(3,0))] hwr) trivial ?_
   refine A0 hw ?_
   refine⟨k+1,by omega,by omega,?_⟩
   exact Aq (As.of [((3,0),(3,0)),((97,0),(97,0)),((8,0),(8,0))] []) trivial
  ·have hdk:decide ((k:Int)<(l.length:Int))=false:=by simpa using hlt
   obtain rfl:k=l.length:=by omega
   have hall:l.take l.length=l:=List.take_length
   have hst:=d6 (DF l)
   refine A0 (j2 hdk hall) ?_
   refine Ah (A4 [((0,0),(3,0))] [] hst) trivial ?_
   refine A0 trivial ?_
   exact A9 (A8 [((8,0),(8,0))] []) Tryz.results48 hdk
def M5 (p:List V×V):List CellD:=(DB p.1).enc
theorem NI:∀l:List (List V×V),B3 (l.map Wd)=(l.map M5).map AD
 | []=>rfl
 |p::l=>by simp only[List.map_cons,B3,NI l,Wd,M5,BV,C.forget,Ei,AD]
theorem ZB {t:V}(ht:t.right):AC Tryz.prog 84 [Ce t.enc] [] (.agg [.c (.int .i64 0),.c (.sl (((Dd t).map M5).map AD))]) []:=by
 have h:=Si ht.1 ht.2.1 ht.2.2
 have hf:=NI (Dd t)
 unfold Dd at hf ⊢
 (apply (AC.says [] [(0,0)] h);(focus (simp only[go_sem,Nat.reduceEqDiff,Nat.reduceAdd,Nat.reduceSub,Nat.reduceLeDiff,Nat.reduceMul,Nat.reduceBEq,Nat.reduceLT,Int.reduceToNat,reduceCtorEq,hf];try (and_intros<;>rfl)));(focus exact rfl);(focus (simp only[go_sem,Nat.reduceEqDiff,Nat.reduceAdd,Nat.reduceSub,Nat.reduceLeDiff,Nat.reduceMul,Nat.reduceBEq,Nat.reduceLT,Int.reduceToNat,reduceCtorEq,hf];try (and_intros<;>rfl)));(focus exact rfl);(iterate 4 (focus (simp[go_sem,hf];done))))
theorem x9 {t:V}(ht:t.right):AC Tryz.prog 44 [Ce t.enc] [] (.agg [.c (.int .i64 0),.c (.str (DF (Dd t)))]) []:=by
 have hne:((0:Int) != 0)=false:=rfl
 have hlv:=ZB ht
 have hok:=fun p hp=>a0x (p:=p) ht hp
 have hll:=R1 ht
 generalize Dd t=l at *
 have hsz:=Vq (l:=l) fun p hp=>I6 (hok p hp)
 have hln:(((l.map M5).map AD)).length=l.length:=by simp
 have h0:DF (l.take 0)=ByteArray.empty:=rfl
 refine A6 Tryz.func44 Tryz.ntmps44 ?_
 refine A0 trivial ?_
 refine w9 (Aa [] hlv) trivial ?_
 refine A0 hne ?_
 refine AG (κ:=Nat) (fun k=>⟨mkS 0 44 [(0,Ce t.enc),(2,.ptr (2,0) 0),(3,.ptr (3,0) 0),(4,.c (.str (DF (l.take k)))),(5,.c (.int .i64 k))],
   [((2,0),.box [.c (.int .i64 0),.c (.str ByteArray.empty)]),((3,0),.box [.c (.int .i64 0),.c (.sl ((l.map M5).map AD))])]⟩)
  (fun k=>k≤l.length) (fun k=>l.length-k) 0 (Nat.zero_le _) ?_ ?_
 ·exact Aq (As.of [((2,0),(2,0)),((3,0),(3,0))] []) h0
 ·intro k hk
  have hz1:=hsz k hk
  by_cases hlt:k<l.length
  ·have hdk:decide ((k:Int)<(l.length:Int))=true:=by simpa using hlt
   have hw:=Ae (k:=k) (by omega)
   have hr:Aj ((l.map M5).map AD) 1 k=true:=by simp[Aj,hlt,AD]
   have hg:((l.map M5).map AD)[k]? = some [.sl ((M5 l[k]).map CellD.cs)]:=by simp[hlt,AD]
   have hp:=hok _ (List.getElem_mem hlt)
   have har:=XY hp.sk (by have:=hp.len;omega)
   have hpd:=a1r hp.sk (by have:=hp.len;omega)
   have hbk:(DB l[k].1).kids.any BM=false:=by
    rw[List.any_eq_false]
    intro q hq
    have:=(hp.sk q hq).2.2.2
    unfold BM
    rcases this with h | h<;>simp[h]
   have hpt:=FW har hpd hbk
   have hgp:=ZA t.enc (DB l[k].1).enc
   have hask:G3 t.enc (DB l[k].1).enc D8=okR l[k].2:=by unfold G3;rw[J9 ht];simp only[hpd];exact hp.get
   rw[hask]at hgp
   unfold okR at hgp
   rw[Dh]at hgp
   have hen:=MI _ l[k].2 (Nat.le_refl _) hp.right
   have hps:=Q9 hp.keys hp.len
   have hts:=En hp.right
   have hls:=I6 hp
   have hnx:=Mh hlt
   unfold QU JZ at hnx
   change AC Tryz.prog 79 [Ce (M5 l[k])] [] (.agg [.c (.int .i64 0),.c (.str (AW l[k].1))]) []at hpt
   change AC Tryz.prog 85 [Ce t.enc,Ce (M5 l[k])] [] (.agg [.c (.int .i64 0),.c (.sl (l[k].2.enc.map CellD.cs))]) []at hgp
   have hy:DF (l.take k)++AW l[k].1++⟨#[32,61,32]⟩++l[k].2.txt++bS 10=DF (l.take (k+1)):=by rw[hnx];simp only[ByteArray.append_assoc]
   have e3:(⟨#[32,61,32]⟩:ByteArray).size=3:=rfl
   have x0:(DF (l.take k)).size+(AW l[k].1).size≤9223372036854775807:=by omega
   have x1:(DF (l.take k)++AW l[k].1).size+3≤9223372036854775807:=by rw[ByteArray.size_append];omega
   have x2:(DF (l.take k)++AW l[k].1++⟨#[32,61,32]⟩).size+l[k].2.txt.size≤9223372036854775807:=by simp only[ByteArray.size_append,e3];omega
   have x3:(DF (l.take k)++AW l[k].1++⟨#[32,61,32]⟩++l[k].2.txt).size+1≤9223372036854775807:=by simp only[ByteArray.size_append,e3];omega
   generalize l[k]=q at *
   generalize hu0:DF (l.take k)++AW q.1=u0 at *
   generalize hu1:u0++⟨#[32,61,32]⟩=u1 at *
   generalize hu2:u1++q.2.txt=u2 at *
   refine A0 (j4 hln hdk hr hg) ?_
   refine w7 (A3 [] hpt) trivial ?_
   refine A0 (j6 x0 hu0 x1 hu1 hr hg) ?_
   refine w9 (Aa [] hgp) trivial ?_
   refine A0 trivial ?_
   refine w7 (A3 [] hen) trivial ?_
   refine A0 (j5 x2 hu2 x3 hy hw) ?_
   refine⟨k+1,by omega,by omega,?_⟩
   exact Aq (As.of [((2,0),(2,0)),((3,0),(3,0))] []) trivial
  ·have hdk:decide ((k:Int)<(l.length:Int))=false:=by simpa using hlt
   obtain rfl:k=l.length:=by omega
   have hall:l.take l.length=l:=List.take_length
   refine A0 (j3 hln hdk hall) ?_
   exact A9 (A8 [] []) Tryz.results44 hall
end
end Go.Proofs.YtllfmaflodbieaaGreatDoor
