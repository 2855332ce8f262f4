/- Texts of this proof: R17 R18 E37 R19. -/
import Derived.Test.YtllfmaflodbieaaGreatDoorKM51uR16
set_option linter.all false
set_option maxHeartbeats 8000000
namespace Go.Proofs.YtllfmaflodbieaaGreatDoor
section
open Go.RowKit Go.Shelf
theorem NK (sep:ByteArray):∀l:List ByteArray,(⟨(Lib.join (l.map (·.data.toList)) sep.data.toList).toArray⟩:ByteArray)=DX sep l
 | []=>rfl
 | [x]=>by rw[List.map_cons,List.map_nil,Lib.join_one];rfl
 |x::y::r=>by
  have ih:=NK sep (y::r)
  rw[JU sep x (by simp),←ih]
  have e:Lib.join (List.map (fun x:ByteArray=>x.data.toList) (x::y::r)) sep.data.toList=x.data.toList++sep.data.toList++Lib.join (List.map (fun x:ByteArray=>x.data.toList) (y::r)) sep.data.toList:=by
   simp[Lib.join,List.intercalate]
  rw[e,←JC,←JC]
theorem a1j (l:List ByteArray) (sep:ByteArray) (hl:l.length≤1000000) (hsz:(DX sep l).size≤1000000000):AC Tryz.prog 110 [.c (.sl (l.map Ac)),.c (.str sep)] [] (.c (.str (DX sep l))) []:=by
 refine AC.of_calls fun S w κ vs hv=>?_
 obtain⟨v,vs',rfl,h1,v2,vs2,rfl,⟨rfl,_⟩,rfl⟩:=hv
 obtain⟨A,cap,rfl,hcap,hc⟩:=Wq.1 h1
 by_cases h0:l=[]
 ·subst h0
  refine (Any.strings_Join_none H0 FZ A cap sep w).mono ?_
  rintro e w' ⟨rfl,rfl⟩
  exact⟨Below.refl _ _,_,rfl,fun T _ _=>⟨rfl,rfl⟩⟩
 ·have hp:0<l.length:=List.length_pos_iff.2 h0
  obtain⟨b,o,rfl,hb⟩:∃b o,A=some ⟨b,o,none⟩∧(b<w.heap.size∧∀(j:Nat) x,l[j]? = some x→w.cell? ⟨b,o+j,none⟩=some (.string x)):=by
   obtain⟨b,off,rfl,_,hbl,hcl⟩:=hc.2 (by simpa using hp)
   refine⟨b,off,rfl,hbl,fun j x hx=>?_⟩
   have:=hcl j [.string x] (by simp[hx]) 0 _ rfl
   simpa using this
  refine (Any.strings_Join H0 FZ b o cap l sep w hb.2 hb.1 (by omega) hcap ?_).mono ?_
  ·have:=NK sep l
   rw[←this]at hsz
   have h2:(⟨(Lib.join (l.map (·.data.toList)) sep.data.toList).toArray⟩:ByteArray).size=(Lib.join (l.map (·.data.toList)) sep.data.toList).length:=by show (List.toArray _).size=_;simp
   omega
  ·rintro e w' ⟨rfl,hbw⟩
   exact⟨hbw,_,rfl,fun T _ _=>⟨NK sep l▸rfl,rfl⟩⟩
end
section
open Go.RowKit
set_option maxRecDepth 10000
variable {o:Obj}
theorem UP:∀(n:Nat) (t:V),t.count≤n→t.right→AC Tryz.prog 92 [t.av] (Jn o) (.c (.str t.txt)) (Jn o):=by
 intro n
 induction n with
 |zero=>intro t hn _;have:=AY t;omega
 |succ n ih =>
  intro t hn ht
  have hk:=Gb ht
  have hnum:=FI ht
  have hs:=Fg (F0 ht)
  have hcase:t.kind=0∨t.kind=1∨t.kind=2∨t.kind=3∨t.kind=4∨(t.kind=5∨t.kind=6):=by omega
  rcases hcase with h | h | h | h | h | h
  ·have b0:(t.kind==0)=true:=by simp[h]
   have hr:WY=⟨#[110,117,108,108]⟩:=rfl
   rw[IN h]
   refine A5 Tryz.func92 Tryz.ntmps92 ?_
   refine A3 b0 ?_
   exact Ab (Aa [((8,0),(8,0))] []) Tryz.results92 hr
  ·have b0:(t.kind==0)=false:=by simp[h]
   have b1:(t.kind==1)=true:=by simp[h]
   have hr:R7=⟨#[102,97,108,115,101]⟩:=rfl
   rw[Hc h]
   refine A5 Tryz.func92 Tryz.ntmps92 ?_
   refine A3 (j2 b0 b1) ?_
   exact Ab (Aa [((8,0),(8,0))] []) Tryz.results92 hr
  ·have b0:(t.kind==0)=false:=by simp[h]
   have b1:(t.kind==1)=false:=by simp[h]
   have b2:(t.kind==2)=true:=by simp[h]
   have hr:Xb=⟨#[116,114,117,101]⟩:=rfl
   rw[IP h]
   refine A5 Tryz.func92 Tryz.ntmps92 ?_
   refine A3 (j3 b0 b1 b2) ?_
   exact Ab (Aa [((8,0),(8,0))] []) Tryz.results92 hr
  ·have b0:(t.kind==0)=false:=by simp[h]
   have b1:(t.kind==1)=false:=by simp[h]
   have b2:(t.kind==2)=false:=by simp[h]
   have b3:(t.kind==3)=true:=by simp[h]
   have h1:=Rb (o:=o) t.num (by omega) (by omega)
   rw[KY h]
   refine A5 Tryz.func92 Tryz.ntmps92 ?_
   refine A3 (j4 b0 b1 b2 b3) ?_
   refine A7 (A0 [((8,0),(8,0))] [((8,0),(8,0))] h1) q9 ?_
   refine A3 q9 ?_
   exact Ab (Aa [((8,0),(8,0))] []) Tryz.results92 b0
  ·have b0:(t.kind==0)=false:=by simp[h]
   have b1:(t.kind==1)=false:=by simp[h]
   have b2:(t.kind==2)=false:=by simp[h]
   have b3:(t.kind==3)=false:=by simp[h]
   have b4:(t.kind==4)=true:=by simp[h]
   have h1:=I4 t.text (by omega)
   rw[L0 h]
   refine A5 Tryz.func92 Tryz.ntmps92 ?_
   refine A3 (j5 b0 b1 b2 b3 b4) ?_
   refine w7 (A8 [] h1) q9 ?_
   refine A3 q9 ?_
   exact Ab (Aa [((8,0),(8,0))] []) Tryz.results92 b0
  ·have b0:(t.kind==0)=false:=by simp;omega
   have b1:(t.kind==1)=false:=by simp;omega
   have b2:(t.kind==2)=false:=by simp;omega
   have b3:(t.kind==3)=false:=by simp;omega
   have b4:(t.kind==4)=false:=by simp;omega
   have hkl:=B6 ht.2.1
   have hlk:(t.kids.map V.cs).length=t.kids.length:=by simp
   have h0:(t.parts.take 0).map Ac=[]:=rfl
   refine A5 Tryz.func92 Tryz.ntmps92 ?_
   refine A3 (j6 b0 b1 b2 b3 b4 hlk) ?_
   refine AZ (κ:=Nat) (fun k=>⟨mkS 0 64 [(1,.ptr (1,0) 0),(3,.own (98,0)),(27,.c (.sl (t.kids.map V.cs))),(28,.c (.int .i64 t.kids.length)),(29,.c (.int .i64 k))],
     [((1,0),.box [.c (.int .i64 t.kind),.c (.int .i64 t.num),.c (.str t.text),.c (.sl (t.keys.map Ac)),.c (.sl (t.kids.map V.cs))]),((98,0),.row false 1 9 ((t.parts.take k).map Ac)),((8,0),.blk (MH o) [])]⟩)
    (fun k=>k≤t.kids.length) (fun k=>t.kids.length-k) 0 (Nat.zero_le _) ?_ ?_
   ·exact As (AH.of [((1,0),(1,0)),((98,0),(25,0)),((8,0),(8,0))] []) h0
   ·intro k hk1
    have hz:=XR ht hk1
    by_cases hlt:k<t.kids.length
    ·have hdk:decide ((k:Int)<(t.kids.length:Int))=true:=by simpa using hlt
     have hw:=AA (k:=k) (by omega)
     have hr:Ae (t.kids.map V.cs) 5 k=true:=by simp[Ae,hlt,V.cs_eq]
     have hg:(t.kids.map V.cs)[k]? = some [.int .i64 t.kids[k].kind,.int .i64 t.kids[k].num,.str t.kids[k].text,.sl (t.kids[k].keys.map Ac),.sl (t.kids[k].kids.map V.cs)]:=by simp[hlt,V.cs_eq]
     have hks:=Ms ht k
     have hes:=Li hks
     have hqk:=I4 (t.keyAt k) (by omega)
     have hmem:t.kids[k]∈t.kids:=List.getElem_mem hlt
     have hcm:=BB hmem
     have hck:=AK t
     have hxs:=He (AQ ht hmem)
     have he:=ih t.kids[k] (by omega) (AQ ht hmem)
     have hpl:(t.parts.take k).length+1≤1000000:=by rw[List.length_take];omega
     have hnext:(t.parts.take k).map Ac++[[.str (t.part k t.kids[k])]]=(t.parts.take (k+1)).map Ac:=by
      rw[List.take_succ_eq_append_getElem (by rw[EX];exact hlt),TM t hlt,List.map_append];rfl
     unfold V.part at hnext
     rcases h with h | h
     ·have b6:(t.kind==6)=false:=by simp[h]
      rw[if_neg (by omega)]at hnext
      generalize t.kids[k]=x at *
      refine A3 (j3 hdk hr hg) ?_
      refine A7 (A0 [((8,0),(8,0))] [((8,0),(8,0))] he) q9 ?_
      refine A3 (j3 b6 hpl hw) ?_
      refine⟨k+1,by omega,by omega,?_⟩
      exact As (AH.of [((1,0),(1,0)),((98,0),(51,0)),((8,0),(8,0))] []) hnext
     ·have b6:(t.kind==6)=true:=by simp[h]
      rw[if_pos h]at hnext
      obtain⟨hkk,hkey⟩:=J3 (Gc ht) h hlt
      have hrk:Ae (t.keys.map Ac) 1 k=true:=by simp[Ae,hkk,Ac]
      have hgk:(t.keys.map Ac)[k]? = some [.str (t.keyAt k)]:=by simp[hkk,Ac,hkey]
      generalize t.kids[k]=x at *
      generalize t.keyAt k=key at *
      have x1:(Dp key).size+1≤9223372036854775807:=by omega
      have x2:(Dp key++bS 58).size+x.txt.size≤9223372036854775807:=by simp only[ByteArray.size_append,D1];omega
      generalize hv1:Dp key++bS 58=v1 at *
      refine A3 (j3 hdk hr hg) ?_
      refine A7 (A0 [((8,0),(8,0))] [((8,0),(8,0))] he) q9 ?_
      refine A3 (j3 b6 hrk hgk) ?_
      refine w7 (A8 [] hqk) q9 ?_
      refine A3 (j5 x1 hv1 x2 hpl hw) ?_
      refine⟨k+1,by omega,by omega,?_⟩
      exact As (AH.of [((1,0),(1,0)),((98,0),(51,0)),((8,0),(8,0))] []) hnext
    ·have hdk:decide ((k:Int)<(t.kids.length:Int))=false:=by simpa using hlt
     obtain rfl:k=t.kids.length:=by omega
     have hall:t.parts.take t.kids.length=t.parts:=List.take_of_length_le (by rw[EX];exact Nat.le_refl _)
     rw[hall]at hz
     have hj:=a1j t.parts (bS 44) (by rw[EX];omega) (by omega)
     have hx1:1+(DX (bS 44) t.parts).size≤9223372036854775807:=by omega
     rcases h with h | h
     ·have b5:(t.kind==5)=true:=by simp[h]
      have hx2:(bS 91++DX (bS 44) t.parts).size+1≤9223372036854775807:=by rw[ByteArray.size_append,D1];omega
      have ht5:=(KX h).symm
      generalize hv1:bS 91++DX (bS 44) t.parts=v1 at *
      refine A3 (j3 hdk b5 hall) ?_
      refine w7 (A8 [(98,0)] hj) q9 ?_
      refine A3 (j4 hx1 hv1 hx2 ht5) ?_
      exact Ab (Aa [((8,0),(8,0))] []) Tryz.results92 ht5
     ·have b5:(t.kind==5)=false:=by simp[h]
      have hx2:(bS 123++DX (bS 44) t.parts).size+1≤9223372036854775807:=by rw[ByteArray.size_append,D1];omega
      have ht5:=(KZ h).symm
      generalize hv1:bS 123++DX (bS 44) t.parts=v1 at *
      refine A3 (j3 hdk b5 hall) ?_
      refine w7 (A8 [(98,0)] hj) q9 ?_
      refine A3 (j4 hx1 hv1 hx2 ht5) ?_
      exact Ab (Aa [((8,0),(8,0))] []) Tryz.results92 ht5
theorem UO {t:V}(h:t.right):AC Tryz.prog 92 [t.av] (Jn o) (.c (.str t.txt)) (Jn o):=UP _ t (Nat.le_refl _) h
theorem OM {t:V}(h:t.right):AC Tryz.prog 76 [Aq t.enc] (Jn o) (.c (.str t.txt)) (Jn o):=by
 have hd:=Cz h
 have hz:=Bu h
 have hv:=Ui t.enc hz (t:=t) (by rw[hd])
 have he:=UO (o:=o) h
 have hl:((t.enc.map CellD.cs).length==0)=false:=by
  have h1:=Bb t
  have:=AY t
  rw[List.length_map]
  simp;intro e;rw[e]at h1;simp at h1;omega
 have hl2:(((t.enc.length:Nat):Int)==0)=false:=by
  have h1:=Bb t
  have:=AY t
  simp;intro e;rw[e]at h1;simp at h1;omega
 refine A5 Tryz.func76 Tryz.ntmps76 ?_
 refine A3 hl2 ?_
 refine w9 (A6 [] hv) q9 ?_
 refine A3 q9 ?_
 refine A7 (A0 [((8,0),(8,0))] [((8,0),(8,0))] he) q9 ?_
 refine A3 q9 ?_
 exact Ab (Aa [((8,0),(8,0))] []) Tryz.results76 hl
end
section
open Go.RowKit
section
variable {P:Program} {o:Oper} {σ:ASt} {R:Nat→Value→List (List Value)→Obj→Prop}
theorem TS (hpin:∀b v vr obj b' v' vr' obj',R b v vr obj→R b' v' vr' obj'→b'=b∧obj'=obj) (hany:∀b v v' vr obj,R b v vr obj→R b v' vr obj)
  {t:Id} {bw:List Id} {x:C} {f:FuncId} {caps cargs:List AV} {fv:Operand} {args:Array Operand} {tys:Array TypeId} (ho:o.op=.call ⟨.value fv,args,tys⟩) (hv:σ.ev fv=.clo f caps) (hc:A4 P f=true)
  (hac:AC P f cargs [((8,0),.blk R [])] (.c x) [((8,0),.blk R [])]) (hm:Bw (fun _=>none) σ.mem bw cargs (args.toList.map σ.ev++caps)) (hrefs:Cq [] cargs=true) (hcl:x.closed=true) (ht:σ.mem.get t=some (.blk R [])) (htb:t ∉ bw) :
  F2 P o σ ⟨t::bw,[],.c x⟩:=by
 intro Γ σ' a w hag ⟨ow,κ,hr⟩ K Q hK
 have ht':σ'.mem.get t=some (.blk R []):=by rw[hag.2.1 t (by simp),ht]
 have hm':Bw (fun _=>none) σ'.mem bw cargs (args.toList.map σ.ev++caps):=hm.agree fun j hj=>hag.2.1 j (by simp[hj])
 obtain⟨g,obj,vr,g1,g2,g3,g4⟩:=hr.objs t _ ht'
 obtain⟨vs,v1,v2⟩:=hag.ev hr (by rw[ho];simp[Op.operands,Call.operands]) hv
 have hargs:ARs w (Γ.sees ow) σ'.mem κ (args.toList.map σ.ev++caps) (args.toList.map a.eval++vs) :=
  (ARs.map_ev hr _ fun x hx=>hag.1 x (by rw[ho];simp[Op.operands,Call.operands];exact .inr (by simpa using hx))).append v2
 let S0:Nat→Prop:=fun b=>Γ.sees ow b∨∃j,j∈bw∧ow b=some j
 let ow0:Nat→Option Id:=fun b=>if b=g then some (8,0) else none
 have hne:∀b,S0 b→b≠g:=by
  rintro b (hb | ⟨j,hj,hb⟩) rfl
  ·rw[hb.1]at g1;cases g1
  ·rw[g1]at hb;cases hb;exact htb hj
 have hS:∀b,S0 b→(⟨w,S0,ow0,κ,[(8,0)]⟩:Ctx).sees ow0 b:=fun b hb=>⟨if_neg (hne b hb),.inl hb⟩
 have hglt:g<w.heap.size:=(Array.getElem?_eq_some_iff.1 g2).1
 have hent:Entry ⟨w,S0,ow0,κ,[(8,0)]⟩ [((8,0),.blk R [])]:=by
  refine⟨fun i o' hi=>?_,fun b i hb=>?_,rfl⟩
  ·simp only[Mem.get,List.lookup_cons,List.lookup_nil]at hi
   by_cases hq:i=(8,0)
   ·subst hq
    obtain rfl:o'=.blk R []:=by simpa [eq_comm] using hi
    simp only[Aj]at g3
    refine⟨g,obj,vr,if_pos rfl,g2,?_,hany _ _ _ _ _ g4⟩
    simp only[Aj]
    exact g3
   ·have:(i==((8,0):Id))=false:=by simpa using hq
    rw[this]at hi
    cases hi
  ·simp only[ow0]at hb
   split at hb
   ·rename_i e
    subst e
    cases hb
    exact⟨hglt,_,rfl,rfl⟩
   ·cases hb
 have hmm:MatM (fun _=>none) bw [] σ'.mem:=⟨by simp,by simp,by simp,by simp,by simp⟩
 have har:=Bw.rep hmm (T:=(⟨w,S0,ow0,κ,[(8,0)]⟩:Ctx).sees ow0) (fun b hb=>hS b (.inl hb)) (fun b j hj hb=>hS b (.inr ⟨j,hj,hb⟩)) hr.objs hm' hrefs hargs
 have har':ARs w ((⟨w,S0,ow0,κ,[(8,0)]⟩:Ctx).sees ow0) [((8,0),.blk R [])] κ cargs (args.toList.map a.eval++vs) :=
  ARs.keep (Nat.le_refl _) (fun b hb _=>⟨rfl,hb⟩) (fun i o h=>by simp[Mem.get]at h) har
 have hcall:=hac ⟨w,S0,ow0,κ,[(8,0)]⟩ (args.toList.map a.eval++vs) hent har'
 unfold Oper.wp
 have hrun:(execOp a.eval o).run P w=.ok (.enter f (args.toList.map a.eval++vs).toArray) w:=by
  unfold execOp
  rw[ho]
  simp only[resolve,v1,Deferred.ofValue,Sem.run_bind,Sem.run_pure,Result.andThen_ok,invoke]
  rw[KO hc]
  congr 2
  apply Array.ext'
  simp
 rw[hrun,Oper.upon_enter]
 refine hcall.mono ?_
 rintro e w' ⟨v,ow',κ',rfl,hx⟩
 obtain⟨b',obj',vr',k1,k2,k3,k4⟩:=hx.objs (8,0) _ rfl
 obtain⟨rfl,rfl⟩:=hpin _ _ _ _ _ _ _ _ g4 k4
 have hall:∀b,b<w.heap.size→w'.heap[b]? = w.heap[b]?:=fun b hb=>by
  by_cases hbg:b=b'
  ·subst hbg
   exact k2.trans g2.symm
  ·exact (hx.frame b hb (if_neg hbg)).1
 have hres:CR w' (Γ.sees ow) x v []:=CR.closed hcl hx.res
 have st:Step σ'.mem [] w ow κ w' ow κ:=⟨hx.os,hx.tape,hx.output,hx.size,fun b hb _=>⟨hall b hb,rfl⟩,fun b i hb=>.inl ⟨by simp,hb⟩,fun _ _ _=>rfl,fun i hi=>by simp at hi⟩
 exact hK _ _ ⟨ow,κ,hr.step (E:=⟨t::bw,[],.c x⟩) st hres (fun i hi=>by simp at hi) o.dst⟩
end
section
variable {P:Program} {σ τ:ASt} {ops:Array Oper} {r:List Oper} {fs:List AEff} {K:ASt→List AEff→Prop} {E:AEff} {R:Nat→Value→List (List Value)→Obj→Prop} {d:Option Tmp} {ty:TypeId} {pos:String} {af:Array Edge} {gd:Option (Nat×Bool)}
theorem Fh (hpin:∀b v vr obj b' v' vr' obj',R b v vr obj→R b' v' vr' obj'→b'=b∧obj'=obj) (hany:∀b v v' vr obj,R b v vr obj→R b v' vr obj)
  (t:Id) (bw:List Id) {x:C} {f:FuncId} {caps cargs:List AV} {fv:Operand} {args:Array Operand} {tys:Array TypeId}
  (hac:AC P f cargs [((8,0),.blk R [])] (.c x) [((8,0),.blk R [])]) (hg:BM ops σ ⟨d,.call ⟨.value fv,args,tys⟩,ty,pos,af,gd⟩=some true) (hv:σ.ev fv=.clo f caps) (hc:A4 P f=true)
  (hm:Bw (fun _=>none) σ.mem bw cargs (args.toList.map σ.ev++caps)) (hrefs:Cq [] cargs=true) (hcl:x.closed=true) (ht:σ.mem.get t=some (.blk R [])) (htb:t ∉ bw)
  (he:(⟨t::bw,[],.c x⟩:AEff)=E) (hτ:σ.upd d E=τ) (h:Ah P ops r τ (fs++[E]) K):Ah P ops (⟨d,.call ⟨.value fv,args,tys⟩,ty,pos,af,gd⟩::r) σ fs K:=by
 subst he
 exact BV hg (TS hpin hany rfl hv hc hac hm hrefs hcl ht htb) hτ h
end
end
section
open Go.RowKit
set_option maxRecDepth 10000
variable {o:Obj}
theorem Gy:∀b v vr obj b' v' vr' obj',MH o b v vr obj→MH o b' v' vr' obj'→b'=b∧obj'=obj:=by
 rintro b v vr obj b' v' vr' obj' ⟨h1,h2,_⟩ ⟨k1,k2,_⟩
 exact⟨Option.some.inj (k2.symm.trans h2),k1.trans h1.symm⟩
theorem Gx:∀b v v' vr obj,MH o b v vr obj→MH o b v' vr obj:=fun _ _ _ _ _ h=>h
def OJ (xs:List CellD):V:=(dec xs).2.getD BA
def Sz:ByteArray:=⟨#[100,114,111,112,32]⟩
def U1:ByteArray:=⟨#[115,101,116,32]⟩
def DK (d:EditD):ByteArray:=if d.op=2 then Sz++(OJ d.path).txt else U1++(OJ d.path).txt++bS 32++(OJ d.x).txt
def lnS (d:EditD):ByteArray:=DK d++bS 10
def CK (l:List EditD):ByteArray:=l.foldl (fun a d=>a++lnS d) ByteArray.empty
theorem Nz {l:List EditD}{k:Nat}(h:k<l.length):CK (l.take (k+1))=CK (l.take k)++lnS l[k]:=by
 unfold CK
 rw[List.take_succ_eq_append_getElem h,List.foldl_append]
 rfl
theorem DG {d:EditD}(h:Al d=0):(∃q,dec d.path=(0,some q)∧d.path=q.enc∧q.right)∧(d.op=2∨(d.op=1∧∃u,dec d.x=(0,some u)∧d.x=u.enc∧u.right)):=by
 unfold Al at h
 split at h
 ·omega
 ·rename_i hop
  have hop':d.op=1∨d.op=2:=by
   by_cases h1:d.op=1
   ·exact .inl h1
   ·by_cases h2:d.op=2
    ·exact .inr h2
    ·exfalso;apply hop;simp[h1,h2]
  rcases Du d.path with⟨t,ht,hw,hc,hdp,hk5,hkb,hpd⟩ | ⟨c,hc0,hpd⟩
  ·have hr:t.right:=⟨hw,hc,hdp⟩
   have hq:dec d.path=(0,some t):=by rw[ht];exact Cz hr
   refine⟨⟨t,hq,ht,hr⟩,?_⟩
   rw[hpd]at h
   simp only at h
   rcases hop' with h1 | h2
   ·refine .inr ⟨h1,?_⟩
    rw[if_pos (by simp[h1])]at h
    rcases DR d.x with⟨u,hu⟩ | ⟨c,hc,hd⟩
    ·obtain⟨e1,w1,w2,w3⟩:=Ih hu
     exact⟨u,hu,e1,w1,w2,w3⟩
    ·rw[hd]at h;exact absurd h hc
   ·exact .inl h2
  ·rw[hpd]at h
   exact absurd h hc0
theorem HY {xs:List CellD}{t:V}(h:dec xs=(0,some t)):OJ xs=t:=by unfold OJ;rw[h];rfl
theorem Tl {d:EditD}(h:Al d=0):(lnS d).size≤100010:=by
 obtain⟨⟨q,hq,_,hqr⟩,hx⟩:=DG h
 have h1:=He hqr
 unfold lnS DK
 rw[HY hq]
 have e1:Sz.size=5:=rfl
 have e2:U1.size=4:=rfl
 rcases hx with h2 | ⟨h2,u,hu,_,hur⟩
 ·rw[if_pos h2]
  simp only[ByteArray.size_append,D1]
  omega
 ·rw[if_neg (by omega),HY hu]
  have h3:=He hur
  simp only[ByteArray.size_append,D1]
  omega
theorem NA {l:List EditD}(h:∀d∈l,Al d=0):∀k,k≤l.length→(CK (l.take k)).size≤100010*k:=by
 intro k
 induction k with
 |zero=>intro _;simp[CK]
 |succ k ih =>
  intro hk
  have h1:=ih (by omega)
  have h2:=Tl (h _ (List.getElem_mem (by omega:k<l.length)))
  rw[Nz (by omega),ByteArray.size_append]
  omega
theorem JN {l:List EditD}(h:Bk l=0):l.length≤100∧∀d∈l,Al d=0:=by
 unfold Bk at h
 split at h
 ·omega
 ·rename_i hl
  refine⟨by omega,?_⟩
  clear hl
  induction l with
  |nil=>simp
  |cons d l ih =>
   unfold CZ at h
   split at h
   ·omega
   ·rename_i h0
    intro e he
    rcases List.mem_cons.1 he with rfl | he
    ·simpa using h0
    ·exact ih h e he
theorem Fd {d:EditD}(h:Al d=0):AC Tryz.prog 38 [d.av] (Jn o) (.c (.str (lnS d))) (Jn o):=by
 obtain⟨⟨q,hq,hqe,hqr⟩,hx⟩:=DG h
 have h1:=He hqr
 have he:=OM (o:=o) hqr
 rw[←hqe]at he
 unfold lnS DK
 rw[HY hq]
 rcases hx with h2 | ⟨h2,u,hu,hue,hur⟩
 ·have b2:(d.op==2)=true:=by simp[h2]
  rw[if_pos h2]
  have hr:Sz=⟨#[100,114,111,112,32]⟩:=rfl
  have hs4:Sz.size=5:=rfl
  have x1:5+q.txt.size≤9223372036854775807:=by omega
  have x2:(Sz++q.txt).size+1≤9223372036854775807:=by simp only[ByteArray.size_append,hs4];omega
  rw[hr]at x2 ⊢
  generalize hv1:(⟨#[100,114,111,112,32]⟩:ByteArray)++q.txt=v1 at *
  refine A5 Tryz.func38 Tryz.ntmps38 ?_
  refine A3 b2 ?_
  refine w10 (Fh Gy Gx (8,0) [] he) q9 ?_
  refine A3 (j3 x1 hv1 x2) ?_
  exact Ab (Aa [((8,0),(8,0))] []) Tryz.results38 b2
 ·have b2:(d.op==2)=false:=by simp[h2]
  rw[if_neg (by omega),HY hu]
  have h3:=He hur
  have he2:=OM (o:=o) hur
  rw[←hue]at he2
  have hr:U1=⟨#[115,101,116,32]⟩:=rfl
  have hs4:U1.size=4:=rfl
  have x1:4+q.txt.size≤9223372036854775807:=by omega
  have x2:(U1++q.txt).size+1≤9223372036854775807:=by simp only[ByteArray.size_append,hs4];omega
  have x3:(U1++q.txt++bS 32).size+u.txt.size≤9223372036854775807:=by simp only[ByteArray.size_append,hs4,D1];omega
  have x4:(U1++q.txt++bS 32++u.txt).size+1≤9223372036854775807:=by simp only[ByteArray.size_append,hs4,D1];omega
  rw[hr]at x2 x3 x4 ⊢
  generalize hv1:(⟨#[115,101,116,32]⟩:ByteArray)++q.txt=v1 at *
  generalize hv2:v1++bS 32=v2 at *
  generalize hv3:v2++u.txt=v3 at *
  refine A5 Tryz.func38 Tryz.ntmps38 ?_
  refine A3 b2 ?_
  refine w10 (Fh Gy Gx (8,0) [] he) q9 ?_
  refine A3 (j4 x1 hv1 x2 hv2) ?_
  refine w10 (Fh Gy Gx (8,0) [] he2) q9 ?_
  refine A3 (j3 x3 hv3 x4) ?_
  exact Ab (Aa [((8,0),(8,0))] []) Tryz.results38 b2
end
end Go.Proofs.YtllfmaflodbieaaGreatDoor
