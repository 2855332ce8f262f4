/- The laws' own functions on an argument []Core: szCore, szCoreS, toCore, toCoreS, eqCore, eqCoreS, markCoreS, heldCoreS. Printed by gen_k02.py. -/
import Derived.Test.YtcejfdfmgmcinaaGreatKM61uG42
set_option linter.all false
set_option maxHeartbeats 8000000
namespace Go.Proofs.YtcejfdfmgmcinaaGreat
open Go.RowKit
set_option maxRecDepth 10000
def CoD.cs (d:CoD):List C:=[.int .i64 d.op,.int .i64 d.a,.int .i64 d.b,.int .i64 d.c,.int .i64 d.num,.sl (d.val.map CellD.cs)]
def CoD.av (d:CoD):AV:=.agg [.c (.int .i64 d.op),.c (.int .i64 d.a),.c (.int .i64 d.b),.c (.int .i64 d.c),.c (.int .i64 d.num),.c (.sl (d.val.map CellD.cs))]
abbrev AE (l:List CoD):AV:=.c (.sl (l.map CoD.cs))
attribute [go_sem] CoD.av
def CoD.os (d:CoD):List C:=[.int .i64 d.op,.int .i64 d.a,.int .i64 d.b,.int .i64 d.c,.int .i64 d.num,.osl (d.val.map CellD.cs)]
def S1 (l:List CoD) (left:Int):Int:=Ph (l.map CoD.val) left
def Bd (l:List CoD):Nat:=(l.map fun d=>5+5*d.val.length).sum
theorem Xb (l:List CoD) (left:Int) (h:0≤left):S1 l left≤left:=a3c _ left h
theorem Hq:∀(l:List CoD),Bd l=5*l.length+5*tot (l.map CoD.val)
 | []=>rfl
 |d::l=>by
  have:=Hq l
  simp only[Bd,tot,List.map_cons,List.sum_cons,List.length_cons]at this ⊢
  omega
theorem a1e {l:List CoD}{left:Int}(h:¬S1 l left<0) (hl:left≤1048576):l.length≤1048576∧Bd l≤12000000∧∀d∈l,d.val.length≤1048576:=by
 obtain⟨h1,h2,h3⟩:=a1d h hl
 rw[List.length_map]at h1
 refine⟨h1,by rw[Hq];omega,fun d hd=>h3 _ (List.mem_map.2 ⟨d,hd,rfl⟩)⟩
theorem Ra (l:List CoD):AT (l.map CoD.os)=l.map CoD.cs:=by
 induction l with
 |nil=>rfl
 |cons d l ih=>simp only[List.map_cons,AT,ih,CoD.os,CoD.cs,Cn,C.forget,E4]
theorem QC (l:List CoD):Bm (l.map CoD.os)=true:=by
 induction l with
 |nil=>rfl
 |cons d l ih=>simp only[List.map_cons,Bm,ih,Bool.and_true,CoD.os,Ff,C.closed,E2]
theorem Xi (l:List CoD):((l.map CoD.os).all fun r=>r.length==6)=true:=by simp[CoD.os]
attribute [go_sem] Ra QC Xi
theorem EJ (l:List CoD) {k:Nat}(h:k<l.length):A8 (l.map CoD.cs) 6 k=true∧(l.map CoD.cs)[k]? = some [.int .i64 l[k].op,.int .i64 l[k].a,.int .i64 l[k].b,.int .i64 l[k].c,.int .i64 l[k].num,.sl (l[k].val.map CellD.cs)]:=⟨by simp[A8,h,CoD.cs],by simp[h,CoD.cs]⟩
theorem Zk (d:CoD) (hz:J2 d.val) (hl:d.val.length≤9223372036854775807) (left:Int) (h0:0≤left) (h1:left≤1048576):AC Tryz.prog 58 [d.av,.c (.int .i64 left)] [] (.c (.int .i64 (szR d.val left))) []:=by
 have hs:=Wi d.val hz hl left h0 h1
 by_cases hn:szR d.val left<0
 ·have hd:decide (szR d.val left<0)=true:=by simpa using hn
  have hr:szR d.val left = -1:=by
   unfold szR at hn ⊢
   split
   ·rfl
   ·rename_i h;rw[if_neg h]at hn;exact absurd hn h
  rw[hr]at hd hs ⊢
  refine A6 Tryz.func58 Tryz.ntmps58 q9 ?_
  refine v7 (A3 [] hs) q9 hd ?_
  exact Ag (A5 []) Tryz.results58
 ·have hd:decide (szR d.val left<0)=false:=by simpa using hn
  refine A6 Tryz.func58 Tryz.ntmps58 q9 ?_
  refine v7 (A3 [] hs) q9 hd ?_
  exact Ag (A5 []) Tryz.results58
theorem OF (l:List CoD) (hz:∀d∈l,J2 d.val) (hl:l.length≤9223372036854775807) (hy:∀d∈l,d.val.length≤9223372036854775807) (left:Int) (h0:0≤left) (h1:left≤1048576):AC Tryz.prog 10 [AE l,.c (.int .i64 left)] [] (.c (.int .i64 (S1 l left))) []:=by
 have w1:IntKind.i64.wrap (left-l.length)=left-l.length:=C9 (by omega) (by omega)
 have hln:(l.map CoD.cs).length=l.length:=by simp
 unfold S1
 by_cases hn:left-l.length<0
 ·have hr:Ph (l.map CoD.val) left = -1:=by unfold Ph;rw[List.length_map,if_pos hn]
  have hd:decide (left-(l.length:Int)<0)=true:=by simpa using hn
  rw[hr]
  refine A6 Tryz.func10 Tryz.ntmps10 (j3 w1 hd hln) ?_
  exact Ag (A5 []) Tryz.results10
 ·have hd:decide (left-(l.length:Int)<0)=false:=by simpa using hn
  have hr:Ph (l.map CoD.val) left=Pg (l.map CoD.val) (left-l.length):=by unfold Ph;rw[List.length_map,if_neg hn]
  obtain⟨R,hR⟩:∃R,R=Ph (l.map CoD.val) left:=⟨_,rfl⟩
  rw[←hR]at hr ⊢
  clear hR
  refine A6 Tryz.func10 Tryz.ntmps10 (j3 w1 hd hln) ?_
  refine Ar (κ:=Nat×Int) (fun x=>⟨mkS 0 27 [(0,AE l),(1,.c (.int .i64 x.2)),(5,.c (.int .i64 x.1))],[]⟩)
   (fun x=>x.1≤l.length∧0≤x.2∧x.2≤1048576∧R=Pg ((l.map CoD.val).drop x.1) x.2) (fun x=>l.length-x.1) (0,left-l.length) ⟨Nat.zero_le _,by omega,by omega,hr⟩ ?_ ?_
  ·exact Ac (Aj.of [] []) hd
  ·rintro⟨k,L⟩ ⟨hk,hL0,hL1,hRk⟩
   dsimp only at hk hL0 hL1 hRk ⊢
   by_cases hlt:k<l.length
   ·have hdk:decide ((k:Int)<(l.length:Int))=true:=by simpa using hlt
    have hw:=Ad (k:=k) (by omega)
    obtain⟨hr0,hg0⟩:=EJ l hlt
    have hmem:=List.getElem_mem hlt
    have hca:=Zk l[k] (hz _ hmem) (hy _ hmem) L hL0 hL1
    have hle:=a1f l[k].val L hL0
    rw[Zl (l.map CoD.val) (by simpa using hlt),List.getElem_map]at hRk
    generalize l[k]=x at *
    by_cases hm:szR x.val L<0
    ·rw[if_pos hm]at hRk
     have hdm:decide (szR x.val L<0)=true:=by simpa using hm
     subst hRk
     refine Ab (j4 hdk hr0 hg0 hln) ?_
     refine v7 (A3 [] hca) q9 hdm ?_
     exact Ag (A5 []) Tryz.results10
    ·rw[if_neg hm]at hRk
     have hdm:decide (szR x.val L<0)=false:=by simpa using hm
     refine Ab (j4 hdk hr0 hg0 hln) ?_
     refine v7 (A3 [] hca) q9 (j2 hdm hw) ?_
     refine⟨(k+1,szR x.val L),by dsimp only;omega,⟨by dsimp only;omega,by dsimp only;omega,by dsimp only;omega,hRk⟩,?_⟩
     exact Ac (Aj.of [] []) hw
   ·have hdk:decide ((k:Int)<(l.length:Int))=false:=by simpa using hlt
    rw[List.drop_eq_nil_of_le (by simp;omega)]at hRk
    have hRL:R=L:=hRk
    subst hRL
    exact FC (j2 hdk hln) (A5 []) Tryz.results10
theorem Zn (d:CoD) (hl:d.val.length≤1048576):AC Tryz.prog 60 [d.av] [] (.agg [.c (.int .i64 d.op),.c (.int .i64 d.a),.c (.int .i64 d.b),.c (.int .i64 d.c),.c (.int .i64 d.num),.own (0,0)]) [((0,0),.row false 5 80 (d.val.map CellD.cs))]:=by
 have ht:=Wk d.val hl
 refine A6 Tryz.func60 Tryz.ntmps60 q9 ?_
 refine v12 (BB [] ht) q9 q9 ?_
 exact Aa (A9 [((0,0),(21,0))] []) Tryz.results60 hl
def Gk (l:List CoD) (k:Nat):List (List C):=(l.take k).map CoD.os++List.replicate (l.length-k) [.int .i64 0,.int .i64 0,.int .i64 0,.int .i64 0,.int .i64 0,.sl []]
theorem Tl (l:List CoD):Gk l 0=List.replicate l.length [.int .i64 0,.int .i64 0,.int .i64 0,.int .i64 0,.int .i64 0,.sl []]:=by simp[Gk]
theorem Tj (l:List CoD):Gk l l.length=l.map CoD.os:=by simp[Gk]
theorem PX (l:List CoD) {k:Nat}(h:k<l.length):(Gk l k)[k]? = some [.int .i64 0,.int .i64 0,.int .i64 0,.int .i64 0,.int .i64 0,.sl []]:=by
 unfold Gk
 rw[List.getElem?_append_right (by simp;omega),List.length_map,List.length_take,Nat.min_eq_left (by omega),Nat.sub_self,List.getElem?_replicate,if_pos (by omega)]
theorem Tk (l:List CoD) {k:Nat}(h:k<l.length):A8 (Gk l k) 6 k=true:=by
 unfold A8
 rw[show ((k:Nat):Int).toNat=k from rfl,PX l h]
 simp
theorem Vn (l:List CoD) {k:Nat}(h:k<l.length):(Gk l k).set k [.int .i64 l[k].op,.int .i64 l[k].a,.int .i64 l[k].b,.int .i64 l[k].c,.int .i64 l[k].num,.osl (l[k].val.map CellD.cs)]=Gk l (k+1):=by
 have hl:((l.take k).map CoD.os).length=k:=by simp;omega
 unfold Gk
 rw[List.set_append_right _ _ (by omega),hl,Nat.sub_self,List.take_succ_eq_append_getElem h,List.map_append,List.append_assoc]
 have:l.length-k=(l.length-(k+1))+1:=by omega
 rw[this,List.replicate_succ]
 simp[CoD.os]
theorem Wn (l:List CoD) (hl:l.length≤1048576) (hy:∀d∈l,d.val.length≤1048576):AC Tryz.prog 12 [AE l] [] (.own (0,0)) [((0,0),.row true 6 87 (l.map CoD.os))]:=by
 have hln:(l.map CoD.cs).length=l.length:=by simp
 have h2:(0:Int)≤(l.length:Int):=by omega
 have h3:(l.length:Int)≤2000000:=by omega
 have hmz:=Tl l
 refine A6 Tryz.func12 Tryz.ntmps12 (j3 hln h2 h3) ?_
 refine Ar (κ:=Nat) (fun k=>⟨mkS 0 23 [(0,AE l),(3,.own (99,0)),(4,.c (.int .i64 k))],[((99,0),.row true 6 87 (Gk l k))]⟩)
  (fun k=>k≤l.length) (fun k=>l.length-k) 0 (Nat.zero_le _) ?_ ?_
 ·exact Ac (Aj.of [((99,0),(7,0))] []) hmz
 ·intro k hk
  by_cases hlt:k<l.length
  ·have hdk:decide ((k:Int)<(l.length:Int))=true:=by simpa using hlt
   have hw:=Ad (k:=k) (by omega)
   obtain⟨hr0,hg0⟩:=EJ l hlt
   have hmem:=List.getElem_mem hlt
   have hca:=Zn l[k] (hy _ hmem)
   have hm1:=PX l hlt
   have hm2:=Tk l hlt
   have hm3:=Vn l hlt
   generalize l[k]=x at *
   refine Ab (j4 hdk hr0 hg0 hln) ?_
   refine v12 (BB [] hca) q9 hm2 ?_
   (apply (VK [C.int .i64 x.op,C.int .i64 x.a,C.int .i64 x.b,C.int .i64 x.c,C.int .i64 x.num] []);(iterate 13 (focus (first | (simp only[go_sem,Nat.reduceEqDiff,Nat.reduceAdd,Nat.reduceSub,Nat.reduceLeDiff,Nat.reduceMul,Nat.reduceBEq,Nat.reduceLT,Int.reduceToNat,reduceCtorEq,hm1,GT,C.plain];first | done | exact rfl | (and_intros<;>rfl)) | exact rfl | decide))))
   refine Ab hw ?_
   refine⟨k+1,by omega,by omega,?_⟩
   exact Ac (Aj.of [((99,0),(99,0))] []) hm3
  ·have hdk:decide ((k:Int)<(l.length:Int))=false:=by simpa using hlt
   have hke:k=l.length:=by omega
   subst hke
   have hmf:=Tj l
   refine Ab (j2 hdk hln) ?_
   exact Aa (A9 [((0,0),(99,0))] []) Tryz.results12 hmf
theorem XG (d:CoD) (hl:d.val.length≤9223372036854775807):AC Tryz.prog 63 [d.av,d.av] [] (.c (.bool true)) []:=by
 have h1:(d.op != d.op)=false:=by simp
 have h2:(d.a != d.a)=false:=by simp
 have h3:(d.b != d.b)=false:=by simp
 have h4:(d.c != d.c)=false:=by simp
 have h5:(d.num != d.num)=false:=by simp
 have he:=UG d.val hl
 refine A6 Tryz.func63 Tryz.ntmps63 (j5 h1 h2 h3 h4 h5) ?_
 refine v7 (A3 [] he) q9 q9 ?_
 exact Ag (A5 []) Tryz.results63
theorem Nz (l:List CoD) (hl:l.length≤1048576) (hx:∀d∈l,d.val.length≤9223372036854775807):AC Tryz.prog 15 [AE l,AE l] [] (.c (.bool true)) []:=by
 have hln:(l.map CoD.cs).length=l.length:=by simp
 have hne:((l.length:Int) != (l.length:Int))=false:=by simp
 refine A6 Tryz.func15 Tryz.ntmps15 (j2 hln hne) ?_
 refine Ar (κ:=Nat) (fun k=>⟨mkS 0 27 [(0,AE l),(1,AE l),(5,.c (.int .i64 k))],[]⟩)
  (fun k=>k≤l.length) (fun k=>l.length-k) 0 (Nat.zero_le _) ?_ ?_
 ·exact Ac (Aj.of [] []) hne
 ·intro k hk
  by_cases hlt:k<l.length
  ·have hdk:decide ((k:Int)<(l.length:Int))=true:=by simpa using hlt
   have hw:=Ad (k:=k) (by omega)
   obtain⟨hr0,hg0⟩:=EJ l hlt
   have he:=XG l[k] (hx _ (List.getElem_mem hlt))
   generalize l[k]=x at *
   refine Ab (j4 hln hdk hr0 hg0) ?_
   refine v7 (A3 [] he) q9 hw ?_
   refine⟨k+1,by omega,by omega,?_⟩
   exact Ac (Aj.of [] []) hw
  ·have hdk:decide ((k:Int)<(l.length:Int))=false:=by simpa using hlt
   exact FC (j2 hln hdk) (A5 []) Tryz.results15
def Ce (K:Nat):List CoD→List CoD
 | []=>[]
 |d::l=>⟨K,(K+1:Nat),(K+2:Nat),(K+3:Nat),(K+4:Nat),Eg (K+5) d.val.length⟩::Ce (K+(5+5*d.val.length)) l
theorem Er:∀(l:List CoD) (K:Nat),(Ce K l).length=l.length
 | [],_=>rfl
 |d::l,K=>by simp[Ce,Er l]
theorem OJ (l:List CoD) {k:Nat}(h:k<l.length):Bd (l.take (k+1))=Bd (l.take k)+(5+5*l[k].val.length):=by
 rw[List.take_succ_eq_append_getElem h]
 simp only[Bd,List.map_append,List.sum_append,List.map_cons,List.map_nil,List.sum_cons,List.sum_nil,Nat.add_zero]
theorem GS:∀(x y:List CoD) (K:Nat),Ce K (x++y)=Ce K x++Ce (K+Bd x) y
 | [],y,K=>by simp[Ce,Bd]
 |d::x,y,K=>by
  rw[List.cons_append,Ce,GS x y,Ce,List.cons_append]
  congr 3
  simp only[Bd,List.map_cons,List.sum_cons]
  omega
theorem Ua (l:List CoD) (k:Nat):Bd (l.take k)≤Bd l:=by
 have h:Bd (l.take k++l.drop k)=Bd (l.take k)+Bd (l.drop k):=by simp only[Bd,List.map_append,List.sum_append]
 rw[List.take_append_drop]at h
 omega
def Eb (K:Nat) (l:List CoD) (k:Nat):List (List C):=(Ce K (l.take k)++l.drop k).map CoD.os
theorem VQ (K:Nat) (l:List CoD) (k:Nat):(Eb K l k).length=l.length:=by
 unfold Eb
 rw[List.length_map,List.length_append,Er,List.length_take,List.length_drop]
 omega
theorem YM (K:Nat) (l:List CoD) {k:Nat}(h:k<l.length):(Eb K l k)[k]? = some [.int .i64 l[k].op,.int .i64 l[k].a,.int .i64 l[k].b,.int .i64 l[k].c,.int .i64 l[k].num,.osl (l[k].val.map CellD.cs)]:=by
 unfold Eb
 have hl:(Ce K (l.take k)).length=k:=by rw[Er,List.length_take];omega
 rw[List.getElem?_map,List.getElem?_append_right (by omega),hl,Nat.sub_self,List.getElem?_drop,Nat.add_zero,List.getElem?_eq_getElem h]
 rfl
theorem VS (K:Nat) (l:List CoD) {k:Nat}(h:k<l.length):(Eb K l k).set k [.int .i64 ((K+Bd (l.take k):Nat):Int),.int .i64 ((K+Bd (l.take k)+1:Nat):Int),.int .i64 ((K+Bd (l.take k)+2:Nat):Int),.int .i64 ((K+Bd (l.take k)+3:Nat):Int),.int .i64 ((K+Bd (l.take k)+4:Nat):Int),.osl ((Eg (K+Bd (l.take k)+5) l[k].val.length).map CellD.cs)]=Eb K l (k+1):=by
 unfold Eb
 have hl:(Ce K (l.take k)).length=k:=by rw[Er,List.length_take];omega
 rw[List.map_append,List.set_append_right _ _ (by rw[List.length_map];omega),List.length_map,hl,Nat.sub_self,List.drop_eq_getElem_cons h,List.map_cons,List.set_cons_zero,
  List.take_succ_eq_append_getElem h,GS,List.map_append,List.map_append,List.append_assoc]
 rfl
theorem Lg (l:List CoD) (K:Nat) (e:TypeId) (hK:K+Bd l≤3000000000) (hl9:l.length≤1048576) :
  AC Tryz.prog 16 [.own (0,0),.c (.int .i64 K)] [((0,0),.row true 6 e (l.map CoD.os))] (.c (.int .i64 ((K+Bd l:Nat):Int))) [((0,0),.row true 6 e ((Ce K l).map CoD.os))]:=by
 have hs0:l.map CoD.os=Eb K l 0:=by simp[Eb,Ce]
 have ht0:((K:Nat):Int)=((K+Bd (l.take 0):Nat):Int):=by simp[Bd]
 refine A6 Tryz.func16 Tryz.ntmps16 q9 ?_
 refine Ar (κ:=Nat) (fun k=>⟨mkS 0 55 [(0,.own (0,0)),(1,.c (.int .i64 ((K+Bd (l.take k):Nat):Int))),(5,.c (.int .i64 k))],[((0,0),.row true 6 e (Eb K l k))]⟩)
  (fun k=>k≤l.length) (fun k=>l.length-k) 0 (Nat.zero_le _) ?_ ?_
 ·exact Ac (Aj.of [((0,0),(0,0))] []) (j2 hs0 ht0)
 ·intro k hk
  have hpl:=VQ K l k
  by_cases hlt:k<l.length
  ·have hdk:decide ((k:Int)<(l.length:Int))=true:=by simpa using hlt
   have hw:=Ad (k:=k) (by omega)
   have htk:=OJ l hlt
   have hte:=Ua l (k+1)
   obtain⟨M,hM⟩:∃M,M=K+Bd (l.take k):=⟨_,rfl⟩
   have hM1:K+Bd (l.take (k+1))=M+5+5*l[k].val.length:=by omega
   have hset:=VS K l hlt
   have h0:=YM K l hlt
   rw[←hM]at hset
   rw[←hM]
   have hr0:A8 (Eb K l k) 6 k=true:=by unfold A8;rw[show ((k:Nat):Int).toNat=k from rfl,h0];simp
   have hkl:k<(Eb K l k).length:=by rw[hpl];exact hlt
   have w1:IntKind.i64.wrap ((M:Int)+1)=((M+1:Nat):Int):=by rw[IntWalk.i64_in _ (by omega)];omega
   have w2:IntKind.i64.wrap (((M+1:Nat):Int)+1)=((M+2:Nat):Int):=by rw[IntWalk.i64_in _ (by omega)];omega
   have w3:IntKind.i64.wrap (((M+2:Nat):Int)+1)=((M+3:Nat):Int):=by rw[IntWalk.i64_in _ (by omega)];omega
   have w4:IntKind.i64.wrap (((M+3:Nat):Int)+1)=((M+4:Nat):Int):=by rw[IntWalk.i64_in _ (by omega)];omega
   have w5:IntKind.i64.wrap (((M+4:Nat):Int)+1)=((M+5:Nat):Int):=by rw[IntWalk.i64_in _ (by omega)];omega
   have hmk:=Rq l[k].val (M+5)
   have hpn:=TC l[k].val
   have h5:((l[k].val.map CellD.cs).all fun x=>x.length==5)=true:=by simp[CellD.cs]
   have hne5:l[k].val.map CellD.cs≠[]→l[k].val≠[]:=by intro h e;rw[e]at h;exact h rfl
   generalize hR3:Eb K l (k+1)=RE at *
   generalize Eb K l k=R0 at *
   obtain⟨R1,hR11⟩:∃R,R0.set k [.int .i64 (M:Int),.int .i64 l[k].a,.int .i64 l[k].b,.int .i64 l[k].c,.int .i64 l[k].num,.osl (l[k].val.map CellD.cs)]=R:=⟨_,rfl⟩
   have g1:R1[k]? = some [.int .i64 (M:Int),.int .i64 l[k].a,.int .i64 l[k].b,.int .i64 l[k].c,.int .i64 l[k].num,.osl (l[k].val.map CellD.cs)]:=by rw[←hR11,List.getElem?_set_self (by omega)]
   have hr1:A8 R1 6 k=true:=by unfold A8;rw[show ((k:Nat):Int).toNat=k from rfl,g1];simp
   have hl1:R1.length=R0.length:=by rw[←hR11,List.length_set]
   obtain⟨R2,hR12⟩:∃R,R1.set k [.int .i64 (M:Int),.int .i64 ((M+1:Nat):Int),.int .i64 l[k].b,.int .i64 l[k].c,.int .i64 l[k].num,.osl (l[k].val.map CellD.cs)]=R:=⟨_,rfl⟩
   have g2:R2[k]? = some [.int .i64 (M:Int),.int .i64 ((M+1:Nat):Int),.int .i64 l[k].b,.int .i64 l[k].c,.int .i64 l[k].num,.osl (l[k].val.map CellD.cs)]:=by rw[←hR12,List.getElem?_set_self (by omega)]
   have hr2:A8 R2 6 k=true:=by unfold A8;rw[show ((k:Nat):Int).toNat=k from rfl,g2];simp
   have hl2:R2.length=R1.length:=by rw[←hR12,List.length_set]
   obtain⟨R3,hR13⟩:∃R,R2.set k [.int .i64 (M:Int),.int .i64 ((M+1:Nat):Int),.int .i64 ((M+2:Nat):Int),.int .i64 l[k].c,.int .i64 l[k].num,.osl (l[k].val.map CellD.cs)]=R:=⟨_,rfl⟩
   have g3:R3[k]? = some [.int .i64 (M:Int),.int .i64 ((M+1:Nat):Int),.int .i64 ((M+2:Nat):Int),.int .i64 l[k].c,.int .i64 l[k].num,.osl (l[k].val.map CellD.cs)]:=by rw[←hR13,List.getElem?_set_self (by omega)]
   have hr3:A8 R3 6 k=true:=by unfold A8;rw[show ((k:Nat):Int).toNat=k from rfl,g3];simp
   have hl3:R3.length=R2.length:=by rw[←hR13,List.length_set]
   obtain⟨R4,hR14⟩:∃R,R3.set k [.int .i64 (M:Int),.int .i64 ((M+1:Nat):Int),.int .i64 ((M+2:Nat):Int),.int .i64 ((M+3:Nat):Int),.int .i64 l[k].num,.osl (l[k].val.map CellD.cs)]=R:=⟨_,rfl⟩
   have g4:R4[k]? = some [.int .i64 (M:Int),.int .i64 ((M+1:Nat):Int),.int .i64 ((M+2:Nat):Int),.int .i64 ((M+3:Nat):Int),.int .i64 l[k].num,.osl (l[k].val.map CellD.cs)]:=by rw[←hR14,List.getElem?_set_self (by omega)]
   have hr4:A8 R4 6 k=true:=by unfold A8;rw[show ((k:Nat):Int).toNat=k from rfl,g4];simp
   have hl4:R4.length=R3.length:=by rw[←hR14,List.length_set]
   obtain⟨R5,hR15⟩:∃R,R4.set k [.int .i64 (M:Int),.int .i64 ((M+1:Nat):Int),.int .i64 ((M+2:Nat):Int),.int .i64 ((M+3:Nat):Int),.int .i64 ((M+4:Nat):Int),.osl (l[k].val.map CellD.cs)]=R:=⟨_,rfl⟩
   have g5:R5[k]? = some [.int .i64 (M:Int),.int .i64 ((M+1:Nat):Int),.int .i64 ((M+2:Nat):Int),.int .i64 ((M+3:Nat):Int),.int .i64 ((M+4:Nat):Int),.osl (l[k].val.map CellD.cs)]:=by rw[←hR15,List.getElem?_set_self (by omega)]
   have hr5:A8 R5 6 k=true:=by unfold A8;rw[show ((k:Nat):Int).toNat=k from rfl,g5];simp
   have hl5:R5.length=R4.length:=by rw[←hR15,List.length_set]
   have hset':R5.set k [.int .i64 (M:Int),.int .i64 ((M+1:Nat):Int),.int .i64 ((M+2:Nat):Int),.int .i64 ((M+3:Nat):Int),.int .i64 ((M+4:Nat):Int),.osl ((Eg (M+5) l[k].val.length).map CellD.cs)]=RE:=by rw[←hR15,←hR14,←hR13,←hR12,←hR11,List.set_set,List.set_set,List.set_set,List.set_set,List.set_set];exact hset
   generalize hd:l[k]=d at *
   refine Ab (j3 hpl hdk hr0) ?_
   ((with_reducible apply IW);(iterate 11 (focus (first | (simp only[go_sem,Nat.reduceEqDiff,Nat.reduceAdd,Nat.reduceSub,Nat.reduceLeDiff,Nat.reduceMul,Nat.reduceBEq,Nat.reduceLT,Int.reduceToNat,reduceCtorEq,h0,C.plain,List.set_cons_zero,hR11];first | done | exact rfl | (and_intros<;>rfl)) | exact rfl | decide))))
   refine Ab (j2 w1 hr1) ?_
   ((with_reducible apply IW);(iterate 11 (focus (first | (simp only[go_sem,Nat.reduceEqDiff,Nat.reduceAdd,Nat.reduceSub,Nat.reduceLeDiff,Nat.reduceMul,Nat.reduceBEq,Nat.reduceLT,Int.reduceToNat,reduceCtorEq,g1,C.plain,List.set_cons_zero,List.set_cons_succ,hR12];first | done | exact rfl | (and_intros<;>rfl)) | exact rfl | decide))))
   refine Ab (j2 @w2 hr2) ?_
   ((with_reducible apply IW);(iterate 11 (focus (first | (simp only[go_sem,Nat.reduceEqDiff,Nat.reduceAdd,Nat.reduceSub,Nat.reduceLeDiff,Nat.reduceMul,Nat.reduceBEq,Nat.reduceLT,Int.reduceToNat,reduceCtorEq,g2,C.plain,List.set_cons_zero,List.set_cons_succ,hR13];first | done | exact rfl | (and_intros<;>rfl)) | exact rfl | decide))))
   refine Ab (j2 @w3 hr3) ?_
   ((with_reducible apply IW);(iterate 11 (focus (first | (simp only[go_sem,Nat.reduceEqDiff,Nat.reduceAdd,Nat.reduceSub,Nat.reduceLeDiff,Nat.reduceMul,Nat.reduceBEq,Nat.reduceLT,Int.reduceToNat,reduceCtorEq,g3,C.plain,List.set_cons_zero,List.set_cons_succ,hR14];first | done | exact rfl | (and_intros<;>rfl)) | exact rfl | decide))))
   refine Ab (j2 @w4 hr4) ?_
   ((with_reducible apply IW);(iterate 11 (focus (first | (simp only[go_sem,Nat.reduceEqDiff,Nat.reduceAdd,Nat.reduceSub,Nat.reduceLeDiff,Nat.reduceMul,Nat.reduceBEq,Nat.reduceLT,Int.reduceToNat,reduceCtorEq,g4,C.plain,List.set_cons_zero,List.set_cons_succ,hR15];first | done | exact rfl | (and_intros<;>rfl)) | exact rfl | decide))))
   refine Ab (j2 @w5 hr5) ?_
   ((with_reducible apply a2w);(iterate 11 (focus (first | (simp only[go_sem,Nat.reduceEqDiff,Nat.reduceAdd,Nat.reduceSub,Nat.reduceLeDiff,Nat.reduceMul,Nat.reduceBEq,Nat.reduceLT,Int.reduceToNat,reduceCtorEq,g5,hpn];first | done | exact rfl | (and_intros<;>rfl)) | exact rfl | decide))))
   refine Ab q9 ?_
   (apply (a2s (0,0) (51,0) 5 (fun es' e' h=>hmk es' e' (fun hx=>h (by intro hh;exact hx (by simpa using hh))) (by omega)));(iterate 4 (focus (first | (simp only[go_sem,Nat.reduceEqDiff,Nat.reduceAdd,Nat.reduceSub,Nat.reduceLeDiff,Nat.reduceMul,Nat.reduceBEq,Nat.reduceLT,Int.reduceToNat,reduceCtorEq,g5,h5,hset',List.set_cons_zero,List.set_cons_succ];first | done | exact rfl | (and_intros<;>rfl)) | exact rfl | decide)));(focus (first | (intro _ _;exact rfl) | (intro _ _;simp only[go_sem,Nat.reduceEqDiff,Nat.reduceAdd,Nat.reduceSub,Nat.reduceLeDiff,Nat.reduceMul,Nat.reduceBEq,Nat.reduceLT,Int.reduceToNat,reduceCtorEq,g5,h5,hset',List.set_cons_zero,List.set_cons_succ];done)));(iterate 7 (focus (first | (simp only[go_sem,Nat.reduceEqDiff,Nat.reduceAdd,Nat.reduceSub,Nat.reduceLeDiff,Nat.reduceMul,Nat.reduceBEq,Nat.reduceLT,Int.reduceToNat,reduceCtorEq,g5,h5,hset',List.set_cons_zero,List.set_cons_succ];first | done | exact rfl | (and_intros<;>rfl)) | exact rfl | decide))))
   refine Ab hw ?_
   refine⟨k+1,by omega,by omega,?_⟩
   exact Ac (Aj.of [((0,0),(0,0))] []) (j2 hM1 hR3)
  ·have hdk:decide ((k:Int)<(l.length:Int))=false:=by simpa using hlt
   have hke:k=l.length:=by omega
   subst hke
   have hfin:Eb K l l.length=(Ce K l).map CoD.os:=by simp[Eb]
   have htk:l.take l.length=l:=by simp
   rw[hfin,htk]
   rw[hfin]at hpl
   refine Ab (j2 hpl hdk) ?_
   exact Aa (A9 [((0,0),(0,0))] []) Tryz.results16 hdk
theorem Ri (l:List CoD) (K:Nat) (hK:K+Bd l≤3000000000) (hl:l.length≤1048576):AC Tryz.prog 64 [AE (Ce K l),.c (.int .i64 K)] [] (.c (.int .i64 ((K+Bd l:Nat):Int))) []:=by
 have hln:((Ce K l).map CoD.cs).length=l.length:=by rw[List.length_map,Er]
 have hml:=Er l K
 have ht0:((K:Nat):Int)=((K+Bd (l.take 0):Nat):Int):=by simp[Bd]
 refine A6 Tryz.func64 Tryz.ntmps64 q9 ?_
 refine Ar (κ:=Nat) (fun k=>⟨mkS 0 67 [(0,AE (Ce K l)),(1,.c (.int .i64 ((K+Bd (l.take k):Nat):Int))),(5,.c (.int .i64 k))],[]⟩)
  (fun k=>k≤l.length) (fun k=>l.length-k) 0 (Nat.zero_le _) ?_ ?_
 ·exact Ac (Aj.of [] []) ht0
 ·intro k hk
  by_cases hlt:k<l.length
  ·have hdk:decide ((k:Int)<(l.length:Int))=true:=by simpa using hlt
   have hw:=Ad (k:=k) (by omega)
   have htk:=OJ l hlt
   have hte:=Ua l (k+1)
   obtain⟨M,hM⟩:∃M,M=K+Bd (l.take k):=⟨_,rfl⟩
   have hM1:K+Bd (l.take (k+1))=M+5+5*l[k].val.length:=by omega
   have hsp:Ce K l=Ce K (l.take k)++Ce M (l[k]::l.drop (k+1)):=by
    have h1:=GS (l.take k) (l[k]::l.drop (k+1)) K
    rw[←List.drop_eq_getElem_cons hlt,List.take_append_drop,←hM]at h1
    rw[h1,List.drop_eq_getElem_cons hlt]
   have hat:(Ce K l)[k]'(by rw[hml];exact hlt)=⟨M,(M+1:Nat),(M+2:Nat),(M+3:Nat),(M+4:Nat),Eg (M+5) l[k].val.length⟩:=by
    have hl2:(Ce K (l.take k)).length=k:=by rw[Er,List.length_take];omega
    have h3:(Ce K l)[k]? = some ⟨M,(M+1:Nat),(M+2:Nat),(M+3:Nat),(M+4:Nat),Eg (M+5) l[k].val.length⟩:=by
     rw[hsp,List.getElem?_append_right (by omega),hl2,Nat.sub_self]
     rfl
    exact (List.getElem?_eq_some_iff.1 h3).2
   obtain⟨hr0,hg0⟩:=EJ (l:=Ce K l) (k:=k) (by rw[hml];exact hlt)
   rw[hat]at hg0
   dsimp only at hg0
   rw[←hM]
   have w1:IntKind.i64.wrap ((M:Int)+1)=((M+1:Nat):Int):=by rw[IntWalk.i64_in _ (by omega)];omega
   have w2:IntKind.i64.wrap (((M+1:Nat):Int)+1)=((M+2:Nat):Int):=by rw[IntWalk.i64_in _ (by omega)];omega
   have w3:IntKind.i64.wrap (((M+2:Nat):Int)+1)=((M+3:Nat):Int):=by rw[IntWalk.i64_in _ (by omega)];omega
   have w4:IntKind.i64.wrap (((M+3:Nat):Int)+1)=((M+4:Nat):Int):=by rw[IntWalk.i64_in _ (by omega)];omega
   have w5:IntKind.i64.wrap (((M+4:Nat):Int)+1)=((M+5:Nat):Int):=by rw[IntWalk.i64_in _ (by omega)];omega
   have hc1:=Rh l[k].val.length (M+5) (by omega)
   have hne:((M:Int) != (M:Int))=false:=by simp
   have hne2:(((M+1:Nat):Int) != ((M+1:Nat):Int))=false:=by simp
   have hne3:(((M+2:Nat):Int) != ((M+2:Nat):Int))=false:=by simp
   have hne4:(((M+3:Nat):Int) != ((M+3:Nat):Int))=false:=by simp
   have hne5:(((M+4:Nat):Int) != ((M+4:Nat):Int))=false:=by simp
   have hn1:decide (((M+5+5*l[k].val.length:Nat):Int)<0)=false:=by simp;omega
   generalize l[k]=d at *
   refine Ab (j2 (j12 hln hdk hr0 hg0 hne w1 hne2 @w2 hne3 @w3 hne4 @w4) (j2 hne5 @w5)) ?_
   refine v7 (A3 [] hc1) q9 (j2 hn1 hw) ?_
   refine⟨k+1,by omega,by omega,?_⟩
   exact Ac (Aj.of [] []) hM1
  ·have hdk:decide ((k:Int)<(l.length:Int))=false:=by simpa using hlt
   have hke:l.take k=l:=List.take_of_length_le (by omega)
   rw[hke]
   exact FC (j2 hln hdk) (A5 []) Tryz.results64
theorem MO (c did:Int) (l:List CoD) (hl:l.length≤1048576) (hx:∀d∈l,d.val.length≤9223372036854775807):AC Tryz.prog 14 [.agg [.c (.int .i64 c),.c (.int .i64 did),.c (.sl (l.map CoD.cs))],.agg [.c (.int .i64 c),.c (.int .i64 did),.c (.sl (l.map CoD.cs))]] [] (.c (.bool true)) []:=by
 have hne:(c != c)=false:=by simp
 have hna:(did != did)=false:=by simp
 have he:=Nz l hl hx
 refine A6 Tryz.func14 Tryz.ntmps14 (j2 hne hna) ?_
 refine v7 (A3 [] he) q9 q9 ?_
 exact Ag (A5 []) Tryz.results14
theorem L6 (c did:Int) (l:List CoD) (K:Nat) (hK:K+Bd l≤3000000000) (hl:l.length≤1048576):AC Tryz.prog 18 [.agg [.c (.int .i64 c),.c (.int .i64 did),.c (.sl ((Ce K l).map CoD.cs))],.c (.int .i64 K)] [] (.c (.int .i64 ((K+Bd l:Nat):Int))) []:=by
 have he:=Ri l K hK hl
 have hn0:decide (((K+Bd l:Nat):Int)<0)=false:=by simp;omega
 refine A6 Tryz.func18 Tryz.ntmps18 q9 ?_
 refine v7 (A3 [] he) q9 hn0 ?_
 exact Ag (A5 []) Tryz.results18
theorem Li (c did:Int) (l:List CoD) (K:Nat) (e:TypeId) (hK:K+Bd l≤3000000000) (hl:l.length≤1048576) :
  AC Tryz.prog 17 [.agg [.c (.int .i64 c),.c (.int .i64 did),.own (0,0)],.c (.int .i64 K)] [((0,0),.row true 6 e (l.map CoD.os))] (.c (.int .i64 ((K+Bd l:Nat):Int))) [((0,0),.row true 6 e ((Ce K l).map CoD.os))]:=by
 have he:=Lg l K e hK hl
 refine A6 Tryz.func17 Tryz.ntmps17 q9 ?_
 refine v9 (Oe (0,0) he) q9 q9 ?_
 exact Aa (A9 [((0,0),(0,0))] []) Tryz.results17 hl
end Go.Proofs.YtcejfdfmgmcinaaGreat
