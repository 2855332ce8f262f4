/- The laws' own functions on an argument []Core: szCore, szCoreS, toCore, toCoreS, eqCore, eqCoreS, markCoreS, heldCoreS. Printed by gen_k02.py. -/
import Derived.Test.YtcejfdfmgmcinaaGreatKM61uG42
set_option linter.all false
set_option maxHeartbeats 8000000
namespace Go.Proofs.YtcejfdfmgmcinaaGreat
open Go.RowKit
set_option maxRecDepth 10000
def CoD.cs (d:CoD):List C:=[.int .i64 d.op,.int .i64 d.a,.int .i64 d.b,.int .i64 d.c,.int .i64 d.num,.sl (d.val.map CellD.cs)]
def CoD.av (d:CoD):AV:=.agg [.c (.int .i64 d.op),.c (.int .i64 d.a),.c (.int .i64 d.b),.c (.int .i64 d.c),.c (.int .i64 d.num),.c (.sl (d.val.map CellD.cs))]
abbrev AD (l:List CoD):AV:=.c (.sl (l.map CoD.cs))
attribute [go_sem] CoD.av
def CoD.os (d:CoD):List C:=[.int .i64 d.op,.int .i64 d.a,.int .i64 d.b,.int .i64 d.c,.int .i64 d.num,.osl (d.val.map CellD.cs)]
def Oz (l:List CoD) (left:Int):Int:=P8 (l.map CoD.val) left
def Bf (l:List CoD):Nat:=(l.map fun d=>5+5*d.val.length).sum
theorem RQ (l:List CoD) (left:Int) (h:0≤left):Oz l left≤left:=a2d _ left h
theorem IX:∀(l:List CoD),Bf l=5*l.length+5*tot (l.map CoD.val)
 | []=>rfl
 |d::l=>by
  have:=IX l
  simp only[Bf,tot,List.map_cons,List.sum_cons,List.length_cons]at this ⊢
  omega
theorem a0f {l:List CoD}{left:Int}(h:¬Oz l left<0) (hl:left≤1048576):l.length≤1048576∧Bf l≤12000000∧∀d∈l,d.val.length≤1048576:=by
 obtain⟨h1,h2,h3⟩:=a0e h hl
 rw[List.length_map]at h1
 refine⟨h1,by rw[IX];omega,fun d hd=>h3 _ (List.mem_map.2 ⟨d,hd,rfl⟩)⟩
theorem QW (l:List CoD):AU (l.map CoD.os)=l.map CoD.cs:=by
 induction l with
 |nil=>rfl
 |cons d l ih=>simp only[List.map_cons,AU,ih,CoD.os,CoD.cs,Cv,C.forget,Ea]
theorem Qw (l:List CoD):BD (l.map CoD.os)=true:=by
 induction l with
 |nil=>rfl
 |cons d l ih=>simp only[List.map_cons,BD,ih,Bool.and_true,CoD.os,Fl,C.closed,E7]
theorem X5 (l:List CoD):((l.map CoD.os).all fun r=>r.length==6)=true:=by simp[CoD.os]
attribute [go_sem] QW Qw X5
theorem Ex (l:List CoD) {k:Nat}(h:k<l.length):A9 (l.map CoD.cs) 6 k=true∧(l.map CoD.cs)[k]? = some [.int .i64 l[k].op,.int .i64 l[k].a,.int .i64 l[k].b,.int .i64 l[k].c,.int .i64 l[k].num,.sl (l[k].val.map CellD.cs)]:=⟨by simp[A9,h,CoD.cs],by simp[h,CoD.cs]⟩
theorem YX (d:CoD) (hz:Hj d.val) (hl:d.val.length≤9223372036854775807) (left:Int) (h0:0≤left) (h1:left≤1048576):AC Tryz.prog 58 [d.av,.c (.int .i64 left)] [] (.c (.int .i64 (szR d.val left))) []:=by
 have hs:=W6 d.val hz hl left h0 h1
 by_cases hn:szR d.val left<0
 ·have hd:decide (szR d.val left<0)=true:=by simpa using hn
  have hr:szR d.val left = -1:=by
   unfold szR at hn ⊢
   split
   ·rfl
   ·rename_i h;rw[if_neg h]at hn;exact absurd hn h
  rw[hr]at hd hs ⊢
  refine A7 Tryz.func58 Tryz.ntmps58 ?_
  refine A3 q9 ?_
  refine w7 (A4 [] hs) q9 ?_
  refine A3 hd ?_
  exact Ad (A6 []) Tryz.results58
 ·have hd:decide (szR d.val left<0)=false:=by simpa using hn
  refine A7 Tryz.func58 Tryz.ntmps58 ?_
  refine A3 q9 ?_
  refine w7 (A4 [] hs) q9 ?_
  refine A3 hd ?_
  exact Ad (A6 []) Tryz.results58
theorem Kq (l:List CoD) (hz:∀d∈l,Hj d.val) (hl:l.length≤9223372036854775807) (hy:∀d∈l,d.val.length≤9223372036854775807) (left:Int) (h0:0≤left) (h1:left≤1048576):AC Tryz.prog 10 [AD l,.c (.int .i64 left)] [] (.c (.int .i64 (Oz l left))) []:=by
 have w1:IntKind.i64.wrap (left-l.length)=left-l.length:=Cf (by omega) (by omega)
 have hln:(l.map CoD.cs).length=l.length:=by simp
 unfold Oz
 by_cases hn:left-l.length<0
 ·have hr:P8 (l.map CoD.val) left = -1:=by unfold P8;rw[List.length_map,if_pos hn]
  have hd:decide (left-(l.length:Int)<0)=true:=by simpa using hn
  rw[hr]
  refine A7 Tryz.func10 Tryz.ntmps10 ?_
  refine A3 (j3 w1 hd hln) ?_
  exact Ad (A6 []) Tryz.results10
 ·have hd:decide (left-(l.length:Int)<0)=false:=by simpa using hn
  have hr:P8 (l.map CoD.val) left=P7 (l.map CoD.val) (left-l.length):=by unfold P8;rw[List.length_map,if_neg hn]
  obtain⟨R,hR⟩:∃R,R=P8 (l.map CoD.val) left:=⟨_,rfl⟩
  rw[←hR]at hr ⊢
  clear hR
  refine A7 Tryz.func10 Tryz.ntmps10 ?_
  refine A3 (j3 w1 hd hln) ?_
  refine Ay (κ:=Nat×Int) (fun x=>⟨mkS 0 27 [(0,AD l),(1,.c (.int .i64 x.2)),(5,.c (.int .i64 x.1))],[]⟩)
   (fun x=>x.1≤l.length∧0≤x.2∧x.2≤1048576∧R=P7 ((l.map CoD.val).drop x.1) x.2) (fun x=>l.length-x.1) (0,left-l.length) ⟨Nat.zero_le _,by omega,by omega,hr⟩ ?_ ?_
  ·exact Af (Am.of [] []) hd
  ·rintro⟨k,L⟩ ⟨hk,hL0,hL1,hRk⟩
   dsimp only at hk hL0 hL1 hRk ⊢
   by_cases hlt:k<l.length
   ·have hdk:decide ((k:Int)<(l.length:Int))=true:=by simpa using hlt
    have hw:=Ah (k:=k) (by omega)
    obtain⟨hr0,hg0⟩:=Ex l hlt
    have hmem:=List.getElem_mem hlt
    have hca:=YX l[k] (hz _ hmem) (hy _ hmem) L hL0 hL1
    have hle:=a0g l[k].val L hL0
    rw[YY (l.map CoD.val) (by simpa using hlt),List.getElem_map]at hRk
    generalize l[k]=x at *
    by_cases hm:szR x.val L<0
    ·rw[if_pos hm]at hRk
     have hdm:decide (szR x.val L<0)=true:=by simpa using hm
     subst hRk
     refine A3 (j4 hdk hr0 hg0 hln) ?_
     refine w7 (A4 [] hca) q9 ?_
     refine A3 hdm ?_
     exact Ad (A6 []) Tryz.results10
    ·rw[if_neg hm]at hRk
     have hdm:decide (szR x.val L<0)=false:=by simpa using hm
     refine A3 (j4 hdk hr0 hg0 hln) ?_
     refine w7 (A4 [] hca) q9 ?_
     refine A3 (j2 hdm hw) ?_
     refine⟨(k+1,szR x.val L),by dsimp only;omega,⟨by dsimp only;omega,by dsimp only;omega,by dsimp only;omega,hRk⟩,?_⟩
     exact Af (Am.of [] []) hw
   ·have hdk:decide ((k:Int)<(l.length:Int))=false:=by simpa using hlt
    rw[List.drop_eq_nil_of_le (by simp;omega)]at hRk
    have hRL:R=L:=hRk
    subst hRL
    refine A3 (j2 hdk hln) ?_
    exact Ad (A6 []) Tryz.results10
theorem Z0 (d:CoD) (hl:d.val.length≤1048576):AC Tryz.prog 60 [d.av] [] (.agg [.c (.int .i64 d.op),.c (.int .i64 d.a),.c (.int .i64 d.b),.c (.int .i64 d.c),.c (.int .i64 d.num),.own (0,0)]) [((0,0),.row false 5 80 (d.val.map CellD.cs))]:=by
 have ht:=W8 d.val hl
 refine A7 Tryz.func60 Tryz.ntmps60 ?_
 refine A3 q9 ?_
 refine w12 (C9 [] ht) q9 ?_
 refine A3 q9 ?_
 exact Ab (Aa [((0,0),(21,0))] []) Tryz.results60 hl
def Gg (l:List CoD) (k:Nat):List (List C):=(l.take k).map CoD.os++List.replicate (l.length-k) [.int .i64 0,.int .i64 0,.int .i64 0,.int .i64 0,.int .i64 0,.sl []]
theorem Td (l:List CoD):Gg l 0=List.replicate l.length [.int .i64 0,.int .i64 0,.int .i64 0,.int .i64 0,.int .i64 0,.sl []]:=by simp[Gg]
theorem Tb (l:List CoD):Gg l l.length=l.map CoD.os:=by simp[Gg]
theorem PR (l:List CoD) {k:Nat}(h:k<l.length):(Gg l k)[k]? = some [.int .i64 0,.int .i64 0,.int .i64 0,.int .i64 0,.int .i64 0,.sl []]:=by
 unfold Gg
 rw[List.getElem?_append_right (by simp;omega),List.length_map,List.length_take,Nat.min_eq_left (by omega),Nat.sub_self,List.getElem?_replicate,if_pos (by omega)]
theorem Tc (l:List CoD) {k:Nat}(h:k<l.length):A9 (Gg l k) 6 k=true:=by
 unfold A9
 rw[show ((k:Nat):Int).toNat=k from rfl,PR l h]
 simp
theorem Vc (l:List CoD) {k:Nat}(h:k<l.length):(Gg l k).set k [.int .i64 l[k].op,.int .i64 l[k].a,.int .i64 l[k].b,.int .i64 l[k].c,.int .i64 l[k].num,.osl (l[k].val.map CellD.cs)]=Gg l (k+1):=by
 have hl:((l.take k).map CoD.os).length=k:=by simp;omega
 unfold Gg
 rw[List.set_append_right _ _ (by omega),hl,Nat.sub_self,List.take_succ_eq_append_getElem h,List.map_append,List.append_assoc]
 have:l.length-k=(l.length-(k+1))+1:=by omega
 rw[this,List.replicate_succ]
 simp[CoD.os]
theorem OC (l:List CoD) (hl:l.length≤1048576) (hy:∀d∈l,d.val.length≤1048576):AC Tryz.prog 12 [AD l] [] (.own (0,0)) [((0,0),.row true 6 87 (l.map CoD.os))]:=by
 have hln:(l.map CoD.cs).length=l.length:=by simp
 have h2:(0:Int)≤(l.length:Int):=by omega
 have h3:(l.length:Int)≤2000000:=by omega
 have hmz:=Td l
 refine A7 Tryz.func12 Tryz.ntmps12 ?_
 refine A3 (j3 hln h2 h3) ?_
 refine Ay (κ:=Nat) (fun k=>⟨mkS 0 23 [(0,AD l),(3,.own (99,0)),(4,.c (.int .i64 k))],[((99,0),.row true 6 87 (Gg l k))]⟩)
  (fun k=>k≤l.length) (fun k=>l.length-k) 0 (Nat.zero_le _) ?_ ?_
 ·exact Af (Am.of [((99,0),(7,0))] []) hmz
 ·intro k hk
  by_cases hlt:k<l.length
  ·have hdk:decide ((k:Int)<(l.length:Int))=true:=by simpa using hlt
   have hw:=Ah (k:=k) (by omega)
   obtain⟨hr0,hg0⟩:=Ex l hlt
   have hmem:=List.getElem_mem hlt
   have hca:=Z0 l[k] (hy _ hmem)
   have hm1:=PR l hlt
   have hm2:=Tc l hlt
   have hm3:=Vc l hlt
   generalize l[k]=x at *
   refine A3 (j4 hdk hr0 hg0 hln) ?_
   refine w12 (C9 [] hca) q9 ?_
   refine A3 hm2 ?_
   (apply (Vw [C.int .i64 x.op,C.int .i64 x.a,C.int .i64 x.b,C.int .i64 x.c,C.int .i64 x.num] []);(iterate 13 (focus (first | (simp only[go_sem,Nat.reduceEqDiff,Nat.reduceAdd,Nat.reduceSub,Nat.reduceLeDiff,Nat.reduceMul,Nat.reduceBEq,Nat.reduceLT,Int.reduceToNat,reduceCtorEq,hm1,GQ,C.plain];first | done | exact rfl | (and_intros<;>rfl)) | exact rfl | decide))))
   refine A3 hw ?_
   refine⟨k+1,by omega,by omega,?_⟩
   exact Af (Am.of [((99,0),(99,0))] []) hm3
  ·have hdk:decide ((k:Int)<(l.length:Int))=false:=by simpa using hlt
   have hke:k=l.length:=by omega
   subst hke
   have hmf:=Tb l
   refine A3 (j2 hdk hln) ?_
   exact Ab (Aa [((0,0),(99,0))] []) Tryz.results12 hmf
theorem Xr (d:CoD) (hl:d.val.length≤9223372036854775807):AC Tryz.prog 63 [d.av,d.av] [] (.c (.bool true)) []:=by
 have h1:(d.op != d.op)=false:=by simp
 have h2:(d.a != d.a)=false:=by simp
 have h3:(d.b != d.b)=false:=by simp
 have h4:(d.c != d.c)=false:=by simp
 have h5:(d.num != d.num)=false:=by simp
 have he:=Uv d.val hl
 refine A7 Tryz.func63 Tryz.ntmps63 ?_
 refine A3 (j5 h1 h2 h3 h4 h5) ?_
 refine w7 (A4 [] he) q9 ?_
 refine A3 q9 ?_
 exact Ad (A6 []) Tryz.results63
theorem HK (l:List CoD) (hl:l.length≤1048576) (hx:∀d∈l,d.val.length≤9223372036854775807):AC Tryz.prog 15 [AD l,AD l] [] (.c (.bool true)) []:=by
 have hln:(l.map CoD.cs).length=l.length:=by simp
 have hne:((l.length:Int) != (l.length:Int))=false:=by simp
 refine A7 Tryz.func15 Tryz.ntmps15 ?_
 refine A3 (j2 hln hne) ?_
 refine Ay (κ:=Nat) (fun k=>⟨mkS 0 27 [(0,AD l),(1,AD l),(5,.c (.int .i64 k))],[]⟩)
  (fun k=>k≤l.length) (fun k=>l.length-k) 0 (Nat.zero_le _) ?_ ?_
 ·exact Af (Am.of [] []) hne
 ·intro k hk
  by_cases hlt:k<l.length
  ·have hdk:decide ((k:Int)<(l.length:Int))=true:=by simpa using hlt
   have hw:=Ah (k:=k) (by omega)
   obtain⟨hr0,hg0⟩:=Ex l hlt
   have he:=Xr l[k] (hx _ (List.getElem_mem hlt))
   generalize l[k]=x at *
   refine A3 (j4 hln hdk hr0 hg0) ?_
   refine w7 (A4 [] he) q9 ?_
   refine A3 hw ?_
   refine⟨k+1,by omega,by omega,?_⟩
   exact Af (Am.of [] []) hw
  ·have hdk:decide ((k:Int)<(l.length:Int))=false:=by simpa using hlt
   refine A3 (j2 hln hdk) ?_
   exact Ad (A6 []) Tryz.results15
def Ck (K:Nat):List CoD→List CoD
 | []=>[]
 |d::l=>⟨K,(K+1:Nat),(K+2:Nat),(K+3:Nat),(K+4:Nat),Em (K+5) d.val.length⟩::Ck (K+(5+5*d.val.length)) l
theorem Ez:∀(l:List CoD) (K:Nat),(Ck K l).length=l.length
 | [],_=>rfl
 |d::l,K=>by simp[Ck,Ez l]
theorem OE (l:List CoD) {k:Nat}(h:k<l.length):Bf (l.take (k+1))=Bf (l.take k)+(5+5*l[k].val.length):=by
 rw[List.take_succ_eq_append_getElem h]
 simp only[Bf,List.map_append,List.sum_append,List.map_cons,List.map_nil,List.sum_cons,List.sum_nil,Nat.add_zero]
theorem GP:∀(x y:List CoD) (K:Nat),Ck K (x++y)=Ck K x++Ck (K+Bf x) y
 | [],y,K=>by simp[Ck,Bf]
 |d::x,y,K=>by
  rw[List.cons_append,Ck,GP x y,Ck,List.cons_append]
  congr 3
  simp only[Bf,List.map_cons,List.sum_cons]
  omega
theorem TY (l:List CoD) (k:Nat):Bf (l.take k)≤Bf l:=by
 have h:Bf (l.take k++l.drop k)=Bf (l.take k)+Bf (l.drop k):=by simp only[Bf,List.map_append,List.sum_append]
 rw[List.take_append_drop]at h
 omega
def Eh (K:Nat) (l:List CoD) (k:Nat):List (List C):=(Ck K (l.take k)++l.drop k).map CoD.os
theorem VB (K:Nat) (l:List CoD) (k:Nat):(Eh K l k).length=l.length:=by
 unfold Eh
 rw[List.length_map,List.length_append,Ez,List.length_take,List.length_drop]
 omega
theorem Yq (K:Nat) (l:List CoD) {k:Nat}(h:k<l.length):(Eh K l k)[k]? = some [.int .i64 l[k].op,.int .i64 l[k].a,.int .i64 l[k].b,.int .i64 l[k].c,.int .i64 l[k].num,.osl (l[k].val.map CellD.cs)]:=by
 unfold Eh
 have hl:(Ck K (l.take k)).length=k:=by rw[Ez,List.length_take];omega
 rw[List.getElem?_map,List.getElem?_append_right (by omega),hl,Nat.sub_self,List.getElem?_drop,Nat.add_zero,List.getElem?_eq_getElem h]
 rfl
theorem VC (K:Nat) (l:List CoD) {k:Nat}(h:k<l.length):(Eh K l k).set k [.int .i64 ((K+Bf (l.take k):Nat):Int),.int .i64 ((K+Bf (l.take k)+1:Nat):Int),.int .i64 ((K+Bf (l.take k)+2:Nat):Int),.int .i64 ((K+Bf (l.take k)+3:Nat):Int),.int .i64 ((K+Bf (l.take k)+4:Nat):Int),.osl ((Em (K+Bf (l.take k)+5) l[k].val.length).map CellD.cs)]=Eh K l (k+1):=by
 unfold Eh
 have hl:(Ck K (l.take k)).length=k:=by rw[Ez,List.length_take];omega
 rw[List.map_append,List.set_append_right _ _ (by rw[List.length_map];omega),List.length_map,hl,Nat.sub_self,List.drop_eq_getElem_cons h,List.map_cons,List.set_cons_zero,
  List.take_succ_eq_append_getElem h,GP,List.map_append,List.map_append,List.append_assoc]
 rfl
theorem I0 (l:List CoD) (K:Nat) (e:TypeId) (hK:K+Bf l≤3000000000) (hl9:l.length≤1048576) :
  AC Tryz.prog 16 [.own (0,0),.c (.int .i64 K)] [((0,0),.row true 6 e (l.map CoD.os))] (.c (.int .i64 ((K+Bf l:Nat):Int))) [((0,0),.row true 6 e ((Ck K l).map CoD.os))]:=by
 have hs0:l.map CoD.os=Eh K l 0:=by simp[Eh,Ck]
 have ht0:((K:Nat):Int)=((K+Bf (l.take 0):Nat):Int):=by simp[Bf]
 refine A7 Tryz.func16 Tryz.ntmps16 ?_
 refine A3 q9 ?_
 refine Ay (κ:=Nat) (fun k=>⟨mkS 0 55 [(0,.own (0,0)),(1,.c (.int .i64 ((K+Bf (l.take k):Nat):Int))),(5,.c (.int .i64 k))],[((0,0),.row true 6 e (Eh K l k))]⟩)
  (fun k=>k≤l.length) (fun k=>l.length-k) 0 (Nat.zero_le _) ?_ ?_
 ·exact Af (Am.of [((0,0),(0,0))] []) (j2 hs0 ht0)
 ·intro k hk
  have hpl:=VB K l k
  by_cases hlt:k<l.length
  ·have hdk:decide ((k:Int)<(l.length:Int))=true:=by simpa using hlt
   have hw:=Ah (k:=k) (by omega)
   have htk:=OE l hlt
   have hte:=TY l (k+1)
   obtain⟨M,hM⟩:∃M,M=K+Bf (l.take k):=⟨_,rfl⟩
   have hM1:K+Bf (l.take (k+1))=M+5+5*l[k].val.length:=by omega
   have hset:=VC K l hlt
   have h0:=Yq K l hlt
   rw[←hM]at hset
   rw[←hM]
   have hr0:A9 (Eh K l k) 6 k=true:=by unfold A9;rw[show ((k:Nat):Int).toNat=k from rfl,h0];simp
   have hkl:k<(Eh K l k).length:=by rw[hpl];exact hlt
   have w1:IntKind.i64.wrap ((M:Int)+1)=((M+1:Nat):Int):=by rw[IntWalk.i64_in _ (by omega)];omega
   have w2:IntKind.i64.wrap (((M+1:Nat):Int)+1)=((M+2:Nat):Int):=by rw[IntWalk.i64_in _ (by omega)];omega
   have w3:IntKind.i64.wrap (((M+2:Nat):Int)+1)=((M+3:Nat):Int):=by rw[IntWalk.i64_in _ (by omega)];omega
   have w4:IntKind.i64.wrap (((M+3:Nat):Int)+1)=((M+4:Nat):Int):=by rw[IntWalk.i64_in _ (by omega)];omega
   have w5:IntKind.i64.wrap (((M+4:Nat):Int)+1)=((M+5:Nat):Int):=by rw[IntWalk.i64_in _ (by omega)];omega
   have hmk:=Ri l[k].val (M+5)
   have hpn:=Tu l[k].val
   have h5:((l[k].val.map CellD.cs).all fun x=>x.length==5)=true:=by simp[CellD.cs]
   have hne5:l[k].val.map CellD.cs≠[]→l[k].val≠[]:=by intro h e;rw[e]at h;exact h rfl
   generalize hR3:Eh K l (k+1)=RE at *
   generalize Eh K l k=R0 at *
   obtain⟨R1,hR11⟩:∃R,R0.set k [.int .i64 (M:Int),.int .i64 l[k].a,.int .i64 l[k].b,.int .i64 l[k].c,.int .i64 l[k].num,.osl (l[k].val.map CellD.cs)]=R:=⟨_,rfl⟩
   have g1:R1[k]? = some [.int .i64 (M:Int),.int .i64 l[k].a,.int .i64 l[k].b,.int .i64 l[k].c,.int .i64 l[k].num,.osl (l[k].val.map CellD.cs)]:=by rw[←hR11,List.getElem?_set_self (by omega)]
   have hr1:A9 R1 6 k=true:=by unfold A9;rw[show ((k:Nat):Int).toNat=k from rfl,g1];simp
   have hl1:R1.length=R0.length:=by rw[←hR11,List.length_set]
   obtain⟨R2,hR12⟩:∃R,R1.set k [.int .i64 (M:Int),.int .i64 ((M+1:Nat):Int),.int .i64 l[k].b,.int .i64 l[k].c,.int .i64 l[k].num,.osl (l[k].val.map CellD.cs)]=R:=⟨_,rfl⟩
   have g2:R2[k]? = some [.int .i64 (M:Int),.int .i64 ((M+1:Nat):Int),.int .i64 l[k].b,.int .i64 l[k].c,.int .i64 l[k].num,.osl (l[k].val.map CellD.cs)]:=by rw[←hR12,List.getElem?_set_self (by omega)]
   have hr2:A9 R2 6 k=true:=by unfold A9;rw[show ((k:Nat):Int).toNat=k from rfl,g2];simp
   have hl2:R2.length=R1.length:=by rw[←hR12,List.length_set]
   obtain⟨R3,hR13⟩:∃R,R2.set k [.int .i64 (M:Int),.int .i64 ((M+1:Nat):Int),.int .i64 ((M+2:Nat):Int),.int .i64 l[k].c,.int .i64 l[k].num,.osl (l[k].val.map CellD.cs)]=R:=⟨_,rfl⟩
   have g3:R3[k]? = some [.int .i64 (M:Int),.int .i64 ((M+1:Nat):Int),.int .i64 ((M+2:Nat):Int),.int .i64 l[k].c,.int .i64 l[k].num,.osl (l[k].val.map CellD.cs)]:=by rw[←hR13,List.getElem?_set_self (by omega)]
   have hr3:A9 R3 6 k=true:=by unfold A9;rw[show ((k:Nat):Int).toNat=k from rfl,g3];simp
   have hl3:R3.length=R2.length:=by rw[←hR13,List.length_set]
   obtain⟨R4,hR14⟩:∃R,R3.set k [.int .i64 (M:Int),.int .i64 ((M+1:Nat):Int),.int .i64 ((M+2:Nat):Int),.int .i64 ((M+3:Nat):Int),.int .i64 l[k].num,.osl (l[k].val.map CellD.cs)]=R:=⟨_,rfl⟩
   have g4:R4[k]? = some [.int .i64 (M:Int),.int .i64 ((M+1:Nat):Int),.int .i64 ((M+2:Nat):Int),.int .i64 ((M+3:Nat):Int),.int .i64 l[k].num,.osl (l[k].val.map CellD.cs)]:=by rw[←hR14,List.getElem?_set_self (by omega)]
   have hr4:A9 R4 6 k=true:=by unfold A9;rw[show ((k:Nat):Int).toNat=k from rfl,g4];simp
   have hl4:R4.length=R3.length:=by rw[←hR14,List.length_set]
   obtain⟨R5,hR15⟩:∃R,R4.set k [.int .i64 (M:Int),.int .i64 ((M+1:Nat):Int),.int .i64 ((M+2:Nat):Int),.int .i64 ((M+3:Nat):Int),.int .i64 ((M+4:Nat):Int),.osl (l[k].val.map CellD.cs)]=R:=⟨_,rfl⟩
   have g5:R5[k]? = some [.int .i64 (M:Int),.int .i64 ((M+1:Nat):Int),.int .i64 ((M+2:Nat):Int),.int .i64 ((M+3:Nat):Int),.int .i64 ((M+4:Nat):Int),.osl (l[k].val.map CellD.cs)]:=by rw[←hR15,List.getElem?_set_self (by omega)]
   have hr5:A9 R5 6 k=true:=by unfold A9;rw[show ((k:Nat):Int).toNat=k from rfl,g5];simp
   have hl5:R5.length=R4.length:=by rw[←hR15,List.length_set]
   have hset':R5.set k [.int .i64 (M:Int),.int .i64 ((M+1:Nat):Int),.int .i64 ((M+2:Nat):Int),.int .i64 ((M+3:Nat):Int),.int .i64 ((M+4:Nat):Int),.osl ((Em (M+5) l[k].val.length).map CellD.cs)]=RE:=by rw[←hR15,←hR14,←hR13,←hR12,←hR11,List.set_set,List.set_set,List.set_set,List.set_set,List.set_set];exact hset
   generalize hd:l[k]=d at *
   refine A3 (j3 hpl hdk hr0) ?_
   ((with_reducible apply IS);(iterate 11 (focus (first | (simp only[go_sem,Nat.reduceEqDiff,Nat.reduceAdd,Nat.reduceSub,Nat.reduceLeDiff,Nat.reduceMul,Nat.reduceBEq,Nat.reduceLT,Int.reduceToNat,reduceCtorEq,h0,C.plain,List.set_cons_zero,hR11];first | done | exact rfl | (and_intros<;>rfl)) | exact rfl | decide))))
   refine A3 (j2 w1 hr1) ?_
   ((with_reducible apply IS);(iterate 11 (focus (first | (simp only[go_sem,Nat.reduceEqDiff,Nat.reduceAdd,Nat.reduceSub,Nat.reduceLeDiff,Nat.reduceMul,Nat.reduceBEq,Nat.reduceLT,Int.reduceToNat,reduceCtorEq,g1,C.plain,List.set_cons_zero,List.set_cons_succ,hR12];first | done | exact rfl | (and_intros<;>rfl)) | exact rfl | decide))))
   refine A3 (j2 @w2 hr2) ?_
   ((with_reducible apply IS);(iterate 11 (focus (first | (simp only[go_sem,Nat.reduceEqDiff,Nat.reduceAdd,Nat.reduceSub,Nat.reduceLeDiff,Nat.reduceMul,Nat.reduceBEq,Nat.reduceLT,Int.reduceToNat,reduceCtorEq,g2,C.plain,List.set_cons_zero,List.set_cons_succ,hR13];first | done | exact rfl | (and_intros<;>rfl)) | exact rfl | decide))))
   refine A3 (j2 @w3 hr3) ?_
   ((with_reducible apply IS);(iterate 11 (focus (first | (simp only[go_sem,Nat.reduceEqDiff,Nat.reduceAdd,Nat.reduceSub,Nat.reduceLeDiff,Nat.reduceMul,Nat.reduceBEq,Nat.reduceLT,Int.reduceToNat,reduceCtorEq,g3,C.plain,List.set_cons_zero,List.set_cons_succ,hR14];first | done | exact rfl | (and_intros<;>rfl)) | exact rfl | decide))))
   refine A3 (j2 @w4 hr4) ?_
   ((with_reducible apply IS);(iterate 11 (focus (first | (simp only[go_sem,Nat.reduceEqDiff,Nat.reduceAdd,Nat.reduceSub,Nat.reduceLeDiff,Nat.reduceMul,Nat.reduceBEq,Nat.reduceLT,Int.reduceToNat,reduceCtorEq,g4,C.plain,List.set_cons_zero,List.set_cons_succ,hR15];first | done | exact rfl | (and_intros<;>rfl)) | exact rfl | decide))))
   refine A3 (j2 @w5 hr5) ?_
   ((with_reducible apply a1z);(iterate 11 (focus (first | (simp only[go_sem,Nat.reduceEqDiff,Nat.reduceAdd,Nat.reduceSub,Nat.reduceLeDiff,Nat.reduceMul,Nat.reduceBEq,Nat.reduceLT,Int.reduceToNat,reduceCtorEq,g5,hpn];first | done | exact rfl | (and_intros<;>rfl)) | exact rfl | decide))))
   refine A3 q9 ?_
   (apply (a1v (0,0) (51,0) 5 (fun es' e' h=>hmk es' e' (fun hx=>h (by intro hh;exact hx (by simpa using hh))) (by omega)));(iterate 4 (focus (first | (simp only[go_sem,Nat.reduceEqDiff,Nat.reduceAdd,Nat.reduceSub,Nat.reduceLeDiff,Nat.reduceMul,Nat.reduceBEq,Nat.reduceLT,Int.reduceToNat,reduceCtorEq,g5,h5,hset',List.set_cons_zero,List.set_cons_succ];first | done | exact rfl | (and_intros<;>rfl)) | exact rfl | decide)));(focus (first | (intro _ _;exact rfl) | (intro _ _;simp only[go_sem,Nat.reduceEqDiff,Nat.reduceAdd,Nat.reduceSub,Nat.reduceLeDiff,Nat.reduceMul,Nat.reduceBEq,Nat.reduceLT,Int.reduceToNat,reduceCtorEq,g5,h5,hset',List.set_cons_zero,List.set_cons_succ];done)));(iterate 7 (focus (first | (simp only[go_sem,Nat.reduceEqDiff,Nat.reduceAdd,Nat.reduceSub,Nat.reduceLeDiff,Nat.reduceMul,Nat.reduceBEq,Nat.reduceLT,Int.reduceToNat,reduceCtorEq,g5,h5,hset',List.set_cons_zero,List.set_cons_succ];first | done | exact rfl | (and_intros<;>rfl)) | exact rfl | decide))))
   refine A3 hw ?_
   refine⟨k+1,by omega,by omega,?_⟩
   exact Af (Am.of [((0,0),(0,0))] []) (j2 hM1 hR3)
  ·have hdk:decide ((k:Int)<(l.length:Int))=false:=by simpa using hlt
   have hke:k=l.length:=by omega
   subst hke
   have hfin:Eh K l l.length=(Ck K l).map CoD.os:=by simp[Eh]
   have htk:l.take l.length=l:=by simp
   rw[hfin,htk]
   rw[hfin]at hpl
   refine A3 (j2 hpl hdk) ?_
   exact Ab (Aa [((0,0),(0,0))] []) Tryz.results16 hdk
theorem Ra (l:List CoD) (K:Nat) (hK:K+Bf l≤3000000000) (hl:l.length≤1048576):AC Tryz.prog 64 [AD (Ck K l),.c (.int .i64 K)] [] (.c (.int .i64 ((K+Bf l:Nat):Int))) []:=by
 have hln:((Ck K l).map CoD.cs).length=l.length:=by rw[List.length_map,Ez]
 have hml:=Ez l K
 have ht0:((K:Nat):Int)=((K+Bf (l.take 0):Nat):Int):=by simp[Bf]
 refine A7 Tryz.func64 Tryz.ntmps64 ?_
 refine A3 q9 ?_
 refine Ay (κ:=Nat) (fun k=>⟨mkS 0 67 [(0,AD (Ck K l)),(1,.c (.int .i64 ((K+Bf (l.take k):Nat):Int))),(5,.c (.int .i64 k))],[]⟩)
  (fun k=>k≤l.length) (fun k=>l.length-k) 0 (Nat.zero_le _) ?_ ?_
 ·exact Af (Am.of [] []) ht0
 ·intro k hk
  by_cases hlt:k<l.length
  ·have hdk:decide ((k:Int)<(l.length:Int))=true:=by simpa using hlt
   have hw:=Ah (k:=k) (by omega)
   have htk:=OE l hlt
   have hte:=TY l (k+1)
   obtain⟨M,hM⟩:∃M,M=K+Bf (l.take k):=⟨_,rfl⟩
   have hM1:K+Bf (l.take (k+1))=M+5+5*l[k].val.length:=by omega
   have hsp:Ck K l=Ck K (l.take k)++Ck M (l[k]::l.drop (k+1)):=by
    have h1:=GP (l.take k) (l[k]::l.drop (k+1)) K
    rw[←List.drop_eq_getElem_cons hlt,List.take_append_drop,←hM]at h1
    rw[h1,List.drop_eq_getElem_cons hlt]
   have hat:(Ck K l)[k]'(by rw[hml];exact hlt)=⟨M,(M+1:Nat),(M+2:Nat),(M+3:Nat),(M+4:Nat),Em (M+5) l[k].val.length⟩:=by
    have hl2:(Ck K (l.take k)).length=k:=by rw[Ez,List.length_take];omega
    have h3:(Ck K l)[k]? = some ⟨M,(M+1:Nat),(M+2:Nat),(M+3:Nat),(M+4:Nat),Em (M+5) l[k].val.length⟩:=by
     rw[hsp,List.getElem?_append_right (by omega),hl2,Nat.sub_self]
     rfl
    exact (List.getElem?_eq_some_iff.1 h3).2
   obtain⟨hr0,hg0⟩:=Ex (l:=Ck K l) (k:=k) (by rw[hml];exact hlt)
   rw[hat]at hg0
   dsimp only at hg0
   rw[←hM]
   have w1:IntKind.i64.wrap ((M:Int)+1)=((M+1:Nat):Int):=by rw[IntWalk.i64_in _ (by omega)];omega
   have w2:IntKind.i64.wrap (((M+1:Nat):Int)+1)=((M+2:Nat):Int):=by rw[IntWalk.i64_in _ (by omega)];omega
   have w3:IntKind.i64.wrap (((M+2:Nat):Int)+1)=((M+3:Nat):Int):=by rw[IntWalk.i64_in _ (by omega)];omega
   have w4:IntKind.i64.wrap (((M+3:Nat):Int)+1)=((M+4:Nat):Int):=by rw[IntWalk.i64_in _ (by omega)];omega
   have w5:IntKind.i64.wrap (((M+4:Nat):Int)+1)=((M+5:Nat):Int):=by rw[IntWalk.i64_in _ (by omega)];omega
   have hc1:=R9 l[k].val.length (M+5) (by omega)
   have hne:((M:Int) != (M:Int))=false:=by simp
   have hne2:(((M+1:Nat):Int) != ((M+1:Nat):Int))=false:=by simp
   have hne3:(((M+2:Nat):Int) != ((M+2:Nat):Int))=false:=by simp
   have hne4:(((M+3:Nat):Int) != ((M+3:Nat):Int))=false:=by simp
   have hne5:(((M+4:Nat):Int) != ((M+4:Nat):Int))=false:=by simp
   have hn1:decide (((M+5+5*l[k].val.length:Nat):Int)<0)=false:=by simp;omega
   generalize l[k]=d at *
   refine A3 (j2 (j12 hln hdk hr0 hg0 hne w1 hne2 @w2 hne3 @w3 hne4 @w4) (j2 hne5 @w5)) ?_
   refine w7 (A4 [] hc1) q9 ?_
   refine A3 (j2 hn1 hw) ?_
   refine⟨k+1,by omega,by omega,?_⟩
   exact Af (Am.of [] []) hM1
  ·have hdk:decide ((k:Int)<(l.length:Int))=false:=by simpa using hlt
   have hke:l.take k=l:=List.take_of_length_le (by omega)
   rw[hke]
   refine A3 (j2 hln hdk) ?_
   exact Ad (A6 []) Tryz.results64
theorem OX (K:Nat):AC Tryz.prog 16 [.nils,.c (.int .i64 K)] [] (.c (.int .i64 K)) []:=by
 have hd:decide ((0:Int)<0)=false:=rfl
 refine A7 Tryz.func16 Tryz.ntmps16 ?_
 refine A3 q9 ?_
 refine Ay (κ:=Nat) (fun k=>⟨mkS 0 55 [(0,.nils),(1,.c (.int .i64 K)),(5,.c (.int .i64 0))],[]⟩)
  (fun _=>True) (fun k=>k) 0 trivial ?_ ?_
 ·exact Af (Am.of [] []) hd
 ·intro k hk
  refine A3 hd ?_
  exact Ad (A6 []) Tryz.results16
theorem OS (K:Nat):AC Tryz.prog 64 [.nils,.c (.int .i64 K)] [] (.c (.int .i64 K)) []:=by
 have hd:decide ((0:Int)<0)=false:=rfl
 refine A7 Tryz.func64 Tryz.ntmps64 ?_
 refine A3 q9 ?_
 refine Ay (κ:=Nat) (fun k=>⟨mkS 0 67 [(0,.nils),(1,.c (.int .i64 K)),(5,.c (.int .i64 0))],[]⟩)
  (fun _=>True) (fun k=>k) 0 trivial ?_ ?_
 ·exact Af (Am.of [] []) hd
 ·intro k hk
  refine A3 hd ?_
  exact Ad (A6 []) Tryz.results64
theorem MG (c did:Int) (l:List CoD) (hl:l.length≤1048576) (hx:∀d∈l,d.val.length≤9223372036854775807):AC Tryz.prog 14 [.agg [.c (.int .i64 c),.c (.int .i64 did),.c (.sl (l.map CoD.cs))],.agg [.c (.int .i64 c),.c (.int .i64 did),.c (.sl (l.map CoD.cs))]] [] (.c (.bool true)) []:=by
 have hne:(c != c)=false:=by simp
 have hna:(did != did)=false:=by simp
 have he:=HK l hl hx
 refine A7 Tryz.func14 Tryz.ntmps14 ?_
 refine A3 (j2 hne hna) ?_
 refine w7 (A4 [] he) q9 ?_
 refine A3 q9 ?_
 exact Ad (A6 []) Tryz.results14
theorem KV (c did:Int) (l:List CoD) (K:Nat) (hK:K+Bf l≤3000000000) (hl:l.length≤1048576):AC Tryz.prog 18 [.agg [.c (.int .i64 c),.c (.int .i64 did),.c (.sl ((Ck K l).map CoD.cs))],.c (.int .i64 K)] [] (.c (.int .i64 ((K+Bf l:Nat):Int))) []:=by
 have he:=Ra l K hK hl
 have hn0:decide (((K+Bf l:Nat):Int)<0)=false:=by simp;omega
 refine A7 Tryz.func18 Tryz.ntmps18 ?_
 refine A3 q9 ?_
 refine w7 (A4 [] he) q9 ?_
 refine A3 hn0 ?_
 exact Ad (A6 []) Tryz.results18
theorem L9 (c did:Int) (l:List CoD) (K:Nat) (e:TypeId) (hK:K+Bf l≤3000000000) (hl:l.length≤1048576) :
  AC Tryz.prog 17 [.agg [.c (.int .i64 c),.c (.int .i64 did),.own (0,0)],.c (.int .i64 K)] [((0,0),.row true 6 e (l.map CoD.os))] (.c (.int .i64 ((K+Bf l:Nat):Int))) [((0,0),.row true 6 e ((Ck K l).map CoD.os))]:=by
 have he:=I0 l K e hK hl
 refine A7 Tryz.func17 Tryz.ntmps17 ?_
 refine A3 q9 ?_
 refine w9 (O7 (0,0) he) q9 ?_
 refine A3 q9 ?_
 exact Ab (Aa [((0,0),(0,0))] []) Tryz.results17 hl
theorem K7 (c did:Int) (K:Nat) (hK:K≤3000000000):AC Tryz.prog 18 [.agg [.c (.int .i64 c),.c (.int .i64 did),.nils],.c (.int .i64 K)] [] (.c (.int .i64 K)) []:=by
 have he:=OS K
 have hn0:decide ((K:Int)<0)=false:=by simp
 refine A7 Tryz.func18 Tryz.ntmps18 ?_
 refine A3 q9 ?_
 refine w7 (A4 [] he) q9 ?_
 refine A3 hn0 ?_
 exact Ad (A6 []) Tryz.results18
theorem Kg (c did:Int) (K:Nat):AC Tryz.prog 17 [.agg [.c (.int .i64 c),.c (.int .i64 did),.nils],.c (.int .i64 K)] [] (.c (.int .i64 K)) []:=by
 have he:=OX K
 refine A7 Tryz.func17 Tryz.ntmps17 ?_
 refine A3 q9 ?_
 refine w7 (A4 [] he) q9 ?_
 refine A3 q9 ?_
 exact Ad (A6 []) Tryz.results17
theorem LE (c did:Int):AC Tryz.prog 14 [.agg [.c (.int .i64 c),.c (.int .i64 did),.nils],.agg [.c (.int .i64 c),.c (.int .i64 did),.nils]] [] (.c (.bool true)) []:=by
 have hne:(c != c)=false:=by simp
 have hna:(did != did)=false:=by simp
 have he:=HK [] (by simp) (by simp)
 refine A7 Tryz.func14 Tryz.ntmps14 ?_
 refine A3 (j2 hne hna) ?_
 refine w7 (A4 [] he) @List.map_nil.{0,0} ?_
 refine A3 q9 ?_
 exact Ad (A6 []) Tryz.results14
end Go.Proofs.YtcejfdfmgmcinaaGreat
