/- spec.l10Join: parts are laid one behind the other, and a node that names them. Printed by gen_k36.py. -/
import Derived.Test.YtcejfdfmgmcinaaGreatKK07uK23
set_option linter.all false
set_option maxHeartbeats 8000000
namespace Go.Proofs.YtcejfdfmgmcinaaGreat
open Go.RowKit
set_option maxRecDepth 10000
mutual
theorem NG:∀(t:CT) (b:Nat),t.ok→∀d∈t.flat b,1≤d.op∧d.op≤17∧0≤d.a∧d.a≤(b+t.size:Nat)∧0≤d.b∧d.b≤(b+t.size:Nat)∧0≤d.c∧d.c≤(b+t.size:Nat)
 | .mk op num val kids,b,h,d,hd=>by
  unfold CT.ok at h
  obtain⟨h1,h2,h3⟩:=h
  rw[CT.flat]at hd
  rw[CT.size]
  rcases List.mem_append.1 hd with hd | hd
  ·obtain⟨a1,a2,a3,a4,a5,a6,a7,a8⟩:=L3 kids b h3 d hd
   omega
  ·rw[List.mem_singleton.1 hd]
   have key:∀j:Nat,(((Az b kids)[j]?.getD 0:Nat):Int)≤((b+Ah kids:Nat):Int):=by
    intro j
    by_cases hj:j<kids.length
    ·rw[F2 kids b j hj]
     have h4:=D5 kids hj
     have h5:=Di kids (j+1)
     simp only[Option.getD_some]
     omega
    ·rw[List.getElem?_eq_none (by rw[Df];omega)]
     simp only[Option.getD_none]
     omega
   have k0:=key 0
   have k1:=key 1
   have k2:=key 2
   have n0:(0:Int)≤(((Az b kids)[0]?.getD 0:Nat):Int):=Int.natCast_nonneg _
   have n1:(0:Int)≤(((Az b kids)[1]?.getD 0:Nat):Int):=Int.natCast_nonneg _
   have n2:(0:Int)≤(((Az b kids)[2]?.getD 0:Nat):Int):=Int.natCast_nonneg _
   unfold B9
   dsimp only
   exact⟨h1.kind.1,h1.kind.2,n0,by omega,n1,by omega,n2,by omega⟩
theorem L3:∀(l:List CT) (b:Nat),FO l→∀d∈B5 b l,1≤d.op∧d.op≤17∧0≤d.a∧d.a≤(b+Ah l:Nat)∧0≤d.b∧d.b≤(b+Ah l:Nat)∧0≤d.c∧d.c≤(b+Ah l:Nat)
 | [],b,_,d,hd=>by rw[B5]at hd;exact absurd hd (by simp)
 |t::r,b,h,d,hd=>by
  unfold FO at h
  rw[B5]at hd
  rw[Ah]
  rcases List.mem_append.1 hd with hd | hd
  ·obtain⟨a1,a2,a3,a4,a5,a6,a7,a8⟩:=NG t b h.1 d hd
   omega
  ·obtain⟨a1,a2,a3,a4,a5,a6,a7,a8⟩:=L3 r (b+t.size) h.2 d hd
   omega
end
def Cp (kids:List CT) (i:Nat):List CoD:=B5 0 (kids.take i)
def Ef (kids:List CT) (i:Nat) (t:CT) (k:Nat):List CoD:=Cp kids i++((t.flat 0).take k).map (Ec (Ah (kids.take i)))
theorem Jh (kids:List CT) (i:Nat):(Cp kids i).length=Ah (kids.take i):=by unfold Cp;rw[F3]
theorem Y3 (kids:List CT) (i:Nat) (t:CT) {k:Nat}(h:k≤t.size):(Ef kids i t k).length=Ah (kids.take i)+k:=by
 unfold Ef
 rw[List.length_append,Jh,List.length_map,List.length_take,CT.flat_len]
 omega
theorem V2 (kids:List CT) (i:Nat) (t:CT):Ef kids i t 0=Cp kids i:=by unfold Ef;simp
theorem V0 {kids:List CT}(ho:FO kids) {i:Nat}(h:i<kids.length):Ef kids i kids[i] kids[i].size=Cp kids (i+1):=by
 unfold Ef Cp
 rw[List.take_of_length_le (l:=kids[i].flat 0) (by rw[CT.flat_len];exact Nat.le_refl _),←XI (B4.1 ho _ (List.getElem_mem h)),List.take_succ_eq_append_getElem h,HY,B5,B5,List.append_nil,Nat.zero_add]
theorem V1 (kids:List CT) (i:Nat) (t:CT) {k:Nat}(h:k<(t.flat 0).length):Ef kids i t (k+1)=Ef kids i t k++[Ec (Ah (kids.take i)) (t.flat 0)[k]]:=by
 unfold Ef
 rw[List.take_succ_eq_append_getElem h,List.map_append,List.append_assoc]
 rfl
theorem UF (kids:List CT):∀{i:Nat},i<kids.length→Az 0 (kids.take (i+1))=Az 0 (kids.take i)++[Ah (kids.take (i+1))-1]:=by
 intro i h
 have h2:=D5 kids h
 rw[List.take_succ_eq_append_getElem h,LI,Az,Az,Nat.zero_add]at *
 rw[h2]
def E8 (l:List Nat):List (List C):=l.map fun (x:Nat)=>[C.int .i64 x]
theorem y9 (l:List Nat) (x:Nat):E8 (l++[x])=E8 l++[[.int .i64 x]]:=by unfold E8;rw[List.map_append];rfl
theorem z6 (l:List Nat):(E8 l).length=l.length:=by simp[E8]
theorem Y4 (op num:Int) (val:List CellD) (kids:List CT):(CT.mk op num val kids).flat 0=Cp kids kids.length++[B9 op num val (Az 0 kids)]:=by
 unfold Cp
 rw[CT.flat,List.take_length]
theorem Xx (l:List CoD):((l.map CoD.cs).all fun r=>r.length==6)=true:=by simp[CoD.cs]
theorem V7 {op num:Int}{val:List CellD}{kids:List CT}(hn:(CT.mk op num val kids).ok) (hz:(CT.mk op num val kids).size≤900) :
  AC Tryz.prog 190 [D8 kids,IT op num val] [] (.own (0,0)) [((0,0),.row false 6 87 (((CT.mk op num val kids).flat 0).map CoD.cs))]:=by
 have hn':=hn
 unfold CT.ok at hn'
 obtain⟨hnode,hal,hok⟩:=hn'
 rw[CT.size]at hz
 have h3:=Bx op
 have hln:(kids.map AG).length=kids.length:=by simp
 have e0:(Cp kids 0).map CoD.cs=[]:=by unfold Cp;rw[List.take_zero,B5];rfl
 have e1:E8 (Az 0 (kids.take 0))=[]:=by rw[List.take_zero,Az];rfl
 rw[Y4]
 refine A6 Tryz.func190 Tryz.ntmps190 q9 ?_
 refine Ar (κ:=Nat) (fun i=>⟨mkS 0 99 [(0,D8 kids),(3,.ptr (3,0) 0),(4,.nils),(5,.own (95,0)),(6,.own (96,0)),(7,.c (.int .i64 i))],
   [((3,0),.box [.c (.int .i64 op),.c (.int .i64 0),.c (.int .i64 0),.c (.int .i64 0),.c (.int .i64 num),.c (.sl (val.map CellD.cs))]),((95,0),.row false 6 87 ((Cp kids i).map CoD.cs)),((96,0),.row false 1 2 (E8 (Az 0 (kids.take i))))]⟩)
  (fun i=>i≤kids.length) (fun i=>kids.length-i) 0 (Nat.zero_le _) ?_ ?_
 ·exact Ac (Aj.of [((3,0),(3,0)),((95,0),(11,0)),((96,0),(12,0))] []) (j2 e0 e1)
 intro i hi
 by_cases hlt:i<kids.length
 ·have hdk:decide ((i:Int)<(kids.length:Int))=true:=decide_eq_true (by omega)
  have hw:=Ad (k:=i) (by omega)
  obtain⟨hr0,hg0⟩:=Cf kids hlt
  have hti:=B4.1 hok _ (List.getElem_mem hlt)
  have hzt:=D5 kids hlt
  have hzl:=Di kids (i+1)
  have hjl:=Jh kids i
  have hfull:=V0 hok hlt
  have hends:=UF kids hlt
  have hel:(Az 0 (kids.take i)).length=i:=by rw[Df,List.length_take];omega
  have hfl:=kids[i].flat_len 0
  have hx0:=V2 kids i kids[i]
  generalize kids[i]=t at *
  have hjl':((Cp kids i).map CoD.cs).length=Ah (kids.take i):=by rw[List.length_map,hjl]
  refine Ab (j3 hln hdk hjl') ?_
  refine Ar (κ:=Nat) (fun k=>⟨mkS 0 99 [(0,D8 kids),(3,.ptr (3,0) 0),(4,.nils),(5,.own (95,0)),(6,.own (96,0)),(7,.c (.int .i64 i)),(8,.c (.int .i64 (Ah (kids.take i):Nat))),(9,.c (.int .i64 k))],
    [((3,0),.box [.c (.int .i64 op),.c (.int .i64 0),.c (.int .i64 0),.c (.int .i64 0),.c (.int .i64 num),.c (.sl (val.map CellD.cs))]),((95,0),.row false 6 87 ((Ef kids i t k).map CoD.cs)),((96,0),.row false 1 2 (E8 (Az 0 (kids.take i))))]⟩)
   (fun k=>k≤t.size) (fun k=>t.size-k) 0 (Nat.zero_le _) ?_ ?_
  ·exact Ac (Aj.of [((3,0),(3,0)),((95,0),(95,0)),((96,0),(96,0))] []) (j2 hx0 hjl)
  intro k hk
  have hlf:((t.flat 0).map CoD.cs).length=t.size:=by rw[List.length_map,hfl]
  by_cases hkl:k<t.size
  ·have hdk2:decide ((k:Int)<(t.size:Int))=true:=decide_eq_true (by omega)
   have hwk:=Ad (k:=k) (by omega)
   have hkf:k<(t.flat 0).length:=by omega
   obtain⟨hrk,hgk⟩:=EJ (t.flat 0) hkf
   obtain⟨s1,s2,s3,s4,s5,s6,s7,s8⟩:=NG t 0 hti _ (List.getElem_mem hkf)
   have hnx:=V1 kids i t hkf
   have hjx:=Y3 kids i t (k:=k) hk
   have hkids:=G0 (t.flat 0)[k].op s1 s2
   have hbase:Ah (kids.take i)≤900:=by omega
   have har:=Bx (t.flat 0)[k].op
   have hlen1:(Ef kids i t k).length+1≤1000000:=by omega
   generalize hbg:Ah (kids.take i)=base at *
   have hrow:(Ef kids i t k).map CoD.cs++[(Ec base (t.flat 0)[k]).cs]=(Ef kids i t (k+1)).map CoD.cs:=by rw[hnx,List.map_append];rfl
   have hwa:IntKind.i64.wrap ((t.flat 0)[k].a+(base:Int))=(t.flat 0)[k].a+(base:Int):=IntWalk.i64_in _ (by omega)
   have hwb:IntKind.i64.wrap ((t.flat 0)[k].b+(base:Int))=(t.flat 0)[k].b+(base:Int):=IntWalk.i64_in _ (by omega)
   have hwc:IntKind.i64.wrap ((t.flat 0)[k].c+(base:Int))=(t.flat 0)[k].c+(base:Int):=IntWalk.i64_in _ (by omega)
   clear hnx s1 s2 s3 s4 s5 s6 s7 s8 hfull hends hx0
   generalize (t.flat 0)[k]=d at *
   have hc4:Au d.op=0∨Au d.op=1∨Au d.op=2∨Au d.op=3:=by omega
   rcases hc4 with e | e | e | e
   ·have hsh:Ec base d=⟨d.op,d.a,d.b,d.c,d.num,d.val⟩:=by unfold Ec;rw[e];rfl
    rw[hsh]at hrow
    rw[e]at hkids
    replace hrow:(Ef kids i t k).map CoD.cs++[[.int .i64 d.op,.int .i64 d.a,.int .i64 d.b,.int .i64 d.c,.int .i64 d.num,.sl (d.val.map CellD.cs)]]=(Ef kids i t (k+1)).map CoD.cs:=hrow
    have g0:decide (((0:Nat):Int)>0)=false:=rfl
    have g1:decide (((0:Nat):Int)>1)=false:=rfl
    have g2:decide (((0:Nat):Int)>2)=false:=rfl
    clear e har hsh
    refine Ab (j7 hln hr0 hg0 hlf hdk2 hrk hgk) ?_
    refine v7 (A3 [] hkids) q9 (j2 g0 hwa) ?_
    refine v7 (A3 [] hkids) q9 (j2 g1 hwb) ?_
    refine v7 (A3 [] hkids) q9 (j4 g2 hwc hlen1 hwk) ?_
    refine⟨k+1,by omega,by omega,?_⟩
    exact Ac (Aj.of [((3,0),(3,0)),((95,0),(67,0)),((96,0),(96,0))] []) hrow
   ·have hsh:Ec base d=⟨d.op,d.a+(base:Int),d.b,d.c,d.num,d.val⟩:=by unfold Ec;rw[e];rfl
    rw[hsh]at hrow
    rw[e]at hkids
    replace hrow:(Ef kids i t k).map CoD.cs++[[.int .i64 d.op,.int .i64 (d.a+(base:Int)),.int .i64 d.b,.int .i64 d.c,.int .i64 d.num,.sl (d.val.map CellD.cs)]]=(Ef kids i t (k+1)).map CoD.cs:=hrow
    have g0:decide (((1:Nat):Int)>0)=true:=rfl
    have g1:decide (((1:Nat):Int)>1)=false:=rfl
    have g2:decide (((1:Nat):Int)>2)=false:=rfl
    clear e har hsh
    refine Ab (j7 hln hr0 hg0 hlf hdk2 hrk hgk) ?_
    refine v7 (A3 [] hkids) q9 (j2 g0 hwa) ?_
    refine v7 (A3 [] hkids) q9 (j2 g1 hwb) ?_
    refine v7 (A3 [] hkids) q9 (j4 g2 hwc hlen1 hwk) ?_
    refine⟨k+1,by omega,by omega,?_⟩
    exact Ac (Aj.of [((3,0),(3,0)),((95,0),(67,0)),((96,0),(96,0))] []) hrow
   ·have hsh:Ec base d=⟨d.op,d.a+(base:Int),d.b+(base:Int),d.c,d.num,d.val⟩:=by unfold Ec;rw[e];rfl
    rw[hsh]at hrow
    rw[e]at hkids
    replace hrow:(Ef kids i t k).map CoD.cs++[[.int .i64 d.op,.int .i64 (d.a+(base:Int)),.int .i64 (d.b+(base:Int)),.int .i64 d.c,.int .i64 d.num,.sl (d.val.map CellD.cs)]]=(Ef kids i t (k+1)).map CoD.cs:=hrow
    have g0:decide (((2:Nat):Int)>0)=true:=rfl
    have g1:decide (((2:Nat):Int)>1)=true:=rfl
    have g2:decide (((2:Nat):Int)>2)=false:=rfl
    clear e har hsh
    refine Ab (j7 hln hr0 hg0 hlf hdk2 hrk hgk) ?_
    refine v7 (A3 [] hkids) q9 (j2 g0 hwa) ?_
    refine v7 (A3 [] hkids) q9 (j2 g1 hwb) ?_
    refine v7 (A3 [] hkids) q9 (j4 g2 hwc hlen1 hwk) ?_
    refine⟨k+1,by omega,by omega,?_⟩
    exact Ac (Aj.of [((3,0),(3,0)),((95,0),(67,0)),((96,0),(96,0))] []) hrow
   ·have hsh:Ec base d=⟨d.op,d.a+(base:Int),d.b+(base:Int),d.c+(base:Int),d.num,d.val⟩:=by unfold Ec;rw[e];rfl
    rw[hsh]at hrow
    rw[e]at hkids
    replace hrow:(Ef kids i t k).map CoD.cs++[[.int .i64 d.op,.int .i64 (d.a+(base:Int)),.int .i64 (d.b+(base:Int)),.int .i64 (d.c+(base:Int)),.int .i64 d.num,.sl (d.val.map CellD.cs)]]=(Ef kids i t (k+1)).map CoD.cs:=hrow
    have g0:decide (((3:Nat):Int)>0)=true:=rfl
    have g1:decide (((3:Nat):Int)>1)=true:=rfl
    have g2:decide (((3:Nat):Int)>2)=true:=rfl
    clear e har hsh
    refine Ab (j7 hln hr0 hg0 hlf hdk2 hrk hgk) ?_
    refine v7 (A3 [] hkids) q9 (j2 g0 hwa) ?_
    refine v7 (A3 [] hkids) q9 (j2 g1 hwb) ?_
    refine v7 (A3 [] hkids) q9 (j4 g2 hwc hlen1 hwk) ?_
    refine⟨k+1,by omega,by omega,?_⟩
    exact Ac (Aj.of [((3,0),(3,0)),((95,0),(67,0)),((96,0),(96,0))] []) hrow
  ·have hdk2:decide ((k:Int)<(t.size:Int))=false:=decide_eq_false (by omega)
   have hke:k=t.size:=by omega
   subst hke
   rw[hfull]
   have hjl2:((Cp kids (i+1)).map CoD.cs).length=Ah (kids.take (i+1)):=by rw[List.length_map,Jh]
   have hws:IntKind.i64.wrap ((Ah (kids.take (i+1)):Int)-1)=((Ah (kids.take (i+1))-1:Nat):Int):=by
    have:=t.size_pos
    rw[IntWalk.i64_in _ (by omega)]
    omega
   have hne:E8 (Az 0 (kids.take i))++[[.int .i64 (Ah (kids.take (i+1))-1:Nat)]]=E8 (Az 0 (kids.take (i+1))):=by rw[hends,y9]
   have hnl:(E8 (Az 0 (kids.take i))).length+1≤1000000:=by rw[z6,hel];omega
   have hna:((E8 (Az 0 (kids.take i))).all fun r=>r.length==1)=true:=by simp[E8]
   clear hends hfull hx0
   generalize E8 (Az 0 (kids.take i))=E at *
   refine Ab (j10 hln hr0 hg0 hlf hdk2 hjl2 hws hnl hna hw) ?_
   refine⟨i+1,by omega,by omega,?_⟩
   exact Ac (Aj.of [((3,0),(3,0)),((95,0),(95,0)),((96,0),(73,0))] []) hne
 ·have hdk:decide ((i:Int)<(kids.length:Int))=false:=decide_eq_false (by omega)
  have hke:i=kids.length:=by omega
  subst hke
  rw[List.take_length]
  have hjn:(Cp kids kids.length).length+1≤1000000:=by rw[Jh,List.take_length];omega
  have hel:(Az 0 kids).length=kids.length:=Df _ _
  have hc4:kids.length=0∨kids.length=1∨kids.length=2∨kids.length=3:=by omega
  generalize hE:Az 0 kids=E at *
  rcases hc4 with e | e | e | e
  ·rw[e]at hel
   have hrow:(Cp kids kids.length).map CoD.cs++[(B9 op num val E).cs]=(Cp kids kids.length++[B9 op num val E]).map CoD.cs:=by rw[List.map_append];rfl
   have hE2:E=[]:=List.eq_nil_of_length_eq_zero hel
   subst hE2
   replace hrow:(Cp kids kids.length).map CoD.cs++[[.int .i64 op,(.int .i64 0),(.int .i64 0),(.int .i64 0),.int .i64 num,.sl (val.map CellD.cs)]]=(Cp kids kids.length++[B9 op num val []]).map CoD.cs:=hrow
   have hlE:(E8 []).length=0:=rfl
   have g0:decide (((0:Nat):Int)>0)=false:=rfl
   have g1:decide (((0:Nat):Int)>1)=false:=rfl
   have g2:decide (((0:Nat):Int)>2)=false:=rfl
   generalize (Cp kids kids.length++[B9 op num val []]).map CoD.cs=R,E8 []=Q at *
   refine Ab (j7 hln hdk hjn hlE g0 g1 g2) ?_
   exact Aa (A9 [((0,0),(98,0))] []) Tryz.results190 hrow
  ·rw[e]at hel
   have hrow:(Cp kids kids.length).map CoD.cs++[(B9 op num val E).cs]=(Cp kids kids.length++[B9 op num val E]).map CoD.cs:=by rw[List.map_append];rfl
   obtain⟨x,hE2⟩:∃x,E=[x]:=by
    match E,hel with
    | [x],_=>exact⟨x,rfl⟩
   subst hE2
   replace hrow:(Cp kids kids.length).map CoD.cs++[[.int .i64 op,(.int .i64 (x:Nat)),(.int .i64 0),(.int .i64 0),.int .i64 num,.sl (val.map CellD.cs)]]=(Cp kids kids.length++[B9 op num val [x]]).map CoD.cs:=hrow
   have hlE:(E8 [x]).length=1:=rfl
   have g0:decide (((1:Nat):Int)>0)=true:=rfl
   have g1:decide (((1:Nat):Int)>1)=false:=rfl
   have g2:decide (((1:Nat):Int)>2)=false:=rfl
   have hq0:A8 (E8 [x]) 1 0=true:=rfl
   have hw0:(E8 [x])[0]? = some [.int .i64 (x:Nat)]:=rfl
   generalize (Cp kids kids.length++[B9 op num val [x]]).map CoD.cs=R,E8 [x]=Q at *
   refine Ab (j9 hln hdk hjn hlE g0 g1 g2 hq0 hw0) ?_
   exact Aa (A9 [((0,0),(98,0))] []) Tryz.results190 hrow
  ·rw[e]at hel
   have hrow:(Cp kids kids.length).map CoD.cs++[(B9 op num val E).cs]=(Cp kids kids.length++[B9 op num val E]).map CoD.cs:=by rw[List.map_append];rfl
   obtain⟨x,y,hE2⟩:∃x y,E=[x,y]:=by
    match E,hel with
    | [x,y],_=>exact⟨x,y,rfl⟩
   subst hE2
   replace hrow:(Cp kids kids.length).map CoD.cs++[[.int .i64 op,(.int .i64 (x:Nat)),(.int .i64 (y:Nat)),(.int .i64 0),.int .i64 num,.sl (val.map CellD.cs)]]=(Cp kids kids.length++[B9 op num val [x,y]]).map CoD.cs:=hrow
   have hlE:(E8 [x,y]).length=2:=rfl
   have g0:decide (((2:Nat):Int)>0)=true:=rfl
   have g1:decide (((2:Nat):Int)>1)=true:=rfl
   have g2:decide (((2:Nat):Int)>2)=false:=rfl
   have hq0:A8 (E8 [x,y]) 1 0=true:=rfl
   have hw0:(E8 [x,y])[0]? = some [.int .i64 (x:Nat)]:=rfl
   have hq1:A8 (E8 [x,y]) 1 1=true:=rfl
   have hw1:(E8 [x,y])[1]? = some [.int .i64 (y:Nat)]:=rfl
   generalize (Cp kids kids.length++[B9 op num val [x,y]]).map CoD.cs=R at *
   generalize E8 [x,y]=Q at *
   refine Ab (j11 hln hdk hjn hlE g0 g1 g2 hq0 hw0 hq1 hw1) ?_
   exact Aa (A9 [((0,0),(98,0))] []) Tryz.results190 hrow
  ·rw[e]at hel
   have hrow:(Cp kids kids.length).map CoD.cs++[(B9 op num val E).cs]=(Cp kids kids.length++[B9 op num val E]).map CoD.cs:=by rw[List.map_append];rfl
   obtain⟨x,y,z,hE2⟩:∃x y z,E=[x,y,z]:=by
    match E,hel with
    | [x,y,z],_=>exact⟨x,y,z,rfl⟩
   subst hE2
   replace hrow:(Cp kids kids.length).map CoD.cs++[[.int .i64 op,(.int .i64 (x:Nat)),(.int .i64 (y:Nat)),(.int .i64 (z:Nat)),.int .i64 num,.sl (val.map CellD.cs)]]=(Cp kids kids.length++[B9 op num val [x,y,z]]).map CoD.cs:=hrow
   have hlE:(E8 [x,y,z]).length=3:=rfl
   have g0:decide (((3:Nat):Int)>0)=true:=rfl
   have g1:decide (((3:Nat):Int)>1)=true:=rfl
   have g2:decide (((3:Nat):Int)>2)=true:=rfl
   have hq0:A8 (E8 [x,y,z]) 1 0=true:=rfl
   have hw0:(E8 [x,y,z])[0]? = some [.int .i64 (x:Nat)]:=rfl
   have hq1:A8 (E8 [x,y,z]) 1 1=true:=rfl
   have hw1:(E8 [x,y,z])[1]? = some [.int .i64 (y:Nat)]:=rfl
   have hq2:A8 (E8 [x,y,z]) 1 2=true:=rfl
   have hw2:(E8 [x,y,z])[2]? = some [.int .i64 (z:Nat)]:=rfl
   generalize (Cp kids kids.length++[B9 op num val [x,y,z]]).map CoD.cs=R at *
   generalize E8 [x,y,z]=Q at *
   refine Ab (j2 (j12 hln hdk hjn hlE g0 g1 g2 hq0 hw0 hq1 hw1 hq2) hw2) ?_
   exact Aa (A9 [((0,0),(98,0))] []) Tryz.results190 hrow
end Go.Proofs.YtcejfdfmgmcinaaGreat
