/- spec.l10Join: parts are laid one behind the other, and a node that names them. Printed by gen_k36.py. -/
import Derived.Test.YtcejfdfmgmcinaaGreatKK07uK23
set_option linter.all false
set_option maxHeartbeats 8000000
namespace Go.Proofs.YtcejfdfmgmcinaaGreat
open Go.RowKit
set_option maxRecDepth 10000
mutual
theorem Mt:∀(t:CT) (b:Nat),t.ok→∀d∈t.flat b,1≤d.op∧d.op≤17∧0≤d.a∧d.a≤(b+t.size:Nat)∧0≤d.b∧d.b≤(b+t.size:Nat)∧0≤d.c∧d.c≤(b+t.size:Nat)
 | .mk op num val kids,b,h,d,hd=>by
  unfold CT.ok at h
  obtain⟨h1,h2,h3⟩:=h
  rw[CT.flat]at hd
  rw[CT.size]
  rcases List.mem_append.1 hd with hd | hd
  ·obtain⟨a1,a2,a3,a4,a5,a6,a7,a8⟩:=JZ kids b h3 d hd
   omega
  ·rw[List.mem_singleton.1 hd]
   have key:∀j:Nat,(((Au b kids)[j]?.getD 0:Nat):Int)≤((b+Ae kids:Nat):Int):=by
    intro j
    by_cases hj:j<kids.length
    ·rw[Eo kids b j hj]
     have h4:=CC kids hj
     have h5:=CO kids (j+1)
     simp only[Option.getD_some]
     omega
    ·rw[List.getElem?_eq_none (by rw[CL];omega)]
     simp only[Option.getD_none]
     omega
   have k0:=key 0
   have k1:=key 1
   have k2:=key 2
   have n0:(0:Int)≤(((Au b kids)[0]?.getD 0:Nat):Int):=Int.natCast_nonneg _
   have n1:(0:Int)≤(((Au b kids)[1]?.getD 0:Nat):Int):=Int.natCast_nonneg _
   have n2:(0:Int)≤(((Au b kids)[2]?.getD 0:Nat):Int):=Int.natCast_nonneg _
   unfold B3
   dsimp only
   exact⟨h1.kind.1,h1.kind.2,n0,by omega,n1,by omega,n2,by omega⟩
theorem JZ:∀(l:List CT) (b:Nat),F7 l→∀d∈AZ b l,1≤d.op∧d.op≤17∧0≤d.a∧d.a≤(b+Ae l:Nat)∧0≤d.b∧d.b≤(b+Ae l:Nat)∧0≤d.c∧d.c≤(b+Ae l:Nat)
 | [],b,_,d,hd=>by rw[AZ]at hd;exact absurd hd (by simp)
 |t::r,b,h,d,hd=>by
  unfold F7 at h
  rw[AZ]at hd
  rw[Ae]
  rcases List.mem_append.1 hd with hd | hd
  ·obtain⟨a1,a2,a3,a4,a5,a6,a7,a8⟩:=Mt t b h.1 d hd
   omega
  ·obtain⟨a1,a2,a3,a4,a5,a6,a7,a8⟩:=JZ r (b+t.size) h.2 d hd
   omega
end
def Cc (kids:List CT) (i:Nat):List CoD:=AZ 0 (kids.take i)
def DI (kids:List CT) (i:Nat) (t:CT) (k:Nat):List CoD:=Cc kids i++((t.flat 0).take k).map (DG (Ae (kids.take i)))
theorem Io (kids:List CT) (i:Nat):(Cc kids i).length=Ae (kids.take i):=by unfold Cc;rw[Ep]
theorem Wh (kids:List CT) (i:Nat) (t:CT) {k:Nat}(h:k≤t.size):(DI kids i t k).length=Ae (kids.take i)+k:=by
 unfold DI
 rw[List.length_append,Io,List.length_map,List.length_take,CT.flat_len]
 omega
theorem Tq (kids:List CT) (i:Nat) (t:CT):DI kids i t 0=Cc kids i:=by unfold DI;simp
theorem Tn {kids:List CT}(ho:F7 kids) {i:Nat}(h:i<kids.length):DI kids i kids[i] kids[i].size=Cc kids (i+1):=by
 unfold DI Cc
 rw[List.take_of_length_le (l:=kids[i].flat 0) (by rw[CT.flat_len];exact Nat.le_refl _),←W7 (AY.1 ho _ (List.getElem_mem h)),List.take_succ_eq_append_getElem h,GW,AZ,AZ,List.append_nil,Nat.zero_add]
theorem Tp (kids:List CT) (i:Nat) (t:CT) {k:Nat}(h:k<(t.flat 0).length):DI kids i t (k+1)=DI kids i t k++[DG (Ae (kids.take i)) (t.flat 0)[k]]:=by
 unfold DI
 rw[List.take_succ_eq_append_getElem h,List.map_append,List.append_assoc]
 rfl
theorem T4 (kids:List CT):∀{i:Nat},i<kids.length→Au 0 (kids.take (i+1))=Au 0 (kids.take i)++[Ae (kids.take (i+1))-1]:=by
 intro i h
 have h2:=CC kids h
 rw[List.take_succ_eq_append_getElem h,Ku,Au,Au,Nat.zero_add]at *
 rw[h2]
def DB (l:List Nat):List (List C):=l.map fun (x:Nat)=>[C.int .i64 x]
theorem YE (l:List Nat) (x:Nat):DB (l++[x])=DB l++[[.int .i64 x]]:=by unfold DB;rw[List.map_append];rfl
theorem YF (l:List Nat):(DB l).length=l.length:=by simp[DB]
theorem Wi (op num:Int) (val:List CellD) (kids:List CT):(CT.mk op num val kids).flat 0=Cc kids kids.length++[B3 op num val (Au 0 kids)]:=by
 unfold Cc
 rw[CT.flat,List.take_length]
theorem VV (l:List CoD):((l.map CoD.cs).all fun r=>r.length==6)=true:=by simp[CoD.cs]
theorem Tw {op num:Int}{val:List CellD}{kids:List CT}(hn:(CT.mk op num val kids).ok) (hz:(CT.mk op num val kids).size≤900) :
  AC Tryz.prog 190 [CF kids,HY op num val] [] (.own (0,0)) [((0,0),.row false 6 87 (((CT.mk op num val kids).flat 0).map CoD.cs))]:=by
 have hn':=hn
 unfold CT.ok at hn'
 obtain⟨hnode,hal,hok⟩:=hn'
 rw[CT.size]at hz
 have h3:=Bl op
 have hln:(kids.map AD).length=kids.length:=by simp
 have e0:(Cc kids 0).map CoD.cs=[]:=by unfold Cc;rw[List.take_zero,AZ];rfl
 have e1:DB (Au 0 (kids.take 0))=[]:=by rw[List.take_zero,Au];rfl
 rw[Wi]
 refine A7 Tryz.func190 Tryz.ntmps190 q9 ?_
 refine Ar (κ:=Nat) (fun i=>⟨mkS 0 99 [(0,CF kids),(3,.ptr (3,0) 0),(4,.nils),(5,.own (95,0)),(6,.own (96,0)),(7,.c (.int .i64 i))],
   [((3,0),.box [.c (.int .i64 op),.c (.int .i64 0),.c (.int .i64 0),.c (.int .i64 0),.c (.int .i64 num),.c (.sl (val.map CellD.cs))]),((95,0),.row false 6 87 ((Cc kids i).map CoD.cs)),((96,0),.row false 1 2 (DB (Au 0 (kids.take i))))]⟩)
  (fun i=>i≤kids.length) (fun i=>kids.length-i) 0 (Nat.zero_le _) ?_ ?_
 ·exact Ab (Ah.of [((3,0),(3,0)),((95,0),(11,0)),((96,0),(12,0))] []) (j2 e0 e1)
 intro i hi
 by_cases hlt:i<kids.length
 ·have hdk:decide ((i:Int)<(kids.length:Int))=true:=decide_eq_true (by omega)
  have hw:=Af (k:=i) (by omega)
  obtain⟨hr0,hg0⟩:=C2 kids hlt
  have hti:=AY.1 hok _ (List.getElem_mem hlt)
  have hzt:=CC kids hlt
  have hzl:=CO kids (i+1)
  have hjl:=Io kids i
  have hfull:=Tn hok hlt
  have hends:=T4 kids hlt
  have hel:(Au 0 (kids.take i)).length=i:=by rw[CL,List.length_take];omega
  have hfl:=kids[i].flat_len 0
  have hx0:=Tq kids i kids[i]
  generalize kids[i]=t at *
  have hjl':((Cc kids i).map CoD.cs).length=Ae (kids.take i):=by rw[List.length_map,hjl]
  refine Ac (j3 hln hdk hjl') ?_
  refine Ar (κ:=Nat) (fun k=>⟨mkS 0 99 [(0,CF kids),(3,.ptr (3,0) 0),(4,.nils),(5,.own (95,0)),(6,.own (96,0)),(7,.c (.int .i64 i)),(8,.c (.int .i64 (Ae (kids.take i):Nat))),(9,.c (.int .i64 k))],
    [((3,0),.box [.c (.int .i64 op),.c (.int .i64 0),.c (.int .i64 0),.c (.int .i64 0),.c (.int .i64 num),.c (.sl (val.map CellD.cs))]),((95,0),.row false 6 87 ((DI kids i t k).map CoD.cs)),((96,0),.row false 1 2 (DB (Au 0 (kids.take i))))]⟩)
   (fun k=>k≤t.size) (fun k=>t.size-k) 0 (Nat.zero_le _) ?_ ?_
  ·exact Ab (Ah.of [((3,0),(3,0)),((95,0),(95,0)),((96,0),(96,0))] []) (j2 hx0 hjl)
  intro k hk
  have hlf:((t.flat 0).map CoD.cs).length=t.size:=by rw[List.length_map,hfl]
  by_cases hkl:k<t.size
  ·have hdk2:decide ((k:Int)<(t.size:Int))=true:=decide_eq_true (by omega)
   have hwk:=Af (k:=k) (by omega)
   have hkf:k<(t.flat 0).length:=by omega
   obtain⟨hrk,hgk⟩:=E5 (t.flat 0) hkf
   obtain⟨s1,s2,s3,s4,s5,s6,s7,s8⟩:=Mt t 0 hti _ (List.getElem_mem hkf)
   have hnx:=Tp kids i t hkf
   have hjx:=Wh kids i t (k:=k) hk
   have hkids:=Fj (t.flat 0)[k].op s1 s2
   have hbase:Ae (kids.take i)≤900:=by omega
   have har:=Bl (t.flat 0)[k].op
   have hlen1:(DI kids i t k).length+1≤1000000:=by omega
   generalize hbg:Ae (kids.take i)=base at *
   have hrow:(DI kids i t k).map CoD.cs++[(DG base (t.flat 0)[k]).cs]=(DI kids i t (k+1)).map CoD.cs:=by rw[hnx,List.map_append];rfl
   have hwa:IntKind.i64.wrap ((t.flat 0)[k].a+(base:Int))=(t.flat 0)[k].a+(base:Int):=IntWalk.i64_in _ (by omega)
   have hwb:IntKind.i64.wrap ((t.flat 0)[k].b+(base:Int))=(t.flat 0)[k].b+(base:Int):=IntWalk.i64_in _ (by omega)
   have hwc:IntKind.i64.wrap ((t.flat 0)[k].c+(base:Int))=(t.flat 0)[k].c+(base:Int):=IntWalk.i64_in _ (by omega)
   clear hnx s1 s2 s3 s4 s5 s6 s7 s8 hfull hends hx0
   generalize (t.flat 0)[k]=d at *
   have hc4:An d.op=0∨An d.op=1∨An d.op=2∨An d.op=3:=by omega
   rcases hc4 with e | e | e | e
   ·have hsh:DG base d=⟨d.op,d.a,d.b,d.c,d.num,d.val⟩:=by unfold DG;rw[e];rfl
    rw[hsh]at hrow
    rw[e]at hkids
    replace hrow:(DI kids i t k).map CoD.cs++[[.int .i64 d.op,.int .i64 d.a,.int .i64 d.b,.int .i64 d.c,.int .i64 d.num,.sl (d.val.map CellD.cs)]]=(DI kids i t (k+1)).map CoD.cs:=hrow
    have g0:decide (((0:Nat):Int)>0)=false:=rfl
    have g1:decide (((0:Nat):Int)>1)=false:=rfl
    have g2:decide (((0:Nat):Int)>2)=false:=rfl
    clear e har hsh
    refine Ac (j7 hln hr0 hg0 hlf hdk2 hrk hgk) ?_
    refine v7 (A3 [] hkids) q9 (j2 g0 hwa) ?_
    refine v7 (A3 [] hkids) q9 (j2 g1 hwb) ?_
    refine v7 (A3 [] hkids) q9 (j4 g2 hwc hlen1 hwk) ?_
    refine⟨k+1,by omega,by omega,?_⟩
    exact Ab (Ah.of [((3,0),(3,0)),((95,0),(67,0)),((96,0),(96,0))] []) hrow
   ·have hsh:DG base d=⟨d.op,d.a+(base:Int),d.b,d.c,d.num,d.val⟩:=by unfold DG;rw[e];rfl
    rw[hsh]at hrow
    rw[e]at hkids
    replace hrow:(DI kids i t k).map CoD.cs++[[.int .i64 d.op,.int .i64 (d.a+(base:Int)),.int .i64 d.b,.int .i64 d.c,.int .i64 d.num,.sl (d.val.map CellD.cs)]]=(DI kids i t (k+1)).map CoD.cs:=hrow
    have g0:decide (((1:Nat):Int)>0)=true:=rfl
    have g1:decide (((1:Nat):Int)>1)=false:=rfl
    have g2:decide (((1:Nat):Int)>2)=false:=rfl
    clear e har hsh
    refine Ac (j7 hln hr0 hg0 hlf hdk2 hrk hgk) ?_
    refine v7 (A3 [] hkids) q9 (j2 g0 hwa) ?_
    refine v7 (A3 [] hkids) q9 (j2 g1 hwb) ?_
    refine v7 (A3 [] hkids) q9 (j4 g2 hwc hlen1 hwk) ?_
    refine⟨k+1,by omega,by omega,?_⟩
    exact Ab (Ah.of [((3,0),(3,0)),((95,0),(67,0)),((96,0),(96,0))] []) hrow
   ·have hsh:DG base d=⟨d.op,d.a+(base:Int),d.b+(base:Int),d.c,d.num,d.val⟩:=by unfold DG;rw[e];rfl
    rw[hsh]at hrow
    rw[e]at hkids
    replace hrow:(DI kids i t k).map CoD.cs++[[.int .i64 d.op,.int .i64 (d.a+(base:Int)),.int .i64 (d.b+(base:Int)),.int .i64 d.c,.int .i64 d.num,.sl (d.val.map CellD.cs)]]=(DI kids i t (k+1)).map CoD.cs:=hrow
    have g0:decide (((2:Nat):Int)>0)=true:=rfl
    have g1:decide (((2:Nat):Int)>1)=true:=rfl
    have g2:decide (((2:Nat):Int)>2)=false:=rfl
    clear e har hsh
    refine Ac (j7 hln hr0 hg0 hlf hdk2 hrk hgk) ?_
    refine v7 (A3 [] hkids) q9 (j2 g0 hwa) ?_
    refine v7 (A3 [] hkids) q9 (j2 g1 hwb) ?_
    refine v7 (A3 [] hkids) q9 (j4 g2 hwc hlen1 hwk) ?_
    refine⟨k+1,by omega,by omega,?_⟩
    exact Ab (Ah.of [((3,0),(3,0)),((95,0),(67,0)),((96,0),(96,0))] []) hrow
   ·have hsh:DG base d=⟨d.op,d.a+(base:Int),d.b+(base:Int),d.c+(base:Int),d.num,d.val⟩:=by unfold DG;rw[e];rfl
    rw[hsh]at hrow
    rw[e]at hkids
    replace hrow:(DI kids i t k).map CoD.cs++[[.int .i64 d.op,.int .i64 (d.a+(base:Int)),.int .i64 (d.b+(base:Int)),.int .i64 (d.c+(base:Int)),.int .i64 d.num,.sl (d.val.map CellD.cs)]]=(DI kids i t (k+1)).map CoD.cs:=hrow
    have g0:decide (((3:Nat):Int)>0)=true:=rfl
    have g1:decide (((3:Nat):Int)>1)=true:=rfl
    have g2:decide (((3:Nat):Int)>2)=true:=rfl
    clear e har hsh
    refine Ac (j7 hln hr0 hg0 hlf hdk2 hrk hgk) ?_
    refine v7 (A3 [] hkids) q9 (j2 g0 hwa) ?_
    refine v7 (A3 [] hkids) q9 (j2 g1 hwb) ?_
    refine v7 (A3 [] hkids) q9 (j4 g2 hwc hlen1 hwk) ?_
    refine⟨k+1,by omega,by omega,?_⟩
    exact Ab (Ah.of [((3,0),(3,0)),((95,0),(67,0)),((96,0),(96,0))] []) hrow
  ·have hdk2:decide ((k:Int)<(t.size:Int))=false:=decide_eq_false (by omega)
   have hke:k=t.size:=by omega
   subst hke
   rw[hfull]
   have hjl2:((Cc kids (i+1)).map CoD.cs).length=Ae (kids.take (i+1)):=by rw[List.length_map,Io]
   have hws:IntKind.i64.wrap ((Ae (kids.take (i+1)):Int)-1)=((Ae (kids.take (i+1))-1:Nat):Int):=by
    have:=t.size_pos
    rw[IntWalk.i64_in _ (by omega)]
    omega
   have hne:DB (Au 0 (kids.take i))++[[.int .i64 (Ae (kids.take (i+1))-1:Nat)]]=DB (Au 0 (kids.take (i+1))):=by rw[hends,YE]
   have hnl:(DB (Au 0 (kids.take i))).length+1≤1000000:=by rw[YF,hel];omega
   have hna:((DB (Au 0 (kids.take i))).all fun r=>r.length==1)=true:=by simp[DB]
   clear hends hfull hx0
   generalize DB (Au 0 (kids.take i))=E at *
   refine Ac (j10 hln hr0 hg0 hlf hdk2 hjl2 hws hnl hna hw) ?_
   refine⟨i+1,by omega,by omega,?_⟩
   exact Ab (Ah.of [((3,0),(3,0)),((95,0),(95,0)),((96,0),(73,0))] []) hne
 ·have hdk:decide ((i:Int)<(kids.length:Int))=false:=decide_eq_false (by omega)
  have hke:i=kids.length:=by omega
  subst hke
  rw[List.take_length]
  have hjn:(Cc kids kids.length).length+1≤1000000:=by rw[Io,List.take_length];omega
  have hel:(Au 0 kids).length=kids.length:=CL _ _
  have hc4:kids.length=0∨kids.length=1∨kids.length=2∨kids.length=3:=by omega
  generalize hE:Au 0 kids=E at *
  rcases hc4 with e | e | e | e
  ·rw[e]at hel
   have hrow:(Cc kids kids.length).map CoD.cs++[(B3 op num val E).cs]=(Cc kids kids.length++[B3 op num val E]).map CoD.cs:=by rw[List.map_append];rfl
   have hE2:E=[]:=List.eq_nil_of_length_eq_zero hel
   subst hE2
   replace hrow:(Cc kids kids.length).map CoD.cs++[[.int .i64 op,(.int .i64 0),(.int .i64 0),(.int .i64 0),.int .i64 num,.sl (val.map CellD.cs)]]=(Cc kids kids.length++[B3 op num val []]).map CoD.cs:=hrow
   have hlE:(DB []).length=0:=rfl
   have g0:decide (((0:Nat):Int)>0)=false:=rfl
   have g1:decide (((0:Nat):Int)>1)=false:=rfl
   have g2:decide (((0:Nat):Int)>2)=false:=rfl
   generalize (Cc kids kids.length++[B3 op num val []]).map CoD.cs=R,DB []=Q at *
   refine Ac (j7 hln hdk hjn hlE g0 g1 g2) ?_
   exact A9 (A8 [((0,0),(98,0))] []) Tryz.results190 hrow
  ·rw[e]at hel
   have hrow:(Cc kids kids.length).map CoD.cs++[(B3 op num val E).cs]=(Cc kids kids.length++[B3 op num val E]).map CoD.cs:=by rw[List.map_append];rfl
   obtain⟨x,hE2⟩:∃x,E=[x]:=by
    match E,hel with
    | [x],_=>exact⟨x,rfl⟩
   subst hE2
   replace hrow:(Cc kids kids.length).map CoD.cs++[[.int .i64 op,(.int .i64 (x:Nat)),(.int .i64 0),(.int .i64 0),.int .i64 num,.sl (val.map CellD.cs)]]=(Cc kids kids.length++[B3 op num val [x]]).map CoD.cs:=hrow
   have hlE:(DB [x]).length=1:=rfl
   have g0:decide (((1:Nat):Int)>0)=true:=rfl
   have g1:decide (((1:Nat):Int)>1)=false:=rfl
   have g2:decide (((1:Nat):Int)>2)=false:=rfl
   have hq0:Aa (DB [x]) 1 0=true:=rfl
   have hw0:(DB [x])[0]? = some [.int .i64 (x:Nat)]:=rfl
   generalize (Cc kids kids.length++[B3 op num val [x]]).map CoD.cs=R,DB [x]=Q at *
   refine Ac (j9 hln hdk hjn hlE g0 g1 g2 hq0 hw0) ?_
   exact A9 (A8 [((0,0),(98,0))] []) Tryz.results190 hrow
  ·rw[e]at hel
   have hrow:(Cc kids kids.length).map CoD.cs++[(B3 op num val E).cs]=(Cc kids kids.length++[B3 op num val E]).map CoD.cs:=by rw[List.map_append];rfl
   obtain⟨x,y,hE2⟩:∃x y,E=[x,y]:=by
    match E,hel with
    | [x,y],_=>exact⟨x,y,rfl⟩
   subst hE2
   replace hrow:(Cc kids kids.length).map CoD.cs++[[.int .i64 op,(.int .i64 (x:Nat)),(.int .i64 (y:Nat)),(.int .i64 0),.int .i64 num,.sl (val.map CellD.cs)]]=(Cc kids kids.length++[B3 op num val [x,y]]).map CoD.cs:=hrow
   have hlE:(DB [x,y]).length=2:=rfl
   have g0:decide (((2:Nat):Int)>0)=true:=rfl
   have g1:decide (((2:Nat):Int)>1)=true:=rfl
   have g2:decide (((2:Nat):Int)>2)=false:=rfl
   have hq0:Aa (DB [x,y]) 1 0=true:=rfl
   have hw0:(DB [x,y])[0]? = some [.int .i64 (x:Nat)]:=rfl
   have hq1:Aa (DB [x,y]) 1 1=true:=rfl
   have hw1:(DB [x,y])[1]? = some [.int .i64 (y:Nat)]:=rfl
   generalize (Cc kids kids.length++[B3 op num val [x,y]]).map CoD.cs=R at *
   generalize DB [x,y]=Q at *
   refine Ac (j11 hln hdk hjn hlE g0 g1 g2 hq0 hw0 hq1 hw1) ?_
   exact A9 (A8 [((0,0),(98,0))] []) Tryz.results190 hrow
  ·rw[e]at hel
   have hrow:(Cc kids kids.length).map CoD.cs++[(B3 op num val E).cs]=(Cc kids kids.length++[B3 op num val E]).map CoD.cs:=by rw[List.map_append];rfl
   obtain⟨x,y,z,hE2⟩:∃x y z,E=[x,y,z]:=by
    match E,hel with
    | [x,y,z],_=>exact⟨x,y,z,rfl⟩
   subst hE2
   replace hrow:(Cc kids kids.length).map CoD.cs++[[.int .i64 op,(.int .i64 (x:Nat)),(.int .i64 (y:Nat)),(.int .i64 (z:Nat)),.int .i64 num,.sl (val.map CellD.cs)]]=(Cc kids kids.length++[B3 op num val [x,y,z]]).map CoD.cs:=hrow
   have hlE:(DB [x,y,z]).length=3:=rfl
   have g0:decide (((3:Nat):Int)>0)=true:=rfl
   have g1:decide (((3:Nat):Int)>1)=true:=rfl
   have g2:decide (((3:Nat):Int)>2)=true:=rfl
   have hq0:Aa (DB [x,y,z]) 1 0=true:=rfl
   have hw0:(DB [x,y,z])[0]? = some [.int .i64 (x:Nat)]:=rfl
   have hq1:Aa (DB [x,y,z]) 1 1=true:=rfl
   have hw1:(DB [x,y,z])[1]? = some [.int .i64 (y:Nat)]:=rfl
   have hq2:Aa (DB [x,y,z]) 1 2=true:=rfl
   have hw2:(DB [x,y,z])[2]? = some [.int .i64 (z:Nat)]:=rfl
   generalize (Cc kids kids.length++[B3 op num val [x,y,z]]).map CoD.cs=R at *
   generalize DB [x,y,z]=Q at *
   refine Ac (j2 (j12 hln hdk hjn hlE g0 g1 g2 hq0 hw0 hq1 hw1 hq2) hw2) ?_
   exact A9 (A8 [((0,0),(98,0))] []) Tryz.results190 hrow
end Go.Proofs.YtcejfdfmgmcinaaGreat
