/- Texts of this proof: K23 K36. -/
import Derived.Test.YtcejfdfmgmcinaaGreatKK22
set_option linter.all false
set_option maxHeartbeats 8000000
namespace Go.Proofs.YtcejfdfmgmcinaaGreat
open Go.RowKit
set_option maxRecDepth 10000
theorem FT {op num:Int}{val:List CellD}{kids:List CT}(hn:(CT.mk op num val kids).ok) (hk:kids≠[]):(∃a,kids=[a]∧Au op=1)∨(∃a b,kids=[a,b]∧Au op=2)∨(∃a b c,kids=[a,b,c]∧Au op=3):=by
 unfold CT.ok at hn
 have hl:=hn.2.1
 have h3:=Bz op
 match kids,hk with
 | [a],_=>exact .inl ⟨a,rfl,by simpa using hl.symm⟩
 | [a,b],_=>exact .inr (.inl ⟨a,b,rfl,by simpa using hl.symm⟩)
 | [a,b,c],_=>exact .inr (.inr ⟨a,b,c,rfl,by simpa using hl.symm⟩)
 |a::b::c::d::r,_=>simp at hl;omega
theorem ZE {op num:Int}{val:List CellD}{kids:List CT}(hn:(CT.mk op num val kids).ok) (hk:kids≠[]) (hz:(CT.mk op num val kids).size≤900):∃L b,Iu (C6 op num val kids) L b∧AC Tryz.prog 257 [IN op num val,Di kids] [] (AW L b) []:=by
 have hn':=hn
 unfold CT.ok at hn'
 have hall:=B6.1 hn'.2.2
 have hz':=hz
 simp only[CT.size]at hz'
 rcases FT hn hk with⟨a,rfl,h⟩ | ⟨a,b,rfl,h⟩ | ⟨a,b,c,rfl,h⟩
 ·simp only[Aj]at hz'
  exact SW h (hall a (by simp)) (by omega)
 ·exact SX hn hz
 ·exact OV hn hz
theorem Zp {op num:Int}{val:List CellD}{kids:List CT}(hn:(CT.mk op num val kids).ok) (hk:kids≠[]) (hz:(CT.mk op num val kids).size≤900):∃L b,Iu (B5 op kids) L b∧AC Tryz.prog 259 [IN op num val,Di kids] [] (AW L b) []:=by
 have hn':=hn
 unfold CT.ok at hn'
 have hall:=B6.1 hn'.2.2
 simp only[CT.size]at hz
 rcases FT hn hk with⟨a,rfl,h⟩ | ⟨a,b,rfl,h⟩ | ⟨a,b,c,rfl,h⟩
 ·simp only[Aj]at hz
  exact SU h (by omega)
 ·simp only[Aj]at hz
  exact SV h (hall a (by simp)) (by omega)
 ·simp only[Aj]at hz
  exact OU h (by omega)
theorem r7 {op num:Int}{val:List CellD}{kids:List CT}(hn:(CT.mk op num val kids).ok) (hk:kids≠[]) (hz:(CT.mk op num val kids).size≤900):∃L b,Iu (Gm op kids) L b∧AC Tryz.prog 258 [IN op num val,Di kids] [] (AW L b) []:=by
 by_cases h3:op=3
 ·subst h3
  rcases FT hn hk with⟨a,rfl,h⟩ | ⟨a,b,rfl,h⟩ | ⟨a,b,c,rfl,h⟩
  ·exact absurd h (by decide)
  ·exact T0 hn hz
  ·exact absurd h (by decide)
 ·refine⟨[],false,?_,SZ kids h3⟩
  have:Gm op kids=none:=by
   rcases FT hn hk with⟨a,rfl,h⟩ | ⟨a,b,rfl,h⟩ | ⟨a,b,c,rfl,h⟩
   ·rfl
   ·unfold Gm;dsimp only;rw[if_neg h3]
   ·rfl
  rw[this]
  exact JI
theorem a2i {op num:Int}{val:List CellD}{kids:List CT}(hn:(CT.mk op num val kids).ok) (hk:kids≠[]) (hz:(CT.mk op num val kids).size≤900):∃L b,Iu (Lp op kids) L b∧AC Tryz.prog 260 [IN op num val,Di kids] [] (AW L b) []:=by
 have hn':=hn
 unfold CT.ok at hn'
 have hall:=B6.1 hn'.2.2
 simp only[CT.size]at hz
 by_cases h9:op=9
 ·subst h9
  rcases FT hn hk with⟨a,rfl,h⟩ | ⟨a,b,rfl,h⟩ | ⟨a,b,c,rfl,h⟩
  ·simp only[Aj]at hz
   exact UY (hall a (by simp)) (by omega)
  ·exact absurd h (by decide)
  ·exact absurd h (by decide)
 ·refine⟨[],false,?_,UX kids h9⟩
  have:Lp op kids=none:=by
   rcases FT hn hk with⟨a,rfl,h⟩ | ⟨a,b,rfl,h⟩ | ⟨a,b,c,rfl,h⟩
   ·unfold Lp;dsimp only;rw[if_neg (fun h=>h9 h.1)]
   ·rfl
   ·rfl
  rw[this]
  exact JI
theorem XM {op num:Int}{val:List CellD}{kids:List CT}(hn:(CT.mk op num val kids).ok) (hk:kids≠[]) (hz:(CT.mk op num val kids).size≤900) {p:Int}(hp:1≤p∧p≤4) :
  ∃L b,Iu (Bb p op num val kids) L b∧AC Tryz.prog 189 [.c (.int .i64 p),IN op num val,Di kids] [] (AW L b) []:=by
 have hc:p=1∨p=2∨p=3∨p=4:=by omega
 unfold Bb
 rcases hc with rfl | rfl | rfl | rfl
 ·obtain⟨L,b,h1,h2⟩:=ZE hn hk hz
  refine⟨L,b,by rw[if_pos rfl];exact h1,?_⟩
  generalize kids.map Ar=P at *
  unfold AW at h2 ⊢
  refine A7 Tryz.func189 Tryz.ntmps189 ?_
  refine Ac q9 ?_
  refine w9 (A5 [] h2) q9 ?_
  refine A3 q9 ?_
  exact Ab (Aa [] []) Tryz.results189 hp
 ·obtain⟨L,b,h1,h2⟩:=r7 hn hk hz
  refine⟨L,b,by rw[if_neg (by decide),if_pos rfl];exact h1,?_⟩
  generalize kids.map Ar=P at *
  unfold AW at h2 ⊢
  refine A7 Tryz.func189 Tryz.ntmps189 ?_
  refine Ac q9 ?_
  refine w9 (A5 [] h2) q9 ?_
  refine A3 q9 ?_
  exact Ab (Aa [] []) Tryz.results189 hp
 ·obtain⟨L,b,h1,h2⟩:=Zp hn hk hz
  refine⟨L,b,by rw[if_neg (by decide),if_neg (by decide),if_pos rfl];exact h1,?_⟩
  generalize kids.map Ar=P at *
  unfold AW at h2 ⊢
  refine A7 Tryz.func189 Tryz.ntmps189 ?_
  refine Ac q9 ?_
  refine w9 (A5 [] h2) q9 ?_
  refine A3 q9 ?_
  exact Ab (Aa [] []) Tryz.results189 hp
 ·obtain⟨L,b,h1,h2⟩:=a2i hn hk hz
  refine⟨L,b,by rw[if_neg (by decide),if_neg (by decide),if_neg (by decide)];exact h1,?_⟩
  generalize kids.map Ar=P at *
  unfold AW at h2 ⊢
  refine A7 Tryz.func189 Tryz.ntmps189 ?_
  refine Ac q9 ?_
  refine w9 (A5 [] h2) q9 ?_
  refine A3 q9 ?_
  exact Ab (Aa [] []) Tryz.results189 hp
set_option maxRecDepth 10000
mutual
theorem Nz:∀(t:CT) (b:Nat),t.ok→∀d∈t.flat b,1≤d.op∧d.op≤17∧0≤d.a∧d.a≤(b+t.size:Nat)∧0≤d.b∧d.b≤(b+t.size:Nat)∧0≤d.c∧d.c≤(b+t.size:Nat)
 | .mk op num val kids,b,h,d,hd=>by
  unfold CT.ok at h
  obtain⟨h1,h2,h3⟩:=h
  rw[CT.flat]at hd
  rw[CT.size]
  rcases List.mem_append.1 hd with hd | hd
  ·obtain⟨a1,a2,a3,a4,a5,a6,a7,a8⟩:=KT kids b h3 d hd
   omega
  ·rw[List.mem_singleton.1 hd]
   have key:∀j:Nat,(((As b kids)[j]?.getD 0:Nat):Int)≤((b+Aj kids:Nat):Int):=by
    intro j
    by_cases hj:j<kids.length
    ·rw[F7 kids b j hj]
     have h4:=CP kids hj
     have h5:=D2 kids (j+1)
     simp only[Option.getD_some]
     omega
    ·rw[List.getElem?_eq_none (by rw[D6];omega)]
     simp only[Option.getD_none]
     omega
   have k0:=key 0
   have k1:=key 1
   have k2:=key 2
   have n0:(0:Int)≤(((As b kids)[0]?.getD 0:Nat):Int):=Int.natCast_nonneg _
   have n1:(0:Int)≤(((As b kids)[1]?.getD 0:Nat):Int):=Int.natCast_nonneg _
   have n2:(0:Int)≤(((As b kids)[2]?.getD 0:Nat):Int):=Int.natCast_nonneg _
   unfold B8
   dsimp only
   exact⟨h1.kind.1,h1.kind.2,n0,by omega,n1,by omega,n2,by omega⟩
theorem KT:∀(l:List CT) (b:Nat),FP l→∀d∈B3 b l,1≤d.op∧d.op≤17∧0≤d.a∧d.a≤(b+Aj l:Nat)∧0≤d.b∧d.b≤(b+Aj l:Nat)∧0≤d.c∧d.c≤(b+Aj l:Nat)
 | [],b,_,d,hd=>by rw[B3]at hd;exact absurd hd (by simp)
 |t::r,b,h,d,hd=>by
  unfold FP at h
  rw[B3]at hd
  rw[Aj]
  rcases List.mem_append.1 hd with hd | hd
  ·obtain⟨a1,a2,a3,a4,a5,a6,a7,a8⟩:=Nz t b h.1 d hd
   omega
  ·obtain⟨a1,a2,a3,a4,a5,a6,a7,a8⟩:=KT r (b+t.size) h.2 d hd
   omega
end
def Cx (kids:List CT) (i:Nat):List CoD:=B3 0 (kids.take i)
def El (kids:List CT) (i:Nat) (t:CT) (k:Nat):List CoD:=Cx kids i++((t.flat 0).take k).map (Ei (Aj (kids.take i)))
theorem Jc (kids:List CT) (i:Nat):(Cx kids i).length=Aj (kids.take i):=by unfold Cx;rw[F8]
theorem XI (kids:List CT) (i:Nat) (t:CT) {k:Nat}(h:k≤t.size):(El kids i t k).length=Aj (kids.take i)+k:=by
 unfold El
 rw[List.length_append,Jc,List.length_map,List.length_take,CT.flat_len]
 omega
theorem UQ (kids:List CT) (i:Nat) (t:CT):El kids i t 0=Cx kids i:=by unfold El;simp
theorem UO {kids:List CT}(ho:FP kids) {i:Nat}(h:i<kids.length):El kids i kids[i] kids[i].size=Cx kids (i+1):=by
 unfold El Cx
 rw[List.take_of_length_le (l:=kids[i].flat 0) (by rw[CT.flat_len];exact Nat.le_refl _),←Xs (B6.1 ho _ (List.getElem_mem h)),List.take_succ_eq_append_getElem h,HL,B3,B3,List.append_nil,Nat.zero_add]
theorem UP (kids:List CT) (i:Nat) (t:CT) {k:Nat}(h:k<(t.flat 0).length):El kids i t (k+1)=El kids i t k++[Ei (Aj (kids.take i)) (t.flat 0)[k]]:=by
 unfold El
 rw[List.take_succ_eq_append_getElem h,List.map_append,List.append_assoc]
 rfl
theorem Uu (kids:List CT):∀{i:Nat},i<kids.length→As 0 (kids.take (i+1))=As 0 (kids.take i)++[Aj (kids.take (i+1))-1]:=by
 intro i h
 have h2:=CP kids h
 rw[List.take_succ_eq_append_getElem h,LD,As,As,Nat.zero_add]at *
 rw[h2]
def Ee (l:List Nat):List (List C):=l.map fun (x:Nat)=>[C.int .i64 x]
theorem e8 (l:List Nat) (x:Nat):Ee (l++[x])=Ee l++[[.int .i64 x]]:=by unfold Ee;rw[List.map_append];rfl
theorem e9 (l:List Nat):(Ee l).length=l.length:=by simp[Ee]
theorem XJ (op num:Int) (val:List CellD) (kids:List CT):(CT.mk op num val kids).flat 0=Cx kids kids.length++[B8 op num val (As 0 kids)]:=by
 unfold Cx
 rw[CT.flat,List.take_length]
theorem Xj (l:List CoD):((l.map CoD.cs).all fun r=>r.length==6)=true:=by simp[CoD.cs]
theorem UW {op num:Int}{val:List CellD}{kids:List CT}(hn:(CT.mk op num val kids).ok) (hz:(CT.mk op num val kids).size≤900) :
  AC Tryz.prog 190 [Di kids,IN op num val] [] (.own (0,0)) [((0,0),.row false 6 87 (((CT.mk op num val kids).flat 0).map CoD.cs))]:=by
 have hn':=hn
 unfold CT.ok at hn'
 obtain⟨hnode,hal,hok⟩:=hn'
 rw[CT.size]at hz
 have h3:=Bz op
 have hln:(kids.map Ar).length=kids.length:=by simp
 have e0:(Cx kids 0).map CoD.cs=[]:=by unfold Cx;rw[List.take_zero,B3];rfl
 have e1:Ee (As 0 (kids.take 0))=[]:=by rw[List.take_zero,As];rfl
 rw[XJ]
 refine A7 Tryz.func190 Tryz.ntmps190 ?_
 refine A3 q9 ?_
 refine Ay (κ:=Nat) (fun i=>⟨mkS 0 99 [(0,Di kids),(3,.ptr (3,0) 0),(4,.nils),(5,.own (95,0)),(6,.own (96,0)),(7,.c (.int .i64 i))],
   [((3,0),.box [.c (.int .i64 op),.c (.int .i64 0),.c (.int .i64 0),.c (.int .i64 0),.c (.int .i64 num),.c (.sl (val.map CellD.cs))]),((95,0),.row false 6 87 ((Cx kids i).map CoD.cs)),((96,0),.row false 1 2 (Ee (As 0 (kids.take i))))]⟩)
  (fun i=>i≤kids.length) (fun i=>kids.length-i) 0 (Nat.zero_le _) ?_ ?_
 ·exact Af (Am.of [((3,0),(3,0)),((95,0),(11,0)),((96,0),(12,0))] []) (j2 e0 e1)
 intro i hi
 by_cases hlt:i<kids.length
 ·have hdk:decide ((i:Int)<(kids.length:Int))=true:=decide_eq_true (by omega)
  have hw:=Ah (k:=i) (by omega)
  obtain⟨hr0,hg0⟩:=Cl kids hlt
  have hti:=B6.1 hok _ (List.getElem_mem hlt)
  have hzt:=CP kids hlt
  have hzl:=D2 kids (i+1)
  have hjl:=Jc kids i
  have hfull:=UO hok hlt
  have hends:=Uu kids hlt
  have hel:(As 0 (kids.take i)).length=i:=by rw[D6,List.length_take];omega
  have hfl:=kids[i].flat_len 0
  have hx0:=UQ kids i kids[i]
  generalize kids[i]=t at *
  have hjl':((Cx kids i).map CoD.cs).length=Aj (kids.take i):=by rw[List.length_map,hjl]
  refine A3 (j3 hln hdk hjl') ?_
  refine Ay (κ:=Nat) (fun k=>⟨mkS 0 99 [(0,Di kids),(3,.ptr (3,0) 0),(4,.nils),(5,.own (95,0)),(6,.own (96,0)),(7,.c (.int .i64 i)),(8,.c (.int .i64 (Aj (kids.take i):Nat))),(9,.c (.int .i64 k))],
    [((3,0),.box [.c (.int .i64 op),.c (.int .i64 0),.c (.int .i64 0),.c (.int .i64 0),.c (.int .i64 num),.c (.sl (val.map CellD.cs))]),((95,0),.row false 6 87 ((El kids i t k).map CoD.cs)),((96,0),.row false 1 2 (Ee (As 0 (kids.take i))))]⟩)
   (fun k=>k≤t.size) (fun k=>t.size-k) 0 (Nat.zero_le _) ?_ ?_
  ·exact Af (Am.of [((3,0),(3,0)),((95,0),(95,0)),((96,0),(96,0))] []) (j2 hx0 hjl)
  intro k hk
  have hlf:((t.flat 0).map CoD.cs).length=t.size:=by rw[List.length_map,hfl]
  by_cases hkl:k<t.size
  ·have hdk2:decide ((k:Int)<(t.size:Int))=true:=decide_eq_true (by omega)
   have hwk:=Ah (k:=k) (by omega)
   have hkf:k<(t.flat 0).length:=by omega
   obtain⟨hrk,hgk⟩:=Ex (t.flat 0) hkf
   obtain⟨s1,s2,s3,s4,s5,s6,s7,s8⟩:=Nz t 0 hti _ (List.getElem_mem hkf)
   have hnx:=UP kids i t hkf
   have hjx:=XI kids i t (k:=k) hk
   have hkids:=FY (t.flat 0)[k].op s1 s2
   have hbase:Aj (kids.take i)≤900:=by omega
   have har:=Bz (t.flat 0)[k].op
   have hlen1:(El kids i t k).length+1≤1000000:=by omega
   generalize hbg:Aj (kids.take i)=base at *
   have hrow:(El kids i t k).map CoD.cs++[(Ei base (t.flat 0)[k]).cs]=(El kids i t (k+1)).map CoD.cs:=by rw[hnx,List.map_append];rfl
   have hwa:IntKind.i64.wrap ((t.flat 0)[k].a+(base:Int))=(t.flat 0)[k].a+(base:Int):=IntWalk.i64_in _ (by omega)
   have hwb:IntKind.i64.wrap ((t.flat 0)[k].b+(base:Int))=(t.flat 0)[k].b+(base:Int):=IntWalk.i64_in _ (by omega)
   have hwc:IntKind.i64.wrap ((t.flat 0)[k].c+(base:Int))=(t.flat 0)[k].c+(base:Int):=IntWalk.i64_in _ (by omega)
   clear hnx s1 s2 s3 s4 s5 s6 s7 s8 hfull hends hx0
   generalize (t.flat 0)[k]=d at *
   have hc4:Au d.op=0∨Au d.op=1∨Au d.op=2∨Au d.op=3:=by omega
   rcases hc4 with e | e | e | e
   ·have hsh:Ei base d=⟨d.op,d.a,d.b,d.c,d.num,d.val⟩:=by unfold Ei;rw[e];rfl
    rw[hsh]at hrow
    rw[e]at hkids
    replace hrow:(El kids i t k).map CoD.cs++[[.int .i64 d.op,.int .i64 d.a,.int .i64 d.b,.int .i64 d.c,.int .i64 d.num,.sl (d.val.map CellD.cs)]]=(El kids i t (k+1)).map CoD.cs:=hrow
    have g0:decide (((0:Nat):Int)>0)=false:=rfl
    have g1:decide (((0:Nat):Int)>1)=false:=rfl
    have g2:decide (((0:Nat):Int)>2)=false:=rfl
    clear e har hsh
    refine A3 (j7 hln hr0 hg0 hlf hdk2 hrk hgk) ?_
    refine w7 (A4 [] hkids) q9 ?_
    refine A3 (j2 g0 hwa) ?_
    refine w7 (A4 [] hkids) q9 ?_
    refine A3 (j2 g1 hwb) ?_
    refine w7 (A4 [] hkids) q9 ?_
    refine A3 (j4 g2 hwc hlen1 hwk) ?_
    refine⟨k+1,by omega,by omega,?_⟩
    exact Af (Am.of [((3,0),(3,0)),((95,0),(67,0)),((96,0),(96,0))] []) hrow
   ·have hsh:Ei base d=⟨d.op,d.a+(base:Int),d.b,d.c,d.num,d.val⟩:=by unfold Ei;rw[e];rfl
    rw[hsh]at hrow
    rw[e]at hkids
    replace hrow:(El kids i t k).map CoD.cs++[[.int .i64 d.op,.int .i64 (d.a+(base:Int)),.int .i64 d.b,.int .i64 d.c,.int .i64 d.num,.sl (d.val.map CellD.cs)]]=(El kids i t (k+1)).map CoD.cs:=hrow
    have g0:decide (((1:Nat):Int)>0)=true:=rfl
    have g1:decide (((1:Nat):Int)>1)=false:=rfl
    have g2:decide (((1:Nat):Int)>2)=false:=rfl
    clear e har hsh
    refine A3 (j7 hln hr0 hg0 hlf hdk2 hrk hgk) ?_
    refine w7 (A4 [] hkids) q9 ?_
    refine A3 (j2 g0 hwa) ?_
    refine w7 (A4 [] hkids) q9 ?_
    refine A3 (j2 g1 hwb) ?_
    refine w7 (A4 [] hkids) q9 ?_
    refine A3 (j4 g2 hwc hlen1 hwk) ?_
    refine⟨k+1,by omega,by omega,?_⟩
    exact Af (Am.of [((3,0),(3,0)),((95,0),(67,0)),((96,0),(96,0))] []) hrow
   ·have hsh:Ei base d=⟨d.op,d.a+(base:Int),d.b+(base:Int),d.c,d.num,d.val⟩:=by unfold Ei;rw[e];rfl
    rw[hsh]at hrow
    rw[e]at hkids
    replace hrow:(El kids i t k).map CoD.cs++[[.int .i64 d.op,.int .i64 (d.a+(base:Int)),.int .i64 (d.b+(base:Int)),.int .i64 d.c,.int .i64 d.num,.sl (d.val.map CellD.cs)]]=(El kids i t (k+1)).map CoD.cs:=hrow
    have g0:decide (((2:Nat):Int)>0)=true:=rfl
    have g1:decide (((2:Nat):Int)>1)=true:=rfl
    have g2:decide (((2:Nat):Int)>2)=false:=rfl
    clear e har hsh
    refine A3 (j7 hln hr0 hg0 hlf hdk2 hrk hgk) ?_
    refine w7 (A4 [] hkids) q9 ?_
    refine A3 (j2 g0 hwa) ?_
    refine w7 (A4 [] hkids) q9 ?_
    refine A3 (j2 g1 hwb) ?_
    refine w7 (A4 [] hkids) q9 ?_
    refine A3 (j4 g2 hwc hlen1 hwk) ?_
    refine⟨k+1,by omega,by omega,?_⟩
    exact Af (Am.of [((3,0),(3,0)),((95,0),(67,0)),((96,0),(96,0))] []) hrow
   ·have hsh:Ei base d=⟨d.op,d.a+(base:Int),d.b+(base:Int),d.c+(base:Int),d.num,d.val⟩:=by unfold Ei;rw[e];rfl
    rw[hsh]at hrow
    rw[e]at hkids
    replace hrow:(El kids i t k).map CoD.cs++[[.int .i64 d.op,.int .i64 (d.a+(base:Int)),.int .i64 (d.b+(base:Int)),.int .i64 (d.c+(base:Int)),.int .i64 d.num,.sl (d.val.map CellD.cs)]]=(El kids i t (k+1)).map CoD.cs:=hrow
    have g0:decide (((3:Nat):Int)>0)=true:=rfl
    have g1:decide (((3:Nat):Int)>1)=true:=rfl
    have g2:decide (((3:Nat):Int)>2)=true:=rfl
    clear e har hsh
    refine A3 (j7 hln hr0 hg0 hlf hdk2 hrk hgk) ?_
    refine w7 (A4 [] hkids) q9 ?_
    refine A3 (j2 g0 hwa) ?_
    refine w7 (A4 [] hkids) q9 ?_
    refine A3 (j2 g1 hwb) ?_
    refine w7 (A4 [] hkids) q9 ?_
    refine A3 (j4 g2 hwc hlen1 hwk) ?_
    refine⟨k+1,by omega,by omega,?_⟩
    exact Af (Am.of [((3,0),(3,0)),((95,0),(67,0)),((96,0),(96,0))] []) hrow
  ·have hdk2:decide ((k:Int)<(t.size:Int))=false:=decide_eq_false (by omega)
   have hke:k=t.size:=by omega
   subst hke
   rw[hfull]
   have hjl2:((Cx kids (i+1)).map CoD.cs).length=Aj (kids.take (i+1)):=by rw[List.length_map,Jc]
   have hws:IntKind.i64.wrap ((Aj (kids.take (i+1)):Int)-1)=((Aj (kids.take (i+1))-1:Nat):Int):=by
    have:=t.size_pos
    rw[IntWalk.i64_in _ (by omega)]
    omega
   have hne:Ee (As 0 (kids.take i))++[[.int .i64 (Aj (kids.take (i+1))-1:Nat)]]=Ee (As 0 (kids.take (i+1))):=by rw[hends,e8]
   have hnl:(Ee (As 0 (kids.take i))).length+1≤1000000:=by rw[e9,hel];omega
   have hna:((Ee (As 0 (kids.take i))).all fun r=>r.length==1)=true:=by simp[Ee]
   clear hends hfull hx0
   generalize Ee (As 0 (kids.take i))=E at *
   refine A3 (j10 hln hr0 hg0 hlf hdk2 hjl2 hws hnl hna hw) ?_
   refine⟨i+1,by omega,by omega,?_⟩
   exact Af (Am.of [((3,0),(3,0)),((95,0),(95,0)),((96,0),(73,0))] []) hne
 ·have hdk:decide ((i:Int)<(kids.length:Int))=false:=decide_eq_false (by omega)
  have hke:i=kids.length:=by omega
  subst hke
  rw[List.take_length]
  have hjn:(Cx kids kids.length).length+1≤1000000:=by rw[Jc,List.take_length];omega
  have hel:(As 0 kids).length=kids.length:=D6 _ _
  have hc4:kids.length=0∨kids.length=1∨kids.length=2∨kids.length=3:=by omega
  generalize hE:As 0 kids=E at *
  rcases hc4 with e | e | e | e
  ·rw[e]at hel
   have hrow:(Cx kids kids.length).map CoD.cs++[(B8 op num val E).cs]=(Cx kids kids.length++[B8 op num val E]).map CoD.cs:=by rw[List.map_append];rfl
   have hE2:E=[]:=List.eq_nil_of_length_eq_zero hel
   subst hE2
   replace hrow:(Cx kids kids.length).map CoD.cs++[[.int .i64 op,(.int .i64 0),(.int .i64 0),(.int .i64 0),.int .i64 num,.sl (val.map CellD.cs)]]=(Cx kids kids.length++[B8 op num val []]).map CoD.cs:=hrow
   have hlE:(Ee []).length=0:=rfl
   have g0:decide (((0:Nat):Int)>0)=false:=rfl
   have g1:decide (((0:Nat):Int)>1)=false:=rfl
   have g2:decide (((0:Nat):Int)>2)=false:=rfl
   generalize (Cx kids kids.length++[B8 op num val []]).map CoD.cs=R at *
   generalize Ee []=Q at *
   refine A3 (j7 hln hdk hjn hlE g0 g1 g2) ?_
   exact Ab (Aa [((0,0),(98,0))] []) Tryz.results190 hrow
  ·rw[e]at hel
   have hrow:(Cx kids kids.length).map CoD.cs++[(B8 op num val E).cs]=(Cx kids kids.length++[B8 op num val E]).map CoD.cs:=by rw[List.map_append];rfl
   obtain⟨x,hE2⟩:∃x,E=[x]:=by
    match E,hel with
    | [x],_=>exact⟨x,rfl⟩
   subst hE2
   replace hrow:(Cx kids kids.length).map CoD.cs++[[.int .i64 op,(.int .i64 (x:Nat)),(.int .i64 0),(.int .i64 0),.int .i64 num,.sl (val.map CellD.cs)]]=(Cx kids kids.length++[B8 op num val [x]]).map CoD.cs:=hrow
   have hlE:(Ee [x]).length=1:=rfl
   have g0:decide (((1:Nat):Int)>0)=true:=rfl
   have g1:decide (((1:Nat):Int)>1)=false:=rfl
   have g2:decide (((1:Nat):Int)>2)=false:=rfl
   have hq0:A9 (Ee [x]) 1 0=true:=rfl
   have hw0:(Ee [x])[0]? = some [.int .i64 (x:Nat)]:=rfl
   generalize (Cx kids kids.length++[B8 op num val [x]]).map CoD.cs=R at *
   generalize Ee [x]=Q at *
   refine A3 (j9 hln hdk hjn hlE g0 g1 g2 hq0 hw0) ?_
   exact Ab (Aa [((0,0),(98,0))] []) Tryz.results190 hrow
  ·rw[e]at hel
   have hrow:(Cx kids kids.length).map CoD.cs++[(B8 op num val E).cs]=(Cx kids kids.length++[B8 op num val E]).map CoD.cs:=by rw[List.map_append];rfl
   obtain⟨x,y,hE2⟩:∃x y,E=[x,y]:=by
    match E,hel with
    | [x,y],_=>exact⟨x,y,rfl⟩
   subst hE2
   replace hrow:(Cx kids kids.length).map CoD.cs++[[.int .i64 op,(.int .i64 (x:Nat)),(.int .i64 (y:Nat)),(.int .i64 0),.int .i64 num,.sl (val.map CellD.cs)]]=(Cx kids kids.length++[B8 op num val [x,y]]).map CoD.cs:=hrow
   have hlE:(Ee [x,y]).length=2:=rfl
   have g0:decide (((2:Nat):Int)>0)=true:=rfl
   have g1:decide (((2:Nat):Int)>1)=true:=rfl
   have g2:decide (((2:Nat):Int)>2)=false:=rfl
   have hq0:A9 (Ee [x,y]) 1 0=true:=rfl
   have hw0:(Ee [x,y])[0]? = some [.int .i64 (x:Nat)]:=rfl
   have hq1:A9 (Ee [x,y]) 1 1=true:=rfl
   have hw1:(Ee [x,y])[1]? = some [.int .i64 (y:Nat)]:=rfl
   generalize (Cx kids kids.length++[B8 op num val [x,y]]).map CoD.cs=R at *
   generalize Ee [x,y]=Q at *
   refine A3 (j11 hln hdk hjn hlE g0 g1 g2 hq0 hw0 hq1 hw1) ?_
   exact Ab (Aa [((0,0),(98,0))] []) Tryz.results190 hrow
  ·rw[e]at hel
   have hrow:(Cx kids kids.length).map CoD.cs++[(B8 op num val E).cs]=(Cx kids kids.length++[B8 op num val E]).map CoD.cs:=by rw[List.map_append];rfl
   obtain⟨x,y,z,hE2⟩:∃x y z,E=[x,y,z]:=by
    match E,hel with
    | [x,y,z],_=>exact⟨x,y,z,rfl⟩
   subst hE2
   replace hrow:(Cx kids kids.length).map CoD.cs++[[.int .i64 op,(.int .i64 (x:Nat)),(.int .i64 (y:Nat)),(.int .i64 (z:Nat)),.int .i64 num,.sl (val.map CellD.cs)]]=(Cx kids kids.length++[B8 op num val [x,y,z]]).map CoD.cs:=hrow
   have hlE:(Ee [x,y,z]).length=3:=rfl
   have g0:decide (((3:Nat):Int)>0)=true:=rfl
   have g1:decide (((3:Nat):Int)>1)=true:=rfl
   have g2:decide (((3:Nat):Int)>2)=true:=rfl
   have hq0:A9 (Ee [x,y,z]) 1 0=true:=rfl
   have hw0:(Ee [x,y,z])[0]? = some [.int .i64 (x:Nat)]:=rfl
   have hq1:A9 (Ee [x,y,z]) 1 1=true:=rfl
   have hw1:(Ee [x,y,z])[1]? = some [.int .i64 (y:Nat)]:=rfl
   have hq2:A9 (Ee [x,y,z]) 1 2=true:=rfl
   have hw2:(Ee [x,y,z])[2]? = some [.int .i64 (z:Nat)]:=rfl
   generalize (Cx kids kids.length++[B8 op num val [x,y,z]]).map CoD.cs=R at *
   generalize Ee [x,y,z]=Q at *
   refine A3 (j2 (j12 hln hdk hjn hlE g0 g1 g2 hq0 hw0 hq1 hw1 hq2) hw2) ?_
   exact Ab (Aa [((0,0),(98,0))] []) Tryz.results190 hrow
end Go.Proofs.YtcejfdfmgmcinaaGreat
