/- Texts of this proof: K05 K06 K07. -/
import Derived.Test.YtcejfdfmgmcinaaGreatKG1FuG1H
set_option linter.all false
set_option maxHeartbeats 8000000
namespace Go.Proofs.YtcejfdfmgmcinaaGreat
open Go.RowKit
set_option maxRecDepth 10000
abbrev Oc (t:CT):AV:=AD (t.flat 0)
def Ar (t:CT):List C:=[.sl ((t.flat 0).map CoD.cs)]
abbrev Di (ts:List CT):AV:=.c (.sl (ts.map Ar))
theorem a4t (t:CT):((t.flat 0).map CoD.cs)[t.size-1]? = some t.top.cs:=by
 have hl:=t.flat_len 0
 have hp:=t.size_pos
 rw[CT.flat_top]at hl ⊢
 rw[List.length_append]at hl
 simp only[List.length_singleton]at hl
 rw[List.map_append,List.getElem?_append_right (by rw[List.length_map];omega),List.length_map,show t.size-1-(B3 0 t.kids).length=0 by omega]
 rfl
theorem CU (t:CT) (hz:t.size≤1000000):AC Tryz.prog 329 [Oc t] [] t.top.av []:=by
 have hp:=t.size_pos
 have hln:=t.flat_len 0
 have htop:=a4t t
 unfold Oc
 generalize t.flat 0=L at *
 have hi:t.size-1<L.length:=by omega
 obtain⟨hr,hg⟩:=Ex L hi
 have hgt:L[t.size-1].cs=t.top.cs:=by
  rw[List.getElem?_map,List.getElem?_eq_getElem hi]at htop
  exact Option.some.inj htop
 have hg:(L.map CoD.cs)[t.size-1]? = some [.int .i64 t.top.op,.int .i64 t.top.a,.int .i64 t.top.b,.int .i64 t.top.c,.int .i64 t.top.num,.sl (t.top.val.map CellD.cs)]:=htop
 have hw:IntKind.i64.wrap ((t.size:Int)-1)=((t.size-1:Nat):Int):=by rw[IntWalk.i64_in _ (by omega)];omega
 clear htop hgt
 generalize t.top=d at *
 generalize t.size-1=q at *
 refine A7 Tryz.func329 Tryz.ntmps329 ?_
 refine A3 (j4 hln hw hr hg) ?_
 exact Ad (A6 []) Tryz.results329
theorem Uj (v:V):(AE v).flat 0=[⟨2,0,0,0,0,v.enc⟩]:=by
 unfold AE
 rw[CT.flat,B3,As]
 rfl
theorem Mi (v:V):AC Tryz.prog 330 [AH v.enc] [] (Oc (AE v)) []:=by
 have hf:=Uj v
 rw[show Oc (AE v)=.c (.sl [[C.int .i64 2,C.int .i64 0,C.int .i64 0,C.int .i64 0,C.int .i64 0,C.sl (v.enc.map CellD.cs)]]) by unfold Oc AD;rw[hf];rfl]
 refine A7 Tryz.func330 Tryz.ntmps330 ?_
 refine A3 q9 ?_
 exact Ab (Aa [] [(5,0)]) Tryz.results330 hf
def Iu (o:Option CT) (L:List CoD) (b:Bool):Prop:=(b=true∧∃q,o=some q∧L=q.flat 0)∨(b=false∧o=none)
def AW (L:List CoD) (b:Bool):AV:=.tup [AD L,.c (.bool b)]
theorem Gf (r:Int×Option V) (hr:CH r):∃L b,Iu (EX r) L b∧AC Tryz.prog 331 [vrA r] [] (AW L b) []:=by
 obtain⟨c,o⟩:=r
 cases o with
 |some v =>
  obtain⟨rfl,hv⟩:=hr
  have h00:((0:Int) != 0)=false:=rfl
  have hc:=Mi v
  refine⟨(AE v).flat 0,true,.inl ⟨rfl,_,rfl,rfl⟩,?_⟩
  rw[BG]
  unfold AW
  refine A7 Tryz.func331 Tryz.ntmps331 ?_
  refine A3 h00 ?_
  refine w9 (A5 [] hc) q9 ?_
  refine A3 q9 ?_
  exact Ab (Aa [] []) Tryz.results331 h00
 |none =>
  have hc:c≠0:=hr
  have h0:(c != 0)=true:=by simpa using hc
  have hn:([]:List CoD).map CoD.cs=[]:=rfl
  refine⟨[],false,.inr ⟨rfl,rfl⟩,?_⟩
  rw[Bv]
  unfold AW
  refine A7 Tryz.func331 Tryz.ntmps331 ?_
  refine A3 h0 ?_
  exact Ab (Aa [] []) Tryz.results331 hn
theorem IJ {t:V}(h:t.right):AC Tryz.prog 229 [AH t.enc] [] (.c (.bool (CM t))) []:=by
 have hr0:A9 (t.enc.map CellD.cs) 5 0=true:=by unfold A9;rw[show (0:Int).toNat=0 from rfl,AL];rfl
 have hg0:=AL t
 have hk:=WB h
 have hb:decide (t.kind>1)=CM t:=by
  unfold CM
  have hc:t.kind=0∨t.kind=1∨1<t.kind:=by omega
  rcases hc with e | e | e
  ·rw[e];rfl
  ·rw[e];rfl
  ·rw[decide_eq_true (by omega)]
   simp
   omega
 refine A7 Tryz.func229 Tryz.ntmps229 ?_
 refine A3 (j3 hr0 hg0 hb) ?_
 exact Ad (A6 []) Tryz.results229
theorem Cl (ts:List CT) {k:Nat}(h:k<ts.length):A9 (ts.map Ar) 1 k=true∧(ts.map Ar)[k]? = some [.sl ((ts[k].flat 0).map CoD.cs)]:=⟨by simp[A9,h,Ar],by simp[h,Ar]⟩
theorem DV (v:V):AC Tryz.prog 329 [Oc (AE v)] [] (.agg [.c (.int .i64 2),.c (.int .i64 0),.c (.int .i64 0),.c (.int .i64 0),.c (.int .i64 0),.c (.sl (v.enc.map CellD.cs))]) []:=CU (AE v) (by rw[JZ];omega)
theorem l8 {op:Int}(h:Au op=1):op=8∨op=9∨op=10:=by
 unfold Au at h
 split at h
 ·omega
 ·split at h
  ·assumption
  ·split at h<;>omega
theorem p8 {op:Int}(h:Au op=2):op=3∨op=4∨op=5∨op=6∨op=7∨op=11∨op=14:=by
 unfold Au at h
 split at h
 ·omega
 ·split at h
  ·omega
  ·split at h<;>omega
theorem Tp {op:Int}(h:Au op=3):op=12∨op=13:=by
 unfold Au at h
 split at h
 ·omega
 ·split at h
  ·omega
  ·split at h
   ·assumption
   ·omega
theorem He (r:Int×Option V):∃c l,vrA r=.agg [.c (.int .i64 c),.c (.sl l)]:=by
 obtain⟨c,o⟩:=r
 cases o with
 |some t=>exact⟨_,_,rfl⟩
 |none=>exact⟨_,_,rfl⟩
def IN (op num:Int) (val:List CellD):AV:=.agg [.c (.int .i64 op),.c (.int .i64 0),.c (.int .i64 0),.c (.int .i64 0),.c (.int .i64 num),.c (.sl (val.map CellD.cs))]
attribute [go_sem] IN
theorem SW {op num:Int}{val:List CellD}{a:CT}(ho:Au op=1) (ha:a.ok) (hz:a.size≤900):∃L b,Iu (C6 op num val [a]) L b∧AC Tryz.prog 257 [IN op num val,Di [a]] [] (AW L b) []:=by
 have ht:=CU a (by omega)
 have hto:a.top.op=a.op:=rfl
 obtain⟨hr0,hg0⟩:=Cl [a] (k:=0) (by simp)
 have hln:([a].map Ar).length=1:=rfl
 have h12:((1:Int) != 2)=true:=rfl
 have hn:([]:List CoD).map CoD.cs=[]:=rfl
 simp only[List.getElem_cons_zero]at hg0
 rcases l8 ho with rfl | rfl | rfl
 ·refine⟨[],false,.inr ⟨rfl,by unfold C6;dsimp only;rw[if_neg (by decide)]⟩,?_⟩
  generalize [a].map Ar=P at *
  generalize a.top=A at *
  generalize (a.flat 0).map CoD.cs=F at *
  unfold AW
  refine A7 Tryz.func257 Tryz.ntmps257 ?_
  refine A3 (j2 hr0 hg0) ?_
  refine w9 (A5 [] ht) q9 ?_
  refine Ac (j2 hln h12) ?_
  exact Ab (Aa [] []) Tryz.results257 hn
 ·refine⟨[],false,.inr ⟨rfl,by unfold C6;dsimp only;rw[if_neg (by decide)]⟩,?_⟩
  generalize [a].map Ar=P at *
  generalize a.top=A at *
  generalize (a.flat 0).map CoD.cs=F at *
  unfold AW
  refine A7 Tryz.func257 Tryz.ntmps257 ?_
  refine A3 (j2 hr0 hg0) ?_
  refine w9 (A5 [] ht) q9 ?_
  refine Ac (j2 hln h12) ?_
  exact Ab (Aa [] []) Tryz.results257 hn
 ·by_cases h17:a.op=17
  ·have k17:(a.top.op==17)=true:=by rw[hto,h17];rfl
   have hc:=Mi (AZ [])
   unfold Oc at hc
   have he:(AZ []).enc=[⟨5,0,ByteArray.empty,ByteArray.empty,0⟩]:=rfl
   have hrow:[[C.int .i64 5,C.int .i64 0,C.str ByteArray.empty,C.str ByteArray.empty,C.int .i64 0]]=(AZ []).enc.map CellD.cs:=rfl
   refine⟨(AE (AZ [])).flat 0,true,.inl ⟨rfl,_,by unfold C6;dsimp only;rw[if_pos rfl,if_pos h17],rfl⟩,?_⟩
   clear he
   generalize [a].map Ar=P at *
   generalize a.top=A at *
   generalize (a.flat 0).map CoD.cs=F at *
   generalize (AE (AZ [])).flat 0=R at *
   generalize (AZ []).enc=X at *
   unfold AW
   refine A7 Tryz.func257 Tryz.ntmps257 ?_
   refine A3 (j2 hr0 hg0) ?_
   refine w9 (A5 [] ht) q9 ?_
   refine Ac (j2 k17 hrow) ?_
   refine w9 (A5 [(34,0)] hc) q9 ?_
   refine A3 q9 ?_
   exact Ab (Aa [] []) Tryz.results257 k17
  ·have k17:(a.top.op==17)=false:=by rw[hto];simpa using h17
   by_cases h2:a.op=2
   ·obtain⟨v,hv,_,e,rfl⟩:=D4 ha h2
    have ht:=DV v
    have hfit:(AZ [v]).fit:=J3 fun x hx=>by rw[List.mem_singleton.1 hx];exact Cu hv
    have hcnt:(AZ [v]).count≤500000:=by have:=hv.2.1;show Aw [v]+1≤_;simp[Aw];omega
    have h1:=DZ [v] hcnt
    have h3:=EB (AZ [v])
    obtain⟨L,b,hL,hm⟩:=Gf (Cw (AZ [v])) (Et hfit)
    refine⟨L,b,by unfold C6;dsimp only;rw[if_pos rfl,if_neg h17,if_pos h2,e];exact hL,?_⟩
    have q1:((2:Int)==17)=false:=rfl
    have q2:((2:Int) != 2)=false:=rfl
    have hrow:[[C.sl (v.enc.map CellD.cs)]]=([v].map V.enc).map Al:=rfl
    have hy2:AU (([v].map V.enc).map Al)=([v].map V.enc).map Al:=by rw[←hrow];rfl
    clear hfit hcnt hL
    generalize [AE v].map Ar=P at *
    generalize ((AE v).flat 0).map CoD.cs=F at *
    obtain⟨gc,gl,hg⟩:=He (Cw (AZ [v]))
    rw[hg]at h3 hm
    clear hg
    generalize (AZ [v]).enc=X at *
    generalize ([v].map V.enc).map Al=Y at *
    generalize v.enc=W at *
    unfold AW at hm ⊢
    refine A7 Tryz.func257 Tryz.ntmps257 ?_
    refine A3 (j2 hr0 hg0) ?_
    refine w9 (A5 [] ht) q9 ?_
    refine Ac (j3 q1 q2 hrow) ?_
    refine w9 (A5 [(41,0)] h1) hy2 ?_
    refine A3 q9 ?_
    refine w9 (A5 [] h3) q9 ?_
    refine A3 q9 ?_
    refine w9 (A5 [] hm) q9 ?_
    refine A3 q9 ?_
    exact Ab (Aa [] []) Tryz.results257 q1
   ·have k2:(a.top.op != 2)=true:=by rw[hto];simpa using h2
    refine⟨[],false,.inr ⟨rfl,by unfold C6;dsimp only;rw[if_pos rfl,if_neg h17,if_neg h2]⟩,?_⟩
    generalize [a].map Ar=P at *
    generalize a.top=A at *
    generalize (a.flat 0).map CoD.cs=F at *
    unfold AW
    refine A7 Tryz.func257 Tryz.ntmps257 ?_
    refine A3 (j2 hr0 hg0) ?_
    refine w9 (A5 [] ht) q9 ?_
    refine Ac (j2 k17 k2) ?_
    exact Ab (Aa [] []) Tryz.results257 hn
set_option maxRecDepth 10000
theorem JI:Iu none [] false:=.inr ⟨rfl,rfl⟩
theorem Ct (q:CT):Iu (some q) (q.flat 0) true:=.inl ⟨rfl,q,rfl,rfl⟩
theorem SX {op num:Int}{val:List CellD}{a b:CT}(hn:(CT.mk op num val [a,b]).ok) (hz:(CT.mk op num val [a,b]).size≤900):∃L c,Iu (C6 op num val [a,b]) L c∧AC Tryz.prog 257 [IN op num val,Di [a,b]] [] (AW L c) []:=by
 simp only[CT.size,Aj]at hz
 unfold CT.ok at hn
 obtain⟨hno,hal,hk⟩:=hn
 rw[B6]at hk
 have ha:=hk a (by simp)
 have hb:=hk b (by simp)
 have hops:=p8 hal.symm
 have ht:=CU a (by omega)
 have hu:=CU b (by omega)
 have hto:a.top.op=a.op:=rfl
 have huo:b.top.op=b.op:=rfl
 obtain⟨hr0,hg0⟩:=Cl [a,b] (k:=0) (by simp)
 obtain⟨hr1,hg1⟩:=Cl [a,b] (k:=1) (by simp)
 simp only[List.getElem_cons_zero,List.getElem_cons_succ]at hg0 hg1
 have hln:([a,b].map Ar).length=2:=rfl
 have h22:((2:Int) != 2)=false:=rfl
 have h22c:(((2:Nat):Int) != 2)=false:=rfl
 have k12:(op==12)=false:=Bh (by omega)
 have k10:(op==10)=false:=Bh (by omega)
 have hnil:([]:List CoD).map CoD.cs=[]:=rfl
 by_cases h1:a.op=2
 ·by_cases h2:b.op=2
  ·obtain⟨v,hv,_,ev,rfl⟩:=D4 ha h1
   obtain⟨u,hu',_,eu,rfl⟩:=D4 hb h2
   have ht:=DV v
   have hu:=DV u
   have hfold:C6 op num val [AE v,AE u]=(if op=6 then EX (JS num v u) else if op=7 then EX (CB v u) else if op=11 then EX (DD v (vOf val).text u) else none):=by
    unfold C6
    dsimp only
    rw[if_pos ⟨h1,h2⟩,ev,eu]
   rw[hfold]
   by_cases k6:op=6
   ·subst k6
    have hno2:=hno.numOk
    unfold FE C4 at hno2
    simp at hno2
    have hB:=T5 num hno2 hv hu'
    obtain⟨L,c,hL,hm⟩:=Gf (JS num v u) (Qt num hv hu')
    refine⟨L,c,by rw[if_pos rfl];exact hL,?_⟩
    clear hL hfold hno
    generalize [AE v,AE u].map Ar=P at *
    generalize ((AE v).flat 0).map CoD.cs=Fa at *
    generalize ((AE u).flat 0).map CoD.cs=Fb at *
    obtain⟨gc,gl,hg⟩:=He (JS num v u)
    rw[hg]at hB hm
    clear hg
    generalize v.enc=Wv at *
    generalize u.enc=Wu at *
    unfold AW at hm ⊢
    refine A7 Tryz.func257 Tryz.ntmps257 ?_
    refine A3 (j2 hr0 hg0) ?_
    refine w9 (A5 [] ht) q9 ?_
    refine Ac (j5 hln h22c h22 hr1 hg1) ?_
    refine w9 (A5 [] hu) q9 ?_
    refine A3 (j3 h22 hr1 hg1) ?_
    refine w9 (A5 [] hu) q9 ?_
    refine Ac q9 ?_
    refine w9 (A5 [] hB) q9 ?_
    refine A3 q9 ?_
    refine w9 (A5 [] hm) q9 ?_
    refine A3 q9 ?_
    exact Ab (Aa [] []) Tryz.results257 h22
   ·by_cases k7:op=7
    ·subst k7
     have hB:=a1m hv hu'
     obtain⟨L,c,hL,hm⟩:=Gf (CB v u) (KU hv u)
     refine⟨L,c,by rw[if_neg (by decide),if_pos rfl];exact hL,?_⟩
     clear hL hfold hno
     generalize [AE v,AE u].map Ar=P at *
     generalize ((AE v).flat 0).map CoD.cs=Fa at *
     generalize ((AE u).flat 0).map CoD.cs=Fb at *
     obtain⟨gc,gl,hg⟩:=He (CB v u)
     rw[hg]at hB hm
     clear hg
     generalize v.enc=Wv at *
     generalize u.enc=Wu at *
     unfold AW at hm ⊢
     refine A7 Tryz.func257 Tryz.ntmps257 ?_
     refine A3 (j2 hr0 hg0) ?_
     refine w9 (A5 [] ht) q9 ?_
     refine Ac (j5 hln h22c h22 hr1 hg1) ?_
     refine w9 (A5 [] hu) q9 ?_
     refine A3 (j3 h22 hr1 hg1) ?_
     refine w9 (A5 [] hu) q9 ?_
     refine Ac q9 ?_
     refine w9 (A5 [] hB) q9 ?_
     refine A3 q9 ?_
     refine w9 (A5 [] hm) q9 ?_
     refine A3 q9 ?_
     exact Ab (Aa [] []) Tryz.results257 h22
    ·by_cases k11:op=11
     ·subst k11
      obtain⟨t,htr,e3,_⟩:=hno.hasVal rfl
      subst e3
      have hB:=P4 hv hu' t.text (DB htr)
      obtain⟨L,c,hL,hm⟩:=Gf (DD v t.text u) (Jk hv hu' (DB htr))
      have hrv:A9 (t.enc.map CellD.cs) 5 0=true:=by unfold A9;rw[show (0:Int).toNat=0 from rfl,AL];rfl
      have hgv:=AL t
      refine⟨L,c,by rw[if_neg (by decide),if_neg (by decide),if_pos rfl,MW htr];exact hL,?_⟩
      clear hL hfold hno
      generalize [AE v,AE u].map Ar=P at *
      generalize ((AE v).flat 0).map CoD.cs=Fa at *
      generalize ((AE u).flat 0).map CoD.cs=Fb at *
      obtain⟨gc,gl,hg⟩:=He (DD v t.text u)
      rw[hg]at hB hm
      clear hg
      generalize v.enc=Wv at *
      generalize u.enc=Wu at *
      unfold AW at hm ⊢
      refine A7 Tryz.func257 Tryz.ntmps257 ?_
      refine A3 (j2 hr0 hg0) ?_
      refine w9 (A5 [] ht) q9 ?_
      refine Ac (j5 hln h22c h22 hr1 hg1) ?_
      refine w9 (A5 [] hu) q9 ?_
      refine A3 (j3 h22 hr1 hg1) ?_
      refine w9 (A5 [] hu) q9 ?_
      refine Ac (j2 hrv hgv) ?_
      refine w9 (A5 [] hB) q9 ?_
      refine A3 q9 ?_
      refine w9 (A5 [] hm) q9 ?_
      refine A3 q9 ?_
      exact Ab (Aa [] []) Tryz.results257 h22
     ·have x6:=Bh k6
      have x7:=Bh k7
      have x11:=Bh k11
      refine⟨[],false,by rw[if_neg k6,if_neg k7,if_neg k11];exact JI,?_⟩
      clear hfold
      generalize [AE v,AE u].map Ar=P at *
      generalize ((AE v).flat 0).map CoD.cs=Fa at *
      generalize ((AE u).flat 0).map CoD.cs=Fb at *
      unfold AW
      refine A7 Tryz.func257 Tryz.ntmps257 ?_
      refine A3 (j2 hr0 hg0) ?_
      refine w9 (A5 [] ht) q9 ?_
      refine A3 (j7 k12 k10 hln h22c h22 hr1 hg1) ?_
      refine w9 (A5 [] hu) q9 ?_
      refine A3 (j3 h22 hr1 hg1) ?_
      refine w9 (A5 [] hu) q9 ?_
      refine A3 (j3 x6 x7 x11) ?_
      exact Ab (Aa [] []) Tryz.results257 hnil
  ·have m1:(a.top.op != 2)=false:=Js h1
   have m2:(b.top.op != 2)=true:=Ek h2
   refine⟨[],false,by unfold C6;dsimp only;rw[if_neg (fun h=>h2 h.2)];exact JI,?_⟩
   generalize [a,b].map Ar=P at *
   generalize a.top=A at *
   generalize b.top=B at *
   generalize (a.flat 0).map CoD.cs=Fa at *
   generalize (b.flat 0).map CoD.cs=Fb at *
   unfold AW
   refine A7 Tryz.func257 Tryz.ntmps257 ?_
   refine A3 (j2 hr0 hg0) ?_
   refine w9 (A5 [] ht) q9 ?_
   refine A3 (j8 k12 k10 hln h22c h22 m1 hr1 hg1) ?_
   refine w9 (A5 [] hu) q9 ?_
   refine A3 m2 ?_
   exact Ab (Aa [] []) Tryz.results257 hnil
 ·have m1:(a.top.op != 2)=true:=Ek h1
  refine⟨[],false,by unfold C6;dsimp only;rw[if_neg (fun h=>h1 h.1)];exact JI,?_⟩
  generalize [a,b].map Ar=P at *
  generalize a.top=A at *
  generalize (a.flat 0).map CoD.cs=Fa at *
  generalize (b.flat 0).map CoD.cs=Fb at *
  unfold AW
  refine A7 Tryz.func257 Tryz.ntmps257 ?_
  refine A3 (j2 hr0 hg0) ?_
  refine w9 (A5 [] ht) q9 ?_
  refine A3 (j6 k12 k10 hln h22c h22 m1) ?_
  exact Ab (Aa [] []) Tryz.results257 hnil
theorem OV {op num:Int}{val:List CellD}{a b c:CT}(hn:(CT.mk op num val [a,b,c]).ok) (hz:(CT.mk op num val [a,b,c]).size≤900):∃L r,Iu (C6 op num val [a,b,c]) L r∧AC Tryz.prog 257 [IN op num val,Di [a,b,c]] [] (AW L r) []:=by
 simp only[CT.size,Aj]at hz
 unfold CT.ok at hn
 obtain⟨hno,hal,hk⟩:=hn
 rw[B6]at hk
 have ha:=hk a (by simp)
 have ht:=CU a (by omega)
 have hto:a.top.op=a.op:=rfl
 obtain⟨hr0,hg0⟩:=Cl [a,b,c] (k:=0) (by simp)
 obtain⟨hr1,hg1⟩:=Cl [a,b,c] (k:=1) (by simp)
 obtain⟨hr2,hg2⟩:=Cl [a,b,c] (k:=2) (by simp)
 simp only[List.getElem_cons_zero,List.getElem_cons_succ]at hg0 hg1 hg2
 have hln:([a,b,c].map Ar).length=3:=rfl
 have h32:((3:Int) != 2)=true:=rfl
 have h32c:(((3:Nat):Int) != 2)=true:=rfl
 have hnil:([]:List CoD).map CoD.cs=[]:=rfl
 rcases Tp hal.symm with rfl | rfl
 ·by_cases h1:a.op=2
  ·obtain⟨v,hv,_,ev,rfl⟩:=D4 ha h1
   have ht:=DV v
   have hT:=IJ hv
   have h22:((2:Int) != 2)=false:=rfl
   have hfold:C6 12 num val [AE v,b,c]=some (if CM v then b else c):=by unfold C6;dsimp only;rw[if_pos ⟨rfl,h1⟩,ev]
   rw[hfold]
   cases htr:CM v with
   |true =>
    rw[htr]at hT
    refine⟨b.flat 0,true,by rw[if_pos rfl];exact Ct b,?_⟩
    generalize [AE v,b,c].map Ar=P at *
    generalize ((AE v).flat 0).map CoD.cs=Fa at *
    generalize v.enc=Wv at *
    unfold AW
    refine A7 Tryz.func257 Tryz.ntmps257 ?_
    refine A3 (j2 hr0 hg0) ?_
    refine w9 (A5 [] ht) q9 ?_
    refine Ac h22 ?_
    refine w7 (A4 [] hT) q9 ?_
    refine A3 (j2 hr1 hg1) ?_
    exact Ab (Aa [] []) Tryz.results257 h22
   |false =>
    rw[htr]at hT
    refine⟨c.flat 0,true,by rw[if_neg (by decide)];exact Ct c,?_⟩
    generalize [AE v,b,c].map Ar=P at *
    generalize ((AE v).flat 0).map CoD.cs=Fa at *
    generalize v.enc=Wv at *
    unfold AW
    refine A7 Tryz.func257 Tryz.ntmps257 ?_
    refine A3 (j2 hr0 hg0) ?_
    refine w9 (A5 [] ht) q9 ?_
    refine Ac h22 ?_
    refine w7 (A4 [] hT) q9 ?_
    refine A3 (j2 hr2 hg2) ?_
    exact Ab (Aa [] []) Tryz.results257 h22
  ·have m1:(a.top.op != 2)=true:=Ek h1
   refine⟨[],false,by unfold C6;dsimp only;rw[if_neg (fun h=>h1 h.2)];exact JI,?_⟩
   generalize [a,b,c].map Ar=P at *
   generalize a.top=A at *
   generalize (a.flat 0).map CoD.cs=Fa at *
   unfold AW
   refine A7 Tryz.func257 Tryz.ntmps257 ?_
   refine A3 (j2 hr0 hg0) ?_
   refine w9 (A5 [] ht) q9 ?_
   refine Ac m1 ?_
   exact Ab (Aa [] []) Tryz.results257 hnil
 ·refine⟨[],false,by unfold C6;dsimp only;rw[if_neg (fun h=>absurd h.1 (by decide))];exact JI,?_⟩
  generalize [a,b,c].map Ar=P at *
  generalize a.top=A at *
  generalize (a.flat 0).map CoD.cs=Fa at *
  unfold AW
  refine A7 Tryz.func257 Tryz.ntmps257 ?_
  refine A3 (j2 hr0 hg0) ?_
  refine w9 (A5 [] ht) q9 ?_
  refine Ac (j3 hln h32c h32) ?_
  exact Ab (Aa [] []) Tryz.results257 hnil
set_option maxRecDepth 10000
theorem SZ {op num:Int}{val:List CellD}(ts:List CT) (h:op≠3):AC Tryz.prog 258 [IN op num val,Di ts] [] (AW [] false) []:=by
 have k3:(op != 3)=true:=Ek h
 have hnil:([]:List CoD).map CoD.cs=[]:=rfl
 generalize ts.map Ar=P at *
 unfold AW
 refine A7 Tryz.func258 Tryz.ntmps258 ?_
 refine A3 k3 ?_
 exact Ab (Aa [] []) Tryz.results258 hnil
theorem T0 {num:Int}{val:List CellD}{a b:CT}(hn:(CT.mk 3 num val [a,b]).ok) (hz:(CT.mk 3 num val [a,b]).size≤900):∃L c,Iu (Gm 3 [a,b]) L c∧AC Tryz.prog 258 [IN 3 num val,Di [a,b]] [] (AW L c) []:=by
 simp only[CT.size,Aj]at hz
 unfold CT.ok at hn
 obtain⟨hno,hal,hk⟩:=hn
 rw[B6]at hk
 have ha:=hk a (by simp)
 have hb:=hk b (by simp)
 have ht:=CU a (by omega)
 have hu:=CU b (by omega)
 have hto:a.top.op=a.op:=rfl
 have huo:b.top.op=b.op:=rfl
 obtain⟨hr0,hg0⟩:=Cl [a,b] (k:=0) (by simp)
 obtain⟨hr1,hg1⟩:=Cl [a,b] (k:=1) (by simp)
 simp only[List.getElem_cons_zero,List.getElem_cons_succ]at hg0 hg1
 have hln:([a,b].map Ar).length=2:=rfl
 have hnil:([]:List CoD).map CoD.cs=[]:=rfl
 have k3:((3:Int) != 3)=false:=rfl
 have hp:Gm 3 [a,b]=if a.op=1 then some b else if b.op=1 then some a else if a.op=2∧b.op=2 then some b else if a.op=2∧b.op=16 then EX (Ce b.num (vOf a.val)) else none:=rfl
 rw[hp]
 by_cases h1:a.op=1
 ·have m1:(a.top.op==1)=true:=BL h1
  refine⟨b.flat 0,true,by rw[if_pos h1];exact Ct b,?_⟩
  generalize [a,b].map Ar=P at *
  generalize a.top=A at *
  generalize b.top=B at *
  generalize (a.flat 0).map CoD.cs=Fa at *
  generalize (b.flat 0).map CoD.cs=Fb at *
  unfold AW
  refine A7 Tryz.func258 Tryz.ntmps258 ?_
  refine A3 (j3 k3 hr0 hg0) ?_
  refine w9 (A5 [] ht) q9 ?_
  refine A3 (j2 hr1 hg1) ?_
  refine w9 (A5 [] hu) q9 ?_
  refine A3 (j3 m1 hr1 hg1) ?_
  exact Ab (Aa [] []) Tryz.results258 m1
 ·have m1:(a.top.op==1)=false:=Bh h1
  rw[if_neg h1]
  by_cases h2:b.op=1
  ·have m2:(b.top.op==1)=true:=BL h2
   refine⟨a.flat 0,true,by rw[if_pos h2];exact Ct a,?_⟩
   generalize [a,b].map Ar=P at *
   generalize a.top=A at *
   generalize b.top=B at *
   generalize (a.flat 0).map CoD.cs=Fa at *
   generalize (b.flat 0).map CoD.cs=Fb at *
   unfold AW
   refine A7 Tryz.func258 Tryz.ntmps258 ?_
   refine A3 (j3 k3 hr0 hg0) ?_
   refine w9 (A5 [] ht) q9 ?_
   refine A3 (j2 hr1 hg1) ?_
   refine w9 (A5 [] hu) q9 ?_
   refine A3 (j4 m1 m2 hr0 hg0) ?_
   exact Ab (Aa [] []) Tryz.results258 m1
  ·have m2:(b.top.op==1)=false:=Bh h2
   rw[if_neg h2]
   by_cases h3:a.op=2
   ·have m3:(a.top.op==2)=true:=BL h3
    by_cases h4:b.op=2
    ·have m4:(b.top.op==2)=true:=BL h4
     refine⟨b.flat 0,true,by rw[if_pos ⟨h3,h4⟩];exact Ct b,?_⟩
     generalize [a,b].map Ar=P at *
     generalize a.top=A at *
     generalize b.top=B at *
     generalize (a.flat 0).map CoD.cs=Fa at *
     generalize (b.flat 0).map CoD.cs=Fb at *
     unfold AW
     refine A7 Tryz.func258 Tryz.ntmps258 ?_
     refine A3 (j3 k3 hr0 hg0) ?_
     refine w9 (A5 [] ht) q9 ?_
     refine A3 (j2 hr1 hg1) ?_
     refine w9 (A5 [] hu) q9 ?_
     refine A3 (j6 m1 m2 m3 m4 hr1 hg1) ?_
     exact Ab (Aa [] []) Tryz.results258 m1
    ·have m4:(b.top.op==2)=false:=Bh h4
     rw[if_neg (fun h=>h4 h.2)]
     by_cases h5:b.op=16
     ·have m5:(b.top.op==16)=true:=BL h5
      obtain⟨v,hv,_,ev,rfl⟩:=D4 ha h3
      have ht:=DV v
      have hbn:1≤b.num∧b.num≤8:=by
       cases b with
       |mk op num val kids =>
        have h5:op=16:=h5
        subst h5
        unfold CT.ok at hb
        have h6:=hb.1.numOk
        unfold FE C4 at h6
        have h7:1≤num∧num≤8:=by simpa using h6
        exact h7
      have hD:=a1n b.num hv hbn
      obtain⟨L,c,hL,hm⟩:=Gf (Ce b.num v) (Gi b.num hv)
      refine⟨L,c,by rw[if_pos ⟨h3,h5⟩,ev];exact hL,?_⟩
      have hbt:b.top.num=b.num:=rfl
      have q1:((2:Int)==1)=false:=rfl
      have q2:((2:Int)==2)=true:=rfl
      rw[←hbt]at hD hm
      clear hL hp hbt
      generalize [AE v,b].map Ar=P at *
      generalize b.top=B at *
      generalize ((AE v).flat 0).map CoD.cs=Fa at *
      generalize (b.flat 0).map CoD.cs=Fb at *
      obtain⟨gc,gl,hg⟩:=He (Ce B.num v)
      rw[hg]at hD hm
      clear hg
      generalize v.enc=Wv at *
      unfold AW at hm ⊢
      refine A7 Tryz.func258 Tryz.ntmps258 ?_
      refine A3 (j3 k3 hr0 hg0) ?_
      refine w9 (A5 [] ht) q9 ?_
      refine A3 (j2 hr1 hg1) ?_
      refine w9 (A5 [] hu) q9 ?_
      refine A3 (j5 q1 q2 m2 m4 m5) ?_
      refine w9 (A5 [] hD) q9 ?_
      refine A3 q9 ?_
      refine w9 (A5 [] hm) q9 ?_
      refine A3 q9 ?_
      exact Ab (Aa [] []) Tryz.results258 q1
     ·have m5:(b.top.op==16)=false:=Bh h5
      refine⟨[],false,by rw[if_neg (fun h=>h5 h.2)];exact JI,?_⟩
      generalize [a,b].map Ar=P at *
      generalize a.top=A at *
      generalize b.top=B at *
      generalize (a.flat 0).map CoD.cs=Fa at *
      generalize (b.flat 0).map CoD.cs=Fb at *
      unfold AW
      refine A7 Tryz.func258 Tryz.ntmps258 ?_
      refine A3 (j3 k3 hr0 hg0) ?_
      refine w9 (A5 [] ht) q9 ?_
      refine A3 (j2 hr1 hg1) ?_
      refine w9 (A5 [] hu) q9 ?_
      refine A3 (j5 m1 m2 m3 m4 m5) ?_
      exact Ab (Aa [] []) Tryz.results258 hnil
   ·have m3:(a.top.op==2)=false:=Bh h3
    refine⟨[],false,by rw[if_neg (fun h=>h3 h.1),if_neg (fun h=>h3 h.1)];exact JI,?_⟩
    generalize [a,b].map Ar=P at *
    generalize a.top=A at *
    generalize b.top=B at *
    generalize (a.flat 0).map CoD.cs=Fa at *
    generalize (b.flat 0).map CoD.cs=Fb at *
    unfold AW
    refine A7 Tryz.func258 Tryz.ntmps258 ?_
    refine A3 (j3 k3 hr0 hg0) ?_
    refine w9 (A5 [] ht) q9 ?_
    refine A3 (j2 hr1 hg1) ?_
    refine w9 (A5 [] hu) q9 ?_
    refine A3 (j3 m1 m2 m3) ?_
    exact Ab (Aa [] []) Tryz.results258 hnil
theorem UX {op num:Int}{val:List CellD}(ts:List CT) (h:op≠9):AC Tryz.prog 260 [IN op num val,Di ts] [] (AW [] false) []:=by
 have k9:(op != 9)=true:=Ek h
 have hnil:([]:List CoD).map CoD.cs=[]:=rfl
 generalize ts.map Ar=P at *
 unfold AW
 refine A7 Tryz.func260 Tryz.ntmps260 ?_
 refine A3 k9 ?_
 exact Ab (Aa [] []) Tryz.results260 hnil
theorem UY {num:Int}{val:List CellD}{a:CT}(ha:a.ok) (hz:a.size≤900):∃L c,Iu (Lp 9 [a]) L c∧AC Tryz.prog 260 [IN 9 num val,Di [a]] [] (AW L c) []:=by
 have ht:=CU a (by omega)
 have hto:a.top.op=a.op:=rfl
 obtain⟨hr0,hg0⟩:=Cl [a] (k:=0) (by simp)
 simp only[List.getElem_cons_zero]at hg0
 have k9:((9:Int) != 9)=false:=rfl
 have hnil:([]:List CoD).map CoD.cs=[]:=rfl
 have hp:Lp 9 [a]=if a.op=2∨a.op=1∨a.op=15∨a.op=17∨a.op=9 then some a else none:=by
  unfold Lp
  simp
 rw[hp]
 by_cases h0:a.op=2
 ·have m0:(a.top.op==2)=true:=BL h0
  refine⟨a.flat 0,true,by rw[if_pos (by omega)];exact Ct a,?_⟩
  generalize [a].map Ar=P at *
  generalize a.top=A at *
  generalize (a.flat 0).map CoD.cs=Fa at *
  unfold AW
  refine A7 Tryz.func260 Tryz.ntmps260 ?_
  refine A3 (j3 k9 hr0 hg0) ?_
  refine w9 (A5 [] ht) q9 ?_
  refine A3 (j3 m0 hr0 hg0) ?_
  exact Ab (Aa [] []) Tryz.results260 k9
 have m0:(a.top.op==2)=false:=Bh h0
 by_cases h1:a.op=1
 ·have m1:(a.top.op==1)=true:=BL h1
  refine⟨a.flat 0,true,by rw[if_pos (by omega)];exact Ct a,?_⟩
  generalize [a].map Ar=P at *
  generalize a.top=A at *
  generalize (a.flat 0).map CoD.cs=Fa at *
  unfold AW
  refine A7 Tryz.func260 Tryz.ntmps260 ?_
  refine A3 (j3 k9 hr0 hg0) ?_
  refine w9 (A5 [] ht) q9 ?_
  refine A3 (j4 m0 m1 hr0 hg0) ?_
  exact Ab (Aa [] []) Tryz.results260 k9
 have m1:(a.top.op==1)=false:=Bh h1
 by_cases h2:a.op=15
 ·have m2:(a.top.op==15)=true:=BL h2
  refine⟨a.flat 0,true,by rw[if_pos (by omega)];exact Ct a,?_⟩
  generalize [a].map Ar=P at *
  generalize a.top=A at *
  generalize (a.flat 0).map CoD.cs=Fa at *
  unfold AW
  refine A7 Tryz.func260 Tryz.ntmps260 ?_
  refine A3 (j3 k9 hr0 hg0) ?_
  refine w9 (A5 [] ht) q9 ?_
  refine A3 (j5 m0 m1 m2 hr0 hg0) ?_
  exact Ab (Aa [] []) Tryz.results260 k9
 have m2:(a.top.op==15)=false:=Bh h2
 by_cases h3:a.op=17
 ·have m3:(a.top.op==17)=true:=BL h3
  refine⟨a.flat 0,true,by rw[if_pos (by omega)];exact Ct a,?_⟩
  generalize [a].map Ar=P at *
  generalize a.top=A at *
  generalize (a.flat 0).map CoD.cs=Fa at *
  unfold AW
  refine A7 Tryz.func260 Tryz.ntmps260 ?_
  refine A3 (j3 k9 hr0 hg0) ?_
  refine w9 (A5 [] ht) q9 ?_
  refine A3 (j6 m0 m1 m2 m3 hr0 hg0) ?_
  exact Ab (Aa [] []) Tryz.results260 k9
 have m3:(a.top.op==17)=false:=Bh h3
 by_cases h4:a.op=9
 ·have m4:(a.top.op==9)=true:=BL h4
  refine⟨a.flat 0,true,by rw[if_pos (by omega)];exact Ct a,?_⟩
  generalize [a].map Ar=P at *
  generalize a.top=A at *
  generalize (a.flat 0).map CoD.cs=Fa at *
  unfold AW
  refine A7 Tryz.func260 Tryz.ntmps260 ?_
  refine A3 (j3 k9 hr0 hg0) ?_
  refine w9 (A5 [] ht) q9 ?_
  refine A3 (j7 m0 m1 m2 m3 m4 hr0 hg0) ?_
  exact Ab (Aa [] []) Tryz.results260 k9
 have m4:(a.top.op==9)=false:=Bh h4
 refine⟨[],false,by rw[if_neg (by omega)];exact JI,?_⟩
 generalize [a].map Ar=P at *
 generalize a.top=A at *
 generalize (a.flat 0).map CoD.cs=Fa at *
 unfold AW
 refine A7 Tryz.func260 Tryz.ntmps260 ?_
 refine A3 (j3 k9 hr0 hg0) ?_
 refine w9 (A5 [] ht) q9 ?_
 refine A3 (j5 m0 m1 m2 m3 m4) ?_
 exact Ab (Aa [] []) Tryz.results260 hnil
end Go.Proofs.YtcejfdfmgmcinaaGreat
