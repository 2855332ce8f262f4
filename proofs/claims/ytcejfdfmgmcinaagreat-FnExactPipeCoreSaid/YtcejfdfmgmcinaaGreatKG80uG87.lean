/- Texts of this proof: G80 M29 G86 G45 G55 G34 G56 G87. -/
import Derived.Test.YtcejfdfmgmcinaaGreatKG49uG9
import Derived.Deep.RegionLaw
import Derived.Shelf.RegionOpenPlain
set_option linter.all false
set_option maxHeartbeats 8000000
namespace Go.Proofs.YtcejfdfmgmcinaaGreat
open Go.RowKit
set_option maxRecDepth 10000
theorem Ba {x:Int}{n:Nat}(h:x=(n:Int)) (hn:n<9000000000000000000):IntKind.i64.wrap x=(n:Int):=by
 rw[IntWalk.i64_in _ (by omega)];exact h
def Zd (q:V):Prop:=q.right∧q.count=1∧q.depth=1∧(q.kind=3∨q.kind=4)
theorem Vu {q:V}(h:y6 q):Zd q:=by
 obtain⟨h1,h2,h3⟩:=S4 h
 refine⟨h1,h2,h3,?_⟩
 rcases h with⟨s,rfl,_⟩ | ⟨n,rfl,_⟩
 ·exact .inr rfl
 ·exact .inl rfl
theorem Nr {s:ByteArray}(h:Br s=true):(CG s).right:=by
 refine H2 ?_ (by decide)
 unfold AP
 have h2:inB 0 (-1000000000000000) 1000000000000000=true:=by decide
 simp[cF,cR,cT,Bm,Cp,h2,inB,h]
theorem Of:∀{l:List V},(∀q∈l,Zd q)→Am l=l.length∧AS l≤1∧wfL l
 | [],_=>⟨rfl,Nat.zero_le _,trivial⟩
 |q::l,h=>by
  obtain⟨h1,h2,h3⟩:=Of (l:=l) fun x hx=>h x (by simp[hx])
  obtain⟨h4,h5,h6,_⟩:=h q (by simp)
  exact⟨by simp only[Am,List.length_cons];omega,by simp only[AS];omega,h4.1,h3⟩
set_option maxRecDepth 10000
theorem Xc {L:List V}{i:Nat}(h:i<L.length):Aa ((L.map V.enc).map Ag) 1 ((i:Nat):Int)=true∧((L.map V.enc).map Ag)[i]? = some [.sl (L[i].enc.map CellD.cs)]:=⟨by simp[Aa,h,Ag],by simp[h,Ag]⟩
set_option maxRecDepth 10000
def sgn (x y:Bool):Int:=bif x then -1 else bif y then 1 else 0
theorem Fg (x y:Bool):AC Tryz.prog 387 [.c (.bool x),.c (.bool y)] [] (.c (.int .i64 (sgn x y))) []:=by
 cases x<;>cases y
 all_goals
  refine A7 Tryz.func387 Tryz.ntmps387 q9 ?_
  exact A5 [] (by simp only[Tryz.results387,go_sem,Nat.reduceBEq,Nat.reduceLT];exact rfl) (by simp only[go_sem,Nat.reduceEqDiff,Nat.reduceAdd,Nat.reduceSub,Nat.reduceLeDiff,Nat.reduceMul,Nat.reduceBEq,Nat.reduceLT,Int.reduceToNat,reduceCtorEq,sgn]) rfl
theorem Ze (a b:Int):sgn (decide (a<b)) (decide (a>b))=C0 a b:=by
 unfold sgn C0
 by_cases h1:a<b
 ·simp[h1]
 ·by_cases h2:b<a
  ·simp[h1,h2]
  ·simp[h1,h2]
theorem a1m {a b:Int}(h:a≠b):sgn (decide (a<b)) true=C0 a b:=by
 unfold sgn C0
 by_cases h1:a<b
 ·simp[h1]
 ·rw[if_neg h1,if_pos (by omega)]
  simp[h1]
theorem a1v (a b:ByteArray):sgn (Op.bytesLess a.toList b.toList) (!(Op.bytesLess a.toList b.toList||a.toList==b.toList))=Cy a b:=by
 unfold sgn Cy Bh
 cases Op.bytesLess a.toList b.toList<;>cases (a.toList==b.toList)<;>rfl
theorem p9 {a b:ByteArray}(h:(a.toList==b.toList)=false):sgn (Op.bytesLess a.toList b.toList) true=Cy a b:=by
 unfold sgn Cy Bh
 rw[h]
 cases Op.bytesLess a.toList b.toList<;>rfl
theorem NP (a b:List ByteArray) (hl:a.length≤1000000):AC Tryz.prog 389 [.c (.sl (a.map Ad)),.c (.sl (b.map Ad))] [] (.c (.int .i64 (AF a b))) []:=by
 have hla:(a.map Ad).length=a.length:=by simp
 have hlb:(b.map Ad).length=b.length:=by simp
 obtain⟨R,hR⟩:∃R,R=AF a b:=⟨_,rfl⟩
 rw[←hR]
 refine A7 Tryz.func389 Tryz.ntmps389 q9 ?_
 refine Ar (κ:=Nat) (fun k=>⟨mkS 0 48 [(0,.c (.sl (a.map Ad))),(1,.c (.sl (b.map Ad))),(5,.c (.int .i64 k))],[]⟩)
  (fun k=>k≤a.length∧k≤b.length∧R=AF (a.drop k) (b.drop k)) (fun k=>a.length-k) 0 ⟨Nat.zero_le _,Nat.zero_le _,hR⟩ ?_ ?_
 ·exact Ab (Ah.of [] []) hla
 ·rintro k ⟨hk,hk2,hRk⟩
  by_cases hlt:k<a.length∧k<b.length
  ·have hda:decide ((k:Int)<(a.length:Int))=true:=by simpa using hlt.1
   have hdb:decide ((k:Int)<(b.length:Int))=true:=by simpa using hlt.2
   have hw:=Af (k:=k) (by omega)
   have hr:Aa (a.map Ad) 1 k=true:=by simp[Aa,hlt.1,Ad]
   have hg:(a.map Ad)[k]? = some [.str a[k]]:=by simp[hlt.1,Ad]
   have hrb:Aa (b.map Ad) 1 k=true:=by simp[Aa,hlt.2,Ad]
   have hgb:(b.map Ad)[k]? = some [.str b[k]]:=by simp[hlt.2,Ad]
   rw[JH hlt.1 hlt.2]at hRk
   generalize a[k]=ak,b[k]=bk at *
   cases he:(ak.toList==bk.toList) with
   |true =>
    have hz:Cy ak bk=0:=Gp.2 (AL (by simpa using he))
    rw[hz,GA]at hRk
    refine Ac (j10 hla hlb hda hdb hr hg hrb hgb he hw) ?_
    refine⟨k+1,by omega,⟨by omega,by omega,hRk⟩,?_⟩
    exact Ab (Ah.of [] []) hw
   |false =>
    have hz:Cy ak bk≠0:=fun h=>by rw[Gp.1 h]at he;simp at he
    rw[Js hz]at hRk
    have hc:=Fg (Op.bytesLess ak.toList bk.toList) true
    rw[p9 he]at hc
    rw[hRk]
    generalize Cy ak bk=x at *
    refine Ac (j9 hla hlb hda hdb hr hg hrb hgb he) ?_
    refine v7 (A3 [] hc) q9 q9 ?_
    exact Aj (A5 []) Tryz.results389
  ·rw[Hu hk hk2 hlt]at hRk
   have hc:=Fg (decide ((a.length:Int)<(b.length:Int))) (decide ((a.length:Int)>(b.length:Int)))
   rw[Ze,←hRk]at hc
   cases hda:decide ((k:Int)<(a.length:Int))<;>cases hdb:decide ((k:Int)<(b.length:Int))
   case true.true=>exact absurd ⟨by simpa using hda,by simpa using hdb⟩ hlt
   all_goals
    refine Ac (j4 hla hlb hda hdb) ?_
    refine v7 (A3 [] hc) q9 q9 ?_
    exact Aj (A5 []) Tryz.results389
theorem Tz (a b:List V) (hl:a.length≤1000000) (hrec:∀x∈a,∀y∈b,AC Tryz.prog 342 [AB x.enc,AB y.enc] [] (.c (.int .i64 (x.cmp y))) []) :
  AC Tryz.prog 388 [.c (.sl ((a.map V.enc).map Ag)),.c (.sl ((b.map V.enc).map Ag))] [] (.c (.int .i64 (BD a b))) []:=by
 have hla:((a.map V.enc).map Ag).length=a.length:=by simp
 have hlb:((b.map V.enc).map Ag).length=b.length:=by simp
 obtain⟨R,hR⟩:∃R,R=BD a b:=⟨_,rfl⟩
 rw[←hR]
 refine A7 Tryz.func388 Tryz.ntmps388 q9 ?_
 refine Ar (κ:=Nat) (fun k=>⟨mkS 0 42 [(0,.c (.sl ((a.map V.enc).map Ag))),(1,.c (.sl ((b.map V.enc).map Ag))),(5,.c (.int .i64 k))],[]⟩)
  (fun k=>k≤a.length∧k≤b.length∧R=BD (a.drop k) (b.drop k)) (fun k=>a.length-k) 0 ⟨Nat.zero_le _,Nat.zero_le _,hR⟩ ?_ ?_
 ·exact Ab (Ah.of [] []) hla
 ·rintro k ⟨hk,hk2,hRk⟩
  by_cases hlt:k<a.length∧k<b.length
  ·have hda:decide ((k:Int)<(a.length:Int))=true:=by simpa using hlt.1
   have hdb:decide ((k:Int)<(b.length:Int))=true:=by simpa using hlt.2
   have hw:=Af (k:=k) (by omega)
   have hr:Aa ((a.map V.enc).map Ag) 1 k=true:=by simp[Aa,hlt.1,Ag]
   have hg:((a.map V.enc).map Ag)[k]? = some [.sl (a[k].enc.map CellD.cs)]:=by simp[hlt.1,Ag]
   have hrb:Aa ((b.map V.enc).map Ag) 1 k=true:=by simp[Aa,hlt.2,Ag]
   have hgb:((b.map V.enc).map Ag)[k]? = some [.sl (b[k].enc.map CellD.cs)]:=by simp[hlt.2,Ag]
   have hc:=hrec a[k] (List.getElem_mem hlt.1) b[k] (List.getElem_mem hlt.2)
   rw[M0 hlt.1 hlt.2]at hRk
   generalize a[k].cmp b[k]=x at *
   generalize a[k]=ak,b[k]=bk at *
   by_cases hx:x=0
   ·subst hx
    rw[GA]at hRk
    have h00:((0:Int) != 0)=false:=rfl
    refine Ac (j8 hla hlb hda hdb hr hg hrb hgb) ?_
    refine v7 (A3 [] hc) q9 (j2 h00 hw) ?_
    refine⟨k+1,by omega,⟨by omega,by omega,hRk⟩,?_⟩
    exact Ab (Ah.of [] []) hw
   ·rw[Js hx]at hRk
    have hb:(x != 0)=true:=by simpa using hx
    rw[hRk]
    refine Ac (j8 hla hlb hda hdb hr hg hrb hgb) ?_
    refine v7 (A3 [] hc) q9 hb ?_
    exact Aj (A5 []) Tryz.results388
  ·rw[Od hk hk2 hlt]at hRk
   have hc:=Fg (decide ((a.length:Int)<(b.length:Int))) (decide ((a.length:Int)>(b.length:Int)))
   rw[Ze,←hRk]at hc
   cases hda:decide ((k:Int)<(a.length:Int))<;>cases hdb:decide ((k:Int)<(b.length:Int))
   case true.true=>exact absurd ⟨by simpa using hda,by simpa using hdb⟩ hlt
   all_goals
    refine Ac (j4 hla hlb hda hdb) ?_
    refine v7 (A3 [] hc) q9 q9 ?_
    exact Aj (A5 []) Tryz.results388
theorem H0:∀(m:Nat) (a b:V),a.count≤m→a.right→b.right→AC Tryz.prog 342 [AB a.enc,AB b.enc] [] (.c (.int .i64 (a.cmp b))) []:=by
 intro m
 induction m with
 |zero=>intro a _ hm _ _;have:=Cq a;omega
 |succ m ih =>
  intro a b hm ha hb
  have hkl:=BV ha.2.1
  have hck:=AN a
  have hrec:∀x∈a.kids,∀y∈b.kids,AC Tryz.prog 342 [AB x.enc,AB y.enc] [] (.c (.int .i64 (x.cmp y))) []:=fun x hx y hy=>ih x y (by have:=Ct hx;omega) (Bf ha hx) (Bf hb hy)
  have hra:Aa (a.enc.map CellD.cs) 5 0=true:=by unfold Aa;rw[show (0:Int).toNat=0 from rfl,AJ];rfl
  have hga:=AJ a
  have hrb:Aa (b.enc.map CellD.cs) 5 0=true:=by unfold Aa;rw[show (0:Int).toNat=0 from rfl,AJ];rfl
  have hgb:=AJ b
  by_cases hk:a.kind=b.kind
  ·have hne:(a.kind != b.kind)=false:=by simpa using hk
   by_cases h3:a.kind=3
   ·have hs:=Fg (decide (a.num<b.num)) (decide (a.num>b.num))
    rw[Ze]at hs
    rw[SU ha.1 hb.1 hk h3]
    have h3b:(a.kind==3)=true:=by simpa using h3
    refine A7 Tryz.func342 Tryz.ntmps342 (j6 hra hga hrb hgb hne h3b) ?_
    refine v7 (A3 [] hs) q9 q9 ?_
    exact Aj (A5 []) Tryz.results342
   have h3b:(a.kind==3)=false:=by simpa using h3
   by_cases h4:a.kind=4
   ·have hs:=Fg (Op.bytesLess a.text.toList b.text.toList) (!(Op.bytesLess a.text.toList b.text.toList||a.text.toList==b.text.toList))
    rw[a1v]at hs
    rw[XV ha.1 hb.1 hk h4]
    have h4b:(a.kind==4)=true:=by simpa using h4
    refine A7 Tryz.func342 Tryz.ntmps342 (j7 hra hga hrb hgb hne h3b h4b) ?_
    refine v7 (A3 [] hs) q9 q9 ?_
    exact Aj (A5 []) Tryz.results342
   have h4b:(a.kind==4)=false:=by simpa using h4
   have hpa:=CE ha.1 ha.2.1
   have hpb:=CE hb.1 hb.2.1
   have hli:=Tz a.kids b.kids (by omega) hrec
   by_cases h5:a.kind=5
   ·rw[VS ha.1 hb.1 hk h5]
    have h5b:(a.kind==5)=true:=by simpa using h5
    refine A7 Tryz.func342 Tryz.ntmps342 (j8 hra hga hrb hgb hne h3b h4b h5b) ?_
    refine v9 (A4 [] hpa) q9 q9 ?_
    refine v9 (A4 [] hpb) q9 q9 ?_
    refine v7 (A3 [] hli) q9 q9 ?_
    exact Aj (A5 []) Tryz.results342
   have h5b:(a.kind==5)=false:=by simpa using h5
   by_cases h6:a.kind=6
   ·have h6b:(a.kind==6)=true:=by simpa using h6
    have hka:=Ff ha.1 ha.2.1
    have hkb:=Ff hb.1 hb.2.1
    have e1:Bw a a.kids.length=a.keys:=Et ha h6
    have e2:Bw b b.kids.length=b.keys:=Et hb (by omega)
    rw[e1]at hka
    rw[e2]at hkb
    have hkk:=NP a.keys b.keys (by rw[(DC ha h6).2.2];omega)
    rw[SV ha.1 hb.1 hk h6]
    by_cases hz:AF a.keys b.keys=0
    ·rw[hz]at hkk ⊢
     rw[GA]
     have h00:((0:Int) != 0)=false:=rfl
     refine A7 Tryz.func342 Tryz.ntmps342 (j9 hra hga hrb hgb hne h3b h4b h5b h6b) ?_
     refine v9 (A4 [] hka) q9 q9 ?_
     refine v9 (A4 [] hkb) q9 q9 ?_
     refine v7 (A3 [] hkk) q9 h00 ?_
     refine v9 (A4 [] hpa) q9 q9 ?_
     refine v9 (A4 [] hpb) q9 q9 ?_
     refine v7 (A3 [] hli) q9 q9 ?_
     exact Aj (A5 []) Tryz.results342
    ·rw[Js hz]
     have hb1:(AF a.keys b.keys != 0)=true:=by simpa using hz
     refine A7 Tryz.func342 Tryz.ntmps342 (j9 hra hga hrb hgb hne h3b h4b h5b h6b) ?_
     refine v9 (A4 [] hka) q9 q9 ?_
     refine v9 (A4 [] hkb) q9 q9 ?_
     refine v7 (A3 [] hkk) q9 hb1 ?_
     exact Aj (A5 []) Tryz.results342
   have h6b:(a.kind==6)=false:=by simpa using h6
   rw[VT ha.1 hb.1 hk h3 h4 h5 h6]
   refine A7 Tryz.func342 Tryz.ntmps342 (j9 hra hga hrb hgb hne h3b h4b h5b h6b) ?_
   exact Aj (A5 []) Tryz.results342
  ·have hne:(a.kind != b.kind)=true:=by simpa using hk
   have hs:=Fg (decide (a.kind<b.kind)) true
   rw[a1m hk]at hs
   have hR:a.cmp b=C0 a.kind b.kind:=by rw[Fu,if_neg hk]
   rw[hR]
   refine A7 Tryz.func342 Tryz.ntmps342 (j5 hra hga hrb hgb hne) ?_
   refine v7 (A3 [] hs) q9 q9 ?_
   exact Aj (A5 []) Tryz.results342
def JE (x y:List CellD):Int:=if (dec x).1=0 then (dec y).1 else (dec x).1
theorem Wq (x y:List CellD):AC Tryz.prog 348 [AB x,AB y] [] (.c (.int .i64 (JE x y))) []:=by
 have h1:=HL x
 have h2:=HL y
 unfold JE
 by_cases h:(dec x).1=0
 ·rw[if_pos h]
  rw[h]at h1
  have h00:((0:Int) != 0)=false:=rfl
  refine A7 Tryz.func348 Tryz.ntmps348 q9 ?_
  refine v7 (A3 [] h1) q9 h00 ?_
  refine v7 (A3 [] h2) q9 q9 ?_
  exact Aj (A5 []) Tryz.results348
 ·rw[if_neg h]
  have hb:((dec x).1 != 0)=true:=by simpa using h
  refine A7 Tryz.func348 Tryz.ntmps348 q9 ?_
  refine v7 (A3 [] h1) q9 hb ?_
  exact Aj (A5 []) Tryz.results348
set_option maxRecDepth 10000
theorem Wp (xs:List CellD) (h:(dec xs).1=0):AC Tryz.prog 301 [AB xs] [] (.agg [.c (.int .i64 0),AB xs]) []:=by
 have hf:=HL xs
 rw[h]at hf
 have h00:((0:Int) != 0)=false:=rfl
 refine A7 Tryz.func301 Tryz.ntmps301 q9 ?_
 refine v7 (A3 [] hf) q9 h00 ?_
 exact Aj (A5 []) Tryz.results301
theorem TA (xs:List CellD) (h:(dec xs).1≠0):AC Tryz.prog 301 [AB xs] [] (.agg [.c (.int .i64 (dec xs).1),.c (.sl [])]) []:=by
 have hf:=HL xs
 have hb:((dec xs).1 != 0)=true:=by simpa using h
 refine A7 Tryz.func301 Tryz.ntmps301 q9 ?_
 refine v7 (A3 [] hf) q9 hb ?_
 exact Aj (A5 []) Tryz.results301
theorem DV (t:V):AC Tryz.prog 301 [AB t.enc] [] (vrA (CM t)) []:=by
 unfold CM
 split
 ·rename_i h
  exact Wp t.enc h
 ·rename_i h
  exact TA t.enc h
theorem Ci (t:V):Aa (t.enc.map CellD.cs) 5 0=true:=by unfold Aa;rw[show (0:Int).toNat=0 from rfl,AJ];rfl
theorem TG:AC Tryz.prog 223 [] [] (.c (.sl (BG.enc.map CellD.cs))) []:=by
 have h:=Fi
 exact wAS (AC.says [] [(0,0)] h) q9
set_option maxRecDepth 10000
theorem Dn (ps:List V) (hc:(B4 ps).count≤500000):AC Tryz.prog 247 [.c (.sl ((ps.map V.enc).map Ag))] [] (.c (.sl ((B4 ps).enc.map CellD.cs))) []:=by
 have h:=MF ps hc
 exact wAS (AC.says [] [(0,0)] h) q9
theorem Wn {t:V}(hw:t.wf) (hc:t.count≤200) (i:Nat) (hi:i<t.kids.length):AC Tryz.prog 353 [AB t.enc,.c (.int .i64 ((kp t.kids i:Nat):Int))] [] (.c (.sl (t.kids[i].enc.map CellD.cs))) []:=by
 refine AC.of_calls fun S w κ vs hv=>?_
 obtain⟨v,vs',rfl,h1,v2,vs2,rfl,h2,rfl⟩:=hv
 obtain⟨rfl,_⟩:=h2
 obtain⟨A,cap,rfl,hcap,hcs⟩:=Cz.1 h1
 refine (MJ t hw hc i hi A cap hcap S w hcs).mono ?_
 rintro e w' ⟨⟨A',c',rfl,hc',hr⟩,hb⟩
 exact⟨hb,_,rfl,fun T _ hT=>Cz.2 ⟨A',c',rfl,hc',hr.weaken fun b hb _=>hT b hb⟩⟩
theorem La {t:V}(hw:t.wf) (hc:t.count≤200):AC Tryz.prog 302 [AB t.enc] [] (.own (0,0)) [((0,0),.row false 1 50 ((t.kids.map V.enc).map Ag))]:=by
 have hkl:=BV hc
 have hkn:=DA t t.kids.length
 have hch:=Ge hw hc
 refine A7 Tryz.func302 Tryz.ntmps302 q9 ?_
 refine v9 (A4 [] hch) q9 q9 ?_
 refine Ar (κ:=Nat) (fun k=>⟨mkS 0 25 [(0,AB t.enc),(3,.own (3,0)),(4,.c (.sl ((Ck t t.kids.length).map Aw))),(5,.c (.int .i64 k))],
   [((3,0),.row false 1 50 (((t.kids.take k).map V.enc).map Ag))]⟩)
  (fun k=>k≤t.kids.length) (fun k=>t.kids.length-k) 0 (Nat.zero_le _) ?_ ?_
 ·exact Ab (Ah.of [((3,0),(6,0))] []) hkl
 ·intro k hk
  by_cases hlt:k<t.kids.length
  ·have hd:decide ((k:Int)<(t.kids.length:Int))=true:=by simpa using hlt
   have hw1:=Af (k:=k) (by omega)
   have h1:(((t.kids.take k).map V.enc).map Ag).length+1≤1000000:=by simp;omega
   have hr1:Aa ((Ck t t.kids.length).map Aw) 1 k=true:=by simp[Aa,Ck,hlt,Aw]
   have hg1:((Ck t t.kids.length).map Aw)[k]? = some [.int .i64 ((kp t.kids k:Nat):Int)]:=by simp[Ck,hlt,Aw]
   have hp:=Wn hw hc k hlt
   have hn:((t.kids.take k).map V.enc).map Ag++[[.sl (t.kids[k].enc.map CellD.cs)]]=((t.kids.take (k+1)).map V.enc).map Ag:=by rw[List.take_succ_eq_append_getElem hlt,List.map_append,List.map_append];rfl
   generalize hR:((t.kids.take k).map V.enc).map Ag=R at *
   generalize hR2:((t.kids.take (k+1)).map V.enc).map Ag=R2 at *
   generalize t.kids[k]=u at *
   refine Ac (j4 hd hkn hr1 hg1) ?_
   refine v9 (A4 [] hp) q9 (j2 h1 hw1) ?_
   refine⟨k+1,by omega,by omega,?_⟩
   exact Ab (Ah.of [((3,0),(23,0))] []) (j2 hn hR2)
  ·have hd:decide ((k:Int)<(t.kids.length:Int))=false:=by simpa using hlt
   have hke:t.kids.take k=t.kids:=List.take_of_length_le (by omega)
   refine Ac (j2 hkn hd) ?_
   exact A9 (A8 [((0,0),(3,0))] []) Tryz.results302 hke
set_option maxRecDepth 10000
theorem MI {t:V}(hw:t.wf) (hc:t.count≤200):AC Tryz.prog 349 [AB t.enc] [] (.own (0,0)) [((0,0),.row false 1 9 ((Bw t t.kids.length).map Ad))]:=by
 have hkl:=BV hc
 have hkn:=DA t t.kids.length
 have hch:=Ge hw hc
 refine A7 Tryz.func349 Tryz.ntmps349 q9 ?_
 refine v9 (A4 [] hch) q9 q9 ?_
 refine Ar (κ:=Nat) (fun k=>⟨mkS 0 27 [(0,AB t.enc),(3,.own (3,0)),(4,.c (.sl ((Ck t t.kids.length).map Aw))),(5,.c (.int .i64 k))],
   [((3,0),.row false 1 9 ((Bw t k).map Ad))]⟩)
  (fun k=>k≤t.kids.length) (fun k=>t.kids.length-k) 0 (Nat.zero_le _) ?_ ?_
 ·(apply (Ah.of [((3,0),(6,0))] []);(iterate 2 ((focus (simp only[go_sem,Nat.reduceEqDiff,Nat.reduceAdd,Nat.reduceSub,Nat.reduceLeDiff,Nat.reduceMul,Nat.reduceBEq,Nat.reduceLT,Int.reduceToNat,reduceCtorEq,Bw];try (and_intros<;>rfl)));(focus exact rfl)));(iterate 4 (focus (simp[go_sem,Bw];done))))
 ·intro k hk
  by_cases hlt:k<t.kids.length
  ·have hd:decide ((k:Int)<(t.kids.length:Int))=true:=by simpa using hlt
   have hw1:=Af (k:=k) (by omega)
   have h1:(Bw t k).length+1≤1000000:=by rw[GZ];omega
   have hr1:Aa ((Ck t t.kids.length).map Aw) 1 k=true:=by simp[Aa,Ck,hlt,Aw]
   have hg1:((Ck t t.kids.length).map Aw)[k]? = some [.int .i64 ((kp t.kids k:Nat):Int)]:=by simp[Ck,hlt,Aw]
   have hg2:=Mm t hlt
   have hr2:Aa (t.enc.map CellD.cs) 5 ((kp t.kids k:Nat):Int)=true:=by unfold Aa;rw[Int.toNat_natCast,hg2];simp
   have hn:(Bw t k).map Ad++[[.str (t.keyAt k)]]=(Bw t (k+1)).map Ad:=by rw[L7,List.map_append];rfl
   refine Ac (j8 hd hkn hr1 hg1 hr2 hg2 h1 hw1) ?_
   refine⟨k+1,by omega,by omega,?_⟩
   exact Ab (Ah.of [((3,0),(25,0))] []) hn
  ·have hd:decide ((k:Int)<(t.kids.length:Int))=false:=by simpa using hlt
   have hke:k=t.kids.length:=by omega
   refine Ac (j2 hkn hd) ?_
   subst hke
   exact A9 (A8 [((0,0),(3,0))] []) Tryz.results349 hd
theorem Wo (s:ByteArray):AC Tryz.prog 160 [.c (.str s)] [] (.c (.bool (Br s))) []:=by
 refine AC.of_calls fun S w κ vs hv=>?_
 obtain⟨v,vs',rfl,⟨rfl,_⟩,rfl⟩:=hv
 refine (MK s w).mono ?_
 rintro e w' ⟨rfl,rfl⟩
 exact⟨Below.refl _ _,_,rfl,fun T _ _=>⟨rfl,rfl⟩⟩
theorem NX {v x:V}(h:v.right) (hx:x.right) (key:ByteArray) (hk:Br key=true):AC Tryz.prog 289 [AB v.enc,.c (.str key),AB x.enc] [] (vrA (G8 v key x)) []:=by
 have hv:=Wq v.enc x.enc
 have hb0:JE v.enc x.enc=0:=by unfold JE;rw[Ix h,Ix hx];rfl
 rw[hb0]at hv
 have h00:((0:Int) != 0)=false:=rfl
 have ht:=Wo key
 rw[hk]at ht
 have hr0:=Ci v
 have hg0:=AJ v
 unfold G8
 by_cases h6:v.kind=0∨v.kind=6
 ·rw[if_pos h6]
  obtain⟨hc1,hc2⟩:=Qr h hx key h6
  have hobj:=L9 (v.keys++[key]) (v.kids++[x]) (by rw[List.length_append,List.length_append,GC h h6];rfl) (by omega)
  have htold:=DV (Ht (v.keys++[key]) (v.kids++[x]))
  generalize Ht (v.keys++[key]) (v.kids++[x])=ob at *
  generalize CM ob=r at *
  rcases h6 with hz | h6
  ·have hbz:(v.kind==0)=true:=by simpa using hz
   rw[(G6 h hz).1,(G6 h hz).2]at hobj
   simp only[List.nil_append,List.map_cons,List.map_nil,Ad,Ag]at hobj
   rcases r with⟨c,_ | u⟩
   all_goals
    simp only[Bp,Bj]at htold ⊢
    refine A7 Tryz.func289 Tryz.ntmps289 q9 ?_
    refine v7 (A3 [] hv) q9 h00 ?_
    refine v7 (A3 [] ht) q9 (j3 hr0 hg0 hbz) ?_
    refine w12 (BS [(26,0),(28,0)] hobj) q9 ?_
    refine v9 (A4 [(29,0)] htold) q9 q9 ?_
    exact Aj (A5 []) Tryz.results289
  ·have hbz:(v.kind==0)=false:=by simp[h6]
   have hb6:(v.kind==6)=true:=by simpa using h6
   have hkO:=MI h.1 h.2.1
   rw[show Bw v v.kids.length=v.keys from Et h h6]at hkO
   have hpO:=La h.1 h.2.1
   have hkl:=Da h
   have hl1:v.keys.length+1≤1000000:=by omega
   have hl2:v.kids.length+1≤1000000:=by omega
   obtain⟨K,hK⟩:∃K,v.keys++[key]=K:=⟨_,rfl⟩
   obtain⟨L,hL⟩:∃L,v.kids++[x]=L:=⟨_,rfl⟩
   have e1:v.keys.map Ad++[[C.str key]]=K.map Ad:=by rw[←hK,List.map_append];rfl
   have e2:(v.kids.map V.enc).map Ag++[[C.sl (x.enc.map CellD.cs)]]=(L.map V.enc).map Ag:=by rw[←hL,List.map_append,List.map_append];rfl
   rw[hK,hL]at hobj
   rcases r with⟨c,_ | u⟩
   all_goals
    simp only[Bp,Bj]at htold ⊢
    refine A7 Tryz.func289 Tryz.ntmps289 q9 ?_
    refine v7 (A3 [] hv) q9 h00 ?_
    refine v7 (A3 [] ht) q9 (j4 hr0 hg0 hbz hb6) ?_
    refine v12 (AU [] hkO) q9 (j2 hl1 e1) ?_
    refine v12 (AU [] hpO) q9 (j2 hl2 e2) ?_
    refine w12 (BS [(37,0),(42,0)] hobj) (j2 e1 e2) ?_
    refine v9 (A4 [(43,0)] htold) q9 q9 ?_
    exact Aj (A5 []) Tryz.results289
 ·rw[if_neg h6]
  have hbz:(v.kind==0)=false:=by simp;omega
  have hb6:(v.kind==6)=false:=by simp;omega
  rw[Dj]
  refine A7 Tryz.func289 Tryz.ntmps289 q9 ?_
  refine v7 (A3 [] hv) q9 h00 ?_
  refine v7 (A3 [] ht) q9 (j4 hr0 hg0 hbz hb6) ?_
  refine v7 (A3 [] (C6 6)) q9 q9 ?_
  exact Aj (A5 []) Tryz.results289
set_option maxRecDepth 10000
theorem B7 {r:Int×Option V}(h:CH r):(∃v,r=(0,some v)∧v.right)∨∃c,c≠0∧r=(c,none):=by
 obtain⟨c,o⟩:=r
 cases o with
 |none=>exact .inr ⟨c,h,rfl⟩
 |some v=>exact .inl ⟨v,by rw[show c=0 from h.1],h.2⟩
end Go.Proofs.YtcejfdfmgmcinaaGreat
