/- Texts of this proof: G80 M29 G86 G45 G55 G34 G56 G87. -/
import Derived.Test.YtcejfdfmgmcinaaGreatKG49uG9
import Derived.Deep.RegionLaw
import Derived.Shelf.RegionOpenPlain
set_option linter.all false
set_option maxHeartbeats 8000000
namespace Go.Proofs.YtcejfdfmgmcinaaGreat
open Go.RowKit
set_option maxRecDepth 10000
theorem Bf {x:Int}{n:Nat}(h:x=(n:Int)) (hn:n<9000000000000000000):IntKind.i64.wrap x=(n:Int):=by
 rw[IntWalk.i64_in _ (by omega)];exact h
def a06 (q:V):Prop:=q.right∧q.count=1∧q.depth=1∧(q.kind=3∨q.kind=4)
theorem X6 {q:V}(h:a3q q):a06 q:=by
 obtain⟨h1,h2,h3⟩:=Tx h
 refine⟨h1,h2,h3,?_⟩
 rcases h with⟨s,rfl,_⟩ | ⟨n,rfl,_⟩
 ·exact .inr rfl
 ·exact .inl rfl
theorem OE {s:ByteArray}(h:Bi s=true):(D9 s).right:=by
 refine I6 ?_ (by decide)
 unfold AS
 have h2:inB 0 (-1000000000000000) 1000000000000000=true:=by decide
 simp[cF,cR,cT,BA,CG,h2,inB,h]
theorem Pz:∀{l:List V},(∀q∈l,a06 q)→Aw l=l.length∧AW l≤1∧wfL l
 | [],_=>⟨rfl,Nat.zero_le _,trivial⟩
 |q::l,h=>by
  obtain⟨h1,h2,h3⟩:=Pz (l:=l) fun x hx=>h x (by simp[hx])
  obtain⟨h4,h5,h6,_⟩:=h q (by simp)
  exact⟨by simp only[Aw,List.length_cons];omega,by simp only[AW];omega,h4.1,h3⟩
set_option maxRecDepth 10000
theorem YU {L:List V}{i:Nat}(h:i<L.length):A8 ((L.map V.enc).map Al) 1 ((i:Nat):Int)=true∧((L.map V.enc).map Al)[i]? = some [.sl (L[i].enc.map CellD.cs)]:=⟨by simp[A8,h,Al],by simp[h,Al]⟩
set_option maxRecDepth 10000
def sgn (x y:Bool):Int:=bif x then -1 else bif y then 1 else 0
theorem FX (x y:Bool):AC Tryz.prog 387 [.c (.bool x),.c (.bool y)] [] (.c (.int .i64 (sgn x y))) []:=by
 cases x<;>cases y
 all_goals
  refine A6 Tryz.func387 Tryz.ntmps387 q9 ?_
  exact A5 [] (by simp only[Tryz.results387,go_sem,Nat.reduceBEq,Nat.reduceLT];exact rfl) (by simp only[go_sem,Nat.reduceEqDiff,Nat.reduceAdd,Nat.reduceSub,Nat.reduceLeDiff,Nat.reduceMul,Nat.reduceBEq,Nat.reduceLT,Int.reduceToNat,reduceCtorEq,sgn]) rfl
theorem a07 (a b:Int):sgn (decide (a<b)) (decide (a>b))=Cc a b:=by
 unfold sgn Cc
 by_cases h1:a<b
 ·simp[h1]
 ·by_cases h2:b<a
  ·simp[h1,h2]
  ·simp[h1,h2]
theorem a5i {a b:Int}(h:a≠b):sgn (decide (a<b)) true=Cc a b:=by
 unfold sgn Cc
 by_cases h1:a<b
 ·simp[h1]
 ·rw[if_neg h1,if_pos (by omega)]
  simp[h1]
theorem a5q (a b:ByteArray):sgn (Op.bytesLess a.toList b.toList) (!(Op.bytesLess a.toList b.toList||a.toList==b.toList))=CW a b:=by
 unfold sgn CW AZ
 cases Op.bytesLess a.toList b.toList<;>cases (a.toList==b.toList)<;>rfl
theorem a3a {a b:ByteArray}(h:(a.toList==b.toList)=false):sgn (Op.bytesLess a.toList b.toList) true=CW a b:=by
 unfold sgn CW AZ
 rw[h]
 cases Op.bytesLess a.toList b.toList<;>rfl
theorem P1 (a b:List ByteArray) (hl:a.length≤1000000):AC Tryz.prog 389 [.c (.sl (a.map Ae)),.c (.sl (b.map Ae))] [] (.c (.int .i64 (AI a b))) []:=by
 have hla:(a.map Ae).length=a.length:=by simp
 have hlb:(b.map Ae).length=b.length:=by simp
 obtain⟨R,hR⟩:∃R,R=AI a b:=⟨_,rfl⟩
 rw[←hR]
 refine A6 Tryz.func389 Tryz.ntmps389 q9 ?_
 refine Ar (κ:=Nat) (fun k=>⟨mkS 0 48 [(0,.c (.sl (a.map Ae))),(1,.c (.sl (b.map Ae))),(5,.c (.int .i64 k))],[]⟩)
  (fun k=>k≤a.length∧k≤b.length∧R=AI (a.drop k) (b.drop k)) (fun k=>a.length-k) 0 ⟨Nat.zero_le _,Nat.zero_le _,hR⟩ ?_ ?_
 ·exact Ac (Aj.of [] []) hla
 ·rintro k ⟨hk,hk2,hRk⟩
  by_cases hlt:k<a.length∧k<b.length
  ·have hda:decide ((k:Int)<(a.length:Int))=true:=by simpa using hlt.1
   have hdb:decide ((k:Int)<(b.length:Int))=true:=by simpa using hlt.2
   have hw:=Ad (k:=k) (by omega)
   have hr:A8 (a.map Ae) 1 k=true:=by simp[A8,hlt.1,Ae]
   have hg:(a.map Ae)[k]? = some [.str a[k]]:=by simp[hlt.1,Ae]
   have hrb:A8 (b.map Ae) 1 k=true:=by simp[A8,hlt.2,Ae]
   have hgb:(b.map Ae)[k]? = some [.str b[k]]:=by simp[hlt.2,Ae]
   rw[KF hlt.1 hlt.2]at hRk
   generalize a[k]=ak,b[k]=bk at *
   cases he:(ak.toList==bk.toList) with
   |true =>
    have hz:CW ak bk=0:=H0.2 (AM (by simpa using he))
    rw[hz,Hf]at hRk
    refine Ab (j10 hla hlb hda hdb hr hg hrb hgb he hw) ?_
    refine⟨k+1,by omega,⟨by omega,by omega,hRk⟩,?_⟩
    exact Ac (Aj.of [] []) hw
   |false =>
    have hz:CW ak bk≠0:=fun h=>by rw[H0.1 h]at he;simp at he
    rw[Ko hz]at hRk
    have hc:=FX (Op.bytesLess ak.toList bk.toList) true
    rw[a3a he]at hc
    rw[hRk]
    generalize CW ak bk=x at *
    refine Ab (j9 hla hlb hda hdb hr hg hrb hgb he) ?_
    refine v7 (A3 [] hc) q9 q9 ?_
    exact Ag (A5 []) Tryz.results389
  ·rw[IA hk hk2 hlt]at hRk
   have hc:=FX (decide ((a.length:Int)<(b.length:Int))) (decide ((a.length:Int)>(b.length:Int)))
   rw[a07,←hRk]at hc
   cases hda:decide ((k:Int)<(a.length:Int))<;>cases hdb:decide ((k:Int)<(b.length:Int))
   case true.true=>exact absurd ⟨by simpa using hda,by simpa using hdb⟩ hlt
   all_goals
    refine Ab (j4 hla hlb hda hdb) ?_
    refine v7 (A3 [] hc) q9 q9 ?_
    exact Ag (A5 []) Tryz.results389
theorem Va (a b:List V) (hl:a.length≤1000000) (hrec:∀x∈a,∀y∈b,AC Tryz.prog 342 [AF x.enc,AF y.enc] [] (.c (.int .i64 (x.cmp y))) []) :
  AC Tryz.prog 388 [.c (.sl ((a.map V.enc).map Al)),.c (.sl ((b.map V.enc).map Al))] [] (.c (.int .i64 (BQ a b))) []:=by
 have hla:((a.map V.enc).map Al).length=a.length:=by simp
 have hlb:((b.map V.enc).map Al).length=b.length:=by simp
 obtain⟨R,hR⟩:∃R,R=BQ a b:=⟨_,rfl⟩
 rw[←hR]
 refine A6 Tryz.func388 Tryz.ntmps388 q9 ?_
 refine Ar (κ:=Nat) (fun k=>⟨mkS 0 42 [(0,.c (.sl ((a.map V.enc).map Al))),(1,.c (.sl ((b.map V.enc).map Al))),(5,.c (.int .i64 k))],[]⟩)
  (fun k=>k≤a.length∧k≤b.length∧R=BQ (a.drop k) (b.drop k)) (fun k=>a.length-k) 0 ⟨Nat.zero_le _,Nat.zero_le _,hR⟩ ?_ ?_
 ·exact Ac (Aj.of [] []) hla
 ·rintro k ⟨hk,hk2,hRk⟩
  by_cases hlt:k<a.length∧k<b.length
  ·have hda:decide ((k:Int)<(a.length:Int))=true:=by simpa using hlt.1
   have hdb:decide ((k:Int)<(b.length:Int))=true:=by simpa using hlt.2
   have hw:=Ad (k:=k) (by omega)
   have hr:A8 ((a.map V.enc).map Al) 1 k=true:=by simp[A8,hlt.1,Al]
   have hg:((a.map V.enc).map Al)[k]? = some [.sl (a[k].enc.map CellD.cs)]:=by simp[hlt.1,Al]
   have hrb:A8 ((b.map V.enc).map Al) 1 k=true:=by simp[A8,hlt.2,Al]
   have hgb:((b.map V.enc).map Al)[k]? = some [.sl (b[k].enc.map CellD.cs)]:=by simp[hlt.2,Al]
   have hc:=hrec a[k] (List.getElem_mem hlt.1) b[k] (List.getElem_mem hlt.2)
   rw[Nc hlt.1 hlt.2]at hRk
   generalize a[k].cmp b[k]=x at *
   generalize a[k]=ak,b[k]=bk at *
   by_cases hx:x=0
   ·subst hx
    rw[Hf]at hRk
    have h00:((0:Int) != 0)=false:=rfl
    refine Ab (j8 hla hlb hda hdb hr hg hrb hgb) ?_
    refine v7 (A3 [] hc) q9 (j2 h00 hw) ?_
    refine⟨k+1,by omega,⟨by omega,by omega,hRk⟩,?_⟩
    exact Ac (Aj.of [] []) hw
   ·rw[Ko hx]at hRk
    have hb:(x != 0)=true:=by simpa using hx
    rw[hRk]
    refine Ab (j8 hla hlb hda hdb hr hg hrb hgb) ?_
    refine v7 (A3 [] hc) q9 hb ?_
    exact Ag (A5 []) Tryz.results388
  ·rw[Px hk hk2 hlt]at hRk
   have hc:=FX (decide ((a.length:Int)<(b.length:Int))) (decide ((a.length:Int)>(b.length:Int)))
   rw[a07,←hRk]at hc
   cases hda:decide ((k:Int)<(a.length:Int))<;>cases hdb:decide ((k:Int)<(b.length:Int))
   case true.true=>exact absurd ⟨by simpa using hda,by simpa using hdb⟩ hlt
   all_goals
    refine Ab (j4 hla hlb hda hdb) ?_
    refine v7 (A3 [] hc) q9 q9 ?_
    exact Ag (A5 []) Tryz.results388
theorem I3:∀(m:Nat) (a b:V),a.count≤m→a.right→b.right→AC Tryz.prog 342 [AF a.enc,AF b.enc] [] (.c (.int .i64 (a.cmp b))) []:=by
 intro m
 induction m with
 |zero=>intro a _ hm _ _;have:=CI a;omega
 |succ m ih =>
  intro a b hm ha hb
  have hkl:=BH ha.2.1
  have hck:=AP a
  have hrec:∀x∈a.kids,∀y∈b.kids,AC Tryz.prog 342 [AF x.enc,AF y.enc] [] (.c (.int .i64 (x.cmp y))) []:=fun x hx y hy=>ih x y (by have:=CL hx;omega) (Bb ha hx) (Bb hb hy)
  have hra:A8 (a.enc.map CellD.cs) 5 0=true:=by unfold A8;rw[show (0:Int).toNat=0 from rfl,AL];rfl
  have hga:=AL a
  have hrb:A8 (b.enc.map CellD.cs) 5 0=true:=by unfold A8;rw[show (0:Int).toNat=0 from rfl,AL];rfl
  have hgb:=AL b
  by_cases hk:a.kind=b.kind
  ·have hne:(a.kind != b.kind)=false:=by simpa using hk
   by_cases h3:a.kind=3
   ·have hs:=FX (decide (a.num<b.num)) (decide (a.num>b.num))
    rw[a07]at hs
    rw[Uu ha.1 hb.1 hk h3]
    have h3b:(a.kind==3)=true:=by simpa using h3
    refine A6 Tryz.func342 Tryz.ntmps342 (j6 hra hga hrb hgb hne h3b) ?_
    refine v7 (A3 [] hs) q9 q9 ?_
    exact Ag (A5 []) Tryz.results342
   have h3b:(a.kind==3)=false:=by simpa using h3
   by_cases h4:a.kind=4
   ·have hs:=FX (Op.bytesLess a.text.toList b.text.toList) (!(Op.bytesLess a.text.toList b.text.toList||a.text.toList==b.text.toList))
    rw[a5q]at hs
    rw[ZI ha.1 hb.1 hk h4]
    have h4b:(a.kind==4)=true:=by simpa using h4
    refine A6 Tryz.func342 Tryz.ntmps342 (j7 hra hga hrb hgb hne h3b h4b) ?_
    refine v7 (A3 [] hs) q9 q9 ?_
    exact Ag (A5 []) Tryz.results342
   have h4b:(a.kind==4)=false:=by simpa using h4
   have hpa:=D6 ha.1 ha.2.1
   have hpb:=D6 hb.1 hb.2.1
   have hli:=Va a.kids b.kids (by omega) hrec
   by_cases h5:a.kind=5
   ·rw[Xu ha.1 hb.1 hk h5]
    have h5b:(a.kind==5)=true:=by simpa using h5
    refine A6 Tryz.func342 Tryz.ntmps342 (j8 hra hga hrb hgb hne h3b h4b h5b) ?_
    refine v9 (A4 [] hpa) q9 q9 ?_
    refine v9 (A4 [] hpb) q9 q9 ?_
    refine v7 (A3 [] hli) q9 q9 ?_
    exact Ag (A5 []) Tryz.results342
   have h5b:(a.kind==5)=false:=by simpa using h5
   by_cases h6:a.kind=6
   ·have h6b:(a.kind==6)=true:=by simpa using h6
    have hka:=FW ha.1 ha.2.1
    have hkb:=FW hb.1 hb.2.1
    have e1:BK a a.kids.length=a.keys:=F5 ha h6
    have e2:BK b b.kids.length=b.keys:=F5 hb (by omega)
    rw[e1]at hka
    rw[e2]at hkb
    have hkk:=P1 a.keys b.keys (by rw[(DI ha h6).2.2];omega)
    rw[Uv ha.1 hb.1 hk h6]
    by_cases hz:AI a.keys b.keys=0
    ·rw[hz]at hkk ⊢
     rw[Hf]
     have h00:((0:Int) != 0)=false:=rfl
     refine A6 Tryz.func342 Tryz.ntmps342 (j9 hra hga hrb hgb hne h3b h4b h5b h6b) ?_
     refine v9 (A4 [] hka) q9 q9 ?_
     refine v9 (A4 [] hkb) q9 q9 ?_
     refine v7 (A3 [] hkk) q9 h00 ?_
     refine v9 (A4 [] hpa) q9 q9 ?_
     refine v9 (A4 [] hpb) q9 q9 ?_
     refine v7 (A3 [] hli) q9 q9 ?_
     exact Ag (A5 []) Tryz.results342
    ·rw[Ko hz]
     have hb1:(AI a.keys b.keys != 0)=true:=by simpa using hz
     refine A6 Tryz.func342 Tryz.ntmps342 (j9 hra hga hrb hgb hne h3b h4b h5b h6b) ?_
     refine v9 (A4 [] hka) q9 q9 ?_
     refine v9 (A4 [] hkb) q9 q9 ?_
     refine v7 (A3 [] hkk) q9 hb1 ?_
     exact Ag (A5 []) Tryz.results342
   have h6b:(a.kind==6)=false:=by simpa using h6
   rw[Xv ha.1 hb.1 hk h3 h4 h5 h6]
   refine A6 Tryz.func342 Tryz.ntmps342 (j9 hra hga hrb hgb hne h3b h4b h5b h6b) ?_
   exact Ag (A5 []) Tryz.results342
  ·have hne:(a.kind != b.kind)=true:=by simpa using hk
   have hs:=FX (decide (a.kind<b.kind)) true
   rw[a5i hk]at hs
   have hR:a.cmp b=Cc a.kind b.kind:=by rw[G7,if_neg hk]
   rw[hR]
   refine A6 Tryz.func342 Tryz.ntmps342 (j5 hra hga hrb hgb hne) ?_
   refine v7 (A3 [] hs) q9 q9 ?_
   exact Ag (A5 []) Tryz.results342
def KA (x y:List CellD):Int:=if (dec x).1=0 then (dec y).1 else (dec x).1
theorem Yc (x y:List CellD):AC Tryz.prog 348 [AF x,AF y] [] (.c (.int .i64 (KA x y))) []:=by
 have h1:=IL x
 have h2:=IL y
 unfold KA
 by_cases h:(dec x).1=0
 ·rw[if_pos h]
  rw[h]at h1
  have h00:((0:Int) != 0)=false:=rfl
  refine A6 Tryz.func348 Tryz.ntmps348 q9 ?_
  refine v7 (A3 [] h1) q9 h00 ?_
  refine v7 (A3 [] h2) q9 q9 ?_
  exact Ag (A5 []) Tryz.results348
 ·rw[if_neg h]
  have hb:((dec x).1 != 0)=true:=by simpa using h
  refine A6 Tryz.func348 Tryz.ntmps348 q9 ?_
  refine v7 (A3 [] h1) q9 hb ?_
  exact Ag (A5 []) Tryz.results348
set_option maxRecDepth 10000
theorem Yb (xs:List CellD) (h:(dec xs).1=0):AC Tryz.prog 301 [AF xs] [] (.agg [.c (.int .i64 0),AF xs]) []:=by
 have hf:=IL xs
 rw[h]at hf
 have h00:((0:Int) != 0)=false:=rfl
 refine A6 Tryz.func301 Tryz.ntmps301 q9 ?_
 refine v7 (A3 [] hf) q9 h00 ?_
 exact Ag (A5 []) Tryz.results301
theorem Vb (xs:List CellD) (h:(dec xs).1≠0):AC Tryz.prog 301 [AF xs] [] (.agg [.c (.int .i64 (dec xs).1),.c (.sl [])]) []:=by
 have hf:=IL xs
 have hb:((dec xs).1 != 0)=true:=by simpa using h
 refine A6 Tryz.func301 Tryz.ntmps301 q9 ?_
 refine v7 (A3 [] hf) q9 hb ?_
 exact Ag (A5 []) Tryz.results301
theorem Ew (t:V):AC Tryz.prog 301 [AF t.enc] [] (vrA (Co t)) []:=by
 unfold Co
 split
 ·rename_i h
  exact Yb t.enc h
 ·rename_i h
  exact Vb t.enc h
theorem Cx (t:V):A8 (t.enc.map CellD.cs) 5 0=true:=by unfold A8;rw[show (0:Int).toNat=0 from rfl,AL];rfl
theorem Vh:AC Tryz.prog 223 [] [] (.c (.sl (BD.enc.map CellD.cs))) []:=by
 have h:=FZ
 exact wAS (AC.says [] [(0,0)] h) q9
set_option maxRecDepth 10000
theorem DU (ps:List V) (hc:(AY ps).count≤500000):AC Tryz.prog 247 [.c (.sl ((ps.map V.enc).map Al))] [] (.c (.sl ((AY ps).enc.map CellD.cs))) []:=by
 have h:=NU ps hc
 exact wAS (AC.says [] [(0,0)] h) q9
theorem Y9 {t:V}(hw:t.wf) (hc:t.count≤200) (i:Nat) (hi:i<t.kids.length):AC Tryz.prog 353 [AF t.enc,.c (.int .i64 ((kp t.kids i:Nat):Int))] [] (.c (.sl (t.kids[i].enc.map CellD.cs))) []:=by
 refine AC.of_calls fun S w κ vs hv=>?_
 obtain⟨v,vs',rfl,h1,v2,vs2,rfl,h2,rfl⟩:=hv
 obtain⟨rfl,_⟩:=h2
 obtain⟨A,cap,rfl,hcap,hcs⟩:=CX.1 h1
 refine (NY t hw hc i hi A cap hcap S w hcs).mono ?_
 rintro e w' ⟨⟨A',c',rfl,hc',hr⟩,hb⟩
 exact⟨hb,_,rfl,fun T _ hT=>CX.2 ⟨A',c',rfl,hc',hr.weaken fun b hb _=>hT b hb⟩⟩
theorem Ms {t:V}(hw:t.wf) (hc:t.count≤200):AC Tryz.prog 302 [AF t.enc] [] (.own (0,0)) [((0,0),.row false 1 50 ((t.kids.map V.enc).map Al))]:=by
 have hkl:=BH hc
 have hkn:=E7 t t.kids.length
 have hch:=GR hw hc
 refine A6 Tryz.func302 Tryz.ntmps302 q9 ?_
 refine v9 (A4 [] hch) q9 q9 ?_
 refine Ar (κ:=Nat) (fun k=>⟨mkS 0 25 [(0,AF t.enc),(3,.own (3,0)),(4,.c (.sl ((Cz t t.kids.length).map As))),(5,.c (.int .i64 k))],
   [((3,0),.row false 1 50 (((t.kids.take k).map V.enc).map Al))]⟩)
  (fun k=>k≤t.kids.length) (fun k=>t.kids.length-k) 0 (Nat.zero_le _) ?_ ?_
 ·exact Ac (Aj.of [((3,0),(6,0))] []) hkl
 ·intro k hk
  by_cases hlt:k<t.kids.length
  ·have hd:decide ((k:Int)<(t.kids.length:Int))=true:=by simpa using hlt
   have hw1:=Ad (k:=k) (by omega)
   have h1:(((t.kids.take k).map V.enc).map Al).length+1≤1000000:=by simp;omega
   have hr1:A8 ((Cz t t.kids.length).map As) 1 k=true:=by simp[A8,Cz,hlt,As]
   have hg1:((Cz t t.kids.length).map As)[k]? = some [.int .i64 ((kp t.kids k:Nat):Int)]:=by simp[Cz,hlt,As]
   have hp:=Y9 hw hc k hlt
   have hn:((t.kids.take k).map V.enc).map Al++[[.sl (t.kids[k].enc.map CellD.cs)]]=((t.kids.take (k+1)).map V.enc).map Al:=by rw[List.take_succ_eq_append_getElem hlt,List.map_append,List.map_append];rfl
   generalize hR:((t.kids.take k).map V.enc).map Al=R at *
   generalize hR2:((t.kids.take (k+1)).map V.enc).map Al=R2 at *
   generalize t.kids[k]=u at *
   refine Ab (j4 hd hkn hr1 hg1) ?_
   refine v9 (A4 [] hp) q9 (j2 h1 hw1) ?_
   refine⟨k+1,by omega,by omega,?_⟩
   exact Ac (Aj.of [((3,0),(23,0))] []) (j2 hn hR2)
  ·have hd:decide ((k:Int)<(t.kids.length:Int))=false:=by simpa using hlt
   have hke:t.kids.take k=t.kids:=List.take_of_length_le (by omega)
   refine Ab (j2 hkn hd) ?_
   exact Aa (A9 [((0,0),(3,0))] []) Tryz.results302 hke
set_option maxRecDepth 10000
theorem NX {t:V}(hw:t.wf) (hc:t.count≤200):AC Tryz.prog 349 [AF t.enc] [] (.own (0,0)) [((0,0),.row false 1 9 ((BK t t.kids.length).map Ae))]:=by
 have hkl:=BH hc
 have hkn:=E7 t t.kids.length
 have hch:=GR hw hc
 refine A6 Tryz.func349 Tryz.ntmps349 q9 ?_
 refine v9 (A4 [] hch) q9 q9 ?_
 refine Ar (κ:=Nat) (fun k=>⟨mkS 0 27 [(0,AF t.enc),(3,.own (3,0)),(4,.c (.sl ((Cz t t.kids.length).map As))),(5,.c (.int .i64 k))],
   [((3,0),.row false 1 9 ((BK t k).map Ae))]⟩)
  (fun k=>k≤t.kids.length) (fun k=>t.kids.length-k) 0 (Nat.zero_le _) ?_ ?_
 ·(apply (Aj.of [((3,0),(6,0))] []);(iterate 2 ((focus (simp only[go_sem,Nat.reduceEqDiff,Nat.reduceAdd,Nat.reduceSub,Nat.reduceLeDiff,Nat.reduceMul,Nat.reduceBEq,Nat.reduceLT,Int.reduceToNat,reduceCtorEq,BK];try (and_intros<;>rfl)));(focus exact rfl)));(iterate 4 (focus (simp[go_sem,BK];done))))
 ·intro k hk
  by_cases hlt:k<t.kids.length
  ·have hd:decide ((k:Int)<(t.kids.length:Int))=true:=by simpa using hlt
   have hw1:=Ad (k:=k) (by omega)
   have h1:(BK t k).length+1≤1000000:=by rw[I2];omega
   have hr1:A8 ((Cz t t.kids.length).map As) 1 k=true:=by simp[A8,Cz,hlt,As]
   have hg1:((Cz t t.kids.length).map As)[k]? = some [.int .i64 ((kp t.kids k:Nat):Int)]:=by simp[Cz,hlt,As]
   have hg2:=Ny t hlt
   have hr2:A8 (t.enc.map CellD.cs) 5 ((kp t.kids k:Nat):Int)=true:=by unfold A8;rw[Int.toNat_natCast,hg2];simp
   have hn:(BK t k).map Ae++[[.str (t.keyAt k)]]=(BK t (k+1)).map Ae:=by rw[Mp,List.map_append];rfl
   refine Ab (j8 hd hkn hr1 hg1 hr2 hg2 h1 hw1) ?_
   refine⟨k+1,by omega,by omega,?_⟩
   exact Ac (Aj.of [((3,0),(25,0))] []) hn
  ·have hd:decide ((k:Int)<(t.kids.length:Int))=false:=by simpa using hlt
   have hke:k=t.kids.length:=by omega
   refine Ab (j2 hkn hd) ?_
   subst hke
   exact Aa (A9 [((0,0),(3,0))] []) Tryz.results349 hd
theorem Ya (s:ByteArray):AC Tryz.prog 160 [.c (.str s)] [] (.c (.bool (Bi s))) []:=by
 refine AC.of_calls fun S w κ vs hv=>?_
 obtain⟨v,vs',rfl,⟨rfl,_⟩,rfl⟩:=hv
 refine (NZ s w).mono ?_
 rintro e w' ⟨rfl,rfl⟩
 exact⟨Below.refl _ _,_,rfl,fun T _ _=>⟨rfl,rfl⟩⟩
theorem P9 {v x:V}(h:v.right) (hx:x.right) (key:ByteArray) (hk:Bi key=true):AC Tryz.prog 289 [AF v.enc,.c (.str key),AF x.enc] [] (vrA (Dw v key x)) []:=by
 have hv:=Yc v.enc x.enc
 have hb0:KA v.enc x.enc=0:=by unfold KA;rw[Jo h,Jo hx];rfl
 rw[hb0]at hv
 have h00:((0:Int) != 0)=false:=rfl
 have ht:=Ya key
 rw[hk]at ht
 have hr0:=Cx v
 have hg0:=AL v
 unfold Dw
 by_cases h6:v.kind=0∨v.kind=6
 ·rw[if_pos h6]
  obtain⟨hc1,hc2⟩:=Ls h hx key h6
  have hobj:=Mr (v.keys++[key]) (v.kids++[x]) (by rw[List.length_append,List.length_append,G1 h h6];rfl) (by omega)
  have htold:=Ew (I9 (v.keys++[key]) (v.kids++[x]))
  generalize I9 (v.keys++[key]) (v.kids++[x])=ob at *
  generalize Co ob=r at *
  rcases h6 with hz | h6
  ·have hbz:(v.kind==0)=true:=by simpa using hz
   rw[(GK h hz).1,(GK h hz).2]at hobj
   simp only[List.nil_append,List.map_cons,List.map_nil,Ae,Al]at hobj
   rcases r with⟨c,_ | u⟩
   all_goals
    simp only[BF,Bu]at htold ⊢
    refine A6 Tryz.func289 Tryz.ntmps289 q9 ?_
    refine v7 (A3 [] hv) q9 h00 ?_
    refine v7 (A3 [] ht) q9 (j3 hr0 hg0 hbz) ?_
    refine w12 (BB [(26,0),(28,0)] hobj) q9 ?_
    refine v9 (A4 [(29,0)] htold) q9 q9 ?_
    exact Ag (A5 []) Tryz.results289
  ·have hbz:(v.kind==0)=false:=by simp[h6]
   have hb6:(v.kind==6)=true:=by simpa using h6
   have hkO:=NX h.1 h.2.1
   rw[show BK v v.kids.length=v.keys from F5 h h6]at hkO
   have hpO:=Ms h.1 h.2.1
   have hkl:=D4 h
   have hl1:v.keys.length+1≤1000000:=by omega
   have hl2:v.kids.length+1≤1000000:=by omega
   obtain⟨K,hK⟩:∃K,v.keys++[key]=K:=⟨_,rfl⟩
   obtain⟨L,hL⟩:∃L,v.kids++[x]=L:=⟨_,rfl⟩
   have e1:v.keys.map Ae++[[C.str key]]=K.map Ae:=by rw[←hK,List.map_append];rfl
   have e2:(v.kids.map V.enc).map Al++[[C.sl (x.enc.map CellD.cs)]]=(L.map V.enc).map Al:=by rw[←hL,List.map_append,List.map_append];rfl
   rw[hK,hL]at hobj
   rcases r with⟨c,_ | u⟩
   all_goals
    simp only[BF,Bu]at htold ⊢
    refine A6 Tryz.func289 Tryz.ntmps289 q9 ?_
    refine v7 (A3 [] hv) q9 h00 ?_
    refine v7 (A3 [] ht) q9 (j4 hr0 hg0 hbz hb6) ?_
    refine v12 (AU [] hkO) q9 (j2 hl1 e1) ?_
    refine v12 (AU [] hpO) q9 (j2 hl2 e2) ?_
    refine w12 (BB [(37,0),(42,0)] hobj) (j2 e1 e2) ?_
    refine v9 (A4 [(43,0)] htold) q9 q9 ?_
    exact Ag (A5 []) Tryz.results289
 ·rw[if_neg h6]
  have hbz:(v.kind==0)=false:=by simp;omega
  have hb6:(v.kind==6)=false:=by simp;omega
  rw[DP]
  refine A6 Tryz.func289 Tryz.ntmps289 q9 ?_
  refine v7 (A3 [] hv) q9 h00 ?_
  refine v7 (A3 [] ht) q9 (j4 hr0 hg0 hbz hb6) ?_
  refine v7 (A3 [] (Ck 6)) q9 q9 ?_
  exact Ag (A5 []) Tryz.results289
theorem Z9 {v x:V}(h:v.right) (hx:x.right) (key:ByteArray) (hk:Bi key=true):AC Tryz.prog 125 [v.av,.c (.str key),x.av] [] (EF (Dw v key x)) []:=by
 have hs:=Mo key (by have:=DW hk;omega)
 rw[hk]at hs
 unfold Dw
 by_cases h6:v.kind=0∨v.kind=6
 ·rw[if_pos h6]
  obtain⟨hc1,hc2⟩:=Ls h hx key h6
  have hkl:=D4 h
  have hgv:=Ev (Oy h hx hk h6) (by omega)
  have hobj:=Q5 (v.keys++[key]) (v.kids++[x]) (by rw[List.length_append,List.length_append,G1 h h6];rfl) (by rw[List.length_append,List.length_singleton];omega) (by
   intro k hk'
   rcases List.mem_append.1 hk' with h1 | h1
   ·have:=F9 h k h1;omega
   ·rw[List.mem_singleton.1 h1];have:=Hc hk;omega)
  rw[Q6]at hobj
  have hcs:=QB v.keys (by omega)
  have hcv:=HI v.kids (by omega)
  have hl1:v.keys.length+1≤1000000:=by omega
  have hl2:v.kids.length+1≤1000000:=by omega
  generalize I9 (v.keys++[key]) (v.kids++[x])=ob at *
  obtain⟨K,hK⟩:∃K,v.keys++[key]=K:=⟨_,rfl⟩
  obtain⟨L,hL⟩:∃L,v.kids++[x]=L:=⟨_,rfl⟩
  have e1:v.keys.map Ae++[[C.str key]]=K.map Ae:=by rw[←hK,List.map_append];rfl
  have e2:v.kids.map V.cs++[[.int .i64 x.kind,.int .i64 x.num,.str x.text,.sl (x.keys.map Ae),.sl (x.kids.map V.cs)]]=L.map V.cs:=by rw[←hL,List.map_append,List.map_cons,List.map_nil,V.cs_eq]
  rw[hK,hL]at hobj
  generalize Co ob=r at *
  rcases h6 with hz | h6
  case' inl =>
   have hb0:(v.kind != 0)=false:=by simpa using hz
   have hb6:(v.kind != 6)=true:=by simp[hz]
  case' inr =>
   have hb0:(v.kind != 0)=true:=by simp[h6]
   have hb6:(v.kind != 6)=false:=by simpa using h6
  all_goals
   rcases r with⟨c,_ | u⟩
   all_goals
    simp only[Bh,Bg]at hgv ⊢
    refine A6 Tryz.func125 Tryz.ntmps125 q9 ?_
    refine v7 (A3 [] hs) q9 (j2 hb0 hb6) ?_
    refine v12 (AU [] hcs) q9 (j2 hl1 e1) ?_
    refine v12 (AU [] hcv) q9 (j2 hl2 e2) ?_
    refine w9 (A4 [(27,0),(33,0)] hobj) (j2 e1 e2) ?_
    refine v9 (A4 [] hgv) q9 q9 ?_
    exact Ag (A5 []) Tryz.results125
 ·rw[if_neg h6]
  have hb0:(v.kind != 0)=true:=by simp;omega
  have hb6:(v.kind != 6)=true:=by simp;omega
  rw[Ei]
  refine A6 Tryz.func125 Tryz.ntmps125 q9 ?_
  refine v7 (A3 [] hs) q9 (j2 hb0 hb6) ?_
  refine v7 (A3 [] (Bj 6)) q9 q9 ?_
  exact Ag (A5 []) Tryz.results125
set_option maxRecDepth 10000
theorem Bc {r:Int×Option V}(h:CH r):(∃v,r=(0,some v)∧v.right)∨∃c,c≠0∧r=(c,none):=by
 obtain⟨c,o⟩:=r
 cases o with
 |none=>exact .inr ⟨c,h,rfl⟩
 |some v=>exact .inl ⟨v,by rw[show c=0 from h.1],h.2⟩
end Go.Proofs.YtcejfdfmgmcinaaGreat
