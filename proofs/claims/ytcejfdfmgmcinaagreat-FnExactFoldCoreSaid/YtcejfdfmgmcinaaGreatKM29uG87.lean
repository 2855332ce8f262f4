/- Texts of this proof: M29 G86 G45 G55 G34 G56 G87. -/
import Derived.Test.YtcejfdfmgmcinaaGreatKG49uG9
import Derived.Deep.RegionLaw
import Derived.Shelf.RegionOpenPlain
set_option linter.all false
set_option maxHeartbeats 8000000
namespace Go.Proofs.YtcejfdfmgmcinaaGreat
open Go.RowKit
def z6 (q:V):Prop:=q.right∧q.count=1∧q.depth=1∧(q.kind=3∨q.kind=4)
theorem WS {q:V}(h:a2p q):z6 q:=by
 obtain⟨h1,h2,h3⟩:=Tn h
 refine⟨h1,h2,h3,?_⟩
 rcases h with⟨s,rfl,_⟩ | ⟨n,rfl,_⟩
 ·exact .inr rfl
 ·exact .inl rfl
theorem Oy {s:ByteArray}(h:Bl s=true):(Dj s).right:=by
 refine HY ?_ (by decide)
 unfold AT
 have h2:inB 0 (-1000000000000000) 1000000000000000=true:=by decide
 simp[cF,cR,cT,BB,CO,h2,inB,h]
theorem Pu:∀{l:List V},(∀q∈l,z6 q)→Aw l=l.length∧AX l≤1∧wfL l
 | [],_=>⟨rfl,Nat.zero_le _,trivial⟩
 |q::l,h=>by
  obtain⟨h1,h2,h3⟩:=Pu (l:=l) fun x hx=>h x (by simp[hx])
  obtain⟨h4,h5,h6,_⟩:=h q (by simp)
  exact⟨by simp only[Aw,List.length_cons];omega,by simp only[AX];omega,h4.1,h3⟩
set_option maxRecDepth 10000
theorem Yy {L:List V}{i:Nat}(h:i<L.length):A9 ((L.map V.enc).map Al) 1 ((i:Nat):Int)=true∧((L.map V.enc).map Al)[i]? = some [.sl (L[i].enc.map CellD.cs)]:=⟨by simp[A9,h,Al],by simp[h,Al]⟩
set_option maxRecDepth 10000
def sgn (x y:Bool):Int:=bif x then -1 else bif y then 1 else 0
theorem FV (x y:Bool):AC Tryz.prog 387 [.c (.bool x),.c (.bool y)] [] (.c (.int .i64 (sgn x y))) []:=by
 cases x<;>cases y
 all_goals
  refine A7 Tryz.func387 Tryz.ntmps387 ?_
  refine A3 q9 ?_
  exact A6 [] (by simp only[Tryz.results387,go_sem,Nat.reduceBEq,Nat.reduceLT];exact rfl) (by simp only[go_sem,Nat.reduceEqDiff,Nat.reduceAdd,Nat.reduceSub,Nat.reduceLeDiff,Nat.reduceMul,Nat.reduceBEq,Nat.reduceLT,Int.reduceToNat,reduceCtorEq,sgn]) rfl
theorem z7 (a b:Int):sgn (decide (a<b)) (decide (a>b))=Cj a b:=by
 unfold sgn Cj
 by_cases h1:a<b
 ·simp[h1]
 ·by_cases h2:b<a
  ·simp[h1,h2]
  ·simp[h1,h2]
theorem a4q {a b:Int}(h:a≠b):sgn (decide (a<b)) true=Cj a b:=by
 unfold sgn Cj
 by_cases h1:a<b
 ·simp[h1]
 ·rw[if_neg h1,if_pos (by omega)]
  simp[h1]
theorem a42 (a b:ByteArray):sgn (Op.bytesLess a.toList b.toList) (!(Op.bytesLess a.toList b.toList||a.toList==b.toList))=D9 a b:=by
 unfold sgn D9 B1
 cases Op.bytesLess a.toList b.toList<;>cases (a.toList==b.toList)<;>rfl
theorem a2a {a b:ByteArray}(h:(a.toList==b.toList)=false):sgn (Op.bytesLess a.toList b.toList) true=D9 a b:=by
 unfold sgn D9 B1
 rw[h]
 cases Op.bytesLess a.toList b.toList<;>rfl
theorem OW (a b:List ByteArray) (hl:a.length≤1000000):AC Tryz.prog 389 [.c (.sl (a.map Ag)),.c (.sl (b.map Ag))] [] (.c (.int .i64 (AI a b))) []:=by
 have hla:(a.map Ag).length=a.length:=by simp
 have hlb:(b.map Ag).length=b.length:=by simp
 obtain⟨R,hR⟩:∃R,R=AI a b:=⟨_,rfl⟩
 rw[←hR]
 refine A7 Tryz.func389 Tryz.ntmps389 ?_
 refine A3 q9 ?_
 refine Ay (κ:=Nat) (fun k=>⟨mkS 0 48 [(0,.c (.sl (a.map Ag))),(1,.c (.sl (b.map Ag))),(5,.c (.int .i64 k))],[]⟩)
  (fun k=>k≤a.length∧k≤b.length∧R=AI (a.drop k) (b.drop k)) (fun k=>a.length-k) 0 ⟨Nat.zero_le _,Nat.zero_le _,hR⟩ ?_ ?_
 ·exact Af (Am.of [] []) hla
 ·rintro k ⟨hk,hk2,hRk⟩
  by_cases hlt:k<a.length∧k<b.length
  ·have hda:decide ((k:Int)<(a.length:Int))=true:=by simpa using hlt.1
   have hdb:decide ((k:Int)<(b.length:Int))=true:=by simpa using hlt.2
   have hw:=Ah (k:=k) (by omega)
   have hr:A9 (a.map Ag) 1 k=true:=by simp[A9,hlt.1,Ag]
   have hg:(a.map Ag)[k]? = some [.str a[k]]:=by simp[hlt.1,Ag]
   have hrb:A9 (b.map Ag) 1 k=true:=by simp[A9,hlt.2,Ag]
   have hgb:(b.map Ag)[k]? = some [.str b[k]]:=by simp[hlt.2,Ag]
   rw[Kz hlt.1 hlt.2]at hRk
   generalize a[k]=ak at *
   generalize b[k]=bk at *
   cases he:(ak.toList==bk.toList) with
   |true =>
    have hz:D9 ak bk=0:=GV.2 (AM (by simpa using he))
    rw[hz,H7]at hRk
    refine A3 (j10 hla hlb hda hdb hr hg hrb hgb he hw) ?_
    refine⟨k+1,by omega,⟨by omega,by omega,hRk⟩,?_⟩
    exact Af (Am.of [] []) hw
   |false =>
    have hz:D9 ak bk≠0:=fun h=>by rw[GV.1 h]at he;simp at he
    rw[Kj hz]at hRk
    have hc:=FV (Op.bytesLess ak.toList bk.toList) true
    rw[a2a he]at hc
    rw[hRk]
    generalize D9 ak bk=x at *
    refine A3 (j9 hla hlb hda hdb hr hg hrb hgb he) ?_
    refine w7 (A4 [] hc) q9 ?_
    refine A3 q9 ?_
    exact Ad (A6 []) Tryz.results389
  ·rw[Iv hk hk2 hlt]at hRk
   have hc:=FV (decide ((a.length:Int)<(b.length:Int))) (decide ((a.length:Int)>(b.length:Int)))
   rw[z7,←hRk]at hc
   cases hda:decide ((k:Int)<(a.length:Int))<;>cases hdb:decide ((k:Int)<(b.length:Int))
   case true.true=>exact absurd ⟨by simpa using hda,by simpa using hdb⟩ hlt
   all_goals
    refine A3 (j4 hla hlb hda hdb) ?_
    refine w7 (A4 [] hc) q9 ?_
    refine A3 q9 ?_
    exact Ad (A6 []) Tryz.results389
theorem UZ (a b:List V) (hl:a.length≤1000000) (hrec:∀x∈a,∀y∈b,AC Tryz.prog 342 [AH x.enc,AH y.enc] [] (.c (.int .i64 (x.cmp y))) []) :
  AC Tryz.prog 388 [.c (.sl ((a.map V.enc).map Al)),.c (.sl ((b.map V.enc).map Al))] [] (.c (.int .i64 (BT a b))) []:=by
 have hla:((a.map V.enc).map Al).length=a.length:=by simp
 have hlb:((b.map V.enc).map Al).length=b.length:=by simp
 obtain⟨R,hR⟩:∃R,R=BT a b:=⟨_,rfl⟩
 rw[←hR]
 refine A7 Tryz.func388 Tryz.ntmps388 ?_
 refine A3 q9 ?_
 refine Ay (κ:=Nat) (fun k=>⟨mkS 0 42 [(0,.c (.sl ((a.map V.enc).map Al))),(1,.c (.sl ((b.map V.enc).map Al))),(5,.c (.int .i64 k))],[]⟩)
  (fun k=>k≤a.length∧k≤b.length∧R=BT (a.drop k) (b.drop k)) (fun k=>a.length-k) 0 ⟨Nat.zero_le _,Nat.zero_le _,hR⟩ ?_ ?_
 ·exact Af (Am.of [] []) hla
 ·rintro k ⟨hk,hk2,hRk⟩
  by_cases hlt:k<a.length∧k<b.length
  ·have hda:decide ((k:Int)<(a.length:Int))=true:=by simpa using hlt.1
   have hdb:decide ((k:Int)<(b.length:Int))=true:=by simpa using hlt.2
   have hw:=Ah (k:=k) (by omega)
   have hr:A9 ((a.map V.enc).map Al) 1 k=true:=by simp[A9,hlt.1,Al]
   have hg:((a.map V.enc).map Al)[k]? = some [.sl (a[k].enc.map CellD.cs)]:=by simp[hlt.1,Al]
   have hrb:A9 ((b.map V.enc).map Al) 1 k=true:=by simp[A9,hlt.2,Al]
   have hgb:((b.map V.enc).map Al)[k]? = some [.sl (b[k].enc.map CellD.cs)]:=by simp[hlt.2,Al]
   have hc:=hrec a[k] (List.getElem_mem hlt.1) b[k] (List.getElem_mem hlt.2)
   rw[N6 hlt.1 hlt.2]at hRk
   generalize a[k].cmp b[k]=x at *
   generalize a[k]=ak at *
   generalize b[k]=bk at *
   by_cases hx:x=0
   ·subst hx
    rw[H7]at hRk
    have h00:((0:Int) != 0)=false:=rfl
    refine A3 (j8 hla hlb hda hdb hr hg hrb hgb) ?_
    refine w7 (A4 [] hc) q9 ?_
    refine A3 (j2 h00 hw) ?_
    refine⟨k+1,by omega,⟨by omega,by omega,hRk⟩,?_⟩
    exact Af (Am.of [] []) hw
   ·rw[Kj hx]at hRk
    have hb:(x != 0)=true:=by simpa using hx
    rw[hRk]
    refine A3 (j8 hla hlb hda hdb hr hg hrb hgb) ?_
    refine w7 (A4 [] hc) q9 ?_
    refine A3 hb ?_
    exact Ad (A6 []) Tryz.results388
  ·rw[Ps hk hk2 hlt]at hRk
   have hc:=FV (decide ((a.length:Int)<(b.length:Int))) (decide ((a.length:Int)>(b.length:Int)))
   rw[z7,←hRk]at hc
   cases hda:decide ((k:Int)<(a.length:Int))<;>cases hdb:decide ((k:Int)<(b.length:Int))
   case true.true=>exact absurd ⟨by simpa using hda,by simpa using hdb⟩ hlt
   all_goals
    refine A3 (j4 hla hlb hda hdb) ?_
    refine w7 (A4 [] hc) q9 ?_
    refine A3 q9 ?_
    exact Ad (A6 []) Tryz.results388
theorem HW:∀(m:Nat) (a b:V),a.count≤m→a.right→b.right→AC Tryz.prog 342 [AH a.enc,AH b.enc] [] (.c (.int .i64 (a.cmp b))) []:=by
 intro m
 induction m with
 |zero=>intro a _ hm _ _;have:=CQ a;omega
 |succ m ih =>
  intro a b hm ha hb
  have hkl:=BI ha.2.1
  have hck:=AP a
  have hrec:∀x∈a.kids,∀y∈b.kids,AC Tryz.prog 342 [AH x.enc,AH y.enc] [] (.c (.int .i64 (x.cmp y))) []:=fun x hx y hy=>ih x y (by have:=CV hx;omega) (Bd ha hx) (Bd hb hy)
  have hra:A9 (a.enc.map CellD.cs) 5 0=true:=by unfold A9;rw[show (0:Int).toNat=0 from rfl,AL];rfl
  have hga:=AL a
  have hrb:A9 (b.enc.map CellD.cs) 5 0=true:=by unfold A9;rw[show (0:Int).toNat=0 from rfl,AL];rfl
  have hgb:=AL b
  by_cases hk:a.kind=b.kind
  ·have hne:(a.kind != b.kind)=false:=by simpa using hk
   by_cases h3:a.kind=3
   ·have hs:=FV (decide (a.num<b.num)) (decide (a.num>b.num))
    rw[z7]at hs
    rw[Uh ha.1 hb.1 hk h3]
    have h3b:(a.kind==3)=true:=by simpa using h3
    refine A7 Tryz.func342 Tryz.ntmps342 ?_
    refine A3 (j6 hra hga hrb hgb hne h3b) ?_
    refine w7 (A4 [] hs) q9 ?_
    refine A3 q9 ?_
    exact Ad (A6 []) Tryz.results342
   have h3b:(a.kind==3)=false:=by simpa using h3
   by_cases h4:a.kind=4
   ·have hs:=FV (Op.bytesLess a.text.toList b.text.toList) (!(Op.bytesLess a.text.toList b.text.toList||a.text.toList==b.text.toList))
    rw[a42]at hs
    rw[Zk ha.1 hb.1 hk h4]
    have h4b:(a.kind==4)=true:=by simpa using h4
    refine A7 Tryz.func342 Tryz.ntmps342 ?_
    refine A3 (j7 hra hga hrb hgb hne h3b h4b) ?_
    refine w7 (A4 [] hs) q9 ?_
    refine A3 q9 ?_
    exact Ad (A6 []) Tryz.results342
   have h4b:(a.kind==4)=false:=by simpa using h4
   have hpa:=Dg ha.1 ha.2.1
   have hpb:=Dg hb.1 hb.2.1
   have hli:=UZ a.kids b.kids (by omega) hrec
   by_cases h5:a.kind=5
   ·rw[Xg ha.1 hb.1 hk h5]
    have h5b:(a.kind==5)=true:=by simpa using h5
    refine A7 Tryz.func342 Tryz.ntmps342 ?_
    refine A3 (j8 hra hga hrb hgb hne h3b h4b h5b) ?_
    refine w9 (A5 [] hpa) q9 ?_
    refine A3 q9 ?_
    refine w9 (A5 [] hpb) q9 ?_
    refine A3 q9 ?_
    refine w7 (A4 [] hli) q9 ?_
    refine A3 q9 ?_
    exact Ad (A6 []) Tryz.results342
   have h5b:(a.kind==5)=false:=by simpa using h5
   by_cases h6:a.kind=6
   ·have h6b:(a.kind==6)=true:=by simpa using h6
    have hka:=FU ha.1 ha.2.1
    have hkb:=FU hb.1 hb.2.1
    have e1:BN a a.kids.length=a.keys:=F9 ha h6
    have e2:BN b b.kids.length=b.keys:=F9 hb (by omega)
    rw[e1]at hka
    rw[e2]at hkb
    have hkk:=OW a.keys b.keys (by rw[(DM ha h6).2.2];omega)
    rw[Ui ha.1 hb.1 hk h6]
    by_cases hz:AI a.keys b.keys=0
    ·rw[hz]at hkk ⊢
     rw[H7]
     have h00:((0:Int) != 0)=false:=rfl
     refine A7 Tryz.func342 Tryz.ntmps342 ?_
     refine A3 (j9 hra hga hrb hgb hne h3b h4b h5b h6b) ?_
     refine w9 (A5 [] hka) q9 ?_
     refine A3 q9 ?_
     refine w9 (A5 [] hkb) q9 ?_
     refine A3 q9 ?_
     refine w7 (A4 [] hkk) q9 ?_
     refine A3 h00 ?_
     refine w9 (A5 [] hpa) q9 ?_
     refine A3 q9 ?_
     refine w9 (A5 [] hpb) q9 ?_
     refine A3 q9 ?_
     refine w7 (A4 [] hli) q9 ?_
     refine A3 q9 ?_
     exact Ad (A6 []) Tryz.results342
    ·rw[Kj hz]
     have hb1:(AI a.keys b.keys != 0)=true:=by simpa using hz
     refine A7 Tryz.func342 Tryz.ntmps342 ?_
     refine A3 (j9 hra hga hrb hgb hne h3b h4b h5b h6b) ?_
     refine w9 (A5 [] hka) q9 ?_
     refine A3 q9 ?_
     refine w9 (A5 [] hkb) q9 ?_
     refine A3 q9 ?_
     refine w7 (A4 [] hkk) q9 ?_
     refine A3 hb1 ?_
     exact Ad (A6 []) Tryz.results342
   have h6b:(a.kind==6)=false:=by simpa using h6
   rw[Xh ha.1 hb.1 hk h3 h4 h5 h6]
   refine A7 Tryz.func342 Tryz.ntmps342 ?_
   refine A3 (j9 hra hga hrb hgb hne h3b h4b h5b h6b) ?_
   exact Ad (A6 []) Tryz.results342
  ·have hne:(a.kind != b.kind)=true:=by simpa using hk
   have hs:=FV (decide (a.kind<b.kind)) true
   rw[a4q hk]at hs
   have hR:a.cmp b=Cj a.kind b.kind:=by rw[G6,if_neg hk]
   rw[hR]
   refine A7 Tryz.func342 Tryz.ntmps342 ?_
   refine A3 (j5 hra hga hrb hgb hne) ?_
   refine w7 (A4 [] hs) q9 ?_
   refine A3 q9 ?_
   exact Ad (A6 []) Tryz.results342
def Kv (x y:List CellD):Int:=if (dec x).1=0 then (dec y).1 else (dec x).1
theorem XR (x y:List CellD):AC Tryz.prog 348 [AH x,AH y] [] (.c (.int .i64 (Kv x y))) []:=by
 have h1:=IE x
 have h2:=IE y
 unfold Kv
 by_cases h:(dec x).1=0
 ·rw[if_pos h]
  rw[h]at h1
  have h00:((0:Int) != 0)=false:=rfl
  refine A7 Tryz.func348 Tryz.ntmps348 ?_
  refine A3 q9 ?_
  refine w7 (A4 [] h1) q9 ?_
  refine A3 h00 ?_
  refine w7 (A4 [] h2) q9 ?_
  refine A3 q9 ?_
  exact Ad (A6 []) Tryz.results348
 ·rw[if_neg h]
  have hb:((dec x).1 != 0)=true:=by simpa using h
  refine A7 Tryz.func348 Tryz.ntmps348 ?_
  refine A3 q9 ?_
  refine w7 (A4 [] h1) q9 ?_
  refine A3 hb ?_
  exact Ad (A6 []) Tryz.results348
set_option maxRecDepth 10000
theorem XQ (xs:List CellD) (h:(dec xs).1=0):AC Tryz.prog 301 [AH xs] [] (.agg [.c (.int .i64 0),AH xs]) []:=by
 have hf:=IE xs
 rw[h]at hf
 have h00:((0:Int) != 0)=false:=rfl
 refine A7 Tryz.func301 Tryz.ntmps301 ?_
 refine A3 q9 ?_
 refine w7 (A4 [] hf) q9 ?_
 refine A3 h00 ?_
 exact Ad (A6 []) Tryz.results301
theorem V0 (xs:List CellD) (h:(dec xs).1≠0):AC Tryz.prog 301 [AH xs] [] (.agg [.c (.int .i64 (dec xs).1),.c (.sl [])]) []:=by
 have hf:=IE xs
 have hb:((dec xs).1 != 0)=true:=by simpa using h
 refine A7 Tryz.func301 Tryz.ntmps301 ?_
 refine A3 q9 ?_
 refine w7 (A4 [] hf) q9 ?_
 refine A3 hb ?_
 exact Ad (A6 []) Tryz.results301
theorem EB (t:V):AC Tryz.prog 301 [AH t.enc] [] (vrA (Cw t)) []:=by
 unfold Cw
 split
 ·rename_i h
  exact XQ t.enc h
 ·rename_i h
  exact V0 t.enc h
theorem CE (t:V):A9 (t.enc.map CellD.cs) 5 0=true:=by unfold A9;rw[show (0:Int).toNat=0 from rfl,AL];rfl
theorem V6:AC Tryz.prog 223 [] [] (.c (.sl (BE.enc.map CellD.cs))) []:=by
 have h:=FX
 exact wAS (AC.says [] [(0,0)] h) q9
set_option maxRecDepth 10000
theorem DZ (ps:List V) (hc:(AZ ps).count≤500000):AC Tryz.prog 247 [.c (.sl ((ps.map V.enc).map Al))] [] (.c (.sl ((AZ ps).enc.map CellD.cs))) []:=by
 have h:=NM ps hc
 exact wAS (AC.says [] [(0,0)] h) q9
theorem XO {t:V}(hw:t.wf) (hc:t.count≤200) (i:Nat) (hi:i<t.kids.length):AC Tryz.prog 353 [AH t.enc,.c (.int .i64 ((kp t.kids i:Nat):Int))] [] (.c (.sl (t.kids[i].enc.map CellD.cs))) []:=by
 refine AC.of_calls fun S w κ vs hv=>?_
 obtain⟨v,vs',rfl,h1,v2,vs2,rfl,h2,rfl⟩:=hv
 obtain⟨rfl,_⟩:=h2
 obtain⟨A,cap,rfl,hcap,hcs⟩:=Da.1 h1
 refine (NR t hw hc i hi A cap hcap S w hcs).mono ?_
 rintro e w' ⟨⟨A',c',rfl,hc',hr⟩,hb⟩
 exact⟨hb,_,rfl,fun T _ hT=>Da.2 ⟨A',c',rfl,hc',hr.weaken fun b hb _=>hT b hb⟩⟩
theorem Mk {t:V}(hw:t.wf) (hc:t.count≤200):AC Tryz.prog 302 [AH t.enc] [] (.own (0,0)) [((0,0),.row false 1 50 ((t.kids.map V.enc).map Al))]:=by
 have hkl:=BI hc
 have hkn:=Ed t t.kids.length
 have hch:=GO hw hc
 refine A7 Tryz.func302 Tryz.ntmps302 ?_
 refine A3 q9 ?_
 refine w9 (A5 [] hch) q9 ?_
 refine A3 q9 ?_
 refine Ay (κ:=Nat) (fun k=>⟨mkS 0 25 [(0,AH t.enc),(3,.own (3,0)),(4,.c (.sl ((CG t t.kids.length).map AB))),(5,.c (.int .i64 k))],
   [((3,0),.row false 1 50 (((t.kids.take k).map V.enc).map Al))]⟩)
  (fun k=>k≤t.kids.length) (fun k=>t.kids.length-k) 0 (Nat.zero_le _) ?_ ?_
 ·exact Af (Am.of [((3,0),(6,0))] []) hkl
 ·intro k hk
  by_cases hlt:k<t.kids.length
  ·have hd:decide ((k:Int)<(t.kids.length:Int))=true:=by simpa using hlt
   have hw1:=Ah (k:=k) (by omega)
   have h1:(((t.kids.take k).map V.enc).map Al).length+1≤1000000:=by simp;omega
   have hr1:A9 ((CG t t.kids.length).map AB) 1 k=true:=by simp[A9,CG,hlt,AB]
   have hg1:((CG t t.kids.length).map AB)[k]? = some [.int .i64 ((kp t.kids k:Nat):Int)]:=by simp[CG,hlt,AB]
   have hp:=XO hw hc k hlt
   have hn:((t.kids.take k).map V.enc).map Al++[[.sl (t.kids[k].enc.map CellD.cs)]]=((t.kids.take (k+1)).map V.enc).map Al:=by rw[List.take_succ_eq_append_getElem hlt,List.map_append,List.map_append];rfl
   generalize hR:((t.kids.take k).map V.enc).map Al=R at *
   generalize hR2:((t.kids.take (k+1)).map V.enc).map Al=R2 at *
   generalize t.kids[k]=u at *
   refine A3 (j4 hd hkn hr1 hg1) ?_
   refine w9 (A5 [] hp) q9 ?_
   refine A3 (j2 h1 hw1) ?_
   refine⟨k+1,by omega,by omega,?_⟩
   exact Af (Am.of [((3,0),(23,0))] []) (j2 hn hR2)
  ·have hd:decide ((k:Int)<(t.kids.length:Int))=false:=by simpa using hlt
   have hke:t.kids.take k=t.kids:=List.take_of_length_le (by omega)
   refine A3 (j2 hkn hd) ?_
   exact Ab (Aa [((0,0),(3,0))] []) Tryz.results302 hke
set_option maxRecDepth 10000
theorem NQ {t:V}(hw:t.wf) (hc:t.count≤200):AC Tryz.prog 349 [AH t.enc] [] (.own (0,0)) [((0,0),.row false 1 9 ((BN t t.kids.length).map Ag))]:=by
 have hkl:=BI hc
 have hkn:=Ed t t.kids.length
 have hch:=GO hw hc
 refine A7 Tryz.func349 Tryz.ntmps349 ?_
 refine A3 q9 ?_
 refine w9 (A5 [] hch) q9 ?_
 refine A3 q9 ?_
 refine Ay (κ:=Nat) (fun k=>⟨mkS 0 27 [(0,AH t.enc),(3,.own (3,0)),(4,.c (.sl ((CG t t.kids.length).map AB))),(5,.c (.int .i64 k))],
   [((3,0),.row false 1 9 ((BN t k).map Ag))]⟩)
  (fun k=>k≤t.kids.length) (fun k=>t.kids.length-k) 0 (Nat.zero_le _) ?_ ?_
 ·(apply (Am.of [((3,0),(6,0))] []);(iterate 2 ((focus (simp only[go_sem,Nat.reduceEqDiff,Nat.reduceAdd,Nat.reduceSub,Nat.reduceLeDiff,Nat.reduceMul,Nat.reduceBEq,Nat.reduceLT,Int.reduceToNat,reduceCtorEq,BN];try (and_intros<;>rfl)));(focus exact rfl)));(iterate 4 (focus (simp[go_sem,BN];done))))
 ·intro k hk
  by_cases hlt:k<t.kids.length
  ·have hd:decide ((k:Int)<(t.kids.length:Int))=true:=by simpa using hlt
   have hw1:=Ah (k:=k) (by omega)
   have h1:(BN t k).length+1≤1000000:=by rw[HS];omega
   have hr1:A9 ((CG t t.kids.length).map AB) 1 k=true:=by simp[A9,CG,hlt,AB]
   have hg1:((CG t t.kids.length).map AB)[k]? = some [.int .i64 ((kp t.kids k:Nat):Int)]:=by simp[CG,hlt,AB]
   have hg2:=Nr t hlt
   have hr2:A9 (t.enc.map CellD.cs) 5 ((kp t.kids k:Nat):Int)=true:=by unfold A9;rw[Int.toNat_natCast,hg2];simp
   have hn:(BN t k).map Ag++[[.str (t.keyAt k)]]=(BN t (k+1)).map Ag:=by rw[Mh,List.map_append];rfl
   refine A3 (j8 hd hkn hr1 hg1 hr2 hg2 h1 hw1) ?_
   refine⟨k+1,by omega,by omega,?_⟩
   exact Af (Am.of [((3,0),(25,0))] []) hn
  ·have hd:decide ((k:Int)<(t.kids.length:Int))=false:=by simpa using hlt
   have hke:k=t.kids.length:=by omega
   refine A3 (j2 hkn hd) ?_
   subst hke
   exact Ab (Aa [((0,0),(3,0))] []) Tryz.results349 hd
theorem XP (s:ByteArray):AC Tryz.prog 160 [.c (.str s)] [] (.c (.bool (Bl s))) []:=by
 refine AC.of_calls fun S w κ vs hv=>?_
 obtain⟨v,vs',rfl,⟨rfl,_⟩,rfl⟩:=hv
 refine (NS s w).mono ?_
 rintro e w' ⟨rfl,rfl⟩
 exact⟨Below.refl _ _,_,rfl,fun T _ _=>⟨rfl,rfl⟩⟩
theorem P4 {v x:V}(h:v.right) (hx:x.right) (key:ByteArray) (hk:Bl key=true):AC Tryz.prog 289 [AH v.enc,.c (.str key),AH x.enc] [] (vrA (DD v key x)) []:=by
 have hv:=XR v.enc x.enc
 have hb0:Kv v.enc x.enc=0:=by unfold Kv;rw[Jh h,Jh hx];rfl
 rw[hb0]at hv
 have h00:((0:Int) != 0)=false:=rfl
 have ht:=XP key
 rw[hk]at ht
 have hr0:=CE v
 have hg0:=AL v
 unfold DD
 by_cases h6:v.kind=0∨v.kind=6
 ·rw[if_pos h6]
  obtain⟨hc1,hc2⟩:=Lk h hx key h6
  have hobj:=Mj (v.keys++[key]) (v.kids++[x]) (by rw[List.length_append,List.length_append,G0 h h6];rfl) (by omega)
  have htold:=EB (I3 (v.keys++[key]) (v.kids++[x]))
  generalize I3 (v.keys++[key]) (v.kids++[x])=ob at *
  generalize Cw ob=r at *
  rcases h6 with hz | h6
  ·have hbz:(v.kind==0)=true:=by simpa using hz
   rw[(GH h hz).1,(GH h hz).2]at hobj
   simp only[List.nil_append,List.map_cons,List.map_nil,Ag,Al]at hobj
   rcases r with⟨c,_ | u⟩
   all_goals
    simp only[BG,Bv]at htold ⊢
    refine A7 Tryz.func289 Tryz.ntmps289 ?_
    refine A3 q9 ?_
    refine w7 (A4 [] hv) q9 ?_
    refine A3 h00 ?_
    refine w7 (A4 [] ht) q9 ?_
    refine A3 (j3 hr0 hg0 hbz) ?_
    refine w12 (C9 [(26,0),(28,0)] hobj) q9 ?_
    refine w9 (A5 [(29,0)] htold) q9 ?_
    refine A3 q9 ?_
    exact Ad (A6 []) Tryz.results289
  ·have hbz:(v.kind==0)=false:=by simp[h6]
   have hb6:(v.kind==6)=true:=by simpa using h6
   have hkO:=NQ h.1 h.2.1
   rw[show BN v v.kids.length=v.keys from F9 h h6]at hkO
   have hpO:=Mk h.1 h.2.1
   have hkl:=De h
   have hl1:v.keys.length+1≤1000000:=by omega
   have hl2:v.kids.length+1≤1000000:=by omega
   obtain⟨K,hK⟩:∃K,v.keys++[key]=K:=⟨_,rfl⟩
   obtain⟨L,hL⟩:∃L,v.kids++[x]=L:=⟨_,rfl⟩
   have e1:v.keys.map Ag++[[C.str key]]=K.map Ag:=by rw[←hK,List.map_append];rfl
   have e2:(v.kids.map V.enc).map Al++[[C.sl (x.enc.map CellD.cs)]]=(L.map V.enc).map Al:=by rw[←hL,List.map_append,List.map_append];rfl
   rw[hK,hL]at hobj
   rcases r with⟨c,_ | u⟩
   all_goals
    simp only[BG,Bv]at htold ⊢
    refine A7 Tryz.func289 Tryz.ntmps289 ?_
    refine A3 q9 ?_
    refine w7 (A4 [] hv) q9 ?_
    refine A3 h00 ?_
    refine w7 (A4 [] ht) q9 ?_
    refine A3 (j4 hr0 hg0 hbz hb6) ?_
    refine w12 (AS [] hkO) q9 ?_
    refine A3 (j2 hl1 e1) ?_
    refine w12 (AS [] hpO) q9 ?_
    refine A3 (j2 hl2 e2) ?_
    refine w12 (C9 [(37,0),(42,0)] hobj) (j2 e1 e2) ?_
    refine w9 (A5 [(43,0)] htold) q9 ?_
    refine A3 q9 ?_
    exact Ad (A6 []) Tryz.results289
 ·rw[if_neg h6]
  have hbz:(v.kind==0)=false:=by simp;omega
  have hb6:(v.kind==6)=false:=by simp;omega
  rw[DS]
  refine A7 Tryz.func289 Tryz.ntmps289 ?_
  refine A3 q9 ?_
  refine w7 (A4 [] hv) q9 ?_
  refine A3 h00 ?_
  refine w7 (A4 [] ht) q9 ?_
  refine A3 (j4 hr0 hg0 hbz hb6) ?_
  refine w7 (A4 [] (Cq 6)) q9 ?_
  refine A3 q9 ?_
  exact Ad (A6 []) Tryz.results289
theorem YM {v x:V}(h:v.right) (hx:x.right) (key:ByteArray) (hk:Bl key=true):AC Tryz.prog 125 [v.av,.c (.str key),x.av] [] (EK (DD v key x)) []:=by
 have hs:=Mg key (by have:=E1 hk;omega)
 rw[hk]at hs
 unfold DD
 by_cases h6:v.kind=0∨v.kind=6
 ·rw[if_pos h6]
  obtain⟨hc1,hc2⟩:=Lk h hx key h6
  have hkl:=De h
  have hgv:=EA (Oq h hx hk h6) (by omega)
  have hobj:=Q1 (v.keys++[key]) (v.kids++[x]) (by rw[List.length_append,List.length_append,G0 h h6];rfl) (by rw[List.length_append,List.length_singleton];omega) (by
   intro k hk'
   rcases List.mem_append.1 hk' with h1 | h1
   ·have:=Fg h k h1;omega
   ·rw[List.mem_singleton.1 h1];have:=H4 hk;omega)
  rw[Q2]at hobj
  have hcs:=Qv v.keys (by omega)
  have hcv:=Hs v.kids (by omega)
  have hl1:v.keys.length+1≤1000000:=by omega
  have hl2:v.kids.length+1≤1000000:=by omega
  generalize I3 (v.keys++[key]) (v.kids++[x])=ob at *
  obtain⟨K,hK⟩:∃K,v.keys++[key]=K:=⟨_,rfl⟩
  obtain⟨L,hL⟩:∃L,v.kids++[x]=L:=⟨_,rfl⟩
  have e1:v.keys.map Ag++[[C.str key]]=K.map Ag:=by rw[←hK,List.map_append];rfl
  have e2:v.kids.map V.cs++[[.int .i64 x.kind,.int .i64 x.num,.str x.text,.sl (x.keys.map Ag),.sl (x.kids.map V.cs)]]=L.map V.cs:=by rw[←hL,List.map_append,List.map_cons,List.map_nil,V.cs_eq]
  rw[hK,hL]at hobj
  generalize Cw ob=r at *
  rcases h6 with hz | h6
  case' inl =>
   have hb0:(v.kind != 0)=false:=by simpa using hz
   have hb6:(v.kind != 6)=true:=by simp[hz]
  case' inr =>
   have hb0:(v.kind != 0)=true:=by simp[h6]
   have hb6:(v.kind != 6)=false:=by simpa using h6
  all_goals
   rcases r with⟨c,_ | u⟩
   all_goals
    simp only[Bk,Bj]at hgv ⊢
    refine A7 Tryz.func125 Tryz.ntmps125 ?_
    refine A3 q9 ?_
    refine w7 (A4 [] hs) q9 ?_
    refine A3 (j2 hb0 hb6) ?_
    refine w12 (AS [] hcs) q9 ?_
    refine A3 (j2 hl1 e1) ?_
    refine w12 (AS [] hcv) q9 ?_
    refine A3 (j2 hl2 e2) ?_
    refine w9 (A5 [(27,0),(33,0)] hobj) (j2 e1 e2) ?_
    refine w9 (A5 [] hgv) q9 ?_
    refine A3 q9 ?_
    exact Ad (A6 []) Tryz.results125
 ·rw[if_neg h6]
  have hb0:(v.kind != 0)=true:=by simp;omega
  have hb6:(v.kind != 6)=true:=by simp;omega
  rw[Ep]
  refine A7 Tryz.func125 Tryz.ntmps125 ?_
  refine A3 q9 ?_
  refine w7 (A4 [] hs) q9 ?_
  refine A3 (j2 hb0 hb6) ?_
  refine w7 (A4 [] (Bm 6)) q9 ?_
  refine A3 q9 ?_
  exact Ad (A6 []) Tryz.results125
set_option maxRecDepth 10000
theorem Be {r:Int×Option V}(h:CH r):(∃v,r=(0,some v)∧v.right)∨∃c,c≠0∧r=(c,none):=by
 obtain⟨c,o⟩:=r
 cases o with
 |none=>exact .inr ⟨c,h,rfl⟩
 |some v=>exact .inl ⟨v,by rw[show c=0 from h.1],h.2⟩
end Go.Proofs.YtcejfdfmgmcinaaGreat
