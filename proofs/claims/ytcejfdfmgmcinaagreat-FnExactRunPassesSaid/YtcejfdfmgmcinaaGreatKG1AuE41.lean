/- Texts of this proof: G1A G1B G1C K01 K25 K26 K27 K28 E41. -/
import Derived.Test.YtcejfdfmgmcinaaGreatKM35uG99
import Derived.Laws.IdiomStrings
import Derived.Laws.Strings2
import Derived.Laws.Slices
import Derived.Lib.AppendStr
import Derived.Lib.Builder
import Derived.Laws.StructEq
import Derived.WideLaws
import Derived.Laws.Strings3
import Derived.Lib.IfaceEq
import Derived.Lib.IfaceNeq
set_option linter.all false
set_option maxHeartbeats 8000000
namespace Go.Proofs.YtcejfdfmgmcinaaGreat
section
open Go.RowKit
set_option maxRecDepth 10000
theorem Zs {t:V}(ht:t.right):AC Tryz.prog 209 [t.av] [] (EF (MI t)) []:=by
 obtain⟨s1,s2,_⟩:=Ba ht.1
 have hg:=B8 (OE (T2 t.kind))
 have h1:=S3 (NR t.kind)
 show AC _ _ _ _ (D7 0 (D9 (NR t.kind))) _
 generalize D9 (NR t.kind)=u at *
 have hk:t.kind=0∨t.kind=1∨t.kind=2∨t.kind=3∨t.kind=4∨t.kind=5∨t.kind=6:=by omega
 rcases hk with h | h | h | h | h | h | h
 all_goals
  rw[h]at h1
  refine A6 Tryz.func209 Tryz.ntmps209 h ?_
  refine v9 (A4 [] h1) q9 q9 ?_
  refine v9 (A4 [] hg) q9 q9 ?_
  exact Aa (A9 [] []) Tryz.results209 h
set_option maxRecDepth 10000
theorem TZ:∀(l:List V) (a:V),a.right→(∀x∈l,x.right)→CH (JS a l)
 | [],a,ha,_=>BT ha
 |k::l,a,ha,h=>by
  simp only[JS]
  rcases Bc (Qv ha (h k (by simp))) with⟨v,e,hv⟩ | ⟨c,hc,e⟩
  ·rw[e];exact TZ l v hv fun x hx=>h x (by simp[hx])
  ·rw[e];exact hc
theorem X9 {t:V}(h:t.right):CH (Pd t):=by
 unfold Pd
 split
 ·exact TZ _ _ CP fun x hx=>Bb h hx
 ·exact BJ (by decide)
theorem Xh {t:V}(ht:t.right):AC Tryz.prog 211 [t.av] [] (EF (Pd t)) []:=by
 have he:=a13 t
 unfold Pd
 by_cases h56:t.kind=5∨t.kind=6
 ·have b:(t.kind==5||t.kind==6)=true:=by simpa using h56
  rw[b,cond_true]at he
  rw[if_pos h56]
  have hr:∀x∈t.kids,x.right:=fun x hx=>Bb ht hx
  have hM:=(D4 ht).2
  obtain⟨r,hS⟩:∃r,JS BD t.kids=r:=⟨_,rfl⟩
  rw[hS]
  have hg:=B8 CP
  have h0:((0:Int) != 0)=false:=rfl
  refine A6 Tryz.func211 Tryz.ntmps211 q9 ?_
  refine v9 (A4 [] he) q9 h0 ?_
  refine v7 (A3 [] Lm) q9 q9 ?_
  refine v9 (A4 [] hg) q9 q9 ?_
  generalize t.kids=l at *
  refine Ar (κ:=Nat×V) (fun q=>⟨mkS 0 34 [(2,.ptr (2,0) 0),(5,.ptr (5,0) 0),(19,.c (.sl (l.map V.cs))),(20,.c (.int .i64 l.length)),(21,.c (.int .i64 q.1))],[((2,0),.box [.c (.int .i64 0),.c (.int .i64 0),.c (.int .i64 0),.c (.str ByteArray.empty),.nils,.nils]),((5,0),.box [.c (.int .i64 0),.c (.int .i64 q.2.kind),.c (.int .i64 q.2.num),.c (.str q.2.text),.c (.sl (q.2.keys.map Ae)),.c (.sl (q.2.kids.map V.cs))])]⟩)
   (fun q=>q.1≤l.length∧q.2.right∧JS q.2 (l.drop q.1)=r) (fun q=>l.length-q.1) (0,BD) ⟨Nat.zero_le _,CP,hS⟩ ?_ ?_
  ·exact Ac (Aj.of [((2,0),(2,0)),((5,0),(5,0))] []) hM
  ·rintro⟨k,a⟩ ⟨hk,ha,hs⟩
   dsimp only at hk ha hs ⊢
   by_cases hlt:k<l.length
   ·have hd:decide ((k:Int)<(l.length:Int))=true:=by simpa using hlt
    have hrw:A8 (l.map V.cs) 5 k=true:=by simp[A8,hlt,V.cs_eq]
    have hgt:(l.map V.cs)[k]? = some l[k].cs:=by simp[hlt]
    have hw:=Ad (k:=k) (by omega)
    have hur:=hr _ (List.getElem_mem hlt)
    rw[List.drop_eq_getElem_cons hlt]at hs
    have hadd:=Zz ha hur
    have hao:=Qv ha hur
    simp only[JS]at hs
    generalize l[k]=u at *
    rcases Bc hao with⟨v,e,hv⟩ | ⟨c,hc,e⟩
    ·rw[e]at hs
     rw[e,Bh]at hadd
     refine Ab (j3 hd hrw hgt) ?_
     refine v9 (A4 [] hadd) q9 (j2 h0 hw) ?_
     refine⟨(k+1,v),by dsimp only;omega,⟨by dsimp only;omega,hv,hs⟩,?_⟩
     exact Ac (Aj.of [((2,0),(2,0)),((5,0),(5,0))] []) hd
    ·have hcb:(c != 0)=true:=by simpa using hc
     rw[e]at hs
     rw[e,Bg]at hadd
     rw[←hs,Bg]
     refine Ab (j3 hd hrw hgt) ?_
     refine v9 (A4 [] hadd) q9 hcb ?_
     exact Aa (A9 [] []) Tryz.results211 hd
   ·have hd:decide ((k:Int)<(l.length:Int))=false:=by simpa using hlt
    rw[List.drop_of_length_le (by omega)]at hs
    have hs':r=(0,some a):=hs.symm
    rw[hs',Bh]
    refine Ab hd ?_
    exact Aa (A9 [] []) Tryz.results211 hd
 ·have b:(t.kind==5||t.kind==6)=false:=by simpa using h56
  have h6:((6:Int) != 0)=true:=rfl
  rw[b,cond_false]at he
  rw[if_neg h56]
  show AC _ _ _ _ (D7 6 BD) _
  refine A6 Tryz.func211 Tryz.ntmps211 q9 ?_
  refine v9 (A4 [] he) q9 h6 ?_
  refine v9 (A4 [] (Bj 6)) q9 q9 ?_
  exact Aa (A9 [] []) Tryz.results211 h6
set_option maxRecDepth 10000
theorem T0 {t:V}(ht:t.right):CH (JL t):=by
 have hkc:=AP t
 have hkl:=Bq t.kids
 have hM:=ht.2.1
 unfold JL
 split
 ·rename_i h6
  obtain⟨_,hko,hke⟩:=DI ht h6
  exact BT (Dq (RX hko) (by rw[List.length_map];omega))
 ·split
  ·exact BT (Dq (Ha (by omega)) (by rw[DH];omega))
  ·exact BJ (by decide)
theorem Y6 {t:V}(ht:t.right):AC Tryz.prog 208 [t.av] [] (EF (JL t)) []:=by
 unfold JL
 by_cases h6:t.kind=6
 ·rw[if_pos h6];exact V5 ht h6
 ·rw[if_neg h6]
  by_cases h5:t.kind=5
  ·rw[if_pos h5];exact V3 ht h5
  ·rw[if_neg h5];exact V4 h5 h6
def F7 (t:V):Int×Option V:=if t.kind=3 then IZ t.num else Eo 6
theorem Rw (t:V):CH (F7 t):=by
 unfold F7
 split
 ·exact Qc _
 ·exact BJ (by decide)
def C8 (d:Int) (t:V):Int×Option V :=
 if d=1 then Fj t else if d=2 then JL t else if d=3 then MI t else if d=4 then EV t else if d=5 then Pd t else if d=6 then F7 t else if d=7 then KQ t else if d=8 then Eo 1 else Eo 3
theorem Gm (d:Int) {t:V}(ht:t.right):CH (C8 d t):=by
 unfold C8
 repeat' split
 ·exact Kh ht
 ·exact T0 ht
 ·exact Ud t
 ·exact Kt ht
 ·exact X9 ht
 ·exact Rw t
 ·exact Np ht
 ·exact BJ (by decide)
 ·exact BJ (by decide)
theorem Vw {t:V}(ht:t.right):AC Tryz.prog 129 [.c (.int .i64 1),t.av] [] (EF (Fj t)) []:=by
 have h1:=Th ht
 have hok:=Kh ht
 generalize Fj t=r at *
 rcases Bc hok with⟨v,rfl,_⟩ | ⟨c,_,rfl⟩
 ·rw[Bh]at h1 ⊢
  refine AA Tryz.func129 Tryz.ntmps129 ?_
  refine Aq q9 ?_
  refine v9 (A4 [] h1) q9 q9 ?_
  exact Aa (A9 [] []) Tryz.results129 hok
 ·rw[Bg]at h1 ⊢
  refine AA Tryz.func129 Tryz.ntmps129 ?_
  refine Aq q9 ?_
  refine v9 (A4 [] h1) q9 q9 ?_
  exact Aa (A9 [] []) Tryz.results129 hok
theorem Vx {t:V}(ht:t.right):AC Tryz.prog 129 [.c (.int .i64 2),t.av] [] (EF (JL t)) []:=by
 have h1:=Y6 ht
 have hok:=T0 ht
 generalize JL t=r at *
 rcases Bc hok with⟨v,rfl,_⟩ | ⟨c,_,rfl⟩
 ·rw[Bh]at h1 ⊢
  refine AA Tryz.func129 Tryz.ntmps129 ?_
  refine Aq q9 ?_
  refine v9 (A4 [] h1) q9 q9 ?_
  exact Aa (A9 [] []) Tryz.results129 hok
 ·rw[Bg]at h1 ⊢
  refine AA Tryz.func129 Tryz.ntmps129 ?_
  refine Aq q9 ?_
  refine v9 (A4 [] h1) q9 q9 ?_
  exact Aa (A9 [] []) Tryz.results129 hok
theorem Vy {t:V}(ht:t.right):AC Tryz.prog 129 [.c (.int .i64 3),t.av] [] (EF (MI t)) []:=by
 have h1:=Zs ht
 have hok:=Ud t
 generalize MI t=r at *
 rcases Bc hok with⟨v,rfl,_⟩ | ⟨c,_,rfl⟩
 ·rw[Bh]at h1 ⊢
  refine AA Tryz.func129 Tryz.ntmps129 ?_
  refine Aq q9 ?_
  refine v9 (A4 [] h1) q9 q9 ?_
  exact Aa (A9 [] []) Tryz.results129 hok
 ·rw[Bg]at h1 ⊢
  refine AA Tryz.func129 Tryz.ntmps129 ?_
  refine Aq q9 ?_
  refine v9 (A4 [] h1) q9 q9 ?_
  exact Aa (A9 [] []) Tryz.results129 hok
theorem Vz {t:V}(ht:t.right):AC Tryz.prog 129 [.c (.int .i64 4),t.av] [] (EF (EV t)) []:=by
 have h1:=Zf ht
 have hok:=Kt ht
 generalize EV t=r at *
 rcases Bc hok with⟨v,rfl,_⟩ | ⟨c,_,rfl⟩
 ·rw[Bh]at h1 ⊢
  refine AA Tryz.func129 Tryz.ntmps129 ?_
  refine Aq q9 ?_
  refine v9 (A4 [] h1) q9 q9 ?_
  exact Aa (A9 [] []) Tryz.results129 hok
 ·rw[Bg]at h1 ⊢
  refine AA Tryz.func129 Tryz.ntmps129 ?_
  refine Aq q9 ?_
  refine v9 (A4 [] h1) q9 q9 ?_
  exact Aa (A9 [] []) Tryz.results129 hok
theorem VB {t:V}(ht:t.right):AC Tryz.prog 129 [.c (.int .i64 5),t.av] [] (EF (Pd t)) []:=by
 have h1:=Xh ht
 have hok:=X9 ht
 generalize Pd t=r at *
 rcases Bc hok with⟨v,rfl,_⟩ | ⟨c,_,rfl⟩
 ·rw[Bh]at h1 ⊢
  refine AA Tryz.func129 Tryz.ntmps129 ?_
  refine Aq q9 ?_
  refine v9 (A4 [] h1) q9 q9 ?_
  exact Aa (A9 [] []) Tryz.results129 hok
 ·rw[Bg]at h1 ⊢
  refine AA Tryz.func129 Tryz.ntmps129 ?_
  refine Aq q9 ?_
  refine v9 (A4 [] h1) q9 q9 ?_
  exact Aa (A9 [] []) Tryz.results129 hok
theorem VD {t:V}(ht:t.right):AC Tryz.prog 129 [.c (.int .i64 7),t.av] [] (EF (KQ t)) []:=by
 have h1:=XA ht
 have hok:=Np ht
 generalize KQ t=r at *
 rcases Bc hok with⟨v,rfl,_⟩ | ⟨c,_,rfl⟩
 ·rw[Bh]at h1 ⊢
  refine AA Tryz.func129 Tryz.ntmps129 ?_
  refine Aq q9 ?_
  refine v9 (A4 [] h1) q9 q9 ?_
  exact Aa (A9 [] []) Tryz.results129 hok
 ·rw[Bg]at h1 ⊢
  refine AA Tryz.func129 Tryz.ntmps129 ?_
  refine Aq q9 ?_
  refine v9 (A4 [] h1) q9 q9 ?_
  exact Aa (A9 [] []) Tryz.results129 hok
theorem VC {t:V}(ht:t.right):AC Tryz.prog 129 [.c (.int .i64 6),t.av] [] (EF (F7 t)) []:=by
 unfold F7
 by_cases h3:t.kind=3
 ·have hb:(t.kind != 3)=false:=by simp[h3]
  rw[if_pos h3]
  have h1:=VV t.num (Gs ht)
  have hok:=Qc t.num
  generalize IZ t.num=r at *
  rcases Bc hok with⟨v,rfl,_⟩ | ⟨c,_,rfl⟩
  ·rw[Bh]at h1 ⊢
   refine AA Tryz.func129 Tryz.ntmps129 ?_
   refine Aq hb ?_
   refine v9 (A4 [] h1) q9 q9 ?_
   exact Aa (A9 [] []) Tryz.results129 hok
  ·rw[Bg]at h1 ⊢
   refine AA Tryz.func129 Tryz.ntmps129 ?_
   refine Aq hb ?_
   refine v9 (A4 [] h1) q9 q9 ?_
   exact Aa (A9 [] []) Tryz.results129 hok
 ·have hb:(t.kind != 3)=true:=by simpa using h3
  rw[if_neg h3]
  show AC _ _ _ _ (D7 6 BD) _
  refine AA Tryz.func129 Tryz.ntmps129 ?_
  refine Aq hb ?_
  refine v9 (A4 [] (Bj 6)) q9 q9 ?_
  exact Aa (A9 [] []) Tryz.results129 hb
theorem VE (t:V):AC Tryz.prog 129 [.c (.int .i64 8),t.av] [] (D7 1 BD) []:=by
 have hok:0=0:=rfl
 refine AA Tryz.func129 Tryz.ntmps129 ?_
 refine Aq q9 ?_
 refine v9 (A4 [] (Bj 1)) q9 q9 ?_
 exact Aa (A9 [] []) Tryz.results129 hok
theorem Yz (d:Int) {t:V}(ht:t.right):AC Tryz.prog 129 [.c (.int .i64 d),t.av] [] (EF (C8 d t)) []:=by
 unfold C8
 by_cases h1:d=1
 ·subst h1;exact Vw ht
 by_cases h2:d=2
 ·subst h2;exact Vx ht
 by_cases h3:d=3
 ·subst h3;exact Vy ht
 by_cases h4:d=4
 ·subst h4;exact Vz ht
 by_cases h5:d=5
 ·subst h5;exact VB ht
 by_cases h6:d=6
 ·subst h6;exact VC ht
 by_cases h7:d=7
 ·subst h7;exact VD ht
 by_cases h8:d=8
 ·subst h8;exact VE t
 rw[if_neg h1,if_neg h2,if_neg h3,if_neg h4,if_neg h5,if_neg h6,if_neg h7,if_neg h8]
 show AC _ _ _ _ (D7 3 BD) _
 have b1:(d==1)=false:=by simpa using h1
 have b2:(d==2)=false:=by simpa using h2
 have b3:(d==3)=false:=by simpa using h3
 have b4:(d==4)=false:=by simpa using h4
 have b5:(d==5)=false:=by simpa using h5
 have b6:(d==6)=false:=by simpa using h6
 have b7:(d==7)=false:=by simpa using h7
 have b8:(d==8)=false:=by simpa using h8
 refine A6 Tryz.func129 Tryz.ntmps129 (j8 b1 b2 b3 b4 b5 b6 b7 b8) ?_
 refine v9 (A4 [] (Bj 3)) q9 q9 ?_
 exact Aa (A9 [] []) Tryz.results129 b1
def vOf (val:List CellD):V:=match (dec val).2 with
 |some t=>t
 |none=>BD
theorem N2 {t:V}(h:t.right):vOf t.enc=t:=by unfold vOf;rw[show dec t.enc=(0,some t) from WE h.1 h.2.1 h.2.2]
def AH (v:V):CT:=.mk 2 0 v.enc []
def Bo:CT:=.mk 17 0 [] []
def ET (r:Int×Option V):Option CT:=match r with
 | (c,some v)=>if c=0 then some (AH v) else none
 | (_,none)=>none
def CE (t:V):Bool:=t.kind != 0&&t.kind != 1
def CS (op num:Int) (val:List CellD):List CT→Option CT
 | [a]=>if op=10 then (if a.op=17 then some (AH (AY [])) else if a.op=2 then ET (Co (AY [vOf a.val])) else none) else none
 | [a,b]=>if a.op=2∧b.op=2 then (if op=6 then ET (JZ num (vOf a.val) (vOf b.val)) else if op=7 then ET (Cu (vOf a.val) (vOf b.val)) else if op=11 then ET (Dw (vOf a.val) (vOf val).text (vOf b.val)) else none) else none
 | [a,b,c]=>if op=12∧a.op=2 then some (if CE (vOf a.val) then b else c) else none
 |_=>none
def GH (op:Int):List CT→Option CT
 | [a,b]=>if op=3 then (if a.op=1 then some b else if b.op=1 then some a else if a.op=2∧b.op=2 then some b else if a.op=2∧b.op=16 then ET (C8 b.num (vOf a.val)) else none) else none
 |_=>none
def Ee (op:Int):List CT→Option CT
 | [a]=>if op=8∨op=9 then (if a.op=17 then some Bo else none) else none
 | [a,b] =>
  if op=3∨op=7∨op=11∨op=14 then (if a.op=17 then some Bo else none)
  else if op=6 then (if b.op=17 then some Bo else none)
  else if op=4 then (if a.op=17 then some b else if b.op=17 then some a else none)
  else if op=5 then (if a.op=17 then some b else if a.op=2 then some (if CE (vOf a.val) then a else b) else none) else none
 | [a,b,_]=>if op=12 then (if a.op=17 then some Bo else none) else if op=13 then (if b.op=17 then some Bo else none) else none
 |_=>none
def Lv (op:Int):List CT→Option CT
 | [a]=>if op=9∧(a.op=2∨a.op=1∨a.op=15∨a.op=17∨a.op=9) then some a else none
 |_=>none
def AQ (pass:Int) (op num:Int) (val:List CellD) (kids:List CT):Option CT :=
 if pass=1 then CS op num val kids else if pass=2 then GH op kids else if pass=3 then Ee op kids else Lv op kids
theorem Ni {v:V}(h:v.right):(AH v).ok:=by
 unfold AH CT.ok
 refine⟨⟨by omega,.inr rfl,fun h=>absurd h (by decide),fun _=>⟨v,h,rfl,fun h=>absurd h (by decide)⟩,rfl⟩,rfl,by unfold FO;trivial⟩
theorem SB:Bo.ok:=by
 unfold Bo CT.ok
 exact⟨⟨by omega,.inr rfl,fun _=>rfl,fun h=>absurd h (by decide),rfl⟩,rfl,by unfold FO;trivial⟩
theorem K5 (v:V):(AH v).size=1:=by unfold AH;rw[CT.size,Ah]
theorem QR:Bo.size=1:=by unfold Bo;rw[CT.size,Ah]
theorem De {a:CT}(h:a.ok) (h2:a.op=2):∃v:V,v.right∧a.val=v.enc∧vOf a.val=v∧a=AH v:=by
 cases a with
 |mk op num val kids =>
  have h2:op=2:=h2
  subst h2
  unfold CT.ok at h
  obtain⟨h1,hl,_⟩:=h
  obtain⟨v,hv,e,_⟩:=h1.hasVal rfl
  have hn:num=0:=h1.hasNum.resolve_left (by decide)
  have hk:kids=[]:=List.eq_nil_of_length_eq_zero hl
  subst hn hk e
  exact⟨v,hv,rfl,N2 hv,rfl⟩
theorem a2l {r:Int×Option V}(h:CH r) {q:CT}(hq:ET r=some q):∃v:V,v.right∧r=okR v∧q=AH v:=by
 obtain⟨c,o⟩:=r
 cases o with
 |none=>cases hq
 |some v =>
  obtain⟨rfl,hv⟩:=h
  unfold ET at hq
  simp only[if_true]at hq
  cases hq
  exact⟨v,hv,rfl,rfl⟩
theorem IS {r:Int×Option V}(h:CH r) {q:CT}(hq:ET r=some q) {n:Nat}(hn:1≤n):q.ok∧q.size≤n:=by
 obtain⟨v,hv,_,rfl⟩:=a2l h hq
 exact⟨Ni hv,by rw[K5];exact hn⟩
theorem LX:(AY []).right:=by
 refine⟨Un (S6.2 (by simp)) (by simp),?_,?_⟩
 ·show Aw []+1≤200
  simp[Aw]
 ·show AW []+1≤20
  simp[AW]
theorem f7:JA CS:=by
 intro op num val kids q h hq
 have hsz:=(CT.mk op num val kids).size_pos
 unfold CT.ok at h
 obtain⟨h1,hl,hk⟩:=h
 rw[B4]at hk
 unfold CS at hq
 split at hq
 ·rename_i a
  split at hq
  ·split at hq
   ·cases hq
    exact⟨Ni LX,by rw[K5];exact hsz⟩
   ·split at hq
    ·rename_i h2
     obtain⟨v,hv,_,e,_⟩:=De (hk a (by simp)) h2
     rw[e]at hq
     exact IS (El (J7 fun x hx=>by rw[List.mem_singleton.1 hx];exact Cd hv)) hq hsz
    ·cases hq
  ·cases hq
 ·rename_i a b
  split at hq
  ·rename_i h2
   obtain⟨v,hv,_,e,_⟩:=De (hk a (by simp)) h2.1
   obtain⟨u,hu,_,e2,_⟩:=De (hk b (by simp)) h2.2
   rw[e,e2]at hq
   split at hq
   ·exact IS (Qz _ hv hu) hq hsz
   ·split at hq
    ·exact IS (L4 hv _) hq hsz
    ·split at hq
     ·rename_i h11
      subst h11
      obtain⟨t,ht,e3,k4⟩:=h1.hasVal rfl
      subst e3
      rw[N2 ht]at hq
      exact IS (Jr hv hu (Du ht)) hq hsz
     ·cases hq
  ·cases hq
 ·rename_i a b c
  split at hq
  ·cases hq
   simp only[CT.size,Ah]
   split
   ·exact⟨hk b (by simp),by omega⟩
   ·exact⟨hk c (by simp),by omega⟩
  ·cases hq
 ·cases hq
theorem a0s:JA fun op _ _ kids=>GH op kids:=by
 intro op num val kids q h hq
 have hsz:=(CT.mk op num val kids).size_pos
 unfold CT.ok at h
 obtain⟨h1,hl,hk⟩:=h
 rw[B4]at hk
 dsimp only at hq
 unfold GH at hq
 split at hq
 ·rename_i a b
  simp only[CT.size,Ah]at hsz ⊢
  have ha:=hk a (by simp)
  have hb:=hk b (by simp)
  split at hq
  ·split at hq
   ·cases hq;exact⟨hb,by omega⟩
   ·split at hq
    ·cases hq;exact⟨ha,by omega⟩
    ·split at hq
     ·cases hq;exact⟨hb,by omega⟩
     ·split at hq
      ·rename_i h2
       obtain⟨v,hv,_,e,_⟩:=De ha h2.1
       rw[e]at hq
       exact IS (Gm _ hv) hq (by omega)
      ·cases hq
  ·cases hq
 ·cases hq
theorem ZO:JA fun op _ _ kids=>Ee op kids:=by
 intro op num val kids q h hq
 have hsz:=(CT.mk op num val kids).size_pos
 have es:=QR
 unfold CT.ok at h
 obtain⟨h1,hl,hk⟩:=h
 rw[B4]at hk
 dsimp only at hq
 unfold Ee at hq
 have he:Bo.ok∧Bo.size≤(CT.mk op num val kids).size:=⟨SB,by omega⟩
 split at hq
 ·split at hq
  ·split at hq
   ·cases hq;exact he
   ·cases hq
  ·cases hq
 ·rename_i a b
  have ha:a.ok∧a.size≤(CT.mk op num val [a,b]).size:=⟨hk a (by simp),by simp only[CT.size,Ah];omega⟩
  have hb:b.ok∧b.size≤(CT.mk op num val [a,b]).size:=⟨hk b (by simp),by simp only[CT.size,Ah];omega⟩
  repeat' split at hq
  all_goals first | (cases hq;done) | (cases hq;exact he) | (cases hq;exact ha) | (cases hq;exact hb) | (cases hq;split<;>first | exact ha | exact hb)
 ·repeat' split at hq
  all_goals first | (cases hq;done) | (cases hq;exact he)
 ·cases hq
theorem a3j:JA fun op _ _ kids=>Lv op kids:=by
 intro op num val kids q h hq
 unfold CT.ok at h
 obtain⟨h1,hl,hk⟩:=h
 rw[B4]at hk
 dsimp only at hq
 unfold Lv at hq
 split at hq
 ·rename_i a
  split at hq
  ·cases hq
   exact⟨hk _ (by simp),by simp only[CT.size,Ah];omega⟩
  ·cases hq
 ·cases hq
theorem Hi (pass:Int):JA (AQ pass):=by
 intro op num val kids q h hq
 unfold AQ at hq
 split at hq
 ·exact f7 _ _ _ _ _ h hq
 ·split at hq
  ·exact a0s _ _ _ _ _ h hq
  ·split at hq
   ·exact ZO _ _ _ _ _ h hq
   ·exact a3j _ _ _ _ _ h hq
set_option maxRecDepth 10000
theorem Jv (v:V):AC Tryz.prog 124 [v.av] [] (.c (.bool (CE v))) []:=by
 unfold CE
 cases h1:(v.kind != 0)<;>cases h2:(v.kind != 1)
 all_goals
  refine A6 Tryz.func124 Tryz.ntmps124 (j2 h1 h2) ?_
  exact Ag (A5 []) Tryz.results124
theorem Tv (p:PT):AC Tryz.prog 193 [p.av] [] (.c (.bool (!(p.d.op==2)))) []:=by
 have h:=B1 p 2
 generalize (p.d.op==2)=q at *
 refine A6 Tryz.func193 Tryz.ntmps193 q9 ?_
 refine v7 (A3 [] h) q9 q9 ?_
 exact Ag (A5 []) Tryz.results193
theorem BC (p:PT) {v:V}(hv:v.right) (he:p.d.val=v.enc):AC Tryz.prog 122 [p.av] [] v.av []:=by
 have hO:=Lw v.enc (Jf (Cd hv)) (t:=v) (by rw[Jo hv])
 unfold PT.av
 rw[he]
 generalize v.enc=W at *
 refine A6 Tryz.func122 Tryz.ntmps122 q9 ?_
 refine v9 (A4 [] hO) q9 q9 ?_
 exact Ag (A5 []) Tryz.results122
set_option maxRecDepth 10000
theorem HK (v:V):(EK v).av=.agg [.c (.int .i64 2),.c (.int .i64 0),.c (.int .i64 0),.c (.int .i64 0),.c (.int .i64 0),.c (.sl (v.enc.map CellD.cs)),.c (.sl [])]:=rfl
theorem Ir {v:V}(hv:v.right):AC Tryz.prog 128 [v.av] [] (EK v).av []:=by
 have hc:=Na 200 v hv.2.1 (Nat.le_trans hv.2.1 (by decide)) (NE v (Cd hv))
 rw[HK]
 generalize v.enc=W at *
 refine A6 Tryz.func128 Tryz.ntmps128 q9 ?_
 refine v12 (AU [] hc) q9 q9 ?_
 exact Aa (A9 [] [(4,0)]) Tryz.results128 hv
set_option maxRecDepth 10000
theorem VU (l:List PT) {k:Nat}(h:k<l.length):A8 (l.map PT.cs) 7 k=true∧(l.map PT.cs)[k]? = some [.int .i64 l[k].d.op,.int .i64 l[k].d.a,.int .i64 l[k].d.b,.int .i64 l[k].d.c,.int .i64 l[k].d.num,.sl (l[k].d.val.map CellD.cs),.sl (l[k].kids.map PT.cs)]:=⟨by simp[A8,h,PT.cs_eq],by rw[List.getElem?_map,List.getElem?_eq_getElem h,Option.map_some,PT.cs_eq]⟩
theorem Rk (f:FuncId) (hcal:A7 Tryz.prog f=true) (d:PT→Bool) (l:List PT) (hl:l.length≤1000000) (hd:∀p∈l,AC Tryz.prog f [p.av] [] (.c (.bool (d p))) []) :
  AC Tryz.prog 262 [.c (.sl (l.map PT.cs)),.clo f []] [] (.c (.int .i64 (DM d l))) []:=by
 have hln:(l.map PT.cs).length=l.length:=by simp
 refine A6 Tryz.func262 Tryz.ntmps262 q9 ?_
 refine Ar (κ:=Nat) (fun k=>⟨mkS 0 19 [(0,.c (.sl (l.map PT.cs))),(1,.clo f []),(7,.c (.int .i64 l.length)),(8,.c (.int .i64 k))],[]⟩)
  (fun k=>k≤l.length∧∀j (h:j<l.length),j<k→d l[j]=false) (fun k=>l.length-k) 0 ⟨Nat.zero_le _,by intro j h hj;omega⟩ ?_ ?_
 ·exact Ac (Aj.of [] []) hln
 ·rintro k ⟨hk,hno⟩
  by_cases hlt:k<l.length
  ·have hdk:decide ((k:Int)<(l.length:Int))=true:=by simpa using hlt
   have hw:=Ad (k:=k) (by omega)
   obtain⟨hr,hg⟩:=VU l hlt
   have hc:=hd l[k] (List.getElem_mem hlt)
   unfold PT.av at hc
   cases hb:d l[k] with
   |true =>
    rw[hb]at hc
    have hix:DM d l=k:=by
     unfold DM
     rw[List.findIdx?_eq_some_iff_getElem.2 ⟨hlt,hb,fun j hj=>by simp[hno j (by omega) hj]⟩]
    rw[hix]
    refine Ab (j3 hdk hr hg) ?_
    refine v7 (A3 [] hc) hcal q9 ?_
    exact Ag (A5 []) Tryz.results262
   |false =>
    rw[hb]at hc
    refine Ab (j3 hdk hr hg) ?_
    refine v7 (A3 [] hc) hcal hw ?_
    refine⟨k+1,by omega,⟨by omega,fun j h hj=>?_⟩,?_⟩
    ·by_cases hjk:j=k
     ·subst hjk;exact hb
     ·exact hno j h (by omega)
    ·exact Ac (Aj.of [] []) hw
  ·have hdk:decide ((k:Int)<(l.length:Int))=false:=by simpa using hlt
   have hix:DM d l = -1:=by
    unfold DM
    rw[List.findIdx?_eq_none_iff.2 fun x hx=>by
     obtain⟨j,h1,rfl⟩:=List.mem_iff_getElem.1 hx
     simpa using hno j h1 (by omega)]
   rw[hix]
   exact FC hdk (A5 []) Tryz.results262
theorem Mh {α:Type}(d:α→Bool) (l:List α):decide (DM d l≥0)=l.any d:=by
 unfold DM
 cases hf:l.findIdx? d with
 |none =>
  rw[List.findIdx?_eq_none_iff]at hf
  have:l.any d=false:=by rw[List.any_eq_false];intro x hx;simp[hf x hx]
  rw[this];rfl
 |some k =>
  obtain⟨h1,h2,_⟩:=List.findIdx?_eq_some_iff_getElem.1 hf
  have:l.any d=true:=List.any_eq_true.2 ⟨_,List.getElem_mem h1,h2⟩
  rw[this]
  simp
theorem ML (f:FuncId) (hcal:A7 Tryz.prog f=true) (d:PT→Bool) (l:List PT) (hl:l.length≤1000000) (hd:∀p∈l,AC Tryz.prog f [p.av] [] (.c (.bool (d p))) []) :
  AC Tryz.prog 192 [.c (.sl (l.map PT.cs)),.clo f []] [] (.c (.bool (l.any d))) []:=by
 have h:=Rk f hcal d l hl hd
 have he:=Mh d l
 generalize DM d l=r,l.any d=q at *
 refine A6 Tryz.func192 Tryz.ntmps192 q9 ?_
 refine v7 (A3 [] h) hcal he ?_
 exact Ag (A5 []) Tryz.results192
set_option maxRecDepth 10000
theorem OW (p:PT) {k:Nat}(hk:k≤p.kids.length) (hl:p.kids.length≤1000000):AC Tryz.prog 119 [p.av,.c (.int .i64 k)] [] (.c (.bool ((p.kids.take k).all fun x=>x.d.op==2))) []:=by
 have h:=ML 193 rfl (fun x=>!(x.d.op==2)) (p.kids.take k) (by rw[List.length_take];omega) (fun x _=>Tv x)
 have he:((p.kids.take k).all fun x=>x.d.op==2) = !((p.kids.take k).any fun x=>!(x.d.op==2)):=by
  rw[List.any_eq_not_all_not]
  simp
 rw[he]
 rw[List.map_take]at h
 generalize ((p.kids.take k).any fun x=>!(x.d.op==2))=q at *
 have hall:((p.kids.map PT.cs).all fun r=>r.length==7)=true:=by simp[PT.cs_eq]
 have hk2:(k:Int)≤((p.kids.map PT.cs).length:Int):=by rw[List.length_map];omega
 have hk3:k≤(p.kids.map PT.cs).length:=by rw[List.length_map];exact hk
 have h0:(0:Int)≤(k:Int):=by omega
 unfold PT.av
 clear he hk
 generalize p.kids.map PT.cs=rows at *
 refine A6 Tryz.func119 Tryz.ntmps119 (j6 hall hk2 hk3 h0 @Int.toNat_natCast @List.drop_zero.{0}) ?_
 refine v7 (A3 [] h) q9 q9 ?_
 exact Ag (A5 []) Tryz.results119
end
section
open Go.RowKit Go.ChangeMaps Go.MapKept Go.Maps
open Go.WideElems (Fit rd rg pl)
def C.val:C→Option Value
 | .int k n=>some (.int k n)
 | .bool b=>some (.bool b)
 | .str s=>some (.string s)
 |_=>none
end
end Go.Proofs.YtcejfdfmgmcinaaGreat
