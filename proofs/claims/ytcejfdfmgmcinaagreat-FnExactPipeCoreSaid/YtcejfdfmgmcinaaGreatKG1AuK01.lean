/- Texts of this proof: G1A G1B G1C K01. -/
import Derived.Test.YtcejfdfmgmcinaaGreatKM35uG99
set_option linter.all false
namespace Go.Proofs.YtcejfdfmgmcinaaGreat
open Go.RowKit
set_option maxRecDepth 10000
theorem XF {t:V}(ht:t.right):AC Tryz.prog 209 [t.av] [] (FM (Lt t)) []:=by
 obtain⟨s1,s2,_⟩:=B6 ht.1
 have hg:=D8 (Nr (Rw t.kind))
 have h1:=Qy (MD t.kind)
 show AC _ _ _ _ (Dq 0 (CG (MD t.kind))) _
 generalize CG (MD t.kind)=u at *
 have hk:t.kind=0∨t.kind=1∨t.kind=2∨t.kind=3∨t.kind=4∨t.kind=5∨t.kind=6:=by omega
 rcases hk with h | h | h | h | h | h | h
 all_goals
  rw[h]at h1
  refine A7 Tryz.func209 Tryz.ntmps209 h ?_
  refine v9 (A4 [] h1) q9 q9 ?_
  refine v9 (A4 [] hg) q9 q9 ?_
  exact A9 (A8 [] []) Tryz.results209 h
set_option maxRecDepth 10000
theorem Ss:∀(l:List V) (a:V),a.right→(∀x∈l,x.right)→CH (J0 a l)
 | [],a,ha,_=>BH ha
 |k::l,a,ha,h=>by
  simp only[J0]
  rcases B7 (Ph ha (h k (by simp))) with⟨v,e,hv⟩ | ⟨c,hc,e⟩
  ·rw[e];exact Ss l v hv fun x hx=>h x (by simp[hx])
  ·rw[e];exact hc
theorem Vx {t:V}(h:t.right):CH (NY t):=by
 unfold NY
 split
 ·exact Ss _ _ Dr fun x hx=>Bf h hx
 ·exact Bv (by decide)
theorem VD {t:V}(ht:t.right):AC Tryz.prog 211 [t.av] [] (FM (NY t)) []:=by
 have he:=ZF t
 unfold NY
 by_cases h56:t.kind=5∨t.kind=6
 ·have b:(t.kind==5||t.kind==6)=true:=by simpa using h56
  rw[b,cond_true]at he
  rw[if_pos h56]
  have hr:∀x∈t.kids,x.right:=fun x hx=>Bf ht hx
  have hM:=(Da ht).2
  obtain⟨r,hS⟩:∃r,J0 BG t.kids=r:=⟨_,rfl⟩
  rw[hS]
  have hg:=D8 Dr
  have h0:((0:Int) != 0)=false:=rfl
  refine A7 Tryz.func211 Tryz.ntmps211 q9 ?_
  refine v9 (A4 [] he) q9 h0 ?_
  refine v7 (A3 [] b9) q9 q9 ?_
  refine v9 (A4 [] hg) q9 q9 ?_
  generalize t.kids=l at *
  refine Ar (κ:=Nat×V) (fun q=>⟨mkS 0 34 [(2,.ptr (2,0) 0),(5,.ptr (5,0) 0),(19,.c (.sl (l.map V.cs))),(20,.c (.int .i64 l.length)),(21,.c (.int .i64 q.1))],[((2,0),.box [.c (.int .i64 0),.c (.int .i64 0),.c (.int .i64 0),.c (.str ByteArray.empty),.nils,.nils]),((5,0),.box [.c (.int .i64 0),.c (.int .i64 q.2.kind),.c (.int .i64 q.2.num),.c (.str q.2.text),.c (.sl (q.2.keys.map Ad)),.c (.sl (q.2.kids.map V.cs))])]⟩)
   (fun q=>q.1≤l.length∧q.2.right∧J0 q.2 (l.drop q.1)=r) (fun q=>l.length-q.1) (0,BG) ⟨Nat.zero_le _,Dr,hS⟩ ?_ ?_
  ·exact Ab (Ah.of [((2,0),(2,0)),((5,0),(5,0))] []) hM
  ·rintro⟨k,a⟩ ⟨hk,ha,hs⟩
   dsimp only at hk ha hs ⊢
   by_cases hlt:k<l.length
   ·have hd:decide ((k:Int)<(l.length:Int))=true:=by simpa using hlt
    have hrw:Aa (l.map V.cs) 5 k=true:=by simp[Aa,hlt,V.cs_eq]
    have hgt:(l.map V.cs)[k]? = some l[k].cs:=by simp[hlt]
    have hw:=Af (k:=k) (by omega)
    have hur:=hr _ (List.getElem_mem hlt)
    rw[List.drop_eq_getElem_cons hlt]at hs
    have hadd:=z7 ha hur
    have hao:=Ph ha hur
    simp only[J0]at hs
    generalize l[k]=u at *
    rcases B7 hao with⟨v,e,hv⟩ | ⟨c,hc,e⟩
    ·rw[e]at hs
     rw[e,Cf]at hadd
     refine Ac (j3 hd hrw hgt) ?_
     refine v9 (A4 [] hadd) q9 (j2 h0 hw) ?_
     refine⟨(k+1,v),by dsimp only;omega,⟨by dsimp only;omega,hv,hs⟩,?_⟩
     exact Ab (Ah.of [((2,0),(2,0)),((5,0),(5,0))] []) hd
    ·have hcb:(c != 0)=true:=by simpa using hc
     rw[e]at hs
     rw[e,Ce]at hadd
     rw[←hs,Ce]
     refine Ac (j3 hd hrw hgt) ?_
     refine v9 (A4 [] hadd) q9 hcb ?_
     exact A9 (A8 [] []) Tryz.results211 hd
   ·have hd:decide ((k:Int)<(l.length:Int))=false:=by simpa using hlt
    rw[List.drop_of_length_le (by omega)]at hs
    have hs':r=(0,some a):=hs.symm
    rw[hs',Cf]
    refine Ac hd ?_
    exact A9 (A8 [] []) Tryz.results211 hd
 ·have b:(t.kind==5||t.kind==6)=false:=by simpa using h56
  have h6:((6:Int) != 0)=true:=rfl
  rw[b,cond_false]at he
  rw[if_neg h56]
  show AC _ _ _ _ (Dq 6 BG) _
  refine A7 Tryz.func211 Tryz.ntmps211 q9 ?_
  refine v9 (A4 [] he) q9 h6 ?_
  refine v9 (A4 [] (D2 6)) q9 q9 ?_
  exact A9 (A8 [] []) Tryz.results211 h6
set_option maxRecDepth 10000
theorem Ru {t:V}(ht:t.right):CH (IS t):=by
 have hkc:=AN t
 have hkl:=Bq t.kids
 have hM:=ht.2.1
 unfold IS
 split
 ·rename_i h6
  obtain⟨_,hko,hke⟩:=DC ht h6
  exact BH (CY (Qu hko) (by rw[List.length_map];omega))
 ·split
  ·exact BH (CY (Gy (by omega)) (by rw[De];omega))
  ·exact Bv (by decide)
theorem Wk {t:V}(ht:t.right):AC Tryz.prog 208 [t.av] [] (FM (IS t)) []:=by
 unfold IS
 by_cases h6:t.kind=6
 ·rw[if_pos h6];exact Tt ht h6
 ·rw[if_neg h6]
  by_cases h5:t.kind=5
  ·rw[if_pos h5];exact Tr ht h5
  ·rw[if_neg h5];exact Ts h5 h6
def Ev (t:V):Int×Option V:=if t.kind=3 then I6 t.num else Ek 6
theorem Q4 (t:V):CH (Ev t):=by
 unfold Ev
 split
 ·exact OS _
 ·exact Bv (by decide)
def BX (d:Int) (t:V):Int×Option V :=
 if d=1 then EH t else if d=2 then IS t else if d=3 then Lt t else if d=4 then Eh t else if d=5 then NY t else if d=6 then Ev t else if d=7 then JQ t else if d=8 then Ek 1 else Ek 3
theorem FG (d:Int) {t:V}(ht:t.right):CH (BX d t):=by
 unfold BX
 repeat' split
 ·exact Jl ht
 ·exact Ru ht
 ·exact SD t
 ·exact Jy ht
 ·exact Vx ht
 ·exact Q4 t
 ·exact Me ht
 ·exact Bv (by decide)
 ·exact Bv (by decide)
theorem TV {t:V}(ht:t.right):AC Tryz.prog 129 [.c (.int .i64 1),t.av] [] (FM (EH t)) []:=by
 have h1:=RO ht
 have hok:=Jl ht
 generalize EH t=r at *
 rcases B7 hok with⟨v,rfl,_⟩ | ⟨c,_,rfl⟩
 ·rw[Cf]at h1 ⊢
  refine AK Tryz.func129 Tryz.ntmps129 ?_
  refine AE q9 ?_
  refine v9 (A4 [] h1) q9 q9 ?_
  exact A9 (A8 [] []) Tryz.results129 hok
 ·rw[Ce]at h1 ⊢
  refine AK Tryz.func129 Tryz.ntmps129 ?_
  refine AE q9 ?_
  refine v9 (A4 [] h1) q9 q9 ?_
  exact A9 (A8 [] []) Tryz.results129 hok
theorem TW {t:V}(ht:t.right):AC Tryz.prog 129 [.c (.int .i64 2),t.av] [] (FM (IS t)) []:=by
 have h1:=Wk ht
 have hok:=Ru ht
 generalize IS t=r at *
 rcases B7 hok with⟨v,rfl,_⟩ | ⟨c,_,rfl⟩
 ·rw[Cf]at h1 ⊢
  refine AK Tryz.func129 Tryz.ntmps129 ?_
  refine AE q9 ?_
  refine v9 (A4 [] h1) q9 q9 ?_
  exact A9 (A8 [] []) Tryz.results129 hok
 ·rw[Ce]at h1 ⊢
  refine AK Tryz.func129 Tryz.ntmps129 ?_
  refine AE q9 ?_
  refine v9 (A4 [] h1) q9 q9 ?_
  exact A9 (A8 [] []) Tryz.results129 hok
theorem TX {t:V}(ht:t.right):AC Tryz.prog 129 [.c (.int .i64 3),t.av] [] (FM (Lt t)) []:=by
 have h1:=XF ht
 have hok:=SD t
 generalize Lt t=r at *
 rcases B7 hok with⟨v,rfl,_⟩ | ⟨c,_,rfl⟩
 ·rw[Cf]at h1 ⊢
  refine AK Tryz.func129 Tryz.ntmps129 ?_
  refine AE q9 ?_
  refine v9 (A4 [] h1) q9 q9 ?_
  exact A9 (A8 [] []) Tryz.results129 hok
 ·rw[Ce]at h1 ⊢
  refine AK Tryz.func129 Tryz.ntmps129 ?_
  refine AE q9 ?_
  refine v9 (A4 [] h1) q9 q9 ?_
  exact A9 (A8 [] []) Tryz.results129 hok
theorem TY {t:V}(ht:t.right):AC Tryz.prog 129 [.c (.int .i64 4),t.av] [] (FM (Eh t)) []:=by
 have h1:=Xv ht
 have hok:=Jy ht
 generalize Eh t=r at *
 rcases B7 hok with⟨v,rfl,_⟩ | ⟨c,_,rfl⟩
 ·rw[Cf]at h1 ⊢
  refine AK Tryz.func129 Tryz.ntmps129 ?_
  refine AE q9 ?_
  refine v9 (A4 [] h1) q9 q9 ?_
  exact A9 (A8 [] []) Tryz.results129 hok
 ·rw[Ce]at h1 ⊢
  refine AK Tryz.func129 Tryz.ntmps129 ?_
  refine AE q9 ?_
  refine v9 (A4 [] h1) q9 q9 ?_
  exact A9 (A8 [] []) Tryz.results129 hok
theorem TZ {t:V}(ht:t.right):AC Tryz.prog 129 [.c (.int .i64 5),t.av] [] (FM (NY t)) []:=by
 have h1:=VD ht
 have hok:=Vx ht
 generalize NY t=r at *
 rcases B7 hok with⟨v,rfl,_⟩ | ⟨c,_,rfl⟩
 ·rw[Cf]at h1 ⊢
  refine AK Tryz.func129 Tryz.ntmps129 ?_
  refine AE q9 ?_
  refine v9 (A4 [] h1) q9 q9 ?_
  exact A9 (A8 [] []) Tryz.results129 hok
 ·rw[Ce]at h1 ⊢
  refine AK Tryz.func129 Tryz.ntmps129 ?_
  refine AE q9 ?_
  refine v9 (A4 [] h1) q9 q9 ?_
  exact A9 (A8 [] []) Tryz.results129 hok
theorem U2 {t:V}(ht:t.right):AC Tryz.prog 129 [.c (.int .i64 7),t.av] [] (FM (JQ t)) []:=by
 have h1:=VX ht
 have hok:=Me ht
 generalize JQ t=r at *
 rcases B7 hok with⟨v,rfl,_⟩ | ⟨c,_,rfl⟩
 ·rw[Cf]at h1 ⊢
  refine AK Tryz.func129 Tryz.ntmps129 ?_
  refine AE q9 ?_
  refine v9 (A4 [] h1) q9 q9 ?_
  exact A9 (A8 [] []) Tryz.results129 hok
 ·rw[Ce]at h1 ⊢
  refine AK Tryz.func129 Tryz.ntmps129 ?_
  refine AE q9 ?_
  refine v9 (A4 [] h1) q9 q9 ?_
  exact A9 (A8 [] []) Tryz.results129 hok
theorem U1 {t:V}(ht:t.right):AC Tryz.prog 129 [.c (.int .i64 6),t.av] [] (FM (Ev t)) []:=by
 unfold Ev
 by_cases h3:t.kind=3
 ·have hb:(t.kind != 3)=false:=by simp[h3]
  rw[if_pos h3]
  have h1:=Uj t.num (FO ht)
  have hok:=OS t.num
  generalize I6 t.num=r at *
  rcases B7 hok with⟨v,rfl,_⟩ | ⟨c,_,rfl⟩
  ·rw[Cf]at h1 ⊢
   refine AK Tryz.func129 Tryz.ntmps129 ?_
   refine AE hb ?_
   refine v9 (A4 [] h1) q9 q9 ?_
   exact A9 (A8 [] []) Tryz.results129 hok
  ·rw[Ce]at h1 ⊢
   refine AK Tryz.func129 Tryz.ntmps129 ?_
   refine AE hb ?_
   refine v9 (A4 [] h1) q9 q9 ?_
   exact A9 (A8 [] []) Tryz.results129 hok
 ·have hb:(t.kind != 3)=true:=by simpa using h3
  rw[if_neg h3]
  show AC _ _ _ _ (Dq 6 BG) _
  refine AK Tryz.func129 Tryz.ntmps129 ?_
  refine AE hb ?_
  refine v9 (A4 [] (D2 6)) q9 q9 ?_
  exact A9 (A8 [] []) Tryz.results129 hb
theorem U3 (t:V):AC Tryz.prog 129 [.c (.int .i64 8),t.av] [] (Dq 1 BG) []:=by
 have hok:0=0:=rfl
 refine AK Tryz.func129 Tryz.ntmps129 ?_
 refine AE q9 ?_
 refine v9 (A4 [] (D2 1)) q9 q9 ?_
 exact A9 (A8 [] []) Tryz.results129 hok
theorem WO (d:Int) {t:V}(ht:t.right):AC Tryz.prog 129 [.c (.int .i64 d),t.av] [] (FM (BX d t)) []:=by
 unfold BX
 by_cases h1:d=1
 ·subst h1;exact TV ht
 by_cases h2:d=2
 ·subst h2;exact TW ht
 by_cases h3:d=3
 ·subst h3;exact TX ht
 by_cases h4:d=4
 ·subst h4;exact TY ht
 by_cases h5:d=5
 ·subst h5;exact TZ ht
 by_cases h6:d=6
 ·subst h6;exact U1 ht
 by_cases h7:d=7
 ·subst h7;exact U2 ht
 by_cases h8:d=8
 ·subst h8;exact U3 t
 rw[if_neg h1,if_neg h2,if_neg h3,if_neg h4,if_neg h5,if_neg h6,if_neg h7,if_neg h8]
 show AC _ _ _ _ (Dq 3 BG) _
 have b1:(d==1)=false:=by simpa using h1
 have b2:(d==2)=false:=by simpa using h2
 have b3:(d==3)=false:=by simpa using h3
 have b4:(d==4)=false:=by simpa using h4
 have b5:(d==5)=false:=by simpa using h5
 have b6:(d==6)=false:=by simpa using h6
 have b7:(d==7)=false:=by simpa using h7
 have b8:(d==8)=false:=by simpa using h8
 refine A7 Tryz.func129 Tryz.ntmps129 (j8 b1 b2 b3 b4 b5 b6 b7 b8) ?_
 refine v9 (A4 [] (D2 3)) q9 q9 ?_
 exact A9 (A8 [] []) Tryz.results129 b1
def vOf (val:List CellD):V:=match (dec val).2 with
 |some t=>t
 |none=>BG
theorem QC {t:V}(h:t.right):vOf t.enc=t:=by unfold vOf;rw[show dec t.enc=(0,some t) from V1 h.1 h.2.1 h.2.2]
def AG (v:V):CT:=.mk 2 0 v.enc []
def BK:CT:=.mk 17 0 [] []
def FD (r:Int×Option V):Option CT:=match r with
 | (c,some v)=>if c=0 then some (AG v) else none
 | (_,none)=>none
def F8 (t:V):Bool:=t.kind != 0&&t.kind != 1
def DU (op num:Int) (val:List CellD):List CT→Option CT
 | [a]=>if op=10 then (if a.op=17 then some (AG (B4 [])) else if a.op=2 then FD (CM (B4 [vOf a.val])) else none) else none
 | [a,b]=>if a.op=2∧b.op=2 then (if op=6 then FD (QJ num (vOf a.val) (vOf b.val)) else if op=7 then FD (Es (vOf a.val) (vOf b.val)) else if op=11 then FD (G8 (vOf a.val) (vOf val).text (vOf b.val)) else none) else none
 | [a,b,c]=>if op=12∧a.op=2 then some (if F8 (vOf a.val) then b else c) else none
 |_=>none
def FK (op:Int):List CT→Option CT
 | [a,b]=>if op=3 then (if a.op=1 then some b else if b.op=1 then some a else if a.op=2∧b.op=2 then some b else if a.op=2∧b.op=16 then FD (BX b.num (vOf a.val)) else none) else none
 |_=>none
def Gt (op:Int):List CT→Option CT
 | [a]=>if op=8∨op=9 then (if a.op=17 then some BK else none) else none
 | [a,b] =>
  if op=3∨op=7∨op=11∨op=14 then (if a.op=17 then some BK else none)
  else if op=6 then (if b.op=17 then some BK else none)
  else if op=4 then (if a.op=17 then some b else if b.op=17 then some a else none)
  else if op=5 then (if a.op=17 then some b else if a.op=2 then some (if F8 (vOf a.val) then a else b) else none) else none
 | [a,b,_]=>if op=12 then (if a.op=17 then some BK else none) else if op=13 then (if b.op=17 then some BK else none) else none
 |_=>none
def QB (op:Int):List CT→Option CT
 | [a]=>if op=9∧(a.op=2∨a.op=1∨a.op=15∨a.op=17∨a.op=9) then some a else none
 |_=>none
def B5 (pass:Int) (op num:Int) (val:List CellD) (kids:List CT):Option CT :=
 if pass=1 then DU op num val kids else if pass=2 then FK op kids else if pass=3 then Gt op kids else QB op kids
theorem M8 {v:V}(h:v.right):(AG v).ok:=by
 unfold AG CT.ok
 refine⟨⟨by omega,.inr rfl,fun h=>absurd h (by decide),fun _=>⟨v,h,rfl,fun h=>absurd h (by decide)⟩,rfl⟩,rfl,by unfold F7;trivial⟩
theorem Y7:BK.ok:=by
 unfold BK CT.ok
 exact⟨⟨by omega,.inr rfl,fun _=>rfl,fun h=>absurd h (by decide),rfl⟩,rfl,by unfold F7;trivial⟩
theorem J8 (v:V):(AG v).size=1:=by unfold AG;rw[CT.size,Ae]
theorem Pz:BK.size=1:=by unfold BK;rw[CT.size,Ae]
theorem CK {a:CT}(h:a.ok) (h2:a.op=2):∃v:V,v.right∧a.val=v.enc∧vOf a.val=v∧a=AG v:=by
 cases a with
 |mk op num val kids =>
  have h2:op=2:=h2
  subst h2
  unfold CT.ok at h
  obtain⟨h1,hl,_⟩:=h
  obtain⟨v,hv,e,_⟩:=h1.hasVal rfl
  have hn:num=0:=h1.hasNum.resolve_left (by decide)
  have hk:kids=[]:=List.eq_nil_of_length_eq_zero hl
  subst hn hk e
  exact⟨v,hv,rfl,QC hv,rfl⟩
theorem ZW {r:Int×Option V}(h:CH r) {q:CT}(hq:FD r=some q):∃v:V,v.right∧r=okR v∧q=AG v:=by
 obtain⟨c,o⟩:=r
 cases o with
 |none=>cases hq
 |some v =>
  obtain⟨rfl,hv⟩:=h
  unfold FD at hq
  simp only[if_true]at hq
  cases hq
  exact⟨v,hv,rfl,rfl⟩
theorem HX {r:Int×Option V}(h:CH r) {q:CT}(hq:FD r=some q) {n:Nat}(hn:1≤n):q.ok∧q.size≤n:=by
 obtain⟨v,hv,_,rfl⟩:=ZW h hq
 exact⟨M8 hv,by rw[J8];exact hn⟩
theorem Xa:(B4 []).right:=by
 refine⟨SP (QD.2 (by simp)) (by simp),?_,?_⟩
 ·show Am []+1≤200
  simp[Am]
 ·show AS []+1≤20
  simp[AS]
theorem Ye:IF DU:=by
 intro op num val kids q h hq
 have hsz:=(CT.mk op num val kids).size_pos
 unfold CT.ok at h
 obtain⟨h1,hl,hk⟩:=h
 rw[AY]at hk
 unfold DU at hq
 split at hq
 ·rename_i a
  split at hq
  ·split at hq
   ·cases hq
    exact⟨M8 Xa,by rw[J8];exact hsz⟩
   ·split at hq
    ·rename_i h2
     obtain⟨v,hv,_,e,_⟩:=CK (hk a (by simp)) h2
     rw[e]at hq
     exact HX (EG (LI fun x hx=>by rw[List.mem_singleton.1 hx];exact Cx hv)) hq hsz
    ·cases hq
  ·cases hq
 ·rename_i a b
  split at hq
  ·rename_i h2
   obtain⟨v,hv,_,e,_⟩:=CK (hk a (by simp)) h2.1
   obtain⟨u,hu,_,e2,_⟩:=CK (hk b (by simp)) h2.2
   rw[e,e2]at hq
   split at hq
   ·exact HX (XS _ hv hu) hq hsz
   ·split at hq
    ·exact HX (Rl hv _) hq hsz
    ·split at hq
     ·rename_i h11
      subst h11
      obtain⟨t,ht,e3,k4⟩:=h1.hasVal rfl
      subst e3
      rw[QC ht]at hq
      exact HX (OY hv hu (Ey ht)) hq hsz
     ·cases hq
  ·cases hq
 ·rename_i a b c
  split at hq
  ·cases hq
   simp only[CT.size,Ae]
   split
   ·exact⟨hk b (by simp),by omega⟩
   ·exact⟨hk c (by simp),by omega⟩
  ·cases hq
 ·cases hq
theorem N7:IF fun op _ _ kids=>FK op kids:=by
 intro op num val kids q h hq
 have hsz:=(CT.mk op num val kids).size_pos
 unfold CT.ok at h
 obtain⟨h1,hl,hk⟩:=h
 rw[AY]at hk
 dsimp only at hq
 unfold FK at hq
 split at hq
 ·rename_i a b
  simp only[CT.size,Ae]at hsz ⊢
  have ha:=hk a (by simp)
  have hb:=hk b (by simp)
  split at hq
  ·split at hq
   ·cases hq;exact⟨hb,by omega⟩
   ·split at hq
    ·cases hq;exact⟨ha,by omega⟩
    ·split at hq
     ·cases hq;exact⟨hb,by omega⟩
     ·split at hq
      ·rename_i h2
       obtain⟨v,hv,_,e,_⟩:=CK ha h2.1
       rw[e]at hq
       exact HX (FG _ hv) hq (by omega)
      ·cases hq
  ·cases hq
 ·cases hq
theorem Y3:IF fun op _ _ kids=>Gt op kids:=by
 intro op num val kids q h hq
 have hsz:=(CT.mk op num val kids).size_pos
 have es:=Pz
 unfold CT.ok at h
 obtain⟨h1,hl,hk⟩:=h
 rw[AY]at hk
 dsimp only at hq
 unfold Gt at hq
 have he:BK.ok∧BK.size≤(CT.mk op num val kids).size:=⟨Y7,by omega⟩
 split at hq
 ·split at hq
  ·split at hq
   ·cases hq;exact he
   ·cases hq
  ·cases hq
 ·rename_i a b
  have ha:a.ok∧a.size≤(CT.mk op num val [a,b]).size:=⟨hk a (by simp),by simp only[CT.size,Ae];omega⟩
  have hb:b.ok∧b.size≤(CT.mk op num val [a,b]).size:=⟨hk b (by simp),by simp only[CT.size,Ae];omega⟩
  repeat' split at hq
  all_goals first | (cases hq;done) | (cases hq;exact he) | (cases hq;exact ha) | (cases hq;exact hb) | (cases hq;split<;>first | exact ha | exact hb)
 ·repeat' split at hq
  all_goals first | (cases hq;done) | (cases hq;exact he)
 ·cases hq
theorem t7:IF fun op _ _ kids=>QB op kids:=by
 intro op num val kids q h hq
 unfold CT.ok at h
 obtain⟨h1,hl,hk⟩:=h
 rw[AY]at hk
 dsimp only at hq
 unfold QB at hq
 split at hq
 ·rename_i a
  split at hq
  ·cases hq
   exact⟨hk _ (by simp),by simp only[CT.size,Ae];omega⟩
  ·cases hq
 ·cases hq
theorem N6 (pass:Int):IF (B5 pass):=by
 intro op num val kids q h hq
 unfold B5 at hq
 split at hq
 ·exact Ye _ _ _ _ _ h hq
 ·split at hq
  ·exact N7 _ _ _ _ _ h hq
  ·split at hq
   ·exact Y3 _ _ _ _ _ h hq
   ·exact t7 _ _ _ _ _ h hq
end Go.Proofs.YtcejfdfmgmcinaaGreat
