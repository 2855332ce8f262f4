/- Texts of this proof: M33 M36 M37 G99 G1B G1C K01 K25 K26 K27 K28 E41. -/
import Derived.Test.YtcejfdfmgmcinaaGreatKGEuM32
import Derived.Laws.IdiomStrings
import Derived.Laws.Strings2
import Derived.Laws.Slices
import Derived.Lib.AppendStr
import Derived.Lib.Builder
import Derived.Laws.StructEq
import Derived.WideLaws
import Derived.Laws.Strings3
import Derived.Lib.IfaceEq
import Derived.Lib.IfaceNeq
set_option linter.all false
set_option maxHeartbeats 8000000
namespace Go.Proofs.YtcejfdfmgmcinaaGreat
section
open Go.RowKit
theorem FC {T:List V}(h:AK T) (q:Nat):AK (T.take q):=List.Pairwise.sublist (List.take_sublist q T) h
theorem FB {T:List V}(h:AK T) (q:Nat):AK (T.drop q):=List.Pairwise.sublist (List.drop_sublist q T) h
theorem LV {T:List V}(h:AK T) (q:Nat):∀u∈T.take q,∀w∈T.drop q,leV u w:=by
 have h2:AK (T.take q++T.drop q):=by rw[List.take_append_drop];exact h
 exact (List.pairwise_append.1 h2).2.2
theorem Jm {T:List V}(h:AK T) {i j:Nat}(hij:i≤j) (hj:j<T.length):leV (T[i]'(by omega)) T[j]:=by
 by_cases he:i=j
 ·subst he;exact ZW _
 ·exact List.pairwise_iff_getElem.1 h i j (by omega) hj (by omega)
theorem MV {T:List V}(h:AK T) {q:Nat}(hq:q<T.length):∀u∈T.take (q+1),leV u T[q]:=fun u hu=>by
 obtain⟨i,hi,rfl⟩:=List.mem_iff_getElem.1 hu
 rw[List.getElem_take]
 have:i<q+1:=by have:=hi;rw[List.length_take]at this;omega
 exact Jm h (by omega) hq
theorem Kp {T:List V}(h:AK T) {x:V}{q:Nat}(h1:∀u∈T.take q,leV u x) (h2:∀w∈T.drop q,leV x w):AK (T.take q++x::T.drop q):=by
 refine Ov (FC h q) (List.pairwise_cons.2 ⟨h2,FB h q⟩) fun u hu w hw=>?_
 rcases List.mem_cons.1 hw with rfl | hw
 ·exact h1 u hu
 ·exact LV h q u hu w hw
theorem NE (T:List V) (x:V) (q:Nat):(T.take q++x::T.drop q).Perm (x::T):=by
 have:=List.perm_middle (a:=x) (l₁:=T.take q) (l₂:=T.drop q)
 rwa [List.take_append_drop]at this
theorem SN {X:List V}{k:Nat}(hk:k<X.length) {q:Nat}(h1:∀u∈(AG (X.take k)).take q,leV u X[k]) (h2:∀w∈(AG (X.take k)).drop q,leV X[k] w) :
  (AG (X.take k)).take q++X[k]::(AG (X.take k)).drop q=AG (X.take (k+1)):=by
 refine (Ha (Kp (Cn _) h1 h2) ?_).symm
 refine (NE _ _ q).trans ?_
 rw[List.take_succ_eq_append_getElem hk]
 exact ((E4 (X.take k)).cons _).trans (List.perm_append_singleton _ _).symm
theorem Qe {X:List V}{x:V}:x∈AG X↔x∈X:=(E4 X).mem_iff
theorem Sb {a b:List V}(h:a.Perm b):Aw a=Aw b:=by
 induction h with
 |nil=>rfl
 |cons x _ ih=>simp only[Aw,ih]
 |swap x y l=>simp only[Aw];omega
 |trans _ _ h1 h2=>rw[h1,h2]
theorem Sn {a b:List V}(h:a.Perm b):AX a=AX b:=by
 induction h with
 |nil=>rfl
 |cons x _ ih=>simp only[AX,ih]
 |swap x y l=>simp only[AX];omega
 |trans _ _ h1 h2=>rw[h1,h2]
theorem a0o {a b:List V}(h:a.Perm b) (hw:wfL a):wfL b:=by
 induction h with
 |nil=>exact hw
 |cons x _ ih=>simp only[wfL]at hw ⊢;exact⟨hw.1,ih hw.2⟩
 |swap x y l=>simp only[wfL]at hw ⊢;exact⟨hw.2.1,hw.1,hw.2.2⟩
 |trans _ _ h1 h2=>exact h2 (h1 hw)
theorem VJ {t:V}(h:t.right) (h5:t.kind=5) {l:List V}(hp:l.Perm t.kids):(AZ l).right:=by
 obtain⟨s1,s2,s3,s4,s5,_⟩:=Bc h.1
 have e3:=s3 (by omega)
 have e4:=s4 (by omega)
 have e5:=s5 (by omega)
 obtain⟨hw,hc,hd⟩:=h
 cases t with
 |mk kind num text keys kids =>
  dsimp only[V.kind,V.num,V.text,V.keys,V.kids]at *
  subst h5 e3 e4 e5
  simp only[V.wf]at hw
  have hcl:=Sb hp
  have hdl:=Sn hp
  refine⟨?_,?_,?_⟩
  ·unfold AZ
   simp only[V.wf]
   refine⟨?_,rfl,a0o hp.symm hw.2.2⟩
   rw[hp.length_eq]
   exact hw.1
  ·simp only[AZ,V.count]at hc ⊢
   omega
  ·simp only[AZ,V.depth]at hd ⊢
   omega
theorem Oi {t:V}(h:t.right) (h5:t.kind=5):(AZ (AG t.kids)).right:=VJ h h5 (E4 _)
def F0 (t:V):Int×Option V:=if t.kind=5 then (0,some (AZ (AG t.kids))) else (6,none)
theorem Ko {t:V}(h:t.right):CH (F0 t):=by
 unfold F0
 split
 ·exact BW (Oi h ‹_›)
 ·exact BK (by decide)
def Fq (t:V):Int×Option V :=
 if t.kind=0 then okR (Cb 0) else if t.kind=3 then okR (Cb (max t.num (-t.num))) else if t.kind=4 then okR (Cb t.text.size) else if t.kind=5∨t.kind=6 then okR (Cb t.kids.length) else Ew 6
def BS (n:Nat):List V:=(List.range n).map fun (i:Nat)=>Cb (i:Int)
theorem DL (n:Nat):(BS n).length=n:=by simp[BS]
theorem I2 (n:Nat):BS (n+1)=BS n++[Cb (n:Int)]:=by simp[BS,List.range_succ]
theorem H3 {n:Nat}(h:n≤200):∀q∈BS n,z6 q:=fun q hq=>by
 obtain⟨i,hi,rfl⟩:=List.mem_map.1 hq
 have:=List.mem_range.1 hi
 exact WS (.inr ⟨(i:Int),rfl,by omega,by omega⟩)
theorem Dy {P:List V}(h:∀q∈P,z6 q) (hl:P.length≤199):(AZ P).right:=by
 obtain⟨h1,h2,h3⟩:=Pu h
 exact⟨Ub h3 (by omega),by simp only[AZ,V.count];omega,by simp only[AZ,V.depth];omega⟩
def NK (k:Int):ByteArray:=if k=0 then ⟨#[110,117,108,108]⟩ else if k=1∨k=2 then ⟨#[98,111,111,108,101,97,110]⟩ else if k=3 then ⟨#[110,117,109,98,101,114]⟩ else if k=4 then ⟨#[115,116,114,105,110,103]⟩ else if k=5 then ⟨#[97,114,114,97,121]⟩ else ⟨#[111,98,106,101,99,116]⟩
def MA (t:V):Int×Option V:=okR (Dj (NK t.kind))
theorem ST (k:Int):Bl (NK k)=true:=by
 unfold NK
 repeat' split
 all_goals decide +kernel
theorem U1 (t:V):CH (MA t):=BW (Oy (ST _))
def JE (t:V):Int×Option V:=if t.kind=6 then okR (AZ (t.keys.map Dj)) else if t.kind=5 then okR (AZ (BS t.kids.length)) else Ew 6
theorem RN {l:List ByteArray}(h:∀k∈l,Bl k=true):∀q∈l.map Dj,z6 q:=fun q hq=>by
 obtain⟨s,hs,rfl⟩:=List.mem_map.1 hq
 exact WS (.inl ⟨s,rfl,h s hs⟩)
def JM:V→List V→Int×Option V
 |a,[]=>okR a
 |a,k::ks=>match OH a k with
  | (_,some v)=>JM v ks
  | (c,none)=>(c,none)
def P5 (t:V):Int×Option V:=if t.kind=5∨t.kind=6 then JM BE t.kids else Ew 6
def IV (n:Int):Int×Option V:=if n>199 then Ew 3 else okR (AZ (BS n.toNat))
theorem Q7 (n:Int):CH (IV n):=by
 unfold IV
 split
 ·exact BK (by decide)
 ·exact BW (Dy (H3 (by omega)) (by rw[DL];omega))
set_option maxRecDepth 10000
theorem Kb {t:V}(h:t.right):CH (Fq t):=by
 unfold Fq
 have hn:=Gp h
 have hk:=(De h).2
 have hs:=E1 (DB h)
 repeat' split
 ·exact BW (Dz (by omega))
 ·exact BW (Dz (by omega))
 ·exact BW (Dz (by omega))
 ·exact BW (Dz (by omega))
 ·exact BK (by decide)
set_option maxRecDepth 10000
theorem TO:∀(l:List V) (a:V),a.right→(∀x∈l,x.right)→CH (JM a l)
 | [],a,ha,_=>BW ha
 |k::l,a,ha,h=>by
  simp only[JM]
  rcases Be (Qp ha (h k (by simp))) with⟨v,e,hv⟩ | ⟨c,hc,e⟩
  ·rw[e];exact TO l v hv fun x hx=>h x (by simp[hx])
  ·rw[e];exact hc
theorem WV {t:V}(h:t.right):CH (P5 t):=by
 unfold P5
 split
 ·exact TO _ _ CZ fun x hx=>Bd h hx
 ·exact BK (by decide)
set_option maxRecDepth 10000
theorem SQ {t:V}(ht:t.right):CH (JE t):=by
 have hkc:=AP t
 have hkl:=Br t.kids
 have hM:=ht.2.1
 unfold JE
 split
 ·rename_i h6
  obtain⟨_,hko,hke⟩:=DM ht h6
  exact BW (Dy (RN hko) (by rw[List.length_map];omega))
 ·split
  ·exact BW (Dy (H3 (by omega)) (by rw[DL];omega))
  ·exact BK (by decide)
def Fe (t:V):Int×Option V:=if t.kind=3 then IV t.num else Ew 6
theorem Ro (t:V):CH (Fe t):=by
 unfold Fe
 split
 ·exact Q7 _
 ·exact BK (by decide)
def Ce (d:Int) (t:V):Int×Option V :=
 if d=1 then Fq t else if d=2 then JE t else if d=3 then MA t else if d=4 then F0 t else if d=5 then P5 t else if d=6 then Fe t else if d=7 then KI t else if d=8 then Ew 1 else Ew 3
theorem Gi (d:Int) {t:V}(ht:t.right):CH (Ce d t):=by
 unfold Ce
 repeat' split
 ·exact Kb ht
 ·exact SQ ht
 ·exact U1 t
 ·exact Ko ht
 ·exact WV ht
 ·exact Ro t
 ·exact Ni ht
 ·exact BK (by decide)
 ·exact BK (by decide)
def vOf (val:List CellD):V:=match (dec val).2 with
 |some t=>t
 |none=>BE
theorem MW {t:V}(h:t.right):vOf t.enc=t:=by unfold vOf;rw[show dec t.enc=(0,some t) from Wq h.1 h.2.1 h.2.2]
def AE (v:V):CT:=.mk 2 0 v.enc []
def AA:CT:=.mk 17 0 [] []
def EX (r:Int×Option V):Option CT:=match r with
 | (c,some v)=>if c=0 then some (AE v) else none
 | (_,none)=>none
def CM (t:V):Bool:=t.kind != 0&&t.kind != 1
def C6 (op num:Int) (val:List CellD):List CT→Option CT
 | [a]=>if op=10 then (if a.op=17 then some (AE (AZ [])) else if a.op=2 then EX (Cw (AZ [vOf a.val])) else none) else none
 | [a,b]=>if a.op=2∧b.op=2 then (if op=6 then EX (JS num (vOf a.val) (vOf b.val)) else if op=7 then EX (CB (vOf a.val) (vOf b.val)) else if op=11 then EX (DD (vOf a.val) (vOf val).text (vOf b.val)) else none) else none
 | [a,b,c]=>if op=12∧a.op=2 then some (if CM (vOf a.val) then b else c) else none
 |_=>none
def Gm (op:Int):List CT→Option CT
 | [a,b]=>if op=3 then (if a.op=1 then some b else if b.op=1 then some a else if a.op=2∧b.op=2 then some b else if a.op=2∧b.op=16 then EX (Ce b.num (vOf a.val)) else none) else none
 |_=>none
def B5 (op:Int):List CT→Option CT
 | [a]=>if op=8∨op=9 then (if a.op=17 then some AA else none) else none
 | [a,b] =>
  if op=3∨op=7∨op=11∨op=14 then (if a.op=17 then some AA else none)
  else if op=6 then (if b.op=17 then some AA else none)
  else if op=4 then (if a.op=17 then some b else if b.op=17 then some a else none)
  else if op=5 then (if a.op=17 then some b else if a.op=2 then some (if CM (vOf a.val) then a else b) else none) else none
 | [a,b,_]=>if op=12 then (if a.op=17 then some AA else none) else if op=13 then (if b.op=17 then some AA else none) else none
 |_=>none
def Lp (op:Int):List CT→Option CT
 | [a]=>if op=9∧(a.op=2∨a.op=1∨a.op=15∨a.op=17∨a.op=9) then some a else none
 |_=>none
def Bb (pass:Int) (op num:Int) (val:List CellD) (kids:List CT):Option CT :=
 if pass=1 then C6 op num val kids else if pass=2 then Gm op kids else if pass=3 then B5 op kids else Lp op kids
theorem Nb {v:V}(h:v.right):(AE v).ok:=by
 unfold AE CT.ok
 refine⟨⟨by omega,.inr rfl,fun h=>absurd h (by decide),fun _=>⟨v,h,rfl,fun h=>absurd h (by decide)⟩,rfl⟩,rfl,by unfold FP;trivial⟩
theorem Sr:AA.ok:=by
 unfold AA CT.ok
 exact⟨⟨by omega,.inr rfl,fun _=>rfl,fun h=>absurd h (by decide),rfl⟩,rfl,by unfold FP;trivial⟩
theorem JZ (v:V):(AE v).size=1:=by unfold AE;rw[CT.size,Aj]
theorem QI:AA.size=1:=by unfold AA;rw[CT.size,Aj]
theorem D4 {a:CT}(h:a.ok) (h2:a.op=2):∃v:V,v.right∧a.val=v.enc∧vOf a.val=v∧a=AE v:=by
 cases a with
 |mk op num val kids =>
  have h2:op=2:=h2
  subst h2
  unfold CT.ok at h
  obtain⟨h1,hl,_⟩:=h
  obtain⟨v,hv,e,_⟩:=h1.hasVal rfl
  have hn:num=0:=h1.hasNum.resolve_left (by decide)
  have hk:kids=[]:=List.eq_nil_of_length_eq_zero hl
  subst hn hk e
  exact⟨v,hv,rfl,MW hv,rfl⟩
theorem a1o {r:Int×Option V}(h:CH r) {q:CT}(hq:EX r=some q):∃v:V,v.right∧r=okR v∧q=AE v:=by
 obtain⟨c,o⟩:=r
 cases o with
 |none=>cases hq
 |some v =>
  obtain⟨rfl,hv⟩:=h
  unfold EX at hq
  simp only[if_true]at hq
  cases hq
  exact⟨v,hv,rfl,rfl⟩
theorem IM {r:Int×Option V}(h:CH r) {q:CT}(hq:EX r=some q) {n:Nat}(hn:1≤n):q.ok∧q.size≤n:=by
 obtain⟨v,hv,_,rfl⟩:=a1o h hq
 exact⟨Nb hv,by rw[JZ];exact hn⟩
theorem LU:(AZ []).right:=by
 refine⟨Ub (RW.2 (by simp)) (by simp),?_,?_⟩
 ·show Aw []+1≤200
  simp[Aw]
 ·show AX []+1≤20
  simp[AX]
theorem NB:Jr C6:=by
 intro op num val kids q h hq
 have hsz:=(CT.mk op num val kids).size_pos
 unfold CT.ok at h
 obtain⟨h1,hl,hk⟩:=h
 rw[B6]at hk
 unfold C6 at hq
 split at hq
 ·rename_i a
  split at hq
  ·split at hq
   ·cases hq
    exact⟨Nb LU,by rw[JZ];exact hsz⟩
   ·split at hq
    ·rename_i h2
     obtain⟨v,hv,_,e,_⟩:=D4 (hk a (by simp)) h2
     rw[e]at hq
     exact IM (Et (J3 fun x hx=>by rw[List.mem_singleton.1 hx];exact Cu hv)) hq hsz
    ·cases hq
  ·cases hq
 ·rename_i a b
  split at hq
  ·rename_i h2
   obtain⟨v,hv,_,e,_⟩:=D4 (hk a (by simp)) h2.1
   obtain⟨u,hu,_,e2,_⟩:=D4 (hk b (by simp)) h2.2
   rw[e,e2]at hq
   split at hq
   ·exact IM (Qt _ hv hu) hq hsz
   ·split at hq
    ·exact IM (KU hv _) hq hsz
    ·split at hq
     ·rename_i h11
      subst h11
      obtain⟨t,ht,e3,k4⟩:=h1.hasVal rfl
      subst e3
      rw[MW ht]at hq
      exact IM (Jk hv hu (DB ht)) hq hsz
     ·cases hq
  ·cases hq
 ·rename_i a b c
  split at hq
  ·cases hq
   simp only[CT.size,Aj]
   split
   ·exact⟨hk b (by simp),by omega⟩
   ·exact⟨hk c (by simp),by omega⟩
  ·cases hq
 ·cases hq
theorem Tt:Jr fun op _ _ kids=>Gm op kids:=by
 intro op num val kids q h hq
 have hsz:=(CT.mk op num val kids).size_pos
 unfold CT.ok at h
 obtain⟨h1,hl,hk⟩:=h
 rw[B6]at hk
 dsimp only at hq
 unfold Gm at hq
 split at hq
 ·rename_i a b
  simp only[CT.size,Aj]at hsz ⊢
  have ha:=hk a (by simp)
  have hb:=hk b (by simp)
  split at hq
  ·split at hq
   ·cases hq;exact⟨hb,by omega⟩
   ·split at hq
    ·cases hq;exact⟨ha,by omega⟩
    ·split at hq
     ·cases hq;exact⟨hb,by omega⟩
     ·split at hq
      ·rename_i h2
       obtain⟨v,hv,_,e,_⟩:=D4 ha h2.1
       rw[e]at hq
       exact IM (Gi _ hv) hq (by omega)
      ·cases hq
  ·cases hq
 ·cases hq
theorem Zq:Jr fun op _ _ kids=>B5 op kids:=by
 intro op num val kids q h hq
 have hsz:=(CT.mk op num val kids).size_pos
 have es:=QI
 unfold CT.ok at h
 obtain⟨h1,hl,hk⟩:=h
 rw[B6]at hk
 dsimp only at hq
 unfold B5 at hq
 have he:AA.ok∧AA.size≤(CT.mk op num val kids).size:=⟨Sr,by omega⟩
 split at hq
 ·split at hq
  ·split at hq
   ·cases hq;exact he
   ·cases hq
  ·cases hq
 ·rename_i a b
  have ha:a.ok∧a.size≤(CT.mk op num val [a,b]).size:=⟨hk a (by simp),by simp only[CT.size,Aj];omega⟩
  have hb:b.ok∧b.size≤(CT.mk op num val [a,b]).size:=⟨hk b (by simp),by simp only[CT.size,Aj];omega⟩
  repeat' split at hq
  all_goals first | (cases hq;done) | (cases hq;exact he) | (cases hq;exact ha) | (cases hq;exact hb) | (cases hq;split<;>first | exact ha | exact hb)
 ·repeat' split at hq
  all_goals first | (cases hq;done) | (cases hq;exact he)
 ·cases hq
theorem a2j:Jr fun op _ _ kids=>Lp op kids:=by
 intro op num val kids q h hq
 unfold CT.ok at h
 obtain⟨h1,hl,hk⟩:=h
 rw[B6]at hk
 dsimp only at hq
 unfold Lp at hq
 split at hq
 ·rename_i a
  split at hq
  ·cases hq
   exact⟨hk _ (by simp),by simp only[CT.size,Aj];omega⟩
  ·cases hq
 ·cases hq
theorem Od (pass:Int):Jr (Bb pass):=by
 intro op num val kids q h hq
 unfold Bb at hq
 split at hq
 ·exact NB _ _ _ _ _ h hq
 ·split at hq
  ·exact Tt _ _ _ _ _ h hq
  ·split at hq
   ·exact Zq _ _ _ _ _ h hq
   ·exact a2j _ _ _ _ _ h hq
set_option maxRecDepth 10000
theorem Jo (v:V):AC Tryz.prog 124 [v.av] [] (.c (.bool (CM v))) []:=by
 unfold CM
 cases h1:(v.kind != 0)<;>cases h2:(v.kind != 1)
 all_goals
  refine A7 Tryz.func124 Tryz.ntmps124 ?_
  refine A3 (j2 h1 h2) ?_
  exact Ad (A6 []) Tryz.results124
theorem Tl (p:PT):AC Tryz.prog 193 [p.av] [] (.c (.bool (!(p.d.op==2)))) []:=by
 have h:=AQ p 2
 generalize (p.d.op==2)=q at *
 refine A7 Tryz.func193 Tryz.ntmps193 ?_
 refine A3 q9 ?_
 refine w7 (A4 [] h) q9 ?_
 refine A3 q9 ?_
 exact Ad (A6 []) Tryz.results193
theorem BC (p:PT) {v:V}(hv:v.right) (he:p.d.val=v.enc):AC Tryz.prog 122 [p.av] [] v.av []:=by
 have hO:=Lq v.enc (LG (Cu hv)) (t:=v) (by rw[Jh hv])
 unfold PT.av
 rw[he]
 generalize v.enc=W at *
 refine A7 Tryz.func122 Tryz.ntmps122 ?_
 refine A3 q9 ?_
 refine w9 (A5 [] hO) q9 ?_
 refine A3 q9 ?_
 exact Ad (A6 []) Tryz.results122
set_option maxRecDepth 10000
theorem Hu (v:V):(EN v).av=.agg [.c (.int .i64 2),.c (.int .i64 0),.c (.int .i64 0),.c (.int .i64 0),.c (.int .i64 0),.c (.sl (v.enc.map CellD.cs)),.c (.sl [])]:=rfl
theorem Il {v:V}(hv:v.right):AC Tryz.prog 128 [v.av] [] (EN v).av []:=by
 have hc:=N4 200 v hv.2.1 (Nat.le_trans hv.2.1 (by decide)) (Nw v (Cu hv))
 rw[Hu]
 generalize v.enc=W at *
 refine A7 Tryz.func128 Tryz.ntmps128 ?_
 refine A3 q9 ?_
 refine w12 (AS [] hc) q9 ?_
 refine A3 q9 ?_
 exact Ab (Aa [] [(4,0)]) Tryz.results128 hv
set_option maxRecDepth 10000
theorem Rz (l:List PT) {k:Nat}(h:k<l.length):A9 (l.map PT.cs) 7 k=true∧(l.map PT.cs)[k]? = some [.int .i64 l[k].d.op,.int .i64 l[k].d.a,.int .i64 l[k].d.b,.int .i64 l[k].d.c,.int .i64 l[k].d.num,.sl (l[k].d.val.map CellD.cs),.sl (l[k].kids.map PT.cs)]:=⟨by simp[A9,h,PT.cs_eq],by rw[List.getElem?_map,List.getElem?_eq_getElem h,Option.map_some,PT.cs_eq]⟩
theorem Rc (f:FuncId) (hcal:A8 Tryz.prog f=true) (d:PT→Bool) (l:List PT) (hl:l.length≤1000000) (hd:∀p∈l,AC Tryz.prog f [p.av] [] (.c (.bool (d p))) []) :
  AC Tryz.prog 262 [.c (.sl (l.map PT.cs)),.clo f []] [] (.c (.int .i64 (Gz d l))) []:=by
 have hln:(l.map PT.cs).length=l.length:=by simp
 refine A7 Tryz.func262 Tryz.ntmps262 ?_
 refine A3 q9 ?_
 refine Ay (κ:=Nat) (fun k=>⟨mkS 0 19 [(0,.c (.sl (l.map PT.cs))),(1,.clo f []),(7,.c (.int .i64 l.length)),(8,.c (.int .i64 k))],[]⟩)
  (fun k=>k≤l.length∧∀j (h:j<l.length),j<k→d l[j]=false) (fun k=>l.length-k) 0 ⟨Nat.zero_le _,by intro j h hj;omega⟩ ?_ ?_
 ·exact Af (Am.of [] []) hln
 ·rintro k ⟨hk,hno⟩
  by_cases hlt:k<l.length
  ·have hdk:decide ((k:Int)<(l.length:Int))=true:=by simpa using hlt
   have hw:=Ah (k:=k) (by omega)
   obtain⟨hr,hg⟩:=Rz l hlt
   have hc:=hd l[k] (List.getElem_mem hlt)
   unfold PT.av at hc
   cases hb:d l[k] with
   |true =>
    rw[hb]at hc
    have hix:Gz d l=k:=by
     unfold Gz
     rw[List.findIdx?_eq_some_iff_getElem.2 ⟨hlt,hb,fun j hj=>by simp[hno j (by omega) hj]⟩]
    rw[hix]
    refine A3 (j3 hdk hr hg) ?_
    refine w7 (A4 [] hc) hcal ?_
    refine A3 q9 ?_
    exact Ad (A6 []) Tryz.results262
   |false =>
    rw[hb]at hc
    refine A3 (j3 hdk hr hg) ?_
    refine w7 (A4 [] hc) hcal ?_
    refine A3 hw ?_
    refine⟨k+1,by omega,⟨by omega,fun j h hj=>?_⟩,?_⟩
    ·by_cases hjk:j=k
     ·subst hjk;exact hb
     ·exact hno j h (by omega)
    ·exact Af (Am.of [] []) hw
  ·have hdk:decide ((k:Int)<(l.length:Int))=false:=by simpa using hlt
   have hix:Gz d l = -1:=by
    unfold Gz
    rw[List.findIdx?_eq_none_iff.2 fun x hx=>by
     obtain⟨j,h1,rfl⟩:=List.mem_iff_getElem.1 hx
     simpa using hno j h1 (by omega)]
   rw[hix]
   refine A3 hdk ?_
   exact Ad (A6 []) Tryz.results262
theorem Sw {α:Type}(d:α→Bool) (l:List α):decide (Gz d l≥0)=l.any d:=by
 unfold Gz
 cases hf:l.findIdx? d with
 |none =>
  rw[List.findIdx?_eq_none_iff]at hf
  have:l.any d=false:=by rw[List.any_eq_false];intro x hx;simp[hf x hx]
  rw[this];rfl
 |some k =>
  obtain⟨h1,h2,_⟩:=List.findIdx?_eq_some_iff_getElem.1 hf
  have:l.any d=true:=List.any_eq_true.2 ⟨_,List.getElem_mem h1,h2⟩
  rw[this]
  simp
theorem MD (f:FuncId) (hcal:A8 Tryz.prog f=true) (d:PT→Bool) (l:List PT) (hl:l.length≤1000000) (hd:∀p∈l,AC Tryz.prog f [p.av] [] (.c (.bool (d p))) []) :
  AC Tryz.prog 192 [.c (.sl (l.map PT.cs)),.clo f []] [] (.c (.bool (l.any d))) []:=by
 have h:=Rc f hcal d l hl hd
 have he:=Sw d l
 generalize Gz d l=r at *
 generalize l.any d=q at *
 refine A7 Tryz.func192 Tryz.ntmps192 ?_
 refine A3 q9 ?_
 refine w7 (A4 [] h) hcal ?_
 refine A3 he ?_
 exact Ad (A6 []) Tryz.results192
set_option maxRecDepth 10000
theorem OP (p:PT) {k:Nat}(hk:k≤p.kids.length) (hl:p.kids.length≤1000000):AC Tryz.prog 119 [p.av,.c (.int .i64 k)] [] (.c (.bool ((p.kids.take k).all fun x=>x.d.op==2))) []:=by
 have h:=MD 193 rfl (fun x=>!(x.d.op==2)) (p.kids.take k) (by rw[List.length_take];omega) (fun x _=>Tl x)
 have he:((p.kids.take k).all fun x=>x.d.op==2) = !((p.kids.take k).any fun x=>!(x.d.op==2)):=by
  rw[List.any_eq_not_all_not]
  simp
 rw[he]
 rw[List.map_take]at h
 generalize ((p.kids.take k).any fun x=>!(x.d.op==2))=q at *
 have hall:((p.kids.map PT.cs).all fun r=>r.length==7)=true:=by simp[PT.cs_eq]
 have hk2:(k:Int)≤((p.kids.map PT.cs).length:Int):=by rw[List.length_map];omega
 have hk3:k≤(p.kids.map PT.cs).length:=by rw[List.length_map];exact hk
 have h0:(0:Int)≤(k:Int):=by omega
 unfold PT.av
 clear he hk
 generalize p.kids.map PT.cs=rows at *
 refine A7 Tryz.func119 Tryz.ntmps119 ?_
 refine A3 (j6 hall hk2 hk3 h0 @Int.toNat_natCast @List.drop_zero.{0}) ?_
 refine w7 (A4 [] h) q9 ?_
 refine A3 q9 ?_
 exact Ad (A6 []) Tryz.results119
end
section
open Go.RowKit Go.ChangeMaps Go.MapKept Go.Maps
open Go.WideElems (Fit rd rg pl)
def C.val:C→Option Value
 | .int k n=>some (.int k n)
 | .bool b=>some (.bool b)
 | .str s=>some (.string s)
 |_=>none
end
end Go.Proofs.YtcejfdfmgmcinaaGreat
