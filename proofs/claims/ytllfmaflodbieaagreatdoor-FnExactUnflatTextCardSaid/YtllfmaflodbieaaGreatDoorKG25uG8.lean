/- Texts of this proof: G25 G26 G27 G48 S02 G46 G47. -/
import Derived.Test.YtllfmaflodbieaaGreatDoorKR10uG24
import Derived.Shelf.SlGeneric
import Derived.Shelf.SlLaysM
import Derived.Shelf.SortM.Plain
import Derived.Shelf.SortM.SortNone
import Derived.Sort.OwnSorted
set_option linter.all false
set_option maxHeartbeats 8000000
namespace Go.Proofs.YtllfmaflodbieaaGreatDoor
section
open Go.RowKit
set_option maxRecDepth 10000
theorem E9 (c:Int):AC Tryz.prog 138 [.c (.int .i64 c)] [] (.agg [.c (.int .i64 c),.nils]) []:=by
 refine A6 Tryz.func138 Tryz.ntmps138 ?_
 refine A0 trivial ?_
 exact Am (A7 []) Tryz.results138
theorem JL:P5.enc.map CellD.cs=[[.int .i64 0,.int .i64 0,.str ByteArray.empty,.str ByteArray.empty,.int .i64 0]]:=rfl
theorem Gj:AC Tryz.prog 41 [] [] (.own (0,0)) [((0,0),.row false 5 115 (P5.enc.map CellD.cs))]:=by
 rw[JL]
 refine A6 Tryz.func41 Tryz.ntmps41 ?_
 refine A0 trivial ?_
 (apply (A8 [((0,0),(2,0))] []);(focus (simp only[Tryz.results41,go_sem,Nat.reduceBEq,Nat.reduceLT,JL];exact rfl));(focus (simp only[go_sem,Nat.reduceEqDiff,Nat.reduceAdd,Nat.reduceSub,Nat.reduceLeDiff,Nat.reduceMul,Nat.reduceBEq,Nat.reduceLT,Int.reduceToNat,reduceCtorEq,JL];try (and_intros<;>rfl)));(focus exact rfl);(focus (simp only[go_sem,Nat.reduceEqDiff,Nat.reduceAdd,Nat.reduceSub,Nat.reduceLeDiff,Nat.reduceMul,Nat.reduceBEq,Nat.reduceLT,Int.reduceToNat,reduceCtorEq,JL];try (and_intros<;>rfl)));(focus exact rfl);(iterate 4 (focus (simp[go_sem,JL];done))))
def vrA (r:Int×Option V):AV:=match r.2 with
 |some t=>.agg [.c (.int .i64 0),.c (.sl (t.enc.map CellD.cs))]
 |none=>.agg [.c (.int .i64 r.1),.c (.sl [])]
theorem Dh (c:Int) (t:V):vrA (c,some t)=.agg [.c (.int .i64 0),.c (.sl (t.enc.map CellD.cs))]:=rfl
theorem CD (c:Int):vrA (c,none)=.agg [.c (.int .i64 c),.c (.sl [])]:=rfl
theorem Ns (t:V):vrA (okR t)=.agg [.c (.int .i64 0),.c (.sl (t.enc.map CellD.cs))]:=rfl
theorem Jl (c:Int):vrA (Zq c)=.agg [.c (.int .i64 c),.c (.sl [])]:=rfl
theorem t7 {t:V}(h:t.right) (key:ByteArray):AC Tryz.prog 82 [Ce t.enc,.c (.str key)] [] (vrA (Ca t key)) []:=by
 have hr0:Aj (t.enc.map CellD.cs) 5 0=true:=by unfold Aj;rw[show (0:Int).toNat=0 from rfl,Dp];rfl
 have hg0:=Dp t
 by_cases h0:t.kind=0
 ·have hr:Ca t key=okR P5:=by unfold Ca;rw[if_pos h0]
  have hb:(t.kind==0)=true:=by simpa using h0
  rw[hr,Ns]
  refine A6 Tryz.func82 Tryz.ntmps82 ?_
  refine A0 (j3 hr0 hg0 hb) ?_
  refine w12 (Zg [] Gj) trivial ?_
  refine A0 trivial ?_
  exact A9 (A8 [] [(12,0)]) Tryz.results82 hb
 ·have hb:(t.kind==0)=false:=by simpa using h0
  by_cases h6:t.kind=6
  ·have hb6:(t.kind != 6)=false:=by simpa using h6
   obtain⟨hs,_,hkl⟩:=Gy h h6
   have hkn:=Cj h.2.1
   have hkeys:=UT h.1 h.2.1
   have hparts:=S5 h.1 h.2.1
   have hkat:∀i (hi:i<t.keys.length),t.keyAt i=t.keys[i]:=fun i hi=>by
    unfold V.keyAt
    rw[if_pos h6,List.drop_eq_getElem_cons hi]
    rfl
   have hr:Ca t key=okR (t.member key):=by unfold Ca;rw[if_neg h0,if_pos h6]
   rw[hr,Ns]
   refine A6 Tryz.func82 Tryz.ntmps82 ?_
   refine A0 (j4 hr0 hg0 hb hb6) ?_
   refine w9 (Aa [] hkeys) trivial ?_
   refine A0 trivial ?_
   refine AG (κ:=Nat) (fun k=>⟨mkS 0 42 [(0,Ce t.enc),(1,.c (.str key)),(4,.ptr (4,0) 0),(5,.c (.sl ((CK t t.kids.length).map Ab))),(6,.c (.int .i64 k))],[((4,0),.box [.c (.int .i64 0),.nils])]⟩)
    (fun k=>k≤t.kids.length∧∀j (hj:j<t.keys.length),j<k→t.keys[j].toList≠key.toList) (fun k=>t.kids.length-k) 0 ⟨Nat.zero_le _,by intro j _ hj;omega⟩ ?_ ?_
   ·exact Aq (As.of [((4,0),(4,0))] []) hb
   ·rintro k ⟨hk,hno⟩
    have hkol:(CK t t.kids.length).length=t.kids.length:=Sc t _
    by_cases hlt:k<t.kids.length
    ·have hd:decide ((k:Int)<(t.kids.length:Int))=true:=by simpa using hlt
     have hw:=Ae (k:=k) (by omega)
     have hr2:Aj ((CK t t.kids.length).map Ab) 1 k=true:=by simp[Aj,CK,hlt,Ab]
     have hg2:((CK t t.kids.length).map Ab)[k]? = some [.str t.keys[k]]:=by simp[CK,hlt,Ab,hkat k (by omega)]
     have hr3:Aj ((t.kids.map V.enc).map AD) 1 k=true:=by simp[Aj,hlt,AD]
     have hg3:((t.kids.map V.enc).map AD)[k]? = some [.sl (t.kids[k].enc.map CellD.cs)]:=by simp[hlt,AD]
     cases he:t.keys[k].toList==key.toList with
     |true =>
      have hm:t.member key=t.kids[k]:=by
       unfold V.member EN
       rw[List.findIdx?_eq_some_iff_getElem.2 ⟨by omega,he,fun j hj=>by simpa using hno j (by omega) hj⟩]
       simp only
       rw[List.getD_eq_getElem?_getD,List.getElem?_eq_getElem hlt,Option.getD_some]
      rw[hm]
      generalize t.kids[k]=u at *
      refine A0 (j5 hkol hd hr2 hg2 he) ?_
      refine w9 (Aa [] hparts) trivial ?_
      refine A0 (j2 hr3 hg3) ?_
      exact Am (A7 []) Tryz.results82
     |false =>
      refine A0 (j6 hkol hd hr2 hg2 he hw) ?_
      refine⟨k+1,by omega,⟨by omega,fun j hj hjk=>?_⟩,?_⟩
      ·by_cases hjk':j=k
       ·subst hjk';simpa using he
       ·exact hno j hj (by omega)
      ·exact Aq (As.of [((4,0),(4,0))] []) hb
    ·have hd:decide ((k:Int)<(t.kids.length:Int))=false:=by simpa using hlt
     have hm:t.member key=P5:=by
      unfold V.member EN
      rw[List.findIdx?_eq_none_iff.2 fun x hx=>by
       obtain⟨i,hi,rfl⟩:=List.getElem_of_mem hx
       simpa using hno i hi (by omega)]
     rw[hm]
     refine A0 (j2 hkol hd) ?_
     refine w12 (Zg [] Gj) trivial ?_
     refine A0 trivial ?_
     exact A9 (A8 [] [(40,0)]) Tryz.results82 hb
  ·have hr:Ca t key=Zq 6:=by unfold Ca;rw[if_neg h0,if_neg h6]
   have hb6:(t.kind != 6)=true:=by simpa using h6
   rw[hr,Jl]
   refine A6 Tryz.func82 Tryz.ntmps82 ?_
   refine A0 (j4 hr0 hg0 hb hb6) ?_
   refine w7 (A3 [] (E9 6)) trivial ?_
   refine A0 trivial ?_
   exact Am (A7 []) Tryz.results82
set_option maxRecDepth 10000
theorem WN (n lo hi:Int):AC Tryz.prog 60 [.c (.int .i64 n),.c (.int .i64 lo),.c (.int .i64 hi)] [] (.c (.bool (decide (n≥lo)&&decide (n≤hi)))) []:=by
 cases h1:decide (n≥lo)<;>cases h2:decide (n≤hi)
 all_goals
  refine A6 Tryz.func60 Tryz.ntmps60 ?_
  refine A0 (j2 h1 h2) ?_
  exact Am (A7 []) Tryz.results60
theorem a0h {t:V}(h:t.right) (n:Int) (hn:-1000000000000000≤n∧n≤1000000000000000):AC Tryz.prog 243 [Ce t.enc,.c (.int .i64 n)] [] (vrA (DE t n)) []:=by
 have hkl:=Cj h.2.1
 have hr0:Aj (t.enc.map CellD.cs) 5 0=true:=by unfold Aj;rw[show (0:Int).toNat=0 from rfl,Dp];rfl
 have hg0:=Dp t
 by_cases h0:t.kind=0
 ·have hr:DE t n=okR P5:=by unfold DE;rw[if_pos h0]
  have hb:(t.kind==0)=true:=by simpa using h0
  rw[hr,Ns]
  refine A6 Tryz.func243 Tryz.ntmps243 ?_
  refine A0 (j3 hr0 hg0 hb) ?_
  refine w12 (Zg [] Gj) trivial ?_
  refine A0 trivial ?_
  exact A9 (A8 [] [(10,0)]) Tryz.results243 hb
 ·have hb:(t.kind==0)=false:=by simpa using h0
  by_cases h5:t.kind=5
  ·have hb5:(t.kind != 5)=false:=by simpa using h5
   have hwm:IntKind.i64.wrap ((t.kids.length:Int)-1)=(t.kids.length:Int)-1:=IntWalk.i64_in _ (by omega)
   have hwi:=WN (C0 n t.kids.length) 0 ((t.kids.length:Int)-1)
   have hparts:=S5 h.1 h.2.1
   have hsplit:(decide (n<0)=true∧IntKind.i64.wrap (n+(t.kids.length:Int))=C0 n t.kids.length)∨(decide (n<0)=false∧n=C0 n t.kids.length):=by
    unfold C0
    by_cases hneg:n<0
    ·rw[if_pos hneg]
     exact .inl ⟨by simpa using hneg,IntWalk.i64_in _ (by omega)⟩
    ·rw[if_neg hneg]
     exact .inr ⟨by simpa using hneg,rfl⟩
   cases hin:(decide (C0 n t.kids.length≥0)&&decide (C0 n t.kids.length≤(t.kids.length:Int)-1)) with
   |false =>
    rw[hin]at hwi
    have hr:DE t n=okR P5:=by
     unfold DE
     rw[if_neg h0,if_pos h5,if_neg]
     simp at hin
     omega
    rw[hr,Ns]
    generalize C0 n t.kids.length=q at *
    rcases hsplit with⟨hd,hwa⟩ | ⟨hd,rfl⟩
    ·refine A6 Tryz.func243 Tryz.ntmps243 ?_
     refine A0 (j7 hr0 hg0 hb hb5 hd hwa hwm) ?_
     refine w7 (A3 [] hwi) trivial ?_
     refine A0 trivial ?_
     refine w12 (Zg [] Gj) trivial ?_
     refine A0 trivial ?_
     exact A9 (A8 [] [(34,0)]) Tryz.results243 hb
    ·refine A6 Tryz.func243 Tryz.ntmps243 ?_
     refine A0 (j6 hr0 hg0 hb hb5 hd hwm) ?_
     refine w7 (A3 [] hwi) trivial ?_
     refine A0 trivial ?_
     refine w12 (Zg [] Gj) trivial ?_
     refine A0 trivial ?_
     exact A9 (A8 [] [(34,0)]) Tryz.results243 hb
   |true =>
    rw[hin]at hwi
    simp at hin
    obtain⟨p,hp,hpl⟩:∃p:Nat,C0 n t.kids.length=p∧p<t.kids.length:=⟨(C0 n t.kids.length).toNat,by omega,by omega⟩
    have hr:DE t n=okR t.kids[p]:=by
     unfold DE
     rw[if_neg h0,if_pos h5,hp,if_pos (by omega),Int.toNat_natCast,List.getD_eq_getElem?_getD,List.getElem?_eq_getElem hpl,Option.getD_some]
    have hr3:Aj ((t.kids.map V.enc).map AD) 1 p=true:=by simp[Aj,hpl,AD]
    have hg3:((t.kids.map V.enc).map AD)[p]? = some [.sl (t.kids[p].enc.map CellD.cs)]:=by simp[hpl,AD]
    rw[hr,Ns]
    generalize t.kids[p]=u at *
    rw[hp]at hwi hsplit
    rcases hsplit with⟨hd,hwa⟩ | ⟨hd,rfl⟩
    ·refine A6 Tryz.func243 Tryz.ntmps243 ?_
     refine A0 (j7 hr0 hg0 hb hb5 hd hwa hwm) ?_
     refine w7 (A3 [] hwi) trivial ?_
     refine A0 trivial ?_
     refine w9 (Aa [] hparts) trivial ?_
     refine A0 (j2 hr3 hg3) ?_
     exact Am (A7 []) Tryz.results243
    ·refine A6 Tryz.func243 Tryz.ntmps243 ?_
     refine A0 (j6 hr0 hg0 hb hb5 hd hwm) ?_
     refine w7 (A3 [] hwi) trivial ?_
     refine A0 trivial ?_
     refine w9 (Aa [] hparts) trivial ?_
     refine A0 (j2 hr3 hg3) ?_
     exact Am (A7 []) Tryz.results243
  ·have hr:DE t n=Zq 6:=by unfold DE;rw[if_neg h0,if_neg h5]
   have hb5:(t.kind != 5)=true:=by simpa using h5
   rw[hr,Jl]
   refine A6 Tryz.func243 Tryz.ntmps243 ?_
   refine A0 (j4 hr0 hg0 hb hb5) ?_
   refine w7 (A3 [] (E9 6)) trivial ?_
   refine A0 trivial ?_
   exact Am (A7 []) Tryz.results243
theorem a2q {t k:V}(h:t.right) (hk:k.right):AC Tryz.prog 203 [Ce t.enc,Ce k.enc] [] (vrA (EF t k)) []:=by
 have hr0:Aj (k.enc.map CellD.cs) 5 0=true:=by unfold Aj;rw[show (0:Int).toNat=0 from rfl,Dp];rfl
 have hg0:=Dp k
 by_cases h4:k.kind=4
 ·have hb:(k.kind==4)=true:=by simpa using h4
  have hr:EF t k=Ca t k.text:=by unfold EF;rw[if_pos h4]
  have hg:=t7 h k.text
  rw[hr]
  generalize Ca t k.text=r at *
  rcases r with⟨c,_ | u⟩
  all_goals
   simp only[Dh,CD]at hg ⊢
   refine A6 Tryz.func203 Tryz.ntmps203 ?_
   refine A0 (j3 hr0 hg0 hb) ?_
   refine w9 (Aa [] hg) trivial ?_
   refine A0 trivial ?_
   exact Am (A7 []) Tryz.results203
 ·have hb:(k.kind==4)=false:=by simpa using h4
  by_cases h3:k.kind=3
  ·have hb3:(k.kind==3)=true:=by simpa using h3
   have hr:EF t k=DE t k.num:=by unfold EF;rw[if_neg h4,if_pos h3]
   have hg:=a0h h k.num (Gx hk)
   rw[hr]
   generalize DE t k.num=r at *
   rcases r with⟨c,_ | u⟩
   all_goals
    simp only[Dh,CD]at hg ⊢
    refine A6 Tryz.func203 Tryz.ntmps203 ?_
    refine A0 (j4 hr0 hg0 hb hb3) ?_
    refine w9 (Aa [] hg) trivial ?_
    refine A0 trivial ?_
    exact Am (A7 []) Tryz.results203
  ·have hb3:(k.kind==3)=false:=by simpa using h3
   have hr:EF t k=Zq 6:=by unfold EF;rw[if_neg h4,if_neg h3]
   rw[hr,Jl]
   refine A6 Tryz.func203 Tryz.ntmps203 ?_
   refine A0 (j4 hr0 hg0 hb hb3) ?_
   refine w7 (A3 [] (E9 6)) trivial ?_
   refine A0 trivial ?_
   exact Am (A7 []) Tryz.results203
theorem a1g {t:V}(h:t.right) (path:List V) (hl:path.length≤1000000) (hp:∀k∈path,k.right):AC Tryz.prog 146 [Ce t.enc,.c (.sl ((path.map V.enc).map AD))] [] (vrA (D8 t path)) []:=by
 have h00:((0:Int) != 0)=false:=rfl
 have hel:=Bv t
 have hc:=h.2.1
 have hn0:0+t.enc.length≤1000000:=by omega
 refine A6 Tryz.func146 Tryz.ntmps146 ?_
 refine A0 hn0 ?_
 refine AG (κ:=Nat×V) (fun x=>⟨mkS 0 29 [(1,.c (.sl ((path.map V.enc).map AD))),(4,.ptr (4,0) 0),(5,.ptr (5,0) 0),(6,.c (.int .i64 x.1))],
   [((4,0),.box [.c (.int .i64 0),.nils]),((5,0),.box [.c (.int .i64 0),.c (.sl (x.2.enc.map CellD.cs))])]⟩)
  (fun x=>x.1≤path.length∧x.2.right∧D8 x.2 (path.drop x.1)=D8 t path) (fun x=>path.length-x.1) (0,t) ⟨Nat.zero_le _,h,rfl⟩ ?_ ?_
 ·exact Aq (As.of [((4,0),(4,0)),((5,0),(5,0))] [(9,0)]) hl
 ·rintro⟨k,u⟩ ⟨hk,hu,hq⟩
  dsimp only at hk hu hq ⊢
  by_cases hlt:k<path.length
  ·have hd:decide ((k:Int)<(path.length:Int))=true:=by simpa using hlt
   have hr:Aj ((path.map V.enc).map AD) 1 k=true:=by simp[Aj,hlt,AD]
   have hgk:((path.map V.enc).map AD)[k]? = some [.sl (path[k].enc.map CellD.cs)]:=by simp[hlt,AD]
   have hkr:=hp path[k] (List.getElem_mem hlt)
   have hw:=Ae (k:=k) (by omega)
   rw[e7 t u path k hlt]at hq
   have ha:=a2q hu hkr
   have hok:=a16 hu path[k]
   generalize EF u path[k]=r at *
   generalize path[k]=y at *
   rcases r with⟨c,_ | x⟩
   ·simp only[CD]at ha
    have hc0:c≠0:=hok
    have hcb:(c != 0)=true:=by simpa using hc0
    rw[←hq,CD]
    refine A0 (j3 hd hr hgk) ?_
    refine w9 (Aa [] ha) trivial ?_
    refine A0 hcb ?_
    exact Am (A7 []) Tryz.results146
   ·simp only[Dh]at ha
    refine A0 (j3 hd hr hgk) ?_
    refine w9 (Aa [] ha) trivial ?_
    refine A0 (j2 h00 hw) ?_
    refine⟨(k+1,x),by dsimp only;omega,⟨by dsimp only;omega,hok.2,hq⟩,?_⟩
    exact Aq (As.of [((4,0),(4,0)),((5,0),(5,0))] []) hw
  ·have hd:decide ((k:Int)<(path.length:Int))=false:=by simpa using hlt
   rw[List.drop_eq_nil_of_le (by omega)]at hq
   have hq':D8 t path=okR u:=by rw[←hq];rfl
   rw[hq',Ns]
   refine A0 hd ?_
   exact Am (A7 []) Tryz.results146
set_option maxRecDepth 10000
theorem E3 (ps:List CellD):AC Tryz.prog 67 [Ce ps] [] (.c (.int .i64 (Bn ps).1)) []:=by
 refine AC.of_calls fun S w κ vs hv=>?_
 obtain⟨v,vs',rfl,h1,rfl⟩:=hv
 obtain⟨A,cap,rfl,hcap,hc⟩:=Cv.1 h1
 refine (I7 ps A cap hcap S w hc).mono ?_
 rintro e w' ⟨rfl,hb⟩
 exact⟨hb,_,rfl,fun T _ _=>⟨rfl,rfl⟩⟩
theorem e9 (xs ps:List CellD) (h0:(dec xs).1≠0):AC Tryz.prog 145 [Ce xs,Ce ps] [] (.c (.int .i64 (dec xs).1)) []:=by
 have hb:((dec xs).1 != 0)=true:=by simpa using h0
 have hv:=Wv xs
 refine A6 Tryz.func145 Tryz.ntmps145 ?_
 refine A0 trivial ?_
 refine w7 (A3 [] hv) trivial ?_
 refine A0 hb ?_
 exact Am (A7 []) Tryz.results145
theorem O4 (xs ps:List CellD) (h0:(dec xs).1=0):AC Tryz.prog 145 [Ce xs,Ce ps] [] (.c (.int .i64 (Bn ps).1)) []:=by
 have hb:((0:Int) != 0)=false:=rfl
 have hv:=Wv xs
 rw[h0]at hv
 have hp:=E3 ps
 refine A6 Tryz.func145 Tryz.ntmps145 ?_
 refine A0 trivial ?_
 refine w7 (A3 [] hv) trivial ?_
 refine A0 hb ?_
 refine w7 (A3 [] hp) trivial ?_
 refine A0 trivial ?_
 exact Am (A7 []) Tryz.results145
theorem AC.of_mut {P:Program}{f:FuncId}{es:Nat}{e:TypeId}{rows rows':List (List C)}(hc:BA rows'=true)
  (h:∀(S:Nat→Prop) (w:World) (v:Value) (vrows:List (List Value)),Ag w S rows vrows []→(∀x∈vrows,x.length=es)→w.ownsRow 0 e es v rows.length vrows.flatten→Calls P f #[v] w fun e1 w'=>e1=.returned (.tuple #[])∧w.grownBy w' v.ownBlock∧∃vrows',Ag w' (fun _=>False) rows' vrows' []∧(∀x∈vrows',x.length=es)∧w'.ownsRow 0 e es v rows'.length vrows'.flatten) :
  AC P f [.own (0,0)] [((0,0),.row false es e rows)] (.tup []) [((0,0),.row false es e rows')]:=by
 intro Γ B7 hE hA
 obtain⟨v,vs,rfl,hv,rfl⟩:=hA
 obtain⟨_,o,ho,hk⟩:=hv
 obtain⟨_,rfl⟩:=Kj ho
 obtain⟨vrows,bs,h1,h2,h3,h4,h5,h6⟩:=hE.objs (0,0) _ rfl
 have hbs:=h2 rfl
 subst hbs
 have hkv:=hk (by simp)
 rw[←hkv]at h4 h5 h6
 refine (h _ _ _ _ h1 h3 h4).mono ?_
 rintro e1 w' ⟨rfl,hg,vrows',g1,g2,g3⟩
 have hob:∀b,b < Γ.w.heap.size→Γ.ow b=none→some b≠v.ownBlock:=by
  intro b _ hb hv
  have:=h6 b (by simp[←hv])
  rw[hb]at this
  cases this
 refine⟨.tuple #[],Γ.ow,Γ.κ,rfl,⟨⟨[],rfl,rfl⟩,?_,?_,hg.os,hg.tape,hg.output,hg.size,?_,fun i o o' _ _=>rfl⟩⟩
 ·intro i o hi
  obtain⟨rfl,rfl⟩:=Kj hi
  refine⟨vrows',[],Ag.closed hc g1,fun _=>rfl,g2,by rw[←hkv];exact g3,by rw[←hkv];exact h5,fun b hb=>h6 b (by rw[hkv];exact hb)⟩
 ·intro b i hbi
  obtain⟨k1,o,k2,k3⟩:=hE.own b i hbi
  obtain⟨rfl,_⟩:=Kj k2
  exact⟨Nat.lt_of_lt_of_le k1 hg.size,_,rfl,rfl⟩
 ·intro b hl hb
  exact⟨hg.block b hl (hob b hl hb),hb⟩
end
section
open Go.RowKit Go.Shelf
def TS:Ren where
 f:=fun x=>match x with
  | 6=>206
  | 8=>251
  | 9=>250
  | 19=>283
  | 20=>271
  | 21=>275
  | 22=>276
  | 23=>277
  | 24=>278
  | 25=>279
  | 26=>280
  | 27=>248
  | 28=>281
  | 29=>282
  | 36=>295
  | 31=>296
  | 32=>297
  | 37=>298
  | 38=>299
  | 39=>259
  | 41=>311
  |n=>n
 t:=fun x=>match x with
  | 27=>50
  | 29=>9
  | 3=>3
  | 32=>194
  | 26=>50
  | 0=>0
  | 44=>233
  | 46=>249
  | 4=>4
  | 36=>294
  | 35=>293
  | 41=>225
  | 5=>5
  | 9=>9
  | 53=>319
  | 57=>323
  | 63=>347
  | 64=>151
  |n=>n
 g:=fun n=>n
theorem Lh:SlLaysM.n6 Tryz.prog TS where
 mixed:=Bk
 f6:=⟨Tryz.f206.name,by kernel_rfl,by kernel_rfl⟩
 f8:=by kernel_rfl
 f9:=⟨Tryz.f250.name,by kernel_rfl,by kernel_rfl⟩
 f19:=by kernel_rfl
 f20:=by kernel_rfl
 f21:=⟨Tryz.f275.name,by kernel_rfl,by kernel_rfl⟩
 f22:=⟨Tryz.f276.name,by kernel_rfl,by kernel_rfl⟩
 f23:=⟨Tryz.f277.name,by kernel_rfl,by kernel_rfl⟩
 f24:=⟨Tryz.f278.name,by kernel_rfl,by kernel_rfl⟩
 f25:=⟨Tryz.f279.name,by kernel_rfl,by kernel_rfl⟩
 f26:=⟨Tryz.f280.name,by kernel_rfl,by kernel_rfl⟩
 f27:=⟨Tryz.f248.name,by kernel_rfl,by kernel_rfl⟩
 f28:=⟨Tryz.f281.name,by kernel_rfl,by kernel_rfl⟩
 f29:=⟨Tryz.f282.name,by kernel_rfl,by kernel_rfl⟩
 f31:=by kernel_rfl
 f32:=by kernel_rfl
 f36:=⟨Tryz.f295.name,by kernel_rfl,by kernel_rfl⟩
 f37:=⟨Tryz.f298.name,by kernel_rfl,by kernel_rfl⟩
 f38:=⟨Tryz.f299.name,by kernel_rfl,by kernel_rfl⟩
 f39:=⟨Tryz.f259.name,by kernel_rfl,by kernel_rfl⟩
 f41:=⟨Tryz.f311.name,by kernel_rfl,by kernel_rfl⟩
 t0:=Tryz.underlying0
 a0:=Tryz.isAgg0
 z0:=Tryz.sizeOf0
 v0:=Tryz.zeroValue0
 t3:=Tryz.underlying3
 a3:=Tryz.isAgg3
 z3:=Tryz.sizeOf3
 v3:=Tryz.zeroValue3
 t4:=Tryz.underlying4
 a4:=Tryz.isAgg4
 z4:=Tryz.sizeOf4
 v4:=Tryz.zeroValue4
 t5:=Tryz.underlying5
 a5:=Tryz.isAgg5
 z5:=Tryz.sizeOf5
 v5:=Tryz.zeroValue5
 t9:=Tryz.underlying9
 a9:=Tryz.isAgg9
 z9:=Tryz.sizeOf9
 v9:=Tryz.zeroValue9
 t26:=Tryz.underlying50
 a26:=Tryz.isAgg50
 z26:=Tryz.sizeOf50
 v26:=Tryz.zeroValue50
 t27:=Tryz.underlying50
 a27:=Tryz.isAgg50
 z27:=Tryz.sizeOf50
 v27:=Tryz.zeroValue50
 t29:=Tryz.underlying9
 a29:=Tryz.isAgg9
 z29:=Tryz.sizeOf9
 v29:=Tryz.zeroValue9
 t32:=Tryz.underlying194
 a32:=Tryz.isAgg194
 z32:=Tryz.sizeOf194
 v32:=Tryz.zeroValue194
 t35:=Tryz.underlying293
 a35:=Tryz.isAgg293
 z35:=Tryz.sizeOf293
 v35:=Tryz.zeroValue293
 t36:=Tryz.underlying294
 a36:=Tryz.isAgg294
 z36:=Tryz.sizeOf294
 v36:=Tryz.zeroValue294
 t41:=Tryz.underlying225
 a41:=Tryz.isAgg225
 z41:=Tryz.sizeOf225
 v41:=Tryz.zeroValue225
 t44:=Tryz.underlying233
 a44:=Tryz.isAgg233
 z44:=Tryz.sizeOf233
 v44:=Tryz.zeroValue233
 t46:=Tryz.underlying249
 a46:=Tryz.isAgg249
 z46:=Tryz.sizeOf249
 v46:=Tryz.zeroValue249
 t53:=Tryz.underlying319
 a53:=Tryz.isAgg319
 z53:=Tryz.sizeOf319
 v53:=Tryz.zeroValue319
 t57:=Tryz.underlying323
 a57:=Tryz.isAgg323
 z57:=Tryz.sizeOf323
 v57:=Tryz.zeroValue323
 t63:=Tryz.underlying347
 a63:=Tryz.isAgg347
 z63:=Tryz.sizeOf347
 v63:=Tryz.zeroValue347
 t64:=Tryz.underlying151
 a64:=Tryz.isAgg151
 z64:=Tryz.sizeOf151
 v64:=Tryz.zeroValue151
end
section
open Go.RowKit Go.Sort
set_option maxRecDepth 10000
theorem Kp (x y:List UInt8):decide (x≤y) = !Op.bytesLess y x:=by
 rw[bytesLess_eq]
 by_cases h:y<x
 ·have:¬x≤y:=fun h2=>h2 h
  simp[h,this]
 ·have:x≤y:=h
  simp[h,this]
theorem UA (l:List ByteArray) (x:ByteArray):x∈Fs l↔x∈l:=by
 unfold Fs
 rw[List.mem_map]
 constructor
 ·rintro⟨y,hy,rfl⟩
  obtain⟨b,hb,rfl⟩:=List.mem_map.1 ((List.mergeSort_perm _ _).mem_iff.1 hy)
  exact hb
 ·intro h
  exact⟨x.data.toList,(List.mergeSort_perm _ _).mem_iff.2 (List.mem_map.2 ⟨x,h,rfl⟩),rfl⟩
theorem Tw (l:List ByteArray):(Fs l).length=l.length:=by
 unfold Fs
 rw[List.length_map,(List.mergeSort_perm _ _).length_eq,List.length_map]
theorem Wf {l:List ByteArray}(hn:l.Nodup):Up (Fs l):=by
 unfold Up Fs
 rw[List.pairwise_map]
 have hs:=List.pairwise_mergeSort (le:=fun x y:List UInt8=>decide (x≤y)) (fun a b c h1 h2=>by
  rw[Kp]at h1 h2 ⊢
  cases h3:Op.bytesLess c a with
  |false=>rfl
  |true =>
   rcases CX a b with h | h | h
   ·rw[Cu h3 h]at h2;exact h2
   ·subst h;rw[h3]at h2;exact h2
   ·rw[h]at h1;exact h1) (fun a b=>by
  rw[Kp,Kp]
  rcases CX a b with h | h | h
  ·have:Op.bytesLess b a=false:=by
    cases h2:Op.bytesLess b a with
    |false=>rfl
    |true=>have:=Cu h h2;rw[Ch]at this;cases this
   simp[this]
  ·subst h;simp[Ch]
  ·have:Op.bytesLess a b=false:=by
    cases h2:Op.bytesLess a b with
    |false=>rfl
    |true=>have:=Cu h h2;rw[Ch]at this;cases this
   simp[this]) (l.map fun b=>b.data.toList)
 have hnd:((l.map fun b=>b.data.toList).mergeSort fun x y=>decide (x≤y)).Nodup:=by
  refine (List.mergeSort_perm _ _).nodup_iff.2 ?_
  refine List.pairwise_map.2 (hn.imp fun {a b} h e=>h ?_)
  exact AA (by rw[ByteArray.toList_eq,ByteArray.toList_eq];exact e)
 refine (hs.and hnd).imp fun {a b} h=>?_
 rw[Kp]at h
 unfold BS
 rw[ByteArray.toList_eq,ByteArray.toList_eq]
 rcases CX a b with g | g | g
 ·exact g
 ·exact absurd g h.2
 ·rw[g]at h;exact absurd h.1 (by simp)
theorem QR {vis keys:List ByteArray}(hn:vis.Nodup) (h:∀x,x∈vis↔x∈keys):Fs vis=AX keys:=Vk (Wf hn) (Ex keys) fun x=>by rw[UA,C7];exact h x
theorem My {w:World}{S:Nat→Prop}{l:List ByteArray}{vs:List (List Value)}{bs:List Nat}:Ag w S (l.map Ab) vs bs↔vs=l.map (fun x=>[Value.string x])∧bs=[]:=Gw Tg
theorem Ux (l:List ByteArray):∀x∈l.map (fun x=>[Value.string x]),x.length=1:=fun x hx=>by
 obtain⟨y,_,rfl⟩:=List.mem_map.1 hx
 rfl
theorem Nf (l:List ByteArray):(l.map fun x=>[Value.string x]).flatten=(l.map fun b=>b.data.toList).map encStr:=by
 induction l with
 |nil=>rfl
 |cons x l ih=>simp only[List.map_cons,List.flatten_cons,ih,List.singleton_append]
theorem G4 (l:List ByteArray):BA (l.map Ab)=true:=by
 induction l with
 |nil=>rfl
 |cons x l ih=>simp only[List.map_cons,BA,ih,Bool.and_true];rfl
attribute [go_sem] G4
theorem P3 (l:List ByteArray) (hl:l.length≤1000000):AC Tryz.prog 206 [.own (0,0)] [((0,0),.row false 1 9 (l.map Ab))] (.tup []) [((0,0),.row false 1 9 ((Fs l).map Ab))]:=by
 refine AC.of_mut (G4 _) fun S w v vrows h1 h2 h3=>?_
 obtain⟨rfl,_⟩:=My.1 h1
 rw[Nf,List.length_map]at h3
 have hsl:=Tw l
 have hll:(l.map fun b=>b.data.toList).length=l.length:=by simp
 rcases h3.2 with⟨rfl,h0⟩ | ⟨g,cap,cur,rfl,hb,hg,hc,hm,hs,ht⟩
 ·have hl0:l=[]:=List.eq_nil_of_length_eq_zero h0
  subst hl0
  have e0:Fs []=[]:=by simp[Fs]
  rw[e0]
  refine (AnyM.slices_Sort_string_none Lh none 0 w).mono ?_
  rintro e1 w' ⟨rfl,rfl⟩
  exact⟨rfl,⟨rfl,rfl,rfl,Nat.le_refl _,fun _ _ _=>rfl⟩,[],⟨rfl,rfl⟩,by simp,World.ownsRow_nil _ _ _ _⟩
 ·rw[Nat.mul_one,←hll]at ht
  have hH:=holds_of_block hg ht
  have hcall:=AnyM.slices_Sort_string Lh g 0 cap (l.map fun b=>b.data.toList) w hH (Array.getElem?_eq_some_iff.1 hg).1 (by rw[hll];omega)
  rw[hll]at hcall
  refine hcall.mono ?_
  rintro e1 w' ⟨rfl,n,os,rfl⟩
  refine⟨rfl,grownBy_sorted _,(Fs l).map (fun x=>[Value.string x]),My.2 ⟨rfl,rfl⟩,Ux _,?_⟩
  have hmap:((Fs l).map fun b=>b.data.toList)=(l.map fun b=>b.data.toList).mergeSort fun x y=>decide (x≤y):=by
   unfold Fs
   rw[List.map_map]
   exact List.map_id'' (fun x=>rfl) _
  rw[Nf,hmap,List.length_map,hsl]
  have hts:((l.map fun b=>b.data.toList).mergeSort fun x y=>decide (x≤y)).length=(l.map fun b=>b.data.toList).length:=(List.mergeSort_perm _ _).length_eq
  generalize ((l.map fun b=>b.data.toList).mergeSort fun x y=>decide (x≤y))=ts at *
  generalize (l.map fun b=>b.data.toList)=ss at *
  have:=ownsRow_sorted (w:=w) (os:=os) (n:=n) (base:=0) hts hb hg (by rw[hll];exact hc) hm hs
  rw[hll]at this
  exact this
end
section
open Go.RowKit
set_option maxRecDepth 10000
def Yg (keys:List ByteArray) (kids:List V):AV:=.agg [.c (.int .i64 6),.c (.int .i64 0),.c (.str ByteArray.empty),.c (.sl ((AX keys).map Ab)),.c (.sl (((AX keys).map (AH keys kids)).map V.cs))]
theorem TA (keys : List ByteArray) (kids : List V) (hl : keys.length = kids.length) (hb : keys.length ≤ 900000) (hs : ∀ k ∈ keys, k.size ≤ 9223372036854775807) : AC Tryz.prog 155 [.c (.sl (keys.map Ab)), .c (.sl (kids.map V.cs))] [] (Yg keys kids) [] := by
  have hlk : (keys.map Ab).length = keys.length := by simp
  have ht := Tryz.underlying227
  have hk := Tryz.underlying9
  have hz : ∃ z, ∀ w, (zeroValue 76).run Tryz.prog w = .ok z w := ⟨_, Tryz.zeroValue76⟩
  unfold Yg
  refine A6 Tryz.func155 Tryz.ntmps155 ?_
  refine ER trivial ?_
  refine Br ?_
  refine ER trivial ?_
  refine Br ?_
  (apply (Tv hk); (iterate 4 (focus (first | (simp only [go_sem, Nat.reduceEqDiff, Nat.reduceAdd, Nat.reduceSub, Nat.reduceLeDiff, Nat.reduceMul, Nat.reduceBEq, Nat.reduceLT, Int.reduceToNat, reduceCtorEq]; first | done | exact rfl | (and_intros <;> rfl)) | exact rfl | decide))))
  refine ER trivial ?_
  refine Br ?_
  refine ER hlk ?_
  refine AG (κ := Nat) (fun k => ⟨mkS 0 60 [(1, .c (.sl (kids.map V.cs))), (4, .ptr (4, 0) 0), (5, .own (99, 0)), (13, .c (.sl (keys.map Ab))), (14, .c (.int .i64 keys.length)), (15, .c (.int .i64 k))],
      [((4, 0), .box [.c (.int .i64 0), .c (.int .i64 0), .c (.str ByteArray.empty), .nils, .nils]), ((99, 0), .blk (Ez Tryz.prog 9 (keys.take k)) ((kids.take k).map V.cs))]⟩)
    (fun k => k ≤ keys.length) (fun k => keys.length - k) 0 (Nat.zero_le _) ?_ ?_
  · (apply (As.of [((4, 0), (4, 0)), ((99, 0), (12, 0))] []); (iterate 2 ((focus (simp only [go_sem, Nat.reduceEqDiff, Nat.reduceAdd, Nat.reduceSub, Nat.reduceLeDiff, Nat.reduceMul, Nat.reduceBEq, Nat.reduceLT, Int.reduceToNat, reduceCtorEq, List.take_zero]; try (and_intros <;> rfl))); (focus exact rfl))); (iterate 4 (focus (simp [go_sem, List.take_zero]; done))))
  · intro k hk1
    by_cases hlt : k < keys.length
    · have hdk : decide ((k : Int) < (keys.length : Int)) = true := by simpa using hlt
      have hlt2 : k < kids.length := by omega
      have hw := Ae (k := k) (by omega)
      have hr : Aj (keys.map Ab) 1 k = true := by simp [Aj, hlt, Ab]
      have hg : (keys.map Ab)[k]? = some [.str keys[k]] := by simp [hlt, Ab]
      have hr2 : Aj (kids.map V.cs) 5 k = true := by simp [Aj, hlt2, V.cs_eq]
      have hg2 : (kids.map V.cs)[k]? = some [.int .i64 kids[k].kind, .int .i64 kids[k].num, .str kids[k].text, .sl (kids[k].keys.map Ab), .sl (kids[k].kids.map V.cs)] := by simp [hlt2, V.cs_eq]
      have hsk := hs keys[k] (List.getElem_mem hlt)
      have hkn : (keys.take k).length < 9223372036854775807 := by rw [List.length_take]; omega
      have e1 : keys.take k ++ [keys[k]] = keys.take (k + 1) := by rw [List.take_succ_eq_append_getElem hlt]
      have e2 : (kids.take k).map V.cs ++ [[.int .i64 kids[k].kind, .int .i64 kids[k].num, .str kids[k].text, .sl (kids[k].keys.map Ab), .sl (kids[k].kids.map V.cs)]] = (kids.take (k + 1)).map V.cs := by rw [List.take_succ_eq_append_getElem hlt2, List.map_append, List.map_cons, List.map_nil, V.cs_eq]
      generalize keys[k] = s at *
      generalize kids[k] = v at *
      refine A0 (j5 hdk hr hg hr2 hg2) ?_
      (apply (Ul ht hk hkn hsk); (iterate 8 (focus (first | (simp only [go_sem, Nat.reduceEqDiff, Nat.reduceAdd, Nat.reduceSub, Nat.reduceLeDiff, Nat.reduceMul, Nat.reduceBEq, Nat.reduceLT, Int.reduceToNat, reduceCtorEq]; first | done | exact rfl | (and_intros <;> rfl)) | exact rfl | decide))))
      refine A0 hw ?_
      refine ⟨k + 1, by omega, by omega, ?_⟩
      exact Aq (As.of [((4, 0), (4, 0)), ((99, 0), (99, 0))] []) (j2 e1 e2)
    · have hdk : decide ((k : Int) < (keys.length : Int)) = false := by simpa using hlt
      have hke : k = keys.length := by omega
      have e1 : keys.take k = keys := by rw [hke, List.take_length]
      have e2 : kids.take k = kids := by rw [hke, hl, List.take_length]
      rw [e1, e2]
      refine ER trivial ?_
      refine Br ?_
      refine ER hdk ?_
      refine Br ?_
      refine ER trivial ?_
      refine Jg ?_
      (repeat ((with_reducible apply Te); (iterate 2 (focus (first | (simp only [go_sem, Nat.reduceEqDiff, Nat.reduceAdd, Nat.reduceSub, Nat.reduceLeDiff, Nat.reduceMul, Nat.reduceBEq, Nat.reduceLT, Int.reduceToNat, reduceCtorEq]; first | done | exact rfl | (and_intros <;> rfl)) | exact rfl | decide)))))
      (apply (Xk ht hk); (focus (first | (simp only [go_sem, Nat.reduceEqDiff, Nat.reduceAdd, Nat.reduceSub, Nat.reduceLeDiff, Nat.reduceMul, Nat.reduceBEq, Nat.reduceLT, Int.reduceToNat, reduceCtorEq]; first | done | exact rfl | (and_intros <;> rfl)) | exact rfl | decide)); (focus (first | (simp only [go_sem, Nat.reduceEqDiff, Nat.reduceAdd, Nat.reduceSub, Nat.reduceLeDiff, Nat.reduceMul, Nat.reduceBEq, Nat.reduceLT, Int.reduceToNat, reduceCtorEq]; first | done | exact rfl | (and_intros <;> rfl)) | exact rfl | decide)); (focus (first | (simp only [go_sem, Nat.reduceEqDiff, Nat.reduceAdd, Nat.reduceSub, Nat.reduceLeDiff, Nat.reduceMul, Nat.reduceBEq, Nat.reduceLT, Int.reduceToNat, reduceCtorEq]; first | done | exact rfl | (and_intros <;> rfl)) | exact rfl | decide)); (focus (intro es clock b; (focus (first | (simp only [go_sem, Nat.reduceEqDiff, Nat.reduceAdd, Nat.reduceSub, Nat.reduceLeDiff, Nat.reduceMul, Nat.reduceBEq, Nat.reduceLT, Int.reduceToNat, reduceCtorEq]; first | done | exact rfl | (and_intros <;> rfl)) | exact rfl | decide)))))
      intro es clock b G
      refine SP ?_
      dsimp only
      have hz0 : ([] : List ByteArray).map Ab = [] := rfl
      refine AG (κ := List ByteArray) (fun vis => ⟨mkS 0 60 [(4, .ptr (4, 0) 0), (5, .own (99, 0)), (8, .ptr (8, 0) 0), (29, .own (97, 0))],
          [((4, 0), .box [.c (.int .i64 0), .c (.int .i64 0), .c (.str ByteArray.empty), .nils, .nils]), ((99, 0), .blk (I0 Tryz.prog 9 keys es clock b) (kids.map V.cs)), ((8, 0), .box [.c (.int .i64 6), .c (.int .i64 0), .c (.str ByteArray.empty), .own (98, 0), .nils]), ((98, 0), .row false 1 9 (vis.map Ab)), ((97, 0), .blk (EI es clock b vis) [])]⟩)
        (fun vis => vis.Nodup ∧ (∀ k ∈ vis, k ∈ keys) ∧ vis.length + I3 keys vis ≤ keys.length) (fun vis => I3 keys vis) [] ⟨by simp, by simp, by rw [RY]; simp⟩ ?_ ?_
      · exact Aq (As.of [((4, 0), (4, 0)), ((99, 0), (99, 0)), ((8, 0), (8, 0)), ((97, 0), (29, 0))] []) hz0
      · rintro vis ⟨hnd, hsub, hcnt⟩
        refine ER trivial ?_
        refine Jg ?_
        (apply (YV (99, 0) hk G); (focus (first | (simp only [go_sem, Nat.reduceEqDiff, Nat.reduceAdd, Nat.reduceSub, Nat.reduceLeDiff, Nat.reduceMul, Nat.reduceBEq, Nat.reduceLT, Int.reduceToNat, reduceCtorEq]; first | done | exact rfl | (and_intros <;> rfl)) | exact rfl | decide)); (focus (first | (simp only [go_sem, Nat.reduceEqDiff, Nat.reduceAdd, Nat.reduceSub, Nat.reduceLeDiff, Nat.reduceMul, Nat.reduceBEq, Nat.reduceLT, Int.reduceToNat, reduceCtorEq]; first | done | exact rfl | (and_intros <;> rfl)) | exact rfl | decide)); (focus (first | (simp only [go_sem, Nat.reduceEqDiff, Nat.reduceAdd, Nat.reduceSub, Nat.reduceLeDiff, Nat.reduceMul, Nat.reduceBEq, Nat.reduceLT, Int.reduceToNat, reduceCtorEq]; first | done | exact rfl | (and_intros <;> rfl)) | exact rfl | decide)); (focus (first | (simp only [go_sem, Nat.reduceEqDiff, Nat.reduceAdd, Nat.reduceSub, Nat.reduceLeDiff, Nat.reduceMul, Nat.reduceBEq, Nat.reduceLT, Int.reduceToNat, reduceCtorEq]; first | done | exact rfl | (and_intros <;> rfl)) | exact rfl | decide)); (focus (intro k; (focus (first | (simp only [go_sem, Nat.reduceEqDiff, Nat.reduceAdd, Nat.reduceSub, Nat.reduceLeDiff, Nat.reduceMul, Nat.reduceBEq, Nat.reduceLT, Int.reduceToNat, reduceCtorEq]; first | done | exact rfl | (and_intros <;> rfl)) | exact rfl | decide)))))
        · intro hall
          (repeat ((with_reducible apply Te); (iterate 2 (focus (first | (simp only [go_sem, Nat.reduceEqDiff, Nat.reduceAdd, Nat.reduceSub, Nat.reduceLeDiff, Nat.reduceMul, Nat.reduceBEq, Nat.reduceLT, Int.reduceToNat, reduceCtorEq]; first | done | exact rfl | (and_intros <;> rfl)) | exact rfl | decide)))))
          refine SP ?_
          dsimp only
          have hsv := QR hnd fun x => ⟨hsub x, hall x⟩
          have hso := P3 vis (by omega)
          rw [hsv] at hso
          have hkl := JA keys
          have hkm := fun x => C7 (keys := keys) (x := x)
          obtain ⟨ks, hks⟩ : ∃ ks, AX keys = ks := ⟨_, rfl⟩
          rw [hks] at hso hkl hkm ⊢
          have hlks : (ks.map Ab).length = ks.length := by simp
          have hz1 : ((ks.take 0).map (AH keys kids)).map V.cs = [] := rfl
          refine ER trivial ?_
          refine Br ?_
          refine A0 trivial ?_
          refine w9 (Ri (98, 0) hso) trivial ?_
          refine A0 hlks ?_
          refine AG (κ := Nat) (fun k => ⟨mkS 0 60 [(4, .ptr (4, 0) 0), (5, .own (99, 0)), (8, .ptr (8, 0) 0), (44, .own (98, 0)), (45, .c (.int .i64 ks.length)), (46, .c (.int .i64 k))],
              [((4, 0), .box [.c (.int .i64 0), .c (.int .i64 0), .c (.str ByteArray.empty), .nils, .nils]), ((99, 0), .blk (I0 Tryz.prog 9 keys es clock b) (kids.map V.cs)), ((8, 0), .box [.c (.int .i64 6), .c (.int .i64 0), .c (.str ByteArray.empty), .own (98, 0), .own (96, 0)]), ((98, 0), .row false 1 9 (ks.map Ab)), ((96, 0), .row false 5 76 (((ks.take k).map (AH keys kids)).map V.cs))]⟩)
            (fun k => k ≤ ks.length) (fun k => ks.length - k) 0 (Nat.zero_le _) ?_ ?_
          · exact Aq (As.of [((4, 0), (4, 0)), ((99, 0), (99, 0)), ((8, 0), (8, 0)), ((98, 0), (98, 0))] []) hz1
          · intro k hk1
            by_cases hlt : k < ks.length
            · have hdk : decide ((k : Int) < (ks.length : Int)) = true := by simpa using hlt
              have hw := Ae (k := k) (by omega)
              have hr : Aj (ks.map Ab) 1 k = true := by simp [Aj, hlt, Ab]
              have hg : (ks.map Ab)[k]? = some [.str ks[k]] := by simp [hlt, Ab]
              have hmem := (hkm ks[k]).1 (List.getElem_mem hlt)
              have hsk := hs _ hmem
              obtain ⟨j, hj1, hj2, hj3⟩ := EM hl hmem
              have hol : (ks.take k).length + 1 ≤ 1000000 := by rw [List.length_take]; omega
              have e2 : ((ks.take k).map (AH keys kids)).map V.cs ++ [[.int .i64 (AH keys kids ks[k]).kind, .int .i64 (AH keys kids ks[k]).num, .str (AH keys kids ks[k]).text, .sl ((AH keys kids ks[k]).keys.map Ab), .sl ((AH keys kids ks[k]).kids.map V.cs)]] = ((ks.take (k + 1)).map (AH keys kids)).map V.cs := by
                rw [List.take_succ_eq_append_getElem hlt, List.map_append, List.map_append, List.map_cons, List.map_cons, List.map_nil, List.map_nil, V.cs_eq]
              generalize AH keys kids ks[k] = v at *
              have hg2 : (kids.map V.cs)[j]? = some [.int .i64 v.kind, .int .i64 v.num, .str v.text, .sl (v.keys.map Ab), .sl (v.kids.map V.cs)] := by rw [List.getElem?_map, hj3, Option.map_some, V.cs_eq]
              generalize ks[k] = s at *
              refine A0 (j3 hdk hr hg) ?_
              (apply (TB j (TK G) ht hk hz hsk hj1 hj2 hg2); (iterate 6 (focus (first | (simp only [go_sem, Nat.reduceEqDiff, Nat.reduceAdd, Nat.reduceSub, Nat.reduceLeDiff, Nat.reduceMul, Nat.reduceBEq, Nat.reduceLT, Int.reduceToNat, reduceCtorEq]; first | done | exact rfl | (and_intros <;> rfl)) | exact rfl | decide))))
              refine A0 (j2 hol hw) ?_
              refine ⟨k + 1, by omega, by omega, ?_⟩
              exact Aq (As.of [((4, 0), (4, 0)), ((99, 0), (99, 0)), ((8, 0), (8, 0)), ((98, 0), (98, 0)), ((96, 0), (56, 0))] []) e2
            · have hdk : decide ((k : Int) < (ks.length : Int)) = false := by simpa using hlt
              have hke : ks.take k = ks := List.take_of_length_le (by omega)
              rw [hke]
              refine A0 hdk ?_
              exact A9 (A8 [] [(98, 0), (96, 0)]) Tryz.results155 hdk
        · intro k hkk hnv
          (repeat ((with_reducible apply Te); (iterate 2 (focus (first | (simp only [go_sem, Nat.reduceEqDiff, Nat.reduceAdd, Nat.reduceSub, Nat.reduceLeDiff, Nat.reduceMul, Nat.reduceBEq, Nat.reduceLT, Int.reduceToNat, reduceCtorEq]; first | done | exact rfl | (and_intros <;> rfl)) | exact rfl | decide)))))
          refine SP ?_
          dsimp only
          have hlen : vis.length + 1 ≤ 1000000 := by omega
          have hless := QE hkk hnv
          refine ER trivial ?_
          refine Jg ?_
          refine w4 (WP (99, 0) G) trivial ?_
          (repeat ((with_reducible apply Te); (iterate 2 (focus (first | (simp only [go_sem, Nat.reduceEqDiff, Nat.reduceAdd, Nat.reduceSub, Nat.reduceLeDiff, Nat.reduceMul, Nat.reduceBEq, Nat.reduceLT, Int.reduceToNat, reduceCtorEq]; first | done | exact rfl | (and_intros <;> rfl)) | exact rfl | decide)))))
          refine SP ?_
          dsimp only
          refine A0 hlen ?_
          refine ⟨vis ++ [k], hless, ⟨?_, ?_, ?_⟩, ?_⟩
          · rw [List.nodup_append]
            exact ⟨hnd, by simp, fun a ha b hb' => by have : b = k := by simpa using hb'
                                                      subst this
                                                      exact fun e => hnv (e ▸ ha)⟩
          · intro x hx
            rcases List.mem_append.1 hx with hx | hx
            · exact hsub x hx
            · have : x = k := by simpa using hx
              subst this
              exact hkk
          · rw [List.length_append, List.length_singleton]
            omega
          · (apply (As.of [((4, 0), (4, 0)), ((99, 0), (99, 0)), ((8, 0), (8, 0)), ((98, 0), (38, 0)), ((97, 0), (97, 0))] []); (iterate 2 ((focus (simp only [go_sem, Nat.reduceEqDiff, Nat.reduceAdd, Nat.reduceSub, Nat.reduceLeDiff, Nat.reduceMul, Nat.reduceBEq, Nat.reduceLT, Int.reduceToNat, reduceCtorEq, List.map_append, Ab]; try (and_intros <;> rfl))); (focus exact rfl))); (iterate 4 (focus (simp [go_sem, List.map_append, Ab]; done))))
theorem TD (keys:List ByteArray) (kids:List V):Yg keys kids=(Gi keys kids).av:=rfl
end
end Go.Proofs.YtllfmaflodbieaaGreatDoor
