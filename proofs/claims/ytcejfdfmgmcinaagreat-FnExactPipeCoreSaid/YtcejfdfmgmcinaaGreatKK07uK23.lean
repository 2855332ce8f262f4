/- Texts of this proof: K07 K22 K23. -/
import Derived.Test.YtcejfdfmgmcinaaGreatKG1FuK06
set_option linter.all false
set_option maxHeartbeats 8000000
namespace Go.Proofs.YtcejfdfmgmcinaaGreat
open Go.RowKit
set_option maxRecDepth 10000
theorem RD {op num:Int}{val:List CellD}(ts:List CT) (h:op≠3):AC Tryz.prog 258 [HY op num val,CF ts] [] (BA [] false) []:=by
 have k3:(op != 3)=true:=DS h
 have hnil:([]:List CoD).map CoD.cs=[]:=rfl
 generalize ts.map AD=P at *
 unfold BA
 refine A7 Tryz.func258 Tryz.ntmps258 k3 ?_
 exact A9 (A8 [] []) Tryz.results258 hnil
theorem RF {num:Int}{val:List CellD}{a b:CT}(hn:(CT.mk 3 num val [a,b]).ok) (hz:(CT.mk 3 num val [a,b]).size≤900):∃L c,Hs (FK 3 [a,b]) L c∧AC Tryz.prog 258 [HY 3 num val,CF [a,b]] [] (BA L c) []:=by
 simp only[CT.size,Ae]at hz
 unfold CT.ok at hn
 obtain⟨hno,hal,hk⟩:=hn
 rw[AY]at hk
 have ha:=hk a (by simp)
 have hb:=hk b (by simp)
 have ht:=Cs a (by omega)
 have hu:=Cs b (by omega)
 have hto:a.top.op=a.op:=rfl
 have huo:b.top.op=b.op:=rfl
 obtain⟨hr0,hg0⟩:=C2 [a,b] (k:=0) (by simp)
 obtain⟨hr1,hg1⟩:=C2 [a,b] (k:=1) (by simp)
 simp only[List.getElem_cons_zero,List.getElem_cons_succ]at hg0 hg1
 have hln:([a,b].map AD).length=2:=rfl
 have hnil:([]:List CoD).map CoD.cs=[]:=rfl
 have k3:((3:Int) != 3)=false:=rfl
 have hp:FK 3 [a,b]=if a.op=1 then some b else if b.op=1 then some a else if a.op=2∧b.op=2 then some b else if a.op=2∧b.op=16 then FD (BX b.num (vOf a.val)) else none:=rfl
 rw[hp]
 by_cases h1:a.op=1
 ·have m1:(a.top.op==1)=true:=Gn h1
  refine⟨b.flat 0,true,by rw[if_pos h1];exact FR b,?_⟩
  generalize [a,b].map AD=P at *
  generalize a.top=A,b.top=B,(a.flat 0).map CoD.cs=Fa,(b.flat 0).map CoD.cs=Fb at *
  unfold BA
  refine A7 Tryz.func258 Tryz.ntmps258 (j3 k3 hr0 hg0) ?_
  refine v9 (A4 [] ht) q9 (j2 hr1 hg1) ?_
  refine v9 (A4 [] hu) q9 (j3 m1 hr1 hg1) ?_
  exact A9 (A8 [] []) Tryz.results258 m1
 ·have m1:(a.top.op==1)=false:=DH h1
  rw[if_neg h1]
  by_cases h2:b.op=1
  ·have m2:(b.top.op==1)=true:=Gn h2
   refine⟨a.flat 0,true,by rw[if_pos h2];exact FR a,?_⟩
   generalize [a,b].map AD=P at *
   generalize a.top=A,b.top=B,(a.flat 0).map CoD.cs=Fa,(b.flat 0).map CoD.cs=Fb at *
   unfold BA
   refine A7 Tryz.func258 Tryz.ntmps258 (j3 k3 hr0 hg0) ?_
   refine v9 (A4 [] ht) q9 (j2 hr1 hg1) ?_
   refine v9 (A4 [] hu) q9 (j4 m1 m2 hr0 hg0) ?_
   exact A9 (A8 [] []) Tryz.results258 m1
  ·have m2:(b.top.op==1)=false:=DH h2
   rw[if_neg h2]
   by_cases h3:a.op=2
   ·have m3:(a.top.op==2)=true:=Gn h3
    by_cases h4:b.op=2
    ·have m4:(b.top.op==2)=true:=Gn h4
     refine⟨b.flat 0,true,by rw[if_pos ⟨h3,h4⟩];exact FR b,?_⟩
     generalize [a,b].map AD=P at *
     generalize a.top=A,b.top=B,(a.flat 0).map CoD.cs=Fa,(b.flat 0).map CoD.cs=Fb at *
     unfold BA
     refine A7 Tryz.func258 Tryz.ntmps258 (j3 k3 hr0 hg0) ?_
     refine v9 (A4 [] ht) q9 (j2 hr1 hg1) ?_
     refine v9 (A4 [] hu) q9 (j6 m1 m2 m3 m4 hr1 hg1) ?_
     exact A9 (A8 [] []) Tryz.results258 m1
    ·have m4:(b.top.op==2)=false:=DH h4
     rw[if_neg (fun h=>h4 h.2)]
     by_cases h5:b.op=16
     ·have m5:(b.top.op==16)=true:=Gn h5
      obtain⟨v,hv,_,ev,rfl⟩:=CK ha h3
      have ht:=DT v
      have hbn:1≤b.num∧b.num≤8:=by
       cases b with
       |mk op num val kids =>
        have h5:op=16:=h5
        subst h5
        unfold CT.ok at hb
        have h6:=hb.1.numOk
        unfold EW BO at h6
        have h7:1≤num∧num≤8:=by simpa using h6
        exact h7
      have hD:=ZV b.num hv hbn
      obtain⟨L,c,hL,hm⟩:=FC (BX b.num v) (FG b.num hv)
      refine⟨L,c,by rw[if_pos ⟨h3,h5⟩,ev];exact hL,?_⟩
      have hbt:b.top.num=b.num:=rfl
      have q1:((2:Int)==1)=false:=rfl
      have q2:((2:Int)==2)=true:=rfl
      rw[←hbt]at hD hm
      clear hL hp hbt
      generalize [AG v,b].map AD=P at *
      generalize b.top=B,((AG v).flat 0).map CoD.cs=Fa,(b.flat 0).map CoD.cs=Fb at *
      obtain⟨gc,gl,hg⟩:=GG (BX B.num v)
      rw[hg]at hD hm
      clear hg
      generalize v.enc=Wv at *
      unfold BA at hm ⊢
      refine A7 Tryz.func258 Tryz.ntmps258 (j3 k3 hr0 hg0) ?_
      refine v9 (A4 [] ht) q9 (j2 hr1 hg1) ?_
      refine v9 (A4 [] hu) q9 (j5 q1 q2 m2 m4 m5) ?_
      refine v9 (A4 [] hD) q9 q9 ?_
      refine v9 (A4 [] hm) q9 q9 ?_
      exact A9 (A8 [] []) Tryz.results258 q1
     ·have m5:(b.top.op==16)=false:=DH h5
      refine⟨[],false,by rw[if_neg (fun h=>h5 h.2)];exact IW,?_⟩
      generalize [a,b].map AD=P at *
      generalize a.top=A,b.top=B,(a.flat 0).map CoD.cs=Fa,(b.flat 0).map CoD.cs=Fb at *
      unfold BA
      refine A7 Tryz.func258 Tryz.ntmps258 (j3 k3 hr0 hg0) ?_
      refine v9 (A4 [] ht) q9 (j2 hr1 hg1) ?_
      refine v9 (A4 [] hu) q9 (j5 m1 m2 m3 m4 m5) ?_
      exact A9 (A8 [] []) Tryz.results258 hnil
   ·have m3:(a.top.op==2)=false:=DH h3
    refine⟨[],false,by rw[if_neg (fun h=>h3 h.1),if_neg (fun h=>h3 h.1)];exact IW,?_⟩
    generalize [a,b].map AD=P at *
    generalize a.top=A,b.top=B,(a.flat 0).map CoD.cs=Fa,(b.flat 0).map CoD.cs=Fb at *
    unfold BA
    refine A7 Tryz.func258 Tryz.ntmps258 (j3 k3 hr0 hg0) ?_
    refine v9 (A4 [] ht) q9 (j2 hr1 hg1) ?_
    refine v9 (A4 [] hu) q9 (j3 m1 m2 m3) ?_
    exact A9 (A8 [] []) Tryz.results258 hnil
theorem Tx {op num:Int}{val:List CellD}(ts:List CT) (h:op≠9):AC Tryz.prog 260 [HY op num val,CF ts] [] (BA [] false) []:=by
 have k9:(op != 9)=true:=DS h
 have hnil:([]:List CoD).map CoD.cs=[]:=rfl
 generalize ts.map AD=P at *
 unfold BA
 refine A7 Tryz.func260 Tryz.ntmps260 k9 ?_
 exact A9 (A8 [] []) Tryz.results260 hnil
theorem Ty {num:Int}{val:List CellD}{a:CT}(ha:a.ok) (hz:a.size≤900):∃L c,Hs (QB 9 [a]) L c∧AC Tryz.prog 260 [HY 9 num val,CF [a]] [] (BA L c) []:=by
 have ht:=Cs a (by omega)
 have hto:a.top.op=a.op:=rfl
 obtain⟨hr0,hg0⟩:=C2 [a] (k:=0) (by simp)
 simp only[List.getElem_cons_zero]at hg0
 have k9:((9:Int) != 9)=false:=rfl
 have hnil:([]:List CoD).map CoD.cs=[]:=rfl
 have hp:QB 9 [a]=if a.op=2∨a.op=1∨a.op=15∨a.op=17∨a.op=9 then some a else none:=by
  unfold QB
  simp
 rw[hp]
 by_cases h0:a.op=2
 ·have m0:(a.top.op==2)=true:=Gn h0
  refine⟨a.flat 0,true,by rw[if_pos (by omega)];exact FR a,?_⟩
  generalize [a].map AD=P,a.top=A,(a.flat 0).map CoD.cs=Fa at *
  unfold BA
  refine A7 Tryz.func260 Tryz.ntmps260 (j3 k9 hr0 hg0) ?_
  refine v9 (A4 [] ht) q9 (j3 m0 hr0 hg0) ?_
  exact A9 (A8 [] []) Tryz.results260 k9
 have m0:(a.top.op==2)=false:=DH h0
 by_cases h1:a.op=1
 ·have m1:(a.top.op==1)=true:=Gn h1
  refine⟨a.flat 0,true,by rw[if_pos (by omega)];exact FR a,?_⟩
  generalize [a].map AD=P,a.top=A,(a.flat 0).map CoD.cs=Fa at *
  unfold BA
  refine A7 Tryz.func260 Tryz.ntmps260 (j3 k9 hr0 hg0) ?_
  refine v9 (A4 [] ht) q9 (j4 m0 m1 hr0 hg0) ?_
  exact A9 (A8 [] []) Tryz.results260 k9
 have m1:(a.top.op==1)=false:=DH h1
 by_cases h2:a.op=15
 ·have m2:(a.top.op==15)=true:=Gn h2
  refine⟨a.flat 0,true,by rw[if_pos (by omega)];exact FR a,?_⟩
  generalize [a].map AD=P,a.top=A,(a.flat 0).map CoD.cs=Fa at *
  unfold BA
  refine A7 Tryz.func260 Tryz.ntmps260 (j3 k9 hr0 hg0) ?_
  refine v9 (A4 [] ht) q9 (j5 m0 m1 m2 hr0 hg0) ?_
  exact A9 (A8 [] []) Tryz.results260 k9
 have m2:(a.top.op==15)=false:=DH h2
 by_cases h3:a.op=17
 ·have m3:(a.top.op==17)=true:=Gn h3
  refine⟨a.flat 0,true,by rw[if_pos (by omega)];exact FR a,?_⟩
  generalize [a].map AD=P,a.top=A,(a.flat 0).map CoD.cs=Fa at *
  unfold BA
  refine A7 Tryz.func260 Tryz.ntmps260 (j3 k9 hr0 hg0) ?_
  refine v9 (A4 [] ht) q9 (j6 m0 m1 m2 m3 hr0 hg0) ?_
  exact A9 (A8 [] []) Tryz.results260 k9
 have m3:(a.top.op==17)=false:=DH h3
 by_cases h4:a.op=9
 ·have m4:(a.top.op==9)=true:=Gn h4
  refine⟨a.flat 0,true,by rw[if_pos (by omega)];exact FR a,?_⟩
  generalize [a].map AD=P,a.top=A,(a.flat 0).map CoD.cs=Fa at *
  unfold BA
  refine A7 Tryz.func260 Tryz.ntmps260 (j3 k9 hr0 hg0) ?_
  refine v9 (A4 [] ht) q9 (j7 m0 m1 m2 m3 m4 hr0 hg0) ?_
  exact A9 (A8 [] []) Tryz.results260 k9
 have m4:(a.top.op==9)=false:=DH h4
 refine⟨[],false,by rw[if_neg (by omega)];exact IW,?_⟩
 generalize [a].map AD=P,a.top=A,(a.flat 0).map CoD.cs=Fa at *
 unfold BA
 refine A7 Tryz.func260 Tryz.ntmps260 (j3 k9 hr0 hg0) ?_
 refine v9 (A4 [] ht) q9 (j5 m0 m1 m2 m3 m4) ?_
 exact A9 (A8 [] []) Tryz.results260 hnil
set_option maxRecDepth 10000
theorem Mk:AA (BK.flat 0)=.c (.sl [[C.int .i64 17,C.int .i64 0,C.int .i64 0,C.int .i64 0,C.int .i64 0,C.sl []]]):=rfl
theorem YJ (L:List CoD):Hs none L false:=.inr ⟨rfl,rfl⟩
theorem Iu (q:CT) {op:Int}{f:Bool}(h:(op==17)=f):Hs (if op=17 then some q else none) (q.flat 0) f:=by
 cases f with
 |true=>rw[if_pos (by simpa using h)];exact FR q
 |false=>rw[if_neg (by simpa using h)];exact YJ _
theorem Rx {op num:Int}{val:List CellD}{a:CT}(ho:An op=1) (hz:a.size≤900):∃L r,Hs (Gt op [a]) L r∧AC Tryz.prog 259 [HY op num val,CF [a]] [] (BA L r) []:=by
 have ht:=Cs a (by omega)
 obtain⟨hr0,hg0⟩:=C2 [a] (k:=0) (by simp)
 simp only[List.getElem_cons_zero]at hg0
 have hln:([a].map AD).length=1:=rfl
 have hgt:decide (((1:Nat):Int)>1)=false:=rfl
 have hnil:([]:List CoD).map CoD.cs=[]:=rfl
 obtain⟨f,ma⟩:∃f,(a.top.op==17)=f:=⟨_,rfl⟩
 have h3:=YM ho
 by_cases h10:op=10
 ·subst h10
  refine⟨[],false,YJ _,?_⟩
  clear ho h3
  generalize [a].map AD=P,a.top=A,(a.flat 0).map CoD.cs=Fa at *
  unfold BA
  refine A7 Tryz.func259 Tryz.ntmps259 (j2 hr0 hg0) ?_
  refine w9 (A4 [] ht) q9 ?_
  refine AE (j3 ma hln hgt) ?_
  exact A9 (A8 [] []) Tryz.results259 hnil
 ·have hd:Gt op [a]=if a.op=17 then some BK else none:=by unfold Gt;dsimp only;rw[if_pos (by omega)]
  refine⟨BK.flat 0,f,by rw[hd];exact Iu BK (op:=a.op) ma,?_⟩
  have h2:op=8∨op=9:=by omega
  clear hd h3 h10 ho
  rcases h2 with rfl | rfl
  all_goals
   generalize [a].map AD=P,a.top=A,(a.flat 0).map CoD.cs=Fa at *
   unfold BA
   rw[Mk]
   refine A7 Tryz.func259 Tryz.ntmps259 (j2 hr0 hg0) ?_
   refine w9 (A4 [] ht) q9 ?_
   refine AE (j3 ma hln hgt) ?_
   exact A9 (A8 [] [(11,0)]) Tryz.results259 hnil
theorem NM {op num:Int}{val:List CellD}{a b c:CT}(ho:An op=3) (hz:a.size+b.size≤900):∃L r,Hs (Gt op [a,b,c]) L r∧AC Tryz.prog 259 [HY op num val,CF [a,b,c]] [] (BA L r) []:=by
 have ht:=Cs a (by omega)
 have hu:=Cs b (by omega)
 obtain⟨hr0,hg0⟩:=C2 [a,b,c] (k:=0) (by simp)
 obtain⟨hr1,hg1⟩:=C2 [a,b,c] (k:=1) (by simp)
 simp only[List.getElem_cons_zero,List.getElem_cons_succ]at hg0 hg1
 have hln:([a,b,c].map AD).length=3:=rfl
 have hgt:decide (((3:Nat):Int)>1)=true:=rfl
 have hnil:([]:List CoD).map CoD.cs=[]:=rfl
 obtain⟨f,ma⟩:∃f,(a.top.op==17)=f:=⟨_,rfl⟩
 obtain⟨s,mb⟩:∃s,(b.top.op==17)=s:=⟨_,rfl⟩
 rcases S5 ho with rfl | rfl
 ·refine⟨BK.flat 0,f,Iu BK (op:=a.op) ma,?_⟩
  generalize [a,b,c].map AD=P at *
  generalize a.top=A,(a.flat 0).map CoD.cs=Fa,b.top=B,(b.flat 0).map CoD.cs=Fb at *
  unfold BA
  rw[Mk]
  refine A7 Tryz.func259 Tryz.ntmps259 (j2 hr0 hg0) ?_
  refine w9 (A4 [] ht) q9 ?_
  refine AE (j5 ma hln hgt hr1 hg1) ?_
  refine w9 (A4 [] hu) q9 ?_
  refine AE (j6 ma mb hr0 hg0 hr1 hg1) ?_
  exact A9 (A8 [] [(11,0)]) Tryz.results259 hnil
 ·refine⟨BK.flat 0,s,Iu BK (op:=b.op) mb,?_⟩
  generalize [a,b,c].map AD=P at *
  generalize a.top=A,(a.flat 0).map CoD.cs=Fa,b.top=B,(b.flat 0).map CoD.cs=Fb at *
  unfold BA
  rw[Mk]
  refine A7 Tryz.func259 Tryz.ntmps259 (j2 hr0 hg0) ?_
  refine w9 (A4 [] ht) q9 ?_
  refine AE (j5 ma hln hgt hr1 hg1) ?_
  refine w9 (A4 [] hu) q9 ?_
  refine AE (j6 ma mb hr0 hg0 hr1 hg1) ?_
  exact A9 (A8 [] [(11,0)]) Tryz.results259 hnil
theorem Ry {op num:Int}{val:List CellD}{a b:CT}(ho:An op=2) (hok:a.ok) (hz:a.size+b.size≤900):∃L r,Hs (Gt op [a,b]) L r∧AC Tryz.prog 259 [HY op num val,CF [a,b]] [] (BA L r) []:=by
 have ht:=Cs a (by omega)
 have hu:=Cs b (by omega)
 obtain⟨hr0,hg0⟩:=C2 [a,b] (k:=0) (by simp)
 obtain⟨hr1,hg1⟩:=C2 [a,b] (k:=1) (by simp)
 simp only[List.getElem_cons_zero,List.getElem_cons_succ]at hg0 hg1
 have hln:([a,b].map AD).length=2:=rfl
 have hgt:decide (((2:Nat):Int)>1)=true:=rfl
 have hnil:([]:List CoD).map CoD.cs=[]:=rfl
 obtain⟨f,ma⟩:∃f,(a.top.op==17)=f:=⟨_,rfl⟩
 obtain⟨s,mb⟩:∃s,(b.top.op==17)=s:=⟨_,rfl⟩
 have h7:=YQ ho
 by_cases h6:op=6
 ·subst h6
  refine⟨BK.flat 0,s,Iu BK (op:=b.op) mb,?_⟩
  clear ho h7
  generalize [a,b].map AD=P at *
  generalize a.top=A,(a.flat 0).map CoD.cs=Fa,b.top=B,(b.flat 0).map CoD.cs=Fb at *
  unfold BA
  rw[Mk]
  refine A7 Tryz.func259 Tryz.ntmps259 (j2 hr0 hg0) ?_
  refine w9 (A4 [] ht) q9 ?_
  refine AE (j5 ma hln hgt hr1 hg1) ?_
  refine w9 (A4 [] hu) q9 ?_
  refine AE (j6 ma mb hr0 hg0 hr1 hg1) ?_
  exact A9 (A8 [] [(11,0)]) Tryz.results259 hnil
 by_cases h4:op=4
 ·subst h4
  have hd:Gt 4 [a,b]=if a.op=17 then some b else if b.op=17 then some a else none:=rfl
  rw[hd]
  clear hd ho h7
  cases f
  ·refine⟨a.flat 0,s,by rw[if_neg (fun h=>by have m:(a.op==17)=false:=ma;rw[h]at m;cases m)];exact Iu a (op:=b.op) mb,?_⟩
   generalize [a,b].map AD=P at *
   generalize a.top=A,(a.flat 0).map CoD.cs=Fa,b.top=B,(b.flat 0).map CoD.cs=Fb at *
   unfold BA
   refine A7 Tryz.func259 Tryz.ntmps259 (j2 hr0 hg0) ?_
   refine w9 (A4 [] ht) q9 ?_
   refine AE (j5 ma hln hgt hr1 hg1) ?_
   refine w9 (A4 [] hu) q9 ?_
   refine AE (j6 ma mb hr0 hg0 hr1 hg1) ?_
   exact A9 (A8 [] []) Tryz.results259 hnil
  ·refine⟨b.flat 0,true,by rw[if_pos (by have m:(a.op==17)=true:=ma;simpa using m)];exact FR b,?_⟩
   generalize [a,b].map AD=P at *
   generalize a.top=A,(a.flat 0).map CoD.cs=Fa,b.top=B,(b.flat 0).map CoD.cs=Fb at *
   unfold BA
   refine A7 Tryz.func259 Tryz.ntmps259 (j2 hr0 hg0) ?_
   refine w9 (A4 [] ht) q9 ?_
   refine AE (j5 ma hln hgt hr1 hg1) ?_
   refine w9 (A4 [] hu) q9 ?_
   refine AE (j6 ma mb hr0 hg0 hr1 hg1) ?_
   exact A9 (A8 [] []) Tryz.results259 hnil
 by_cases h5:op=5
 ·subst h5
  have hd:Gt 5 [a,b]=if a.op=17 then some b else if a.op=2 then some (if F8 (vOf a.val) then a else b) else none:=rfl
  rw[hd]
  clear hd ho h7
  cases f
  ·have m:a.op≠17:=fun h=>by have m:(a.op==17)=false:=ma;rw[h]at m;cases m
   rw[if_neg m]
   by_cases h2:a.op=2
   ·obtain⟨v,hv,_,ev,rfl⟩:=CK hok h2
    have ht:=DT v
    have hT:=Lc hv
    have ma:((2:Int)==17)=false:=rfl
    have m2:((2:Int) != 2)=false:=rfl
    rw[if_pos h2,ev]
    cases htr:F8 v
    ·rw[htr]at hT
     refine⟨b.flat 0,true,FR _,?_⟩
     clear htr
     generalize [AG v,b].map AD=P at *
     generalize ((AG v).flat 0).map CoD.cs=Fa,v.enc=Wv,b.top=B,(b.flat 0).map CoD.cs=Fb at *
     unfold BA
     refine A7 Tryz.func259 Tryz.ntmps259 (j2 hr0 hg0) ?_
     refine w9 (A4 [] ht) q9 ?_
     refine AE (j5 ma hln hgt hr1 hg1) ?_
     refine w9 (A4 [] hu) q9 ?_
     refine AE (j7 ma mb hr0 hg0 hr1 hg1 m2) ?_
     refine v7 (A3 [] hT) q9 (j4 hr0 hg0 hr1 hg1) ?_
     exact A9 (A8 [] []) Tryz.results259 hnil
    ·rw[htr]at hT
     refine⟨(AG v).flat 0,true,FR _,?_⟩
     clear htr
     generalize [AG v,b].map AD=P at *
     generalize ((AG v).flat 0).map CoD.cs=Fa,v.enc=Wv,b.top=B,(b.flat 0).map CoD.cs=Fb at *
     unfold BA
     refine A7 Tryz.func259 Tryz.ntmps259 (j2 hr0 hg0) ?_
     refine w9 (A4 [] ht) q9 ?_
     refine AE (j5 ma hln hgt hr1 hg1) ?_
     refine w9 (A4 [] hu) q9 ?_
     refine AE (j7 ma mb hr0 hg0 hr1 hg1 m2) ?_
     refine v7 (A3 [] hT) q9 (j4 hr0 hg0 hr1 hg1) ?_
     exact A9 (A8 [] []) Tryz.results259 hnil
   ·have m2:(a.top.op != 2)=true:=DS h2
    rw[if_neg h2]
    refine⟨[],false,YJ _,?_⟩
    generalize [a,b].map AD=P at *
    generalize a.top=A,(a.flat 0).map CoD.cs=Fa,b.top=B,(b.flat 0).map CoD.cs=Fb at *
    unfold BA
    refine A7 Tryz.func259 Tryz.ntmps259 (j2 hr0 hg0) ?_
    refine w9 (A4 [] ht) q9 ?_
    refine AE (j5 ma hln hgt hr1 hg1) ?_
    refine w9 (A4 [] hu) q9 ?_
    refine AE (j7 ma mb hr0 hg0 hr1 hg1 m2) ?_
    exact A9 (A8 [] []) Tryz.results259 hnil
  ·refine⟨b.flat 0,true,by rw[if_pos (by have m:(a.op==17)=true:=ma;simpa using m)];exact FR b,?_⟩
   generalize [a,b].map AD=P at *
   generalize a.top=A,(a.flat 0).map CoD.cs=Fa,b.top=B,(b.flat 0).map CoD.cs=Fb at *
   unfold BA
   refine A7 Tryz.func259 Tryz.ntmps259 (j2 hr0 hg0) ?_
   refine w9 (A4 [] ht) q9 ?_
   refine AE (j5 ma hln hgt hr1 hg1) ?_
   refine w9 (A4 [] hu) q9 ?_
   refine AE (j6 ma mb hr0 hg0 hr1 hg1) ?_
   exact A9 (A8 [] []) Tryz.results259 hnil
 ·have hd:Gt op [a,b]=if a.op=17 then some BK else none:=by unfold Gt;dsimp only;rw[if_pos (by omega)]
  refine⟨BK.flat 0,f,by rw[hd];exact Iu BK (op:=a.op) ma,?_⟩
  have h2:op=3∨op=7∨op=11∨op=14:=by omega
  clear hd h7 h6 h4 h5 ho
  rcases h2 with rfl | rfl | rfl | rfl
  all_goals
   generalize [a,b].map AD=P at *
   generalize a.top=A,(a.flat 0).map CoD.cs=Fa,b.top=B,(b.flat 0).map CoD.cs=Fb at *
   unfold BA
   rw[Mk]
   refine A7 Tryz.func259 Tryz.ntmps259 (j2 hr0 hg0) ?_
   refine w9 (A4 [] ht) q9 ?_
   refine AE (j5 ma hln hgt hr1 hg1) ?_
   refine w9 (A4 [] hu) q9 ?_
   refine AE (j6 ma mb hr0 hg0 hr1 hg1) ?_
   exact A9 (A8 [] [(11,0)]) Tryz.results259 hnil
set_option maxRecDepth 10000
theorem Fe {op num:Int}{val:List CellD}{kids:List CT}(hn:(CT.mk op num val kids).ok) (hk:kids≠[]):(∃a,kids=[a]∧An op=1)∨(∃a b,kids=[a,b]∧An op=2)∨(∃a b c,kids=[a,b,c]∧An op=3):=by
 unfold CT.ok at hn
 have hl:=hn.2.1
 have h3:=Bl op
 match kids,hk with
 | [a],_=>exact .inl ⟨a,rfl,by simpa using hl.symm⟩
 | [a,b],_=>exact .inr (.inl ⟨a,b,rfl,by simpa using hl.symm⟩)
 | [a,b,c],_=>exact .inr (.inr ⟨a,b,c,rfl,by simpa using hl.symm⟩)
 |a::b::c::d::r,_=>simp at hl;omega
theorem Yd {op num:Int}{val:List CellD}{kids:List CT}(hn:(CT.mk op num val kids).ok) (hk:kids≠[]) (hz:(CT.mk op num val kids).size≤900):∃L b,Hs (DU op num val kids) L b∧AC Tryz.prog 257 [HY op num val,CF kids] [] (BA L b) []:=by
 have hn':=hn
 unfold CT.ok at hn'
 have hall:=AY.1 hn'.2.2
 have hz':=hz
 simp only[CT.size]at hz'
 rcases Fe hn hk with⟨a,rfl,h⟩ | ⟨a,b,rfl,h⟩ | ⟨a,b,c,rfl,h⟩
 ·simp only[Ae]at hz'
  exact Rz h (hall a (by simp)) (by omega)
 ·exact RA hn hz
 ·exact NN hn hz
theorem Y0 {op num:Int}{val:List CellD}{kids:List CT}(hn:(CT.mk op num val kids).ok) (hk:kids≠[]) (hz:(CT.mk op num val kids).size≤900):∃L b,Hs (Gt op kids) L b∧AC Tryz.prog 259 [HY op num val,CF kids] [] (BA L b) []:=by
 have hn':=hn
 unfold CT.ok at hn'
 have hall:=AY.1 hn'.2.2
 simp only[CT.size]at hz
 rcases Fe hn hk with⟨a,rfl,h⟩ | ⟨a,b,rfl,h⟩ | ⟨a,b,c,rfl,h⟩
 ·simp only[Ae]at hz
  exact Rx h (by omega)
 ·simp only[Ae]at hz
  exact Ry h (hall a (by simp)) (by omega)
 ·simp only[Ae]at hz
  exact NM h (by omega)
theorem YW {op num:Int}{val:List CellD}{kids:List CT}(hn:(CT.mk op num val kids).ok) (hk:kids≠[]) (hz:(CT.mk op num val kids).size≤900):∃L b,Hs (FK op kids) L b∧AC Tryz.prog 258 [HY op num val,CF kids] [] (BA L b) []:=by
 by_cases h3:op=3
 ·subst h3
  rcases Fe hn hk with⟨a,rfl,h⟩ | ⟨a,b,rfl,h⟩ | ⟨a,b,c,rfl,h⟩
  ·exact absurd h (by decide)
  ·exact RF hn hz
  ·exact absurd h (by decide)
 ·refine⟨[],false,?_,RD kids h3⟩
  have:FK op kids=none:=by
   rcases Fe hn hk with⟨a,rfl,h⟩ | ⟨a,b,rfl,h⟩ | ⟨a,b,c,rfl,h⟩
   ·rfl
   ·unfold FK;dsimp only;rw[if_neg h3]
   ·rfl
  rw[this]
  exact IW
theorem s9 {op num:Int}{val:List CellD}{kids:List CT}(hn:(CT.mk op num val kids).ok) (hk:kids≠[]) (hz:(CT.mk op num val kids).size≤900):∃L b,Hs (QB op kids) L b∧AC Tryz.prog 260 [HY op num val,CF kids] [] (BA L b) []:=by
 have hn':=hn
 unfold CT.ok at hn'
 have hall:=AY.1 hn'.2.2
 simp only[CT.size]at hz
 by_cases h9:op=9
 ·subst h9
  rcases Fe hn hk with⟨a,rfl,h⟩ | ⟨a,b,rfl,h⟩ | ⟨a,b,c,rfl,h⟩
  ·simp only[Ae]at hz
   exact Ty (hall a (by simp)) (by omega)
  ·exact absurd h (by decide)
  ·exact absurd h (by decide)
 ·refine⟨[],false,?_,Tx kids h9⟩
  have:QB op kids=none:=by
   rcases Fe hn hk with⟨a,rfl,h⟩ | ⟨a,b,rfl,h⟩ | ⟨a,b,c,rfl,h⟩
   ·unfold QB;dsimp only;rw[if_neg (fun h=>h9 h.1)]
   ·rfl
   ·rfl
  rw[this]
  exact IW
theorem Wl {op num:Int}{val:List CellD}{kids:List CT}(hn:(CT.mk op num val kids).ok) (hk:kids≠[]) (hz:(CT.mk op num val kids).size≤900) {p:Int}(hp:1≤p∧p≤4) :
  ∃L b,Hs (B5 p op num val kids) L b∧AC Tryz.prog 189 [.c (.int .i64 p),HY op num val,CF kids] [] (BA L b) []:=by
 have hc:p=1∨p=2∨p=3∨p=4:=by omega
 unfold B5
 rcases hc with rfl | rfl | rfl | rfl
 ·obtain⟨L,b,h1,h2⟩:=Yd hn hk hz
  refine⟨L,b,by rw[if_pos rfl];exact h1,?_⟩
  generalize kids.map AD=P at *
  unfold BA at h2 ⊢
  refine AK Tryz.func189 Tryz.ntmps189 ?_
  refine AE q9 ?_
  refine v9 (A4 [] h2) q9 q9 ?_
  exact A9 (A8 [] []) Tryz.results189 hp
 ·obtain⟨L,b,h1,h2⟩:=YW hn hk hz
  refine⟨L,b,by rw[if_neg (by decide),if_pos rfl];exact h1,?_⟩
  generalize kids.map AD=P at *
  unfold BA at h2 ⊢
  refine AK Tryz.func189 Tryz.ntmps189 ?_
  refine AE q9 ?_
  refine v9 (A4 [] h2) q9 q9 ?_
  exact A9 (A8 [] []) Tryz.results189 hp
 ·obtain⟨L,b,h1,h2⟩:=Y0 hn hk hz
  refine⟨L,b,by rw[if_neg (by decide),if_neg (by decide),if_pos rfl];exact h1,?_⟩
  generalize kids.map AD=P at *
  unfold BA at h2 ⊢
  refine AK Tryz.func189 Tryz.ntmps189 ?_
  refine AE q9 ?_
  refine v9 (A4 [] h2) q9 q9 ?_
  exact A9 (A8 [] []) Tryz.results189 hp
 ·obtain⟨L,b,h1,h2⟩:=s9 hn hk hz
  refine⟨L,b,by rw[if_neg (by decide),if_neg (by decide),if_neg (by decide)];exact h1,?_⟩
  generalize kids.map AD=P at *
  unfold BA at h2 ⊢
  refine AK Tryz.func189 Tryz.ntmps189 ?_
  refine AE q9 ?_
  refine v9 (A4 [] h2) q9 q9 ?_
  exact A9 (A8 [] []) Tryz.results189 hp
end Go.Proofs.YtcejfdfmgmcinaaGreat
