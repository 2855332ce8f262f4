/- Texts of this proof: K07 K22 K23. -/
import Derived.Test.YtcejfdfmgmcinaaGreatKG1FuK06
set_option linter.all false
set_option maxHeartbeats 8000000
namespace Go.Proofs.YtcejfdfmgmcinaaGreat
open Go.RowKit
set_option maxRecDepth 10000
theorem T8 {op num:Int}{val:List CellD}(ts:List CT) (h:op≠3):AC Tryz.prog 258 [IT op num val,D8 ts] [] (BO [] false) []:=by
 have k3:(op != 3)=true:=E9 h
 have hnil:([]:List CoD).map CoD.cs=[]:=rfl
 generalize ts.map AG=P at *
 unfold BO
 refine A6 Tryz.func258 Tryz.ntmps258 k3 ?_
 exact Aa (A9 [] []) Tryz.results258 hnil
theorem T9 {num:Int}{val:List CellD}{a b:CT}(hn:(CT.mk 3 num val [a,b]).ok) (hz:(CT.mk 3 num val [a,b]).size≤900):∃L c,Iw (GH 3 [a,b]) L c∧AC Tryz.prog 258 [IT 3 num val,D8 [a,b]] [] (BO L c) []:=by
 simp only[CT.size,Ah]at hz
 unfold CT.ok at hn
 obtain⟨hno,hal,hk⟩:=hn
 rw[B4]at hk
 have ha:=hk a (by simp)
 have hb:=hk b (by simp)
 have ht:=CK a (by omega)
 have hu:=CK b (by omega)
 have hto:a.top.op=a.op:=rfl
 have huo:b.top.op=b.op:=rfl
 obtain⟨hr0,hg0⟩:=Cf [a,b] (k:=0) (by simp)
 obtain⟨hr1,hg1⟩:=Cf [a,b] (k:=1) (by simp)
 simp only[List.getElem_cons_zero,List.getElem_cons_succ]at hg0 hg1
 have hln:([a,b].map AG).length=2:=rfl
 have hnil:([]:List CoD).map CoD.cs=[]:=rfl
 have k3:((3:Int) != 3)=false:=rfl
 have hp:GH 3 [a,b]=if a.op=1 then some b else if b.op=1 then some a else if a.op=2∧b.op=2 then some b else if a.op=2∧b.op=16 then ET (C8 b.num (vOf a.val)) else none:=rfl
 rw[hp]
 by_cases h1:a.op=1
 ·have m1:(a.top.op==1)=true:=GZ h1
  refine⟨b.flat 0,true,by rw[if_pos h1];exact Gv b,?_⟩
  generalize [a,b].map AG=P at *
  generalize a.top=A,b.top=B,(a.flat 0).map CoD.cs=Fa,(b.flat 0).map CoD.cs=Fb at *
  unfold BO
  refine A6 Tryz.func258 Tryz.ntmps258 (j3 k3 hr0 hg0) ?_
  refine v9 (A4 [] ht) q9 (j2 hr1 hg1) ?_
  refine v9 (A4 [] hu) q9 (j3 m1 hr1 hg1) ?_
  exact Aa (A9 [] []) Tryz.results258 m1
 ·have m1:(a.top.op==1)=false:=Ed h1
  rw[if_neg h1]
  by_cases h2:b.op=1
  ·have m2:(b.top.op==1)=true:=GZ h2
   refine⟨a.flat 0,true,by rw[if_pos h2];exact Gv a,?_⟩
   generalize [a,b].map AG=P at *
   generalize a.top=A,b.top=B,(a.flat 0).map CoD.cs=Fa,(b.flat 0).map CoD.cs=Fb at *
   unfold BO
   refine A6 Tryz.func258 Tryz.ntmps258 (j3 k3 hr0 hg0) ?_
   refine v9 (A4 [] ht) q9 (j2 hr1 hg1) ?_
   refine v9 (A4 [] hu) q9 (j4 m1 m2 hr0 hg0) ?_
   exact Aa (A9 [] []) Tryz.results258 m1
  ·have m2:(b.top.op==1)=false:=Ed h2
   rw[if_neg h2]
   by_cases h3:a.op=2
   ·have m3:(a.top.op==2)=true:=GZ h3
    by_cases h4:b.op=2
    ·have m4:(b.top.op==2)=true:=GZ h4
     refine⟨b.flat 0,true,by rw[if_pos ⟨h3,h4⟩];exact Gv b,?_⟩
     generalize [a,b].map AG=P at *
     generalize a.top=A,b.top=B,(a.flat 0).map CoD.cs=Fa,(b.flat 0).map CoD.cs=Fb at *
     unfold BO
     refine A6 Tryz.func258 Tryz.ntmps258 (j3 k3 hr0 hg0) ?_
     refine v9 (A4 [] ht) q9 (j2 hr1 hg1) ?_
     refine v9 (A4 [] hu) q9 (j6 m1 m2 m3 m4 hr1 hg1) ?_
     exact Aa (A9 [] []) Tryz.results258 m1
    ·have m4:(b.top.op==2)=false:=Ed h4
     rw[if_neg (fun h=>h4 h.2)]
     by_cases h5:b.op=16
     ·have m5:(b.top.op==16)=true:=GZ h5
      obtain⟨v,hv,_,ev,rfl⟩:=De ha h3
      have ht:=Eu v
      have hbn:1≤b.num∧b.num≤8:=by
       cases b with
       |mk op num val kids =>
        have h5:op=16:=h5
        subst h5
        unfold CT.ok at hb
        have h6:=hb.1.numOk
        unfold FA C1 at h6
        have h7:1≤num∧num≤8:=by simpa using h6
        exact h7
      have hD:=a2k b.num hv hbn
      obtain⟨L,c,hL,hm⟩:=Gj (C8 b.num v) (Gm b.num hv)
      refine⟨L,c,by rw[if_pos ⟨h3,h5⟩,ev];exact hL,?_⟩
      have hbt:b.top.num=b.num:=rfl
      have q1:((2:Int)==1)=false:=rfl
      have q2:((2:Int)==2)=true:=rfl
      rw[←hbt]at hD hm
      clear hL hp hbt
      generalize [AH v,b].map AG=P at *
      generalize b.top=B,((AH v).flat 0).map CoD.cs=Fa,(b.flat 0).map CoD.cs=Fb at *
      obtain⟨gc,gl,hg⟩:=Hs (C8 B.num v)
      rw[hg]at hD hm
      clear hg
      generalize v.enc=Wv at *
      unfold BO at hm ⊢
      refine A6 Tryz.func258 Tryz.ntmps258 (j3 k3 hr0 hg0) ?_
      refine v9 (A4 [] ht) q9 (j2 hr1 hg1) ?_
      refine v9 (A4 [] hu) q9 (j5 q1 q2 m2 m4 m5) ?_
      refine v9 (A4 [] hD) q9 q9 ?_
      refine v9 (A4 [] hm) q9 q9 ?_
      exact Aa (A9 [] []) Tryz.results258 q1
     ·have m5:(b.top.op==16)=false:=Ed h5
      refine⟨[],false,by rw[if_neg (fun h=>h5 h.2)];exact JP,?_⟩
      generalize [a,b].map AG=P at *
      generalize a.top=A,b.top=B,(a.flat 0).map CoD.cs=Fa,(b.flat 0).map CoD.cs=Fb at *
      unfold BO
      refine A6 Tryz.func258 Tryz.ntmps258 (j3 k3 hr0 hg0) ?_
      refine v9 (A4 [] ht) q9 (j2 hr1 hg1) ?_
      refine v9 (A4 [] hu) q9 (j5 m1 m2 m3 m4 m5) ?_
      exact Aa (A9 [] []) Tryz.results258 hnil
   ·have m3:(a.top.op==2)=false:=Ed h3
    refine⟨[],false,by rw[if_neg (fun h=>h3 h.1),if_neg (fun h=>h3 h.1)];exact JP,?_⟩
    generalize [a,b].map AG=P at *
    generalize a.top=A,b.top=B,(a.flat 0).map CoD.cs=Fa,(b.flat 0).map CoD.cs=Fb at *
    unfold BO
    refine A6 Tryz.func258 Tryz.ntmps258 (j3 k3 hr0 hg0) ?_
    refine v9 (A4 [] ht) q9 (j2 hr1 hg1) ?_
    refine v9 (A4 [] hu) q9 (j3 m1 m2 m3) ?_
    exact Aa (A9 [] []) Tryz.results258 hnil
theorem V8 {op num:Int}{val:List CellD}(ts:List CT) (h:op≠9):AC Tryz.prog 260 [IT op num val,D8 ts] [] (BO [] false) []:=by
 have k9:(op != 9)=true:=E9 h
 have hnil:([]:List CoD).map CoD.cs=[]:=rfl
 generalize ts.map AG=P at *
 unfold BO
 refine A6 Tryz.func260 Tryz.ntmps260 k9 ?_
 exact Aa (A9 [] []) Tryz.results260 hnil
theorem V9 {num:Int}{val:List CellD}{a:CT}(ha:a.ok) (hz:a.size≤900):∃L c,Iw (Lv 9 [a]) L c∧AC Tryz.prog 260 [IT 9 num val,D8 [a]] [] (BO L c) []:=by
 have ht:=CK a (by omega)
 have hto:a.top.op=a.op:=rfl
 obtain⟨hr0,hg0⟩:=Cf [a] (k:=0) (by simp)
 simp only[List.getElem_cons_zero]at hg0
 have k9:((9:Int) != 9)=false:=rfl
 have hnil:([]:List CoD).map CoD.cs=[]:=rfl
 have hp:Lv 9 [a]=if a.op=2∨a.op=1∨a.op=15∨a.op=17∨a.op=9 then some a else none:=by
  unfold Lv
  simp
 rw[hp]
 by_cases h0:a.op=2
 ·have m0:(a.top.op==2)=true:=GZ h0
  refine⟨a.flat 0,true,by rw[if_pos (by omega)];exact Gv a,?_⟩
  generalize [a].map AG=P,a.top=A,(a.flat 0).map CoD.cs=Fa at *
  unfold BO
  refine A6 Tryz.func260 Tryz.ntmps260 (j3 k9 hr0 hg0) ?_
  refine v9 (A4 [] ht) q9 (j3 m0 hr0 hg0) ?_
  exact Aa (A9 [] []) Tryz.results260 k9
 have m0:(a.top.op==2)=false:=Ed h0
 by_cases h1:a.op=1
 ·have m1:(a.top.op==1)=true:=GZ h1
  refine⟨a.flat 0,true,by rw[if_pos (by omega)];exact Gv a,?_⟩
  generalize [a].map AG=P,a.top=A,(a.flat 0).map CoD.cs=Fa at *
  unfold BO
  refine A6 Tryz.func260 Tryz.ntmps260 (j3 k9 hr0 hg0) ?_
  refine v9 (A4 [] ht) q9 (j4 m0 m1 hr0 hg0) ?_
  exact Aa (A9 [] []) Tryz.results260 k9
 have m1:(a.top.op==1)=false:=Ed h1
 by_cases h2:a.op=15
 ·have m2:(a.top.op==15)=true:=GZ h2
  refine⟨a.flat 0,true,by rw[if_pos (by omega)];exact Gv a,?_⟩
  generalize [a].map AG=P,a.top=A,(a.flat 0).map CoD.cs=Fa at *
  unfold BO
  refine A6 Tryz.func260 Tryz.ntmps260 (j3 k9 hr0 hg0) ?_
  refine v9 (A4 [] ht) q9 (j5 m0 m1 m2 hr0 hg0) ?_
  exact Aa (A9 [] []) Tryz.results260 k9
 have m2:(a.top.op==15)=false:=Ed h2
 by_cases h3:a.op=17
 ·have m3:(a.top.op==17)=true:=GZ h3
  refine⟨a.flat 0,true,by rw[if_pos (by omega)];exact Gv a,?_⟩
  generalize [a].map AG=P,a.top=A,(a.flat 0).map CoD.cs=Fa at *
  unfold BO
  refine A6 Tryz.func260 Tryz.ntmps260 (j3 k9 hr0 hg0) ?_
  refine v9 (A4 [] ht) q9 (j6 m0 m1 m2 m3 hr0 hg0) ?_
  exact Aa (A9 [] []) Tryz.results260 k9
 have m3:(a.top.op==17)=false:=Ed h3
 by_cases h4:a.op=9
 ·have m4:(a.top.op==9)=true:=GZ h4
  refine⟨a.flat 0,true,by rw[if_pos (by omega)];exact Gv a,?_⟩
  generalize [a].map AG=P,a.top=A,(a.flat 0).map CoD.cs=Fa at *
  unfold BO
  refine A6 Tryz.func260 Tryz.ntmps260 (j3 k9 hr0 hg0) ?_
  refine v9 (A4 [] ht) q9 (j7 m0 m1 m2 m3 m4 hr0 hg0) ?_
  exact Aa (A9 [] []) Tryz.results260 k9
 have m4:(a.top.op==9)=false:=Ed h4
 refine⟨[],false,by rw[if_neg (by omega)];exact JP,?_⟩
 generalize [a].map AG=P,a.top=A,(a.flat 0).map CoD.cs=Fa at *
 unfold BO
 refine A6 Tryz.func260 Tryz.ntmps260 (j3 k9 hr0 hg0) ?_
 refine v9 (A4 [] ht) q9 (j5 m0 m1 m2 m3 m4) ?_
 exact Aa (A9 [] []) Tryz.results260 hnil
set_option maxRecDepth 10000
theorem Nv:AE (Bo.flat 0)=.c (.sl [[C.int .i64 17,C.int .i64 0,C.int .i64 0,C.int .i64 0,C.int .i64 0,C.sl []]]):=rfl
theorem a0c (L:List CoD):Iw none L false:=.inr ⟨rfl,rfl⟩
theorem Jl (q:CT) {op:Int}{f:Bool}(h:(op==17)=f):Iw (if op=17 then some q else none) (q.flat 0) f:=by
 cases f with
 |true=>rw[if_pos (by simpa using h)];exact Gv q
 |false=>rw[if_neg (by simpa using h)];exact a0c _
theorem T3 {op num:Int}{val:List CellD}{a:CT}(ho:Au op=1) (hz:a.size≤900):∃L r,Iw (Ee op [a]) L r∧AC Tryz.prog 259 [IT op num val,D8 [a]] [] (BO L r) []:=by
 have ht:=CK a (by omega)
 obtain⟨hr0,hg0⟩:=Cf [a] (k:=0) (by simp)
 simp only[List.getElem_cons_zero]at hg0
 have hln:([a].map AG).length=1:=rfl
 have hgt:decide (((1:Nat):Int)>1)=false:=rfl
 have hnil:([]:List CoD).map CoD.cs=[]:=rfl
 obtain⟨f,ma⟩:∃f,(a.top.op==17)=f:=⟨_,rfl⟩
 have h3:=a0h ho
 by_cases h10:op=10
 ·subst h10
  refine⟨[],false,a0c _,?_⟩
  clear ho h3
  generalize [a].map AG=P,a.top=A,(a.flat 0).map CoD.cs=Fa at *
  unfold BO
  refine A6 Tryz.func259 Tryz.ntmps259 (j2 hr0 hg0) ?_
  refine w9 (A4 [] ht) q9 ?_
  refine Aq (j3 ma hln hgt) ?_
  exact Aa (A9 [] []) Tryz.results259 hnil
 ·have hd:Ee op [a]=if a.op=17 then some Bo else none:=by unfold Ee;dsimp only;rw[if_pos (by omega)]
  refine⟨Bo.flat 0,f,by rw[hd];exact Jl Bo (op:=a.op) ma,?_⟩
  have h2:op=8∨op=9:=by omega
  clear hd h3 h10 ho
  rcases h2 with rfl | rfl
  all_goals
   generalize [a].map AG=P,a.top=A,(a.flat 0).map CoD.cs=Fa at *
   unfold BO
   rw[Nv]
   refine A6 Tryz.func259 Tryz.ntmps259 (j2 hr0 hg0) ?_
   refine w9 (A4 [] ht) q9 ?_
   refine Aq (j3 ma hln hgt) ?_
   exact Aa (A9 [] [(11,0)]) Tryz.results259 hnil
theorem OZ {op num:Int}{val:List CellD}{a b c:CT}(ho:Au op=3) (hz:a.size+b.size≤900):∃L r,Iw (Ee op [a,b,c]) L r∧AC Tryz.prog 259 [IT op num val,D8 [a,b,c]] [] (BO L r) []:=by
 have ht:=CK a (by omega)
 have hu:=CK b (by omega)
 obtain⟨hr0,hg0⟩:=Cf [a,b,c] (k:=0) (by simp)
 obtain⟨hr1,hg1⟩:=Cf [a,b,c] (k:=1) (by simp)
 simp only[List.getElem_cons_zero,List.getElem_cons_succ]at hg0 hg1
 have hln:([a,b,c].map AG).length=3:=rfl
 have hgt:decide (((3:Nat):Int)>1)=true:=rfl
 have hnil:([]:List CoD).map CoD.cs=[]:=rfl
 obtain⟨f,ma⟩:∃f,(a.top.op==17)=f:=⟨_,rfl⟩
 obtain⟨s,mb⟩:∃s,(b.top.op==17)=s:=⟨_,rfl⟩
 rcases Tz ho with rfl | rfl
 ·refine⟨Bo.flat 0,f,Jl Bo (op:=a.op) ma,?_⟩
  generalize [a,b,c].map AG=P at *
  generalize a.top=A,(a.flat 0).map CoD.cs=Fa,b.top=B,(b.flat 0).map CoD.cs=Fb at *
  unfold BO
  rw[Nv]
  refine A6 Tryz.func259 Tryz.ntmps259 (j2 hr0 hg0) ?_
  refine w9 (A4 [] ht) q9 ?_
  refine Aq (j5 ma hln hgt hr1 hg1) ?_
  refine w9 (A4 [] hu) q9 ?_
  refine Aq (j6 ma mb hr0 hg0 hr1 hg1) ?_
  exact Aa (A9 [] [(11,0)]) Tryz.results259 hnil
 ·refine⟨Bo.flat 0,s,Jl Bo (op:=b.op) mb,?_⟩
  generalize [a,b,c].map AG=P at *
  generalize a.top=A,(a.flat 0).map CoD.cs=Fa,b.top=B,(b.flat 0).map CoD.cs=Fb at *
  unfold BO
  rw[Nv]
  refine A6 Tryz.func259 Tryz.ntmps259 (j2 hr0 hg0) ?_
  refine w9 (A4 [] ht) q9 ?_
  refine Aq (j5 ma hln hgt hr1 hg1) ?_
  refine w9 (A4 [] hu) q9 ?_
  refine Aq (j6 ma mb hr0 hg0 hr1 hg1) ?_
  exact Aa (A9 [] [(11,0)]) Tryz.results259 hnil
theorem T4 {op num:Int}{val:List CellD}{a b:CT}(ho:Au op=2) (hok:a.ok) (hz:a.size+b.size≤900):∃L r,Iw (Ee op [a,b]) L r∧AC Tryz.prog 259 [IT op num val,D8 [a,b]] [] (BO L r) []:=by
 have ht:=CK a (by omega)
 have hu:=CK b (by omega)
 obtain⟨hr0,hg0⟩:=Cf [a,b] (k:=0) (by simp)
 obtain⟨hr1,hg1⟩:=Cf [a,b] (k:=1) (by simp)
 simp only[List.getElem_cons_zero,List.getElem_cons_succ]at hg0 hg1
 have hln:([a,b].map AG).length=2:=rfl
 have hgt:decide (((2:Nat):Int)>1)=true:=rfl
 have hnil:([]:List CoD).map CoD.cs=[]:=rfl
 obtain⟨f,ma⟩:∃f,(a.top.op==17)=f:=⟨_,rfl⟩
 obtain⟨s,mb⟩:∃s,(b.top.op==17)=s:=⟨_,rfl⟩
 have h7:=a0l ho
 by_cases h6:op=6
 ·subst h6
  refine⟨Bo.flat 0,s,Jl Bo (op:=b.op) mb,?_⟩
  clear ho h7
  generalize [a,b].map AG=P at *
  generalize a.top=A,(a.flat 0).map CoD.cs=Fa,b.top=B,(b.flat 0).map CoD.cs=Fb at *
  unfold BO
  rw[Nv]
  refine A6 Tryz.func259 Tryz.ntmps259 (j2 hr0 hg0) ?_
  refine w9 (A4 [] ht) q9 ?_
  refine Aq (j5 ma hln hgt hr1 hg1) ?_
  refine w9 (A4 [] hu) q9 ?_
  refine Aq (j6 ma mb hr0 hg0 hr1 hg1) ?_
  exact Aa (A9 [] [(11,0)]) Tryz.results259 hnil
 by_cases h4:op=4
 ·subst h4
  have hd:Ee 4 [a,b]=if a.op=17 then some b else if b.op=17 then some a else none:=rfl
  rw[hd]
  clear hd ho h7
  cases f
  ·refine⟨a.flat 0,s,by rw[if_neg (fun h=>by have m:(a.op==17)=false:=ma;rw[h]at m;cases m)];exact Jl a (op:=b.op) mb,?_⟩
   generalize [a,b].map AG=P at *
   generalize a.top=A,(a.flat 0).map CoD.cs=Fa,b.top=B,(b.flat 0).map CoD.cs=Fb at *
   unfold BO
   refine A6 Tryz.func259 Tryz.ntmps259 (j2 hr0 hg0) ?_
   refine w9 (A4 [] ht) q9 ?_
   refine Aq (j5 ma hln hgt hr1 hg1) ?_
   refine w9 (A4 [] hu) q9 ?_
   refine Aq (j6 ma mb hr0 hg0 hr1 hg1) ?_
   exact Aa (A9 [] []) Tryz.results259 hnil
  ·refine⟨b.flat 0,true,by rw[if_pos (by have m:(a.op==17)=true:=ma;simpa using m)];exact Gv b,?_⟩
   generalize [a,b].map AG=P at *
   generalize a.top=A,(a.flat 0).map CoD.cs=Fa,b.top=B,(b.flat 0).map CoD.cs=Fb at *
   unfold BO
   refine A6 Tryz.func259 Tryz.ntmps259 (j2 hr0 hg0) ?_
   refine w9 (A4 [] ht) q9 ?_
   refine Aq (j5 ma hln hgt hr1 hg1) ?_
   refine w9 (A4 [] hu) q9 ?_
   refine Aq (j6 ma mb hr0 hg0 hr1 hg1) ?_
   exact Aa (A9 [] []) Tryz.results259 hnil
 by_cases h5:op=5
 ·subst h5
  have hd:Ee 5 [a,b]=if a.op=17 then some b else if a.op=2 then some (if CE (vOf a.val) then a else b) else none:=rfl
  rw[hd]
  clear hd ho h7
  cases f
  ·have m:a.op≠17:=fun h=>by have m:(a.op==17)=false:=ma;rw[h]at m;cases m
   rw[if_neg m]
   by_cases h2:a.op=2
   ·obtain⟨v,hv,_,ev,rfl⟩:=De hok h2
    have ht:=Eu v
    have hT:=Mu hv
    have ma:((2:Int)==17)=false:=rfl
    have m2:((2:Int) != 2)=false:=rfl
    rw[if_pos h2,ev]
    cases htr:CE v
    ·rw[htr]at hT
     refine⟨b.flat 0,true,Gv _,?_⟩
     clear htr
     generalize [AH v,b].map AG=P at *
     generalize ((AH v).flat 0).map CoD.cs=Fa,v.enc=Wv,b.top=B,(b.flat 0).map CoD.cs=Fb at *
     unfold BO
     refine A6 Tryz.func259 Tryz.ntmps259 (j2 hr0 hg0) ?_
     refine w9 (A4 [] ht) q9 ?_
     refine Aq (j5 ma hln hgt hr1 hg1) ?_
     refine w9 (A4 [] hu) q9 ?_
     refine Aq (j7 ma mb hr0 hg0 hr1 hg1 m2) ?_
     refine v7 (A3 [] hT) q9 (j4 hr0 hg0 hr1 hg1) ?_
     exact Aa (A9 [] []) Tryz.results259 hnil
    ·rw[htr]at hT
     refine⟨(AH v).flat 0,true,Gv _,?_⟩
     clear htr
     generalize [AH v,b].map AG=P at *
     generalize ((AH v).flat 0).map CoD.cs=Fa,v.enc=Wv,b.top=B,(b.flat 0).map CoD.cs=Fb at *
     unfold BO
     refine A6 Tryz.func259 Tryz.ntmps259 (j2 hr0 hg0) ?_
     refine w9 (A4 [] ht) q9 ?_
     refine Aq (j5 ma hln hgt hr1 hg1) ?_
     refine w9 (A4 [] hu) q9 ?_
     refine Aq (j7 ma mb hr0 hg0 hr1 hg1 m2) ?_
     refine v7 (A3 [] hT) q9 (j4 hr0 hg0 hr1 hg1) ?_
     exact Aa (A9 [] []) Tryz.results259 hnil
   ·have m2:(a.top.op != 2)=true:=E9 h2
    rw[if_neg h2]
    refine⟨[],false,a0c _,?_⟩
    generalize [a,b].map AG=P at *
    generalize a.top=A,(a.flat 0).map CoD.cs=Fa,b.top=B,(b.flat 0).map CoD.cs=Fb at *
    unfold BO
    refine A6 Tryz.func259 Tryz.ntmps259 (j2 hr0 hg0) ?_
    refine w9 (A4 [] ht) q9 ?_
    refine Aq (j5 ma hln hgt hr1 hg1) ?_
    refine w9 (A4 [] hu) q9 ?_
    refine Aq (j7 ma mb hr0 hg0 hr1 hg1 m2) ?_
    exact Aa (A9 [] []) Tryz.results259 hnil
  ·refine⟨b.flat 0,true,by rw[if_pos (by have m:(a.op==17)=true:=ma;simpa using m)];exact Gv b,?_⟩
   generalize [a,b].map AG=P at *
   generalize a.top=A,(a.flat 0).map CoD.cs=Fa,b.top=B,(b.flat 0).map CoD.cs=Fb at *
   unfold BO
   refine A6 Tryz.func259 Tryz.ntmps259 (j2 hr0 hg0) ?_
   refine w9 (A4 [] ht) q9 ?_
   refine Aq (j5 ma hln hgt hr1 hg1) ?_
   refine w9 (A4 [] hu) q9 ?_
   refine Aq (j6 ma mb hr0 hg0 hr1 hg1) ?_
   exact Aa (A9 [] []) Tryz.results259 hnil
 ·have hd:Ee op [a,b]=if a.op=17 then some Bo else none:=by unfold Ee;dsimp only;rw[if_pos (by omega)]
  refine⟨Bo.flat 0,f,by rw[hd];exact Jl Bo (op:=a.op) ma,?_⟩
  have h2:op=3∨op=7∨op=11∨op=14:=by omega
  clear hd h7 h6 h4 h5 ho
  rcases h2 with rfl | rfl | rfl | rfl
  all_goals
   generalize [a,b].map AG=P at *
   generalize a.top=A,(a.flat 0).map CoD.cs=Fa,b.top=B,(b.flat 0).map CoD.cs=Fb at *
   unfold BO
   rw[Nv]
   refine A6 Tryz.func259 Tryz.ntmps259 (j2 hr0 hg0) ?_
   refine w9 (A4 [] ht) q9 ?_
   refine Aq (j5 ma hln hgt hr1 hg1) ?_
   refine w9 (A4 [] hu) q9 ?_
   refine Aq (j6 ma mb hr0 hg0 hr1 hg1) ?_
   exact Aa (A9 [] [(11,0)]) Tryz.results259 hnil
set_option maxRecDepth 10000
theorem FV {op num:Int}{val:List CellD}{kids:List CT}(hn:(CT.mk op num val kids).ok) (hk:kids≠[]):(∃a,kids=[a]∧Au op=1)∨(∃a b,kids=[a,b]∧Au op=2)∨(∃a b c,kids=[a,b,c]∧Au op=3):=by
 unfold CT.ok at hn
 have hl:=hn.2.1
 have h3:=Bx op
 match kids,hk with
 | [a],_=>exact .inl ⟨a,rfl,by simpa using hl.symm⟩
 | [a,b],_=>exact .inr (.inl ⟨a,b,rfl,by simpa using hl.symm⟩)
 | [a,b,c],_=>exact .inr (.inr ⟨a,b,c,rfl,by simpa using hl.symm⟩)
 |a::b::c::d::r,_=>simp at hl;omega
theorem e9 {op num:Int}{val:List CellD}{kids:List CT}(hn:(CT.mk op num val kids).ok) (hk:kids≠[]) (hz:(CT.mk op num val kids).size≤900):∃L b,Iw (CS op num val kids) L b∧AC Tryz.prog 257 [IT op num val,D8 kids] [] (BO L b) []:=by
 have hn':=hn
 unfold CT.ok at hn'
 have hall:=B4.1 hn'.2.2
 have hz':=hz
 simp only[CT.size]at hz'
 rcases FV hn hk with⟨a,rfl,h⟩ | ⟨a,b,rfl,h⟩ | ⟨a,b,c,rfl,h⟩
 ·simp only[Ah]at hz'
  exact T5 h (hall a (by simp)) (by omega)
 ·exact T6 hn hz
 ·exact P0 hn hz
theorem ZN {op num:Int}{val:List CellD}{kids:List CT}(hn:(CT.mk op num val kids).ok) (hk:kids≠[]) (hz:(CT.mk op num val kids).size≤900):∃L b,Iw (Ee op kids) L b∧AC Tryz.prog 259 [IT op num val,D8 kids] [] (BO L b) []:=by
 have hn':=hn
 unfold CT.ok at hn'
 have hall:=B4.1 hn'.2.2
 simp only[CT.size]at hz
 rcases FV hn hk with⟨a,rfl,h⟩ | ⟨a,b,rfl,h⟩ | ⟨a,b,c,rfl,h⟩
 ·simp only[Ah]at hz
  exact T3 h (by omega)
 ·simp only[Ah]at hz
  exact T4 h (hall a (by simp)) (by omega)
 ·simp only[Ah]at hz
  exact OZ h (by omega)
theorem a0r {op num:Int}{val:List CellD}{kids:List CT}(hn:(CT.mk op num val kids).ok) (hk:kids≠[]) (hz:(CT.mk op num val kids).size≤900):∃L b,Iw (GH op kids) L b∧AC Tryz.prog 258 [IT op num val,D8 kids] [] (BO L b) []:=by
 by_cases h3:op=3
 ·subst h3
  rcases FV hn hk with⟨a,rfl,h⟩ | ⟨a,b,rfl,h⟩ | ⟨a,b,c,rfl,h⟩
  ·exact absurd h (by decide)
  ·exact T9 hn hz
  ·exact absurd h (by decide)
 ·refine⟨[],false,?_,T8 kids h3⟩
  have:GH op kids=none:=by
   rcases FV hn hk with⟨a,rfl,h⟩ | ⟨a,b,rfl,h⟩ | ⟨a,b,c,rfl,h⟩
   ·rfl
   ·unfold GH;dsimp only;rw[if_neg h3]
   ·rfl
  rw[this]
  exact JP
theorem a3i {op num:Int}{val:List CellD}{kids:List CT}(hn:(CT.mk op num val kids).ok) (hk:kids≠[]) (hz:(CT.mk op num val kids).size≤900):∃L b,Iw (Lv op kids) L b∧AC Tryz.prog 260 [IT op num val,D8 kids] [] (BO L b) []:=by
 have hn':=hn
 unfold CT.ok at hn'
 have hall:=B4.1 hn'.2.2
 simp only[CT.size]at hz
 by_cases h9:op=9
 ·subst h9
  rcases FV hn hk with⟨a,rfl,h⟩ | ⟨a,b,rfl,h⟩ | ⟨a,b,c,rfl,h⟩
  ·simp only[Ah]at hz
   exact V9 (hall a (by simp)) (by omega)
  ·exact absurd h (by decide)
  ·exact absurd h (by decide)
 ·refine⟨[],false,?_,V8 kids h9⟩
  have:Lv op kids=none:=by
   rcases FV hn hk with⟨a,rfl,h⟩ | ⟨a,b,rfl,h⟩ | ⟨a,b,c,rfl,h⟩
   ·unfold Lv;dsimp only;rw[if_neg (fun h=>h9 h.1)]
   ·rfl
   ·rfl
  rw[this]
  exact JP
theorem Y7 {op num:Int}{val:List CellD}{kids:List CT}(hn:(CT.mk op num val kids).ok) (hk:kids≠[]) (hz:(CT.mk op num val kids).size≤900) {p:Int}(hp:1≤p∧p≤4) :
  ∃L b,Iw (AQ p op num val kids) L b∧AC Tryz.prog 189 [.c (.int .i64 p),IT op num val,D8 kids] [] (BO L b) []:=by
 have hc:p=1∨p=2∨p=3∨p=4:=by omega
 unfold AQ
 rcases hc with rfl | rfl | rfl | rfl
 ·obtain⟨L,b,h1,h2⟩:=e9 hn hk hz
  refine⟨L,b,by rw[if_pos rfl];exact h1,?_⟩
  generalize kids.map AG=P at *
  unfold BO at h2 ⊢
  refine AA Tryz.func189 Tryz.ntmps189 ?_
  refine Aq q9 ?_
  refine v9 (A4 [] h2) q9 q9 ?_
  exact Aa (A9 [] []) Tryz.results189 hp
 ·obtain⟨L,b,h1,h2⟩:=a0r hn hk hz
  refine⟨L,b,by rw[if_neg (by decide),if_pos rfl];exact h1,?_⟩
  generalize kids.map AG=P at *
  unfold BO at h2 ⊢
  refine AA Tryz.func189 Tryz.ntmps189 ?_
  refine Aq q9 ?_
  refine v9 (A4 [] h2) q9 q9 ?_
  exact Aa (A9 [] []) Tryz.results189 hp
 ·obtain⟨L,b,h1,h2⟩:=ZN hn hk hz
  refine⟨L,b,by rw[if_neg (by decide),if_neg (by decide),if_pos rfl];exact h1,?_⟩
  generalize kids.map AG=P at *
  unfold BO at h2 ⊢
  refine AA Tryz.func189 Tryz.ntmps189 ?_
  refine Aq q9 ?_
  refine v9 (A4 [] h2) q9 q9 ?_
  exact Aa (A9 [] []) Tryz.results189 hp
 ·obtain⟨L,b,h1,h2⟩:=a3i hn hk hz
  refine⟨L,b,by rw[if_neg (by decide),if_neg (by decide),if_neg (by decide)];exact h1,?_⟩
  generalize kids.map AG=P at *
  unfold BO at h2 ⊢
  refine AA Tryz.func189 Tryz.ntmps189 ?_
  refine Aq q9 ?_
  refine v9 (A4 [] h2) q9 q9 ?_
  exact Aa (A9 [] []) Tryz.results189 hp
end Go.Proofs.YtcejfdfmgmcinaaGreat
