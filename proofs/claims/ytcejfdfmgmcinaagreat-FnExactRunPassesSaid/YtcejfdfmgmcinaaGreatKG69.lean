/- impl.truth, are, add, sub, reckon, binary, by the engine. -/
import Derived.Test.YtcejfdfmgmcinaaGreatKG43uG68
import Derived.Test.YtcejfdfmgmcinaaGreatKG80uG87
set_option linter.all false
set_option maxHeartbeats 8000000
namespace Go.Proofs.YtcejfdfmgmcinaaGreat
open Go.RowKit
set_option maxRecDepth 10000
theorem Hr (b:Bool):AC Tryz.prog 198 [.c (.bool b)] [] (DQ b).av []:=by
 cases b
 all_goals
  refine A6 Tryz.func198 Tryz.ntmps198 q9 ?_
  exact A5 [] (by simp only[Tryz.results198,go_sem,Nat.reduceBEq,Nat.reduceLT];exact rfl) (by simp only[go_sem,Nat.reduceEqDiff,Nat.reduceAdd,Nat.reduceSub,Nat.reduceLeDiff,Nat.reduceMul,Nat.reduceBEq,Nat.reduceLT,Int.reduceToNat,reduceCtorEq,DQ,cond_true,cond_false,V.kind,V.num,V.text,V.keys,V.kids,List.map_nil]) rfl
theorem JU (a b:V) (k:Int):AC Tryz.prog 268 [a.av,b.av,.c (.int .i64 k)] [] (.c (.bool (a.kind==k&&b.kind==k))) []:=by
 cases h1:a.kind==k<;>cases h2:b.kind==k
 all_goals
  refine A6 Tryz.func268 Tryz.ntmps268 (j2 h1 h2) ?_
  exact Ag (A5 []) Tryz.results268
theorem JV {a b:V}{k:Int}(h:¬(a.kind=k∧b.kind=k)):(a.kind==k&&b.kind==k)=false:=by
 by_cases h1:a.kind=k
 ·have:¬b.kind=k:=fun h2=>h ⟨h1,h2⟩
  simp[h1,this]
 ·simp[h1]
theorem Hx {a b:V}{k:Int}(h:a.kind=k∧b.kind=k):(a.kind==k&&b.kind==k)=true:=by simp[h.1,h.2]
theorem IE (a b:List V) (h:a.length+b.length≤800000):AC Tryz.prog 271 [.c (.sl [[.sl (a.map V.cs)],[.sl (b.map V.cs)]])] [] (.own (0,0)) [((0,0),.row false 5 127 ((a++b).map V.cs))]:=by
 have h1:=OQ [a,b] (by simp) (by simp;omega)
 simpa only[List.map_cons,List.map_nil,Dy,List.flatten_cons,List.flatten_nil,List.append_nil] using h1
theorem Nh (a b:List ByteArray) (h:a.length+b.length≤800000):AC Tryz.prog 272 [.c (.sl [[.sl (a.map Ae)],[.sl (b.map Ae)]])] [] (.own (0,0)) [((0,0),.row false 1 9 ((a++b).map Ae))]:=by
 have h1:=OP [a,b] (by simp) (by simp;omega)
 simpa only[List.map_cons,List.map_nil,Dx,List.flatten_cons,List.flatten_nil,List.append_nil] using h1
theorem Zz {a b:V}(ha:a.right) (hb:b.right):AC Tryz.prog 195 [a.av,b.av] [] (EF (OM a b)) []:=by
 have hr3:=JU a b 3
 have hr4:=JU a b 4
 have hr5:=JU a b 5
 have hr6:=JU a b 6
 obtain⟨hak,hav⟩:=D4 ha
 obtain⟨hbk,hbv⟩:=D4 hb
 unfold OM
 by_cases a0:a.kind=0
 ·have ba:(a.kind==0)=true:=by simpa using a0
  rw[if_pos a0,Dc]
  refine A6 Tryz.func195 Tryz.ntmps195 ba ?_
  refine v9 (A4 [] (B8 hb)) q9 q9 ?_
  exact Ag (A5 []) Tryz.results195
 ·have ba:(a.kind==0)=false:=by simpa using a0
  rw[if_neg a0]
  by_cases b0:b.kind=0
  ·have bb:(b.kind==0)=true:=by simpa using b0
   rw[if_pos b0,Dc]
   refine A6 Tryz.func195 Tryz.ntmps195 (j2 ba bb) ?_
   refine v9 (A4 [] (B8 ha)) q9 q9 ?_
   exact Ag (A5 []) Tryz.results195
  ·have bb:(b.kind==0)=false:=by simpa using b0
   rw[if_neg b0]
   by_cases h3:a.kind=3∧b.kind=3
   ·rw[if_pos h3]
    rw[Hx h3]at hr3
    have n1:=Cs ha
    have n2:=Cs hb
    have hw:IntKind.i64.wrap (a.num+b.num)=a.num+b.num:=C9 (by omega) (by omega)
    have hn:=Dh (a.num+b.num)
    have hg:=Ev (Ln (a.num+b.num)) (by simp[C6,V.count,Aw])
    generalize C6 (a.num+b.num)=z at *
    generalize Co z=r at *
    rcases r with⟨c,_ | u⟩
    all_goals
     simp only[Bh,Bg]at hg ⊢
     refine A6 Tryz.func195 Tryz.ntmps195 (j2 ba bb) ?_
     refine v7 (A3 [] hr3) q9 hw ?_
     refine w9 (A4 [] hn) q9 ?_
     refine v9 (A4 [] hg) q9 q9 ?_
     exact Ag (A5 []) Tryz.results195
   ·rw[if_neg h3]
    rw[JV h3]at hr3
    by_cases h4:a.kind=4∧b.kind=4
    ·rw[if_pos h4]
     rw[Hx h4]at hr4
     have t1:=G2 ha
     have t2:=G2 hb
     have hsz:a.text.size+b.text.size≤9223372036854775807:=by omega
     have hn:=S3 (a.text++b.text)
     have hg:=Ev (Ww ha hb) (by simp[D9,V.count,Aw])
     generalize hst:D9 (a.text++b.text)=z at *
     generalize Co z=r at *
     rcases r with⟨c,_ | u⟩
     all_goals
      simp only[Bh,Bg]at hg ⊢
      refine A6 Tryz.func195 Tryz.ntmps195 (j2 ba bb) ?_
      refine v7 (A3 [] hr3) q9 q9 ?_
      refine v7 (A3 [] hr4) q9 hsz ?_
      refine w9 (A4 [] hn) q9 ?_
      refine v9 (A4 [] hg) q9 q9 ?_
      exact Ag (A5 []) Tryz.results195
    ·rw[if_neg h4]
     rw[JV h4]at hr4
     by_cases h5:a.kind=5∧b.kind=5
     ·rw[if_pos h5]
      rw[Hx h5]at hr5
      obtain⟨hf,hc⟩:=N3 ha hb
      have hco:=IE a.kids b.kids (by omega)
      have hn:=EH (a.kids++b.kids)
      have hg:=Ev hf (by omega)
      generalize a.kids++b.kids=K at *
      generalize AY K=z at *
      generalize Co z=r at *
      rcases r with⟨c,_ | u⟩
      all_goals
       simp only[Bh,Bg]at hg ⊢
       refine A6 Tryz.func195 Tryz.ntmps195 (j2 ba bb) ?_
       refine v7 (A3 [] hr3) q9 q9 ?_
       refine v7 (A3 [] hr4) q9 q9 ?_
       refine v7 (A3 [] hr5) q9 q9 ?_
       refine v12 (AU [(47,0)] hco) q9 q9 ?_
       refine w9 (A4 [(48,0)] hn) q9 ?_
       refine v9 (A4 [] hg) q9 q9 ?_
       exact Ag (A5 []) Tryz.results195
     ·rw[if_neg h5]
      rw[JV h5]at hr5
      by_cases h6:a.kind=6∧b.kind=6
      ·rw[if_pos h6]
       rw[Hx h6]at hr6
       obtain⟨hf,hc1,hc2,hl⟩:=Ob ha hb h6.1 h6.2
       have hco1:=Nh a.keys b.keys (by omega)
       have hco2:=IE a.kids b.kids (by omega)
       have hobj:=Q5 (a.keys++b.keys) (a.kids++b.kids) hl (by rw[List.length_append];omega) (by
        intro k hk
        rcases List.mem_append.1 hk with h1 | h1
        ·have:=F9 ha k h1;omega
        ·have:=F9 hb k h1;omega)
       rw[Q6]at hobj
       have hg:=Ev hf (by omega)
       generalize I9 (a.keys++b.keys) (a.kids++b.kids)=z at *
       generalize a.keys++b.keys=KK,a.kids++b.kids=K,Co z=r at *
       rcases r with⟨c,_ | u⟩
       all_goals
        simp only[Bh,Bg]at hg ⊢
        refine A6 Tryz.func195 Tryz.ntmps195 (j2 ba bb) ?_
        refine v7 (A3 [] hr3) q9 q9 ?_
        refine v7 (A3 [] hr4) q9 q9 ?_
        refine v7 (A3 [] hr5) q9 q9 ?_
        refine v7 (A3 [] hr6) q9 q9 ?_
        refine v12 (AU [(59,0)] hco1) q9 q9 ?_
        refine v12 (AU [(65,0)] hco2) q9 q9 ?_
        refine w9 (A4 [(60,0),(66,0)] hobj) q9 ?_
        refine v9 (A4 [] hg) q9 q9 ?_
        exact Ag (A5 []) Tryz.results195
      ·rw[if_neg h6,Ei]
       rw[JV h6]at hr6
       refine A6 Tryz.func195 Tryz.ntmps195 (j2 ba bb) ?_
       refine v7 (A3 [] hr3) q9 q9 ?_
       refine v7 (A3 [] hr4) q9 q9 ?_
       refine v7 (A3 [] hr5) q9 q9 ?_
       refine v7 (A3 [] hr6) q9 q9 ?_
       refine v7 (A3 [] (Bj 6)) q9 q9 ?_
       exact Ag (A5 []) Tryz.results195
theorem a5j {a b:V}(ha:a.right) (hb:b.right):AC Tryz.prog 196 [a.av,b.av] [] (EF (RY a b)) []:=by
 have hr3:=JU a b 3
 have hr5:=JU a b 5
 obtain⟨hak,hav⟩:=D4 ha
 unfold RY
 by_cases h3:a.kind=3∧b.kind=3
 ·rw[if_pos h3]
  rw[Hx h3]at hr3
  have n1:=Cs ha
  have n2:=Cs hb
  have hw:IntKind.i64.wrap (a.num-b.num)=a.num-b.num:=C9 (by omega) (by omega)
  have hn:=Dh (a.num-b.num)
  have hg:=Ev (Ln (a.num-b.num)) (by simp[C6,V.count,Aw])
  generalize C6 (a.num-b.num)=z at *
  generalize Co z=r at *
  rcases r with⟨c,_ | u⟩
  all_goals
   simp only[Bh,Bg]at hg ⊢
   refine A6 Tryz.func196 Tryz.ntmps196 q9 ?_
   refine v7 (A3 [] hr3) q9 hw ?_
   refine w9 (A4 [] hn) q9 ?_
   refine v9 (A4 [] hg) q9 q9 ?_
   exact Ag (A5 []) Tryz.results196
 ·rw[if_neg h3]
  rw[JV h3]at hr3
  by_cases h5:a.kind=5∧b.kind=5
  ·rw[if_pos h5,Dc]
   rw[Hx h5]at hr5
   have hcv:=HI a.kids (by omega)
   have hdl:=Sw 274 (by simp only[go_sem]) b (fun x=>b.kids.any fun y=>x.cmp y==0) a.kids (by omega) (fun x hx=>Zi x b (Bb ha hx) hb)
   rw[show (a.kids.filter fun p=>!(b.kids.any fun y=>p.cmp y==0))=IR a.kids b.kids from rfl]at hdl
   have hn:=EH (IR a.kids b.kids)
   have hg:=B8 (Ki (b:=b) ha)
   simp only[List.cons_append,List.nil_append]at hdl
   generalize IR a.kids b.kids=K at *
   generalize AY K=z at *
   refine A6 Tryz.func196 Tryz.ntmps196 q9 ?_
   refine v7 (A3 [] hr3) q9 q9 ?_
   refine v7 (A3 [] hr5) q9 q9 ?_
   refine v12 (AU [] hcv) q9 q9 ?_
   refine Bw (Am [((0,0),(3,0)),((0,1),(22,0))] [((0,0),(3,0)),((1,0),(98,0))] hdl) q9 q9 ?_
   refine w9 (A4 [(98,0)] hn) q9 ?_
   refine v9 (A4 [] hg) q9 q9 ?_
   exact Ag (A5 []) Tryz.results196
  ·rw[if_neg h5,Ei]
   rw[JV h5]at hr5
   refine A6 Tryz.func196 Tryz.ntmps196 q9 ?_
   refine v7 (A3 [] hr3) q9 q9 ?_
   refine v7 (A3 [] hr5) q9 q9 ?_
   refine v7 (A3 [] (Bj 6)) q9 q9 ?_
   exact Ag (A5 []) Tryz.results196
theorem z8 {n:Int}(h:-1000000000000000≤n∧n≤1000000000000000):IntKind.i64.wrap (0-n) = -n:=by
 rw[C9 (by omega) (by omega)]
 omega
theorem Sa {x:Int}:IntKind.i64.wrap ((1000000000000000:Int).tdiv (DJ x))=(1000000000000000:Int).tdiv (DJ x):=by
 have h:=Int.natAbs_tdiv 1000000000000000 (DJ x)
 have h1:((1000000000000000:Int).tdiv (DJ x)).natAbs=(1000000000000000:Int).natAbs / (DJ x).natAbs:=h
 have h2:=Nat.div_le_self (1000000000000000:Int).natAbs (DJ x).natAbs
 exact C9 (by omega) (by omega)
theorem YQ (op:Int) {a b:V}(hop:op=3∨op=10∨op=11) (ha:a.right) (hb:b.right):AC Tryz.prog 197 [.c (.int .i64 op),a.av,b.av] [] (EF (Ig op a b)) []:=by
 have hr3:=JU a b 3
 have n1:=Cs ha
 have n2:=Cs hb
 unfold Ig
 by_cases h3:a.kind=3∧b.kind=3
 ·rw[if_pos h3]
  rw[Hx h3]at hr3
  have hny:=z8 n2
  have hnx:=z8 n1
  have hmy:=S9 b.num
  have hmx:=S9 a.num
  by_cases o3:op=3
  ·have ho3:(op==3)=true:=by simpa using o3
   rw[if_pos o3]
   cases hbig:EW a.num b.num with
   |true =>
    have hx0:a.num≠0:=by intro h;rw[h,Sf]at hbig;cases hbig
    have hxb:(a.num != 0)=true:=by simpa using hx0
    have hq:=(MY (y:=b.num) hx0).trans hbig
    have ha0:(DJ a.num=0)=False:=by apply eq_false;unfold DJ;omega
    have haw:=Sa (x:=a.num)
    rw[if_pos rfl,Ei]
    refine A6 Tryz.func197 Tryz.ntmps197 q9 ?_
    refine v7 (A3 [] hr3) q9 (j9 ho3 hxb hny hnx hmy hmx ha0 haw hq) ?_
    refine v7 (A3 [] (Bj 3)) q9 q9 ?_
    exact Ag (A5 []) Tryz.results197
   |false =>
    have hm:=LR hbig
    have hw:IntKind.i64.wrap (a.num*b.num)=a.num*b.num:=C9 (by omega) (by omega)
    have hn:=Dh (a.num*b.num)
    have hg:=B8 (Dr hm)
    rw[if_neg (by simp),Dc]
    generalize C6 (a.num*b.num)=z at *
    by_cases hx0:a.num=0
    ·have hxb:(a.num != 0)=false:=by simpa using hx0
     refine A6 Tryz.func197 Tryz.ntmps197 q9 ?_
     refine v7 (A3 [] hr3) q9 (j3 ho3 hxb hw) ?_
     refine w9 (A4 [] hn) q9 ?_
     refine v9 (A4 [] hg) q9 q9 ?_
     exact Ag (A5 []) Tryz.results197
    ·have hxb:(a.num != 0)=true:=by simpa using hx0
     have hq:=(MY (y:=b.num) hx0).trans hbig
     have ha0:(DJ a.num=0)=False:=by apply eq_false;unfold DJ;omega
     have haw:=Sa (x:=a.num)
     refine A6 Tryz.func197 Tryz.ntmps197 q9 ?_
     refine v7 (A3 [] hr3) q9 (j10 ho3 hxb hny hnx hmy hmx ha0 haw hq hw) ?_
     refine w9 (A4 [] hn) q9 ?_
     refine v9 (A4 [] hg) q9 q9 ?_
     exact Ag (A5 []) Tryz.results197
  ·have ho3:(op==3)=false:=by simpa using o3
   rw[if_neg o3]
   by_cases hy0:b.num=0
   ·have hyb:(b.num==0)=true:=by simpa using hy0
    rw[if_pos hy0,Ei]
    refine A6 Tryz.func197 Tryz.ntmps197 q9 ?_
    refine v7 (A3 [] hr3) q9 (j2 ho3 hyb) ?_
    refine v7 (A3 [] (Bj 3)) q9 q9 ?_
    exact Ag (A5 []) Tryz.results197
   ·have hyb:(b.num==0)=false:=by simpa using hy0
    rw[if_neg hy0,Dc]
    by_cases o10:op=10
    ·have ho10:(op==10)=true:=by simpa using o10
     have hm:=Kv (y:=b.num) n1
     have hw:IntKind.i64.wrap (a.num.tdiv b.num)=a.num.tdiv b.num:=C9 (by omega) (by omega)
     have hn:=Dh (a.num.tdiv b.num)
     have hg:=B8 (Dr hm)
     rw[if_pos o10]
     generalize C6 (a.num.tdiv b.num)=z at *
     refine A6 Tryz.func197 Tryz.ntmps197 q9 ?_
     refine v7 (A3 [] hr3) q9 (j5 ho3 hyb ho10 hy0 hw) ?_
     refine w9 (A4 [] hn) q9 ?_
     refine v9 (A4 [] hg) q9 q9 ?_
     exact Ag (A5 []) Tryz.results197
    ·have ho10:(op==10)=false:=by simpa using o10
     have hm:=OH (y:=b.num) n1
     have hn:=Dh (a.num.tmod b.num)
     have hg:=B8 (Dr hm)
     rw[if_neg o10]
     generalize C6 (a.num.tmod b.num)=z at *
     refine A6 Tryz.func197 Tryz.ntmps197 q9 ?_
     refine v7 (A3 [] hr3) q9 (j4 ho3 hyb ho10 hy0) ?_
     refine w9 (A4 [] hn) q9 ?_
     refine v9 (A4 [] hg) q9 q9 ?_
     exact Ag (A5 []) Tryz.results197
 ·rw[if_neg h3,Ei]
  rw[JV h3]at hr3
  refine A6 Tryz.func197 Tryz.ntmps197 q9 ?_
  refine v7 (A3 [] hr3) q9 q9 ?_
  refine v7 (A3 [] (Bj 6)) q9 q9 ?_
  exact Ag (A5 []) Tryz.results197
theorem Xq (op:Int) {a b:V}(ha:a.right) (hb:b.right):AC Tryz.prog 121 [.c (.int .i64 op),a.av,b.av] [] (EF (JZ op a b)) []:=by
 have hcmp:=G8 a.count a b (Nat.le_refl _) ha
 have hadd:=Zz ha hb
 have hsub:=a5j ha hb
 unfold JZ
 by_cases o:op=1
 ·rw[if_pos o]
  have o1:(op==1)=true:=by simp[o]
  have o2:(op==2)=false:=by simp[o]
  have o3:(op==3)=false:=by simp[o]
  have o4:(op==4)=false:=by simp[o]
  have o5:(op==5)=false:=by simp[o]
  have o6:(op==6)=false:=by simp[o]
  have o7:(op==7)=false:=by simp[o]
  have o8:(op==8)=false:=by simp[o]
  have o9:(op==9)=false:=by simp[o]
  have o10:(op==10)=false:=by simp[o]
  have o11:(op==11)=false:=by simp[o]
  generalize OM a b=r at *
  rcases r with⟨c,_ | u⟩
  all_goals
   simp only[Bh,Bg]at hadd ⊢
   refine A6 Tryz.func121 Tryz.ntmps121 q9 ?_
   refine v7 (A3 [] hcmp) q9 (j11 o1 o2 o3 o4 o5 o6 o7 o8 o9 o10 o11) ?_
   refine v9 (A4 [] hadd) q9 q9 ?_
   exact Ag (A5 []) Tryz.results121
 ·rw[if_neg o]
  have n1:(op==1)=false:=by simpa using o
  by_cases o:op=2
  ·rw[if_pos o]
   have o1:(op==1)=false:=by simp[o]
   have o2:(op==2)=true:=by simp[o]
   have o3:(op==3)=false:=by simp[o]
   have o4:(op==4)=false:=by simp[o]
   have o5:(op==5)=false:=by simp[o]
   have o6:(op==6)=false:=by simp[o]
   have o7:(op==7)=false:=by simp[o]
   have o8:(op==8)=false:=by simp[o]
   have o9:(op==9)=false:=by simp[o]
   have o10:(op==10)=false:=by simp[o]
   have o11:(op==11)=false:=by simp[o]
   generalize RY a b=r at *
   rcases r with⟨c,_ | u⟩
   all_goals
    simp only[Bh,Bg]at hsub ⊢
    refine A6 Tryz.func121 Tryz.ntmps121 q9 ?_
    refine v7 (A3 [] hcmp) q9 (j11 o1 o2 o3 o4 o5 o6 o7 o8 o9 o10 o11) ?_
    refine v9 (A4 [] hsub) q9 q9 ?_
    exact Ag (A5 []) Tryz.results121
  ·rw[if_neg o]
   have n2:(op==2)=false:=by simpa using o
   by_cases o:op=3∨op=10∨op=11
   ·rw[if_pos o]
    have hrk:=YQ op o ha hb
    generalize Ig op a b=r at *
    rcases r with⟨c,_ | u⟩
    all_goals
     simp only[Bh,Bg]at hrk ⊢
     rcases o with o | o | o
     all_goals
      subst o
      refine A6 Tryz.func121 Tryz.ntmps121 q9 ?_
      refine w7 (A3 [] hcmp) q9 ?_
      refine Aq q9 ?_
      refine v9 (A4 [] hrk) q9 q9 ?_
      exact Ag (A5 []) Tryz.results121
   ·rw[if_neg o]
    have n3:(op==3)=false:=by simp;omega
    have n10:(op==10)=false:=by simp;omega
    have n11:(op==11)=false:=by simp;omega
    by_cases o:op=4
    ·rw[if_pos o,Dc]
     have o4:(op==4)=true:=by simpa using o
     have htr:=Hr (a.cmp b==0)
     have hg:=B8 (DR (a.cmp b==0))
     generalize ht:(a.cmp b==0)=t at *
     generalize DQ t=z at *
     refine A6 Tryz.func121 Tryz.ntmps121 q9 ?_
     refine v7 (A3 [] hcmp) q9 (j7 n1 n2 n3 n10 n11 o4 ht) ?_
     refine w9 (A4 [] htr) q9 ?_
     refine v9 (A4 [] hg) q9 q9 ?_
     exact Ag (A5 []) Tryz.results121
    ·rw[if_neg o]
     have n4:(op==4)=false:=by simpa using o
     by_cases o:op=5
     ·rw[if_pos o,Dc]
      have o5:(op==5)=true:=by simpa using o
      have htr:=Hr (a.cmp b != 0)
      have hg:=B8 (DR (a.cmp b != 0))
      generalize ht:(a.cmp b != 0)=t at *
      generalize DQ t=z at *
      refine A6 Tryz.func121 Tryz.ntmps121 q9 ?_
      refine v7 (A3 [] hcmp) q9 (j8 n1 n2 n3 n10 n11 n4 o5 ht) ?_
      refine w9 (A4 [] htr) q9 ?_
      refine v9 (A4 [] hg) q9 q9 ?_
      exact Ag (A5 []) Tryz.results121
     ·rw[if_neg o]
      have n5:(op==5)=false:=by simpa using o
      by_cases o:op=6
      ·rw[if_pos o,Dc]
       have o6:(op==6)=true:=by simpa using o
       have htr:=Hr (decide (a.cmp b<0))
       have hg:=B8 (DR (decide (a.cmp b<0)))
       generalize ht:(decide (a.cmp b<0))=t at *
       generalize DQ t=z at *
       refine A6 Tryz.func121 Tryz.ntmps121 q9 ?_
       refine v7 (A3 [] hcmp) q9 (j9 n1 n2 n3 n10 n11 n4 n5 o6 ht) ?_
       refine w9 (A4 [] htr) q9 ?_
       refine v9 (A4 [] hg) q9 q9 ?_
       exact Ag (A5 []) Tryz.results121
      ·rw[if_neg o]
       have n6:(op==6)=false:=by simpa using o
       by_cases o:op=7
       ·rw[if_pos o,Dc]
        have o7:(op==7)=true:=by simpa using o
        have htr:=Hr (decide (a.cmp b≤0))
        have hg:=B8 (DR (decide (a.cmp b≤0)))
        generalize ht:(decide (a.cmp b≤0))=t at *
        generalize DQ t=z at *
        refine A6 Tryz.func121 Tryz.ntmps121 q9 ?_
        refine v7 (A3 [] hcmp) q9 (j10 n1 n2 n3 n10 n11 n4 n5 n6 o7 ht) ?_
        refine w9 (A4 [] htr) q9 ?_
        refine v9 (A4 [] hg) q9 q9 ?_
        exact Ag (A5 []) Tryz.results121
       ·rw[if_neg o]
        have n7:(op==7)=false:=by simpa using o
        by_cases o:op=8
        ·rw[if_pos o,Dc]
         have o8:(op==8)=true:=by simpa using o
         have htr:=Hr (decide (a.cmp b>0))
         have hg:=B8 (DR (decide (a.cmp b>0)))
         generalize ht:(decide (a.cmp b>0))=t at *
         generalize DQ t=z at *
         refine A6 Tryz.func121 Tryz.ntmps121 q9 ?_
         refine v7 (A3 [] hcmp) q9 (j11 n1 n2 n3 n10 n11 n4 n5 n6 n7 o8 ht) ?_
         refine w9 (A4 [] htr) q9 ?_
         refine v9 (A4 [] hg) q9 q9 ?_
         exact Ag (A5 []) Tryz.results121
        ·rw[if_neg o]
         have n8:(op==8)=false:=by simpa using o
         by_cases o:op=9
         ·rw[if_pos o,Dc]
          have o9:(op==9)=true:=by simpa using o
          have htr:=Hr (decide (a.cmp b≥0))
          have hg:=B8 (DR (decide (a.cmp b≥0)))
          generalize ht:(decide (a.cmp b≥0))=t at *
          generalize DQ t=z at *
          refine A6 Tryz.func121 Tryz.ntmps121 q9 ?_
          refine v7 (A3 [] hcmp) q9 (j12 n1 n2 n3 n10 n11 n4 n5 n6 n7 n8 o9 ht) ?_
          refine w9 (A4 [] htr) q9 ?_
          refine v9 (A4 [] hg) q9 q9 ?_
          exact Ag (A5 []) Tryz.results121
         ·rw[if_neg o]
          have n9:(op==9)=false:=by simpa using o
          rw[Ei]
          refine A6 Tryz.func121 Tryz.ntmps121 q9 ?_
          refine v7 (A3 [] hcmp) q9 (j11 n1 n2 n3 n10 n11 n4 n5 n6 n7 n8 n9) ?_
          refine v7 (A3 [] (Bj 1)) q9 q9 ?_
          exact Ag (A5 []) Tryz.results121
end Go.Proofs.YtcejfdfmgmcinaaGreat
