/- impl.truth, are, add, sub, reckon, binary, by the engine. -/
import Derived.Test.YtcejfdfmgmcinaaGreatKG68
import Derived.Test.YtcejfdfmgmcinaaGreatKM29uG87
set_option linter.all false
set_option maxHeartbeats 8000000
namespace Go.Proofs.YtcejfdfmgmcinaaGreat
open Go.RowKit
set_option maxRecDepth 10000
theorem Hc (b:Bool):AC Tryz.prog 198 [.c (.bool b)] [] (DT b).av []:=by
 cases b
 all_goals
  refine A7 Tryz.func198 Tryz.ntmps198 ?_
  refine A3 q9 ?_
  exact A6 [] (by simp only[Tryz.results198,go_sem,Nat.reduceBEq,Nat.reduceLT];exact rfl) (by simp only[go_sem,Nat.reduceEqDiff,Nat.reduceAdd,Nat.reduceSub,Nat.reduceLeDiff,Nat.reduceMul,Nat.reduceBEq,Nat.reduceLT,Int.reduceToNat,reduceCtorEq,DT,cond_true,cond_false,V.kind,V.num,V.text,V.keys,V.kids,List.map_nil]) rfl
theorem JO (a b:V) (k:Int):AC Tryz.prog 268 [a.av,b.av,.c (.int .i64 k)] [] (.c (.bool (a.kind==k&&b.kind==k))) []:=by
 cases h1:a.kind==k<;>cases h2:b.kind==k
 all_goals
  refine A7 Tryz.func268 Tryz.ntmps268 ?_
  refine A3 (j2 h1 h2) ?_
  exact Ad (A6 []) Tryz.results268
theorem JP {a b:V}{k:Int}(h:¬(a.kind=k∧b.kind=k)):(a.kind==k&&b.kind==k)=false:=by
 by_cases h1:a.kind=k
 ·have:¬b.kind=k:=fun h2=>h ⟨h1,h2⟩
  simp[h1,this]
 ·simp[h1]
theorem Hl {a b:V}{k:Int}(h:a.kind=k∧b.kind=k):(a.kind==k&&b.kind==k)=true:=by simp[h.1,h.2]
theorem Iz (a b:List V) (h:a.length+b.length≤800000):AC Tryz.prog 271 [.c (.sl [[.sl (a.map V.cs)],[.sl (b.map V.cs)]])] [] (.own (0,0)) [((0,0),.row false 5 127 ((a++b).map V.cs))]:=by
 have h1:=OK [a,b] (by simp) (by simp;omega)
 simpa only[List.map_cons,List.map_nil,DF,List.flatten_cons,List.flatten_nil,List.append_nil] using h1
theorem Na (a b:List ByteArray) (h:a.length+b.length≤800000):AC Tryz.prog 272 [.c (.sl [[.sl (a.map Ag)],[.sl (b.map Ag)]])] [] (.own (0,0)) [((0,0),.row false 1 9 ((a++b).map Ag))]:=by
 have h1:=OJ [a,b] (by simp) (by simp;omega)
 simpa only[List.map_cons,List.map_nil,DE,List.flatten_cons,List.flatten_nil,List.append_nil] using h1
theorem Zb {a b:V}(ha:a.right) (hb:b.right):AC Tryz.prog 195 [a.av,b.av] [] (EK (OH a b)) []:=by
 have hr3:=JO a b 3
 have hr4:=JO a b 4
 have hr5:=JO a b 5
 have hr6:=JO a b 6
 obtain⟨hak,hav⟩:=De ha
 obtain⟨hbk,hbv⟩:=De hb
 unfold OH
 by_cases a0:a.kind=0
 ·have ba:(a.kind==0)=true:=by simpa using a0
  rw[if_pos a0,Dm]
  refine A7 Tryz.func195 Tryz.ntmps195 ?_
  refine A3 ba ?_
  refine w9 (A5 [] (Ba hb)) q9 ?_
  refine A3 q9 ?_
  exact Ad (A6 []) Tryz.results195
 ·have ba:(a.kind==0)=false:=by simpa using a0
  rw[if_neg a0]
  by_cases b0:b.kind=0
  ·have bb:(b.kind==0)=true:=by simpa using b0
   rw[if_pos b0,Dm]
   refine A7 Tryz.func195 Tryz.ntmps195 ?_
   refine A3 (j2 ba bb) ?_
   refine w9 (A5 [] (Ba ha)) q9 ?_
   refine A3 q9 ?_
   exact Ad (A6 []) Tryz.results195
  ·have bb:(b.kind==0)=false:=by simpa using b0
   rw[if_neg b0]
   by_cases h3:a.kind=3∧b.kind=3
   ·rw[if_pos h3]
    rw[Hl h3]at hr3
    have n1:=Cz ha
    have n2:=Cz hb
    have hw:IntKind.i64.wrap (a.num+b.num)=a.num+b.num:=Cf (by omega) (by omega)
    have hn:=Dq (a.num+b.num)
    have hg:=EA (Lf (a.num+b.num)) (by simp[Cb,V.count,Aw])
    generalize Cb (a.num+b.num)=z at *
    generalize Cw z=r at *
    rcases r with⟨c,_ | u⟩
    all_goals
     simp only[Bk,Bj]at hg ⊢
     refine A7 Tryz.func195 Tryz.ntmps195 ?_
     refine A3 (j2 ba bb) ?_
     refine w7 (A4 [] hr3) q9 ?_
     refine A3 hw ?_
     refine w9 (A5 [] hn) q9 ?_
     refine w9 (A5 [] hg) q9 ?_
     refine A3 q9 ?_
     exact Ad (A6 []) Tryz.results195
   ·rw[if_neg h3]
    rw[JP h3]at hr3
    by_cases h4:a.kind=4∧b.kind=4
    ·rw[if_pos h4]
     rw[Hl h4]at hr4
     have t1:=G1 ha
     have t2:=G1 hb
     have hsz:a.text.size+b.text.size≤9223372036854775807:=by omega
     have hn:=RS (a.text++b.text)
     have hg:=EA (Wh ha hb) (by simp[Dj,V.count,Aw])
     generalize hst:Dj (a.text++b.text)=z at *
     generalize Cw z=r at *
     rcases r with⟨c,_ | u⟩
     all_goals
      simp only[Bk,Bj]at hg ⊢
      refine A7 Tryz.func195 Tryz.ntmps195 ?_
      refine A3 (j2 ba bb) ?_
      refine w7 (A4 [] hr3) q9 ?_
      refine A3 q9 ?_
      refine w7 (A4 [] hr4) q9 ?_
      refine A3 hsz ?_
      refine w9 (A5 [] hn) q9 ?_
      refine w9 (A5 [] hg) q9 ?_
      refine A3 q9 ?_
      exact Ad (A6 []) Tryz.results195
    ·rw[if_neg h4]
     rw[JP h4]at hr4
     by_cases h5:a.kind=5∧b.kind=5
     ·rw[if_pos h5]
      rw[Hl h5]at hr5
      obtain⟨hf,hc⟩:=MX ha hb
      have hco:=Iz a.kids b.kids (by omega)
      have hn:=EL (a.kids++b.kids)
      have hg:=EA hf (by omega)
      generalize a.kids++b.kids=K at *
      generalize AZ K=z at *
      generalize Cw z=r at *
      rcases r with⟨c,_ | u⟩
      all_goals
       simp only[Bk,Bj]at hg ⊢
       refine A7 Tryz.func195 Tryz.ntmps195 ?_
       refine A3 (j2 ba bb) ?_
       refine w7 (A4 [] hr3) q9 ?_
       refine A3 q9 ?_
       refine w7 (A4 [] hr4) q9 ?_
       refine A3 q9 ?_
       refine w7 (A4 [] hr5) q9 ?_
       refine A3 q9 ?_
       refine w12 (AS [(47,0)] hco) q9 ?_
       refine A3 q9 ?_
       refine w9 (A5 [(48,0)] hn) q9 ?_
       refine w9 (A5 [] hg) q9 ?_
       refine A3 q9 ?_
       exact Ad (A6 []) Tryz.results195
     ·rw[if_neg h5]
      rw[JP h5]at hr5
      by_cases h6:a.kind=6∧b.kind=6
      ·rw[if_pos h6]
       rw[Hl h6]at hr6
       obtain⟨hf,hc1,hc2,hl⟩:=O5 ha hb h6.1 h6.2
       have hco1:=Na a.keys b.keys (by omega)
       have hco2:=Iz a.kids b.kids (by omega)
       have hobj:=Q1 (a.keys++b.keys) (a.kids++b.kids) hl (by rw[List.length_append];omega) (by
        intro k hk
        rcases List.mem_append.1 hk with h1 | h1
        ·have:=Fg ha k h1;omega
        ·have:=Fg hb k h1;omega)
       rw[Q2]at hobj
       have hg:=EA hf (by omega)
       generalize I3 (a.keys++b.keys) (a.kids++b.kids)=z at *
       generalize a.keys++b.keys=KK at *
       generalize a.kids++b.kids=K at *
       generalize Cw z=r at *
       rcases r with⟨c,_ | u⟩
       all_goals
        simp only[Bk,Bj]at hg ⊢
        refine A7 Tryz.func195 Tryz.ntmps195 ?_
        refine A3 (j2 ba bb) ?_
        refine w7 (A4 [] hr3) q9 ?_
        refine A3 q9 ?_
        refine w7 (A4 [] hr4) q9 ?_
        refine A3 q9 ?_
        refine w7 (A4 [] hr5) q9 ?_
        refine A3 q9 ?_
        refine w7 (A4 [] hr6) q9 ?_
        refine A3 q9 ?_
        refine w12 (AS [(59,0)] hco1) q9 ?_
        refine A3 q9 ?_
        refine w12 (AS [(65,0)] hco2) q9 ?_
        refine A3 q9 ?_
        refine w9 (A5 [(60,0),(66,0)] hobj) q9 ?_
        refine w9 (A5 [] hg) q9 ?_
        refine A3 q9 ?_
        exact Ad (A6 []) Tryz.results195
      ·rw[if_neg h6,Ep]
       rw[JP h6]at hr6
       refine A7 Tryz.func195 Tryz.ntmps195 ?_
       refine A3 (j2 ba bb) ?_
       refine w7 (A4 [] hr3) q9 ?_
       refine A3 q9 ?_
       refine w7 (A4 [] hr4) q9 ?_
       refine A3 q9 ?_
       refine w7 (A4 [] hr5) q9 ?_
       refine A3 q9 ?_
       refine w7 (A4 [] hr6) q9 ?_
       refine A3 q9 ?_
       refine w7 (A4 [] (Bm 6)) q9 ?_
       refine A3 q9 ?_
       exact Ad (A6 []) Tryz.results195
theorem a4r {a b:V}(ha:a.right) (hb:b.right):AC Tryz.prog 196 [a.av,b.av] [] (EK (RO a b)) []:=by
 have hr3:=JO a b 3
 have hr5:=JO a b 5
 obtain⟨hak,hav⟩:=De ha
 unfold RO
 by_cases h3:a.kind=3∧b.kind=3
 ·rw[if_pos h3]
  rw[Hl h3]at hr3
  have n1:=Cz ha
  have n2:=Cz hb
  have hw:IntKind.i64.wrap (a.num-b.num)=a.num-b.num:=Cf (by omega) (by omega)
  have hn:=Dq (a.num-b.num)
  have hg:=EA (Lf (a.num-b.num)) (by simp[Cb,V.count,Aw])
  generalize Cb (a.num-b.num)=z at *
  generalize Cw z=r at *
  rcases r with⟨c,_ | u⟩
  all_goals
   simp only[Bk,Bj]at hg ⊢
   refine A7 Tryz.func196 Tryz.ntmps196 ?_
   refine A3 q9 ?_
   refine w7 (A4 [] hr3) q9 ?_
   refine A3 hw ?_
   refine w9 (A5 [] hn) q9 ?_
   refine w9 (A5 [] hg) q9 ?_
   refine A3 q9 ?_
   exact Ad (A6 []) Tryz.results196
 ·rw[if_neg h3]
  rw[JP h3]at hr3
  by_cases h5:a.kind=5∧b.kind=5
  ·rw[if_pos h5,Dm]
   rw[Hl h5]at hr5
   have hcv:=Hs a.kids (by omega)
   have hdl:=Sm 274 (by simp only[go_sem]) b (fun x=>b.kids.any fun y=>x.cmp y==0) a.kids (by omega) (fun x hx=>YV x b (Bd ha hx) hb)
   rw[show (a.kids.filter fun p=>!(b.kids.any fun y=>p.cmp y==0))=IL a.kids b.kids from rfl]at hdl
   have hn:=EL (IL a.kids b.kids)
   have hg:=Ba (Kc (b:=b) ha)
   simp only[List.cons_append,List.nil_append]at hdl
   generalize IL a.kids b.kids=K at *
   generalize AZ K=z at *
   refine A7 Tryz.func196 Tryz.ntmps196 ?_
   refine A3 q9 ?_
   refine w7 (A4 [] hr3) q9 ?_
   refine A3 q9 ?_
   refine w7 (A4 [] hr5) q9 ?_
   refine A3 q9 ?_
   refine w12 (AS [] hcv) q9 ?_
   refine A3 q9 ?_
   refine Bx (An [((0,0),(3,0)),((0,1),(22,0))] [((0,0),(3,0)),((1,0),(98,0))] hdl) q9 ?_
   refine A3 q9 ?_
   refine w9 (A5 [(98,0)] hn) q9 ?_
   refine w9 (A5 [] hg) q9 ?_
   refine A3 q9 ?_
   exact Ad (A6 []) Tryz.results196
  ·rw[if_neg h5,Ep]
   rw[JP h5]at hr5
   refine A7 Tryz.func196 Tryz.ntmps196 ?_
   refine A3 q9 ?_
   refine w7 (A4 [] hr3) q9 ?_
   refine A3 q9 ?_
   refine w7 (A4 [] hr5) q9 ?_
   refine A3 q9 ?_
   refine w7 (A4 [] (Bm 6)) q9 ?_
   refine A3 q9 ?_
   exact Ad (A6 []) Tryz.results196
theorem i6 {n:Int}(h:-1000000000000000≤n∧n≤1000000000000000):IntKind.i64.wrap (0-n) = -n:=by
 rw[Cf (by omega) (by omega)]
 omega
theorem S1 {x:Int}:IntKind.i64.wrap ((1000000000000000:Int).tdiv (DN x))=(1000000000000000:Int).tdiv (DN x):=by
 have h:=Int.natAbs_tdiv 1000000000000000 (DN x)
 have h1:((1000000000000000:Int).tdiv (DN x)).natAbs=(1000000000000000:Int).natAbs / (DN x).natAbs:=h
 have h2:=Nat.div_le_self (1000000000000000:Int).natAbs (DN x).natAbs
 exact Cf (by omega) (by omega)
theorem Yu (op:Int) {a b:V}(hop:op=3∨op=10∨op=11) (ha:a.right) (hb:b.right):AC Tryz.prog 197 [.c (.int .i64 op),a.av,b.av] [] (EK (I9 op a b)) []:=by
 have hr3:=JO a b 3
 have n1:=Cz ha
 have n2:=Cz hb
 unfold I9
 by_cases h3:a.kind=3∧b.kind=3
 ·rw[if_pos h3]
  rw[Hl h3]at hr3
  have hny:=i6 n2
  have hnx:=i6 n1
  have hmy:=RZ b.num
  have hmx:=RZ a.num
  by_cases o3:op=3
  ·have ho3:(op==3)=true:=by simpa using o3
   rw[if_pos o3]
   cases hbig:F1 a.num b.num with
   |true =>
    have hx0:a.num≠0:=by intro h;rw[h,S6]at hbig;cases hbig
    have hxb:(a.num != 0)=true:=by simpa using hx0
    have hq:=(MS (y:=b.num) hx0).trans hbig
    have ha0:(DN a.num=0)=False:=by apply eq_false;unfold DN;omega
    have haw:=S1 (x:=a.num)
    rw[if_pos rfl,Ep]
    refine A7 Tryz.func197 Tryz.ntmps197 ?_
    refine A3 q9 ?_
    refine w7 (A4 [] hr3) q9 ?_
    refine A3 (j9 ho3 hxb hny hnx hmy hmx ha0 haw hq) ?_
    refine w7 (A4 [] (Bm 3)) q9 ?_
    refine A3 q9 ?_
    exact Ad (A6 []) Tryz.results197
   |false =>
    have hm:=LN hbig
    have hw:IntKind.i64.wrap (a.num*b.num)=a.num*b.num:=Cf (by omega) (by omega)
    have hn:=Dq (a.num*b.num)
    have hg:=Ba (Dz hm)
    rw[if_neg (by simp),Dm]
    generalize Cb (a.num*b.num)=z at *
    by_cases hx0:a.num=0
    ·have hxb:(a.num != 0)=false:=by simpa using hx0
     refine A7 Tryz.func197 Tryz.ntmps197 ?_
     refine A3 q9 ?_
     refine w7 (A4 [] hr3) q9 ?_
     refine A3 (j3 ho3 hxb hw) ?_
     refine w9 (A5 [] hn) q9 ?_
     refine w9 (A5 [] hg) q9 ?_
     refine A3 q9 ?_
     exact Ad (A6 []) Tryz.results197
    ·have hxb:(a.num != 0)=true:=by simpa using hx0
     have hq:=(MS (y:=b.num) hx0).trans hbig
     have ha0:(DN a.num=0)=False:=by apply eq_false;unfold DN;omega
     have haw:=S1 (x:=a.num)
     refine A7 Tryz.func197 Tryz.ntmps197 ?_
     refine A3 q9 ?_
     refine w7 (A4 [] hr3) q9 ?_
     refine A3 (j10 ho3 hxb hny hnx hmy hmx ha0 haw hq hw) ?_
     refine w9 (A5 [] hn) q9 ?_
     refine w9 (A5 [] hg) q9 ?_
     refine A3 q9 ?_
     exact Ad (A6 []) Tryz.results197
  ·have ho3:(op==3)=false:=by simpa using o3
   rw[if_neg o3]
   by_cases hy0:b.num=0
   ·have hyb:(b.num==0)=true:=by simpa using hy0
    rw[if_pos hy0,Ep]
    refine A7 Tryz.func197 Tryz.ntmps197 ?_
    refine A3 q9 ?_
    refine w7 (A4 [] hr3) q9 ?_
    refine A3 (j2 ho3 hyb) ?_
    refine w7 (A4 [] (Bm 3)) q9 ?_
    refine A3 q9 ?_
    exact Ad (A6 []) Tryz.results197
   ·have hyb:(b.num==0)=false:=by simpa using hy0
    rw[if_neg hy0,Dm]
    by_cases o10:op=10
    ·have ho10:(op==10)=true:=by simpa using o10
     have hm:=Kr (y:=b.num) n1
     have hw:IntKind.i64.wrap (a.num.tdiv b.num)=a.num.tdiv b.num:=Cf (by omega) (by omega)
     have hn:=Dq (a.num.tdiv b.num)
     have hg:=Ba (Dz hm)
     rw[if_pos o10]
     generalize Cb (a.num.tdiv b.num)=z at *
     refine A7 Tryz.func197 Tryz.ntmps197 ?_
     refine A3 q9 ?_
     refine w7 (A4 [] hr3) q9 ?_
     refine A3 (j5 ho3 hyb ho10 hy0 hw) ?_
     refine w9 (A5 [] hn) q9 ?_
     refine w9 (A5 [] hg) q9 ?_
     refine A3 q9 ?_
     exact Ad (A6 []) Tryz.results197
    ·have ho10:(op==10)=false:=by simpa using o10
     have hm:=OB (y:=b.num) n1
     have hn:=Dq (a.num.tmod b.num)
     have hg:=Ba (Dz hm)
     rw[if_neg o10]
     generalize Cb (a.num.tmod b.num)=z at *
     refine A7 Tryz.func197 Tryz.ntmps197 ?_
     refine A3 q9 ?_
     refine w7 (A4 [] hr3) q9 ?_
     refine A3 (j4 ho3 hyb ho10 hy0) ?_
     refine w9 (A5 [] hn) q9 ?_
     refine w9 (A5 [] hg) q9 ?_
     refine A3 q9 ?_
     exact Ad (A6 []) Tryz.results197
 ·rw[if_neg h3,Ep]
  rw[JP h3]at hr3
  refine A7 Tryz.func197 Tryz.ntmps197 ?_
  refine A3 q9 ?_
  refine w7 (A4 [] hr3) q9 ?_
  refine A3 q9 ?_
  refine w7 (A4 [] (Bm 6)) q9 ?_
  refine A3 q9 ?_
  exact Ad (A6 []) Tryz.results197
theorem Xc (op:Int) {a b:V}(ha:a.right) (hb:b.right):AC Tryz.prog 121 [.c (.int .i64 op),a.av,b.av] [] (EK (JS op a b)) []:=by
 have hcmp:=G7 a.count a b (Nat.le_refl _) ha
 have hadd:=Zb ha hb
 have hsub:=a4r ha hb
 unfold JS
 by_cases o:op=1
 ·rw[if_pos o]
  have o1:(op==1)=true:=by simp[o]
  have o2:(op==2)=false:=by simp[o]
  have o3:(op==3)=false:=by simp[o]
  have o4:(op==4)=false:=by simp[o]
  have o5:(op==5)=false:=by simp[o]
  have o6:(op==6)=false:=by simp[o]
  have o7:(op==7)=false:=by simp[o]
  have o8:(op==8)=false:=by simp[o]
  have o9:(op==9)=false:=by simp[o]
  have o10:(op==10)=false:=by simp[o]
  have o11:(op==11)=false:=by simp[o]
  generalize OH a b=r at *
  rcases r with⟨c,_ | u⟩
  all_goals
   simp only[Bk,Bj]at hadd ⊢
   refine A7 Tryz.func121 Tryz.ntmps121 ?_
   refine A3 q9 ?_
   refine w7 (A4 [] hcmp) q9 ?_
   refine A3 (j11 o1 o2 o3 o4 o5 o6 o7 o8 o9 o10 o11) ?_
   refine w9 (A5 [] hadd) q9 ?_
   refine A3 q9 ?_
   exact Ad (A6 []) Tryz.results121
 ·rw[if_neg o]
  have n1:(op==1)=false:=by simpa using o
  by_cases o:op=2
  ·rw[if_pos o]
   have o1:(op==1)=false:=by simp[o]
   have o2:(op==2)=true:=by simp[o]
   have o3:(op==3)=false:=by simp[o]
   have o4:(op==4)=false:=by simp[o]
   have o5:(op==5)=false:=by simp[o]
   have o6:(op==6)=false:=by simp[o]
   have o7:(op==7)=false:=by simp[o]
   have o8:(op==8)=false:=by simp[o]
   have o9:(op==9)=false:=by simp[o]
   have o10:(op==10)=false:=by simp[o]
   have o11:(op==11)=false:=by simp[o]
   generalize RO a b=r at *
   rcases r with⟨c,_ | u⟩
   all_goals
    simp only[Bk,Bj]at hsub ⊢
    refine A7 Tryz.func121 Tryz.ntmps121 ?_
    refine A3 q9 ?_
    refine w7 (A4 [] hcmp) q9 ?_
    refine A3 (j11 o1 o2 o3 o4 o5 o6 o7 o8 o9 o10 o11) ?_
    refine w9 (A5 [] hsub) q9 ?_
    refine A3 q9 ?_
    exact Ad (A6 []) Tryz.results121
  ·rw[if_neg o]
   have n2:(op==2)=false:=by simpa using o
   by_cases o:op=3∨op=10∨op=11
   ·rw[if_pos o]
    have hrk:=Yu op o ha hb
    generalize I9 op a b=r at *
    rcases r with⟨c,_ | u⟩
    all_goals
     simp only[Bk,Bj]at hrk ⊢
     rcases o with o | o | o
     all_goals
      subst o
      refine A7 Tryz.func121 Tryz.ntmps121 ?_
      refine A3 q9 ?_
      refine w7 (A4 [] hcmp) q9 ?_
      refine Ac q9 ?_
      refine w9 (A5 [] hrk) q9 ?_
      refine A3 q9 ?_
      exact Ad (A6 []) Tryz.results121
   ·rw[if_neg o]
    have n3:(op==3)=false:=by simp;omega
    have n10:(op==10)=false:=by simp;omega
    have n11:(op==11)=false:=by simp;omega
    by_cases o:op=4
    ·rw[if_pos o,Dm]
     have o4:(op==4)=true:=by simpa using o
     have htr:=Hc (a.cmp b==0)
     have hg:=Ba (DU (a.cmp b==0))
     generalize ht:(a.cmp b==0)=t at *
     generalize DT t=z at *
     refine A7 Tryz.func121 Tryz.ntmps121 ?_
     refine A3 q9 ?_
     refine w7 (A4 [] hcmp) q9 ?_
     refine A3 (j7 n1 n2 n3 n10 n11 o4 ht) ?_
     refine w9 (A5 [] htr) q9 ?_
     refine w9 (A5 [] hg) q9 ?_
     refine A3 q9 ?_
     exact Ad (A6 []) Tryz.results121
    ·rw[if_neg o]
     have n4:(op==4)=false:=by simpa using o
     by_cases o:op=5
     ·rw[if_pos o,Dm]
      have o5:(op==5)=true:=by simpa using o
      have htr:=Hc (a.cmp b != 0)
      have hg:=Ba (DU (a.cmp b != 0))
      generalize ht:(a.cmp b != 0)=t at *
      generalize DT t=z at *
      refine A7 Tryz.func121 Tryz.ntmps121 ?_
      refine A3 q9 ?_
      refine w7 (A4 [] hcmp) q9 ?_
      refine A3 (j8 n1 n2 n3 n10 n11 n4 o5 ht) ?_
      refine w9 (A5 [] htr) q9 ?_
      refine w9 (A5 [] hg) q9 ?_
      refine A3 q9 ?_
      exact Ad (A6 []) Tryz.results121
     ·rw[if_neg o]
      have n5:(op==5)=false:=by simpa using o
      by_cases o:op=6
      ·rw[if_pos o,Dm]
       have o6:(op==6)=true:=by simpa using o
       have htr:=Hc (decide (a.cmp b<0))
       have hg:=Ba (DU (decide (a.cmp b<0)))
       generalize ht:(decide (a.cmp b<0))=t at *
       generalize DT t=z at *
       refine A7 Tryz.func121 Tryz.ntmps121 ?_
       refine A3 q9 ?_
       refine w7 (A4 [] hcmp) q9 ?_
       refine A3 (j9 n1 n2 n3 n10 n11 n4 n5 o6 ht) ?_
       refine w9 (A5 [] htr) q9 ?_
       refine w9 (A5 [] hg) q9 ?_
       refine A3 q9 ?_
       exact Ad (A6 []) Tryz.results121
      ·rw[if_neg o]
       have n6:(op==6)=false:=by simpa using o
       by_cases o:op=7
       ·rw[if_pos o,Dm]
        have o7:(op==7)=true:=by simpa using o
        have htr:=Hc (decide (a.cmp b≤0))
        have hg:=Ba (DU (decide (a.cmp b≤0)))
        generalize ht:(decide (a.cmp b≤0))=t at *
        generalize DT t=z at *
        refine A7 Tryz.func121 Tryz.ntmps121 ?_
        refine A3 q9 ?_
        refine w7 (A4 [] hcmp) q9 ?_
        refine A3 (j10 n1 n2 n3 n10 n11 n4 n5 n6 o7 ht) ?_
        refine w9 (A5 [] htr) q9 ?_
        refine w9 (A5 [] hg) q9 ?_
        refine A3 q9 ?_
        exact Ad (A6 []) Tryz.results121
       ·rw[if_neg o]
        have n7:(op==7)=false:=by simpa using o
        by_cases o:op=8
        ·rw[if_pos o,Dm]
         have o8:(op==8)=true:=by simpa using o
         have htr:=Hc (decide (a.cmp b>0))
         have hg:=Ba (DU (decide (a.cmp b>0)))
         generalize ht:(decide (a.cmp b>0))=t at *
         generalize DT t=z at *
         refine A7 Tryz.func121 Tryz.ntmps121 ?_
         refine A3 q9 ?_
         refine w7 (A4 [] hcmp) q9 ?_
         refine A3 (j11 n1 n2 n3 n10 n11 n4 n5 n6 n7 o8 ht) ?_
         refine w9 (A5 [] htr) q9 ?_
         refine w9 (A5 [] hg) q9 ?_
         refine A3 q9 ?_
         exact Ad (A6 []) Tryz.results121
        ·rw[if_neg o]
         have n8:(op==8)=false:=by simpa using o
         by_cases o:op=9
         ·rw[if_pos o,Dm]
          have o9:(op==9)=true:=by simpa using o
          have htr:=Hc (decide (a.cmp b≥0))
          have hg:=Ba (DU (decide (a.cmp b≥0)))
          generalize ht:(decide (a.cmp b≥0))=t at *
          generalize DT t=z at *
          refine A7 Tryz.func121 Tryz.ntmps121 ?_
          refine A3 q9 ?_
          refine w7 (A4 [] hcmp) q9 ?_
          refine A3 (j12 n1 n2 n3 n10 n11 n4 n5 n6 n7 n8 o9 ht) ?_
          refine w9 (A5 [] htr) q9 ?_
          refine w9 (A5 [] hg) q9 ?_
          refine A3 q9 ?_
          exact Ad (A6 []) Tryz.results121
         ·rw[if_neg o]
          have n9:(op==9)=false:=by simpa using o
          rw[Ep]
          refine A7 Tryz.func121 Tryz.ntmps121 ?_
          refine A3 q9 ?_
          refine w7 (A4 [] hcmp) q9 ?_
          refine A3 (j11 n1 n2 n3 n10 n11 n4 n5 n6 n7 n8 n9) ?_
          refine w7 (A4 [] (Bm 1)) q9 ?_
          refine A3 q9 ?_
          exact Ad (A6 []) Tryz.results121
end Go.Proofs.YtcejfdfmgmcinaaGreat
