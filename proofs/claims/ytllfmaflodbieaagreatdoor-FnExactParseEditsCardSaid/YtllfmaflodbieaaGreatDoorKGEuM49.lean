/- Texts of this proof: G64 G65 G66 G34 G31 M38 M12 M41 M43 M49. -/
import Derived.Test.YtllfmaflodbieaaGreatDoorKG9uR14
import Derived.Deep.RegionLaw
import Derived.Shelf.RegionOpenPlain
set_option linter.all false
set_option maxHeartbeats 8000000
namespace Go.Proofs.YtllfmaflodbieaaGreatDoor
open Go.RowKit
set_option maxRecDepth 10000
def EditD.cs (d:EditD):List C:=[.int .i64 d.op,.sl (d.path.map CellD.cs),.sl (d.x.map CellD.cs)]
def EditD.os (d:EditD):List C:=[.int .i64 d.op,.osl (d.path.map CellD.cs),.osl (d.x.map CellD.cs)]
def EditD.av (d:EditD):AV:=.agg [.c (.int .i64 d.op),.c (.sl (d.path.map CellD.cs)),.c (.sl (d.x.map CellD.cs))]
abbrev E9 (l:List EditD):AV:=.c (.sl (l.map EditD.cs))
def C0 (l:List EditD):Nat:=(l.map fun d=>1+5*d.path.length+5*d.x.length).sum
theorem Oi (l:List EditD):B3 (l.map EditD.os)=l.map EditD.cs:=by
 induction l with
 |nil=>rfl
 |cons d l ih=>simp only[List.map_cons,B3,ih,EditD.os,EditD.cs,BV,C.forget,Ei]
theorem NX (l:List EditD):BA (l.map EditD.os)=true:=by
 induction l with
 |nil=>rfl
 |cons d l ih=>simp only[List.map_cons,BA,ih,Bool.and_true,EditD.os,F1,C.closed,Eh]
theorem Tq (l:List EditD):((l.map EditD.os).all fun r=>r.length==3)=true:=by simp[EditD.os]
attribute [go_sem] Oi NX Tq EditD.av
theorem IT (l:List EditD) {k:Nat}(h:k<l.length):Aj (l.map EditD.cs) 3 k=true∧(l.map EditD.cs)[k]? = some [.int .i64 l[k].op,.sl (l[k].path.map CellD.cs),.sl (l[k].x.map CellD.cs)]:=⟨by simp[Aj,h,EditD.cs],by simp[h,EditD.cs]⟩
theorem U4 (d:EditD) (hl:d.path.length≤9223372036854775807∧d.x.length≤9223372036854775807):AC Tryz.prog 73 [d.av,d.av] [] (.c (.bool true)) []:=by
 have h1:(d.op != d.op)=false:=by simp
 have he:=Kw d.path hl.1
 have he2:=Kw d.x hl.2
 refine A6 Tryz.func73 Tryz.ntmps73 ?_
 refine A0 h1 ?_
 refine w7 (A3 [] he) trivial ?_
 refine A0 trivial ?_
 refine w7 (A3 [] he2) trivial ?_
 refine A0 trivial ?_
 exact Am (A7 []) Tryz.results73
theorem RJ (l:List EditD) (hl:l.length≤1048576) (hx:∀d∈l,d.path.length≤9223372036854775807∧d.x.length≤9223372036854775807):AC Tryz.prog 33 [E9 l,E9 l] [] (.c (.bool true)) []:=by
 have hln:(l.map EditD.cs).length=l.length:=by simp
 have hne:((l.length:Int) != (l.length:Int))=false:=by simp
 refine A6 Tryz.func33 Tryz.ntmps33 ?_
 refine A0 (j2 hln hne) ?_
 refine AG (κ:=Nat) (fun k=>⟨mkS 0 27 [(0,E9 l),(1,E9 l),(5,.c (.int .i64 k))],[]⟩)
  (fun k=>k≤l.length) (fun k=>l.length-k) 0 (Nat.zero_le _) ?_ ?_
 ·exact Aq (As.of [] []) hne
 ·intro k hk
  by_cases hlt:k<l.length
  ·have hdk:decide ((k:Int)<(l.length:Int))=true:=by simpa using hlt
   have hw:=Ae (k:=k) (by omega)
   obtain⟨hr0,hg0⟩:=IT l hlt
   have he:=U4 l[k] (hx _ (List.getElem_mem hlt))
   generalize l[k]=x at *
   refine A0 (j4 hln hdk hr0 hg0) ?_
   refine w7 (A3 [] he) trivial ?_
   refine A0 hw ?_
   refine⟨k+1,by omega,by omega,?_⟩
   exact Aq (As.of [] []) hw
  ·have hdk:decide ((k:Int)<(l.length:Int))=false:=by simpa using hlt
   refine A0 (j2 hln hdk) ?_
   exact Am (A7 []) Tryz.results33
set_option maxRecDepth 10000
def Cb (K:Nat):List EditD→List EditD
 | []=>[]
 |d::l=>⟨K,BO (K+1) d.path.length,BO (K+1+5*d.path.length) d.x.length⟩::Cb (K+(1+5*d.path.length+5*d.x.length)) l
theorem DI:∀(l:List EditD) (K:Nat),(Cb K l).length=l.length
 | [],_=>rfl
 |d::l,K=>by simp[Cb,DI l]
theorem Nj (l:List EditD) {k:Nat}(h:k<l.length):C0 (l.take (k+1))=C0 (l.take k)+(1+5*l[k].path.length+5*l[k].x.length):=by
 rw[List.take_succ_eq_append_getElem h]
 simp only[C0,List.map_append,List.sum_append,List.map_cons,List.map_nil,List.sum_cons,List.sum_nil,Nat.add_zero]
theorem FV:∀(x y:List EditD) (K:Nat),Cb K (x++y)=Cb K x++Cb (K+C0 x) y
 | [],y,K=>by simp[Cb,C0]
 |d::x,y,K=>by
  rw[List.cons_append,Cb,FV x y,Cb,List.cons_append]
  congr 3
  simp only[C0,List.map_cons,List.sum_cons]
  omega
theorem SY (l:List EditD) (k:Nat):C0 (l.take k)≤C0 l:=by
 have h:C0 (l.take k++l.drop k)=C0 (l.take k)+C0 (l.drop k):=by simp only[C0,List.map_append,List.sum_append]
 rw[List.take_append_drop]at h
 omega
theorem K4 (l:List CellD):EU (l.map CellD.cs)=true:=by
 induction l with
 |nil=>rfl
 |cons c l ih=>simp only[List.map_cons,EU,ih,Bool.and_true,CellD.cs,Hg,C.plain,Bool.and_self]
theorem Lx (l:List CellD):((l.map CellD.cs).all fun x=>x.length==5)=true:=by simp[CellD.cs]
set_option maxRecDepth 10000
theorem Nu (xs:List CellD) (hz:G8 xs):AC Tryz.prog 64 [Ce xs] [] (.c (.int .i64 (dec xs).1)) []:=by
 rcases Fg xs with⟨t,ht⟩ | ⟨c,_,ht⟩
 ·have hv:=Pl xs hz (t:=t) (by rw[ht])
  rw[ht]
  refine A6 Tryz.func64 Tryz.ntmps64 ?_
  refine A0 trivial ?_
  refine w9 (Aa [] hv) trivial ?_
  refine A0 trivial ?_
  exact Am (A7 []) Tryz.results64
 ·have hv:=Uu xs hz (by rw[ht])
  refine A6 Tryz.func64 Tryz.ntmps64 ?_
  refine A0 trivial ?_
  refine w9 (Aa [] hv) V7 ?_
  refine A0 V7 ?_
  exact Am (A7 []) Tryz.results64
theorem C3 (d:EditD) (hz:Jl d):AC Tryz.prog 72 [d.av] [] (.c (.int .i64 (Ac d))) []:=by
 obtain⟨z1,z2,_,_⟩:=hz
 unfold Ac
 cases hb1:d.op != 1 with
 |true =>
  cases hb2:d.op != 2 with
  |true =>
   refine A6 Tryz.func72 Tryz.ntmps72 ?_
   refine A0 (j2 hb1 hb2) ?_
   exact Am (A7 []) Tryz.results72
  |false =>
   have h2:d.op=2:=by simpa using hb2
   have he1:(d.op==1)=false:=by simp[h2]
   rcases BP d.path with⟨s,_,_,_,_,_,_,hp⟩ | ⟨c,hc,hp⟩
   ·rw[hp]
    have hpo:=Mw d.path z1 hp
    have h00:((0:Int) != 0)=false:=rfl
    simp only[Bool.true_and,Bool.false_eq_true,if_false,he1]
    cases hx:d.x.length with
    |succ n =>
     have hg:decide ((((d.x.map CellD.cs).length:Nat):Int)>0)=true:=by rw[List.length_map,hx];simp
     have hg2:decide (((n+1:Nat):Int)>0)=true:=by simp
     simp only[Nat.succ_ne_zero,ne_eq,not_false_eq_true,true_or,if_true]
     refine A6 Tryz.func72 Tryz.ntmps72 ?_
     refine A0 (j2 hb1 hb2) ?_
     refine w9 (Aa [] hpo) trivial ?_
     refine A0 (j4 h00 he1 hx hg2) ?_
     exact Am (A7 []) Tryz.results72
    |zero =>
     have hg2:decide (((0:Nat):Int)>0)=false:=rfl
     have hg3:decide ((0:Int)>0)=false:=rfl
     cases hk:s.kids.length with
     |succ n =>
      have hk0:(((n+1:Nat):Int)==0)=false:=by simp;omega
      simp only[ne_eq,not_true_eq_false,false_or,Nat.succ_ne_zero,if_false]
      refine A6 Tryz.func72 Tryz.ntmps72 ?_
      refine A0 (j2 hb1 hb2) ?_
      refine w9 (Aa [] hpo) trivial ?_
      refine A0 (j7 h00 he1 hx hg2 hg3 hk hk0) ?_
      exact Am (A7 []) Tryz.results72
     |zero =>
      have hk0:(((0:Nat):Int)==0)=true:=rfl
      have hk1:((0:Int)==0)=true:=rfl
      simp only[ne_eq,not_true_eq_false,false_or,if_true]
      refine A6 Tryz.func72 Tryz.ntmps72 ?_
      refine A0 (j2 hb1 hb2) ?_
      refine w9 (Aa [] hpo) trivial ?_
      refine A0 (j8 h00 he1 hx hg2 hg3 hk hk0 hk1) ?_
      exact Am (A7 []) Tryz.results72
   ·rw[hp]
    have hpo:=KD d.path z1 hp
    have hcb:(c != 0)=true:=by simpa using hc
    simp only[Bool.true_and,Bool.false_eq_true,if_false]
    refine A6 Tryz.func72 Tryz.ntmps72 ?_
    refine A0 (j2 hb1 hb2) ?_
    refine w9 (Aa [] hpo) trivial ?_
    refine A0 hcb ?_
    exact Am (A7 []) Tryz.results72
 |false =>
  have h1:d.op=1:=by simpa using hb1
  have he1:(d.op==1)=true:=by simp[h1]
  rcases BP d.path with⟨s,_,_,_,_,_,_,hp⟩ | ⟨c,hc,hp⟩
  ·rw[hp]
   have hpo:=Mw d.path z1 hp
   have h00:((0:Int) != 0)=false:=rfl
   have hf:=Nu d.x z2
   simp only[Bool.false_and,Bool.false_eq_true,if_false,he1,if_true]
   refine A6 Tryz.func72 Tryz.ntmps72 ?_
   refine A0 hb1 ?_
   refine w9 (Aa [] hpo) trivial ?_
   refine A0 (j2 h00 he1) ?_
   refine w7 (A3 [] hf) trivial ?_
   refine A0 trivial ?_
   exact Am (A7 []) Tryz.results72
  ·rw[hp]
   have hpo:=KD d.path z1 hp
   have hcb:(c != 0)=true:=by simpa using hc
   simp only[Bool.false_and,Bool.false_eq_true,if_false]
   refine A6 Tryz.func72 Tryz.ntmps72 ?_
   refine A0 hb1 ?_
   refine w9 (Aa [] hpo) trivial ?_
   refine A0 hcb ?_
   exact Am (A7 []) Tryz.results72
theorem FW (d:EditD):AC Tryz.prog 40 [d.av] [] (.c (.int .i64 (Ac d))) []:=by
 unfold Ac
 have hpo:=E3 d.path
 cases hb1:d.op != 1 with
 |true =>
  cases hb2:d.op != 2 with
  |true =>
   refine A6 Tryz.func40 Tryz.ntmps40 ?_
   refine A0 (j2 hb1 hb2) ?_
   exact Am (A7 []) Tryz.results40
  |false =>
   have h2:d.op=2:=by simpa using hb2
   have he1:(d.op==1)=false:=by simp[h2]
   rcases BP d.path with⟨s,hs,hw1,hw2,hw3,_,_,hp⟩ | ⟨c,hc,hp⟩
   ·rw[hp]at hpo ⊢
    have h00:((0:Int) != 0)=false:=rfl
    simp only[Bool.true_and,Bool.false_eq_true,if_false,he1]
    have hr0:=Qq s
    have hg0:=Dp s
    rw[←hs]at hr0 hg0
    cases hx:d.x.length with
    |succ n =>
     have hg2:decide (((n+1:Nat):Int)>0)=true:=by simp
     simp only[Nat.succ_ne_zero,ne_eq,not_false_eq_true,true_or,if_true]
     refine A6 Tryz.func40 Tryz.ntmps40 ?_
     refine A0 (j2 hb1 hb2) ?_
     refine w7 (A3 [] hpo) trivial ?_
     refine A0 (j4 h00 he1 hx hg2) ?_
     exact Am (A7 []) Tryz.results40
    |zero =>
     have hg2:decide (((0:Nat):Int)>0)=false:=rfl
     have hg3:decide ((0:Int)>0)=false:=rfl
     cases hk:s.kids.length with
     |succ n =>
      rw[hk]at hg0
      have hk0:(((n+1:Nat):Int)==0)=false:=by simp;omega
      simp only[ne_eq,not_true_eq_false,false_or,Nat.succ_ne_zero,if_false]
      refine A6 Tryz.func40 Tryz.ntmps40 ?_
      refine A0 (j2 hb1 hb2) ?_
      refine w7 (A3 [] hpo) trivial ?_
      refine A0 (j8 h00 he1 hx hg2 hg3 hr0 hg0 hk0) ?_
      exact Am (A7 []) Tryz.results40
     |zero =>
      rw[hk]at hg0
      have hk0:(((0:Nat):Int)==0)=true:=rfl
      have hk1:((0:Int)==0)=true:=rfl
      simp only[ne_eq,not_true_eq_false,false_or,if_true]
      refine A6 Tryz.func40 Tryz.ntmps40 ?_
      refine A0 (j2 hb1 hb2) ?_
      refine w7 (A3 [] hpo) trivial ?_
      refine A0 (j9 h00 he1 hx hg2 hg3 hr0 hg0 hk0 hk1) ?_
      exact Am (A7 []) Tryz.results40
   ·rw[hp]at hpo ⊢
    have hcb:(c != 0)=true:=by simpa using hc
    simp only[Bool.true_and,Bool.false_eq_true,if_false]
    refine A6 Tryz.func40 Tryz.ntmps40 ?_
    refine A0 (j2 hb1 hb2) ?_
    refine w7 (A3 [] hpo) trivial ?_
    refine A0 hcb ?_
    exact Am (A7 []) Tryz.results40
 |false =>
  have h1:d.op=1:=by simpa using hb1
  have he1:(d.op==1)=true:=by simp[h1]
  rcases BP d.path with⟨s,_,_,_,_,_,_,hp⟩ | ⟨c,hc,hp⟩
  ·rw[hp]at hpo ⊢
   have h00:((0:Int) != 0)=false:=rfl
   have hf:=Wv d.x
   simp only[Bool.false_and,Bool.false_eq_true,if_false,he1,if_true]
   refine A6 Tryz.func40 Tryz.ntmps40 ?_
   refine A0 hb1 ?_
   refine w7 (A3 [] hpo) trivial ?_
   refine A0 (j2 h00 he1) ?_
   refine w7 (A3 [] hf) trivial ?_
   refine A0 trivial ?_
   exact Am (A7 []) Tryz.results40
  ·rw[hp]at hpo ⊢
   have hcb:(c != 0)=true:=by simpa using hc
   simp only[Bool.false_and,Bool.false_eq_true,if_false]
   refine A6 Tryz.func40 Tryz.ntmps40 ?_
   refine A0 hb1 ?_
   refine w7 (A3 [] hpo) trivial ?_
   refine A0 hcb ?_
   exact Am (A7 []) Tryz.results40
theorem Gq {l:List EditD}{k:Nat}(h:k<l.length):Cy (l.drop k)=if Ac l[k]≠0 then Ac l[k] else Cy (l.drop (k+1)):=by
 rw[List.drop_eq_getElem_cons h]
 rfl
theorem Og (l:List EditD) (hz:∀d∈l,Jl d) (hl:l.length≤9223372036854775807):AC Tryz.prog 32 [E9 l] [] (.c (.int .i64 (Dh l))) []:=by
 have hln:(l.map EditD.cs).length=l.length:=by simp
 unfold Dh
 by_cases hm:100<l.length
 ·have hd:decide ((l.length:Int)>100)=true:=by simp;omega
  rw[if_pos hm]
  refine A6 Tryz.func32 Tryz.ntmps32 ?_
  refine A0 (j2 hln hd) ?_
  exact Am (A7 []) Tryz.results32
 ·have hd:decide ((l.length:Int)>100)=false:=by simp;omega
  rw[if_neg hm]
  obtain⟨R,hR⟩:∃R,Cy l=R:=⟨_,rfl⟩
  rw[hR]
  refine A6 Tryz.func32 Tryz.ntmps32 ?_
  refine A0 (j2 hln hd) ?_
  refine AG (κ:=Nat) (fun k=>⟨mkS 0 21 [(9,E9 l),(10,.c (.int .i64 l.length)),(11,.c (.int .i64 k))],[]⟩)
   (fun k=>k≤l.length∧Cy (l.drop k)=R) (fun k=>l.length-k) 0 ⟨Nat.zero_le _,hR⟩ ?_ ?_
  ·exact Aq (As.of [] []) hln
  ·rintro k ⟨hk,hRk⟩
   by_cases hlt:k<l.length
   ·have hdk:decide ((k:Int)<(l.length:Int))=true:=by simpa using hlt
    have hw:=Ae (k:=k) (by omega)
    obtain⟨hr0,hg0⟩:=IT l hlt
    have hca:=C3 l[k] (hz _ (List.getElem_mem hlt))
    rw[Gq hlt]at hRk
    generalize l[k]=x at *
    by_cases hc:Ac x≠0
    ·have hcb:(Ac x != 0)=true:=by simpa using hc
     rw[if_pos hc]at hRk
     subst hRk
     refine A0 (j3 hdk hr0 hg0) ?_
     refine w7 (A3 [] hca) trivial ?_
     refine A0 hcb ?_
     exact Am (A7 []) Tryz.results32
    ·have hcb:(Ac x != 0)=false:=by simpa using hc
     rw[if_neg hc]at hRk
     refine A0 (j3 hdk hr0 hg0) ?_
     refine w7 (A3 [] hca) trivial ?_
     refine A0 (j2 hcb hw) ?_
     refine⟨k+1,by omega,⟨by omega,hRk⟩,?_⟩
     exact Aq (As.of [] []) hw
   ·have hdk:decide ((k:Int)<(l.length:Int))=false:=by simpa using hlt
    rw[List.drop_eq_nil_of_le (by omega)]at hRk
    have hR0:(0:Int)=R:=hRk
    subst hR0
    refine A0 hdk ?_
    exact Am (A7 []) Tryz.results32
theorem O4 (l:List EditD) (hl:l.length≤9223372036854775807):AC Tryz.prog 15 [E9 l] [] (.c (.int .i64 (Dh l))) []:=by
 have hln:(l.map EditD.cs).length=l.length:=by simp
 unfold Dh
 by_cases hm:100<l.length
 ·have hd:decide ((l.length:Int)>100)=true:=by simp;omega
  rw[if_pos hm]
  refine A6 Tryz.func15 Tryz.ntmps15 ?_
  refine A0 (j2 hln hd) ?_
  exact Am (A7 []) Tryz.results15
 ·have hd:decide ((l.length:Int)>100)=false:=by simp;omega
  rw[if_neg hm]
  obtain⟨R,hR⟩:∃R,Cy l=R:=⟨_,rfl⟩
  rw[hR]
  refine A6 Tryz.func15 Tryz.ntmps15 ?_
  refine A0 (j2 hln hd) ?_
  refine AG (κ:=Nat) (fun k=>⟨mkS 0 22 [(0,E9 l),(3,.c (.int .i64 k))],[]⟩)
   (fun k=>k≤l.length∧Cy (l.drop k)=R) (fun k=>l.length-k) 0 ⟨Nat.zero_le _,hR⟩ ?_ ?_
  ·exact Aq (As.of [] []) hln
  ·rintro k ⟨hk,hRk⟩
   by_cases hlt:k<l.length
   ·have hdk:decide ((k:Int)<(l.length:Int))=true:=by simpa using hlt
    have hw:=Ae (k:=k) (by omega)
    obtain⟨hr0,hg0⟩:=IT l hlt
    have hca:=FW l[k]
    rw[Gq hlt]at hRk
    generalize l[k]=x at *
    by_cases hc:Ac x≠0
    ·have hcb:(Ac x != 0)=true:=by simpa using hc
     rw[if_pos hc]at hRk
     subst hRk
     refine A0 (j4 hln hdk hr0 hg0) ?_
     refine w7 (A3 [] hca) trivial ?_
     refine A0 hcb ?_
     exact Am (A7 []) Tryz.results15
    ·have hcb:(Ac x != 0)=false:=by simpa using hc
     rw[if_neg hc]at hRk
     refine A0 (j4 hln hdk hr0 hg0) ?_
     refine w7 (A3 [] hca) trivial ?_
     refine A0 (j2 hcb hw) ?_
     refine⟨k+1,by omega,⟨by omega,hRk⟩,?_⟩
     exact Aq (As.of [] []) hw
   ·have hdk:decide ((k:Int)<(l.length:Int))=false:=by simpa using hlt
    rw[List.drop_eq_nil_of_le (by omega)]at hRk
    have hR0:(0:Int)=R:=hRk
    subst hR0
    refine A0 (j2 hln hdk) ?_
    exact Am (A7 []) Tryz.results15
set_option maxRecDepth 10000
theorem QB (ps:List V) (hc:(DB ps).count≤500000):AC Tryz.prog 77 [.c (.sl ((ps.map V.enc).map AD))] [] (.c (.sl ((DB ps).enc.map CellD.cs))) []:=by
 have h:=Rl ps hc
 (apply (AC.says [] [(0,0)] h);(focus (simp only[go_sem,Nat.reduceEqDiff,Nat.reduceAdd,Nat.reduceSub,Nat.reduceLeDiff,Nat.reduceMul,Nat.reduceBEq,Nat.reduceLT,Int.reduceToNat,reduceCtorEq];try (and_intros<;>rfl)));(focus exact rfl);(focus (simp only[go_sem,Nat.reduceEqDiff,Nat.reduceAdd,Nat.reduceSub,Nat.reduceLeDiff,Nat.reduceMul,Nat.reduceBEq,Nat.reduceLT,Int.reduceToNat,reduceCtorEq];try (and_intros<;>rfl)));(focus exact rfl);(iterate 4 (focus (simp[go_sem];done))))
set_option maxRecDepth 10000
theorem OO {q:V}(h:q.right):AC Tryz.prog 49 [q.av] [] (.own (0,0)) [((0,0),.row false 5 115 (q.enc.map CellD.cs))] :=
 UX q.count q (Nat.le_refl _) (by have:=h.2.1;omega) (Ls h)
def Zv (t:V):Int×Option V:=if t.count≤200 then okR t else Zq 2
theorem HJ (t:V):t.depth=1+AI t.kids:=by
 cases t
 simp only[V.depth,V.kids]
 omega
abbrev TL:=ByteArray×V
def Ht (l:List TL):List ByteArray:=l.map Prod.fst
def M9 (l:List TL):List V:=l.map Prod.snd
def ovV (l:List TL):V:=.mk 6 0 ByteArray.empty (Ht l) (M9 l)
theorem YQ (l:List TL):(Ht l).length=(M9 l).length:=by unfold Ht M9;rw[List.length_map,List.length_map]
theorem Pb {l:List TL}(h:Up (Ht l)) {k:ByteArray}{u:V}(h1:(k,u)∈l):AH (Ht l) (M9 l) k=u:=by
 have hk:k∈Ht l:=List.mem_map.2 ⟨(k,u),h1,rfl⟩
 obtain⟨j,g1,_,g3⟩:=EM (YQ l) hk
 obtain⟨i,hi,e1⟩:=List.mem_iff_getElem.1 h1
 have q1:(Ht l)[i]? = some k:=by unfold Ht;rw[List.getElem?_map,List.getElem?_eq_getElem hi,e1];rfl
 have:=Wr h g1 q1
 subst this
 have q2:(M9 l)[j]? = some u:=by unfold M9;rw[List.getElem?_map,List.getElem?_eq_getElem hi,e1];rfl
 rw[q2]at g3
 exact (Option.some.inj g3).symm
theorem Xf {t:V}(h:t.wf) (h5:t.kind=5):t=DB t.kids:=by
 obtain⟨_,_,h3,h4,h6,_⟩:=EV h
 cases t with
 |mk kind num text keys kids =>
  simp only[V.kind,V.num,V.text,V.keys]at h5 h3 h4 h6
  rw[h3 (by omega),h4 (by omega),h6 (by omega),h5]
  rfl
def D5 (t:V):List TL:=t.keys.zip t.kids
theorem NJ {t:V}(h:t.keys.length=t.kids.length):Ht (D5 t)=t.keys:=by
 unfold Ht D5
 exact List.map_fst_zip (by omega)
theorem SF {t:V}(h:t.keys.length=t.kids.length):M9 (D5 t)=t.kids:=by
 unfold M9 D5
 exact List.map_snd_zip (by omega)
theorem XB {t:V}(h:t.right) (h6:t.kind=6):t=ovV (D5 t):=by
 obtain⟨_,_,hl⟩:=Gy h h6
 obtain⟨_,_,h3,h4,_,_⟩:=EV h.1
 unfold ovV
 rw[NJ hl,SF hl]
 cases t with
 |mk kind num text keys kids =>
  simp only[V.kind,V.num,V.text]at h6 h3 h4
  rw[h3 (by omega),h4 (by omega),h6]
  rfl
def Sub (s:ByteArray) (i:Nat) (l:List UInt8):Prop:=∃r,s.data.toList.drop i=l++r
theorem DA (s:ByteArray) (i:Nat):bAt s i=match s.data.toList[i]? with | some b=>b.toNat | none=>256:=by
 rcases Nat.lt_or_ge i s.size with h | h
 ·obtain⟨b,h1,h2⟩:=Aw h
  have h3:s.data.toList[i]? = some b:=by
   have:s[i]? = some s[i]:=getElem?_pos s i h
   rw[this]at h1
   have hl:i<s.data.toList.length:=by rw[Array.length_toList];exact h
   rw[List.getElem?_eq_getElem hl,Array.getElem_toList]
   exact h1
  rw[h3,h2]
 ·have hl:s.data.toList[i]? = none:=List.getElem?_eq_none (by rw[Array.length_toList];exact h)
  rw[hl,BX h]
theorem Sub.left {s:ByteArray}{i:Nat}{a b:List UInt8}(h:Sub s i (a++b)):Sub s i a:=by
 obtain⟨r,h⟩:=h
 exact⟨b++r,by rw[h,List.append_assoc]⟩
theorem Sub.right {s:ByteArray}{i:Nat}{a b:List UInt8}(h:Sub s i (a++b)):Sub s (i+a.length) b:=by
 obtain⟨r,h⟩:=h
 refine⟨r,?_⟩
 rw[←List.drop_drop,h,List.append_assoc,List.drop_left]
theorem Sub.tail {s:ByteArray}{i:Nat}{b:UInt8}{l:List UInt8}(h:Sub s i (b::l)):Sub s (i+1) l:=Sub.right (a:=[b]) h
theorem Sub.head {s:ByteArray}{i:Nat}{b:UInt8}{l:List UInt8}(h:Sub s i (b::l)):bAt s i=b.toNat:=by
 obtain⟨r,h⟩:=h
 have:s.data.toList[i]? = some b:=by
  have h1:(s.data.toList.drop i)[0]? = some b:=by rw[h];rfl
  rw[List.getElem?_drop]at h1
  simpa using h1
 rw[DA,this]
theorem Sub.size {s:ByteArray}{i:Nat}{l:List UInt8}(h:Sub s i l) (hl:l≠[]):i+l.length≤s.size:=by
 obtain⟨r,h⟩:=h
 have h1:=congrArg List.length h
 rw[List.length_drop,List.length_append,Array.length_toList]at h1
 have h2:s.data.size=s.size:=rfl
 have h3:=List.length_pos_iff.2 hl
 omega
theorem Bl (a b:ByteArray):(a++b).data.toList=a.data.toList++b.data.toList:=by
 rw[show (a++b).data=a.data++b.data from ByteArray.data_append,Array.toList_append]
theorem AL (a:ByteArray):a.data.toList.length=a.size:=Array.length_toList
theorem Ng {s:ByteArray}{v:V}{i:Nat}:∀(l:List UInt8) (k:Nat),Sub s (i+k) l→Ck s v i (l.map UInt8.toNat) k=.ok v (i+k+l.length)
 | [],k,_=>by simp[Ck]
 |b::l,k,h=>by
  have h1:=Ng (v:=v) l (k+1) (by rw[←Nat.add_assoc];exact h.tail)
  simp only[List.map_cons,Ck]
  rw[if_pos h.head,h1]
  simp only[List.length_cons]
  congr 1
  omega
theorem UF (b:UInt8):BF b.toNat=⟨#[b]⟩:=by unfold BF;rw[UInt8.ofNat_toNat]
theorem TM (out:ByteArray) (b:UInt8) (l:List UInt8):out++⟨(b::l).toArray⟩=out++BF b.toNat++⟨l.toArray⟩:=by
 have e:(⟨(b::l).toArray⟩:ByteArray)=⟨#[b]⟩++⟨l.toArray⟩:=by
  apply ByteArray.ext
  rw[show ((⟨#[b]⟩:ByteArray)++⟨l.toArray⟩).data = #[b]++l.toArray from ByteArray.data_append]
  simp
 rw[UF,ByteArray.append_assoc,e]
theorem IB {s:ByteArray}{f:Nat}:∀(l:List UInt8) (n i:Nat) (out:ByteArray),Sub s i (Ay l++[34])→l.all CS=true→out.size+l.length≤60→s.size-i<n→CU s f n i out=.ok (out++⟨l.toArray⟩) (i+(Ay l).length+1)
 |l,0,i,out,_,_,_,hn=>by omega
 | [],n+1,i,out,h,_,hz,hn=>by
  have hb:bAt s i=34:=Sub.head (l:=[]) h
  have hs:=BW (s:=s) (i:=i) (by omega)
  unfold CU
  rw[if_neg (by omega),if_pos hb,if_neg (by simp at hz;omega)]
  have:out++(⟨([]:List UInt8).toArray⟩:ByteArray)=out:=ByteArray.append_empty
  rw[this]
  rfl
 |b::l,n+1,i,out,h,ha,hz,hn=>by
  simp only[List.all_cons,Bool.and_eq_true]at ha
  obtain⟨hb,ha⟩:=ha
  simp only[List.length_cons]at hz
  have hok:32≤b.toNat∧b.toNat≤126:=by unfold CS at hb;simpa using hb
  have he:Ay (b::l)=CA b++Ay l:=rfl
  rw[he]at h
  have hsz:∀x:Nat,(out++BF x).size+l.length≤60:=fun x=>by rw[DN];omega
  rw[TM]
  by_cases h34:b=34
  ·have e:CA b=[92,34]:=by unfold CA;rw[if_pos h34]
   rw[e]at h
   rw[List.append_assoc]at h
   have a0:bAt s i=92:=Sub.head h
   have a1:bAt s (i+1)=34:=Sub.head (Sub.tail h)
   have hs:=BW (s:=s) (i:=i) (by omega)
   unfold CU
   rw[if_neg (by omega),if_neg (by omega),if_neg (by omega),if_neg (by omega)]
   have hx:EJ s i=.ok 34 (i+2):=by unfold EJ;rw[if_pos (.inl a1),a1]
   rw[hx]
   have:=IB (f:=f) l n (i+2) (out++BF 34) (Sub.tail (Sub.tail h)) ha (hsz _) (by omega)
   show CU s f n (i+2) (out++BF 34)=_
   rw[this,he,e,h34]
   simp only[List.length_append,List.length_cons,List.length_nil]
   congr 1
   omega
  by_cases h92:b=92
  ·have e:CA b=[92,92]:=by unfold CA;rw[if_neg h34,if_pos h92]
   rw[e]at h
   rw[List.append_assoc]at h
   have a0:bAt s i=92:=Sub.head h
   have a1:bAt s (i+1)=92:=Sub.head (Sub.tail h)
   have hs:=BW (s:=s) (i:=i) (by omega)
   unfold CU
   rw[if_neg (by omega),if_neg (by omega),if_neg (by omega),if_neg (by omega)]
   have hx:EJ s i=.ok 92 (i+2):=by unfold EJ;rw[if_pos (.inr (.inl a1)),a1]
   rw[hx]
   have:=IB (f:=f) l n (i+2) (out++BF 92) (Sub.tail (Sub.tail h)) ha (hsz _) (by omega)
   show CU s f n (i+2) (out++BF 92)=_
   rw[this,he,e,h92]
   simp only[List.length_append,List.length_cons,List.length_nil]
   congr 1
   omega
  ·have e:CA b=[b]:=by unfold CA;rw[if_neg h34,if_neg h92]
   rw[e]at h
   rw[List.append_assoc]at h
   have a0:bAt s i=b.toNat:=Sub.head h
   have hs:=BW (s:=s) (i:=i) (by omega)
   have n34:b.toNat≠34:=fun h=>h34 (UInt8.toNat_inj.1 h)
   have n92:b.toNat≠92:=fun h=>h92 (UInt8.toNat_inj.1 h)
   unfold CU
   rw[if_neg (by omega),if_neg (by omega),if_neg (by omega),if_pos (by omega),a0]
   rw[IB (f:=f) l n (i+1) (out++BF b.toNat) (Sub.tail h) ha (hsz _) (by omega),he,e]
   simp only[List.length_append,List.length_cons,List.length_nil]
   congr 1
   omega
theorem Er (t:ByteArray):(BY t).data.toList=34::(Ay t.data.toList++[34]):=by
 unfold BY
 rw[Bl,Bl]
 simp
theorem Mr {s:ByteArray}{i:Nat}{t:ByteArray}(h:Sub s i (BY t).data.toList) (ht:AN t=true):E4 s i=.ok t (i+(BY t).size):=by
 have hl:(BY t).size=(Ay t.data.toList).length+2:=by rw[←AL,Er];simp
 rw[Er]at h
 unfold AN at ht
 simp only[Bool.and_eq_true,decide_eq_true_eq]at ht
 have hh:=Sub.head h
 unfold E4
 rw[if_neg (by rw[hh];decide)]
 rw[IB (f:=i) t.data.toList (s.size+1) (i+1) ByteArray.empty (Sub.tail h) ht.2 (by rw[AL];simpa using ht.1) (by omega),hl]
 have:ByteArray.empty++(⟨t.data.toList.toArray⟩:ByteArray)=t:=by rw[ByteArray.empty_append]
 rw[this]
 congr 1
 omega
theorem PM {d:Nat}(h:d<10):(UInt8.ofNat (48+d)).toNat=48+d:=by
 rw[UInt8.toNat_ofNat']
 exact Nat.mod_eq_of_lt (by omega)
theorem Fk {s:ByteArray}{a:Nat}:∀(m u:Nat),u≤m→Sub s a (Lib.decDigits u)→Bf s a (Lib.decDigits u).length=u∧(∀j,a≤j→j<a+(Lib.decDigits u).length→AP (bAt s j)=true)∧(u≠0→bAt s a≠48)
 |m,u,hm,h=>by
  by_cases hu:u<10
  ·rw[Lib.decDigits_one hu]at h ⊢
   have hb:=Sub.head h
   rw[PM hu]at hb
   refine⟨?_,fun j h1 h2=>?_,fun h0=>by omega⟩
   ·simp only[List.length_cons,List.length_nil,Bf,Nat.add_zero,hb]
    omega
   ·have:j=a:=by simp at h2;omega
    rw[this,hb]
    unfold AP
    simp
    omega
  ·cases m with
   |zero=>omega
   |succ m =>
    have e:Lib.decDigits u=Lib.decDigits (u / 10)++[UInt8.ofNat (48+u % 10)]:=by rw[Lib.decDigits,dif_neg hu]
    rw[e]at h ⊢
    obtain⟨h1,h2,h3⟩:=Fk m (u / 10) (by omega) (Sub.left h)
    have hb:=Sub.head (Sub.right h)
    rw[PM (by omega)]at hb
    refine⟨?_,fun j g1 g2=>?_,fun _=>h3 (by omega)⟩
    ·simp only[List.length_append,List.length_cons,List.length_nil,Bf,h1,hb]
     omega
    ·simp only[List.length_append,List.length_cons,List.length_nil]at g2
     by_cases hj:j<a+(Lib.decDigits (u / 10)).length
     ·exact h2 j g1 hj
     ·have:j=a+(Lib.decDigits (u / 10)).length:=by omega
      rw[this,hb]
      unfold AP
      simp
      omega
theorem Pq {s:ByteArray}:∀(n i:Nat),(∀j,i≤j→j<i+n→AP (bAt s j)=true)→AP (bAt s (i+n))=false→Dm s i=i+n
 | 0,i,_,h=>Eo h
 |n+1,i,h1,h2=>by
  rw[IX (h1 i (Nat.le_refl _) (by omega)),Pq n (i+1) (fun j g1 g2=>h1 j (by omega) (by omega)) (by rw[show i+1+n=i+(n+1) by omega];exact h2)]
  omega
theorem Rq {u:Nat}(h:u≤1000000000000000):Lib.nDigits u≤16:=by
 rcases Nat.lt_or_ge (Lib.nDigits u) 17 with h1 | h1
 ·omega
 ·exfalso
  have key:∀(n v:Nat),n+1≤Lib.nDigits v→10 ^ n≤v∨(n=0):=by
   intro n
   induction n with
   |zero=>intro v _;exact .inr rfl
   |succ n ih =>
    intro v hv
    by_cases hv10:v<10
    ·rw[Lib.nDigits_small hv10]at hv;omega
    ·rw[Lib.nDigits_big hv10]at hv
     rcases ih (v / 10) (by omega) with h | h
     ·refine .inl ?_
      rw[Nat.pow_succ]
      omega
     ·refine .inl ?_
      rw[h]
      omega
  rcases key 16 u h1 with h | h
  ·have:(10:Nat) ^ 16=10000000000000000:=by decide
   omega
  ·omega
def MH (s:ByteArray) (e:Nat):Prop:=AP (bAt s e)=false∧G6 (bAt s e)=false
theorem Wo {s:ByteArray}{a u:Nat}(h:Sub s a (Lib.decDigits u)) (hs:AP (bAt s (a+(Lib.decDigits u).length))=false):AP (bAt s a)=true∧(if bAt s a=48 then a+1 else Dm s a)=a+(Lib.decDigits u).length∧Bf s a (Lib.decDigits u).length=u:=by
 obtain⟨h1,h2,h3⟩:=Fk u u (Nat.le_refl _) h
 have hp:1≤(Lib.decDigits u).length:=by rw[Lib.decDigits_length];exact Lib.nDigits_pos u
 refine⟨h2 a (Nat.le_refl _) (by omega),?_,h1⟩
 by_cases hu:u=0
 ·subst hu
  have e:Lib.decDigits 0=[48]:=by rw[Lib.decDigits_one (by decide)];rfl
  rw[e]at h ⊢
  rw[if_pos (show bAt s a=48 from Sub.head h)]
  rfl
 ·rw[if_neg (h3 hu)]
  exact Pq _ _ h2 hs
theorem Vg {s:ByteArray}{i:Nat}{n:Int}(hn:-1000000000000000≤n∧n≤1000000000000000) (h:Sub s i (Fx n).data.toList) (hs:MH s (i+(Fx n).size)):K8 s i=.ok n (i+(Fx n).size):=by
 have hl:(Fx n).size=(Lib.itoa n).length:=by rw[←AL];simp[Fx]
 have hd:(Fx n).data.toList=Lib.itoa n:=by simp[Fx]
 rw[hd]at h
 rw[hl]at hs ⊢
 have fin:∀(a u:Nat),AB s i=a→Sub s a (Lib.decDigits u)→u≤1000000000000000→a+(Lib.decDigits u).length=i+(Lib.itoa n).length→Ef s i=n∨True→(bAt s i=45→-((u:Nat):Int)=n)→(bAt s i≠45→((u:Nat):Int)=n)→K8 s i=.ok n (i+(Lib.itoa n).length):=by
  intro a u ha hsub hu hal _ hm hp
  obtain⟨g1,g2,g3⟩:=Wo hsub (by rw[hal];exact hs.1)
  have hE:AQ s i=a+(Lib.decDigits u).length:=by unfold AQ;rw[ha];exact g2
  have hlen:=Rq hu
  rw[←Lib.decDigits_length]at hlen
  have hsub':AQ s i-AB s i=(Lib.decDigits u).length:=by rw[hE,ha];omega
  unfold K8
  rw[if_neg (by rw[ha,g1];decide)]
  have hbig:Dx s i=false:=by
   unfold Dx
   rw[hsub',ha,g3]
   simp
   omega
  rw[if_neg (by rw[hbig];decide),if_neg (by rw[hE,hal,hs.2];decide),hE,hal]
  congr 1
  unfold Ef
  rw[hsub',ha,g3]
  by_cases h45:bAt s i=45
  ·rw[if_pos h45];exact hm h45
  ·rw[if_neg h45];exact hp h45
 unfold Lib.itoa at h
 by_cases h0:n<0
 ·rw[if_pos h0]at h
  have hb:bAt s i=45:=Sub.head h
  refine fin (i+1) n.natAbs (by unfold AB;rw[if_pos hb]) (Sub.tail h) (by omega) ?_ (.inr trivial) (fun _=>by omega) (fun h=>absurd hb h)
  unfold Lib.itoa
  rw[if_pos h0,List.length_cons]
  omega
 ·rw[if_neg h0]at h
  obtain⟨_,h2,_⟩:=Fk n.toNat n.toNat (Nat.le_refl _) h
  have hp:1≤(Lib.decDigits n.toNat).length:=by rw[Lib.decDigits_length];exact Lib.nDigits_pos _
  have hd0:=DM (h2 i (Nat.le_refl _) (by omega))
  have hb:bAt s i≠45:=by omega
  refine fin i n.toNat (by unfold AB;rw[if_neg hb]) h (by omega) ?_ (.inr trivial) (fun h=>absurd h hb) (fun _=>by omega)
  unfold Lib.itoa
  rw[if_neg h0]
end Go.Proofs.YtllfmaflodbieaaGreatDoor
