/- The laws' own functions on EditsResult, of edits some of which have no value: eq, mark, held. -/
import Derived.Test.YtllfmaflodbieaaGreatDoorKD36uG73
set_option linter.all false
set_option maxHeartbeats 8000000
namespace Go.Proofs.YtllfmaflodbieaaGreatDoor
open Go.RowKit
set_option maxRecDepth 10000
theorem Pv {l:List CellD}(h:l≠[]):GS l=.osl (l.map CellD.cs):=by
 cases l with
 |nil=>exact absurd rfl h
 |cons x r=>rfl
theorem Qx (l:List CellD):(GS l).closed=true:=by
 unfold GS
 cases l with
 |nil=>rfl
 |cons x r=>simp only[C.closed,Eh]
theorem TJ (l:List EditD):BA (l.map EditD.ox)=true:=by
 induction l with
 |nil=>rfl
 |cons d l ih=>simp only[List.map_cons,BA,ih,EditD.ox,F1,Qx,C.closed,Eh,Bool.and_self]
attribute [go_sem] TJ
theorem Re (K:Nat):BO K 0=[]:=rfl
theorem Lp (K:Nat):AC Tryz.prog 51 [.c (.sl []),.c (.int .i64 K)] [] (.c (.int .i64 K)) []:=by
 have hd:decide ((0:Int)<((0:Nat):Int))=false:=rfl
 refine A6 Tryz.func51 Tryz.ntmps51 ?_
 refine A0 trivial ?_
 refine AG (κ:=Nat) (fun k=>⟨mkS 0 50 [(0,.c (.sl [])),(1,.c (.int .i64 K)),(5,.c (.int .i64 0))],[]⟩)
  (fun _=>True) (fun k=>k) 0 trivial ?_ ?_
 ·exact Aq (As.of [] []) hd
 ·intro k hk
  refine A0 hd ?_
  exact Am (A7 []) Tryz.results51
def Ee (K:Nat) (l:List EditD) (k:Nat):List (List C):=(Cb K (l.take k)++l.drop k).map EditD.ox
theorem Uw (K:Nat) (l:List EditD) (k:Nat):(Ee K l k).length=l.length:=by
 unfold Ee
 rw[List.length_map,List.length_append,DI,List.length_take,List.length_drop]
 omega
theorem VN (K:Nat) (l:List EditD) {k:Nat}(h:k<l.length):(Ee K l k)[k]? = some [.int .i64 l[k].op,.osl (l[k].path.map CellD.cs),GS l[k].x]:=by
 unfold Ee
 have hl:(Cb K (l.take k)).length=k:=by rw[DI,List.length_take];omega
 rw[List.getElem?_map,List.getElem?_append_right (by omega),hl,Nat.sub_self,List.getElem?_drop,Nat.add_zero,List.getElem?_eq_getElem h]
 rfl
theorem TY (K:Nat) (l:List EditD) {k:Nat}(h:k<l.length):(Ee K l k).set k [.int .i64 ((K+C0 (l.take k):Nat):Int),.osl ((BO (K+C0 (l.take k)+1) l[k].path.length).map CellD.cs),GS (BO (K+C0 (l.take k)+1+5*l[k].path.length) l[k].x.length)]=Ee K l (k+1):=by
 unfold Ee
 have hl:(Cb K (l.take k)).length=k:=by rw[DI,List.length_take];omega
 rw[List.map_append,List.set_append_right _ _ (by rw[List.length_map];omega),List.length_map,hl,Nat.sub_self,List.drop_eq_getElem_cons h,List.map_cons,List.set_cons_zero,
  List.take_succ_eq_append_getElem h,FV,List.map_append,List.map_append,List.append_assoc]
 rfl
theorem Ok (l:List EditD) (K:Nat) (e:TypeId) (hK:K+C0 l≤3000000000) (hl9:l.length≤1048576) :
  AC Tryz.prog 34 [.own (0,0),.c (.int .i64 K)] [((0,0),.row true 3 e (l.map EditD.ox))] (.c (.int .i64 ((K+C0 l:Nat):Int))) [((0,0),.row true 3 e ((Cb K l).map EditD.ox))]:=by
 have hs0:l.map EditD.ox=Ee K l 0:=by simp[Ee,Cb]
 have ht0:((K:Nat):Int)=((K+C0 (l.take 0):Nat):Int):=by simp[C0]
 refine A6 Tryz.func34 Tryz.ntmps34 ?_
 refine A0 trivial ?_
 refine AG (κ:=Nat) (fun k=>⟨mkS 0 34 [(0,.own (0,0)),(1,.c (.int .i64 ((K+C0 (l.take k):Nat):Int))),(5,.c (.int .i64 k))],[((0,0),.row true 3 e (Ee K l k))]⟩)
  (fun k=>k≤l.length) (fun k=>l.length-k) 0 (Nat.zero_le _) ?_ ?_
 ·exact Aq (As.of [((0,0),(0,0))] []) (j2 hs0 ht0)
 ·intro k hk
  have hpl:=Uw K l k
  by_cases hlt:k<l.length
  ·have hdk:decide ((k:Int)<(l.length:Int))=true:=by simpa using hlt
   have hw:=Ae (k:=k) (by omega)
   have htk:=Nj l hlt
   have hte:=SY l (k+1)
   obtain⟨M,hM⟩:∃M,M=K+C0 (l.take k):=⟨_,rfl⟩
   have hM1:K+C0 (l.take (k+1))=M+1+5*l[k].path.length+5*l[k].x.length:=by omega
   have hset:=TY K l hlt
   have h0:=VN K l hlt
   rw[←hM]at hset
   rw[←hM]
   have hr0:Aj (Ee K l k) 3 k=true:=by unfold Aj;rw[show ((k:Nat):Int).toNat=k from rfl,h0];simp
   have hkl:k<(Ee K l k).length:=by rw[hpl];exact hlt
   have w1:IntKind.i64.wrap ((M:Int)+1)=((M+1:Nat):Int):=by rw[IntWalk.i64_in _ (by omega)];omega
   have hmk:=IH l[k].path (M+1)
   have hmk2:=IH l[k].x (M+1+5*l[k].path.length)
   have hpn:=K4 l[k].path
   have hpn2:=K4 l[k].x
   have h5:=Lx l[k].path
   have h52:=Lx l[k].x
   generalize hR3:Ee K l (k+1)=R3 at *
   generalize Ee K l k=R0 at *
   obtain⟨R1,hR1⟩:∃R1,R0.set k [.int .i64 (M:Int),.osl (l[k].path.map CellD.cs),GS l[k].x]=R1:=⟨_,rfl⟩
   have h1:R1[k]? = some [.int .i64 (M:Int),.osl (l[k].path.map CellD.cs),GS l[k].x]:=by rw[←hR1,List.getElem?_set_self hkl]
   have hr1:Aj R1 3 k=true:=by unfold Aj;rw[show ((k:Nat):Int).toNat=k from rfl,h1];simp
   have hl1:R1.length=R0.length:=by rw[←hR1,List.length_set]
   obtain⟨R2,hR2⟩:∃R2,R1.set k [.int .i64 (M:Int),.osl ((BO (M+1) l[k].path.length).map CellD.cs),GS l[k].x]=R2:=⟨_,rfl⟩
   have h2:R2[k]? = some [.int .i64 (M:Int),.osl ((BO (M+1) l[k].path.length).map CellD.cs),GS l[k].x]:=by rw[←hR2,List.getElem?_set_self (by omega)]
   have hr2:Aj R2 3 k=true:=by unfold Aj;rw[show ((k:Nat):Int).toNat=k from rfl,h2];simp
   have hset':R2.set k [.int .i64 (M:Int),.osl ((BO (M+1) l[k].path.length).map CellD.cs),GS (BO (M+1+5*l[k].path.length) l[k].x.length)]=R3:=by rw[←hR2,←hR1,List.set_set,List.set_set];exact hset
   generalize hd:l[k]=d at *
   obtain⟨op,path,x⟩:=d
   dsimp only at *
   cases x with
   |nil =>
    have hn0:=Lp (M+1+5*path.length)
    have hM2:M+1+5*path.length+5*0=M+1+5*path.length:=rfl
    simp only[List.length_nil,Re,GS,Nat.mul_zero,Nat.add_zero]at *
    rw[←hR2,List.set_set,hR2]at hset'
    subst hset'
    refine A0 (j3 hpl hdk hr0) ?_
    ((with_reducible apply Qc);(iterate 11 (focus (first | (simp only[go_sem,Nat.reduceEqDiff,Nat.reduceAdd,Nat.reduceSub,Nat.reduceLeDiff,Nat.reduceMul,Nat.reduceBEq,Nat.reduceLT,Int.reduceToNat,reduceCtorEq,h0,C.plain,List.set_cons_zero,hR1];first | done | exact rfl | (and_intros<;>rfl)) | exact rfl | decide))))
    refine A0 (j2 w1 hr1) ?_
    ((with_reducible apply O9);(iterate 11 (focus (first | (simp only[go_sem,Nat.reduceEqDiff,Nat.reduceAdd,Nat.reduceSub,Nat.reduceLeDiff,Nat.reduceMul,Nat.reduceBEq,Nat.reduceLT,Int.reduceToNat,reduceCtorEq,h1,hpn];first | done | exact rfl | (and_intros<;>rfl)) | exact rfl | decide))))
    refine A0 trivial ?_
    (apply (Oc (0,0) (23,0) 5 (fun es' e' h=>hmk es' e' (fun hx=>h (by intro hh;exact hx (by simpa using hh))) (by omega)));(iterate 4 (focus (first | (simp only[go_sem,Nat.reduceEqDiff,Nat.reduceAdd,Nat.reduceSub,Nat.reduceLeDiff,Nat.reduceMul,Nat.reduceBEq,Nat.reduceLT,Int.reduceToNat,reduceCtorEq,h1,h5,hR2,List.set_cons_zero,List.set_cons_succ];first | done | exact rfl | (and_intros<;>rfl)) | exact rfl | decide)));(focus (first | (intro _ _;exact rfl) | (intro _ _;simp only[go_sem,Nat.reduceEqDiff,Nat.reduceAdd,Nat.reduceSub,Nat.reduceLeDiff,Nat.reduceMul,Nat.reduceBEq,Nat.reduceLT,Int.reduceToNat,reduceCtorEq,h1,h5,hR2,List.set_cons_zero,List.set_cons_succ];done)));(iterate 7 (focus (first | (simp only[go_sem,Nat.reduceEqDiff,Nat.reduceAdd,Nat.reduceSub,Nat.reduceLeDiff,Nat.reduceMul,Nat.reduceBEq,Nat.reduceLT,Int.reduceToNat,reduceCtorEq,h1,h5,hR2,List.set_cons_zero,List.set_cons_succ];first | done | exact rfl | (and_intros<;>rfl)) | exact rfl | decide))))
    refine A0 hr2 ?_
    ((with_reducible apply Xj);(iterate 9 (focus (first | (simp only[go_sem,Nat.reduceEqDiff,Nat.reduceAdd,Nat.reduceSub,Nat.reduceLeDiff,Nat.reduceMul,Nat.reduceBEq,Nat.reduceLT,Int.reduceToNat,reduceCtorEq,h2];first | done | exact rfl | (and_intros<;>rfl)) | exact rfl | decide))))
    refine A0 trivial ?_
    refine w7 (A3 [] hn0) trivial ?_
    refine A0 hw ?_
    refine⟨k+1,by omega,by omega,?_⟩
    exact Aq (As.of [((0,0),(0,0))] []) (j2 hM1 hR3)
   |cons y r =>
    have e1:GS (y::r)=.osl ((y::r).map CellD.cs):=rfl
    have e2:GS (BO (M+1+5*path.length) (y::r).length)=.osl ((BO (M+1+5*path.length) (y::r).length).map CellD.cs):=Pv fun h=>by have:=congrArg List.length h;simp[BO]at this
    rw[e1]at h0 hR1 h1 hR2 h2
    rw[e2]at hset'
    generalize y::r=x at *
    refine A0 (j3 hpl hdk hr0) ?_
    ((with_reducible apply Qc);(iterate 11 (focus (first | (simp only[go_sem,Nat.reduceEqDiff,Nat.reduceAdd,Nat.reduceSub,Nat.reduceLeDiff,Nat.reduceMul,Nat.reduceBEq,Nat.reduceLT,Int.reduceToNat,reduceCtorEq,h0,C.plain,List.set_cons_zero,hR1];first | done | exact rfl | (and_intros<;>rfl)) | exact rfl | decide))))
    refine A0 (j2 w1 hr1) ?_
    ((with_reducible apply O9);(iterate 11 (focus (first | (simp only[go_sem,Nat.reduceEqDiff,Nat.reduceAdd,Nat.reduceSub,Nat.reduceLeDiff,Nat.reduceMul,Nat.reduceBEq,Nat.reduceLT,Int.reduceToNat,reduceCtorEq,h1,hpn];first | done | exact rfl | (and_intros<;>rfl)) | exact rfl | decide))))
    refine A0 trivial ?_
    (apply (Oc (0,0) (23,0) 5 (fun es' e' h=>hmk es' e' (fun hx=>h (by intro hh;exact hx (by simpa using hh))) (by omega)));(iterate 4 (focus (first | (simp only[go_sem,Nat.reduceEqDiff,Nat.reduceAdd,Nat.reduceSub,Nat.reduceLeDiff,Nat.reduceMul,Nat.reduceBEq,Nat.reduceLT,Int.reduceToNat,reduceCtorEq,h1,h5,hR2,List.set_cons_zero,List.set_cons_succ];first | done | exact rfl | (and_intros<;>rfl)) | exact rfl | decide)));(focus (first | (intro _ _;exact rfl) | (intro _ _;simp only[go_sem,Nat.reduceEqDiff,Nat.reduceAdd,Nat.reduceSub,Nat.reduceLeDiff,Nat.reduceMul,Nat.reduceBEq,Nat.reduceLT,Int.reduceToNat,reduceCtorEq,h1,h5,hR2,List.set_cons_zero,List.set_cons_succ];done)));(iterate 7 (focus (first | (simp only[go_sem,Nat.reduceEqDiff,Nat.reduceAdd,Nat.reduceSub,Nat.reduceLeDiff,Nat.reduceMul,Nat.reduceBEq,Nat.reduceLT,Int.reduceToNat,reduceCtorEq,h1,h5,hR2,List.set_cons_zero,List.set_cons_succ];first | done | exact rfl | (and_intros<;>rfl)) | exact rfl | decide))))
    refine A0 hr2 ?_
    ((with_reducible apply O9);(iterate 11 (focus (first | (simp only[go_sem,Nat.reduceEqDiff,Nat.reduceAdd,Nat.reduceSub,Nat.reduceLeDiff,Nat.reduceMul,Nat.reduceBEq,Nat.reduceLT,Int.reduceToNat,reduceCtorEq,h2,hpn2];first | done | exact rfl | (and_intros<;>rfl)) | exact rfl | decide))))
    refine A0 trivial ?_
    (apply (Oc (0,0) (30,0) 5 (fun es' e' h=>hmk2 es' e' (fun hx=>h (by intro hh;exact hx (by simpa using hh))) (by omega)));(iterate 4 (focus (first | (simp only[go_sem,Nat.reduceEqDiff,Nat.reduceAdd,Nat.reduceSub,Nat.reduceLeDiff,Nat.reduceMul,Nat.reduceBEq,Nat.reduceLT,Int.reduceToNat,reduceCtorEq,h2,h52,hset',List.set_cons_zero,List.set_cons_succ];first | done | exact rfl | (and_intros<;>rfl)) | exact rfl | decide)));(focus (first | (intro _ _;exact rfl) | (intro _ _;simp only[go_sem,Nat.reduceEqDiff,Nat.reduceAdd,Nat.reduceSub,Nat.reduceLeDiff,Nat.reduceMul,Nat.reduceBEq,Nat.reduceLT,Int.reduceToNat,reduceCtorEq,h2,h52,hset',List.set_cons_zero,List.set_cons_succ];done)));(iterate 7 (focus (first | (simp only[go_sem,Nat.reduceEqDiff,Nat.reduceAdd,Nat.reduceSub,Nat.reduceLeDiff,Nat.reduceMul,Nat.reduceBEq,Nat.reduceLT,Int.reduceToNat,reduceCtorEq,h2,h52,hset',List.set_cons_zero,List.set_cons_succ];first | done | exact rfl | (and_intros<;>rfl)) | exact rfl | decide))))
    refine A0 hw ?_
    refine⟨k+1,by omega,by omega,?_⟩
    exact Aq (As.of [((0,0),(0,0))] []) (j2 hM1 hR3)
  ·have hdk:decide ((k:Int)<(l.length:Int))=false:=by simpa using hlt
   have hke:k=l.length:=by omega
   subst hke
   have hfin:Ee K l l.length=(Cb K l).map EditD.ox:=by simp[Ee]
   have htk:l.take l.length=l:=by simp
   rw[hfin,htk]
   rw[hfin]at hpl
   refine A0 (j2 hpl hdk) ?_
   exact A9 (A8 [((0,0),(0,0))] []) Tryz.results34 hdk
theorem I6 (l:List EditD) (K:Nat) (hK:K+C0 l≤3000000000) (hl:l.length≤1048576):AC Tryz.prog 35 [E9 (Cb K l),.c (.int .i64 K)] [] (.c (.int .i64 ((K+C0 l:Nat):Int))) []:=by
 have hln:((Cb K l).map EditD.cs).length=l.length:=by rw[List.length_map,DI]
 have hml:=DI l K
 have ht0:((K:Nat):Int)=((K+C0 (l.take 0):Nat):Int):=by simp[C0]
 refine A6 Tryz.func35 Tryz.ntmps35 ?_
 refine A0 trivial ?_
 refine AG (κ:=Nat) (fun k=>⟨mkS 0 40 [(0,E9 (Cb K l)),(1,.c (.int .i64 ((K+C0 (l.take k):Nat):Int))),(5,.c (.int .i64 k))],[]⟩)
  (fun k=>k≤l.length) (fun k=>l.length-k) 0 (Nat.zero_le _) ?_ ?_
 ·exact Aq (As.of [] []) ht0
 ·intro k hk
  by_cases hlt:k<l.length
  ·have hdk:decide ((k:Int)<(l.length:Int))=true:=by simpa using hlt
   have hw:=Ae (k:=k) (by omega)
   have htk:=Nj l hlt
   have hte:=SY l (k+1)
   obtain⟨M,hM⟩:∃M,M=K+C0 (l.take k):=⟨_,rfl⟩
   have hM1:K+C0 (l.take (k+1))=M+1+5*l[k].path.length+5*l[k].x.length:=by omega
   have hat:(Cb K l)[k]'(by rw[hml];exact hlt)=⟨M,BO (M+1) l[k].path.length,BO (M+1+5*l[k].path.length) l[k].x.length⟩:=by
    have hsp:l=l.take k++l[k]::l.drop (k+1):=by rw[←List.drop_eq_getElem_cons hlt,List.take_append_drop]
    have hmm:Cb K l=Cb K (l.take k)++Cb M (l[k]::l.drop (k+1)):=by
     conv=>lhs;rw[hsp]
     rw[FV,←hM]
    have hl2:(Cb K (l.take k)).length=k:=by rw[DI,List.length_take];omega
    have h3:(Cb K l)[k]? = some ⟨M,BO (M+1) l[k].path.length,BO (M+1+5*l[k].path.length) l[k].x.length⟩:=by
     rw[hmm,List.getElem?_append_right (by omega),hl2,Nat.sub_self]
     rfl
    exact (List.getElem?_eq_some_iff.1 h3).2
   obtain⟨hr0,hg0⟩:=IT (Cb K l) (k:=k) (by rw[hml];exact hlt)
   rw[hat]at hg0
   dsimp only at hg0
   rw[←hM]
   have w1:IntKind.i64.wrap ((M:Int)+1)=((M+1:Nat):Int):=by rw[IntWalk.i64_in _ (by omega)];omega
   have hc1:=IC l[k].path.length (M+1) (by omega)
   have hc2:=IC l[k].x.length (M+1+5*l[k].path.length) (by omega)
   have hne:((M:Int) != (M:Int))=false:=by simp
   have hn1:decide (((M+1+5*l[k].path.length:Nat):Int)<0)=false:=by simp;omega
   have hn2:decide (((M+1+5*l[k].path.length+5*l[k].x.length:Nat):Int)<0)=false:=by simp;omega
   generalize l[k]=d at *
   refine A0 (j6 hln hdk hr0 hg0 hne w1) ?_
   refine w7 (A3 [] hc1) trivial ?_
   refine A0 (j3 hn1 hr0 hg0) ?_
   refine w7 (A3 [] hc2) trivial ?_
   refine A0 (j2 hn2 hw) ?_
   refine⟨k+1,by omega,by omega,?_⟩
   exact Aq (As.of [] []) hM1
  ·have hdk:decide ((k:Int)<(l.length:Int))=false:=by simpa using hlt
   have hke:l.take k=l:=List.take_of_length_le (by omega)
   rw[hke]
   refine A0 (j2 hln hdk) ?_
   exact Am (A7 []) Tryz.results35
theorem Fu (c at1:Int) (l:List EditD) (hl:l.length≤1048576) (hx:∀d∈l,d.path.length≤9223372036854775807∧d.x.length≤9223372036854775807):AC Tryz.prog 9 [.agg [.c (.int .i64 c),.c (.int .i64 at1),.c (.sl (l.map EditD.cs))],.agg [.c (.int .i64 c),.c (.int .i64 at1),.c (.sl (l.map EditD.cs))]] [] (.c (.bool true)) []:=by
 have hne:(c != c)=false:=by simp
 have hna:(at1 != at1)=false:=by simp
 have he:=RJ l hl hx
 refine A6 Tryz.func9 Tryz.ntmps9 ?_
 refine A0 (j2 hne hna) ?_
 refine w7 (A3 [] he) trivial ?_
 refine A0 trivial ?_
 exact Am (A7 []) Tryz.results9
theorem Hi (c at1:Int) (l:List EditD) (K:Nat) (hK:K+C0 l≤3000000000) (hl:l.length≤1048576):AC Tryz.prog 11 [.agg [.c (.int .i64 c),.c (.int .i64 at1),.c (.sl ((Cb K l).map EditD.cs))],.c (.int .i64 K)] [] (.c (.int .i64 ((K+C0 l:Nat):Int))) []:=by
 have he:=I6 l K hK hl
 have hn0:decide (((K+C0 l:Nat):Int)<0)=false:=by simp;omega
 refine A6 Tryz.func11 Tryz.ntmps11 ?_
 refine A0 trivial ?_
 refine w7 (A3 [] he) trivial ?_
 refine A0 hn0 ?_
 exact Am (A7 []) Tryz.results11
theorem I4 (c at1:Int) (l:List EditD) (K:Nat) (e:TypeId) (hK:K+C0 l≤3000000000) (hl:l.length≤1048576) :
  AC Tryz.prog 10 [.agg [.c (.int .i64 c),.c (.int .i64 at1),.own (0,0)],.c (.int .i64 K)] [((0,0),.row true 3 e (l.map EditD.ox))] (.c (.int .i64 ((K+C0 l:Nat):Int))) [((0,0),.row true 3 e ((Cb K l).map EditD.ox))]:=by
 have he:=Ok l K e hK hl
 refine A6 Tryz.func10 Tryz.ntmps10 ?_
 refine A0 trivial ?_
 refine w9 (Ri (0,0) he) trivial ?_
 refine A0 trivial ?_
 exact A9 (A8 [((0,0),(0,0))] []) Tryz.results10 hl
theorem GO (c at1:Int) (K:Nat) (hK:K≤3000000000):AC Tryz.prog 11 [.agg [.c (.int .i64 c),.c (.int .i64 at1),.nils],.c (.int .i64 K)] [] (.c (.int .i64 K)) []:=by
 have he:=I6 [] K (by simp[C0];omega) (by simp)
 rw[show ((K+C0 []:Nat):Int)=(K:Int) from rfl]at he
 have hn0:decide ((K:Int)<0)=false:=by simp
 refine A6 Tryz.func11 Tryz.ntmps11 ?_
 refine A0 trivial ?_
 (apply (A3 [] he);(iterate 7 (focus (first | (simp only[go_sem,Nat.reduceEqDiff,Nat.reduceAdd,Nat.reduceSub,Nat.reduceLeDiff,Nat.reduceMul,Nat.reduceBEq,Nat.reduceLT,Int.reduceToNat,reduceCtorEq,List.map_nil,Cb];first | done | exact rfl | (and_intros<;>rfl)) | exact rfl | decide))))
 refine A0 hn0 ?_
 exact Am (A7 []) Tryz.results11
theorem Mh (K:Nat):AC Tryz.prog 34 [.nils,.c (.int .i64 K)] [] (.c (.int .i64 K)) []:=by
 have hd:decide ((0:Int)<0)=false:=rfl
 refine A6 Tryz.func34 Tryz.ntmps34 ?_
 refine A0 trivial ?_
 refine AG (κ:=Nat) (fun k=>⟨mkS 0 34 [(0,.nils),(1,.c (.int .i64 K)),(5,.c (.int .i64 0))],[]⟩)
  (fun _=>True) (fun k=>k) 0 trivial ?_ ?_
 ·exact Aq (As.of [] []) hd
 ·intro k hk
  refine A0 hd ?_
  exact Am (A7 []) Tryz.results34
theorem GQ (c at1:Int) (K:Nat):AC Tryz.prog 10 [.agg [.c (.int .i64 c),.c (.int .i64 at1),.nils],.c (.int .i64 K)] [] (.c (.int .i64 K)) []:=by
 have he:=Mh K
 refine A6 Tryz.func10 Tryz.ntmps10 ?_
 refine A0 trivial ?_
 refine w7 (A3 [] he) trivial ?_
 refine A0 trivial ?_
 exact Am (A7 []) Tryz.results10
end Go.Proofs.YtllfmaflodbieaaGreatDoor
