/- impl.pipeFit, impl.deadFit. Printed by gen_k31.py. -/
import Derived.Test.YtcejfdfmgmcinaaGreatKE43uK30
set_option linter.all false
set_option maxHeartbeats 8000000
namespace Go.Proofs.YtcejfdfmgmcinaaGreat
open Go.RowKit
set_option maxRecDepth 10000
theorem a2z {p:PT}(h3:p.d.op≠3):AC Tryz.prog 65 [p.av] [] (.tup [DA.av,.c (.bool false)]) []:=by
 have hI:=Br h3
 rw[CN]
 unfold PT.av at *
 generalize p.d=d,p.kids.map PT.cs=P at *
 refine A6 Tryz.func65 Tryz.ntmps65 q9 ?_
 refine v7 (A3 [] hI) q9 q9 ?_
 exact Ag (A5 []) Tryz.results65
theorem a49 {p a b:PT}(ho:p.d.op=3) (hk:p.kids=[a,b]) (h1:a.d.op=1):AC Tryz.prog 65 [p.av] [] (Iy (b,true)) []:=by
 have hI:=EE ho
 have ia1:=EE (p:=a) (op:=1) (by omega)
 have hr0:A8 (p.kids.map PT.cs) 7 0=true:=(Af hk (k:=0) (a:=a) rfl).1
 have hg0:=(Af hk (k:=0) (a:=a) rfl).2
 have hr1:A8 (p.kids.map PT.cs) 7 1=true:=(Af hk (k:=1) (a:=b) rfl).1
 have hg1:=(Af hk (k:=1) (a:=b) rfl).2
 show AC _ _ _ _ (.tup [b.av,.c (.bool true)]) _
 unfold PT.av at *
 generalize a.d=da,a.kids.map PT.cs=Pa,b.d=db,b.kids.map PT.cs=Pb,p.d=d,p.kids.map PT.cs=P at *
 refine A6 Tryz.func65 Tryz.ntmps65 q9 ?_
 refine v7 (A3 [] hI) q9 (j4 hr0 hg0 hr1 hg1) ?_
 refine v7 (A3 [] ia1) q9 q9 ?_
 exact Ag (A5 []) Tryz.results65
theorem a5a {p a b:PT}(ho:p.d.op=3) (hk:p.kids=[a,b]) (h1:a.d.op≠1) (h2:b.d.op=1):AC Tryz.prog 65 [p.av] [] (Iy (a,true)) []:=by
 have hI:=EE ho
 have ia1:=Br (p:=a) (op:=1) (by omega)
 have ib1:=EE (p:=b) (op:=1) (by omega)
 have hr0:A8 (p.kids.map PT.cs) 7 0=true:=(Af hk (k:=0) (a:=a) rfl).1
 have hg0:=(Af hk (k:=0) (a:=a) rfl).2
 have hr1:A8 (p.kids.map PT.cs) 7 1=true:=(Af hk (k:=1) (a:=b) rfl).1
 have hg1:=(Af hk (k:=1) (a:=b) rfl).2
 show AC _ _ _ _ (.tup [a.av,.c (.bool true)]) _
 unfold PT.av at *
 generalize a.d=da,a.kids.map PT.cs=Pa,b.d=db,b.kids.map PT.cs=Pb,p.d=d,p.kids.map PT.cs=P at *
 refine A6 Tryz.func65 Tryz.ntmps65 q9 ?_
 refine v7 (A3 [] hI) q9 (j4 hr0 hg0 hr1 hg1) ?_
 refine v7 (A3 [] ia1) q9 q9 ?_
 refine v7 (A3 [] ib1) q9 q9 ?_
 exact Ag (A5 []) Tryz.results65
theorem a5b {p a b:PT}(ho:p.d.op=3) (hk:p.kids=[a,b]) (h1:a.d.op≠1) (h2:b.d.op≠1) (h3:a.d.op=2) (h4:b.d.op=2):AC Tryz.prog 65 [p.av] [] (Iy (b,true)) []:=by
 have hI:=EE ho
 have ia1:=Br (p:=a) (op:=1) (by omega)
 have ib1:=Br (p:=b) (op:=1) (by omega)
 have ia2:=EE (p:=a) (op:=2) (by omega)
 have ib2:=EE (p:=b) (op:=2) (by omega)
 have hr0:A8 (p.kids.map PT.cs) 7 0=true:=(Af hk (k:=0) (a:=a) rfl).1
 have hg0:=(Af hk (k:=0) (a:=a) rfl).2
 have hr1:A8 (p.kids.map PT.cs) 7 1=true:=(Af hk (k:=1) (a:=b) rfl).1
 have hg1:=(Af hk (k:=1) (a:=b) rfl).2
 show AC _ _ _ _ (.tup [b.av,.c (.bool true)]) _
 unfold PT.av at *
 generalize a.d=da,a.kids.map PT.cs=Pa,b.d=db,b.kids.map PT.cs=Pb,p.d=d,p.kids.map PT.cs=P at *
 refine A6 Tryz.func65 Tryz.ntmps65 q9 ?_
 refine v7 (A3 [] hI) q9 (j4 hr0 hg0 hr1 hg1) ?_
 refine v7 (A3 [] ia1) q9 q9 ?_
 refine v7 (A3 [] ib1) q9 q9 ?_
 refine v7 (A3 [] ia2) q9 q9 ?_
 refine v7 (A3 [] ib2) q9 q9 ?_
 exact Ag (A5 []) Tryz.results65
theorem a5c {p a b:PT}(ho:p.d.op=3) (hk:p.kids=[a,b]) (h1:a.d.op≠1) (h2:b.d.op≠1) (h3:a.d.op≠2):AC Tryz.prog 65 [p.av] [] (.tup [DA.av,.c (.bool false)]) []:=by
 have hI:=EE ho
 have ia1:=Br (p:=a) (op:=1) (by omega)
 have ib1:=Br (p:=b) (op:=1) (by omega)
 have ia2:=Br (p:=a) (op:=2) (by omega)
 have hr0:A8 (p.kids.map PT.cs) 7 0=true:=(Af hk (k:=0) (a:=a) rfl).1
 have hg0:=(Af hk (k:=0) (a:=a) rfl).2
 have hr1:A8 (p.kids.map PT.cs) 7 1=true:=(Af hk (k:=1) (a:=b) rfl).1
 have hg1:=(Af hk (k:=1) (a:=b) rfl).2
 rw[CN]
 unfold PT.av at *
 generalize a.d=da,a.kids.map PT.cs=Pa,b.d=db,b.kids.map PT.cs=Pb,p.d=d,p.kids.map PT.cs=P at *
 refine A6 Tryz.func65 Tryz.ntmps65 q9 ?_
 refine v7 (A3 [] hI) q9 (j4 hr0 hg0 hr1 hg1) ?_
 refine v7 (A3 [] ia1) q9 q9 ?_
 refine v7 (A3 [] ib1) q9 q9 ?_
 refine v7 (A3 [] ia2) q9 q9 ?_
 refine v7 (A3 [] ia2) q9 q9 ?_
 exact Ag (A5 []) Tryz.results65
theorem a5d {p a b:PT}(ho:p.d.op=3) (hk:p.kids=[a,b]) (h1:a.d.op≠1) (h2:b.d.op≠1) (h3:a.d.op=2) (h4:b.d.op≠2) (h5:b.d.op≠16):AC Tryz.prog 65 [p.av] [] (.tup [DA.av,.c (.bool false)]) []:=by
 have hI:=EE ho
 have ia1:=Br (p:=a) (op:=1) (by omega)
 have ib1:=Br (p:=b) (op:=1) (by omega)
 have ia2:=EE (p:=a) (op:=2) (by omega)
 have ib2:=Br (p:=b) (op:=2) (by omega)
 have ib16:=Br (p:=b) (op:=16) (by omega)
 have hr0:A8 (p.kids.map PT.cs) 7 0=true:=(Af hk (k:=0) (a:=a) rfl).1
 have hg0:=(Af hk (k:=0) (a:=a) rfl).2
 have hr1:A8 (p.kids.map PT.cs) 7 1=true:=(Af hk (k:=1) (a:=b) rfl).1
 have hg1:=(Af hk (k:=1) (a:=b) rfl).2
 rw[CN]
 unfold PT.av at *
 generalize a.d=da,a.kids.map PT.cs=Pa,b.d=db,b.kids.map PT.cs=Pb,p.d=d,p.kids.map PT.cs=P at *
 refine A6 Tryz.func65 Tryz.ntmps65 q9 ?_
 refine v7 (A3 [] hI) q9 (j4 hr0 hg0 hr1 hg1) ?_
 refine v7 (A3 [] ia1) q9 q9 ?_
 refine v7 (A3 [] ib1) q9 q9 ?_
 refine v7 (A3 [] ia2) q9 q9 ?_
 refine v7 (A3 [] ib2) q9 q9 ?_
 refine v7 (A3 [] ia2) q9 q9 ?_
 refine v7 (A3 [] ib16) q9 q9 ?_
 exact Ag (A5 []) Tryz.results65
theorem YN {p a b:PT}(ho:p.d.op=3) (hk:p.kids=[a,b]) (h1:a.d.op=2) (h2:b.d.op=16) {v:V}(hv:v.right) (hav:a.d.val=v.enc):AC Tryz.prog 65 [p.av] [] (Iy (DN (C8 b.d.num v))) []:=by
 have hI:=EE ho
 have ia1:=Br (p:=a) (op:=1) (by omega)
 have ib1:=Br (p:=b) (op:=1) (by omega)
 have ia2:=EE (p:=a) (op:=2) (by omega)
 have ib2:=Br (p:=b) (op:=2) (by omega)
 have ib16:=EE (p:=b) (op:=16) (by omega)
 have hr0:A8 (p.kids.map PT.cs) 7 0=true:=(Af hk (k:=0) (a:=a) rfl).1
 have hg0:=(Af hk (k:=0) (a:=a) rfl).2
 have hr1:A8 (p.kids.map PT.cs) 7 1=true:=(Af hk (k:=1) (a:=b) rfl).1
 have hg1:=(Af hk (k:=1) (a:=b) rfl).2
 have hca:=BC a hv hav
 have hop:=Yz b.d.num hv
 have hok:CH (C8 b.d.num v):=Gm _ hv
 have hf:=H7 hok
 obtain⟨rc,rw,hrw⟩:=Gr (C8 b.d.num v)
 obtain⟨q,b',hqb⟩:∃q b',DN (C8 b.d.num v)=(q,b'):=⟨_,_,rfl⟩
 rw[hrw]at hop hf
 rw[hqb]at hf ⊢
 replace hf:AC Tryz.prog 120 [D7 rc rw] [] (.tup [q.av,.c (.bool b')]) []:=hf
 show AC _ _ _ _ (.tup [q.av,.c (.bool b')]) _
 clear hrw hqb hok
 unfold D7 at hf hop
 unfold V.av at *
 unfold PT.av at *
 generalize a.d=da,a.kids.map PT.cs=Pa,b.d=db,b.kids.map PT.cs=Pb,q.d=dq,q.kids.map PT.cs=Pq,p.d=d,p.kids.map PT.cs=P at *
 refine A6 Tryz.func65 Tryz.ntmps65 q9 ?_
 refine v7 (A3 [] hI) q9 (j4 hr0 hg0 hr1 hg1) ?_
 refine v7 (A3 [] ia1) q9 q9 ?_
 refine v7 (A3 [] ib1) q9 q9 ?_
 refine v7 (A3 [] ia2) q9 q9 ?_
 refine v7 (A3 [] ib2) q9 q9 ?_
 refine v7 (A3 [] ia2) q9 q9 ?_
 refine v7 (A3 [] ib16) q9 q9 ?_
 refine v9 (A4 [] hca) q9 q9 ?_
 refine v9 (A4 [] hop) q9 q9 ?_
 refine v9 (A4 [] hf) q9 q9 ?_
 exact Ag (A5 []) Tryz.results65
theorem Gd:Da.av=.agg [.c (.int .i64 17),.c (.int .i64 0),.c (.int .i64 0),.c (.int .i64 0),.c (.int .i64 0),.c (.sl []),.c (.sl [])]:=rfl
theorem Xz {p:PT}(ho:p.d.op=1∨p.d.op=2∨p.d.op=15∨p.d.op=16∨p.d.op=17) (hk:p.kids=[]):AC Tryz.prog 74 [p.av] [] (.tup [DA.av,.c (.bool false)]) []:=by
 have hln:(p.kids.map PT.cs).length=0:=by rw[hk];rfl
 have hg:decide (((0:Nat):Int)>0)=false:=rfl
 have hgg:decide (((0:Nat):Int)>1)=false:=rfl
 rw[CN]
 unfold PT.av at *
 generalize p.d=d,p.kids.map PT.cs=P at *
 rcases ho with ho | ho | ho | ho | ho
 all_goals
  rw[ho]
  refine AA Tryz.func74 Tryz.ntmps74 ?_
  refine Aq (j3 hln hg hgg) ?_
  exact Ag (A5 []) Tryz.results74
theorem ZP {p a:PT}(ho:p.d.op=8∨p.d.op=9) (hk:p.kids=[a]) {f:Bool}(hf:(a.d.op==17)=f):AC Tryz.prog 74 [p.av] [] (.tup [Da.av,.c (.bool f)]) []:=by
 have hln:(p.kids.map PT.cs).length=1:=by rw[hk];rfl
 have hg:decide (((1:Nat):Int)>0)=true:=rfl
 have hgg:decide (((1:Nat):Int)>1)=false:=rfl
 have hr0:A8 (p.kids.map PT.cs) 7 0=true:=(Af hk (k:=0) (a:=a) rfl).1
 have hg0:=(Af hk (k:=0) (a:=a) rfl).2
 have ha:=B1 a 17
 rw[hf]at ha
 rw[Gd]
 unfold PT.av at *
 generalize a.d=da,a.kids.map PT.cs=Pa,p.d=d,p.kids.map PT.cs=P at *
 rcases ho with ho | ho
 all_goals
  rw[ho]
  refine AA Tryz.func74 Tryz.ntmps74 ?_
  refine Aq (j5 hln hg hgg hr0 hg0) ?_
  refine w7 (A3 [] ha) q9 ?_
  refine Aq (j5 hln hg hgg hr0 hg0) ?_
  exact Ag (A5 []) Tryz.results74
theorem a1z {p a:PT}(ho:p.d.op=10) (hk:p.kids=[a]) {f:Bool}(hf:(a.d.op==17)=f):AC Tryz.prog 74 [p.av] [] (.tup [DA.av,.c (.bool false)]) []:=by
 have hln:(p.kids.map PT.cs).length=1:=by rw[hk];rfl
 have hg:decide (((1:Nat):Int)>0)=true:=rfl
 have hgg:decide (((1:Nat):Int)>1)=false:=rfl
 have hr0:A8 (p.kids.map PT.cs) 7 0=true:=(Af hk (k:=0) (a:=a) rfl).1
 have hg0:=(Af hk (k:=0) (a:=a) rfl).2
 have ha:=B1 a 17
 rw[hf]at ha
 rw[CN]
 unfold PT.av at *
 generalize a.d=da,a.kids.map PT.cs=Pa,p.d=d,p.kids.map PT.cs=P at *
 rw[ho]
 refine AA Tryz.func74 Tryz.ntmps74 ?_
 refine Aq (j5 hln hg hgg hr0 hg0) ?_
 refine w7 (A3 [] ha) q9 ?_
 refine Aq (j5 hln hg hgg hr0 hg0) ?_
 exact Ag (A5 []) Tryz.results74
theorem ZQ {p a b:PT}(ho:p.d.op=3∨p.d.op=7∨p.d.op=11∨p.d.op=14) (hk:p.kids=[a,b]) {f:Bool}{s:Bool}(hf:(a.d.op==17)=f) (hs:(b.d.op==17)=s):AC Tryz.prog 74 [p.av] [] (.tup [Da.av,.c (.bool f)]) []:=by
 have hln:(p.kids.map PT.cs).length=2:=by rw[hk];rfl
 have hg:decide (((2:Nat):Int)>0)=true:=rfl
 have hgg:decide (((2:Nat):Int)>1)=true:=rfl
 have hr0:A8 (p.kids.map PT.cs) 7 0=true:=(Af hk (k:=0) (a:=a) rfl).1
 have hg0:=(Af hk (k:=0) (a:=a) rfl).2
 have ha:=B1 a 17
 rw[hf]at ha
 have hr1:A8 (p.kids.map PT.cs) 7 1=true:=(Af hk (k:=1) (a:=b) rfl).1
 have hg1:=(Af hk (k:=1) (a:=b) rfl).2
 have hb:=B1 b 17
 rw[hs]at hb
 rw[Gd]
 unfold PT.av at *
 generalize a.d=da,a.kids.map PT.cs=Pa,b.d=db,b.kids.map PT.cs=Pb,p.d=d,p.kids.map PT.cs=P at *
 rcases ho with ho | ho | ho | ho
 all_goals
  rw[ho]
  refine AA Tryz.func74 Tryz.ntmps74 ?_
  refine Aq (j7 hln hg hgg hr0 hg0 hr1 hg1) ?_
  refine w7 (A3 [] ha) q9 ?_
  refine Aq (j7 hln hg hgg hr0 hg0 hr1 hg1) ?_
  refine w7 (A3 [] hb) q9 ?_
  refine Aq (j7 hln hg hgg hr0 hg0 hr1 hg1) ?_
  exact Ag (A5 []) Tryz.results74
theorem a4c {p a b:PT}(ho:p.d.op=6) (hk:p.kids=[a,b]) {f:Bool}{s:Bool}(hf:(a.d.op==17)=f) (hs:(b.d.op==17)=s):AC Tryz.prog 74 [p.av] [] (.tup [Da.av,.c (.bool s)]) []:=by
 have hln:(p.kids.map PT.cs).length=2:=by rw[hk];rfl
 have hg:decide (((2:Nat):Int)>0)=true:=rfl
 have hgg:decide (((2:Nat):Int)>1)=true:=rfl
 have hr0:A8 (p.kids.map PT.cs) 7 0=true:=(Af hk (k:=0) (a:=a) rfl).1
 have hg0:=(Af hk (k:=0) (a:=a) rfl).2
 have ha:=B1 a 17
 rw[hf]at ha
 have hr1:A8 (p.kids.map PT.cs) 7 1=true:=(Af hk (k:=1) (a:=b) rfl).1
 have hg1:=(Af hk (k:=1) (a:=b) rfl).2
 have hb:=B1 b 17
 rw[hs]at hb
 rw[Gd]
 unfold PT.av at *
 generalize a.d=da,a.kids.map PT.cs=Pa,b.d=db,b.kids.map PT.cs=Pb,p.d=d,p.kids.map PT.cs=P at *
 rw[ho]
 refine AA Tryz.func74 Tryz.ntmps74 ?_
 refine Aq (j7 hln hg hgg hr0 hg0 hr1 hg1) ?_
 refine w7 (A3 [] ha) q9 ?_
 refine Aq (j7 hln hg hgg hr0 hg0 hr1 hg1) ?_
 refine w7 (A3 [] hb) q9 ?_
 refine Aq (j7 hln hg hgg hr0 hg0 hr1 hg1) ?_
 exact Ag (A5 []) Tryz.results74
theorem Sq {p a b:PT}(ho:p.d.op=4) (hk:p.kids=[a,b]) {s:Bool}(hf:(a.d.op==17)=true) (hs:(b.d.op==17)=s):AC Tryz.prog 74 [p.av] [] (.tup [b.av,.c (.bool true)]) []:=by
 have hln:(p.kids.map PT.cs).length=2:=by rw[hk];rfl
 have hg:decide (((2:Nat):Int)>0)=true:=rfl
 have hgg:decide (((2:Nat):Int)>1)=true:=rfl
 have hr0:A8 (p.kids.map PT.cs) 7 0=true:=(Af hk (k:=0) (a:=a) rfl).1
 have hg0:=(Af hk (k:=0) (a:=a) rfl).2
 have ha:=B1 a 17
 rw[hf]at ha
 have hr1:A8 (p.kids.map PT.cs) 7 1=true:=(Af hk (k:=1) (a:=b) rfl).1
 have hg1:=(Af hk (k:=1) (a:=b) rfl).2
 have hb:=B1 b 17
 rw[hs]at hb
 unfold PT.av at *
 generalize a.d=da,a.kids.map PT.cs=Pa,b.d=db,b.kids.map PT.cs=Pb,p.d=d,p.kids.map PT.cs=P at *
 rw[ho]
 refine AA Tryz.func74 Tryz.ntmps74 ?_
 refine Aq (j7 hln hg hgg hr0 hg0 hr1 hg1) ?_
 refine w7 (A3 [] ha) q9 ?_
 refine Aq (j7 hln hg hgg hr0 hg0 hr1 hg1) ?_
 refine w7 (A3 [] hb) q9 ?_
 refine Aq (j7 hln hg hgg hr0 hg0 hr1 hg1) ?_
 exact Ag (A5 []) Tryz.results74
theorem QK {p a b:PT}(ho:p.d.op=4) (hk:p.kids=[a,b]) {s:Bool}(hf:(a.d.op==17)=false) (hs:(b.d.op==17)=s):AC Tryz.prog 74 [p.av] [] (.tup [a.av,.c (.bool s)]) []:=by
 have hln:(p.kids.map PT.cs).length=2:=by rw[hk];rfl
 have hg:decide (((2:Nat):Int)>0)=true:=rfl
 have hgg:decide (((2:Nat):Int)>1)=true:=rfl
 have hr0:A8 (p.kids.map PT.cs) 7 0=true:=(Af hk (k:=0) (a:=a) rfl).1
 have hg0:=(Af hk (k:=0) (a:=a) rfl).2
 have ha:=B1 a 17
 rw[hf]at ha
 have hr1:A8 (p.kids.map PT.cs) 7 1=true:=(Af hk (k:=1) (a:=b) rfl).1
 have hg1:=(Af hk (k:=1) (a:=b) rfl).2
 have hb:=B1 b 17
 rw[hs]at hb
 unfold PT.av at *
 generalize a.d=da,a.kids.map PT.cs=Pa,b.d=db,b.kids.map PT.cs=Pb,p.d=d,p.kids.map PT.cs=P at *
 rw[ho]
 refine AA Tryz.func74 Tryz.ntmps74 ?_
 refine Aq (j7 hln hg hgg hr0 hg0 hr1 hg1) ?_
 refine w7 (A3 [] ha) q9 ?_
 refine Aq (j7 hln hg hgg hr0 hg0 hr1 hg1) ?_
 refine w7 (A3 [] hb) q9 ?_
 refine Aq (j7 hln hg hgg hr0 hg0 hr1 hg1) ?_
 exact Ag (A5 []) Tryz.results74
theorem a10 {p a b c:PT}(ho:p.d.op=12) (hk:p.kids=[a,b,c]) {f:Bool}{s:Bool}(hf:(a.d.op==17)=f) (hs:(b.d.op==17)=s):AC Tryz.prog 74 [p.av] [] (.tup [Da.av,.c (.bool f)]) []:=by
 have hln:(p.kids.map PT.cs).length=3:=by rw[hk];rfl
 have hg:decide (((3:Nat):Int)>0)=true:=rfl
 have hgg:decide (((3:Nat):Int)>1)=true:=rfl
 have hr0:A8 (p.kids.map PT.cs) 7 0=true:=(Af hk (k:=0) (a:=a) rfl).1
 have hg0:=(Af hk (k:=0) (a:=a) rfl).2
 have ha:=B1 a 17
 rw[hf]at ha
 have hr1:A8 (p.kids.map PT.cs) 7 1=true:=(Af hk (k:=1) (a:=b) rfl).1
 have hg1:=(Af hk (k:=1) (a:=b) rfl).2
 have hb:=B1 b 17
 rw[hs]at hb
 rw[Gd]
 unfold PT.av at *
 generalize a.d=da,a.kids.map PT.cs=Pa,b.d=db,b.kids.map PT.cs=Pb,c.d=dc,c.kids.map PT.cs=Pc,p.d=d,p.kids.map PT.cs=P at *
 rw[ho]
 refine AA Tryz.func74 Tryz.ntmps74 ?_
 refine Aq (j7 hln hg hgg hr0 hg0 hr1 hg1) ?_
 refine w7 (A3 [] ha) q9 ?_
 refine Aq (j7 hln hg hgg hr0 hg0 hr1 hg1) ?_
 refine w7 (A3 [] hb) q9 ?_
 refine Aq (j7 hln hg hgg hr0 hg0 hr1 hg1) ?_
 exact Ag (A5 []) Tryz.results74
theorem a11 {p a b c:PT}(ho:p.d.op=13) (hk:p.kids=[a,b,c]) {f:Bool}{s:Bool}(hf:(a.d.op==17)=f) (hs:(b.d.op==17)=s):AC Tryz.prog 74 [p.av] [] (.tup [Da.av,.c (.bool s)]) []:=by
 have hln:(p.kids.map PT.cs).length=3:=by rw[hk];rfl
 have hg:decide (((3:Nat):Int)>0)=true:=rfl
 have hgg:decide (((3:Nat):Int)>1)=true:=rfl
 have hr0:A8 (p.kids.map PT.cs) 7 0=true:=(Af hk (k:=0) (a:=a) rfl).1
 have hg0:=(Af hk (k:=0) (a:=a) rfl).2
 have ha:=B1 a 17
 rw[hf]at ha
 have hr1:A8 (p.kids.map PT.cs) 7 1=true:=(Af hk (k:=1) (a:=b) rfl).1
 have hg1:=(Af hk (k:=1) (a:=b) rfl).2
 have hb:=B1 b 17
 rw[hs]at hb
 rw[Gd]
 unfold PT.av at *
 generalize a.d=da,a.kids.map PT.cs=Pa,b.d=db,b.kids.map PT.cs=Pb,c.d=dc,c.kids.map PT.cs=Pc,p.d=d,p.kids.map PT.cs=P at *
 rw[ho]
 refine AA Tryz.func74 Tryz.ntmps74 ?_
 refine Aq (j7 hln hg hgg hr0 hg0 hr1 hg1) ?_
 refine w7 (A3 [] ha) q9 ?_
 refine Aq (j7 hln hg hgg hr0 hg0 hr1 hg1) ?_
 refine w7 (A3 [] hb) q9 ?_
 refine Aq (j7 hln hg hgg hr0 hg0 hr1 hg1) ?_
 exact Ag (A5 []) Tryz.results74
theorem QL {p a b:PT}(ho:p.d.op=5) (hk:p.kids=[a,b]) {s:Bool}(hf:(a.d.op==17)=true) (hs:(b.d.op==17)=s) (c2:a.d.op≠2):AC Tryz.prog 74 [p.av] [] (.tup [b.av,.c (.bool true)]) []:=by
 have hln:(p.kids.map PT.cs).length=2:=by rw[hk];rfl
 have hg:decide (((2:Nat):Int)>0)=true:=rfl
 have hgg:decide (((2:Nat):Int)>1)=true:=rfl
 have hr0:A8 (p.kids.map PT.cs) 7 0=true:=(Af hk (k:=0) (a:=a) rfl).1
 have hg0:=(Af hk (k:=0) (a:=a) rfl).2
 have ha:=B1 a 17
 rw[hf]at ha
 have hr1:A8 (p.kids.map PT.cs) 7 1=true:=(Af hk (k:=1) (a:=b) rfl).1
 have hg1:=(Af hk (k:=1) (a:=b) rfl).2
 have hb:=B1 b 17
 rw[hs]at hb
 have h2:=Br (p:=a) (op:=2) c2
 unfold PT.av at *
 generalize a.d=da,a.kids.map PT.cs=Pa,b.d=db,b.kids.map PT.cs=Pb,p.d=d,p.kids.map PT.cs=P at *
 rw[ho]
 refine AA Tryz.func74 Tryz.ntmps74 ?_
 refine Aq (j7 hln hg hgg hr0 hg0 hr1 hg1) ?_
 refine w7 (A3 [] ha) q9 ?_
 refine Aq (j7 hln hg hgg hr0 hg0 hr1 hg1) ?_
 refine w7 (A3 [] hb) q9 ?_
 refine Aq (j7 hln hg hgg hr0 hg0 hr1 hg1) ?_
 refine w7 (A3 [] h2) q9 ?_
 refine Aq (j7 hln hg hgg hr0 hg0 hr1 hg1) ?_
 exact Ag (A5 []) Tryz.results74
theorem Uy {p a b:PT}(ho:p.d.op=5) (hk:p.kids=[a,b]) {s:Bool}(hf:(a.d.op==17)=false) (hs:(b.d.op==17)=s) (c2:a.d.op≠2):AC Tryz.prog 74 [p.av] [] (.tup [b.av,.c (.bool false)]) []:=by
 have hln:(p.kids.map PT.cs).length=2:=by rw[hk];rfl
 have hg:decide (((2:Nat):Int)>0)=true:=rfl
 have hgg:decide (((2:Nat):Int)>1)=true:=rfl
 have hr0:A8 (p.kids.map PT.cs) 7 0=true:=(Af hk (k:=0) (a:=a) rfl).1
 have hg0:=(Af hk (k:=0) (a:=a) rfl).2
 have ha:=B1 a 17
 rw[hf]at ha
 have hr1:A8 (p.kids.map PT.cs) 7 1=true:=(Af hk (k:=1) (a:=b) rfl).1
 have hg1:=(Af hk (k:=1) (a:=b) rfl).2
 have hb:=B1 b 17
 rw[hs]at hb
 have h2:=Br (p:=a) (op:=2) c2
 unfold PT.av at *
 generalize a.d=da,a.kids.map PT.cs=Pa,b.d=db,b.kids.map PT.cs=Pb,p.d=d,p.kids.map PT.cs=P at *
 rw[ho]
 refine AA Tryz.func74 Tryz.ntmps74 ?_
 refine Aq (j7 hln hg hgg hr0 hg0 hr1 hg1) ?_
 refine w7 (A3 [] ha) q9 ?_
 refine Aq (j7 hln hg hgg hr0 hg0 hr1 hg1) ?_
 refine w7 (A3 [] hb) q9 ?_
 refine Aq (j7 hln hg hgg hr0 hg0 hr1 hg1) ?_
 refine w7 (A3 [] h2) q9 ?_
 refine Aq (j7 hln hg hgg hr0 hg0 hr1 hg1) ?_
 refine w7 (A3 [] h2) q9 ?_
 refine Aq (j7 hln hg hgg hr0 hg0 hr1 hg1) ?_
 exact Ag (A5 []) Tryz.results74
theorem Sr {p a b:PT}(ho:p.d.op=5) (hk:p.kids=[a,b]) {s:Bool}(hf:(a.d.op==17)=false) (hs:(b.d.op==17)=s) (c2:a.d.op=2) {v:V}(hv:v.right) (hav:a.d.val=v.enc) (htr:CE v=true):AC Tryz.prog 74 [p.av] [] (.tup [a.av,.c (.bool true)]) []:=by
 have hln:(p.kids.map PT.cs).length=2:=by rw[hk];rfl
 have hg:decide (((2:Nat):Int)>0)=true:=rfl
 have hgg:decide (((2:Nat):Int)>1)=true:=rfl
 have hr0:A8 (p.kids.map PT.cs) 7 0=true:=(Af hk (k:=0) (a:=a) rfl).1
 have hg0:=(Af hk (k:=0) (a:=a) rfl).2
 have ha:=B1 a 17
 rw[hf]at ha
 have hr1:A8 (p.kids.map PT.cs) 7 1=true:=(Af hk (k:=1) (a:=b) rfl).1
 have hg1:=(Af hk (k:=1) (a:=b) rfl).2
 have hb:=B1 b 17
 rw[hs]at hb
 have h2:=EE (p:=a) (op:=2) c2
 have hca:=BC a hv hav
 have htv:=Jv v
 rw[htr]at htv
 unfold V.av at *
 unfold PT.av at *
 generalize a.d=da,a.kids.map PT.cs=Pa,b.d=db,b.kids.map PT.cs=Pb,p.d=d,p.kids.map PT.cs=P at *
 rw[ho]
 refine AA Tryz.func74 Tryz.ntmps74 ?_
 refine Aq (j7 hln hg hgg hr0 hg0 hr1 hg1) ?_
 refine w7 (A3 [] ha) q9 ?_
 refine Aq (j7 hln hg hgg hr0 hg0 hr1 hg1) ?_
 refine w7 (A3 [] hb) q9 ?_
 refine Aq (j7 hln hg hgg hr0 hg0 hr1 hg1) ?_
 refine w7 (A3 [] h2) q9 ?_
 refine Aq (j7 hln hg hgg hr0 hg0 hr1 hg1) ?_
 refine v9 (A4 [] hca) q9 q9 ?_
 refine w7 (A3 [] htv) q9 ?_
 refine Aq (j7 hln hg hgg hr0 hg0 hr1 hg1) ?_
 exact Ag (A5 []) Tryz.results74
theorem QM {p a b:PT}(ho:p.d.op=5) (hk:p.kids=[a,b]) {s:Bool}(hf:(a.d.op==17)=false) (hs:(b.d.op==17)=s) (c2:a.d.op=2) {v:V}(hv:v.right) (hav:a.d.val=v.enc) (htr:CE v=false):AC Tryz.prog 74 [p.av] [] (.tup [b.av,.c (.bool true)]) []:=by
 have hln:(p.kids.map PT.cs).length=2:=by rw[hk];rfl
 have hg:decide (((2:Nat):Int)>0)=true:=rfl
 have hgg:decide (((2:Nat):Int)>1)=true:=rfl
 have hr0:A8 (p.kids.map PT.cs) 7 0=true:=(Af hk (k:=0) (a:=a) rfl).1
 have hg0:=(Af hk (k:=0) (a:=a) rfl).2
 have ha:=B1 a 17
 rw[hf]at ha
 have hr1:A8 (p.kids.map PT.cs) 7 1=true:=(Af hk (k:=1) (a:=b) rfl).1
 have hg1:=(Af hk (k:=1) (a:=b) rfl).2
 have hb:=B1 b 17
 rw[hs]at hb
 have h2:=EE (p:=a) (op:=2) c2
 have hca:=BC a hv hav
 have htv:=Jv v
 rw[htr]at htv
 unfold V.av at *
 unfold PT.av at *
 generalize a.d=da,a.kids.map PT.cs=Pa,b.d=db,b.kids.map PT.cs=Pb,p.d=d,p.kids.map PT.cs=P at *
 rw[ho]
 refine AA Tryz.func74 Tryz.ntmps74 ?_
 refine Aq (j7 hln hg hgg hr0 hg0 hr1 hg1) ?_
 refine w7 (A3 [] ha) q9 ?_
 refine Aq (j7 hln hg hgg hr0 hg0 hr1 hg1) ?_
 refine w7 (A3 [] hb) q9 ?_
 refine Aq (j7 hln hg hgg hr0 hg0 hr1 hg1) ?_
 refine w7 (A3 [] h2) q9 ?_
 refine Aq (j7 hln hg hgg hr0 hg0 hr1 hg1) ?_
 refine v9 (A4 [] hca) q9 q9 ?_
 refine w7 (A3 [] htv) q9 ?_
 refine Aq (j7 hln hg hgg hr0 hg0 hr1 hg1) ?_
 refine w7 (A3 [] h2) q9 ?_
 refine Aq (j7 hln hg hgg hr0 hg0 hr1 hg1) ?_
 exact Ag (A5 []) Tryz.results74
end Go.Proofs.YtcejfdfmgmcinaaGreat
