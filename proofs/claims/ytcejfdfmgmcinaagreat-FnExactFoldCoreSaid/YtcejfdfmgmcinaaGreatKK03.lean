/- What the reference and the program ask of one node of a core: how many nodes it names, what it may hold. Printed by gen_k03.py. -/
import Derived.Test.YtcejfdfmgmcinaaGreatKK02
import Derived.Test.YtcejfdfmgmcinaaGreatKM62uM63
set_option linter.all false
namespace Go.Proofs.YtcejfdfmgmcinaaGreat
open Go.RowKit
set_option maxRecDepth 10000
theorem Bh {a b:Int}(h:a≠b):(a==b)=false:=beq_eq_false_iff_ne.2 h
theorem Js {a b:Int}(h:a=b):(a != b)=false:=by simp[h]
theorem Ek {a b:Int}(h:a≠b):(a != b)=true:=by simp[h]
theorem BL {a b:Int}(h:a=b):(a==b)=true:=by simp[h]
theorem Rq {op:Int}(h1:1≤op) (h2:op≤17):op=1∨op=2∨op=3∨op=4∨op=5∨op=6∨op=7∨op=8∨op=9∨op=10∨op=11∨op=12∨op=13∨op=14∨op=15∨op=16∨op=17:=by omega
theorem FY (op:Int) (h1:1≤op) (h2:op≤17):AC Tryz.prog 133 [.c (.int .i64 op)] [] (.c (.int .i64 (Au op:Nat))) []:=by
 rcases Rq h1 h2 with rfl | rfl | rfl | rfl | rfl | rfl | rfl | rfl | rfl | rfl | rfl | rfl | rfl | rfl | rfl | rfl | rfl
 ·show AC _ _ _ _ (.c (.int .i64 0)) _
  refine A7 Tryz.func133 Tryz.ntmps133 ?_
  refine Ac q9 ?_
  exact Ad (A6 []) Tryz.results133
 ·show AC _ _ _ _ (.c (.int .i64 0)) _
  refine A7 Tryz.func133 Tryz.ntmps133 ?_
  refine Ac q9 ?_
  exact Ad (A6 []) Tryz.results133
 ·show AC _ _ _ _ (.c (.int .i64 2)) _
  refine A7 Tryz.func133 Tryz.ntmps133 ?_
  refine Ac q9 ?_
  exact Ad (A6 []) Tryz.results133
 ·show AC _ _ _ _ (.c (.int .i64 2)) _
  refine A7 Tryz.func133 Tryz.ntmps133 ?_
  refine Ac q9 ?_
  exact Ad (A6 []) Tryz.results133
 ·show AC _ _ _ _ (.c (.int .i64 2)) _
  refine A7 Tryz.func133 Tryz.ntmps133 ?_
  refine Ac q9 ?_
  exact Ad (A6 []) Tryz.results133
 ·show AC _ _ _ _ (.c (.int .i64 2)) _
  refine A7 Tryz.func133 Tryz.ntmps133 ?_
  refine Ac q9 ?_
  exact Ad (A6 []) Tryz.results133
 ·show AC _ _ _ _ (.c (.int .i64 2)) _
  refine A7 Tryz.func133 Tryz.ntmps133 ?_
  refine Ac q9 ?_
  exact Ad (A6 []) Tryz.results133
 ·show AC _ _ _ _ (.c (.int .i64 1)) _
  refine A7 Tryz.func133 Tryz.ntmps133 ?_
  refine Ac q9 ?_
  exact Ad (A6 []) Tryz.results133
 ·show AC _ _ _ _ (.c (.int .i64 1)) _
  refine A7 Tryz.func133 Tryz.ntmps133 ?_
  refine Ac q9 ?_
  exact Ad (A6 []) Tryz.results133
 ·show AC _ _ _ _ (.c (.int .i64 1)) _
  refine A7 Tryz.func133 Tryz.ntmps133 ?_
  refine Ac q9 ?_
  exact Ad (A6 []) Tryz.results133
 ·show AC _ _ _ _ (.c (.int .i64 2)) _
  refine A7 Tryz.func133 Tryz.ntmps133 ?_
  refine Ac q9 ?_
  exact Ad (A6 []) Tryz.results133
 ·show AC _ _ _ _ (.c (.int .i64 3)) _
  refine A7 Tryz.func133 Tryz.ntmps133 ?_
  refine Ac q9 ?_
  exact Ad (A6 []) Tryz.results133
 ·show AC _ _ _ _ (.c (.int .i64 3)) _
  refine A7 Tryz.func133 Tryz.ntmps133 ?_
  refine Ac q9 ?_
  exact Ad (A6 []) Tryz.results133
 ·show AC _ _ _ _ (.c (.int .i64 2)) _
  refine A7 Tryz.func133 Tryz.ntmps133 ?_
  refine Ac q9 ?_
  exact Ad (A6 []) Tryz.results133
 ·show AC _ _ _ _ (.c (.int .i64 0)) _
  refine A7 Tryz.func133 Tryz.ntmps133 ?_
  refine Ac q9 ?_
  exact Ad (A6 []) Tryz.results133
 ·show AC _ _ _ _ (.c (.int .i64 0)) _
  refine A7 Tryz.func133 Tryz.ntmps133 ?_
  refine Ac q9 ?_
  exact Ad (A6 []) Tryz.results133
 ·show AC _ _ _ _ (.c (.int .i64 0)) _
  refine A7 Tryz.func133 Tryz.ntmps133 ?_
  refine Ac q9 ?_
  exact Ad (A6 []) Tryz.results133
def CoD.kid (d:CoD) (k:Nat):Int:=if k=0 then d.a else if k=1 then d.b else d.c
theorem IK (d:CoD) (k:Nat) (hk:k<3):AC Tryz.prog 135 [d.av,.c (.int .i64 k)] [] (.c (.int .i64 (d.kid k))) []:=by
 have q0:(((0:Nat):Int)==0)=true:=rfl
 have q1:(((1:Nat):Int)==0)=false:=rfl
 have q2:(((2:Nat):Int)==0)=false:=rfl
 have q3:(((1:Nat):Int)==1)=true:=rfl
 have q4:(((2:Nat):Int)==1)=false:=rfl
 have:k=0∨k=1∨k=2:=by omega
 rcases this with rfl | rfl | rfl
 ·show AC _ _ _ _ (.c (.int .i64 d.a)) _
  refine A7 Tryz.func135 Tryz.ntmps135 ?_
  refine A3 (j5 q0 q1 q2 q3 q4) ?_
  exact Ad (A6 []) Tryz.results135
 ·show AC _ _ _ _ (.c (.int .i64 d.b)) _
  refine A7 Tryz.func135 Tryz.ntmps135 ?_
  refine A3 (j5 q0 q1 q2 q3 q4) ?_
  exact Ad (A6 []) Tryz.results135
 ·show AC _ _ _ _ (.c (.int .i64 d.c)) _
  refine A7 Tryz.func135 Tryz.ntmps135 ?_
  refine A3 (j5 q0 q1 q2 q3 q4) ?_
  exact Ad (A6 []) Tryz.results135
def IR (op:Int):Int:=if op=6∨op=16 then 1 else 0
def Gj (op:Int):Int:=if op=6 then 11 else if op=13∨op=14∨op=15 then 59 else if op=16 then 8 else 0
theorem XY (op:Int) (h1:1≤op) (h2:op≤17):AC Tryz.prog 214 [.c (.int .i64 op)] [] (.tup [.c (.int .i64 (IR op)),.c (.int .i64 (Gj op))]) []:=by
 rcases Rq h1 h2 with rfl | rfl | rfl | rfl | rfl | rfl | rfl | rfl | rfl | rfl | rfl | rfl | rfl | rfl | rfl | rfl | rfl
 ·show AC _ _ _ _ (.tup [.c (.int .i64 0),.c (.int .i64 0)]) _
  refine A7 Tryz.func214 Tryz.ntmps214 ?_
  refine Ac q9 ?_
  exact Ad (A6 []) Tryz.results214
 ·show AC _ _ _ _ (.tup [.c (.int .i64 0),.c (.int .i64 0)]) _
  refine A7 Tryz.func214 Tryz.ntmps214 ?_
  refine Ac q9 ?_
  exact Ad (A6 []) Tryz.results214
 ·show AC _ _ _ _ (.tup [.c (.int .i64 0),.c (.int .i64 0)]) _
  refine A7 Tryz.func214 Tryz.ntmps214 ?_
  refine Ac q9 ?_
  exact Ad (A6 []) Tryz.results214
 ·show AC _ _ _ _ (.tup [.c (.int .i64 0),.c (.int .i64 0)]) _
  refine A7 Tryz.func214 Tryz.ntmps214 ?_
  refine Ac q9 ?_
  exact Ad (A6 []) Tryz.results214
 ·show AC _ _ _ _ (.tup [.c (.int .i64 0),.c (.int .i64 0)]) _
  refine A7 Tryz.func214 Tryz.ntmps214 ?_
  refine Ac q9 ?_
  exact Ad (A6 []) Tryz.results214
 ·show AC _ _ _ _ (.tup [.c (.int .i64 1),.c (.int .i64 11)]) _
  refine A7 Tryz.func214 Tryz.ntmps214 ?_
  refine Ac q9 ?_
  exact Ad (A6 []) Tryz.results214
 ·show AC _ _ _ _ (.tup [.c (.int .i64 0),.c (.int .i64 0)]) _
  refine A7 Tryz.func214 Tryz.ntmps214 ?_
  refine Ac q9 ?_
  exact Ad (A6 []) Tryz.results214
 ·show AC _ _ _ _ (.tup [.c (.int .i64 0),.c (.int .i64 0)]) _
  refine A7 Tryz.func214 Tryz.ntmps214 ?_
  refine Ac q9 ?_
  exact Ad (A6 []) Tryz.results214
 ·show AC _ _ _ _ (.tup [.c (.int .i64 0),.c (.int .i64 0)]) _
  refine A7 Tryz.func214 Tryz.ntmps214 ?_
  refine Ac q9 ?_
  exact Ad (A6 []) Tryz.results214
 ·show AC _ _ _ _ (.tup [.c (.int .i64 0),.c (.int .i64 0)]) _
  refine A7 Tryz.func214 Tryz.ntmps214 ?_
  refine Ac q9 ?_
  exact Ad (A6 []) Tryz.results214
 ·show AC _ _ _ _ (.tup [.c (.int .i64 0),.c (.int .i64 0)]) _
  refine A7 Tryz.func214 Tryz.ntmps214 ?_
  refine Ac q9 ?_
  exact Ad (A6 []) Tryz.results214
 ·show AC _ _ _ _ (.tup [.c (.int .i64 0),.c (.int .i64 0)]) _
  refine A7 Tryz.func214 Tryz.ntmps214 ?_
  refine Ac q9 ?_
  exact Ad (A6 []) Tryz.results214
 ·show AC _ _ _ _ (.tup [.c (.int .i64 0),.c (.int .i64 59)]) _
  refine A7 Tryz.func214 Tryz.ntmps214 ?_
  refine Ac q9 ?_
  exact Ad (A6 []) Tryz.results214
 ·show AC _ _ _ _ (.tup [.c (.int .i64 0),.c (.int .i64 59)]) _
  refine A7 Tryz.func214 Tryz.ntmps214 ?_
  refine Ac q9 ?_
  exact Ad (A6 []) Tryz.results214
 ·show AC _ _ _ _ (.tup [.c (.int .i64 0),.c (.int .i64 59)]) _
  refine A7 Tryz.func214 Tryz.ntmps214 ?_
  refine Ac q9 ?_
  exact Ad (A6 []) Tryz.results214
 ·show AC _ _ _ _ (.tup [.c (.int .i64 1),.c (.int .i64 8)]) _
  refine A7 Tryz.func214 Tryz.ntmps214 ?_
  refine Ac q9 ?_
  exact Ad (A6 []) Tryz.results214
 ·show AC _ _ _ _ (.tup [.c (.int .i64 0),.c (.int .i64 0)]) _
  refine A7 Tryz.func214 Tryz.ntmps214 ?_
  refine Ac q9 ?_
  exact Ad (A6 []) Tryz.results214
theorem T7 (op:Int):AC Tryz.prog 215 [.c (.int .i64 op)] [] (.c (.bool (C7 op))) []:=by
 unfold C7
 cases h1:(op==2)<;>cases h2:(op==11)
 all_goals
  refine A7 Tryz.func215 Tryz.ntmps215 ?_
  refine A3 (j2 h1 h2) ?_
  exact Ad (A6 []) Tryz.results215
theorem KG (op:Int) (h1:1≤op) (h2:op≤17):AC Tryz.prog 261 [.c (.int .i64 op)] [] (.c (.int .i64 (Au op:Nat))) []:=by
 rcases Rq h1 h2 with rfl | rfl | rfl | rfl | rfl | rfl | rfl | rfl | rfl | rfl | rfl | rfl | rfl | rfl | rfl | rfl | rfl
 ·show AC _ _ _ _ (.c (.int .i64 0)) _
  refine A7 Tryz.func261 Tryz.ntmps261 ?_
  refine Ac q9 ?_
  exact Ad (A6 []) Tryz.results261
 ·show AC _ _ _ _ (.c (.int .i64 0)) _
  refine A7 Tryz.func261 Tryz.ntmps261 ?_
  refine Ac q9 ?_
  exact Ad (A6 []) Tryz.results261
 ·show AC _ _ _ _ (.c (.int .i64 2)) _
  refine A7 Tryz.func261 Tryz.ntmps261 ?_
  refine Ac q9 ?_
  exact Ad (A6 []) Tryz.results261
 ·show AC _ _ _ _ (.c (.int .i64 2)) _
  refine A7 Tryz.func261 Tryz.ntmps261 ?_
  refine Ac q9 ?_
  exact Ad (A6 []) Tryz.results261
 ·show AC _ _ _ _ (.c (.int .i64 2)) _
  refine A7 Tryz.func261 Tryz.ntmps261 ?_
  refine Ac q9 ?_
  exact Ad (A6 []) Tryz.results261
 ·show AC _ _ _ _ (.c (.int .i64 2)) _
  refine A7 Tryz.func261 Tryz.ntmps261 ?_
  refine Ac q9 ?_
  exact Ad (A6 []) Tryz.results261
 ·show AC _ _ _ _ (.c (.int .i64 2)) _
  refine A7 Tryz.func261 Tryz.ntmps261 ?_
  refine Ac q9 ?_
  exact Ad (A6 []) Tryz.results261
 ·show AC _ _ _ _ (.c (.int .i64 1)) _
  refine A7 Tryz.func261 Tryz.ntmps261 ?_
  refine Ac q9 ?_
  exact Ad (A6 []) Tryz.results261
 ·show AC _ _ _ _ (.c (.int .i64 1)) _
  refine A7 Tryz.func261 Tryz.ntmps261 ?_
  refine Ac q9 ?_
  exact Ad (A6 []) Tryz.results261
 ·show AC _ _ _ _ (.c (.int .i64 1)) _
  refine A7 Tryz.func261 Tryz.ntmps261 ?_
  refine Ac q9 ?_
  exact Ad (A6 []) Tryz.results261
 ·show AC _ _ _ _ (.c (.int .i64 2)) _
  refine A7 Tryz.func261 Tryz.ntmps261 ?_
  refine Ac q9 ?_
  exact Ad (A6 []) Tryz.results261
 ·show AC _ _ _ _ (.c (.int .i64 3)) _
  refine A7 Tryz.func261 Tryz.ntmps261 ?_
  refine Ac q9 ?_
  exact Ad (A6 []) Tryz.results261
 ·show AC _ _ _ _ (.c (.int .i64 3)) _
  refine A7 Tryz.func261 Tryz.ntmps261 ?_
  refine Ac q9 ?_
  exact Ad (A6 []) Tryz.results261
 ·show AC _ _ _ _ (.c (.int .i64 2)) _
  refine A7 Tryz.func261 Tryz.ntmps261 ?_
  refine Ac q9 ?_
  exact Ad (A6 []) Tryz.results261
 ·show AC _ _ _ _ (.c (.int .i64 0)) _
  refine A7 Tryz.func261 Tryz.ntmps261 ?_
  refine Ac q9 ?_
  exact Ad (A6 []) Tryz.results261
 ·show AC _ _ _ _ (.c (.int .i64 0)) _
  refine A7 Tryz.func261 Tryz.ntmps261 ?_
  refine Ac q9 ?_
  exact Ad (A6 []) Tryz.results261
 ·show AC _ _ _ _ (.c (.int .i64 0)) _
  refine A7 Tryz.func261 Tryz.ntmps261 ?_
  refine Ac q9 ?_
  exact Ad (A6 []) Tryz.results261
theorem Jw (d:CoD):AC Tryz.prog 217 [d.av] [] (.c (.bool (C7 d.op))) []:=by
 unfold C7
 cases h1:(d.op==2)<;>cases h2:(d.op==11)
 all_goals
  refine A7 Tryz.func217 Tryz.ntmps217 ?_
  refine A3 (j2 h1 h2) ?_
  exact Ad (A6 []) Tryz.results217
theorem OL (d:CoD) (h1:1≤d.op) (h2:d.op≤17):AC Tryz.prog 285 [d.av] [] (.c (.bool (ET d.op))) []:=by
 obtain⟨op,a,b,c,num,val⟩:=d
 dsimp only at h1 h2
 rcases Rq h1 h2 with rfl | rfl | rfl | rfl | rfl | rfl | rfl | rfl | rfl | rfl | rfl | rfl | rfl | rfl | rfl | rfl | rfl
 ·show AC _ _ _ _ (.c (.bool false)) _
  refine A7 Tryz.func285 Tryz.ntmps285 ?_
  refine Ac q9 ?_
  exact Ad (A6 []) Tryz.results285
 ·show AC _ _ _ _ (.c (.bool false)) _
  refine A7 Tryz.func285 Tryz.ntmps285 ?_
  refine Ac q9 ?_
  exact Ad (A6 []) Tryz.results285
 ·show AC _ _ _ _ (.c (.bool false)) _
  refine A7 Tryz.func285 Tryz.ntmps285 ?_
  refine Ac q9 ?_
  exact Ad (A6 []) Tryz.results285
 ·show AC _ _ _ _ (.c (.bool false)) _
  refine A7 Tryz.func285 Tryz.ntmps285 ?_
  refine Ac q9 ?_
  exact Ad (A6 []) Tryz.results285
 ·show AC _ _ _ _ (.c (.bool false)) _
  refine A7 Tryz.func285 Tryz.ntmps285 ?_
  refine Ac q9 ?_
  exact Ad (A6 []) Tryz.results285
 ·show AC _ _ _ _ (.c (.bool true)) _
  refine A7 Tryz.func285 Tryz.ntmps285 ?_
  refine Ac q9 ?_
  exact Ad (A6 []) Tryz.results285
 ·show AC _ _ _ _ (.c (.bool false)) _
  refine A7 Tryz.func285 Tryz.ntmps285 ?_
  refine Ac q9 ?_
  exact Ad (A6 []) Tryz.results285
 ·show AC _ _ _ _ (.c (.bool false)) _
  refine A7 Tryz.func285 Tryz.ntmps285 ?_
  refine Ac q9 ?_
  exact Ad (A6 []) Tryz.results285
 ·show AC _ _ _ _ (.c (.bool false)) _
  refine A7 Tryz.func285 Tryz.ntmps285 ?_
  refine Ac q9 ?_
  exact Ad (A6 []) Tryz.results285
 ·show AC _ _ _ _ (.c (.bool false)) _
  refine A7 Tryz.func285 Tryz.ntmps285 ?_
  refine Ac q9 ?_
  exact Ad (A6 []) Tryz.results285
 ·show AC _ _ _ _ (.c (.bool false)) _
  refine A7 Tryz.func285 Tryz.ntmps285 ?_
  refine Ac q9 ?_
  exact Ad (A6 []) Tryz.results285
 ·show AC _ _ _ _ (.c (.bool false)) _
  refine A7 Tryz.func285 Tryz.ntmps285 ?_
  refine Ac q9 ?_
  exact Ad (A6 []) Tryz.results285
 ·show AC _ _ _ _ (.c (.bool true)) _
  refine A7 Tryz.func285 Tryz.ntmps285 ?_
  refine Ac q9 ?_
  exact Ad (A6 []) Tryz.results285
 ·show AC _ _ _ _ (.c (.bool true)) _
  refine A7 Tryz.func285 Tryz.ntmps285 ?_
  refine Ac q9 ?_
  exact Ad (A6 []) Tryz.results285
 ·show AC _ _ _ _ (.c (.bool true)) _
  refine A7 Tryz.func285 Tryz.ntmps285 ?_
  refine Ac q9 ?_
  exact Ad (A6 []) Tryz.results285
 ·show AC _ _ _ _ (.c (.bool true)) _
  refine A7 Tryz.func285 Tryz.ntmps285 ?_
  refine Ac q9 ?_
  exact Ad (A6 []) Tryz.results285
 ·show AC _ _ _ _ (.c (.bool false)) _
  refine A7 Tryz.func285 Tryz.ntmps285 ?_
  refine Ac q9 ?_
  exact Ad (A6 []) Tryz.results285
theorem Re (d:CoD) (h1:1≤d.op) (h2:d.op≤17):AC Tryz.prog 218 [d.av] [] (.c (.bool (FE d))) []:=by
 obtain⟨op,a,b,c,num,val⟩:=d
 dsimp only at h1 h2
 have w1:=Fj num 1 11
 have w2:=Fj num 0 59
 have w3:=Fj num 1 8
 rcases Rq h1 h2 with rfl | rfl | rfl | rfl | rfl | rfl | rfl | rfl | rfl | rfl | rfl | rfl | rfl | rfl | rfl | rfl | rfl
 ·show AC _ _ _ _ (.c (.bool true)) _
  refine A7 Tryz.func218 Tryz.ntmps218 ?_
  refine Ac q9 ?_
  exact Ad (A6 []) Tryz.results218
 ·show AC _ _ _ _ (.c (.bool true)) _
  refine A7 Tryz.func218 Tryz.ntmps218 ?_
  refine Ac q9 ?_
  exact Ad (A6 []) Tryz.results218
 ·show AC _ _ _ _ (.c (.bool true)) _
  refine A7 Tryz.func218 Tryz.ntmps218 ?_
  refine Ac q9 ?_
  exact Ad (A6 []) Tryz.results218
 ·show AC _ _ _ _ (.c (.bool true)) _
  refine A7 Tryz.func218 Tryz.ntmps218 ?_
  refine Ac q9 ?_
  exact Ad (A6 []) Tryz.results218
 ·show AC _ _ _ _ (.c (.bool true)) _
  refine A7 Tryz.func218 Tryz.ntmps218 ?_
  refine Ac q9 ?_
  exact Ad (A6 []) Tryz.results218
 ·show AC _ _ _ _ (.c (.bool (decide (num≥1)&&decide (num≤11)))) _
  refine A7 Tryz.func218 Tryz.ntmps218 ?_
  refine Ac q9 ?_
  refine w7 (A4 [] w1) q9 ?_
  refine A3 q9 ?_
  exact Ad (A6 []) Tryz.results218
 ·show AC _ _ _ _ (.c (.bool true)) _
  refine A7 Tryz.func218 Tryz.ntmps218 ?_
  refine Ac q9 ?_
  exact Ad (A6 []) Tryz.results218
 ·show AC _ _ _ _ (.c (.bool true)) _
  refine A7 Tryz.func218 Tryz.ntmps218 ?_
  refine Ac q9 ?_
  exact Ad (A6 []) Tryz.results218
 ·show AC _ _ _ _ (.c (.bool true)) _
  refine A7 Tryz.func218 Tryz.ntmps218 ?_
  refine Ac q9 ?_
  exact Ad (A6 []) Tryz.results218
 ·show AC _ _ _ _ (.c (.bool true)) _
  refine A7 Tryz.func218 Tryz.ntmps218 ?_
  refine Ac q9 ?_
  exact Ad (A6 []) Tryz.results218
 ·show AC _ _ _ _ (.c (.bool true)) _
  refine A7 Tryz.func218 Tryz.ntmps218 ?_
  refine Ac q9 ?_
  exact Ad (A6 []) Tryz.results218
 ·show AC _ _ _ _ (.c (.bool true)) _
  refine A7 Tryz.func218 Tryz.ntmps218 ?_
  refine Ac q9 ?_
  exact Ad (A6 []) Tryz.results218
 ·show AC _ _ _ _ (.c (.bool (decide (num≥0)&&decide (num≤59)))) _
  refine A7 Tryz.func218 Tryz.ntmps218 ?_
  refine Ac q9 ?_
  refine w7 (A4 [] w2) q9 ?_
  refine A3 q9 ?_
  exact Ad (A6 []) Tryz.results218
 ·show AC _ _ _ _ (.c (.bool (decide (num≥0)&&decide (num≤59)))) _
  refine A7 Tryz.func218 Tryz.ntmps218 ?_
  refine Ac q9 ?_
  refine w7 (A4 [] w2) q9 ?_
  refine A3 q9 ?_
  exact Ad (A6 []) Tryz.results218
 ·show AC _ _ _ _ (.c (.bool (decide (num≥0)&&decide (num≤59)))) _
  refine A7 Tryz.func218 Tryz.ntmps218 ?_
  refine Ac q9 ?_
  refine w7 (A4 [] w2) q9 ?_
  refine A3 q9 ?_
  exact Ad (A6 []) Tryz.results218
 ·show AC _ _ _ _ (.c (.bool (decide (num≥1)&&decide (num≤8)))) _
  refine A7 Tryz.func218 Tryz.ntmps218 ?_
  refine Ac q9 ?_
  refine w7 (A4 [] w3) q9 ?_
  refine A3 q9 ?_
  exact Ad (A6 []) Tryz.results218
 ·show AC _ _ _ _ (.c (.bool true)) _
  refine A7 Tryz.func218 Tryz.ntmps218 ?_
  refine Ac q9 ?_
  exact Ad (A6 []) Tryz.results218
end Go.Proofs.YtcejfdfmgmcinaaGreat
