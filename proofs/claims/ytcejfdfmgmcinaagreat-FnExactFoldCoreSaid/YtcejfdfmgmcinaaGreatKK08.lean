/- The reference's fault of one node of a core. -/
import Derived.Test.YtcejfdfmgmcinaaGreatKK03
set_option linter.all false
set_option maxHeartbeats 8000000
namespace Go.Proofs.YtcejfdfmgmcinaaGreat
open Go.RowKit
set_option maxRecDepth 10000
theorem a1g {op:Int}(h1:1≤op) (h2:op≤17):(Gj op==0) = !ET op:=by
 rcases Rq h1 h2 with rfl | rfl | rfl | rfl | rfl | rfl | rfl | rfl | rfl | rfl | rfl | rfl | rfl | rfl | rfl | rfl | rfl<;>rfl
theorem j0 {d:CoD}(h1:1≤d.op) (h2:d.op≤17) (hn:ET d.op=true∨d.num=0):FE d=(decide (d.num≥IR d.op)&&decide (d.num≤Gj d.op)):=by
 obtain⟨op,a,b,c,num,val⟩:=d
 dsimp only at *
 rcases Rq h1 h2 with rfl | rfl | rfl | rfl | rfl | rfl | rfl | rfl | rfl | rfl | rfl | rfl | rfl | rfl | rfl | rfl | rfl
 all_goals first | rfl | (have hn:num=0:=hn.resolve_left (by decide);subst hn;rfl)
def EV (d:CoD) (i:Int) (k:Nat):Bool:=!Du (Au d.op) i k (d.kid k)
theorem Uw (d:CoD) (i:Int):DG d i=(!EV d i 0&&(!EV d i 1&&!EV d i 2)):=by
 unfold DG EV CoD.kid
 simp only[Bool.not_not,Bool.and_assoc,if_true,Nat.one_ne_zero,if_false,Nat.reduceEqDiff]
def KD (d:CoD):Int:=if C7 d.op&&((dec d.val).1 != 0) then (dec d.val).1 else if d.op==11&&(F3 d != 4) then 6 else if FE d then 0 else 3
theorem Xi (d:CoD) (i:Int):Dn d i=if C4 d.op 1 17=false then 6 else if Gb d i=false then 1 else KD d:=rfl
theorem XX (L:List CoD) (i:Nat) (hi:i<L.length) (hl:L.length≤100000):AC Tryz.prog 130 [AD L,.c (.int .i64 i)] [] (.c (.int .i64 (Dn L[i] i))) []:=by
 obtain⟨hr0,hg0⟩:=Ex L hi
 have hw1:=L5 L[i].op 1 17
 have hV:=T7 L[i].op
 have hF:=IE L[i].val
 rw[Xi]
 by_cases h17:C4 L[i].op 1 17=false
 ·rw[if_pos h17]
  unfold C4 at h17
  rw[h17]at hw1
  generalize L[i]=d at *
  refine A7 Tryz.func130 Tryz.ntmps130 ?_
  refine A3 (j2 hr0 hg0) ?_
  refine w7 (A4 [] hw1) q9 ?_
  refine A3 q9 ?_
  exact Ad (A6 []) Tryz.results130
 rw[if_neg h17]
 have h17':C4 L[i].op 1 17=true:=by simpa using h17
 have hop:1≤L[i].op∧L[i].op≤17:=by unfold C4 at h17';simpa using h17'
 unfold C4 at h17'
 rw[h17']at hw1
 have hN:=XY L[i].op hop.1 hop.2
 have hK:=FY L[i].op hop.1 hop.2
 have hk0:=a1g hop.1 hop.2
 have hkid:=IK L[i]
 have hvl:(L[i].val.map CellD.cs).length=L[i].val.length:=by simp
 have hnum:=@j0 L[i] hop.1 hop.2
 have hii:IntKind.i64.wrap ((i:Int)-1)=(i:Int)-1:=IntWalk.i64_in _ (by omega)
 have hform:Gb L[i] i=(DG L[i] i&&(ET L[i].op||L[i].num==0)&&(C7 L[i].op||L[i].val.length==0)):=rfl
 rw[Uw]at hform
 have hvk:(dec L[i].val).1=0→∃t:V,L[i].val=t.enc∧F3 L[i]=t.kind:=fun h=>by
  rcases GZ L[i].val with⟨t,ht⟩ | ⟨c,hc,ht⟩
  ·exact⟨t,(Um ht).1,by unfold F3;rw[ht]⟩
  ·rw[ht]at h;exact absurd h hc
 have hwn:=L5 L[i].num (IR L[i].op) (Gj L[i].op)
 generalize L[i]=d at *
 obtain⟨R,hR⟩:∃R,R=if Gb d i=false then 1 else KD d:=⟨_,rfl⟩
 rw[←hR]
 have h00:((0:Int) != 0)=false:=rfl
 unfold CoD.av at hkid
 -- the first test
 by_cases hA:ET d.op=false∧d.num≠0
 ·have p1:(Gj d.op==0)=true:=by rw[hk0,hA.1];rfl
  have p2:(d.num != 0)=true:=Ek hA.2
  have hf:Gb d i=false:=by rw[hform,hA.1,show (d.num==0)=false from Bh hA.2];simp
  rw[if_pos hf]at hR
  subst hR
  refine A7 Tryz.func130 Tryz.ntmps130 ?_
  refine A3 (j2 hr0 hg0) ?_
  refine w7 (A4 [] hw1) q9 ?_
  refine A3 q9 ?_
  refine w7 (A4 [] hN) q9 ?_
  refine A3 (j2 p1 p2) ?_
  exact Ad (A6 []) Tryz.results130
 have hA1:(ET d.op||d.num==0)=true:=by
  cases h:ET d.op with
  |true=>rfl
  |false=>simp;exact Classical.byContradiction fun h2=>hA ⟨h,h2⟩
 have hp:∃b,(Gj d.op==0)=b∧(b=true→(d.num != 0)=false):=⟨_,rfl,fun hb=>by
  rw[hk0]at hb
  refine Js (Classical.byContradiction fun h2=>hA ⟨by simpa using hb,h2⟩)⟩
 obtain⟨b,p1,p2⟩:=hp
 by_cases hB:C7 d.op=false∧d.val≠[]
 ·have hlz:decide ((d.val.length:Int)>0)=true:=decide_eq_true (by have:=List.length_pos_iff.2 hB.2;omega)
  have hlz2:(d.val.length==0)=false:=beq_eq_false_iff_ne.2 (by have:=List.length_pos_iff.2 hB.2;omega)
  have hf:Gb d i=false:=by rw[hform,hB.1,hlz2];simp
  rw[if_pos hf]at hR
  subst hR
  rw[hB.1]at hV
  cases b with
  |true =>
   have p2:=p2 rfl
   refine A7 Tryz.func130 Tryz.ntmps130 ?_
   refine A3 (j2 hr0 hg0) ?_
   refine w7 (A4 [] hw1) q9 ?_
   refine A3 q9 ?_
   refine w7 (A4 [] hN) q9 ?_
   refine A3 (j2 p1 p2) ?_
   refine w7 (A4 [] hV) q9 ?_
   refine A3 (j2 hvl hlz) ?_
   exact Ad (A6 []) Tryz.results130
  |false =>
   refine A7 Tryz.func130 Tryz.ntmps130 ?_
   refine A3 (j2 hr0 hg0) ?_
   refine w7 (A4 [] hw1) q9 ?_
   refine A3 q9 ?_
   refine w7 (A4 [] hN) q9 ?_
   refine A3 p1 ?_
   refine w7 (A4 [] hV) q9 ?_
   refine A3 (j2 hvl hlz) ?_
   exact Ad (A6 []) Tryz.results130
 have hB1:(C7 d.op||d.val.length==0)=true:=by
  cases h:C7 d.op with
  |true=>rfl
  |false=>simp;exact Classical.byContradiction fun h2=>hB ⟨h,h2⟩
 rw[hA1,hB1,Bool.and_true,Bool.and_true]at hform
 rw[hform]at hR
 have hnm:=hnum (by simpa using hA1)
 have hlp:(b=false∧((0:Int) != 0)=false)∨(b=true∧(d.num != 0)=false):=by
  cases b with
  |true=>exact .inr ⟨rfl,p2 rfl⟩
  |false=>exact .inl ⟨rfl,h00⟩
 clear p2 hform hk0 hA hA1 hB1
 cases hv:C7 d.op with
 |true =>
  rw[hv]at hV
  rcases hlp with⟨rfl,p3⟩ | ⟨rfl,p3⟩
  all_goals
   refine A7 Tryz.func130 Tryz.ntmps130 ?_
   refine A3 (j2 hr0 hg0) ?_
   refine w7 (A4 [] hw1) q9 ?_
   refine A3 q9 ?_
   refine w7 (A4 [] hN) q9 ?_
   refine A3 (j2 p1 p3) ?_
   refine w7 (A4 [] hV) q9 ?_
   refine A3 hvl ?_
   refine Ay (κ:=Nat) (fun k=>⟨mkS 0 100 [(0,AD L),(1,.c (.int .i64 i)),(5,.ptr (5,0) 0),(6,.c (.int .i64 (IR d.op))),(7,.c (.int .i64 (Gj d.op))),(8,.c (.int .i64 k))],[((5,0),.box [.c (.int .i64 d.op),.c (.int .i64 d.a),.c (.int .i64 d.b),.c (.int .i64 d.c),.c (.int .i64 d.num),.c (.sl (d.val.map CellD.cs))])]⟩)
    (fun k=>k≤3∧∀j,j<k→EV d i j=false) (fun k=>3-k) 0 ⟨by omega,fun j hj=>absurd hj (by omega)⟩ ?_ ?_
   ·exact Af (Am.of [((5,0),(5,0))] []) p1
   ·rintro k ⟨hk,hall⟩
    by_cases hlt:k<3
    ·have hdk:decide ((k:Int)<3)=true:=decide_eq_true (by omega)
     have hw:=Ah (k:=k) (by omega)
     have hkd:=hkid k hlt
     have hkb:EV d i k = !Du (Au d.op) i k (d.kid k):=rfl
     have hbad:EV d i k=true→R=1:=fun hb=>by
      rw[hR,if_pos]
      have:k=0∨k=1∨k=2:=by omega
      rcases this with rfl | rfl | rfl<;>rw[hb]<;>simp
     have hnext:EV d i k=false→∀j,j<k+1→EV d i j=false:=fun hb j hj=>by
      rcases Nat.lt_succ_iff_lt_or_eq.1 hj with h | rfl
      ·exact hall j h
      ·exact hb
     unfold Du at hkb
     generalize d.kid k=x at *
     by_cases har:(k:Int)<(Au d.op:Nat)
     ·have g1:decide ((k:Int)≥(Au d.op:Nat))=false:=decide_eq_false (by omega)
      have g2:decide ((k:Int)<(Au d.op:Nat))=true:=decide_eq_true har
      have hwx:=L5 x 0 ((i:Int)-1)
      rw[if_pos har]at hkb
      unfold C4 at hkb
      cases hx:(decide (x≥0)&&decide (x≤(i:Int)-1)) with
      |true =>
       rw[hx]at hkb hwx
       have hnx:=hnext (by rw[hkb];rfl)
       refine A3 hdk ?_
       refine w7 (A4 [] hkd) q9 ?_
       refine A3 q9 ?_
       refine w7 (A4 [] hK) q9 ?_
       refine A3 g1 ?_
       refine w7 (A4 [] hK) q9 ?_
       refine A3 (j2 g2 hii) ?_
       refine w7 (A4 [] hwx) q9 ?_
       refine A3 hw ?_
       refine⟨k+1,by omega,⟨by omega,hnx⟩,?_⟩
       exact Af (Am.of [((5,0),(5,0))] []) hw
      |false =>
       rw[hx]at hkb hwx
       have hR1:=hbad (by rw[hkb];rfl)
       rw[hR1]
       refine A3 hdk ?_
       refine w7 (A4 [] hkd) q9 ?_
       refine A3 q9 ?_
       refine w7 (A4 [] hK) q9 ?_
       refine A3 g1 ?_
       refine w7 (A4 [] hK) q9 ?_
       refine A3 (j2 g2 hii) ?_
       refine w7 (A4 [] hwx) q9 ?_
       refine A3 q9 ?_
       exact Ad (A6 []) Tryz.results130
     ·have g1:decide ((k:Int)≥(Au d.op:Nat))=true:=decide_eq_true (by omega)
      have g2:decide ((k:Int)<(Au d.op:Nat))=false:=decide_eq_false har
      rw[if_neg har]at hkb
      by_cases hx:x=0
      ·have g3:(x != 0)=false:=Js hx
       have hnx:=hnext (by rw[hkb,BL hx];rfl)
       refine A3 hdk ?_
       refine w7 (A4 [] hkd) q9 ?_
       refine A3 q9 ?_
       refine w7 (A4 [] hK) q9 ?_
       refine A3 (j2 g1 g3) ?_
       refine w7 (A4 [] hK) q9 ?_
       refine A3 (j2 g2 hw) ?_
       refine⟨k+1,by omega,⟨by omega,hnx⟩,?_⟩
       exact Af (Am.of [((5,0),(5,0))] []) hw
      ·have g3:(x != 0)=true:=Ek hx
       have hR1:=hbad (by rw[hkb,Bh hx];rfl)
       rw[hR1]
       refine A3 hdk ?_
       refine w7 (A4 [] hkd) q9 ?_
       refine A3 q9 ?_
       refine w7 (A4 [] hK) q9 ?_
       refine A3 (j2 g1 g3) ?_
       exact Ad (A6 []) Tryz.results130
    ·have hdk:decide ((k:Int)<3)=false:=decide_eq_false (by omega)
     obtain rfl:k=3:=by omega
     rw[hall 0 (by omega),hall 1 (by omega),hall 2 (by omega)]at hR
     simp only[Bool.not_false,Bool.and_self,Bool.true_eq_false,if_false]at hR
     unfold KD at hR
     rw[hv]at hR
     clear hall hkid hK
     by_cases hc0:(dec d.val).1=0
     ·have hz:((dec d.val).1 != 0)=false:=Js hc0
      obtain⟨t,ht,hkt⟩:=hvk hc0
      rw[hz,Bool.and_false,if_neg (by decide),hkt]at hR
      rw[hc0]at hF
      have hrv:A9 (d.val.map CellD.cs) 5 0=true:=by rw[ht];unfold A9;rw[show (0:Int).toNat=0 from rfl,AL];rfl
      have hgv:(d.val.map CellD.cs)[0]? = some [.int .i64 t.kind,.int .i64 t.num,.str t.text,.str ByteArray.empty,.int .i64 t.kids.length]:=by rw[ht];exact AL t
      cases h11:(d.op==11) with
      |true =>
       rw[h11,Bool.true_and]at hR
       by_cases hk4:t.kind=4
       ·have g4:(t.kind != 4)=false:=Js hk4
        rw[g4,if_neg (by decide)]at hR
        cases hnn:(decide (d.num≥IR d.op)&&decide (d.num≤Gj d.op)) with
        |true =>
         rw[hnn]at hwn hnm
         rw[hnm,if_pos rfl]at hR
         rw[hR]
         refine A3 hdk ?_
         refine w7 (A4 [] hV) q9 ?_
         refine A3 q9 ?_
         refine w7 (A4 [] hF) q9 ?_
         refine A3 (j5 h00 h11 hrv hgv g4) ?_
         refine w7 (A4 [] hwn) q9 ?_
         refine A3 q9 ?_
         exact Ad (A6 []) Tryz.results130
        |false =>
         rw[hnn]at hwn hnm
         rw[hnm,if_neg (by decide)]at hR
         rw[hR]
         refine A3 hdk ?_
         refine w7 (A4 [] hV) q9 ?_
         refine A3 q9 ?_
         refine w7 (A4 [] hF) q9 ?_
         refine A3 (j5 h00 h11 hrv hgv g4) ?_
         refine w7 (A4 [] hwn) q9 ?_
         refine A3 q9 ?_
         exact Ad (A6 []) Tryz.results130
       ·have g4:(t.kind != 4)=true:=Ek hk4
        rw[g4,if_pos rfl]at hR
        rw[hR]
        refine A3 hdk ?_
        refine w7 (A4 [] hV) q9 ?_
        refine A3 q9 ?_
        refine w7 (A4 [] hF) q9 ?_
        refine A3 (j5 h00 h11 hrv hgv g4) ?_
        exact Ad (A6 []) Tryz.results130
      |false =>
       rw[h11,Bool.false_and,if_neg (by decide)]at hR
       cases hnn:(decide (d.num≥IR d.op)&&decide (d.num≤Gj d.op)) with
       |true =>
        rw[hnn]at hwn hnm
        rw[hnm,if_pos rfl]at hR
        rw[hR]
        refine A3 hdk ?_
        refine w7 (A4 [] hV) q9 ?_
        refine A3 q9 ?_
        refine w7 (A4 [] hF) q9 ?_
        refine A3 (j2 h00 h11) ?_
        refine w7 (A4 [] hwn) q9 ?_
        refine A3 q9 ?_
        exact Ad (A6 []) Tryz.results130
       |false =>
        rw[hnn]at hwn hnm
        rw[hnm,if_neg (by decide)]at hR
        rw[hR]
        refine A3 hdk ?_
        refine w7 (A4 [] hV) q9 ?_
        refine A3 q9 ?_
        refine w7 (A4 [] hF) q9 ?_
        refine A3 (j2 h00 h11) ?_
        refine w7 (A4 [] hwn) q9 ?_
        refine A3 q9 ?_
        exact Ad (A6 []) Tryz.results130
     ·have hz:((dec d.val).1 != 0)=true:=Ek hc0
      rw[hz,Bool.and_self,if_pos rfl]at hR
      rw[hR]
      refine A3 hdk ?_
      refine w7 (A4 [] hV) q9 ?_
      refine A3 q9 ?_
      refine w7 (A4 [] hF) q9 ?_
      refine A3 hz ?_
      exact Ad (A6 []) Tryz.results130
 |false =>
  rw[hv]at hV
  have hve:d.val=[]:=Classical.byContradiction fun h2=>hB ⟨hv,h2⟩
  have p4:decide ((d.val.length:Int)>0)=false:=by rw[hve];rfl
  rcases hlp with⟨rfl,p3⟩ | ⟨rfl,p3⟩
  all_goals
   refine A7 Tryz.func130 Tryz.ntmps130 ?_
   refine A3 (j2 hr0 hg0) ?_
   refine w7 (A4 [] hw1) q9 ?_
   refine A3 q9 ?_
   refine w7 (A4 [] hN) q9 ?_
   refine A3 (j2 p1 p3) ?_
   refine w7 (A4 [] hV) q9 ?_
   refine A3 (j2 hvl p4) ?_
   refine Ay (κ:=Nat) (fun k=>⟨mkS 0 100 [(0,AD L),(1,.c (.int .i64 i)),(5,.ptr (5,0) 0),(6,.c (.int .i64 (IR d.op))),(7,.c (.int .i64 (Gj d.op))),(8,.c (.int .i64 k))],[((5,0),.box [.c (.int .i64 d.op),.c (.int .i64 d.a),.c (.int .i64 d.b),.c (.int .i64 d.c),.c (.int .i64 d.num),.c (.sl (d.val.map CellD.cs))])]⟩)
    (fun k=>k≤3∧∀j,j<k→EV d i j=false) (fun k=>3-k) 0 ⟨by omega,fun j hj=>absurd hj (by omega)⟩ ?_ ?_
   ·exact Af (Am.of [((5,0),(5,0))] []) p1
   ·rintro k ⟨hk,hall⟩
    by_cases hlt:k<3
    ·have hdk:decide ((k:Int)<3)=true:=decide_eq_true (by omega)
     have hw:=Ah (k:=k) (by omega)
     have hkd:=hkid k hlt
     have hkb:EV d i k = !Du (Au d.op) i k (d.kid k):=rfl
     have hbad:EV d i k=true→R=1:=fun hb=>by
      rw[hR,if_pos]
      have:k=0∨k=1∨k=2:=by omega
      rcases this with rfl | rfl | rfl<;>rw[hb]<;>simp
     have hnext:EV d i k=false→∀j,j<k+1→EV d i j=false:=fun hb j hj=>by
      rcases Nat.lt_succ_iff_lt_or_eq.1 hj with h | rfl
      ·exact hall j h
      ·exact hb
     unfold Du at hkb
     generalize d.kid k=x at *
     by_cases har:(k:Int)<(Au d.op:Nat)
     ·have g1:decide ((k:Int)≥(Au d.op:Nat))=false:=decide_eq_false (by omega)
      have g2:decide ((k:Int)<(Au d.op:Nat))=true:=decide_eq_true har
      have hwx:=L5 x 0 ((i:Int)-1)
      rw[if_pos har]at hkb
      unfold C4 at hkb
      cases hx:(decide (x≥0)&&decide (x≤(i:Int)-1)) with
      |true =>
       rw[hx]at hkb hwx
       have hnx:=hnext (by rw[hkb];rfl)
       refine A3 hdk ?_
       refine w7 (A4 [] hkd) q9 ?_
       refine A3 q9 ?_
       refine w7 (A4 [] hK) q9 ?_
       refine A3 g1 ?_
       refine w7 (A4 [] hK) q9 ?_
       refine A3 (j2 g2 hii) ?_
       refine w7 (A4 [] hwx) q9 ?_
       refine A3 hw ?_
       refine⟨k+1,by omega,⟨by omega,hnx⟩,?_⟩
       exact Af (Am.of [((5,0),(5,0))] []) hw
      |false =>
       rw[hx]at hkb hwx
       have hR1:=hbad (by rw[hkb];rfl)
       rw[hR1]
       refine A3 hdk ?_
       refine w7 (A4 [] hkd) q9 ?_
       refine A3 q9 ?_
       refine w7 (A4 [] hK) q9 ?_
       refine A3 g1 ?_
       refine w7 (A4 [] hK) q9 ?_
       refine A3 (j2 g2 hii) ?_
       refine w7 (A4 [] hwx) q9 ?_
       refine A3 q9 ?_
       exact Ad (A6 []) Tryz.results130
     ·have g1:decide ((k:Int)≥(Au d.op:Nat))=true:=decide_eq_true (by omega)
      have g2:decide ((k:Int)<(Au d.op:Nat))=false:=decide_eq_false har
      rw[if_neg har]at hkb
      by_cases hx:x=0
      ·have g3:(x != 0)=false:=Js hx
       have hnx:=hnext (by rw[hkb,BL hx];rfl)
       refine A3 hdk ?_
       refine w7 (A4 [] hkd) q9 ?_
       refine A3 q9 ?_
       refine w7 (A4 [] hK) q9 ?_
       refine A3 (j2 g1 g3) ?_
       refine w7 (A4 [] hK) q9 ?_
       refine A3 (j2 g2 hw) ?_
       refine⟨k+1,by omega,⟨by omega,hnx⟩,?_⟩
       exact Af (Am.of [((5,0),(5,0))] []) hw
      ·have g3:(x != 0)=true:=Ek hx
       have hR1:=hbad (by rw[hkb,Bh hx];rfl)
       rw[hR1]
       refine A3 hdk ?_
       refine w7 (A4 [] hkd) q9 ?_
       refine A3 q9 ?_
       refine w7 (A4 [] hK) q9 ?_
       refine A3 (j2 g1 g3) ?_
       exact Ad (A6 []) Tryz.results130
    ·have hdk:decide ((k:Int)<3)=false:=decide_eq_false (by omega)
     obtain rfl:k=3:=by omega
     rw[hall 0 (by omega),hall 1 (by omega),hall 2 (by omega)]at hR
     simp only[Bool.not_false,Bool.and_self,Bool.true_eq_false,if_false]at hR
     unfold KD at hR
     rw[hv]at hR
     clear hall hkid hK
     have h11:(d.op==11)=false:=by
      cases h:(d.op==11) with
      |false=>rfl
      |true=>unfold C7 at hv;rw[h]at hv;simp at hv
     rw[Bool.false_and,if_neg (by decide),h11,Bool.false_and,if_neg (by decide)]at hR
     cases hnn:(decide (d.num≥IR d.op)&&decide (d.num≤Gj d.op)) with
     |true =>
      rw[hnn]at hwn hnm
      rw[hnm,if_pos rfl]at hR
      rw[hR]
      refine A3 hdk ?_
      refine w7 (A4 [] hV) q9 ?_
      refine A3 h11 ?_
      refine w7 (A4 [] hwn) q9 ?_
      refine A3 q9 ?_
      exact Ad (A6 []) Tryz.results130
     |false =>
      rw[hnn]at hwn hnm
      rw[hnm,if_neg (by decide)]at hR
      rw[hR]
      refine A3 hdk ?_
      refine w7 (A4 [] hV) q9 ?_
      refine A3 h11 ?_
      refine w7 (A4 [] hwn) q9 ?_
      refine A3 q9 ?_
      exact Ad (A6 []) Tryz.results130
end Go.Proofs.YtcejfdfmgmcinaaGreat
