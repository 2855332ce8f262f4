/- The reference's reader: what stands behind a backslash. -/
import Derived.Test.YtlciedpfjhkkdaaGreatDoorKD06uD07
set_option linter.all false
set_option maxHeartbeats 8000000
namespace Go.Proofs.YtlciedpfjhkkdaaGreatDoor
open Go.RowKit
set_option maxRecDepth 10000
def Ir (R:Rd Nat):AV:=match R with
 | .ok b e=>.tup [.c (.int .u8 b),CV .nils ByteArray.empty e]
 | .bad c p=>.tup [.c (.int .u8 0),AP c p]
def D1 (j:Nat):Nat:=if j=0 then 117 else 48
theorem Qq {k:Nat}(h:k<3):∃b:UInt8,(⟨#[117,48,48]⟩:ByteArray)[k]? = some b∧((b.toNat:Nat):Int)=(D1 k:Nat):=by
 have:k=0∨k=1∨k=2:=by omega
 rcases this with rfl | rfl | rfl
 ·exact⟨117,rfl,rfl⟩
 ·exact⟨48,rfl,rfl⟩
 ·exact⟨48,rfl,rfl⟩
section
variable {s:ByteArray} {i:Nat}
theorem PM (h:¬(bAt s (i+1)=34∨bAt s (i+1)=92∨bAt s (i+1)=47)) {k:Nat}(hk:k<3) (hp:∀j,j<k→bAt s (i+1+j)=D1 j) (hn:bAt s (i+1+k)≠D1 k):Eb s i=.bad 5 (i+1+k):=by
 unfold Eb
 rw[if_neg h]
 have:k=0∨k=1∨k=2:=by omega
 rcases this with rfl | rfl | rfl
 ·have hn':bAt s (i+1)≠117:=hn
  rw[if_pos hn']
 ·rw[if_neg (by have:=hp 0 (by omega);simpa [D1] using this),if_pos (by simpa [D1] using hn)]
 ·rw[if_neg (by have:=hp 0 (by omega);simpa [D1] using this),if_neg (by have:=hp 1 (by omega);simpa [D1,Nat.add_assoc] using this),if_pos (by simpa [D1,Nat.add_assoc] using hn)]
theorem RK (h:¬(bAt s (i+1)=34∨bAt s (i+1)=92∨bAt s (i+1)=47)) (hp:∀j,j<3→bAt s (i+1+j)=D1 j):Eb s i=if AL (bAt s (i+4))<0 then .bad 5 (i+4) else if AL (bAt s (i+5))<0 then .bad 5 (i+5)
 else if 32≤16*AL (bAt s (i+4))+AL (bAt s (i+5))∧16*AL (bAt s (i+4))+AL (bAt s (i+5))≤126 then .ok (16*AL (bAt s (i+4))+AL (bAt s (i+5))).toNat (i+6) else .bad 5 (i+4):=by
 unfold Eb
 rw[if_neg h,if_neg (by have:=hp 0 (by omega);simpa [D1] using this),if_neg (by have:=hp 1 (by omega);simpa [D1,Nat.add_assoc] using this),if_neg (by have:=hp 2 (by omega);simpa [D1,Nat.add_assoc] using this)]
end
theorem IU {s:ByteArray}{j:Nat}(h:s.size≤j):AL (bAt s j) = -1:=by rw[Bn h];rfl
theorem LN (s:ByteArray) (hs:s.size≤1000000) (i:Nat) (hi:i<s.size):AC Tryz.prog 131 [.c (.str s),.c (.int .i64 i)] [] (Ir (Eb s i)) []:=by
 have hw1:=Ae (k:=i) (by omega)
 have hwn:∀n:Nat,n<10→IntKind.i64.wrap ((i:Int)+(n:Int))=((i+n:Nat):Int):=fun n hn=>CL (by omega)
 by_cases h1:i+1<s.size
 ·have g1:decide (((i+1:Nat):Int)≥(s.size:Int))=false:=decide_eq_false (by omega)
  obtain⟨b,hg,hb⟩:=Ar h1
  have hbn:((b.toNat:Nat):Int)=((bAt s (i+1):Nat):Int):=by rw[hb]
  have hw2:IntKind.i64.wrap ((i:Int)+2)=((i+2:Nat):Int):=hwn 2 (by omega)
  by_cases hq:bAt s (i+1)=34∨bAt s (i+1)=92∨bAt s (i+1)=47
  ·have hR:Eb s i=.ok (bAt s (i+1)) (i+2):=by unfold Eb;rw[if_pos hq]
   rw[hR]
   unfold Ir CV
   rcases hq with hq | hq | hq
   ·have e1:(((bAt s (i+1):Nat):Int)==34)=true:=by simp[hq]
    refine A7 Tryz.func131 Tryz.ntmps131 ?_
    refine A0 (j6 hw1 g1 hg hbn hw2 e1) ?_
    exact Al (A6 []) Tryz.results131
   ·have e1:(((bAt s (i+1):Nat):Int)==34)=false:=by simp[hq]
    have e2:(((bAt s (i+1):Nat):Int)==92)=true:=by simp[hq]
    refine A7 Tryz.func131 Tryz.ntmps131 ?_
    refine A0 (j7 hw1 g1 hg hbn hw2 e1 e2) ?_
    exact Al (A6 []) Tryz.results131
   ·have e1:(((bAt s (i+1):Nat):Int)==34)=false:=by simp[hq]
    have e2:(((bAt s (i+1):Nat):Int)==92)=false:=by simp[hq]
    have e3:(((bAt s (i+1):Nat):Int)==47)=true:=by simp[hq]
    refine A7 Tryz.func131 Tryz.ntmps131 ?_
    refine A0 (j8 hw1 g1 hg hbn hw2 e1 e2 e3) ?_
    exact Al (A6 []) Tryz.results131
  ·have e1:(((bAt s (i+1):Nat):Int)==34)=false:=by simp;omega
   have e2:(((bAt s (i+1):Nat):Int)==92)=false:=by simp;omega
   have e3:(((bAt s (i+1):Nat):Int)==47)=false:=by simp;omega
   have hwant:=@PM s i hq
   have hmid:=@RK s i hq
   obtain⟨R,hR⟩:∃R,Eb s i=R:=⟨_,rfl⟩
   rw[hR]at hmid ⊢
   simp only[hR]at hwant
   refine A7 Tryz.func131 Tryz.ntmps131 ?_
   refine A0 (j7 hw1 g1 hg hbn e1 e2 e3) ?_
   refine AH (κ:=Nat) (fun k=>⟨mkS 0 111 [(0,.c (.str s)),(1,.c (.int .i64 i)),(4,.c (.int .u8 0)),(5,.ptr (5,0) 0),(7,.c (.str ⟨#[117,48,48]⟩)),(8,.c (.int .i64 k))],[((5,0),.box [.nils,.c (.str ByteArray.empty),.c (.int .i64 0),.c (.int .i64 0),.c (.int .i64 0)])]⟩)
    (fun k=>k≤3∧∀j,j<k→bAt s (i+1+j)=D1 j) (fun k=>3-k) 0 ⟨Nat.zero_le _,fun j hj=>absurd hj (by omega)⟩ ?_ ?_
   ·exact Ao (Ay.of [((5,0),(5,0))] []) trivial
   ·rintro k ⟨hk,hp⟩
    by_cases hlt:k<3
    ·have hdk:decide ((k:Int)<3)=true:=decide_eq_true (by omega)
     have hwk:=Ae (k:=k) (by omega)
     have hwp:IntKind.i64.wrap (((i+1:Nat):Int)+(k:Int))=((i+1+k:Nat):Int):=CL (by omega)
     obtain⟨bw,hgw,hbw⟩:=Qq hlt
     have hbad:=AZ 5 (i+1+k)
     by_cases hin:i+1+k<s.size
     ·have hge:decide (((i+1+k:Nat):Int)≥(s.size:Int))=false:=decide_eq_false (by omega)
      obtain⟨b2,hg2,hb2⟩:=Ar hin
      have hbn2:((b2.toNat:Nat):Int)=((bAt s (i+1+k):Nat):Int):=by rw[hb2]
      by_cases heq:bAt s (i+1+k)=D1 k
      ·have hne:(((bAt s (i+1+k):Nat):Int) != ((D1 k:Nat):Int))=false:=by simp[heq]
       refine A0 (j10 hdk hw1 hwp hge hg2 hbn2 hgw hbw hne hwk) ?_
       refine⟨k+1,by omega,⟨by omega,fun j hj=>?_⟩,?_⟩
       ·by_cases hjk:j=k
        ·rw[hjk];exact heq
        ·exact hp j (by omega)
       exact Ao (Ay.of [((5,0),(5,0))] []) hwk
      ·have hne:(((bAt s (i+1+k):Nat):Int) != ((D1 k:Nat):Int))=true:=by simp;omega
       rw[hwant hlt hp heq]
       unfold Ir
       unfold AP at hbad ⊢
       refine A0 (j9 hdk hw1 hwp hge hg2 hbn2 hgw hbw hne) ?_
       refine w7 (A4 [] hbad) trivial ?_
       refine A0 trivial ?_
       exact Al (A6 []) Tryz.results131
     ·have hge:decide (((i+1+k:Nat):Int)≥(s.size:Int))=true:=decide_eq_true (by omega)
      rw[hwant hlt hp (by rw[Bn (by omega)];unfold D1;split<;>omega)]
      unfold Ir
      unfold AP at hbad ⊢
      refine A0 (j4 hdk hw1 hwp hge) ?_
      refine w7 (A4 [] hbad) trivial ?_
      refine A0 trivial ?_
      exact Al (A6 []) Tryz.results131
    ·have hdk:decide ((k:Int)<3)=false:=decide_eq_false (by omega)
     have hmid:=hmid (fun j hj=>hp j (by omega))
     refine A0 hdk ?_
     refine AH (κ:=Nat) (fun k=>⟨mkS 0 111 [(0,.c (.str s)),(1,.c (.int .i64 i)),(4,.c (.int .u8 0)),(5,.ptr (5,0) 0),(9,.c (.int .i64 k))],[((5,0),.box [.nils,.c (.str ByteArray.empty),.c (.int .i64 0),.c (.int .i64 0),.c (.int .i64 0)])]⟩)
      (fun k=>4≤k∧k≤6∧∀j,4≤j→j<k→i+j<s.size∧¬AL (bAt s (i+j))<0) (fun k=>6-k) 4 ⟨Nat.le_refl _,by omega,fun j _ hj=>absurd hj (by omega)⟩ ?_ ?_
     ·exact Ao (Ay.of [((5,0),(5,0))] []) trivial
     ·rintro m ⟨hm4,hm6,hp2⟩
      by_cases hlt2:m<6
      ·have hdm:decide ((m:Int)<6)=true:=decide_eq_true (by omega)
       have hwm:=Ae (k:=m) (by omega)
       have hwim:IntKind.i64.wrap ((i:Int)+(m:Int))=((i+m:Nat):Int):=CL (by omega)
       have hbad:=AZ 5 (i+m)
       have hRm:AL (bAt s (i+m))<0→R=.bad 5 (i+m):=fun hneg=>by
        rw[hmid]
        by_cases h4:m=4
        ·subst h4;rw[if_pos hneg]
        ·have h5:m=5:=by omega
         subst h5
         rw[if_neg (hp2 4 (by omega) (by omega)).2,if_pos hneg]
       by_cases hin:i+m<s.size
       ·have hge:decide (((i+m:Nat):Int)≥(s.size:Int))=false:=decide_eq_false (by omega)
        obtain⟨b2,hg2,hb2⟩:=Ar hin
        have hbn2:((b2.toNat:Nat):Int)=((bAt s (i+m):Nat):Int):=by rw[hb2]
        have hx:=Ib (bAt s (i+m)) (EM hin)
        by_cases hneg:AL (bAt s (i+m))<0
        ·have hd:decide (AL (bAt s (i+m))<0)=true:=by simpa using hneg
         rw[hRm hneg]
         unfold Ir
         unfold AP at hbad ⊢
         refine A0 (j5 hdm hwim hge hg2 hbn2) ?_
         refine w7 (A4 [] hx) trivial ?_
         refine A0 (j2 hd hwim) ?_
         refine w7 (A4 [] hbad) trivial ?_
         refine A0 trivial ?_
         exact Al (A6 []) Tryz.results131
        ·have hd:decide (AL (bAt s (i+m))<0)=false:=by simpa using hneg
         refine A0 (j5 hdm hwim hge hg2 hbn2) ?_
         refine w7 (A4 [] hx) trivial ?_
         refine A0 (j2 hd hwm) ?_
         refine⟨m+1,by omega,⟨by omega,by omega,fun j hj1 hj2=>?_⟩,?_⟩
         ·by_cases hjm:j=m
          ·rw[hjm];exact⟨hin,hneg⟩
          ·exact hp2 j hj1 (by omega)
         exact Ao (Ay.of [((5,0),(5,0))] []) hwm
       ·have hge:decide (((i+m:Nat):Int)≥(s.size:Int))=true:=decide_eq_true (by omega)
        rw[hRm (by rw[IU (by omega)];omega)]
        unfold Ir
        unfold AP at hbad ⊢
        refine A0 (j3 hdm hwim hge) ?_
        refine w7 (A4 [] hbad) trivial ?_
        refine A0 trivial ?_
        exact Al (A6 []) Tryz.results131
      ·have hdm:decide ((m:Int)<6)=false:=decide_eq_false (by omega)
       obtain⟨k4,n4⟩:=hp2 4 (by omega) (by omega)
       obtain⟨k5,n5⟩:=hp2 5 (by omega) (by omega)
       rw[if_neg n4,if_neg n5]at hmid
       obtain⟨_,_,x4,y4⟩:=ET n4
       obtain⟨_,_,x5,y5⟩:=ET n5
       have hw4:IntKind.i64.wrap ((i:Int)+4)=((i+4:Nat):Int):=hwn 4 (by omega)
       have hw5:IntKind.i64.wrap ((i:Int)+5)=((i+5:Nat):Int):=hwn 5 (by omega)
       have hw6:IntKind.i64.wrap ((i:Int)+6)=((i+6:Nat):Int):=hwn 6 (by omega)
       obtain⟨b4,hg4,hb4⟩:=Ar k4
       have hbn4:((b4.toNat:Nat):Int)=((bAt s (i+4):Nat):Int):=by rw[hb4]
       obtain⟨b5,hg5,hb5⟩:=Ar k5
       have hbn5:((b5.toNat:Nat):Int)=((bAt s (i+5):Nat):Int):=by rw[hb5]
       have hx4:=Ib (bAt s (i+4)) (EM k4)
       have hx5:=Ib (bAt s (i+5)) (EM k5)
       have hbad:=AZ 5 (i+4)
       generalize AL (bAt s (i+4))=p at *
       generalize AL (bAt s (i+5))=q at *
       generalize bAt s (i+4)=c4 at *
       generalize bAt s (i+5)=c5 at *
       have wp:IntKind.i64.wrap (16*p)=16*p:=C4 (by omega) (by omega)
       have wq:IntKind.i64.wrap (16*p+q)=16*p+q:=C4 (by omega) (by omega)
       have hin:=Ri (16*p+q) 32 126
       by_cases hok:32≤16*p+q∧16*p+q≤126
       ·have hb1:(decide (16*p+q≥32)&&decide (16*p+q≤126))=true:=by simp;omega
        rw[hb1]at hin
        rw[if_pos hok]at hmid
        have wu:IntKind.u8.wrap (16*p+q)=(((16*p+q).toNat:Nat):Int):=by rw[Ez (by omega) (by omega)];omega
        rw[hmid]
        unfold Ir CV
        refine A0 (j4 hdm hw4 hg4 hbn4) ?_
        refine w7 (A4 [] hx4) trivial ?_
        refine A0 (j4 hw5 hg5 hbn5 wp) ?_
        refine w7 (A4 [] hx5) trivial ?_
        refine A0 wq ?_
        refine w7 (A4 [] hin) trivial ?_
        refine A0 (j2 wu hw6) ?_
        exact Al (A6 []) Tryz.results131
       ·have hb1:(decide (16*p+q≥32)&&decide (16*p+q≤126))=false:=by simp;omega
        rw[hb1]at hin
        rw[if_neg hok]at hmid
        rw[hmid]
        unfold Ir
        unfold AP at hbad ⊢
        refine A0 (j4 hdm hw4 hg4 hbn4) ?_
        refine w7 (A4 [] hx4) trivial ?_
        refine A0 (j4 hw5 hg5 hbn5 wp) ?_
        refine w7 (A4 [] hx5) trivial ?_
        refine A0 wq ?_
        refine w7 (A4 [] hin) trivial ?_
        refine A0 hw4 ?_
        refine w7 (A4 [] hbad) trivial ?_
        refine A0 trivial ?_
        exact Al (A6 []) Tryz.results131
 ·have g1:decide (((i+1:Nat):Int)≥(s.size:Int))=true:=decide_eq_true (by omega)
  have hse:s.size=i+1:=by omega
  have hR:Eb s i=.bad 5 s.size:=by
   have hb:=Bn (s:=s) (i:=i+1) (by omega)
   unfold Eb
   simp[hb,hse]
  have hbad:=AZ 5 s.size
  rw[hR]
  unfold Ir
  unfold AP at hbad ⊢
  refine A7 Tryz.func131 Tryz.ntmps131 ?_
  refine A0 (j2 hw1 g1) ?_
  refine w7 (A4 [] hbad) trivial ?_
  refine A0 trivial ?_
  exact Al (A6 []) Tryz.results131
end Go.Proofs.YtlciedpfjhkkdaaGreatDoor
