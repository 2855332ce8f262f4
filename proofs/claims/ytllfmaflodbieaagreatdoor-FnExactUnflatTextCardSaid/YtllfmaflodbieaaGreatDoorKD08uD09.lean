/- Texts of this proof: D08 D09. -/
import Derived.Test.YtllfmaflodbieaaGreatDoorKE34uD07
set_option linter.all false
set_option maxHeartbeats 8000000
namespace Go.Proofs.YtllfmaflodbieaaGreatDoor
section
open Go.RowKit
set_option maxRecDepth 10000
def Lt (R:Rd Nat):AV:=match R with
 | .ok b e=>.tup [.c (.int .u8 b),Dk .nils ByteArray.empty e]
 | .bad c p=>.tup [.c (.int .u8 0),B9 c p]
def DZ (j:Nat):Nat:=if j=0 then 117 else 48
theorem Wy {k:Nat}(h:k<3):∃b:UInt8,(⟨#[117,48,48]⟩:ByteArray)[k]? = some b∧((b.toNat:Nat):Int)=(DZ k:Nat):=by
 have:k=0∨k=1∨k=2:=by omega
 rcases this with rfl | rfl | rfl
 ·exact⟨117,rfl,rfl⟩
 ·exact⟨48,rfl,rfl⟩
 ·exact⟨48,rfl,rfl⟩
section
variable {s:ByteArray} {i:Nat}
theorem We (h:¬(bAt s (i+1)=34∨bAt s (i+1)=92∨bAt s (i+1)=47)) {k:Nat}(hk:k<3) (hp:∀j,j<k→bAt s (i+1+j)=DZ j) (hn:bAt s (i+1+k)≠DZ k):EJ s i=.bad 5 (i+1+k):=by
 unfold EJ
 rw[if_neg h]
 have:k=0∨k=1∨k=2:=by omega
 rcases this with rfl | rfl | rfl
 ·have hn':bAt s (i+1)≠117:=hn
  rw[if_pos hn']
 ·rw[if_neg (by have:=hp 0 (by omega);simpa [DZ] using this),if_pos (by simpa [DZ] using hn)]
 ·rw[if_neg (by have:=hp 0 (by omega);simpa [DZ] using this),if_neg (by have:=hp 1 (by omega);simpa [DZ,Nat.add_assoc] using this),if_pos (by simpa [DZ,Nat.add_assoc] using hn)]
theorem WO (h:¬(bAt s (i+1)=34∨bAt s (i+1)=92∨bAt s (i+1)=47)) (hp:∀j,j<3→bAt s (i+1+j)=DZ j):EJ s i=if B8 (bAt s (i+4))<0 then .bad 5 (i+4) else if B8 (bAt s (i+5))<0 then .bad 5 (i+5)
 else if 32≤16*B8 (bAt s (i+4))+B8 (bAt s (i+5))∧16*B8 (bAt s (i+4))+B8 (bAt s (i+5))≤126 then .ok (16*B8 (bAt s (i+4))+B8 (bAt s (i+5))).toNat (i+6) else .bad 5 (i+4):=by
 unfold EJ
 rw[if_neg h,if_neg (by have:=hp 0 (by omega);simpa [DZ] using this),if_neg (by have:=hp 1 (by omega);simpa [DZ,Nat.add_assoc] using this),if_neg (by have:=hp 2 (by omega);simpa [DZ,Nat.add_assoc] using this)]
end
theorem M2 {s:ByteArray}{j:Nat}(h:s.size≤j):B8 (bAt s j) = -1:=by rw[BX h];rfl
theorem Q3 (s:ByteArray) (hs:s.size≤1000000) (i:Nat) (hi:i<s.size):AC Tryz.prog 190 [.c (.str s),.c (.int .i64 i)] [] (Lt (EJ s i)) []:=by
 have hw1:=Ae (k:=i) (by omega)
 have hwn:∀n:Nat,n<10→IntKind.i64.wrap ((i:Int)+(n:Int))=((i+n:Nat):Int):=fun n hn=>DH (by omega)
 by_cases h1:i+1<s.size
 ·have g1:decide (((i+1:Nat):Int)≥(s.size:Int))=false:=decide_eq_false (by omega)
  obtain⟨b,hg,hb⟩:=Aw h1
  have hbn:((b.toNat:Nat):Int)=((bAt s (i+1):Nat):Int):=by rw[hb]
  have hw2:IntKind.i64.wrap ((i:Int)+2)=((i+2:Nat):Int):=hwn 2 (by omega)
  by_cases hq:bAt s (i+1)=34∨bAt s (i+1)=92∨bAt s (i+1)=47
  ·have hR:EJ s i=.ok (bAt s (i+1)) (i+2):=by unfold EJ;rw[if_pos hq]
   rw[hR]
   unfold Lt Dk
   rcases hq with hq | hq | hq
   ·have e1:(((bAt s (i+1):Nat):Int)==34)=true:=by simp[hq]
    refine A6 Tryz.func190 Tryz.ntmps190 ?_
    refine A0 (j6 hw1 g1 hg hbn hw2 e1) ?_
    exact Am (A7 []) Tryz.results190
   ·have e1:(((bAt s (i+1):Nat):Int)==34)=false:=by simp[hq]
    have e2:(((bAt s (i+1):Nat):Int)==92)=true:=by simp[hq]
    refine A6 Tryz.func190 Tryz.ntmps190 ?_
    refine A0 (j7 hw1 g1 hg hbn hw2 e1 e2) ?_
    exact Am (A7 []) Tryz.results190
   ·have e1:(((bAt s (i+1):Nat):Int)==34)=false:=by simp[hq]
    have e2:(((bAt s (i+1):Nat):Int)==92)=false:=by simp[hq]
    have e3:(((bAt s (i+1):Nat):Int)==47)=true:=by simp[hq]
    refine A6 Tryz.func190 Tryz.ntmps190 ?_
    refine A0 (j8 hw1 g1 hg hbn hw2 e1 e2 e3) ?_
    exact Am (A7 []) Tryz.results190
  ·have e1:(((bAt s (i+1):Nat):Int)==34)=false:=by simp;omega
   have e2:(((bAt s (i+1):Nat):Int)==92)=false:=by simp;omega
   have e3:(((bAt s (i+1):Nat):Int)==47)=false:=by simp;omega
   have hwant:=@We s i hq
   have hmid:=@WO s i hq
   obtain⟨R,hR⟩:∃R,EJ s i=R:=⟨_,rfl⟩
   rw[hR]at hmid ⊢
   simp only[hR]at hwant
   refine A6 Tryz.func190 Tryz.ntmps190 ?_
   refine A0 (j7 hw1 g1 hg hbn e1 e2 e3) ?_
   refine AG (κ:=Nat) (fun k=>⟨mkS 0 111 [(0,.c (.str s)),(1,.c (.int .i64 i)),(4,.c (.int .u8 0)),(5,.ptr (5,0) 0),(7,.c (.str ⟨#[117,48,48]⟩)),(8,.c (.int .i64 k))],[((5,0),.box [.nils,.c (.str ByteArray.empty),.c (.int .i64 0),.c (.int .i64 0),.c (.int .i64 0)])]⟩)
    (fun k=>k≤3∧∀j,j<k→bAt s (i+1+j)=DZ j) (fun k=>3-k) 0 ⟨Nat.zero_le _,fun j hj=>absurd hj (by omega)⟩ ?_ ?_
   ·exact Aq (As.of [((5,0),(5,0))] []) trivial
   ·rintro k ⟨hk,hp⟩
    by_cases hlt:k<3
    ·have hdk:decide ((k:Int)<3)=true:=decide_eq_true (by omega)
     have hwk:=Ae (k:=k) (by omega)
     have hwp:IntKind.i64.wrap (((i+1:Nat):Int)+(k:Int))=((i+1+k:Nat):Int):=DH (by omega)
     obtain⟨bw,hgw,hbw⟩:=Wy hlt
     have hbad:=Bs 5 (i+1+k)
     by_cases hin:i+1+k<s.size
     ·have hge:decide (((i+1+k:Nat):Int)≥(s.size:Int))=false:=decide_eq_false (by omega)
      obtain⟨b2,hg2,hb2⟩:=Aw hin
      have hbn2:((b2.toNat:Nat):Int)=((bAt s (i+1+k):Nat):Int):=by rw[hb2]
      by_cases heq:bAt s (i+1+k)=DZ k
      ·have hne:(((bAt s (i+1+k):Nat):Int) != ((DZ k:Nat):Int))=false:=by simp[heq]
       refine A0 (j10 hdk hw1 hwp hge hg2 hbn2 hgw hbw hne hwk) ?_
       refine⟨k+1,by omega,⟨by omega,fun j hj=>?_⟩,?_⟩
       ·by_cases hjk:j=k
        ·rw[hjk];exact heq
        ·exact hp j (by omega)
       exact Aq (As.of [((5,0),(5,0))] []) hwk
      ·have hne:(((bAt s (i+1+k):Nat):Int) != ((DZ k:Nat):Int))=true:=by simp;omega
       rw[hwant hlt hp heq]
       unfold Lt
       unfold B9 at hbad ⊢
       refine A0 (j9 hdk hw1 hwp hge hg2 hbn2 hgw hbw hne) ?_
       refine w7 (A3 [] hbad) trivial ?_
       refine A0 trivial ?_
       exact Am (A7 []) Tryz.results190
     ·have hge:decide (((i+1+k:Nat):Int)≥(s.size:Int))=true:=decide_eq_true (by omega)
      rw[hwant hlt hp (by rw[BX (by omega)];unfold DZ;split<;>omega)]
      unfold Lt
      unfold B9 at hbad ⊢
      refine A0 (j4 hdk hw1 hwp hge) ?_
      refine w7 (A3 [] hbad) trivial ?_
      refine A0 trivial ?_
      exact Am (A7 []) Tryz.results190
    ·have hdk:decide ((k:Int)<3)=false:=decide_eq_false (by omega)
     have hmid:=hmid (fun j hj=>hp j (by omega))
     refine A0 hdk ?_
     refine AG (κ:=Nat) (fun k=>⟨mkS 0 111 [(0,.c (.str s)),(1,.c (.int .i64 i)),(4,.c (.int .u8 0)),(5,.ptr (5,0) 0),(9,.c (.int .i64 k))],[((5,0),.box [.nils,.c (.str ByteArray.empty),.c (.int .i64 0),.c (.int .i64 0),.c (.int .i64 0)])]⟩)
      (fun k=>4≤k∧k≤6∧∀j,4≤j→j<k→i+j<s.size∧¬B8 (bAt s (i+j))<0) (fun k=>6-k) 4 ⟨Nat.le_refl _,by omega,fun j _ hj=>absurd hj (by omega)⟩ ?_ ?_
     ·exact Aq (As.of [((5,0),(5,0))] []) trivial
     ·rintro m ⟨hm4,hm6,hp2⟩
      by_cases hlt2:m<6
      ·have hdm:decide ((m:Int)<6)=true:=decide_eq_true (by omega)
       have hwm:=Ae (k:=m) (by omega)
       have hwim:IntKind.i64.wrap ((i:Int)+(m:Int))=((i+m:Nat):Int):=DH (by omega)
       have hbad:=Bs 5 (i+m)
       have hRm:B8 (bAt s (i+m))<0→R=.bad 5 (i+m):=fun hneg=>by
        rw[hmid]
        by_cases h4:m=4
        ·subst h4;rw[if_pos hneg]
        ·have h5:m=5:=by omega
         subst h5
         rw[if_neg (hp2 4 (by omega) (by omega)).2,if_pos hneg]
       by_cases hin:i+m<s.size
       ·have hge:decide (((i+m:Nat):Int)≥(s.size:Int))=false:=decide_eq_false (by omega)
        obtain⟨b2,hg2,hb2⟩:=Aw hin
        have hbn2:((b2.toNat:Nat):Int)=((bAt s (i+m):Nat):Int):=by rw[hb2]
        have hx:=LR (bAt s (i+m)) (G9 hin)
        by_cases hneg:B8 (bAt s (i+m))<0
        ·have hd:decide (B8 (bAt s (i+m))<0)=true:=by simpa using hneg
         rw[hRm hneg]
         unfold Lt
         unfold B9 at hbad ⊢
         refine A0 (j5 hdm hwim hge hg2 hbn2) ?_
         refine w7 (A3 [] hx) trivial ?_
         refine A0 (j2 hd hwim) ?_
         refine w7 (A3 [] hbad) trivial ?_
         refine A0 trivial ?_
         exact Am (A7 []) Tryz.results190
        ·have hd:decide (B8 (bAt s (i+m))<0)=false:=by simpa using hneg
         refine A0 (j5 hdm hwim hge hg2 hbn2) ?_
         refine w7 (A3 [] hx) trivial ?_
         refine A0 (j2 hd hwm) ?_
         refine⟨m+1,by omega,⟨by omega,by omega,fun j hj1 hj2=>?_⟩,?_⟩
         ·by_cases hjm:j=m
          ·rw[hjm];exact⟨hin,hneg⟩
          ·exact hp2 j hj1 (by omega)
         exact Aq (As.of [((5,0),(5,0))] []) hwm
       ·have hge:decide (((i+m:Nat):Int)≥(s.size:Int))=true:=decide_eq_true (by omega)
        rw[hRm (by rw[M2 (by omega)];omega)]
        unfold Lt
        unfold B9 at hbad ⊢
        refine A0 (j3 hdm hwim hge) ?_
        refine w7 (A3 [] hbad) trivial ?_
        refine A0 trivial ?_
        exact Am (A7 []) Tryz.results190
      ·have hdm:decide ((m:Int)<6)=false:=decide_eq_false (by omega)
       obtain⟨k4,n4⟩:=hp2 4 (by omega) (by omega)
       obtain⟨k5,n5⟩:=hp2 5 (by omega) (by omega)
       rw[if_neg n4,if_neg n5]at hmid
       obtain⟨_,_,x4,y4⟩:=GL n4
       obtain⟨_,_,x5,y5⟩:=GL n5
       have hw4:IntKind.i64.wrap ((i:Int)+4)=((i+4:Nat):Int):=hwn 4 (by omega)
       have hw5:IntKind.i64.wrap ((i:Int)+5)=((i+5:Nat):Int):=hwn 5 (by omega)
       have hw6:IntKind.i64.wrap ((i:Int)+6)=((i+6:Nat):Int):=hwn 6 (by omega)
       obtain⟨b4,hg4,hb4⟩:=Aw k4
       have hbn4:((b4.toNat:Nat):Int)=((bAt s (i+4):Nat):Int):=by rw[hb4]
       obtain⟨b5,hg5,hb5⟩:=Aw k5
       have hbn5:((b5.toNat:Nat):Int)=((bAt s (i+5):Nat):Int):=by rw[hb5]
       have hx4:=LR (bAt s (i+4)) (G9 k4)
       have hx5:=LR (bAt s (i+5)) (G9 k5)
       have hbad:=Bs 5 (i+4)
       generalize B8 (bAt s (i+4))=p at *
       generalize B8 (bAt s (i+5))=q at *
       generalize bAt s (i+4)=c4 at *
       generalize bAt s (i+5)=c5 at *
       have wp:IntKind.i64.wrap (16*p)=16*p:=CG (by omega) (by omega)
       have wq:IntKind.i64.wrap (16*p+q)=16*p+q:=CG (by omega) (by omega)
       have hin:=WN (16*p+q) 32 126
       by_cases hok:32≤16*p+q∧16*p+q≤126
       ·have hb1:(decide (16*p+q≥32)&&decide (16*p+q≤126))=true:=by simp;omega
        rw[hb1]at hin
        rw[if_pos hok]at hmid
        have wu:IntKind.u8.wrap (16*p+q)=(((16*p+q).toNat:Nat):Int):=by rw[Gt (by omega) (by omega)];omega
        rw[hmid]
        unfold Lt Dk
        refine A0 (j4 hdm hw4 hg4 hbn4) ?_
        refine w7 (A3 [] hx4) trivial ?_
        refine A0 (j4 hw5 hg5 hbn5 wp) ?_
        refine w7 (A3 [] hx5) trivial ?_
        refine A0 wq ?_
        refine w7 (A3 [] hin) trivial ?_
        refine A0 (j2 wu hw6) ?_
        exact Am (A7 []) Tryz.results190
       ·have hb1:(decide (16*p+q≥32)&&decide (16*p+q≤126))=false:=by simp;omega
        rw[hb1]at hin
        rw[if_neg hok]at hmid
        rw[hmid]
        unfold Lt
        unfold B9 at hbad ⊢
        refine A0 (j4 hdm hw4 hg4 hbn4) ?_
        refine w7 (A3 [] hx4) trivial ?_
        refine A0 (j4 hw5 hg5 hbn5 wp) ?_
        refine w7 (A3 [] hx5) trivial ?_
        refine A0 wq ?_
        refine w7 (A3 [] hin) trivial ?_
        refine A0 hw4 ?_
        refine w7 (A3 [] hbad) trivial ?_
        refine A0 trivial ?_
        exact Am (A7 []) Tryz.results190
 ·have g1:decide (((i+1:Nat):Int)≥(s.size:Int))=true:=decide_eq_true (by omega)
  have hse:s.size=i+1:=by omega
  have hR:EJ s i=.bad 5 s.size:=by
   have hb:=BX (s:=s) (i:=i+1) (by omega)
   unfold EJ
   simp[hb,hse]
  have hbad:=Bs 5 s.size
  rw[hR]
  unfold Lt
  unfold B9 at hbad ⊢
  refine A6 Tryz.func190 Tryz.ntmps190 ?_
  refine A0 (j2 hw1 g1) ?_
  refine w7 (A3 [] hbad) trivial ?_
  refine A0 trivial ?_
  exact Am (A7 []) Tryz.results190
end
section
open Go.RowKit
set_option maxRecDepth 10000
def rdT (R:Rd ByteArray):AV:=match R with
 | .ok t e=>Dk .nils t e
 | .bad c p=>B9 c p
theorem SL {s:ByteArray}{i:Nat}(h:i<s.size):s.extract i (i+1)=BF (bAt s i):=by
 obtain⟨b,h1,h2⟩:=Aw h
 rw[h2]
 unfold BF
 have h3:=h1
 rw[getElem?_pos s i h]at h3
 cases h3
 apply ByteArray.ext
 apply Array.toList_inj.1
 rw[show (⟨#[UInt8.ofNat s[i].toNat]⟩:ByteArray).data = #[UInt8.ofNat s[i].toNat] from rfl,UInt8.ofNat_toNat]
 show (s.extract i (i+1)).data.toList=[s[i]]
 rw[CJ,List.take_succ_eq_append_getElem (by simpa using h),List.drop_append_of_le_length (by simp;omega),List.drop_eq_nil_of_le (by rw[List.length_take];exact Nat.min_le_left _ _)]
 rfl
theorem K6 (s:ByteArray) (hs:s.size≤1000000) (i:Nat) (hi:i<s.size):AC Tryz.prog 125 [.c (.str s),.c (.int .i64 i)] [] (rdT (CU s i (s.size+1) (i+1) ByteArray.empty)) []:=by
 have t3:=Tryz.underlying9
 have t1:=Tryz.underlying29
 have t2:=Tryz.underlying5
 have hw1:=Ae (k:=i) (by omega)
 have h00:((0:Int) != 0)=false:=rfl
 obtain⟨R,hR⟩:∃R,CU s i (s.size+1) (i+1) ByteArray.empty=R:=⟨_,rfl⟩
 rw[hR]
 refine A6 Tryz.func125 Tryz.ntmps125 ?_
 refine A0 hw1 ?_
 refine AG (κ:=Nat×ByteArray) (fun k=>⟨mkS 0 79 [(0,.c (.str s)),(1,.c (.int .i64 i)),(4,.ptr (4,0) 0),(5,.c (.str k.2)),(6,.c (.int .i64 k.1))],[((4,0),.box [.nils,.c (.str ByteArray.empty),.c (.int .i64 0),.c (.int .i64 0),.c (.int .i64 0)])]⟩)
  (fun k=>k.1≤s.size∧k.2.size≤k.1∧∃n,s.size-k.1<n∧CU s i n k.1 k.2=R) (fun k=>s.size-k.1) (i+1,ByteArray.empty) ⟨by dsimp only;omega,Nat.zero_le _,s.size+1,by dsimp only;omega,hR⟩ ?_ ?_
 ·exact Aq (As.of [((4,0),(4,0))] []) hw1
 ·rintro⟨k,out⟩ ⟨hk,hout,n,hn,hgo⟩
  dsimp only at hk hout hn hgo ⊢
  obtain⟨n,rfl⟩:∃m,n=m+1:=⟨n-1,by omega⟩
  unfold CU at hgo
  by_cases hlt:k<s.size
  ·have hdk:decide ((k:Int)<(s.size:Int))=true:=by simpa using hlt
   have hdg:decide ((k:Int)≥(s.size:Int))=false:=decide_eq_false (by omega)
   rw[if_neg (by omega)]at hgo
   obtain⟨b,hg,hb⟩:=Aw hlt
   have hbn:((b.toNat:Nat):Int)=((bAt s k:Nat):Int):=by rw[hb]
   by_cases h34:bAt s k=34
   ·have e34:(((bAt s k:Nat):Int) != 34)=false:=by simp[h34]
    rw[if_pos h34]at hgo
    by_cases h60:60<out.size
    ·have g60:decide ((out.size:Int)>60)=true:=decide_eq_true (by omega)
     rw[if_pos h60]at hgo
     subst hgo
     have hbad:=Bs 2 i
     unfold rdT
     unfold B9 at hbad ⊢
     refine A0 (j6 hdk hg hbn e34 hdg g60) ?_
     refine w7 (A3 [] hbad) trivial ?_
     refine A0 trivial ?_
     exact Am (A7 []) Tryz.results125
    ·have g60:decide ((out.size:Int)>60)=false:=decide_eq_false (by omega)
     rw[if_neg h60]at hgo
     subst hgo
     have hwk:=Ae (k:=k) (by omega)
     unfold rdT Dk
     refine A0 (j7 hdk hg hbn e34 hdg g60 hwk) ?_
     exact Am (A7 []) Tryz.results125
   ·have e34:(((bAt s k:Nat):Int) != 34)=true:=by simp;omega
    rw[if_neg h34]at hgo
    by_cases hr:bAt s k<32∨126<bAt s k
    ·rw[if_pos hr]at hgo
     subst hgo
     have hbad:=Bs 5 k
     unfold rdT
     unfold B9 at hbad ⊢
     by_cases h32:bAt s k<32
     ·have g32:decide (((bAt s k:Nat):Int)<32)=true:=decide_eq_true (by omega)
      refine A0 (j5 hdk hg hbn e34 g32) ?_
      refine w7 (A3 [] hbad) trivial ?_
      refine A0 trivial ?_
      exact Am (A7 []) Tryz.results125
     ·have g32:decide (((bAt s k:Nat):Int)<32)=false:=decide_eq_false (by omega)
      have g126:decide (((bAt s k:Nat):Int)>126)=true:=decide_eq_true (by omega)
      refine A0 (j6 hdk hg hbn e34 g32 g126) ?_
      refine w7 (A3 [] hbad) trivial ?_
      refine A0 trivial ?_
      exact Am (A7 []) Tryz.results125
    ·rw[if_neg hr]at hgo
     have g32:decide (((bAt s k:Nat):Int)<32)=false:=decide_eq_false (by omega)
     have g126:decide (((bAt s k:Nat):Int)>126)=false:=decide_eq_false (by omega)
     by_cases h92:bAt s k=92
     ·have e92:(((bAt s k:Nat):Int) != 92)=false:=by simp[h92]
      rw[if_neg (by simp[h92])]at hgo
      have hesc:=Q3 s hs k hlt
      have hf:=Ju hlt
      cases hE:EJ s k with
      |bad c p =>
       rw[hE]at hgo hesc hf
       simp only at hgo
       subst hgo
       have hc0:(c != 0)=true:=by simpa using Bq hf.1
       unfold rdT
       unfold Lt at hesc
       unfold B9 at hesc ⊢
       refine A0 (j7 hdk hg hbn e34 g32 g126 e92) ?_
       refine w7 (A3 [] hesc) trivial ?_
       refine A0 hc0 ?_
       exact Am (A7 []) Tryz.results125
      |ok c e =>
       rw[hE]at hgo hesc hf
       simp only at hgo
       obtain⟨f1,f2,f3,f4⟩:=hf
       unfold Lt Dk at hesc
       have hcb:((c:Nat):Int)=(((UInt8.ofNat c).toNat:Nat):Int):=by
        rw[UInt8.toNat_ofNat',Nat.mod_eq_of_lt (by omega)]
       have hb1:AF [UInt8.ofNat c]=[[C.int .u8 (c:Int)]]:=by simp only[AF,List.map_cons,List.map_nil];rw[←hcb]
       have hy:(⟨[UInt8.ofNat c].toArray⟩:ByteArray)=BF c:=rfl
       have hx1:out.size+(BF c).size≤9223372036854775807:=by rw[GC];omega
       refine A0 (j7 hdk hg hbn e34 g32 g126 e92) ?_
       refine w7 (A3 [] hesc) trivial ?_
       refine A0 h00 ?_
       (apply (Ot [UInt8.ofNat c] hy (by simp) t1 t2 t3);(focus (first | (simp only[go_sem,Nat.reduceEqDiff,Nat.reduceAdd,Nat.reduceSub,Nat.reduceLeDiff,Nat.reduceMul,Nat.reduceBEq,Nat.reduceLT,Int.reduceToNat,reduceCtorEq];first | done | exact rfl | (and_intros<;>rfl)) | exact rfl | decide));(focus (first | (simp only[go_sem,Nat.reduceEqDiff,Nat.reduceAdd,Nat.reduceSub,Nat.reduceLeDiff,Nat.reduceMul,Nat.reduceBEq,Nat.reduceLT,Int.reduceToNat,reduceCtorEq];first | done | exact rfl | (and_intros<;>rfl)) | exact rfl | decide));(focus (first | (simp only[go_sem,Nat.reduceEqDiff,Nat.reduceAdd,Nat.reduceSub,Nat.reduceLeDiff,Nat.reduceMul,Nat.reduceBEq,Nat.reduceLT,Int.reduceToNat,reduceCtorEq];first | done | exact rfl | (and_intros<;>rfl)) | exact rfl | decide));(focus (first | (simp only[go_sem,Nat.reduceEqDiff,Nat.reduceAdd,Nat.reduceSub,Nat.reduceLeDiff,Nat.reduceMul,Nat.reduceBEq,Nat.reduceLT,Int.reduceToNat,reduceCtorEq,hb1];first | done | exact rfl | (and_intros<;>rfl)) | exact rfl | decide));(focus (first | (simp only[go_sem,Nat.reduceEqDiff,Nat.reduceAdd,Nat.reduceSub,Nat.reduceLeDiff,Nat.reduceMul,Nat.reduceBEq,Nat.reduceLT,Int.reduceToNat,reduceCtorEq];first | done | exact rfl | (and_intros<;>rfl)) | exact rfl | decide));(focus (first | (simp only[go_sem,Nat.reduceEqDiff,Nat.reduceAdd,Nat.reduceSub,Nat.reduceLeDiff,Nat.reduceMul,Nat.reduceBEq,Nat.reduceLT,Int.reduceToNat,reduceCtorEq];first | done | exact rfl | (and_intros<;>rfl)) | exact rfl | decide)))
       refine A0 hx1 ?_
       refine⟨(e,out++BF c),?_,⟨f2,?_,n,?_,hgo⟩,?_⟩
       ·dsimp only;omega
       ·dsimp only;rw[DN];omega
       ·dsimp only;omega
       exact Aq (As.of [((4,0),(4,0))] []) trivial
     ·have e92:(((bAt s k:Nat):Int) != 92)=true:=by simp;omega
      rw[if_pos (by simpa using h92)]at hgo
      have hwk:=Ae (k:=k) (by omega)
      have hx1:out.size+(BF (bAt s k)).size≤9223372036854775807:=by rw[GC];omega
      have hsb:s.extract ((k:Nat):Int).toNat ((k+1:Nat):Int).toNat=BF (bAt s k):=SL hlt
      refine A0 (j8 hdk hg hbn e34 g32 g126 e92 hwk) ?_
      refine w7 (Dt (y:=BF (bAt s k)) (i:=(k:Int)) (j:=((k+1:Nat):Int)) (s:=s) hsb (by omega) (by omega) (by omega) t3) trivial ?_
      refine A0 (j2 hx1 hwk) ?_
      refine⟨(k+1,out++BF (bAt s k)),?_,⟨?_,?_,n,?_,hgo⟩,?_⟩
      ·dsimp only;omega
      ·dsimp only;omega
      ·dsimp only;rw[DN];omega
      ·dsimp only;omega
      exact Aq (As.of [((4,0),(4,0))] []) hwk
  ·have hdk:decide ((k:Int)<(s.size:Int))=false:=by simpa using hlt
   have hdg:decide ((k:Int)≥(s.size:Int))=true:=decide_eq_true (by omega)
   rw[if_pos (by omega)]at hgo
   subst hgo
   have hbad:=Bs 5 s.size
   unfold rdT
   unfold B9 at hbad ⊢
   refine A0 (j2 hdk hdg) ?_
   refine w7 (A3 [] hbad) trivial ?_
   refine A0 trivial ?_
   exact Am (A7 []) Tryz.results125
def RR (s:ByteArray) (i:Nat):Rd ByteArray:=match E4 s i with
 | .bad c p=>.bad c p
 | .ok k e=>if bAt s (Af s e)≠58 then .bad 5 (Af s e) else .ok k (Af s e+1)
theorem PQ (s:ByteArray) (hs:s.size≤1000000) (i:Nat) (hi:i≤s.size):AC Tryz.prog 189 [.c (.str s),.c (.int .i64 i)] [] (rdT (RR s i)) []:=by
 have hbad:=Bs 5 i
 have h00:((0:Int) != 0)=false:=rfl
 unfold RR
 by_cases hlt:i<s.size
 ·have hdg:decide ((i:Int)≥(s.size:Int))=false:=decide_eq_false (by omega)
  obtain⟨b,hg,hb⟩:=Aw hlt
  have hbn:((b.toNat:Nat):Int)=((bAt s i:Nat):Int):=by rw[hb]
  by_cases h34:bAt s i=34
  ·have e34:(((bAt s i:Nat):Int) != 34)=false:=by simp[h34]
   have hst:=K6 s hs i hlt
   have hsf:=Ep hi
   have hsr:E4 s i=CU s i (s.size+1) (i+1) ByteArray.empty:=by unfold E4;rw[if_neg (by simp[h34])]
   rw[←hsr]at hst
   cases hR:E4 s i with
   |bad c p =>
    rw[hR]at hst hsf
    have hc0:(c != 0)=true:=by simpa using Bq hsf.1
    simp only
    unfold rdT at hst ⊢
    unfold B9 at hst ⊢
    refine A6 Tryz.func189 Tryz.ntmps189 ?_
    refine A0 (j4 hdg hg hbn e34) ?_
    refine w7 (A3 [] hst) trivial ?_
    refine A0 hc0 ?_
    exact Am (A7 []) Tryz.results189
   |ok k e =>
    rw[hR]at hst hsf
    obtain⟨f1,f2,_⟩:=hsf
    have hsk:=Dc s hs e f2
    obtain⟨g1,g2,_⟩:=AM f2
    simp only
    unfold rdT at hst
    unfold Dk at hst
    have hbad:=Bs 5 (Af s e)
    generalize Af s e=j at *
    by_cases h58:bAt s j=58
    ·have hj:=CP (s:=s) (i:=j) (by omega)
     have hdj:decide ((j:Int)≥(s.size:Int))=false:=decide_eq_false (by omega)
     obtain⟨b2,hg2,hb2⟩:=Aw hj
     have hbn2:(((b2.toNat:Nat):Int) != 58)=false:=by rw[←hb2,h58];rfl
     have hwj:=Ae (k:=j) (by omega)
     rw[if_neg (by simp[h58])]
     unfold rdT Dk
     refine A6 Tryz.func189 Tryz.ntmps189 ?_
     refine A0 (j4 hdg hg hbn e34) ?_
     refine w7 (A3 [] hst) trivial ?_
     refine A0 h00 ?_
     refine w7 (A3 [] hsk) trivial ?_
     refine A0 (j4 hdj hg2 hbn2 hwj) ?_
     exact Am (A7 []) Tryz.results189
    ·rw[if_pos (by simpa using h58)]
     unfold rdT
     unfold B9 at hbad ⊢
     by_cases hj:j<s.size
     ·have hdj:decide ((j:Int)≥(s.size:Int))=false:=decide_eq_false (by omega)
      obtain⟨b2,hg2,hb2⟩:=Aw hj
      have hbn2:(((b2.toNat:Nat):Int) != 58)=true:=by rw[←hb2];simp;omega
      refine A6 Tryz.func189 Tryz.ntmps189 ?_
      refine A0 (j4 hdg hg hbn e34) ?_
      refine w7 (A3 [] hst) trivial ?_
      refine A0 h00 ?_
      refine w7 (A3 [] hsk) trivial ?_
      refine A0 (j3 hdj hg2 hbn2) ?_
      refine w7 (A3 [] hbad) trivial ?_
      refine A0 trivial ?_
      exact Am (A7 []) Tryz.results189
     ·have hdj:decide ((j:Int)≥(s.size:Int))=true:=decide_eq_true (by omega)
      refine A6 Tryz.func189 Tryz.ntmps189 ?_
      refine A0 (j4 hdg hg hbn e34) ?_
      refine w7 (A3 [] hst) trivial ?_
      refine A0 h00 ?_
      refine w7 (A3 [] hsk) trivial ?_
      refine A0 hdj ?_
      refine w7 (A3 [] hbad) trivial ?_
      refine A0 trivial ?_
      exact Am (A7 []) Tryz.results189
  ·have e34:(((bAt s i:Nat):Int) != 34)=true:=by simp;omega
   have hsr:E4 s i=.bad 5 i:=by unfold E4;rw[if_pos (by simpa using h34)]
   rw[hsr]
   simp only
   unfold rdT
   unfold B9 at hbad ⊢
   refine A6 Tryz.func189 Tryz.ntmps189 ?_
   refine A0 (j4 hdg hg hbn e34) ?_
   refine w7 (A3 [] hbad) trivial ?_
   refine A0 trivial ?_
   exact Am (A7 []) Tryz.results189
 ·have hdg:decide ((i:Int)≥(s.size:Int))=true:=decide_eq_true (by omega)
  have hsr:E4 s i=.bad 5 i:=by unfold E4;rw[if_pos (by rw[BX (by omega)];decide)]
  rw[hsr]
  simp only
  unfold rdT
  unfold B9 at hbad ⊢
  refine A6 Tryz.func189 Tryz.ntmps189 ?_
  refine A0 hdg ?_
  refine w7 (A3 [] hbad) trivial ?_
  refine A0 trivial ?_
  exact Am (A7 []) Tryz.results189
end
end Go.Proofs.YtllfmaflodbieaaGreatDoor
