/- Texts of this proof: D08 D09. -/
import Derived.Test.YtlciedpfjhkkdaaGreatDoorKD03uD07
set_option linter.all false
set_option maxHeartbeats 8000000
namespace Go.Proofs.YtlciedpfjhkkdaaGreatDoor
section
open Go.RowKit
set_option maxRecDepth 10000
def escA (R:Rd Nat):AV:=match R with
 | .ok b e=>.tup [.c (.int .u8 b),rdOk .nils ByteArray.empty e]
 | .bad c p=>.tup [.c (.int .u8 0),rdBad c p]
def wantB (j:Nat):Nat:=if j=0 then 117 else 48
theorem wantB_at {k:Nat}(h:k<3):∃b:UInt8,(⟨#[117,48,48]⟩:ByteArray)[k]? = some b∧((b.toNat:Nat):Int)=(wantB k:Nat):=by
 have:k=0∨k=1∨k=2:=by omega
 rcases this with rfl | rfl | rfl
 ·exact⟨117,rfl,rfl⟩
 ·exact⟨48,rfl,rfl⟩
 ·exact⟨48,rfl,rfl⟩
section
variable {s:ByteArray} {i:Nat}
theorem esc_want (h:¬(bAt s (i+1)=34∨bAt s (i+1)=92∨bAt s (i+1)=47)) {k:Nat}(hk:k<3) (hp:∀j,j<k→bAt s (i+1+j)=wantB j) (hn:bAt s (i+1+k)≠wantB k):escR s i=.bad 5 (i+1+k):=by
 unfold escR
 rw[if_neg h]
 have:k=0∨k=1∨k=2:=by omega
 rcases this with rfl | rfl | rfl
 ·have hn':bAt s (i+1)≠117:=hn
  rw[if_pos hn']
 ·rw[if_neg (by have:=hp 0 (by omega);simpa [wantB] using this),if_pos (by simpa [wantB] using hn)]
 ·rw[if_neg (by have:=hp 0 (by omega);simpa [wantB] using this),if_neg (by have:=hp 1 (by omega);simpa [wantB,Nat.add_assoc] using this),if_pos (by simpa [wantB,Nat.add_assoc] using hn)]
theorem esc_mid (h:¬(bAt s (i+1)=34∨bAt s (i+1)=92∨bAt s (i+1)=47)) (hp:∀j,j<3→bAt s (i+1+j)=wantB j):escR s i=if hexB (bAt s (i+4))<0 then .bad 5 (i+4) else if hexB (bAt s (i+5))<0 then .bad 5 (i+5)
 else if 32≤16*hexB (bAt s (i+4))+hexB (bAt s (i+5))∧16*hexB (bAt s (i+4))+hexB (bAt s (i+5))≤126 then .ok (16*hexB (bAt s (i+4))+hexB (bAt s (i+5))).toNat (i+6) else .bad 5 (i+4):=by
 unfold escR
 rw[if_neg h,if_neg (by have:=hp 0 (by omega);simpa [wantB] using this),if_neg (by have:=hp 1 (by omega);simpa [wantB,Nat.add_assoc] using this),if_neg (by have:=hp 2 (by omega);simpa [wantB,Nat.add_assoc] using this)]
end
theorem hexB_end {s:ByteArray}{j:Nat}(h:s.size≤j):hexB (bAt s j) = -1:=by rw[bAt_end h];rfl
theorem l2Escape_ac (s:ByteArray) (hs:s.size≤1000000) (i:Nat) (hi:i<s.size):AC Tryz.prog 131 [.c (.str s),.c (.int .i64 i)] [] (escA (escR s i)) []:=by
 have hw1:=wrap_succ (k:=i) (by omega)
 have hwn:∀n:Nat,n<10→IntKind.i64.wrap ((i:Int)+(n:Int))=((i+n:Nat):Int):=fun n hn=>wrap_plus (by omega)
 by_cases h1:i+1<s.size
 ·have g1:decide (((i+1:Nat):Int)≥(s.size:Int))=false:=decide_eq_false (by omega)
  obtain⟨b,hg,hb⟩:=bAt_in h1
  have hbn:((b.toNat:Nat):Int)=((bAt s (i+1):Nat):Int):=by rw[hb]
  have hw2:IntKind.i64.wrap ((i:Int)+2)=((i+2:Nat):Int):=hwn 2 (by omega)
  by_cases hq:bAt s (i+1)=34∨bAt s (i+1)=92∨bAt s (i+1)=47
  ·have hR:escR s i=.ok (bAt s (i+1)) (i+2):=by unfold escR;rw[if_pos hq]
   rw[hR]
   unfold escA rdOk
   rcases hq with hq | hq | hq
   ·have e1:(((bAt s (i+1):Nat):Int)==34)=true:=by simp[hq]
    refine wEnter Tryz.func131 Tryz.ntmps131 ?_
    refine wRUN (j6 hw1 g1 hg hbn hw2 e1) ?_
    exact wRet (ret_data []) Tryz.results131
   ·have e1:(((bAt s (i+1):Nat):Int)==34)=false:=by simp[hq]
    have e2:(((bAt s (i+1):Nat):Int)==92)=true:=by simp[hq]
    refine wEnter Tryz.func131 Tryz.ntmps131 ?_
    refine wRUN (j7 hw1 g1 hg hbn hw2 e1 e2) ?_
    exact wRet (ret_data []) Tryz.results131
   ·have e1:(((bAt s (i+1):Nat):Int)==34)=false:=by simp[hq]
    have e2:(((bAt s (i+1):Nat):Int)==92)=false:=by simp[hq]
    have e3:(((bAt s (i+1):Nat):Int)==47)=true:=by simp[hq]
    refine wEnter Tryz.func131 Tryz.ntmps131 ?_
    refine wRUN (j8 hw1 g1 hg hbn hw2 e1 e2 e3) ?_
    exact wRet (ret_data []) Tryz.results131
  ·have e1:(((bAt s (i+1):Nat):Int)==34)=false:=by simp;omega
   have e2:(((bAt s (i+1):Nat):Int)==92)=false:=by simp;omega
   have e3:(((bAt s (i+1):Nat):Int)==47)=false:=by simp;omega
   have hwant:=@esc_want s i hq
   have hmid:=@esc_mid s i hq
   obtain⟨R,hR⟩:∃R,escR s i=R:=⟨_,rfl⟩
   rw[hR]at hmid ⊢
   simp only[hR]at hwant
   refine wEnter Tryz.func131 Tryz.ntmps131 ?_
   refine wRUN (j7 hw1 g1 hg hbn e1 e2 e3) ?_
   refine a_loop (κ:=Nat) (fun k=>⟨mkS 0 111 [(0,.c (.str s)),(1,.c (.int .i64 i)),(4,.c (.int .u8 0)),(5,.ptr (5,0) 0),(7,.c (.str ⟨#[117,48,48]⟩)),(8,.c (.int .i64 k))],[((5,0),.box [.nils,.c (.str ByteArray.empty),.c (.int .i64 0),.c (.int .i64 0),.c (.int .i64 0)])]⟩)
    (fun k=>k≤3∧∀j,j<k→bAt s (i+1+j)=wantB j) (fun k=>3-k) 0 ⟨Nat.zero_le _,fun j hj=>absurd hj (by omega)⟩ ?_ ?_
   ·exact wSays (Says.of [((5,0),(5,0))] []) trivial
   ·rintro k ⟨hk,hp⟩
    by_cases hlt:k<3
    ·have hdk:decide ((k:Int)<3)=true:=decide_eq_true (by omega)
     have hwk:=wrap_succ (k:=k) (by omega)
     have hwp:IntKind.i64.wrap (((i+1:Nat):Int)+(k:Int))=((i+1+k:Nat):Int):=wrap_plus (by omega)
     obtain⟨bw,hgw,hbw⟩:=wantB_at hlt
     have hbad:=l2Bad_ac 5 (i+1+k)
     by_cases hin:i+1+k<s.size
     ·have hge:decide (((i+1+k:Nat):Int)≥(s.size:Int))=false:=decide_eq_false (by omega)
      obtain⟨b2,hg2,hb2⟩:=bAt_in hin
      have hbn2:((b2.toNat:Nat):Int)=((bAt s (i+1+k):Nat):Int):=by rw[hb2]
      by_cases heq:bAt s (i+1+k)=wantB k
      ·have hne:(((bAt s (i+1+k):Nat):Int) != ((wantB k:Nat):Int))=false:=by simp[heq]
       refine wRUN (j10 hdk hw1 hwp hge hg2 hbn2 hgw hbw hne hwk) ?_
       refine⟨k+1,by omega,⟨by omega,fun j hj=>?_⟩,?_⟩
       ·by_cases hjk:j=k
        ·rw[hjk];exact heq
        ·exact hp j (by omega)
       exact wSays (Says.of [((5,0),(5,0))] []) hwk
      ·have hne:(((bAt s (i+1+k):Nat):Int) != ((wantB k:Nat):Int))=true:=by simp;omega
       rw[hwant hlt hp heq]
       unfold escA
       unfold rdBad at hbad ⊢
       refine wRUN (j9 hdk hw1 hwp hge hg2 hbn2 hgw hbw hne) ?_
       refine w7 (op_data [] hbad) trivial ?_
       refine wRUN trivial ?_
       exact wRet (ret_data []) Tryz.results131
     ·have hge:decide (((i+1+k:Nat):Int)≥(s.size:Int))=true:=decide_eq_true (by omega)
      rw[hwant hlt hp (by rw[bAt_end (by omega)];unfold wantB;split<;>omega)]
      unfold escA
      unfold rdBad at hbad ⊢
      refine wRUN (j4 hdk hw1 hwp hge) ?_
      refine w7 (op_data [] hbad) trivial ?_
      refine wRUN trivial ?_
      exact wRet (ret_data []) Tryz.results131
    ·have hdk:decide ((k:Int)<3)=false:=decide_eq_false (by omega)
     have hmid:=hmid (fun j hj=>hp j (by omega))
     refine wRUN hdk ?_
     refine a_loop (κ:=Nat) (fun k=>⟨mkS 0 111 [(0,.c (.str s)),(1,.c (.int .i64 i)),(4,.c (.int .u8 0)),(5,.ptr (5,0) 0),(9,.c (.int .i64 k))],[((5,0),.box [.nils,.c (.str ByteArray.empty),.c (.int .i64 0),.c (.int .i64 0),.c (.int .i64 0)])]⟩)
      (fun k=>4≤k∧k≤6∧∀j,4≤j→j<k→i+j<s.size∧¬hexB (bAt s (i+j))<0) (fun k=>6-k) 4 ⟨Nat.le_refl _,by omega,fun j _ hj=>absurd hj (by omega)⟩ ?_ ?_
     ·exact wSays (Says.of [((5,0),(5,0))] []) trivial
     ·rintro m ⟨hm4,hm6,hp2⟩
      by_cases hlt2:m<6
      ·have hdm:decide ((m:Int)<6)=true:=decide_eq_true (by omega)
       have hwm:=wrap_succ (k:=m) (by omega)
       have hwim:IntKind.i64.wrap ((i:Int)+(m:Int))=((i+m:Nat):Int):=wrap_plus (by omega)
       have hbad:=l2Bad_ac 5 (i+m)
       have hRm:hexB (bAt s (i+m))<0→R=.bad 5 (i+m):=fun hneg=>by
        rw[hmid]
        by_cases h4:m=4
        ·subst h4;rw[if_pos hneg]
        ·have h5:m=5:=by omega
         subst h5
         rw[if_neg (hp2 4 (by omega) (by omega)).2,if_pos hneg]
       by_cases hin:i+m<s.size
       ·have hge:decide (((i+m:Nat):Int)≥(s.size:Int))=false:=decide_eq_false (by omega)
        obtain⟨b2,hg2,hb2⟩:=bAt_in hin
        have hbn2:((b2.toNat:Nat):Int)=((bAt s (i+m):Nat):Int):=by rw[hb2]
        have hx:=l2Hex_ac (bAt s (i+m)) (bAt_byte hin)
        by_cases hneg:hexB (bAt s (i+m))<0
        ·have hd:decide (hexB (bAt s (i+m))<0)=true:=by simpa using hneg
         rw[hRm hneg]
         unfold escA
         unfold rdBad at hbad ⊢
         refine wRUN (j5 hdm hwim hge hg2 hbn2) ?_
         refine w7 (op_data [] hx) trivial ?_
         refine wRUN (j2 hd hwim) ?_
         refine w7 (op_data [] hbad) trivial ?_
         refine wRUN trivial ?_
         exact wRet (ret_data []) Tryz.results131
        ·have hd:decide (hexB (bAt s (i+m))<0)=false:=by simpa using hneg
         refine wRUN (j5 hdm hwim hge hg2 hbn2) ?_
         refine w7 (op_data [] hx) trivial ?_
         refine wRUN (j2 hd hwm) ?_
         refine⟨m+1,by omega,⟨by omega,by omega,fun j hj1 hj2=>?_⟩,?_⟩
         ·by_cases hjm:j=m
          ·rw[hjm];exact⟨hin,hneg⟩
          ·exact hp2 j hj1 (by omega)
         exact wSays (Says.of [((5,0),(5,0))] []) hwm
       ·have hge:decide (((i+m:Nat):Int)≥(s.size:Int))=true:=decide_eq_true (by omega)
        rw[hRm (by rw[hexB_end (by omega)];omega)]
        unfold escA
        unfold rdBad at hbad ⊢
        refine wRUN (j3 hdm hwim hge) ?_
        refine w7 (op_data [] hbad) trivial ?_
        refine wRUN trivial ?_
        exact wRet (ret_data []) Tryz.results131
      ·have hdm:decide ((m:Int)<6)=false:=decide_eq_false (by omega)
       obtain⟨k4,n4⟩:=hp2 4 (by omega) (by omega)
       obtain⟨k5,n5⟩:=hp2 5 (by omega) (by omega)
       rw[if_neg n4,if_neg n5]at hmid
       obtain⟨_,_,x4,y4⟩:=hexB_in n4
       obtain⟨_,_,x5,y5⟩:=hexB_in n5
       have hw4:IntKind.i64.wrap ((i:Int)+4)=((i+4:Nat):Int):=hwn 4 (by omega)
       have hw5:IntKind.i64.wrap ((i:Int)+5)=((i+5:Nat):Int):=hwn 5 (by omega)
       have hw6:IntKind.i64.wrap ((i:Int)+6)=((i+6:Nat):Int):=hwn 6 (by omega)
       obtain⟨b4,hg4,hb4⟩:=bAt_in k4
       have hbn4:((b4.toNat:Nat):Int)=((bAt s (i+4):Nat):Int):=by rw[hb4]
       obtain⟨b5,hg5,hb5⟩:=bAt_in k5
       have hbn5:((b5.toNat:Nat):Int)=((bAt s (i+5):Nat):Int):=by rw[hb5]
       have hx4:=l2Hex_ac (bAt s (i+4)) (bAt_byte k4)
       have hx5:=l2Hex_ac (bAt s (i+5)) (bAt_byte k5)
       have hbad:=l2Bad_ac 5 (i+4)
       generalize hexB (bAt s (i+4))=p at *
       generalize hexB (bAt s (i+5))=q at *
       generalize bAt s (i+4)=c4 at *
       generalize bAt s (i+5)=c5 at *
       have wp:IntKind.i64.wrap (16*p)=16*p:=i64_in (by omega) (by omega)
       have wq:IntKind.i64.wrap (16*p+q)=16*p+q:=i64_in (by omega) (by omega)
       have hin:=l1In_ac (16*p+q) 32 126
       by_cases hok:32≤16*p+q∧16*p+q≤126
       ·have hb1:(decide (16*p+q≥32)&&decide (16*p+q≤126))=true:=by simp;omega
        rw[hb1]at hin
        rw[if_pos hok]at hmid
        have wu:IntKind.u8.wrap (16*p+q)=(((16*p+q).toNat:Nat):Int):=by rw[u8_in (by omega) (by omega)];omega
        rw[hmid]
        unfold escA rdOk
        refine wRUN (j4 hdm hw4 hg4 hbn4) ?_
        refine w7 (op_data [] hx4) trivial ?_
        refine wRUN (j4 hw5 hg5 hbn5 wp) ?_
        refine w7 (op_data [] hx5) trivial ?_
        refine wRUN wq ?_
        refine w7 (op_data [] hin) trivial ?_
        refine wRUN (j2 wu hw6) ?_
        exact wRet (ret_data []) Tryz.results131
       ·have hb1:(decide (16*p+q≥32)&&decide (16*p+q≤126))=false:=by simp;omega
        rw[hb1]at hin
        rw[if_neg hok]at hmid
        rw[hmid]
        unfold escA
        unfold rdBad at hbad ⊢
        refine wRUN (j4 hdm hw4 hg4 hbn4) ?_
        refine w7 (op_data [] hx4) trivial ?_
        refine wRUN (j4 hw5 hg5 hbn5 wp) ?_
        refine w7 (op_data [] hx5) trivial ?_
        refine wRUN wq ?_
        refine w7 (op_data [] hin) trivial ?_
        refine wRUN hw4 ?_
        refine w7 (op_data [] hbad) trivial ?_
        refine wRUN trivial ?_
        exact wRet (ret_data []) Tryz.results131
 ·have g1:decide (((i+1:Nat):Int)≥(s.size:Int))=true:=decide_eq_true (by omega)
  have hse:s.size=i+1:=by omega
  have hR:escR s i=.bad 5 s.size:=by
   have hb:=bAt_end (s:=s) (i:=i+1) (by omega)
   unfold escR
   simp[hb,hse]
  have hbad:=l2Bad_ac 5 s.size
  rw[hR]
  unfold escA
  unfold rdBad at hbad ⊢
  refine wEnter Tryz.func131 Tryz.ntmps131 ?_
  refine wRUN (j2 hw1 g1) ?_
  refine w7 (op_data [] hbad) trivial ?_
  refine wRUN trivial ?_
  exact wRet (ret_data []) Tryz.results131
end
section
open Go.RowKit
set_option maxRecDepth 10000
def rdT (R:Rd ByteArray):AV:=match R with
 | .ok t e=>rdOk .nils t e
 | .bad c p=>rdBad c p
theorem sub_one {s:ByteArray}{i:Nat}(h:i<s.size):s.extract i (i+1)=bOne (bAt s i):=by
 obtain⟨b,h1,h2⟩:=bAt_in h
 rw[h2]
 unfold bOne
 have h3:=h1
 rw[getElem?_pos s i h]at h3
 cases h3
 apply ByteArray.ext
 apply Array.toList_inj.1
 rw[show (⟨#[UInt8.ofNat s[i].toNat]⟩:ByteArray).data = #[UInt8.ofNat s[i].toNat] from rfl,UInt8.ofNat_toNat]
 show (s.extract i (i+1)).data.toList=[s[i]]
 rw[ext_list,List.take_succ_eq_append_getElem (by simpa using h),List.drop_append_of_le_length (by simp;omega),List.drop_eq_nil_of_le (by rw[List.length_take];exact Nat.min_le_left _ _)]
 rfl
theorem l2String_ac (s:ByteArray) (hs:s.size≤1000000) (i:Nat) (hi:i<s.size):AC Tryz.prog 75 [.c (.str s),.c (.int .i64 i)] [] (rdT (strGo s i (s.size+1) (i+1) ByteArray.empty)) []:=by
 have t3:=Tryz.underlying9
 have t1:=Tryz.underlying29
 have t2:=Tryz.underlying5
 have hw1:=wrap_succ (k:=i) (by omega)
 have h00:((0:Int) != 0)=false:=rfl
 obtain⟨R,hR⟩:∃R,strGo s i (s.size+1) (i+1) ByteArray.empty=R:=⟨_,rfl⟩
 rw[hR]
 refine wEnter Tryz.func75 Tryz.ntmps75 ?_
 refine wRUN hw1 ?_
 refine a_loop (κ:=Nat×ByteArray) (fun k=>⟨mkS 0 79 [(0,.c (.str s)),(1,.c (.int .i64 i)),(4,.ptr (4,0) 0),(5,.c (.str k.2)),(6,.c (.int .i64 k.1))],[((4,0),.box [.nils,.c (.str ByteArray.empty),.c (.int .i64 0),.c (.int .i64 0),.c (.int .i64 0)])]⟩)
  (fun k=>k.1≤s.size∧k.2.size≤k.1∧∃n,s.size-k.1<n∧strGo s i n k.1 k.2=R) (fun k=>s.size-k.1) (i+1,ByteArray.empty) ⟨by dsimp only;omega,Nat.zero_le _,s.size+1,by dsimp only;omega,hR⟩ ?_ ?_
 ·exact wSays (Says.of [((4,0),(4,0))] []) hw1
 ·rintro⟨k,out⟩ ⟨hk,hout,n,hn,hgo⟩
  dsimp only at hk hout hn hgo ⊢
  obtain⟨n,rfl⟩:∃m,n=m+1:=⟨n-1,by omega⟩
  unfold strGo at hgo
  by_cases hlt:k<s.size
  ·have hdk:decide ((k:Int)<(s.size:Int))=true:=by simpa using hlt
   have hdg:decide ((k:Int)≥(s.size:Int))=false:=decide_eq_false (by omega)
   rw[if_neg (by omega)]at hgo
   obtain⟨b,hg,hb⟩:=bAt_in hlt
   have hbn:((b.toNat:Nat):Int)=((bAt s k:Nat):Int):=by rw[hb]
   by_cases h34:bAt s k=34
   ·have e34:(((bAt s k:Nat):Int) != 34)=false:=by simp[h34]
    rw[if_pos h34]at hgo
    by_cases h60:60<out.size
    ·have g60:decide ((out.size:Int)>60)=true:=decide_eq_true (by omega)
     rw[if_pos h60]at hgo
     subst hgo
     have hbad:=l2Bad_ac 2 i
     unfold rdT
     unfold rdBad at hbad ⊢
     refine wRUN (j6 hdk hg hbn e34 hdg g60) ?_
     refine w7 (op_data [] hbad) trivial ?_
     refine wRUN trivial ?_
     exact wRet (ret_data []) Tryz.results75
    ·have g60:decide ((out.size:Int)>60)=false:=decide_eq_false (by omega)
     rw[if_neg h60]at hgo
     subst hgo
     have hwk:=wrap_succ (k:=k) (by omega)
     unfold rdT rdOk
     refine wRUN (j7 hdk hg hbn e34 hdg g60 hwk) ?_
     exact wRet (ret_data []) Tryz.results75
   ·have e34:(((bAt s k:Nat):Int) != 34)=true:=by simp;omega
    rw[if_neg h34]at hgo
    by_cases hr:bAt s k<32∨126<bAt s k
    ·rw[if_pos hr]at hgo
     subst hgo
     have hbad:=l2Bad_ac 5 k
     unfold rdT
     unfold rdBad at hbad ⊢
     by_cases h32:bAt s k<32
     ·have g32:decide (((bAt s k:Nat):Int)<32)=true:=decide_eq_true (by omega)
      refine wRUN (j5 hdk hg hbn e34 g32) ?_
      refine w7 (op_data [] hbad) trivial ?_
      refine wRUN trivial ?_
      exact wRet (ret_data []) Tryz.results75
     ·have g32:decide (((bAt s k:Nat):Int)<32)=false:=decide_eq_false (by omega)
      have g126:decide (((bAt s k:Nat):Int)>126)=true:=decide_eq_true (by omega)
      refine wRUN (j6 hdk hg hbn e34 g32 g126) ?_
      refine w7 (op_data [] hbad) trivial ?_
      refine wRUN trivial ?_
      exact wRet (ret_data []) Tryz.results75
    ·rw[if_neg hr]at hgo
     have g32:decide (((bAt s k:Nat):Int)<32)=false:=decide_eq_false (by omega)
     have g126:decide (((bAt s k:Nat):Int)>126)=false:=decide_eq_false (by omega)
     by_cases h92:bAt s k=92
     ·have e92:(((bAt s k:Nat):Int) != 92)=false:=by simp[h92]
      rw[if_neg (by simp[h92])]at hgo
      have hesc:=l2Escape_ac s hs k hlt
      have hf:=escR_fine hlt
      cases hE:escR s k with
      |bad c p =>
       rw[hE]at hgo hesc hf
       simp only at hgo
       subst hgo
       have hc0:(c != 0)=true:=by simpa using rdCode_ne hf.1
       unfold rdT
       unfold escA at hesc
       unfold rdBad at hesc ⊢
       refine wRUN (j7 hdk hg hbn e34 g32 g126 e92) ?_
       refine w7 (op_data [] hesc) trivial ?_
       refine wRUN hc0 ?_
       exact wRet (ret_data []) Tryz.results75
      |ok c e =>
       rw[hE]at hgo hesc hf
       simp only at hgo
       obtain⟨f1,f2,f3,f4⟩:=hf
       unfold escA rdOk at hesc
       have hcb:((c:Nat):Int)=(((UInt8.ofNat c).toNat:Nat):Int):=by
        rw[UInt8.toNat_ofNat',Nat.mod_eq_of_lt (by omega)]
       have hb1:byteRows [UInt8.ofNat c]=[[C.int .u8 (c:Int)]]:=by simp only[byteRows,List.map_cons,List.map_nil];rw[←hcb]
       have hy:(⟨[UInt8.ofNat c].toArray⟩:ByteArray)=bOne c:=rfl
       have hx1:out.size+(bOne c).size≤9223372036854775807:=by rw[bOne_size];omega
       refine wRUN (j7 hdk hg hbn e34 g32 g126 e92) ?_
       refine w7 (op_data [] hesc) trivial ?_
       refine wRUN h00 ?_
       (apply (op_conv [UInt8.ofNat c] hy (by simp) t1 t2 t3);(focus (first | (simp only[go_sem,Nat.reduceEqDiff,Nat.reduceAdd,Nat.reduceSub,Nat.reduceLeDiff,Nat.reduceMul,Nat.reduceBEq,Nat.reduceLT,Int.reduceToNat,reduceCtorEq];first | done | exact rfl | (and_intros<;>rfl)) | exact rfl | decide));(focus (first | (simp only[go_sem,Nat.reduceEqDiff,Nat.reduceAdd,Nat.reduceSub,Nat.reduceLeDiff,Nat.reduceMul,Nat.reduceBEq,Nat.reduceLT,Int.reduceToNat,reduceCtorEq];first | done | exact rfl | (and_intros<;>rfl)) | exact rfl | decide));(focus (first | (simp only[go_sem,Nat.reduceEqDiff,Nat.reduceAdd,Nat.reduceSub,Nat.reduceLeDiff,Nat.reduceMul,Nat.reduceBEq,Nat.reduceLT,Int.reduceToNat,reduceCtorEq];first | done | exact rfl | (and_intros<;>rfl)) | exact rfl | decide));(focus (first | (simp only[go_sem,Nat.reduceEqDiff,Nat.reduceAdd,Nat.reduceSub,Nat.reduceLeDiff,Nat.reduceMul,Nat.reduceBEq,Nat.reduceLT,Int.reduceToNat,reduceCtorEq,hb1];first | done | exact rfl | (and_intros<;>rfl)) | exact rfl | decide));(focus (first | (simp only[go_sem,Nat.reduceEqDiff,Nat.reduceAdd,Nat.reduceSub,Nat.reduceLeDiff,Nat.reduceMul,Nat.reduceBEq,Nat.reduceLT,Int.reduceToNat,reduceCtorEq];first | done | exact rfl | (and_intros<;>rfl)) | exact rfl | decide));(focus (first | (simp only[go_sem,Nat.reduceEqDiff,Nat.reduceAdd,Nat.reduceSub,Nat.reduceLeDiff,Nat.reduceMul,Nat.reduceBEq,Nat.reduceLT,Int.reduceToNat,reduceCtorEq];first | done | exact rfl | (and_intros<;>rfl)) | exact rfl | decide)))
       refine wRUN hx1 ?_
       refine⟨(e,out++bOne c),?_,⟨f2,?_,n,?_,hgo⟩,?_⟩
       ·dsimp only;omega
       ·dsimp only;rw[snoc_size];omega
       ·dsimp only;omega
       exact wSays (Says.of [((4,0),(4,0))] []) trivial
     ·have e92:(((bAt s k:Nat):Int) != 92)=true:=by simp;omega
      rw[if_pos (by simpa using h92)]at hgo
      have hwk:=wrap_succ (k:=k) (by omega)
      have hx1:out.size+(bOne (bAt s k)).size≤9223372036854775807:=by rw[bOne_size];omega
      have hsb:s.extract ((k:Nat):Int).toNat ((k+1:Nat):Int).toNat=bOne (bAt s k):=sub_one hlt
      refine wRUN (j8 hdk hg hbn e34 g32 g126 e92 hwk) ?_
      refine w7 (op_sub (y:=bOne (bAt s k)) (i:=(k:Int)) (j:=((k+1:Nat):Int)) (s:=s) hsb (by omega) (by omega) (by omega) t3) trivial ?_
      refine wRUN (j2 hx1 hwk) ?_
      refine⟨(k+1,out++bOne (bAt s k)),?_,⟨?_,?_,n,?_,hgo⟩,?_⟩
      ·dsimp only;omega
      ·dsimp only;omega
      ·dsimp only;rw[snoc_size];omega
      ·dsimp only;omega
      exact wSays (Says.of [((4,0),(4,0))] []) hwk
  ·have hdk:decide ((k:Int)<(s.size:Int))=false:=by simpa using hlt
   have hdg:decide ((k:Int)≥(s.size:Int))=true:=decide_eq_true (by omega)
   rw[if_pos (by omega)]at hgo
   subst hgo
   have hbad:=l2Bad_ac 5 s.size
   unfold rdT
   unfold rdBad at hbad ⊢
   refine wRUN (j2 hdk hdg) ?_
   refine w7 (op_data [] hbad) trivial ?_
   refine wRUN trivial ?_
   exact wRet (ret_data []) Tryz.results75
def memR (s:ByteArray) (i:Nat):Rd ByteArray:=match strR s i with
 | .bad c p=>.bad c p
 | .ok k e=>if bAt s (skipB s e)≠58 then .bad 5 (skipB s e) else .ok k (skipB s e+1)
theorem l2Member_ac (s:ByteArray) (hs:s.size≤1000000) (i:Nat) (hi:i≤s.size):AC Tryz.prog 129 [.c (.str s),.c (.int .i64 i)] [] (rdT (memR s i)) []:=by
 have hbad:=l2Bad_ac 5 i
 have h00:((0:Int) != 0)=false:=rfl
 unfold memR
 by_cases hlt:i<s.size
 ·have hdg:decide ((i:Int)≥(s.size:Int))=false:=decide_eq_false (by omega)
  obtain⟨b,hg,hb⟩:=bAt_in hlt
  have hbn:((b.toNat:Nat):Int)=((bAt s i:Nat):Int):=by rw[hb]
  by_cases h34:bAt s i=34
  ·have e34:(((bAt s i:Nat):Int) != 34)=false:=by simp[h34]
   have hst:=l2String_ac s hs i hlt
   have hsf:=strR_fine hi
   have hsr:strR s i=strGo s i (s.size+1) (i+1) ByteArray.empty:=by unfold strR;rw[if_neg (by simp[h34])]
   rw[←hsr]at hst
   cases hR:strR s i with
   |bad c p =>
    rw[hR]at hst hsf
    have hc0:(c != 0)=true:=by simpa using rdCode_ne hsf.1
    simp only
    unfold rdT at hst ⊢
    unfold rdBad at hst ⊢
    refine wEnter Tryz.func129 Tryz.ntmps129 ?_
    refine wRUN (j4 hdg hg hbn e34) ?_
    refine w7 (op_data [] hst) trivial ?_
    refine wRUN hc0 ?_
    exact wRet (ret_data []) Tryz.results129
   |ok k e =>
    rw[hR]at hst hsf
    obtain⟨f1,f2,_⟩:=hsf
    have hsk:=l2Skip_ac s hs e f2
    obtain⟨g1,g2,_⟩:=skip_in f2
    simp only
    unfold rdT at hst
    unfold rdOk at hst
    have hbad:=l2Bad_ac 5 (skipB s e)
    generalize skipB s e=j at *
    by_cases h58:bAt s j=58
    ·have hj:=bAt_lt (s:=s) (i:=j) (by omega)
     have hdj:decide ((j:Int)≥(s.size:Int))=false:=decide_eq_false (by omega)
     obtain⟨b2,hg2,hb2⟩:=bAt_in hj
     have hbn2:(((b2.toNat:Nat):Int) != 58)=false:=by rw[←hb2,h58];rfl
     have hwj:=wrap_succ (k:=j) (by omega)
     rw[if_neg (by simp[h58])]
     unfold rdT rdOk
     refine wEnter Tryz.func129 Tryz.ntmps129 ?_
     refine wRUN (j4 hdg hg hbn e34) ?_
     refine w7 (op_data [] hst) trivial ?_
     refine wRUN h00 ?_
     refine w7 (op_data [] hsk) trivial ?_
     refine wRUN (j4 hdj hg2 hbn2 hwj) ?_
     exact wRet (ret_data []) Tryz.results129
    ·rw[if_pos (by simpa using h58)]
     unfold rdT
     unfold rdBad at hbad ⊢
     by_cases hj:j<s.size
     ·have hdj:decide ((j:Int)≥(s.size:Int))=false:=decide_eq_false (by omega)
      obtain⟨b2,hg2,hb2⟩:=bAt_in hj
      have hbn2:(((b2.toNat:Nat):Int) != 58)=true:=by rw[←hb2];simp;omega
      refine wEnter Tryz.func129 Tryz.ntmps129 ?_
      refine wRUN (j4 hdg hg hbn e34) ?_
      refine w7 (op_data [] hst) trivial ?_
      refine wRUN h00 ?_
      refine w7 (op_data [] hsk) trivial ?_
      refine wRUN (j3 hdj hg2 hbn2) ?_
      refine w7 (op_data [] hbad) trivial ?_
      refine wRUN trivial ?_
      exact wRet (ret_data []) Tryz.results129
     ·have hdj:decide ((j:Int)≥(s.size:Int))=true:=decide_eq_true (by omega)
      refine wEnter Tryz.func129 Tryz.ntmps129 ?_
      refine wRUN (j4 hdg hg hbn e34) ?_
      refine w7 (op_data [] hst) trivial ?_
      refine wRUN h00 ?_
      refine w7 (op_data [] hsk) trivial ?_
      refine wRUN hdj ?_
      refine w7 (op_data [] hbad) trivial ?_
      refine wRUN trivial ?_
      exact wRet (ret_data []) Tryz.results129
  ·have e34:(((bAt s i:Nat):Int) != 34)=true:=by simp;omega
   have hsr:strR s i=.bad 5 i:=by unfold strR;rw[if_pos (by simpa using h34)]
   rw[hsr]
   simp only
   unfold rdT
   unfold rdBad at hbad ⊢
   refine wEnter Tryz.func129 Tryz.ntmps129 ?_
   refine wRUN (j4 hdg hg hbn e34) ?_
   refine w7 (op_data [] hbad) trivial ?_
   refine wRUN trivial ?_
   exact wRet (ret_data []) Tryz.results129
 ·have hdg:decide ((i:Int)≥(s.size:Int))=true:=decide_eq_true (by omega)
  have hsr:strR s i=.bad 5 i:=by unfold strR;rw[if_pos (by rw[bAt_end (by omega)];decide)]
  rw[hsr]
  simp only
  unfold rdT
  unfold rdBad at hbad ⊢
  refine wEnter Tryz.func129 Tryz.ntmps129 ?_
  refine wRUN hdg ?_
  refine w7 (op_data [] hbad) trivial ?_
  refine wRUN trivial ?_
  exact wRet (ret_data []) Tryz.results129
end
end Go.Proofs.YtlciedpfjhkkdaaGreatDoor
