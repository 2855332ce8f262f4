/- The reference's reader: strings. -/
import Derived.Test.YtlciedpfjhkkdaaGreatDoorKD08
set_option linter.all false
set_option maxHeartbeats 8000000
namespace Go.Proofs.YtlciedpfjhkkdaaGreatDoor
open Go.RowKit
set_option maxRecDepth 10000
def rdT (R:Rd ByteArray):AV:=match R with
 | .ok t e=>CV .nils t e
 | .bad c p=>AP c p
theorem O4 {s:ByteArray}{i:Nat}(h:i<s.size):s.extract i (i+1)=Bx (bAt s i):=by
 obtain⟨b,h1,h2⟩:=Ar h
 rw[h2]
 unfold Bx
 have h3:=h1
 rw[getElem?_pos s i h]at h3
 cases h3
 apply ByteArray.ext
 apply Array.toList_inj.1
 rw[show (⟨#[UInt8.ofNat s[i].toNat]⟩:ByteArray).data = #[UInt8.ofNat s[i].toNat] from rfl,UInt8.ofNat_toNat]
 show (s.extract i (i+1)).data.toList=[s[i]]
 rw[Cq,List.take_succ_eq_append_getElem (by simpa using h),List.drop_append_of_le_length (by simp;omega),List.drop_eq_nil_of_le (by rw[List.length_take];exact Nat.min_le_left _ _)]
 rfl
theorem H8 (s:ByteArray) (hs:s.size≤1000000) (i:Nat) (hi:i<s.size):AC Tryz.prog 75 [.c (.str s),.c (.int .i64 i)] [] (rdT (Dx s i (s.size+1) (i+1) ByteArray.empty)) []:=by
 have t3:=Tryz.underlying9
 have t1:=Tryz.underlying29
 have t2:=Tryz.underlying5
 have hw1:=Ae (k:=i) (by omega)
 have h00:((0:Int) != 0)=false:=rfl
 obtain⟨R,hR⟩:∃R,Dx s i (s.size+1) (i+1) ByteArray.empty=R:=⟨_,rfl⟩
 rw[hR]
 refine A7 Tryz.func75 Tryz.ntmps75 ?_
 refine A0 hw1 ?_
 refine AH (κ:=Nat×ByteArray) (fun k=>⟨mkS 0 79 [(0,.c (.str s)),(1,.c (.int .i64 i)),(4,.ptr (4,0) 0),(5,.c (.str k.2)),(6,.c (.int .i64 k.1))],[((4,0),.box [.nils,.c (.str ByteArray.empty),.c (.int .i64 0),.c (.int .i64 0),.c (.int .i64 0)])]⟩)
  (fun k=>k.1≤s.size∧k.2.size≤k.1∧∃n,s.size-k.1<n∧Dx s i n k.1 k.2=R) (fun k=>s.size-k.1) (i+1,ByteArray.empty) ⟨by dsimp only;omega,Nat.zero_le _,s.size+1,by dsimp only;omega,hR⟩ ?_ ?_
 ·exact Ao (Ay.of [((4,0),(4,0))] []) hw1
 ·rintro⟨k,out⟩ ⟨hk,hout,n,hn,hgo⟩
  dsimp only at hk hout hn hgo ⊢
  obtain⟨n,rfl⟩:∃m,n=m+1:=⟨n-1,by omega⟩
  unfold Dx at hgo
  by_cases hlt:k<s.size
  ·have hdk:decide ((k:Int)<(s.size:Int))=true:=by simpa using hlt
   have hdg:decide ((k:Int)≥(s.size:Int))=false:=decide_eq_false (by omega)
   rw[if_neg (by omega)]at hgo
   obtain⟨b,hg,hb⟩:=Ar hlt
   have hbn:((b.toNat:Nat):Int)=((bAt s k:Nat):Int):=by rw[hb]
   by_cases h34:bAt s k=34
   ·have e34:(((bAt s k:Nat):Int) != 34)=false:=by simp[h34]
    rw[if_pos h34]at hgo
    by_cases h60:60<out.size
    ·have g60:decide ((out.size:Int)>60)=true:=decide_eq_true (by omega)
     rw[if_pos h60]at hgo
     subst hgo
     have hbad:=AZ 2 i
     unfold rdT
     unfold AP at hbad ⊢
     refine A0 (j6 hdk hg hbn e34 hdg g60) ?_
     refine w7 (A4 [] hbad) trivial ?_
     refine A0 trivial ?_
     exact Al (A6 []) Tryz.results75
    ·have g60:decide ((out.size:Int)>60)=false:=decide_eq_false (by omega)
     rw[if_neg h60]at hgo
     subst hgo
     have hwk:=Ae (k:=k) (by omega)
     unfold rdT CV
     refine A0 (j7 hdk hg hbn e34 hdg g60 hwk) ?_
     exact Al (A6 []) Tryz.results75
   ·have e34:(((bAt s k:Nat):Int) != 34)=true:=by simp;omega
    rw[if_neg h34]at hgo
    by_cases hr:bAt s k<32∨126<bAt s k
    ·rw[if_pos hr]at hgo
     subst hgo
     have hbad:=AZ 5 k
     unfold rdT
     unfold AP at hbad ⊢
     by_cases h32:bAt s k<32
     ·have g32:decide (((bAt s k:Nat):Int)<32)=true:=decide_eq_true (by omega)
      refine A0 (j5 hdk hg hbn e34 g32) ?_
      refine w7 (A4 [] hbad) trivial ?_
      refine A0 trivial ?_
      exact Al (A6 []) Tryz.results75
     ·have g32:decide (((bAt s k:Nat):Int)<32)=false:=decide_eq_false (by omega)
      have g126:decide (((bAt s k:Nat):Int)>126)=true:=decide_eq_true (by omega)
      refine A0 (j6 hdk hg hbn e34 g32 g126) ?_
      refine w7 (A4 [] hbad) trivial ?_
      refine A0 trivial ?_
      exact Al (A6 []) Tryz.results75
    ·rw[if_neg hr]at hgo
     have g32:decide (((bAt s k:Nat):Int)<32)=false:=decide_eq_false (by omega)
     have g126:decide (((bAt s k:Nat):Int)>126)=false:=decide_eq_false (by omega)
     by_cases h92:bAt s k=92
     ·have e92:(((bAt s k:Nat):Int) != 92)=false:=by simp[h92]
      rw[if_neg (by simp[h92])]at hgo
      have hesc:=LN s hs k hlt
      have hf:=GN hlt
      cases hE:Eb s k with
      |bad c p =>
       rw[hE]at hgo hesc hf
       simp only at hgo
       subst hgo
       have hc0:(c != 0)=true:=by simpa using AS hf.1
       unfold rdT
       unfold Ir at hesc
       unfold AP at hesc ⊢
       refine A0 (j7 hdk hg hbn e34 g32 g126 e92) ?_
       refine w7 (A4 [] hesc) trivial ?_
       refine A0 hc0 ?_
       exact Al (A6 []) Tryz.results75
      |ok c e =>
       rw[hE]at hgo hesc hf
       simp only at hgo
       obtain⟨f1,f2,f3,f4⟩:=hf
       unfold Ir CV at hesc
       have hcb:((c:Nat):Int)=(((UInt8.ofNat c).toNat:Nat):Int):=by
        rw[UInt8.toNat_ofNat',Nat.mod_eq_of_lt (by omega)]
       have hb1:AD [UInt8.ofNat c]=[[C.int .u8 (c:Int)]]:=by simp only[AD,List.map_cons,List.map_nil];rw[←hcb]
       have hy:(⟨[UInt8.ofNat c].toArray⟩:ByteArray)=Bx c:=rfl
       have hx1:out.size+(Bx c).size≤9223372036854775807:=by rw[EV];omega
       refine A0 (j7 hdk hg hbn e34 g32 g126 e92) ?_
       refine w7 (A4 [] hesc) trivial ?_
       refine A0 h00 ?_
       (apply (RW [UInt8.ofNat c] hy (by simp) t1 t2 t3);(focus (first | (simp only[go_sem,Nat.reduceEqDiff,Nat.reduceAdd,Nat.reduceSub,Nat.reduceLeDiff,Nat.reduceMul,Nat.reduceBEq,Nat.reduceLT,Int.reduceToNat,reduceCtorEq];first | done | exact rfl | (and_intros<;>rfl)) | exact rfl | decide));(focus (first | (simp only[go_sem,Nat.reduceEqDiff,Nat.reduceAdd,Nat.reduceSub,Nat.reduceLeDiff,Nat.reduceMul,Nat.reduceBEq,Nat.reduceLT,Int.reduceToNat,reduceCtorEq];first | done | exact rfl | (and_intros<;>rfl)) | exact rfl | decide));(focus (first | (simp only[go_sem,Nat.reduceEqDiff,Nat.reduceAdd,Nat.reduceSub,Nat.reduceLeDiff,Nat.reduceMul,Nat.reduceBEq,Nat.reduceLT,Int.reduceToNat,reduceCtorEq];first | done | exact rfl | (and_intros<;>rfl)) | exact rfl | decide));(focus (first | (simp only[go_sem,Nat.reduceEqDiff,Nat.reduceAdd,Nat.reduceSub,Nat.reduceLeDiff,Nat.reduceMul,Nat.reduceBEq,Nat.reduceLT,Int.reduceToNat,reduceCtorEq,hb1];first | done | exact rfl | (and_intros<;>rfl)) | exact rfl | decide));(focus (first | (simp only[go_sem,Nat.reduceEqDiff,Nat.reduceAdd,Nat.reduceSub,Nat.reduceLeDiff,Nat.reduceMul,Nat.reduceBEq,Nat.reduceLT,Int.reduceToNat,reduceCtorEq];first | done | exact rfl | (and_intros<;>rfl)) | exact rfl | decide));(focus (first | (simp only[go_sem,Nat.reduceEqDiff,Nat.reduceAdd,Nat.reduceSub,Nat.reduceLeDiff,Nat.reduceMul,Nat.reduceBEq,Nat.reduceLT,Int.reduceToNat,reduceCtorEq];first | done | exact rfl | (and_intros<;>rfl)) | exact rfl | decide)))
       refine A0 hx1 ?_
       refine⟨(e,out++Bx c),?_,⟨f2,?_,n,?_,hgo⟩,?_⟩
       ·dsimp only;omega
       ·dsimp only;rw[Dh];omega
       ·dsimp only;omega
       exact Ao (Ay.of [((4,0),(4,0))] []) trivial
     ·have e92:(((bAt s k:Nat):Int) != 92)=true:=by simp;omega
      rw[if_pos (by simpa using h92)]at hgo
      have hwk:=Ae (k:=k) (by omega)
      have hx1:out.size+(Bx (bAt s k)).size≤9223372036854775807:=by rw[EV];omega
      have hsb:s.extract ((k:Nat):Int).toNat ((k+1:Nat):Int).toNat=Bx (bAt s k):=O4 hlt
      refine A0 (j8 hdk hg hbn e34 g32 g126 e92 hwk) ?_
      refine w7 (Ds (y:=Bx (bAt s k)) (i:=(k:Int)) (j:=((k+1:Nat):Int)) (s:=s) hsb (by omega) (by omega) (by omega) t3) trivial ?_
      refine A0 (j2 hx1 hwk) ?_
      refine⟨(k+1,out++Bx (bAt s k)),?_,⟨?_,?_,n,?_,hgo⟩,?_⟩
      ·dsimp only;omega
      ·dsimp only;omega
      ·dsimp only;rw[Dh];omega
      ·dsimp only;omega
      exact Ao (Ay.of [((4,0),(4,0))] []) hwk
  ·have hdk:decide ((k:Int)<(s.size:Int))=false:=by simpa using hlt
   have hdg:decide ((k:Int)≥(s.size:Int))=true:=decide_eq_true (by omega)
   rw[if_pos (by omega)]at hgo
   subst hgo
   have hbad:=AZ 5 s.size
   unfold rdT
   unfold AP at hbad ⊢
   refine A0 (j2 hdk hdg) ?_
   refine w7 (A4 [] hbad) trivial ?_
   refine A0 trivial ?_
   exact Al (A6 []) Tryz.results75
def Mq (s:ByteArray) (i:Nat):Rd ByteArray:=match Dl s i with
 | .bad c p=>.bad c p
 | .ok k e=>if bAt s (Aa s e)≠58 then .bad 5 (Aa s e) else .ok k (Aa s e+1)
theorem LE (s:ByteArray) (hs:s.size≤1000000) (i:Nat) (hi:i≤s.size):AC Tryz.prog 129 [.c (.str s),.c (.int .i64 i)] [] (rdT (Mq s i)) []:=by
 have hbad:=AZ 5 i
 have h00:((0:Int) != 0)=false:=rfl
 unfold Mq
 by_cases hlt:i<s.size
 ·have hdg:decide ((i:Int)≥(s.size:Int))=false:=decide_eq_false (by omega)
  obtain⟨b,hg,hb⟩:=Ar hlt
  have hbn:((b.toNat:Nat):Int)=((bAt s i:Nat):Int):=by rw[hb]
  by_cases h34:bAt s i=34
  ·have e34:(((bAt s i:Nat):Int) != 34)=false:=by simp[h34]
   have hst:=H8 s hs i hlt
   have hsf:=Df hi
   have hsr:Dl s i=Dx s i (s.size+1) (i+1) ByteArray.empty:=by unfold Dl;rw[if_neg (by simp[h34])]
   rw[←hsr]at hst
   cases hR:Dl s i with
   |bad c p =>
    rw[hR]at hst hsf
    have hc0:(c != 0)=true:=by simpa using AS hsf.1
    simp only
    unfold rdT at hst ⊢
    unfold AP at hst ⊢
    refine A7 Tryz.func129 Tryz.ntmps129 ?_
    refine A0 (j4 hdg hg hbn e34) ?_
    refine w7 (A4 [] hst) trivial ?_
    refine A0 hc0 ?_
    exact Al (A6 []) Tryz.results129
   |ok k e =>
    rw[hR]at hst hsf
    obtain⟨f1,f2,_⟩:=hsf
    have hsk:=BP s hs e f2
    obtain⟨g1,g2,_⟩:=AA f2
    simp only
    unfold rdT at hst
    unfold CV at hst
    have hbad:=AZ 5 (Aa s e)
    generalize Aa s e=j at *
    by_cases h58:bAt s j=58
    ·have hj:=C5 (s:=s) (i:=j) (by omega)
     have hdj:decide ((j:Int)≥(s.size:Int))=false:=decide_eq_false (by omega)
     obtain⟨b2,hg2,hb2⟩:=Ar hj
     have hbn2:(((b2.toNat:Nat):Int) != 58)=false:=by rw[←hb2,h58];rfl
     have hwj:=Ae (k:=j) (by omega)
     rw[if_neg (by simp[h58])]
     unfold rdT CV
     refine A7 Tryz.func129 Tryz.ntmps129 ?_
     refine A0 (j4 hdg hg hbn e34) ?_
     refine w7 (A4 [] hst) trivial ?_
     refine A0 h00 ?_
     refine w7 (A4 [] hsk) trivial ?_
     refine A0 (j4 hdj hg2 hbn2 hwj) ?_
     exact Al (A6 []) Tryz.results129
    ·rw[if_pos (by simpa using h58)]
     unfold rdT
     unfold AP at hbad ⊢
     by_cases hj:j<s.size
     ·have hdj:decide ((j:Int)≥(s.size:Int))=false:=decide_eq_false (by omega)
      obtain⟨b2,hg2,hb2⟩:=Ar hj
      have hbn2:(((b2.toNat:Nat):Int) != 58)=true:=by rw[←hb2];simp;omega
      refine A7 Tryz.func129 Tryz.ntmps129 ?_
      refine A0 (j4 hdg hg hbn e34) ?_
      refine w7 (A4 [] hst) trivial ?_
      refine A0 h00 ?_
      refine w7 (A4 [] hsk) trivial ?_
      refine A0 (j3 hdj hg2 hbn2) ?_
      refine w7 (A4 [] hbad) trivial ?_
      refine A0 trivial ?_
      exact Al (A6 []) Tryz.results129
     ·have hdj:decide ((j:Int)≥(s.size:Int))=true:=decide_eq_true (by omega)
      refine A7 Tryz.func129 Tryz.ntmps129 ?_
      refine A0 (j4 hdg hg hbn e34) ?_
      refine w7 (A4 [] hst) trivial ?_
      refine A0 h00 ?_
      refine w7 (A4 [] hsk) trivial ?_
      refine A0 hdj ?_
      refine w7 (A4 [] hbad) trivial ?_
      refine A0 trivial ?_
      exact Al (A6 []) Tryz.results129
  ·have e34:(((bAt s i:Nat):Int) != 34)=true:=by simp;omega
   have hsr:Dl s i=.bad 5 i:=by unfold Dl;rw[if_pos (by simpa using h34)]
   rw[hsr]
   simp only
   unfold rdT
   unfold AP at hbad ⊢
   refine A7 Tryz.func129 Tryz.ntmps129 ?_
   refine A0 (j4 hdg hg hbn e34) ?_
   refine w7 (A4 [] hbad) trivial ?_
   refine A0 trivial ?_
   exact Al (A6 []) Tryz.results129
 ·have hdg:decide ((i:Int)≥(s.size:Int))=true:=decide_eq_true (by omega)
  have hsr:Dl s i=.bad 5 i:=by unfold Dl;rw[if_pos (by rw[Bn (by omega)];decide)]
  rw[hsr]
  simp only
  unfold rdT
  unfold AP at hbad ⊢
  refine A7 Tryz.func129 Tryz.ntmps129 ?_
  refine A0 hdg ?_
  refine w7 (A4 [] hbad) trivial ?_
  refine A0 trivial ?_
  exact Al (A6 []) Tryz.results129
end Go.Proofs.YtlciedpfjhkkdaaGreatDoor
