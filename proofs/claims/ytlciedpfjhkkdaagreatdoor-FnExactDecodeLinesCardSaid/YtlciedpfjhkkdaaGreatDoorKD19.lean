/- The program's reader: strings. -/
import Derived.Test.YtlciedpfjhkkdaaGreatDoorKD17uD18
set_option linter.all false
set_option maxHeartbeats 8000000
namespace Go.Proofs.YtlciedpfjhkkdaaGreatDoor
open Go.RowKit
set_option maxRecDepth 10000
variable {o1 o2:Obj}
theorem J0 (d:DS) (p:Nat):(d.go p).pl=p:=rfl
theorem Ru (d:DS) (p:Nat):(d.go p).code=d.code:=rfl
theorem NG {s:ByteArray}(d:DS) (hd:d.pl≤s.size):(d.escape s).1<256∧d.pl≤(d.escape s).2.pl∧(d.escape s).2.pl≤s.size:=by
 have htake:∀b,b<256→d.is s b=true→b<256∧d.pl≤(d.go (d.pl+1)).pl∧(d.go (d.pl+1)).pl≤s.size:=fun b hb h=>by
  obtain⟨h1,_,_⟩:=Ju hb h
  exact⟨hb,Nat.le_succ _,h1⟩
 have hp1:=FM (s:=s) (l:=[117,48,48]) (d:=d) (by decide) hd
 obtain⟨x1,x2,x3,hp2⟩:=HG (d.word s [117,48,48]) hp1.2
 obtain⟨y1,y2,y3,hp3⟩:=HG ((d.word s [117,48,48]).hex s).2 hp2
 have hz:=hp1.1
 unfold DS.escape
 by_cases h1:d.is s 34=true
 ·rw[if_pos h1];exact htake 34 (by decide) h1
 rw[if_neg h1]
 by_cases h2:d.is s 92=true
 ·rw[if_pos h2];exact htake 92 (by decide) h2
 rw[if_neg h2]
 by_cases h3:d.is s 47=true
 ·rw[if_pos h3];exact htake 47 (by decide) h3
 rw[if_neg h3]
 simp only
 refine⟨by omega,?_⟩
 split
 ·omega
 ·rw[BU];omega
theorem F5 (t:ByteArray) {n:Nat}(hn:n<256):AD (t++Bx n).data.toList=AD t.data.toList++[[.int .u8 (n:Int)]]:=by
 have hd:(t++Bx n).data=t.data++#[UInt8.ofNat n]:=ByteArray.data_append
 rw[hd,Array.toList_append]
 unfold AD
 rw[List.map_append]
 congr 1
 show [[C.int .u8 ((UInt8.ofNat n).toNat:Int)]]=_
 rw[UInt8.toNat_ofNat',Nat.mod_eq_of_lt (by omega)]
theorem Kt (t:ByteArray):(AD t.data.toList).length=t.size:=by simp[AD]
theorem Oe (s:ByteArray) (hs:s.size≤100000) (d:DS) (hd:d.pl≤s.size):AC Tryz.prog 139 [.ptr (0,0) 0] (dsE o1 o2 s d) (.c (.str (d.str s).1)) (dsE o1 o2 s (d.str s).2):=by
 have hs':s.size≤1000000:=by omega
 have t3:=Tryz.underlying9
 have t1:=Tryz.underlying29
 have t2:=Tryz.underlying5
 have hwa:=Gp s hs' d hd 34 (by decide)
 obtain⟨w1,w2,_⟩:=Dv (s:=s) (d:=d) (b:=34) (by decide) hd
 unfold DS.str
 simp only
 obtain⟨R,hR⟩:∃R,DS.strGo s (s.size+2) (d.want s 34) ByteArray.empty=R:=⟨_,rfl⟩
 rw[hR]
 simp only[Aq,AQ]at hwa ⊢
 generalize d.want s 34=d0 at *
 refine A7 Tryz.func139 Tryz.ntmps139 ?_
 refine A0 trivial ?_
 refine Af (A3 [((0,0),(0,0))] [((0,0),(0,0))] hwa) trivial ?_
 refine A0 trivial ?_
 refine AH (κ:=DS×ByteArray) (fun k=>⟨mkS 0 98 [(0,.ptr (0,0) 0),(3,.c (.int .i64 d.pl)),(4,.own (99,0))],[((0,0),.box [.c (.str s),.c (.int .i64 k.1.pl),.c (.int .i64 k.1.code),.c (.int .i64 k.1.bad)]),((8,1),.gen (BL o1 o2)),((99,0),.row false 1 5 (AD k.2.data.toList))]⟩)
  (fun k=>k.1.pl≤s.size∧k.2.size≤k.1.pl∧∃n,s.size-k.1.pl+(if k.1.code=0 then 1 else 0)<n∧DS.strGo s n k.1 k.2=R) (fun k=>s.size-k.1.pl+(if k.1.code=0 then 1 else 0)) (d0,ByteArray.empty) ⟨w2,Nat.zero_le _,s.size+2,by dsimp only;split<;>omega,hR⟩ ?_ ?_
 ·have hb0:AD ByteArray.empty.data.toList=[]:=rfl
  exact Ao (Ay.of [((0,0),(0,0)),((8,1),(8,1)),((99,0),(9,0))] []) hb0
 ·rintro⟨q,out⟩ ⟨hq,hout,n,hn,hgo⟩
  dsimp only at hq hout hn hgo ⊢
  obtain⟨n,rfl⟩:∃m,n=m+1:=⟨n-1,by omega⟩
  unfold DS.strGo at hgo
  have hbl:=Kt out
  have hexit:∀r:ByteArray×DS,(60<r.1.size→AC Tryz.prog 81 [.ptr (0,0) 0,.c (.int .i64 2),.c (.int .i64 d.pl)] (dsM s r.2) (.tup []) (dsM s (r.2.fail 2 d.pl))):=fun r _=>Bk s r.2 2 d.pl
  by_cases hc:q.code=0
  ·have hcc:(q.code==0)=true:=by simpa using hc
   rw[if_neg (by simpa using hc)]at hgo
   rw[if_pos hc]at hn
   have htk:=Cm s hs' q hq 34 (by decide)
   unfold DS.take at htk
   cases hi:q.is s 34 with
   |true =>
    rw[hi]at hgo htk
    simp only[if_true]at hgo htk
    subst hgo
    have hf:=Bk s (q.go (q.pl+1)) 2 d.pl
    simp only
    by_cases h60:60<out.size
    ·have g60:decide ((out.size:Int)>60)=true:=decide_eq_true (by omega)
     rw[if_pos h60]
     simp only[Aq]at htk hf ⊢
     generalize (q.go (q.pl+1)).fail 2 d.pl=q3 at *
     generalize q.go (q.pl+1)=q2 at *
     refine A0 hcc ?_
     refine Af (A3 [((0,0),(0,0))] [((0,0),(0,0))] htk) trivial ?_
     refine A0 (j2 hbl g60) ?_
     refine Af (A3 [((0,0),(0,0))] [((0,0),(0,0))] hf) trivial ?_
     refine A0 trivial ?_
     refine w5 (G9 out.data.toList (y:=out) rfl t1 t2 t3) trivial ?_
     refine A0 trivial ?_
     exact Ad (Ac [((0,0),(0,0)),((8,1),(8,1))] []) Tryz.results139 hbl
    ·have g60:decide ((out.size:Int)>60)=false:=decide_eq_false (by omega)
     rw[if_neg h60]
     simp only[Aq]at htk ⊢
     generalize q.go (q.pl+1)=q2 at *
     refine A0 hcc ?_
     refine Af (A3 [((0,0),(0,0))] [((0,0),(0,0))] htk) trivial ?_
     refine A0 (j2 hbl g60) ?_
     refine w5 (G9 out.data.toList (y:=out) rfl t1 t2 t3) trivial ?_
     refine A0 trivial ?_
     exact Ad (Ac [((0,0),(0,0)),((8,1),(8,1))] []) Tryz.results139 hbl
   |false =>
    rw[hi]at hgo htk
    simp only[Bool.false_eq_true,if_false,Aq]at hgo htk
    by_cases hr:s.size≤q.pl∨bAt s q.pl<32∨126<bAt s q.pl
    ·rw[if_pos hr]at hgo
     have hf:=Bk s q 5 q.pl
     obtain⟨q2,hq2⟩:∃q2,q.fail 5 q.pl=q2:=⟨_,rfl⟩
     have hpl:q2.pl=q.pl:=by rw[←hq2];exact BU _ _ _
     have hco:q2.code=5:=by rw[←hq2];unfold DS.fail;rw[if_pos hc]
     rw[hq2]at hf hgo
     simp only[Aq]at hf
     have hnext:s.size-q2.pl+(if q2.code=0 then 1 else 0)<s.size-q.pl+(if q.code=0 then 1 else 0)∧s.size-q2.pl+(if q2.code=0 then 1 else 0)<n:=by
      rw[if_neg (by rw[hco];decide),if_pos hc,hpl];omega
     by_cases hz:s.size≤q.pl
     ·have e1:((q.pl:Int)==(s.size:Int))=true:=by simp;omega
      refine A0 hcc ?_
      refine Af (A3 [((0,0),(0,0))] [((0,0),(0,0))] htk) trivial ?_
      refine A0 e1 ?_
      refine Af (A3 [((0,0),(0,0))] [((0,0),(0,0))] hf) trivial ?_
      refine A0 trivial ?_
      refine⟨(q2,out),hnext.1,⟨by dsimp only;omega,by dsimp only;omega,n,hnext.2,hgo⟩,?_⟩
      exact Ao (Ay.of [((0,0),(0,0)),((8,1),(8,1)),((99,0),(99,0))] []) trivial
     ·have e1:((q.pl:Int)==(s.size:Int))=false:=by simp;omega
      obtain⟨b,hg,hb⟩:=Ar (s:=s) (i:=q.pl) (by omega)
      have hbn:((b.toNat:Nat):Int)=((bAt s q.pl:Nat):Int):=by rw[hb]
      by_cases h32:bAt s q.pl<32
      ·have g32:decide (((bAt s q.pl:Nat):Int)<32)=true:=decide_eq_true (by omega)
       refine A0 hcc ?_
       refine Af (A3 [((0,0),(0,0))] [((0,0),(0,0))] htk) trivial ?_
       refine A0 (j4 e1 hg hbn g32) ?_
       refine Af (A3 [((0,0),(0,0))] [((0,0),(0,0))] hf) trivial ?_
       refine A0 trivial ?_
       refine⟨(q2,out),hnext.1,⟨by dsimp only;omega,by dsimp only;omega,n,hnext.2,hgo⟩,?_⟩
       exact Ao (Ay.of [((0,0),(0,0)),((8,1),(8,1)),((99,0),(99,0))] []) trivial
      ·have g32:decide (((bAt s q.pl:Nat):Int)<32)=false:=decide_eq_false (by omega)
       have g126:decide (((bAt s q.pl:Nat):Int)>126)=true:=decide_eq_true (by omega)
       refine A0 hcc ?_
       refine Af (A3 [((0,0),(0,0))] [((0,0),(0,0))] htk) trivial ?_
       refine A0 (j5 e1 hg hbn g32 g126) ?_
       refine Af (A3 [((0,0),(0,0))] [((0,0),(0,0))] hf) trivial ?_
       refine A0 trivial ?_
       refine⟨(q2,out),hnext.1,⟨by dsimp only;omega,by dsimp only;omega,n,hnext.2,hgo⟩,?_⟩
       exact Ao (Ay.of [((0,0),(0,0)),((8,1),(8,1)),((99,0),(99,0))] []) trivial
    ·rw[if_neg hr]at hgo
     have hlt:q.pl<s.size:=by omega
     have e1:((q.pl:Int)==(s.size:Int))=false:=by simp;omega
     obtain⟨b,hg,hb⟩:=Ar hlt
     have hbn:((b.toNat:Nat):Int)=((bAt s q.pl:Nat):Int):=by rw[hb]
     have g32:decide (((bAt s q.pl:Nat):Int)<32)=false:=decide_eq_false (by omega)
     have g126:decide (((bAt s q.pl:Nat):Int)>126)=false:=decide_eq_false (by omega)
     have hol:out.size+1≤1000000:=by omega
     have htk2:=Cm s hs' q hq 92 (by decide)
     unfold DS.take at htk2
     cases hi2:q.is s 92 with
     |true =>
      rw[hi2]at hgo htk2
      simp only[if_true]at hgo htk2
      have hp1:(q.go (q.pl+1)).pl≤s.size:=hlt
      have hesc:=Nq (o1:=o1) (o2:=o2) s hs' (q.go (q.pl+1)) hp1
      obtain⟨z1,z2,z3⟩:=NG (q.go (q.pl+1)) hp1
      rw[J0]at z2
      have hrow:=F5 out z1
      obtain⟨q2,hq2⟩:∃q2,q.go (q.pl+1)=q2:=⟨_,rfl⟩
      rw[hq2]at hesc z1 z2 z3 hgo htk2 hrow
      obtain⟨q3,hq3⟩:∃q3,(q2.escape s).2=q3:=⟨_,rfl⟩
      obtain⟨c,hc3⟩:∃c,(q2.escape s).1=c:=⟨_,rfl⟩
      rw[hq3,hc3]at hesc hgo
      rw[hq3]at z2 z3
      rw[hc3]at hrow z1
      simp only[Aq,AQ]at htk2 hesc
      have hm:s.size-q3.pl+(if q3.code=0 then 1 else 0)<s.size-q.pl+(if q.code=0 then 1 else 0)∧s.size-q3.pl+(if q3.code=0 then 1 else 0)<n:=by
       rw[if_pos hc]
       split<;>omega
      refine A0 hcc ?_
      refine Af (A3 [((0,0),(0,0))] [((0,0),(0,0))] htk) trivial ?_
      refine A0 (j5 e1 hg hbn g32 g126) ?_
      refine Af (A3 [((0,0),(0,0))] [((0,0),(0,0))] htk2) trivial ?_
      refine A0 trivial ?_
      refine Af (A3 [((0,0),(0,0)),((8,1),(8,1))] [((0,0),(0,0)),((8,1),(8,1))] hesc) trivial ?_
      refine A0 (j2 hbl hol) ?_
      refine⟨(q3,out++Bx c),hm.1,⟨z3,by dsimp only;rw[Dh];omega,n,hm.2,hgo⟩,?_⟩
      exact Ao (Ay.of [((0,0),(0,0)),((8,1),(8,1)),((99,0),(89,0))] []) hrow
     |false =>
      rw[hi2]at hgo htk2
      simp only[Bool.false_eq_true,if_false,Aq]at hgo htk2
      have hw:=Ae (k:=q.pl) (by omega)
      have hrow:=F5 out (EM hlt)
      have hm:s.size-(q.go (q.pl+1)).pl+(if (q.go (q.pl+1)).code=0 then 1 else 0)<s.size-q.pl+(if q.code=0 then 1 else 0)∧s.size-(q.go (q.pl+1)).pl+(if (q.go (q.pl+1)).code=0 then 1 else 0)<n:=by
       rw[Ru,if_pos hc,J0]
       omega
      refine A0 hcc ?_
      refine Af (A3 [((0,0),(0,0))] [((0,0),(0,0))] htk) trivial ?_
      refine A0 (j5 e1 hg hbn g32 g126) ?_
      refine Af (A3 [((0,0),(0,0))] [((0,0),(0,0))] htk2) trivial ?_
      refine A0 (j5 hg hbn hbl hol hw) ?_
      refine⟨(q.go (q.pl+1),out++Bx (bAt s q.pl)),hm.1,⟨hlt,by dsimp only;rw[Dh,J0];omega,n,hm.2,hgo⟩,?_⟩
      (apply (Ay.of [((0,0),(0,0)),((8,1),(8,1)),((99,0),(33,0))] []);(iterate 2 ((focus (simp only[go_sem,Nat.reduceEqDiff,Nat.reduceAdd,Nat.reduceSub,Nat.reduceLeDiff,Nat.reduceMul,Nat.reduceBEq,Nat.reduceLT,Int.reduceToNat,reduceCtorEq,hrow,hw,DS.go];try (and_intros<;>rfl)));(focus exact rfl)));(iterate 4 (focus (simp[go_sem,hrow,hw,DS.go];done))))
  ·have hcc:(q.code==0)=false:=by simpa using hc
   rw[if_pos (by simpa using hc)]at hgo
   subst hgo
   have hf:=Bk s q 2 d.pl
   simp only
   by_cases h60:60<out.size
   ·have g60:decide ((out.size:Int)>60)=true:=decide_eq_true (by omega)
    rw[if_pos h60]
    simp only[Aq]at hf ⊢
    generalize q.fail 2 d.pl=q3 at *
    refine A0 hcc ?_
    refine A0 (j2 hbl g60) ?_
    refine Af (A3 [((0,0),(0,0))] [((0,0),(0,0))] hf) trivial ?_
    refine A0 trivial ?_
    refine w5 (G9 out.data.toList (y:=out) rfl t1 t2 t3) trivial ?_
    refine A0 trivial ?_
    exact Ad (Ac [((0,0),(0,0)),((8,1),(8,1))] []) Tryz.results139 hbl
   ·have g60:decide ((out.size:Int)>60)=false:=decide_eq_false (by omega)
    rw[if_neg h60]
    refine A0 (j3 hcc hbl g60) ?_
    refine w5 (G9 out.data.toList (y:=out) rfl t1 t2 t3) trivial ?_
    refine A0 trivial ?_
    exact Ad (Ac [((0,0),(0,0)),((8,1),(8,1))] []) Tryz.results139 hbl
end Go.Proofs.YtlciedpfjhkkdaaGreatDoor
