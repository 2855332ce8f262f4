/- Texts of this proof: D17 D18. -/
import Derived.Test.YtllfmaflodbieaaGreatDoorKD15uD16
set_option linter.all false
set_option maxHeartbeats 8000000
namespace Go.Proofs.YtllfmaflodbieaaGreatDoor
section
open Go.RowKit Go.Shelf
set_option maxRecDepth 10000
variable {o1 o2:Obj}
theorem VS:AC Tryz.prog 306 [.c (.str ByteArray.empty),.c (.int .i64 16),.c (.int .i64 64)] [] (.tup [.c (.int .u64 0),.c (.raw Wg)]) []:=by
 have h1:(ByteArray.empty.toList==ByteArray.empty.toList)=true:=by simp
 refine A6 Tryz.func306 Tryz.ntmps306 ?_
 refine A0 h1 ?_
 refine w4 (D3 LZ) trivial ?_
 refine A0 trivial ?_
 exact Am (A7 []) Tryz.results306
def Tu (n:Nat):AV:=if 0≤B8 n then .tup [.c (.int .i64 (B8 n)),.c (.raw .nilIface)] else .tup [.c (.int .i64 0),.c (.raw Wg)]
theorem eqT:(Tryz.prog.info? 339).map (·.comparable)=some true:=by kernel_rfl
theorem Zl:Tryz.prog.underlying 339=some (.int .i64):=by kernel_rfl
theorem Qo (n:Nat) (hn:n<256):AC Tryz.prog 290 [.c (.str (BF n)),.c (.int .i64 16),.c (.int .i64 64)] [] (Tu n) []:=by
 have h1:=Vj n
 obtain⟨b,hg,hbn⟩:=Ym hn
 have t3:=Tryz.underlying9
 have tq:=Zl
 have hu:=TG n hn
 have hu0:=VS
 have hemp:(BF n).extract 1 (BF n).size=ByteArray.empty:=rfl
 have hemp2:(BF n).extract 1 1=ByteArray.empty:=rfl
 have l4:((64:Int)==0)=false:=rfl
 have w63:IntKind.i64.wrap (64-1)=63:=rfl
 have v63:IntKind.u64.wrap 63=63:=rfl
 have n21:((2:Int)==1)=false:=rfl
 have bad:∀e43 e45,((n:Int)==43)=e43→((n:Int)==45)=e45→(e43=true∨e45=true)→Tu n=.tup [.c (.int .i64 0),.c (.raw Wg)]:=by
  intro e43 e45 h3 h5 h
  have hnn:n=43∨n=45:=by
   rcases h with h | h
   ·rw[h]at h3
    have:(n:Int)=43:=by simpa using h3
    omega
   ·rw[h]at h5
    have:(n:Int)=45:=by simpa using h5
    omega
  unfold Tu
  rcases hnn with rfl | rfl<;>rfl
 cases h43:((n:Int)==43) with
 |true =>
  rw[bad _ _ h43 rfl (.inl rfl)]
  refine A6 Tryz.func290 Tryz.ntmps290 ?_
  refine A0 (j6 h1 hg hbn h43 hemp hemp2) ?_
  refine w7 (A3 [] hu0) trivial ?_
  refine A0 trivial ?_
  refine w6 (GJ D6) trivial ?_
  refine A0 trivial ?_
  refine w4 (D3 LZ) trivial ?_
  refine A0 trivial ?_
  (apply (KG D6 eqT tq);(focus (first | (simp only[go_sem,Nat.reduceEqDiff,Nat.reduceAdd,Nat.reduceSub,Nat.reduceLeDiff,Nat.reduceMul,Nat.reduceBEq,Nat.reduceLT,Int.reduceToNat,reduceCtorEq];first | done | exact rfl | (and_intros<;>rfl)) | exact rfl | decide));(focus (first | (simp only[go_sem,Nat.reduceEqDiff,Nat.reduceAdd,Nat.reduceSub,Nat.reduceLeDiff,Nat.reduceMul,Nat.reduceBEq,Nat.reduceLT,Int.reduceToNat,reduceCtorEq];first | done | exact rfl | (and_intros<;>rfl)) | exact rfl | decide));(focus (first | (simp only[go_sem,Nat.reduceEqDiff,Nat.reduceAdd,Nat.reduceSub,Nat.reduceLeDiff,Nat.reduceMul,Nat.reduceBEq,Nat.reduceLT,Int.reduceToNat,reduceCtorEq];first | done | exact rfl | (and_intros<;>rfl)) | exact rfl | decide));(focus (exact fun op w=>by unfold eqGuard;cases op<;>rfl));(focus (first | (simp only[go_sem,Nat.reduceEqDiff,Nat.reduceAdd,Nat.reduceSub,Nat.reduceLeDiff,Nat.reduceMul,Nat.reduceBEq,Nat.reduceLT,Int.reduceToNat,reduceCtorEq,n21];first | done | exact rfl | (and_intros<;>rfl)) | exact rfl | decide));(focus (first | (simp only[go_sem,Nat.reduceEqDiff,Nat.reduceAdd,Nat.reduceSub,Nat.reduceLeDiff,Nat.reduceMul,Nat.reduceBEq,Nat.reduceLT,Int.reduceToNat,reduceCtorEq];first | done | exact rfl | (and_intros<;>rfl)) | exact rfl | decide));(focus (first | (simp only[go_sem,Nat.reduceEqDiff,Nat.reduceAdd,Nat.reduceSub,Nat.reduceLeDiff,Nat.reduceMul,Nat.reduceBEq,Nat.reduceLT,Int.reduceToNat,reduceCtorEq];first | done | exact rfl | (and_intros<;>rfl)) | exact rfl | decide));(focus (first | (simp only[go_sem,Nat.reduceEqDiff,Nat.reduceAdd,Nat.reduceSub,Nat.reduceLeDiff,Nat.reduceMul,Nat.reduceBEq,Nat.reduceLT,Int.reduceToNat,reduceCtorEq];first | done | exact rfl | (and_intros<;>rfl)) | exact rfl | decide)))
  refine A0 trivial ?_
  exact Am (A7 []) Tryz.results290
 |false=>cases h45:((n:Int)==45) with
  |true =>
   rw[bad _ _ rfl h45 (.inr rfl)]
   refine A6 Tryz.func290 Tryz.ntmps290 ?_
   refine A0 (j7 h1 hg hbn h43 h45 hemp hemp2) ?_
   refine w7 (A3 [] hu0) trivial ?_
   refine A0 trivial ?_
   refine w6 (GJ D6) trivial ?_
   refine A0 trivial ?_
   refine w4 (D3 LZ) trivial ?_
   refine A0 trivial ?_
   (apply (KG D6 eqT tq);(focus (first | (simp only[go_sem,Nat.reduceEqDiff,Nat.reduceAdd,Nat.reduceSub,Nat.reduceLeDiff,Nat.reduceMul,Nat.reduceBEq,Nat.reduceLT,Int.reduceToNat,reduceCtorEq];first | done | exact rfl | (and_intros<;>rfl)) | exact rfl | decide));(focus (first | (simp only[go_sem,Nat.reduceEqDiff,Nat.reduceAdd,Nat.reduceSub,Nat.reduceLeDiff,Nat.reduceMul,Nat.reduceBEq,Nat.reduceLT,Int.reduceToNat,reduceCtorEq];first | done | exact rfl | (and_intros<;>rfl)) | exact rfl | decide));(focus (first | (simp only[go_sem,Nat.reduceEqDiff,Nat.reduceAdd,Nat.reduceSub,Nat.reduceLeDiff,Nat.reduceMul,Nat.reduceBEq,Nat.reduceLT,Int.reduceToNat,reduceCtorEq];first | done | exact rfl | (and_intros<;>rfl)) | exact rfl | decide));(focus (exact fun op w=>by unfold eqGuard;cases op<;>rfl));(focus (first | (simp only[go_sem,Nat.reduceEqDiff,Nat.reduceAdd,Nat.reduceSub,Nat.reduceLeDiff,Nat.reduceMul,Nat.reduceBEq,Nat.reduceLT,Int.reduceToNat,reduceCtorEq,n21];first | done | exact rfl | (and_intros<;>rfl)) | exact rfl | decide));(focus (first | (simp only[go_sem,Nat.reduceEqDiff,Nat.reduceAdd,Nat.reduceSub,Nat.reduceLeDiff,Nat.reduceMul,Nat.reduceBEq,Nat.reduceLT,Int.reduceToNat,reduceCtorEq];first | done | exact rfl | (and_intros<;>rfl)) | exact rfl | decide));(focus (first | (simp only[go_sem,Nat.reduceEqDiff,Nat.reduceAdd,Nat.reduceSub,Nat.reduceLeDiff,Nat.reduceMul,Nat.reduceBEq,Nat.reduceLT,Int.reduceToNat,reduceCtorEq];first | done | exact rfl | (and_intros<;>rfl)) | exact rfl | decide));(focus (first | (simp only[go_sem,Nat.reduceEqDiff,Nat.reduceAdd,Nat.reduceSub,Nat.reduceLeDiff,Nat.reduceMul,Nat.reduceBEq,Nat.reduceLT,Int.reduceToNat,reduceCtorEq];first | done | exact rfl | (and_intros<;>rfl)) | exact rfl | decide)))
   refine A0 trivial ?_
   exact Am (A7 []) Tryz.results290
  |false =>
   unfold WW at hu
   unfold Tu
   by_cases hx:0≤B8 n
   ·have hx16:=GL (Int.not_lt.2 hx)
    rw[if_pos hx]at hu ⊢
    generalize B8 n=x at *
    have gc:decide (x≥9223372036854775808)=false:=decide_eq_false (by omega)
    have wx:IntKind.i64.wrap x=x:=CG (by omega) (by omega)
    refine A6 Tryz.func290 Tryz.ntmps290 ?_
    refine A0 (j5 h1 hg hbn h43 h45) ?_
    refine w7 (A3 [] hu) trivial ?_
    refine A0 trivial ?_
    refine w6 (Fi D6) trivial ?_
    refine A0 (j3 l4 w63 v63) ?_
    refine w5 (SH (m:=1) (n:=63) (c:=.int .u64 9223372036854775808) (fun w=>Z6 w _) (fun w S=>⟨rfl,rfl⟩) (fun w=>rfl)) trivial ?_
    refine A0 (j2 gc wx) ?_
    exact Am (A7 []) Tryz.results290
   ·rw[if_neg hx]at hu ⊢
    refine A6 Tryz.func290 Tryz.ntmps290 ?_
    refine A0 (j5 h1 hg hbn h43 h45) ?_
    refine w7 (A3 [] hu) trivial ?_
    refine A0 trivial ?_
    refine w6 (GJ D6) trivial ?_
    refine A0 trivial ?_
    refine w4 (D3 LZ) trivial ?_
    refine A0 trivial ?_
    (apply (KG D6 eqT tq);(focus (first | (simp only[go_sem,Nat.reduceEqDiff,Nat.reduceAdd,Nat.reduceSub,Nat.reduceLeDiff,Nat.reduceMul,Nat.reduceBEq,Nat.reduceLT,Int.reduceToNat,reduceCtorEq];first | done | exact rfl | (and_intros<;>rfl)) | exact rfl | decide));(focus (first | (simp only[go_sem,Nat.reduceEqDiff,Nat.reduceAdd,Nat.reduceSub,Nat.reduceLeDiff,Nat.reduceMul,Nat.reduceBEq,Nat.reduceLT,Int.reduceToNat,reduceCtorEq];first | done | exact rfl | (and_intros<;>rfl)) | exact rfl | decide));(focus (first | (simp only[go_sem,Nat.reduceEqDiff,Nat.reduceAdd,Nat.reduceSub,Nat.reduceLeDiff,Nat.reduceMul,Nat.reduceBEq,Nat.reduceLT,Int.reduceToNat,reduceCtorEq];first | done | exact rfl | (and_intros<;>rfl)) | exact rfl | decide));(focus (exact fun op w=>by unfold eqGuard;cases op<;>rfl));(focus (first | (simp only[go_sem,Nat.reduceEqDiff,Nat.reduceAdd,Nat.reduceSub,Nat.reduceLeDiff,Nat.reduceMul,Nat.reduceBEq,Nat.reduceLT,Int.reduceToNat,reduceCtorEq,n21];first | done | exact rfl | (and_intros<;>rfl)) | exact rfl | decide));(focus (first | (simp only[go_sem,Nat.reduceEqDiff,Nat.reduceAdd,Nat.reduceSub,Nat.reduceLeDiff,Nat.reduceMul,Nat.reduceBEq,Nat.reduceLT,Int.reduceToNat,reduceCtorEq];first | done | exact rfl | (and_intros<;>rfl)) | exact rfl | decide));(focus (first | (simp only[go_sem,Nat.reduceEqDiff,Nat.reduceAdd,Nat.reduceSub,Nat.reduceLeDiff,Nat.reduceMul,Nat.reduceBEq,Nat.reduceLT,Int.reduceToNat,reduceCtorEq];first | done | exact rfl | (and_intros<;>rfl)) | exact rfl | decide));(focus (first | (simp only[go_sem,Nat.reduceEqDiff,Nat.reduceAdd,Nat.reduceSub,Nat.reduceLeDiff,Nat.reduceMul,Nat.reduceBEq,Nat.reduceLT,Int.reduceToNat,reduceCtorEq];first | done | exact rfl | (and_intros<;>rfl)) | exact rfl | decide)))
    refine A0 trivial ?_
    exact Am (A7 []) Tryz.results290
theorem Rs (n:Nat) (hn:n<256) (hx:0≤B8 n):AC Tryz.prog 256 [.c (.str (BF n)),.c (.int .i64 16),.c (.int .i64 64)] [] (.tup [.c (.int .i64 (B8 n)),.c (.raw .nilIface)]) []:=by
 have h:=Qo n hn
 unfold Tu at h
 rw[if_pos hx]at h
 refine A6 Tryz.func256 Tryz.ntmps256 ?_
 refine A0 trivial ?_
 refine w7 (A3 [] h) trivial ?_
 refine A0 trivial ?_
 refine w6 (Fi D6) trivial ?_
 refine A0 trivial ?_
 exact Am (A7 []) Tryz.results256
theorem P1 (n:Nat) (hn:n<256) (hx:¬0≤B8 n):AC Tryz.prog 256 [.c (.str (BF n)),.c (.int .i64 16),.c (.int .i64 64)] (Ij o1 o2) (.tup [.c (.int .i64 0),.own (1,0)]) [((8,1),.gen (Cf o1 o2)),((1,0),.gen Jb)]:=by
 have h:=Qo n hn
 unfold Tu at h
 rw[if_neg hx]at h
 have he:=QW (o1:=o1) (o2:=o2) ⟨#[80,97,114,115,101,73,110,116]⟩ (BF n) (by rw[GC];omega) 16 64
 refine A6 Tryz.func256 Tryz.ntmps256 ?_
 refine A0 trivial ?_
 refine w7 (A3 [] h) trivial ?_
 refine A0 trivial ?_
 refine w6 (GJ D6) trivial ?_
 refine A0 trivial ?_
 refine Ah (A4 [((8,1),(8,1))] [((8,1),(8,1)),((1,0),(23,0))] he) trivial ?_
 refine A0 trivial ?_
 exact A9 (A8 [((8,1),(8,1)),((1,0),(23,0))] []) Tryz.results256 h
end
section
open Go.RowKit
set_option maxRecDepth 10000
variable {o1 o2:Obj}
theorem T7 (s:ByteArray) (hs:s.size≤1000000) (d:DS) (hd:d.pl≤s.size):AC Tryz.prog 257 [.ptr (0,0) 0] (dsE o1 o2 s d) (.c (.int .i64 (d.hex s).1)) (dsE o1 o2 s (d.hex s).2):=by
 have t3:=Tryz.underlying9
 have hf:=Cd s d 5 d.pl
 unfold DS.hex
 obtain⟨pl,code,bad⟩:=d
 simp only at hd hf ⊢
 by_cases hc:code=0
 ·subst hc
  have h00:((0:Int)==0)=true:=rfl
  rw[Ic]at hf
  rw[Ic]
  by_cases hlt:pl<s.size
  ·have hdk:decide ((pl:Int)<(s.size:Int))=true:=decide_eq_true (by omega)
   obtain⟨b,hg,hb⟩:=Aw hlt
   have hw:=Ae (k:=pl) (by omega)
   have hsb:s.extract ((pl:Nat):Int).toNat ((pl+1:Nat):Int).toNat=BF (bAt s pl):=SL hlt
   have hbb:=G9 hlt
   by_cases hx:0≤B8 (bAt s pl)
   ·have hp:=Rs (bAt s pl) hbb hx
    have hih:=V5 b.toNat b.toNat_lt
    rw[←hb,decide_eq_true hx]at hih
    have hbn:((b.toNat:Nat):Int)=((bAt s pl:Nat):Int):=by rw[hb]
    rw[if_pos ⟨rfl,hx⟩]
    simp only[Bg]
    unfold DS.go
    generalize B8 (bAt s pl)=x at *
    refine A6 Tryz.func257 Tryz.ntmps257 ?_
    refine A0 (j3 h00 hdk hw) ?_
    refine w7 (Dt (y:=BF (bAt s pl)) (i:=(pl:Int)) (j:=((pl+1:Nat):Int)) (s:=s) hsb (by omega) (by omega) (by omega) t3) trivial ?_
    refine A0 trivial ?_
    refine w7 (A3 [] hp) trivial ?_
    refine A0 trivial ?_
    refine w6 (Fi D6) trivial ?_
    refine A0 (j2 hg hbn) ?_
    refine w7 (A3 [] hih) trivial ?_
    refine A0 hw ?_
    exact A9 (A8 [((0,0),(0,0)),((8,1),(8,1))] []) Tryz.results257 hw
   ·have hp:=P1 (o1:=o1) (o2:=o2) (bAt s pl) hbb hx
    rw[if_neg (fun h=>hx h.2)]
    simp only[Bg,Au]at hf ⊢
    refine A6 Tryz.func257 Tryz.ntmps257 ?_
    refine A0 (j3 h00 hdk hw) ?_
    refine w7 (Dt (y:=BF (bAt s pl)) (i:=(pl:Int)) (j:=((pl+1:Nat):Int)) (s:=s) hsb (by omega) (by omega) (by omega) t3) trivial ?_
    refine A0 trivial ?_
    refine Ah (A4 [((8,1),(8,1))] [((8,1),(8,1)),((1,0),(37,0))] hp) trivial ?_
    refine A0 trivial ?_
    refine w7 (Q2 D6) trivial ?_
    refine A0 trivial ?_
    refine Ah (A4 [((0,0),(0,0))] [((0,0),(0,0))] hf) trivial ?_
    refine A0 trivial ?_
    exact A9 (A8 [((0,0),(0,0)),((8,1),(8,1))] []) Tryz.results257 hw
  ·have hdk:decide ((pl:Int)<(s.size:Int))=false:=decide_eq_false (by omega)
   rw[if_neg (fun h=>by rw[M2 (by omega)]at h;exact absurd h.2 (by decide))]
   simp only[Bg,Au]at hf ⊢
   refine A6 Tryz.func257 Tryz.ntmps257 ?_
   refine A0 (j2 h00 hdk) ?_
   refine Ah (A4 [((0,0),(0,0))] [((0,0),(0,0))] hf) trivial ?_
   refine A0 trivial ?_
   exact A9 (A8 [((0,0),(0,0)),((8,1),(8,1))] []) Tryz.results257 hdk
 ·have hcc:(code==0)=false:=by simpa using hc
  rw[CZ (by exact hc)]at hf
  rw[if_neg (fun h=>hc h.1),CZ (by exact hc)]
  simp only[Bg,Au]at hf ⊢
  refine A6 Tryz.func257 Tryz.ntmps257 ?_
  refine A0 hcc ?_
  refine Ah (A4 [((0,0),(0,0))] [((0,0),(0,0))] hf) trivial ?_
  refine A0 trivial ?_
  exact A9 (A8 [((0,0),(0,0)),((8,1),(8,1))] []) Tryz.results257 hcc
theorem Kk {s:ByteArray}(d:DS) (hd:d.pl≤s.size):0≤(d.hex s).1∧(d.hex s).1≤15∧d.pl≤(d.hex s).2.pl∧(d.hex s).2.pl≤s.size:=by
 unfold DS.hex
 split
 ·rename_i h
  have hx:=GL (Int.not_lt.2 h.2)
  have hlt:d.pl<s.size:=by
   rcases Nat.lt_or_ge d.pl s.size with h1 | h1
   ·exact h1
   ·rw[M2 h1]at h;exact absurd h.2 (by decide)
  exact⟨h.2,hx.2.2.1,Nat.le_succ _,hlt⟩
 ·exact⟨Int.le_refl 0,(by decide:(0:Int)≤15),by rw[CC];exact Nat.le_refl _,by rw[CC];exact hd⟩
def Mc (k:Nat):Nat:=if k=0 then 34 else if k=1 then 92 else 47
theorem Xe (k:Nat):Mc k<256:=by unfold Mc;split;omega;split<;>omega
theorem NP {s:ByteArray}{d:DS}{k:Nat}(hk:k<3) (hn:∀j,j<k→d.is s (Mc j)=false) (hi:d.is s (Mc k)=true):d.escape s=(Mc k,d.go (d.pl+1)):=by
 have:k=0∨k=1∨k=2:=by omega
 unfold DS.escape
 rcases this with rfl | rfl | rfl
 ·rw[if_pos (show d.is s 34=true from hi)];rfl
 ·rw[if_neg (by rw[show d.is s 34=false from hn 0 (by omega)];decide),if_pos (show d.is s 92=true from hi)];rfl
 ·rw[if_neg (by rw[show d.is s 34=false from hn 0 (by omega)];decide),if_neg (by rw[show d.is s 92=false from hn 1 (by omega)];decide),if_pos (show d.is s 47=true from hi)];rfl
theorem OP {s:ByteArray}{d:DS}(hn:∀j,j<3→d.is s (Mc j)=false):d.escape s=(let d1:=d.word s [117,48,48];let h1:=d1.hex s;let h2:=h1.2.hex s;let n:=16*h1.1+h2.1;(n.toNat,if 32≤n∧n≤126 then h2.2 else h2.2.fail 5 d1.pl)):=by
 unfold DS.escape
 rw[if_neg (by rw[show d.is s 34=false from hn 0 (by omega)];decide),if_neg (by rw[show d.is s 92=false from hn 1 (by omega)];decide),if_neg (by rw[show d.is s 47=false from hn 2 (by omega)];decide)]
theorem Ry (s:ByteArray) (hs:s.size≤1000000) (d:DS) (hd:d.pl≤s.size):AC Tryz.prog 219 [.ptr (0,0) 0] (dsE o1 o2 s d) (.c (.int .u8 (d.escape s).1)) (dsE o1 o2 s (d.escape s).2):=by
 obtain⟨R,hR⟩:∃R,d.escape s=R:=⟨_,rfl⟩
 rw[hR]
 have hthree:=@NP s d
 have hmore:=@OP s d
 rw[hR]at hmore
 simp only[hR]at hthree
 have hrows:∀k,k<3→Aj [[C.int .u8 34],[C.int .u8 92],[C.int .u8 47]] 1 ((k:Nat):Int)=true∧([[C.int .u8 34],[C.int .u8 92],[C.int .u8 47]]:List (List C))[k]? = some [.int .u8 (Mc k:Nat)]:=by
  intro k hk
  have:k=0∨k=1∨k=2:=by omega
  rcases this with rfl | rfl | rfl
  ·exact⟨by decide,rfl⟩
  ·exact⟨by decide,rfl⟩
  ·exact⟨by decide,rfl⟩
 simp only[Bg]
 refine A6 Tryz.func219 Tryz.ntmps219 ?_
 refine A0 trivial ?_
 refine AG (κ:=Nat) (fun k=>⟨mkS 0 38 [(0,.ptr (0,0) 0),(2,.c (.int .u8 0)),(7,.own (7,0)),(8,.c (.int .i64 3)),(9,.c (.int .i64 k))],[((0,0),.box [.c (.str s),.c (.int .i64 d.pl),.c (.int .i64 d.code),.c (.int .i64 d.bad)]),((8,1),.gen (Cf o1 o2)),((7,0),.row false 1 5 [[.int .u8 34],[.int .u8 92],[.int .u8 47]])]⟩)
  (fun k=>k≤3∧∀j,j<k→d.is s (Mc j)=false) (fun k=>3-k) 0 ⟨Nat.zero_le _,fun j hj=>absurd hj (by omega)⟩ ?_ ?_
 ·exact Aq (As.of [((0,0),(0,0)),((8,1),(8,1)),((7,0),(7,0))] []) trivial
 ·rintro k ⟨hk,hn⟩
  by_cases hlt:k<3
  ·have hdk:decide ((k:Int)<3)=true:=decide_eq_true (by omega)
   have hwk:=Ae (k:=k) (by omega)
   obtain⟨hr,hg⟩:=hrows k hlt
   have htk:=Dn s hs d hd (Mc k) (Xe k)
   cases hi:d.is s (Mc k) with
   |true =>
    have h3:=hthree hlt hn hi
    unfold DS.take at htk
    rw[hi]at htk
    simp only[if_true]at htk
    subst h3
    simp only[Au]at htk ⊢
    generalize d.go (d.pl+1)=d2 at *
    refine A0 (j3 hdk hr hg) ?_
    refine Ah (A4 [((0,0),(0,0))] [((0,0),(0,0))] htk) trivial ?_
    refine A0 trivial ?_
    exact A9 (A8 [((0,0),(0,0)),((8,1),(8,1))] []) Tryz.results219 hdk
   |false =>
    unfold DS.take at htk
    rw[hi]at htk
    simp only[Bool.false_eq_true,if_false,Au]at htk
    refine A0 (j3 hdk hr hg) ?_
    refine Ah (A4 [((0,0),(0,0))] [((0,0),(0,0))] htk) trivial ?_
    refine A0 hwk ?_
    refine⟨k+1,by omega,⟨by omega,fun j hj=>?_⟩,?_⟩
    ·by_cases hjk:j=k
     ·rw[hjk];exact hi
     ·exact hn j (by omega)
    exact Aq (As.of [((0,0),(0,0)),((8,1),(8,1)),((7,0),(7,0))] []) hwk
  ·have hdk:decide ((k:Int)<3)=false:=decide_eq_false (by omega)
   have hm:=hmore (fun j hj=>hn j (by omega))
   have hwd:=Kf s hs d hd ⟨#[117,48,48]⟩ (by decide)
   change AC _ _ _ _ _ (dsM s (d.word s [117,48,48]))at hwd
   have hp1:=(Il (s:=s) (l:=[117,48,48]) (d:=d) (by decide) hd).2
   simp only at hm
   generalize d.word s [117,48,48]=d1 at *
   have hh1:=T7 (o1:=o1) (o2:=o2) s hs d1 hp1
   obtain⟨x1,x2,_,hp2⟩:=Kk d1 hp1
   generalize (d1.hex s).1=x at *
   generalize (d1.hex s).2=d2 at *
   have hh2:=T7 (o1:=o1) (o2:=o2) s hs d2 hp2
   obtain⟨y1,y2,_,hp3⟩:=Kk d2 hp2
   generalize (d2.hex s).1=y at *
   generalize (d2.hex s).2=d3 at *
   have wp:IntKind.i64.wrap (16*x)=16*x:=CG (by omega) (by omega)
   have wq:IntKind.i64.wrap (16*x+y)=16*x+y:=CG (by omega) (by omega)
   have wu:IntKind.u8.wrap (16*x+y)=(((16*x+y).toNat:Nat):Int):=by rw[Gt (by omega) (by omega)];omega
   have hin:=Ms (16*x+y) 32 126
   subst hm
   simp only
   by_cases hok:32≤16*x+y∧16*x+y≤126
   ·have hb1:(decide (16*x+y≥32)&&decide (16*x+y≤126))=true:=by
     simp only[Bool.and_eq_true,decide_eq_true_eq];exact hok
    rw[hb1]at hin
    rw[if_pos hok]
    simp only[Au,Bg]at hwd hh1 hh2 ⊢
    refine A0 hdk ?_
    refine Ah (A4 [((0,0),(0,0))] [((0,0),(0,0))] hwd) trivial ?_
    refine A0 trivial ?_
    refine Ah (A4 [((0,0),(0,0)),((8,1),(8,1))] [((0,0),(0,0)),((8,1),(8,1))] hh1) trivial ?_
    refine A0 wp ?_
    refine Ah (A4 [((0,0),(0,0)),((8,1),(8,1))] [((0,0),(0,0)),((8,1),(8,1))] hh2) trivial ?_
    refine A0 wq ?_
    refine w7 (A3 [] hin) trivial ?_
    refine A0 wu ?_
    exact A9 (A8 [((0,0),(0,0)),((8,1),(8,1))] []) Tryz.results219 hdk
   ·have hb1:(decide (16*x+y≥32)&&decide (16*x+y≤126))=false:=by
     rw[Bool.eq_false_iff]
     intro h
     simp only[Bool.and_eq_true,decide_eq_true_eq]at h
     exact hok h
    rw[hb1]at hin
    rw[if_neg hok]
    have hf:=Cd s d3 5 d1.pl
    generalize d3.fail 5 d1.pl=d4 at *
    simp only[Au,Bg]at hwd hh1 hh2 hf ⊢
    refine A0 hdk ?_
    refine Ah (A4 [((0,0),(0,0))] [((0,0),(0,0))] hwd) trivial ?_
    refine A0 trivial ?_
    refine Ah (A4 [((0,0),(0,0)),((8,1),(8,1))] [((0,0),(0,0)),((8,1),(8,1))] hh1) trivial ?_
    refine A0 wp ?_
    refine Ah (A4 [((0,0),(0,0)),((8,1),(8,1))] [((0,0),(0,0)),((8,1),(8,1))] hh2) trivial ?_
    refine A0 wq ?_
    refine w7 (A3 [] hin) trivial ?_
    refine A0 trivial ?_
    refine Ah (A4 [((0,0),(0,0))] [((0,0),(0,0))] hf) trivial ?_
    refine A0 wu ?_
    exact A9 (A8 [((0,0),(0,0)),((8,1),(8,1))] []) Tryz.results219 hdk
end
end Go.Proofs.YtllfmaflodbieaaGreatDoor
