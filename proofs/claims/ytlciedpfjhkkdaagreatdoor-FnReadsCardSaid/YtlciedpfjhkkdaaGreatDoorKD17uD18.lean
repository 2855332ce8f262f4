/- Texts of this proof: D17 D18. -/
import Derived.Test.YtlciedpfjhkkdaaGreatDoorKD15uD16
set_option linter.all false
set_option maxHeartbeats 8000000
namespace Go.Proofs.YtlciedpfjhkkdaaGreatDoor
section
open Go.RowKit Go.Shelf
set_option maxRecDepth 10000
variable {o1 o2:Obj}
theorem uint0_ac:AC Tryz.prog 258 [.c (.str ByteArray.empty),.c (.int .i64 16),.c (.int .i64 64)] [] (.tup [.c (.int .u64 0),.c (.raw synV)]) []:=by
 have h1:(ByteArray.empty.toList==ByteArray.empty.toList)=true:=by simp
 refine wEnter Tryz.func258 Tryz.ntmps258 ?_
 refine wRUN h1 ?_
 refine w4 (op_mkIface concE) trivial ?_
 refine wRUN trivial ?_
 exact wRet (ret_data []) Tryz.results258
def i16A (n:Nat):AV:=if 0≤hexB n then .tup [.c (.int .i64 (hexB n)),.c (.raw .nilIface)] else .tup [.c (.int .i64 0),.c (.raw synV)]
theorem eqT:(Tryz.prog.info? 282).map (·.comparable)=some true:=by kernel_rfl
theorem intT:Tryz.prog.underlying 282=some (.int .i64):=by kernel_rfl
theorem int16_ac (n:Nat) (hn:n<256):AC Tryz.prog 232 [.c (.str (bOne n)),.c (.int .i64 16),.c (.int .i64 64)] [] (i16A n) []:=by
 have h1:=one_ne n
 obtain⟨b,hg,hbn⟩:=one_at hn
 have t3:=Tryz.underlying9
 have tq:=intT
 have hu:=uint16_ac n hn
 have hu0:=uint0_ac
 have hemp:(bOne n).extract 1 (bOne n).size=ByteArray.empty:=rfl
 have hemp2:(bOne n).extract 1 1=ByteArray.empty:=rfl
 have l4:((64:Int)==0)=false:=rfl
 have w63:IntKind.i64.wrap (64-1)=63:=rfl
 have v63:IntKind.u64.wrap 63=63:=rfl
 have n21:((2:Int)==1)=false:=rfl
 have bad:∀e43 e45,((n:Int)==43)=e43→((n:Int)==45)=e45→(e43=true∨e45=true)→i16A n=.tup [.c (.int .i64 0),.c (.raw synV)]:=by
  intro e43 e45 h3 h5 h
  have hnn:n=43∨n=45:=by
   rcases h with h | h
   ·rw[h]at h3
    have:(n:Int)=43:=by simpa using h3
    omega
   ·rw[h]at h5
    have:(n:Int)=45:=by simpa using h5
    omega
  unfold i16A
  rcases hnn with rfl | rfl<;>rfl
 cases h43:((n:Int)==43) with
 |true =>
  rw[bad _ _ h43 rfl (.inl rfl)]
  refine wEnter Tryz.func232 Tryz.ntmps232 ?_
  refine wRUN (j6 h1 hg hbn h43 hemp hemp2) ?_
  refine w7 (op_data [] hu0) trivial ?_
  refine wRUN trivial ?_
  refine w6 (op_rawNil ifaceT) trivial ?_
  refine wRUN trivial ?_
  refine w4 (op_mkIface concE) trivial ?_
  refine wRUN trivial ?_
  (apply (op_rawEq ifaceT eqT tq);(focus (first | (simp only[go_sem,Nat.reduceEqDiff,Nat.reduceAdd,Nat.reduceSub,Nat.reduceLeDiff,Nat.reduceMul,Nat.reduceBEq,Nat.reduceLT,Int.reduceToNat,reduceCtorEq];first | done | exact rfl | (and_intros<;>rfl)) | exact rfl | decide));(focus (first | (simp only[go_sem,Nat.reduceEqDiff,Nat.reduceAdd,Nat.reduceSub,Nat.reduceLeDiff,Nat.reduceMul,Nat.reduceBEq,Nat.reduceLT,Int.reduceToNat,reduceCtorEq];first | done | exact rfl | (and_intros<;>rfl)) | exact rfl | decide));(focus (first | (simp only[go_sem,Nat.reduceEqDiff,Nat.reduceAdd,Nat.reduceSub,Nat.reduceLeDiff,Nat.reduceMul,Nat.reduceBEq,Nat.reduceLT,Int.reduceToNat,reduceCtorEq];first | done | exact rfl | (and_intros<;>rfl)) | exact rfl | decide));(focus (exact fun op w=>by unfold eqGuard;cases op<;>rfl));(focus (first | (simp only[go_sem,Nat.reduceEqDiff,Nat.reduceAdd,Nat.reduceSub,Nat.reduceLeDiff,Nat.reduceMul,Nat.reduceBEq,Nat.reduceLT,Int.reduceToNat,reduceCtorEq,n21];first | done | exact rfl | (and_intros<;>rfl)) | exact rfl | decide));(focus (first | (simp only[go_sem,Nat.reduceEqDiff,Nat.reduceAdd,Nat.reduceSub,Nat.reduceLeDiff,Nat.reduceMul,Nat.reduceBEq,Nat.reduceLT,Int.reduceToNat,reduceCtorEq];first | done | exact rfl | (and_intros<;>rfl)) | exact rfl | decide));(focus (first | (simp only[go_sem,Nat.reduceEqDiff,Nat.reduceAdd,Nat.reduceSub,Nat.reduceLeDiff,Nat.reduceMul,Nat.reduceBEq,Nat.reduceLT,Int.reduceToNat,reduceCtorEq];first | done | exact rfl | (and_intros<;>rfl)) | exact rfl | decide));(focus (first | (simp only[go_sem,Nat.reduceEqDiff,Nat.reduceAdd,Nat.reduceSub,Nat.reduceLeDiff,Nat.reduceMul,Nat.reduceBEq,Nat.reduceLT,Int.reduceToNat,reduceCtorEq];first | done | exact rfl | (and_intros<;>rfl)) | exact rfl | decide)))
  refine wRUN trivial ?_
  exact wRet (ret_data []) Tryz.results232
 |false=>cases h45:((n:Int)==45) with
  |true =>
   rw[bad _ _ rfl h45 (.inr rfl)]
   refine wEnter Tryz.func232 Tryz.ntmps232 ?_
   refine wRUN (j7 h1 hg hbn h43 h45 hemp hemp2) ?_
   refine w7 (op_data [] hu0) trivial ?_
   refine wRUN trivial ?_
   refine w6 (op_rawNil ifaceT) trivial ?_
   refine wRUN trivial ?_
   refine w4 (op_mkIface concE) trivial ?_
   refine wRUN trivial ?_
   (apply (op_rawEq ifaceT eqT tq);(focus (first | (simp only[go_sem,Nat.reduceEqDiff,Nat.reduceAdd,Nat.reduceSub,Nat.reduceLeDiff,Nat.reduceMul,Nat.reduceBEq,Nat.reduceLT,Int.reduceToNat,reduceCtorEq];first | done | exact rfl | (and_intros<;>rfl)) | exact rfl | decide));(focus (first | (simp only[go_sem,Nat.reduceEqDiff,Nat.reduceAdd,Nat.reduceSub,Nat.reduceLeDiff,Nat.reduceMul,Nat.reduceBEq,Nat.reduceLT,Int.reduceToNat,reduceCtorEq];first | done | exact rfl | (and_intros<;>rfl)) | exact rfl | decide));(focus (first | (simp only[go_sem,Nat.reduceEqDiff,Nat.reduceAdd,Nat.reduceSub,Nat.reduceLeDiff,Nat.reduceMul,Nat.reduceBEq,Nat.reduceLT,Int.reduceToNat,reduceCtorEq];first | done | exact rfl | (and_intros<;>rfl)) | exact rfl | decide));(focus (exact fun op w=>by unfold eqGuard;cases op<;>rfl));(focus (first | (simp only[go_sem,Nat.reduceEqDiff,Nat.reduceAdd,Nat.reduceSub,Nat.reduceLeDiff,Nat.reduceMul,Nat.reduceBEq,Nat.reduceLT,Int.reduceToNat,reduceCtorEq,n21];first | done | exact rfl | (and_intros<;>rfl)) | exact rfl | decide));(focus (first | (simp only[go_sem,Nat.reduceEqDiff,Nat.reduceAdd,Nat.reduceSub,Nat.reduceLeDiff,Nat.reduceMul,Nat.reduceBEq,Nat.reduceLT,Int.reduceToNat,reduceCtorEq];first | done | exact rfl | (and_intros<;>rfl)) | exact rfl | decide));(focus (first | (simp only[go_sem,Nat.reduceEqDiff,Nat.reduceAdd,Nat.reduceSub,Nat.reduceLeDiff,Nat.reduceMul,Nat.reduceBEq,Nat.reduceLT,Int.reduceToNat,reduceCtorEq];first | done | exact rfl | (and_intros<;>rfl)) | exact rfl | decide));(focus (first | (simp only[go_sem,Nat.reduceEqDiff,Nat.reduceAdd,Nat.reduceSub,Nat.reduceLeDiff,Nat.reduceMul,Nat.reduceBEq,Nat.reduceLT,Int.reduceToNat,reduceCtorEq];first | done | exact rfl | (and_intros<;>rfl)) | exact rfl | decide)))
   refine wRUN trivial ?_
   exact wRet (ret_data []) Tryz.results232
  |false =>
   unfold u16A at hu
   unfold i16A
   by_cases hx:0≤hexB n
   ·have hx16:=hexB_in (Int.not_lt.2 hx)
    rw[if_pos hx]at hu ⊢
    generalize hexB n=x at *
    have gc:decide (x≥9223372036854775808)=false:=decide_eq_false (by omega)
    have wx:IntKind.i64.wrap x=x:=i64_in (by omega) (by omega)
    refine wEnter Tryz.func232 Tryz.ntmps232 ?_
    refine wRUN (j5 h1 hg hbn h43 h45) ?_
    refine w7 (op_data [] hu) trivial ?_
    refine wRUN trivial ?_
    refine w6 (op_nilEq ifaceT) trivial ?_
    refine wRUN (j3 l4 w63 v63) ?_
    refine w5 (op_num2 (m:=1) (n:=63) (c:=.int .u64 9223372036854775808) (fun w=>shl63 w _) (fun w S=>⟨rfl,rfl⟩) (fun w=>rfl)) trivial ?_
    refine wRUN (j2 gc wx) ?_
    exact wRet (ret_data []) Tryz.results232
   ·rw[if_neg hx]at hu ⊢
    refine wEnter Tryz.func232 Tryz.ntmps232 ?_
    refine wRUN (j5 h1 hg hbn h43 h45) ?_
    refine w7 (op_data [] hu) trivial ?_
    refine wRUN trivial ?_
    refine w6 (op_rawNil ifaceT) trivial ?_
    refine wRUN trivial ?_
    refine w4 (op_mkIface concE) trivial ?_
    refine wRUN trivial ?_
    (apply (op_rawEq ifaceT eqT tq);(focus (first | (simp only[go_sem,Nat.reduceEqDiff,Nat.reduceAdd,Nat.reduceSub,Nat.reduceLeDiff,Nat.reduceMul,Nat.reduceBEq,Nat.reduceLT,Int.reduceToNat,reduceCtorEq];first | done | exact rfl | (and_intros<;>rfl)) | exact rfl | decide));(focus (first | (simp only[go_sem,Nat.reduceEqDiff,Nat.reduceAdd,Nat.reduceSub,Nat.reduceLeDiff,Nat.reduceMul,Nat.reduceBEq,Nat.reduceLT,Int.reduceToNat,reduceCtorEq];first | done | exact rfl | (and_intros<;>rfl)) | exact rfl | decide));(focus (first | (simp only[go_sem,Nat.reduceEqDiff,Nat.reduceAdd,Nat.reduceSub,Nat.reduceLeDiff,Nat.reduceMul,Nat.reduceBEq,Nat.reduceLT,Int.reduceToNat,reduceCtorEq];first | done | exact rfl | (and_intros<;>rfl)) | exact rfl | decide));(focus (exact fun op w=>by unfold eqGuard;cases op<;>rfl));(focus (first | (simp only[go_sem,Nat.reduceEqDiff,Nat.reduceAdd,Nat.reduceSub,Nat.reduceLeDiff,Nat.reduceMul,Nat.reduceBEq,Nat.reduceLT,Int.reduceToNat,reduceCtorEq,n21];first | done | exact rfl | (and_intros<;>rfl)) | exact rfl | decide));(focus (first | (simp only[go_sem,Nat.reduceEqDiff,Nat.reduceAdd,Nat.reduceSub,Nat.reduceLeDiff,Nat.reduceMul,Nat.reduceBEq,Nat.reduceLT,Int.reduceToNat,reduceCtorEq];first | done | exact rfl | (and_intros<;>rfl)) | exact rfl | decide));(focus (first | (simp only[go_sem,Nat.reduceEqDiff,Nat.reduceAdd,Nat.reduceSub,Nat.reduceLeDiff,Nat.reduceMul,Nat.reduceBEq,Nat.reduceLT,Int.reduceToNat,reduceCtorEq];first | done | exact rfl | (and_intros<;>rfl)) | exact rfl | decide));(focus (first | (simp only[go_sem,Nat.reduceEqDiff,Nat.reduceAdd,Nat.reduceSub,Nat.reduceLeDiff,Nat.reduceMul,Nat.reduceBEq,Nat.reduceLT,Int.reduceToNat,reduceCtorEq];first | done | exact rfl | (and_intros<;>rfl)) | exact rfl | decide)))
    refine wRUN trivial ?_
    exact wRet (ret_data []) Tryz.results232
theorem parse16_ok (n:Nat) (hn:n<256) (hx:0≤hexB n):AC Tryz.prog 207 [.c (.str (bOne n)),.c (.int .i64 16),.c (.int .i64 64)] [] (.tup [.c (.int .i64 (hexB n)),.c (.raw .nilIface)]) []:=by
 have h:=int16_ac n hn
 unfold i16A at h
 rw[if_pos hx]at h
 refine wEnter Tryz.func207 Tryz.ntmps207 ?_
 refine wRUN trivial ?_
 refine w7 (op_data [] h) trivial ?_
 refine wRUN trivial ?_
 refine w6 (op_nilEq ifaceT) trivial ?_
 refine wRUN trivial ?_
 exact wRet (ret_data []) Tryz.results207
theorem parse16_bad (n:Nat) (hn:n<256) (hx:¬0≤hexB n):AC Tryz.prog 207 [.c (.str (bOne n)),.c (.int .i64 16),.c (.int .i64 64)] (errM o1 o2) (.tup [.c (.int .i64 0),.own (1,0)]) [((8,1),.gen (errsR o1 o2)),((1,0),.gen errR)]:=by
 have h:=int16_ac n hn
 unfold i16A at h
 rw[if_neg hx]at h
 have he:=toError_ac (o1:=o1) (o2:=o2) ⟨#[80,97,114,115,101,73,110,116]⟩ (bOne n) (by rw[bOne_size];omega) 16 64
 refine wEnter Tryz.func207 Tryz.ntmps207 ?_
 refine wRUN trivial ?_
 refine w7 (op_data [] h) trivial ?_
 refine wRUN trivial ?_
 refine w6 (op_rawNil ifaceT) trivial ?_
 refine wRUN trivial ?_
 refine wCall (op_any_call [((8,1),(8,1))] [((8,1),(8,1)),((1,0),(23,0))] he) trivial ?_
 refine wRUN trivial ?_
 exact wRetOf (ret_of [((8,1),(8,1)),((1,0),(23,0))] []) Tryz.results207 h
end
section
open Go.RowKit
set_option maxRecDepth 10000
variable {o1 o2:Obj}
theorem hexD_ac (s:ByteArray) (hs:s.size≤1000000) (d:DS) (hd:d.pl≤s.size):AC Tryz.prog 210 [.ptr (0,0) 0] (dsE o1 o2 s d) (.c (.int .i64 (d.hex s).1)) (dsE o1 o2 s (d.hex s).2):=by
 have t3:=Tryz.underlying9
 have hf:=fail_ac s d 5 d.pl
 unfold DS.hex
 obtain⟨pl,code,bad⟩:=d
 simp only at hd hf ⊢
 by_cases hc:code=0
 ·subst hc
  have h00:((0:Int)==0)=true:=rfl
  rw[fail_okB]at hf
  rw[fail_okB]
  by_cases hlt:pl<s.size
  ·have hdk:decide ((pl:Int)<(s.size:Int))=true:=decide_eq_true (by omega)
   obtain⟨b,hg,hb⟩:=bAt_in hlt
   have hw:=wrap_succ (k:=pl) (by omega)
   have hsb:s.extract ((pl:Nat):Int).toNat ((pl+1:Nat):Int).toNat=bOne (bAt s pl):=sub_one hlt
   have hbb:=bAt_byte hlt
   by_cases hx:0≤hexB (bAt s pl)
   ·have hp:=parse16_ok (bAt s pl) hbb hx
    have hih:=isHex_ac b.toNat b.toNat_lt
    rw[←hb,decide_eq_true hx]at hih
    have hbn:((b.toNat:Nat):Int)=((bAt s pl:Nat):Int):=by rw[hb]
    rw[if_pos ⟨rfl,hx⟩]
    simp only[dsE_eq]
    unfold DS.go
    generalize hexB (bAt s pl)=x at *
    refine wEnter Tryz.func210 Tryz.ntmps210 ?_
    refine wRUN (j3 h00 hdk hw) ?_
    refine w7 (op_sub (y:=bOne (bAt s pl)) (i:=(pl:Int)) (j:=((pl+1:Nat):Int)) (s:=s) hsb (by omega) (by omega) (by omega) t3) trivial ?_
    refine wRUN trivial ?_
    refine w7 (op_data [] hp) trivial ?_
    refine wRUN trivial ?_
    refine w6 (op_nilEq ifaceT) trivial ?_
    refine wRUN (j2 hg hbn) ?_
    refine w7 (op_data [] hih) trivial ?_
    refine wRUN hw ?_
    exact wRetOf (ret_of [((0,0),(0,0)),((8,1),(8,1))] []) Tryz.results210 hw
   ·have hp:=parse16_bad (o1:=o1) (o2:=o2) (bAt s pl) hbb hx
    rw[if_neg (fun h=>hx h.2)]
    simp only[dsE_eq,dsM_eq]at hf ⊢
    refine wEnter Tryz.func210 Tryz.ntmps210 ?_
    refine wRUN (j3 h00 hdk hw) ?_
    refine w7 (op_sub (y:=bOne (bAt s pl)) (i:=(pl:Int)) (j:=((pl+1:Nat):Int)) (s:=s) hsb (by omega) (by omega) (by omega) t3) trivial ?_
    refine wRUN trivial ?_
    refine wCall (op_any_call [((8,1),(8,1))] [((8,1),(8,1)),((1,0),(37,0))] hp) trivial ?_
    refine wRUN trivial ?_
    refine w7 (op_errEq ifaceT) trivial ?_
    refine wRUN trivial ?_
    refine wCall (op_any_call [((0,0),(0,0))] [((0,0),(0,0))] hf) trivial ?_
    refine wRUN trivial ?_
    exact wRetOf (ret_of [((0,0),(0,0)),((8,1),(8,1))] []) Tryz.results210 hw
  ·have hdk:decide ((pl:Int)<(s.size:Int))=false:=decide_eq_false (by omega)
   rw[if_neg (fun h=>by rw[hexB_end (by omega)]at h;exact absurd h.2 (by decide))]
   simp only[dsE_eq,dsM_eq]at hf ⊢
   refine wEnter Tryz.func210 Tryz.ntmps210 ?_
   refine wRUN (j2 h00 hdk) ?_
   refine wCall (op_any_call [((0,0),(0,0))] [((0,0),(0,0))] hf) trivial ?_
   refine wRUN trivial ?_
   exact wRetOf (ret_of [((0,0),(0,0)),((8,1),(8,1))] []) Tryz.results210 hdk
 ·have hcc:(code==0)=false:=by simpa using hc
  rw[fail_err (by exact hc)]at hf
  rw[if_neg (fun h=>hc h.1),fail_err (by exact hc)]
  simp only[dsE_eq,dsM_eq]at hf ⊢
  refine wEnter Tryz.func210 Tryz.ntmps210 ?_
  refine wRUN hcc ?_
  refine wCall (op_any_call [((0,0),(0,0))] [((0,0),(0,0))] hf) trivial ?_
  refine wRUN trivial ?_
  exact wRetOf (ret_of [((0,0),(0,0)),((8,1),(8,1))] []) Tryz.results210 hcc
theorem hexD_in {s:ByteArray}(d:DS) (hd:d.pl≤s.size):0≤(d.hex s).1∧(d.hex s).1≤15∧d.pl≤(d.hex s).2.pl∧(d.hex s).2.pl≤s.size:=by
 unfold DS.hex
 split
 ·rename_i h
  have hx:=hexB_in (Int.not_lt.2 h.2)
  have hlt:d.pl<s.size:=by
   rcases Nat.lt_or_ge d.pl s.size with h1 | h1
   ·exact h1
   ·rw[hexB_end h1]at h;exact absurd h.2 (by decide)
  exact⟨h.2,hx.2.2.1,Nat.le_succ _,hlt⟩
 ·exact⟨Int.le_refl 0,(by decide:(0:Int)≤15),by rw[fail_pl];exact Nat.le_refl _,by rw[fail_pl];exact hd⟩
def escC (k:Nat):Nat:=if k=0 then 34 else if k=1 then 92 else 47
theorem escC_lt (k:Nat):escC k<256:=by unfold escC;split;omega;split<;>omega
theorem escape_three {s:ByteArray}{d:DS}{k:Nat}(hk:k<3) (hn:∀j,j<k→d.is s (escC j)=false) (hi:d.is s (escC k)=true):d.escape s=(escC k,d.go (d.pl+1)):=by
 have:k=0∨k=1∨k=2:=by omega
 unfold DS.escape
 rcases this with rfl | rfl | rfl
 ·rw[if_pos (show d.is s 34=true from hi)];rfl
 ·rw[if_neg (by rw[show d.is s 34=false from hn 0 (by omega)];decide),if_pos (show d.is s 92=true from hi)];rfl
 ·rw[if_neg (by rw[show d.is s 34=false from hn 0 (by omega)];decide),if_neg (by rw[show d.is s 92=false from hn 1 (by omega)];decide),if_pos (show d.is s 47=true from hi)];rfl
theorem escape_more {s:ByteArray}{d:DS}(hn:∀j,j<3→d.is s (escC j)=false):d.escape s=(let d1:=d.word s [117,48,48];let h1:=d1.hex s;let h2:=h1.2.hex s;let n:=16*h1.1+h2.1;(n.toNat,if 32≤n∧n≤126 then h2.2 else h2.2.fail 5 d1.pl)):=by
 unfold DS.escape
 rw[if_neg (by rw[show d.is s 34=false from hn 0 (by omega)];decide),if_neg (by rw[show d.is s 92=false from hn 1 (by omega)];decide),if_neg (by rw[show d.is s 47=false from hn 2 (by omega)];decide)]
theorem escapeD_ac (s:ByteArray) (hs:s.size≤1000000) (d:DS) (hd:d.pl≤s.size):AC Tryz.prog 183 [.ptr (0,0) 0] (dsE o1 o2 s d) (.c (.int .u8 (d.escape s).1)) (dsE o1 o2 s (d.escape s).2):=by
 obtain⟨R,hR⟩:∃R,d.escape s=R:=⟨_,rfl⟩
 rw[hR]
 have hthree:=@escape_three s d
 have hmore:=@escape_more s d
 rw[hR]at hmore
 simp only[hR]at hthree
 have hrows:∀k,k<3→rowsAt [[C.int .u8 34],[C.int .u8 92],[C.int .u8 47]] 1 ((k:Nat):Int)=true∧([[C.int .u8 34],[C.int .u8 92],[C.int .u8 47]]:List (List C))[k]? = some [.int .u8 (escC k:Nat)]:=by
  intro k hk
  have:k=0∨k=1∨k=2:=by omega
  rcases this with rfl | rfl | rfl
  ·exact⟨by decide,rfl⟩
  ·exact⟨by decide,rfl⟩
  ·exact⟨by decide,rfl⟩
 simp only[dsE_eq]
 refine wEnter Tryz.func183 Tryz.ntmps183 ?_
 refine wRUN trivial ?_
 refine a_loop (κ:=Nat) (fun k=>⟨mkS 0 38 [(0,.ptr (0,0) 0),(2,.c (.int .u8 0)),(7,.own (7,0)),(8,.c (.int .i64 3)),(9,.c (.int .i64 k))],[((0,0),.box [.c (.str s),.c (.int .i64 d.pl),.c (.int .i64 d.code),.c (.int .i64 d.bad)]),((8,1),.gen (errsR o1 o2)),((7,0),.row false 1 5 [[.int .u8 34],[.int .u8 92],[.int .u8 47]])]⟩)
  (fun k=>k≤3∧∀j,j<k→d.is s (escC j)=false) (fun k=>3-k) 0 ⟨Nat.zero_le _,fun j hj=>absurd hj (by omega)⟩ ?_ ?_
 ·exact wSays (Says.of [((0,0),(0,0)),((8,1),(8,1)),((7,0),(7,0))] []) trivial
 ·rintro k ⟨hk,hn⟩
  by_cases hlt:k<3
  ·have hdk:decide ((k:Int)<3)=true:=decide_eq_true (by omega)
   have hwk:=wrap_succ (k:=k) (by omega)
   obtain⟨hr,hg⟩:=hrows k hlt
   have htk:=take_ac s hs d hd (escC k) (escC_lt k)
   cases hi:d.is s (escC k) with
   |true =>
    have h3:=hthree hlt hn hi
    unfold DS.take at htk
    rw[hi]at htk
    simp only[if_true]at htk
    subst h3
    simp only[dsM_eq]at htk ⊢
    generalize d.go (d.pl+1)=d2 at *
    refine wRUN (j3 hdk hr hg) ?_
    refine wCall (op_any_call [((0,0),(0,0))] [((0,0),(0,0))] htk) trivial ?_
    refine wRUN trivial ?_
    exact wRetOf (ret_of [((0,0),(0,0)),((8,1),(8,1))] []) Tryz.results183 hdk
   |false =>
    unfold DS.take at htk
    rw[hi]at htk
    simp only[Bool.false_eq_true,if_false,dsM_eq]at htk
    refine wRUN (j3 hdk hr hg) ?_
    refine wCall (op_any_call [((0,0),(0,0))] [((0,0),(0,0))] htk) trivial ?_
    refine wRUN hwk ?_
    refine⟨k+1,by omega,⟨by omega,fun j hj=>?_⟩,?_⟩
    ·by_cases hjk:j=k
     ·rw[hjk];exact hi
     ·exact hn j (by omega)
    exact wSays (Says.of [((0,0),(0,0)),((8,1),(8,1)),((7,0),(7,0))] []) hwk
  ·have hdk:decide ((k:Int)<3)=false:=decide_eq_false (by omega)
   have hm:=hmore (fun j hj=>hn j (by omega))
   have hwd:=word_ac s hs d hd ⟨#[117,48,48]⟩ (by decide)
   change AC _ _ _ _ _ (dsM s (d.word s [117,48,48]))at hwd
   have hp1:=(word_pl (s:=s) (l:=[117,48,48]) (d:=d) (by decide) hd).2
   simp only at hm
   generalize d.word s [117,48,48]=d1 at *
   have hh1:=hexD_ac (o1:=o1) (o2:=o2) s hs d1 hp1
   obtain⟨x1,x2,_,hp2⟩:=hexD_in d1 hp1
   generalize (d1.hex s).1=x at *
   generalize (d1.hex s).2=d2 at *
   have hh2:=hexD_ac (o1:=o1) (o2:=o2) s hs d2 hp2
   obtain⟨y1,y2,_,hp3⟩:=hexD_in d2 hp2
   generalize (d2.hex s).1=y at *
   generalize (d2.hex s).2=d3 at *
   have wp:IntKind.i64.wrap (16*x)=16*x:=i64_in (by omega) (by omega)
   have wq:IntKind.i64.wrap (16*x+y)=16*x+y:=i64_in (by omega) (by omega)
   have wu:IntKind.u8.wrap (16*x+y)=(((16*x+y).toNat:Nat):Int):=by rw[u8_in (by omega) (by omega)];omega
   have hin:=within_ac (16*x+y) 32 126
   subst hm
   simp only
   by_cases hok:32≤16*x+y∧16*x+y≤126
   ·have hb1:(decide (16*x+y≥32)&&decide (16*x+y≤126))=true:=by
     simp only[Bool.and_eq_true,decide_eq_true_eq];exact hok
    rw[hb1]at hin
    rw[if_pos hok]
    simp only[dsM_eq,dsE_eq]at hwd hh1 hh2 ⊢
    refine wRUN hdk ?_
    refine wCall (op_any_call [((0,0),(0,0))] [((0,0),(0,0))] hwd) trivial ?_
    refine wRUN trivial ?_
    refine wCall (op_any_call [((0,0),(0,0)),((8,1),(8,1))] [((0,0),(0,0)),((8,1),(8,1))] hh1) trivial ?_
    refine wRUN wp ?_
    refine wCall (op_any_call [((0,0),(0,0)),((8,1),(8,1))] [((0,0),(0,0)),((8,1),(8,1))] hh2) trivial ?_
    refine wRUN wq ?_
    refine w7 (op_data [] hin) trivial ?_
    refine wRUN wu ?_
    exact wRetOf (ret_of [((0,0),(0,0)),((8,1),(8,1))] []) Tryz.results183 hdk
   ·have hb1:(decide (16*x+y≥32)&&decide (16*x+y≤126))=false:=by
     rw[Bool.eq_false_iff]
     intro h
     simp only[Bool.and_eq_true,decide_eq_true_eq]at h
     exact hok h
    rw[hb1]at hin
    rw[if_neg hok]
    have hf:=fail_ac s d3 5 d1.pl
    generalize d3.fail 5 d1.pl=d4 at *
    simp only[dsM_eq,dsE_eq]at hwd hh1 hh2 hf ⊢
    refine wRUN hdk ?_
    refine wCall (op_any_call [((0,0),(0,0))] [((0,0),(0,0))] hwd) trivial ?_
    refine wRUN trivial ?_
    refine wCall (op_any_call [((0,0),(0,0)),((8,1),(8,1))] [((0,0),(0,0)),((8,1),(8,1))] hh1) trivial ?_
    refine wRUN wp ?_
    refine wCall (op_any_call [((0,0),(0,0)),((8,1),(8,1))] [((0,0),(0,0)),((8,1),(8,1))] hh2) trivial ?_
    refine wRUN wq ?_
    refine w7 (op_data [] hin) trivial ?_
    refine wRUN trivial ?_
    refine wCall (op_any_call [((0,0),(0,0))] [((0,0),(0,0))] hf) trivial ?_
    refine wRUN wu ?_
    exact wRetOf (ret_of [((0,0),(0,0)),((8,1),(8,1))] []) Tryz.results183 hdk
end
end Go.Proofs.YtlciedpfjhkkdaaGreatDoor
