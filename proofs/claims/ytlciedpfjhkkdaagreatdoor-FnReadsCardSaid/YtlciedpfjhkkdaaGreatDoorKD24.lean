/- The program's DecodeValue. -/
import Derived.Test.YtlciedpfjhkkdaaGreatDoorKG69uD23
set_option linter.all false
set_option maxHeartbeats 8000000
namespace Go.Proofs.YtlciedpfjhkkdaaGreatDoor
open Go.RowKit
set_option maxRecDepth 10000
variable {o1 o2:Obj}
theorem decode_bad (s:ByteArray) (hs:s.size≤9000000000000000000) {c:Int×Nat}(h:decodeR s=(c,none)):AC Tryz.prog 39 [.c (.str s)] (errM o1 o2) (.tup [noV,.c (.int .i64 c.1),.c (.int .i64 c.2)]) (errM o1 o2):=by
 unfold decodeR at h
 unfold noV
 by_cases h4:4000<s.size
 ·have g4:decide ((s.size:Int)>4000)=true:=decide_eq_true (by omega)
  rw[if_pos h4]at h
  cases h
  refine wEnter Tryz.func39 Tryz.ntmps39 ?_
  refine wRUN g4 ?_
  (apply (ret_of [((8,1),(8,1))] []);(focus (simp only[Tryz.results39,go_sem,Nat.reduceBEq,Nat.reduceLT,g4,Int.natCast_zero,Int.cast_ofNat_Int];exact rfl));(focus (simp only[go_sem,Nat.reduceEqDiff,Nat.reduceAdd,Nat.reduceSub,Nat.reduceLeDiff,Nat.reduceMul,Nat.reduceBEq,Nat.reduceLT,Int.reduceToNat,reduceCtorEq,g4,Int.natCast_zero,Int.cast_ofNat_Int];try (and_intros<;>rfl)));(focus exact rfl);(focus (simp only[go_sem,Nat.reduceEqDiff,Nat.reduceAdd,Nat.reduceSub,Nat.reduceLeDiff,Nat.reduceMul,Nat.reduceBEq,Nat.reduceLT,Int.reduceToNat,reduceCtorEq,g4,Int.natCast_zero,Int.cast_ofNat_Int];try (and_intros<;>rfl)));(focus exact rfl);(iterate 4 (focus (simp[go_sem,g4,Int.natCast_zero,Int.cast_ofNat_Int];done))))
 ·have g4:decide ((s.size:Int)>4000)=false:=decide_eq_false (by omega)
  rw[if_neg h4]at h
  have hv:=valueD_ac (o1:=o1) (o2:=o2) s (by omega) 20 1 rfl ⟨0,0,0⟩ (Nat.zero_le _)
  have hin:=(value_in (s:=s) 20 ⟨0,0,0⟩ (Nat.zero_le _)).2
  have hag:=value_is (s:=s) 20 0 (Nat.zero_le _)
  have hf:=valR_fine (s:=s) 20 (skipB s 0) (skip_in (Nat.zero_le _)).2.1
  cases hR:valR 20 s (skipB s 0) with
  |bad c' p =>
   rw[hR]at h hag hf
   simp only at h
   cases h
   obtain⟨a1,a2⟩:=hag
   have hc0:=rdCode_ne hf.1
   have hsk:=skip_ac s (by omega) (DS.value s 20 ⟨0,0,0⟩).2 hin
   have hsc:=skip_code (s:=s) (DS.value s 20 ⟨0,0,0⟩).2
   have hsb:=skip_bad (s:=s) (DS.value s 20 ⟨0,0,0⟩).2
   have hff:=fail_ac s ((DS.value s 20 ⟨0,0,0⟩).2.skip s) 5 ((DS.value s 20 ⟨0,0,0⟩).2.skip s).pl
   rw[fail_err (by rw[hsc,a1];exact hc0)]at hff
   rw[a1]at hsc
   rw[a2]at hsb
   generalize (DS.value s 20 ⟨0,0,0⟩).2.skip s=d2 at *
   generalize (DS.value s 20 ⟨0,0,0⟩).2=d1 at *
   generalize (DS.value s 20 ⟨0,0,0⟩).1=v at *
   have hne:(d2.code != 0)=true:=by rw[hsc];simpa using hc0
   rw[←hsc,←hsb]
   simp only[dsM_eq,dsE_eq]at hv hsk hff
   by_cases hlt:d2.pl<s.size
   ·have gl:decide ((d2.pl:Int)<(s.size:Int))=true:=decide_eq_true (by omega)
    refine wEnter Tryz.func39 Tryz.ntmps39 ?_
    refine wRUN g4 ?_
    (apply (op_callB [] [((0,0),(13,0)),((8,1),(8,1))] [((0,0),(13,0)),((8,1),(8,1))] hv);(iterate 10 (focus (first | (simp only[go_sem,Nat.reduceEqDiff,Nat.reduceAdd,Nat.reduceSub,Nat.reduceLeDiff,Nat.reduceMul,Nat.reduceBEq,Nat.reduceLT,Int.reduceToNat,reduceCtorEq,Int.natCast_zero,Int.cast_ofNat_Int];first | done | exact rfl | (and_intros<;>rfl)) | exact rfl | decide)));(iterate 8 (focus (simp[go_sem,Int.natCast_zero,Int.cast_ofNat_Int];done)));(iterate 2 (focus (first | (simp only[go_sem,Nat.reduceEqDiff,Nat.reduceAdd,Nat.reduceSub,Nat.reduceLeDiff,Nat.reduceMul,Nat.reduceBEq,Nat.reduceLT,Int.reduceToNat,reduceCtorEq,Int.natCast_zero,Int.cast_ofNat_Int];first | done | exact rfl | (and_intros<;>rfl)) | exact rfl | decide))))
    refine wRUN trivial ?_
    refine wCall (op_any_call [((0,0),(13,0))] [((0,0),(13,0))] hsk) trivial ?_
    refine wRUN gl ?_
    refine wCall (op_any_call [((0,0),(13,0))] [((0,0),(13,0))] hff) trivial ?_
    refine wRUN hne ?_
    exact wRetOf (ret_of [((8,1),(8,1))] []) Tryz.results39 gl
   ·have gl:decide ((d2.pl:Int)<(s.size:Int))=false:=decide_eq_false (by omega)
    refine wEnter Tryz.func39 Tryz.ntmps39 ?_
    refine wRUN g4 ?_
    (apply (op_callB [] [((0,0),(13,0)),((8,1),(8,1))] [((0,0),(13,0)),((8,1),(8,1))] hv);(iterate 10 (focus (first | (simp only[go_sem,Nat.reduceEqDiff,Nat.reduceAdd,Nat.reduceSub,Nat.reduceLeDiff,Nat.reduceMul,Nat.reduceBEq,Nat.reduceLT,Int.reduceToNat,reduceCtorEq,Int.natCast_zero,Int.cast_ofNat_Int];first | done | exact rfl | (and_intros<;>rfl)) | exact rfl | decide)));(iterate 8 (focus (simp[go_sem,Int.natCast_zero,Int.cast_ofNat_Int];done)));(iterate 2 (focus (first | (simp only[go_sem,Nat.reduceEqDiff,Nat.reduceAdd,Nat.reduceSub,Nat.reduceLeDiff,Nat.reduceMul,Nat.reduceBEq,Nat.reduceLT,Int.reduceToNat,reduceCtorEq,Int.natCast_zero,Int.cast_ofNat_Int];first | done | exact rfl | (and_intros<;>rfl)) | exact rfl | decide))))
    refine wRUN trivial ?_
    refine wCall (op_any_call [((0,0),(13,0))] [((0,0),(13,0))] hsk) trivial ?_
    refine wRUN (j2 gl hne) ?_
    exact wRetOf (ret_of [((8,1),(8,1))] []) Tryz.results39 gl
  |ok v e =>
   rw[hR]at h hag hf
   simp only at h
   obtain⟨a1,a2⟩:=hag
   obtain⟨_,he,f1,f2,f3,f4⟩:=hf
   rw[a1,a2]at hv
   have hsk:=skip_ac s (by omega) ⟨e,0,0⟩ he
   rw[skip_ok]at hsk
   have h00:((0:Int) != 0)=false:=rfl
   have h50:((5:Int) != 0)=true:=rfl
   by_cases hlt:skipB s e<s.size
   ·rw[if_pos hlt]at h
    cases h
    have gl:decide (((skipB s e:Nat):Int)<(s.size:Int))=true:=decide_eq_true (by omega)
    have hff:=fail_ac s ⟨skipB s e,0,0⟩ 5 (skipB s e)
    rw[fail_ok]at hff
    simp only[dsM_eq,dsE_eq]at hv hsk hff
    refine wEnter Tryz.func39 Tryz.ntmps39 ?_
    refine wRUN g4 ?_
    (apply (op_callB [] [((0,0),(13,0)),((8,1),(8,1))] [((0,0),(13,0)),((8,1),(8,1))] hv);(iterate 10 (focus (first | (simp only[go_sem,Nat.reduceEqDiff,Nat.reduceAdd,Nat.reduceSub,Nat.reduceLeDiff,Nat.reduceMul,Nat.reduceBEq,Nat.reduceLT,Int.reduceToNat,reduceCtorEq,Int.natCast_zero,Int.cast_ofNat_Int];first | done | exact rfl | (and_intros<;>rfl)) | exact rfl | decide)));(iterate 8 (focus (simp[go_sem,Int.natCast_zero,Int.cast_ofNat_Int];done)));(iterate 2 (focus (first | (simp only[go_sem,Nat.reduceEqDiff,Nat.reduceAdd,Nat.reduceSub,Nat.reduceLeDiff,Nat.reduceMul,Nat.reduceBEq,Nat.reduceLT,Int.reduceToNat,reduceCtorEq,Int.natCast_zero,Int.cast_ofNat_Int];first | done | exact rfl | (and_intros<;>rfl)) | exact rfl | decide))))
    refine wRUN trivial ?_
    (apply (op_any_call [((0,0),(13,0))] [((0,0),(13,0))] hsk);(iterate 7 (focus (first | (simp only[go_sem,Nat.reduceEqDiff,Nat.reduceAdd,Nat.reduceSub,Nat.reduceLeDiff,Nat.reduceMul,Nat.reduceBEq,Nat.reduceLT,Int.reduceToNat,reduceCtorEq,Int.natCast_zero,Int.cast_ofNat_Int];first | done | exact rfl | (and_intros<;>rfl)) | exact rfl | decide)));(iterate 7 (focus (simp[go_sem,Int.natCast_zero,Int.cast_ofNat_Int];done)));(iterate 2 (focus (first | (simp only[go_sem,Nat.reduceEqDiff,Nat.reduceAdd,Nat.reduceSub,Nat.reduceLeDiff,Nat.reduceMul,Nat.reduceBEq,Nat.reduceLT,Int.reduceToNat,reduceCtorEq,Int.natCast_zero,Int.cast_ofNat_Int];first | done | exact rfl | (and_intros<;>rfl)) | exact rfl | decide))))
    refine wRUN gl ?_
    (apply (op_any_call [((0,0),(13,0))] [((0,0),(13,0))] hff);(iterate 7 (focus (first | (simp only[go_sem,Nat.reduceEqDiff,Nat.reduceAdd,Nat.reduceSub,Nat.reduceLeDiff,Nat.reduceMul,Nat.reduceBEq,Nat.reduceLT,Int.reduceToNat,reduceCtorEq,Int.natCast_zero,Int.cast_ofNat_Int];first | done | exact rfl | (and_intros<;>rfl)) | exact rfl | decide)));(iterate 7 (focus (simp[go_sem,Int.natCast_zero,Int.cast_ofNat_Int];done)));(iterate 2 (focus (first | (simp only[go_sem,Nat.reduceEqDiff,Nat.reduceAdd,Nat.reduceSub,Nat.reduceLeDiff,Nat.reduceMul,Nat.reduceBEq,Nat.reduceLT,Int.reduceToNat,reduceCtorEq,Int.natCast_zero,Int.cast_ofNat_Int];first | done | exact rfl | (and_intros<;>rfl)) | exact rfl | decide))))
    refine wRUN h50 ?_
    exact wRetOf (ret_of [((8,1),(8,1))] []) Tryz.results39 gl
   ·rw[if_neg hlt]at h
    have gl:decide (((skipB s e:Nat):Int)<(s.size:Int))=false:=decide_eq_false (by omega)
    by_cases h200:200<v.count
    ·rw[if_pos h200]at h
     cases h
     have g200:decide ((v.count:Int)>200)=true:=decide_eq_true (by omega)
     have hc:=count_ac _ v (Nat.le_refl _) (by omega)
     simp only[dsM_eq,dsE_eq]at hv hsk
     refine wEnter Tryz.func39 Tryz.ntmps39 ?_
     refine wRUN g4 ?_
     (apply (op_callB [] [((0,0),(13,0)),((8,1),(8,1))] [((0,0),(13,0)),((8,1),(8,1))] hv);(iterate 10 (focus (first | (simp only[go_sem,Nat.reduceEqDiff,Nat.reduceAdd,Nat.reduceSub,Nat.reduceLeDiff,Nat.reduceMul,Nat.reduceBEq,Nat.reduceLT,Int.reduceToNat,reduceCtorEq,Int.natCast_zero,Int.cast_ofNat_Int];first | done | exact rfl | (and_intros<;>rfl)) | exact rfl | decide)));(iterate 8 (focus (simp[go_sem,Int.natCast_zero,Int.cast_ofNat_Int];done)));(iterate 2 (focus (first | (simp only[go_sem,Nat.reduceEqDiff,Nat.reduceAdd,Nat.reduceSub,Nat.reduceLeDiff,Nat.reduceMul,Nat.reduceBEq,Nat.reduceLT,Int.reduceToNat,reduceCtorEq,Int.natCast_zero,Int.cast_ofNat_Int];first | done | exact rfl | (and_intros<;>rfl)) | exact rfl | decide))))
     refine wRUN trivial ?_
     (apply (op_any_call [((0,0),(13,0))] [((0,0),(13,0))] hsk);(iterate 7 (focus (first | (simp only[go_sem,Nat.reduceEqDiff,Nat.reduceAdd,Nat.reduceSub,Nat.reduceLeDiff,Nat.reduceMul,Nat.reduceBEq,Nat.reduceLT,Int.reduceToNat,reduceCtorEq,Int.natCast_zero,Int.cast_ofNat_Int];first | done | exact rfl | (and_intros<;>rfl)) | exact rfl | decide)));(iterate 7 (focus (simp[go_sem,Int.natCast_zero,Int.cast_ofNat_Int];done)));(iterate 2 (focus (first | (simp only[go_sem,Nat.reduceEqDiff,Nat.reduceAdd,Nat.reduceSub,Nat.reduceLeDiff,Nat.reduceMul,Nat.reduceBEq,Nat.reduceLT,Int.reduceToNat,reduceCtorEq,Int.natCast_zero,Int.cast_ofNat_Int];first | done | exact rfl | (and_intros<;>rfl)) | exact rfl | decide))))
     refine wRUN (j2 gl h00) ?_
     refine w7 (op_data [] hc) trivial ?_
     refine wRUN g200 ?_
     (apply (ret_of [((8,1),(8,1))] []);(focus (simp only[Tryz.results39,go_sem,Nat.reduceBEq,Nat.reduceLT,gl,Int.natCast_zero,Int.cast_ofNat_Int];exact rfl));(focus (simp only[go_sem,Nat.reduceEqDiff,Nat.reduceAdd,Nat.reduceSub,Nat.reduceLeDiff,Nat.reduceMul,Nat.reduceBEq,Nat.reduceLT,Int.reduceToNat,reduceCtorEq,gl,Int.natCast_zero,Int.cast_ofNat_Int];try (and_intros<;>rfl)));(focus exact rfl);(focus (simp only[go_sem,Nat.reduceEqDiff,Nat.reduceAdd,Nat.reduceSub,Nat.reduceLeDiff,Nat.reduceMul,Nat.reduceBEq,Nat.reduceLT,Int.reduceToNat,reduceCtorEq,gl,Int.natCast_zero,Int.cast_ofNat_Int];try (and_intros<;>rfl)));(focus exact rfl);(iterate 4 (focus (simp[go_sem,gl,Int.natCast_zero,Int.cast_ofNat_Int];done))))
    ·rw[if_neg h200]at h
     cases h
theorem decode_ok (s:ByteArray) {c:Int×Nat}{v:V}(h:decodeR s=(c,some v)):AC Tryz.prog 39 [.c (.str s)] (errM o1 o2) (.tup [v.av,.c (.int .i64 0),.c (.int .i64 0)]) (errM o1 o2):=by
 unfold decodeR at h
 by_cases h4:4000<s.size
 ·rw[if_pos h4]at h;cases h
 have g4:decide ((s.size:Int)>4000)=false:=decide_eq_false (by omega)
 rw[if_neg h4]at h
 have hv:=valueD_ac (o1:=o1) (o2:=o2) s (by omega) 20 1 rfl ⟨0,0,0⟩ (Nat.zero_le _)
 have hag:=value_is (s:=s) 20 0 (Nat.zero_le _)
 have hf:=valR_fine (s:=s) 20 (skipB s 0) (skip_in (Nat.zero_le _)).2.1
 cases hR:valR 20 s (skipB s 0) with
 |bad c' p=>rw[hR]at h;cases h
 |ok u e =>
  rw[hR]at h hag hf
  simp only at h
  obtain⟨a1,a2⟩:=hag
  obtain⟨_,he,f1,f2,f3,f4⟩:=hf
  rw[a1,a2]at hv
  have hsk:=skip_ac s (by omega) ⟨e,0,0⟩ he
  rw[skip_ok]at hsk
  have h00:((0:Int) != 0)=false:=rfl
  by_cases hlt:skipB s e<s.size
  ·rw[if_pos hlt]at h;cases h
  rw[if_neg hlt]at h
  have gl:decide (((skipB s e:Nat):Int)<(s.size:Int))=false:=decide_eq_false (by omega)
  by_cases h200:200<u.count
  ·rw[if_pos h200]at h;cases h
  rw[if_neg h200]at h
  cases h
  have g200:decide ((v.count:Int)>200)=false:=decide_eq_false (by omega)
  have hc:=count_ac _ v (Nat.le_refl _) (by omega)
  simp only[dsM_eq,dsE_eq]at hv hsk
  refine wEnter Tryz.func39 Tryz.ntmps39 ?_
  refine wRUN g4 ?_
  (apply (op_callB [] [((0,0),(13,0)),((8,1),(8,1))] [((0,0),(13,0)),((8,1),(8,1))] hv);(iterate 10 (focus (first | (simp only[go_sem,Nat.reduceEqDiff,Nat.reduceAdd,Nat.reduceSub,Nat.reduceLeDiff,Nat.reduceMul,Nat.reduceBEq,Nat.reduceLT,Int.reduceToNat,reduceCtorEq,Int.natCast_zero,Int.cast_ofNat_Int];first | done | exact rfl | (and_intros<;>rfl)) | exact rfl | decide)));(iterate 8 (focus (simp[go_sem,Int.natCast_zero,Int.cast_ofNat_Int];done)));(iterate 2 (focus (first | (simp only[go_sem,Nat.reduceEqDiff,Nat.reduceAdd,Nat.reduceSub,Nat.reduceLeDiff,Nat.reduceMul,Nat.reduceBEq,Nat.reduceLT,Int.reduceToNat,reduceCtorEq,Int.natCast_zero,Int.cast_ofNat_Int];first | done | exact rfl | (and_intros<;>rfl)) | exact rfl | decide))))
  refine wRUN trivial ?_
  (apply (op_any_call [((0,0),(13,0))] [((0,0),(13,0))] hsk);(iterate 7 (focus (first | (simp only[go_sem,Nat.reduceEqDiff,Nat.reduceAdd,Nat.reduceSub,Nat.reduceLeDiff,Nat.reduceMul,Nat.reduceBEq,Nat.reduceLT,Int.reduceToNat,reduceCtorEq,Int.natCast_zero,Int.cast_ofNat_Int];first | done | exact rfl | (and_intros<;>rfl)) | exact rfl | decide)));(iterate 7 (focus (simp[go_sem,Int.natCast_zero,Int.cast_ofNat_Int];done)));(iterate 2 (focus (first | (simp only[go_sem,Nat.reduceEqDiff,Nat.reduceAdd,Nat.reduceSub,Nat.reduceLeDiff,Nat.reduceMul,Nat.reduceBEq,Nat.reduceLT,Int.reduceToNat,reduceCtorEq,Int.natCast_zero,Int.cast_ofNat_Int];first | done | exact rfl | (and_intros<;>rfl)) | exact rfl | decide))))
  refine wRUN (j2 gl h00) ?_
  refine w7 (op_data [] hc) trivial ?_
  refine wRUN g200 ?_
  exact wRetOf (ret_of [((8,1),(8,1))] []) Tryz.results39 gl
theorem implDecode_bad (s:ByteArray) (hs:s.size≤9000000000000000000) {c:Int×Nat}(h:decodeR s=(c,none)):AC Tryz.prog 10 [.c (.str s)] (errM o1 o2) (.agg [.c (.int .i64 c.1),.c (.int .i64 c.2),.nils]) (errM o1 o2):=by
 have hd:=decode_bad (o1:=o1) (o2:=o2) s hs h
 have hc:(c.1 != 0)=true:=by simpa using rdCode_ne (decodeR_bad h).1
 refine wEnter Tryz.func10 Tryz.ntmps10 ?_
 refine wRUN trivial ?_
 refine wCall (op_any_call [((8,1),(8,1))] [((8,1),(8,1))] hd) noV_eq ?_
 refine wRUN (j2 hc noV_eq) ?_
 exact wRetOf (ret_of [((8,1),(8,1))] []) Tryz.results10 hc
theorem implDecode_ok (s:ByteArray) {c:Int×Nat}{v:V}(h:decodeR s=(c,some v)):AC Tryz.prog 10 [.c (.str s)] (errM o1 o2) (.agg [.c (.int .i64 0),.c (.int .i64 0),.own (0,0)]) [((0,0),.row false 5 94 (v.enc.map CellD.cs)),((8,1),.gen (errsR o1 o2))]:=by
 have hd:=decode_ok (o1:=o1) (o2:=o2) s h
 obtain⟨_,hr,hf⟩:=decodeR_ok h
 have hce:=count_right hr
 have h00:((0:Int) != 0)=false:=rfl
 refine wEnter Tryz.func10 Tryz.ntmps10 ?_
 refine wRUN trivial ?_
 refine wCallB (op_callB [] [((8,1),(8,1))] [((8,1),(8,1))] hd) trivial ?_
 refine wRUN h00 ?_
 refine w12 (op_rowF [] hce) trivial ?_
 refine wRUN trivial ?_
 exact wRetOf (ret_of [((8,1),(8,1)),((0,0),(18,0))] []) Tryz.results10 h00
end Go.Proofs.YtlciedpfjhkkdaaGreatDoor
