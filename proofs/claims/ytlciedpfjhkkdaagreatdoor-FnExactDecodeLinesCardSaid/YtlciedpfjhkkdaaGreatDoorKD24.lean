/- The program's DecodeValue. -/
import Derived.Test.YtlciedpfjhkkdaaGreatDoorKD23
set_option linter.all false
set_option maxHeartbeats 8000000
namespace Go.Proofs.YtlciedpfjhkkdaaGreatDoor
open Go.RowKit
set_option maxRecDepth 10000
variable {o1 o2:Obj}
theorem Ia (s:ByteArray) (hs:s.size≤9000000000000000000) {c:Int×Nat}(h:Ba s=(c,none)):AC Tryz.prog 39 [.c (.str s)] (Bl o1 o2) (.tup [noV,.c (.int .i64 c.1),.c (.int .i64 c.2)]) (Bl o1 o2):=by
 unfold Ba at h
 unfold noV
 by_cases h4:4000<s.size
 ·have g4:decide ((s.size:Int)>4000)=true:=decide_eq_true (by omega)
  rw[if_pos h4]at h
  cases h
  refine A7 Tryz.func39 Tryz.ntmps39 ?_
  refine A0 g4 ?_
  (apply (Ac [((8,1),(8,1))] []);(focus (simp only[Tryz.results39,go_sem,Nat.reduceBEq,Nat.reduceLT,g4,Int.natCast_zero,Int.cast_ofNat_Int];exact rfl));(focus (simp only[go_sem,Nat.reduceEqDiff,Nat.reduceAdd,Nat.reduceSub,Nat.reduceLeDiff,Nat.reduceMul,Nat.reduceBEq,Nat.reduceLT,Int.reduceToNat,reduceCtorEq,g4,Int.natCast_zero,Int.cast_ofNat_Int];try (and_intros<;>rfl)));(focus exact rfl);(focus (simp only[go_sem,Nat.reduceEqDiff,Nat.reduceAdd,Nat.reduceSub,Nat.reduceLeDiff,Nat.reduceMul,Nat.reduceBEq,Nat.reduceLT,Int.reduceToNat,reduceCtorEq,g4,Int.natCast_zero,Int.cast_ofNat_Int];try (and_intros<;>rfl)));(focus exact rfl);(iterate 4 (focus (simp[go_sem,g4,Int.natCast_zero,Int.cast_ofNat_Int];done))))
 ·have g4:decide ((s.size:Int)>4000)=false:=decide_eq_false (by omega)
  rw[if_neg h4]at h
  have hv:=Jl (o1:=o1) (o2:=o2) s (by omega) 20 1 rfl ⟨0,0,0⟩ (Nat.zero_le _)
  have hin:=(EB (s:=s) 20 ⟨0,0,0⟩ (Nat.zero_le _)).2
  have hag:=DW (s:=s) 20 0 (Nat.zero_le _)
  have hf:=BQ (s:=s) 20 (Aa s 0) (AA (Nat.zero_le _)).2.1
  cases hR:Cn 20 s (Aa s 0) with
  |bad c' p =>
   rw[hR]at h hag hf
   simp only at h
   cases h
   obtain⟨a1,a2⟩:=hag
   have hc0:=AS hf.1
   have hsk:=Cc s (by omega) (DS.value s 20 ⟨0,0,0⟩).2 hin
   have hsc:=AG (s:=s) (DS.value s 20 ⟨0,0,0⟩).2
   have hsb:=Ij (s:=s) (DS.value s 20 ⟨0,0,0⟩).2
   have hff:=Bk s ((DS.value s 20 ⟨0,0,0⟩).2.skip s) 5 ((DS.value s 20 ⟨0,0,0⟩).2.skip s).pl
   rw[BX (by rw[hsc,a1];exact hc0)]at hff
   rw[a1]at hsc
   rw[a2]at hsb
   generalize (DS.value s 20 ⟨0,0,0⟩).2.skip s=d2 at *
   generalize (DS.value s 20 ⟨0,0,0⟩).2=d1 at *
   generalize (DS.value s 20 ⟨0,0,0⟩).1=v at *
   have hne:(d2.code != 0)=true:=by rw[hsc];simpa using hc0
   rw[←hsc,←hsb]
   simp only[Aq,AQ]at hv hsk hff
   by_cases hlt:d2.pl<s.size
   ·have gl:decide ((d2.pl:Int)<(s.size:Int))=true:=decide_eq_true (by omega)
    refine A7 Tryz.func39 Tryz.ntmps39 ?_
    refine A0 g4 ?_
    (apply (BM [] [((0,0),(13,0)),((8,1),(8,1))] [((0,0),(13,0)),((8,1),(8,1))] hv);(iterate 10 (focus (first | (simp only[go_sem,Nat.reduceEqDiff,Nat.reduceAdd,Nat.reduceSub,Nat.reduceLeDiff,Nat.reduceMul,Nat.reduceBEq,Nat.reduceLT,Int.reduceToNat,reduceCtorEq,Int.natCast_zero,Int.cast_ofNat_Int];first | done | exact rfl | (and_intros<;>rfl)) | exact rfl | decide)));(iterate 8 (focus (simp[go_sem,Int.natCast_zero,Int.cast_ofNat_Int];done)));(iterate 2 (focus (first | (simp only[go_sem,Nat.reduceEqDiff,Nat.reduceAdd,Nat.reduceSub,Nat.reduceLeDiff,Nat.reduceMul,Nat.reduceBEq,Nat.reduceLT,Int.reduceToNat,reduceCtorEq,Int.natCast_zero,Int.cast_ofNat_Int];first | done | exact rfl | (and_intros<;>rfl)) | exact rfl | decide))))
    refine A0 trivial ?_
    refine Af (A3 [((0,0),(13,0))] [((0,0),(13,0))] hsk) trivial ?_
    refine A0 gl ?_
    refine Af (A3 [((0,0),(13,0))] [((0,0),(13,0))] hff) trivial ?_
    refine A0 hne ?_
    exact Ad (Ac [((8,1),(8,1))] []) Tryz.results39 gl
   ·have gl:decide ((d2.pl:Int)<(s.size:Int))=false:=decide_eq_false (by omega)
    refine A7 Tryz.func39 Tryz.ntmps39 ?_
    refine A0 g4 ?_
    (apply (BM [] [((0,0),(13,0)),((8,1),(8,1))] [((0,0),(13,0)),((8,1),(8,1))] hv);(iterate 10 (focus (first | (simp only[go_sem,Nat.reduceEqDiff,Nat.reduceAdd,Nat.reduceSub,Nat.reduceLeDiff,Nat.reduceMul,Nat.reduceBEq,Nat.reduceLT,Int.reduceToNat,reduceCtorEq,Int.natCast_zero,Int.cast_ofNat_Int];first | done | exact rfl | (and_intros<;>rfl)) | exact rfl | decide)));(iterate 8 (focus (simp[go_sem,Int.natCast_zero,Int.cast_ofNat_Int];done)));(iterate 2 (focus (first | (simp only[go_sem,Nat.reduceEqDiff,Nat.reduceAdd,Nat.reduceSub,Nat.reduceLeDiff,Nat.reduceMul,Nat.reduceBEq,Nat.reduceLT,Int.reduceToNat,reduceCtorEq,Int.natCast_zero,Int.cast_ofNat_Int];first | done | exact rfl | (and_intros<;>rfl)) | exact rfl | decide))))
    refine A0 trivial ?_
    refine Af (A3 [((0,0),(13,0))] [((0,0),(13,0))] hsk) trivial ?_
    refine A0 (j2 gl hne) ?_
    exact Ad (Ac [((8,1),(8,1))] []) Tryz.results39 gl
  |ok v e =>
   rw[hR]at h hag hf
   simp only at h
   obtain⟨a1,a2⟩:=hag
   obtain⟨_,he,f1,f2,f3,f4⟩:=hf
   rw[a1,a2]at hv
   have hsk:=Cc s (by omega) ⟨e,0,0⟩ he
   rw[Bt]at hsk
   have h00:((0:Int) != 0)=false:=rfl
   have h50:((5:Int) != 0)=true:=rfl
   by_cases hlt:Aa s e<s.size
   ·rw[if_pos hlt]at h
    cases h
    have gl:decide (((Aa s e:Nat):Int)<(s.size:Int))=true:=decide_eq_true (by omega)
    have hff:=Bk s ⟨Aa s e,0,0⟩ 5 (Aa s e)
    rw[ES]at hff
    simp only[Aq,AQ]at hv hsk hff
    refine A7 Tryz.func39 Tryz.ntmps39 ?_
    refine A0 g4 ?_
    (apply (BM [] [((0,0),(13,0)),((8,1),(8,1))] [((0,0),(13,0)),((8,1),(8,1))] hv);(iterate 10 (focus (first | (simp only[go_sem,Nat.reduceEqDiff,Nat.reduceAdd,Nat.reduceSub,Nat.reduceLeDiff,Nat.reduceMul,Nat.reduceBEq,Nat.reduceLT,Int.reduceToNat,reduceCtorEq,Int.natCast_zero,Int.cast_ofNat_Int];first | done | exact rfl | (and_intros<;>rfl)) | exact rfl | decide)));(iterate 8 (focus (simp[go_sem,Int.natCast_zero,Int.cast_ofNat_Int];done)));(iterate 2 (focus (first | (simp only[go_sem,Nat.reduceEqDiff,Nat.reduceAdd,Nat.reduceSub,Nat.reduceLeDiff,Nat.reduceMul,Nat.reduceBEq,Nat.reduceLT,Int.reduceToNat,reduceCtorEq,Int.natCast_zero,Int.cast_ofNat_Int];first | done | exact rfl | (and_intros<;>rfl)) | exact rfl | decide))))
    refine A0 trivial ?_
    (apply (A3 [((0,0),(13,0))] [((0,0),(13,0))] hsk);(iterate 7 (focus (first | (simp only[go_sem,Nat.reduceEqDiff,Nat.reduceAdd,Nat.reduceSub,Nat.reduceLeDiff,Nat.reduceMul,Nat.reduceBEq,Nat.reduceLT,Int.reduceToNat,reduceCtorEq,Int.natCast_zero,Int.cast_ofNat_Int];first | done | exact rfl | (and_intros<;>rfl)) | exact rfl | decide)));(iterate 7 (focus (simp[go_sem,Int.natCast_zero,Int.cast_ofNat_Int];done)));(iterate 2 (focus (first | (simp only[go_sem,Nat.reduceEqDiff,Nat.reduceAdd,Nat.reduceSub,Nat.reduceLeDiff,Nat.reduceMul,Nat.reduceBEq,Nat.reduceLT,Int.reduceToNat,reduceCtorEq,Int.natCast_zero,Int.cast_ofNat_Int];first | done | exact rfl | (and_intros<;>rfl)) | exact rfl | decide))))
    refine A0 gl ?_
    (apply (A3 [((0,0),(13,0))] [((0,0),(13,0))] hff);(iterate 7 (focus (first | (simp only[go_sem,Nat.reduceEqDiff,Nat.reduceAdd,Nat.reduceSub,Nat.reduceLeDiff,Nat.reduceMul,Nat.reduceBEq,Nat.reduceLT,Int.reduceToNat,reduceCtorEq,Int.natCast_zero,Int.cast_ofNat_Int];first | done | exact rfl | (and_intros<;>rfl)) | exact rfl | decide)));(iterate 7 (focus (simp[go_sem,Int.natCast_zero,Int.cast_ofNat_Int];done)));(iterate 2 (focus (first | (simp only[go_sem,Nat.reduceEqDiff,Nat.reduceAdd,Nat.reduceSub,Nat.reduceLeDiff,Nat.reduceMul,Nat.reduceBEq,Nat.reduceLT,Int.reduceToNat,reduceCtorEq,Int.natCast_zero,Int.cast_ofNat_Int];first | done | exact rfl | (and_intros<;>rfl)) | exact rfl | decide))))
    refine A0 h50 ?_
    exact Ad (Ac [((8,1),(8,1))] []) Tryz.results39 gl
   ·rw[if_neg hlt]at h
    have gl:decide (((Aa s e:Nat):Int)<(s.size:Int))=false:=decide_eq_false (by omega)
    by_cases h200:200<v.count
    ·rw[if_pos h200]at h
     cases h
     have g200:decide ((v.count:Int)>200)=true:=decide_eq_true (by omega)
     have hc:=L1 _ v (Nat.le_refl _) (by omega)
     simp only[Aq,AQ]at hv hsk
     refine A7 Tryz.func39 Tryz.ntmps39 ?_
     refine A0 g4 ?_
     (apply (BM [] [((0,0),(13,0)),((8,1),(8,1))] [((0,0),(13,0)),((8,1),(8,1))] hv);(iterate 10 (focus (first | (simp only[go_sem,Nat.reduceEqDiff,Nat.reduceAdd,Nat.reduceSub,Nat.reduceLeDiff,Nat.reduceMul,Nat.reduceBEq,Nat.reduceLT,Int.reduceToNat,reduceCtorEq,Int.natCast_zero,Int.cast_ofNat_Int];first | done | exact rfl | (and_intros<;>rfl)) | exact rfl | decide)));(iterate 8 (focus (simp[go_sem,Int.natCast_zero,Int.cast_ofNat_Int];done)));(iterate 2 (focus (first | (simp only[go_sem,Nat.reduceEqDiff,Nat.reduceAdd,Nat.reduceSub,Nat.reduceLeDiff,Nat.reduceMul,Nat.reduceBEq,Nat.reduceLT,Int.reduceToNat,reduceCtorEq,Int.natCast_zero,Int.cast_ofNat_Int];first | done | exact rfl | (and_intros<;>rfl)) | exact rfl | decide))))
     refine A0 trivial ?_
     (apply (A3 [((0,0),(13,0))] [((0,0),(13,0))] hsk);(iterate 7 (focus (first | (simp only[go_sem,Nat.reduceEqDiff,Nat.reduceAdd,Nat.reduceSub,Nat.reduceLeDiff,Nat.reduceMul,Nat.reduceBEq,Nat.reduceLT,Int.reduceToNat,reduceCtorEq,Int.natCast_zero,Int.cast_ofNat_Int];first | done | exact rfl | (and_intros<;>rfl)) | exact rfl | decide)));(iterate 7 (focus (simp[go_sem,Int.natCast_zero,Int.cast_ofNat_Int];done)));(iterate 2 (focus (first | (simp only[go_sem,Nat.reduceEqDiff,Nat.reduceAdd,Nat.reduceSub,Nat.reduceLeDiff,Nat.reduceMul,Nat.reduceBEq,Nat.reduceLT,Int.reduceToNat,reduceCtorEq,Int.natCast_zero,Int.cast_ofNat_Int];first | done | exact rfl | (and_intros<;>rfl)) | exact rfl | decide))))
     refine A0 (j2 gl h00) ?_
     refine w7 (A4 [] hc) trivial ?_
     refine A0 g200 ?_
     (apply (Ac [((8,1),(8,1))] []);(focus (simp only[Tryz.results39,go_sem,Nat.reduceBEq,Nat.reduceLT,gl,Int.natCast_zero,Int.cast_ofNat_Int];exact rfl));(focus (simp only[go_sem,Nat.reduceEqDiff,Nat.reduceAdd,Nat.reduceSub,Nat.reduceLeDiff,Nat.reduceMul,Nat.reduceBEq,Nat.reduceLT,Int.reduceToNat,reduceCtorEq,gl,Int.natCast_zero,Int.cast_ofNat_Int];try (and_intros<;>rfl)));(focus exact rfl);(focus (simp only[go_sem,Nat.reduceEqDiff,Nat.reduceAdd,Nat.reduceSub,Nat.reduceLeDiff,Nat.reduceMul,Nat.reduceBEq,Nat.reduceLT,Int.reduceToNat,reduceCtorEq,gl,Int.natCast_zero,Int.cast_ofNat_Int];try (and_intros<;>rfl)));(focus exact rfl);(iterate 4 (focus (simp[go_sem,gl,Int.natCast_zero,Int.cast_ofNat_Int];done))))
    ·rw[if_neg h200]at h
     cases h
theorem Jh (s:ByteArray) {c:Int×Nat}{v:V}(h:Ba s=(c,some v)):AC Tryz.prog 39 [.c (.str s)] (Bl o1 o2) (.tup [v.av,.c (.int .i64 0),.c (.int .i64 0)]) (Bl o1 o2):=by
 unfold Ba at h
 by_cases h4:4000<s.size
 ·rw[if_pos h4]at h;cases h
 have g4:decide ((s.size:Int)>4000)=false:=decide_eq_false (by omega)
 rw[if_neg h4]at h
 have hv:=Jl (o1:=o1) (o2:=o2) s (by omega) 20 1 rfl ⟨0,0,0⟩ (Nat.zero_le _)
 have hag:=DW (s:=s) 20 0 (Nat.zero_le _)
 have hf:=BQ (s:=s) 20 (Aa s 0) (AA (Nat.zero_le _)).2.1
 cases hR:Cn 20 s (Aa s 0) with
 |bad c' p=>rw[hR]at h;cases h
 |ok u e =>
  rw[hR]at h hag hf
  simp only at h
  obtain⟨a1,a2⟩:=hag
  obtain⟨_,he,f1,f2,f3,f4⟩:=hf
  rw[a1,a2]at hv
  have hsk:=Cc s (by omega) ⟨e,0,0⟩ he
  rw[Bt]at hsk
  have h00:((0:Int) != 0)=false:=rfl
  by_cases hlt:Aa s e<s.size
  ·rw[if_pos hlt]at h;cases h
  rw[if_neg hlt]at h
  have gl:decide (((Aa s e:Nat):Int)<(s.size:Int))=false:=decide_eq_false (by omega)
  by_cases h200:200<u.count
  ·rw[if_pos h200]at h;cases h
  rw[if_neg h200]at h
  cases h
  have g200:decide ((v.count:Int)>200)=false:=decide_eq_false (by omega)
  have hc:=L1 _ v (Nat.le_refl _) (by omega)
  simp only[Aq,AQ]at hv hsk
  refine A7 Tryz.func39 Tryz.ntmps39 ?_
  refine A0 g4 ?_
  (apply (BM [] [((0,0),(13,0)),((8,1),(8,1))] [((0,0),(13,0)),((8,1),(8,1))] hv);(iterate 10 (focus (first | (simp only[go_sem,Nat.reduceEqDiff,Nat.reduceAdd,Nat.reduceSub,Nat.reduceLeDiff,Nat.reduceMul,Nat.reduceBEq,Nat.reduceLT,Int.reduceToNat,reduceCtorEq,Int.natCast_zero,Int.cast_ofNat_Int];first | done | exact rfl | (and_intros<;>rfl)) | exact rfl | decide)));(iterate 8 (focus (simp[go_sem,Int.natCast_zero,Int.cast_ofNat_Int];done)));(iterate 2 (focus (first | (simp only[go_sem,Nat.reduceEqDiff,Nat.reduceAdd,Nat.reduceSub,Nat.reduceLeDiff,Nat.reduceMul,Nat.reduceBEq,Nat.reduceLT,Int.reduceToNat,reduceCtorEq,Int.natCast_zero,Int.cast_ofNat_Int];first | done | exact rfl | (and_intros<;>rfl)) | exact rfl | decide))))
  refine A0 trivial ?_
  (apply (A3 [((0,0),(13,0))] [((0,0),(13,0))] hsk);(iterate 7 (focus (first | (simp only[go_sem,Nat.reduceEqDiff,Nat.reduceAdd,Nat.reduceSub,Nat.reduceLeDiff,Nat.reduceMul,Nat.reduceBEq,Nat.reduceLT,Int.reduceToNat,reduceCtorEq,Int.natCast_zero,Int.cast_ofNat_Int];first | done | exact rfl | (and_intros<;>rfl)) | exact rfl | decide)));(iterate 7 (focus (simp[go_sem,Int.natCast_zero,Int.cast_ofNat_Int];done)));(iterate 2 (focus (first | (simp only[go_sem,Nat.reduceEqDiff,Nat.reduceAdd,Nat.reduceSub,Nat.reduceLeDiff,Nat.reduceMul,Nat.reduceBEq,Nat.reduceLT,Int.reduceToNat,reduceCtorEq,Int.natCast_zero,Int.cast_ofNat_Int];first | done | exact rfl | (and_intros<;>rfl)) | exact rfl | decide))))
  refine A0 (j2 gl h00) ?_
  refine w7 (A4 [] hc) trivial ?_
  refine A0 g200 ?_
  exact Ad (Ac [((8,1),(8,1))] []) Tryz.results39 gl
theorem I6 (s:ByteArray) (hs:s.size≤9000000000000000000) {c:Int×Nat}(h:Ba s=(c,none)):AC Tryz.prog 10 [.c (.str s)] (Bl o1 o2) (.agg [.c (.int .i64 c.1),.c (.int .i64 c.2),.nils]) (Bl o1 o2):=by
 have hd:=Ia (o1:=o1) (o2:=o2) s hs h
 have hc:(c.1 != 0)=true:=by simpa using AS (EL h).1
 refine A7 Tryz.func10 Tryz.ntmps10 ?_
 refine A0 trivial ?_
 refine Af (A3 [((8,1),(8,1))] [((8,1),(8,1))] hd) Gv ?_
 refine A0 (j2 hc Gv) ?_
 exact Ad (Ac [((8,1),(8,1))] []) Tryz.results10 hc
theorem Jd (s:ByteArray) {c:Int×Nat}{v:V}(h:Ba s=(c,some v)):AC Tryz.prog 10 [.c (.str s)] (Bl o1 o2) (.agg [.c (.int .i64 0),.c (.int .i64 0),.own (0,0)]) [((0,0),.row false 5 94 (v.enc.map CellD.cs)),((8,1),.gen (BL o1 o2))]:=by
 have hd:=Jh (o1:=o1) (o2:=o2) s h
 obtain⟨_,hr,hf⟩:=E5 h
 have hce:=GZ hr
 have h00:((0:Int) != 0)=false:=rfl
 refine A7 Tryz.func10 Tryz.ntmps10 ?_
 refine A0 trivial ?_
 refine Fs (BM [] [((8,1),(8,1))] [((8,1),(8,1))] hd) trivial ?_
 refine A0 h00 ?_
 refine w12 (D7 [] hce) trivial ?_
 refine A0 trivial ?_
 exact Ad (Ac [((8,1),(8,1)),((0,0),(18,0))] []) Tryz.results10 h00
end Go.Proofs.YtlciedpfjhkkdaaGreatDoor
