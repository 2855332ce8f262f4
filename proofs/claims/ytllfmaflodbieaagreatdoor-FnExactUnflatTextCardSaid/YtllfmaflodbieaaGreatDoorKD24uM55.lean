/- Texts of this proof: D24 E42 D27 D28 M55. -/
import Derived.Test.YtllfmaflodbieaaGreatDoorKD23
import Derived.Lib.SplitLaws
import Derived.Lib.IndexBytes
set_option linter.all false
set_option maxHeartbeats 8000000
namespace Go.Proofs.YtllfmaflodbieaaGreatDoor
section
open Go.RowKit
set_option maxRecDepth 10000
variable {o1 o2:Obj}
theorem z8 (s:ByteArray) (hs:s.size≤9000000000000000000) {c:Int×Nat}(h:SB s=(c,none)):AC Tryz.prog 62 [.c (.str s)] (Ij o1 o2) (.tup [noV,.c (.int .i64 c.1),.c (.int .i64 c.2)]) (Ij o1 o2):=by
 unfold SB at h
 unfold noV
 by_cases h4:4000<s.size
 ·have g4:decide ((s.size:Int)>4000)=true:=decide_eq_true (by omega)
  rw[if_pos h4]at h
  cases h
  refine A6 Tryz.func62 Tryz.ntmps62 ?_
  refine A0 g4 ?_
  (apply (A8 [((8,1),(8,1))] []);(focus (simp only[Tryz.results62,go_sem,Nat.reduceBEq,Nat.reduceLT,g4,Int.natCast_zero,Int.cast_ofNat_Int];exact rfl));(focus (simp only[go_sem,Nat.reduceEqDiff,Nat.reduceAdd,Nat.reduceSub,Nat.reduceLeDiff,Nat.reduceMul,Nat.reduceBEq,Nat.reduceLT,Int.reduceToNat,reduceCtorEq,g4,Int.natCast_zero,Int.cast_ofNat_Int];try (and_intros<;>rfl)));(focus exact rfl);(focus (simp only[go_sem,Nat.reduceEqDiff,Nat.reduceAdd,Nat.reduceSub,Nat.reduceLeDiff,Nat.reduceMul,Nat.reduceBEq,Nat.reduceLT,Int.reduceToNat,reduceCtorEq,g4,Int.natCast_zero,Int.cast_ofNat_Int];try (and_intros<;>rfl)));(focus exact rfl);(iterate 4 (focus (simp[go_sem,g4,Int.natCast_zero,Int.cast_ofNat_Int];done))))
 ·have g4:decide ((s.size:Int)>4000)=false:=decide_eq_false (by omega)
  rw[if_neg h4]at h
  have hv:=Mt (o1:=o1) (o2:=o2) s (by omega) 20 1 rfl ⟨0,0,0⟩ (Nat.zero_le _)
  have hin:=(IR (s:=s) 20 ⟨0,0,0⟩ (Nat.zero_le _)).2
  have hag:=Fm (s:=s) 20 0 (Nat.zero_le _)
  have hf:=C2 (s:=s) 20 (Af s 0) (AM (Nat.zero_le _)).2.1
  cases hR:Cq 20 s (Af s 0) with
  |bad c' p =>
   rw[hR]at h hag hf
   simp only at h
   cases h
   obtain⟨a1,a2⟩:=hag
   have hc0:=Bq hf.1
   have hsk:=Em s (by omega) (DS.value s 20 ⟨0,0,0⟩).2 hin
   have hsc:=B0 (s:=s) (DS.value s 20 ⟨0,0,0⟩).2
   have hsb:=Q8 (s:=s) (DS.value s 20 ⟨0,0,0⟩).2
   have hff:=Cd s ((DS.value s 20 ⟨0,0,0⟩).2.skip s) 5 ((DS.value s 20 ⟨0,0,0⟩).2.skip s).pl
   rw[CZ (by rw[hsc,a1];exact hc0)]at hff
   rw[a1]at hsc
   rw[a2]at hsb
   generalize (DS.value s 20 ⟨0,0,0⟩).2.skip s=d2 at *
   generalize (DS.value s 20 ⟨0,0,0⟩).2=d1 at *
   generalize (DS.value s 20 ⟨0,0,0⟩).1=v at *
   have hne:(d2.code != 0)=true:=by rw[hsc];simpa using hc0
   rw[←hsc,←hsb]
   simp only[Au,Bg]at hv hsk hff
   by_cases hlt:d2.pl<s.size
   ·have gl:decide ((d2.pl:Int)<(s.size:Int))=true:=decide_eq_true (by omega)
    refine A6 Tryz.func62 Tryz.ntmps62 ?_
    refine A0 g4 ?_
    (apply (Dr [] [((0,0),(13,0)),((8,1),(8,1))] [((0,0),(13,0)),((8,1),(8,1))] hv);(iterate 10 (focus (first | (simp only[go_sem,Nat.reduceEqDiff,Nat.reduceAdd,Nat.reduceSub,Nat.reduceLeDiff,Nat.reduceMul,Nat.reduceBEq,Nat.reduceLT,Int.reduceToNat,reduceCtorEq,Int.natCast_zero,Int.cast_ofNat_Int];first | done | exact rfl | (and_intros<;>rfl)) | exact rfl | decide)));(iterate 8 (focus (simp[go_sem,Int.natCast_zero,Int.cast_ofNat_Int];done)));(iterate 2 (focus (first | (simp only[go_sem,Nat.reduceEqDiff,Nat.reduceAdd,Nat.reduceSub,Nat.reduceLeDiff,Nat.reduceMul,Nat.reduceBEq,Nat.reduceLT,Int.reduceToNat,reduceCtorEq,Int.natCast_zero,Int.cast_ofNat_Int];first | done | exact rfl | (and_intros<;>rfl)) | exact rfl | decide))))
    refine A0 trivial ?_
    refine Ah (A4 [((0,0),(13,0))] [((0,0),(13,0))] hsk) trivial ?_
    refine A0 gl ?_
    refine Ah (A4 [((0,0),(13,0))] [((0,0),(13,0))] hff) trivial ?_
    refine A0 hne ?_
    exact A9 (A8 [((8,1),(8,1))] []) Tryz.results62 gl
   ·have gl:decide ((d2.pl:Int)<(s.size:Int))=false:=decide_eq_false (by omega)
    refine A6 Tryz.func62 Tryz.ntmps62 ?_
    refine A0 g4 ?_
    (apply (Dr [] [((0,0),(13,0)),((8,1),(8,1))] [((0,0),(13,0)),((8,1),(8,1))] hv);(iterate 10 (focus (first | (simp only[go_sem,Nat.reduceEqDiff,Nat.reduceAdd,Nat.reduceSub,Nat.reduceLeDiff,Nat.reduceMul,Nat.reduceBEq,Nat.reduceLT,Int.reduceToNat,reduceCtorEq,Int.natCast_zero,Int.cast_ofNat_Int];first | done | exact rfl | (and_intros<;>rfl)) | exact rfl | decide)));(iterate 8 (focus (simp[go_sem,Int.natCast_zero,Int.cast_ofNat_Int];done)));(iterate 2 (focus (first | (simp only[go_sem,Nat.reduceEqDiff,Nat.reduceAdd,Nat.reduceSub,Nat.reduceLeDiff,Nat.reduceMul,Nat.reduceBEq,Nat.reduceLT,Int.reduceToNat,reduceCtorEq,Int.natCast_zero,Int.cast_ofNat_Int];first | done | exact rfl | (and_intros<;>rfl)) | exact rfl | decide))))
    refine A0 trivial ?_
    refine Ah (A4 [((0,0),(13,0))] [((0,0),(13,0))] hsk) trivial ?_
    refine A0 (j2 gl hne) ?_
    exact A9 (A8 [((8,1),(8,1))] []) Tryz.results62 gl
  |ok v e =>
   rw[hR]at h hag hf
   simp only at h
   obtain⟨a1,a2⟩:=hag
   obtain⟨_,he,f1,f2,f3,f4⟩:=hf
   rw[a1,a2]at hv
   have hsk:=Em s (by omega) ⟨e,0,0⟩ he
   rw[CB]at hsk
   have h00:((0:Int) != 0)=false:=rfl
   have h50:((5:Int) != 0)=true:=rfl
   by_cases hlt:Af s e<s.size
   ·rw[if_pos hlt]at h
    cases h
    have gl:decide (((Af s e:Nat):Int)<(s.size:Int))=true:=decide_eq_true (by omega)
    have hff:=Cd s ⟨Af s e,0,0⟩ 5 (Af s e)
    rw[IF]at hff
    simp only[Au,Bg]at hv hsk hff
    refine A6 Tryz.func62 Tryz.ntmps62 ?_
    refine A0 g4 ?_
    (apply (Dr [] [((0,0),(13,0)),((8,1),(8,1))] [((0,0),(13,0)),((8,1),(8,1))] hv);(iterate 10 (focus (first | (simp only[go_sem,Nat.reduceEqDiff,Nat.reduceAdd,Nat.reduceSub,Nat.reduceLeDiff,Nat.reduceMul,Nat.reduceBEq,Nat.reduceLT,Int.reduceToNat,reduceCtorEq,Int.natCast_zero,Int.cast_ofNat_Int];first | done | exact rfl | (and_intros<;>rfl)) | exact rfl | decide)));(iterate 8 (focus (simp[go_sem,Int.natCast_zero,Int.cast_ofNat_Int];done)));(iterate 2 (focus (first | (simp only[go_sem,Nat.reduceEqDiff,Nat.reduceAdd,Nat.reduceSub,Nat.reduceLeDiff,Nat.reduceMul,Nat.reduceBEq,Nat.reduceLT,Int.reduceToNat,reduceCtorEq,Int.natCast_zero,Int.cast_ofNat_Int];first | done | exact rfl | (and_intros<;>rfl)) | exact rfl | decide))))
    refine A0 trivial ?_
    (apply (A4 [((0,0),(13,0))] [((0,0),(13,0))] hsk);(iterate 7 (focus (first | (simp only[go_sem,Nat.reduceEqDiff,Nat.reduceAdd,Nat.reduceSub,Nat.reduceLeDiff,Nat.reduceMul,Nat.reduceBEq,Nat.reduceLT,Int.reduceToNat,reduceCtorEq,Int.natCast_zero,Int.cast_ofNat_Int];first | done | exact rfl | (and_intros<;>rfl)) | exact rfl | decide)));(iterate 7 (focus (simp[go_sem,Int.natCast_zero,Int.cast_ofNat_Int];done)));(iterate 2 (focus (first | (simp only[go_sem,Nat.reduceEqDiff,Nat.reduceAdd,Nat.reduceSub,Nat.reduceLeDiff,Nat.reduceMul,Nat.reduceBEq,Nat.reduceLT,Int.reduceToNat,reduceCtorEq,Int.natCast_zero,Int.cast_ofNat_Int];first | done | exact rfl | (and_intros<;>rfl)) | exact rfl | decide))))
    refine A0 gl ?_
    (apply (A4 [((0,0),(13,0))] [((0,0),(13,0))] hff);(iterate 7 (focus (first | (simp only[go_sem,Nat.reduceEqDiff,Nat.reduceAdd,Nat.reduceSub,Nat.reduceLeDiff,Nat.reduceMul,Nat.reduceBEq,Nat.reduceLT,Int.reduceToNat,reduceCtorEq,Int.natCast_zero,Int.cast_ofNat_Int];first | done | exact rfl | (and_intros<;>rfl)) | exact rfl | decide)));(iterate 7 (focus (simp[go_sem,Int.natCast_zero,Int.cast_ofNat_Int];done)));(iterate 2 (focus (first | (simp only[go_sem,Nat.reduceEqDiff,Nat.reduceAdd,Nat.reduceSub,Nat.reduceLeDiff,Nat.reduceMul,Nat.reduceBEq,Nat.reduceLT,Int.reduceToNat,reduceCtorEq,Int.natCast_zero,Int.cast_ofNat_Int];first | done | exact rfl | (and_intros<;>rfl)) | exact rfl | decide))))
    refine A0 h50 ?_
    exact A9 (A8 [((8,1),(8,1))] []) Tryz.results62 gl
   ·rw[if_neg hlt]at h
    have gl:decide (((Af s e:Nat):Int)<(s.size:Int))=false:=decide_eq_false (by omega)
    by_cases h200:200<v.count
    ·rw[if_pos h200]at h
     cases h
     have g200:decide ((v.count:Int)>200)=true:=decide_eq_true (by omega)
     have hc:=OL _ v (Nat.le_refl _) (by omega)
     simp only[Au,Bg]at hv hsk
     refine A6 Tryz.func62 Tryz.ntmps62 ?_
     refine A0 g4 ?_
     (apply (Dr [] [((0,0),(13,0)),((8,1),(8,1))] [((0,0),(13,0)),((8,1),(8,1))] hv);(iterate 10 (focus (first | (simp only[go_sem,Nat.reduceEqDiff,Nat.reduceAdd,Nat.reduceSub,Nat.reduceLeDiff,Nat.reduceMul,Nat.reduceBEq,Nat.reduceLT,Int.reduceToNat,reduceCtorEq,Int.natCast_zero,Int.cast_ofNat_Int];first | done | exact rfl | (and_intros<;>rfl)) | exact rfl | decide)));(iterate 8 (focus (simp[go_sem,Int.natCast_zero,Int.cast_ofNat_Int];done)));(iterate 2 (focus (first | (simp only[go_sem,Nat.reduceEqDiff,Nat.reduceAdd,Nat.reduceSub,Nat.reduceLeDiff,Nat.reduceMul,Nat.reduceBEq,Nat.reduceLT,Int.reduceToNat,reduceCtorEq,Int.natCast_zero,Int.cast_ofNat_Int];first | done | exact rfl | (and_intros<;>rfl)) | exact rfl | decide))))
     refine A0 trivial ?_
     (apply (A4 [((0,0),(13,0))] [((0,0),(13,0))] hsk);(iterate 7 (focus (first | (simp only[go_sem,Nat.reduceEqDiff,Nat.reduceAdd,Nat.reduceSub,Nat.reduceLeDiff,Nat.reduceMul,Nat.reduceBEq,Nat.reduceLT,Int.reduceToNat,reduceCtorEq,Int.natCast_zero,Int.cast_ofNat_Int];first | done | exact rfl | (and_intros<;>rfl)) | exact rfl | decide)));(iterate 7 (focus (simp[go_sem,Int.natCast_zero,Int.cast_ofNat_Int];done)));(iterate 2 (focus (first | (simp only[go_sem,Nat.reduceEqDiff,Nat.reduceAdd,Nat.reduceSub,Nat.reduceLeDiff,Nat.reduceMul,Nat.reduceBEq,Nat.reduceLT,Int.reduceToNat,reduceCtorEq,Int.natCast_zero,Int.cast_ofNat_Int];first | done | exact rfl | (and_intros<;>rfl)) | exact rfl | decide))))
     refine A0 (j2 gl h00) ?_
     refine w7 (A3 [] hc) trivial ?_
     refine A0 g200 ?_
     (apply (A8 [((8,1),(8,1))] []);(focus (simp only[Tryz.results62,go_sem,Nat.reduceBEq,Nat.reduceLT,gl,Int.natCast_zero,Int.cast_ofNat_Int];exact rfl));(focus (simp only[go_sem,Nat.reduceEqDiff,Nat.reduceAdd,Nat.reduceSub,Nat.reduceLeDiff,Nat.reduceMul,Nat.reduceBEq,Nat.reduceLT,Int.reduceToNat,reduceCtorEq,gl,Int.natCast_zero,Int.cast_ofNat_Int];try (and_intros<;>rfl)));(focus exact rfl);(focus (simp only[go_sem,Nat.reduceEqDiff,Nat.reduceAdd,Nat.reduceSub,Nat.reduceLeDiff,Nat.reduceMul,Nat.reduceBEq,Nat.reduceLT,Int.reduceToNat,reduceCtorEq,gl,Int.natCast_zero,Int.cast_ofNat_Int];try (and_intros<;>rfl)));(focus exact rfl);(iterate 4 (focus (simp[go_sem,gl,Int.natCast_zero,Int.cast_ofNat_Int];done))))
    ·rw[if_neg h200]at h
     cases h
theorem ZQ (s:ByteArray) {c:Int×Nat}{v:V}(h:SB s=(c,some v)):AC Tryz.prog 62 [.c (.str s)] (Ij o1 o2) (.tup [v.av,.c (.int .i64 0),.c (.int .i64 0)]) (Ij o1 o2):=by
 unfold SB at h
 by_cases h4:4000<s.size
 ·rw[if_pos h4]at h;cases h
 have g4:decide ((s.size:Int)>4000)=false:=decide_eq_false (by omega)
 rw[if_neg h4]at h
 have hv:=Mt (o1:=o1) (o2:=o2) s (by omega) 20 1 rfl ⟨0,0,0⟩ (Nat.zero_le _)
 have hag:=Fm (s:=s) 20 0 (Nat.zero_le _)
 have hf:=C2 (s:=s) 20 (Af s 0) (AM (Nat.zero_le _)).2.1
 cases hR:Cq 20 s (Af s 0) with
 |bad c' p=>rw[hR]at h;cases h
 |ok u e =>
  rw[hR]at h hag hf
  simp only at h
  obtain⟨a1,a2⟩:=hag
  obtain⟨_,he,f1,f2,f3,f4⟩:=hf
  rw[a1,a2]at hv
  have hsk:=Em s (by omega) ⟨e,0,0⟩ he
  rw[CB]at hsk
  have h00:((0:Int) != 0)=false:=rfl
  by_cases hlt:Af s e<s.size
  ·rw[if_pos hlt]at h;cases h
  rw[if_neg hlt]at h
  have gl:decide (((Af s e:Nat):Int)<(s.size:Int))=false:=decide_eq_false (by omega)
  by_cases h200:200<u.count
  ·rw[if_pos h200]at h;cases h
  rw[if_neg h200]at h
  cases h
  have g200:decide ((v.count:Int)>200)=false:=decide_eq_false (by omega)
  have hc:=OL _ v (Nat.le_refl _) (by omega)
  simp only[Au,Bg]at hv hsk
  refine A6 Tryz.func62 Tryz.ntmps62 ?_
  refine A0 g4 ?_
  (apply (Dr [] [((0,0),(13,0)),((8,1),(8,1))] [((0,0),(13,0)),((8,1),(8,1))] hv);(iterate 10 (focus (first | (simp only[go_sem,Nat.reduceEqDiff,Nat.reduceAdd,Nat.reduceSub,Nat.reduceLeDiff,Nat.reduceMul,Nat.reduceBEq,Nat.reduceLT,Int.reduceToNat,reduceCtorEq,Int.natCast_zero,Int.cast_ofNat_Int];first | done | exact rfl | (and_intros<;>rfl)) | exact rfl | decide)));(iterate 8 (focus (simp[go_sem,Int.natCast_zero,Int.cast_ofNat_Int];done)));(iterate 2 (focus (first | (simp only[go_sem,Nat.reduceEqDiff,Nat.reduceAdd,Nat.reduceSub,Nat.reduceLeDiff,Nat.reduceMul,Nat.reduceBEq,Nat.reduceLT,Int.reduceToNat,reduceCtorEq,Int.natCast_zero,Int.cast_ofNat_Int];first | done | exact rfl | (and_intros<;>rfl)) | exact rfl | decide))))
  refine A0 trivial ?_
  (apply (A4 [((0,0),(13,0))] [((0,0),(13,0))] hsk);(iterate 7 (focus (first | (simp only[go_sem,Nat.reduceEqDiff,Nat.reduceAdd,Nat.reduceSub,Nat.reduceLeDiff,Nat.reduceMul,Nat.reduceBEq,Nat.reduceLT,Int.reduceToNat,reduceCtorEq,Int.natCast_zero,Int.cast_ofNat_Int];first | done | exact rfl | (and_intros<;>rfl)) | exact rfl | decide)));(iterate 7 (focus (simp[go_sem,Int.natCast_zero,Int.cast_ofNat_Int];done)));(iterate 2 (focus (first | (simp only[go_sem,Nat.reduceEqDiff,Nat.reduceAdd,Nat.reduceSub,Nat.reduceLeDiff,Nat.reduceMul,Nat.reduceBEq,Nat.reduceLT,Int.reduceToNat,reduceCtorEq,Int.natCast_zero,Int.cast_ofNat_Int];first | done | exact rfl | (and_intros<;>rfl)) | exact rfl | decide))))
  refine A0 (j2 gl h00) ?_
  refine w7 (A3 [] hc) trivial ?_
  refine A0 g200 ?_
  exact A9 (A8 [((8,1),(8,1))] []) Tryz.results62 gl
end
section
open Go.RowKit
section
variable {P:Program} {o:Oper} {σ:ASt}
theorem Ke {t e:TypeId}{s b size bytes:Nat}{z':Option Value}{ti:TI}{z:Value}(ht:tin P t=some ⟨.sl e,s,b,z'⟩) (ht':tin P e=some ⟨ti,size,bytes,some z⟩) (hzs:z.cells.size=size) (hsz:0<size) (hby:bytes≤200)
  {w:World} {v x:Value} {n:Nat} {xs:List Value} {S:Nat→Prop} {ys:List (List C)} {vrows:List (List Value)} {bs:List Nat} (hown:w.ownsRow 0 e size v n xs) (hx:Src w S size x ys vrows bs) (hn:n+ys.length≤2000000) (ty:TypeId) :
  ∃v' w',(Builtin.append_ #[t,t] ty #[v,x]).run P w=.ok v' w'∧w'.ownsRow 0 e size v' (n+ys.length) (xs++vrows.flatten)∧w.grownBy w' v.ownBlock∧(v'.ownBlock=v.ownBlock∨v'.ownBlock=some w.heap.size):=by
 obtain⟨A,c,rfl,h1,h2⟩:=hx.val
 have hu:=Hv ht
 obtain⟨d,i,g1,g2,g3⟩:=B4 ht'
 simp only[TIn.mk.injEq]at g3
 obtain⟨_,g4,g5,g6⟩:=g3
 have hl:=hx.rep.length
 cases A with
 |none =>
  have hy:=h1 rfl
  subst hy
  have hv:vrows=[]:=by simpa using hl
  subst hv
  exact⟨v,w,by simpa using Dz w 0 t ty e i size hu g2 v n xs hown c,by simpa using hown,⟨rfl,rfl,rfl,Nat.le_refl _,fun _ _ _=>rfl⟩,.inl rfl⟩
 |some ad =>
  have hfl:=Cm hx.len
  obtain⟨v',w',k1,k2,k3,_,k4⟩:=run_append_own_at (P:=P) w 0 t ty e i z size bytes hu g2 g6.symm g4.symm g5.symm hzs hsz v n xs hown ad ys.length c vrows.flatten (by rw[hfl,hl]) (h2 ad rfl) hx.rep.one
   (by simp only[maxLen];omega) (by calc (n+ys.length)*bytes≤2000000*200:=Nat.mul_le_mul hn hby
                     _≤_:=by omega) (Nat.zero_le _)
  exact⟨v',w',k1,k2,k3,k4⟩
theorem LW {ty e e':TypeId}{y z:Operand}{fr i j:Id}{s b size size' bytes:Nat}{z':Option Value}{ti:TI}{zv:Value}{xs ys:List (List C)}
  (ho:o.op=.call { callee:=.builtin .append,args:=#[y,z],argTypes:=#[ty,ty] }) (hf:σ.mem.get fr=none) (ht:tin P ty=some ⟨.sl e,s,b,z'⟩) (ht':tin P e=some ⟨ti,size,bytes,some zv⟩)
  (c1:zv.cells.size=size) (c2:0<size) (c3:bytes≤200) (hx:σ.ev y=.own i) (hi:σ.mem.get i=some (.row false size e xs)) (hz:σ.ev z=.own j) (hj:σ.mem.get j=some (.row false size' e' ys))
  (d1:xs.length+ys.length≤2000000) (d2:(ys.all fun r=>r.length==size)=true) (d3:i≠j):Al P o σ ⟨[j],[(i,.dead),(fr,.row false size e (xs++ys))],.own fr⟩:=by
 have hyo:y∈o.op.operands:=by rw[ho];simp[Op.operands,Call.operands]
 have hzo:z∈o.op.operands:=by rw[ho];simp[Op.operands,Call.operands]
 intro Γ σ' a w ow κ hag hr
 have hfr:σ'.mem.get fr=none:=by rw[hag.2.2 fr (by simp),hf]
 have e2:σ'.mem.get i=some (.row false size e xs):=by rw[hag.2.2 i (by simp),hi]
 have e3:σ'.mem.get j=some (.row false size' e' ys):=by rw[hag.2.1 j (by simp),hj]
 obtain⟨_,o1,k1,k2⟩:=hag.ev hr hyo hx
 rw[e2]at k1
 cases k1
 have k3:=k2 (by simp)
 obtain⟨vx,bx,h1,h2,h3,h4,h5,h6⟩:=hr.objs i _ e2
 rw[←k3]at h4 h5 h6
 have hb:=h2 rfl
 subst hb
 obtain⟨_,o2,l1,l2⟩:=hag.ev hr hzo hz
 rw[e3]at l1
 cases l1
 have l3:=l2 (by simp)
 obtain⟨vy,bv,g1,g2,g3,g4,g5,g6⟩:=hr.objs j _ e3
 have hb:=g2 rfl
 subst hb
 rw[←l3]at g4 g5 g6
 have hl:∀x∈vy,x.length=size:=by
  intro x hx
  obtain⟨i,hi,rfl⟩:=List.getElem_of_mem hx
  have hl:=g1.length
  have hyi:ys[i]? = some (ys[i]'(by omega)):=List.getElem?_eq_getElem (by omega)
  obtain⟨vr,b,q1,q2,_⟩:=Ag.at_ g1 hyi
  rw[List.getElem?_eq_getElem hi]at q1
  injection q1 with q1
  rw[q1,q2.length]
  have:=List.all_eq_true.1 d2 _ (List.getElem_mem (l:=ys) (n:=i) (by omega))
  simpa using this
 have y1:Src w (Γ.sees ow) size (a.eval z) ys vy []:=by
  refine⟨?_,g1,hl⟩
  rcases g4.2 with⟨q1,h0⟩ | ⟨g,cap,cur,q1,_⟩
  ·rw[q1];exact⟨none,0,by rw[h0],fun _=>List.eq_nil_of_length_eq_zero h0,by simp⟩
  ·rw[q1];exact⟨_,cap,rfl,by simp,fun ad hA j u hu=>by cases hA;exact g4.cells (g:=g) (by rw[q1];rfl) j u hu⟩
 have hne:i≠fr:=fun e=>by rw[e,hf]at hi;cases hi
 obtain⟨v',w',r1,r2,r3,r4⟩:=Ke ht ht' c1 c2 c3 h4 y1 d1 o.type
 obtain⟨ow',κ',hr'⟩:=hr.appended (rd:=[j]) (ks:=[i]) (ex:=false) hfr (by simpa using hne) h1 g1 h3 hl r2 r3 r4 (fun _=>⟨rfl,rfl⟩) (by simpa using h5) (fun b hb=>⟨i,by simp,h6 b (by simpa using hb)⟩) o.dst
 refine⟨v',w',ow',κ',.inl ?_,hr'⟩
 unfold execOp
 rw[ho]
 simp[resolve,invoke,builtin,r1]
end
section
variable {P:Program} {σ τ:ASt} {ops:Array Oper} {r:List Oper} {fs:List AEff} {K:ASt→List AEff→Prop} {E:AEff} {d:Option Tmp} {ty':TypeId} {pos:String} {af:Array Edge} {gd:Option (Nat×Bool)}
theorem GX {ty e e':TypeId}{y z:Operand}{i j:Id}{s b size size' bytes:Nat}{z':Option Value}{ti:TI}{zv:Value}(xs ys:List (List C))
  (d1:xs.length+ys.length≤2000000) (ht:tin P ty=some ⟨.sl e,s,b,z'⟩) (ht':tin P e=some ⟨ti,size,bytes,some zv⟩) (c1:zv.cells.size=size) (c2:0<size) (c3:bytes≤200) (d2:(ys.all fun r=>r.length==size)=true)
  (hg:Bi ops σ ⟨d,.call { callee:=.builtin .append,args:=#[y,z],argTypes:=#[ty,ty] },ty',pos,af,gd⟩=some true) (hx:σ.ev y=.own i) (hi:σ.mem.get i=some (.row false size e xs)) (hz:σ.ev z=.own j) (hj:σ.mem.get j=some (.row false size' e' ys)) (d3:i≠j)
  (hf:σ.mem.get (σ.fresh ⟨d,.call { callee:=.builtin .append,args:=#[y,z],argTypes:=#[ty,ty] },ty',pos,af,gd⟩)=none)
  (hE:(⟨[j],[(i,.dead),(σ.fresh ⟨d,.call { callee:=.builtin .append,args:=#[y,z],argTypes:=#[ty,ty] },ty',pos,af,gd⟩,.row false size e (xs++ys))],.own (σ.fresh ⟨d,.call { callee:=.builtin .append,args:=#[y,z],argTypes:=#[ty,ty] },ty',pos,af,gd⟩)⟩:AEff)=E)
  (hτ:σ.upd d E=τ) (h:Ad P ops r τ (fs++[E]) K):Ad P ops (⟨d,.call { callee:=.builtin .append,args:=#[y,z],argTypes:=#[ty,ty] },ty',pos,af,gd⟩::r) σ fs K:=by
 subst hE
 exact Bt hg (LW rfl hf ht ht' c1 c2 c3 hx hi hz hj d1 d2 d3).sound hτ h
end
end
section
open Go.RowKit
set_option maxRecDepth 10000
theorem R9 (s:ByteArray) (hs:s.size≤1048576):AC Tryz.prog 28 [.c (.str s)] [] (.own (0,0)) [((0,0),.row false 1 9 ((D7 s).map Ab))]:=by
 have h0w:IntKind.i64.wrap 0=0:=rfl
 refine A6 Tryz.func28 Tryz.ntmps28 ?_
 refine A0 trivial ?_
 refine AG (κ:=List ByteArray×Nat×Nat) (fun k=>⟨mkS 0 37 [(0,.c (.str s)),(3,.own (99,0)),(4,.c (.int .i64 k.2.1)),(5,.c (.int .i64 k.2.2))],[((99,0),.row false 1 9 (k.1.map Ab))]⟩)
  (fun k=>k.2.1≤k.2.2∧k.2.2≤s.size∧k.1.length≤k.2.2∧k.1++Ct s (s.size-k.2.2) k.2.1 k.2.2=D7 s) (fun k=>s.size-k.2.2) ([],0,0) ⟨Nat.le_refl _,Nat.zero_le _,Nat.zero_le _,rfl⟩ ?_ ?_
 ·exact Aq (As.of [((99,0),(6,0))] []) @List.map_nil.{0,0}
 ·rintro⟨out,f,i⟩ ⟨hf,hi,hol,hgo⟩
  dsimp only at hf hi hol hgo ⊢
  by_cases hlt:i<s.size
  ·have hdk:decide ((i:Int)<(s.size:Int))=true:=decide_eq_true (by omega)
   obtain⟨b,hg,hb⟩:=Aw hlt
   have hwi:=Ae (k:=i) (by omega)
   obtain⟨n,hn⟩:∃n,s.size-i=n+1:=⟨s.size-i-1,by omega⟩
   have hn':s.size-(i+1)=n:=by omega
   rw[hn,Ct]at hgo
   by_cases h10:bAt s i=10
   ·have e10:(((b.toNat:Nat):Int)==10)=true:=by rw[←hb,h10];rfl
    rw[if_pos h10]at hgo
    have hrow:(out++[s.extract f i]).map Ab=(out.map Ab)++[[C.str (s.extract f i)]]:=by simp[Ab]
    refine A0 (j5 hdk hg e10 hf hi) ?_
    refine w9 (GX (out.map Ab) [Ab (s.extract f i)] (by simp;omega) XQ Z8 rfl (by decide) (by decide) rfl) trivial ?_
    refine A0 hwi ?_
    refine⟨(out++[s.extract f i],i+1,i+1),by dsimp only;omega,⟨Nat.le_refl _,by dsimp only;omega,by simp;omega,by dsimp only;rw[hn',List.append_assoc];exact hgo⟩,?_⟩
    exact Aq (As.of [((99,0),(23,0))] []) (j2 hwi hrow)
   ·have e10:(((b.toNat:Nat):Int)==10)=false:=by rw[←hb];simp;omega
    rw[if_neg h10]at hgo
    refine A0 (j4 hdk hg e10 hwi) ?_
    refine⟨(out,f,i+1),by dsimp only;omega,⟨by dsimp only;omega,by dsimp only;omega,by dsimp only;omega,by dsimp only;rw[hn'];exact hgo⟩,?_⟩
    exact Aq (As.of [((99,0),(99,0))] []) hwi
  ·have hdk:decide ((i:Int)<(s.size:Int))=false:=decide_eq_false (by omega)
   rw[show s.size-i=0 from by omega,Ct]at hgo
   by_cases hfs:f<s.size
   ·have hdf:decide ((f:Int)<(s.size:Int))=true:=decide_eq_true (by omega)
    have hfl:f≤s.size:=by omega
    rw[if_pos hfs]at hgo
    have hrow:(D7 s).map Ab=(out.map Ab)++[[C.str (s.extract f s.size)]]:=by rw[←hgo];simp[Ab]
    refine A0 (j3 hdk hdf hfl) ?_
    refine w9 (GX (out.map Ab) [Ab (s.extract f s.size)] (by simp;omega) XQ Z8 rfl (by decide) (by decide) rfl) trivial ?_
    refine A0 trivial ?_
    exact A9 (A8 [((0,0),(35,0))] []) Tryz.results28 hrow
   ·have hdf:decide ((f:Int)<(s.size:Int))=false:=decide_eq_false (by omega)
    rw[if_neg hfs,List.append_nil]at hgo
    subst hgo
    refine A0 (j2 hdk hdf) ?_
    exact A9 (A8 [((0,0),(99,0))] []) Tryz.results28 hdk
set_option maxRecDepth 10000
theorem EW (s:ByteArray):∀(n f i:Nat),∀x∈Ct s n f i,x.size≤s.size
 | 0,f,i,x,h=>by
  unfold Ct at h
  split at h
  ·simp only[List.mem_singleton]at h
   subst h
   rw[ByteArray.size_extract]
   omega
  ·cases h
 |n+1,f,i,x,h=>by
  unfold Ct at h
  split at h
  ·rcases List.mem_cons.1 h with rfl | h
   ·rw[ByteArray.size_extract];omega
   ·exact EW s n _ _ x h
  ·exact EW s n _ _ x h
theorem SR {s:ByteArray}{f:Nat}(h:f<s.size):∃b:UInt8,s.data.toList.drop f=b::s.data.toList.drop (f+1)∧bAt s f=b.toNat:=by
 obtain⟨b,h1,h2⟩:=Aw h
 rw[getElem?_pos s f h]at h1
 cases h1
 exact⟨s[f],List.drop_eq_getElem_cons (by simpa using h),h2⟩
theorem Kn (b:UInt8):(b==10)=true↔b.toNat=10:=by
 rw[beq_iff_eq]
 constructor
 ·rintro rfl;rfl
 ·intro h;exact UInt8.toNat_inj.1 h
theorem P8 (s:ByteArray):∀(n f:Nat),f+n=s.size→Lib.indexByte (s.data.toList.drop f) 10=if nlN s n f=0 then -1 else ((nlB s n f-f:Nat):Int)
 | 0,f,h=>by
  rw[List.drop_eq_nil_of_le (by simp;omega)]
  rfl
 |n+1,f,h=>by
  obtain⟨b,h1,h2⟩:=SR (s:=s) (f:=f) (by omega)
  have ih:=P8 s n (f+1) (by omega)
  rw[h1,Lib.indexByte,ih,nlN,nlB]
  by_cases h10:bAt s f=10
  ·have hb:(b==10)=true:=(Kn b).2 (by omega)
   simp[h10,hb]
  ·have hb:(b==10)=false:=by
    cases hq:(b==10) with
    |false=>rfl
    |true=>exact absurd ((Kn b).1 hq) (by omega)
   have hin:=Rx s n (f+1)
   by_cases h0:nlN s n (f+1)=0
   ·simp[h10,hb,h0]
   ·simp only[h10,hb,h0,if_false,Nat.zero_add]
    simp
    omega
theorem Q4 (s:ByteArray):∀(n f:Nat),f+n=s.size→(s.data.toList.drop f).count 10=nlN s n f
 | 0,f,h=>by
  rw[List.drop_eq_nil_of_le (by simp;omega)]
  rfl
 |n+1,f,h=>by
  obtain⟨b,h1,h2⟩:=SR (s:=s) (f:=f) (by omega)
  have ih:=Q4 s n (f+1) (by omega)
  rw[h1,List.count_cons,ih,nlN]
  by_cases h10:bAt s f=10
  ·have hb:(b==10)=true:=(Kn b).2 (by omega)
   simp[h10,hb]
   omega
  ·have hb:(b==10)=false:=by
    cases hq:(b==10) with
    |false=>rfl
    |true=>exact absurd ((Kn b).1 hq) (by omega)
   simp[h10,hb]
theorem Ss {s:ByteArray}{f a e:Nat}(hf:f≤s.size) (he:f+e≤s.size):(s.extract f s.size).extract a e=s.extract (f+a) (f+e):=by
 apply ByteArray.ext
 apply Array.toList_inj.1
 have hl:s.data.toList.take s.size=s.data.toList:=List.take_of_length_le (Nat.le_of_eq (by simp))
 rw[CJ,CJ,CJ,hl,List.drop_take,List.drop_take,List.drop_drop]
 congr 1
 omega
theorem Ir (s:ByteArray):∀(k f:Nat),f≤s.size→nlN s (s.size-f) f=k→Lib.splitB (bS 10) 0 k (s.extract f s.size)=Fc s k f
 | 0,f,hf,h=>rfl
 |k+1,f,hf,h=>by
  obtain⟨h1,h2,h3⟩:=RO s (s.size-f) f (by omega)
  have hge:=(Rx s (s.size-f) f).1
  have hix:=P8 s (s.size-f) f (by omega)
  have hes:=E2 (s:=s) (a:=f) (e:=s.size) (Nat.le_refl _)
  rw[if_neg (by omega)]at hix
  have hl:s.data.toList.take s.size=s.data.toList:=List.take_of_length_le (Nat.le_of_eq (by simp))
  have hi:Lib.indexB (s.extract f s.size) (bS 10)=((nlB s (s.size-f) f-f:Nat):Int):=by
   show Lib.index (s.extract f s.size).data.toList [10]=_
   rw[Lib.index_one,CJ,hl,hix]
  have hb1:(bS 10).size=1:=rfl
  rw[Lib.splitB_hit (bS 10) 0 k _ _ hi,hes,hb1,Ss hf (by omega),Ss hf (by omega),Fc]
  rw[show f+0=f from rfl,show f+(nlB s (s.size-f) f-f+0)=nlB s (s.size-f) f from by omega,show f+(nlB s (s.size-f) f-f+1)=nlB s (s.size-f) f+1 from by omega,show f+(s.size-f)=s.size from by omega]
  rw[show f+(s.size-f)-(nlB s (s.size-f) f+1)=s.size-(nlB s (s.size-f) f+1) from by omega]at h3
  rw[Ir s k _ (by omega) (by omega)]
theorem RP (s:ByteArray):J0 (Lib.splitB (bS 10) 0 (Lib.countB s (bS 10)) s)=D7 s:=by
 have hc:Lib.countB s (bS 10)=nlN s s.size 0:=by
  have h1:=Q4 s s.size 0 (by omega)
  rw[List.drop_zero]at h1
  rw[←h1]
  exact Lib.count_one 10 _
 have h2:=Ir s (nlN s s.size 0) 0 (Nat.zero_le _) rfl
 have h3:s.extract 0 s.size=s:=by
  apply ByteArray.ext
  apply Array.toList_inj.1
  rw[CJ,List.drop_zero]
  exact List.take_of_length_le (Nat.le_of_eq (by simp))
 rw[h3]at h2
 rw[hc,h2,Wm]
end
end Go.Proofs.YtllfmaflodbieaaGreatDoor
