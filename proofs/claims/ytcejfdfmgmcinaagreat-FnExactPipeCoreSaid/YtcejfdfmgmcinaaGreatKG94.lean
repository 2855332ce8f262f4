/- slices.symMergeCmpFunc at values: the second way, and all of it. -/
import Derived.Test.YtcejfdfmgmcinaaGreatKM33uG93
set_option linter.all false
set_option maxHeartbeats 8000000
namespace Go.Proofs.YtcejfdfmgmcinaaGreat
open Go.RowKit
set_option maxRecDepth 10000
theorem NZ (f:FuncId) (hf:IE f) (P X:List V) (y:V) (S:List V) (hX2:2≤X.length) (hX:AI X) (hyr:y.right) (hn:(P++X++[y]++S).length≤100000) :
  AC Tryz.prog 386 [.own (0,0),.c (.int .i64 (P.length:Int)),.c (.int .i64 ((P.length+X.length:Nat):Int)),.c (.int .i64 ((P.length+X.length+1:Nat):Int)),.clo f []] (DL (P++X++[y]++S)) (.tup []) (DL (P++Az (X++[y])++S)):=by
 obtain⟨hcal,hf⟩:=hf
 simp only[List.length_append,List.length_singleton]at hn
 have w0:IntKind.i64.wrap (((P.length+X.length:Nat):Int)-(P.length:Int))=(X.length:Int):=Ba (by omega) (by omega)
 have h10:((X.length:Int)==1)=false:=by simp;omega
 have w1:IntKind.i64.wrap (((P.length+X.length+1:Nat):Int)-((P.length+X.length:Nat):Int))=1:=Ba (n:=1) (by omega) (by omega)
 have h11:((1:Int)==1)=true:=rfl
 refine A7 Tryz.func386 Tryz.ntmps386 (j4 w0 h10 w1 h11) ?_
 refine Ar (κ:=Nat×Nat) (fun q=>⟨mkS 0 220 [(0,.own (0,0)),(2,.c (.int .i64 ((P.length+X.length:Nat):Int))),(4,.clo f []),(14,.c (.int .i64 ((P.length+q.1:Nat):Int))),(15,.c (.int .i64 ((P.length+q.2:Nat):Int)))],[((0,0),Ki (P++X++[y]++S))]⟩)
  (fun q=>q.1≤q.2∧q.2≤X.length∧(∀x∈X.take q.1,leV x y)∧(∀x∈X.drop q.2,leV y x)) (fun q=>q.2-q.1) (0,X.length) ⟨Nat.zero_le _,Nat.le_refl _,by simp,by simp⟩ ?_ ?_
 ·have n0:P.length+0=P.length:=rfl
  exact Ab (Ah.of [((0,0),(0,0))] []) n0
 ·rintro⟨u,v⟩ ⟨huv,hvl,h1,h2⟩
  dsimp only at huv hvl h1 h2 ⊢
  by_cases hlt:u<v
  ·have hd:decide (((P.length+u:Nat):Int)<((P.length+v:Nat):Int))=true:=decide_eq_true (by omega)
   have wa:IntKind.i64.wrap (((P.length+u:Nat):Int)+((P.length+v:Nat):Int))=((P.length+u+(P.length+v):Nat):Int):=Ba (by omega) (by omega)
   have wu:=XG (z:=P.length+u+(P.length+v)) (by omega)
   obtain⟨h,hh⟩:∃h,(u+v) / 2=h:=⟨_,rfl⟩
   have hH:(P.length+u+(P.length+v)) / 2=P.length+h:=by omega
   have wh:IntKind.i64.wrap ((P.length+h:Nat):Int)=((P.length+h:Nat):Int):=Ba rfl (by omega)
   have hw:IntKind.i64.wrap (((P.length+h:Nat):Int)+1)=((P.length+(h+1):Nat):Int):=Ba (by omega) (by omega)
   have hhX:h<X.length:=by omega
   have e1:P++X++[y]++S=(P++X)++y::S:=by simp
   have e2:P++X++[y]++S=(P++X.take h)++X[h]::(X.drop (h+1)++[y]++S):=by
    conv=>lhs;rw[←List.take_append_drop h X,List.drop_eq_getElem_cons hhX]
    simp only[List.append_assoc,List.cons_append]
   obtain⟨r1,g1,_⟩:=BI (n:=P.length+X.length) _ _ _ (by simp) e1
   obtain⟨r2,g2,_⟩:=BI (n:=P.length+h) _ _ _ (by simp;omega) e2
   have hcm:=hf y X[h] hyr
   have htl:=LR hX hhX
   have hdl:=V3 hX hhX
   generalize P++X++[y]++S=L,X[h]=x at *
   clear e1 e2
   cases hc:decide (y.cmp x<0) with
   |false =>
    have hlx:leV x y:=I0.1 (by simpa using hc)
    refine Ac (j3 hd wa wu) ?_
    ((with_reducible apply EI);(iterate 4 (focus (first | (simp only[go_sem,Nat.reduceEqDiff,Nat.reduceAdd,Nat.reduceSub,Nat.reduceLeDiff,Nat.reduceMul,Nat.reduceBEq,Nat.reduceLT,Int.reduceToNat,reduceCtorEq,wa,wu];first | done | exact rfl | (and_intros<;>rfl)) | exact rfl | decide))))
    refine Ac (j6 hH wh r1 g1 r2 g2) ?_
    refine v7 (A3 [] hcm) hcal (j2 hc hw) ?_
    refine⟨(h+1,v),by dsimp only;omega,⟨by dsimp only;omega,hvl,fun z hz=>DW (htl z hz) hlx,h2⟩,?_⟩
    exact Ab (Ah.of [((0,0),(0,0))] []) hw
   |true =>
    have hlx:leV y x:=K8 (by simpa using hc)
    refine Ac (j3 hd wa wu) ?_
    ((with_reducible apply EI);(iterate 4 (focus (first | (simp only[go_sem,Nat.reduceEqDiff,Nat.reduceAdd,Nat.reduceSub,Nat.reduceLeDiff,Nat.reduceMul,Nat.reduceBEq,Nat.reduceLT,Int.reduceToNat,reduceCtorEq,wa,wu];first | done | exact rfl | (and_intros<;>rfl)) | exact rfl | decide))))
    refine Ac (j6 hH wh r1 g1 r2 g2) ?_
    refine v7 (A3 [] hcm) hcal hc ?_
    refine⟨(u,h),by dsimp only;omega,⟨by dsimp only;omega,by dsimp only;omega,h1,fun z hz=>DW hlx (hdl z hz)⟩,?_⟩
    exact Ab (Ah.of [((0,0),(0,0))] []) hw
  ·have hd:decide (((P.length+u:Nat):Int)<((P.length+v:Nat):Int))=false:=decide_eq_false (by omega)
   have huv':v=u:=by omega
   subst huv'
   have hins:=Yl hX (y:=y) (u:=v) h1 h2
   refine Ac hd ?_
   refine Ar (κ:=Nat) (fun t=>⟨mkS 0 220 [(0,.own (0,0)),(14,.c (.int .i64 ((P.length+v:Nat):Int))),(17,.c (.int .i64 ((P.length+t:Nat):Int)))],[((0,0),Ki (P++X.take t++y::(X.drop t++S)))]⟩)
    (fun t=>v≤t∧t≤X.length) (fun t=>t-v) X.length ⟨hvl,Nat.le_refl _⟩ ?_ ?_
   ·have e0:P++X++[y]++S=P++X.take X.length++y::(X.drop X.length++S):=by simp
    rw[e0]
    exact Ab (Ah.of [((0,0),(0,0))] []) hd
   ·rintro t ⟨ht,htl⟩
    by_cases htv:v<t
    ·have hd2:decide (((P.length+t:Nat):Int)>((P.length+v:Nat):Int))=true:=decide_eq_true (by omega)
     obtain⟨q,rfl⟩:∃q,t=q+1:=⟨t-1,by omega⟩
     have hqX:q<X.length:=by omega
     have wt:IntKind.i64.wrap (((P.length+(q+1):Nat):Int)-1)=((P.length+q:Nat):Int):=Ba (by omega) (by omega)
     have l1:(P++X.take (q+1)).length=P.length+(q+1):=by simp;omega
     have l2:(P++X.take q).length=P.length+q:=by simp;omega
     have e2:P++X.take (q+1)++y::(X.drop (q+1)++S)=(P++X.take q)++X[q]::(y::(X.drop (q+1)++S)):=by
      rw[List.take_succ_eq_append_getElem hqX]
      simp only[List.append_assoc,List.cons_append,List.nil_append]
     obtain⟨r1,g1,s1⟩:=BI (P++X.take (q+1)) y (X.drop (q+1)++S) l1 rfl
     obtain⟨r2,g2,_⟩:=BI _ _ _ l2 e2
     have s1':=s1 X[q]
     have e3:(P++X.take (q+1))++X[q]::(X.drop (q+1)++S)=(P++X.take q)++X[q]::(X[q]::(X.drop (q+1)++S)):=by
      rw[List.take_succ_eq_append_getElem hqX]
      simp only[List.append_assoc,List.cons_append,List.nil_append]
     obtain⟨r3,g3,s3⟩:=BI _ _ _ l2 e3
     have s3':=s3 y
     have e4:(P++X.take q)++y::(X[q]::(X.drop (q+1)++S))=P++X.take q++y::(X.drop q++S):=by
      rw[List.drop_eq_getElem_cons hqX]
      simp only[List.append_assoc,List.cons_append,List.nil_append]
     rw[e4]at s3'
     clear s1 s3 e2 e3 e4 l1 l2
     generalize hL2:P++X.take q++y::(X.drop q++S)=L2 at *
     generalize (P++X.take (q+1))++X[q]::(X.drop (q+1)++S)=L1 at *
     generalize P++X.take (q+1)++y::(X.drop (q+1)++S)=L0 at *
     generalize X[q]=x at *
     refine Ac (j10 hd2 wt r1 g1 r2 g2 s1' r3 g3 s3') ?_
     refine⟨q,by omega,by omega,?_⟩
     exact Ab (Ah.of [((0,0),(0,0))] []) hL2
    ·have hd2:decide (((P.length+t:Nat):Int)>((P.length+v:Nat):Int))=false:=decide_eq_false (by omega)
     have htv':t=v:=by omega
     subst htv'
     have hfin:P++X.take t++y::(X.drop t++S)=P++Az (X++[y])++S:=by
      rw[←hins]
      simp only[List.append_assoc,List.cons_append]
     rw[hfin]
     refine Ac hd2 ?_
     exact A9 (A8 [((0,0),(0,0))] []) Tryz.results386 hd2
theorem Sl (f:FuncId) (hf:IE f) {n:Nat}(ih:UP f n) (P X Y S:List V) (hl:X.length+Y.length≤n+1) (hX2:2≤X.length) (hY2:2≤Y.length) (hX:AI X) (hY:AI Y) (hxr:∀x∈X,x.right) (hyr:∀y∈Y,y.right) (hn:(P++X++Y++S).length≤100000) {N:Nat}(hN:(X.length+Y.length) / 2=N) :
  (∀s w:Nat,s+w=N→s≤X.length→w≤Y.length→(∀x∈X.take s,∀y∈Y.drop w,leV x y)→(∀y∈Y.take w,∀x∈X.drop s,leV y x)→P++Az (X.take s++Y.take w)++Az (X.drop s++Y.drop w)++S=P++Az (X++Y)++S)
  ∧ (∀s w:Nat,s≤X.length→w≤Y.length→0<w→s<X.length→AC Tryz.prog 403 [.own (0,0),.c (.int .i64 ((P.length+s:Nat):Int)),.c (.int .i64 ((P.length+X.length:Nat):Int)),.c (.int .i64 ((P.length+X.length+w:Nat):Int)),.clo f []] (DL (P++X++Y++S)) (.tup []) (DL (P++X.take s++Y.take w++(X.drop s++Y.drop w++S))))
  ∧ (∀s w:Nat,(s=X.length∨w=0)→P++X++Y++S=P++X.take s++Y.take w++(X.drop s++Y.drop w++S))
  ∧ (∀s w:Nat,s+w=N→s≤X.length→w≤Y.length→0<w→0<s→AC Tryz.prog 386 [.own (0,0),.c (.int .i64 (P.length:Int)),.c (.int .i64 ((P.length+s:Nat):Int)),.c (.int .i64 ((P.length+N:Nat):Int)),.clo f []] (DL (P++X.take s++Y.take w++(X.drop s++Y.drop w++S))) (.tup []) (DL (P++Az (X.take s++Y.take w)++(X.drop s++Y.drop w++S))))
  ∧ (∀s w:Nat,(s=0∨w=0)→P++X.take s++Y.take w++(X.drop s++Y.drop w++S)=P++Az (X.take s++Y.take w)++(X.drop s++Y.drop w++S))
  ∧ (∀s w:Nat,s+w=N→s≤X.length→w≤Y.length→w<Y.length→s<X.length→AC Tryz.prog 386 [.own (0,0),.c (.int .i64 ((P.length+N:Nat):Int)),.c (.int .i64 ((P.length+X.length+w:Nat):Int)),.c (.int .i64 ((P.length+X.length+Y.length:Nat):Int)),.clo f []] (DL (P++Az (X.take s++Y.take w)++(X.drop s++Y.drop w++S))) (.tup []) (DL (P++Az (X.take s++Y.take w)++Az (X.drop s++Y.drop w)++S)))
  ∧ (∀s w:Nat,(s=X.length∨w=Y.length)→P++Az (X.take s++Y.take w)++(X.drop s++Y.drop w++S)=P++Az (X.take s++Y.take w)++Az (X.drop s++Y.drop w)++S)
  ∧ (∀s w:Nat,s+w=N→s≤X.length→w≤Y.length→(s<X.length∧0<w∧0<s∧w<Y.length)∨(s=X.length∧0<w∧0<s∧w<Y.length)∨(s=X.length∧w=0∧0<s∧w<Y.length)∨(s<X.length∧w=0∧0<s∧w<Y.length)∨(s<X.length∧0<w∧s=0∧w<Y.length)∨(s<X.length∧0<w∧s=0∧w=Y.length)∨(s<X.length∧0<w∧0<s∧w=Y.length)):=by
 have hn':=hn
 simp only[List.length_append]at hn
 have h2N:2≤N:=by omega
 -- what the parts make
 have hfin:∀s w:Nat,s+w=N→s≤X.length→w≤Y.length→(∀x∈X.take s,∀y∈Y.drop w,leV x y)→(∀y∈Y.take w,∀x∈X.drop s,leV y x)→P++Az (X.take s++Y.take w)++Az (X.drop s++Y.drop w)++S=P++Az (X++Y)++S:=fun s w _ _ _ k1 k2=>by
  rw[←WK hX hY k1 k2,List.append_assoc P]
 have hrot:∀s w:Nat,s≤X.length→w≤Y.length→0<w→s<X.length→AC Tryz.prog 403 [.own (0,0),.c (.int .i64 ((P.length+s:Nat):Int)),.c (.int .i64 ((P.length+X.length:Nat):Int)),.c (.int .i64 ((P.length+X.length+w:Nat):Int)),.clo f []] (DL (P++X++Y++S)) (.tup []) (DL (P++X.take s++Y.take w++(X.drop s++Y.drop w++S))):=fun s w hs hw hw0 hs0=>by
  have h:=Xb f (P++X.take s) (X.drop s) (Y.take w) (Y.drop w++S) (fun e=>by have:=congrArg List.length e;rw[List.length_drop,List.length_nil]at this;omega) (fun e=>by have:=congrArg List.length e;rw[List.length_take,List.length_nil]at this;omega) (by simp only[List.length_append,List.length_take,List.length_drop];omega)
  have e1:P++X.take s++X.drop s++Y.take w++(Y.drop w++S)=P++X++Y++S:=by
   conv=>rhs;rw[←List.take_append_drop s X,←List.take_append_drop w Y]
   simp only[List.append_assoc]
  have e2:P++X.take s++Y.take w++X.drop s++(Y.drop w++S)=P++X.take s++Y.take w++(X.drop s++Y.drop w++S):=by simp only[List.append_assoc]
  have n1:(P++X.take s).length=P.length+s:=by rw[List.length_append,List.length_take];omega
  have n2:P.length+s+(X.drop s).length=P.length+X.length:=by rw[List.length_drop];omega
  have n3:(Y.take w).length=w:=by rw[List.length_take];omega
  rw[e1,e2,n1,n2,n3]at h
  exact h
 have hno1:∀s w:Nat,(s=X.length∨w=0)→P++X++Y++S=P++X.take s++Y.take w++(X.drop s++Y.drop w++S):=fun s w h=>by
  rcases h with rfl | rfl
  ·conv=>lhs;rw[←List.take_append_drop w Y]
   rw[List.take_length,List.drop_length]
   simp only[List.append_assoc,List.nil_append]
  ·conv=>lhs;rw[←List.take_append_drop s X]
   rw[List.take_zero,List.drop_zero]
   simp only[List.append_assoc,List.nil_append]
 have hsym1:∀s w:Nat,s+w=N→s≤X.length→w≤Y.length→0<w→0<s→AC Tryz.prog 386 [.own (0,0),.c (.int .i64 (P.length:Int)),.c (.int .i64 ((P.length+s:Nat):Int)),.c (.int .i64 ((P.length+N:Nat):Int)),.clo f []] (DL (P++X.take s++Y.take w++(X.drop s++Y.drop w++S))) (.tup []) (DL (P++Az (X.take s++Y.take w)++(X.drop s++Y.drop w++S))):=fun s w hsw hs hw hw0 hs0=>by
  have n1:(X.take s).length=s:=by rw[List.length_take];omega
  have n3:(Y.take w).length=w:=by rw[List.length_take];omega
  have h:=ih P (X.take s) (Y.take w) (X.drop s++Y.drop w++S) (by omega) (fun e=>by rw[e]at n1;simp at n1;omega) (fun e=>by rw[e]at n3;simp at n3;omega) (ET hX s) (ET hY w) (fun x hx=>hxr x (List.mem_of_mem_take hx)) (fun y hy=>hyr y (List.mem_of_mem_take hy)) (by simp only[List.length_append,List.length_take,List.length_drop];omega)
  rw[n1,n3,show P.length+s+w=P.length+N by omega]at h
  exact h
 have hno2:∀s w:Nat,(s=0∨w=0)→P++X.take s++Y.take w++(X.drop s++Y.drop w++S)=P++Az (X.take s++Y.take w)++(X.drop s++Y.drop w++S):=fun s w h=>by
  have:Az (X.take s++Y.take w)=X.take s++Y.take w:=by
   rcases h with rfl | rfl
   ·rw[List.take_zero,List.nil_append];exact FS (ET hY w)
   ·rw[List.take_zero,List.append_nil];exact FS (ET hX s)
  rw[this,List.append_assoc P]
 have hsym2:∀s w:Nat,s+w=N→s≤X.length→w≤Y.length→w<Y.length→s<X.length→AC Tryz.prog 386 [.own (0,0),.c (.int .i64 ((P.length+N:Nat):Int)),.c (.int .i64 ((P.length+X.length+w:Nat):Int)),.c (.int .i64 ((P.length+X.length+Y.length:Nat):Int)),.clo f []] (DL (P++Az (X.take s++Y.take w)++(X.drop s++Y.drop w++S))) (.tup []) (DL (P++Az (X.take s++Y.take w)++Az (X.drop s++Y.drop w)++S)):=fun s w hsw hs hw hw0 hs0=>by
  have n0:(Az (X.take s++Y.take w)).length=N:=by rw[Ez,List.length_append,List.length_take,List.length_take];omega
  have n1:(X.drop s).length=X.length-s:=List.length_drop
  have n3:(Y.drop w).length=Y.length-w:=List.length_drop
  have h:=ih (P++Az (X.take s++Y.take w)) (X.drop s) (Y.drop w) S (by omega) (fun e=>by rw[e]at n1;simp at n1;omega) (fun e=>by rw[e]at n3;simp at n3;omega) (ES hX s) (ES hY w) (fun x hx=>hxr x (List.mem_of_mem_drop hx)) (fun y hy=>hyr y (List.mem_of_mem_drop hy)) (by simp only[List.length_append];omega)
  rw[List.length_append,n0,n1,n3,show P.length+N+(X.length-s)=P.length+X.length+w by omega,show P.length+X.length+w+(Y.length-w)=P.length+X.length+Y.length by omega]at h
  have e1:P++Az (X.take s++Y.take w)++X.drop s++Y.drop w++S=P++Az (X.take s++Y.take w)++(X.drop s++Y.drop w++S):=by simp only[List.append_assoc]
  rw[e1]at h
  exact h
 have hno3:∀s w:Nat,(s=X.length∨w=Y.length)→P++Az (X.take s++Y.take w)++(X.drop s++Y.drop w++S)=P++Az (X.take s++Y.take w)++Az (X.drop s++Y.drop w)++S:=fun s w h=>by
  have:Az (X.drop s++Y.drop w)=X.drop s++Y.drop w:=by
   rcases h with rfl | rfl
   ·rw[List.drop_length,List.nil_append];exact FS (ES hY w)
   ·rw[List.drop_length,List.append_nil];exact FS (ES hX s)
  rw[this]
  simp only[List.append_assoc]
 have hcases:∀s w:Nat,s+w=N→s≤X.length→w≤Y.length→(s<X.length∧0<w∧0<s∧w<Y.length)∨(s=X.length∧0<w∧0<s∧w<Y.length)∨(s=X.length∧w=0∧0<s∧w<Y.length)∨(s<X.length∧w=0∧0<s∧w<Y.length)∨(s<X.length∧0<w∧s=0∧w<Y.length)∨(s<X.length∧0<w∧s=0∧w=Y.length)∨(s<X.length∧0<w∧0<s∧w=Y.length):=fun s w h1 h2 h3=>by omega
 exact⟨hfin,hrot,hno1,hsym1,hno2,hsym2,hno3,hcases⟩
end Go.Proofs.YtcejfdfmgmcinaaGreat
