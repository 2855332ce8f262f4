/- Texts of this proof: G94 G95. -/
import Derived.Test.YtcejfdfmgmcinaaGreatKG91uG93
set_option linter.all false
set_option maxHeartbeats 8000000
namespace Go.Proofs.YtcejfdfmgmcinaaGreat
open Go.RowKit
set_option maxRecDepth 10000
theorem Pf (f:FuncId) (hf:Jz f) (P X:List V) (y:V) (S:List V) (hX2:2≤X.length) (hX:AK X) (hyr:y.right) (hn:(P++X++[y]++S).length≤100000) :
  AC Tryz.prog 386 [.own (0,0),.c (.int .i64 (P.length:Int)),.c (.int .i64 ((P.length+X.length:Nat):Int)),.c (.int .i64 ((P.length+X.length+1:Nat):Int)),.clo f []] (Ej (P++X++[y]++S)) (.tup []) (Ej (P++AD (X++[y])++S)):=by
 obtain⟨hcal,hf⟩:=hf
 simp only[List.length_append,List.length_singleton]at hn
 have w0:IntKind.i64.wrap (((P.length+X.length:Nat):Int)-(P.length:Int))=(X.length:Int):=Bf (by omega) (by omega)
 have h10:((X.length:Int)==1)=false:=by simp;omega
 have w1:IntKind.i64.wrap (((P.length+X.length+1:Nat):Int)-((P.length+X.length:Nat):Int))=1:=Bf (n:=1) (by omega) (by omega)
 have h11:((1:Int)==1)=true:=rfl
 refine A6 Tryz.func386 Tryz.ntmps386 (j4 w0 h10 w1 h11) ?_
 refine Ar (κ:=Nat×Nat) (fun q=>⟨mkS 0 220 [(0,.own (0,0)),(2,.c (.int .i64 ((P.length+X.length:Nat):Int))),(4,.clo f []),(14,.c (.int .i64 ((P.length+q.1:Nat):Int))),(15,.c (.int .i64 ((P.length+q.2:Nat):Int)))],[((0,0),Lr (P++X++[y]++S))]⟩)
  (fun q=>q.1≤q.2∧q.2≤X.length∧(∀x∈X.take q.1,leV x y)∧(∀x∈X.drop q.2,leV y x)) (fun q=>q.2-q.1) (0,X.length) ⟨Nat.zero_le _,Nat.le_refl _,by simp,by simp⟩ ?_ ?_
 ·have n0:P.length+0=P.length:=rfl
  exact Ac (Aj.of [((0,0),(0,0))] []) n0
 ·rintro⟨u,v⟩ ⟨huv,hvl,h1,h2⟩
  dsimp only at huv hvl h1 h2 ⊢
  by_cases hlt:u<v
  ·have hd:decide (((P.length+u:Nat):Int)<((P.length+v:Nat):Int))=true:=decide_eq_true (by omega)
   have wa:IntKind.i64.wrap (((P.length+u:Nat):Int)+((P.length+v:Nat):Int))=((P.length+u+(P.length+v):Nat):Int):=Bf (by omega) (by omega)
   have wu:=Zt (z:=P.length+u+(P.length+v)) (by omega)
   obtain⟨h,hh⟩:∃h,(u+v) / 2=h:=⟨_,rfl⟩
   have hH:(P.length+u+(P.length+v)) / 2=P.length+h:=by omega
   have wh:IntKind.i64.wrap ((P.length+h:Nat):Int)=((P.length+h:Nat):Int):=Bf rfl (by omega)
   have hw:IntKind.i64.wrap (((P.length+h:Nat):Int)+1)=((P.length+(h+1):Nat):Int):=Bf (by omega) (by omega)
   have hhX:h<X.length:=by omega
   have e1:P++X++[y]++S=(P++X)++y::S:=by simp
   have e2:P++X++[y]++S=(P++X.take h)++X[h]::(X.drop (h+1)++[y]++S):=by
    conv=>lhs;rw[←List.take_append_drop h X,List.drop_eq_getElem_cons hhX]
    simp only[List.append_assoc,List.cons_append]
   obtain⟨r1,g1,_⟩:=BU (n:=P.length+X.length) _ _ _ (by simp) e1
   obtain⟨r2,g2,_⟩:=BU (n:=P.length+h) _ _ _ (by simp;omega) e2
   have hcm:=hf y X[h] hyr
   have htl:=N1 hX hhX
   have hdl:=WG hX hhX
   generalize P++X++[y]++S=L,X[h]=x at *
   clear e1 e2
   cases hc:decide (y.cmp x<0) with
   |false =>
    have hlx:leV x y:=IU.1 (by simpa using hc)
    refine Ab (j3 hd wa wu) ?_
    ((with_reducible apply Em);(iterate 4 (focus (first | (simp only[go_sem,Nat.reduceEqDiff,Nat.reduceAdd,Nat.reduceSub,Nat.reduceLeDiff,Nat.reduceMul,Nat.reduceBEq,Nat.reduceLT,Int.reduceToNat,reduceCtorEq,wa,wu];first | done | exact rfl | (and_intros<;>rfl)) | exact rfl | decide))))
    refine Ab (j6 hH wh r1 g1 r2 g2) ?_
    refine v7 (A3 [] hcm) hcal (j2 hc hw) ?_
    refine⟨(h+1,v),by dsimp only;omega,⟨by dsimp only;omega,hvl,fun z hz=>Ex (htl z hz) hlx,h2⟩,?_⟩
    exact Ac (Aj.of [((0,0),(0,0))] []) hw
   |true =>
    have hlx:leV y x:=Lc (by simpa using hc)
    refine Ab (j3 hd wa wu) ?_
    ((with_reducible apply Em);(iterate 4 (focus (first | (simp only[go_sem,Nat.reduceEqDiff,Nat.reduceAdd,Nat.reduceSub,Nat.reduceLeDiff,Nat.reduceMul,Nat.reduceBEq,Nat.reduceLT,Int.reduceToNat,reduceCtorEq,wa,wu];first | done | exact rfl | (and_intros<;>rfl)) | exact rfl | decide))))
    refine Ab (j6 hH wh r1 g1 r2 g2) ?_
    refine v7 (A3 [] hcm) hcal hc ?_
    refine⟨(u,h),by dsimp only;omega,⟨by dsimp only;omega,by dsimp only;omega,h1,fun z hz=>Ex hlx (hdl z hz)⟩,?_⟩
    exact Ac (Aj.of [((0,0),(0,0))] []) hw
  ·have hd:decide (((P.length+u:Nat):Int)<((P.length+v:Nat):Int))=false:=decide_eq_false (by omega)
   have huv':v=u:=by omega
   subst huv'
   have hins:=l9 hX (y:=y) (u:=v) h1 h2
   refine Ab hd ?_
   refine Ar (κ:=Nat) (fun t=>⟨mkS 0 220 [(0,.own (0,0)),(14,.c (.int .i64 ((P.length+v:Nat):Int))),(17,.c (.int .i64 ((P.length+t:Nat):Int)))],[((0,0),Lr (P++X.take t++y::(X.drop t++S)))]⟩)
    (fun t=>v≤t∧t≤X.length) (fun t=>t-v) X.length ⟨hvl,Nat.le_refl _⟩ ?_ ?_
   ·have e0:P++X++[y]++S=P++X.take X.length++y::(X.drop X.length++S):=by simp
    rw[e0]
    exact Ac (Aj.of [((0,0),(0,0))] []) hd
   ·rintro t ⟨ht,htl⟩
    by_cases htv:v<t
    ·have hd2:decide (((P.length+t:Nat):Int)>((P.length+v:Nat):Int))=true:=decide_eq_true (by omega)
     obtain⟨q,rfl⟩:∃q,t=q+1:=⟨t-1,by omega⟩
     have hqX:q<X.length:=by omega
     have wt:IntKind.i64.wrap (((P.length+(q+1):Nat):Int)-1)=((P.length+q:Nat):Int):=Bf (by omega) (by omega)
     have l1:(P++X.take (q+1)).length=P.length+(q+1):=by simp;omega
     have l2:(P++X.take q).length=P.length+q:=by simp;omega
     have e2:P++X.take (q+1)++y::(X.drop (q+1)++S)=(P++X.take q)++X[q]::(y::(X.drop (q+1)++S)):=by
      rw[List.take_succ_eq_append_getElem hqX]
      simp only[List.append_assoc,List.cons_append,List.nil_append]
     obtain⟨r1,g1,s1⟩:=BU (P++X.take (q+1)) y (X.drop (q+1)++S) l1 rfl
     obtain⟨r2,g2,_⟩:=BU _ _ _ l2 e2
     have s1':=s1 X[q]
     have e3:(P++X.take (q+1))++X[q]::(X.drop (q+1)++S)=(P++X.take q)++X[q]::(X[q]::(X.drop (q+1)++S)):=by
      rw[List.take_succ_eq_append_getElem hqX]
      simp only[List.append_assoc,List.cons_append,List.nil_append]
     obtain⟨r3,g3,s3⟩:=BU _ _ _ l2 e3
     have s3':=s3 y
     have e4:(P++X.take q)++y::(X[q]::(X.drop (q+1)++S))=P++X.take q++y::(X.drop q++S):=by
      rw[List.drop_eq_getElem_cons hqX]
      simp only[List.append_assoc,List.cons_append,List.nil_append]
     rw[e4]at s3'
     clear s1 s3 e2 e3 e4 l1 l2
     generalize hL2:P++X.take q++y::(X.drop q++S)=L2 at *
     generalize (P++X.take (q+1))++X[q]::(X.drop (q+1)++S)=L1 at *
     generalize P++X.take (q+1)++y::(X.drop (q+1)++S)=L0 at *
     generalize X[q]=x at *
     refine Ab (j10 hd2 wt r1 g1 r2 g2 s1' r3 g3 s3') ?_
     refine⟨q,by omega,by omega,?_⟩
     exact Ac (Aj.of [((0,0),(0,0))] []) hL2
    ·have hd2:decide (((P.length+t:Nat):Int)>((P.length+v:Nat):Int))=false:=decide_eq_false (by omega)
     have htv':t=v:=by omega
     subst htv'
     have hfin:P++X.take t++y::(X.drop t++S)=P++AD (X++[y])++S:=by
      rw[←hins]
      simp only[List.append_assoc,List.cons_append]
     rw[hfin]
     refine Ab hd2 ?_
     exact Aa (A9 [((0,0),(0,0))] []) Tryz.results386 hd2
theorem TS (f:FuncId) (hf:Jz f) {n:Nat}(ih:Ws f n) (P X Y S:List V) (hl:X.length+Y.length≤n+1) (hX2:2≤X.length) (hY2:2≤Y.length) (hX:AK X) (hY:AK Y) (hxr:∀x∈X,x.right) (hyr:∀y∈Y,y.right) (hn:(P++X++Y++S).length≤100000) {N:Nat}(hN:(X.length+Y.length) / 2=N) :
  (∀s w:Nat,s+w=N→s≤X.length→w≤Y.length→(∀x∈X.take s,∀y∈Y.drop w,leV x y)→(∀y∈Y.take w,∀x∈X.drop s,leV y x)→P++AD (X.take s++Y.take w)++AD (X.drop s++Y.drop w)++S=P++AD (X++Y)++S)
  ∧ (∀s w:Nat,s≤X.length→w≤Y.length→0<w→s<X.length→AC Tryz.prog 403 [.own (0,0),.c (.int .i64 ((P.length+s:Nat):Int)),.c (.int .i64 ((P.length+X.length:Nat):Int)),.c (.int .i64 ((P.length+X.length+w:Nat):Int)),.clo f []] (Ej (P++X++Y++S)) (.tup []) (Ej (P++X.take s++Y.take w++(X.drop s++Y.drop w++S))))
  ∧ (∀s w:Nat,(s=X.length∨w=0)→P++X++Y++S=P++X.take s++Y.take w++(X.drop s++Y.drop w++S))
  ∧ (∀s w:Nat,s+w=N→s≤X.length→w≤Y.length→0<w→0<s→AC Tryz.prog 386 [.own (0,0),.c (.int .i64 (P.length:Int)),.c (.int .i64 ((P.length+s:Nat):Int)),.c (.int .i64 ((P.length+N:Nat):Int)),.clo f []] (Ej (P++X.take s++Y.take w++(X.drop s++Y.drop w++S))) (.tup []) (Ej (P++AD (X.take s++Y.take w)++(X.drop s++Y.drop w++S))))
  ∧ (∀s w:Nat,(s=0∨w=0)→P++X.take s++Y.take w++(X.drop s++Y.drop w++S)=P++AD (X.take s++Y.take w)++(X.drop s++Y.drop w++S))
  ∧ (∀s w:Nat,s+w=N→s≤X.length→w≤Y.length→w<Y.length→s<X.length→AC Tryz.prog 386 [.own (0,0),.c (.int .i64 ((P.length+N:Nat):Int)),.c (.int .i64 ((P.length+X.length+w:Nat):Int)),.c (.int .i64 ((P.length+X.length+Y.length:Nat):Int)),.clo f []] (Ej (P++AD (X.take s++Y.take w)++(X.drop s++Y.drop w++S))) (.tup []) (Ej (P++AD (X.take s++Y.take w)++AD (X.drop s++Y.drop w)++S)))
  ∧ (∀s w:Nat,(s=X.length∨w=Y.length)→P++AD (X.take s++Y.take w)++(X.drop s++Y.drop w++S)=P++AD (X.take s++Y.take w)++AD (X.drop s++Y.drop w)++S)
  ∧ (∀s w:Nat,s+w=N→s≤X.length→w≤Y.length→(s<X.length∧0<w∧0<s∧w<Y.length)∨(s=X.length∧0<w∧0<s∧w<Y.length)∨(s=X.length∧w=0∧0<s∧w<Y.length)∨(s<X.length∧w=0∧0<s∧w<Y.length)∨(s<X.length∧0<w∧s=0∧w<Y.length)∨(s<X.length∧0<w∧s=0∧w=Y.length)∨(s<X.length∧0<w∧0<s∧w=Y.length)):=by
 have hn':=hn
 simp only[List.length_append]at hn
 have h2N:2≤N:=by omega
 -- what the parts make
 have hfin:∀s w:Nat,s+w=N→s≤X.length→w≤Y.length→(∀x∈X.take s,∀y∈Y.drop w,leV x y)→(∀y∈Y.take w,∀x∈X.drop s,leV y x)→P++AD (X.take s++Y.take w)++AD (X.drop s++Y.drop w)++S=P++AD (X++Y)++S:=fun s w _ _ _ k1 k2=>by
  rw[←Yv hX hY k1 k2,List.append_assoc P]
 have hrot:∀s w:Nat,s≤X.length→w≤Y.length→0<w→s<X.length→AC Tryz.prog 403 [.own (0,0),.c (.int .i64 ((P.length+s:Nat):Int)),.c (.int .i64 ((P.length+X.length:Nat):Int)),.c (.int .i64 ((P.length+X.length+w:Nat):Int)),.clo f []] (Ej (P++X++Y++S)) (.tup []) (Ej (P++X.take s++Y.take w++(X.drop s++Y.drop w++S))):=fun s w hs hw hw0 hs0=>by
  have h:=YT f (P++X.take s) (X.drop s) (Y.take w) (Y.drop w++S) (fun e=>by have:=congrArg List.length e;rw[List.length_drop,List.length_nil]at this;omega) (fun e=>by have:=congrArg List.length e;rw[List.length_take,List.length_nil]at this;omega) (by simp only[List.length_append,List.length_take,List.length_drop];omega)
  have e1:P++X.take s++X.drop s++Y.take w++(Y.drop w++S)=P++X++Y++S:=by
   conv=>rhs;rw[←List.take_append_drop s X,←List.take_append_drop w Y]
   simp only[List.append_assoc]
  have e2:P++X.take s++Y.take w++X.drop s++(Y.drop w++S)=P++X.take s++Y.take w++(X.drop s++Y.drop w++S):=by simp only[List.append_assoc]
  have n1:(P++X.take s).length=P.length+s:=by rw[List.length_append,List.length_take];omega
  have n2:P.length+s+(X.drop s).length=P.length+X.length:=by rw[List.length_drop];omega
  have n3:(Y.take w).length=w:=by rw[List.length_take];omega
  rw[e1,e2,n1,n2,n3]at h
  exact h
 have hno1:∀s w:Nat,(s=X.length∨w=0)→P++X++Y++S=P++X.take s++Y.take w++(X.drop s++Y.drop w++S):=fun s w h=>by
  rcases h with rfl | rfl
  ·conv=>lhs;rw[←List.take_append_drop w Y]
   rw[List.take_length,List.drop_length]
   simp only[List.append_assoc,List.nil_append]
  ·conv=>lhs;rw[←List.take_append_drop s X]
   rw[List.take_zero,List.drop_zero]
   simp only[List.append_assoc,List.nil_append]
 have hsym1:∀s w:Nat,s+w=N→s≤X.length→w≤Y.length→0<w→0<s→AC Tryz.prog 386 [.own (0,0),.c (.int .i64 (P.length:Int)),.c (.int .i64 ((P.length+s:Nat):Int)),.c (.int .i64 ((P.length+N:Nat):Int)),.clo f []] (Ej (P++X.take s++Y.take w++(X.drop s++Y.drop w++S))) (.tup []) (Ej (P++AD (X.take s++Y.take w)++(X.drop s++Y.drop w++S))):=fun s w hsw hs hw hw0 hs0=>by
  have n1:(X.take s).length=s:=by rw[List.length_take];omega
  have n3:(Y.take w).length=w:=by rw[List.length_take];omega
  have h:=ih P (X.take s) (Y.take w) (X.drop s++Y.drop w++S) (by omega) (fun e=>by rw[e]at n1;simp at n1;omega) (fun e=>by rw[e]at n3;simp at n3;omega) (Fy hX s) (Fy hY w) (fun x hx=>hxr x (List.mem_of_mem_take hx)) (fun y hy=>hyr y (List.mem_of_mem_take hy)) (by simp only[List.length_append,List.length_take,List.length_drop];omega)
  rw[n1,n3,show P.length+s+w=P.length+N by omega]at h
  exact h
 have hno2:∀s w:Nat,(s=0∨w=0)→P++X.take s++Y.take w++(X.drop s++Y.drop w++S)=P++AD (X.take s++Y.take w)++(X.drop s++Y.drop w++S):=fun s w h=>by
  have:AD (X.take s++Y.take w)=X.take s++Y.take w:=by
   rcases h with rfl | rfl
   ·rw[List.take_zero,List.nil_append];exact Gw (Fy hY w)
   ·rw[List.take_zero,List.append_nil];exact Gw (Fy hX s)
  rw[this,List.append_assoc P]
 have hsym2:∀s w:Nat,s+w=N→s≤X.length→w≤Y.length→w<Y.length→s<X.length→AC Tryz.prog 386 [.own (0,0),.c (.int .i64 ((P.length+N:Nat):Int)),.c (.int .i64 ((P.length+X.length+w:Nat):Int)),.c (.int .i64 ((P.length+X.length+Y.length:Nat):Int)),.clo f []] (Ej (P++AD (X.take s++Y.take w)++(X.drop s++Y.drop w++S))) (.tup []) (Ej (P++AD (X.take s++Y.take w)++AD (X.drop s++Y.drop w)++S)):=fun s w hsw hs hw hw0 hs0=>by
  have n0:(AD (X.take s++Y.take w)).length=N:=by rw[Fc,List.length_append,List.length_take,List.length_take];omega
  have n1:(X.drop s).length=X.length-s:=List.length_drop
  have n3:(Y.drop w).length=Y.length-w:=List.length_drop
  have h:=ih (P++AD (X.take s++Y.take w)) (X.drop s) (Y.drop w) S (by omega) (fun e=>by rw[e]at n1;simp at n1;omega) (fun e=>by rw[e]at n3;simp at n3;omega) (Fx hX s) (Fx hY w) (fun x hx=>hxr x (List.mem_of_mem_drop hx)) (fun y hy=>hyr y (List.mem_of_mem_drop hy)) (by simp only[List.length_append];omega)
  rw[List.length_append,n0,n1,n3,show P.length+N+(X.length-s)=P.length+X.length+w by omega,show P.length+X.length+w+(Y.length-w)=P.length+X.length+Y.length by omega]at h
  have e1:P++AD (X.take s++Y.take w)++X.drop s++Y.drop w++S=P++AD (X.take s++Y.take w)++(X.drop s++Y.drop w++S):=by simp only[List.append_assoc]
  rw[e1]at h
  exact h
 have hno3:∀s w:Nat,(s=X.length∨w=Y.length)→P++AD (X.take s++Y.take w)++(X.drop s++Y.drop w++S)=P++AD (X.take s++Y.take w)++AD (X.drop s++Y.drop w)++S:=fun s w h=>by
  have:AD (X.drop s++Y.drop w)=X.drop s++Y.drop w:=by
   rcases h with rfl | rfl
   ·rw[List.drop_length,List.nil_append];exact Gw (Fx hY w)
   ·rw[List.drop_length,List.append_nil];exact Gw (Fx hX s)
  rw[this]
  simp only[List.append_assoc]
 have hcases:∀s w:Nat,s+w=N→s≤X.length→w≤Y.length→(s<X.length∧0<w∧0<s∧w<Y.length)∨(s=X.length∧0<w∧0<s∧w<Y.length)∨(s=X.length∧w=0∧0<s∧w<Y.length)∨(s<X.length∧w=0∧0<s∧w<Y.length)∨(s<X.length∧0<w∧s=0∧w<Y.length)∨(s<X.length∧0<w∧s=0∧w=Y.length)∨(s<X.length∧0<w∧0<s∧w=Y.length):=fun s w h1 h2 h3=>by omega
 exact⟨hfin,hrot,hno1,hsym1,hno2,hsym2,hno3,hcases⟩
set_option maxRecDepth 10000
theorem U2 (f:FuncId) (hf:Jz f) {n:Nat}(ih:Ws f n) (P X Y S:List V) (hl:X.length+Y.length≤n+1) (hX2:2≤X.length) (hY2:2≤Y.length) (hX:AK X) (hY:AK Y) (hxr:∀x∈X,x.right) (hyr:∀y∈Y,y.right) (hn:(P++X++Y++S).length≤100000) {N:Nat}(hN:(X.length+Y.length) / 2=N) (hm:X.length>N) :
  AC Tryz.prog 386 [.own (0,0),.c (.int .i64 (P.length:Int)),.c (.int .i64 ((P.length+X.length:Nat):Int)),.c (.int .i64 ((P.length+X.length+Y.length:Nat):Int)),.clo f []] (Ej (P++X++Y++S)) (.tup []) (Ej (P++AD (X++Y)++S)):=by
 obtain⟨hfin,hrot,hno1,hsym1,hno2,hsym2,hno3,hcases⟩:=TS f hf ih P X Y S hl hX2 hY2 hX hY hxr hyr hn hN
 obtain⟨hcal,hf'⟩:=hf
 simp only[List.length_append]at hn
 have w0:IntKind.i64.wrap (((P.length+X.length:Nat):Int)-(P.length:Int))=(X.length:Int):=Bf (by omega) (by omega)
 have h10:((X.length:Int)==1)=false:=by simp;omega
 have w1:IntKind.i64.wrap (((P.length+X.length+Y.length:Nat):Int)-((P.length+X.length:Nat):Int))=(Y.length:Int):=Bf (by omega) (by omega)
 have h11:((Y.length:Int)==1)=false:=by simp;omega
 have wa:IntKind.i64.wrap ((P.length:Int)+((P.length+X.length+Y.length:Nat):Int))=((P.length+(P.length+X.length+Y.length):Nat):Int):=Bf (by omega) (by omega)
 have wu:=Zt (z:=P.length+(P.length+X.length+Y.length)) (by omega)
 have hH:(P.length+(P.length+X.length+Y.length)) / 2=P.length+N:=by omega
 have wh:IntKind.i64.wrap ((P.length+N:Nat):Int)=((P.length+N:Nat):Int):=Bf rfl (by omega)
 have wn:IntKind.i64.wrap (((P.length+N:Nat):Int)+((P.length+X.length:Nat):Int))=((P.length+N+(P.length+X.length):Nat):Int):=Bf (by omega) (by omega)
 obtain⟨pp,hpp⟩:∃pp,pp+1=P.length+N+(P.length+X.length):=⟨P.length+N+(P.length+X.length)-1,by omega⟩
 have wp:IntKind.i64.wrap (((P.length+N+(P.length+X.length):Nat):Int)-1)=(pp:Int):=Bf (by omega) (by omega)
 obtain⟨u0,hu0⟩:∃u0,(if X.length>N then N-Y.length else 0)=u0:=⟨_,rfl⟩
 obtain⟨v0,hv0⟩:∃v0,(if X.length>N then N else X.length)=v0:=⟨_,rfl⟩
 have hub:u0≤v0∧v0≤X.length∧v0≤N∧N≤u0+Y.length:=by
  rw[←hu0,←hv0];split<;>omega
 have hbs:(u0=0∨N-u0=Y.length)∧(v0=N∨v0=X.length):=by
  rw[←hu0,←hv0];split<;>omega
 obtain⟨G,hG⟩:∃G,P++AD (X++Y)++S=G:=⟨_,rfl⟩
 rw[hG]at hfin ⊢
 have hcond:decide (((P.length+X.length:Nat):Int)>((P.length+N:Nat):Int))=true:=decide_eq_true (by omega)
 have hu0e:u0=N-Y.length:=by rw[←hu0,if_pos hm]
 have hv0e:v0=N:=by rw[←hv0,if_pos hm]
 have ws:IntKind.i64.wrap (((P.length+N+(P.length+X.length):Nat):Int)-((P.length+X.length+Y.length:Nat):Int))=((P.length+u0:Nat):Int):=Bf (by omega) (by omega)
 have hs1:P.length+N=P.length+v0:=by rw[hv0e]
 clear hu0 hv0
 obtain⟨hub1,hub2,hub3,hub4⟩:=hub
 refine A6 Tryz.func386 Tryz.ntmps386 (j6 w0 h10 w1 h11 wa wu) ?_
 ((with_reducible apply Em);(iterate 4 (focus (first | (simp only[go_sem,Nat.reduceEqDiff,Nat.reduceAdd,Nat.reduceSub,Nat.reduceLeDiff,Nat.reduceMul,Nat.reduceBEq,Nat.reduceLT,Int.reduceToNat,reduceCtorEq,wa,wu];first | done | exact rfl | (and_intros<;>rfl)) | exact rfl | decide))))
 refine Ab (j6 hH wh wn hcond ws wp) ?_
 refine Ar (κ:=Nat×Nat) (fun q=>⟨mkS 0 220 [(0,.own (0,0)),(1,.c (.int .i64 (P.length:Int))),(2,.c (.int .i64 ((P.length+X.length:Nat):Int))),(3,.c (.int .i64 ((P.length+X.length+Y.length:Nat):Int))),(4,.clo f []),(18,.c (.int .i64 ((P.length+N:Nat):Int))),(19,.c (.int .i64 ((P.length+N+(P.length+X.length):Nat):Int))),(20,.c (.int .i64 ((P.length+q.1:Nat):Int))),(21,.c (.int .i64 ((P.length+q.2:Nat):Int))),(22,.c (.int .i64 (pp:Int)))],[((0,0),Lr (P++X++Y++S))]⟩)
  (fun q=>u0≤q.1∧q.1≤q.2∧q.2≤v0∧(q.1=u0∨∀x y,X[q.1-1]? = some x→Y[N-q.1]? = some y→leV x y)∧(q.2=v0∨∀x y,X[q.2]? = some x→Y[N-1-q.2]? = some y→leV y x)) (fun q=>q.2-q.1) (u0,v0) ⟨Nat.le_refl _,hub1,Nat.le_refl _,.inl rfl,.inl rfl⟩ ?_ ?_
 ·dsimp only
  rw[←hs1]
  exact Ac (Aj.of [((0,0),(0,0))] []) hcond
 ·rintro⟨u,v⟩ ⟨i1,i2,i3,i4,i5⟩
  dsimp only at i1 i2 i3 i4 i5 ⊢
  by_cases hlt:u<v
  ·have hd:decide (((P.length+u:Nat):Int)<((P.length+v:Nat):Int))=true:=decide_eq_true (by omega)
   clear hbs hcases hfin hrot hno1 hsym1 hno2 hsym2 hno3 ih hu0e hv0e ws hs1 hcond
   have wb:IntKind.i64.wrap (((P.length+u:Nat):Int)+((P.length+v:Nat):Int))=((P.length+u+(P.length+v):Nat):Int):=Bf (by omega) (by omega)
   have wv:=Zt (z:=P.length+u+(P.length+v)) (by omega)
   obtain⟨h,hh⟩:∃h,(u+v) / 2=h:=⟨_,rfl⟩
   have hHh:(P.length+u+(P.length+v)) / 2=P.length+h:=by omega
   have whh:IntKind.i64.wrap ((P.length+h:Nat):Int)=((P.length+h:Nat):Int):=Bf rfl (by omega)
   have hw:IntKind.i64.wrap (((P.length+h:Nat):Int)+1)=((P.length+(h+1):Nat):Int):=Bf (by omega) (by omega)
   obtain⟨g,hg⟩:∃g,h+1+g=N:=⟨N-1-h,by omega⟩
   have hg1:N-1-h=g:=by omega
   have hg2:N-(h+1)=g:=by omega
   have wpc:IntKind.i64.wrap ((pp:Int)-((P.length+h:Nat):Int))=((P.length+X.length+g:Nat):Int):=Bf (by omega) (by omega)
   have hhX:h<X.length:=by omega
   have hhY:g<Y.length:=by omega
   have e1:P++X++Y++S=(P++X.take h)++X[h]::(X.drop (h+1)++Y++S):=by
    conv=>lhs;rw[←List.take_append_drop h X,List.drop_eq_getElem_cons hhX]
    simp only[List.append_assoc,List.cons_append]
   have e2:P++X++Y++S=(P++X++Y.take g)++Y[g]::(Y.drop (g+1)++S):=by
    conv=>lhs;rw[←List.take_append_drop g Y,List.drop_eq_getElem_cons hhY]
    simp only[List.append_assoc,List.cons_append]
   obtain⟨r1,g1,_⟩:=BU (n:=P.length+h) _ _ _ (by simp;omega) e1
   obtain⟨r2,g2,_⟩:=BU (n:=P.length+X.length+g) _ _ _ (by simp;omega) e2
   have hcm:=hf' Y[g] X[h] (hyr _ (List.getElem_mem hhY))
   have hx?:X[h]? = some X[h]:=List.getElem?_eq_getElem hhX
   have hy?:Y[g]? = some Y[g]:=List.getElem?_eq_getElem hhY
   clear e1 e2
   generalize P++X++Y++S=L,Y[g]=y,X[h]=x at *
   cases hc:decide (y.cmp x<0) with
   |false =>
    have hlx:leV x y:=IU.1 (by simpa using hc)
    refine Ab (j3 hd wb wv) ?_
    ((with_reducible apply Em);(iterate 4 (focus (first | (simp only[go_sem,Nat.reduceEqDiff,Nat.reduceAdd,Nat.reduceSub,Nat.reduceLeDiff,Nat.reduceMul,Nat.reduceBEq,Nat.reduceLT,Int.reduceToNat,reduceCtorEq,wb,wv];first | done | exact rfl | (and_intros<;>rfl)) | exact rfl | decide))))
    refine Ab (j7 hHh whh wpc r1 g1 r2 g2) ?_
    refine v7 (A3 [] hcm) hcal (j2 hc hw) ?_
    refine⟨(h+1,v),by dsimp only;omega,⟨by dsimp only;omega,by dsimp only;omega,i3,.inr fun x' y' hx' hy'=>?_,i5⟩,?_⟩
    ·have ex:x'=x:=by rw[show h+1-1=h from rfl,hx?]at hx';exact (Option.some.inj hx').symm
     have ey:y'=y:=by rw[hg2,hy?]at hy';exact (Option.some.inj hy').symm
     rw[ex,ey];exact hlx
    ·exact Ac (Aj.of [((0,0),(0,0))] []) hw
   |true =>
    have hlx:leV y x:=Lc (by simpa using hc)
    refine Ab (j3 hd wb wv) ?_
    ((with_reducible apply Em);(iterate 4 (focus (first | (simp only[go_sem,Nat.reduceEqDiff,Nat.reduceAdd,Nat.reduceSub,Nat.reduceLeDiff,Nat.reduceMul,Nat.reduceBEq,Nat.reduceLT,Int.reduceToNat,reduceCtorEq,wb,wv];first | done | exact rfl | (and_intros<;>rfl)) | exact rfl | decide))))
    refine Ab (j7 hHh whh wpc r1 g1 r2 g2) ?_
    refine v7 (A3 [] hcm) hcal hc ?_
    refine⟨(u,h),by dsimp only;omega,⟨i1,by dsimp only;omega,by dsimp only;omega,i4,.inr fun x' y' hx' hy'=>?_⟩,?_⟩
    ·have ex:x'=x:=by dsimp only at hx';rw[hx?]at hx';exact (Option.some.inj hx').symm
     have ey:y'=y:=by dsimp only at hy';rw[hg1,hy?]at hy';exact (Option.some.inj hy').symm
     rw[ex,ey];exact hlx
    ·exact Ac (Aj.of [((0,0),(0,0))] []) hw
  ·have hd:decide (((P.length+u:Nat):Int)<((P.length+v:Nat):Int))=false:=decide_eq_false (by omega)
   have huv':v=u:=by omega
   subst huv'
   obtain⟨s,hs⟩:∃s,s=v:=⟨_,rfl⟩
   subst hs
   obtain⟨w,hw⟩:∃w,N-s=w:=⟨_,rfl⟩
   have k1:=LQ (X:=X) (Y:=Y) (s:=s) (w:=w) hX hY (fun h1 h2 h3=>by
    rcases i4 with i4 | i4
    ·rcases hbs.1 with h | h<;>omega
    ·exact i4 _ _ (List.getElem?_eq_getElem (by omega)) (by rw[hw];exact List.getElem?_eq_getElem h3)) (by omega)
   have k2:=O6 (X:=X) (Y:=Y) (s:=s) (w:=w) hX hY (fun h1 h2 h3=>by
    rcases i5 with i5 | i5
    ·rcases hbs.2 with h | h<;>omega
    ·exact i5 _ _ (List.getElem?_eq_getElem h3) (by rw[show N-1-s=w-1 by omega];exact List.getElem?_eq_getElem (by omega))) (by omega)
   have we:IntKind.i64.wrap (((P.length+N+(P.length+X.length):Nat):Int)-((P.length+s:Nat):Int))=((P.length+X.length+w:Nat):Int):=Bf (by omega) (by omega)
   have hsw:s+w=N:=by omega
   have hsX:s≤X.length:=by omega
   have hwY:w≤Y.length:=by omega
   refine Ab hd ?_
   clear i1 i2 i3 i4 i5 hbs hw hu0e hv0e ws hs1 hub1 hub2 hub3 hub4 hlt hcond hpp hH
   rcases hcases s w hsw hsX hwY with⟨q1,q2,q3,q4⟩ | ⟨q1,q2,q3,q4⟩ | ⟨q1,q2,q3,q4⟩ | ⟨q1,q2,q3,q4⟩ | ⟨q1,q2,q3,q4⟩ | ⟨q1,q2,q3,q4⟩ | ⟨q1,q2,q3,q4⟩
   ·have d1:decide (((P.length+s:Nat):Int)<((P.length+X.length:Nat):Int))=true:=decide_eq_true (by omega)
    have d2:decide (((P.length+X.length:Nat):Int)<((P.length+X.length+w:Nat):Int))=true:=decide_eq_true (by omega)
    have d3:decide ((P.length:Int)<((P.length+s:Nat):Int))=true:=decide_eq_true (by omega)
    have d4:decide (((P.length+s:Nat):Int)<((P.length+N:Nat):Int))=true:=decide_eq_true (by omega)
    have d5:decide (((P.length+N:Nat):Int)<((P.length+X.length+w:Nat):Int))=true:=decide_eq_true (by omega)
    have d6:decide (((P.length+X.length+w:Nat):Int)<((P.length+X.length+Y.length:Nat):Int))=true:=decide_eq_true (by omega)
    have hfi:=hfin s w hsw hsX hwY k1 k2
    have hr1:=hrot s w hsX hwY q2 q1
    have hr2:=hsym1 s w hsw hsX hwY q2 q3
    have hr3:=hsym2 s w hsw hsX hwY q4 q1
    clear hfin hrot hno1 hsym1 hno2 hsym2 hno3 hcases ih k1 k2
    rw[hfi]at hr3
    refine Ab (j7 we d1 d2 d3 d4 d5 d6) ?_
    refine Bw (Am [((0,0),(0,0))] [((0,0),(0,0))] hr1) q9 (j4 d3 d4 d5 d6) ?_
    refine Bw (Am [((0,0),(0,0))] [((0,0),(0,0))] hr2) q9 (j2 d5 d6) ?_
    refine Bw (Am [((0,0),(0,0))] [((0,0),(0,0))] hr3) q9 q9 ?_
    exact Aa (A9 [((0,0),(0,0))] []) Tryz.results386 d1
   ·have d1:decide (((P.length+s:Nat):Int)<((P.length+X.length:Nat):Int))=false:=decide_eq_false (by omega)
    have d2:decide (((P.length+X.length:Nat):Int)<((P.length+X.length+w:Nat):Int))=true:=decide_eq_true (by omega)
    have d3:decide ((P.length:Int)<((P.length+s:Nat):Int))=true:=decide_eq_true (by omega)
    have d4:decide (((P.length+s:Nat):Int)<((P.length+N:Nat):Int))=true:=decide_eq_true (by omega)
    have d5:decide (((P.length+N:Nat):Int)<((P.length+X.length+w:Nat):Int))=false:=decide_eq_false (by omega)
    have d6:decide (((P.length+X.length+w:Nat):Int)<((P.length+X.length+Y.length:Nat):Int))=true:=decide_eq_true (by omega)
    have hfi:=hfin s w hsw hsX hwY k1 k2
    have hr1:=hno1 s w (by omega)
    have hr2:=hsym1 s w hsw hsX hwY q2 q3
    have hr3:=hno3 s w (by omega)
    clear hfin hrot hno1 hsym1 hno2 hsym2 hno3 hcases ih k1 k2
    rw[hfi]at hr3
    rw[hr3]at hr2
    rw[hr1]
    refine Ab (j7 we d1 d2 d3 d4 d5 d6) ?_
    refine Bw (Am [((0,0),(0,0))] [((0,0),(0,0))] hr2) q9 (j2 d5 d6) ?_
    exact Aa (A9 [((0,0),(0,0))] []) Tryz.results386 d1
   ·have d1:decide (((P.length+s:Nat):Int)<((P.length+X.length:Nat):Int))=false:=decide_eq_false (by omega)
    have d2:decide (((P.length+X.length:Nat):Int)<((P.length+X.length+w:Nat):Int))=false:=decide_eq_false (by omega)
    have d3:decide ((P.length:Int)<((P.length+s:Nat):Int))=true:=decide_eq_true (by omega)
    have d4:decide (((P.length+s:Nat):Int)<((P.length+N:Nat):Int))=false:=decide_eq_false (by omega)
    have d5:decide (((P.length+N:Nat):Int)<((P.length+X.length+w:Nat):Int))=false:=decide_eq_false (by omega)
    have d6:decide (((P.length+X.length+w:Nat):Int)<((P.length+X.length+Y.length:Nat):Int))=true:=decide_eq_true (by omega)
    have hfi:=hfin s w hsw hsX hwY k1 k2
    have hr1:=hno1 s w (by omega)
    have hr2:=hno2 s w (by omega)
    have hr3:=hno3 s w (by omega)
    clear hfin hrot hno1 hsym1 hno2 hsym2 hno3 hcases ih k1 k2
    rw[hfi]at hr3
    rw[hr3]at hr2
    rw[hr2]at hr1
    rw[hr1]
    refine Ab (j7 we d1 d2 d3 d4 d5 d6) ?_
    exact Aa (A9 [((0,0),(0,0))] []) Tryz.results386 d1
   ·have d1:decide (((P.length+s:Nat):Int)<((P.length+X.length:Nat):Int))=true:=decide_eq_true (by omega)
    have d2:decide (((P.length+X.length:Nat):Int)<((P.length+X.length+w:Nat):Int))=false:=decide_eq_false (by omega)
    have d3:decide ((P.length:Int)<((P.length+s:Nat):Int))=true:=decide_eq_true (by omega)
    have d4:decide (((P.length+s:Nat):Int)<((P.length+N:Nat):Int))=false:=decide_eq_false (by omega)
    have d5:decide (((P.length+N:Nat):Int)<((P.length+X.length+w:Nat):Int))=true:=decide_eq_true (by omega)
    have d6:decide (((P.length+X.length+w:Nat):Int)<((P.length+X.length+Y.length:Nat):Int))=true:=decide_eq_true (by omega)
    have hfi:=hfin s w hsw hsX hwY k1 k2
    have hr1:=hno1 s w (by omega)
    have hr2:=hno2 s w (by omega)
    have hr3:=hsym2 s w hsw hsX hwY q4 q1
    clear hfin hrot hno1 hsym1 hno2 hsym2 hno3 hcases ih k1 k2
    rw[hfi]at hr3
    rw[hr2]at hr1
    rw[hr1]
    refine Ab (j7 we d1 d2 d3 d4 d5 d6) ?_
    refine Bw (Am [((0,0),(0,0))] [((0,0),(0,0))] hr3) q9 q9 ?_
    exact Aa (A9 [((0,0),(0,0))] []) Tryz.results386 d1
   ·have d1:decide (((P.length+s:Nat):Int)<((P.length+X.length:Nat):Int))=true:=decide_eq_true (by omega)
    have d2:decide (((P.length+X.length:Nat):Int)<((P.length+X.length+w:Nat):Int))=true:=decide_eq_true (by omega)
    have d3:decide ((P.length:Int)<((P.length+s:Nat):Int))=false:=decide_eq_false (by omega)
    have d4:decide (((P.length+s:Nat):Int)<((P.length+N:Nat):Int))=true:=decide_eq_true (by omega)
    have d5:decide (((P.length+N:Nat):Int)<((P.length+X.length+w:Nat):Int))=true:=decide_eq_true (by omega)
    have d6:decide (((P.length+X.length+w:Nat):Int)<((P.length+X.length+Y.length:Nat):Int))=true:=decide_eq_true (by omega)
    have hfi:=hfin s w hsw hsX hwY k1 k2
    have hr1:=hrot s w hsX hwY q2 q1
    have hr2:=hno2 s w (by omega)
    have hr3:=hsym2 s w hsw hsX hwY q4 q1
    clear hfin hrot hno1 hsym1 hno2 hsym2 hno3 hcases ih k1 k2
    rw[hfi]at hr3
    rw[hr2]at hr1
    refine Ab (j7 we d1 d2 d3 d4 d5 d6) ?_
    refine Bw (Am [((0,0),(0,0))] [((0,0),(0,0))] hr1) q9 (j4 d3 d4 d5 d6) ?_
    refine Bw (Am [((0,0),(0,0))] [((0,0),(0,0))] hr3) q9 q9 ?_
    exact Aa (A9 [((0,0),(0,0))] []) Tryz.results386 d1
   ·have d1:decide (((P.length+s:Nat):Int)<((P.length+X.length:Nat):Int))=true:=decide_eq_true (by omega)
    have d2:decide (((P.length+X.length:Nat):Int)<((P.length+X.length+w:Nat):Int))=true:=decide_eq_true (by omega)
    have d3:decide ((P.length:Int)<((P.length+s:Nat):Int))=false:=decide_eq_false (by omega)
    have d4:decide (((P.length+s:Nat):Int)<((P.length+N:Nat):Int))=true:=decide_eq_true (by omega)
    have d5:decide (((P.length+N:Nat):Int)<((P.length+X.length+w:Nat):Int))=true:=decide_eq_true (by omega)
    have d6:decide (((P.length+X.length+w:Nat):Int)<((P.length+X.length+Y.length:Nat):Int))=false:=decide_eq_false (by omega)
    have hfi:=hfin s w hsw hsX hwY k1 k2
    have hr1:=hrot s w hsX hwY q2 q1
    have hr2:=hno2 s w (by omega)
    have hr3:=hno3 s w (by omega)
    clear hfin hrot hno1 hsym1 hno2 hsym2 hno3 hcases ih k1 k2
    rw[hfi]at hr3
    rw[hr3]at hr2
    rw[hr2]at hr1
    refine Ab (j7 we d1 d2 d3 d4 d5 d6) ?_
    refine Bw (Am [((0,0),(0,0))] [((0,0),(0,0))] hr1) q9 (j4 d3 d4 d5 d6) ?_
    exact Aa (A9 [((0,0),(0,0))] []) Tryz.results386 d1
   ·have d1:decide (((P.length+s:Nat):Int)<((P.length+X.length:Nat):Int))=true:=decide_eq_true (by omega)
    have d2:decide (((P.length+X.length:Nat):Int)<((P.length+X.length+w:Nat):Int))=true:=decide_eq_true (by omega)
    have d3:decide ((P.length:Int)<((P.length+s:Nat):Int))=true:=decide_eq_true (by omega)
    have d4:decide (((P.length+s:Nat):Int)<((P.length+N:Nat):Int))=true:=decide_eq_true (by omega)
    have d5:decide (((P.length+N:Nat):Int)<((P.length+X.length+w:Nat):Int))=true:=decide_eq_true (by omega)
    have d6:decide (((P.length+X.length+w:Nat):Int)<((P.length+X.length+Y.length:Nat):Int))=false:=decide_eq_false (by omega)
    have hfi:=hfin s w hsw hsX hwY k1 k2
    have hr1:=hrot s w hsX hwY q2 q1
    have hr2:=hsym1 s w hsw hsX hwY q2 q3
    have hr3:=hno3 s w (by omega)
    clear hfin hrot hno1 hsym1 hno2 hsym2 hno3 hcases ih k1 k2
    rw[hfi]at hr3
    rw[hr3]at hr2
    refine Ab (j7 we d1 d2 d3 d4 d5 d6) ?_
    refine Bw (Am [((0,0),(0,0))] [((0,0),(0,0))] hr1) q9 (j4 d3 d4 d5 d6) ?_
    refine Bw (Am [((0,0),(0,0))] [((0,0),(0,0))] hr2) q9 (j2 d5 d6) ?_
    exact Aa (A9 [((0,0),(0,0))] []) Tryz.results386 d1
end Go.Proofs.YtcejfdfmgmcinaaGreat
