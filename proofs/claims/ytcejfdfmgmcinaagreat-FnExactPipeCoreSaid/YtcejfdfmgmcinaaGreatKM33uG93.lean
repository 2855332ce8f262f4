/- Texts of this proof: M33 G92 M34 G93. -/
import Derived.Test.YtcejfdfmgmcinaaGreatKM32uG91
set_option linter.all false
set_option maxHeartbeats 8000000
namespace Go.Proofs.YtcejfdfmgmcinaaGreat
open Go.RowKit
theorem ET {T:List V}(h:AI T) (q:Nat):AI (T.take q):=List.Pairwise.sublist (List.take_sublist q T) h
theorem ES {T:List V}(h:AI T) (q:Nat):AI (T.drop q):=List.Pairwise.sublist (List.drop_sublist q T) h
theorem KI {T:List V}(h:AI T) (q:Nat):∀u∈T.take q,∀w∈T.drop q,leV u w:=by
 have h2:AI (T.take q++T.drop q):=by rw[List.take_append_drop];exact h
 exact (List.pairwise_append.1 h2).2.2
theorem IB {T:List V}(h:AI T) {i j:Nat}(hij:i≤j) (hj:j<T.length):leV (T[i]'(by omega)) T[j]:=by
 by_cases he:i=j
 ·subst he;exact Yv _
 ·exact List.pairwise_iff_getElem.1 h i j (by omega) hj (by omega)
theorem LR {T:List V}(h:AI T) {q:Nat}(hq:q<T.length):∀u∈T.take (q+1),leV u T[q]:=fun u hu=>by
 obtain⟨i,hi,rfl⟩:=List.mem_iff_getElem.1 hu
 rw[List.getElem_take]
 have:i<q+1:=by have:=hi;rw[List.length_take]at this;omega
 exact IB h (by omega) hq
theorem V3 {T:List V}(h:AI T) {q:Nat}(hq:q<T.length):∀w∈T.drop q,leV T[q] w:=fun w hw=>by
 obtain⟨i,hi,rfl⟩:=List.mem_iff_getElem.1 hw
 rw[List.getElem_drop]
 rw[List.length_drop]at hi
 exact IB h (by omega) (by omega)
theorem Jz {T:List V}(h:AI T) {x:V}{q:Nat}(h1:∀u∈T.take q,leV u x) (h2:∀w∈T.drop q,leV x w):AI (T.take q++x::T.drop q):=by
 refine Nn (ET h q) (List.pairwise_cons.2 ⟨h2,ES h q⟩) fun u hu w hw=>?_
 rcases List.mem_cons.1 hw with rfl | hw
 ·exact h1 u hu
 ·exact KI h q u hu w hw
theorem Mx (T:List V) (x:V) (q:Nat):(T.take q++x::T.drop q).Perm (x::T):=by
 have:=List.perm_middle (a:=x) (l₁:=T.take q) (l₂:=T.drop q)
 rwa [List.take_append_drop]at this
theorem Rr {X:List V}{k:Nat}(hk:k<X.length) {q:Nat}(h1:∀u∈(Az (X.take k)).take q,leV u X[k]) (h2:∀w∈(Az (X.take k)).drop q,leV X[k] w) :
  (Az (X.take k)).take q++X[k]::(Az (X.take k)).drop q=Az (X.take (k+1)):=by
 refine (GE (Jz (C3 _) h1 h2) ?_).symm
 refine (Mx _ _ q).trans ?_
 rw[List.take_succ_eq_append_getElem hk]
 exact ((Du (X.take k)).cons _).trans (List.perm_append_singleton _ _).symm
theorem Sn {X:List V}(h:X.length≤1):Az X=X:=by
 refine FS ?_
 match X,h with
 | [],_=>exact List.Pairwise.nil
 | [x],_=>exact List.pairwise_singleton _ _
theorem P0 {X:List V}{x:V}:x∈Az X↔x∈X:=(Du X).mem_iff
set_option maxRecDepth 10000
def IE (f:FuncId):Prop:=A6 Tryz.prog f=true∧∀x y:V,x.right→AC Tryz.prog f [x.av,y.av] [] (.c (.int .i64 (x.cmp y))) []
theorem Ky (f:FuncId) (hf:IE f) (P X S:List V) (hr:∀x∈X,x.right) (hn:(P++X++S).length≤100000) :
  AC Tryz.prog 385 [.own (0,0),.c (.int .i64 (P.length:Int)),.c (.int .i64 ((P.length+X.length:Nat):Int)),.clo f []] (DL (P++X++S)) (.tup []) (DL (P++Az X++S)):=by
 obtain⟨hcal,hf⟩:=hf
 simp only[List.length_append]at hn
 have hz:P++X++S=P++Az (X.take 1)++X.drop 1++S:=by
  rw[Sn (X:=X.take 1) (by rw[List.length_take];omega)]
  conv=>lhs;rw[←List.take_append_drop 1 X]
  simp only[List.append_assoc]
 rw[hz]
 have w0:=Af (k:=P.length) (by omega)
 refine A7 Tryz.func385 Tryz.ntmps385 w0 ?_
 refine Ar (κ:=Nat) (fun k=>⟨mkS 0 53 [(0,.own (0,0)),(1,.c (.int .i64 (P.length:Int))),(2,.c (.int .i64 ((P.length+X.length:Nat):Int))),(3,.clo f []),(8,.c (.int .i64 ((P.length+k:Nat):Int)))],[((0,0),Ki (P++Az (X.take k)++X.drop k++S))]⟩)
  (fun k=>1≤k) (fun k=>X.length-k) 1 (Nat.le_refl _) ?_ ?_
 ·exact Ab (Ah.of [((0,0),(0,0))] []) hn
 ·intro k hk
  by_cases hlt:k<X.length
  ·have hd:decide (((P.length+k:Nat):Int)<((P.length+X.length:Nat):Int))=true:=decide_eq_true (by omega)
   have hw:IntKind.i64.wrap (((P.length+k:Nat):Int)+1)=((P.length+(k+1):Nat):Int):=Ba (by omega) (by omega)
   have hxr:=hr _ (List.getElem_mem hlt)
   have hTl:(Az (X.take k)).length=k:=by rw[Ez,List.length_take];omega
   have hTs:=C3 (X.take k)
   have hins:=fun (q:Nat) h1 h2=>Rr hlt (q:=q) h1 h2
   have hdr:X.drop k=X[k]::X.drop (k+1):=List.drop_eq_getElem_cons hlt
   obtain⟨T',hT'⟩:∃T',Az (X.take (k+1))=T':=⟨_,rfl⟩
   rw[hT']at hins
   have hXl:(X.drop (k+1)).length=X.length-(k+1):=List.length_drop
   rw[hdr]
   generalize Az (X.take k)=T at *
   generalize hD:X.drop (k+1)=D at *
   generalize X[k]=x at *
   refine Ac hd ?_
   refine Ar (κ:=Nat) (fun q=>⟨mkS 0 53 [(0,.own (0,0)),(1,.c (.int .i64 (P.length:Int))),(2,.c (.int .i64 ((P.length+X.length:Nat):Int))),(3,.clo f []),(8,.c (.int .i64 ((P.length+k:Nat):Int))),(9,.c (.int .i64 ((P.length+q:Nat):Int)))],[((0,0),Ki (P++T.take q++x::(T.drop q++D++S)))]⟩)
    (fun q=>q≤k∧∀w∈T.drop q,leV x w) (fun q=>q) k ⟨Nat.le_refl _,by rw[List.drop_of_length_le (by omega)];simp⟩ ?_ ?_
   ·have hst:P++T++x::D++S=P++T.take k++x::(T.drop k++D++S):=by
     rw[List.take_of_length_le (by omega),List.drop_of_length_le (by omega)]
     simp
    rw[hst]
    exact Ab (Ah.of [((0,0),(0,0))] []) hd
   ·rintro q ⟨hq,hge⟩
    have fin:(∀u∈T.take q,leV u x)→P++T.take q++x::(T.drop q++D++S)=P++T'++D++S:=fun hu=>by
     rw[←hins q hu hge]
     simp
    cases q with
    |zero =>
     have hd0:decide (((P.length+0:Nat):Int)>(P.length:Int))=false:=decide_eq_false (by omega)
     have hfin:=fin (by simp)
     rw[hfin]
     refine Ac (j2 hd0 hw) ?_
     refine⟨k+1,by omega,by omega,?_⟩
     rw[hT',hD]
     exact Ab (Ah.of [((0,0),(0,0))] []) hd
    |succ q =>
     have hqT:q<T.length:=by omega
     have hd0:decide (((P.length+(q+1):Nat):Int)>(P.length:Int))=true:=decide_eq_true (by omega)
     have w1:IntKind.i64.wrap (((P.length+(q+1):Nat):Int)-1)=((P.length+q:Nat):Int):=Ba (by omega) (by omega)
     have e2:P++T.take (q+1)++x::(T.drop (q+1)++D++S)=(P++T.take q)++T[q]::(x::(T.drop (q+1)++D++S)):=by
      rw[List.take_succ_eq_append_getElem hqT]
      simp only[List.append_assoc,List.cons_append,List.nil_append]
     have l1:(P++T.take (q+1)).length=P.length+(q+1):=by simp;omega
     have l2:(P++T.take q).length=P.length+q:=by simp;omega
     obtain⟨r1,g1,s1⟩:=BI (P++T.take (q+1)) x (T.drop (q+1)++D++S) l1 rfl
     obtain⟨r2,g2,_⟩:=BI _ _ _ l2 e2
     have hcm:=hf x T[q] hxr
     have htl:=LR hTs hqT
     have s1':=s1 T[q]
     have e3:(P++T.take (q+1))++T[q]::(T.drop (q+1)++D++S)=(P++T.take q)++T[q]::(T[q]::(T.drop (q+1)++D++S)):=by
      rw[List.take_succ_eq_append_getElem hqT]
      simp only[List.append_assoc,List.cons_append,List.nil_append]
     obtain⟨r3,g3,s3⟩:=BI _ _ _ l2 e3
     have s3':=s3 x
     have e4:(P++T.take q)++x::(T[q]::(T.drop (q+1)++D++S))=P++T.take q++x::(T.drop q++D++S):=by
      rw[List.drop_eq_getElem_cons hqT]
      simp only[List.append_assoc,List.cons_append,List.nil_append]
     have hdq:T.drop q=T[q]::T.drop (q+1):=List.drop_eq_getElem_cons hqT
     rw[e4]at s3'
     have hge':leV x T[q]→∀w∈T.drop q,leV x w:=fun h w hw=>by
      rw[hdq]at hw
      rcases List.mem_cons.1 hw with rfl | hw
      ·exact h
      ·exact hge w hw
     have hfin:leV T[q] x→P++T.take (q+1)++x::(T.drop (q+1)++D++S)=P++T'++D++S:=fun h=>fin fun u hu=>DW (htl u hu) h
     clear s1 s3 e2 e3 e4 fin hdq l1 l2 htl
     generalize hL1:(P++T.take (q+1))++T[q]::(T.drop (q+1)++D++S)=L1 at *
     generalize hL2:P++T.take q++x::(T.drop q++D++S)=L2 at *
     generalize hL0:P++T.take (q+1)++x::(T.drop (q+1)++D++S)=L0 at *
     generalize T[q]=y at *
     cases hc:decide (x.cmp y<0) with
     |false =>
      have hle:leV y x:=I0.1 (by simpa using hc)
      refine Ac (j6 hd0 r1 g1 w1 r2 g2) ?_
      refine v7 (A3 [] hcm) hcal (j2 hc hw) ?_
      refine⟨k+1,by omega,by omega,?_⟩
      rw[hT',hD,hfin hle]
      exact Ab (Ah.of [((0,0),(0,0))] []) hd
     |true =>
      have hle:leV x y:=K8 (by simpa using hc)
      refine Ac (j6 hd0 r1 g1 w1 r2 g2) ?_
      refine v7 (A3 [] hcm) hcal (j10 hc r1 g1 w1 r2 g2 s1' r3 g3 s3') ?_
      refine⟨q,by omega,⟨by omega,hge' hle⟩,?_⟩
      rw[hL2]
      exact Ab (Ah.of [((0,0),(0,0))] []) hd
  ·have hd:decide (((P.length+k:Nat):Int)<((P.length+X.length:Nat):Int))=false:=decide_eq_false (by omega)
   have hfin:P++Az (X.take k)++X.drop k++S=P++Az X++S:=by
    rw[List.take_of_length_le (by omega),List.drop_of_length_le (by omega)]
    simp
   rw[hfin]
   refine Ac hd ?_
   exact A9 (A8 [((0,0),(0,0))] []) Tryz.results385 hd
theorem RP {a b c:V}(h1:leV a b) (h2:b.cmp c<0):a.cmp c<0:=(trV a b c).2.2 h1 h2
theorem WK {X Y:List V}{s w:Nat}(hX:AI X) (hY:AI Y) (h1:∀x∈X.take s,∀y∈Y.drop w,leV x y) (h2:∀y∈Y.take w,∀x∈X.drop s,leV y x) :
  Az (X.take s++Y.take w)++Az (X.drop s++Y.drop w)=Az (X++Y):=by
 refine (GE (Nn (C3 _) (C3 _) fun a ha b hb=>?_) ?_).symm
 ·rw[P0]at ha hb
  rcases List.mem_append.1 ha with ha | ha
  ·rcases List.mem_append.1 hb with hb | hb
   ·exact KI hX s a ha b hb
   ·exact h1 a ha b hb
  ·rcases List.mem_append.1 hb with hb | hb
   ·exact h2 a ha b hb
   ·exact KI hY w a ha b hb
 ·refine ((Du _).append (Du _)).trans ?_
  have e:X++Y=(X.take s++X.drop s)++(Y.take w++Y.drop w):=by rw[List.take_append_drop,List.take_append_drop]
  rw[e,List.append_assoc,List.append_assoc]
  refine List.Perm.append_left _ ?_
  rw[←List.append_assoc,←List.append_assoc]
  exact List.perm_append_comm.append_right _
theorem KE {X Y:List V}{s w:Nat}(hX:AI X) (hY:AI Y) (h:∀(h1:0<s) (h2:s≤X.length) (h3:w<Y.length),leV (X[s-1]'(by omega)) Y[w]) (hs:s≤X.length):∀x∈X.take s,∀y∈Y.drop w,leV x y:=fun x hx y hy=>by
 obtain⟨i,hi,rfl⟩:=List.mem_iff_getElem.1 hx
 obtain⟨j,hj,rfl⟩:=List.mem_iff_getElem.1 hy
 rw[List.length_take]at hi
 rw[List.length_drop]at hj
 rw[List.getElem_take,List.getElem_drop]
 have:=h (by omega) hs (by omega)
 exact DW (DW (IB hX (show i≤s-1 by omega) (by omega)) this) (IB hY (show w≤w+j by omega) (by omega))
theorem MT {X Y:List V}{s w:Nat}(hX:AI X) (hY:AI Y) (h:∀(h1:0<w) (h2:w≤Y.length) (h3:s<X.length),leV (Y[w-1]'(by omega)) X[s]) (hw:w≤Y.length):∀y∈Y.take w,∀x∈X.drop s,leV y x:=KE hY hX h hw
theorem ZQ {Y:List V}(hY:AI Y) {x:V}{u:Nat}(h1:∀y∈Y.take u,leV y x) (h2:∀y∈Y.drop u,leV x y):Y.take u++x::Y.drop u=Az ([x]++Y) :=
 (GE (Jz hY h1 h2) (Mx Y x u)).symm
theorem Yl {X:List V}(hX:AI X) {y:V}{u:Nat}(h1:∀x∈X.take u,leV x y) (h2:∀x∈X.drop u,leV y x):X.take u++y::X.drop u=Az (X++[y]) :=
 (GE (Jz hX h1 h2) ((Mx X y u).trans (List.perm_append_singleton _ _).symm)).symm
set_option maxRecDepth 10000
theorem XG {z:Nat}(h:z<9000000000000000000):IntKind.u64.wrap ((z:Nat):Int)=((z:Nat):Int):=by
 unfold IntKind.wrap
 simp[IntKind.bits,IntKind.signed]
 omega
def UP (f:FuncId) (n:Nat):Prop:=∀(P X Y S:List V),X.length+Y.length≤n→X≠[]→Y≠[]→AI X→AI Y→(∀x∈X,x.right)→(∀y∈Y,y.right)→(P++X++Y++S).length≤100000 →
  AC Tryz.prog 386 [.own (0,0),.c (.int .i64 (P.length:Int)),.c (.int .i64 ((P.length+X.length:Nat):Int)),.c (.int .i64 ((P.length+X.length+Y.length:Nat):Int)),.clo f []] (DL (P++X++Y++S)) (.tup []) (DL (P++Az (X++Y)++S))
theorem Qv (f:FuncId) (hf:IE f) (P:List V) (x:V) (Y S:List V) (hY:AI Y) (hyr:∀y∈Y,y.right) (hn:(P++[x]++Y++S).length≤100000) :
  AC Tryz.prog 386 [.own (0,0),.c (.int .i64 (P.length:Int)),.c (.int .i64 ((P.length+1:Nat):Int)),.c (.int .i64 ((P.length+1+Y.length:Nat):Int)),.clo f []] (DL (P++[x]++Y++S)) (.tup []) (DL (P++Az ([x]++Y)++S)):=by
 obtain⟨hcal,hf⟩:=hf
 simp only[List.length_append,List.length_singleton]at hn
 have w0:IntKind.i64.wrap (((P.length+1:Nat):Int)-(P.length:Int))=1:=Ba (n:=1) (by omega) (by omega)
 have h11:((1:Int)==1)=true:=rfl
 refine A7 Tryz.func386 Tryz.ntmps386 (j2 w0 h11) ?_
 refine Ar (κ:=Nat×Nat) (fun q=>⟨mkS 0 220 [(0,.own (0,0)),(1,.c (.int .i64 (P.length:Int))),(4,.clo f []),(10,.c (.int .i64 ((P.length+1+q.1:Nat):Int))),(11,.c (.int .i64 ((P.length+1+q.2:Nat):Int)))],[((0,0),Ki (P++[x]++Y++S))]⟩)
  (fun q=>q.1≤q.2∧q.2≤Y.length∧(∀y∈Y.take q.1,y.cmp x<0)∧(∀y∈Y.drop q.2,leV x y)) (fun q=>q.2-q.1) (0,Y.length) ⟨Nat.zero_le _,Nat.le_refl _,by simp,by simp⟩ ?_ ?_
 ·exact Ab (Ah.of [((0,0),(0,0))] []) h11
 ·rintro⟨u,v⟩ ⟨huv,hvl,h1,h2⟩
  dsimp only at huv hvl h1 h2 ⊢
  by_cases hlt:u<v
  ·have hd:decide (((P.length+1+u:Nat):Int)<((P.length+1+v:Nat):Int))=true:=decide_eq_true (by omega)
   have wa:IntKind.i64.wrap (((P.length+1+u:Nat):Int)+((P.length+1+v:Nat):Int))=((P.length+1+u+(P.length+1+v):Nat):Int):=Ba (by omega) (by omega)
   have wu:=XG (z:=P.length+1+u+(P.length+1+v)) (by omega)
   obtain⟨h,hh⟩:∃h,(u+v) / 2=h:=⟨_,rfl⟩
   have hH:(P.length+1+u+(P.length+1+v)) / 2=P.length+1+h:=by omega
   have wh:IntKind.i64.wrap ((P.length+1+h:Nat):Int)=((P.length+1+h:Nat):Int):=Ba rfl (by omega)
   have hw:IntKind.i64.wrap (((P.length+1+h:Nat):Int)+1)=((P.length+1+(h+1):Nat):Int):=Ba (by omega) (by omega)
   have hhY:h<Y.length:=by omega
   have e1:P++[x]++Y++S=P++x::(Y++S):=by simp
   have e2:P++[x]++Y++S=(P++[x]++Y.take h)++Y[h]::(Y.drop (h+1)++S):=by
    conv=>lhs;rw[←List.take_append_drop h Y,List.drop_eq_getElem_cons hhY]
    simp only[List.append_assoc,List.cons_append]
   obtain⟨r1,g1,_⟩:=BI P x _ rfl e1
   obtain⟨r2,g2,_⟩:=BI (n:=P.length+1+h) _ _ _ (by simp;omega) e2
   have hcm:=hf Y[h] x (hyr _ (List.getElem_mem hhY))
   have htl:=LR hY hhY
   have hdl:=V3 hY hhY
   generalize P++[x]++Y++S=L,Y[h]=y at *
   clear e1 e2
   cases hc:decide (y.cmp x<0) with
   |true =>
    have hlx:y.cmp x<0:=by simpa using hc
    refine Ac (j3 hd wa wu) ?_
    ((with_reducible apply EI);(iterate 4 (focus (first | (simp only[go_sem,Nat.reduceEqDiff,Nat.reduceAdd,Nat.reduceSub,Nat.reduceLeDiff,Nat.reduceMul,Nat.reduceBEq,Nat.reduceLT,Int.reduceToNat,reduceCtorEq,wa,wu];first | done | exact rfl | (and_intros<;>rfl)) | exact rfl | decide))))
    refine Ac (j6 hH wh r1 g1 r2 g2) ?_
    refine v7 (A3 [] hcm) hcal (j2 hc hw) ?_
    refine⟨(h+1,v),by dsimp only;omega,⟨by dsimp only;omega,hvl,fun z hz=>RP (htl z hz) hlx,h2⟩,?_⟩
    exact Ab (Ah.of [((0,0),(0,0))] []) hw
   |false =>
    have hlx:leV x y:=I0.1 (by simpa using hc)
    refine Ac (j3 hd wa wu) ?_
    ((with_reducible apply EI);(iterate 4 (focus (first | (simp only[go_sem,Nat.reduceEqDiff,Nat.reduceAdd,Nat.reduceSub,Nat.reduceLeDiff,Nat.reduceMul,Nat.reduceBEq,Nat.reduceLT,Int.reduceToNat,reduceCtorEq,wa,wu];first | done | exact rfl | (and_intros<;>rfl)) | exact rfl | decide))))
    refine Ac (j6 hH wh r1 g1 r2 g2) ?_
    refine v7 (A3 [] hcm) hcal hc ?_
    refine⟨(u,h),by dsimp only;omega,⟨by dsimp only;omega,by dsimp only;omega,h1,fun z hz=>DW hlx (hdl z hz)⟩,?_⟩
    exact Ab (Ah.of [((0,0),(0,0))] []) hw
  ·have hd:decide (((P.length+1+u:Nat):Int)<((P.length+1+v:Nat):Int))=false:=decide_eq_false (by omega)
   have huv':v=u:=by omega
   subst huv'
   have hins:=ZQ hY (x:=x) (u:=v) (fun y hy=>K8 (h1 y hy)) h2
   have wm:IntKind.i64.wrap (((P.length+1+v:Nat):Int)-1)=((P.length+v:Nat):Int):=Ba (by omega) (by omega)
   refine Ac hd ?_
   refine Ar (κ:=Nat) (fun t=>⟨mkS 0 220 [(0,.own (0,0)),(10,.c (.int .i64 ((P.length+1+v:Nat):Int))),(13,.c (.int .i64 ((P.length+t:Nat):Int)))],[((0,0),Ki (P++Y.take t++x::(Y.drop t++S)))]⟩)
    (fun t=>t≤v) (fun t=>v-t) 0 (Nat.zero_le _) ?_ ?_
   ·have e0:P++[x]++Y++S=P++Y.take 0++x::(Y.drop 0++S):=by simp
    have n0:P.length+0=P.length:=rfl
    rw[e0]
    exact Ab (Ah.of [((0,0),(0,0))] []) n0
   ·intro t ht
    by_cases htv:t<v
    ·have hd2:decide (((P.length+t:Nat):Int)<((P.length+v:Nat):Int))=true:=decide_eq_true (by omega)
     have htY:t<Y.length:=by omega
     have wt:IntKind.i64.wrap (((P.length+t:Nat):Int)+1)=((P.length+(t+1):Nat):Int):=Ba (by omega) (by omega)
     have l1:(P++Y.take t).length=P.length+t:=by simp;omega
     have e2:P++Y.take t++x::(Y.drop t++S)=(P++Y.take t++[x])++Y[t]::(Y.drop (t+1)++S):=by
      rw[List.drop_eq_getElem_cons htY]
      simp only[List.append_assoc,List.cons_append,List.nil_append]
     have l2:(P++Y.take t++[x]).length=P.length+(t+1):=by simp;omega
     obtain⟨r1,g1,s1⟩:=BI (P++Y.take t) x (Y.drop t++S) l1 rfl
     obtain⟨r2,g2,_⟩:=BI _ _ _ l2 e2
     have s1':=s1 Y[t]
     have e3:(P++Y.take t)++Y[t]::(Y.drop t++S)=(P++Y.take t++[Y[t]])++Y[t]::(Y.drop (t+1)++S):=by
      rw[List.drop_eq_getElem_cons htY]
      simp only[List.append_assoc,List.cons_append,List.nil_append]
     have l3:(P++Y.take t++[Y[t]]).length=P.length+(t+1):=by simp;omega
     obtain⟨r3,g3,s3⟩:=BI _ _ _ l3 e3
     have s3':=s3 x
     have e4:(P++Y.take t++[Y[t]])++x::(Y.drop (t+1)++S)=P++Y.take (t+1)++x::(Y.drop (t+1)++S):=by
      rw[List.take_succ_eq_append_getElem htY]
      simp only[List.append_assoc]
     rw[e4]at s3'
     clear s1 s3 e2 e3 e4 l1 l2 l3
     generalize hL2:P++Y.take (t+1)++x::(Y.drop (t+1)++S)=L2 at *
     generalize (P++Y.take t)++Y[t]::(Y.drop t++S)=L1 at *
     generalize P++Y.take t++x::(Y.drop t++S)=L0 at *
     generalize Y[t]=y at *
     refine Ac (j11 wm hd2 wt r1 g1 r2 g2 s1' r3 g3 s3') ?_
     refine⟨t+1,by omega,by omega,?_⟩
     exact Ab (Ah.of [((0,0),(0,0))] []) hL2
    ·have hd2:decide (((P.length+t:Nat):Int)<((P.length+v:Nat):Int))=false:=decide_eq_false (by omega)
     have htv':t=v:=by omega
     subst htv'
     have hfin:P++Y.take t++x::(Y.drop t++S)=P++Az ([x]++Y)++S:=by
      rw[←hins]
      simp only[List.append_assoc,List.cons_append]
     rw[hfin]
     refine Ac (j2 wm hd2) ?_
     exact A9 (A8 [((0,0),(0,0))] []) Tryz.results386 hd2
end Go.Proofs.YtcejfdfmgmcinaaGreat
