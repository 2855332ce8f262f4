/- slices.symMergeCmpFunc at values: the general way, where the first list is not the longer one. Printed by gen_symmerge.py. -/
import Derived.Test.YtcejfdfmgmcinaaGreatKG94uG95
set_option linter.all false
set_option maxHeartbeats 8000000
namespace Go.Proofs.YtcejfdfmgmcinaaGreat
open Go.RowKit
set_option maxRecDepth 10000
theorem U3 (f:FuncId) (hf:Jz f) {n:Nat}(ih:Ws f n) (P X Y S:List V) (hl:X.length+Y.length≤n+1) (hX2:2≤X.length) (hY2:2≤Y.length) (hX:AK X) (hY:AK Y) (hxr:∀x∈X,x.right) (hyr:∀y∈Y,y.right) (hn:(P++X++Y++S).length≤100000) {N:Nat}(hN:(X.length+Y.length) / 2=N) (hm:¬X.length>N) :
  AC Tryz.prog 386 [.own (0,0),.c (.int .i64 (P.length:Int)),.c (.int .i64 ((P.length+X.length:Nat):Int)),.c (.int .i64 ((P.length+X.length+Y.length:Nat):Int)),.clo f []] (Ej (P++X++Y++S)) (.tup []) (Ej (P++AD (X++Y)++S)):=by
 obtain⟨hfin,hrot,hno1,hsym1,hno2,hsym2,hno3,hcases⟩:=TS f hf ih P X Y S hl hX2 hY2 hX hY hxr hyr hn hN
 obtain⟨hcal,hf'⟩:=hf
 simp only[List.length_append]at hn
 have w0:IntKind.i64.wrap (((P.length+X.length:Nat):Int)-(P.length:Int))=(X.length:Int):=Bf (by omega) (by omega)
 have h10:((X.length:Int)==1)=false:=by simp;omega
 have w1:IntKind.i64.wrap (((P.length+X.length+Y.length:Nat):Int)-((P.length+X.length:Nat):Int))=(Y.length:Int):=Bf (by omega) (by omega)
 have h11:((Y.length:Int)==1)=false:=by simp;omega
 have wa:IntKind.i64.wrap ((P.length:Int)+((P.length+X.length+Y.length:Nat):Int))=((P.length+(P.length+X.length+Y.length):Nat):Int):=Bf (by omega) (by omega)
 have wu:=Zt (z:=P.length+(P.length+X.length+Y.length)) (by omega)
 have hH:(P.length+(P.length+X.length+Y.length)) / 2=P.length+N:=by omega
 have wh:IntKind.i64.wrap ((P.length+N:Nat):Int)=((P.length+N:Nat):Int):=Bf rfl (by omega)
 have wn:IntKind.i64.wrap (((P.length+N:Nat):Int)+((P.length+X.length:Nat):Int))=((P.length+N+(P.length+X.length):Nat):Int):=Bf (by omega) (by omega)
 obtain⟨pp,hpp⟩:∃pp,pp+1=P.length+N+(P.length+X.length):=⟨P.length+N+(P.length+X.length)-1,by omega⟩
 have wp:IntKind.i64.wrap (((P.length+N+(P.length+X.length):Nat):Int)-1)=(pp:Int):=Bf (by omega) (by omega)
 obtain⟨u0,hu0⟩:∃u0,(if X.length>N then N-Y.length else 0)=u0:=⟨_,rfl⟩
 obtain⟨v0,hv0⟩:∃v0,(if X.length>N then N else X.length)=v0:=⟨_,rfl⟩
 have hub:u0≤v0∧v0≤X.length∧v0≤N∧N≤u0+Y.length:=by
  rw[←hu0,←hv0];split<;>omega
 have hbs:(u0=0∨N-u0=Y.length)∧(v0=N∨v0=X.length):=by
  rw[←hu0,←hv0];split<;>omega
 obtain⟨G,hG⟩:∃G,P++AD (X++Y)++S=G:=⟨_,rfl⟩
 rw[hG]at hfin ⊢
 have hcond:decide (((P.length+X.length:Nat):Int)>((P.length+N:Nat):Int))=false:=decide_eq_false (by omega)
 have hu0e:u0=0:=by rw[←hu0,if_neg hm]
 have hv0e:v0=X.length:=by rw[←hv0,if_neg hm]
 have ws:P.length=P.length+u0:=by rw[hu0e];rfl
 have hs1:P.length+X.length=P.length+v0:=by rw[hv0e]
 clear hu0 hv0
 obtain⟨hub1,hub2,hub3,hub4⟩:=hub
 refine A6 Tryz.func386 Tryz.ntmps386 (j6 w0 h10 w1 h11 wa wu) ?_
 ((with_reducible apply Em);(iterate 4 (focus (first | (simp only[go_sem,Nat.reduceEqDiff,Nat.reduceAdd,Nat.reduceSub,Nat.reduceLeDiff,Nat.reduceMul,Nat.reduceBEq,Nat.reduceLT,Int.reduceToNat,reduceCtorEq,wa,wu];first | done | exact rfl | (and_intros<;>rfl)) | exact rfl | decide))))
 refine Ab (j5 hH wh wn hcond wp) ?_
 refine Ar (κ:=Nat×Nat) (fun q=>⟨mkS 0 220 [(0,.own (0,0)),(1,.c (.int .i64 (P.length:Int))),(2,.c (.int .i64 ((P.length+X.length:Nat):Int))),(3,.c (.int .i64 ((P.length+X.length+Y.length:Nat):Int))),(4,.clo f []),(18,.c (.int .i64 ((P.length+N:Nat):Int))),(19,.c (.int .i64 ((P.length+N+(P.length+X.length):Nat):Int))),(20,.c (.int .i64 ((P.length+q.1:Nat):Int))),(21,.c (.int .i64 ((P.length+q.2:Nat):Int))),(22,.c (.int .i64 (pp:Int)))],[((0,0),Lr (P++X++Y++S))]⟩)
  (fun q=>u0≤q.1∧q.1≤q.2∧q.2≤v0∧(q.1=u0∨∀x y,X[q.1-1]? = some x→Y[N-q.1]? = some y→leV x y)∧(q.2=v0∨∀x y,X[q.2]? = some x→Y[N-1-q.2]? = some y→leV y x)) (fun q=>q.2-q.1) (u0,v0) ⟨Nat.le_refl _,hub1,Nat.le_refl _,.inl rfl,.inl rfl⟩ ?_ ?_
 ·dsimp only
  rw[←hs1,←ws]
  exact Ac (Aj.of [((0,0),(0,0))] []) hcond
 ·rintro⟨u,v⟩ ⟨i1,i2,i3,i4,i5⟩
  dsimp only at i1 i2 i3 i4 i5 ⊢
  by_cases hlt:u<v
  ·have hd:decide (((P.length+u:Nat):Int)<((P.length+v:Nat):Int))=true:=decide_eq_true (by omega)
   clear hbs hcases hfin hrot hno1 hsym1 hno2 hsym2 hno3 ih hu0e hv0e ws hs1 hcond
   have wb:IntKind.i64.wrap (((P.length+u:Nat):Int)+((P.length+v:Nat):Int))=((P.length+u+(P.length+v):Nat):Int):=Bf (by omega) (by omega)
   have wv:=Zt (z:=P.length+u+(P.length+v)) (by omega)
   obtain⟨h,hh⟩:∃h,(u+v) / 2=h:=⟨_,rfl⟩
   have hHh:(P.length+u+(P.length+v)) / 2=P.length+h:=by omega
   have whh:IntKind.i64.wrap ((P.length+h:Nat):Int)=((P.length+h:Nat):Int):=Bf rfl (by omega)
   have hw:IntKind.i64.wrap (((P.length+h:Nat):Int)+1)=((P.length+(h+1):Nat):Int):=Bf (by omega) (by omega)
   obtain⟨g,hg⟩:∃g,h+1+g=N:=⟨N-1-h,by omega⟩
   have hg1:N-1-h=g:=by omega
   have hg2:N-(h+1)=g:=by omega
   have wpc:IntKind.i64.wrap ((pp:Int)-((P.length+h:Nat):Int))=((P.length+X.length+g:Nat):Int):=Bf (by omega) (by omega)
   have hhX:h<X.length:=by omega
   have hhY:g<Y.length:=by omega
   have e1:P++X++Y++S=(P++X.take h)++X[h]::(X.drop (h+1)++Y++S):=by
    conv=>lhs;rw[←List.take_append_drop h X,List.drop_eq_getElem_cons hhX]
    simp only[List.append_assoc,List.cons_append]
   have e2:P++X++Y++S=(P++X++Y.take g)++Y[g]::(Y.drop (g+1)++S):=by
    conv=>lhs;rw[←List.take_append_drop g Y,List.drop_eq_getElem_cons hhY]
    simp only[List.append_assoc,List.cons_append]
   obtain⟨r1,g1,_⟩:=BU (n:=P.length+h) _ _ _ (by simp;omega) e1
   obtain⟨r2,g2,_⟩:=BU (n:=P.length+X.length+g) _ _ _ (by simp;omega) e2
   have hcm:=hf' Y[g] X[h] (hyr _ (List.getElem_mem hhY))
   have hx?:X[h]? = some X[h]:=List.getElem?_eq_getElem hhX
   have hy?:Y[g]? = some Y[g]:=List.getElem?_eq_getElem hhY
   clear e1 e2
   generalize P++X++Y++S=L,Y[g]=y,X[h]=x at *
   cases hc:decide (y.cmp x<0) with
   |false =>
    have hlx:leV x y:=IU.1 (by simpa using hc)
    refine Ab (j3 hd wb wv) ?_
    ((with_reducible apply Em);(iterate 4 (focus (first | (simp only[go_sem,Nat.reduceEqDiff,Nat.reduceAdd,Nat.reduceSub,Nat.reduceLeDiff,Nat.reduceMul,Nat.reduceBEq,Nat.reduceLT,Int.reduceToNat,reduceCtorEq,wb,wv];first | done | exact rfl | (and_intros<;>rfl)) | exact rfl | decide))))
    refine Ab (j7 hHh whh wpc r1 g1 r2 g2) ?_
    refine v7 (A3 [] hcm) hcal (j2 hc hw) ?_
    refine⟨(h+1,v),by dsimp only;omega,⟨by dsimp only;omega,by dsimp only;omega,i3,.inr fun x' y' hx' hy'=>?_,i5⟩,?_⟩
    ·have ex:x'=x:=by rw[show h+1-1=h from rfl,hx?]at hx';exact (Option.some.inj hx').symm
     have ey:y'=y:=by rw[hg2,hy?]at hy';exact (Option.some.inj hy').symm
     rw[ex,ey];exact hlx
    ·exact Ac (Aj.of [((0,0),(0,0))] []) hw
   |true =>
    have hlx:leV y x:=Lc (by simpa using hc)
    refine Ab (j3 hd wb wv) ?_
    ((with_reducible apply Em);(iterate 4 (focus (first | (simp only[go_sem,Nat.reduceEqDiff,Nat.reduceAdd,Nat.reduceSub,Nat.reduceLeDiff,Nat.reduceMul,Nat.reduceBEq,Nat.reduceLT,Int.reduceToNat,reduceCtorEq,wb,wv];first | done | exact rfl | (and_intros<;>rfl)) | exact rfl | decide))))
    refine Ab (j7 hHh whh wpc r1 g1 r2 g2) ?_
    refine v7 (A3 [] hcm) hcal hc ?_
    refine⟨(u,h),by dsimp only;omega,⟨i1,by dsimp only;omega,by dsimp only;omega,i4,.inr fun x' y' hx' hy'=>?_⟩,?_⟩
    ·have ex:x'=x:=by dsimp only at hx';rw[hx?]at hx';exact (Option.some.inj hx').symm
     have ey:y'=y:=by dsimp only at hy';rw[hg1,hy?]at hy';exact (Option.some.inj hy').symm
     rw[ex,ey];exact hlx
    ·exact Ac (Aj.of [((0,0),(0,0))] []) hw
  ·have hd:decide (((P.length+u:Nat):Int)<((P.length+v:Nat):Int))=false:=decide_eq_false (by omega)
   have huv':v=u:=by omega
   subst huv'
   obtain⟨s,hs⟩:∃s,s=v:=⟨_,rfl⟩
   subst hs
   obtain⟨w,hw⟩:∃w,N-s=w:=⟨_,rfl⟩
   have k1:=LQ (X:=X) (Y:=Y) (s:=s) (w:=w) hX hY (fun h1 h2 h3=>by
    rcases i4 with i4 | i4
    ·rcases hbs.1 with h | h<;>omega
    ·exact i4 _ _ (List.getElem?_eq_getElem (by omega)) (by rw[hw];exact List.getElem?_eq_getElem h3)) (by omega)
   have k2:=O6 (X:=X) (Y:=Y) (s:=s) (w:=w) hX hY (fun h1 h2 h3=>by
    rcases i5 with i5 | i5
    ·rcases hbs.2 with h | h<;>omega
    ·exact i5 _ _ (List.getElem?_eq_getElem h3) (by rw[show N-1-s=w-1 by omega];exact List.getElem?_eq_getElem (by omega))) (by omega)
   have we:IntKind.i64.wrap (((P.length+N+(P.length+X.length):Nat):Int)-((P.length+s:Nat):Int))=((P.length+X.length+w:Nat):Int):=Bf (by omega) (by omega)
   have hsw:s+w=N:=by omega
   have hsX:s≤X.length:=by omega
   have hwY:w≤Y.length:=by omega
   refine Ab hd ?_
   clear i1 i2 i3 i4 i5 hbs hw hu0e hv0e ws hs1 hub1 hub2 hub3 hub4 hlt hcond hpp hH
   rcases hcases s w hsw hsX hwY with⟨q1,q2,q3,q4⟩ | ⟨q1,q2,q3,q4⟩ | ⟨q1,q2,q3,q4⟩ | ⟨q1,q2,q3,q4⟩ | ⟨q1,q2,q3,q4⟩ | ⟨q1,q2,q3,q4⟩ | ⟨q1,q2,q3,q4⟩
   ·have d1:decide (((P.length+s:Nat):Int)<((P.length+X.length:Nat):Int))=true:=decide_eq_true (by omega)
    have d2:decide (((P.length+X.length:Nat):Int)<((P.length+X.length+w:Nat):Int))=true:=decide_eq_true (by omega)
    have d3:decide ((P.length:Int)<((P.length+s:Nat):Int))=true:=decide_eq_true (by omega)
    have d4:decide (((P.length+s:Nat):Int)<((P.length+N:Nat):Int))=true:=decide_eq_true (by omega)
    have d5:decide (((P.length+N:Nat):Int)<((P.length+X.length+w:Nat):Int))=true:=decide_eq_true (by omega)
    have d6:decide (((P.length+X.length+w:Nat):Int)<((P.length+X.length+Y.length:Nat):Int))=true:=decide_eq_true (by omega)
    have hfi:=hfin s w hsw hsX hwY k1 k2
    have hr1:=hrot s w hsX hwY q2 q1
    have hr2:=hsym1 s w hsw hsX hwY q2 q3
    have hr3:=hsym2 s w hsw hsX hwY q4 q1
    clear hfin hrot hno1 hsym1 hno2 hsym2 hno3 hcases ih k1 k2
    rw[hfi]at hr3
    refine Ab (j7 we d1 d2 d3 d4 d5 d6) ?_
    refine Bw (Am [((0,0),(0,0))] [((0,0),(0,0))] hr1) q9 (j4 d3 d4 d5 d6) ?_
    refine Bw (Am [((0,0),(0,0))] [((0,0),(0,0))] hr2) q9 (j2 d5 d6) ?_
    refine Bw (Am [((0,0),(0,0))] [((0,0),(0,0))] hr3) q9 q9 ?_
    exact Aa (A9 [((0,0),(0,0))] []) Tryz.results386 d1
   ·have d1:decide (((P.length+s:Nat):Int)<((P.length+X.length:Nat):Int))=false:=decide_eq_false (by omega)
    have d2:decide (((P.length+X.length:Nat):Int)<((P.length+X.length+w:Nat):Int))=true:=decide_eq_true (by omega)
    have d3:decide ((P.length:Int)<((P.length+s:Nat):Int))=true:=decide_eq_true (by omega)
    have d4:decide (((P.length+s:Nat):Int)<((P.length+N:Nat):Int))=true:=decide_eq_true (by omega)
    have d5:decide (((P.length+N:Nat):Int)<((P.length+X.length+w:Nat):Int))=false:=decide_eq_false (by omega)
    have d6:decide (((P.length+X.length+w:Nat):Int)<((P.length+X.length+Y.length:Nat):Int))=true:=decide_eq_true (by omega)
    have hfi:=hfin s w hsw hsX hwY k1 k2
    have hr1:=hno1 s w (by omega)
    have hr2:=hsym1 s w hsw hsX hwY q2 q3
    have hr3:=hno3 s w (by omega)
    clear hfin hrot hno1 hsym1 hno2 hsym2 hno3 hcases ih k1 k2
    rw[hfi]at hr3
    rw[hr3]at hr2
    rw[hr1]
    refine Ab (j7 we d1 d2 d3 d4 d5 d6) ?_
    refine Bw (Am [((0,0),(0,0))] [((0,0),(0,0))] hr2) q9 (j2 d5 d6) ?_
    exact Aa (A9 [((0,0),(0,0))] []) Tryz.results386 d1
   ·have d1:decide (((P.length+s:Nat):Int)<((P.length+X.length:Nat):Int))=false:=decide_eq_false (by omega)
    have d2:decide (((P.length+X.length:Nat):Int)<((P.length+X.length+w:Nat):Int))=false:=decide_eq_false (by omega)
    have d3:decide ((P.length:Int)<((P.length+s:Nat):Int))=true:=decide_eq_true (by omega)
    have d4:decide (((P.length+s:Nat):Int)<((P.length+N:Nat):Int))=false:=decide_eq_false (by omega)
    have d5:decide (((P.length+N:Nat):Int)<((P.length+X.length+w:Nat):Int))=false:=decide_eq_false (by omega)
    have d6:decide (((P.length+X.length+w:Nat):Int)<((P.length+X.length+Y.length:Nat):Int))=true:=decide_eq_true (by omega)
    have hfi:=hfin s w hsw hsX hwY k1 k2
    have hr1:=hno1 s w (by omega)
    have hr2:=hno2 s w (by omega)
    have hr3:=hno3 s w (by omega)
    clear hfin hrot hno1 hsym1 hno2 hsym2 hno3 hcases ih k1 k2
    rw[hfi]at hr3
    rw[hr3]at hr2
    rw[hr2]at hr1
    rw[hr1]
    refine Ab (j7 we d1 d2 d3 d4 d5 d6) ?_
    exact Aa (A9 [((0,0),(0,0))] []) Tryz.results386 d1
   ·have d1:decide (((P.length+s:Nat):Int)<((P.length+X.length:Nat):Int))=true:=decide_eq_true (by omega)
    have d2:decide (((P.length+X.length:Nat):Int)<((P.length+X.length+w:Nat):Int))=false:=decide_eq_false (by omega)
    have d3:decide ((P.length:Int)<((P.length+s:Nat):Int))=true:=decide_eq_true (by omega)
    have d4:decide (((P.length+s:Nat):Int)<((P.length+N:Nat):Int))=false:=decide_eq_false (by omega)
    have d5:decide (((P.length+N:Nat):Int)<((P.length+X.length+w:Nat):Int))=true:=decide_eq_true (by omega)
    have d6:decide (((P.length+X.length+w:Nat):Int)<((P.length+X.length+Y.length:Nat):Int))=true:=decide_eq_true (by omega)
    have hfi:=hfin s w hsw hsX hwY k1 k2
    have hr1:=hno1 s w (by omega)
    have hr2:=hno2 s w (by omega)
    have hr3:=hsym2 s w hsw hsX hwY q4 q1
    clear hfin hrot hno1 hsym1 hno2 hsym2 hno3 hcases ih k1 k2
    rw[hfi]at hr3
    rw[hr2]at hr1
    rw[hr1]
    refine Ab (j7 we d1 d2 d3 d4 d5 d6) ?_
    refine Bw (Am [((0,0),(0,0))] [((0,0),(0,0))] hr3) q9 q9 ?_
    exact Aa (A9 [((0,0),(0,0))] []) Tryz.results386 d1
   ·have d1:decide (((P.length+s:Nat):Int)<((P.length+X.length:Nat):Int))=true:=decide_eq_true (by omega)
    have d2:decide (((P.length+X.length:Nat):Int)<((P.length+X.length+w:Nat):Int))=true:=decide_eq_true (by omega)
    have d3:decide ((P.length:Int)<((P.length+s:Nat):Int))=false:=decide_eq_false (by omega)
    have d4:decide (((P.length+s:Nat):Int)<((P.length+N:Nat):Int))=true:=decide_eq_true (by omega)
    have d5:decide (((P.length+N:Nat):Int)<((P.length+X.length+w:Nat):Int))=true:=decide_eq_true (by omega)
    have d6:decide (((P.length+X.length+w:Nat):Int)<((P.length+X.length+Y.length:Nat):Int))=true:=decide_eq_true (by omega)
    have hfi:=hfin s w hsw hsX hwY k1 k2
    have hr1:=hrot s w hsX hwY q2 q1
    have hr2:=hno2 s w (by omega)
    have hr3:=hsym2 s w hsw hsX hwY q4 q1
    clear hfin hrot hno1 hsym1 hno2 hsym2 hno3 hcases ih k1 k2
    rw[hfi]at hr3
    rw[hr2]at hr1
    refine Ab (j7 we d1 d2 d3 d4 d5 d6) ?_
    refine Bw (Am [((0,0),(0,0))] [((0,0),(0,0))] hr1) q9 (j4 d3 d4 d5 d6) ?_
    refine Bw (Am [((0,0),(0,0))] [((0,0),(0,0))] hr3) q9 q9 ?_
    exact Aa (A9 [((0,0),(0,0))] []) Tryz.results386 d1
   ·have d1:decide (((P.length+s:Nat):Int)<((P.length+X.length:Nat):Int))=true:=decide_eq_true (by omega)
    have d2:decide (((P.length+X.length:Nat):Int)<((P.length+X.length+w:Nat):Int))=true:=decide_eq_true (by omega)
    have d3:decide ((P.length:Int)<((P.length+s:Nat):Int))=false:=decide_eq_false (by omega)
    have d4:decide (((P.length+s:Nat):Int)<((P.length+N:Nat):Int))=true:=decide_eq_true (by omega)
    have d5:decide (((P.length+N:Nat):Int)<((P.length+X.length+w:Nat):Int))=true:=decide_eq_true (by omega)
    have d6:decide (((P.length+X.length+w:Nat):Int)<((P.length+X.length+Y.length:Nat):Int))=false:=decide_eq_false (by omega)
    have hfi:=hfin s w hsw hsX hwY k1 k2
    have hr1:=hrot s w hsX hwY q2 q1
    have hr2:=hno2 s w (by omega)
    have hr3:=hno3 s w (by omega)
    clear hfin hrot hno1 hsym1 hno2 hsym2 hno3 hcases ih k1 k2
    rw[hfi]at hr3
    rw[hr3]at hr2
    rw[hr2]at hr1
    refine Ab (j7 we d1 d2 d3 d4 d5 d6) ?_
    refine Bw (Am [((0,0),(0,0))] [((0,0),(0,0))] hr1) q9 (j4 d3 d4 d5 d6) ?_
    exact Aa (A9 [((0,0),(0,0))] []) Tryz.results386 d1
   ·have d1:decide (((P.length+s:Nat):Int)<((P.length+X.length:Nat):Int))=true:=decide_eq_true (by omega)
    have d2:decide (((P.length+X.length:Nat):Int)<((P.length+X.length+w:Nat):Int))=true:=decide_eq_true (by omega)
    have d3:decide ((P.length:Int)<((P.length+s:Nat):Int))=true:=decide_eq_true (by omega)
    have d4:decide (((P.length+s:Nat):Int)<((P.length+N:Nat):Int))=true:=decide_eq_true (by omega)
    have d5:decide (((P.length+N:Nat):Int)<((P.length+X.length+w:Nat):Int))=true:=decide_eq_true (by omega)
    have d6:decide (((P.length+X.length+w:Nat):Int)<((P.length+X.length+Y.length:Nat):Int))=false:=decide_eq_false (by omega)
    have hfi:=hfin s w hsw hsX hwY k1 k2
    have hr1:=hrot s w hsX hwY q2 q1
    have hr2:=hsym1 s w hsw hsX hwY q2 q3
    have hr3:=hno3 s w (by omega)
    clear hfin hrot hno1 hsym1 hno2 hsym2 hno3 hcases ih k1 k2
    rw[hfi]at hr3
    rw[hr3]at hr2
    refine Ab (j7 we d1 d2 d3 d4 d5 d6) ?_
    refine Bw (Am [((0,0),(0,0))] [((0,0),(0,0))] hr1) q9 (j4 d3 d4 d5 d6) ?_
    refine Bw (Am [((0,0),(0,0))] [((0,0),(0,0))] hr2) q9 (j2 d5 d6) ?_
    exact Aa (A9 [((0,0),(0,0))] []) Tryz.results386 d1
end Go.Proofs.YtcejfdfmgmcinaaGreat
