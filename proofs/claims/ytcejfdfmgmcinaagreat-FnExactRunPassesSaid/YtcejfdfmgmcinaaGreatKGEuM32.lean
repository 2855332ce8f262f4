/- Texts of this proof: G64 G65 G66 G15 G29 G88 M31 G79 G89 G90 M32. -/
import Derived.Test.YtcejfdfmgmcinaaGreatKG69
import Derived.Test.YtcejfdfmgmcinaaGreatKG70
import Derived.Lib.SlicesCompact
set_option linter.all false
set_option maxHeartbeats 8000000
namespace Go.Proofs.YtcejfdfmgmcinaaGreat
open Go.RowKit
set_option maxRecDepth 10000
def EditD.cs (d:EditD):List C:=[.int .i64 d.op,.sl (d.path.map CellD.cs),.sl (d.x.map CellD.cs)]
def EditD.os (d:EditD):List C:=[.int .i64 d.op,.osl (d.path.map CellD.cs),.osl (d.x.map CellD.cs)]
def EditD.av (d:EditD):AV:=.agg [.c (.int .i64 d.op),.c (.sl (d.path.map CellD.cs)),.c (.sl (d.x.map CellD.cs))]
theorem Rb (l:List EditD):AT (l.map EditD.os)=l.map EditD.cs:=by
 induction l with
 |nil=>rfl
 |cons d l ih=>simp only[List.map_cons,AT,ih,EditD.os,EditD.cs,Cn,C.forget,E4]
theorem QD (l:List EditD):Bm (l.map EditD.os)=true:=by
 induction l with
 |nil=>rfl
 |cons d l ih=>simp only[List.map_cons,Bm,ih,Bool.and_true,EditD.os,Ff,C.closed,E2]
theorem Xj (l:List EditD):((l.map EditD.os).all fun r=>r.length==3)=true:=by simp[EditD.os]
attribute [go_sem] Rb QD Xj EditD.av
set_option maxRecDepth 10000
def DM {α:Type}(d:α→Bool) (l:List α):Int:=match l.findIdx? d with
 |some i=>i
 |none=>-1
set_option maxRecDepth 10000
theorem Wt (l:List (List CellD)):((l.map Hg).all fun r=>r.length==1)=true:=by simp[Hg]
attribute [go_sem] Wt
set_option maxRecDepth 10000
theorem a13 (t:V):AC Tryz.prog 283 [t.av] [] (bif t.kind==5||t.kind==6 then .tup [.c (.sl (t.kids.map V.cs)),.c (.int .i64 0)] else .tup [.nils,.c (.int .i64 6)]) []:=by
 cases h5:t.kind==5 with
 |true =>
  have h5':(t.kind != 5)=false:=by rw[bne,h5];rfl
  refine A6 Tryz.func283 Tryz.ntmps283 h5' ?_
  exact Aa (A9 [] []) Tryz.results283 h5'
 |false =>
  have h5':(t.kind != 5)=true:=by rw[bne,h5];rfl
  cases h6:t.kind==6 with
  |true =>
   have h6':(t.kind != 6)=false:=by rw[bne,h6];rfl
   refine A6 Tryz.func283 Tryz.ntmps283 (j2 h5' h6') ?_
   exact Aa (A9 [] []) Tryz.results283 h5'
  |false =>
   have h6':(t.kind != 6)=true:=by rw[bne,h6];rfl
   refine A6 Tryz.func283 Tryz.ntmps283 (j2 h5' h6') ?_
   exact Aa (A9 [] []) Tryz.results283 h5'
mutual
def V.deep:V→List V
 | .mk kind num text keys kids=>.mk kind num text keys kids::EY kids
def EY:List V→List V
 | []=>[]
 |k::ks=>k.deep++EY ks
end
theorem WF (t:V):t.deep=t::EY t.kids:=by cases t;simp[V.deep,V.kids]
mutual
theorem IJ:∀(t:V),t.deep.length=t.count
 | .mk kind num text keys kids=>by simp only[V.deep,V.count,List.length_cons,Jc kids]
theorem Jc:∀(ks:List V),(EY ks).length=Aw ks
 | []=>rfl
 |k::ks=>by simp only[EY,Aw,List.length_append,IJ k,Jc ks]
end
theorem LE:∀(a b:List V),EY (a++b)=EY a++EY b
 | [],b=>rfl
 |x::a,b=>by simp only[List.cons_append,EY,LE a b,List.append_assoc]
mutual
theorem K6:∀(t:V),t.right→∀s∈t.deep,s.right∧s.count≤t.count∧s.depth≤t.depth
 | .mk kind num text keys kids,h=>fun s hs=>by
  simp only[V.deep,List.mem_cons]at hs
  rcases hs with rfl | hs
  ·exact⟨h,Nat.le_refl _,Nat.le_refl _⟩
  ·have:=Md kids (fun k hk=>Bb h hk) s hs
   exact⟨this.1,by simp only[V.count];omega,by simp only[V.depth];omega⟩
theorem Md:∀(ks:List V),(∀k∈ks,k.right)→∀s∈EY ks,s.right∧s.count≤Aw ks∧s.depth≤AW ks
 | [],_=>fun s hs=>by simp[EY]at hs
 |k::ks,h=>fun s hs=>by
  simp only[EY,List.mem_append]at hs
  rcases hs with hs | hs
  ·have:=K6 k (h k (by simp)) s hs
   exact⟨this.1,by simp only[Aw];omega,by simp only[AW];omega⟩
  ·have:=Md ks (fun x hx=>h x (by simp[hx])) s hs
   exact⟨this.1,by simp only[Aw];omega,by simp only[AW];omega⟩
end
set_option maxRecDepth 10000
theorem ON (l:List CellD) (hl:l.length≤1000000):AC Tryz.prog 110 [.c (.sl (l.map CellD.cs))] [] (.own (0,0)) [((0,0),.row false 5 80 (l.map CellD.cs))]:=by
 have ha:=GX l
 have hl0:0+l.length≤1000000:=by omega
 refine AA Tryz.func110 Tryz.ntmps110 ?_
 refine FF q9 ?_
 refine CV ?_
 refine FF q9 ?_
 refine FR ?_
 (repeat ((with_reducible apply O7);(iterate 2 (focus (first | (simp only[go_sem,Nat.reduceEqDiff,Nat.reduceAdd,Nat.reduceSub,Nat.reduceLeDiff,Nat.reduceMul,Nat.reduceBEq,Nat.reduceLT,Int.reduceToNat,reduceCtorEq];first | done | exact rfl | (and_intros<;>rfl)) | exact rfl | decide)))))
 (apply Rs;(focus (first | (simp only[go_sem,Nat.reduceEqDiff,Nat.reduceAdd,Nat.reduceSub,Nat.reduceLeDiff,Nat.reduceMul,Nat.reduceBEq,Nat.reduceLT,Int.reduceToNat,reduceCtorEq];first | done | exact rfl | (and_intros<;>rfl)) | exact rfl | decide));(focus (first | (simp only[go_sem,Nat.reduceEqDiff,Nat.reduceAdd,Nat.reduceSub,Nat.reduceLeDiff,Nat.reduceMul,Nat.reduceBEq,Nat.reduceLT,Int.reduceToNat,reduceCtorEq];first | done | exact rfl | (and_intros<;>rfl)) | exact rfl | decide));(focus (first | (simp only[go_sem,Nat.reduceEqDiff,Nat.reduceAdd,Nat.reduceSub,Nat.reduceLeDiff,Nat.reduceMul,Nat.reduceBEq,Nat.reduceLT,Int.reduceToNat,reduceCtorEq];first | done | exact rfl | (and_intros<;>rfl)) | exact rfl | decide));(focus (first | (simp only[go_sem,Nat.reduceEqDiff,Nat.reduceAdd,Nat.reduceSub,Nat.reduceLeDiff,Nat.reduceMul,Nat.reduceBEq,Nat.reduceLT,Int.reduceToNat,reduceCtorEq];first | done | exact rfl | (and_intros<;>rfl)) | exact rfl | decide));(focus (first | (simp only[go_sem,Nat.reduceEqDiff,Nat.reduceAdd,Nat.reduceSub,Nat.reduceLeDiff,Nat.reduceMul,Nat.reduceBEq,Nat.reduceLT,Int.reduceToNat,reduceCtorEq];first | done | exact rfl | (and_intros<;>rfl)) | exact rfl | decide)))
 ·intro hnil
  have hnil2:l=[]:=List.map_eq_nil_iff.1 hnil
  subst hnil2
  refine JO ?_
  dsimp only
  refine Ab q9 ?_
  exact Aa (A9 [] []) Tryz.results110 @List.map_nil.{0,0}
 ·refine JO ?_
  dsimp only
  refine Ab (j3 hl ha hl0) ?_
  exact Aa (A9 [((0,0),(7,0))] []) Tryz.results110 hl
set_option maxRecDepth 10000
theorem a12:∀(m:Nat) (t:V),t.count≤m→t.count≤500000→AC Tryz.prog 284 [t.av] [] (.own (0,0)) [((0,0),.row false 5 127 (t.deep.map V.cs))]:=by
 intro m
 induction m with
 |zero=>intro t hm _;have:=CI t;omega
 |succ m ih =>
  intro t hm hM
  have hkc:=AP t
  have hkl:=Bq t.kids
  have hdl:=IJ t
  obtain⟨R,hR⟩:∃R:Nat→List V,∀k,R k=t::EY (t.kids.take k):=⟨_,fun _=>rfl⟩
  have h0:(R 0).map V.cs=[t.cs]:=by rw[hR];simp[EY]
  rw[V.cs_eq]at h0
  refine A6 Tryz.func284 Tryz.ntmps284 q9 ?_
  refine Ar (κ:=Nat) (fun k=>⟨mkS 0 21 [(1,.ptr (1,0) 0),(3,.own (99,0)),(9,.c (.sl (t.kids.map V.cs))),(10,.c (.int .i64 t.kids.length)),(11,.c (.int .i64 k))],
    [((1,0),.box [.c (.int .i64 t.kind),.c (.int .i64 t.num),.c (.str t.text),.c (.sl (t.keys.map Ae)),.c (.sl (t.kids.map V.cs))]),((99,0),.row false 5 127 ((R k).map V.cs))]⟩)
   (fun k=>k≤t.kids.length) (fun k=>t.kids.length-k) 0 (Nat.zero_le _) ?_ ?_
  ·exact Ac (Aj.of [((1,0),(1,0)),((99,0),(7,0))] []) h0
  ·intro k hk
   by_cases hlt:k<t.kids.length
   ·have hd:decide ((k:Int)<(t.kids.length:Int))=true:=by simpa using hlt
    have hr:A8 (t.kids.map V.cs) 5 k=true:=by simp[A8,hlt,V.cs_eq]
    have hg:(t.kids.map V.cs)[k]? = some t.kids[k].cs:=by simp[hlt]
    have hmem:=CL (List.getElem_mem hlt)
    have hRk:R (k+1)=R k++t.kids[k].deep:=by rw[hR,hR,List.take_succ_eq_append_getElem hlt,LE];simp[EY]
    have hRl:(R k).length+t.kids[k].deep.length≤t.count:=by
     have h1:=EL t.kids (k+1)
     rw[List.take_succ_eq_append_getElem hlt,II]at h1
     rw[hR,List.length_cons,Jc,IJ]
     omega
    have hol:(R k).length+t.kids[k].deep.length≤1000000:=by omega
    have hrow:(R k).map V.cs++t.kids[k].deep.map V.cs=(R (k+1)).map V.cs:=by rw[hRk,List.map_append]
    have hw:=Ad (k:=k) (by omega)
    generalize t.kids[k]=u at *
    have hi:=ih u (by omega) (by omega)
    refine Ab (j3 hd hr hg) ?_
    refine v12 (AU [] hi) q9 (j2 hol hw) ?_
    refine⟨k+1,by omega,by omega,?_⟩
    exact Ac (Aj.of [((1,0),(1,0)),((99,0),(18,0))] []) hrow
   ·have hd:decide ((k:Int)<(t.kids.length:Int))=false:=by simpa using hlt
    have hke:R k=t.deep:=by rw[hR,List.take_of_length_le (by omega),WF]
    refine Ab hd ?_
    exact Aa (A9 [((0,0),(99,0))] []) Tryz.results284 hke
def KQ (t:V):Int×Option V:=Co (AY t.deep)
theorem Nq {t:V}(ht:t.right):(AY t.deep).fit∧(AY t.deep).count≤40001:=by
 have hc:=ht.2.1
 have hl:=IJ t
 refine⟨J7 fun s hs=>Cd (K6 t ht s hs).1,?_⟩
 have h:=Xy (l:=t.deep) (m:=200) fun s hs=>(K6 t ht s hs).1.2.1
 simp only[AY,V.count]
 have:200*t.deep.length≤200*200:=Nat.mul_le_mul_left _ (by omega)
 omega
theorem Np {t:V}(ht:t.right):CH (KQ t):=El (Nq ht).1
theorem XA {t:V}(ht:t.right):AC Tryz.prog 213 [t.av] [] (EF (KQ t)) []:=by
 have h1:=a12 t.count t (Nat.le_refl _) (by have:=ht.2.1;omega)
 have h2:=EH t.deep
 obtain⟨f1,f2⟩:=Nq ht
 have h3:=Ev f1 (by omega)
 unfold KQ
 generalize AY t.deep=d at *
 rcases Bc (El f1) with⟨v,h,hv⟩ | ⟨c,hc,h⟩
 ·rw[h,Bh]at h3 ⊢
  refine A6 Tryz.func213 Tryz.ntmps213 q9 ?_
  refine v12 (AU [] h1) q9 q9 ?_
  refine v9 (A4 [(4,0)] h2) q9 q9 ?_
  refine v9 (A4 [] h3) q9 q9 ?_
  exact Aa (A9 [] []) Tryz.results213 f2
 ·rw[h,Bg]at h3 ⊢
  refine A6 Tryz.func213 Tryz.ntmps213 q9 ?_
  refine v12 (AU [] h1) q9 q9 ?_
  refine v9 (A4 [(4,0)] h2) q9 q9 ?_
  refine v9 (A4 [] h3) q9 q9 ?_
  exact Aa (A9 [] []) Tryz.results213 f2
set_option maxRecDepth 10000
theorem r8:∀(m:Nat) (t:V),t.count≤m→t.right→AC Tryz.prog 351 [AF t.enc] [] (.own (0,0)) [((0,0),.row true 1 50 ((t.deep.map V.enc).map Hg))]:=by
 intro m
 induction m with
 |zero=>intro t hm _;have:=CI t;omega
 |succ m ih =>
  intro t hm ht
  have _a1:=Wt
  have _a2:=Nb
  have _a3:=NI
  have hM:=ht.2.1
  have hkc:=AP t
  have hkl:=Bq t.kids
  have hdl:=IJ t
  have hel:=CY t
  have hps:=D6 ht.1 ht.2.1
  have hkr:=fun k hk=>Bb ht (k:=k) hk
  obtain⟨R,hR⟩:∃R:Nat→List V,∀k,R k=t::EY (t.kids.take k):=⟨_,fun _=>rfl⟩
  have h0:((R 0).map V.enc).map Hg=[[.osl (t.enc.map CellD.cs)]]:=by rw[hR];simp[EY,Hg]
  have hz1:0+t.enc.length≤1000000:=by omega
  have hRlen:∀k,(R k).length≤t.count:=fun k=>by
   rw[hR,List.length_cons,Jc]
   have:=EL t.kids k
   omega
  have hRdeep:∀(h:t.kids.length≤t.kids.length),R t.kids.length=t.deep:=fun _=>by rw[hR,List.take_length,WF]
  have hRs:∀(k:Nat) (h:k<t.kids.length),R (k+1)=R k++t.kids[k].deep:=fun k h=>by rw[hR,hR,List.take_succ_eq_append_getElem h,LE];simp[EY]
  have hmemc:∀(k:Nat) (h:k<t.kids.length),t.kids[k].count≤m:=fun k h=>by have:=CL (List.getElem_mem h);omega
  have hlp:((t.kids.map V.enc).map Al).length=t.kids.length:=by simp
  have hRend:=hRdeep (Nat.le_refl _)
  rw[←hRend]
  clear _a1 _a2 _a3
  generalize t.enc=te,t.kids=l at *
  refine A6 Tryz.func351 Tryz.ntmps351 (j2 hz1 @List.nil_append.{0}) ?_
  refine v9 (A4 [] hps) q9 q9 ?_
  refine Ar (κ:=Nat) (fun k=>⟨mkS 0 26 [(3,.own (99,0)),(4,.c (.sl ((l.map V.enc).map Al))),(5,.c (.int .i64 k))],[((99,0),.row true 1 50 (((R k).map V.enc).map Hg))]⟩)
   (fun k=>k≤l.length) (fun k=>l.length-k) 0 (Nat.zero_le _) ?_ ?_
  ·exact Ac (Aj.of [((99,0),(9,0))] []) h0
  ·intro k hk
   by_cases hlt:k<l.length
   ·have hd:decide ((k:Int)<(l.length:Int))=true:=by simpa using hlt
    have hw:=Ad (k:=k) (by omega)
    obtain⟨hr0,hg0⟩:=YU hlt
    have hi:=ih l[k] (hmemc k hlt) (hkr _ (List.getElem_mem hlt))
    have hs:=hRs k hlt
    have h1:=hRlen (k+1)
    rw[hs,List.length_append]at h1
    have hol:(R k).length+l[k].deep.length≤1000000:=by omega
    have hrow:((R k).map V.enc).map Hg++(l[k].deep.map V.enc).map Hg=((R (k+1)).map V.enc).map Hg:=by rw[hs,List.map_append,List.map_append]
    generalize l[k]=u at *
    refine Ab (j4 hd hlp hr0 hg0) ?_
    refine v12 (AU [] hi) q9 (j2 hol hw) ?_
    refine⟨k+1,by omega,by omega,?_⟩
    exact Ac (Aj.of [((99,0),(24,0))] []) hrow
   ·have hd:decide ((k:Int)<(l.length:Int))=false:=by simpa using hlt
    have hke:k=l.length:=by omega
    rw[hke]
    rw[hke]at hd
    refine Ab (j2 hd hlp) ?_
    exact Aa (A9 [((0,0),(99,0))] []) Tryz.results351 hd
theorem Yh {t:V}(ht:t.right):AC Tryz.prog 300 [AF t.enc] [] (vrA (KQ t)) []:=by
 have h1:=r8 t.count t (Nat.le_refl _) ht
 have h2:=NU t.deep (by have:=(Nq ht).2;omega)
 have h3:=Ew (AY t.deep)
 have hok:=Np ht
 unfold KQ at *
 generalize Co (AY t.deep)=r,(AY t.deep).enc=de,t.enc=te at *
 rcases Bc hok with⟨v,rfl,_⟩ | ⟨c,_,rfl⟩
 ·rw[BF]at h3 ⊢
  refine A6 Tryz.func300 Tryz.ntmps300 q9 ?_
  refine v12 (AU [] h1) q9 q9 ?_
  refine v12 (AU [(4,0)] h2) q9 q9 ?_
  refine v9 (A4 [(5,0)] h3) q9 q9 ?_
  exact Aa (A9 [] []) Tryz.results300 hok
 ·rw[Bu]at h3 ⊢
  refine A6 Tryz.func300 Tryz.ntmps300 q9 ?_
  refine v12 (AU [] h1) q9 q9 ?_
  refine v12 (AU [(4,0)] h2) q9 q9 ?_
  refine v9 (A4 [(5,0)] h3) q9 q9 ?_
  exact Aa (A9 [] []) Tryz.results300 hok
def TR (p q r:Int):Prop:=(p≤0→q≤0→r≤0)∧(p<0→q≤0→r<0)∧(p≤0→q<0→r<0)
theorem TR.or {p q r p' q' r':Int}(h:TR p q r) (h':TR p' q' r'):TR (orI p p') (orI q q') (orI r r'):=by
 unfold TR orI at *
 split<;>split<;>split<;>omega
theorem trI (a b c:Int):TR (Cc a b) (Cc b c) (Cc a c):=by
 unfold TR Cc
 split<;>split<;>split<;>omega
theorem Pw (a b:Int):Cc b a = -Cc a b:=by
 unfold Cc
 split<;>split<;>omega
theorem He {p p' q q':Int}(h:q = -p) (h':q' = -p'):orI q q' = -orI p p':=by
 unfold orI
 split<;>split<;>omega
theorem Vm {a b:ByteArray}(h:AZ a b=true):AZ b a=false:=by
 cases hb:AZ b a with
 |false=>rfl
 |true =>
  have:=Ct h hb
  rw[Bz]at this
  cases this
theorem Pv (a b:ByteArray):CW b a = -CW a b:=by
 unfold CW
 cases h1:AZ a b with
 |true =>
  have h2:=Vm h1
  have hne:¬b.toList=a.toList:=fun e=>by
   unfold AZ at h1
   rw[e,Bz]at h1
   cases h1
  simp[h2,hne]
 |false =>
  cases h2:AZ b a with
  |true =>
   have hne:¬a.toList=b.toList:=fun e=>by
    unfold AZ at h2
    rw[e,Bz]at h2
    cases h2
   simp[hne]
  |false =>
   have he:a.toList=b.toList:=by
    unfold AZ at h1 h2
    rcases DF a.toList b.toList with h | h | h
    ·rw[h]at h1;cases h1
    ·exact h
    ·rw[h]at h2;cases h2
   simp[he]
theorem trB (a b c:ByteArray):TR (CW a b) (CW b c) (CW a c):=by
 have key:∀x y:ByteArray,CW x y≤0↔(x=y∨AZ x y=true):=fun x y=>by
  unfold CW
  cases h:AZ x y with
  |true=>simp
  |false =>
   simp only[Bool.false_eq_true,if_false,or_false]
   by_cases he:x.toList=y.toList
   ·have:=AM he
    simp[this]
   ·have:x≠y:=fun e=>he (by rw[e])
    simp[he,this]
 have key2:∀x y:ByteArray,CW x y<0↔AZ x y=true:=fun x y=>by
  unfold CW
  cases h:AZ x y with
  |true=>simp
  |false =>
   simp only[Bool.false_eq_true,if_false,iff_false]
   split<;>omega
 have tr:∀x y z:ByteArray,AZ x y=true→AZ y z=true→AZ x z=true:=fun x y z h1 h2=>Ct h1 h2
 refine⟨fun h1 h2=>?_,fun h1 h2=>?_,fun h1 h2=>?_⟩
 ·rw[key]at h1 h2 ⊢
  rcases h1 with rfl | h1
  ·exact h2
  ·rcases h2 with rfl | h2
   ·exact .inr h1
   ·exact .inr (tr _ _ _ h1 h2)
 ·rw[key2]at h1 ⊢
  rw[key]at h2
  rcases h2 with rfl | h2
  ·exact h1
  ·exact tr _ _ _ h1 h2
 ·rw[key2]at h2 ⊢
  rw[key]at h1
  rcases h1 with rfl | h1
  ·exact h2
  ·exact tr _ _ _ h1 h2
theorem KG:∀(a b:List ByteArray),AI b a = -AI a b
 | [],[]=>rfl
 | [],_::_=>rfl
 |_::_,[]=>rfl
 |x::a,y::b=>by
  simp only[AI]
  exact He (Pv x y) (KG a b)
theorem a1k:∀(a b c:List ByteArray),TR (AI a b) (AI b c) (AI a c)
 | [],[],[]=>by unfold TR AI;omega
 | [],[],_::_=>by unfold TR AI;omega
 | [],_::_,[]=>by unfold TR AI;omega
 |_::_,[],[]=>by unfold TR AI;omega
 |_::_,[],_::_=>by unfold TR;simp only[AI];omega
 | [],_::_,_::_=>by unfold TR;simp only[AI];omega
 |_::_,_::_,[]=>by unfold TR;simp only[AI];omega
 |x::a,y::b,z::c=>by
  simp only[AI]
  exact (trB x y z).or (a1k a b c)
theorem KH (a b:V):a.cmp b=orI (Cc a.kind b.kind) (orI (Cc a.num b.num) (orI (CW a.text b.text) (orI (AI a.keys b.keys) (BQ a.kids b.kids)))):=by
 rw[G7]
 split
 ·rename_i h
  rw[h,H1,Hf]
 ·rename_i h
  rw[Ko fun e=>h (Ja.1 e)]
mutual
theorem IB:∀(a b:V),b.cmp a = -a.cmp b
 | .mk k n t ks vs,.mk k' n' t' ks' vs'=>by
  rw[KH,KH]
  exact He (Pw _ _) (He (Pw _ _) (He (Pv _ _) (He (KG _ _) (Nd vs vs'))))
theorem Nd:∀(a b:List V),BQ b a = -BQ a b
 | [],[]=>rfl
 | [],_::_=>rfl
 |_::_,[]=>rfl
 |x::a,y::b=>by
  simp only[BQ]
  exact He (IB x y) (Nd a b)
end
mutual
theorem trV:∀(a b c:V),TR (a.cmp b) (b.cmp c) (a.cmp c)
 | .mk k n t ks vs,.mk k' n' t' ks' vs',.mk k2 n2 t2 ks2 vs2=>by
  rw[KH,KH,KH]
  exact (trI _ _ _).or ((trI _ _ _).or ((trB _ _ _).or ((a1k _ _ _).or (a5s vs vs' vs2))))
theorem a5s:∀(a b c:List V),TR (BQ a b) (BQ b c) (BQ a c)
 | [],[],[]=>by unfold TR BQ;omega
 | [],[],_::_=>by unfold TR BQ;omega
 | [],_::_,[]=>by unfold TR BQ;omega
 |_::_,[],[]=>by unfold TR BQ;omega
 |_::_,[],_::_=>by unfold TR;simp only[BQ];omega
 | [],_::_,_::_=>by unfold TR;simp only[BQ];omega
 |_::_,_::_,[]=>by unfold TR;simp only[BQ];omega
 |x::a,y::b,z::c=>by
  simp only[BQ]
  exact (trV x y z).or (a5s a b c)
end
def leV (a b:V):Prop:=a.cmp b≤0
theorem Ex {a b c:V}(h1:leV a b) (h2:leV b c):leV a c:=(trV a b c).1 h1 h2
theorem Yk (a b:V):leV a b∨leV b a:=by
 unfold leV
 rw[IB a b]
 omega
theorem s9 {a b:V}(h1:leV a b) (h2:leV b a):a=b:=by
 unfold leV at *
 rw[IB a b]at h2
 exact IC.1 (by omega)
theorem t7 (a:V):leV a a:=by unfold leV;rw[IC.2 rfl];omega
theorem IU {a b:V}:¬(a.cmp b<0)↔leV b a:=by
 unfold leV
 rw[IB a b]
 omega
theorem Lc {a b:V}(h:a.cmp b<0):leV a b:=by unfold leV;omega
def AK (l:List V):Prop:=List.Pairwise leV l
theorem Wg {a b:List V}(ha:AK a) (hb:AK b) (h:a.Perm b):a=b:=h.eq_of_pairwise (fun _ _ _ _=>s9) ha hb
def a4m (a b:V):Bool:=decide (a.cmp b≤0)
def AD (l:List V):List V:=l.mergeSort a4m
theorem DZ (l:List V):(AD l).Perm l:=List.mergeSort_perm l _
theorem Ch (l:List V):AK (AD l):=by
 have h:=List.pairwise_mergeSort (le:=a4m) (fun a b c h1 h2=>decide_eq_true (show a.cmp c≤0 from Ex (show a.cmp b≤0 from of_decide_eq_true h1) (show b.cmp c≤0 from of_decide_eq_true h2))) (fun a b=>by
  unfold a4m
  rcases Yk a b with h | h
  ·have:decide (a.cmp b≤0)=true:=decide_eq_true h
   simp[this]
  ·have:decide (b.cmp a≤0)=true:=decide_eq_true h
   simp[this]) l
 exact h.imp fun h=>of_decide_eq_true h
theorem Hl {a l:List V}(ha:AK a) (h:a.Perm l):AD l=a:=Wg (Ch l) ha ((DZ l).trans h.symm)
theorem Gw {l:List V}(h:AK l):AD l=l:=Hl h (List.Perm.refl _)
theorem Fc (l:List V):(AD l).length=l.length:=(DZ l).length_eq
theorem OB {a b:List V}(ha:AK a) (hb:AK b) (h:∀x∈a,∀y∈b,leV x y):AK (a++b):=List.pairwise_append.2 ⟨ha,hb,h⟩
end Go.Proofs.YtcejfdfmgmcinaaGreat
