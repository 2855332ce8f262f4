/- Texts of this proof: G64 G65 G66 G29 G88 M31 G79 G89 G90. -/
import Derived.Test.YtcejfdfmgmcinaaGreatKG70
import Derived.Lib.SlicesCompact
set_option linter.all false
set_option maxHeartbeats 8000000
namespace Go.Proofs.YtcejfdfmgmcinaaGreat
open Go.RowKit
set_option maxRecDepth 10000
def EditD.cs (d:EditD):List C:=[.int .i64 d.op,.sl (d.path.map CellD.cs),.sl (d.x.map CellD.cs)]
def EditD.os (d:EditD):List C:=[.int .i64 d.op,.osl (d.path.map CellD.cs),.osl (d.x.map CellD.cs)]
def EditD.av (d:EditD):AV:=.agg [.c (.int .i64 d.op),.c (.sl (d.path.map CellD.cs)),.c (.sl (d.x.map CellD.cs))]
theorem PK (l:List EditD):AQ (l.map EditD.os)=l.map EditD.cs:=by
 induction l with
 |nil=>rfl
 |cons d l ih=>simp only[List.map_cons,AQ,ih,EditD.os,EditD.cs,Cb,C.forget,Dy]
theorem Pp (l:List EditD):Bn (l.map EditD.os)=true:=by
 induction l with
 |nil=>rfl
 |cons d l ih=>simp only[List.map_cons,Bn,ih,Bool.and_true,EditD.os,ED,C.closed,Dx]
theorem VF (l:List EditD):((l.map EditD.os).all fun r=>r.length==3)=true:=by simp[EditD.os]
attribute [go_sem] PK Pp VF EditD.av
set_option maxRecDepth 10000
theorem US (l:List (List CellD)):((l.map GB).all fun r=>r.length==1)=true:=by simp[GB]
attribute [go_sem] US
set_option maxRecDepth 10000
theorem ZF (t:V):AC Tryz.prog 283 [t.av] [] (bif t.kind==5||t.kind==6 then .tup [.c (.sl (t.kids.map V.cs)),.c (.int .i64 0)] else .tup [.nils,.c (.int .i64 6)]) []:=by
 cases h5:t.kind==5 with
 |true =>
  have h5':(t.kind != 5)=false:=by rw[bne,h5];rfl
  refine A7 Tryz.func283 Tryz.ntmps283 h5' ?_
  exact A9 (A8 [] []) Tryz.results283 h5'
 |false =>
  have h5':(t.kind != 5)=true:=by rw[bne,h5];rfl
  cases h6:t.kind==6 with
  |true =>
   have h6':(t.kind != 6)=false:=by rw[bne,h6];rfl
   refine A7 Tryz.func283 Tryz.ntmps283 (j2 h5' h6') ?_
   exact A9 (A8 [] []) Tryz.results283 h5'
  |false =>
   have h6':(t.kind != 6)=true:=by rw[bne,h6];rfl
   refine A7 Tryz.func283 Tryz.ntmps283 (j2 h5' h6') ?_
   exact A9 (A8 [] []) Tryz.results283 h5'
mutual
def V.deep:V→List V
 | .mk kind num text keys kids=>.mk kind num text keys kids::El kids
def El:List V→List V
 | []=>[]
 |k::ks=>k.deep++El ks
end
theorem V2 (t:V):t.deep=t::El t.kids:=by cases t;simp[V.deep,V.kids]
mutual
theorem HJ:∀(t:V),t.deep.length=t.count
 | .mk kind num text keys kids=>by simp only[V.deep,V.count,List.length_cons,Ii kids]
theorem Ii:∀(ks:List V),(El ks).length=Am ks
 | []=>rfl
 |k::ks=>by simp only[El,Am,List.length_append,HJ k,Ii ks]
end
theorem Kq:∀(a b:List V),El (a++b)=El a++El b
 | [],b=>rfl
 |x::a,b=>by simp only[List.cons_append,El,Kq a b,List.append_assoc]
mutual
theorem J9:∀(t:V),t.right→∀s∈t.deep,s.right∧s.count≤t.count∧s.depth≤t.depth
 | .mk kind num text keys kids,h=>fun s hs=>by
  simp only[V.deep,List.mem_cons]at hs
  rcases hs with rfl | hs
  ·exact⟨h,Nat.le_refl _,Nat.le_refl _⟩
  ·have:=KU kids (fun k hk=>Bf h hk) s hs
   exact⟨this.1,by simp only[V.count];omega,by simp only[V.depth];omega⟩
theorem KU:∀(ks:List V),(∀k∈ks,k.right)→∀s∈El ks,s.right∧s.count≤Am ks∧s.depth≤AS ks
 | [],_=>fun s hs=>by simp[El]at hs
 |k::ks,h=>fun s hs=>by
  simp only[El,List.mem_append]at hs
  rcases hs with hs | hs
  ·have:=J9 k (h k (by simp)) s hs
   exact⟨this.1,by simp only[Am];omega,by simp only[AS];omega⟩
  ·have:=KU ks (fun x hx=>h x (by simp[hx])) s hs
   exact⟨this.1,by simp only[Am];omega,by simp only[AS];omega⟩
end
set_option maxRecDepth 10000
theorem NB (l:List CellD) (hl:l.length≤1000000):AC Tryz.prog 110 [.c (.sl (l.map CellD.cs))] [] (.own (0,0)) [((0,0),.row false 5 80 (l.map CellD.cs))]:=by
 have ha:=Gk l
 have hl0:0+l.length≤1000000:=by omega
 refine AK Tryz.func110 Tryz.ntmps110 ?_
 refine Ga q9 ?_
 refine Dk ?_
 refine Ga q9 ?_
 refine Gj ?_
 (repeat ((with_reducible apply OH);(iterate 2 (focus (first | (simp only[go_sem,Nat.reduceEqDiff,Nat.reduceAdd,Nat.reduceSub,Nat.reduceLeDiff,Nat.reduceMul,Nat.reduceBEq,Nat.reduceLT,Int.reduceToNat,reduceCtorEq];first | done | exact rfl | (and_intros<;>rfl)) | exact rfl | decide)))))
 (apply Ve;(focus (first | (simp only[go_sem,Nat.reduceEqDiff,Nat.reduceAdd,Nat.reduceSub,Nat.reduceLeDiff,Nat.reduceMul,Nat.reduceBEq,Nat.reduceLT,Int.reduceToNat,reduceCtorEq];first | done | exact rfl | (and_intros<;>rfl)) | exact rfl | decide));(focus (first | (simp only[go_sem,Nat.reduceEqDiff,Nat.reduceAdd,Nat.reduceSub,Nat.reduceLeDiff,Nat.reduceMul,Nat.reduceBEq,Nat.reduceLT,Int.reduceToNat,reduceCtorEq];first | done | exact rfl | (and_intros<;>rfl)) | exact rfl | decide));(focus (first | (simp only[go_sem,Nat.reduceEqDiff,Nat.reduceAdd,Nat.reduceSub,Nat.reduceLeDiff,Nat.reduceMul,Nat.reduceBEq,Nat.reduceLT,Int.reduceToNat,reduceCtorEq];first | done | exact rfl | (and_intros<;>rfl)) | exact rfl | decide));(focus (first | (simp only[go_sem,Nat.reduceEqDiff,Nat.reduceAdd,Nat.reduceSub,Nat.reduceLeDiff,Nat.reduceMul,Nat.reduceBEq,Nat.reduceLT,Int.reduceToNat,reduceCtorEq];first | done | exact rfl | (and_intros<;>rfl)) | exact rfl | decide));(focus (first | (simp only[go_sem,Nat.reduceEqDiff,Nat.reduceAdd,Nat.reduceSub,Nat.reduceLeDiff,Nat.reduceMul,Nat.reduceBEq,Nat.reduceLT,Int.reduceToNat,reduceCtorEq];first | done | exact rfl | (and_intros<;>rfl)) | exact rfl | decide)))
 ·intro hnil
  have hnil2:l=[]:=List.map_eq_nil_iff.1 hnil
  subst hnil2
  refine Lh ?_
  dsimp only
  refine Ac q9 ?_
  exact A9 (A8 [] []) Tryz.results110 @List.map_nil.{0,0}
 ·refine Lh ?_
  dsimp only
  refine Ac (j3 hl ha hl0) ?_
  exact A9 (A8 [((0,0),(7,0))] []) Tryz.results110 hl
set_option maxRecDepth 10000
theorem ZE:∀(m:Nat) (t:V),t.count≤m→t.count≤500000→AC Tryz.prog 284 [t.av] [] (.own (0,0)) [((0,0),.row false 5 127 (t.deep.map V.cs))]:=by
 intro m
 induction m with
 |zero=>intro t hm _;have:=Cq t;omega
 |succ m ih =>
  intro t hm hM
  have hkc:=AN t
  have hkl:=Bq t.kids
  have hdl:=HJ t
  obtain⟨R,hR⟩:∃R:Nat→List V,∀k,R k=t::El (t.kids.take k):=⟨_,fun _=>rfl⟩
  have h0:(R 0).map V.cs=[t.cs]:=by rw[hR];simp[El]
  rw[V.cs_eq]at h0
  refine A7 Tryz.func284 Tryz.ntmps284 q9 ?_
  refine Ar (κ:=Nat) (fun k=>⟨mkS 0 21 [(1,.ptr (1,0) 0),(3,.own (99,0)),(9,.c (.sl (t.kids.map V.cs))),(10,.c (.int .i64 t.kids.length)),(11,.c (.int .i64 k))],
    [((1,0),.box [.c (.int .i64 t.kind),.c (.int .i64 t.num),.c (.str t.text),.c (.sl (t.keys.map Ad)),.c (.sl (t.kids.map V.cs))]),((99,0),.row false 5 127 ((R k).map V.cs))]⟩)
   (fun k=>k≤t.kids.length) (fun k=>t.kids.length-k) 0 (Nat.zero_le _) ?_ ?_
  ·exact Ab (Ah.of [((1,0),(1,0)),((99,0),(7,0))] []) h0
  ·intro k hk
   by_cases hlt:k<t.kids.length
   ·have hd:decide ((k:Int)<(t.kids.length:Int))=true:=by simpa using hlt
    have hr:Aa (t.kids.map V.cs) 5 k=true:=by simp[Aa,hlt,V.cs_eq]
    have hg:(t.kids.map V.cs)[k]? = some t.kids[k].cs:=by simp[hlt]
    have hmem:=Ct (List.getElem_mem hlt)
    have hRk:R (k+1)=R k++t.kids[k].deep:=by rw[hR,hR,List.take_succ_eq_append_getElem hlt,Kq];simp[El]
    have hRl:(R k).length+t.kids[k].deep.length≤t.count:=by
     have h1:=E6 t.kids (k+1)
     rw[List.take_succ_eq_append_getElem hlt,HI]at h1
     rw[hR,List.length_cons,Ii,HJ]
     omega
    have hol:(R k).length+t.kids[k].deep.length≤1000000:=by omega
    have hrow:(R k).map V.cs++t.kids[k].deep.map V.cs=(R (k+1)).map V.cs:=by rw[hRk,List.map_append]
    have hw:=Af (k:=k) (by omega)
    generalize t.kids[k]=u at *
    have hi:=ih u (by omega) (by omega)
    refine Ac (j3 hd hr hg) ?_
    refine v12 (AU [] hi) q9 (j2 hol hw) ?_
    refine⟨k+1,by omega,by omega,?_⟩
    exact Ab (Ah.of [((1,0),(1,0)),((99,0),(18,0))] []) hrow
   ·have hd:decide ((k:Int)<(t.kids.length:Int))=false:=by simpa using hlt
    have hke:R k=t.deep:=by rw[hR,List.take_of_length_le (by omega),V2]
    refine Ac hd ?_
    exact A9 (A8 [((0,0),(99,0))] []) Tryz.results284 hke
def JQ (t:V):Int×Option V:=CM (B4 t.deep)
theorem Mf {t:V}(ht:t.right):(B4 t.deep).fit∧(B4 t.deep).count≤40001:=by
 have hc:=ht.2.1
 have hl:=HJ t
 refine⟨LI fun s hs=>Cx (J9 t ht s hs).1,?_⟩
 have h:=VW (l:=t.deep) (m:=200) fun s hs=>(J9 t ht s hs).1.2.1
 simp only[B4,V.count]
 have:200*t.deep.length≤200*200:=Nat.mul_le_mul_left _ (by omega)
 omega
theorem Me {t:V}(ht:t.right):CH (JQ t):=EG (Mf ht).1
theorem VX {t:V}(ht:t.right):AC Tryz.prog 213 [t.av] [] (FM (JQ t)) []:=by
 have h1:=ZE t.count t (Nat.le_refl _) (by have:=ht.2.1;omega)
 have h2:=Gm t.deep
 obtain⟨f1,f2⟩:=Mf ht
 have h3:=Gx f1 (by omega)
 unfold JQ
 generalize B4 t.deep=d at *
 rcases B7 (EG f1) with⟨v,h,hv⟩ | ⟨c,hc,h⟩
 ·rw[h,Cf]at h3 ⊢
  refine A7 Tryz.func213 Tryz.ntmps213 q9 ?_
  refine v12 (AU [] h1) q9 q9 ?_
  refine v9 (A4 [(4,0)] h2) q9 q9 ?_
  refine v9 (A4 [] h3) q9 q9 ?_
  exact A9 (A8 [] []) Tryz.results213 f2
 ·rw[h,Ce]at h3 ⊢
  refine A7 Tryz.func213 Tryz.ntmps213 q9 ?_
  refine v12 (AU [] h1) q9 q9 ?_
  refine v9 (A4 [(4,0)] h2) q9 q9 ?_
  refine v9 (A4 [] h3) q9 q9 ?_
  exact A9 (A8 [] []) Tryz.results213 f2
set_option maxRecDepth 10000
theorem Ys:∀(m:Nat) (t:V),t.count≤m→t.right→AC Tryz.prog 351 [AB t.enc] [] (.own (0,0)) [((0,0),.row true 1 50 ((t.deep.map V.enc).map GB))]:=by
 intro m
 induction m with
 |zero=>intro t hm _;have:=Cq t;omega
 |succ m ih =>
  intro t hm ht
  have _a1:=US
  have _a2:=LZ
  have _a3:=Mv
  have hM:=ht.2.1
  have hkc:=AN t
  have hkl:=Bq t.kids
  have hdl:=HJ t
  have hel:=CA t
  have hps:=CE ht.1 ht.2.1
  have hkr:=fun k hk=>Bf ht (k:=k) hk
  obtain⟨R,hR⟩:∃R:Nat→List V,∀k,R k=t::El (t.kids.take k):=⟨_,fun _=>rfl⟩
  have h0:((R 0).map V.enc).map GB=[[.osl (t.enc.map CellD.cs)]]:=by rw[hR];simp[El,GB]
  have hz1:0+t.enc.length≤1000000:=by omega
  have hRlen:∀k,(R k).length≤t.count:=fun k=>by
   rw[hR,List.length_cons,Ii]
   have:=E6 t.kids k
   omega
  have hRdeep:∀(h:t.kids.length≤t.kids.length),R t.kids.length=t.deep:=fun _=>by rw[hR,List.take_length,V2]
  have hRs:∀(k:Nat) (h:k<t.kids.length),R (k+1)=R k++t.kids[k].deep:=fun k h=>by rw[hR,hR,List.take_succ_eq_append_getElem h,Kq];simp[El]
  have hmemc:∀(k:Nat) (h:k<t.kids.length),t.kids[k].count≤m:=fun k h=>by have:=Ct (List.getElem_mem h);omega
  have hlp:((t.kids.map V.enc).map Ag).length=t.kids.length:=by simp
  have hRend:=hRdeep (Nat.le_refl _)
  rw[←hRend]
  clear _a1 _a2 _a3
  generalize t.enc=te,t.kids=l at *
  refine A7 Tryz.func351 Tryz.ntmps351 (j2 hz1 @List.nil_append.{0}) ?_
  refine v9 (A4 [] hps) q9 q9 ?_
  refine Ar (κ:=Nat) (fun k=>⟨mkS 0 26 [(3,.own (99,0)),(4,.c (.sl ((l.map V.enc).map Ag))),(5,.c (.int .i64 k))],[((99,0),.row true 1 50 (((R k).map V.enc).map GB))]⟩)
   (fun k=>k≤l.length) (fun k=>l.length-k) 0 (Nat.zero_le _) ?_ ?_
  ·exact Ab (Ah.of [((99,0),(9,0))] []) h0
  ·intro k hk
   by_cases hlt:k<l.length
   ·have hd:decide ((k:Int)<(l.length:Int))=true:=by simpa using hlt
    have hw:=Af (k:=k) (by omega)
    obtain⟨hr0,hg0⟩:=Xc hlt
    have hi:=ih l[k] (hmemc k hlt) (hkr _ (List.getElem_mem hlt))
    have hs:=hRs k hlt
    have h1:=hRlen (k+1)
    rw[hs,List.length_append]at h1
    have hol:(R k).length+l[k].deep.length≤1000000:=by omega
    have hrow:((R k).map V.enc).map GB++(l[k].deep.map V.enc).map GB=((R (k+1)).map V.enc).map GB:=by rw[hs,List.map_append,List.map_append]
    generalize l[k]=u at *
    refine Ac (j4 hd hlp hr0 hg0) ?_
    refine v12 (AU [] hi) q9 (j2 hol hw) ?_
    refine⟨k+1,by omega,by omega,?_⟩
    exact Ab (Ah.of [((99,0),(24,0))] []) hrow
   ·have hd:decide ((k:Int)<(l.length:Int))=false:=by simpa using hlt
    have hke:k=l.length:=by omega
    rw[hke]
    rw[hke]at hd
    refine Ac (j2 hd hlp) ?_
    exact A9 (A8 [((0,0),(99,0))] []) Tryz.results351 hd
theorem Wx {t:V}(ht:t.right):AC Tryz.prog 300 [AB t.enc] [] (vrA (JQ t)) []:=by
 have h1:=Ys t.count t (Nat.le_refl _) ht
 have h2:=MF t.deep (by have:=(Mf ht).2;omega)
 have h3:=DV (B4 t.deep)
 have hok:=Me ht
 unfold JQ at *
 generalize CM (B4 t.deep)=r,(B4 t.deep).enc=de,t.enc=te at *
 rcases B7 hok with⟨v,rfl,_⟩ | ⟨c,_,rfl⟩
 ·rw[Bp]at h3 ⊢
  refine A7 Tryz.func300 Tryz.ntmps300 q9 ?_
  refine v12 (AU [] h1) q9 q9 ?_
  refine v12 (AU [(4,0)] h2) q9 q9 ?_
  refine v9 (A4 [(5,0)] h3) q9 q9 ?_
  exact A9 (A8 [] []) Tryz.results300 hok
 ·rw[Bj]at h3 ⊢
  refine A7 Tryz.func300 Tryz.ntmps300 q9 ?_
  refine v12 (AU [] h1) q9 q9 ?_
  refine v12 (AU [(4,0)] h2) q9 q9 ?_
  refine v9 (A4 [(5,0)] h3) q9 q9 ?_
  exact A9 (A8 [] []) Tryz.results300 hok
end Go.Proofs.YtcejfdfmgmcinaaGreat
