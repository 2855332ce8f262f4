/- Texts of this proof: G64 G65 G66 G15 G29 M31 G79 G89 G90 M32. -/
import Derived.Lib.SlicesCompact
import Derived.Test.YtcejfdfmgmcinaaGreatKG69
import Derived.Test.YtcejfdfmgmcinaaGreatKG70
set_option linter.all false
set_option maxHeartbeats 8000000
namespace Go.Proofs.YtcejfdfmgmcinaaGreat
open Go.RowKit
set_option maxRecDepth 10000
def EditD.cs (d:EditD):List C:=[.int .i64 d.op,.sl (d.path.map CellD.cs),.sl (d.x.map CellD.cs)]
def EditD.os (d:EditD):List C:=[.int .i64 d.op,.osl (d.path.map CellD.cs),.osl (d.x.map CellD.cs)]
def EditD.av (d:EditD):AV:=.agg [.c (.int .i64 d.op),.c (.sl (d.path.map CellD.cs)),.c (.sl (d.x.map CellD.cs))]
theorem QX (l:List EditD):AU (l.map EditD.os)=l.map EditD.cs:=by
 induction l with
 |nil=>rfl
 |cons d l ih=>simp only[List.map_cons,AU,ih,EditD.os,EditD.cs,Cv,C.forget,Ea]
theorem Qx (l:List EditD):BD (l.map EditD.os)=true:=by
 induction l with
 |nil=>rfl
 |cons d l ih=>simp only[List.map_cons,BD,ih,Bool.and_true,EditD.os,Fl,C.closed,E7]
theorem X6 (l:List EditD):((l.map EditD.os).all fun r=>r.length==3)=true:=by simp[EditD.os]
attribute [go_sem] QX Qx X6 EditD.av
set_option maxRecDepth 10000
def Gz {α:Type}(d:α→Bool) (l:List α):Int:=match l.findIdx? d with
 |some i=>i
 |none=>-1
set_option maxRecDepth 10000
theorem Wg (l:List (List CellD)):((l.map H8).all fun r=>r.length==1)=true:=by simp[H8]
attribute [go_sem] Wg
mutual
def V.deep:V→List V
 | .mk kind num text keys kids=>.mk kind num text keys kids::F4 kids
def F4:List V→List V
 | []=>[]
 |k::ks=>k.deep++F4 ks
end
theorem Wr (t:V):t.deep=t::F4 t.kids:=by cases t;simp[V.deep,V.kids]
mutual
theorem IC:∀(t:V),t.deep.length=t.count
 | .mk kind num text keys kids=>by simp only[V.deep,V.count,List.length_cons,J8 kids]
theorem J8:∀(ks:List V),(F4 ks).length=Aw ks
 | []=>rfl
 |k::ks=>by simp only[F4,Aw,List.length_append,IC k,J8 ks]
end
theorem Lz:∀(a b:List V),F4 (a++b)=F4 a++F4 b
 | [],b=>rfl
 |x::a,b=>by simp only[List.cons_append,F4,Lz a b,List.append_assoc]
mutual
theorem K0:∀(t:V),t.right→∀s∈t.deep,s.right∧s.count≤t.count∧s.depth≤t.depth
 | .mk kind num text keys kids,h=>fun s hs=>by
  simp only[V.deep,List.mem_cons]at hs
  rcases hs with rfl | hs
  ·exact⟨h,Nat.le_refl _,Nat.le_refl _⟩
  ·have:=M6 kids (fun k hk=>Bd h hk) s hs
   exact⟨this.1,by simp only[V.count];omega,by simp only[V.depth];omega⟩
theorem M6:∀(ks:List V),(∀k∈ks,k.right)→∀s∈F4 ks,s.right∧s.count≤Aw ks∧s.depth≤AX ks
 | [],_=>fun s hs=>by simp[F4]at hs
 |k::ks,h=>fun s hs=>by
  simp only[F4,List.mem_append]at hs
  rcases hs with hs | hs
  ·have:=K0 k (h k (by simp)) s hs
   exact⟨this.1,by simp only[Aw];omega,by simp only[AX];omega⟩
  ·have:=M6 ks (fun x hx=>h x (by simp[hx])) s hs
   exact⟨this.1,by simp only[Aw];omega,by simp only[AX];omega⟩
end
set_option maxRecDepth 10000
theorem Ju (l:List CellD) (hl:l.length≤1000000):AC Tryz.prog 110 [.c (.sl (l.map CellD.cs))] [] (.own (0,0)) [((0,0),.row false 5 80 (l.map CellD.cs))]:=by
 have ha:=GT l
 have hl0:0+l.length≤1000000:=by omega
 refine A7 Tryz.func110 Tryz.ntmps110 ?_
 refine FI q9 ?_
 refine D8 ?_
 refine FI q9 ?_
 refine FQ ?_
 (repeat ((with_reducible apply O1);(iterate 2 (focus (first | (simp only[go_sem,Nat.reduceEqDiff,Nat.reduceAdd,Nat.reduceSub,Nat.reduceLeDiff,Nat.reduceMul,Nat.reduceBEq,Nat.reduceLT,Int.reduceToNat,reduceCtorEq];first | done | exact rfl | (and_intros<;>rfl)) | exact rfl | decide)))))
 (apply Rk;(focus (first | (simp only[go_sem,Nat.reduceEqDiff,Nat.reduceAdd,Nat.reduceSub,Nat.reduceLeDiff,Nat.reduceMul,Nat.reduceBEq,Nat.reduceLT,Int.reduceToNat,reduceCtorEq];first | done | exact rfl | (and_intros<;>rfl)) | exact rfl | decide));(focus (first | (simp only[go_sem,Nat.reduceEqDiff,Nat.reduceAdd,Nat.reduceSub,Nat.reduceLeDiff,Nat.reduceMul,Nat.reduceBEq,Nat.reduceLT,Int.reduceToNat,reduceCtorEq];first | done | exact rfl | (and_intros<;>rfl)) | exact rfl | decide));(focus (first | (simp only[go_sem,Nat.reduceEqDiff,Nat.reduceAdd,Nat.reduceSub,Nat.reduceLeDiff,Nat.reduceMul,Nat.reduceBEq,Nat.reduceLT,Int.reduceToNat,reduceCtorEq];first | done | exact rfl | (and_intros<;>rfl)) | exact rfl | decide));(focus (first | (simp only[go_sem,Nat.reduceEqDiff,Nat.reduceAdd,Nat.reduceSub,Nat.reduceLeDiff,Nat.reduceMul,Nat.reduceBEq,Nat.reduceLT,Int.reduceToNat,reduceCtorEq];first | done | exact rfl | (and_intros<;>rfl)) | exact rfl | decide));(focus (first | (simp only[go_sem,Nat.reduceEqDiff,Nat.reduceAdd,Nat.reduceSub,Nat.reduceLeDiff,Nat.reduceMul,Nat.reduceBEq,Nat.reduceLT,Int.reduceToNat,reduceCtorEq];first | done | exact rfl | (and_intros<;>rfl)) | exact rfl | decide)))
 ·intro hnil
  have hnil2:l=[]:=List.map_eq_nil_iff.1 hnil
  subst hnil2
  refine JH ?_
  dsimp only
  refine A3 q9 ?_
  exact Ab (Aa [] []) Tryz.results110 @List.map_nil.{0,0}
 ·refine JH ?_
  dsimp only
  refine A3 (j3 hl ha hl0) ?_
  exact Ab (Aa [((0,0),(7,0))] []) Tryz.results110 hl
set_option maxRecDepth 10000
def KI (t:V):Int×Option V:=Cw (AZ t.deep)
theorem Nj {t:V}(ht:t.right):(AZ t.deep).fit∧(AZ t.deep).count≤40001:=by
 have hc:=ht.2.1
 have hl:=IC t
 refine⟨J3 fun s hs=>Cu (K0 t ht s hs).1,?_⟩
 have h:=Xk (l:=t.deep) (m:=200) fun s hs=>(K0 t ht s hs).1.2.1
 simp only[AZ,V.count]
 have:200*t.deep.length≤200*200:=Nat.mul_le_mul_left _ (by omega)
 omega
theorem Ni {t:V}(ht:t.right):CH (KI t):=Et (Nj ht).1
set_option maxRecDepth 10000
theorem ZU:∀(m:Nat) (t:V),t.count≤m→t.right→AC Tryz.prog 351 [AH t.enc] [] (.own (0,0)) [((0,0),.row true 1 50 ((t.deep.map V.enc).map H8))]:=by
 intro m
 induction m with
 |zero=>intro t hm _;have:=CQ t;omega
 |succ m ih =>
  intro t hm ht
  have _a1:=Wg
  have _a2:=N5
  have _a3:=NC
  have hM:=ht.2.1
  have hkc:=AP t
  have hkl:=Br t.kids
  have hdl:=IC t
  have hel:=Db t
  have hps:=Dg ht.1 ht.2.1
  have hkr:=fun k hk=>Bd ht (k:=k) hk
  obtain⟨R,hR⟩:∃R:Nat→List V,∀k,R k=t::F4 (t.kids.take k):=⟨_,fun _=>rfl⟩
  have h0:((R 0).map V.enc).map H8=[[.osl (t.enc.map CellD.cs)]]:=by rw[hR];simp[F4,H8]
  have hz1:0+t.enc.length≤1000000:=by omega
  have hRlen:∀k,(R k).length≤t.count:=fun k=>by
   rw[hR,List.length_cons,J8]
   have:=EO t.kids k
   omega
  have hRdeep:∀(h:t.kids.length≤t.kids.length),R t.kids.length=t.deep:=fun _=>by rw[hR,List.take_length,Wr]
  have hRs:∀(k:Nat) (h:k<t.kids.length),R (k+1)=R k++t.kids[k].deep:=fun k h=>by rw[hR,hR,List.take_succ_eq_append_getElem h,Lz];simp[F4]
  have hmemc:∀(k:Nat) (h:k<t.kids.length),t.kids[k].count≤m:=fun k h=>by have:=CV (List.getElem_mem h);omega
  have hlp:((t.kids.map V.enc).map Al).length=t.kids.length:=by simp
  have hRend:=hRdeep (Nat.le_refl _)
  rw[←hRend]
  clear _a1 _a2 _a3
  generalize t.enc=te at *
  generalize t.kids=l at *
  refine A7 Tryz.func351 Tryz.ntmps351 ?_
  refine A3 (j2 hz1 @List.nil_append.{0}) ?_
  refine w9 (A5 [] hps) q9 ?_
  refine A3 q9 ?_
  refine Ay (κ:=Nat) (fun k=>⟨mkS 0 26 [(3,.own (99,0)),(4,.c (.sl ((l.map V.enc).map Al))),(5,.c (.int .i64 k))],[((99,0),.row true 1 50 (((R k).map V.enc).map H8))]⟩)
   (fun k=>k≤l.length) (fun k=>l.length-k) 0 (Nat.zero_le _) ?_ ?_
  ·exact Af (Am.of [((99,0),(9,0))] []) h0
  ·intro k hk
   by_cases hlt:k<l.length
   ·have hd:decide ((k:Int)<(l.length:Int))=true:=by simpa using hlt
    have hw:=Ah (k:=k) (by omega)
    obtain⟨hr0,hg0⟩:=Yy hlt
    have hi:=ih l[k] (hmemc k hlt) (hkr _ (List.getElem_mem hlt))
    have hs:=hRs k hlt
    have h1:=hRlen (k+1)
    rw[hs,List.length_append]at h1
    have hol:(R k).length+l[k].deep.length≤1000000:=by omega
    have hrow:((R k).map V.enc).map H8++(l[k].deep.map V.enc).map H8=((R (k+1)).map V.enc).map H8:=by rw[hs,List.map_append,List.map_append]
    generalize l[k]=u at *
    refine A3 (j4 hd hlp hr0 hg0) ?_
    refine w12 (AS [] hi) q9 ?_
    refine A3 (j2 hol hw) ?_
    refine⟨k+1,by omega,by omega,?_⟩
    exact Af (Am.of [((99,0),(24,0))] []) hrow
   ·have hd:decide ((k:Int)<(l.length:Int))=false:=by simpa using hlt
    have hke:k=l.length:=by omega
    rw[hke]
    rw[hke]at hd
    refine A3 (j2 hd hlp) ?_
    exact Ab (Aa [((0,0),(99,0))] []) Tryz.results351 hd
theorem XW {t:V}(ht:t.right):AC Tryz.prog 300 [AH t.enc] [] (vrA (KI t)) []:=by
 have h1:=ZU t.count t (Nat.le_refl _) ht
 have h2:=NM t.deep (by have:=(Nj ht).2;omega)
 have h3:=EB (AZ t.deep)
 have hok:=Ni ht
 unfold KI at *
 generalize Cw (AZ t.deep)=r at *
 generalize (AZ t.deep).enc=de at *
 generalize t.enc=te at *
 rcases Be hok with⟨v,rfl,_⟩ | ⟨c,_,rfl⟩
 ·rw[BG]at h3 ⊢
  refine A7 Tryz.func300 Tryz.ntmps300 ?_
  refine A3 q9 ?_
  refine w12 (AS [] h1) q9 ?_
  refine A3 q9 ?_
  refine w12 (AS [(4,0)] h2) q9 ?_
  refine A3 q9 ?_
  refine w9 (A5 [(5,0)] h3) q9 ?_
  refine A3 q9 ?_
  exact Ab (Aa [] []) Tryz.results300 hok
 ·rw[Bv]at h3 ⊢
  refine A7 Tryz.func300 Tryz.ntmps300 ?_
  refine A3 q9 ?_
  refine w12 (AS [] h1) q9 ?_
  refine A3 q9 ?_
  refine w12 (AS [(4,0)] h2) q9 ?_
  refine A3 q9 ?_
  refine w9 (A5 [(5,0)] h3) q9 ?_
  refine A3 q9 ?_
  exact Ab (Aa [] []) Tryz.results300 hok
def TR (p q r:Int):Prop:=(p≤0→q≤0→r≤0)∧(p<0→q≤0→r<0)∧(p≤0→q<0→r<0)
theorem TR.or {p q r p' q' r':Int}(h:TR p q r) (h':TR p' q' r'):TR (orI p p') (orI q q') (orI r r'):=by
 unfold TR orI at *
 split<;>split<;>split<;>omega
theorem trI (a b c:Int):TR (Cj a b) (Cj b c) (Cj a c):=by
 unfold TR Cj
 split<;>split<;>split<;>omega
theorem Pr (a b:Int):Cj b a = -Cj a b:=by
 unfold Cj
 split<;>split<;>omega
theorem H6 {p p' q q':Int}(h:q = -p) (h':q' = -p'):orI q q' = -orI p p':=by
 unfold orI
 split<;>split<;>omega
theorem Vb {a b:ByteArray}(h:B1 a b=true):B1 b a=false:=by
 cases hb:B1 b a with
 |false=>rfl
 |true =>
  have:=CA h hb
  rw[BA]at this
  cases this
theorem Pp (a b:ByteArray):D9 b a = -D9 a b:=by
 unfold D9
 cases h1:B1 a b with
 |true =>
  have h2:=Vb h1
  have hne:¬b.toList=a.toList:=fun e=>by
   unfold B1 at h1
   rw[e,BA]at h1
   cases h1
  simp[h2,hne]
 |false =>
  cases h2:B1 b a with
  |true =>
   have hne:¬a.toList=b.toList:=fun e=>by
    unfold B1 at h2
    rw[e,BA]at h2
    cases h2
   simp[hne]
  |false =>
   have he:a.toList=b.toList:=by
    unfold B1 at h1 h2
    rcases DK a.toList b.toList with h | h | h
    ·rw[h]at h1;cases h1
    ·exact h
    ·rw[h]at h2;cases h2
   simp[he]
theorem trB (a b c:ByteArray):TR (D9 a b) (D9 b c) (D9 a c):=by
 have key:∀x y:ByteArray,D9 x y≤0↔(x=y∨B1 x y=true):=fun x y=>by
  unfold D9
  cases h:B1 x y with
  |true=>simp
  |false =>
   simp only[Bool.false_eq_true,if_false,or_false]
   by_cases he:x.toList=y.toList
   ·have:=AM he
    simp[this]
   ·have:x≠y:=fun e=>he (by rw[e])
    simp[he,this]
 have key2:∀x y:ByteArray,D9 x y<0↔B1 x y=true:=fun x y=>by
  unfold D9
  cases h:B1 x y with
  |true=>simp
  |false =>
   simp only[Bool.false_eq_true,if_false,iff_false]
   split<;>omega
 have tr:∀x y z:ByteArray,B1 x y=true→B1 y z=true→B1 x z=true:=fun x y z h1 h2=>CA h1 h2
 refine⟨fun h1 h2=>?_,fun h1 h2=>?_,fun h1 h2=>?_⟩
 ·rw[key]at h1 h2 ⊢
  rcases h1 with rfl | h1
  ·exact h2
  ·rcases h2 with rfl | h2
   ·exact .inr h1
   ·exact .inr (tr _ _ _ h1 h2)
 ·rw[key2]at h1 ⊢
  rw[key]at h2
  rcases h2 with rfl | h2
  ·exact h1
  ·exact tr _ _ _ h1 h2
 ·rw[key2]at h2 ⊢
  rw[key]at h1
  rcases h1 with rfl | h1
  ·exact h2
  ·exact tr _ _ _ h1 h2
theorem KA:∀(a b:List ByteArray),AI b a = -AI a b
 | [],[]=>rfl
 | [],_::_=>rfl
 |_::_,[]=>rfl
 |x::a,y::b=>by
  simp only[AI]
  exact H6 (Pp x y) (KA a b)
theorem a0i:∀(a b c:List ByteArray),TR (AI a b) (AI b c) (AI a c)
 | [],[],[]=>by unfold TR AI;omega
 | [],[],_::_=>by unfold TR AI;omega
 | [],_::_,[]=>by unfold TR AI;omega
 |_::_,[],[]=>by unfold TR AI;omega
 |_::_,[],_::_=>by unfold TR;simp only[AI];omega
 | [],_::_,_::_=>by unfold TR;simp only[AI];omega
 |_::_,_::_,[]=>by unfold TR;simp only[AI];omega
 |x::a,y::b,z::c=>by
  simp only[AI]
  exact (trB x y z).or (a0i a b c)
theorem KC (a b:V):a.cmp b=orI (Cj a.kind b.kind) (orI (Cj a.num b.num) (orI (D9 a.text b.text) (orI (AI a.keys b.keys) (BT a.kids b.kids)))):=by
 rw[G6]
 split
 ·rename_i h
  rw[h,GW,H7]
 ·rename_i h
  rw[Kj fun e=>h (J6.1 e)]
mutual
theorem Iw:∀(a b:V),b.cmp a = -a.cmp b
 | .mk k n t ks vs,.mk k' n' t' ks' vs'=>by
  rw[KC,KC]
  exact H6 (Pr _ _) (H6 (Pr _ _) (H6 (Pp _ _) (H6 (KA _ _) (N7 vs vs'))))
theorem N7:∀(a b:List V),BT b a = -BT a b
 | [],[]=>rfl
 | [],_::_=>rfl
 |_::_,[]=>rfl
 |x::a,y::b=>by
  simp only[BT]
  exact H6 (Iw x y) (N7 a b)
end
mutual
theorem trV:∀(a b c:V),TR (a.cmp b) (b.cmp c) (a.cmp c)
 | .mk k n t ks vs,.mk k' n' t' ks' vs',.mk k2 n2 t2 ks2 vs2=>by
  rw[KC,KC,KC]
  exact (trI _ _ _).or ((trI _ _ _).or ((trB _ _ _).or ((a0i _ _ _).or (a45 vs vs' vs2))))
theorem a45:∀(a b c:List V),TR (BT a b) (BT b c) (BT a c)
 | [],[],[]=>by unfold TR BT;omega
 | [],[],_::_=>by unfold TR BT;omega
 | [],_::_,[]=>by unfold TR BT;omega
 |_::_,[],[]=>by unfold TR BT;omega
 |_::_,[],_::_=>by unfold TR;simp only[BT];omega
 | [],_::_,_::_=>by unfold TR;simp only[BT];omega
 |_::_,_::_,[]=>by unfold TR;simp only[BT];omega
 |x::a,y::b,z::c=>by
  simp only[BT]
  exact (trV x y z).or (a45 a b c)
end
def leV (a b:V):Prop:=a.cmp b≤0
theorem EC {a b c:V}(h1:leV a b) (h2:leV b c):leV a c:=(trV a b c).1 h1 h2
theorem XZ (a b:V):leV a b∨leV b a:=by
 unfold leV
 rw[Iw a b]
 omega
theorem ZV {a b:V}(h1:leV a b) (h2:leV b a):a=b:=by
 unfold leV at *
 rw[Iw a b]at h2
 exact Ix.1 (by omega)
theorem ZW (a:V):leV a a:=by unfold leV;rw[Ix.2 rfl];omega
def AK (l:List V):Prop:=List.Pairwise leV l
theorem W2 {a b:List V}(ha:AK a) (hb:AK b) (h:a.Perm b):a=b:=h.eq_of_pairwise (fun _ _ _ _=>ZV) ha hb
def a3t (a b:V):Bool:=decide (a.cmp b≤0)
def AG (l:List V):List V:=l.mergeSort a3t
theorem E4 (l:List V):(AG l).Perm l:=List.mergeSort_perm l _
theorem Cn (l:List V):AK (AG l):=by
 have h:=List.pairwise_mergeSort (le:=a3t) (fun a b c h1 h2=>decide_eq_true (show a.cmp c≤0 from EC (show a.cmp b≤0 from of_decide_eq_true h1) (show b.cmp c≤0 from of_decide_eq_true h2))) (fun a b=>by
  unfold a3t
  rcases XZ a b with h | h
  ·have:decide (a.cmp b≤0)=true:=decide_eq_true h
   simp[this]
  ·have:decide (b.cmp a≤0)=true:=decide_eq_true h
   simp[this]) l
 exact h.imp fun h=>of_decide_eq_true h
theorem Ha {a l:List V}(ha:AK a) (h:a.Perm l):AG l=a:=W2 (Cn l) ha ((E4 l).trans h.symm)
theorem Fh (l:List V):(AG l).length=l.length:=(E4 l).length_eq
theorem Ov {a b:List V}(ha:AK a) (hb:AK b) (h:∀x∈a,∀y∈b,leV x y):AK (a++b):=List.pairwise_append.2 ⟨ha,hb,h⟩
end Go.Proofs.YtcejfdfmgmcinaaGreat
