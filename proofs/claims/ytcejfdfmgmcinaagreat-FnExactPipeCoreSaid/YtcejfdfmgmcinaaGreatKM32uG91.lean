/- Texts of this proof: M32 G91. -/
import Derived.Test.YtcejfdfmgmcinaaGreatKG80uG87
set_option linter.all false
set_option maxHeartbeats 8000000
namespace Go.Proofs.YtcejfdfmgmcinaaGreat
open Go.RowKit
def TR (p q r:Int):Prop:=(p≤0→q≤0→r≤0)∧(p<0→q≤0→r<0)∧(p≤0→q<0→r<0)
theorem TR.or {p q r p' q' r':Int}(h:TR p q r) (h':TR p' q' r'):TR (orI p p') (orI q q') (orI r r'):=by
 unfold TR orI at *
 split<;>split<;>split<;>omega
theorem trI (a b c:Int):TR (C0 a b) (C0 b c) (C0 a c):=by
 unfold TR C0
 split<;>split<;>split<;>omega
theorem Oc (a b:Int):C0 b a = -C0 a b:=by
 unfold C0
 split<;>split<;>omega
theorem Gz {p p' q q':Int}(h:q = -p) (h':q' = -p'):orI q q' = -orI p p':=by
 unfold orI
 split<;>split<;>omega
theorem TM {a b:ByteArray}(h:Bh a b=true):Bh b a=false:=by
 cases hb:Bh b a with
 |false=>rfl
 |true =>
  have:=Cg h hb
  rw[BC]at this
  cases this
theorem Ob (a b:ByteArray):Cy b a = -Cy a b:=by
 unfold Cy
 cases h1:Bh a b with
 |true =>
  have h2:=TM h1
  have hne:¬b.toList=a.toList:=fun e=>by
   unfold Bh at h1
   rw[e,BC]at h1
   cases h1
  simp[h2,hne]
 |false =>
  cases h2:Bh b a with
  |true =>
   have hne:¬a.toList=b.toList:=fun e=>by
    unfold Bh at h2
    rw[e,BC]at h2
    cases h2
   simp[hne]
  |false =>
   have he:a.toList=b.toList:=by
    unfold Bh at h1 h2
    rcases Dc a.toList b.toList with h | h | h
    ·rw[h]at h1;cases h1
    ·exact h
    ·rw[h]at h2;cases h2
   simp[he]
theorem trB (a b c:ByteArray):TR (Cy a b) (Cy b c) (Cy a c):=by
 have key:∀x y:ByteArray,Cy x y≤0↔(x=y∨Bh x y=true):=fun x y=>by
  unfold Cy
  cases h:Bh x y with
  |true=>simp
  |false =>
   simp only[Bool.false_eq_true,if_false,or_false]
   by_cases he:x.toList=y.toList
   ·have:=AL he
    simp[this]
   ·have:x≠y:=fun e=>he (by rw[e])
    simp[he,this]
 have key2:∀x y:ByteArray,Cy x y<0↔Bh x y=true:=fun x y=>by
  unfold Cy
  cases h:Bh x y with
  |true=>simp
  |false =>
   simp only[Bool.false_eq_true,if_false,iff_false]
   split<;>omega
 have tr:∀x y z:ByteArray,Bh x y=true→Bh y z=true→Bh x z=true:=fun x y z h1 h2=>Cg h1 h2
 refine⟨fun h1 h2=>?_,fun h1 h2=>?_,fun h1 h2=>?_⟩
 ·rw[key]at h1 h2 ⊢
  rcases h1 with rfl | h1
  ·exact h2
  ·rcases h2 with rfl | h2
   ·exact .inr h1
   ·exact .inr (tr _ _ _ h1 h2)
 ·rw[key2]at h1 ⊢
  rw[key]at h2
  rcases h2 with rfl | h2
  ·exact h1
  ·exact tr _ _ _ h1 h2
 ·rw[key2]at h2 ⊢
  rw[key]at h1
  rcases h1 with rfl | h1
  ·exact h2
  ·exact tr _ _ _ h1 h2
theorem JI:∀(a b:List ByteArray),AF b a = -AF a b
 | [],[]=>rfl
 | [],_::_=>rfl
 |_::_,[]=>rfl
 |x::a,y::b=>by
  simp only[AF]
  exact Gz (Ob x y) (JI a b)
theorem Zn:∀(a b c:List ByteArray),TR (AF a b) (AF b c) (AF a c)
 | [],[],[]=>by unfold TR AF;omega
 | [],[],_::_=>by unfold TR AF;omega
 | [],_::_,[]=>by unfold TR AF;omega
 |_::_,[],[]=>by unfold TR AF;omega
 |_::_,[],_::_=>by unfold TR;simp only[AF];omega
 | [],_::_,_::_=>by unfold TR;simp only[AF];omega
 |_::_,_::_,[]=>by unfold TR;simp only[AF];omega
 |x::a,y::b,z::c=>by
  simp only[AF]
  exact (trB x y z).or (Zn a b c)
theorem JJ (a b:V):a.cmp b=orI (C0 a.kind b.kind) (orI (C0 a.num b.num) (orI (Cy a.text b.text) (orI (AF a.keys b.keys) (BD a.kids b.kids)))):=by
 rw[Fu]
 split
 ·rename_i h
  rw[h,Gq,GA]
 ·rename_i h
  rw[Js fun e=>h (Ig.1 e)]
mutual
theorem Hv:∀(a b:V),b.cmp a = -a.cmp b
 | .mk k n t ks vs,.mk k' n' t' ks' vs'=>by
  rw[JJ,JJ]
  exact Gz (Oc _ _) (Gz (Oc _ _) (Gz (Ob _ _) (Gz (JI _ _) (M2 vs vs'))))
theorem M2:∀(a b:List V),BD b a = -BD a b
 | [],[]=>rfl
 | [],_::_=>rfl
 |_::_,[]=>rfl
 |x::a,y::b=>by
  simp only[BD]
  exact Gz (Hv x y) (M2 a b)
end
mutual
theorem trV:∀(a b c:V),TR (a.cmp b) (b.cmp c) (a.cmp c)
 | .mk k n t ks vs,.mk k' n' t' ks' vs',.mk k2 n2 t2 ks2 vs2=>by
  rw[JJ,JJ,JJ]
  exact (trI _ _ _).or ((trI _ _ _).or ((trB _ _ _).or ((Zn _ _ _).or (a1x vs vs' vs2))))
theorem a1x:∀(a b c:List V),TR (BD a b) (BD b c) (BD a c)
 | [],[],[]=>by unfold TR BD;omega
 | [],[],_::_=>by unfold TR BD;omega
 | [],_::_,[]=>by unfold TR BD;omega
 |_::_,[],[]=>by unfold TR BD;omega
 |_::_,[],_::_=>by unfold TR;simp only[BD];omega
 | [],_::_,_::_=>by unfold TR;simp only[BD];omega
 |_::_,_::_,[]=>by unfold TR;simp only[BD];omega
 |x::a,y::b,z::c=>by
  simp only[BD]
  exact (trV x y z).or (a1x a b c)
end
def leV (a b:V):Prop:=a.cmp b≤0
theorem DW {a b c:V}(h1:leV a b) (h2:leV b c):leV a c:=(trV a b c).1 h1 h2
theorem WA (a b:V):leV a b∨leV b a:=by
 unfold leV
 rw[Hv a b]
 omega
theorem Yu {a b:V}(h1:leV a b) (h2:leV b a):a=b:=by
 unfold leV at *
 rw[Hv a b]at h2
 exact Hx.1 (by omega)
theorem Yv (a:V):leV a a:=by unfold leV;rw[Hx.2 rfl];omega
theorem I0 {a b:V}:¬(a.cmp b<0)↔leV b a:=by
 unfold leV
 rw[Hv a b]
 omega
theorem K8 {a b:V}(h:a.cmp b<0):leV a b:=by unfold leV;omega
def AI (l:List V):Prop:=List.Pairwise leV l
theorem UF {a b:List V}(ha:AI a) (hb:AI b) (h:a.Perm b):a=b:=h.eq_of_pairwise (fun _ _ _ _=>Yu) ha hb
def a0u (a b:V):Bool:=decide (a.cmp b≤0)
def Az (l:List V):List V:=l.mergeSort a0u
theorem Du (l:List V):(Az l).Perm l:=List.mergeSort_perm l _
theorem C3 (l:List V):AI (Az l):=by
 have h:=List.pairwise_mergeSort (le:=a0u) (fun a b c h1 h2=>decide_eq_true (show a.cmp c≤0 from DW (show a.cmp b≤0 from of_decide_eq_true h1) (show b.cmp c≤0 from of_decide_eq_true h2))) (fun a b=>by
  unfold a0u
  rcases WA a b with h | h
  ·have:decide (a.cmp b≤0)=true:=decide_eq_true h
   simp[this]
  ·have:decide (b.cmp a≤0)=true:=decide_eq_true h
   simp[this]) l
 exact h.imp fun h=>of_decide_eq_true h
theorem GE {a l:List V}(ha:AI a) (h:a.Perm l):Az l=a:=UF (C3 l) ha ((Du l).trans h.symm)
theorem FS {l:List V}(h:AI l):Az l=l:=GE h (List.Perm.refl _)
theorem Ez (l:List V):(Az l).length=l.length:=(Du l).length_eq
theorem Nn {a b:List V}(ha:AI a) (hb:AI b) (h:∀x∈a,∀y∈b,leV x y):AI (a++b):=List.pairwise_append.2 ⟨ha,hb,h⟩
set_option maxRecDepth 10000
abbrev Ki (L:List V):AO:=.row false 5 127 (L.map V.cs)
abbrev DL (L:List V):Mem:=[((0,0),Ki L)]
theorem l9 (U:List V) (x:V) (W:List V):Aa ((U++x::W).map V.cs) 5 ((U.length:Nat):Int)=true∧((U++x::W).map V.cs)[U.length]? = some [.int .i64 x.kind,.int .i64 x.num,.str x.text,.sl (x.keys.map Ad),.sl (x.kids.map V.cs)] ∧
  ∀y:V,((U++x::W).map V.cs).set U.length [.int .i64 y.kind,.int .i64 y.num,.str y.text,.sl (y.keys.map Ad),.sl (y.kids.map V.cs)]=(U++y::W).map V.cs:=by
 have hg:((U++x::W).map V.cs)[U.length]? = some x.cs:=by rw[List.getElem?_map,List.getElem?_append_right (Nat.le_refl _),Nat.sub_self];rfl
 refine⟨?_,by rw[hg,V.cs_eq],fun y=>?_⟩
 ·unfold Aa
  rw[show ((U.length:Nat):Int).toNat=U.length from rfl,hg,V.cs_eq]
  rfl
 ·rw[←V.cs_eq,List.map_append,List.map_cons,List.set_append_right _ _ (by simp),List.length_map,Nat.sub_self,List.set_cons_zero,List.map_append,List.map_cons]
theorem BI (U:List V) (x:V) (W:List V) {n:Nat}(hn:U.length=n) {L:List V}(hL:L=U++x::W):Aa (L.map V.cs) 5 ((n:Nat):Int)=true∧(L.map V.cs)[n]? = some [.int .i64 x.kind,.int .i64 x.num,.str x.text,.sl (x.keys.map Ad),.sl (x.kids.map V.cs)] ∧
  ∀y:V,(L.map V.cs).set n [.int .i64 y.kind,.int .i64 y.num,.str y.text,.sl (y.keys.map Ad),.sl (y.kids.map V.cs)]=(U++y::W).map V.cs:=by
 subst hn
 rw[hL]
 exact l9 U x W
def EA (P A M B S:List V) (k:Nat):List V:=P++(B.take k++A.drop k)++M++(A.take k++B.drop k)++S
theorem Hf (f:FuncId) (P A M B S:List V) (hAB:A.length=B.length) (hn:(P++A++M++B++S).length≤100000) :
  AC Tryz.prog 408 [.own (0,0),.c (.int .i64 (P.length:Int)),.c (.int .i64 ((P.length+A.length+M.length:Nat):Int)),.c (.int .i64 (A.length:Int)),.clo f []] (DL (P++A++M++B++S)) (.tup []) (DL (P++B++M++A++S)):=by
 simp only[List.length_append]at hn
 have hz:(P++A++M++B++S)=EA P A M B S 0:=by simp[EA]
 rw[hz]
 refine A7 Tryz.func408 Tryz.ntmps408 q9 ?_
 refine Ar (κ:=Nat) (fun k=>⟨mkS 0 38 [(0,.own (0,0)),(1,.c (.int .i64 (P.length:Int))),(2,.c (.int .i64 ((P.length+A.length+M.length:Nat):Int))),(3,.c (.int .i64 (A.length:Int))),(10,.c (.int .i64 k))],[((0,0),Ki (EA P A M B S k))]⟩)
  (fun k=>k≤A.length) (fun k=>A.length-k) 0 (Nat.zero_le _) ?_ ?_
 ·exact Ab (Ah.of [((0,0),(0,0))] []) hAB
 ·intro k hk
  by_cases hlt:k<A.length
  ·have hd:decide ((k:Int)<(A.length:Int))=true:=by simpa using hlt
   have hltB:k<B.length:=by omega
   have hw:=Af (k:=k) (by omega)
   have w1:IntKind.i64.wrap ((P.length:Int)+(k:Int))=((P.length+k:Nat):Int):=Ba (by omega) (by omega)
   have w2:IntKind.i64.wrap (((P.length+A.length+M.length:Nat):Int)+(k:Int))=((P.length+A.length+M.length+k:Nat):Int):=Ba (by omega) (by omega)
   have e1:EA P A M B S k=(P++B.take k)++A[k]::(A.drop (k+1)++M++(A.take k++B.drop k)++S):=by
    unfold EA
    rw[List.drop_eq_getElem_cons hlt]
    simp only[List.append_assoc,List.cons_append]
   have e2:EA P A M B S k=(P++B.take k++A.drop k++M++A.take k)++B[k]::(B.drop (k+1)++S):=by
    unfold EA
    rw[List.drop_eq_getElem_cons hltB]
    simp only[List.append_assoc,List.cons_append]
   have l1:(P++B.take k).length=P.length+k:=by simp;omega
   have l2:(P++B.take k++A.drop k++M++A.take k).length=P.length+A.length+M.length+k:=by simp;omega
   obtain⟨r1,g1,s1⟩:=BI _ _ _ l1 e1
   obtain⟨r2,g2,_⟩:=BI _ _ _ l2 e2
   have e3:(P++B.take k)++B[k]::(A.drop (k+1)++M++(A.take k++B.drop k)++S)=(P++B.take (k+1)++A.drop (k+1)++M++A.take k)++B[k]::(B.drop (k+1)++S):=by
    rw[List.take_succ_eq_append_getElem hltB,List.drop_eq_getElem_cons hltB]
    simp only[List.append_assoc,List.cons_append,List.nil_append]
   have l3:(P++B.take (k+1)++A.drop (k+1)++M++A.take k).length=P.length+A.length+M.length+k:=by simp;omega
   obtain⟨r3,g3,s3⟩:=BI _ _ _ l3 e3
   have e4:(P++B.take (k+1)++A.drop (k+1)++M++A.take k)++A[k]::(B.drop (k+1)++S)=EA P A M B S (k+1):=by
    unfold EA
    rw[List.take_succ_eq_append_getElem hlt]
    simp only[List.append_assoc,List.cons_append,List.nil_append]
   have s1':=s1 B[k]
   have s3':=s3 A[k]
   rw[e4]at s3'
   clear s1 s3 e1 e2 e3 e4 l1 l2 l3
   generalize (P++B.take k)++B[k]::(A.drop (k+1)++M++(A.take k++B.drop k)++S)=L1 at *
   generalize hL2:EA P A M B S (k+1)=L2 at *
   generalize EA P A M B S k=L0,A[k]=x,B[k]=y,P.length+k=i1,P.length+A.length+M.length+k=i2 at *
   refine Ac (j12 hd w1 @w2 r1 r2 g1 g2 s1' r3 g3 s3' hw) ?_
   refine⟨k+1,by omega,by omega,?_⟩
   exact Ab (Ah.of [((0,0),(0,0))] []) hL2
  ·have hd:decide ((k:Int)<(A.length:Int))=false:=by simpa using hlt
   have hke:k=A.length:=by omega
   have hfin:EA P A M B S A.length=P++B++M++A++S:=by
    unfold EA
    rw[List.take_length,List.drop_length,hAB,List.take_length,List.drop_length]
    simp
   rw[hke,hfin]
   rw[hke]at hd
   refine Ac hd ?_
   exact A9 (A8 [((0,0),(0,0))] []) Tryz.results408 hd
theorem Xb (f:FuncId) (P X Y S:List V) (hX:X≠[]) (hY:Y≠[]) (hn:(P++X++Y++S).length≤100000) :
  AC Tryz.prog 403 [.own (0,0),.c (.int .i64 (P.length:Int)),.c (.int .i64 ((P.length+X.length:Nat):Int)),.c (.int .i64 ((P.length+X.length+Y.length:Nat):Int)),.clo f []] (DL (P++X++Y++S)) (.tup []) (DL (P++Y++X++S)):=by
 simp only[List.length_append]at hn
 obtain⟨m,hm⟩:∃m,P.length+X.length=m:=⟨_,rfl⟩
 have w1:IntKind.i64.wrap ((m:Int)-(P.length:Int))=((X.length:Nat):Int):=Ba (by omega) (by omega)
 have w2:IntKind.i64.wrap (((m+Y.length:Nat):Int)-(m:Int))=((Y.length:Nat):Int):=Ba (by omega) (by omega)
 obtain⟨G,hG⟩:∃G,P++Y++X++S=G:=⟨_,rfl⟩
 have hlen:P.length+X.length+Y.length+S.length≤100000:=hn
 rw[hm,hG]
 refine A7 Tryz.func403 Tryz.ntmps403 (j2 w1 @w2) ?_
 refine Ar (κ:=List V×List V×List V×List V) (fun q=>⟨mkS 0 58 [(0,.own (0,0)),(2,.c (.int .i64 (m:Int))),(4,.clo f []),(10,.c (.int .i64 (q.2.1.length:Int))),(11,.c (.int .i64 (q.2.2.1.length:Int)))],[((0,0),Ki (q.1++q.2.1++q.2.2.1++q.2.2.2))]⟩)
  (fun q=>q.1.length+q.2.1.length=m∧q.1++q.2.2.1++q.2.1++q.2.2.2=G∧0<q.2.1.length∧0<q.2.2.1.length∧q.1.length+q.2.1.length+q.2.2.1.length+q.2.2.2.length≤100000) (fun q=>q.2.1.length+q.2.2.1.length) (P,X,Y,S) ⟨hm,hG,List.length_pos_iff.2 hX,List.length_pos_iff.2 hY,hlen⟩ ?_ ?_
 ·exact Ab (Ah.of [((0,0),(0,0))] []) hm
 ·rintro⟨P',X',Y',S'⟩ ⟨i1,i2,i3,i4,i5⟩
  dsimp only at i1 i2 i3 i4 i5 ⊢
  have w3:IntKind.i64.wrap ((m:Int)-(X'.length:Int))=((P'.length:Nat):Int):=Ba (by omega) (by omega)
  by_cases heq:X'.length=Y'.length
  ·have hb:(((X'.length:Nat):Int) != ((Y'.length:Nat):Int))=false:=by rw[heq];simp
   have hsw:=Hf f P' X' [] Y' S' heq (by simp only[List.length_append,List.length_nil];omega)
   rw[show P'.length+X'.length+([]:List V).length=m by simp;omega]at hsw
   simp only[List.append_nil]at hsw
   rw[i2]at hsw
   refine Ac (j2 hb @w3) ?_
   refine Ca (As [((0,0),(0,0))] [((0,0),(0,0))] hsw) q9 q9 ?_
   exact A9 (A8 [((0,0),(0,0))] []) Tryz.results403 hb
  ·have hb:(((X'.length:Nat):Int) != ((Y'.length:Nat):Int))=true:=by simp;omega
   by_cases hgt:X'.length>Y'.length
   ·have hd:decide (((X'.length:Nat):Int)>((Y'.length:Nat):Int))=true:=decide_eq_true (by omega)
    have l1:(X'.take Y'.length).length=Y'.length:=by rw[List.length_take];omega
    have l2:(X'.drop Y'.length).length=X'.length-Y'.length:=List.length_drop
    have hXX:X'.take Y'.length++X'.drop Y'.length=X':=List.take_append_drop _ _
    have hsw:=Hf f P' (X'.take Y'.length) (X'.drop Y'.length) Y' S' l1 (by simp only[List.length_append];omega)
    rw[show P'.length+(X'.take Y'.length).length+(X'.drop Y'.length).length=m by omega,l1,show P'++X'.take Y'.length++X'.drop Y'.length++Y'++S'=P'++X'++Y'++S' by rw[List.append_assoc P',hXX]]at hsw
    have w4:IntKind.i64.wrap ((X'.length:Int)-(Y'.length:Int))=(((X'.drop Y'.length).length:Nat):Int):=Ba (by omega) (by omega)
    have i2':(P'++Y')++X'.take Y'.length++X'.drop Y'.length++S'=G:=by rw[List.append_assoc (P'++Y'),hXX];exact i2
    have hy:((X'.take Y'.length).length:Int)=(Y'.length:Int):=by rw[l1]
    refine Ac (j3 hb hd @w3) ?_
    refine Ca (As [((0,0),(0,0))] [((0,0),(0,0))] hsw) q9 @w4 ?_
    refine⟨(P'++Y',X'.drop Y'.length,X'.take Y'.length,S'),by dsimp only;omega,⟨by dsimp only;rw[List.length_append];omega,i2',by dsimp only;omega,by dsimp only;omega,by dsimp only;rw[List.length_append];omega⟩,?_⟩
    dsimp only
    rw[hy]
    generalize X'.drop Y'.length=X2,X'.take Y'.length=X1 at *
    exact Ab (Ah.of [((0,0),(0,0))] []) hb
   ·have hd:decide (((X'.length:Nat):Int)>((Y'.length:Nat):Int))=false:=decide_eq_false (by omega)
    have l1:(Y'.take (Y'.length-X'.length)).length=Y'.length-X'.length:=by rw[List.length_take];omega
    have l2:X'.length=(Y'.drop (Y'.length-X'.length)).length:=by rw[List.length_drop];omega
    have hYY:Y'.take (Y'.length-X'.length)++Y'.drop (Y'.length-X'.length)=Y':=List.take_append_drop _ _
    have hsw:=Hf f P' X' (Y'.take (Y'.length-X'.length)) (Y'.drop (Y'.length-X'.length)) S' l2 (by simp only[List.length_append];omega)
    rw[show P'++X'++Y'.take (Y'.length-X'.length)++Y'.drop (Y'.length-X'.length)++S'=P'++X'++Y'++S' by rw[List.append_assoc (P'++X'),hYY]]at hsw
    have w4:IntKind.i64.wrap ((m:Int)+(Y'.length:Int))=((m+Y'.length:Nat):Int):=Ba (by omega) (by omega)
    have w5:IntKind.i64.wrap (((m+Y'.length:Nat):Int)-(X'.length:Int))=((P'.length+X'.length+(Y'.take (Y'.length-X'.length)).length:Nat):Int):=Ba (by omega) (by omega)
    have w6:IntKind.i64.wrap ((Y'.length:Int)-(X'.length:Int))=(((Y'.take (Y'.length-X'.length)).length:Nat):Int):=Ba (by omega) (by omega)
    have i2':P'++Y'.take (Y'.length-X'.length)++Y'.drop (Y'.length-X'.length)++(X'++S')=G:=by rw[List.append_assoc P',hYY,←List.append_assoc];exact i2
    have hy:((Y'.drop (Y'.length-X'.length)).length:Int)=(X'.length:Int):=by rw[←l2]
    have hrow:P'++Y'.drop (Y'.length-X'.length)++Y'.take (Y'.length-X'.length)++X'++S'=P'++Y'.drop (Y'.length-X'.length)++Y'.take (Y'.length-X'.length)++(X'++S'):=by simp only[List.append_assoc]
    rw[hrow]at hsw
    refine Ac (j5 hb hd @w3 @w4 @w5) ?_
    refine Ca (As [((0,0),(0,0))] [((0,0),(0,0))] hsw) q9 @w6 ?_
    refine⟨(P',Y'.drop (Y'.length-X'.length),Y'.take (Y'.length-X'.length),X'++S'),by dsimp only;omega,⟨by dsimp only;omega,i2',by dsimp only;omega,by dsimp only;omega,by dsimp only;rw[List.length_append];omega⟩,?_⟩
    dsimp only
    rw[hy]
    generalize Y'.drop (Y'.length-X'.length)=Y2,Y'.take (Y'.length-X'.length)=Y1 at *
    exact Ab (Ah.of [((0,0),(0,0))] []) hb
end Go.Proofs.YtcejfdfmgmcinaaGreat
