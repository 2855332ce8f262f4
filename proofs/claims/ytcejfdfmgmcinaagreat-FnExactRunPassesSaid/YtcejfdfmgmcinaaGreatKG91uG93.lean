/- Texts of this proof: G91 M33 G92 M34 G93. -/
import Derived.Test.YtcejfdfmgmcinaaGreatKGEuM32
set_option linter.all false
set_option maxHeartbeats 8000000
namespace Go.Proofs.YtcejfdfmgmcinaaGreat
open Go.RowKit
set_option maxRecDepth 10000
abbrev Lr (L:List V):AO:=.row false 5 127 (L.map V.cs)
abbrev Ej (L:List V):Mem:=[((0,0),Lr L)]
theorem a23 (U:List V) (x:V) (W:List V):A8 ((U++x::W).map V.cs) 5 ((U.length:Nat):Int)=true∧((U++x::W).map V.cs)[U.length]? = some [.int .i64 x.kind,.int .i64 x.num,.str x.text,.sl (x.keys.map Ae),.sl (x.kids.map V.cs)] ∧
  ∀y:V,((U++x::W).map V.cs).set U.length [.int .i64 y.kind,.int .i64 y.num,.str y.text,.sl (y.keys.map Ae),.sl (y.kids.map V.cs)]=(U++y::W).map V.cs:=by
 have hg:((U++x::W).map V.cs)[U.length]? = some x.cs:=by rw[List.getElem?_map,List.getElem?_append_right (Nat.le_refl _),Nat.sub_self];rfl
 refine⟨?_,by rw[hg,V.cs_eq],fun y=>?_⟩
 ·unfold A8
  rw[show ((U.length:Nat):Int).toNat=U.length from rfl,hg,V.cs_eq]
  rfl
 ·rw[←V.cs_eq,List.map_append,List.map_cons,List.set_append_right _ _ (by simp),List.length_map,Nat.sub_self,List.set_cons_zero,List.map_append,List.map_cons]
theorem BU (U:List V) (x:V) (W:List V) {n:Nat}(hn:U.length=n) {L:List V}(hL:L=U++x::W):A8 (L.map V.cs) 5 ((n:Nat):Int)=true∧(L.map V.cs)[n]? = some [.int .i64 x.kind,.int .i64 x.num,.str x.text,.sl (x.keys.map Ae),.sl (x.kids.map V.cs)] ∧
  ∀y:V,(L.map V.cs).set n [.int .i64 y.kind,.int .i64 y.num,.str y.text,.sl (y.keys.map Ae),.sl (y.kids.map V.cs)]=(U++y::W).map V.cs:=by
 subst hn
 rw[hL]
 exact a23 U x W
def Fd (P A M B S:List V) (k:Nat):List V:=P++(B.take k++A.drop k)++M++(A.take k++B.drop k)++S
theorem Ik (f:FuncId) (P A M B S:List V) (hAB:A.length=B.length) (hn:(P++A++M++B++S).length≤100000) :
  AC Tryz.prog 408 [.own (0,0),.c (.int .i64 (P.length:Int)),.c (.int .i64 ((P.length+A.length+M.length:Nat):Int)),.c (.int .i64 (A.length:Int)),.clo f []] (Ej (P++A++M++B++S)) (.tup []) (Ej (P++B++M++A++S)):=by
 simp only[List.length_append]at hn
 have hz:(P++A++M++B++S)=Fd P A M B S 0:=by simp[Fd]
 rw[hz]
 refine A6 Tryz.func408 Tryz.ntmps408 q9 ?_
 refine Ar (κ:=Nat) (fun k=>⟨mkS 0 38 [(0,.own (0,0)),(1,.c (.int .i64 (P.length:Int))),(2,.c (.int .i64 ((P.length+A.length+M.length:Nat):Int))),(3,.c (.int .i64 (A.length:Int))),(10,.c (.int .i64 k))],[((0,0),Lr (Fd P A M B S k))]⟩)
  (fun k=>k≤A.length) (fun k=>A.length-k) 0 (Nat.zero_le _) ?_ ?_
 ·exact Ac (Aj.of [((0,0),(0,0))] []) hAB
 ·intro k hk
  by_cases hlt:k<A.length
  ·have hd:decide ((k:Int)<(A.length:Int))=true:=by simpa using hlt
   have hltB:k<B.length:=by omega
   have hw:=Ad (k:=k) (by omega)
   have w1:IntKind.i64.wrap ((P.length:Int)+(k:Int))=((P.length+k:Nat):Int):=Bf (by omega) (by omega)
   have w2:IntKind.i64.wrap (((P.length+A.length+M.length:Nat):Int)+(k:Int))=((P.length+A.length+M.length+k:Nat):Int):=Bf (by omega) (by omega)
   have e1:Fd P A M B S k=(P++B.take k)++A[k]::(A.drop (k+1)++M++(A.take k++B.drop k)++S):=by
    unfold Fd
    rw[List.drop_eq_getElem_cons hlt]
    simp only[List.append_assoc,List.cons_append]
   have e2:Fd P A M B S k=(P++B.take k++A.drop k++M++A.take k)++B[k]::(B.drop (k+1)++S):=by
    unfold Fd
    rw[List.drop_eq_getElem_cons hltB]
    simp only[List.append_assoc,List.cons_append]
   have l1:(P++B.take k).length=P.length+k:=by simp;omega
   have l2:(P++B.take k++A.drop k++M++A.take k).length=P.length+A.length+M.length+k:=by simp;omega
   obtain⟨r1,g1,s1⟩:=BU _ _ _ l1 e1
   obtain⟨r2,g2,_⟩:=BU _ _ _ l2 e2
   have e3:(P++B.take k)++B[k]::(A.drop (k+1)++M++(A.take k++B.drop k)++S)=(P++B.take (k+1)++A.drop (k+1)++M++A.take k)++B[k]::(B.drop (k+1)++S):=by
    rw[List.take_succ_eq_append_getElem hltB,List.drop_eq_getElem_cons hltB]
    simp only[List.append_assoc,List.cons_append,List.nil_append]
   have l3:(P++B.take (k+1)++A.drop (k+1)++M++A.take k).length=P.length+A.length+M.length+k:=by simp;omega
   obtain⟨r3,g3,s3⟩:=BU _ _ _ l3 e3
   have e4:(P++B.take (k+1)++A.drop (k+1)++M++A.take k)++A[k]::(B.drop (k+1)++S)=Fd P A M B S (k+1):=by
    unfold Fd
    rw[List.take_succ_eq_append_getElem hlt]
    simp only[List.append_assoc,List.cons_append,List.nil_append]
   have s1':=s1 B[k]
   have s3':=s3 A[k]
   rw[e4]at s3'
   clear s1 s3 e1 e2 e3 e4 l1 l2 l3
   generalize (P++B.take k)++B[k]::(A.drop (k+1)++M++(A.take k++B.drop k)++S)=L1 at *
   generalize hL2:Fd P A M B S (k+1)=L2 at *
   generalize Fd P A M B S k=L0,A[k]=x,B[k]=y,P.length+k=i1,P.length+A.length+M.length+k=i2 at *
   refine Ab (j12 hd w1 @w2 r1 r2 g1 g2 s1' r3 g3 s3' hw) ?_
   refine⟨k+1,by omega,by omega,?_⟩
   exact Ac (Aj.of [((0,0),(0,0))] []) hL2
  ·have hd:decide ((k:Int)<(A.length:Int))=false:=by simpa using hlt
   have hke:k=A.length:=by omega
   have hfin:Fd P A M B S A.length=P++B++M++A++S:=by
    unfold Fd
    rw[List.take_length,List.drop_length,hAB,List.take_length,List.drop_length]
    simp
   rw[hke,hfin]
   rw[hke]at hd
   refine Ab hd ?_
   exact Aa (A9 [((0,0),(0,0))] []) Tryz.results408 hd
theorem YT (f:FuncId) (P X Y S:List V) (hX:X≠[]) (hY:Y≠[]) (hn:(P++X++Y++S).length≤100000) :
  AC Tryz.prog 403 [.own (0,0),.c (.int .i64 (P.length:Int)),.c (.int .i64 ((P.length+X.length:Nat):Int)),.c (.int .i64 ((P.length+X.length+Y.length:Nat):Int)),.clo f []] (Ej (P++X++Y++S)) (.tup []) (Ej (P++Y++X++S)):=by
 simp only[List.length_append]at hn
 obtain⟨m,hm⟩:∃m,P.length+X.length=m:=⟨_,rfl⟩
 have w1:IntKind.i64.wrap ((m:Int)-(P.length:Int))=((X.length:Nat):Int):=Bf (by omega) (by omega)
 have w2:IntKind.i64.wrap (((m+Y.length:Nat):Int)-(m:Int))=((Y.length:Nat):Int):=Bf (by omega) (by omega)
 obtain⟨G,hG⟩:∃G,P++Y++X++S=G:=⟨_,rfl⟩
 have hlen:P.length+X.length+Y.length+S.length≤100000:=hn
 rw[hm,hG]
 refine A6 Tryz.func403 Tryz.ntmps403 (j2 w1 @w2) ?_
 refine Ar (κ:=List V×List V×List V×List V) (fun q=>⟨mkS 0 58 [(0,.own (0,0)),(2,.c (.int .i64 (m:Int))),(4,.clo f []),(10,.c (.int .i64 (q.2.1.length:Int))),(11,.c (.int .i64 (q.2.2.1.length:Int)))],[((0,0),Lr (q.1++q.2.1++q.2.2.1++q.2.2.2))]⟩)
  (fun q=>q.1.length+q.2.1.length=m∧q.1++q.2.2.1++q.2.1++q.2.2.2=G∧0<q.2.1.length∧0<q.2.2.1.length∧q.1.length+q.2.1.length+q.2.2.1.length+q.2.2.2.length≤100000) (fun q=>q.2.1.length+q.2.2.1.length) (P,X,Y,S) ⟨hm,hG,List.length_pos_iff.2 hX,List.length_pos_iff.2 hY,hlen⟩ ?_ ?_
 ·exact Ac (Aj.of [((0,0),(0,0))] []) hm
 ·rintro⟨P',X',Y',S'⟩ ⟨i1,i2,i3,i4,i5⟩
  dsimp only at i1 i2 i3 i4 i5 ⊢
  have w3:IntKind.i64.wrap ((m:Int)-(X'.length:Int))=((P'.length:Nat):Int):=Bf (by omega) (by omega)
  by_cases heq:X'.length=Y'.length
  ·have hb:(((X'.length:Nat):Int) != ((Y'.length:Nat):Int))=false:=by rw[heq];simp
   have hsw:=Ik f P' X' [] Y' S' heq (by simp only[List.length_append,List.length_nil];omega)
   rw[show P'.length+X'.length+([]:List V).length=m by simp;omega]at hsw
   simp only[List.append_nil]at hsw
   rw[i2]at hsw
   refine Ab (j2 hb @w3) ?_
   refine Bw (Am [((0,0),(0,0))] [((0,0),(0,0))] hsw) q9 q9 ?_
   exact Aa (A9 [((0,0),(0,0))] []) Tryz.results403 hb
  ·have hb:(((X'.length:Nat):Int) != ((Y'.length:Nat):Int))=true:=by simp;omega
   by_cases hgt:X'.length>Y'.length
   ·have hd:decide (((X'.length:Nat):Int)>((Y'.length:Nat):Int))=true:=decide_eq_true (by omega)
    have l1:(X'.take Y'.length).length=Y'.length:=by rw[List.length_take];omega
    have l2:(X'.drop Y'.length).length=X'.length-Y'.length:=List.length_drop
    have hXX:X'.take Y'.length++X'.drop Y'.length=X':=List.take_append_drop _ _
    have hsw:=Ik f P' (X'.take Y'.length) (X'.drop Y'.length) Y' S' l1 (by simp only[List.length_append];omega)
    rw[show P'.length+(X'.take Y'.length).length+(X'.drop Y'.length).length=m by omega,l1,show P'++X'.take Y'.length++X'.drop Y'.length++Y'++S'=P'++X'++Y'++S' by rw[List.append_assoc P',hXX]]at hsw
    have w4:IntKind.i64.wrap ((X'.length:Int)-(Y'.length:Int))=(((X'.drop Y'.length).length:Nat):Int):=Bf (by omega) (by omega)
    have i2':(P'++Y')++X'.take Y'.length++X'.drop Y'.length++S'=G:=by rw[List.append_assoc (P'++Y'),hXX];exact i2
    have hy:((X'.take Y'.length).length:Int)=(Y'.length:Int):=by rw[l1]
    refine Ab (j3 hb hd @w3) ?_
    refine Bw (Am [((0,0),(0,0))] [((0,0),(0,0))] hsw) q9 @w4 ?_
    refine⟨(P'++Y',X'.drop Y'.length,X'.take Y'.length,S'),by dsimp only;omega,⟨by dsimp only;rw[List.length_append];omega,i2',by dsimp only;omega,by dsimp only;omega,by dsimp only;rw[List.length_append];omega⟩,?_⟩
    dsimp only
    rw[hy]
    generalize X'.drop Y'.length=X2,X'.take Y'.length=X1 at *
    exact Ac (Aj.of [((0,0),(0,0))] []) hb
   ·have hd:decide (((X'.length:Nat):Int)>((Y'.length:Nat):Int))=false:=decide_eq_false (by omega)
    have l1:(Y'.take (Y'.length-X'.length)).length=Y'.length-X'.length:=by rw[List.length_take];omega
    have l2:X'.length=(Y'.drop (Y'.length-X'.length)).length:=by rw[List.length_drop];omega
    have hYY:Y'.take (Y'.length-X'.length)++Y'.drop (Y'.length-X'.length)=Y':=List.take_append_drop _ _
    have hsw:=Ik f P' X' (Y'.take (Y'.length-X'.length)) (Y'.drop (Y'.length-X'.length)) S' l2 (by simp only[List.length_append];omega)
    rw[show P'++X'++Y'.take (Y'.length-X'.length)++Y'.drop (Y'.length-X'.length)++S'=P'++X'++Y'++S' by rw[List.append_assoc (P'++X'),hYY]]at hsw
    have w4:IntKind.i64.wrap ((m:Int)+(Y'.length:Int))=((m+Y'.length:Nat):Int):=Bf (by omega) (by omega)
    have w5:IntKind.i64.wrap (((m+Y'.length:Nat):Int)-(X'.length:Int))=((P'.length+X'.length+(Y'.take (Y'.length-X'.length)).length:Nat):Int):=Bf (by omega) (by omega)
    have w6:IntKind.i64.wrap ((Y'.length:Int)-(X'.length:Int))=(((Y'.take (Y'.length-X'.length)).length:Nat):Int):=Bf (by omega) (by omega)
    have i2':P'++Y'.take (Y'.length-X'.length)++Y'.drop (Y'.length-X'.length)++(X'++S')=G:=by rw[List.append_assoc P',hYY,←List.append_assoc];exact i2
    have hy:((Y'.drop (Y'.length-X'.length)).length:Int)=(X'.length:Int):=by rw[←l2]
    have hrow:P'++Y'.drop (Y'.length-X'.length)++Y'.take (Y'.length-X'.length)++X'++S'=P'++Y'.drop (Y'.length-X'.length)++Y'.take (Y'.length-X'.length)++(X'++S'):=by simp only[List.append_assoc]
    rw[hrow]at hsw
    refine Ab (j5 hb hd @w3 @w4 @w5) ?_
    refine Bw (Am [((0,0),(0,0))] [((0,0),(0,0))] hsw) q9 @w6 ?_
    refine⟨(P',Y'.drop (Y'.length-X'.length),Y'.take (Y'.length-X'.length),X'++S'),by dsimp only;omega,⟨by dsimp only;omega,i2',by dsimp only;omega,by dsimp only;omega,by dsimp only;rw[List.length_append];omega⟩,?_⟩
    dsimp only
    rw[hy]
    generalize Y'.drop (Y'.length-X'.length)=Y2,Y'.take (Y'.length-X'.length)=Y1 at *
    exact Ac (Aj.of [((0,0),(0,0))] []) hb
theorem Fy {T:List V}(h:AK T) (q:Nat):AK (T.take q):=List.Pairwise.sublist (List.take_sublist q T) h
theorem Fx {T:List V}(h:AK T) (q:Nat):AK (T.drop q):=List.Pairwise.sublist (List.drop_sublist q T) h
theorem M3 {T:List V}(h:AK T) (q:Nat):∀u∈T.take q,∀w∈T.drop q,leV u w:=by
 have h2:AK (T.take q++T.drop q):=by rw[List.take_append_drop];exact h
 exact (List.pairwise_append.1 h2).2.2
theorem Jt {T:List V}(h:AK T) {i j:Nat}(hij:i≤j) (hj:j<T.length):leV (T[i]'(by omega)) T[j]:=by
 by_cases he:i=j
 ·subst he;exact t7 _
 ·exact List.pairwise_iff_getElem.1 h i j (by omega) hj (by omega)
theorem N1 {T:List V}(h:AK T) {q:Nat}(hq:q<T.length):∀u∈T.take (q+1),leV u T[q]:=fun u hu=>by
 obtain⟨i,hi,rfl⟩:=List.mem_iff_getElem.1 hu
 rw[List.getElem_take]
 have:i<q+1:=by have:=hi;rw[List.length_take]at this;omega
 exact Jt h (by omega) hq
theorem WG {T:List V}(h:AK T) {q:Nat}(hq:q<T.length):∀w∈T.drop q,leV T[q] w:=fun w hw=>by
 obtain⟨i,hi,rfl⟩:=List.mem_iff_getElem.1 hw
 rw[List.getElem_drop]
 rw[List.length_drop]at hi
 exact Jt h (by omega) (by omega)
theorem Ku {T:List V}(h:AK T) {x:V}{q:Nat}(h1:∀u∈T.take q,leV u x) (h2:∀w∈T.drop q,leV x w):AK (T.take q++x::T.drop q):=by
 refine OB (Fy h q) (List.pairwise_cons.2 ⟨h2,Fx h q⟩) fun u hu w hw=>?_
 rcases List.mem_cons.1 hw with rfl | hw
 ·exact h1 u hu
 ·exact M3 h q u hu w hw
theorem NK (T:List V) (x:V) (q:Nat):(T.take q++x::T.drop q).Perm (x::T):=by
 have:=List.perm_middle (a:=x) (l₁:=T.take q) (l₂:=T.drop q)
 rwa [List.take_append_drop]at this
theorem SW {X:List V}{k:Nat}(hk:k<X.length) {q:Nat}(h1:∀u∈(AD (X.take k)).take q,leV u X[k]) (h2:∀w∈(AD (X.take k)).drop q,leV X[k] w) :
  (AD (X.take k)).take q++X[k]::(AD (X.take k)).drop q=AD (X.take (k+1)):=by
 refine (Hl (Ku (Ch _) h1 h2) ?_).symm
 refine (NK _ _ q).trans ?_
 rw[List.take_succ_eq_append_getElem hk]
 exact ((DZ (X.take k)).cons _).trans (List.perm_append_singleton _ _).symm
theorem TU {X:List V}(h:X.length≤1):AD X=X:=by
 refine Gw ?_
 match X,h with
 | [],_=>exact List.Pairwise.nil
 | [x],_=>exact List.pairwise_singleton _ _
theorem Qk {X:List V}{x:V}:x∈AD X↔x∈X:=(DZ X).mem_iff
set_option maxRecDepth 10000
def Jz (f:FuncId):Prop:=A7 Tryz.prog f=true∧∀x y:V,x.right→AC Tryz.prog f [x.av,y.av] [] (.c (.int .i64 (x.cmp y))) []
theorem LL (f:FuncId) (hf:Jz f) (P X S:List V) (hr:∀x∈X,x.right) (hn:(P++X++S).length≤100000) :
  AC Tryz.prog 385 [.own (0,0),.c (.int .i64 (P.length:Int)),.c (.int .i64 ((P.length+X.length:Nat):Int)),.clo f []] (Ej (P++X++S)) (.tup []) (Ej (P++AD X++S)):=by
 obtain⟨hcal,hf⟩:=hf
 simp only[List.length_append]at hn
 have hz:P++X++S=P++AD (X.take 1)++X.drop 1++S:=by
  rw[TU (X:=X.take 1) (by rw[List.length_take];omega)]
  conv=>lhs;rw[←List.take_append_drop 1 X]
  simp only[List.append_assoc]
 rw[hz]
 have w0:=Ad (k:=P.length) (by omega)
 refine A6 Tryz.func385 Tryz.ntmps385 w0 ?_
 refine Ar (κ:=Nat) (fun k=>⟨mkS 0 53 [(0,.own (0,0)),(1,.c (.int .i64 (P.length:Int))),(2,.c (.int .i64 ((P.length+X.length:Nat):Int))),(3,.clo f []),(8,.c (.int .i64 ((P.length+k:Nat):Int)))],[((0,0),Lr (P++AD (X.take k)++X.drop k++S))]⟩)
  (fun k=>1≤k) (fun k=>X.length-k) 1 (Nat.le_refl _) ?_ ?_
 ·exact Ac (Aj.of [((0,0),(0,0))] []) hn
 ·intro k hk
  by_cases hlt:k<X.length
  ·have hd:decide (((P.length+k:Nat):Int)<((P.length+X.length:Nat):Int))=true:=decide_eq_true (by omega)
   have hw:IntKind.i64.wrap (((P.length+k:Nat):Int)+1)=((P.length+(k+1):Nat):Int):=Bf (by omega) (by omega)
   have hxr:=hr _ (List.getElem_mem hlt)
   have hTl:(AD (X.take k)).length=k:=by rw[Fc,List.length_take];omega
   have hTs:=Ch (X.take k)
   have hins:=fun (q:Nat) h1 h2=>SW hlt (q:=q) h1 h2
   have hdr:X.drop k=X[k]::X.drop (k+1):=List.drop_eq_getElem_cons hlt
   obtain⟨T',hT'⟩:∃T',AD (X.take (k+1))=T':=⟨_,rfl⟩
   rw[hT']at hins
   have hXl:(X.drop (k+1)).length=X.length-(k+1):=List.length_drop
   rw[hdr]
   generalize AD (X.take k)=T at *
   generalize hD:X.drop (k+1)=D at *
   generalize X[k]=x at *
   refine Ab hd ?_
   refine Ar (κ:=Nat) (fun q=>⟨mkS 0 53 [(0,.own (0,0)),(1,.c (.int .i64 (P.length:Int))),(2,.c (.int .i64 ((P.length+X.length:Nat):Int))),(3,.clo f []),(8,.c (.int .i64 ((P.length+k:Nat):Int))),(9,.c (.int .i64 ((P.length+q:Nat):Int)))],[((0,0),Lr (P++T.take q++x::(T.drop q++D++S)))]⟩)
    (fun q=>q≤k∧∀w∈T.drop q,leV x w) (fun q=>q) k ⟨Nat.le_refl _,by rw[List.drop_of_length_le (by omega)];simp⟩ ?_ ?_
   ·have hst:P++T++x::D++S=P++T.take k++x::(T.drop k++D++S):=by
     rw[List.take_of_length_le (by omega),List.drop_of_length_le (by omega)]
     simp
    rw[hst]
    exact Ac (Aj.of [((0,0),(0,0))] []) hd
   ·rintro q ⟨hq,hge⟩
    have fin:(∀u∈T.take q,leV u x)→P++T.take q++x::(T.drop q++D++S)=P++T'++D++S:=fun hu=>by
     rw[←hins q hu hge]
     simp
    cases q with
    |zero =>
     have hd0:decide (((P.length+0:Nat):Int)>(P.length:Int))=false:=decide_eq_false (by omega)
     have hfin:=fin (by simp)
     rw[hfin]
     refine Ab (j2 hd0 hw) ?_
     refine⟨k+1,by omega,by omega,?_⟩
     rw[hT',hD]
     exact Ac (Aj.of [((0,0),(0,0))] []) hd
    |succ q =>
     have hqT:q<T.length:=by omega
     have hd0:decide (((P.length+(q+1):Nat):Int)>(P.length:Int))=true:=decide_eq_true (by omega)
     have w1:IntKind.i64.wrap (((P.length+(q+1):Nat):Int)-1)=((P.length+q:Nat):Int):=Bf (by omega) (by omega)
     have e2:P++T.take (q+1)++x::(T.drop (q+1)++D++S)=(P++T.take q)++T[q]::(x::(T.drop (q+1)++D++S)):=by
      rw[List.take_succ_eq_append_getElem hqT]
      simp only[List.append_assoc,List.cons_append,List.nil_append]
     have l1:(P++T.take (q+1)).length=P.length+(q+1):=by simp;omega
     have l2:(P++T.take q).length=P.length+q:=by simp;omega
     obtain⟨r1,g1,s1⟩:=BU (P++T.take (q+1)) x (T.drop (q+1)++D++S) l1 rfl
     obtain⟨r2,g2,_⟩:=BU _ _ _ l2 e2
     have hcm:=hf x T[q] hxr
     have htl:=N1 hTs hqT
     have s1':=s1 T[q]
     have e3:(P++T.take (q+1))++T[q]::(T.drop (q+1)++D++S)=(P++T.take q)++T[q]::(T[q]::(T.drop (q+1)++D++S)):=by
      rw[List.take_succ_eq_append_getElem hqT]
      simp only[List.append_assoc,List.cons_append,List.nil_append]
     obtain⟨r3,g3,s3⟩:=BU _ _ _ l2 e3
     have s3':=s3 x
     have e4:(P++T.take q)++x::(T[q]::(T.drop (q+1)++D++S))=P++T.take q++x::(T.drop q++D++S):=by
      rw[List.drop_eq_getElem_cons hqT]
      simp only[List.append_assoc,List.cons_append,List.nil_append]
     have hdq:T.drop q=T[q]::T.drop (q+1):=List.drop_eq_getElem_cons hqT
     rw[e4]at s3'
     have hge':leV x T[q]→∀w∈T.drop q,leV x w:=fun h w hw=>by
      rw[hdq]at hw
      rcases List.mem_cons.1 hw with rfl | hw
      ·exact h
      ·exact hge w hw
     have hfin:leV T[q] x→P++T.take (q+1)++x::(T.drop (q+1)++D++S)=P++T'++D++S:=fun h=>fin fun u hu=>Ex (htl u hu) h
     clear s1 s3 e2 e3 e4 fin hdq l1 l2 htl
     generalize hL1:(P++T.take (q+1))++T[q]::(T.drop (q+1)++D++S)=L1 at *
     generalize hL2:P++T.take q++x::(T.drop q++D++S)=L2 at *
     generalize hL0:P++T.take (q+1)++x::(T.drop (q+1)++D++S)=L0 at *
     generalize T[q]=y at *
     cases hc:decide (x.cmp y<0) with
     |false =>
      have hle:leV y x:=IU.1 (by simpa using hc)
      refine Ab (j6 hd0 r1 g1 w1 r2 g2) ?_
      refine v7 (A3 [] hcm) hcal (j2 hc hw) ?_
      refine⟨k+1,by omega,by omega,?_⟩
      rw[hT',hD,hfin hle]
      exact Ac (Aj.of [((0,0),(0,0))] []) hd
     |true =>
      have hle:leV x y:=Lc (by simpa using hc)
      refine Ab (j6 hd0 r1 g1 w1 r2 g2) ?_
      refine v7 (A3 [] hcm) hcal (j10 hc r1 g1 w1 r2 g2 s1' r3 g3 s3') ?_
      refine⟨q,by omega,⟨by omega,hge' hle⟩,?_⟩
      rw[hL2]
      exact Ac (Aj.of [((0,0),(0,0))] []) hd
  ·have hd:decide (((P.length+k:Nat):Int)<((P.length+X.length:Nat):Int))=false:=decide_eq_false (by omega)
   have hfin:P++AD (X.take k)++X.drop k++S=P++AD X++S:=by
    rw[List.take_of_length_le (by omega),List.drop_of_length_le (by omega)]
    simp
   rw[hfin]
   refine Ab hd ?_
   exact Aa (A9 [((0,0),(0,0))] []) Tryz.results385 hd
theorem Ti {a b c:V}(h1:leV a b) (h2:b.cmp c<0):a.cmp c<0:=(trV a b c).2.2 h1 h2
theorem Yv {X Y:List V}{s w:Nat}(hX:AK X) (hY:AK Y) (h1:∀x∈X.take s,∀y∈Y.drop w,leV x y) (h2:∀y∈Y.take w,∀x∈X.drop s,leV y x) :
  AD (X.take s++Y.take w)++AD (X.drop s++Y.drop w)=AD (X++Y):=by
 refine (Hl (OB (Ch _) (Ch _) fun a ha b hb=>?_) ?_).symm
 ·rw[Qk]at ha hb
  rcases List.mem_append.1 ha with ha | ha
  ·rcases List.mem_append.1 hb with hb | hb
   ·exact M3 hX s a ha b hb
   ·exact h1 a ha b hb
  ·rcases List.mem_append.1 hb with hb | hb
   ·exact h2 a ha b hb
   ·exact M3 hY w a ha b hb
 ·refine ((DZ _).append (DZ _)).trans ?_
  have e:X++Y=(X.take s++X.drop s)++(Y.take w++Y.drop w):=by rw[List.take_append_drop,List.take_append_drop]
  rw[e,List.append_assoc,List.append_assoc]
  refine List.Perm.append_left _ ?_
  rw[←List.append_assoc,←List.append_assoc]
  exact List.perm_append_comm.append_right _
theorem LQ {X Y:List V}{s w:Nat}(hX:AK X) (hY:AK Y) (h:∀(h1:0<s) (h2:s≤X.length) (h3:w<Y.length),leV (X[s-1]'(by omega)) Y[w]) (hs:s≤X.length):∀x∈X.take s,∀y∈Y.drop w,leV x y:=fun x hx y hy=>by
 obtain⟨i,hi,rfl⟩:=List.mem_iff_getElem.1 hx
 obtain⟨j,hj,rfl⟩:=List.mem_iff_getElem.1 hy
 rw[List.length_take]at hi
 rw[List.length_drop]at hj
 rw[List.getElem_take,List.getElem_drop]
 have:=h (by omega) hs (by omega)
 exact Ex (Ex (Jt hX (show i≤s-1 by omega) (by omega)) this) (Jt hY (show w≤w+j by omega) (by omega))
theorem O6 {X Y:List V}{s w:Nat}(hX:AK X) (hY:AK Y) (h:∀(h1:0<w) (h2:w≤Y.length) (h3:s<X.length),leV (Y[w-1]'(by omega)) X[s]) (hw:w≤Y.length):∀y∈Y.take w,∀x∈X.drop s,leV y x:=LQ hY hX h hw
theorem a2f {Y:List V}(hY:AK Y) {x:V}{u:Nat}(h1:∀y∈Y.take u,leV y x) (h2:∀y∈Y.drop u,leV x y):Y.take u++x::Y.drop u=AD ([x]++Y) :=
 (Hl (Ku hY h1 h2) (NK Y x u)).symm
theorem l9 {X:List V}(hX:AK X) {y:V}{u:Nat}(h1:∀x∈X.take u,leV x y) (h2:∀x∈X.drop u,leV y x):X.take u++y::X.drop u=AD (X++[y]) :=
 (Hl (Ku hX h1 h2) ((NK X y u).trans (List.perm_append_singleton _ _).symm)).symm
set_option maxRecDepth 10000
theorem Zt {z:Nat}(h:z<9000000000000000000):IntKind.u64.wrap ((z:Nat):Int)=((z:Nat):Int):=by
 unfold IntKind.wrap
 simp[IntKind.bits,IntKind.signed]
 omega
def Ws (f:FuncId) (n:Nat):Prop:=∀(P X Y S:List V),X.length+Y.length≤n→X≠[]→Y≠[]→AK X→AK Y→(∀x∈X,x.right)→(∀y∈Y,y.right)→(P++X++Y++S).length≤100000 →
  AC Tryz.prog 386 [.own (0,0),.c (.int .i64 (P.length:Int)),.c (.int .i64 ((P.length+X.length:Nat):Int)),.c (.int .i64 ((P.length+X.length+Y.length:Nat):Int)),.clo f []] (Ej (P++X++Y++S)) (.tup []) (Ej (P++AD (X++Y)++S))
theorem RZ (f:FuncId) (hf:Jz f) (P:List V) (x:V) (Y S:List V) (hY:AK Y) (hyr:∀y∈Y,y.right) (hn:(P++[x]++Y++S).length≤100000) :
  AC Tryz.prog 386 [.own (0,0),.c (.int .i64 (P.length:Int)),.c (.int .i64 ((P.length+1:Nat):Int)),.c (.int .i64 ((P.length+1+Y.length:Nat):Int)),.clo f []] (Ej (P++[x]++Y++S)) (.tup []) (Ej (P++AD ([x]++Y)++S)):=by
 obtain⟨hcal,hf⟩:=hf
 simp only[List.length_append,List.length_singleton]at hn
 have w0:IntKind.i64.wrap (((P.length+1:Nat):Int)-(P.length:Int))=1:=Bf (n:=1) (by omega) (by omega)
 have h11:((1:Int)==1)=true:=rfl
 refine A6 Tryz.func386 Tryz.ntmps386 (j2 w0 h11) ?_
 refine Ar (κ:=Nat×Nat) (fun q=>⟨mkS 0 220 [(0,.own (0,0)),(1,.c (.int .i64 (P.length:Int))),(4,.clo f []),(10,.c (.int .i64 ((P.length+1+q.1:Nat):Int))),(11,.c (.int .i64 ((P.length+1+q.2:Nat):Int)))],[((0,0),Lr (P++[x]++Y++S))]⟩)
  (fun q=>q.1≤q.2∧q.2≤Y.length∧(∀y∈Y.take q.1,y.cmp x<0)∧(∀y∈Y.drop q.2,leV x y)) (fun q=>q.2-q.1) (0,Y.length) ⟨Nat.zero_le _,Nat.le_refl _,by simp,by simp⟩ ?_ ?_
 ·exact Ac (Aj.of [((0,0),(0,0))] []) h11
 ·rintro⟨u,v⟩ ⟨huv,hvl,h1,h2⟩
  dsimp only at huv hvl h1 h2 ⊢
  by_cases hlt:u<v
  ·have hd:decide (((P.length+1+u:Nat):Int)<((P.length+1+v:Nat):Int))=true:=decide_eq_true (by omega)
   have wa:IntKind.i64.wrap (((P.length+1+u:Nat):Int)+((P.length+1+v:Nat):Int))=((P.length+1+u+(P.length+1+v):Nat):Int):=Bf (by omega) (by omega)
   have wu:=Zt (z:=P.length+1+u+(P.length+1+v)) (by omega)
   obtain⟨h,hh⟩:∃h,(u+v) / 2=h:=⟨_,rfl⟩
   have hH:(P.length+1+u+(P.length+1+v)) / 2=P.length+1+h:=by omega
   have wh:IntKind.i64.wrap ((P.length+1+h:Nat):Int)=((P.length+1+h:Nat):Int):=Bf rfl (by omega)
   have hw:IntKind.i64.wrap (((P.length+1+h:Nat):Int)+1)=((P.length+1+(h+1):Nat):Int):=Bf (by omega) (by omega)
   have hhY:h<Y.length:=by omega
   have e1:P++[x]++Y++S=P++x::(Y++S):=by simp
   have e2:P++[x]++Y++S=(P++[x]++Y.take h)++Y[h]::(Y.drop (h+1)++S):=by
    conv=>lhs;rw[←List.take_append_drop h Y,List.drop_eq_getElem_cons hhY]
    simp only[List.append_assoc,List.cons_append]
   obtain⟨r1,g1,_⟩:=BU P x _ rfl e1
   obtain⟨r2,g2,_⟩:=BU (n:=P.length+1+h) _ _ _ (by simp;omega) e2
   have hcm:=hf Y[h] x (hyr _ (List.getElem_mem hhY))
   have htl:=N1 hY hhY
   have hdl:=WG hY hhY
   generalize P++[x]++Y++S=L,Y[h]=y at *
   clear e1 e2
   cases hc:decide (y.cmp x<0) with
   |true =>
    have hlx:y.cmp x<0:=by simpa using hc
    refine Ab (j3 hd wa wu) ?_
    ((with_reducible apply Em);(iterate 4 (focus (first | (simp only[go_sem,Nat.reduceEqDiff,Nat.reduceAdd,Nat.reduceSub,Nat.reduceLeDiff,Nat.reduceMul,Nat.reduceBEq,Nat.reduceLT,Int.reduceToNat,reduceCtorEq,wa,wu];first | done | exact rfl | (and_intros<;>rfl)) | exact rfl | decide))))
    refine Ab (j6 hH wh r1 g1 r2 g2) ?_
    refine v7 (A3 [] hcm) hcal (j2 hc hw) ?_
    refine⟨(h+1,v),by dsimp only;omega,⟨by dsimp only;omega,hvl,fun z hz=>Ti (htl z hz) hlx,h2⟩,?_⟩
    exact Ac (Aj.of [((0,0),(0,0))] []) hw
   |false =>
    have hlx:leV x y:=IU.1 (by simpa using hc)
    refine Ab (j3 hd wa wu) ?_
    ((with_reducible apply Em);(iterate 4 (focus (first | (simp only[go_sem,Nat.reduceEqDiff,Nat.reduceAdd,Nat.reduceSub,Nat.reduceLeDiff,Nat.reduceMul,Nat.reduceBEq,Nat.reduceLT,Int.reduceToNat,reduceCtorEq,wa,wu];first | done | exact rfl | (and_intros<;>rfl)) | exact rfl | decide))))
    refine Ab (j6 hH wh r1 g1 r2 g2) ?_
    refine v7 (A3 [] hcm) hcal hc ?_
    refine⟨(u,h),by dsimp only;omega,⟨by dsimp only;omega,by dsimp only;omega,h1,fun z hz=>Ex hlx (hdl z hz)⟩,?_⟩
    exact Ac (Aj.of [((0,0),(0,0))] []) hw
  ·have hd:decide (((P.length+1+u:Nat):Int)<((P.length+1+v:Nat):Int))=false:=decide_eq_false (by omega)
   have huv':v=u:=by omega
   subst huv'
   have hins:=a2f hY (x:=x) (u:=v) (fun y hy=>Lc (h1 y hy)) h2
   have wm:IntKind.i64.wrap (((P.length+1+v:Nat):Int)-1)=((P.length+v:Nat):Int):=Bf (by omega) (by omega)
   refine Ab hd ?_
   refine Ar (κ:=Nat) (fun t=>⟨mkS 0 220 [(0,.own (0,0)),(10,.c (.int .i64 ((P.length+1+v:Nat):Int))),(13,.c (.int .i64 ((P.length+t:Nat):Int)))],[((0,0),Lr (P++Y.take t++x::(Y.drop t++S)))]⟩)
    (fun t=>t≤v) (fun t=>v-t) 0 (Nat.zero_le _) ?_ ?_
   ·have e0:P++[x]++Y++S=P++Y.take 0++x::(Y.drop 0++S):=by simp
    have n0:P.length+0=P.length:=rfl
    rw[e0]
    exact Ac (Aj.of [((0,0),(0,0))] []) n0
   ·intro t ht
    by_cases htv:t<v
    ·have hd2:decide (((P.length+t:Nat):Int)<((P.length+v:Nat):Int))=true:=decide_eq_true (by omega)
     have htY:t<Y.length:=by omega
     have wt:IntKind.i64.wrap (((P.length+t:Nat):Int)+1)=((P.length+(t+1):Nat):Int):=Bf (by omega) (by omega)
     have l1:(P++Y.take t).length=P.length+t:=by simp;omega
     have e2:P++Y.take t++x::(Y.drop t++S)=(P++Y.take t++[x])++Y[t]::(Y.drop (t+1)++S):=by
      rw[List.drop_eq_getElem_cons htY]
      simp only[List.append_assoc,List.cons_append,List.nil_append]
     have l2:(P++Y.take t++[x]).length=P.length+(t+1):=by simp;omega
     obtain⟨r1,g1,s1⟩:=BU (P++Y.take t) x (Y.drop t++S) l1 rfl
     obtain⟨r2,g2,_⟩:=BU _ _ _ l2 e2
     have s1':=s1 Y[t]
     have e3:(P++Y.take t)++Y[t]::(Y.drop t++S)=(P++Y.take t++[Y[t]])++Y[t]::(Y.drop (t+1)++S):=by
      rw[List.drop_eq_getElem_cons htY]
      simp only[List.append_assoc,List.cons_append,List.nil_append]
     have l3:(P++Y.take t++[Y[t]]).length=P.length+(t+1):=by simp;omega
     obtain⟨r3,g3,s3⟩:=BU _ _ _ l3 e3
     have s3':=s3 x
     have e4:(P++Y.take t++[Y[t]])++x::(Y.drop (t+1)++S)=P++Y.take (t+1)++x::(Y.drop (t+1)++S):=by
      rw[List.take_succ_eq_append_getElem htY]
      simp only[List.append_assoc]
     rw[e4]at s3'
     clear s1 s3 e2 e3 e4 l1 l2 l3
     generalize hL2:P++Y.take (t+1)++x::(Y.drop (t+1)++S)=L2 at *
     generalize (P++Y.take t)++Y[t]::(Y.drop t++S)=L1 at *
     generalize P++Y.take t++x::(Y.drop t++S)=L0 at *
     generalize Y[t]=y at *
     refine Ab (j11 wm hd2 wt r1 g1 r2 g2 s1' r3 g3 s3') ?_
     refine⟨t+1,by omega,by omega,?_⟩
     exact Ac (Aj.of [((0,0),(0,0))] []) hL2
    ·have hd2:decide (((P.length+t:Nat):Int)<((P.length+v:Nat):Int))=false:=decide_eq_false (by omega)
     have htv':t=v:=by omega
     subst htv'
     have hfin:P++Y.take t++x::(Y.drop t++S)=P++AD ([x]++Y)++S:=by
      rw[←hins]
      simp only[List.append_assoc,List.cons_append]
     rw[hfin]
     refine Ab (j2 wm hd2) ?_
     exact Aa (A9 [((0,0),(0,0))] []) Tryz.results386 hd2
end Go.Proofs.YtcejfdfmgmcinaaGreat
