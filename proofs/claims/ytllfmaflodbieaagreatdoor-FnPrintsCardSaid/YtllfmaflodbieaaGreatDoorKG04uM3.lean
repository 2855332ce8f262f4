/- Texts of this proof: G04 G05 G20 G21 M20 M21 M22. -/
import Derived.Test.YtllfmaflodbieaaGreatDoorKG01uG03
import Derived.Test.YtllfmaflodbieaaGreatDoorKB3
import Derived.Test.YtllfmaflodbieaaGreatDoorKM2
set_option linter.all false
set_option maxHeartbeats 8000000
namespace Go.Proofs.YtllfmaflodbieaaGreatDoor
section
open Go.RowKit
section
variable {w:World} {S:Nat→Prop}
theorem a0g {c:CellD}{v:List Value}{bs:List Nat}:CRs w S c.cs v bs↔v=Bh c∧bs=[]:=by
 simp only[CellD.cs,CRs,CR,Bh]
 constructor
 ·rintro⟨_,_,_,_,rfl,rfl,⟨rfl,rfl⟩,_,_,_,_,rfl,rfl,⟨rfl,rfl⟩,_,_,_,_,rfl,rfl,⟨rfl,rfl⟩,_,_,_,_,rfl,rfl,⟨rfl,rfl⟩,_,_,_,_,rfl,rfl,⟨rfl,rfl⟩,rfl,rfl⟩
  exact⟨rfl,rfl⟩
 ·rintro⟨rfl,rfl⟩
  exact⟨_,_,[],[],rfl,rfl,⟨rfl,rfl⟩,_,_,[],[],rfl,rfl,⟨rfl,rfl⟩,_,_,[],[],rfl,rfl,⟨rfl,rfl⟩,_,_,[],[],rfl,rfl,⟨rfl,rfl⟩,_,_,[],[],rfl,rfl,⟨rfl,rfl⟩,rfl,rfl⟩
theorem O3 {α:Type}{f:α→List C}{g:α→List Value}(hf:∀{x v bs},CRs w S (f x) v bs↔v=g x∧bs=[]):∀{l:List α}{vs:List (List Value)}{bs:List Nat},A0 w S (l.map f) vs bs↔vs=l.map g∧bs=[]
 | [],vs,bs=>by simp[A0]
 |x::l,vs,bs=>by
  simp only[List.map_cons,A0]
  constructor
  ·rintro⟨v,vs',b1,b2,rfl,rfl,h1,h2⟩
   obtain⟨rfl,rfl⟩:=hf.1 h1
   obtain⟨rfl,rfl⟩:=(O3 hf).1 h2
   exact⟨rfl,rfl⟩
  ·rintro⟨rfl,rfl⟩
   exact⟨_,_,[],[],rfl,rfl,hf.2 ⟨rfl,rfl⟩,(O3 hf).2 ⟨rfl,rfl⟩⟩
theorem Row.resize {es n:Nat}{A:Option Addr}{xs:List (List Value)}(h:Row w S es A xs) (hl:∀x∈xs,x.length=n):Row w S n A xs:=by
 cases xs with
 |nil=>exact Row.nil
 |cons x xs =>
  have h1:=h.1 x (by simp)
  have h2:=hl x (by simp)
  rw[←h2,h1]
  exact h
theorem Yu {α:Type}{f:α→List C}{g:α→List Value}{n:Nat}(hf:∀{x v bs},CRs w S (f x) v bs↔v=g x∧bs=[]) (hg:∀x,(g x).length=n) {l:List α}{v:Value} :
  CR w S (.sl (l.map f)) v []↔∃A cap,v=.slice A l.length cap∧l.length≤cap∧Row w S n A (l.map g):=by
 simp only[CR]
 constructor
 ·rintro⟨es,A,cap,vrows,rfl,h2,_,h4,h5,_⟩
  obtain⟨rfl,_⟩:=(O3 hf).1 h5
  rw[List.length_map]at h2 ⊢
  exact⟨A,cap,rfl,h2,h4.resize (by simp[hg])⟩
 ·rintro⟨A,cap,rfl,h2,h4⟩
  exact⟨n,A,cap,l.map g,by rw[List.length_map],by rw[List.length_map];exact h2,trivial,h4,(O3 hf).2 ⟨rfl,rfl⟩,trivial⟩
theorem a23 (c:CellD):(Bh c).length=5:=rfl
theorem MS {xs:List CellD}{v:Value}:CR w S (.sl (xs.map CellD.cs)) v []↔∃A cap,v=.slice A xs.length cap∧xs.length≤cap∧AL w S A xs:=Yu a0g a23
theorem Yw {s:ByteArray}{v:List Value}{bs:List Nat}:CRs w S (CX s) v bs↔v=[.string s]∧bs=[]:=by
 simp only[CX,CRs,CR]
 constructor
 ·rintro⟨_,_,_,_,rfl,rfl,⟨rfl,rfl⟩,rfl,rfl⟩
  exact⟨rfl,rfl⟩
 ·rintro⟨rfl,rfl⟩
  exact⟨_,_,[],[],rfl,rfl,⟨rfl,rfl⟩,rfl,rfl⟩
theorem Yv {xs:List ByteArray}{v:Value}:CR w S (.sl (xs.map CX)) v []↔∃A cap,v=.slice A xs.length cap∧xs.length≤cap∧F8 w S A xs:=Yu (f:=CX) (g:=fun k=>[.string k]) (n:=1) Yw fun _=>rfl
mutual
theorem Vx:∀{t:V}{vs:List Value},AU w S t vs→CRs w S t.cs vs []
 | .mk kind num text keys kids,vs,h=>by
  simp only[AU]at h
  obtain⟨Ak,ck,Av,cv,kvs,rfl,h2,h3,h4,h5,h6⟩:=h
  have h7:=RJ h6
  have hl:=h7.length
  simp only[GS,List.length_map]at hl
  simp only[V.cs,CRs]
  refine⟨_,_,[],[],rfl,rfl,⟨rfl,rfl⟩,_,_,[],[],rfl,rfl,⟨rfl,rfl⟩,_,_,[],[],rfl,rfl,⟨rfl,rfl⟩,_,_,[],[],rfl,rfl,Yv.2 ⟨_,_,rfl,h2,h4⟩,_,_,[],[],rfl,rfl,?_,rfl,rfl⟩
  simp only[CR]
  exact⟨5,Av,cv,kvs,by rw[GS,List.length_map],by rw[GS,List.length_map];exact h3,trivial,h5,h7,trivial⟩
theorem RJ:∀{ts:List V}{vs:List (List Value)},Aa w S ts vs→A0 w S (csL ts) vs []
 | [],vs,h=>by
  simp only[Aa]at h
  subst h
  exact⟨rfl,rfl⟩
 |t::ts,vs,h=>by
  simp only[Aa]at h
  obtain⟨v,vs',rfl,h1,h2⟩:=h
  exact⟨_,_,[],[],rfl,rfl,Vx h1,RJ h2⟩
end
end
theorem Tk {w:World}{S:Nat→Prop}{m:Mem}{κ:Id→Value}:∀{xs:List C}{vs:List Value},CRs w S xs vs []→ARs w S m κ (xs.map .c) vs
 | [],vs,h=>by
  simp only[CRs]at h
  exact h.1
 |x::xs,vs,h=>by
  simp only[CRs]at h
  obtain⟨v,vs',b1,b2,rfl,h0,h1,h2⟩:=h
  have h3:b1=[]∧b2=[]:=by simpa using h0.symm
  obtain⟨rfl,rfl⟩:=h3
  exact⟨v,vs',rfl,h1,Tk h2⟩
theorem V.av_eq (t:V):t.av=.agg (t.cs.map .c):=by rw[V.cs_eq];rfl
theorem a3a {w:World}{S:Nat→Prop}{m:Mem}{κ:Id→Value}{t:V}{vs:List Value}(h:AU w S t vs):AR w S m κ t.av (.agg vs.toArray):=by
 rw[V.av_eq]
 refine⟨vs,rfl,Tk (Vx h),?_⟩
 intro u hu
 cases t
 simp only[AU]at h
 obtain⟨Ak,ck,Av,cv,kvs,rfl,_⟩:=h
 simp only[List.mem_cons,List.not_mem_nil,or_false]at hu
 rcases hu with rfl | rfl | rfl | rfl | rfl<;>rfl
theorem AC.of_calls {P:Program}{f:FuncId}{args:List AV}{res:AV}
  (h:∀(S:Nat→Prop) (w:World) (κ:Id→Value) (Bh:List Value),ARs w S [] κ args Bh→Calls P f Bh.toArray w fun e w'=>Below w.heap.size w w'∧∃v,e=.returned v∧∀T:Nat→Prop,(∀b,S b→T b)→(∀b,w.heap.size≤b→T b)→AR w' T [] κ res v):AC P f args [] res []:=by
 intro Γ Bh hE hA
 have how:∀b,Γ.ow b=none:=by
  intro b
  cases hb:Γ.ow b with
  |none=>rfl
  |some i=>obtain⟨_,o,h1,_⟩:=hE.own b i hb;simp[Mem.get]at h1
 refine (h _ _ _ _ hA).mono ?_
 rintro e w' ⟨hb,v,rfl,hv⟩
 refine⟨v,Γ.ow,Γ.κ,rfl,⟨hv _ (fun _ h=>h) (fun b hb=>⟨how b,.inr (.inl hb)⟩),fun i o h=>(by simp[Mem.get]at h),fun b i h=>(by rw[how b]at h;cases h),hb.os,hb.tape,hb.output,hb.size,fun b hl _=>⟨hb.block b hl,how b⟩,fun i o o' h=>(by simp[Mem.get]at h)⟩⟩
def noV:AV:=.agg [.c (.int .i64 0),.c (.int .i64 0),.c (.str ByteArray.empty),.nils,.nils]
theorem Ki:noV=.agg [.c (.int .i64 0),.c (.int .i64 0),.c (.str ByteArray.empty),.nils,.nils]:=rfl
theorem a45 {w:World}{S:Nat→Prop}{m:Mem}{κ:Id→Value}:AR w S m κ noV (.agg F5) :=
 ⟨[.int .i64 0,.int .i64 0,.string ByteArray.empty,.slice none 0 0,.slice none 0 0],rfl,⟨_,_,rfl,⟨rfl,rfl⟩,_,_,rfl,⟨rfl,rfl⟩,_,_,rfl,⟨rfl,rfl⟩,_,_,rfl,rfl,_,_,rfl,rfl,rfl⟩,by
  intro u hu
  simp only[List.mem_cons,List.not_mem_nil,or_false]at hu
  rcases hu with rfl | rfl | rfl | rfl | rfl<;>rfl⟩
theorem Mw (xs:List CellD) (hz:Lk xs) (hd:(dec xs).2=none):AC Tryz.prog 56 [Iw xs] [] (.tup [noV,.c (.int .i64 (dec xs).1)]) []:=by
 refine AC.of_calls fun S w κ vs hv=>?_
 obtain⟨v,vs',rfl,h1,rfl⟩:=hv
 obtain⟨A,cap,rfl,_,hc⟩:=MS.1 h1
 refine (Uo xs hz A cap S w hc).mono ?_
 rintro e w' ⟨hb,he⟩
 rw[hd]at he
 subst he
 exact⟨hb,_,rfl,fun T _ _=>⟨[_,_],rfl,_,_,rfl,a45,_,_,rfl,⟨rfl,rfl⟩,rfl⟩⟩
theorem LK (xs:List CellD) (hz:Lk xs) {t:V}(hd:(dec xs).2=some t):AC Tryz.prog 56 [Iw xs] [] (.tup [t.av,.c (.int .i64 0)]) []:=by
 refine AC.of_calls fun S w κ vs hv=>?_
 obtain⟨v,vs',rfl,h1,rfl⟩:=hv
 obtain⟨A,cap,rfl,_,hc⟩:=MS.1 h1
 refine (Uo xs hz A cap S w hc).mono ?_
 rintro e w' ⟨hb,he⟩
 rw[hd]at he
 obtain⟨vs,rfl,hr⟩:=he
 exact⟨hb,_,rfl,fun T _ hT=>⟨[_,_],rfl,_,_,rfl,a3a (hr.weaken fun b hb _=>hT b hb),_,_,rfl,⟨rfl,rfl⟩,rfl⟩⟩
end
section
open Go.RowKit
def a1z (p:List V×V):List C:=[.osl ((Ir p.1).enc.map CellD.cs)]
theorem Zk (l:List (List V×V)):((l.map a1z).all fun r=>r.length==1)=true:=by simp[a1z]
attribute [go_sem] Zk
set_option maxRecDepth 10000
theorem Zm (l:List V):(Ir l).count=GR l+1:=rfl
def PS (c:Int) (t:V):AV:=.agg [.c (.int .i64 c),.c (.int .i64 t.kind),.c (.int .i64 t.num),.c (.str t.text),.c (.sl (t.keys.map CX)),.c (.sl (t.kids.map V.cs))]
def Qs (r:Int×Option V):AV:=match r.2 with
 |some t=>PS 0 t
 |none=>PS r.1 Dq
theorem Z3 (c:Int) (t:V):PS c t=.agg [.c (.int .i64 c),.c (.int .i64 t.kind),.c (.int .i64 t.num),.c (.str t.text),.c (.sl (t.keys.map CX)),.c (.sl (t.kids.map V.cs))]:=rfl
theorem Ql (c:Int):PS c Dq=.agg [.c (.int .i64 c),.c (.int .i64 0),.c (.int .i64 0),.c (.str ByteArray.empty),.c (.sl []),.c (.sl [])]:=rfl
theorem Vc (t:V):Qs (okR t)=PS 0 t:=rfl
theorem Oj (c:Int):Qs (FX c)=PS c Dq:=rfl
theorem Od:Dq.av=.agg [.c (.int .i64 0),.c (.int .i64 0),.c (.str ByteArray.empty),.c (.sl []),.c (.sl [])]:=rfl
attribute [go_sem] Z3
set_option maxRecDepth 10000
theorem PO:AC Tryz.prog 45 [] [] Dq.av []:=by
 rw[Od]
 refine JI Tryz.func45 Tryz.ntmps45 ?_
 refine JV q9 ?_
 exact JW (Iu []) Tryz.results45
theorem N3 (c:Int):AC Tryz.prog 150 [.c (.int .i64 c)] [] (PS c Dq) []:=by
 rw[Ql]
 refine JI Tryz.func150 Tryz.ntmps150 ?_
 refine JV q9 ?_
 exact JW (Iu []) Tryz.results150
theorem Np:∀(m:Nat) (t:V),t.count≤m→t.count≤500000→AC Tryz.prog 120 [t.av] [] (.c (.int .i64 t.count)) []:=by
 intro m
 induction m with
 |zero=>intro t hm _;have:=K8 t;omega
 |succ m ih =>
  intro t hm hM
  have hkc:=K4 t
  have hkl:=KA t.kids
  obtain⟨R,hR⟩:∃R:Nat→Nat,∀k,R k=1+GR (t.kids.take k):=⟨_,fun _=>rfl⟩
  have h0:R 0=1:=by rw[hR];simp[GR]
  refine JI Tryz.func120 Tryz.ntmps120 ?_
  refine JV q9 ?_
  refine Jz (κ:=Nat) (fun k=>⟨mkS 0 19 [(1,.ptr (1,0) 0),(3,.c (.int .i64 (R k))),(7,.c (.sl (t.kids.map V.cs))),(8,.c (.int .i64 t.kids.length)),(9,.c (.int .i64 k))],
    [((1,0),.box [.c (.int .i64 t.kind),.c (.int .i64 t.num),.c (.str t.text),.c (.sl (t.keys.map CX)),.c (.sl (t.kids.map V.cs))])]⟩)
   (fun k=>k≤t.kids.length) (fun k=>t.kids.length-k) 0 (Nat.zero_le _) ?_ ?_
  ·exact JQ (F7.of [((1,0),(1,0))] []) h0
  ·intro k hk
   by_cases hlt:k<t.kids.length
   ·have hd:decide ((k:Int)<(t.kids.length:Int))=true:=by simpa using hlt
    have hr:B4 (t.kids.map V.cs) 5 k=true:=by simp[B4,hlt,V.cs_eq]
    have hg:(t.kids.map V.cs)[k]? = some t.kids[k].cs:=by simp[hlt]
    have hmem:=K7 (List.getElem_mem hlt)
    have hRk:R (k+1)=R k+t.kids[k].count:=by rw[hR,hR,List.take_succ_eq_append_getElem hlt,Lo];omega
    have hRl:R (k+1)≤t.count:=by rw[hR];have:=M3 t.kids (k+1);omega
    have hw:=JX (k:=k) (by omega)
    generalize t.kids[k]=u at *
    have hi:=ih u (by omega) (by omega)
    have hs:IntKind.i64.wrap ((R k:Int)+(u.count:Int))=((R (k+1):Nat):Int):=by rw[IntWalk.i64_in _ (by omega)];omega
    refine JV (j3 hd hr hg) ?_
    refine w7 (Ju [] hi) q9 ?_
    refine JV (j2 hs hw) ?_
    refine⟨k+1,by omega,by omega,?_⟩
    exact JQ (F7.of [((1,0),(1,0))] []) hs
   ·have hd:decide ((k:Int)<(t.kids.length:Int))=false:=by simpa using hlt
    have hke:R k=t.count:=by rw[hR,List.take_of_length_le (by omega)];omega
    refine JV hd ?_
    exact Iu [] (by simp only[Tryz.results120,go_sem,Nat.reduceBEq,Nat.reduceLT];exact rfl) (by simp only[go_sem,Nat.reduceEqDiff,Nat.reduceAdd,Nat.reduceSub,Nat.reduceLeDiff,Nat.reduceMul,Nat.reduceBEq,Nat.reduceLT,Int.reduceToNat,reduceCtorEq,hke]) rfl
theorem KI {s:ByteArray}(h:Fr s=true):s.size≤60:=by
 unfold Fr at h
 simp only[Bool.and_eq_true,decide_eq_true_eq]at h
 exact h.1
theorem LZ {t:V}(h:t.right):Lk t.enc:=by
 intro c hc
 have h1:=Mz t ByteArray.empty h.1 Ka c hc
 have h2:=Ov h1
 exact⟨by have:=KI h2.1;omega,by have:=KI h2.2;omega⟩
theorem a69 {t:V}(h:t.right):AC Tryz.prog 90 [t.av] [] (.c (.int .i64 0)) []:=by
 have hc:=h.2.1
 have h1:=Np t.count t (Nat.le_refl _) (by omega)
 have h2:=Rz t.count t (Nat.le_refl _) (by omega) (Lc h)
 have h3:=LK t.enc (LZ h) (t:=t) (by rw[MK h])
 have hd:decide ((t.count:Int)>200)=false:=by simp;omega
 refine JI Tryz.func90 Tryz.ntmps90 ?_
 refine JV q9 ?_
 refine w7 (Ju [] h1) q9 ?_
 refine JV hd ?_
 refine w12 (Kj [] h2) q9 ?_
 refine w9 (Ja [(10,0)] h3) q9 ?_
 refine JV q9 ?_
 exact JW (Iu []) Tryz.results90
theorem S3 {t:V}(h:t.right):AC Tryz.prog 93 [t.av] [] (PS 0 t) []:=by
 have h1:=a69 h
 have h0:((0:Int) != 0)=false:=rfl
 refine JI Tryz.func93 Tryz.ntmps93 ?_
 refine JV q9 ?_
 refine w7 (Ju [] h1) q9 ?_
 refine JV h0 ?_
 exact JW (Iu []) Tryz.results93
set_option maxRecDepth 10000
theorem ZK (s:ByteArray):AC Tryz.prog 259 [.c (.str s)] [] (.c (.bool false)) []:=by
 refine JI Tryz.func259 Tryz.ntmps259 ?_
 (repeat (first | (with_reducible first | refine Ig ?_ | refine GH ?_ | refine FD ?_ | refine FF ?_) | ((with_reducible apply Hc);(iterate 2 (focus (first | (simp only[go_sem,Nat.reduceEqDiff,Nat.reduceAdd,Nat.reduceSub,Nat.reduceLeDiff,Nat.reduceMul,Nat.reduceBEq,Nat.reduceLT,Int.reduceToNat,reduceCtorEq,beq_self_eq_true];first | done | exact rfl | (and_intros<;>rfl)) | exact rfl | decide)))) | ((with_reducible refine Il ?_);dsimp only;try ((with_reducible apply Ha);(focus (simp only[go_sem];exact rfl));(focus decide))) | ((with_reducible first | refine Ie ?_ | refine GI ?_ | refine FE ?_);dsimp only) | ((with_reducible refine GG ?_);dsimp only;simp only[if_true,if_false,Nat.reduceEqDiff]) | ((with_reducible apply Jc);(focus (simp only[go_sem,Nat.reduceBEq,Nat.reduceLT,beq_self_eq_true];exact rfl));dsimp only[cond_true,cond_false]) | ((with_reducible refine GE ?_ ?_);(focus exact rfl))))
 exact JW (Iu []) Tryz.results259
theorem ZL (s:ByteArray):AC Tryz.prog 249 [.c (.str s)] [] (.c (.bool false)) []:=by
 refine JI Tryz.func249 Tryz.ntmps249 ?_
 (repeat (first | (with_reducible first | refine Ig ?_ | refine GH ?_ | refine FD ?_ | refine FF ?_) | ((with_reducible apply Hc);(iterate 2 (focus (first | (simp only[go_sem,Nat.reduceEqDiff,Nat.reduceAdd,Nat.reduceSub,Nat.reduceLeDiff,Nat.reduceMul,Nat.reduceBEq,Nat.reduceLT,Int.reduceToNat,reduceCtorEq,beq_self_eq_true];first | done | exact rfl | (and_intros<;>rfl)) | exact rfl | decide)))) | ((with_reducible refine Il ?_);dsimp only;try ((with_reducible apply Ha);(focus (simp only[go_sem];exact rfl));(focus decide))) | ((with_reducible first | refine Ie ?_ | refine GI ?_ | refine FE ?_);dsimp only) | ((with_reducible refine GG ?_);dsimp only;simp only[if_true,if_false,Nat.reduceEqDiff]) | ((with_reducible apply Jc);(focus (simp only[go_sem,Nat.reduceBEq,Nat.reduceLT,beq_self_eq_true];exact rfl));dsimp only[cond_true,cond_false]) | ((with_reducible refine GE ?_ ?_);(focus exact rfl))))
 exact JW (Iu []) Tryz.results249
theorem Xf (a b:ByteArray):AC Tryz.prog 248 [.c (.str a),.c (.str b)] [] (.c (.bool (Jj a b))) []:=by
 refine JI Tryz.func248 Tryz.ntmps248 ?_
 refine JV q9 ?_
 refine w7 (Ju [] (ZK a)) q9 ?_
 refine JV q9 ?_
 exact Iu [] (by simp only[Tryz.results248,go_sem,Nat.reduceBEq,Nat.reduceLT];exact rfl) (by simp only[go_sem,Nat.reduceEqDiff,Nat.reduceAdd,Nat.reduceSub,Nat.reduceLeDiff,Nat.reduceMul,Nat.reduceBEq,Nat.reduceLT,Int.reduceToNat,reduceCtorEq,Jj]) rfl
def KH (ks:List ByteArray) (key:ByteArray):Nat:=ks.findIdx fun k=>!Jj k key
theorem Py (ks:List ByteArray) (key:ByteArray):KH ks key≤ks.length:=List.findIdx_le_length
theorem Q9 {ks:List ByteArray}{key:ByteArray}{t:Nat}(h:t<KH ks key):Jj (ks[t]'(by have:=Py ks key;omega)) key=true:=by
 have:=List.not_of_lt_findIdx h
 simpa using this
theorem Rx {ks:List ByteArray}{key:ByteArray}(hs:asc none ks) {t:Nat}(ht:t<ks.length) (h:KH ks key≤t):Jj ks[t] key=false:=by
 have hp:KH ks key<ks.length:=by omega
 have h1:Jj (ks[KH ks key]) key=false:=by
  have h2:(fun k=>!Jj k key) (ks[KH ks key])=true:=List.findIdx_getElem (w:=hp)
  simpa using h2
 by_cases he:t=KH ks key
 ·subst he;exact h1
 ·have h2:=Md hs (i:=KH ks key) (j:=t) (by omega) ht
  cases hl:Jj ks[t] key with
  |false=>rfl
  |true =>
   have:=Lt h2 hl
   rw[h1]at this
   cases this
def Kr (ks:List ByteArray) (key:ByteArray):Bool:=if h:KH ks key<ks.length then ks[KH ks key].toList==key.toList else false
theorem Xo {ks:List ByteArray}{key:ByteArray}(hs:asc none ks):HM ks key=if Kr ks key then some (KH ks key) else none:=by
 rw[RW hs (Py ks key) (fun t h=>Q9 h) (fun t h hp=>Rx hs h hp)]
 unfold Kr
 by_cases h:KH ks key<ks.length
 ·rw[dif_pos h,dif_pos h]
 ·rw[dif_neg h,dif_neg h];rfl
theorem Uy (ks:List ByteArray) (key:ByteArray) (hs:asc none ks) (hl:ks.length≤1000000):AC Tryz.prog 205 [.c (.sl (ks.map CX)),.c (.str key)] [] (.tup [.c (.int .i64 (KH ks key)),.c (.bool (Kr ks key))]) []:=by
 have hple:=Py ks key
 obtain⟨p,hp⟩:∃p,p=KH ks key:=⟨_,rfl⟩
 rw[←hp]at hple
 refine JI Tryz.func205 Tryz.ntmps205 ?_
 refine JV q9 ?_
 refine Jz (κ:=Nat×Nat) (fun x=>⟨mkS 0 54 [(0,.c (.sl (ks.map CX))),(1,.c (.str key)),(6,.c (.int .i64 ks.length)),(7,.c (.int .i64 x.1)),(8,.c (.int .i64 x.2))],[]⟩)
  (fun x=>x.1≤p∧p≤x.2∧x.2≤ks.length) (fun x=>x.2-x.1) (0,ks.length) ⟨Nat.zero_le _,hple,Nat.le_refl _⟩ ?_ ?_
 ·exact JQ (F7.of [] []) hl
 ·rintro⟨i,j⟩ ⟨hi,hj,hjn⟩
  dsimp only at hi hj hjn ⊢
  by_cases hlt:i<j
  ·have hdk:decide ((i:Int)<(j:Int))=true:=by simpa using hlt
   have hm1:(i+j) / 2<j:=by omega
   have hm2:i≤(i+j) / 2:=by omega
   have hwa:IntKind.i64.wrap ((i:Int)+(j:Int))=((i+j:Nat):Int):=by rw[IntWalk.i64_in _ (by omega)];omega
   have hwu:IntKind.u64.wrap ((i+j:Nat):Int)=((i+j:Nat):Int):=by
    unfold IntKind.wrap
    simp[IntKind.bits,IntKind.signed]
    omega
   have hwh:IntKind.i64.wrap (((i+j) / 2:Nat):Int)=(((i+j) / 2:Nat):Int):=by rw[IntWalk.i64_in _ (by omega)]
   generalize hH:(i+j) / 2=h at *
   have hhl:h<ks.length:=by omega
   have hr:B4 (ks.map CX) 1 h=true:=by simp[B4,hhl,CX]
   have hg:(ks.map CX)[h]? = some [.str ks[h]]:=by simp[hhl,CX]
   have hc:=Xf ks[h] key
   have hw1:=JX (k:=h) (by omega)
   cases hb:Jj ks[h] key with
   |true =>
    rw[hb]at hc
    have hhp:h<p:=by
     by_cases hq:h<p
     ·exact hq
     ·rw[hp]at hq
      have:=Rx (key:=key) hs hhl (by omega)
      rw[this]at hb
      cases hb
    refine JV (j3 hdk hwa hwu) ?_
    ((with_reducible apply Jw);(iterate 4 (focus (first | (simp only[go_sem,Nat.reduceEqDiff,Nat.reduceAdd,Nat.reduceSub,Nat.reduceLeDiff,Nat.reduceMul,Nat.reduceBEq,Nat.reduceLT,Int.reduceToNat,reduceCtorEq,hwa,hwu];first | done | exact rfl | (and_intros<;>rfl)) | exact rfl | decide))))
    refine JV (j4 hH hwh hr hg) ?_
    refine w7 (Ju [] hc) q9 ?_
    refine JV hw1 ?_
    refine⟨(h+1,j),by dsimp only;omega,⟨by dsimp only;omega,hj,hjn⟩,?_⟩
    exact JQ (F7.of [] []) hw1
   |false =>
    rw[hb]at hc
    have hhp:p≤h:=by
     by_cases hq:p≤h
     ·exact hq
     ·rw[hp]at hq
      have:=Q9 (ks:=ks) (key:=key) (t:=h) (by omega)
      rw[this]at hb
      cases hb
    refine JV (j3 hdk hwa hwu) ?_
    ((with_reducible apply Jw);(iterate 4 (focus (first | (simp only[go_sem,Nat.reduceEqDiff,Nat.reduceAdd,Nat.reduceSub,Nat.reduceLeDiff,Nat.reduceMul,Nat.reduceBEq,Nat.reduceLT,Int.reduceToNat,reduceCtorEq,hwa,hwu];first | done | exact rfl | (and_intros<;>rfl)) | exact rfl | decide))))
    refine JV (j4 hH hwh hr hg) ?_
    refine w7 (Ju [] hc) q9 ?_
    refine JV q9 ?_
    refine⟨(i,h),by dsimp only;omega,⟨hi,hhp,by dsimp only;omega⟩,?_⟩
    exact JQ (F7.of [] []) hw1
  ·have hdk:decide ((i:Int)<(j:Int))=false:=by simpa using hlt
   have hip:i=p:=by omega
   subst hip
   by_cases hpn:i<ks.length
   ·have hdn:decide ((i:Int)<(ks.length:Int))=true:=by simpa using hpn
    have hr:B4 (ks.map CX) 1 i=true:=by simp[B4,hpn,CX]
    have hg:(ks.map CX)[i]? = some [.str ks[i]]:=by simp[hpn,CX]
    have hf:Kr ks key=(ks[i].toList==key.toList):=by
     unfold Kr
     rw[dif_pos (by omega)]
     simp only[←hp]
    rw[hf,←hp]
    cases hb:ks[i].toList==key.toList with
    |true =>
     refine JV (j5 hdk hdn hr hg hb) ?_
     exact JW (Iu []) Tryz.results205
    |false =>
     refine JV (j5 hdk hdn hr hg hb) ?_
     refine w7 (Ju [] (ZL _)) q9 ?_
     refine JV q9 ?_
     exact JW (Iu []) Tryz.results205
   ·have hdn:decide ((i:Int)<(ks.length:Int))=false:=by simpa using hpn
    have hf:Kr ks key=false:=by
     unfold Kr
     rw[dif_neg (by omega)]
    rw[hf,←hp]
    refine JV (j2 hdk hdn) ?_
    exact JW (Iu []) Tryz.results205
theorem ZU {t:V}(h:t.right) (h6:t.kind=6) (key:ByteArray):AC Tryz.prog 154 [t.av,.c (.str key)] [] (t.member key).av []:=by
 obtain⟨hs,_,hkl⟩:=KL h h6
 have hlc:=KA t.kids
 have hck:=K4 t
 have hc:=h.2.1
 have hb:=Uy t.keys key hs (by omega)
 have hfk:=Xo (ks:=t.keys) (key:=key) hs
 cases hf:Kr t.keys key with
 |false =>
  rw[hf]at hfk hb
  have hm:t.member key=Dq:=by unfold V.member;rw[hfk];rfl
  rw[hm]
  refine JI Tryz.func154 Tryz.ntmps154 ?_
  refine JV q9 ?_
  refine w7 (Ju [] hb) q9 ?_
  refine JV q9 ?_
  refine w7 (Ju [] PO) q9 ?_
  refine JV q9 ?_
  exact JW (Iu []) Tryz.results154
 |true =>
  rw[hf]at hfk hb
  have hp:KH t.keys key<t.kids.length:=by
   unfold Kr at hf
   split at hf
   ·omega
   ·cases hf
  have hm:t.member key=t.kids[KH t.keys key]:=by
   unfold V.member
   rw[hfk]
   simp only[if_true]
   rw[List.getD_eq_getElem?_getD,List.getElem?_eq_getElem hp,Option.getD_some]
  rw[hm]
  generalize KH t.keys key=p at *
  have hr:B4 (t.kids.map V.cs) 5 p=true:=by simp[B4,hp,V.cs_eq]
  have hg:(t.kids.map V.cs)[p]? = some t.kids[p].cs:=by simp[hp]
  refine JI Tryz.func154 Tryz.ntmps154 ?_
  refine JV q9 ?_
  refine w7 (Ju [] hb) q9 ?_
  refine JV (j2 hr hg) ?_
  exact JW (Iu []) Tryz.results154
theorem XH {a b:ByteArray}(h:Jj a b=true):Jj b a=false:=by
 cases h2:Jj b a with
 |false=>rfl
 |true =>
  have:=Lt h h2
  rw[Ko]at this
  cases this
theorem P6 (x:ByteArray) (r:List ByteArray) (k:ByteArray):KH (x::r) k=if Jj x k then KH r k+1 else 0:=by
 unfold KH
 rw[List.findIdx_cons]
 cases Jj x k<;>rfl
theorem My {l:List ByteArray}{k:ByteArray}:Kr l k=true↔l[KH l k]? = some k:=by
 unfold Kr
 split
 ·rename_i h
  rw[List.getElem?_eq_getElem h,beq_iff_eq,Option.some.injEq]
  exact⟨K3,fun e=>by rw[e]⟩
 ·rename_i h
  rw[List.getElem?_eq_none (by omega)]
  simp
theorem z8 {l:List ByteArray}{k:ByteArray}(h:KH l k<l.length):Jj l[KH l k] k=false:=by
 have h2:(fun x=>!Jj x k) (l[KH l k])=true:=List.findIdx_getElem (w:=h)
 simpa using h2
theorem Pe:∀{l:List ByteArray}{k:ByteArray},Up l→GZ k l=if Kr l k then l else l.take (KH l k)++[k]++l.drop (KH l k)
 | [],k,_=>by simp[GZ,Kr,KH]
 |x::r,k,h=>by
  have h':=List.pairwise_cons.1 (show List.Pairwise _ (x::r) from h)
  unfold GZ
  split
  ·rename_i hl
   have hx:=XH hl
   have hp:KH (x::r) k=0:=by rw[P6,hx];rfl
   have hf:Kr (x::r) k=false:=by
    cases hf:Kr (x::r) k with
    |false=>rfl
    |true =>
     have:=My.1 hf
     rw[hp]at this
     have e:x=k:=by simpa using this
     subst e
     rw[Ko]at hl
     cases hl
   rw[hf,hp]
   simp
  ·rename_i hl
   split
   ·rename_i he
    have e:k=x:=K3 (by simpa using he)
    subst e
    have hp:KH (k::r) k=0:=by rw[P6,Ko];rfl
    have hf:Kr (k::r) k=true:=My.2 (by rw[hp];rfl)
    rw[hf]
    rfl
   ·rename_i he
    have hxk:Jj x k=true:=by
     rcases TS x k with g | g | g
     ·exact g
     ·subst g;exact absurd (by simp) he
     ·exact absurd g hl
    have hp:KH (x::r) k=KH r k+1:=by rw[P6,hxk];rfl
    have hf:Kr (x::r) k=Kr r k:=by
     have:Kr (x::r) k=true↔Kr r k=true:=by
      rw[My,My,hp,List.getElem?_cons_succ]
     cases h1:Kr (x::r) k<;>cases h2:Kr r k<;>simp_all
    rw[hf,hp,Pe h'.2]
    split
    ·rfl
    ·simp
theorem a5y {l:List ByteArray}(h:Up l) {p:Nat}{k:ByteArray}(hp:l[p]? = some k) (g g':ByteArray→V) (v:V) (hk:g' k=v) (hg:∀x∈l,x≠k→g' x=g x):l.map g'=(l.map g).set p v:=by
 refine List.ext_getElem (by simp) fun i h1 h2=>?_
 have hi:i<l.length:=by simpa using h1
 rw[List.getElem_map,List.getElem_set]
 split
 ·rename_i e
  subst e
  rw[List.getElem?_eq_getElem hi]at hp
  rw[Option.some.inj hp,hk]
 ·rename_i e
  rw[List.getElem_map]
  refine hg _ (List.getElem_mem hi) fun hx=>e ?_
  exact Vn h hp (List.getElem?_eq_some_iff.2 ⟨hi,hx⟩)
def I8 (v:V) (key:ByteArray) (x:V):Int×Option V:=if v.kind=0∨v.kind=6 then Ij (Jm (v.keys++[key]) (v.kids++[x])) else FX 6
def Jo (kids:List V) (n:Nat):List V:=kids++List.replicate (n+1-kids.length) Dq
def J0 (r:Int×Option V) (g:V→Int×Option V):Int×Option V:=match r with
 | (_,some u)=>g u
 | (c,none)=>(c,none)
def I7 (v:V) (n:Int) (f:V→Int×Option V):Int×Option V :=
 if v.kind=5∨v.kind=0 then
  if BY n v.kids.length<0 then FX 3
  else if BY n v.kids.length≥200 then FX 2
  else J0 (f ((Jo v.kids (BY n v.kids.length).toNat).getD (BY n v.kids.length).toNat Dq)) fun r=>Ij (Ir ((Jo v.kids (BY n v.kids.length).toNat).set (BY n v.kids.length).toNat r))
 else FX 6
def BT (x:V):List V→V→Int×Option V
 | [],_=>okR x
 |k::p,v=>if k.kind=3 then I7 v k.num (BT x p)
  else match KG v k.text with
   | (_,some w)=>match BT x p w with
    | (_,some r)=>I8 v k.text r
    | (c,none)=>(c,none)
   | (c,none)=>(c,none)
theorem YI {t:V}(h:t.fit):QT (Ij t):=by
 unfold Ij
 split
 ·rename_i h0
  exact⟨rfl,a3o h h0⟩
 ·rename_i h0
  exact h0
theorem Z4 (kids:List V) (n:Nat):(Jo kids n).length=max kids.length (n+1):=by
 unfold Jo
 rw[List.length_append,List.length_replicate]
 omega
theorem Qm {kids:List V}(h:∀v∈kids,v.right) (n:Nat):∀v∈Jo kids n,v.right:=fun v hv=>by
 rcases List.mem_append.1 hv with hv | hv
 ·exact h v hv
 ·rw[(List.mem_replicate.1 hv).2]
  exact LT
theorem a4d {kids:List V}{n:Nat}:(Jo kids n).getD n Dq=if h:n<kids.length then kids[n] else Dq:=by
 unfold Jo
 rw[List.getD_eq_getElem?_getD]
 split
 ·rename_i h
  rw[List.getElem?_append_left h,List.getElem?_eq_getElem h]
  rfl
 ·rename_i h
  rw[List.getElem?_append_right (by omega)]
  cases hg:(List.replicate (n+1-kids.length) Dq)[n-kids.length]? with
  |none=>rfl
  |some y=>exact (List.mem_replicate.1 (List.mem_of_getElem? hg)).2
theorem Zs {l:List V}{m:Nat}(h:∀v∈l,v.count≤m):GR l≤m*l.length:=by
 induction l with
 |nil=>simp[GR]
 |cons x l ih =>
  have h1:=h x (by simp)
  have h2:=ih fun v hv=>h v (by simp[hv])
  simp only[GR,List.length_cons,Nat.mul_add]
  omega
theorem Uw {l:List V}(h:∀v∈l,v.fit):(Ir l).fit:=⟨Nat.zero_le _,by simp,fun h=>absurd h (by decide),fun h=>absurd h (by decide),fun _=>rfl,RX.2 h⟩
theorem YZ {ks:List ByteArray}{vs:List V}(hl:ks.length=vs.length) (hk:∀k∈ks,k.size≤60) (hv:∀v∈vs,v.fit):(Jm ks vs).fit:=by
 refine⟨Nat.zero_le _,fun k h=>hk k (Kv.1 h),fun h=>absurd h (by decide),fun _=>(List.length_map _).symm,fun h=>absurd rfl h,RX.2 fun v h=>?_⟩
 obtain⟨k,hk',rfl⟩:=List.mem_map.1 h
 obtain⟨j,_,_,h3⟩:=Ml (kids:=vs) hl (Kv.1 hk')
 exact hv _ (List.mem_of_getElem? h3)
theorem Z9 {l:List V}{p:V→Prop}(h:∀v∈l,p v) {n:Nat}{r:V}(hr:p r):∀v∈l.set n r,p v:=fun v hv=>by
 rcases List.mem_or_eq_of_mem_set hv with hv | rfl
 ·exact h v hv
 ·exact hr
theorem SM {v:V}(h:v.right):∀k∈v.keys,k.size≤60:=a0t (Nq h)
theorem QY {v:V}(h:v.right) (h0:v.kind=0):v.keys=[]∧v.kids=[]:=by
 have:=KB h.1
 exact⟨this.2.2.2.2.1 (by omega),this.2.2.2.2.2 (by omega) (by omega)⟩
theorem Qt {v:V}(h:v.right) (hk:v.kind=0∨v.kind=6):v.keys.length=v.kids.length:=by
 rcases hk with h0 | h6
 ·rw[(QY h h0).1,(QY h h0).2];rfl
 ·exact (KL h h6).2.2
theorem SO {v x:V}(h:v.right) (hx:x.right) {key:ByteArray}(hk:Fr key=true) (h6:v.kind=0∨v.kind=6):(Jm (v.keys++[key]) (v.kids++[x])).fit:=by
 refine YZ (by rw[List.length_append,List.length_append,Qt h h6];rfl) (fun k hk'=>?_) fun y hy=>?_
 ·rcases List.mem_append.1 hk' with h1 | h1
  ·exact SM h k h1
  ·rw[List.mem_singleton.1 h1];exact MJ hk
 ·rcases List.mem_append.1 hy with h1 | h1
  ·exact Nq (K1 h h1)
  ·rw[List.mem_singleton.1 h1];exact Nq hx
theorem Vh {v x:V}(h:v.right) (hx:x.right) (key:ByteArray) (h6:v.kind=0∨v.kind=6):GR (v.kids++[x])≤400∧(Jm (v.keys++[key]) (v.kids++[x])).count≤401:=by
 have h1:=K4 v
 have h2:=h.2.1
 have h3:=hx.2.1
 have h4:GR (v.kids++[x])≤400:=by
  rw[Pa]
  simp only[GR]
  omega
 refine⟨h4,?_⟩
 have h5:=N0 _ (v.keys++[key]) (v.kids++[x]) rfl (by rw[List.length_append,List.length_append,Qt h h6];rfl)
 have h7:=K4 (Jm (v.keys++[key]) (v.kids++[x]))
 have h8:(Jm (v.keys++[key]) (v.kids++[x])).kids=(FQ (v.keys++[key])).map (FM (v.keys++[key]) (v.kids++[x])):=rfl
 rw[h8]at h7
 omega
theorem q6 {v x:V}(h:v.right) (hx:x.right) {key:ByteArray}(hk:Fr key=true):QT (I8 v key x):=by
 unfold I8
 split
 ·rename_i h6
  exact YI (SO h hx hk h6)
 ·exact Nv (by decide)
theorem SN {v r:V}(h:v.right) (hr:r.right) (n:Nat):(Ir ((Jo v.kids n).set n r)).fit :=
 Uw fun y hy=>Nq (Z9 (Qm (fun z hz=>K1 h hz) n) hr y hy)
theorem Vg {v r:V}(h:v.right) (hr:r.right) {n:Nat}(hn:n<200):(Ir ((Jo v.kids n).set n r)).count≤40001:=by
 have h1:=Zs (l:=(Jo v.kids n).set n r) (m:=200) fun y hy=>(Z9 (Qm (fun z hz=>K1 h hz) n) hr y hy).2.1
 have h2:=Kg h.2.1
 rw[List.length_set,Z4]at h1
 have h3:=K4 (Ir ((Jo v.kids n).set n r))
 rw[show (Ir ((Jo v.kids n).set n r)).kids=(Jo v.kids n).set n r from rfl]at h3
 have:200*max v.kids.length (n+1)≤200*200:=Nat.mul_le_mul_left _ (by omega)
 omega
theorem a5v {v:V}(h:v.right) (n:Nat):((Jo v.kids n).getD n Dq).right:=by
 rw[a4d]
 split
 ·exact K1 h (List.getElem_mem _)
 ·exact LT
theorem Pq {x:V}(hx:x.right):∀(p:List V),(∀k∈p,k.right∧(k.kind=3∨k.kind=4))→∀(v:V),v.right→QT (BT x p v)
 | [],_,v,_=>Sx hx
 |k::p,hp,v,hv=>by
  have ih:=Pq hx p fun y hy=>hp y (by simp[hy])
  unfold BT
  split
  ·unfold I7
   split
   ·split
    ·exact Nv (by decide)
    ·split
     ·exact Nv (by decide)
     ·have h1:=ih _ (a5v hv (BY k.num v.kids.length).toNat)
      generalize BT x p _=q at *
      rcases q with⟨c,_ | r⟩
      ·exact h1
      ·exact YI (SN hv h1.2 _)
   ·exact Nv (by decide)
  ·rename_i h3
   have hk4:k.kind=4:=(hp k (by simp)).2.resolve_left h3
   have hkt:Fr k.text=true:=by
    have:=(hp k (by simp)).1.1
    cases k
    exact (Ov (c:=⟨_,_,_,ByteArray.empty,_⟩) this.1).1
   have h1:=TG hv k.text
   generalize KG v k.text=q at *
   rcases q with⟨c,_ | w⟩
   ·exact h1
   ·have h2:=ih w h1.2
    dsimp only
    generalize BT x p w=q at *
    rcases q with⟨c,_ | r⟩
    ·exact h2
    ·exact q6 hv h2.2 hkt
theorem x7:∀{l:List ByteArray}{p:Option ByteArray},Up l→(∀k∈l,∀q,p=some q→Jj q k=true)→asc p l
 | [],p,_,_=>by unfold asc;trivial
 |k::l,p,h,hp=>by
  have h':=List.pairwise_cons.1 (show List.Pairwise _ (k::l) from h)
  have ih:asc (some k) l:=x7 h'.2 fun x hx q hq=>by cases hq;exact h'.1 x hx
  cases p with
  |none=>exact ih
  |some q=>exact⟨hp k (by simp) q rfl,ih⟩
theorem Nc:∀{l:List V},wfL l↔∀v∈l,v.wf
 | []=>by simp[wfL]
 |v::l=>by simp only[wfL,List.mem_cons,forall_eq_or_imp,Nc (l:=l)]
theorem Me {l:List V}{m:Nat}(h:∀v∈l,v.depth≤m):GU l≤m:=by
 induction l with
 |nil=>exact Nat.zero_le _
 |cons x l ih =>
  have h1:=h x (by simp)
  have h2:=ih fun v hv=>h v (by simp[hv])
  simp only[GU]
  omega
theorem XQ {ks:List ByteArray}{vs:List V}(hl:ks.length=vs.length) (hk:∀k∈ks,Fr k=true) (hu:Up ks) (hv:∀v∈vs,v.wf) (hn:vs.length≤200):(V.mk 6 0 ByteArray.empty ks vs).wf:=by
 refine⟨?_,?_,Nc.2 hv⟩
 ·unfold Ew
  have h1:inB 6 0 6=true:=by decide
  have h2:inB (vs.length:Int) 0 200=true:=by unfold inB;simp;omega
  simp[h1,cF,cR,cT,Ka,BR,h2,inB]
  omega
 ·unfold II
  rw[if_pos rfl]
  exact⟨hl,hk,x7 hu (by simp)⟩
end
end Go.Proofs.YtllfmaflodbieaaGreatDoor
