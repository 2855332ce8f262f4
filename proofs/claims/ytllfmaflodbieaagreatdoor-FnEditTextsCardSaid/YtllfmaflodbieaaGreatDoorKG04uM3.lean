/- Texts of this proof: G04 G05 G20 G21 M20 M21 M22. -/
import Derived.Test.YtllfmaflodbieaaGreatDoorKB3
import Derived.Test.YtllfmaflodbieaaGreatDoorKM2
set_option linter.all false
set_option maxHeartbeats 8000000
namespace Go.Proofs.YtllfmaflodbieaaGreatDoor
section
open Go.RowKit
section
variable {w:World} {S:Nat→Prop}
theorem Zn {c:CellD}{v:List Value}{bs:List Nat}:CRs w S c.cs v bs↔v=Bv c∧bs=[]:=by
 simp only[CellD.cs,CRs,CR,Bv]
 constructor
 ·rintro⟨_,_,_,_,rfl,rfl,⟨rfl,rfl⟩,_,_,_,_,rfl,rfl,⟨rfl,rfl⟩,_,_,_,_,rfl,rfl,⟨rfl,rfl⟩,_,_,_,_,rfl,rfl,⟨rfl,rfl⟩,_,_,_,_,rfl,rfl,⟨rfl,rfl⟩,rfl,rfl⟩
  exact⟨rfl,rfl⟩
 ·rintro⟨rfl,rfl⟩
  exact⟨_,_,[],[],rfl,rfl,⟨rfl,rfl⟩,_,_,[],[],rfl,rfl,⟨rfl,rfl⟩,_,_,[],[],rfl,rfl,⟨rfl,rfl⟩,_,_,[],[],rfl,rfl,⟨rfl,rfl⟩,_,_,[],[],rfl,rfl,⟨rfl,rfl⟩,rfl,rfl⟩
theorem Ig {α:Type}{f:α→List C}{g:α→List Value}(hf:∀{x v bs},CRs w S (f x) v bs↔v=g x∧bs=[]):∀{l:List α}{vs:List (List Value)}{bs:List Nat},Aj w S (l.map f) vs bs↔vs=l.map g∧bs=[]
 | [],vs,bs=>by simp[Aj]
 |x::l,vs,bs=>by
  simp only[List.map_cons,Aj]
  constructor
  ·rintro⟨v,vs',b1,b2,rfl,rfl,h1,h2⟩
   obtain⟨rfl,rfl⟩:=hf.1 h1
   obtain⟨rfl,rfl⟩:=(Ig hf).1 h2
   exact⟨rfl,rfl⟩
  ·rintro⟨rfl,rfl⟩
   exact⟨_,_,[],[],rfl,rfl,hf.2 ⟨rfl,rfl⟩,(Ig hf).2 ⟨rfl,rfl⟩⟩
theorem Row.resize {es n:Nat}{A:Option Addr}{xs:List (List Value)}(h:Row w S es A xs) (hl:∀x∈xs,x.length=n):Row w S n A xs:=by
 cases xs with
 |nil=>exact Row.nil
 |cons x xs =>
  have h1:=h.1 x (by simp)
  have h2:=hl x (by simp)
  rw[←h2,h1]
  exact h
theorem Wp {α:Type}{f:α→List C}{g:α→List Value}{n:Nat}(hf:∀{x v bs},CRs w S (f x) v bs↔v=g x∧bs=[]) (hg:∀x,(g x).length=n) {l:List α}{v:Value} :
  CR w S (.sl (l.map f)) v []↔∃A cap,v=.slice A l.length cap∧l.length≤cap∧Row w S n A (l.map g):=by
 simp only[CR]
 constructor
 ·rintro⟨es,A,cap,vrows,rfl,h2,_,h4,h5,_⟩
  obtain⟨rfl,_⟩:=(Ig hf).1 h5
  rw[List.length_map]at h2 ⊢
  exact⟨A,cap,rfl,h2,h4.resize (by simp[hg])⟩
 ·rintro⟨A,cap,rfl,h2,h4⟩
  exact⟨n,A,cap,l.map g,by rw[List.length_map],by rw[List.length_map];exact h2,trivial,h4,(Ig hf).2 ⟨rfl,rfl⟩,trivial⟩
theorem a0k (c:CellD):(Bv c).length=5:=rfl
theorem Dn {xs:List CellD}{v:Value}:CR w S (.sl (xs.map CellD.cs)) v []↔∃A cap,v=.slice A xs.length cap∧xs.length≤cap∧Bg w S A xs:=Wp Zn a0k
theorem Wr {s:ByteArray}{v:List Value}{bs:List Nat}:CRs w S (Ac s) v bs↔v=[.string s]∧bs=[]:=by
 simp only[Ac,CRs,CR]
 constructor
 ·rintro⟨_,_,_,_,rfl,rfl,⟨rfl,rfl⟩,rfl,rfl⟩
  exact⟨rfl,rfl⟩
 ·rintro⟨rfl,rfl⟩
  exact⟨_,_,[],[],rfl,rfl,⟨rfl,rfl⟩,rfl,rfl⟩
theorem Wq {xs:List ByteArray}{v:Value}:CR w S (.sl (xs.map Ac)) v []↔∃A cap,v=.slice A xs.length cap∧xs.length≤cap∧Qz w S A xs:=Wp (f:=Ac) (g:=fun k=>[.string k]) (n:=1) Wr fun _=>rfl
mutual
theorem Sk:∀{t:V}{vs:List Value},Ci w S t vs→CRs w S t.cs vs []
 | .mk kind num text keys kids,vs,h=>by
  simp only[Ci]at h
  obtain⟨Ak,ck,Av,cv,kvs,rfl,h2,h3,h4,h5,h6⟩:=h
  have h7:=JK h6
  have hl:=h7.length
  simp only[La,List.length_map]at hl
  simp only[V.cs,CRs]
  refine⟨_,_,[],[],rfl,rfl,⟨rfl,rfl⟩,_,_,[],[],rfl,rfl,⟨rfl,rfl⟩,_,_,[],[],rfl,rfl,⟨rfl,rfl⟩,_,_,[],[],rfl,rfl,Wq.2 ⟨_,_,rfl,h2,h4⟩,_,_,[],[],rfl,rfl,?_,rfl,rfl⟩
  simp only[CR]
  exact⟨5,Av,cv,kvs,by rw[La,List.length_map],by rw[La,List.length_map];exact h3,trivial,h5,h7,trivial⟩
theorem JK:∀{ts:List V}{vs:List (List Value)},Bh w S ts vs→Aj w S (csL ts) vs []
 | [],vs,h=>by
  simp only[Bh]at h
  subst h
  exact⟨rfl,rfl⟩
 |t::ts,vs,h=>by
  simp only[Bh]at h
  obtain⟨v,vs',rfl,h1,h2⟩:=h
  exact⟨_,_,[],[],rfl,rfl,Sk h1,JK h2⟩
end
end
theorem Pp {w:World}{S:Nat→Prop}{m:Mem}{κ:Id→Value}:∀{xs:List C}{vs:List Value},CRs w S xs vs []→ARs w S m κ (xs.map .c) vs
 | [],vs,h=>by
  simp only[CRs]at h
  exact h.1
 |x::xs,vs,h=>by
  simp only[CRs]at h
  obtain⟨v,vs',b1,b2,rfl,h0,h1,h2⟩:=h
  have h3:b1=[]∧b2=[]:=by simpa using h0.symm
  obtain⟨rfl,rfl⟩:=h3
  exact⟨v,vs',rfl,h1,Pp h2⟩
theorem V.av_eq (t:V):t.av=.agg (t.cs.map .c):=by rw[V.cs_eq];rfl
theorem a0s {w:World}{S:Nat→Prop}{m:Mem}{κ:Id→Value}{t:V}{vs:List Value}(h:Ci w S t vs):AR w S m κ t.av (.agg vs.toArray):=by
 rw[V.av_eq]
 refine⟨vs,rfl,Pp (Sk h),?_⟩
 intro u hu
 cases t
 simp only[Ci]at h
 obtain⟨Ak,ck,Av,cv,kvs,rfl,_⟩:=h
 simp only[List.mem_cons,List.not_mem_nil,or_false]at hu
 rcases hu with rfl | rfl | rfl | rfl | rfl<;>rfl
theorem AC.of_calls {P:Program}{f:FuncId}{args:List AV}{res:AV}
  (h:∀(S:Nat→Prop) (w:World) (κ:Id→Value) (Bv:List Value),ARs w S [] κ args Bv→Calls P f Bv.toArray w fun e w'=>Below w.heap.size w w'∧∃v,e=.returned v∧∀T:Nat→Prop,(∀b,S b→T b)→(∀b,w.heap.size≤b→T b)→AR w' T [] κ res v):AC P f args [] res []:=by
 intro Γ Bv hE hA
 have how:∀b,Γ.ow b=none:=by
  intro b
  cases hb:Γ.ow b with
  |none=>rfl
  |some i=>obtain⟨_,o,h1,_⟩:=hE.own b i hb;simp[Mem.get]at h1
 refine (h _ _ _ _ hA).mono ?_
 rintro e w' ⟨hb,v,rfl,hv⟩
 refine⟨v,Γ.ow,Γ.κ,rfl,⟨hv _ (fun _ h=>h) (fun b hb=>⟨how b,.inr (.inl hb)⟩),fun i o h=>(by simp[Mem.get]at h),fun b i h=>(by rw[how b]at h;cases h),hb.os,hb.tape,hb.output,hb.size,fun b hl _=>⟨hb.block b hl,how b⟩,fun i o o' h=>(by simp[Mem.get]at h)⟩⟩
def noV:AV:=.agg [.c (.int .i64 0),.c (.int .i64 0),.c (.str ByteArray.empty),.nils,.nils]
theorem e9:noV=.agg [.c (.int .i64 0),.c (.int .i64 0),.c (.str ByteArray.empty),.nils,.nils]:=rfl
theorem a25 {w:World}{S:Nat→Prop}{m:Mem}{κ:Id→Value}:AR w S m κ noV (.agg BJ) :=
 ⟨[.int .i64 0,.int .i64 0,.string ByteArray.empty,.slice none 0 0,.slice none 0 0],rfl,⟨_,_,rfl,⟨rfl,rfl⟩,_,_,rfl,⟨rfl,rfl⟩,_,_,rfl,⟨rfl,rfl⟩,_,_,rfl,rfl,_,_,rfl,rfl,rfl⟩,by
  intro u hu
  simp only[List.mem_cons,List.not_mem_nil,or_false]at hu
  rcases hu with rfl | rfl | rfl | rfl | rfl<;>rfl⟩
theorem Z0 (xs:List CellD) (hz:D7 xs) (hd:(dec xs).2=none):AC Tryz.prog 56 [Aq xs] [] (.tup [noV,.c (.int .i64 (dec xs).1)]) []:=by
 refine AC.of_calls fun S w κ vs hv=>?_
 obtain⟨v,vs',rfl,h1,rfl⟩:=hv
 obtain⟨A,cap,rfl,_,hc⟩:=Dn.1 h1
 refine (LO xs hz A cap S w hc).mono ?_
 rintro e w' ⟨hb,he⟩
 rw[hd]at he
 subst he
 exact⟨hb,_,rfl,fun T _ _=>⟨[_,_],rfl,_,_,rfl,a25,_,_,rfl,⟨rfl,rfl⟩,rfl⟩⟩
theorem Ui (xs:List CellD) (hz:D7 xs) {t:V}(hd:(dec xs).2=some t):AC Tryz.prog 56 [Aq xs] [] (.tup [t.av,.c (.int .i64 0)]) []:=by
 refine AC.of_calls fun S w κ vs hv=>?_
 obtain⟨v,vs',rfl,h1,rfl⟩:=hv
 obtain⟨A,cap,rfl,_,hc⟩:=Dn.1 h1
 refine (LO xs hz A cap S w hc).mono ?_
 rintro e w' ⟨hb,he⟩
 rw[hd]at he
 obtain⟨vs,rfl,hr⟩:=he
 exact⟨hb,_,rfl,fun T _ hT=>⟨[_,_],rfl,_,_,rfl,a0s (hr.weaken fun b hb _=>hT b hb),_,_,rfl,⟨rfl,rfl⟩,rfl⟩⟩
end
section
open Go.RowKit
def q8 (p:List V×V):List C:=[.osl ((Ba p.1).enc.map CellD.cs)]
theorem Xi (l:List (List V×V)):((l.map q8).all fun r=>r.length==1)=true:=by simp[q8]
attribute [go_sem] Xi
set_option maxRecDepth 10000
theorem Xm (l:List V):(Ba l).count=Ag l+1:=rfl
def a50 (c:Int) (t:V):AV:=.agg [.c (.int .i64 c),.c (.int .i64 t.kind),.c (.int .i64 t.num),.c (.str t.text),.c (.sl (t.keys.map Ac)),.c (.sl (t.kids.map V.cs))]
theorem a12 (c:Int) (t:V):a50 c t=.agg [.c (.int .i64 c),.c (.int .i64 t.kind),.c (.int .i64 t.num),.c (.str t.text),.c (.sl (t.keys.map Ac)),.c (.sl (t.kids.map V.cs))]:=rfl
theorem f7:BA.av=.agg [.c (.int .i64 0),.c (.int .i64 0),.c (.str ByteArray.empty),.c (.sl []),.c (.sl [])]:=rfl
attribute [go_sem] a12
set_option maxRecDepth 10000
theorem a1q:AC Tryz.prog 45 [] [] BA.av []:=by
 rw[f7]
 refine A5 Tryz.func45 Tryz.ntmps45 ?_
 refine A3 q9 ?_
 exact AL (Ad []) Tryz.results45
theorem Sh:∀(m:Nat) (t:V),t.count≤m→t.count≤500000→AC Tryz.prog 120 [t.av] [] (.c (.int .i64 t.count)) []:=by
 intro m
 induction m with
 |zero=>intro t hm _;have:=AY t;omega
 |succ m ih =>
  intro t hm hM
  have hkc:=AK t
  have hkl:=BL t.kids
  obtain⟨R,hR⟩:∃R:Nat→Nat,∀k,R k=1+Ag (t.kids.take k):=⟨_,fun _=>rfl⟩
  have h0:R 0=1:=by rw[hR];simp[Ag]
  refine A5 Tryz.func120 Tryz.ntmps120 ?_
  refine A3 q9 ?_
  refine AZ (κ:=Nat) (fun k=>⟨mkS 0 19 [(1,.ptr (1,0) 0),(3,.c (.int .i64 (R k))),(7,.c (.sl (t.kids.map V.cs))),(8,.c (.int .i64 t.kids.length)),(9,.c (.int .i64 k))],
    [((1,0),.box [.c (.int .i64 t.kind),.c (.int .i64 t.num),.c (.str t.text),.c (.sl (t.keys.map Ac)),.c (.sl (t.kids.map V.cs))])]⟩)
   (fun k=>k≤t.kids.length) (fun k=>t.kids.length-k) 0 (Nat.zero_le _) ?_ ?_
  ·exact As (AH.of [((1,0),(1,0))] []) h0
  ·intro k hk
   by_cases hlt:k<t.kids.length
   ·have hd:decide ((k:Int)<(t.kids.length:Int))=true:=by simpa using hlt
    have hr:Ae (t.kids.map V.cs) 5 k=true:=by simp[Ae,hlt,V.cs_eq]
    have hg:(t.kids.map V.cs)[k]? = some t.kids[k].cs:=by simp[hlt]
    have hmem:=BB (List.getElem_mem hlt)
    have hRk:R (k+1)=R k+t.kids[k].count:=by rw[hR,hR,List.take_succ_eq_append_getElem hlt,Gl];omega
    have hRl:R (k+1)≤t.count:=by rw[hR];have:=FR t.kids (k+1);omega
    have hw:=AA (k:=k) (by omega)
    generalize t.kids[k]=u at *
    have hi:=ih u (by omega) (by omega)
    have hs:IntKind.i64.wrap ((R k:Int)+(u.count:Int))=((R (k+1):Nat):Int):=by rw[IntWalk.i64_in _ (by omega)];omega
    refine A3 (j3 hd hr hg) ?_
    refine w7 (A8 [] hi) q9 ?_
    refine A3 (j2 hs hw) ?_
    refine⟨k+1,by omega,by omega,?_⟩
    exact As (AH.of [((1,0),(1,0))] []) hs
   ·have hd:decide ((k:Int)<(t.kids.length:Int))=false:=by simpa using hlt
    have hke:R k=t.count:=by rw[hR,List.take_of_length_le (by omega)];omega
    refine A3 hd ?_
    exact Ad [] (by simp only[Tryz.results120,go_sem,Nat.reduceBEq,Nat.reduceLT];exact rfl) (by simp only[go_sem,Nat.reduceEqDiff,Nat.reduceAdd,Nat.reduceSub,Nat.reduceLeDiff,Nat.reduceMul,Nat.reduceBEq,Nat.reduceLT,Int.reduceToNat,reduceCtorEq,hke]) rfl
theorem Fg {s:ByteArray}(h:AP s=true):s.size≤60:=by
 unfold AP at h
 simp only[Bool.and_eq_true,decide_eq_true_eq]at h
 exact h.1
theorem Bu {t:V}(h:t.right):D7 t.enc:=by
 intro c hc
 have h1:=Fa t ByteArray.empty h.1 B7 c hc
 have h2:=IW h1
 exact⟨by have:=Fg h2.1;omega,by have:=Fg h2.2;omega⟩
set_option maxRecDepth 10000
def Ex (ks:List ByteArray) (key:ByteArray):Nat:=ks.findIdx fun k=>!Bz k key
theorem S8 (ks:List ByteArray) (key:ByteArray):Ex ks key≤ks.length:=List.findIdx_le_length
theorem Xp {ks:List ByteArray}{key:ByteArray}{t:Nat}(h:t<Ex ks key):Bz (ks[t]'(by have:=S8 ks key;omega)) key=true:=by
 have:=List.not_of_lt_findIdx h
 simpa using this
def De (ks:List ByteArray) (key:ByteArray):Bool:=if h:Ex ks key<ks.length then ks[Ex ks key].toList==key.toList else false
def Cc:List ByteArray→List ByteArray→List ByteArray
 | [],b=>b
 |x::a,[]=>x::a
 |x::a,y::b=>if Bz x y then x::Cc a (y::b) else if x.toList==y.toList then y::Cc a b else y::Cc (x::a) b
termination_by a b=>a.length+b.length
theorem K1 (a:List ByteArray):Cc a []=a:=by cases a<;>simp[Cc]
theorem IB (b:List ByteArray):Cc [] b=b:=by simp[Cc]
theorem CS:∀(n:Nat) (a b:List ByteArray),a.length+b.length≤n→∀x,x∈Cc a b↔x∈a∨x∈b
 |_,[],b,_,x=>by simp[Cc]
 |_,y::a,[],_,x=>by simp[Cc]
 | 0,y::a,z::b,h,x=>by simp at h
 |n+1,y::a,z::b,h,x=>by
  simp only[List.length_cons]at h
  unfold Cc
  split
  ·rw[List.mem_cons,CS n a (z::b) (by simp only[List.length_cons];omega) x]
   simp only[List.mem_cons]
   exact or_assoc.symm
  ·split
   ·rename_i he
    have hyz:y=z:=Ay (by simpa using he)
    subst hyz
    rw[List.mem_cons,CS n a b (by omega) x]
    simp only[List.mem_cons]
    constructor
    ·rintro (h | h | h)
     ·exact .inl (.inl h)
     ·exact .inl (.inr h)
     ·exact .inr (.inr h)
    ·rintro ((h | h) | (h | h))
     ·exact .inl h
     ·exact .inr (.inl h)
     ·exact .inl h
     ·exact .inr (.inr h)
   ·rw[List.mem_cons,CS n (y::a) b (by simp only[List.length_cons];omega) x]
    simp only[List.mem_cons]
    constructor
    ·rintro (h | h | h)
     ·exact .inr (.inl h)
     ·exact .inl h
     ·exact .inr (.inr h)
    ·rintro (h | (h | h))
     ·exact .inr (.inl h)
     ·exact .inl h
     ·exact .inr (.inr h)
theorem H1:∀(n:Nat) (a b:List ByteArray),a.length+b.length≤n→Up a→Up b→Up (Cc a b)
 |_,[],b,_,_,hb=>by rw[IB];exact hb
 |_,y::a,[],_,ha,_=>by rw[K1];exact ha
 | 0,y::a,z::b,h,_,_=>by simp at h
 |n+1,y::a,z::b,h,ha,hb=>by
  simp only[List.length_cons]at h
  have ha':=List.pairwise_cons.1 (show List.Pairwise _ (y::a) from ha)
  have hb':=List.pairwise_cons.1 (show List.Pairwise _ (z::b) from hb)
  unfold Cc
  split
  ·rename_i hl
   refine List.pairwise_cons.2 ⟨fun x hx=>?_,H1 n a (z::b) (by simp only[List.length_cons];omega) ha'.2 hb⟩
   rcases (CS n a (z::b) (by simp only[List.length_cons];omega) x).1 hx with h | h
   ·exact ha'.1 x h
   ·rcases List.mem_cons.1 h with rfl | h
    ·exact hl
    ·exact Db hl (hb'.1 x h)
  ·rename_i hl
   split
   ·rename_i he
    have hyz:y=z:=Ay (by simpa using he)
    subst hyz
    refine List.pairwise_cons.2 ⟨fun x hx=>?_,H1 n a b (by omega) ha'.2 hb'.2⟩
    rcases (CS n a b (by omega) x).1 hx with h | h
    ·exact ha'.1 x h
    ·exact hb'.1 x h
   ·rename_i he
    have hzy:Bz z y=true:=by
     rcases Lx y z with g | g | g
     ·exact absurd g hl
     ·subst g;exact absurd (by simp) he
     ·exact g
    refine List.pairwise_cons.2 ⟨fun x hx=>?_,H1 n (y::a) b (by simp only[List.length_cons];omega) ha hb'.2⟩
    rcases (CS n (y::a) b (by simp only[List.length_cons];omega) x).1 hx with h | h
    ·rcases List.mem_cons.1 h with rfl | h
     ·exact hzy
     ·exact Db hzy (ha'.1 x h)
    ·exact hb'.1 x h
theorem Tp {a b:List ByteArray}(ha:Up a) (hb:Up b):Cc a b=B0 (a++b) :=
 Ug (H1 _ a b (Nat.le_refl _) ha hb) (DL _) fun x=>by rw[CS _ a b (Nat.le_refl _),BP,List.mem_append]
theorem Vm {a b:ByteArray}(h:Bz a b=true):Bz b a=false:=by
 cases h2:Bz b a with
 |false=>rfl
 |true =>
  have:=Db h h2
  rw[BK]at this
  cases this
theorem JH (x:ByteArray) (r:List ByteArray) (k:ByteArray):Ex (x::r) k=if Bz x k then Ex r k+1 else 0:=by
 unfold Ex
 rw[List.findIdx_cons]
 cases Bz x k<;>rfl
theorem F9 {l:List ByteArray}{k:ByteArray}:De l k=true↔l[Ex l k]? = some k:=by
 unfold De
 split
 ·rename_i h
  rw[List.getElem?_eq_getElem h,beq_iff_eq,Option.some.injEq]
  exact⟨Ay,fun e=>by rw[e]⟩
 ·rename_i h
  rw[List.getElem?_eq_none (by omega)]
  simp
theorem Ze {l:List ByteArray}{k:ByteArray}(h:Ex l k<l.length):Bz l[Ex l k] k=false:=by
 have h2:(fun x=>!Bz x k) (l[Ex l k])=true:=List.findIdx_getElem (w:=h)
 simpa using h2
theorem JS:∀{l:List ByteArray}{k:ByteArray},Up l→Cb k l=if De l k then l else l.take (Ex l k)++[k]++l.drop (Ex l k)
 | [],k,_=>by simp[Cb,De,Ex]
 |x::r,k,h=>by
  have h':=List.pairwise_cons.1 (show List.Pairwise _ (x::r) from h)
  unfold Cb
  split
  ·rename_i hl
   have hx:=Vm hl
   have hp:Ex (x::r) k=0:=by rw[JH,hx];rfl
   have hf:De (x::r) k=false:=by
    cases hf:De (x::r) k with
    |false=>rfl
    |true =>
     have:=F9.1 hf
     rw[hp]at this
     have e:x=k:=by simpa using this
     subst e
     rw[BK]at hl
     cases hl
   rw[hf,hp]
   simp
  ·rename_i hl
   split
   ·rename_i he
    have e:k=x:=Ay (by simpa using he)
    subst e
    have hp:Ex (k::r) k=0:=by rw[JH,BK];rfl
    have hf:De (k::r) k=true:=F9.2 (by rw[hp];rfl)
    rw[hf]
    rfl
   ·rename_i he
    have hxk:Bz x k=true:=by
     rcases Lx x k with g | g | g
     ·exact g
     ·subst g;exact absurd (by simp) he
     ·exact absurd g hl
    have hp:Ex (x::r) k=Ex r k+1:=by rw[JH,hxk];rfl
    have hf:De (x::r) k=De r k:=by
     have:De (x::r) k=true↔De r k=true:=by
      rw[F9,F9,hp,List.getElem?_cons_succ]
     cases h1:De (x::r) k<;>cases h2:De r k<;>simp_all
    rw[hf,hp,JS h'.2]
    split
    ·rfl
    ·simp
theorem a4u {l:List ByteArray}(h:Up l) {p:Nat}{k:ByteArray}(hp:l[p]? = some k) (g g':ByteArray→V) (v:V) (hk:g' k=v) (hg:∀x∈l,x≠k→g' x=g x):l.map g'=(l.map g).set p v:=by
 refine List.ext_getElem (by simp) fun i h1 h2=>?_
 have hi:i<l.length:=by simpa using h1
 rw[List.getElem_map,List.getElem_set]
 split
 ·rename_i e
  subst e
  rw[List.getElem?_eq_getElem hi]at hp
  rw[Option.some.inj hp,hk]
 ·rename_i e
  rw[List.getElem_map]
  refine hg _ (List.getElem_mem hi) fun hx=>e ?_
  exact a0f h hp (List.getElem?_eq_some_iff.2 ⟨hi,hx⟩)
theorem EW {a:V}{s:ByteArray}{j:Nat}{v:V}(h:B3 a.keys s=some j) (hv:a.kids[j]? = some v):a.member s=v:=by
 unfold V.member
 rw[h]
 simp only
 rw[List.getD_eq_getElem?_getD,hv]
 rfl
def Jf (v:V) (key:ByteArray) (x:V):Int×Option V:=if v.kind=0∨v.kind=6 then M4 (EJ (v.keys++[key]) (v.kids++[x])) else JG 6
def Jm (kids:List V) (n:Nat):List V:=kids++List.replicate (n+1-kids.length) BA
def n8 (r:Int×Option V) (g:V→Int×Option V):Int×Option V:=match r with
 | (_,some u)=>g u
 | (c,none)=>(c,none)
def KP (v:V) (n:Int) (f:V→Int×Option V):Int×Option V :=
 if v.kind=5∨v.kind=0 then
  if BQ n v.kids.length<0 then JG 3
  else if BQ n v.kids.length≥200 then JG 2
  else n8 (f ((Jm v.kids (BQ n v.kids.length).toNat).getD (BQ n v.kids.length).toNat BA)) fun r=>M4 (Ba ((Jm v.kids (BQ n v.kids.length).toNat).set (BQ n v.kids.length).toNat r))
 else JG 6
def CD (x:V):List V→V→Int×Option V
 | [],_=>okR x
 |k::p,v=>if k.kind=3 then KP v k.num (CD x p)
  else match Di v k.text with
   | (_,some w)=>match CD x p w with
    | (_,some r)=>Jf v k.text r
    | (c,none)=>(c,none)
   | (c,none)=>(c,none)
theorem WI {t:V}(h:t.fit):G5 (M4 t):=by
 unfold M4
 split
 ·rename_i h0
  exact⟨rfl,a09 h h0⟩
 ·rename_i h0
  exact h0
theorem X2 (kids:List V) (n:Nat):(Jm kids n).length=max kids.length (n+1):=by
 unfold Jm
 rw[List.length_append,List.length_replicate]
 omega
theorem LB {kids:List V}(h:∀v∈kids,v.right) (n:Nat):∀v∈Jm kids n,v.right:=fun v hv=>by
 rcases List.mem_append.1 hv with hv | hv
 ·exact h v hv
 ·rw[(List.mem_replicate.1 hv).2]
  exact Dl
theorem a13 {kids:List V}{n:Nat}:(Jm kids n).getD n BA=if h:n<kids.length then kids[n] else BA:=by
 unfold Jm
 rw[List.getD_eq_getElem?_getD]
 split
 ·rename_i h
  rw[List.getElem?_append_left h,List.getElem?_eq_getElem h]
  rfl
 ·rename_i h
  rw[List.getElem?_append_right (by omega)]
  cases hg:(List.replicate (n+1-kids.length) BA)[n-kids.length]? with
  |none=>rfl
  |some y=>exact (List.mem_replicate.1 (List.mem_of_getElem? hg)).2
theorem Xw {l:List V}{m:Nat}(h:∀v∈l,v.count≤m):Ag l≤m*l.length:=by
 induction l with
 |nil=>simp[Ag]
 |cons x l ih =>
  have h1:=h x (by simp)
  have h2:=ih fun v hv=>h v (by simp[hv])
  simp only[Ag,List.length_cons,Nat.mul_add]
  omega
theorem Wm {l:List V}(h:∀v∈l,v.fit):(Ba l).fit:=⟨Nat.zero_le _,by simp,fun h=>absurd h (by decide),fun h=>absurd h (by decide),fun _=>rfl,Nw.2 h⟩
theorem WZ {ks:List ByteArray}{vs:List V}(hl:ks.length=vs.length) (hk:∀k∈ks,k.size≤60) (hv:∀v∈vs,v.fit):(EJ ks vs).fit:=by
 refine⟨Nat.zero_le _,fun k h=>hk k (BP.1 h),fun h=>absurd h (by decide),fun _=>(List.length_map _).symm,fun h=>absurd rfl h,Nw.2 fun v h=>?_⟩
 obtain⟨k,hk',rfl⟩:=List.mem_map.1 h
 obtain⟨j,_,_,h3⟩:=Ee (kids:=vs) hl (BP.1 hk')
 exact hv _ (List.mem_of_getElem? h3)
theorem X7 {l:List V}{p:V→Prop}(h:∀v∈l,p v) {n:Nat}{r:V}(hr:p r):∀v∈l.set n r,p v:=fun v hv=>by
 rcases List.mem_or_eq_of_mem_set hv with hv | rfl
 ·exact h v hv
 ·exact hr
theorem VT {v:V}(h:v.right):∀k∈v.keys,k.size≤60:=ZD (J1 h)
theorem DO {v:V}(h:v.right) (h0:v.kind=0):v.keys=[]∧v.kids=[]:=by
 have:=Bl h.1
 exact⟨this.2.2.2.2.1 (by omega),this.2.2.2.2.2 (by omega) (by omega)⟩
theorem LH {v:V}(h:v.right) (hk:v.kind=0∨v.kind=6):v.keys.length=v.kids.length:=by
 rcases hk with h0 | h6
 ·rw[(DO h h0).1,(DO h h0).2];rfl
 ·exact (B9 h h6).2.2
theorem W8 {v x:V}(h:v.right) (hx:x.right) {key:ByteArray}(hk:AP key=true) (h6:v.kind=0∨v.kind=6):(EJ (v.keys++[key]) (v.kids++[x])).fit:=by
 refine WZ (by rw[List.length_append,List.length_append,LH h h6];rfl) (fun k hk'=>?_) fun y hy=>?_
 ·rcases List.mem_append.1 hk' with h1 | h1
  ·exact VT h k h1
  ·rw[List.mem_singleton.1 h1];exact H4 hk
 ·rcases List.mem_append.1 hy with h1 | h1
  ·exact J1 (AQ h h1)
  ·rw[List.mem_singleton.1 h1];exact J1 hx
theorem RT {v x:V}(h:v.right) (hx:x.right) (key:ByteArray) (h6:v.kind=0∨v.kind=6):Ag (v.kids++[x])≤400∧(EJ (v.keys++[key]) (v.kids++[x])).count≤401:=by
 have h1:=AK v
 have h2:=h.2.1
 have h3:=hx.2.1
 have h4:Ag (v.kids++[x])≤400:=by
  rw[FQ]
  simp only[Ag]
  omega
 refine⟨h4,?_⟩
 have h5:=G4 _ (v.keys++[key]) (v.kids++[x]) rfl (by rw[List.length_append,List.length_append,LH h h6];rfl)
 have h7:=AK (EJ (v.keys++[key]) (v.kids++[x]))
 have h8:(EJ (v.keys++[key]) (v.kids++[x])).kids=(B0 (v.keys++[key])).map (AS (v.keys++[key]) (v.kids++[x])):=rfl
 rw[h8]at h7
 omega
theorem YG {v x:V}(h:v.right) (hx:x.right) {key:ByteArray}(hk:AP key=true):G5 (Jf v key x):=by
 unfold Jf
 split
 ·rename_i h6
  exact WI (W8 h hx hk h6)
 ·exact DV (by decide)
theorem W7 {v r:V}(h:v.right) (hr:r.right) (n:Nat):(Ba ((Jm v.kids n).set n r)).fit :=
 Wm fun y hy=>J1 (X7 (LB (fun z hz=>AQ h hz) n) hr y hy)
theorem RS {v r:V}(h:v.right) (hr:r.right) {n:Nat}(hn:n<200):(Ba ((Jm v.kids n).set n r)).count≤40001:=by
 have h1:=Xw (l:=(Jm v.kids n).set n r) (m:=200) fun y hy=>(X7 (LB (fun z hz=>AQ h hz) n) hr y hy).2.1
 have h2:=B6 h.2.1
 rw[List.length_set,X2]at h1
 have h3:=AK (Ba ((Jm v.kids n).set n r))
 rw[show (Ba ((Jm v.kids n).set n r)).kids=(Jm v.kids n).set n r from rfl]at h3
 have:200*max v.kids.length (n+1)≤200*200:=Nat.mul_le_mul_left _ (by omega)
 omega
theorem a4p {v:V}(h:v.right) (n:Nat):((Jm v.kids n).getD n BA).right:=by
 rw[a13]
 split
 ·exact AQ h (List.getElem_mem _)
 ·exact Dl
theorem Ge {x:V}(hx:x.right):∀(p:List V),(∀k∈p,k.right∧(k.kind=3∨k.kind=4))→∀(v:V),v.right→G5 (CD x p v)
 | [],_,v,_=>DM hx
 |k::p,hp,v,hv=>by
  have ih:=Ge hx p fun y hy=>hp y (by simp[hy])
  unfold CD
  split
  ·unfold KP
   split
   ·split
    ·exact DV (by decide)
    ·split
     ·exact DV (by decide)
     ·have h1:=ih _ (a4p hv (BQ k.num v.kids.length).toNat)
      generalize CD x p _=q at *
      rcases q with⟨c,_ | r⟩
      ·exact h1
      ·exact WI (W7 hv h1.2 _)
   ·exact DV (by decide)
  ·rename_i h3
   have hk4:k.kind=4:=(hp k (by simp)).2.resolve_left h3
   have hkt:AP k.text=true:=by
    have:=(hp k (by simp)).1.1
    cases k
    exact (IW (c:=⟨_,_,_,ByteArray.empty,_⟩) this.1).1
   have h1:=Ll hv k.text
   generalize Di v k.text=q at *
   rcases q with⟨c,_ | w⟩
   ·exact h1
   ·have h2:=ih w h1.2
    dsimp only
    generalize CD x p w=q at *
    rcases q with⟨c,_ | r⟩
    ·exact h2
    ·exact YG hv h2.2 hkt
def Ko (v:V) (key:ByteArray):V:=.mk 6 0 ByteArray.empty (v.keys.filter fun k=>!(k.toList==key.toList)) ((v.keys.filter fun k=>!(k.toList==key.toList)).map v.member)
def GW (v:V) (key:ByteArray):Int×Option V:=if v.kind=0 then okR BA else if v.kind=6 then okR (Ko v key) else JG 6
def FU (l:List V) (m:Int):List V:=if 0≤m∧m<l.length then l.eraseIdx m.toNat else l
def GV (v:V) (n:Int):Int×Option V:=if v.kind=0 then okR BA else if v.kind=5 then okR (Ba (FU v.kids (BQ n v.kids.length))) else JG 6
def CY:List V→V→Int×Option V
 | [],_=>okR BA
 | [k],v=>if k.kind=4 then GW v k.text else GV v k.num
 |k::k'::p,v=>match Fl v k with
  | (_,some w)=>if w.kind=0 then okR v else match CY (k'::p) w with
   | (_,some r)=>CD r [k] v
   | (c,none)=>(c,none)
  | (c,none)=>(c,none)
theorem Zd:∀{l:List ByteArray}{p:Option ByteArray},Up l→(∀k∈l,∀q,p=some q→Bz q k=true)→asc p l
 | [],p,_,_=>by unfold asc;trivial
 |k::l,p,h,hp=>by
  have h':=List.pairwise_cons.1 (show List.Pairwise _ (k::l) from h)
  have ih:asc (some k) l:=Zd h'.2 fun x hx q hq=>by cases hq;exact h'.1 x hx
  cases p with
  |none=>exact ih
  |some q=>exact⟨hp k (by simp) q rfl,ih⟩
theorem MZ:∀{l:List V},wfL l↔∀v∈l,v.wf
 | []=>by simp[wfL]
 |v::l=>by simp only[wfL,List.mem_cons,forall_eq_or_imp,MZ (l:=l)]
theorem GT {l:List V}{m:Nat}(h:∀v∈l,v.depth≤m):AF l≤m:=by
 induction l with
 |nil=>exact Nat.zero_le _
 |cons x l ih =>
  have h1:=h x (by simp)
  have h2:=ih fun v hv=>h v (by simp[hv])
  simp only[AF]
  omega
theorem Vz {ks:List ByteArray}{vs:List V}(hl:ks.length=vs.length) (hk:∀k∈ks,AP k=true) (hu:Up ks) (hv:∀v∈vs,v.wf) (hn:vs.length≤200):(V.mk 6 0 ByteArray.empty ks vs).wf:=by
 refine⟨?_,?_,MZ.2 hv⟩
 ·unfold AN
  have h1:inB 6 0 6=true:=by decide
  have h2:inB (vs.length:Int) 0 200=true:=by unfold inB;simp;omega
  simp[h1,cF,cR,cT,B7,C7,h2,inB]
  omega
 ·unfold E0
  rw[if_pos rfl]
  exact⟨hl,hk,Zd hu (by simp)⟩
theorem ID {v:V}(h:v.right) (h6:v.kind=6):v.keys.map v.member=v.kids:=by
 obtain⟨h1,h2,h3⟩:=B9 h h6
 refine List.ext_getElem (by rw[List.length_map,h3]) fun i h4 h5=>?_
 rw[List.getElem_map]
 have h4':i<v.keys.length:=by simpa using h4
 exact EW (LY h1 h4') (List.getElem?_eq_getElem h5)
theorem Sy {v:V}(h:v.right) (h6:v.kind=6) (key:ByteArray):(Ko v key).right:=by
 obtain⟨h1,h2,h3⟩:=B9 h h6
 have hc:=Hs (fun k=>!(k.toList==key.toList)) v.member v.keys
 rw[ID h h6]at hc
 have hck:=AK v
 have hv:=h.2.1
 have hlen:=BL ((v.keys.filter fun k=>!(k.toList==key.toList)).map v.member)
 refine⟨Vz (by rw[List.length_map]) (fun k hk=>h2 k (List.mem_filter.1 hk).1) (Qo (OL h1) _) (fun x hx=>?_) (by omega),?_,?_⟩
 ·obtain⟨k,_,rfl⟩:=List.mem_map.1 hx
  exact (Cv h h6 k).1
 ·have:=AK (Ko v key)
  simp only[Ko,V.kids]at this ⊢
  omega
 ·have h4:AF ((v.keys.filter fun k=>!(k.toList==key.toList)).map v.member)≤AF v.kids:=GT fun x hx=>by
   obtain⟨k,hk,rfl⟩:=List.mem_map.1 hx
   have:v.member k∈v.kids:=by
    rw[←ID h h6]
    exact List.mem_map_of_mem (List.mem_filter.1 hk).1
   exact CP this
  have h5:=FT (Ko v key)
  have h7:=FT v
  have h8:=h.2.2
  simp only[Ko,V.kids]at h5 ⊢
  omega
theorem QI (l:List V) (n:Nat):Ag (l.eraseIdx n)≤Ag l:=by
 induction l generalizing n with
 |nil=>simp
 |cons x l ih =>
  cases n with
  |zero=>simp only[List.eraseIdx_cons_zero,Ag];omega
  |succ n =>
   have:=ih n
   simp only[List.eraseIdx_cons_succ,Ag]
   omega
theorem Jr {v:V}(h:v.right) (m:Int):(Ba (FU v.kids m)).right:=by
 have hm:∀x∈FU v.kids m,x∈v.kids:=fun x hx=>by
  unfold FU at hx
  split at hx
  ·exact List.mem_of_mem_eraseIdx hx
  ·exact hx
 have hc:Ag (FU v.kids m)≤Ag v.kids:=by
  unfold FU
  split
  ·exact QI _ _
  ·exact Nat.le_refl _
 have hd:AF (FU v.kids m)≤AF v.kids:=GT fun x hx=>CP (hm x hx)
 have hck:=AK v
 have hv:=h.2.1
 have hlen:=BL (FU v.kids m)
 have hdn:=FT v
 have hv2:=h.2.2
 refine⟨QA (MZ.2 fun x hx=>(AQ h (hm x hx)).1) (by omega),?_,?_⟩
 ·simp only[Ba,V.count];omega
 ·simp only[Ba,V.depth];omega
theorem UK {v:V}(h:v.right) (key:ByteArray):G5 (GW v key):=by
 unfold GW
 split
 ·exact DM Dl
 ·split
  ·rename_i h6
   exact DM (Sy h h6 key)
  ·exact DV (by decide)
theorem UJ {v:V}(h:v.right) (n:Int):G5 (GV v n):=by
 unfold GV
 split
 ·exact DM Dl
 ·split
  ·exact DM (Jr h _)
  ·exact DV (by decide)
theorem Gm:∀(p:List V),(∀k∈p,k.right∧(k.kind=3∨k.kind=4))→∀(v:V),v.right→G5 (CY p v)
 | [],_,v,_=>DM Dl
 | [k],_,v,hv=>by
  unfold CY
  split
  ·exact UK hv _
  ·exact UJ hv _
 |k::k'::p,hp,v,hv=>by
  have ih:=Gm (k'::p) fun y hy=>hp y (by simp only[List.mem_cons]at hy ⊢;exact .inr hy)
  have h1:=SU hv k
  unfold CY
  generalize Fl v k=q at *
  rcases q with⟨c,_ | w⟩
  ·exact h1
  ·dsimp only
   split
   ·exact DM hv
   ·have h2:=ih w h1.2
    generalize CY (k'::p) w=q at *
    rcases q with⟨c,_ | r⟩
    ·exact h2
    ·exact Ge h2.2 [k] (fun y hy=>hp y (by simp only[List.mem_singleton]at hy;simp[hy])) v hv
end
end Go.Proofs.YtllfmaflodbieaaGreatDoor
