/- Texts of this proof: G04 G05 G20 G21 M20 M21 M22 M23 M28 M29 M46. -/
import Derived.Test.YtllfmaflodbieaaGreatDoorKG01uG02
import Derived.Test.YtllfmaflodbieaaGreatDoorKB3
import Derived.Test.YtllfmaflodbieaaGreatDoorKM2uM45
set_option linter.all false
set_option maxHeartbeats 8000000
namespace Go.Proofs.YtllfmaflodbieaaGreatDoor
section
open Go.RowKit
section
variable {w:World} {S:Nat→Prop}
theorem UV {c:CellD}{v:List Value}{bs:List Nat}:CRs w S c.cs v bs↔v=B7 c∧bs=[]:=by
 simp only[CellD.cs,CRs,CR,B7]
 constructor
 ·rintro⟨_,_,_,_,rfl,rfl,⟨rfl,rfl⟩,_,_,_,_,rfl,rfl,⟨rfl,rfl⟩,_,_,_,_,rfl,rfl,⟨rfl,rfl⟩,_,_,_,_,rfl,rfl,⟨rfl,rfl⟩,_,_,_,_,rfl,rfl,⟨rfl,rfl⟩,rfl,rfl⟩
  exact⟨rfl,rfl⟩
 ·rintro⟨rfl,rfl⟩
  exact⟨_,_,[],[],rfl,rfl,⟨rfl,rfl⟩,_,_,[],[],rfl,rfl,⟨rfl,rfl⟩,_,_,[],[],rfl,rfl,⟨rfl,rfl⟩,_,_,[],[],rfl,rfl,⟨rfl,rfl⟩,_,_,[],[],rfl,rfl,⟨rfl,rfl⟩,rfl,rfl⟩
theorem Gw {α:Type}{f:α→List C}{g:α→List Value}(hf:∀{x v bs},CRs w S (f x) v bs↔v=g x∧bs=[]):∀{l:List α}{vs:List (List Value)}{bs:List Nat},Ag w S (l.map f) vs bs↔vs=l.map g∧bs=[]
 | [],vs,bs=>by simp[Ag]
 |x::l,vs,bs=>by
  simp only[List.map_cons,Ag]
  constructor
  ·rintro⟨v,vs',b1,b2,rfl,rfl,h1,h2⟩
   obtain⟨rfl,rfl⟩:=hf.1 h1
   obtain⟨rfl,rfl⟩:=(Gw hf).1 h2
   exact⟨rfl,rfl⟩
  ·rintro⟨rfl,rfl⟩
   exact⟨_,_,[],[],rfl,rfl,hf.2 ⟨rfl,rfl⟩,(Gw hf).2 ⟨rfl,rfl⟩⟩
theorem Row.resize {es n:Nat}{A:Option Addr}{xs:List (List Value)}(h:Row w S es A xs) (hl:∀x∈xs,x.length=n):Row w S n A xs:=by
 cases xs with
 |nil=>exact Row.nil
 |cons x xs =>
  have h1:=h.1 x (by simp)
  have h2:=hl x (by simp)
  rw[←h2,h1]
  exact h
theorem SI {α:Type}{f:α→List C}{g:α→List Value}{n:Nat}(hf:∀{x v bs},CRs w S (f x) v bs↔v=g x∧bs=[]) (hg:∀x,(g x).length=n) {l:List α}{v:Value} :
  CR w S (.sl (l.map f)) v []↔∃A cap,v=.slice A l.length cap∧l.length≤cap∧Row w S n A (l.map g):=by
 simp only[CR]
 constructor
 ·rintro⟨es,A,cap,vrows,rfl,h2,_,h4,h5,_⟩
  obtain⟨rfl,_⟩:=(Gw hf).1 h5
  rw[List.length_map]at h2 ⊢
  exact⟨A,cap,rfl,h2,h4.resize (by simp[hg])⟩
 ·rintro⟨A,cap,rfl,h2,h4⟩
  exact⟨n,A,cap,l.map g,by rw[List.length_map],by rw[List.length_map];exact h2,trivial,h4,(Gw hf).2 ⟨rfl,rfl⟩,trivial⟩
theorem UW (c:CellD):(B7 c).length=5:=rfl
theorem Cv {xs:List CellD}{v:Value}:CR w S (.sl (xs.map CellD.cs)) v []↔∃A cap,v=.slice A xs.length cap∧xs.length≤cap∧AU w S A xs:=SI UV UW
theorem Tg {s:ByteArray}{v:List Value}{bs:List Nat}:CRs w S (Ab s) v bs↔v=[.string s]∧bs=[]:=by
 simp only[Ab,CRs,CR]
 constructor
 ·rintro⟨_,_,_,_,rfl,rfl,⟨rfl,rfl⟩,rfl,rfl⟩
  exact⟨rfl,rfl⟩
 ·rintro⟨rfl,rfl⟩
  exact⟨_,_,[],[],rfl,rfl,⟨rfl,rfl⟩,rfl,rfl⟩
theorem SX {xs:List ByteArray}{v:Value}:CR w S (.sl (xs.map Ab)) v []↔∃A cap,v=.slice A xs.length cap∧xs.length≤cap∧Ow w S A xs:=SI (f:=Ab) (g:=fun k=>[.string k]) (n:=1) Tg fun _=>rfl
mutual
theorem PC:∀{t:V}{vs:List Value},BB w S t vs→CRs w S t.cs vs []
 | .mk kind num text keys kids,vs,h=>by
  simp only[BB]at h
  obtain⟨Ak,ck,Av,cv,kvs,rfl,h2,h3,h4,h5,h6⟩:=h
  have h7:=Ho h6
  have hl:=h7.length
  simp only[Jf,List.length_map]at hl
  simp only[V.cs,CRs]
  refine⟨_,_,[],[],rfl,rfl,⟨rfl,rfl⟩,_,_,[],[],rfl,rfl,⟨rfl,rfl⟩,_,_,[],[],rfl,rfl,⟨rfl,rfl⟩,_,_,[],[],rfl,rfl,SX.2 ⟨_,_,rfl,h2,h4⟩,_,_,[],[],rfl,rfl,?_,rfl,rfl⟩
  simp only[CR]
  exact⟨5,Av,cv,kvs,by rw[Jf,List.length_map],by rw[Jf,List.length_map];exact h3,trivial,h5,h7,trivial⟩
theorem Ho:∀{ts:List V}{vs:List (List Value)},AT w S ts vs→Ag w S (csL ts) vs []
 | [],vs,h=>by
  simp only[AT]at h
  subst h
  exact⟨rfl,rfl⟩
 |t::ts,vs,h=>by
  simp only[AT]at h
  obtain⟨v,vs',rfl,h1,h2⟩:=h
  exact⟨_,_,[],[],rfl,rfl,PC h1,Ho h2⟩
end
end
theorem Nc {w:World}{S:Nat→Prop}{m:Mem}{κ:Id→Value}:∀{xs:List C}{vs:List Value},CRs w S xs vs []→ARs w S m κ (xs.map .c) vs
 | [],vs,h=>by
  simp only[CRs]at h
  exact h.1
 |x::xs,vs,h=>by
  simp only[CRs]at h
  obtain⟨v,vs',b1,b2,rfl,h0,h1,h2⟩:=h
  have h3:b1=[]∧b2=[]:=by simpa using h0.symm
  obtain⟨rfl,rfl⟩:=h3
  exact⟨v,vs',rfl,h1,Nc h2⟩
theorem V.av_eq (t:V):t.av=.agg (t.cs.map .c):=by rw[V.cs_eq];rfl
theorem X2 {w:World}{S:Nat→Prop}{m:Mem}{κ:Id→Value}{t:V}{vs:List Value}(h:BB w S t vs):AR w S m κ t.av (.agg vs.toArray):=by
 rw[V.av_eq]
 refine⟨vs,rfl,Nc (PC h),?_⟩
 intro u hu
 cases t
 simp only[BB]at h
 obtain⟨Ak,ck,Av,cv,kvs,rfl,_⟩:=h
 simp only[List.mem_cons,List.not_mem_nil,or_false]at hu
 rcases hu with rfl | rfl | rfl | rfl | rfl<;>rfl
theorem AC.of_calls {P:Program}{f:FuncId}{args:List AV}{res:AV}
  (h:∀(S:Nat→Prop) (w:World) (κ:Id→Value) (B7:List Value),ARs w S [] κ args B7→Calls P f B7.toArray w fun e w'=>Below w.heap.size w w'∧∃v,e=.returned v∧∀T:Nat→Prop,(∀b,S b→T b)→(∀b,w.heap.size≤b→T b)→AR w' T [] κ res v):AC P f args [] res []:=by
 intro Γ B7 hE hA
 have how:∀b,Γ.ow b=none:=by
  intro b
  cases hb:Γ.ow b with
  |none=>rfl
  |some i=>obtain⟨_,o,h1,_⟩:=hE.own b i hb;simp[Mem.get]at h1
 refine (h _ _ _ _ hA).mono ?_
 rintro e w' ⟨hb,v,rfl,hv⟩
 refine⟨v,Γ.ow,Γ.κ,rfl,⟨hv _ (fun _ h=>h) (fun b hb=>⟨how b,.inr (.inl hb)⟩),fun i o h=>(by simp[Mem.get]at h),fun b i h=>(by rw[how b]at h;cases h),hb.os,hb.tape,hb.output,hb.size,fun b hl _=>⟨hb.block b hl,how b⟩,fun i o o' h=>(by simp[Mem.get]at h)⟩⟩
def noV:AV:=.agg [.c (.int .i64 0),.c (.int .i64 0),.c (.str ByteArray.empty),.nils,.nils]
theorem V7:noV=.agg [.c (.int .i64 0),.c (.int .i64 0),.c (.str ByteArray.empty),.nils,.nils]:=rfl
theorem Yr {w:World}{S:Nat→Prop}{m:Mem}{κ:Id→Value}:AR w S m κ noV (.agg Be) :=
 ⟨[.int .i64 0,.int .i64 0,.string ByteArray.empty,.slice none 0 0,.slice none 0 0],rfl,⟨_,_,rfl,⟨rfl,rfl⟩,_,_,rfl,⟨rfl,rfl⟩,_,_,rfl,⟨rfl,rfl⟩,_,_,rfl,rfl,_,_,rfl,rfl,rfl⟩,by
  intro u hu
  simp only[List.mem_cons,List.not_mem_nil,or_false]at hu
  rcases hu with rfl | rfl | rfl | rfl | rfl<;>rfl⟩
theorem Uu (xs:List CellD) (hz:G8 xs) (hd:(dec xs).2=none):AC Tryz.prog 56 [Ce xs] [] (.tup [noV,.c (.int .i64 (dec xs).1)]) []:=by
 refine AC.of_calls fun S w κ vs hv=>?_
 obtain⟨v,vs',rfl,h1,rfl⟩:=hv
 obtain⟨A,cap,rfl,_,hc⟩:=Cv.1 h1
 refine (J7 xs hz A cap S w hc).mono ?_
 rintro e w' ⟨hb,he⟩
 rw[hd]at he
 subst he
 exact⟨hb,_,rfl,fun T _ _=>⟨[_,_],rfl,_,_,rfl,Yr,_,_,rfl,⟨rfl,rfl⟩,rfl⟩⟩
theorem Pl (xs:List CellD) (hz:G8 xs) {t:V}(hd:(dec xs).2=some t):AC Tryz.prog 56 [Ce xs] [] (.tup [t.av,.c (.int .i64 0)]) []:=by
 refine AC.of_calls fun S w κ vs hv=>?_
 obtain⟨v,vs',rfl,h1,rfl⟩:=hv
 obtain⟨A,cap,rfl,_,hc⟩:=Cv.1 h1
 refine (J7 xs hz A cap S w hc).mono ?_
 rintro e w' ⟨hb,he⟩
 rw[hd]at he
 obtain⟨vs,rfl,hr⟩:=he
 exact⟨hb,_,rfl,fun T _ hT=>⟨[_,_],rfl,_,_,rfl,X2 (hr.weaken fun b hb _=>hT b hb),_,_,rfl,⟨rfl,rfl⟩,rfl⟩⟩
end
section
open Go.RowKit
def Wd (p:List V×V):List C:=[.osl ((DB p.1).enc.map CellD.cs)]
theorem Tz (l:List (List V×V)):((l.map Wd).all fun r=>r.length==1)=true:=by simp[Wd]
attribute [go_sem] Tz
set_option maxRecDepth 10000
theorem Mq (l:List V):(DB l).count=An l+1:=rfl
def Zo (c:Int) (t:V):AV:=.agg [.c (.int .i64 c),.c (.int .i64 t.kind),.c (.int .i64 t.num),.c (.str t.text),.c (.sl (t.keys.map Ab)),.c (.sl (t.kids.map V.cs))]
theorem WV (c:Int) (t:V):Zo c t=.agg [.c (.int .i64 c),.c (.int .i64 t.kind),.c (.int .i64 t.num),.c (.str t.text),.c (.sl (t.keys.map Ab)),.c (.sl (t.kids.map V.cs))]:=rfl
theorem Vu:P5.av=.agg [.c (.int .i64 0),.c (.int .i64 0),.c (.str ByteArray.empty),.c (.sl []),.c (.sl [])]:=rfl
attribute [go_sem] WV
set_option maxRecDepth 10000
theorem Xn:AC Tryz.prog 45 [] [] P5.av []:=by
 rw[Vu]
 refine A6 Tryz.func45 Tryz.ntmps45 ?_
 refine A0 trivial ?_
 exact Am (A7 []) Tryz.results45
theorem OL:∀(m:Nat) (t:V),t.count≤m→t.count≤500000→AC Tryz.prog 120 [t.av] [] (.c (.int .i64 t.count)) []:=by
 intro m
 induction m with
 |zero=>intro t hm _;have:=Bc t;omega
 |succ m ih =>
  intro t hm hM
  have hkc:=Bp t
  have hkl:=BR t.kids
  obtain⟨R,hR⟩:∃R:Nat→Nat,∀k,R k=1+An (t.kids.take k):=⟨_,fun _=>rfl⟩
  have h0:R 0=1:=by rw[hR];simp[An]
  refine A6 Tryz.func120 Tryz.ntmps120 ?_
  refine A0 trivial ?_
  refine AG (κ:=Nat) (fun k=>⟨mkS 0 19 [(1,.ptr (1,0) 0),(3,.c (.int .i64 (R k))),(7,.c (.sl (t.kids.map V.cs))),(8,.c (.int .i64 t.kids.length)),(9,.c (.int .i64 k))],
    [((1,0),.box [.c (.int .i64 t.kind),.c (.int .i64 t.num),.c (.str t.text),.c (.sl (t.keys.map Ab)),.c (.sl (t.kids.map V.cs))])]⟩)
   (fun k=>k≤t.kids.length) (fun k=>t.kids.length-k) 0 (Nat.zero_le _) ?_ ?_
  ·exact Aq (As.of [((1,0),(1,0))] []) h0
  ·intro k hk
   by_cases hlt:k<t.kids.length
   ·have hd:decide ((k:Int)<(t.kids.length:Int))=true:=by simpa using hlt
    have hr:Aj (t.kids.map V.cs) 5 k=true:=by simp[Aj,hlt,V.cs_eq]
    have hg:(t.kids.map V.cs)[k]? = some t.kids[k].cs:=by simp[hlt]
    have hmem:=BC (List.getElem_mem hlt)
    have hRk:R (k+1)=R k+t.kids[k].count:=by rw[hR,hR,List.take_succ_eq_append_getElem hlt,Dg];omega
    have hRl:R (k+1)≤t.count:=by rw[hR];have:=Ew t.kids (k+1);omega
    have hw:=Ae (k:=k) (by omega)
    generalize t.kids[k]=u at *
    have hi:=ih u (by omega) (by omega)
    have hs:IntKind.i64.wrap ((R k:Int)+(u.count:Int))=((R (k+1):Nat):Int):=by rw[IntWalk.i64_in _ (by omega)];omega
    refine A0 (j3 hd hr hg) ?_
    refine w7 (A3 [] hi) trivial ?_
    refine A0 (j2 hs hw) ?_
    refine⟨k+1,by omega,by omega,?_⟩
    exact Aq (As.of [((1,0),(1,0))] []) hs
   ·have hd:decide ((k:Int)<(t.kids.length:Int))=false:=by simpa using hlt
    have hke:R k=t.count:=by rw[hR,List.take_of_length_le (by omega)];omega
    refine A0 hd ?_
    exact A7 [] (by simp only[Tryz.results120,go_sem,Nat.reduceBEq,Nat.reduceLT];exact rfl) (by simp only[go_sem,Nat.reduceEqDiff,Nat.reduceAdd,Nat.reduceSub,Nat.reduceLeDiff,Nat.reduceMul,Nat.reduceBEq,Nat.reduceLT,Int.reduceToNat,reduceCtorEq,hke]) rfl
theorem Da {s:ByteArray}(h:AN s=true):s.size≤60:=by
 unfold AN at h
 simp only[Bool.and_eq_true,decide_eq_true_eq]at h
 exact h.1
theorem Df {t:V}(h:t.right):G8 t.enc:=by
 intro c hc
 have h1:=E0 t ByteArray.empty h.1 B6 c hc
 have h2:=MT h1
 exact⟨by have:=Da h2.1;omega,by have:=Da h2.2;omega⟩
set_option maxRecDepth 10000
def Dw (ks:List ByteArray) (key:ByteArray):Nat:=ks.findIdx fun k=>!BS k key
theorem Qj (ks:List ByteArray) (key:ByteArray):Dw ks key≤ks.length:=List.findIdx_le_length
theorem TF {ks:List ByteArray}{key:ByteArray}{t:Nat}(h:t<Dw ks key):BS (ks[t]'(by have:=Qj ks key;omega)) key=true:=by
 have:=List.not_of_lt_findIdx h
 simpa using this
def Cn (ks:List ByteArray) (key:ByteArray):Bool:=if h:Dw ks key<ks.length then ks[Dw ks key].toList==key.toList else false
theorem Sa {a b:ByteArray}(h:BS a b=true):BS b a=false:=by
 cases h2:BS b a with
 |false=>rfl
 |true =>
  have:=E6 h h2
  rw[C8]at this
  cases this
theorem HK (x:ByteArray) (r:List ByteArray) (k:ByteArray):Dw (x::r) k=if BS x k then Dw r k+1 else 0:=by
 unfold Dw
 rw[List.findIdx_cons]
 cases BS x k<;>rfl
theorem E1 {l:List ByteArray}{k:ByteArray}:Cn l k=true↔l[Dw l k]? = some k:=by
 unfold Cn
 split
 ·rename_i h
  rw[List.getElem?_eq_getElem h,beq_iff_eq,Option.some.injEq]
  exact⟨AA,fun e=>by rw[e]⟩
 ·rename_i h
  rw[List.getElem?_eq_none (by omega)]
  simp
theorem Wl {l:List ByteArray}{k:ByteArray}(h:Dw l k<l.length):BS l[Dw l k] k=false:=by
 have h2:(fun x=>!BS x k) (l[Dw l k])=true:=List.findIdx_getElem (w:=h)
 simpa using h2
theorem HT:∀{l:List ByteArray}{k:ByteArray},Up l→Bw k l=if Cn l k then l else l.take (Dw l k)++[k]++l.drop (Dw l k)
 | [],k,_=>by simp[Bw,Cn,Dw]
 |x::r,k,h=>by
  have h':=List.pairwise_cons.1 (show List.Pairwise _ (x::r) from h)
  unfold Bw
  split
  ·rename_i hl
   have hx:=Sa hl
   have hp:Dw (x::r) k=0:=by rw[HK,hx];rfl
   have hf:Cn (x::r) k=false:=by
    cases hf:Cn (x::r) k with
    |false=>rfl
    |true =>
     have:=E1.1 hf
     rw[hp]at this
     have e:x=k:=by simpa using this
     subst e
     rw[C8]at hl
     cases hl
   rw[hf,hp]
   simp
  ·rename_i hl
   split
   ·rename_i he
    have e:k=x:=AA (by simpa using he)
    subst e
    have hp:Dw (k::r) k=0:=by rw[HK,C8];rfl
    have hf:Cn (k::r) k=true:=E1.2 (by rw[hp];rfl)
    rw[hf]
    rfl
   ·rename_i he
    have hxk:BS x k=true:=by
     rcases Nb x k with g | g | g
     ·exact g
     ·subst g;exact absurd (by simp) he
     ·exact absurd g hl
    have hp:Dw (x::r) k=Dw r k+1:=by rw[HK,hxk];rfl
    have hf:Cn (x::r) k=Cn r k:=by
     have:Cn (x::r) k=true↔Cn r k=true:=by
      rw[E1,E1,hp,List.getElem?_cons_succ]
     cases h1:Cn (x::r) k<;>cases h2:Cn r k<;>simp_all
    rw[hf,hp,HT h'.2]
    split
    ·rfl
    ·simp
theorem Yk {l:List ByteArray}(h:Up l) {p:Nat}{k:ByteArray}(hp:l[p]? = some k) (g g':ByteArray→V) (v:V) (hk:g' k=v) (hg:∀x∈l,x≠k→g' x=g x):l.map g'=(l.map g).set p v:=by
 refine List.ext_getElem (by simp) fun i h1 h2=>?_
 have hi:i<l.length:=by simpa using h1
 rw[List.getElem_map,List.getElem_set]
 split
 ·rename_i e
  subst e
  rw[List.getElem?_eq_getElem hi]at hp
  rw[Option.some.inj hp,hk]
 ·rename_i e
  rw[List.getElem_map]
  refine hg _ (List.getElem_mem hi) fun hx=>e ?_
  exact Wr h hp (List.getElem?_eq_some_iff.2 ⟨hi,hx⟩)
theorem Xs {l:List V}(h:∀v∈l,v.fit):(DB l).fit:=⟨Nat.zero_le _,by simp,fun h=>absurd h (by decide),fun h=>absurd h (by decide),fun _=>rfl,LS.2 h⟩
theorem X6 {ks:List ByteArray}{vs:List V}(hl:ks.length=vs.length) (hk:∀k∈ks,k.size≤60) (hv:∀v∈vs,v.fit):(Gi ks vs).fit:=by
 refine⟨Nat.zero_le _,fun k h=>hk k (C7.1 h),fun h=>absurd h (by decide),fun _=>(List.length_map _).symm,fun h=>absurd rfl h,LS.2 fun v h=>?_⟩
 obtain⟨k,hk',rfl⟩:=List.mem_map.1 h
 obtain⟨j,_,_,h3⟩:=EM (kids:=vs) hl (C7.1 hk')
 exact hv _ (List.mem_of_getElem? h3)
theorem UU:∀{l:List ByteArray}{p:Option ByteArray},Up l→(∀k∈l,∀q,p=some q→BS q k=true)→asc p l
 | [],p,_,_=>by unfold asc;trivial
 |k::l,p,h,hp=>by
  have h':=List.pairwise_cons.1 (show List.Pairwise _ (k::l) from h)
  have ih:asc (some k) l:=UU h'.2 fun x hx q hq=>by cases hq;exact h'.1 x hx
  cases p with
  |none=>exact ih
  |some q=>exact⟨hp k (by simp) q rfl,ih⟩
theorem NK:∀{l:List V},wfL l↔∀v∈l,v.wf
 | []=>by simp[wfL]
 |v::l=>by simp only[wfL,List.mem_cons,forall_eq_or_imp,NK (l:=l)]
theorem Mn {l:List V}{m:Nat}(h:∀v∈l,v.depth≤m):AI l≤m:=by
 induction l with
 |nil=>exact Nat.zero_le _
 |cons x l ih =>
  have h1:=h x (by simp)
  have h2:=ih fun v hv=>h v (by simp[hv])
  simp only[AI]
  omega
theorem XZ {ks:List ByteArray}{vs:List V}(hl:ks.length=vs.length) (hk:∀k∈ks,AN k=true) (hu:Up ks) (hv:∀v∈vs,v.wf) (hn:vs.length≤200):(V.mk 6 0 ByteArray.empty ks vs).wf:=by
 refine⟨?_,?_,NK.2 hv⟩
 ·unfold Az
  have h1:inB 6 0 6=true:=by decide
  have h2:inB (vs.length:Int) 0 200=true:=by unfold inB;simp;omega
  simp[h1,cF,cR,cT,B6,BH,h2,inB]
  omega
 ·unfold Ea
  rw[if_pos rfl]
  exact⟨hl,hk,UU hu (by simp)⟩
theorem L1 {k n:Int}{s:ByteArray}(h:Az k n s ByteArray.empty 0=0) (h6:k≠6):(V.mk k n s [] []).right:=by
 refine⟨⟨h,?_,trivial⟩,by simp[V.count,An],by simp[V.depth,AI]⟩
 unfold Ea
 rw[if_neg h6]
theorem QV {n:Int}(h:-1000000000000000≤n∧n≤1000000000000000):(GN n).right:=by
 refine L1 ?_ (by decide)
 unfold Az
 have h1:inB 3 0 6=true:=by decide
 have h2:inB n (-1000000000000000) 1000000000000000=true:=by unfold inB;simp;omega
 simp[h1,cF,cR,cT,B6,BH,h2,inB]
 omega
def XW (b:Bool):V:=.mk (bif b then 2 else 1) 0 ByteArray.empty [] []
def Zs:List ByteArray:=[⟨#[97]⟩,⟨#[98]⟩,⟨#[99]⟩,⟨#[105,100]⟩,ByteArray.empty,⟨#[120,32,121]⟩,⟨#[97,98]⟩,⟨#[34,113,92]⟩]
theorem R8 {s:ByteArray}(h:AN s=true):(K9 s).right:=by
 refine L1 ?_ (by decide)
 unfold Az
 have h2:inB 0 (-1000000000000000) 1000000000000000=true:=by decide
 simp[cF,cR,cT,B6,BH,h2,inB,h]
def Ja (c:Int):Prop:=c=2∨c=3∨c=5∨c=7
theorem Bq {c:Int}(h:Ja c):c≠0:=by unfold Ja at h;omega
def Rd.fine {α:Type}(s:ByteArray) (i:Nat) (P:α→Nat→Prop):Rd α→Prop
 | .ok v e=>i<e∧e≤s.size∧P v e
 | .bad c p=>Ja c∧i≤p∧p≤s.size
theorem rd5:Ja 5:=.inr (.inr (.inl rfl))
theorem G9 {s:ByteArray}{i:Nat}(h:i<s.size):bAt s i<256:=by
 obtain⟨b,_,h2⟩:=Aw h
 rw[h2];exact b.toNat_lt
theorem BW {s:ByteArray}{i:Nat}(h:bAt s i≠256):i<s.size:=CP (by have:=Yn s i;omega)
theorem Iw {s:ByteArray}{i:Nat}(h:i<s.size):i≤AB s i∧AB s i≤i+1∧AB s i≤s.size:=by
 unfold AB
 split
 ·exact⟨by omega,Nat.le_refl _,by omega⟩
 ·exact⟨Nat.le_refl _,by omega,by omega⟩
theorem IM {s:ByteArray}{i:Nat}(h:i<s.size) (hd:AP (bAt s (AB s i))=true):AB s i<AQ s i∧AQ s i≤s.size∧∀j,AB s i≤j→j<AQ s i→AP (bAt s j)=true:=by
 have hlt:=CP (s:=s) (i:=AB s i) (by have:=DM hd;omega)
 unfold AQ
 by_cases h0:bAt s (AB s i)=48
 ·rw[if_pos h0]
  refine⟨by omega,by omega,fun j h1 h2=>?_⟩
  have:j=AB s i:=by omega
  rw[this];exact hd
 ·rw[if_neg h0]
  obtain⟨h1,h2,_,h3⟩:=Kg (s:=s) (i:=AB s i) (by omega)
  refine⟨?_,h2,h3⟩
  rw[IX hd]
  have:=(Kg (s:=s) (i:=AB s i+1) (by omega)).1
  omega
theorem W8 {s:ByteArray}{i:Nat}(h:Dx s i=false):-1000000000000000≤Ef s i∧Ef s i≤1000000000000000:=by
 have h2:Bf s (AB s i) (AQ s i-AB s i)≤1000000000000000:=by
  unfold Dx at h
  have:=(Bool.or_eq_false_iff.1 h).2
  simpa using this
 unfold Ef
 split<;>omega
theorem Ty {s:ByteArray}{i:Nat}(h:i<s.size):(K8 s i).fine s i fun n _=>-1000000000000000≤n∧n≤1000000000000000:=by
 obtain⟨ha,ha',ha2⟩:=Iw h
 unfold K8
 cases hd:AP (bAt s (AB s i)) with
 |false=>exact⟨rd5,ha,ha2⟩
 |true =>
  obtain⟨h1,h2,_⟩:=IM h hd
  simp only[Bool.true_eq_false,if_false]
  cases hb:Dx s i with
  |true=>exact⟨.inr (.inl rfl),Nat.le_refl _,by omega⟩
  |false =>
   simp only[Bool.false_eq_true,if_false]
   split
   ·exact⟨.inr (.inl rfl),by omega,h2⟩
   ·exact⟨by omega,h2,W8 hb⟩
theorem GL {n:Nat}(h:¬B8 n<0):48≤n∧n≤102∧B8 n≤15∧0≤B8 n:=by
 unfold B8 at *
 unfold AP at *
 by_cases h1:48≤n<;>by_cases h2:n≤57<;>by_cases h3:97≤n<;>by_cases h4:n≤102<;>by_cases h5:65≤n<;>by_cases h6:n≤70<;>simp[h1,h2,h3,h4,h5,h6]at h ⊢<;>omega
theorem Ju {s:ByteArray}{i:Nat}(h:i<s.size):(EJ s i).fine s i fun b _=>32≤b∧b≤126:=by
 unfold EJ
 split
 ·rename_i h1
  have hlt:=BW (s:=s) (i:=i+1) (by omega)
  exact⟨by omega,by omega,by omega,by omega⟩
 split
 ·exact⟨rd5,by omega,by omega⟩
 rename_i h0 h1
 have hlt:=BW (s:=s) (i:=i+1) (by omega)
 split
 ·exact⟨rd5,by omega,by omega⟩
 rename_i h2
 have hlt2:=BW (s:=s) (i:=i+2) (by omega)
 split
 ·exact⟨rd5,by omega,by omega⟩
 rename_i h3
 have hlt3:=BW (s:=s) (i:=i+3) (by omega)
 split
 ·exact⟨rd5,by omega,by omega⟩
 rename_i h4
 have g4:=GL h4
 have hlt4:=BW (s:=s) (i:=i+4) (by omega)
 split
 ·exact⟨rd5,by omega,by omega⟩
 rename_i h5
 have g5:=GL h5
 have hlt5:=BW (s:=s) (i:=i+5) (by omega)
 split
 ·exact⟨by omega,by omega,by omega,by omega⟩
 ·exact⟨rd5,by omega,by omega⟩
def Sj (t:ByteArray):Prop:=t.data.toList.all CS=true
theorem Rv:Sj ByteArray.empty:=by unfold Sj;rfl
theorem MS {t:ByteArray}(h:Sj t) {n:Nat}(h1:32≤n) (h2:n≤126):Sj (t++BF n):=by
 unfold Sj at *
 have hb:CS (UInt8.ofNat n)=true:=by
  have:(UInt8.ofNat n).toNat=n:=by
   rw[UInt8.toNat_ofNat']
   exact Nat.mod_eq_of_lt (by omega)
  unfold CS
  rw[this]
  simp[h1,h2]
 have hd:(t++BF n).data=t.data++#[UInt8.ofNat n]:=ByteArray.data_append
 rw[hd,Array.toList_append,List.all_append,h]
 simp[hb]
theorem GC (n:Nat):(BF n).size=1:=rfl
theorem DN (t:ByteArray) (n:Nat):(t++BF n).size=t.size+1:=by rw[ByteArray.size_append,GC]
theorem Sk {s:ByteArray}{from_:Nat}:∀(n i:Nat) (out:ByteArray),s.size-i<n→from_<i→i≤s.size→Sj out→(CU s from_ n i out).fine s from_ fun t _=>AN t=true:=by
 intro n
 induction n with
 |zero=>intro i out hn;omega
 |succ n ih =>
  intro i out hn hf hi ho
  unfold CU
  split
  ·exact⟨rd5,by omega,Nat.le_refl _⟩
  split
  ·split
   ·exact⟨.inl rfl,Nat.le_refl _,by omega⟩
   ·rename_i h60
    refine⟨by omega,by omega,?_⟩
    show AN out=true
    unfold AN
    unfold Sj at ho
    rw[ho]
    simp
    omega
  split
  ·exact⟨rd5,by omega,hi⟩
  rename_i h1 h2 h3
  split
  ·exact ih (i+1) _ (by omega) (by omega) (by omega) (MS ho (by omega) (by omega))
  ·have he:=Ju (s:=s) (i:=i) (by omega)
   cases hr:EJ s i with
   |bad c p =>
    rw[hr]at he
    exact⟨he.1,by have:=he.2.1;omega,he.2.2⟩
   |ok b e =>
    rw[hr]at he
    obtain⟨g1,g2,g3,g4⟩:=he
    exact ih e _ (by omega) (by omega) g2 (MS ho g3 g4)
theorem Ep {s:ByteArray}{i:Nat}(hi:i≤s.size):(E4 s i).fine s i fun t _=>AN t=true:=by
 unfold E4
 split
 ·exact⟨rd5,Nat.le_refl _,hi⟩
 ·rename_i h
  have hlt:=BW (s:=s) (i:=i) (by omega)
  exact Sk _ _ _ (by omega) (by omega) (by omega) Rv
theorem Lf {s:ByteArray}{v:V}{i:Nat}:∀(l:List Nat) (k:Nat),(∀b∈l,b<256)→i+k≤s.size→(l≠[]∨0<k)→(Ck s v i l k).fine s i fun x _=>x=v
 | [],k,_,h,hk=>by
  unfold Ck
  refine⟨?_,h,rfl⟩
  rcases hk with hk | hk
  ·exact absurd rfl hk
  ·omega
 |b::r,k,hb,h,hk=>by
  unfold Ck
  split
  ·rename_i hbe
   have h1:=hb b (by simp)
   have hlt:=CP (s:=s) (i:=i+k) (by omega)
   exact Lf r (k+1) (fun x hx=>hb x (by simp[hx])) (by omega) (.inr (by omega))
  ·exact⟨rd5,by omega,h⟩
theorem Je {s:ByteArray}{i:Nat}(hi:i≤s.size):(Hs s i).fine s i fun t _=>AN t=true:=by
 unfold Hs
 have h:=Ep hi
 cases hr:E4 s i with
 |bad c p=>rw[hr]at h;exact h
 |ok k e =>
  rw[hr]at h
  obtain⟨h1,h2,h3⟩:=h
  obtain⟨g1,g2,_⟩:=AM h2
  show (if bAt s (Af s e)≠58 then Rd.bad 5 (Af s e) else .ok k (Af s (Af s e+1))).fine s i _
  split
  ·exact⟨rd5,by omega,g2⟩
  ·rename_i h4
   have hlt:=BW (s:=s) (i:=Af s e) (by omega)
   obtain⟨g3,g4,_⟩:=AM (s:=s) (i:=Af s e+1) (by omega)
   exact⟨by omega,g4,h3⟩
def rdV (k i:Nat) (v:V) (e:Nat):Prop:=v.fit∧v.depth≤k∧v.count≤e-i∧(v.count≤200→v.wf)
theorem OQ {s:ByteArray}{k:Nat}{rd:Nat→Rd V}(hrd:∀i,i≤s.size→(rd i).fine s i (rdV k i)) (i0:Nat) (obj:Bool):∀(n i:Nat) (first:Bool) (keys:List ByteArray) (kids:List V),s.size-i<n→i0<i→i≤s.size→(obj=true→keys.length=kids.length)→(∀x∈keys,AN x=true)→(∀v∈kids,v.fit∧v.depth≤k∧(v.count≤200→v.wf))→An kids+i0+1≤i→(Bd s rd obj n i first keys kids).fine s i0 (rdV (k+1) i0):=by
 intro n
 induction n with
 |zero=>intro i first keys kids hn;omega
 |succ n ih =>
  intro i first keys kids hn h0 hi hl hks hvs hc
  unfold Bd
  by_cases hend:bAt s i=(if obj then 125 else 93)
  ·rw[if_pos hend]
   have hlt:=BW (s:=s) (i:=i) (by rw[hend];cases obj<;>decide)
   refine⟨by omega,by omega,?_⟩
   have hfit:∀v∈kids,v.fit:=fun v hv=>(hvs v hv).1
   have hdep:∀v∈kids,v.depth≤k:=fun v hv=>(hvs v hv).2.1
   cases obj with
   |false =>
    refine⟨Xs hfit,?_,?_,fun h200=>?_⟩
    ·show AI kids+1≤k+1
     have:=Mn hdep
     omega
    ·show An kids+1≤i+1-i0
     omega
    ·have hcc:An kids+1≤200:=h200
     have hcl:=BR kids
     exact Y4 (NK.2 fun v hv=>(hvs v hv).2.2 (by have:=BC hv;omega)) (by omega)
   |true =>
    have hl':=hl rfl
    have hmem:∀v∈(AX keys).map (AH keys kids),v∈kids:=fun v hv=>by
     obtain⟨x,hx,rfl⟩:=List.mem_map.1 hv
     obtain⟨j,_,_,h3⟩:=EM (kids:=kids) hl' (C7.1 hx)
     exact List.mem_of_getElem? h3
    have hcl:An ((AX keys).map (AH keys kids))≤An kids:=Hx _ keys kids hl' rfl
    refine⟨X6 hl' (fun x hx=>Mk (hks x hx)) hfit,?_,?_,fun h200=>?_⟩
    ·show AI ((AX keys).map (AH keys kids))+1≤k+1
     have:=Mn fun v hv=>hdep v (hmem v hv)
     omega
    ·show An ((AX keys).map (AH keys kids))+1≤i+1-i0
     omega
    ·have hcc:An ((AX keys).map (AH keys kids))+1≤200:=h200
     have hln:=BR ((AX keys).map (AH keys kids))
     refine XZ (List.length_map _).symm (fun x hx=>hks x (C7.1 hx)) (Ex _) (fun v hv=>(hvs v (hmem v hv)).2.2 (by have:=BC hv;omega)) (by omega)
  rw[if_neg hend]
  by_cases hcomma:first=false∧bAt s i≠44
  ·rw[if_pos hcomma];exact⟨rd5,by omega,hi⟩
  rw[if_neg hcomma]
  have hj:∃j,(if first then i else Af s (i+1))=j∧i≤j∧j≤s.size:=by
   cases first with
   |true=>exact⟨i,rfl,Nat.le_refl _,hi⟩
   |false =>
    have hb:bAt s i=44:=Classical.byContradiction fun h=>hcomma ⟨rfl,h⟩
    have hlt:=BW (s:=s) (i:=i) (by omega)
    obtain⟨g1,g2,_⟩:=AM (s:=s) (i:=i+1) (by omega)
    exact⟨Af s (i+1),rfl,by omega,g2⟩
  obtain⟨j,hje,hj1,hj2⟩:=hj
  rw[hje]
  have hk:∃r,(if obj then Hs s j else .ok ByteArray.empty j)=r∧(match r with | .bad c p=>Ja c∧i0≤p∧p≤s.size | .ok x e=>j≤e∧e≤s.size∧AN x=true):=by
   cases obj with
   |false=>exact⟨_,rfl,Nat.le_refl _,hj2,B6⟩
   |true =>
    refine⟨_,rfl,?_⟩
    have hkf:=Je hj2
    show (match Hs s j with | .bad c p=>Ja c∧i0≤p∧p≤s.size | .ok x e=>j≤e∧e≤s.size∧AN x=true)
    cases hkr:Hs s j with
    |bad c p=>rw[hkr]at hkf;exact⟨hkf.1,by have:=hkf.2.1;omega,hkf.2.2⟩
    |ok x e=>rw[hkr]at hkf;exact⟨by have:=hkf.1;omega,hkf.2.1,hkf.2.2⟩
  obtain⟨r,hre,hr⟩:=hk
  rw[hre]
  cases r with
  |bad c p=>exact hr
  |ok x e =>
   obtain⟨h1,h2,h3⟩:=hr
   have hv:=hrd e h2
   show (match rd e with | .bad c p=>Rd.bad c p | .ok v e2=>Bd s rd obj n (Af s e2) false (if obj then keys++[x] else keys) (kids++[v])).fine s i0 _
   cases hve:rd e with
   |bad c p=>rw[hve]at hv;exact⟨hv.1,by have:=hv.2.1;omega,hv.2.2⟩
   |ok v e2 =>
    rw[hve]at hv
    obtain⟨g1,g2,g3,g4,g5,g6⟩:=hv
    obtain⟨k1,k2,_⟩:=AM g2
    refine ih (Af s e2) false _ _ (by omega) (by omega) k2 ?_ ?_ ?_ ?_
    ·intro ho
     subst ho
     simp[hl rfl]
    ·intro y hy
     cases obj with
     |false=>exact hks y hy
     |true =>
      rcases List.mem_append.1 hy with hy | hy
      ·exact hks y hy
      ·rw[List.mem_singleton.1 hy];exact h3
    ·intro y hy
     rcases List.mem_append.1 hy with hy | hy
     ·exact hvs y hy
     ·rw[List.mem_singleton.1 hy];exact⟨g3,g4,g6⟩
    ·rw[Dg]
     omega
theorem W2 {k i e:Nat}(m:Int) (h0:m=0∨m=1∨m=2) (h:i<e):rdV (k+1) i (BZ m) e:=by
 refine⟨⟨Nat.zero_le _,by simp,fun _=>rfl,fun h=>absurd h (by omega),fun _=>rfl,trivial⟩,?_,?_,fun _=>?_⟩
 ·show AI []+1≤k+1
  simp[AI]
 ·show An []+1≤e-i
  simp only[An]
  omega
 ·refine⟨?_,by simp[Ea];omega,trivial⟩
  rcases h0 with rfl | rfl | rfl<;>decide +kernel
theorem X1 {k i e:Nat}{t:ByteArray}(ht:AN t=true) (h:i<e):rdV (k+1) i (K9 t) e:=by
 refine⟨⟨by have:=Mk ht;show t.size≤200;omega,by simp,fun _=>rfl,fun h=>absurd h (by decide),fun _=>rfl,trivial⟩,?_,?_,fun _=>(R8 ht).1⟩
 ·show AI []+1≤k+1
  simp[AI]
 ·show An []+1≤e-i
  simp only[An]
  omega
theorem Xt {k i e:Nat}{n:Int}(hn:-1000000000000000≤n∧n≤1000000000000000) (h:i<e):rdV (k+1) i (GN n) e:=by
 refine⟨⟨Nat.zero_le _,by simp,fun _=>rfl,fun h=>absurd h (by decide),fun _=>rfl,trivial⟩,?_,?_,fun _=>(QV hn).1⟩
 ·show AI []+1≤k+1
  simp[AI]
 ·show An []+1≤e-i
  simp only[An]
  omega
theorem C2 {s:ByteArray}:∀(k i:Nat),i≤s.size→(Cq k s i).fine s i (rdV k i)
 | 0,i,h=>by
  unfold Cq
  split
  ·exact⟨rd5,h,Nat.le_refl _⟩
  ·exact⟨.inr (.inr (.inr rfl)),Nat.le_refl _,by omega⟩
 |k+1,i,h=>by
  have hw:∀(m:Int) (l:List Nat),(m=0∨m=1∨m=2)→(∀b∈l,b<256)→l≠[]→(Ck s (BZ m) i l 0).fine s i (rdV (k+1) i):=by
   intro m l hm hb hl
   have hf:=Lf (s:=s) (v:=BZ m) (i:=i) l 0 hb (by omega) (.inl hl)
   cases hr:Ck s (BZ m) i l 0 with
   |bad c p=>rw[hr]at hf;exact hf
   |ok v e =>
    rw[hr]at hf
    obtain⟨h1,h2,rfl⟩:=hf
    exact⟨h1,h2,W2 m hm h1⟩
  have hm:∀obj:Bool,i<s.size→(Bd s (Cq k s) obj (s.size+1) (Af s (i+1)) true [] []).fine s i (rdV (k+1) i):=by
   intro obj hlt
   obtain⟨g1,g2,_⟩:=AM (s:=s) (i:=i+1) (by omega)
   exact OQ (fun j hj=>C2 k j hj) i obj _ _ _ _ _ (by omega) (by omega) g2 (fun _=>rfl) (by simp) (by simp) (by simp only[An];omega)
  unfold Cq
  split
  ·exact⟨rd5,h,Nat.le_refl _⟩
  rename_i hlt
  split
  ·exact hw 0 _ (.inl rfl) (by simp) (by simp)
  split
  ·exact hw 1 _ (.inr (.inl rfl)) (by simp) (by simp)
  split
  ·exact hw 2 _ (.inr (.inr rfl)) (by simp) (by simp)
  split
  ·exact hm false (by omega)
  split
  ·exact hm true (by omega)
  split
  ·have hf:=Ep h
   cases hr:E4 s i with
   |bad c p=>rw[hr]at hf;exact hf
   |ok t e =>
    rw[hr]at hf
    exact⟨hf.1,hf.2.1,X1 hf.2.2 hf.1⟩
  ·have hf:=Ty (s:=s) (i:=i) (by omega)
   cases hr:K8 s i with
   |bad c p=>rw[hr]at hf;exact hf
   |ok t e =>
    rw[hr]at hf
    exact⟨hf.1,hf.2.1,Xt hf.2.2 hf.1⟩
end
end Go.Proofs.YtllfmaflodbieaaGreatDoor
