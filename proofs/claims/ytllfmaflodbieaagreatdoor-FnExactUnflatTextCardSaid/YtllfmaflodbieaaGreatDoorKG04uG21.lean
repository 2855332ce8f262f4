/- Texts of this proof: G04 G05 G20 G21. -/
import Derived.Test.YtllfmaflodbieaaGreatDoorKG01uG03
import Derived.Test.YtllfmaflodbieaaGreatDoorKB3
import Derived.Test.YtllfmaflodbieaaGreatDoorKM2uM45
set_option linter.all false
set_option maxHeartbeats 8000000
namespace Go.Proofs.YtllfmaflodbieaaGreatDoor
section
open Go.RowKit
section
variable {w:World} {S:Nat→Prop}
theorem UV {c:CellD}{v:List Value}{bs:List Nat}:CRs w S c.cs v bs↔v=B7 c∧bs=[]:=by
 simp only[CellD.cs,CRs,CR,B7]
 constructor
 ·rintro⟨_,_,_,_,rfl,rfl,⟨rfl,rfl⟩,_,_,_,_,rfl,rfl,⟨rfl,rfl⟩,_,_,_,_,rfl,rfl,⟨rfl,rfl⟩,_,_,_,_,rfl,rfl,⟨rfl,rfl⟩,_,_,_,_,rfl,rfl,⟨rfl,rfl⟩,rfl,rfl⟩
  exact⟨rfl,rfl⟩
 ·rintro⟨rfl,rfl⟩
  exact⟨_,_,[],[],rfl,rfl,⟨rfl,rfl⟩,_,_,[],[],rfl,rfl,⟨rfl,rfl⟩,_,_,[],[],rfl,rfl,⟨rfl,rfl⟩,_,_,[],[],rfl,rfl,⟨rfl,rfl⟩,_,_,[],[],rfl,rfl,⟨rfl,rfl⟩,rfl,rfl⟩
theorem Gw {α:Type}{f:α→List C}{g:α→List Value}(hf:∀{x v bs},CRs w S (f x) v bs↔v=g x∧bs=[]):∀{l:List α}{vs:List (List Value)}{bs:List Nat},Ag w S (l.map f) vs bs↔vs=l.map g∧bs=[]
 | [],vs,bs=>by simp[Ag]
 |x::l,vs,bs=>by
  simp only[List.map_cons,Ag]
  constructor
  ·rintro⟨v,vs',b1,b2,rfl,rfl,h1,h2⟩
   obtain⟨rfl,rfl⟩:=hf.1 h1
   obtain⟨rfl,rfl⟩:=(Gw hf).1 h2
   exact⟨rfl,rfl⟩
  ·rintro⟨rfl,rfl⟩
   exact⟨_,_,[],[],rfl,rfl,hf.2 ⟨rfl,rfl⟩,(Gw hf).2 ⟨rfl,rfl⟩⟩
theorem Row.resize {es n:Nat}{A:Option Addr}{xs:List (List Value)}(h:Row w S es A xs) (hl:∀x∈xs,x.length=n):Row w S n A xs:=by
 cases xs with
 |nil=>exact Row.nil
 |cons x xs =>
  have h1:=h.1 x (by simp)
  have h2:=hl x (by simp)
  rw[←h2,h1]
  exact h
theorem SI {α:Type}{f:α→List C}{g:α→List Value}{n:Nat}(hf:∀{x v bs},CRs w S (f x) v bs↔v=g x∧bs=[]) (hg:∀x,(g x).length=n) {l:List α}{v:Value} :
  CR w S (.sl (l.map f)) v []↔∃A cap,v=.slice A l.length cap∧l.length≤cap∧Row w S n A (l.map g):=by
 simp only[CR]
 constructor
 ·rintro⟨es,A,cap,vrows,rfl,h2,_,h4,h5,_⟩
  obtain⟨rfl,_⟩:=(Gw hf).1 h5
  rw[List.length_map]at h2 ⊢
  exact⟨A,cap,rfl,h2,h4.resize (by simp[hg])⟩
 ·rintro⟨A,cap,rfl,h2,h4⟩
  exact⟨n,A,cap,l.map g,by rw[List.length_map],by rw[List.length_map];exact h2,trivial,h4,(Gw hf).2 ⟨rfl,rfl⟩,trivial⟩
theorem UW (c:CellD):(B7 c).length=5:=rfl
theorem Cv {xs:List CellD}{v:Value}:CR w S (.sl (xs.map CellD.cs)) v []↔∃A cap,v=.slice A xs.length cap∧xs.length≤cap∧AU w S A xs:=SI UV UW
theorem Tg {s:ByteArray}{v:List Value}{bs:List Nat}:CRs w S (Ab s) v bs↔v=[.string s]∧bs=[]:=by
 simp only[Ab,CRs,CR]
 constructor
 ·rintro⟨_,_,_,_,rfl,rfl,⟨rfl,rfl⟩,rfl,rfl⟩
  exact⟨rfl,rfl⟩
 ·rintro⟨rfl,rfl⟩
  exact⟨_,_,[],[],rfl,rfl,⟨rfl,rfl⟩,rfl,rfl⟩
theorem SX {xs:List ByteArray}{v:Value}:CR w S (.sl (xs.map Ab)) v []↔∃A cap,v=.slice A xs.length cap∧xs.length≤cap∧Ow w S A xs:=SI (f:=Ab) (g:=fun k=>[.string k]) (n:=1) Tg fun _=>rfl
mutual
theorem PC:∀{t:V}{vs:List Value},BB w S t vs→CRs w S t.cs vs []
 | .mk kind num text keys kids,vs,h=>by
  simp only[BB]at h
  obtain⟨Ak,ck,Av,cv,kvs,rfl,h2,h3,h4,h5,h6⟩:=h
  have h7:=Ho h6
  have hl:=h7.length
  simp only[Jf,List.length_map]at hl
  simp only[V.cs,CRs]
  refine⟨_,_,[],[],rfl,rfl,⟨rfl,rfl⟩,_,_,[],[],rfl,rfl,⟨rfl,rfl⟩,_,_,[],[],rfl,rfl,⟨rfl,rfl⟩,_,_,[],[],rfl,rfl,SX.2 ⟨_,_,rfl,h2,h4⟩,_,_,[],[],rfl,rfl,?_,rfl,rfl⟩
  simp only[CR]
  exact⟨5,Av,cv,kvs,by rw[Jf,List.length_map],by rw[Jf,List.length_map];exact h3,trivial,h5,h7,trivial⟩
theorem Ho:∀{ts:List V}{vs:List (List Value)},AT w S ts vs→Ag w S (csL ts) vs []
 | [],vs,h=>by
  simp only[AT]at h
  subst h
  exact⟨rfl,rfl⟩
 |t::ts,vs,h=>by
  simp only[AT]at h
  obtain⟨v,vs',rfl,h1,h2⟩:=h
  exact⟨_,_,[],[],rfl,rfl,PC h1,Ho h2⟩
end
end
theorem Nc {w:World}{S:Nat→Prop}{m:Mem}{κ:Id→Value}:∀{xs:List C}{vs:List Value},CRs w S xs vs []→ARs w S m κ (xs.map .c) vs
 | [],vs,h=>by
  simp only[CRs]at h
  exact h.1
 |x::xs,vs,h=>by
  simp only[CRs]at h
  obtain⟨v,vs',b1,b2,rfl,h0,h1,h2⟩:=h
  have h3:b1=[]∧b2=[]:=by simpa using h0.symm
  obtain⟨rfl,rfl⟩:=h3
  exact⟨v,vs',rfl,h1,Nc h2⟩
theorem V.av_eq (t:V):t.av=.agg (t.cs.map .c):=by rw[V.cs_eq];rfl
theorem X2 {w:World}{S:Nat→Prop}{m:Mem}{κ:Id→Value}{t:V}{vs:List Value}(h:BB w S t vs):AR w S m κ t.av (.agg vs.toArray):=by
 rw[V.av_eq]
 refine⟨vs,rfl,Nc (PC h),?_⟩
 intro u hu
 cases t
 simp only[BB]at h
 obtain⟨Ak,ck,Av,cv,kvs,rfl,_⟩:=h
 simp only[List.mem_cons,List.not_mem_nil,or_false]at hu
 rcases hu with rfl | rfl | rfl | rfl | rfl<;>rfl
theorem AC.of_calls {P:Program}{f:FuncId}{args:List AV}{res:AV}
  (h:∀(S:Nat→Prop) (w:World) (κ:Id→Value) (B7:List Value),ARs w S [] κ args B7→Calls P f B7.toArray w fun e w'=>Below w.heap.size w w'∧∃v,e=.returned v∧∀T:Nat→Prop,(∀b,S b→T b)→(∀b,w.heap.size≤b→T b)→AR w' T [] κ res v):AC P f args [] res []:=by
 intro Γ B7 hE hA
 have how:∀b,Γ.ow b=none:=by
  intro b
  cases hb:Γ.ow b with
  |none=>rfl
  |some i=>obtain⟨_,o,h1,_⟩:=hE.own b i hb;simp[Mem.get]at h1
 refine (h _ _ _ _ hA).mono ?_
 rintro e w' ⟨hb,v,rfl,hv⟩
 refine⟨v,Γ.ow,Γ.κ,rfl,⟨hv _ (fun _ h=>h) (fun b hb=>⟨how b,.inr (.inl hb)⟩),fun i o h=>(by simp[Mem.get]at h),fun b i h=>(by rw[how b]at h;cases h),hb.os,hb.tape,hb.output,hb.size,fun b hl _=>⟨hb.block b hl,how b⟩,fun i o o' h=>(by simp[Mem.get]at h)⟩⟩
def noV:AV:=.agg [.c (.int .i64 0),.c (.int .i64 0),.c (.str ByteArray.empty),.nils,.nils]
theorem V7:noV=.agg [.c (.int .i64 0),.c (.int .i64 0),.c (.str ByteArray.empty),.nils,.nils]:=rfl
theorem Yr {w:World}{S:Nat→Prop}{m:Mem}{κ:Id→Value}:AR w S m κ noV (.agg Be) :=
 ⟨[.int .i64 0,.int .i64 0,.string ByteArray.empty,.slice none 0 0,.slice none 0 0],rfl,⟨_,_,rfl,⟨rfl,rfl⟩,_,_,rfl,⟨rfl,rfl⟩,_,_,rfl,⟨rfl,rfl⟩,_,_,rfl,rfl,_,_,rfl,rfl,rfl⟩,by
  intro u hu
  simp only[List.mem_cons,List.not_mem_nil,or_false]at hu
  rcases hu with rfl | rfl | rfl | rfl | rfl<;>rfl⟩
theorem Uu (xs:List CellD) (hz:G8 xs) (hd:(dec xs).2=none):AC Tryz.prog 56 [Ce xs] [] (.tup [noV,.c (.int .i64 (dec xs).1)]) []:=by
 refine AC.of_calls fun S w κ vs hv=>?_
 obtain⟨v,vs',rfl,h1,rfl⟩:=hv
 obtain⟨A,cap,rfl,_,hc⟩:=Cv.1 h1
 refine (J7 xs hz A cap S w hc).mono ?_
 rintro e w' ⟨hb,he⟩
 rw[hd]at he
 subst he
 exact⟨hb,_,rfl,fun T _ _=>⟨[_,_],rfl,_,_,rfl,Yr,_,_,rfl,⟨rfl,rfl⟩,rfl⟩⟩
theorem Pl (xs:List CellD) (hz:G8 xs) {t:V}(hd:(dec xs).2=some t):AC Tryz.prog 56 [Ce xs] [] (.tup [t.av,.c (.int .i64 0)]) []:=by
 refine AC.of_calls fun S w κ vs hv=>?_
 obtain⟨v,vs',rfl,h1,rfl⟩:=hv
 obtain⟨A,cap,rfl,_,hc⟩:=Cv.1 h1
 refine (J7 xs hz A cap S w hc).mono ?_
 rintro e w' ⟨hb,he⟩
 rw[hd]at he
 obtain⟨vs,rfl,hr⟩:=he
 exact⟨hb,_,rfl,fun T _ hT=>⟨[_,_],rfl,_,_,rfl,X2 (hr.weaken fun b hb _=>hT b hb),_,_,rfl,⟨rfl,rfl⟩,rfl⟩⟩
end
section
open Go.RowKit
def Wd (p:List V×V):List C:=[.osl ((DB p.1).enc.map CellD.cs)]
theorem Tz (l:List (List V×V)):((l.map Wd).all fun r=>r.length==1)=true:=by simp[Wd]
attribute [go_sem] Tz
set_option maxRecDepth 10000
theorem a0j {l:List V}{q:V}(h:Pd l) (hq:q.neat):Pd (l++[q]):=by
 induction l with
 |nil=>exact⟨hq,trivial⟩
 |cons x l ih=>exact⟨h.1,ih h.2⟩
mutual
theorem v7:∀(t:V) (ahead:List V),Pd ahead→∀p∈t.paths ahead,Pd p.1∧An p.1+1≤An ahead+t.count
 | .mk kind num text keys kids,ahead,ha=>by
  intro p hp
  simp only[V.paths,List.mem_cons]at hp
  rcases hp with rfl | hp
  ·exact⟨ha,by simp only[V.count];omega⟩
  ·have:=b7 (V.mk kind num text keys kids).keyV (fun i=>by unfold V.keyV;split<;>simp[K9,GN,V.neat,Pd,V.count,An]) 0 kids ahead ha p hp
   exact⟨this.1,by simp only[V.count];omega⟩
theorem b7:∀(key:Nat→V),(∀i,(key i).neat∧(key i).count=1)→∀(i:Nat) (ks ahead:List V),Pd ahead→∀p∈Dv key i ks ahead,Pd p.1∧An p.1+1≤An ahead+1+An ks
 |_,_,_,[],_,_=>by simp[Dv]
 |key,hk,i,k::ks,ahead,ha=>by
  intro p hp
  simp only[Dv,List.mem_append]at hp
  rcases hp with hp | hp
  ·have:=v7 k (ahead++[key i]) (a0j ha (hk i).1) p hp
   rw[Dg,(hk i).2]at this
   exact⟨this.1,by simp only[An];omega⟩
  ·have:=b7 key hk (i+1) ks ahead ha p hp
   exact⟨this.1,by simp only[An];omega⟩
end
theorem Mq (l:List V):(DB l).count=An l+1:=rfl
def Zo (c:Int) (t:V):AV:=.agg [.c (.int .i64 c),.c (.int .i64 t.kind),.c (.int .i64 t.num),.c (.str t.text),.c (.sl (t.keys.map Ab)),.c (.sl (t.kids.map V.cs))]
def Qr (r:Int×Option V):AV:=match r.2 with
 |some t=>Zo 0 t
 |none=>Zo r.1 P5
theorem WV (c:Int) (t:V):Zo c t=.agg [.c (.int .i64 c),.c (.int .i64 t.kind),.c (.int .i64 t.num),.c (.str t.text),.c (.sl (t.keys.map Ab)),.c (.sl (t.kids.map V.cs))]:=rfl
theorem PU (c:Int):Zo c P5=.agg [.c (.int .i64 c),.c (.int .i64 0),.c (.int .i64 0),.c (.str ByteArray.empty),.c (.sl []),.c (.sl [])]:=rfl
theorem i8 (t:V):Qr (okR t)=Zo 0 t:=rfl
theorem KD (c:Int):Qr (Zq c)=Zo c P5:=rfl
theorem Vu:P5.av=.agg [.c (.int .i64 0),.c (.int .i64 0),.c (.str ByteArray.empty),.c (.sl []),.c (.sl [])]:=rfl
attribute [go_sem] WV
set_option maxRecDepth 10000
theorem Xn:AC Tryz.prog 45 [] [] P5.av []:=by
 rw[Vu]
 refine A6 Tryz.func45 Tryz.ntmps45 ?_
 refine A0 trivial ?_
 exact Am (A7 []) Tryz.results45
theorem GS (c:Int):AC Tryz.prog 150 [.c (.int .i64 c)] [] (Zo c P5) []:=by
 rw[PU]
 refine A6 Tryz.func150 Tryz.ntmps150 ?_
 refine A0 trivial ?_
 exact Am (A7 []) Tryz.results150
theorem OL:∀(m:Nat) (t:V),t.count≤m→t.count≤500000→AC Tryz.prog 120 [t.av] [] (.c (.int .i64 t.count)) []:=by
 intro m
 induction m with
 |zero=>intro t hm _;have:=Bc t;omega
 |succ m ih =>
  intro t hm hM
  have hkc:=Bp t
  have hkl:=BR t.kids
  obtain⟨R,hR⟩:∃R:Nat→Nat,∀k,R k=1+An (t.kids.take k):=⟨_,fun _=>rfl⟩
  have h0:R 0=1:=by rw[hR];simp[An]
  refine A6 Tryz.func120 Tryz.ntmps120 ?_
  refine A0 trivial ?_
  refine AG (κ:=Nat) (fun k=>⟨mkS 0 19 [(1,.ptr (1,0) 0),(3,.c (.int .i64 (R k))),(7,.c (.sl (t.kids.map V.cs))),(8,.c (.int .i64 t.kids.length)),(9,.c (.int .i64 k))],
    [((1,0),.box [.c (.int .i64 t.kind),.c (.int .i64 t.num),.c (.str t.text),.c (.sl (t.keys.map Ab)),.c (.sl (t.kids.map V.cs))])]⟩)
   (fun k=>k≤t.kids.length) (fun k=>t.kids.length-k) 0 (Nat.zero_le _) ?_ ?_
  ·exact Aq (As.of [((1,0),(1,0))] []) h0
  ·intro k hk
   by_cases hlt:k<t.kids.length
   ·have hd:decide ((k:Int)<(t.kids.length:Int))=true:=by simpa using hlt
    have hr:Aj (t.kids.map V.cs) 5 k=true:=by simp[Aj,hlt,V.cs_eq]
    have hg:(t.kids.map V.cs)[k]? = some t.kids[k].cs:=by simp[hlt]
    have hmem:=BC (List.getElem_mem hlt)
    have hRk:R (k+1)=R k+t.kids[k].count:=by rw[hR,hR,List.take_succ_eq_append_getElem hlt,Dg];omega
    have hRl:R (k+1)≤t.count:=by rw[hR];have:=Ew t.kids (k+1);omega
    have hw:=Ae (k:=k) (by omega)
    generalize t.kids[k]=u at *
    have hi:=ih u (by omega) (by omega)
    have hs:IntKind.i64.wrap ((R k:Int)+(u.count:Int))=((R (k+1):Nat):Int):=by rw[IntWalk.i64_in _ (by omega)];omega
    refine A0 (j3 hd hr hg) ?_
    refine w7 (A3 [] hi) trivial ?_
    refine A0 (j2 hs hw) ?_
    refine⟨k+1,by omega,by omega,?_⟩
    exact Aq (As.of [((1,0),(1,0))] []) hs
   ·have hd:decide ((k:Int)<(t.kids.length:Int))=false:=by simpa using hlt
    have hke:R k=t.count:=by rw[hR,List.take_of_length_le (by omega)];omega
    refine A0 hd ?_
    exact A7 [] (by simp only[Tryz.results120,go_sem,Nat.reduceBEq,Nat.reduceLT];exact rfl) (by simp only[go_sem,Nat.reduceEqDiff,Nat.reduceAdd,Nat.reduceSub,Nat.reduceLeDiff,Nat.reduceMul,Nat.reduceBEq,Nat.reduceLT,Int.reduceToNat,reduceCtorEq,hke]) rfl
theorem Da {s:ByteArray}(h:AN s=true):s.size≤60:=by
 unfold AN at h
 simp only[Bool.and_eq_true,decide_eq_true_eq]at h
 exact h.1
theorem Df {t:V}(h:t.right):G8 t.enc:=by
 intro c hc
 have h1:=E0 t ByteArray.empty h.1 B6 c hc
 have h2:=MT h1
 exact⟨by have:=Da h2.1;omega,by have:=Da h2.2;omega⟩
theorem a1y {t:V}(h:t.right):AC Tryz.prog 90 [t.av] [] (.c (.int .i64 0)) []:=by
 have hc:=h.2.1
 have h1:=OL t.count t (Nat.le_refl _) (by omega)
 have h2:=UX t.count t (Nat.le_refl _) (by omega) (Ls h)
 have h3:=Pl t.enc (Df h) (t:=t) (by rw[J9 h])
 have hd:decide ((t.count:Int)>200)=false:=by simp;omega
 refine A6 Tryz.func90 Tryz.ntmps90 ?_
 refine A0 trivial ?_
 refine w7 (A3 [] h1) trivial ?_
 refine A0 hd ?_
 refine w12 (IE [] h2) trivial ?_
 refine w9 (Aa [(10,0)] h3) trivial ?_
 refine A0 trivial ?_
 exact Am (A7 []) Tryz.results90
theorem VN {t:V}(h:t.right):AC Tryz.prog 93 [t.av] [] (Zo 0 t) []:=by
 have h1:=a1y h
 have h0:((0:Int) != 0)=false:=rfl
 refine A6 Tryz.func93 Tryz.ntmps93 ?_
 refine A0 trivial ?_
 refine w7 (A3 [] h1) trivial ?_
 refine A0 h0 ?_
 exact Am (A7 []) Tryz.results93
set_option maxRecDepth 10000
theorem a1d (s:ByteArray):AC Tryz.prog 259 [.c (.str s)] [] (.c (.bool false)) []:=by
 refine A6 Tryz.func259 Tryz.ntmps259 ?_
 (repeat (first | (with_reducible first | refine GU ?_ | refine Br ?_ | refine DT ?_ | refine DU ?_) | ((with_reducible apply F7);(iterate 2 (focus (first | (simp only[go_sem,Nat.reduceEqDiff,Nat.reduceAdd,Nat.reduceSub,Nat.reduceLeDiff,Nat.reduceMul,Nat.reduceBEq,Nat.reduceLT,Int.reduceToNat,reduceCtorEq,beq_self_eq_true];first | done | exact rfl | (and_intros<;>rfl)) | exact rfl | decide)))) | ((with_reducible refine GT ?_);dsimp only;try ((with_reducible apply Fb);(focus (simp only[go_sem];exact rfl));(focus decide))) | ((with_reducible first | refine Ha ?_ | refine F9 ?_ | refine DQ ?_);dsimp only) | ((with_reducible refine F8 ?_);dsimp only;simp only[if_true,if_false,Nat.reduceEqDiff]) | ((with_reducible apply Mi);(focus (simp only[go_sem,Nat.reduceBEq,Nat.reduceLT,beq_self_eq_true];exact rfl));dsimp only[cond_true,cond_false]) | ((with_reducible refine F5 ?_ ?_);(focus exact rfl))))
 exact Am (A7 []) Tryz.results259
theorem a1e (s:ByteArray):AC Tryz.prog 249 [.c (.str s)] [] (.c (.bool false)) []:=by
 refine A6 Tryz.func249 Tryz.ntmps249 ?_
 (repeat (first | (with_reducible first | refine GU ?_ | refine Br ?_ | refine DT ?_ | refine DU ?_) | ((with_reducible apply F7);(iterate 2 (focus (first | (simp only[go_sem,Nat.reduceEqDiff,Nat.reduceAdd,Nat.reduceSub,Nat.reduceLeDiff,Nat.reduceMul,Nat.reduceBEq,Nat.reduceLT,Int.reduceToNat,reduceCtorEq,beq_self_eq_true];first | done | exact rfl | (and_intros<;>rfl)) | exact rfl | decide)))) | ((with_reducible refine GT ?_);dsimp only;try ((with_reducible apply Fb);(focus (simp only[go_sem];exact rfl));(focus decide))) | ((with_reducible first | refine Ha ?_ | refine F9 ?_ | refine DQ ?_);dsimp only) | ((with_reducible refine F8 ?_);dsimp only;simp only[if_true,if_false,Nat.reduceEqDiff]) | ((with_reducible apply Mi);(focus (simp only[go_sem,Nat.reduceBEq,Nat.reduceLT,beq_self_eq_true];exact rfl));dsimp only[cond_true,cond_false]) | ((with_reducible refine F5 ?_ ?_);(focus exact rfl))))
 exact Am (A7 []) Tryz.results249
theorem y9 (a b:ByteArray):AC Tryz.prog 248 [.c (.str a),.c (.str b)] [] (.c (.bool (BS a b))) []:=by
 refine A6 Tryz.func248 Tryz.ntmps248 ?_
 refine A0 trivial ?_
 refine w7 (A3 [] (a1d a)) trivial ?_
 refine A0 trivial ?_
 exact A7 [] (by simp only[Tryz.results248,go_sem,Nat.reduceBEq,Nat.reduceLT];exact rfl) (by simp only[go_sem,Nat.reduceEqDiff,Nat.reduceAdd,Nat.reduceSub,Nat.reduceLeDiff,Nat.reduceMul,Nat.reduceBEq,Nat.reduceLT,Int.reduceToNat,reduceCtorEq,BS]) rfl
def Dw (ks:List ByteArray) (key:ByteArray):Nat:=ks.findIdx fun k=>!BS k key
theorem Qj (ks:List ByteArray) (key:ByteArray):Dw ks key≤ks.length:=List.findIdx_le_length
theorem TF {ks:List ByteArray}{key:ByteArray}{t:Nat}(h:t<Dw ks key):BS (ks[t]'(by have:=Qj ks key;omega)) key=true:=by
 have:=List.not_of_lt_findIdx h
 simpa using this
theorem TJ {ks:List ByteArray}{key:ByteArray}(hs:asc none ks) {t:Nat}(ht:t<ks.length) (h:Dw ks key≤t):BS ks[t] key=false:=by
 have hp:Dw ks key<ks.length:=by omega
 have h1:BS (ks[Dw ks key]) key=false:=by
  have h2:(fun k=>!BS k key) (ks[Dw ks key])=true:=List.findIdx_getElem (w:=hp)
  simpa using h2
 by_cases he:t=Dw ks key
 ·subst he;exact h1
 ·have h2:=Kz hs (i:=Dw ks key) (j:=t) (by omega) ht
  cases hl:BS ks[t] key with
  |false=>rfl
  |true =>
   have:=E6 h2 hl
   rw[h1]at this
   cases this
def Cn (ks:List ByteArray) (key:ByteArray):Bool:=if h:Dw ks key<ks.length then ks[Dw ks key].toList==key.toList else false
theorem a0b {ks:List ByteArray}{key:ByteArray}(hs:asc none ks):EN ks key=if Cn ks key then some (Dw ks key) else none:=by
 rw[Uw hs (Qj ks key) (fun t h=>TF h) (fun t h hp=>TJ hs h hp)]
 unfold Cn
 by_cases h:Dw ks key<ks.length
 ·rw[dif_pos h,dif_pos h]
 ·rw[dif_neg h,dif_neg h];rfl
theorem c8 (ks:List ByteArray) (key:ByteArray) (hs:asc none ks) (hl:ks.length≤1000000):AC Tryz.prog 205 [.c (.sl (ks.map Ab)),.c (.str key)] [] (.tup [.c (.int .i64 (Dw ks key)),.c (.bool (Cn ks key))]) []:=by
 have hple:=Qj ks key
 obtain⟨p,hp⟩:∃p,p=Dw ks key:=⟨_,rfl⟩
 rw[←hp]at hple
 refine A6 Tryz.func205 Tryz.ntmps205 ?_
 refine A0 trivial ?_
 refine AG (κ:=Nat×Nat) (fun x=>⟨mkS 0 54 [(0,.c (.sl (ks.map Ab))),(1,.c (.str key)),(6,.c (.int .i64 ks.length)),(7,.c (.int .i64 x.1)),(8,.c (.int .i64 x.2))],[]⟩)
  (fun x=>x.1≤p∧p≤x.2∧x.2≤ks.length) (fun x=>x.2-x.1) (0,ks.length) ⟨Nat.zero_le _,hple,Nat.le_refl _⟩ ?_ ?_
 ·exact Aq (As.of [] []) hl
 ·rintro⟨i,j⟩ ⟨hi,hj,hjn⟩
  dsimp only at hi hj hjn ⊢
  by_cases hlt:i<j
  ·have hdk:decide ((i:Int)<(j:Int))=true:=by simpa using hlt
   have hm1:(i+j) / 2<j:=by omega
   have hm2:i≤(i+j) / 2:=by omega
   have hwa:IntKind.i64.wrap ((i:Int)+(j:Int))=((i+j:Nat):Int):=by rw[IntWalk.i64_in _ (by omega)];omega
   have hwu:IntKind.u64.wrap ((i+j:Nat):Int)=((i+j:Nat):Int):=by
    unfold IntKind.wrap
    simp[IntKind.bits,IntKind.signed]
    omega
   have hwh:IntKind.i64.wrap (((i+j) / 2:Nat):Int)=(((i+j) / 2:Nat):Int):=by rw[IntWalk.i64_in _ (by omega)]
   generalize hH:(i+j) / 2=h at *
   have hhl:h<ks.length:=by omega
   have hr:Aj (ks.map Ab) 1 h=true:=by simp[Aj,hhl,Ab]
   have hg:(ks.map Ab)[h]? = some [.str ks[h]]:=by simp[hhl,Ab]
   have hc:=y9 ks[h] key
   have hw1:=Ae (k:=h) (by omega)
   cases hb:BS ks[h] key with
   |true =>
    rw[hb]at hc
    have hhp:h<p:=by
     by_cases hq:h<p
     ·exact hq
     ·rw[hp]at hq
      have:=TJ (key:=key) hs hhl (by omega)
      rw[this]at hb
      cases hb
    refine A0 (j3 hdk hwa hwu) ?_
    ((with_reducible apply Zk);(iterate 4 (focus (first | (simp only[go_sem,Nat.reduceEqDiff,Nat.reduceAdd,Nat.reduceSub,Nat.reduceLeDiff,Nat.reduceMul,Nat.reduceBEq,Nat.reduceLT,Int.reduceToNat,reduceCtorEq,hwa,hwu];first | done | exact rfl | (and_intros<;>rfl)) | exact rfl | decide))))
    refine A0 (j4 hH hwh hr hg) ?_
    refine w7 (A3 [] hc) trivial ?_
    refine A0 hw1 ?_
    refine⟨(h+1,j),by dsimp only;omega,⟨by dsimp only;omega,hj,hjn⟩,?_⟩
    exact Aq (As.of [] []) hw1
   |false =>
    rw[hb]at hc
    have hhp:p≤h:=by
     by_cases hq:p≤h
     ·exact hq
     ·rw[hp]at hq
      have:=TF (ks:=ks) (key:=key) (t:=h) (by omega)
      rw[this]at hb
      cases hb
    refine A0 (j3 hdk hwa hwu) ?_
    ((with_reducible apply Zk);(iterate 4 (focus (first | (simp only[go_sem,Nat.reduceEqDiff,Nat.reduceAdd,Nat.reduceSub,Nat.reduceLeDiff,Nat.reduceMul,Nat.reduceBEq,Nat.reduceLT,Int.reduceToNat,reduceCtorEq,hwa,hwu];first | done | exact rfl | (and_intros<;>rfl)) | exact rfl | decide))))
    refine A0 (j4 hH hwh hr hg) ?_
    refine w7 (A3 [] hc) trivial ?_
    refine A0 trivial ?_
    refine⟨(i,h),by dsimp only;omega,⟨hi,hhp,by dsimp only;omega⟩,?_⟩
    exact Aq (As.of [] []) hw1
  ·have hdk:decide ((i:Int)<(j:Int))=false:=by simpa using hlt
   have hip:i=p:=by omega
   subst hip
   by_cases hpn:i<ks.length
   ·have hdn:decide ((i:Int)<(ks.length:Int))=true:=by simpa using hpn
    have hr:Aj (ks.map Ab) 1 i=true:=by simp[Aj,hpn,Ab]
    have hg:(ks.map Ab)[i]? = some [.str ks[i]]:=by simp[hpn,Ab]
    have hf:Cn ks key=(ks[i].toList==key.toList):=by
     unfold Cn
     rw[dif_pos (by omega)]
     simp only[←hp]
    rw[hf,←hp]
    cases hb:ks[i].toList==key.toList with
    |true =>
     refine A0 (j5 hdk hdn hr hg hb) ?_
     exact Am (A7 []) Tryz.results205
    |false =>
     refine A0 (j5 hdk hdn hr hg hb) ?_
     refine w7 (A3 [] (a1e _)) trivial ?_
     refine A0 trivial ?_
     exact Am (A7 []) Tryz.results205
   ·have hdn:decide ((i:Int)<(ks.length:Int))=false:=by simpa using hpn
    have hf:Cn ks key=false:=by
     unfold Cn
     rw[dif_neg (by omega)]
    rw[hf,←hp]
    refine A0 (j2 hdk hdn) ?_
    exact Am (A7 []) Tryz.results205
theorem a1n {t:V}(h:t.right) (h6:t.kind=6) (key:ByteArray):AC Tryz.prog 154 [t.av,.c (.str key)] [] (t.member key).av []:=by
 obtain⟨hs,_,hkl⟩:=Gy h h6
 have hlc:=BR t.kids
 have hck:=Bp t
 have hc:=h.2.1
 have hb:=c8 t.keys key hs (by omega)
 have hfk:=a0b (ks:=t.keys) (key:=key) hs
 cases hf:Cn t.keys key with
 |false =>
  rw[hf]at hfk hb
  have hm:t.member key=P5:=by unfold V.member;rw[hfk];rfl
  rw[hm]
  refine A6 Tryz.func154 Tryz.ntmps154 ?_
  refine A0 trivial ?_
  refine w7 (A3 [] hb) trivial ?_
  refine A0 trivial ?_
  refine w7 (A3 [] Xn) trivial ?_
  refine A0 trivial ?_
  exact Am (A7 []) Tryz.results154
 |true =>
  rw[hf]at hfk hb
  have hp:Dw t.keys key<t.kids.length:=by
   unfold Cn at hf
   split at hf
   ·omega
   ·cases hf
  have hm:t.member key=t.kids[Dw t.keys key]:=by
   unfold V.member
   rw[hfk]
   simp only[if_true]
   rw[List.getD_eq_getElem?_getD,List.getElem?_eq_getElem hp,Option.getD_some]
  rw[hm]
  generalize Dw t.keys key=p at *
  have hr:Aj (t.kids.map V.cs) 5 p=true:=by simp[Aj,hp,V.cs_eq]
  have hg:(t.kids.map V.cs)[p]? = some t.kids[p].cs:=by simp[hp]
  refine A6 Tryz.func154 Tryz.ntmps154 ?_
  refine A0 trivial ?_
  refine w7 (A3 [] hb) trivial ?_
  refine A0 (j2 hr hg) ?_
  exact Am (A7 []) Tryz.results154
end
end Go.Proofs.YtllfmaflodbieaaGreatDoor
