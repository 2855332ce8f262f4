/- Texts of this proof: M35 G97 M36 G98 M37 G99. -/
import Derived.Test.YtcejfdfmgmcinaaGreatKG96
set_option linter.all false
set_option maxHeartbeats 8000000
namespace Go.Proofs.YtcejfdfmgmcinaaGreat
open Go.RowKit
def Hu (b:Nat) (D:List V):Prop:=∃Ds:List (List V),D=Ds.flatten∧∀T∈Ds,T.length=b∧AK T
theorem N6 (b:Nat):Hu b []:=⟨[],rfl,by simp⟩
theorem M6 {b:Nat}{D T:List V}(h:Hu b D) (hl:T.length=b) (hs:AK T):Hu b (D++T):=by
 obtain⟨Ds,rfl,hD⟩:=h
 refine⟨Ds++[T],by simp,fun U hU=>?_⟩
 rcases List.mem_append.1 hU with hU | hU
 ·exact hD U hU
 ·rw[List.mem_singleton.1 hU];exact⟨hl,hs⟩
theorem EI {b:Nat}{D:List V}(h:Hu b D):D=[]∨∃T D',D=T++D'∧T.length=b∧AK T∧Hu b D':=by
 obtain⟨Ds,rfl,hD⟩:=h
 cases Ds with
 |nil=>exact .inl rfl
 |cons T Ds=>exact .inr ⟨T,Ds.flatten,by simp,(hD T (by simp)).1,(hD T (by simp)).2,Ds,rfl,fun U hU=>hD U (List.mem_cons_of_mem _ hU)⟩
def OK (b:Nat) (R:List V):Prop:=∃T t,R=T++t∧Hu b T∧t.length<b∧AK t
theorem MZ {b:Nat}{D t:List V}(h:Hu b D) (hl:t.length<b) (hs:AK t):OK b (D++t):=⟨D,t,rfl,h,hl,hs⟩
theorem a0x {b:Nat}{R:List V}(h:OK b R) (hl:b+b≤R.length):∃X Y S,R=X++Y++S∧X.length=b∧Y.length=b∧AK X∧AK Y∧OK b S:=by
 obtain⟨T,t,rfl,hB,ht,hs⟩:=h
 rw[List.length_append]at hl
 rcases EI hB with rfl | ⟨X,T,rfl,hX,hXs,hB⟩
 ·rw[List.length_nil]at hl;omega
 ·rcases EI hB with rfl | ⟨Y,T,rfl,hY,hYs,hB⟩
  ·rw[List.append_nil]at hl;omega
  ·exact⟨X,Y,T++t,by simp only[List.append_assoc],hX,hY,hXs,hYs,MZ hB ht hs⟩
theorem a0w {b:Nat}{R:List V}(h:OK b R) (hl:R.length<b+b) (hb:b<R.length):∃X Y,R=X++Y∧X.length=b∧Y≠[]∧AK X∧AK Y:=by
 obtain⟨T,t,rfl,hB,ht,hs⟩:=h
 rw[List.length_append]at hl hb
 rcases EI hB with rfl | ⟨X,T,rfl,hX,hXs,hB⟩
 ·rw[List.length_nil]at hb;omega
 ·rcases EI hB with rfl | ⟨Y,T,rfl,hY,hYs,hB⟩
  ·rw[List.append_nil]at hb ⊢
   exact⟨X,t,rfl,hX,fun e=>by rw[e,List.length_nil]at hb;omega,hXs,hs⟩
  ·simp only[List.length_append]at hl;omega
theorem TG {b:Nat}{R:List V}(h:OK b R) (hl:R.length≤b):AK R:=by
 obtain⟨T,t,rfl,hB,ht,hs⟩:=h
 rw[List.length_append]at hl
 rcases EI hB with rfl | ⟨X,T,rfl,hX,hXs,hB⟩
 ·exact hs
 ·rw[List.length_append]at hl
  have h1:T=[]:=List.length_eq_zero_iff.1 (by omega)
  have h2:t=[]:=List.length_eq_zero_iff.1 (by omega)
  rw[h1,h2,List.append_nil,List.append_nil]
  exact hXs
theorem I7 {D X S L:List V}(h:(D++(X++S)).Perm L):(D++AD X++S).Perm L:=by
 refine List.Perm.trans ?_ h
 rw[←List.append_assoc]
 exact ((DZ X).append_left D).append_right S
set_option maxRecDepth 10000
theorem U1 (f:FuncId) (hf:Jz f):∀n,Ws f n:=by
 intro n
 induction n with
 |zero =>
  intro P X Y S hl hX0
  exact absurd (List.length_eq_zero_iff.1 (by omega)) hX0
 |succ n ih =>
  intro P X Y S hl hX0 hY0 hX hY hxr hyr hn
  have hx1:0<X.length:=List.length_pos_iff.2 hX0
  have hy1:0<Y.length:=List.length_pos_iff.2 hY0
  by_cases h1:X.length=1
  ·obtain⟨x,rfl⟩:=List.length_eq_one_iff.1 h1
   exact RZ f hf P x Y S hY hyr hn
  ·by_cases h2:Y.length=1
   ·obtain⟨y,rfl⟩:=List.length_eq_one_iff.1 h2
    exact Pf f hf P X y S (by omega) hX (hyr y (by simp)) hn
   ·by_cases h3:X.length>(X.length+Y.length) / 2
    ·exact U2 f hf ih P X Y S hl (by omega) (by omega) hX hY hxr hyr hn rfl h3
    ·exact U3 f hf ih P X Y S hl (by omega) (by omega) hX hY hxr hyr hn rfl h3
theorem Zh (f:FuncId) (hf:Jz f) (L:List V) (hr:∀x∈L,x.right) (hn:L.length≤100000) :
  AC Tryz.prog 341 [.own (0,0),.c (.int .i64 (L.length:Int)),.clo f []] (Ej L) (.tup []) (Ej (AD L)):=by
 have hsym:=U1 f hf
 have hins:=LL f hf
 clear hf
 refine A6 Tryz.func341 Tryz.ntmps341 q9 ?_
 refine Ar (κ:=List V×List V) (fun q=>⟨mkS 0 63 [(0,.own (0,0)),(1,.c (.int .i64 (L.length:Int))),(2,.clo f []),(6,.c (.int .i64 20)),(7,.c (.int .i64 (q.1.length:Int))),(8,.c (.int .i64 ((q.1.length+20:Nat):Int)))],[((0,0),Lr (q.1++q.2))]⟩)
  (fun q=>(q.1++q.2).Perm L∧Hu 20 q.1) (fun q=>q.2.length) ([],L) ⟨List.Perm.refl _,N6 20⟩ ?_ ?_
 ·exact Ac (Aj.of [((0,0),(0,0))] []) hn
 ·rintro⟨D,R⟩ ⟨hp,hb⟩
  dsimp only at hp hb ⊢
  have hlen:=hp.length_eq
  rw[List.length_append]at hlen
  have hrr:∀x∈R,x.right:=fun x hx=>hr x (hp.mem_iff.1 (List.mem_append_right _ hx))
  by_cases hlt:20≤R.length
  ·obtain⟨X,S,hX,rfl⟩:∃X S,X.length=20∧R=X++S:=⟨R.take 20,R.drop 20,by rw[List.length_take];omega,(List.take_append_drop ..).symm⟩
   rw[List.length_append]at hlen
   have hd:decide (((D.length+20:Nat):Int)≤(L.length:Int))=true:=decide_eq_true (by omega)
   have hw:IntKind.i64.wrap (((D.length+20:Nat):Int)+20)=((D.length+20+20:Nat):Int):=Bf (by omega) (by omega)
   have hi:=hins D X S (fun x hx=>hrr x (List.mem_append_left _ hx)) (by simp only[List.length_append];omega)
   have hp':=I7 hp
   have hZ:(AD X).length=20:=by rw[Fc,hX]
   have hb':=M6 hb hZ (Ch X)
   have hms:S.length<(X++S).length:=by rw[List.length_append];omega
   have hfn:(D++AD X).length=D.length+20:=by rw[List.length_append,hZ]
   rw[hX]at hi
   rw[←List.append_assoc]
   generalize AD X=Z at *
   generalize hU:D++X++S=U at *
   clear hU
   refine Ab hd ?_
   refine Bw (Am [((0,0),(0,0))] [((0,0),(0,0))] hi) q9 hw ?_
   refine⟨(D++Z,S),hms,⟨hp',hb'⟩,?_⟩
   dsimp only
   rw[hfn]
   generalize D++Z++S=W at *
   exact Ac (Aj.of [((0,0),(0,0))] []) hd
  ·have hd:decide (((D.length+20:Nat):Int)≤(L.length:Int))=false:=decide_eq_false (by omega)
   have hi:=hins D R [] hrr (by simp only[List.length_append,List.length_nil];omega)
   have hp':=I7 (D:=D) (X:=R) (S:=[]) (L:=L) (by rw[List.append_nil];exact hp)
   have hR0:OK 20 (D++AD R):=MZ hb (by rw[Fc];omega) (Ch R)
   rw[List.append_nil]at hp'
   rw[List.append_nil,List.append_nil,hlen]at hi
   generalize D++AD R=R0 at *
   generalize hU:D++R=U at *
   clear hU
   refine Ab hd ?_
   refine Bw (Am [((0,0),(0,0))] [((0,0),(0,0))] hi) q9 q9 ?_
   refine Ar (κ:=Nat×List V) (fun q=>⟨mkS 0 63 [(0,.own (0,0)),(1,.c (.int .i64 (L.length:Int))),(2,.clo f []),(6,.c (.int .i64 (q.1:Int)))],[((0,0),Lr q.2)]⟩)
    (fun q=>q.2.Perm L∧OK q.1 q.2∧1≤q.1) (fun q=>L.length-q.1) (20,R0) ⟨hp',hR0,by omega⟩ ?_ ?_
   ·exact Ac (Aj.of [((0,0),(0,0))] []) hd
   ·clear hd hi hp' hR0 hlen hrr hlt hp hb
    rintro⟨B,R⟩ ⟨hp,hR,hB⟩
    dsimp only at hp hR hB ⊢
    by_cases hlt:B<L.length
    ·have hd:decide ((B:Int)<(L.length:Int))=true:=decide_eq_true (by omega)
     have w2:IntKind.i64.wrap ((2:Int)*(B:Int))=((B+B:Nat):Int):=Bf (by omega) (by omega)
     have w3:IntKind.i64.wrap ((B:Int)*2)=((B+B:Nat):Int):=Bf (by omega) (by omega)
     have hz1:((0:Nat):Int)=0:=rfl
     have hz2:((0+B+B:Nat):Int)=((B+B:Nat):Int):=by rw[Nat.zero_add]
     have hB2:1≤B+B:=by omega
     have hmb:L.length-(B+B)<L.length-B:=by omega
     refine Ab (j2 hd @w2) ?_
     refine Ar (κ:=List V×List V) (fun q=>⟨mkS 0 63 [(0,.own (0,0)),(1,.c (.int .i64 (L.length:Int))),(2,.clo f []),(6,.c (.int .i64 (B:Int))),(7,.c (.int .i64 (q.1.length:Int))),(8,.c (.int .i64 ((q.1.length+B+B:Nat):Int)))],[((0,0),Lr (q.1++q.2))]⟩)
      (fun q=>(q.1++q.2).Perm L∧Hu (B+B) q.1∧OK B q.2) (fun q=>q.2.length) ([],R) ⟨hp,N6 _,hR⟩ ?_ ?_
     ·dsimp only[List.length_nil,List.nil_append]
      rw[hz1,hz2]
      exact Ac (Aj.of [((0,0),(0,0))] []) hd
     ·clear hp hR
      rintro⟨D,R⟩ ⟨hp,hb,hR⟩
      dsimp only at hp hb hR ⊢
      have hlen:=hp.length_eq
      rw[List.length_append]at hlen
      have hrr:∀x∈R,x.right:=fun x hx=>hr x (hp.mem_iff.1 (List.mem_append_right _ hx))
      have wm:IntKind.i64.wrap ((D.length:Int)+(B:Int))=((D.length+B:Nat):Int):=Bf (by omega) (by omega)
      by_cases hlt2:B+B≤R.length
      ·obtain⟨X,Y,S,rfl,hX,hY,hXs,hYs,hS⟩:=a0x hR hlt2
       simp only[List.length_append]at hlen
       have hd2:decide (((D.length+B+B:Nat):Int)≤(L.length:Int))=true:=decide_eq_true (by omega)
       have wb:IntKind.i64.wrap (((D.length+B+B:Nat):Int)+((B+B:Nat):Int))=((D.length+B+B+B+B:Nat):Int):=Bf (by omega) (by omega)
       have hi:=hsym _ D X Y S (Nat.le_refl _) (fun e=>by rw[e,List.length_nil]at hX;omega) (fun e=>by rw[e,List.length_nil]at hY;omega) hXs hYs (fun x hx=>hrr x (by simp[hx])) (fun x hx=>hrr x (by simp[hx])) (by simp only[List.length_append];omega)
       have hp':=I7 hp
       have hZ:(AD (X++Y)).length=B+B:=by rw[Fc,List.length_append,hX,hY]
       have hb':=M6 hb hZ (Ch (X++Y))
       have hms:S.length<(X++Y++S).length:=by simp only[List.length_append];omega
       have hfn:(D++AD (X++Y)).length=D.length+B+B:=by rw[List.length_append,hZ];omega
       rw[hX,hY]at hi
       have hU0:D++(X++Y++S)=D++X++Y++S:=by simp only[List.append_assoc]
       rw[hU0]
       clear hU0
       generalize AD (X++Y)=Z at *
       generalize hU:D++X++Y++S=U at *
       clear hU
       refine Ab (j2 hd2 wm) ?_
       refine Bw (Am [((0,0),(0,0))] [((0,0),(0,0))] hi) q9 (j2 @w2 wb) ?_
       refine⟨(D++Z,S),hms,⟨hp',hb',hS⟩,?_⟩
       dsimp only
       rw[hfn]
       generalize D++Z++S=W at *
       exact Ac (Aj.of [((0,0),(0,0))] []) hd2
      ·have hd2:decide (((D.length+B+B:Nat):Int)≤(L.length:Int))=false:=decide_eq_false (by omega)
       by_cases hlt3:B<R.length
       ·obtain⟨X,Y,rfl,hX,hY0,hXs,hYs⟩:=a0w hR (by omega) hlt3
        rw[List.length_append]at hlen hlt2
        have hd3:decide (((D.length+B:Nat):Int)<(L.length:Int))=true:=decide_eq_true (by rw[List.length_append]at hlt3;omega)
        have hi:=hsym _ D X Y [] (Nat.le_refl _) (fun e=>by rw[e,List.length_nil]at hX;omega) hY0 hXs hYs (fun x hx=>hrr x (by simp[hx])) (fun x hx=>hrr x (by simp[hx])) (by simp only[List.length_append,List.length_nil];omega)
        have hp':=I7 (D:=D) (X:=X++Y) (S:=[]) (L:=L) (by rw[List.append_nil];exact hp)
        have hR0:OK (B+B) (D++AD (X++Y)):=MZ hb (by rw[Fc,List.length_append];omega) (Ch _)
        have hl2:D.length+B+Y.length=L.length:=by omega
        rw[List.append_nil]at hp'
        rw[List.append_nil,List.append_nil,hX,hl2]at hi
        rw[←List.append_assoc]
        generalize D++AD (X++Y)=R0 at *
        generalize hU:D++X++Y=U at *
        clear hU
        refine Ab (j3 hd2 wm hd3) ?_
        refine Bw (Am [((0,0),(0,0))] [((0,0),(0,0))] hi) q9 @w3 ?_
        refine⟨(B+B,R0),hmb,⟨hp',hR0,hB2⟩,?_⟩
        exact Ac (Aj.of [((0,0),(0,0))] []) hd2
       ·have hd3:decide (((D.length+B:Nat):Int)<(L.length:Int))=false:=decide_eq_false (by omega)
        have hR0:OK (B+B) (D++R):=MZ hb (by omega) (TG hR (by omega))
        generalize D++R=R0 at *
        refine Ab (j4 hd2 wm hd3 @w3) ?_
        refine⟨(B+B,R0),hmb,⟨hp,hR0,hB2⟩,?_⟩
        exact Ac (Aj.of [((0,0),(0,0))] []) hd2
    ·have hd:decide ((B:Int)<(L.length:Int))=false:=decide_eq_false (by omega)
     have hs:=Hl (TG hR (by rw[hp.length_eq];omega)) hp
     rw[hs]
     refine Ab hd ?_
     exact Aa (A9 [((0,0),(0,0))] []) Tryz.results341 hd
theorem P7 (f:FuncId) (hf:Jz f) (L:List V) (hr:∀x∈L,x.right) (hn:L.length≤100000) :
  AC Tryz.prog 281 [.own (0,0),.clo f []] (Ej L) (.tup []) (Ej (AD L)):=by
 have h:=Zh f hf L hr hn
 have hl:(L.map V.cs).length=L.length:=List.length_map ..
 refine A6 Tryz.func281 Tryz.ntmps281 hl ?_
 refine Bw (Am [((0,0),(0,0))] [((0,0),(0,0))] h) q9 q9 ?_
 exact Aa (A9 [((0,0),(0,0))] []) Tryz.results281 hn
theorem Sl {a b:List V}(h:a.Perm b):Aw a=Aw b:=by
 induction h with
 |nil=>rfl
 |cons x _ ih=>simp only[Aw,ih]
 |swap x y l=>simp only[Aw];omega
 |trans _ _ h1 h2=>rw[h1,h2]
theorem Sx {a b:List V}(h:a.Perm b):AW a=AW b:=by
 induction h with
 |nil=>rfl
 |cons x _ ih=>simp only[AW,ih]
 |swap x y l=>simp only[AW];omega
 |trans _ _ h1 h2=>rw[h1,h2]
theorem a1q {a b:List V}(h:a.Perm b) (hw:wfL a):wfL b:=by
 induction h with
 |nil=>exact hw
 |cons x _ ih=>simp only[wfL]at hw ⊢;exact⟨hw.1,ih hw.2⟩
 |swap x y l=>simp only[wfL]at hw ⊢;exact⟨hw.2.1,hw.1,hw.2.2⟩
 |trans _ _ h1 h2=>exact h2 (h1 hw)
theorem VY {t:V}(h:t.right) (h5:t.kind=5) {l:List V}(hp:l.Perm t.kids):(AY l).right:=by
 obtain⟨s1,s2,s3,s4,s5,_⟩:=Ba h.1
 have e3:=s3 (by omega)
 have e4:=s4 (by omega)
 have e5:=s5 (by omega)
 obtain⟨hw,hc,hd⟩:=h
 cases t with
 |mk kind num text keys kids =>
  dsimp only[V.kind,V.num,V.text,V.keys,V.kids]at *
  subst h5 e3 e4 e5
  simp only[V.wf]at hw
  have hcl:=Sl hp
  have hdl:=Sx hp
  refine⟨?_,?_,?_⟩
  ·unfold AY
   simp only[V.wf]
   refine⟨?_,rfl,a1q hp.symm hw.2.2⟩
   rw[hp.length_eq]
   exact hw.1
  ·simp only[AY,V.count]at hc ⊢
   omega
  ·simp only[AY,V.depth]at hd ⊢
   omega
theorem Oo {t:V}(h:t.right) (h5:t.kind=5):(AY (AD t.kids)).right:=VY h h5 (DZ _)
def EV (t:V):Int×Option V:=if t.kind=5 then (0,some (AY (AD t.kids))) else (6,none)
theorem Kt {t:V}(h:t.right):CH (EV t):=by
 unfold EV
 split
 ·exact BT (Oo h ‹_›)
 ·exact BJ (by decide)
set_option maxRecDepth 10000
theorem Wf:Jz 282:=by
 refine⟨by simp only[go_sem],fun x y hx=>?_⟩
 have h:=G8 x.count x y (Nat.le_refl _) hx
 refine A6 Tryz.func282 Tryz.ntmps282 q9 ?_
 refine v7 (A3 [] h) q9 q9 ?_
 exact Aa (A9 [] []) Tryz.results282 @List.map_nil.{0,0}
theorem Zf {t:V}(ht:t.right):AC Tryz.prog 210 [t.av] [] (EF (EV t)) []:=by
 unfold EV
 have hkl:=(D4 ht).2
 by_cases h5:t.kind=5
 ·have hb:(t.kind != 5)=false:=by simp[h5]
  have h1:=HI t.kids (by omega)
  have h2:=P7 _ Wf t.kids (fun x hx=>Bb ht hx) (by omega)
  have h3:=EH (AD t.kids)
  have h4:=B8 (Oo ht h5)
  rw[if_pos h5]
  show AC _ _ _ _ (D7 0 (AY (AD t.kids))) _
  generalize AD t.kids=l at *
  generalize AY l=d at *
  refine A6 Tryz.func210 Tryz.ntmps210 hb ?_
  refine v12 (AU [] h1) q9 q9 ?_
  refine Bw (Am [((0,0),(10,0))] [((0,0),(10,0))] h2) q9 q9 ?_
  refine v9 (A4 [(10,0)] h3) q9 q9 ?_
  refine v9 (A4 [] h4) q9 q9 ?_
  exact Aa (A9 [] []) Tryz.results210 hb
 ·have hb:(t.kind != 5)=true:=by simpa using h5
  rw[if_neg h5]
  show AC _ _ _ _ (D7 6 BD) _
  refine A6 Tryz.func210 Tryz.ntmps210 hb ?_
  refine v9 (A4 [] (Bj 6)) q9 q9 ?_
  exact Aa (A9 [] []) Tryz.results210 hb
def Fj (t:V):Int×Option V :=
 if t.kind=0 then okR (C6 0) else if t.kind=3 then okR (C6 (max t.num (-t.num))) else if t.kind=4 then okR (C6 t.text.size) else if t.kind=5∨t.kind=6 then okR (C6 t.kids.length) else Eo 6
def BP (n:Nat):List V:=(List.range n).map fun (i:Nat)=>C6 (i:Int)
theorem DH (n:Nat):(BP n).length=n:=by simp[BP]
theorem I8 (n:Nat):BP (n+1)=BP n++[C6 (n:Int)]:=by simp[BP,List.range_succ]
theorem Ha {n:Nat}(h:n≤200):∀q∈BP n,a06 q:=fun q hq=>by
 obtain⟨i,hi,rfl⟩:=List.mem_map.1 hq
 have:=List.mem_range.1 hi
 exact X6 (.inr ⟨(i:Int),rfl,by omega,by omega⟩)
theorem Dq {P:List V}(h:∀q∈P,a06 q) (hl:P.length≤199):(AY P).right:=by
 obtain⟨h1,h2,h3⟩:=Pz h
 exact⟨Un h3 (by omega),by simp only[AY,V.count];omega,by simp only[AY,V.depth];omega⟩
def NR (k:Int):ByteArray:=if k=0 then ⟨#[110,117,108,108]⟩ else if k=1∨k=2 then ⟨#[98,111,111,108,101,97,110]⟩ else if k=3 then ⟨#[110,117,109,98,101,114]⟩ else if k=4 then ⟨#[115,116,114,105,110,103]⟩ else if k=5 then ⟨#[97,114,114,97,121]⟩ else ⟨#[111,98,106,101,99,116]⟩
def MI (t:V):Int×Option V:=okR (D9 (NR t.kind))
theorem T2 (k:Int):Bi (NR k)=true:=by
 unfold NR
 repeat' split
 all_goals decide +kernel
theorem Ud (t:V):CH (MI t):=BT (OE (T2 _))
def JL (t:V):Int×Option V:=if t.kind=6 then okR (AY (t.keys.map D9)) else if t.kind=5 then okR (AY (BP t.kids.length)) else Eo 6
theorem RX {l:List ByteArray}(h:∀k∈l,Bi k=true):∀q∈l.map D9,a06 q:=fun q hq=>by
 obtain⟨s,hs,rfl⟩:=List.mem_map.1 hq
 exact X6 (.inl ⟨s,rfl,h s hs⟩)
def JS:V→List V→Int×Option V
 |a,[]=>okR a
 |a,k::ks=>match OM a k with
  | (_,some v)=>JS v ks
  | (c,none)=>(c,none)
def Pd (t:V):Int×Option V:=if t.kind=5∨t.kind=6 then JS BD t.kids else Eo 6
def IZ (n:Int):Int×Option V:=if n>199 then Eo 3 else okR (AY (BP n.toNat))
theorem Qc (n:Int):CH (IZ n):=by
 unfold IZ
 split
 ·exact BJ (by decide)
 ·exact BT (Dq (Ha (by omega)) (by rw[DH];omega))
set_option maxRecDepth 10000
theorem Kh {t:V}(h:t.right):CH (Fj t):=by
 unfold Fj
 have hn:=Gs h
 have hk:=(D4 h).2
 have hs:=DW (Du h)
 repeat' split
 ·exact BT (Dr (by omega))
 ·exact BT (Dr (by omega))
 ·exact BT (Dr (by omega))
 ·exact BT (Dr (by omega))
 ·exact BJ (by decide)
theorem OY (s:ByteArray) (h:s.size≤1000000):AC Tryz.prog 280 [.c (.str s)] [] (.c (.int .i64 s.size)) []:=by
 refine A6 Tryz.func280 Tryz.ntmps280 q9 ?_
 exact Aa (A9 [] []) Tryz.results280 h
theorem VV (n:Int) (hn:-1000000000000000≤n∧n≤1000000000000000):AC Tryz.prog 212 [.c (.int .i64 n)] [] (EF (IZ n)) []:=by
 unfold IZ
 by_cases hb:n>199
 ·have hd:decide (n>199)=true:=decide_eq_true hb
  rw[if_pos hb]
  show AC _ _ _ _ (D7 3 BD) _
  refine A6 Tryz.func212 Tryz.ntmps212 hd ?_
  refine v9 (A4 [] (Bj 3)) q9 q9 ?_
  exact Aa (A9 [] []) Tryz.results212 hd
 ·have hd:decide (n>199)=false:=decide_eq_false hb
  have hnn:n.toNat≤199:=by omega
  have h3:=EH (BP n.toNat)
  have h4:=B8 (Dq (Ha (n:=n.toNat) (by omega)) (by rw[DH];omega))
  rw[if_neg hb]
  show AC _ _ _ _ (D7 0 _) _
  generalize hA:AY (BP n.toNat)=d at *
  refine A6 Tryz.func212 Tryz.ntmps212 hd ?_
  refine Ar (κ:=Nat) (fun k=>⟨mkS 0 22 [(0,.c (.int .i64 n)),(2,.ptr (2,0) 0),(3,.own (99,0)),(4,.c (.int .i64 k))],[((2,0),.box [.c (.int .i64 0),.c (.int .i64 0),.c (.int .i64 0),.c (.str ByteArray.empty),.nils,.nils]),((99,0),.row false 5 127 ((BP k).map V.cs))]⟩)
   (fun k=>k≤n.toNat) (fun k=>n.toNat-k) 0 (Nat.zero_le _) ?_ ?_
  ·exact Ac (Aj.of [((2,0),(2,0)),((99,0),(8,0))] []) hd
  ·intro k hk
   by_cases hlt:k<n.toNat
   ·have hd1:decide ((k:Int)<n)=true:=decide_eq_true (by omega)
    have hw:=Ad (k:=k) (by omega)
    have hi:=Dh (k:Int)
    have hl:=DH k
    have hs:=I8 k
    have hrow:(BP k).map V.cs++[(C6 (k:Int)).cs]=(BP (k+1)).map V.cs:=by rw[hs];simp
    have hol:(BP k).length+1≤1000000:=by omega
    clear hs
    rw[V.cs_eq]at hrow
    generalize BP k=R0 at *
    generalize C6 (k:Int)=u at *
    refine Ab hd1 ?_
    refine v9 (A4 [] hi) q9 (j2 hol hw) ?_
    refine⟨k+1,by omega,by omega,?_⟩
    exact Ac (Aj.of [((2,0),(2,0)),((99,0),(18,0))] []) hrow
   ·have hd1:decide ((k:Int)<n)=false:=decide_eq_false (by omega)
    have hke:k=n.toNat:=by omega
    subst hke
    generalize BP n.toNat=R0 at *
    refine Ab hd1 ?_
    refine v9 (A4 [(99,0)] h3) q9 q9 ?_
    refine v9 (A4 [] h4) q9 q9 ?_
    exact Aa (A9 [] []) Tryz.results212 hd1
theorem V4 {t:V}(h5:t.kind≠5) (h6:t.kind≠6):AC Tryz.prog 208 [t.av] [] (D7 6 BD) []:=by
 have b5:(t.kind==5)=false:=by simpa using h5
 have b6:(t.kind==6)=false:=by simpa using h6
 refine A6 Tryz.func208 Tryz.ntmps208 (j2 b6 b5) ?_
 refine v9 (A4 [] (Bj 6)) q9 q9 ?_
 exact Aa (A9 [] []) Tryz.results208 b5
theorem V3 {t:V}(ht:t.right) (h5:t.kind=5):AC Tryz.prog 208 [t.av] [] (D7 0 (AY (BP t.kids.length))) []:=by
 have b5:(t.kind==5)=true:=by simp[h5]
 have b6:(t.kind==6)=false:=by simp[h5]
 have hkc:=AP t
 have hkl:=Bq t.kids
 have hM:=ht.2.1
 have hnn:t.kids.length≤199:=by omega
 have h3:=EH (BP t.kids.length)
 have h4:=B8 (Dq (Ha (n:=t.kids.length) (by omega)) (by rw[DH];omega))
 generalize hA:AY (BP t.kids.length)=d at *
 refine A6 Tryz.func208 Tryz.ntmps208 (j2 b6 b5) ?_
 refine Ar (κ:=Nat) (fun k=>⟨mkS 0 43 [(2,.ptr (2,0) 0),(3,.own (99,0)),(30,.c (.int .i64 t.kids.length)),(31,.c (.int .i64 k))],[((2,0),.box [.c (.int .i64 0),.c (.int .i64 0),.c (.int .i64 0),.c (.str ByteArray.empty),.nils,.nils]),((99,0),.row false 5 127 ((BP k).map V.cs))]⟩)
  (fun k=>k≤t.kids.length) (fun k=>t.kids.length-k) 0 (Nat.zero_le _) ?_ ?_
 ·exact Ac (Aj.of [((2,0),(2,0)),((99,0),(7,0))] []) hM
 ·intro k hk
  by_cases hlt:k<t.kids.length
  ·have hd1:decide ((k:Int)<(t.kids.length:Int))=true:=decide_eq_true (by omega)
   have hw:=Ad (k:=k) (by omega)
   have hi:=Dh (k:Int)
   have hl:=DH k
   have hs:=I8 k
   have hrow:(BP k).map V.cs++[(C6 (k:Int)).cs]=(BP (k+1)).map V.cs:=by rw[hs];simp
   have hol:(BP k).length+1≤1000000:=by omega
   clear hs
   rw[V.cs_eq]at hrow
   generalize BP k=R0 at *
   generalize C6 (k:Int)=u at *
   refine Ab hd1 ?_
   refine v9 (A4 [] hi) q9 (j2 hol hw) ?_
   refine⟨k+1,by omega,by omega,?_⟩
   exact Ac (Aj.of [((2,0),(2,0)),((99,0),(38,0))] []) hrow
  ·have hd1:decide ((k:Int)<(t.kids.length:Int))=false:=decide_eq_false (by omega)
   have hke:k=t.kids.length:=by omega
   subst hke
   generalize BP t.kids.length=R0 at *
   refine Ab hd1 ?_
   refine v9 (A4 [(99,0)] h3) q9 q9 ?_
   refine v9 (A4 [] h4) q9 q9 ?_
   exact Aa (A9 [] []) Tryz.results208 hd1
theorem V5 {t:V}(ht:t.right) (h6:t.kind=6):AC Tryz.prog 208 [t.av] [] (D7 0 (AY (t.keys.map D9))) []:=by
 have b6:(t.kind==6)=true:=by simp[h6]
 have hM:=ht.2.1
 have hkc:=AP t
 have hkl:=Bq t.kids
 obtain⟨_,hko,hke⟩:=DI ht h6
 have hnn:t.keys.length≤199:=by omega
 have h3:=EH (t.keys.map D9)
 have h4:=B8 (Dq (RX hko) (by rw[List.length_map];omega))
 generalize hA:AY (t.keys.map D9)=d at *
 refine A6 Tryz.func208 Tryz.ntmps208 b6 ?_
 generalize hl:t.keys=l at *
 refine Ar (κ:=Nat) (fun k=>⟨mkS 0 43 [(2,.ptr (2,0) 0),(3,.own (99,0)),(14,.c (.sl (l.map Ae))),(15,.c (.int .i64 l.length)),(16,.c (.int .i64 k))],[((2,0),.box [.c (.int .i64 0),.c (.int .i64 0),.c (.int .i64 0),.c (.str ByteArray.empty),.nils,.nils]),((99,0),.row false 5 127 (((l.take k).map D9).map V.cs))]⟩)
  (fun k=>k≤l.length) (fun k=>l.length-k) 0 (Nat.zero_le _) ?_ ?_
 ·exact Ac (Aj.of [((2,0),(2,0)),((99,0),(7,0))] []) hM
 ·intro k hk
  by_cases hlt:k<l.length
  ·have hd1:decide ((k:Int)<(l.length:Int))=true:=decide_eq_true (by omega)
   have hr:A8 (l.map Ae) 1 (k:Int)=true:=by simp[A8,hlt,Ae]
   have hg:(l.map Ae)[k]? = some [.str l[k]]:=by simp[hlt,Ae]
   have hw:=Ad (k:=k) (by omega)
   have hi:=S3 l[k]
   have hl':((l.take k).map D9).length=k:=by rw[List.length_map,List.length_take];omega
   have hrow:((l.take k).map D9).map V.cs++[(D9 l[k]).cs]=((l.take (k+1)).map D9).map V.cs:=by rw[List.take_succ_eq_append_getElem hlt];simp only[List.map_append,List.map_cons,List.map_nil]
   have hol:((l.take k).map D9).length+1≤1000000:=by omega
   rw[V.cs_eq]at hrow
   generalize (l.take k).map D9=R0,l[k]=s at *
   generalize D9 s=u at *
   refine Ab (j3 hd1 hr hg) ?_
   refine v9 (A4 [] hi) q9 (j2 hol hw) ?_
   refine⟨k+1,by omega,by omega,?_⟩
   exact Ac (Aj.of [((2,0),(2,0)),((99,0),(24,0))] []) hrow
  ·have hd1:decide ((k:Int)<(l.length:Int))=false:=decide_eq_false (by omega)
   have hke:l.take k=l:=List.take_of_length_le (by omega)
   rw[hke]
   generalize l.map D9=R0 at *
   refine Ab hd1 ?_
   refine v9 (A4 [(99,0)] h3) q9 q9 ?_
   refine v9 (A4 [] h4) q9 q9 ?_
   exact Aa (A9 [] []) Tryz.results208 hd1
theorem Th {t:V}(ht:t.right):AC Tryz.prog 207 [t.av] [] (EF (Fj t)) []:=by
 have hok:=Kh ht
 have hn:=Gs ht
 have hk:=(D4 ht).2
 have hs:=DW (Du ht)
 have wn:IntKind.i64.wrap (0-t.num) = -t.num:=by rw[Int.zero_sub];exact C9 (by omega) (by omega)
 have hmax:(if -t.num>t.num then -t.num else t.num)=max t.num (-t.num):=by split<;>omega
 have hL:=OY t.text (by omega)
 have hz:=GM t.kids
 unfold Fj at hok ⊢
 by_cases h0:t.kind=0
 ·have b0:(t.kind==0)=true:=by simp[h0]
  rw[if_pos h0]at hok ⊢
  have hg:=B8 (t:=C6 0) hok.2
  have h1:=Dh 0
  show AC _ _ _ _ (D7 0 (C6 0)) _
  generalize C6 0=u at *
  refine A6 Tryz.func207 Tryz.ntmps207 b0 ?_
  refine v9 (A4 [] h1) q9 q9 ?_
  refine v9 (A4 [] hg) q9 q9 ?_
  exact Aa (A9 [] []) Tryz.results207 b0
 ·have b0:(t.kind==0)=false:=by simpa using h0
  rw[if_neg h0]at hok ⊢
  by_cases h3:t.kind=3
  ·have b3:(t.kind==3)=true:=by simp[h3]
   rw[if_pos h3]at hok ⊢
   have hg:=B8 (t:=C6 (max t.num (-t.num))) hok.2
   have h1:=Dh (max t.num (-t.num))
   show AC _ _ _ _ (D7 0 (C6 (max t.num (-t.num)))) _
   generalize C6 (max t.num (-t.num))=u at *
   refine A6 Tryz.func207 Tryz.ntmps207 (j4 b0 b3 wn hmax) ?_
   refine v9 (A4 [] h1) q9 q9 ?_
   refine v9 (A4 [] hg) q9 q9 ?_
   exact Aa (A9 [] []) Tryz.results207 b0
  ·have b3:(t.kind==3)=false:=by simpa using h3
   rw[if_neg h3]at hok ⊢
   by_cases h4:t.kind=4
   ·have b4:(t.kind==4)=true:=by simp[h4]
    rw[if_pos h4]at hok ⊢
    have hg:=B8 (t:=C6 t.text.size) hok.2
    have h1:=Dh t.text.size
    show AC _ _ _ _ (D7 0 (C6 t.text.size)) _
    generalize C6 t.text.size=u at *
    refine A6 Tryz.func207 Tryz.ntmps207 (j3 b0 b3 b4) ?_
    refine v7 (A3 [] hL) q9 q9 ?_
    refine v9 (A4 [] h1) q9 q9 ?_
    refine v9 (A4 [] hg) q9 q9 ?_
    exact Aa (A9 [] []) Tryz.results207 b0
   ·have b4:(t.kind==4)=false:=by simpa using h4
    rw[if_neg h4]at hok ⊢
    by_cases h56:t.kind=5∨t.kind=6
    ·rw[if_pos h56]at hok ⊢
     have hg:=B8 (t:=C6 t.kids.length) hok.2
     have h1:=Dh t.kids.length
     show AC _ _ _ _ (D7 0 (C6 t.kids.length)) _
     generalize C6 t.kids.length=u at *
     by_cases h5:t.kind=5
     ·have b5:(t.kind==5)=true:=by simp[h5]
      refine A6 Tryz.func207 Tryz.ntmps207 (j4 b0 b3 b4 b5) ?_
      refine v7 (A3 [] hz) q9 q9 ?_
      refine v9 (A4 [] h1) q9 q9 ?_
      refine v9 (A4 [] hg) q9 q9 ?_
      exact Aa (A9 [] []) Tryz.results207 b0
     ·have b5:(t.kind==5)=false:=by simpa using h5
      have b6:(t.kind==6)=true:=by simp;omega
      refine A6 Tryz.func207 Tryz.ntmps207 (j5 b0 b3 b4 b5 b6) ?_
      refine v7 (A3 [] hz) q9 q9 ?_
      refine v9 (A4 [] h1) q9 q9 ?_
      refine v9 (A4 [] hg) q9 q9 ?_
      exact Aa (A9 [] []) Tryz.results207 b0
    ·rw[if_neg h56]
     have b5:(t.kind==5)=false:=by simp;omega
     have b6:(t.kind==6)=false:=by simp;omega
     show AC _ _ _ _ (D7 6 BD) _
     refine A6 Tryz.func207 Tryz.ntmps207 (j5 b0 b3 b4 b5 b6) ?_
     refine v9 (A4 [] (Bj 6)) q9 q9 ?_
     exact Aa (A9 [] []) Tryz.results207 b0
end Go.Proofs.YtcejfdfmgmcinaaGreat
