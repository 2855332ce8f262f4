/- Texts of this proof: M35 G97 M36 G98 M37 G99. -/
import Derived.Test.YtcejfdfmgmcinaaGreatKG95
import Derived.Test.YtcejfdfmgmcinaaGreatKG96
import Derived.Test.YtcejfdfmgmcinaaGreatKGEuG90
set_option linter.all false
set_option maxHeartbeats 8000000
namespace Go.Proofs.YtcejfdfmgmcinaaGreat
open Go.RowKit
def GI (b:Nat) (D:List V):Prop:=∃Ds:List (List V),D=Ds.flatten∧∀T∈Ds,T.length=b∧AI T
theorem LV (b:Nat):GI b []:=⟨[],rfl,by simp⟩
theorem KM {b:Nat}{D T:List V}(h:GI b D) (hl:T.length=b) (hs:AI T):GI b (D++T):=by
 obtain⟨Ds,rfl,hD⟩:=h
 refine⟨Ds++[T],by simp,fun U hU=>?_⟩
 rcases List.mem_append.1 hU with hU | hU
 ·exact hD U hU
 ·rw[List.mem_singleton.1 hU];exact⟨hl,hs⟩
theorem E3 {b:Nat}{D:List V}(h:GI b D):D=[]∨∃T D',D=T++D'∧T.length=b∧AI T∧GI b D':=by
 obtain⟨Ds,rfl,hD⟩:=h
 cases Ds with
 |nil=>exact .inl rfl
 |cons T Ds=>exact .inr ⟨T,Ds.flatten,by simp,(hD T (by simp)).1,(hD T (by simp)).2,Ds,rfl,fun U hU=>hD U (List.mem_cons_of_mem _ hU)⟩
def Nz (b:Nat) (R:List V):Prop:=∃T t,R=T++t∧GI b T∧t.length<b∧AI t
theorem LP {b:Nat}{D t:List V}(h:GI b D) (hl:t.length<b) (hs:AI t):Nz b (D++t):=⟨D,t,rfl,h,hl,hs⟩
theorem Z3 {b:Nat}{R:List V}(h:Nz b R) (hl:b+b≤R.length):∃X Y S,R=X++Y++S∧X.length=b∧Y.length=b∧AI X∧AI Y∧Nz b S:=by
 obtain⟨T,t,rfl,hB,ht,hs⟩:=h
 rw[List.length_append]at hl
 rcases E3 hB with rfl | ⟨X,T,rfl,hX,hXs,hB⟩
 ·rw[List.length_nil]at hl;omega
 ·rcases E3 hB with rfl | ⟨Y,T,rfl,hY,hYs,hB⟩
  ·rw[List.append_nil]at hl;omega
  ·exact⟨X,Y,T++t,by simp only[List.append_assoc],hX,hY,hXs,hYs,LP hB ht hs⟩
theorem Z2 {b:Nat}{R:List V}(h:Nz b R) (hl:R.length<b+b) (hb:b<R.length):∃X Y,R=X++Y∧X.length=b∧Y≠[]∧AI X∧AI Y:=by
 obtain⟨T,t,rfl,hB,ht,hs⟩:=h
 rw[List.length_append]at hl hb
 rcases E3 hB with rfl | ⟨X,T,rfl,hX,hXs,hB⟩
 ·rw[List.length_nil]at hb;omega
 ·rcases E3 hB with rfl | ⟨Y,T,rfl,hY,hYs,hB⟩
  ·rw[List.append_nil]at hb ⊢
   exact⟨X,t,rfl,hX,fun e=>by rw[e,List.length_nil]at hb;omega,hXs,hs⟩
  ·simp only[List.length_append]at hl;omega
theorem Sc {b:Nat}{R:List V}(h:Nz b R) (hl:R.length≤b):AI R:=by
 obtain⟨T,t,rfl,hB,ht,hs⟩:=h
 rw[List.length_append]at hl
 rcases E3 hB with rfl | ⟨X,T,rfl,hX,hXs,hB⟩
 ·exact hs
 ·rw[List.length_append]at hl
  have h1:T=[]:=List.length_eq_zero_iff.1 (by omega)
  have h2:t=[]:=List.length_eq_zero_iff.1 (by omega)
  rw[h1,h2,List.append_nil,List.append_nil]
  exact hXs
theorem H4 {D X S L:List V}(h:(D++(X++S)).Perm L):(D++Az X++S).Perm L:=by
 refine List.Perm.trans ?_ h
 rw[←List.append_assoc]
 exact ((Du X).append_left D).append_right S
set_option maxRecDepth 10000
theorem St (f:FuncId) (hf:IE f):∀n,UP f n:=by
 intro n
 induction n with
 |zero =>
  intro P X Y S hl hX0
  exact absurd (List.length_eq_zero_iff.1 (by omega)) hX0
 |succ n ih =>
  intro P X Y S hl hX0 hY0 hX hY hxr hyr hn
  have hx1:0<X.length:=List.length_pos_iff.2 hX0
  have hy1:0<Y.length:=List.length_pos_iff.2 hY0
  by_cases h1:X.length=1
  ·obtain⟨x,rfl⟩:=List.length_eq_one_iff.1 h1
   exact Qv f hf P x Y S hY hyr hn
  ·by_cases h2:Y.length=1
   ·obtain⟨y,rfl⟩:=List.length_eq_one_iff.1 h2
    exact NZ f hf P X y S (by omega) hX (hyr y (by simp)) hn
   ·by_cases h3:X.length>(X.length+Y.length) / 2
    ·exact Su f hf ih P X Y S hl (by omega) (by omega) hX hY hxr hyr hn rfl h3
    ·exact Sv f hf ih P X Y S hl (by omega) (by omega) hX hY hxr hyr hn rfl h3
theorem Xx (f:FuncId) (hf:IE f) (L:List V) (hr:∀x∈L,x.right) (hn:L.length≤100000) :
  AC Tryz.prog 341 [.own (0,0),.c (.int .i64 (L.length:Int)),.clo f []] (DL L) (.tup []) (DL (Az L)):=by
 have hsym:=St f hf
 have hins:=Ky f hf
 clear hf
 refine A7 Tryz.func341 Tryz.ntmps341 q9 ?_
 refine Ar (κ:=List V×List V) (fun q=>⟨mkS 0 63 [(0,.own (0,0)),(1,.c (.int .i64 (L.length:Int))),(2,.clo f []),(6,.c (.int .i64 20)),(7,.c (.int .i64 (q.1.length:Int))),(8,.c (.int .i64 ((q.1.length+20:Nat):Int)))],[((0,0),Ki (q.1++q.2))]⟩)
  (fun q=>(q.1++q.2).Perm L∧GI 20 q.1) (fun q=>q.2.length) ([],L) ⟨List.Perm.refl _,LV 20⟩ ?_ ?_
 ·exact Ab (Ah.of [((0,0),(0,0))] []) hn
 ·rintro⟨D,R⟩ ⟨hp,hb⟩
  dsimp only at hp hb ⊢
  have hlen:=hp.length_eq
  rw[List.length_append]at hlen
  have hrr:∀x∈R,x.right:=fun x hx=>hr x (hp.mem_iff.1 (List.mem_append_right _ hx))
  by_cases hlt:20≤R.length
  ·obtain⟨X,S,hX,rfl⟩:∃X S,X.length=20∧R=X++S:=⟨R.take 20,R.drop 20,by rw[List.length_take];omega,(List.take_append_drop ..).symm⟩
   rw[List.length_append]at hlen
   have hd:decide (((D.length+20:Nat):Int)≤(L.length:Int))=true:=decide_eq_true (by omega)
   have hw:IntKind.i64.wrap (((D.length+20:Nat):Int)+20)=((D.length+20+20:Nat):Int):=Ba (by omega) (by omega)
   have hi:=hins D X S (fun x hx=>hrr x (List.mem_append_left _ hx)) (by simp only[List.length_append];omega)
   have hp':=H4 hp
   have hZ:(Az X).length=20:=by rw[Ez,hX]
   have hb':=KM hb hZ (C3 X)
   have hms:S.length<(X++S).length:=by rw[List.length_append];omega
   have hfn:(D++Az X).length=D.length+20:=by rw[List.length_append,hZ]
   rw[hX]at hi
   rw[←List.append_assoc]
   generalize Az X=Z at *
   generalize hU:D++X++S=U at *
   clear hU
   refine Ac hd ?_
   refine Ca (As [((0,0),(0,0))] [((0,0),(0,0))] hi) q9 hw ?_
   refine⟨(D++Z,S),hms,⟨hp',hb'⟩,?_⟩
   dsimp only
   rw[hfn]
   generalize D++Z++S=W at *
   exact Ab (Ah.of [((0,0),(0,0))] []) hd
  ·have hd:decide (((D.length+20:Nat):Int)≤(L.length:Int))=false:=decide_eq_false (by omega)
   have hi:=hins D R [] hrr (by simp only[List.length_append,List.length_nil];omega)
   have hp':=H4 (D:=D) (X:=R) (S:=[]) (L:=L) (by rw[List.append_nil];exact hp)
   have hR0:Nz 20 (D++Az R):=LP hb (by rw[Ez];omega) (C3 R)
   rw[List.append_nil]at hp'
   rw[List.append_nil,List.append_nil,hlen]at hi
   generalize D++Az R=R0 at *
   generalize hU:D++R=U at *
   clear hU
   refine Ac hd ?_
   refine Ca (As [((0,0),(0,0))] [((0,0),(0,0))] hi) q9 q9 ?_
   refine Ar (κ:=Nat×List V) (fun q=>⟨mkS 0 63 [(0,.own (0,0)),(1,.c (.int .i64 (L.length:Int))),(2,.clo f []),(6,.c (.int .i64 (q.1:Int)))],[((0,0),Ki q.2)]⟩)
    (fun q=>q.2.Perm L∧Nz q.1 q.2∧1≤q.1) (fun q=>L.length-q.1) (20,R0) ⟨hp',hR0,by omega⟩ ?_ ?_
   ·exact Ab (Ah.of [((0,0),(0,0))] []) hd
   ·clear hd hi hp' hR0 hlen hrr hlt hp hb
    rintro⟨B,R⟩ ⟨hp,hR,hB⟩
    dsimp only at hp hR hB ⊢
    by_cases hlt:B<L.length
    ·have hd:decide ((B:Int)<(L.length:Int))=true:=decide_eq_true (by omega)
     have w2:IntKind.i64.wrap ((2:Int)*(B:Int))=((B+B:Nat):Int):=Ba (by omega) (by omega)
     have w3:IntKind.i64.wrap ((B:Int)*2)=((B+B:Nat):Int):=Ba (by omega) (by omega)
     have hz1:((0:Nat):Int)=0:=rfl
     have hz2:((0+B+B:Nat):Int)=((B+B:Nat):Int):=by rw[Nat.zero_add]
     have hB2:1≤B+B:=by omega
     have hmb:L.length-(B+B)<L.length-B:=by omega
     refine Ac (j2 hd @w2) ?_
     refine Ar (κ:=List V×List V) (fun q=>⟨mkS 0 63 [(0,.own (0,0)),(1,.c (.int .i64 (L.length:Int))),(2,.clo f []),(6,.c (.int .i64 (B:Int))),(7,.c (.int .i64 (q.1.length:Int))),(8,.c (.int .i64 ((q.1.length+B+B:Nat):Int)))],[((0,0),Ki (q.1++q.2))]⟩)
      (fun q=>(q.1++q.2).Perm L∧GI (B+B) q.1∧Nz B q.2) (fun q=>q.2.length) ([],R) ⟨hp,LV _,hR⟩ ?_ ?_
     ·dsimp only[List.length_nil,List.nil_append]
      rw[hz1,hz2]
      exact Ab (Ah.of [((0,0),(0,0))] []) hd
     ·clear hp hR
      rintro⟨D,R⟩ ⟨hp,hb,hR⟩
      dsimp only at hp hb hR ⊢
      have hlen:=hp.length_eq
      rw[List.length_append]at hlen
      have hrr:∀x∈R,x.right:=fun x hx=>hr x (hp.mem_iff.1 (List.mem_append_right _ hx))
      have wm:IntKind.i64.wrap ((D.length:Int)+(B:Int))=((D.length+B:Nat):Int):=Ba (by omega) (by omega)
      by_cases hlt2:B+B≤R.length
      ·obtain⟨X,Y,S,rfl,hX,hY,hXs,hYs,hS⟩:=Z3 hR hlt2
       simp only[List.length_append]at hlen
       have hd2:decide (((D.length+B+B:Nat):Int)≤(L.length:Int))=true:=decide_eq_true (by omega)
       have wb:IntKind.i64.wrap (((D.length+B+B:Nat):Int)+((B+B:Nat):Int))=((D.length+B+B+B+B:Nat):Int):=Ba (by omega) (by omega)
       have hi:=hsym _ D X Y S (Nat.le_refl _) (fun e=>by rw[e,List.length_nil]at hX;omega) (fun e=>by rw[e,List.length_nil]at hY;omega) hXs hYs (fun x hx=>hrr x (by simp[hx])) (fun x hx=>hrr x (by simp[hx])) (by simp only[List.length_append];omega)
       have hp':=H4 hp
       have hZ:(Az (X++Y)).length=B+B:=by rw[Ez,List.length_append,hX,hY]
       have hb':=KM hb hZ (C3 (X++Y))
       have hms:S.length<(X++Y++S).length:=by simp only[List.length_append];omega
       have hfn:(D++Az (X++Y)).length=D.length+B+B:=by rw[List.length_append,hZ];omega
       rw[hX,hY]at hi
       have hU0:D++(X++Y++S)=D++X++Y++S:=by simp only[List.append_assoc]
       rw[hU0]
       clear hU0
       generalize Az (X++Y)=Z at *
       generalize hU:D++X++Y++S=U at *
       clear hU
       refine Ac (j2 hd2 wm) ?_
       refine Ca (As [((0,0),(0,0))] [((0,0),(0,0))] hi) q9 (j2 @w2 wb) ?_
       refine⟨(D++Z,S),hms,⟨hp',hb',hS⟩,?_⟩
       dsimp only
       rw[hfn]
       generalize D++Z++S=W at *
       exact Ab (Ah.of [((0,0),(0,0))] []) hd2
      ·have hd2:decide (((D.length+B+B:Nat):Int)≤(L.length:Int))=false:=decide_eq_false (by omega)
       by_cases hlt3:B<R.length
       ·obtain⟨X,Y,rfl,hX,hY0,hXs,hYs⟩:=Z2 hR (by omega) hlt3
        rw[List.length_append]at hlen hlt2
        have hd3:decide (((D.length+B:Nat):Int)<(L.length:Int))=true:=decide_eq_true (by rw[List.length_append]at hlt3;omega)
        have hi:=hsym _ D X Y [] (Nat.le_refl _) (fun e=>by rw[e,List.length_nil]at hX;omega) hY0 hXs hYs (fun x hx=>hrr x (by simp[hx])) (fun x hx=>hrr x (by simp[hx])) (by simp only[List.length_append,List.length_nil];omega)
        have hp':=H4 (D:=D) (X:=X++Y) (S:=[]) (L:=L) (by rw[List.append_nil];exact hp)
        have hR0:Nz (B+B) (D++Az (X++Y)):=LP hb (by rw[Ez,List.length_append];omega) (C3 _)
        have hl2:D.length+B+Y.length=L.length:=by omega
        rw[List.append_nil]at hp'
        rw[List.append_nil,List.append_nil,hX,hl2]at hi
        rw[←List.append_assoc]
        generalize D++Az (X++Y)=R0 at *
        generalize hU:D++X++Y=U at *
        clear hU
        refine Ac (j3 hd2 wm hd3) ?_
        refine Ca (As [((0,0),(0,0))] [((0,0),(0,0))] hi) q9 @w3 ?_
        refine⟨(B+B,R0),hmb,⟨hp',hR0,hB2⟩,?_⟩
        exact Ab (Ah.of [((0,0),(0,0))] []) hd2
       ·have hd3:decide (((D.length+B:Nat):Int)<(L.length:Int))=false:=decide_eq_false (by omega)
        have hR0:Nz (B+B) (D++R):=LP hb (by omega) (Sc hR (by omega))
        generalize D++R=R0 at *
        refine Ac (j4 hd2 wm hd3 @w3) ?_
        refine⟨(B+B,R0),hmb,⟨hp,hR0,hB2⟩,?_⟩
        exact Ab (Ah.of [((0,0),(0,0))] []) hd2
    ·have hd:decide ((B:Int)<(L.length:Int))=false:=decide_eq_false (by omega)
     have hs:=GE (Sc hR (by rw[hp.length_eq];omega)) hp
     rw[hs]
     refine Ac hd ?_
     exact A9 (A8 [((0,0),(0,0))] []) Tryz.results341 hd
theorem NV (f:FuncId) (hf:IE f) (L:List V) (hr:∀x∈L,x.right) (hn:L.length≤100000) :
  AC Tryz.prog 281 [.own (0,0),.clo f []] (DL L) (.tup []) (DL (Az L)):=by
 have h:=Xx f hf L hr hn
 have hl:(L.map V.cs).length=L.length:=List.length_map ..
 refine A7 Tryz.func281 Tryz.ntmps281 hl ?_
 refine Ca (As [((0,0),(0,0))] [((0,0),(0,0))] h) q9 q9 ?_
 exact A9 (A8 [((0,0),(0,0))] []) Tryz.results281 hn
theorem QS {a b:List V}(h:a.Perm b):Am a=Am b:=by
 induction h with
 |nil=>rfl
 |cons x _ ih=>simp only[Am,ih]
 |swap x y l=>simp only[Am];omega
 |trans _ _ h1 h2=>rw[h1,h2]
theorem R7 {a b:List V}(h:a.Perm b):AS a=AS b:=by
 induction h with
 |nil=>rfl
 |cons x _ ih=>simp only[AS,ih]
 |swap x y l=>simp only[AS];omega
 |trans _ _ h1 h2=>rw[h1,h2]
theorem Zu {a b:List V}(h:a.Perm b) (hw:wfL a):wfL b:=by
 induction h with
 |nil=>exact hw
 |cons x _ ih=>simp only[wfL]at hw ⊢;exact⟨hw.1,ih hw.2⟩
 |swap x y l=>simp only[wfL]at hw ⊢;exact⟨hw.2.1,hw.1,hw.2.2⟩
 |trans _ _ h1 h2=>exact h2 (h1 hw)
theorem Un {t:V}(h:t.right) (h5:t.kind=5) {l:List V}(hp:l.Perm t.kids):(B4 l).right:=by
 obtain⟨s1,s2,s3,s4,s5,_⟩:=B6 h.1
 have e3:=s3 (by omega)
 have e4:=s4 (by omega)
 have e5:=s5 (by omega)
 obtain⟨hw,hc,hd⟩:=h
 cases t with
 |mk kind num text keys kids =>
  dsimp only[V.kind,V.num,V.text,V.keys,V.kids]at *
  subst h5 e3 e4 e5
  simp only[V.wf]at hw
  have hcl:=QS hp
  have hdl:=R7 hp
  refine⟨?_,?_,?_⟩
  ·unfold B4
   simp only[V.wf]
   refine⟨?_,rfl,Zu hp.symm hw.2.2⟩
   rw[hp.length_eq]
   exact hw.1
  ·simp only[B4,V.count]at hc ⊢
   omega
  ·simp only[B4,V.depth]at hd ⊢
   omega
theorem Nc {t:V}(h:t.right) (h5:t.kind=5):(B4 (Az t.kids)).right:=Un h h5 (Du _)
def Eh (t:V):Int×Option V:=if t.kind=5 then (0,some (B4 (Az t.kids))) else (6,none)
theorem Jy {t:V}(h:t.right):CH (Eh t):=by
 unfold Eh
 split
 ·exact BH (Nc h ‹_›)
 ·exact Bv (by decide)
set_option maxRecDepth 10000
theorem UE:IE 282:=by
 refine⟨by simp only[go_sem],fun x y hx=>?_⟩
 have h:=M5 x.count x y (Nat.le_refl _) hx
 refine A7 Tryz.func282 Tryz.ntmps282 q9 ?_
 refine v7 (A3 [] h) q9 q9 ?_
 exact A9 (A8 [] []) Tryz.results282 @List.map_nil.{0,0}
theorem Xv {t:V}(ht:t.right):AC Tryz.prog 210 [t.av] [] (FM (Eh t)) []:=by
 unfold Eh
 have hkl:=(Da ht).2
 by_cases h5:t.kind=5
 ·have hb:(t.kind != 5)=false:=by simp[h5]
  have h1:=Pn t.kids (by omega)
  have h2:=NV _ UE t.kids (fun x hx=>Bf ht hx) (by omega)
  have h3:=Gm (Az t.kids)
  have h4:=D8 (Nc ht h5)
  rw[if_pos h5]
  show AC _ _ _ _ (Dq 0 (B4 (Az t.kids))) _
  generalize Az t.kids=l at *
  generalize B4 l=d at *
  refine A7 Tryz.func210 Tryz.ntmps210 hb ?_
  refine v12 (AU [] h1) q9 q9 ?_
  refine Ca (As [((0,0),(10,0))] [((0,0),(10,0))] h2) q9 q9 ?_
  refine v9 (A4 [(10,0)] h3) q9 q9 ?_
  refine v9 (A4 [] h4) q9 q9 ?_
  exact A9 (A8 [] []) Tryz.results210 hb
 ·have hb:(t.kind != 5)=true:=by simpa using h5
  rw[if_neg h5]
  show AC _ _ _ _ (Dq 6 BG) _
  refine A7 Tryz.func210 Tryz.ntmps210 hb ?_
  refine v9 (A4 [] (D2 6)) q9 q9 ?_
  exact A9 (A8 [] []) Tryz.results210 hb
def EH (t:V):Int×Option V :=
 if t.kind=0 then okR (C8 0) else if t.kind=3 then okR (C8 (max t.num (-t.num))) else if t.kind=4 then okR (C8 t.text.size) else if t.kind=5∨t.kind=6 then okR (C8 t.kids.length) else Ek 6
def BB (n:Nat):List V:=(List.range n).map fun (i:Nat)=>C8 (i:Int)
theorem De (n:Nat):(BB n).length=n:=by simp[BB]
theorem H5 (n:Nat):BB (n+1)=BB n++[C8 (n:Int)]:=by simp[BB,List.range_succ]
theorem Gy {n:Nat}(h:n≤200):∀q∈BB n,Zd q:=fun q hq=>by
 obtain⟨i,hi,rfl⟩:=List.mem_map.1 hq
 have:=List.mem_range.1 hi
 exact Vu (.inr ⟨(i:Int),rfl,by omega,by omega⟩)
theorem CY {P:List V}(h:∀q∈P,Zd q) (hl:P.length≤199):(B4 P).right:=by
 obtain⟨h1,h2,h3⟩:=Of h
 exact⟨SP h3 (by omega),by simp only[B4,V.count];omega,by simp only[B4,V.depth];omega⟩
def MD (k:Int):ByteArray:=if k=0 then ⟨#[110,117,108,108]⟩ else if k=1∨k=2 then ⟨#[98,111,111,108,101,97,110]⟩ else if k=3 then ⟨#[110,117,109,98,101,114]⟩ else if k=4 then ⟨#[115,116,114,105,110,103]⟩ else if k=5 then ⟨#[97,114,114,97,121]⟩ else ⟨#[111,98,106,101,99,116]⟩
def Lt (t:V):Int×Option V:=okR (CG (MD t.kind))
theorem Rw (k:Int):Br (MD k)=true:=by
 unfold MD
 repeat' split
 all_goals decide +kernel
theorem SD (t:V):CH (Lt t):=BH (Nr (Rw _))
def IS (t:V):Int×Option V:=if t.kind=6 then okR (B4 (t.keys.map CG)) else if t.kind=5 then okR (B4 (BB t.kids.length)) else Ek 6
theorem Qu {l:List ByteArray}(h:∀k∈l,Br k=true):∀q∈l.map CG,Zd q:=fun q hq=>by
 obtain⟨s,hs,rfl⟩:=List.mem_map.1 hq
 exact Vu (.inl ⟨s,rfl,h s hs⟩)
def J0:V→List V→Int×Option V
 |a,[]=>okR a
 |a,k::ks=>match Pg a k with
  | (_,some v)=>J0 v ks
  | (c,none)=>(c,none)
def NY (t:V):Int×Option V:=if t.kind=5∨t.kind=6 then J0 BG t.kids else Ek 6
def I6 (n:Int):Int×Option V:=if n>199 then Ek 3 else okR (B4 (BB n.toNat))
theorem OS (n:Int):CH (I6 n):=by
 unfold I6
 split
 ·exact Bv (by decide)
 ·exact BH (CY (Gy (by omega)) (by rw[De];omega))
set_option maxRecDepth 10000
theorem Jl {t:V}(h:t.right):CH (EH t):=by
 unfold EH
 have hn:=FO h
 have hk:=(Da h).2
 have hs:=EQ (Ey h)
 repeat' split
 ·exact BH (Ew (by omega))
 ·exact BH (Ew (by omega))
 ·exact BH (Ew (by omega))
 ·exact BH (Ew (by omega))
 ·exact Bv (by decide)
theorem NL (s:ByteArray) (h:s.size≤1000000):AC Tryz.prog 280 [.c (.str s)] [] (.c (.int .i64 s.size)) []:=by
 refine A7 Tryz.func280 Tryz.ntmps280 q9 ?_
 exact A9 (A8 [] []) Tryz.results280 h
theorem Uj (n:Int) (hn:-1000000000000000≤n∧n≤1000000000000000):AC Tryz.prog 212 [.c (.int .i64 n)] [] (FM (I6 n)) []:=by
 unfold I6
 by_cases hb:n>199
 ·have hd:decide (n>199)=true:=decide_eq_true hb
  rw[if_pos hb]
  show AC _ _ _ _ (Dq 3 BG) _
  refine A7 Tryz.func212 Tryz.ntmps212 hd ?_
  refine v9 (A4 [] (D2 3)) q9 q9 ?_
  exact A9 (A8 [] []) Tryz.results212 hd
 ·have hd:decide (n>199)=false:=decide_eq_false hb
  have hnn:n.toNat≤199:=by omega
  have h3:=Gm (BB n.toNat)
  have h4:=D8 (CY (Gy (n:=n.toNat) (by omega)) (by rw[De];omega))
  rw[if_neg hb]
  show AC _ _ _ _ (Dq 0 _) _
  generalize hA:B4 (BB n.toNat)=d at *
  refine A7 Tryz.func212 Tryz.ntmps212 hd ?_
  refine Ar (κ:=Nat) (fun k=>⟨mkS 0 22 [(0,.c (.int .i64 n)),(2,.ptr (2,0) 0),(3,.own (99,0)),(4,.c (.int .i64 k))],[((2,0),.box [.c (.int .i64 0),.c (.int .i64 0),.c (.int .i64 0),.c (.str ByteArray.empty),.nils,.nils]),((99,0),.row false 5 127 ((BB k).map V.cs))]⟩)
   (fun k=>k≤n.toNat) (fun k=>n.toNat-k) 0 (Nat.zero_le _) ?_ ?_
  ·exact Ab (Ah.of [((2,0),(2,0)),((99,0),(8,0))] []) hd
  ·intro k hk
   by_cases hlt:k<n.toNat
   ·have hd1:decide ((k:Int)<n)=true:=decide_eq_true (by omega)
    have hw:=Af (k:=k) (by omega)
    have hi:=Ex (k:Int)
    have hl:=De k
    have hs:=H5 k
    have hrow:(BB k).map V.cs++[(C8 (k:Int)).cs]=(BB (k+1)).map V.cs:=by rw[hs];simp
    have hol:(BB k).length+1≤1000000:=by omega
    clear hs
    rw[V.cs_eq]at hrow
    generalize BB k=R0 at *
    generalize C8 (k:Int)=u at *
    refine Ac hd1 ?_
    refine v9 (A4 [] hi) q9 (j2 hol hw) ?_
    refine⟨k+1,by omega,by omega,?_⟩
    exact Ab (Ah.of [((2,0),(2,0)),((99,0),(18,0))] []) hrow
   ·have hd1:decide ((k:Int)<n)=false:=decide_eq_false (by omega)
    have hke:k=n.toNat:=by omega
    subst hke
    generalize BB n.toNat=R0 at *
    refine Ac hd1 ?_
    refine v9 (A4 [(99,0)] h3) q9 q9 ?_
    refine v9 (A4 [] h4) q9 q9 ?_
    exact A9 (A8 [] []) Tryz.results212 hd1
theorem Ts {t:V}(h5:t.kind≠5) (h6:t.kind≠6):AC Tryz.prog 208 [t.av] [] (Dq 6 BG) []:=by
 have b5:(t.kind==5)=false:=by simpa using h5
 have b6:(t.kind==6)=false:=by simpa using h6
 refine A7 Tryz.func208 Tryz.ntmps208 (j2 b6 b5) ?_
 refine v9 (A4 [] (D2 6)) q9 q9 ?_
 exact A9 (A8 [] []) Tryz.results208 b5
theorem Tr {t:V}(ht:t.right) (h5:t.kind=5):AC Tryz.prog 208 [t.av] [] (Dq 0 (B4 (BB t.kids.length))) []:=by
 have b5:(t.kind==5)=true:=by simp[h5]
 have b6:(t.kind==6)=false:=by simp[h5]
 have hkc:=AN t
 have hkl:=Bq t.kids
 have hM:=ht.2.1
 have hnn:t.kids.length≤199:=by omega
 have h3:=Gm (BB t.kids.length)
 have h4:=D8 (CY (Gy (n:=t.kids.length) (by omega)) (by rw[De];omega))
 generalize hA:B4 (BB t.kids.length)=d at *
 refine A7 Tryz.func208 Tryz.ntmps208 (j2 b6 b5) ?_
 refine Ar (κ:=Nat) (fun k=>⟨mkS 0 43 [(2,.ptr (2,0) 0),(3,.own (99,0)),(30,.c (.int .i64 t.kids.length)),(31,.c (.int .i64 k))],[((2,0),.box [.c (.int .i64 0),.c (.int .i64 0),.c (.int .i64 0),.c (.str ByteArray.empty),.nils,.nils]),((99,0),.row false 5 127 ((BB k).map V.cs))]⟩)
  (fun k=>k≤t.kids.length) (fun k=>t.kids.length-k) 0 (Nat.zero_le _) ?_ ?_
 ·exact Ab (Ah.of [((2,0),(2,0)),((99,0),(7,0))] []) hM
 ·intro k hk
  by_cases hlt:k<t.kids.length
  ·have hd1:decide ((k:Int)<(t.kids.length:Int))=true:=decide_eq_true (by omega)
   have hw:=Af (k:=k) (by omega)
   have hi:=Ex (k:Int)
   have hl:=De k
   have hs:=H5 k
   have hrow:(BB k).map V.cs++[(C8 (k:Int)).cs]=(BB (k+1)).map V.cs:=by rw[hs];simp
   have hol:(BB k).length+1≤1000000:=by omega
   clear hs
   rw[V.cs_eq]at hrow
   generalize BB k=R0 at *
   generalize C8 (k:Int)=u at *
   refine Ac hd1 ?_
   refine v9 (A4 [] hi) q9 (j2 hol hw) ?_
   refine⟨k+1,by omega,by omega,?_⟩
   exact Ab (Ah.of [((2,0),(2,0)),((99,0),(38,0))] []) hrow
  ·have hd1:decide ((k:Int)<(t.kids.length:Int))=false:=decide_eq_false (by omega)
   have hke:k=t.kids.length:=by omega
   subst hke
   generalize BB t.kids.length=R0 at *
   refine Ac hd1 ?_
   refine v9 (A4 [(99,0)] h3) q9 q9 ?_
   refine v9 (A4 [] h4) q9 q9 ?_
   exact A9 (A8 [] []) Tryz.results208 hd1
theorem Tt {t:V}(ht:t.right) (h6:t.kind=6):AC Tryz.prog 208 [t.av] [] (Dq 0 (B4 (t.keys.map CG))) []:=by
 have b6:(t.kind==6)=true:=by simp[h6]
 have hM:=ht.2.1
 have hkc:=AN t
 have hkl:=Bq t.kids
 obtain⟨_,hko,hke⟩:=DC ht h6
 have hnn:t.keys.length≤199:=by omega
 have h3:=Gm (t.keys.map CG)
 have h4:=D8 (CY (Qu hko) (by rw[List.length_map];omega))
 generalize hA:B4 (t.keys.map CG)=d at *
 refine A7 Tryz.func208 Tryz.ntmps208 b6 ?_
 generalize hl:t.keys=l at *
 refine Ar (κ:=Nat) (fun k=>⟨mkS 0 43 [(2,.ptr (2,0) 0),(3,.own (99,0)),(14,.c (.sl (l.map Ad))),(15,.c (.int .i64 l.length)),(16,.c (.int .i64 k))],[((2,0),.box [.c (.int .i64 0),.c (.int .i64 0),.c (.int .i64 0),.c (.str ByteArray.empty),.nils,.nils]),((99,0),.row false 5 127 (((l.take k).map CG).map V.cs))]⟩)
  (fun k=>k≤l.length) (fun k=>l.length-k) 0 (Nat.zero_le _) ?_ ?_
 ·exact Ab (Ah.of [((2,0),(2,0)),((99,0),(7,0))] []) hM
 ·intro k hk
  by_cases hlt:k<l.length
  ·have hd1:decide ((k:Int)<(l.length:Int))=true:=decide_eq_true (by omega)
   have hr:Aa (l.map Ad) 1 (k:Int)=true:=by simp[Aa,hlt,Ad]
   have hg:(l.map Ad)[k]? = some [.str l[k]]:=by simp[hlt,Ad]
   have hw:=Af (k:=k) (by omega)
   have hi:=Qy l[k]
   have hl':((l.take k).map CG).length=k:=by rw[List.length_map,List.length_take];omega
   have hrow:((l.take k).map CG).map V.cs++[(CG l[k]).cs]=((l.take (k+1)).map CG).map V.cs:=by rw[List.take_succ_eq_append_getElem hlt];simp only[List.map_append,List.map_cons,List.map_nil]
   have hol:((l.take k).map CG).length+1≤1000000:=by omega
   rw[V.cs_eq]at hrow
   generalize (l.take k).map CG=R0,l[k]=s at *
   generalize CG s=u at *
   refine Ac (j3 hd1 hr hg) ?_
   refine v9 (A4 [] hi) q9 (j2 hol hw) ?_
   refine⟨k+1,by omega,by omega,?_⟩
   exact Ab (Ah.of [((2,0),(2,0)),((99,0),(24,0))] []) hrow
  ·have hd1:decide ((k:Int)<(l.length:Int))=false:=decide_eq_false (by omega)
   have hke:l.take k=l:=List.take_of_length_le (by omega)
   rw[hke]
   generalize l.map CG=R0 at *
   refine Ac hd1 ?_
   refine v9 (A4 [(99,0)] h3) q9 q9 ?_
   refine v9 (A4 [] h4) q9 q9 ?_
   exact A9 (A8 [] []) Tryz.results208 hd1
theorem RO {t:V}(ht:t.right):AC Tryz.prog 207 [t.av] [] (FM (EH t)) []:=by
 have hok:=Jl ht
 have hn:=FO ht
 have hk:=(Da ht).2
 have hs:=EQ (Ey ht)
 have wn:IntKind.i64.wrap (0-t.num) = -t.num:=by rw[Int.zero_sub];exact CD (by omega) (by omega)
 have hmax:(if -t.num>t.num then -t.num else t.num)=max t.num (-t.num):=by split<;>omega
 have hL:=NL t.text (by omega)
 have hz:=I7 t.kids
 unfold EH at hok ⊢
 by_cases h0:t.kind=0
 ·have b0:(t.kind==0)=true:=by simp[h0]
  rw[if_pos h0]at hok ⊢
  have hg:=D8 (t:=C8 0) hok.2
  have h1:=Ex 0
  show AC _ _ _ _ (Dq 0 (C8 0)) _
  generalize C8 0=u at *
  refine A7 Tryz.func207 Tryz.ntmps207 b0 ?_
  refine v9 (A4 [] h1) q9 q9 ?_
  refine v9 (A4 [] hg) q9 q9 ?_
  exact A9 (A8 [] []) Tryz.results207 b0
 ·have b0:(t.kind==0)=false:=by simpa using h0
  rw[if_neg h0]at hok ⊢
  by_cases h3:t.kind=3
  ·have b3:(t.kind==3)=true:=by simp[h3]
   rw[if_pos h3]at hok ⊢
   have hg:=D8 (t:=C8 (max t.num (-t.num))) hok.2
   have h1:=Ex (max t.num (-t.num))
   show AC _ _ _ _ (Dq 0 (C8 (max t.num (-t.num)))) _
   generalize C8 (max t.num (-t.num))=u at *
   refine A7 Tryz.func207 Tryz.ntmps207 (j4 b0 b3 wn hmax) ?_
   refine v9 (A4 [] h1) q9 q9 ?_
   refine v9 (A4 [] hg) q9 q9 ?_
   exact A9 (A8 [] []) Tryz.results207 b0
  ·have b3:(t.kind==3)=false:=by simpa using h3
   rw[if_neg h3]at hok ⊢
   by_cases h4:t.kind=4
   ·have b4:(t.kind==4)=true:=by simp[h4]
    rw[if_pos h4]at hok ⊢
    have hg:=D8 (t:=C8 t.text.size) hok.2
    have h1:=Ex t.text.size
    show AC _ _ _ _ (Dq 0 (C8 t.text.size)) _
    generalize C8 t.text.size=u at *
    refine A7 Tryz.func207 Tryz.ntmps207 (j3 b0 b3 b4) ?_
    refine v7 (A3 [] hL) q9 q9 ?_
    refine v9 (A4 [] h1) q9 q9 ?_
    refine v9 (A4 [] hg) q9 q9 ?_
    exact A9 (A8 [] []) Tryz.results207 b0
   ·have b4:(t.kind==4)=false:=by simpa using h4
    rw[if_neg h4]at hok ⊢
    by_cases h56:t.kind=5∨t.kind=6
    ·rw[if_pos h56]at hok ⊢
     have hg:=D8 (t:=C8 t.kids.length) hok.2
     have h1:=Ex t.kids.length
     show AC _ _ _ _ (Dq 0 (C8 t.kids.length)) _
     generalize C8 t.kids.length=u at *
     by_cases h5:t.kind=5
     ·have b5:(t.kind==5)=true:=by simp[h5]
      refine A7 Tryz.func207 Tryz.ntmps207 (j4 b0 b3 b4 b5) ?_
      refine v7 (A3 [] hz) q9 q9 ?_
      refine v9 (A4 [] h1) q9 q9 ?_
      refine v9 (A4 [] hg) q9 q9 ?_
      exact A9 (A8 [] []) Tryz.results207 b0
     ·have b5:(t.kind==5)=false:=by simpa using h5
      have b6:(t.kind==6)=true:=by simp;omega
      refine A7 Tryz.func207 Tryz.ntmps207 (j5 b0 b3 b4 b5 b6) ?_
      refine v7 (A3 [] hz) q9 q9 ?_
      refine v9 (A4 [] h1) q9 q9 ?_
      refine v9 (A4 [] hg) q9 q9 ?_
      exact A9 (A8 [] []) Tryz.results207 b0
    ·rw[if_neg h56]
     have b5:(t.kind==5)=false:=by simp;omega
     have b6:(t.kind==6)=false:=by simp;omega
     show AC _ _ _ _ (Dq 6 BG) _
     refine A7 Tryz.func207 Tryz.ntmps207 (j5 b0 b3 b4 b5 b6) ?_
     refine v9 (A4 [] (D2 6)) q9 q9 ?_
     exact A9 (A8 [] []) Tryz.results207 b0
end Go.Proofs.YtcejfdfmgmcinaaGreat
