/- Texts of this proof: G10 G11 G13 G14 G16 H99 G33. -/
import Derived.Test.YtcejfdfmgmcinaaGreatKG04uL1
set_option linter.all false
set_option maxHeartbeats 8000000
namespace Go.Proofs.YtcejfdfmgmcinaaGreat
open Go.RowKit
theorem Mw (m:Nat) (hm:m≤4000000000):AC Tryz.prog 87 [.c (.int .i64 m)] [] (.c (.str (O2 m))) []:=by
 refine AC.of_calls fun S w κ vs hv=>?_
 obtain⟨v,vs',rfl,⟨rfl,_⟩,rfl⟩:=hv
 refine (Lj m hm w).mono ?_
 rintro e w' ⟨rfl,hb⟩
 exact⟨hb,_,rfl,fun T _ _=>⟨rfl,rfl⟩⟩
theorem Rh (n K:Nat) (hK:K+5*n≤3000000000):AC Tryz.prog 92 [AF (Eg K n),.c (.int .i64 K)] [] (.c (.int .i64 ((K+5*n:Nat):Int))) []:=by
 refine AC.of_calls fun S w κ vs hv=>?_
 obtain⟨v,vs',rfl,h1,v2,vs2,rfl,⟨rfl,_⟩,rfl⟩:=hv
 obtain⟨A,cap,rfl,_,hc⟩:=CX.1 h1
 rw[F6]
 refine (OX n cap K A hK S w hc).mono ?_
 rintro e w' ⟨rfl,hb⟩
 exact⟨hb,_,rfl,fun T _ _=>⟨rfl,rfl⟩⟩
theorem UG (xs:List CellD) (hl:xs.length≤9223372036854775807):AC Tryz.prog 34 [AF xs,AF xs] [] (.c (.bool true)) []:=by
 refine AC.of_calls fun S w κ vs hv=>?_
 obtain⟨v,vs',rfl,h1,v2,vs2,rfl,h2,rfl⟩:=hv
 obtain⟨A,cap,rfl,_,hc⟩:=CX.1 h1
 obtain⟨B,cap',rfl,_,hc'⟩:=CX.1 h2
 refine (QV xs hl A B cap cap' S S w hc hc').mono ?_
 rintro e w' ⟨rfl,hb⟩
 exact⟨hb,_,rfl,fun T _ _=>⟨rfl,rfl⟩⟩
theorem Vp (K n:Nat):Eg K (n+1)=Eg K n++[JN (K+5*n)]:=by simp[Eg,List.range_succ]
def Cl (K:Nat) (xs:List CellD) (k:Nat):List CellD:=Eg K k++xs.drop k
theorem Rr {K:Nat}{xs:List CellD}{k:Nat}(h:k≤xs.length):(Cl K xs k).length=xs.length:=by simp[Cl,F6];omega
theorem Tp {K:Nat}{xs:List CellD}{k:Nat}(h:k<xs.length):(Cl K xs k)[k]? = some xs[k]:=by
 unfold Cl
 rw[List.getElem?_append_right (by rw[F6];omega),F6,List.getElem?_drop]
 simp[h]
theorem P3 {K:Nat}{xs:List CellD}{k:Nat}(h:k<xs.length):(Cl K xs k).set k (JN (K+5*k))=Cl K xs (k+1):=by
 unfold Cl
 have hd:(xs.drop k).set 0 (JN (K+5*k))=JN (K+5*k)::xs.drop (k+1):=by rw[List.drop_eq_getElem_cons h];rfl
 rw[List.set_append_right _ _ (by rw[F6];omega),F6,Nat.sub_self,hd,Vp]
 simp
set_option maxRecDepth 10000
theorem Rq (xs:List CellD) (K es:Nat) (e:TypeId) (hes:xs≠[]→es=5) (hK:K+5*xs.length≤3000000000) :
  AC Tryz.prog 36 [.own (0,0),.c (.int .i64 K)] [((0,0),.row false es e (xs.map CellD.cs))] (.c (.int .i64 ((K+5*xs.length:Nat):Int))) [((0,0),.row false es e ((Eg K xs.length).map CellD.cs))]:=by
 have h0:(Cl K xs 0)=xs:=by simp[Cl,Eg]
 refine A6 Tryz.func36 Tryz.ntmps36 q9 ?_
 refine Ar (κ:=Nat) (fun k=>⟨mkS 0 50 [(0,.own (0,0)),(1,.c (.int .i64 ((K+5*k:Nat):Int))),(5,.c (.int .i64 k))],
   [((0,0),.row false es e ((Cl K xs k).map CellD.cs))]⟩)
  (fun k=>k≤xs.length) (fun k=>xs.length-k) 0 (Nat.zero_le _) ?_ ?_
 ·exact Ac (Aj.of [((0,0),(0,0))] []) h0
 ·intro k hk
  have hml:=Rr (K:=K) hk
  by_cases hlt:k<xs.length
  ·have h5:es=5:=hes (by intro h;rw[h]at hlt;simp at hlt)
   subst h5
   have hd:decide ((k:Int)<(xs.length:Int))=true:=by simpa using hlt
   have hw:=Ad (k:=k) (by omega)
   have hat:=Tp (K:=K) hlt
   have hnx:((Cl K xs k).map CellD.cs).set k (JN (K+5*k)).cs=(Cl K xs (k+1)).map CellD.cs:=by rw[←List.map_set,P3 hlt]
   have hKn:((K+5*(k+1):Nat):Int)=((K+5*k+5:Nat):Int):=by omega
   have hll:((Cl K xs k).map CellD.cs).length=xs.length:=by rw[List.length_map,hml]
   have hg0:((Cl K xs k).map CellD.cs)[k]? = some [.int .i64 xs[k].kind,.int .i64 xs[k].num,.str xs[k].text,.str xs[k].key,.int .i64 xs[k].n]:=by rw[List.getElem?_map,hat];rfl
   simp only[CellD.cs,JN]at hnx
   generalize (Cl K xs k).map CellD.cs=L at *
   have hr0:A8 L 5 k=true:=by unfold A8;rw[Int.toNat_natCast,hg0];simp
   have hg1:∀a b c d e:C,(L.set k [a,b,c,d,e])[k]? = some [a,b,c,d,e]:=by intro a b c d e;rw[List.getElem?_set_self (by rw[hll];exact hlt)]
   have hr1:∀a b c d e:C,A8 (L.set k [a,b,c,d,e]) 5 k=true:=by intro a b c d e;unfold A8;rw[Int.toNat_natCast,hg1];simp
   have hs:∀x y:List C,(L.set k x).set k y=L.set k y:=fun x y=>List.set_set ..
   generalize hM:K+5*k=M at *
   have w0:=Ad (k:=M) (by omega)
   have w1:=Ad (k:=M+1) (by omega)
   have w2:=Ad (k:=M+2) (by omega)
   have w3:=Ad (k:=M+3) (by omega)
   have w4:=Ad (k:=M+4) (by omega)
   refine Ab (j12 hll hd hr0 hg0 hr1 hg1 hs w0 w1 @w2 @w3 @w4) ?_
   refine v7 (A3 [] (Mw (M+2) (by omega))) q9 (j12 hll hd hr0 hg0 hr1 hg1 hs w0 w1 @w2 @w3 @w4) ?_
   refine v7 (A3 [] (Mw (M+3) (by omega))) q9 (j2 (j12 hll hd hr0 hg0 hr1 hg1 hs w0 w1 @w2 @w3 @w4) hw) ?_
   refine⟨k+1,by omega,by omega,?_⟩
   exact Ac (Aj.of [((0,0),(0,0))] []) (j2 hnx hKn)
  ·have hd:decide ((k:Int)<(xs.length:Int))=false:=by simpa using hlt
   have hke:k=xs.length:=by omega
   have hall:Cl K xs k=Eg K xs.length:=by rw[hke];simp[Cl]
   refine Ab (j2 hml hd) ?_
   subst hke
   exact Aa (A9 [((0,0),(0,0))] []) Tryz.results36 hall
def Hg (xs:List CellD):List C:=[.osl (xs.map CellD.cs)]
def Ly (w:World):List (List CellD)→List Value→List Nat→Prop
 | [],vs,bs=>vs=[]∧bs=[]
 |x::l,vs,bs=>∃v vs' b1 b2,vs=v::vs'∧bs=b1++b2∧CR w (fun _=>False) (.osl (x.map CellD.cs)) v b1∧Ly w l vs' b2
theorem Ly.length {w:World}:∀{l:List (List CellD)}{vs:List Value}{bs:List Nat},Ly w l vs bs→vs.length=l.length
 | [],vs,bs,h=>by rw[h.1];rfl
 |x::l,vs,bs,h=>by
  obtain⟨v,vs',b1,b2,rfl,rfl,h1,h2⟩:=h
  simp[Ly.length h2]
theorem Ly.keep {w w':World}(hz:w.heap.size≤w'.heap.size):∀{l:List (List CellD)}{vs:List Value}{bs:List Nat},(∀b,b∈bs→b<w.heap.size→w'.heap[b]? = w.heap[b]?)→Ly w l vs bs→Ly w' l vs bs
 | [],vs,bs,_,h=>h
 |x::l,vs,bs,hb,h=>by
  obtain⟨v,vs',b1,b2,rfl,rfl,h1,h2⟩:=h
  exact⟨v,vs',b1,b2,rfl,rfl,CR.keep hz (fun b hf=>hf.elim) (fun b hb1=>hb b (by simp[hb1])) h1,Ly.keep hz (fun b hb2=>hb b (by simp[hb2])) h2⟩
theorem Ly.at_ {w:World}:∀{l:List (List CellD)}{vs:List Value}{bs:List Nat},Ly w l vs bs→bs.Nodup→∀{i:Nat}(hi:i<l.length),∃v bi,vs[i]? = some v∧CR w (fun _=>False) (.osl (l[i].map CellD.cs)) v bi∧(∀b,b∈bi→b∈bs) ∧
  ∀(w':World) (y:List CellD),w.heap.size≤w'.heap.size→CR w' (fun _=>False) (.osl (y.map CellD.cs)) v bi→(∀b,b∈bs→b ∉ bi→b<w.heap.size→w'.heap[b]? = w.heap[b]?)→Ly w' (l.set i y) vs bs
 | [],vs,bs,_,_,i,hi=>by simp at hi
 |x::l,vs,bs,h,hnd,0,_=>by
  obtain⟨v,vs',b1,b2,rfl,rfl,h1,h2⟩:=h
  refine⟨v,b1,rfl,h1,fun b hb=>by simp[hb],fun w' y hz hy hk=>⟨v,vs',b1,b2,rfl,rfl,hy,Ly.keep hz (fun b hb=>hk b (by simp[hb]) ?_) h2⟩⟩
  intro hb1
  exact (List.nodup_append.1 hnd).2.2 b hb1 b hb rfl
 |x::l,vs,bs,h,hnd,i+1,hi=>by
  obtain⟨v,vs',b1,b2,rfl,rfl,h1,h2⟩:=h
  obtain⟨v1,bi,g1,g2,g3,g4⟩:=Ly.at_ h2 (List.nodup_append.1 hnd).2.1 (i:=i) (by simpa using hi)
  refine⟨v1,bi,by simpa using g1,by simpa using g2,fun b hb=>by simp[g3 b hb],fun w' y hz hy hk=>⟨v,vs',b1,b2,rfl,rfl,CR.keep hz (fun b hf=>hf.elim) (fun b hb=>hk b (by simp[hb]) ?_) h1,g4 w' y hz hy fun b hb=>hk b (by simp[hb])⟩⟩
  intro hbi
  exact (List.nodup_append.1 hnd).2.2 b hb b (g3 b hbi) rfl
def tot (l:List (List CellD)):Nat:=(l.map List.length).sum
theorem MV {p:Id×AO}{i:Id}{o:AO}(h:Mem.get [p] i=some o):i=p.1∧o=p.2:=by
 obtain⟨a,b⟩:=p
 simp only[Mem.get,List.lookup_cons,List.lookup_nil]at h
 split at h
 ·rename_i hq
  exact⟨by simpa using hq,(Option.some.inj h).symm⟩
 ·cases h
def szC (t y:ByteArray) (left:Int):Int:=if left-t.size<0 then -1 else if left-t.size-y.size<0 then -1 else left-t.size-y.size
def szR (xs:List CellD) (left:Int):Int:=if left-xs.length-K1 xs<0 then -1 else left-xs.length-K1 xs
set_option maxRecDepth 10000
theorem C9 {n:Int}(h1:-9223372036854775808≤n) (h2:n≤9223372036854775807):IntKind.i64.wrap n=n:=IntWalk.i64_in _ (by omega)
theorem Zj (c:CellD) (left:Int) (h0:0≤left) (h1:left≤1048576) (ht:c.text.size≤9223372036854775807) (hy:c.key.size≤9223372036854775807):AC Tryz.prog 77 [c.av,.c (.int .i64 left)] [] (.c (.int .i64 (szC c.text c.key left))) []:=by
 have w1:IntKind.i64.wrap (left-c.text.size)=left-c.text.size:=C9 (by omega) (by omega)
 by_cases hn:left-c.text.size<0
 ·have hr:szC c.text c.key left = -1:=by unfold szC;rw[if_pos hn]
  have hd:decide (left-c.text.size<0)=true:=by simpa using hn
  rw[hr]
  refine A6 Tryz.func77 Tryz.ntmps77 (j2 w1 hd) ?_
  exact Ag (A5 []) Tryz.results77
 ·have hd:decide (left-c.text.size<0)=false:=by simpa using hn
  have w2:IntKind.i64.wrap (left-c.text.size-c.key.size)=left-c.text.size-c.key.size:=C9 (by omega) (by omega)
  by_cases hm:left-c.text.size-c.key.size<0
  ·have hr:szC c.text c.key left = -1:=by unfold szC;rw[if_neg hn,if_pos hm]
   have hd2:decide (left-c.text.size-c.key.size<0)=true:=by simpa using hm
   rw[hr]
   refine A6 Tryz.func77 Tryz.ntmps77 (j4 w1 hd @w2 hd2) ?_
   exact Ag (A5 []) Tryz.results77
  ·have hr:szC c.text c.key left=left-c.text.size-c.key.size:=by unfold szC;rw[if_neg hn,if_neg hm]
   have hd2:decide (left-c.text.size-c.key.size<0)=false:=by simpa using hm
   rw[hr]
   refine A6 Tryz.func77 Tryz.ntmps77 (j4 w1 hd @w2 hd2) ?_
   exact Ag (A5 []) Tryz.results77
theorem Xs (xs:List CellD) (k:Nat):K1 (xs.take k)≤K1 xs:=by
 induction xs generalizing k with
 |nil=>simp
 |cons c xs ih=>cases k with
  |zero=>simp[K1]
  |succ k=>have:=ih k;simp only[List.take_succ_cons,K1];omega
theorem Wi (xs:List CellD) (hz:J2 xs) (hl:xs.length≤9223372036854775807) (left:Int) (h0:0≤left) (h1:left≤1048576):AC Tryz.prog 27 [AF xs,.c (.int .i64 left)] [] (.c (.int .i64 (szR xs left))) []:=by
 have w1:IntKind.i64.wrap (left-xs.length)=left-xs.length:=C9 (by omega) (by omega)
 by_cases hn:left-xs.length<0
 ·have hr:szR xs left = -1:=by unfold szR;rw[if_pos (by omega)]
  have hd:decide (left-(xs.length:Int)<0)=true:=by simpa using hn
  rw[hr]
  refine A6 Tryz.func27 Tryz.ntmps27 (j2 w1 hd) ?_
  exact Ag (A5 []) Tryz.results27
 ·have hd:decide (left-(xs.length:Int)<0)=false:=by simpa using hn
  obtain⟨L,hL⟩:∃L:Nat→Int,∀k,L k=left-xs.length-(K1 (xs.take k):Nat):=⟨_,fun _=>rfl⟩
  have hb0:left-(xs.length:Int)=L 0:=by rw[hL];simp[K1]
  refine A6 Tryz.func27 Tryz.ntmps27 (j2 w1 hd) ?_
  refine Ar (κ:=Nat) (fun k=>⟨mkS 0 27 [(0,AF xs),(1,.c (.int .i64 (L k))),(5,.c (.int .i64 k))],[]⟩)
   (fun k=>k≤xs.length∧0≤L k) (fun k=>xs.length-k) 0 ⟨Nat.zero_le _,by rw[←hb0];omega⟩ ?_ ?_
  ·exact Ac (Aj.of [] []) hb0
  ·rintro k ⟨hk,hge⟩
   by_cases hlt:k<xs.length
   ·have hdk:decide ((k:Int)<(xs.length:Int))=true:=by simpa using hlt
    have hw:=Ad (k:=k) (by omega)
    have hr0:A8 (xs.map CellD.cs) 5 k=true:=by simp[A8,hlt,CellD.cs]
    have hg0:(xs.map CellD.cs)[k]? = some [.int .i64 xs[k].kind,.int .i64 xs[k].num,.str xs[k].text,.str xs[k].key,.int .i64 xs[k].n]:=by simp[hlt,CellD.cs]
    have hs:=hz _ (List.getElem_mem hlt)
    have hsn:=Xr (xs.take k) xs[k]
    rw[←List.take_succ_eq_append_getElem hlt]at hsn
    have hbt:=Xs xs (k+1)
    have hca:=Zj xs[k] (L k) hge (by rw[hL];omega) hs.1 hs.2
    have hLk:=hL k
    have hLk1:=hL (k+1)
    generalize xs[k]=c at *
    by_cases hm:L (k+1)<0
    ·have hq:szC c.text c.key (L k) = -1:=by unfold szC;split;rfl;rw[if_pos (by omega)]
     rw[hq]at hca
     have hr:szR xs left = -1:=by unfold szR;rw[if_pos (by omega)]
     have hdm:decide ((-1:Int)<0)=true:=rfl
     refine Ab (j3 hdk hr0 hg0) ?_
     refine v7 (A3 [] hca) q9 hdm ?_
     rw[hr]
     exact Ag (A5 []) Tryz.results27
    ·have hq:szC c.text c.key (L k)=L (k+1):=by unfold szC;rw[if_neg (by omega),if_neg (by omega)];omega
     rw[hq]at hca
     have hdm:decide (L (k+1)<0)=false:=by simpa using hm
     refine Ab (j3 hdk hr0 hg0) ?_
     refine v7 (A3 [] hca) q9 (j2 hdm hw) ?_
     refine⟨k+1,by omega,⟨by omega,by omega⟩,?_⟩
     exact Ac (Aj.of [] []) hw
   ·have hdk:decide ((k:Int)<(xs.length:Int))=false:=by simpa using hlt
    have hke:xs.take k=xs:=List.take_of_length_le (by omega)
    have hLk:=hL k
    rw[hke]at hLk
    have hr:szR xs left=L k:=by unfold szR;rw[if_neg (by omega),hLk]
    refine Ab hdk ?_
    rw[hr]
    exact Ag (A5 []) Tryz.results27
theorem Oi {w:World}{base:Nat}{e:TypeId}{es n:Nat}{v:Value}{cs:List Value}(h:w.ownsRow base e es v n cs) {b:Nat}(hb:v.ownBlock=some b):base≤b∧b<w.heap.size:=by
 rcases h.2 with⟨rfl,_⟩ | ⟨g,cap,cur,rfl,hg,hh,_⟩
 ·cases hb
 ·have:g=b:=by simpa [Value.ownBlock] using hb
  subst this
  exact⟨hg,(Array.getElem?_eq_some_iff.1 hh).1⟩
theorem Ry {w:World}{base:Nat}{e:TypeId}{es n:Nat}{v:Value}{cs:List Value}(h:w.ownsRow base e es v n cs):w.ownsRow 0 e es v n cs:=by
 refine⟨h.1,?_⟩
 rcases h.2 with h | ⟨g,cap,cur,e1,hg,r⟩
 ·exact .inl h
 ·exact .inr ⟨g,cap,cur,e1,Nat.zero_le _,r⟩
theorem AC.of_row {P:Program}{f:FuncId}{args:List AV}{es:Nat}{e:TypeId}{rows:List (List C)}(hc:Bm rows=true)
  (h:∀(S:Nat→Prop) (w:World) (κ:Id→Value) (vals:List Value),ARs w S [] κ args vals→Calls P f vals.toArray w fun e1 w'=>Below w.heap.size w w'∧∃v vrows,e1=.returned v∧An w' (fun _=>False) rows vrows []∧(∀x∈vrows,x.length=es)∧w'.ownsRow w.heap.size e es v rows.length vrows.flatten) :
  AC P f args [] (.own (0,0)) [((0,0),.row false es e rows)]:=by
 intro Γ vals hE hA
 have how:∀b,Γ.ow b=none:=by
  intro b
  cases hb:Γ.ow b with
  |none=>rfl
  |some i=>obtain⟨_,o,h1,_⟩:=hE.own b i hb;simp[Mem.get]at h1
 refine (h _ _ _ _ hA).mono ?_
 rintro e1 w' ⟨hb,v,vrows,rfl,h1,h2,h3⟩
 refine⟨v,fun b=>if v.ownBlock=some b then some (0,0) else none,fun _=>v,rfl,⟨⟨MA h3,_,rfl,fun _=>rfl⟩,?_,?_,hb.os,hb.tape,hb.output,hb.size,?_,fun i o o' h=>(by simp[Mem.get]at h)⟩⟩
 ·intro i o hi
  obtain⟨rfl,rfl⟩:=MV hi
  refine⟨vrows,[],An.closed hc h1,fun _=>rfl,h2,Ry h3,?_,fun b hb=>?_⟩
  ·show (v.ownBlock.toList++[]).Nodup
   cases v.ownBlock<;>simp
  ·have hb':b∈v.ownBlock.toList++[]:=hb
   have:v.ownBlock=some b:=by simpa using hb'
   exact if_pos this
 ·intro b i hbi
  split at hbi
  ·rename_i hv
   refine⟨(Oi h3 hv).2,.row false es e rows,?_,rfl⟩
   rw[←Option.some.inj hbi]
   rfl
  ·cases hbi
 ·intro b hl _
  refine⟨hb.block b hl,?_⟩
  refine if_neg fun hv=>?_
  have:=(Oi h3 hv).1
  omega
theorem E2 (l:List CellD):Bm (l.map CellD.cs)=true:=by
 induction l with
 |nil=>rfl
 |cons c l ih=>simp only[List.map_cons,Bm,ih,Bool.and_true];rfl
attribute [go_sem] E2 AO.closed
theorem Wk (xs:List CellD) (hl:xs.length≤1048576):AC Tryz.prog 30 [AF xs] [] (.own (0,0)) [((0,0),.row false 5 80 (xs.map CellD.cs))]:=by
 refine AC.of_row (E2 xs) fun S w κ vs hv=>?_
 obtain⟨v,vs',rfl,h1,rfl⟩:=hv
 obtain⟨A,cap,rfl,_,hc⟩:=CX.1 h1
 refine (U6 xs hl A cap S w hc).mono ?_
 rintro e w' ⟨⟨g,rfl,rows,q1,q2,q3,q4⟩,hb⟩
 have:rows=xs.map vals:=by
  apply List.ext_getElem?
  intro i
  by_cases hi:i<xs.length
  ·rw[List.getElem?_eq_getElem (by omega)]
   have:=q4 i hi _ (List.getElem?_eq_getElem (by omega))
   rw[List.getElem?_map,List.getElem?_eq_getElem hi]
   exact congrArg some this
  ·rw[List.getElem?_eq_none (by omega),List.getElem?_eq_none (by simp;omega)]
 subst this
 refine⟨hb,_,xs.map vals,rfl,(H2 Sn).2 ⟨rfl,rfl⟩,q2,?_⟩
 rw[List.length_map]
 exact q3
theorem AC.calls {P:Program}{f:FuncId}{args:List AV}{b:Bool}(h:AC P f args [] (.c (.bool b)) []) {w:World}{S:Nat→Prop}{vals:List Value}
  (hv:∀(T:Nat→Prop),(∀b,S b→T b)→∀κ,ARs w T [] κ args vals):Calls P f vals.toArray w fun e w'=>e=.returned (.bool b)∧Below w.heap.size w w':=by
 let Γ:Ctx:=⟨w,S,fun _=>none,fun _=>.bool false,[]⟩
 have hE:Entry Γ []:=⟨fun i o hi=>(by simp[Mem.get]at hi),fun b i hb=>(by cases hb),rfl⟩
 refine (h Γ vals hE (hv _ (fun b hb=>⟨rfl,.inl hb⟩) _)).mono ?_
 rintro e w' ⟨v,ow,κ,rfl,hx⟩
 obtain⟨rfl,_⟩:=hx.res
 exact⟨rfl,hx.os,hx.tape,hx.output,hx.size,fun b hb=>(hx.frame b hb rfl).1⟩
set_option maxRecDepth 10000
theorem a1f (xs:List CellD) (left:Int) (h:0≤left):szR xs left≤left:=by
 unfold szR
 split
 ·omega
 ·have:(0:Int)≤(xs.length:Int):=by omega
  have:(0:Int)≤(K1 xs:Int):=by omega
  omega
theorem Nb (l:List (List CellD)):Bm (l.map Hg)=true:=by
 induction l with
 |nil=>rfl
 |cons c l ih=>simp only[List.map_cons,Bm,ih,Bool.and_true,Hg,Ff,C.closed,E2]
theorem NI (l:List (List CellD)):AT (l.map Hg)=l.map Al:=by
 induction l with
 |nil=>rfl
 |cons c l ih=>simp only[List.map_cons,AT,ih,Hg,Cn,C.forget,E4,Al]
attribute [go_sem] Nb NI
set_option maxRecDepth 10000
def Pg:List (List CellD)→Int→Int
 | [],left=>left
 |x::r,left=>if szR x left<0 then -1 else Pg r (szR x left)
def Ph (l:List (List CellD)) (left:Int):Int:=if left-l.length<0 then -1 else Pg l (left-l.length)
theorem Xa:∀(l:List (List CellD)) (left:Int),0≤left→Pg l left≤left
 | [],_,_=>Int.le_refl _
 |x::r,left,h=>by
  unfold Pg
  have:=a1f x left h
  split
  ·omega
  ·have:=Xa r (szR x left) (by omega)
   omega
theorem a3c (l:List (List CellD)) (left:Int) (h:0≤left):Ph l left≤left:=by
 unfold Ph
 split
 ·omega
 ·have:=Xa l (left-l.length) (by omega)
  omega
theorem a3d {x:List CellD}{left:Int}(h:¬szR x left<0):szR x left≤left-x.length:=by
 unfold szR at h ⊢
 split
 ·omega
 ·have:(0:Int)≤(K1 x:Int):=by omega
  omega
theorem U4:∀(l:List (List CellD)) (left:Int),0≤left→¬Pg l left<0→(tot l:Int)≤left∧∀x∈l,(x.length:Int)≤left
 | [],left,h,_=>by simp[tot];exact h
 |x::r,left,h,hn=>by
  unfold Pg at hn
  by_cases hs:szR x left<0
  ·rw[if_pos hs]at hn;exact absurd (by decide) hn
  ·rw[if_neg hs]at hn
   have h1:=a3d hs
   obtain⟨h2,h3⟩:=U4 r (szR x left) (by omega) hn
   have h4:tot (x::r)=x.length+tot r:=by simp[tot]
   refine⟨by rw[h4];omega,fun y hy=>?_⟩
   rcases List.mem_cons.1 hy with rfl | hy
   ·omega
   ·have:=h3 y hy;omega
theorem a1d {l:List (List CellD)}{left:Int}(h:¬Ph l left<0) (hl:left≤1048576):l.length≤1048576∧tot l≤1048576∧∀x∈l,x.length≤1048576:=by
 unfold Ph at h
 by_cases hs:left-l.length<0
 ·rw[if_pos hs]at h;exact absurd (by decide) h
 ·rw[if_neg hs]at h
  obtain⟨h1,h2⟩:=U4 l _ (by omega) h
  exact⟨by omega,by omega,fun x hx=>by have:=h2 x hx;omega⟩
theorem Zl (l:List (List CellD)) {k:Nat}(h:k<l.length) (left:Int):Pg (l.drop k) left=if szR l[k] left<0 then -1 else Pg (l.drop (k+1)) (szR l[k] left):=by
 rw[List.drop_eq_getElem_cons h]
 rfl
end Go.Proofs.YtcejfdfmgmcinaaGreat
