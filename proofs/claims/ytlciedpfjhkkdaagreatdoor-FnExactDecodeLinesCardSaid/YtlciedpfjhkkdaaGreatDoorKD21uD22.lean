/- Texts of this proof: D21 G69 D22. -/
import Derived.Test.YtlciedpfjhkkdaaGreatDoorKD20
import Derived.Lib.AppendZerosOnto
set_option linter.all false
set_option maxHeartbeats 8000000
namespace Go.Proofs.YtlciedpfjhkkdaaGreatDoor
section
open Go.RowKit
set_option maxRecDepth 10000
variable {o1 o2:Obj}
theorem FS {s:ByteArray}:∀(n:Nat) (d:DS) (out:ByteArray),d.pl≤s.size→d.pl≤(d.strGo s n out).2.pl∧(d.strGo s n out).2.pl≤s.size
 | 0,d,out,h=>⟨Nat.le_refl _,h⟩
 |n+1,d,out,h=>by
  unfold DS.strGo
  split
  ·exact⟨Nat.le_refl _,h⟩
  split
  ·rename_i hi
   obtain⟨h1,_,_⟩:=Ju (by decide) hi
   exact⟨Nat.le_succ _,h1⟩
  split
  ·obtain⟨g1,g2⟩:=FS n (d.fail 5 d.pl) out (by rw[BU];exact h)
   rw[BU]at g1
   exact⟨g1,g2⟩
  rename_i hlt
  have hlt:d.pl<s.size:=by omega
  split
  ·obtain⟨_,e2,e3⟩:=NG (s:=s) (d.go (d.pl+1)) hlt
   obtain⟨g1,g2⟩:=FS n ((d.go (d.pl+1)).escape s).2 (out++Bx ((d.go (d.pl+1)).escape s).1) e3
   rw[J0]at e2
   exact⟨by omega,g2⟩
  ·obtain⟨g1,g2⟩:=FS n (d.go (d.pl+1)) (out++Bx (bAt s d.pl)) hlt
   rw[J0]at g1
   exact⟨by omega,g2⟩
theorem Kf {s:ByteArray}(d:DS) (h:d.pl≤s.size):d.pl≤(d.str s).2.pl∧(d.str s).2.pl≤s.size:=by
 obtain⟨w1,w2,_⟩:=Dv (s:=s) (d:=d) (b:=34) (by decide) h
 obtain⟨g1,g2⟩:=FS (s.size+2) (d.want s 34) ByteArray.empty w2
 unfold DS.str
 simp only
 split
 ·rw[BU];exact⟨by omega,g2⟩
 ·exact⟨by omega,g2⟩
theorem PE (s:ByteArray) (hs:s.size≤100000) (rd:DS→V×DS) (n:Nat) (hn:n≤100) (hpl:∀d,d.pl≤s.size→d.pl≤(rd d).2.pl∧(rd d).2.pl≤s.size)
  (hv:∀d,d.pl≤s.size→AC Tryz.prog 79 [.ptr (0,0) 0,.c (.int .i64 ((n+1:Nat):Int))] (dsE o1 o2 s d) (rd d).1.av (dsE o1 o2 s (rd d).2)) (d:DS) (hd:d.pl≤s.size) (hd1:1≤d.pl) :
  AC Tryz.prog 141 [.ptr (0,0) 0,.c (.int .u8 125),.clo 144 [.ptr (1,0) 0,.ptr (2,0) 0,.ptr (5,0) 0,.ptr (3,0) 0]] (T8 o1 o2 s d [] [] n) (.tup []) (Sg o1 o2 s (DS.list s (Bg s rd) 125 d ([],[])).1 (DS.list s (Bg s rd) 125 d ([],[])).2.1 (DS.list s (Bg s rd) 125 d ([],[])).2.2 n):=by
 have hs':s.size≤1000000:=by omega
 have hsk:=Cc s hs' d hd
 obtain⟨p1,p2⟩:=Bv (s:=s) hd
 have htk:=Cm s hs' (d.skip s) p2 125 (by decide)
 unfold DS.list
 cases hi:(d.skip s).is s 125 with
 |true =>
  unfold DS.take at htk
  rw[hi]at htk
  simp only[if_true]at htk ⊢
  generalize (d.skip s).go ((d.skip s).pl+1)=d2 at *
  generalize d.skip s=d1 at *
  simp only[Aq]at htk hsk
  refine A7 Tryz.func141 Tryz.ntmps141 ?_
  refine A0 trivial ?_
  refine Af (A3 [((0,0),(0,0))] [((0,0),(0,0))] hsk) trivial ?_
  refine A0 trivial ?_
  refine Af (A3 [((0,0),(0,0))] [((0,0),(0,0))] htk) trivial ?_
  refine A0 trivial ?_
  exact Ad (Ac [((0,0),(0,0)),((8,1),(8,1)),((1,0),(1,0)),((4,0),(1,1)),((5,0),(5,0)),((6,0),(5,1)),((2,0),(2,0)),((3,0),(3,0))] []) Tryz.results141 hn
 |false =>
  unfold DS.take at htk
  rw[hi]at htk
  simp only[Bool.false_eq_true,if_false]at htk ⊢
  obtain⟨R,hR⟩:∃R,DS.listGo s (Bg s rd) 125 (s.size+1) (d.skip s) ([],[])=R:=⟨_,rfl⟩
  rw[hR]
  generalize d.skip s=d1 at *
  simp only[Aq]at htk hsk
  (refine AC.intro_spx [(0,0),(8,1),(1,0),(5,0),(2,0),(3,0)] Be Tryz.func141 rfl Tryz.ntmps141 (Nat.le_of_ble_eq_true rfl) rfl rfl ?_;simp only[go_sem,Nat.reduceAdd])
  refine A0 trivial ?_
  refine Af (A3 [((0,0),(0,0))] [((0,0),(0,0))] hsk) trivial ?_
  refine A0 trivial ?_
  refine Af (A3 [((0,0),(0,0))] [((0,0),(0,0))] htk) trivial ?_
  refine A0 trivial ?_
  refine AH (κ:=DS×List ByteArray×List V) (fun k=>⟨mkS 0 27 [(0,.ptr (0,0) 0),(1,.c (.int .u8 125)),(2,.clo 144 [.ptr (1,0) 0,.ptr (2,0) 0,.ptr (5,0) 0,.ptr (3,0) 0])],
    [((0,0),.box [.c (.str s),.c (.int .i64 k.1.pl),.c (.int .i64 k.1.code),.c (.int .i64 k.1.bad)]),((8,1),.gen (BL o1 o2)),((1,0),.box [.own (99,0)]),((99,0),.row false 1 9 (k.2.1.map A8)),((5,0),.box [.own (99,1)]),((99,1),.row false 5 62 (k.2.2.map V.cs)),((2,0),.box [.ptr (0,0) 0]),((3,0),.box [.c (.int .i64 n)])]⟩)
   (fun k=>k.1.pl≤s.size∧k.2.1.length=k.2.2.length∧k.2.2.length+BB k.1≤k.1.pl+1∧∃m,s.size-k.1.pl+BB k.1<m+1∧DS.listGo s (Bg s rd) 125 m k.1 k.2=R) (fun k=>s.size-k.1.pl+BB k.1) (d1,[],[]) ⟨p2,rfl,by dsimp only;unfold BB;split<;>simp,s.size+1,by dsimp only;unfold BB;split<;>omega,hR⟩ ?_ ?_
  ·exact Ao (Ay.of [((0,0),(0,0)),((8,1),(8,1)),((1,0),(1,0)),((99,0),(1,1)),((5,0),(5,0)),((99,1),(5,1)),((2,0),(2,0)),((3,0),(3,0))] []) @List.map_nil.{0,0}
  ·rintro⟨q,keys,kids⟩ ⟨hq,hkk,hkl,m,hm,hgo⟩
   dsimp only at hq hkk hkl hm hgo ⊢
   by_cases hc:q.code=0
   ·have hcc:(q.code==0)=true:=by simpa using hc
    have hf1:BB q=1:=by unfold BB;rw[if_pos hc]
    rw[hf1]at hkl hm
    obtain⟨m,rfl⟩:∃m',m=m'+1:=⟨m-1,by omega⟩
    unfold DS.listGo Bg at hgo
    rw[if_neg (by simpa using hc)]at hgo
    simp only at hgo
    obtain⟨s1,s2⟩:=Kf q hq
    obtain⟨a1,a2⟩:=Bv (s:=s) s2
    obtain⟨a3,a4,_⟩:=Dv (s:=s) (d:=(q.str s).2.skip s) (b:=58) (by decide) a2
    obtain⟨q5,hq5⟩:∃q5,((q.str s).2.skip s).want s 58=q5:=⟨_,rfl⟩
    have hvq:=hv q5 (by rw[←hq5];exact a4)
    obtain⟨v1,v2⟩:=hpl q5 (by rw[←hq5];exact a4)
    have hpl5:q.pl≤q5.pl:=by rw[←hq5];omega
    have hp:=PG s hs q (rd q5).2 hq s2 keys kids (rd q5).1 n hn (by omega) (by omega) (by rw[hq5];exact hvq)
    rw[hq5]at hgo
    generalize (q.str s).1=key at *
    have hsk2:=Cc s hs' (rd q5).2 v2
    obtain⟨k1,k2⟩:=Bv (s:=s) v2
    have htk2:=Cm s hs' ((rd q5).2.skip s) k2 125 (by decide)
    unfold DS.take at htk2
    cases hi2:((rd q5).2.skip s).is s 125 with
    |true =>
     rw[hi2]at hgo htk2
     simp only[if_true]at hgo htk2
     subst hgo
     simp only[Aq]at htk2 hsk2
     generalize ((rd q5).2.skip s).go (((rd q5).2.skip s).pl+1)=q3 at *
     generalize (rd q5).2.skip s=q2 at *
     refine A0 hcc ?_
     refine Af (A3 [((0,0),(0,0)),((8,1),(8,1)),((1,0),(1,0)),((1,1),(99,0)),((5,0),(5,0)),((5,1),(99,1)),((2,0),(2,0)),((3,0),(3,0))] [((0,0),(0,0)),((8,1),(8,1)),((1,0),(1,0)),((4,0),(17,0)),((5,0),(5,0)),((6,0),(17,1)),((2,0),(2,0)),((3,0),(3,0))] hp) trivial ?_
     refine A0 trivial ?_
     refine Af (A3 [((0,0),(0,0))] [((0,0),(0,0))] hsk2) trivial ?_
     refine A0 trivial ?_
     refine Af (A3 [((0,0),(0,0))] [((0,0),(0,0))] htk2) trivial ?_
     refine A0 trivial ?_
     exact Ad (Ac [((0,0),(0,0)),((8,1),(8,1)),((1,0),(1,0)),((4,0),(17,0)),((5,0),(5,0)),((6,0),(17,1)),((2,0),(2,0)),((3,0),(3,0))] []) Tryz.results141 hn
    |false =>
     rw[hi2]at hgo htk2
     simp only[Bool.false_eq_true,if_false]at hgo htk2
     have hwa:=Gp s hs' ((rd q5).2.skip s) k2 44 (by decide)
     obtain⟨w1,w2,w3⟩:=Dv (s:=s) (d:=(rd q5).2.skip s) (b:=44) (by decide) k2
     have hwn:=JB (s:=s) (d:=(rd q5).2.skip s) (b:=44) (by decide)
     have hsk3:=Cc s hs' (((rd q5).2.skip s).want s 44) w2
     obtain⟨j1,j2⟩:=Bv (s:=s) w2
     have hcd:=AG (s:=s) (((rd q5).2.skip s).want s 44)
     obtain⟨q4,hq4⟩:∃q4,(((rd q5).2.skip s).want s 44).skip s=q4:=⟨_,rfl⟩
     rw[hq4]at hgo hsk3 j1 j2 hcd
     obtain⟨q3,hq3⟩:∃q3,((rd q5).2.skip s).want s 44=q3:=⟨_,rfl⟩
     rw[hq3]at hwa w1 w2 w3 hwn hsk3 j1 hcd
     simp only[Aq]at htk2 hsk2 hwa hsk3
     have hmm:(q4.code=0→q.pl+1≤q4.pl):=fun h=>by
      have:=hwn (by rw[←hcd];exact h)
      omega
     have hfl:BB q4=1∧q4.code=0∨BB q4=0:=by
      unfold BB
      by_cases h:q4.code=0
      ·exact .inl ⟨if_pos h,h⟩
      ·exact .inr (if_neg h)
     have hmes:s.size-q4.pl+BB q4<s.size-q.pl+1∧s.size-q4.pl+BB q4<m+1∧kids.length+1+BB q4≤q4.pl+1:=by
      rcases hfl with⟨h1,h2⟩ | h1
      ·have:=hmm h2;omega
      ·omega
     refine A0 hcc ?_
     refine Af (A3 [((0,0),(0,0)),((8,1),(8,1)),((1,0),(1,0)),((1,1),(99,0)),((5,0),(5,0)),((5,1),(99,1)),((2,0),(2,0)),((3,0),(3,0))] [((0,0),(0,0)),((8,1),(8,1)),((1,0),(1,0)),((4,0),(17,0)),((5,0),(5,0)),((6,0),(17,1)),((2,0),(2,0)),((3,0),(3,0))] hp) trivial ?_
     refine A0 trivial ?_
     refine Af (A3 [((0,0),(0,0))] [((0,0),(0,0))] hsk2) trivial ?_
     refine A0 trivial ?_
     refine Af (A3 [((0,0),(0,0))] [((0,0),(0,0))] htk2) trivial ?_
     refine A0 trivial ?_
     refine Af (A3 [((0,0),(0,0))] [((0,0),(0,0))] hwa) trivial ?_
     refine A0 trivial ?_
     refine Af (A3 [((0,0),(0,0))] [((0,0),(0,0))] hsk3) trivial ?_
     refine A0 trivial ?_
     refine⟨(q4,keys++[key],kids++[(rd q5).1]),by dsimp only;rw[hf1];exact hmes.1,⟨j2,by simp[hkk],by dsimp only;rw[List.length_append];exact hmes.2.2,m,hmes.2.1,hgo⟩,?_⟩
     exact Ao (Ay.of [((0,0),(0,0)),((8,1),(8,1)),((1,0),(1,0)),((99,0),(17,0)),((5,0),(5,0)),((99,1),(17,1)),((2,0),(2,0)),((3,0),(3,0))] []) hn
   ·have hcc:(q.code==0)=false:=by simpa using hc
    rw[CH hc]at hgo
    subst hgo
    refine A0 hcc ?_
    exact Ad (Ac [((0,0),(0,0)),((8,1),(8,1)),((1,0),(1,0)),((4,0),(99,0)),((5,0),(5,0)),((6,0),(99,1)),((2,0),(2,0)),((3,0),(3,0))] []) Tryz.results141 hn
end
section
open Go.RowKit
set_option maxRecDepth 10000
theorem LR (b:Bool):AC Tryz.prog 135 [.c (.bool b)] [] (Sf b).av []:=by
 cases b
 all_goals
  refine A7 Tryz.func135 Tryz.ntmps135 ?_
  refine A0 trivial ?_
  exact A6 [] (by simp only[Tryz.results135,go_sem,Nat.reduceBEq,Nat.reduceLT];exact rfl) (by simp only[go_sem,Nat.reduceEqDiff,Nat.reduceAdd,Nat.reduceSub,Nat.reduceLeDiff,Nat.reduceMul,Nat.reduceBEq,Nat.reduceLT,Int.reduceToNat,reduceCtorEq,Sf,cond_true,cond_false,V.kind,V.num,V.text,V.keys,V.kids,List.map_nil]) rfl
end
section
open Go.RowKit Go.Maps
set_option maxRecDepth 10000
variable {o1 o2:Obj}
theorem S6 {s:ByteArray}{i:Nat}(hi:i<s.size) (b:Nat):i≤(Ih s i b).2.pl∧(Ih s i b).2.pl≤s.size:=by
 obtain⟨a1,_,a2⟩:=Gr hi
 unfold Ih
 cases hd:AJ (bAt s (Au s i)) with
 |false=>simp only[if_true];exact⟨a1,a2⟩
 |true =>
  obtain⟨e1,e2,_⟩:=Gb hi hd
  simp only[Bool.true_eq_false,if_false]
  split
  ·exact⟨by show i≤AF s i;omega,e2⟩
  ·split
   ·exact⟨by show i≤AF s i;omega,e2⟩
   ·exact⟨by show i≤AF s i;omega,e2⟩
theorem Jq {α:Type}{s:ByteArray}{part:DS→α→DS×α}{e:Nat}(he:e<256) (hp:∀d x,d.pl≤s.size→d.pl≤(part d x).1.pl∧(part d x).1.pl≤s.size):∀(n:Nat) (d:DS) (x:α),d.pl≤s.size→d.pl≤(DS.listGo s part e n d x).1.pl∧(DS.listGo s part e n d x).1.pl≤s.size
 | 0,d,x,h=>⟨Nat.le_refl _,h⟩
 |n+1,d,x,h=>by
  obtain⟨p1,p2⟩:=hp d x h
  obtain⟨k1,k2⟩:=Bv (s:=s) p2
  unfold DS.listGo
  split
  ·exact⟨Nat.le_refl _,h⟩
  split
  ·rename_i hi
   obtain⟨h1,_,_⟩:=Ju he hi
   exact⟨by show d.pl≤_+1;omega,h1⟩
  ·obtain⟨w1,w2,_⟩:=Dv (s:=s) (b:=44) (by decide) k2
   obtain⟨j1,j2⟩:=Bv (s:=s) w2
   obtain⟨g1,g2⟩:=Jq he hp n _ (part d x).2 j2
   exact⟨by omega,g2⟩
theorem O8 {α:Type}{s:ByteArray}{part:DS→α→DS×α}{e:Nat}(he:e<256) (hp:∀d x,d.pl≤s.size→d.pl≤(part d x).1.pl∧(part d x).1.pl≤s.size) (d:DS) (x:α) (h:d.pl≤s.size):d.pl≤(DS.list s part e d x).1.pl∧(DS.list s part e d x).1.pl≤s.size:=by
 obtain⟨k1,k2⟩:=Bv (s:=s) h
 unfold DS.list
 split
 ·rename_i hi
  obtain⟨h1,_,_⟩:=Ju he hi
  exact⟨by show d.pl≤_+1;omega,h1⟩
 ·obtain⟨g1,g2⟩:=Jq he hp (s.size+1) (d.skip s) x k2
  exact⟨by omega,g2⟩
theorem R6 {s:ByteArray}{rd:DS→V×DS}(h:∀d,d.pl≤s.size→d.pl≤(rd d).2.pl∧(rd d).2.pl≤s.size) (d:DS) (x:List V) (hd:d.pl≤s.size):d.pl≤(Ck rd d x).1.pl∧(Ck rd d x).1.pl≤s.size:=h d hd
theorem Ss {s:ByteArray}{rd:DS→V×DS}(h:∀d,d.pl≤s.size→d.pl≤(rd d).2.pl∧(rd d).2.pl≤s.size) (d:DS) (x:List ByteArray×List V) (hd:d.pl≤s.size):d.pl≤(Bg s rd d x).1.pl∧(Bg s rd d x).1.pl≤s.size:=by
 obtain⟨s1,s2⟩:=Kf d hd
 obtain⟨a1,a2⟩:=Bv (s:=s) s2
 obtain⟨a3,a4,_⟩:=Dv (s:=s) (b:=58) (by decide) a2
 obtain⟨v1,v2⟩:=h _ a4
 exact⟨by show d.pl≤(rd _).2.pl;omega,v2⟩
theorem EB {s:ByteArray}:∀(k:Nat) (d:DS),d.pl≤s.size→d.pl≤(DS.value s k d).2.pl∧(DS.value s k d).2.pl≤s.size
 | 0,d,h=>by
  obtain⟨k1,k2⟩:=Bv (s:=s) h
  unfold DS.value
  split<;>exact⟨by rw[BU];exact k1,by rw[BU];exact k2⟩
 |k+1,d,h=>by
  obtain⟨k1,k2⟩:=Bv (s:=s) h
  have hw:∀l:List Nat,(∀b∈l,b<256)→d.pl≤((d.skip s).word s l).pl∧((d.skip s).word s l).pl≤s.size:=fun l hl=>by
   obtain⟨g1,g2⟩:=FM (l:=l) hl k2
   exact⟨by omega,g2⟩
  unfold DS.value
  simp only
  split
  ·exact⟨by rw[BU];exact k1,by rw[BU];exact k2⟩
  rename_i hlt
  split
  ·exact⟨k1,k2⟩
  split
  ·exact hw _ (by decide)
  split
  ·exact hw _ (by decide)
  split
  ·exact hw _ (by decide)
  split
  ·obtain⟨g1,g2⟩:=S6 (s:=s) (i:=(d.skip s).pl) (by omega) (d.skip s).bad
   exact⟨by omega,g2⟩
  split
  ·obtain⟨g1,g2⟩:=Kf (d.skip s) k2
   exact⟨Nat.le_trans k1 g1,g2⟩
  split
  ·obtain⟨g1,g2⟩:=O8 (s:=s) (e:=93) (by decide) (R6 fun d hd=>EB k d hd) ((d.skip s).go ((d.skip s).pl+1)) [] (by show _+1≤_;omega)
   rw[J0]at g1
   exact⟨Nat.le_trans (Nat.le_succ_of_le k1) g1,g2⟩
  split
  ·obtain⟨g1,g2⟩:=O8 (s:=s) (e:=125) (by decide) (Ss fun d hd=>EB k d hd) ((d.skip s).go ((d.skip s).pl+1)) ([],[]) (by show _+1≤_;omega)
   rw[J0]at g1
   exact⟨Nat.le_trans (Nat.le_succ_of_le k1) g1,g2⟩
  ·exact⟨by rw[BU];exact k1,by rw[BU];exact k2⟩
theorem Py (d:DS) (c c':Int) (p p':Nat) (hc:c≠0):(d.fail c p).fail c' p'=d.fail c p:=by
 unfold DS.fail
 by_cases h:d.code=0
 ·simp[h,hc]
 ·simp[h]
theorem K1 (d:DS) (c:Int) (p:Nat) (hc:c≠0):(d.fail c p).code≠0:=by
 unfold DS.fail
 split
 ·exact hc
 ·rename_i h;exact h
theorem Jr {s:ByteArray}{rd:DS→V×DS}:∀(n:Nat) (d:DS) (x:List ByteArray×List V),x.1.length=x.2.length→(DS.listGo s (Bg s rd) 125 n d x).2.1.length=(DS.listGo s (Bg s rd) 125 n d x).2.2.length
 | 0,_,_,h=>h
 |n+1,d,x,h=>by
  have hm:(Bg s rd d x).2.1.length=(Bg s rd d x).2.2.length:=by unfold Bg;simp[h]
  unfold DS.listGo
  split
  ·exact h
  split
  ·exact hm
  ·exact Jr n _ _ hm
theorem H6 {α:Type}{s:ByteArray}{part:DS→α→DS×α}{e:Nat}(he:e<256) (len:α→Nat) (hl:∀d x,len (part d x).2=len x+1):∀(n:Nat) (d:DS) (x:α),len (DS.listGo s part e n d x).2≤len x+n
 | 0,d,x=>Nat.le_refl _
 |n+1,d,x=>by
  unfold DS.listGo
  split
  ·exact Nat.le_add_right _ _
  split
  ·show len (part d x).2≤_
   rw[hl];omega
  ·have:=H6 (s:=s) he len hl n ((((part d x).1.skip s).want s 44).skip s) (part d x).2
   rw[hl]at this
   omega
theorem EP {s:ByteArray}:∀(n:Nat) (d:DS) (out:ByteArray),(d.strGo s n out).1.size≤out.size+n
 | 0,_,_=>Nat.le_refl _
 |n+1,d,out=>by
  unfold DS.strGo
  split
  ·exact Nat.le_add_right _ _
  split
  ·exact Nat.le_add_right _ _
  split
  ·have:=EP (s:=s) n (d.fail 5 d.pl) out;omega
  split
  ·have:=EP (s:=s) n ((d.go (d.pl+1)).escape s).2 (out++Bx ((d.go (d.pl+1)).escape s).1)
   rw[Dh]at this
   omega
  ·have:=EP (s:=s) n (d.go (d.pl+1)) (out++Bx (bAt s d.pl))
   rw[Dh]at this
   omega
theorem Qx {s:ByteArray}(d:DS):(d.str s).1.size≤s.size+2:=by
 have:=EP (s:=s) (s.size+2) (d.want s 34) ByteArray.empty
 unfold DS.str
 simpa using this
theorem IP {s:ByteArray}{rd:DS→V×DS}:∀(n:Nat) (d:DS) (x:List ByteArray×List V),(∀k∈x.1,k.size≤s.size+2)→∀k∈(DS.listGo s (Bg s rd) 125 n d x).2.1,k.size≤s.size+2
 | 0,_,_,h=>h
 |n+1,d,x,h=>by
  have hm:∀k∈(Bg s rd d x).2.1,k.size≤s.size+2:=by
   unfold Bg
   intro k hk
   rcases List.mem_append.1 hk with hk | hk
   ·exact h k hk
   ·rw[List.mem_singleton.1 hk];exact Qx d
  unfold DS.listGo
  split
  ·exact h
  split
  ·exact hm
  ·exact IP n _ _ hm
theorem Ry (s:ByteArray) (hs:s.size≤100000) (rd:DS→V×DS) (d:DS):AC Tryz.prog 146 [.c (.sl ((DS.list s (Bg s rd) 125 d ([],[])).2.1.map A8)),.c (.sl ((DS.list s (Bg s rd) 125 d ([],[])).2.2.map V.cs))] [] (Gu (DS.list s (Bg s rd) 125 d ([],[])).2.1 (DS.list s (Bg s rd) 125 d ([],[])).2.2).av []:=by
 have h:(DS.list s (Bg s rd) 125 d ([],[])).2.1.length=(DS.list s (Bg s rd) 125 d ([],[])).2.2.length∧(DS.list s (Bg s rd) 125 d ([],[])).2.1.length≤s.size+1∧∀k∈(DS.list s (Bg s rd) 125 d ([],[])).2.1,k.size≤s.size+2:=by
  unfold DS.list
  split
  ·exact⟨rfl,Nat.zero_le _,by simp⟩
  ·refine⟨Jr _ _ _ rfl,?_,IP _ _ _ (by simp)⟩
   have:=H6 (s:=s) (part:=Bg s rd) (e:=125) (by decide) (fun x=>x.1.length) (fun d x=>by unfold Bg;simp) (s.size+1) (d.skip s) ([],[])
   simpa using this
 have h2:=P6 _ _ h.1 (by omega) (fun k hk=>by have:=h.2.2 k hk;omega)
 rw[OX]at h2
 exact h2
end
end Go.Proofs.YtlciedpfjhkkdaaGreatDoor
