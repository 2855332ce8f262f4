/- Texts of this proof: D20 D21. -/
import Derived.Test.YtllfmaflodbieaaGreatDoorKD19uE41
set_option linter.all false
set_option maxHeartbeats 8000000
namespace Go.Proofs.YtllfmaflodbieaaGreatDoor
section
open Go.RowKit
set_option maxRecDepth 10000
variable {o1 o2:Obj}
abbrev a6d (o1 o2:Obj) (s:ByteArray) (d:DS) (kids:List V) (deep:Int):Mem:=[((0,0),.box [.c (.str s),.c (.int .i64 d.pl),.c (.int .i64 d.code),.c (.int .i64 d.bad)]),((8,1),.gen (KV o1 o2)),((1,0),.box [.own (1,1)]),((1,1),.row false 5 76 (kids.map V.cs)),((2,0),.box [.ptr (0,0) 0]),((3,0),.box [.c (.int .i64 deep)])]
abbrev a4u (o1 o2:Obj) (s:ByteArray) (d:DS) (kids:List V) (deep:Int):Mem:=[((0,0),.box [.c (.str s),.c (.int .i64 d.pl),.c (.int .i64 d.code),.c (.int .i64 d.bad)]),((8,1),.gen (KV o1 o2)),((1,0),.box [.own (4,0)]),((4,0),.row false 5 76 (kids.map V.cs)),((2,0),.box [.ptr (0,0) 0]),((3,0),.box [.c (.int .i64 deep)])]
theorem WT (kids:List V) (v:V):(kids.map V.cs++[[C.int .i64 0,.int .i64 0,.str ByteArray.empty,.sl [],.sl []]]).set kids.length [.int .i64 v.kind,.int .i64 v.num,.str v.text,.sl (v.keys.map CX),.sl (v.kids.map V.cs)]=(kids++[v]).map V.cs:=by
 have hl:(kids.map V.cs).length=kids.length:=by simp
 rw[←hl,List.map_append,List.set_append,if_neg (Nat.lt_irrefl _),Nat.sub_self,List.set_cons_zero,List.map_cons,List.map_nil,V.cs_eq]
theorem YO (kids:List V):B4 (kids.map V.cs++[[C.int .i64 0,.int .i64 0,.str ByteArray.empty,.sl [],.sl []]]) 5 (kids.length:Nat)=true∧(kids.map V.cs++[[C.int .i64 0,.int .i64 0,.str ByteArray.empty,.sl [],.sl []]])[kids.length]? = some [C.int .i64 0,.int .i64 0,.str ByteArray.empty,.sl [],.sl []]:=by
 have h:(kids.map V.cs++[[C.int .i64 0,.int .i64 0,.str ByteArray.empty,.sl [],.sl []]])[kids.length]? = some [C.int .i64 0,.int .i64 0,.str ByteArray.empty,.sl [],.sl []]:=by
  rw[List.getElem?_append_right (by simp)]
  simp
 refine⟨?_,h⟩
 unfold B4
 rw[Int.toNat_natCast,h]
 simp
theorem a1x (s:ByteArray) (d d2:DS) (kids:List V) (v:V) (n:Nat) (hn:n≤100) (hl:kids.length≤900000) (hv:AC Tryz.prog 117 [.ptr (0,0) 0,.c (.int .i64 ((n+1:Nat):Int))] (dsE o1 o2 s d) v.av (dsE o1 o2 s d2)) :
  AC Tryz.prog 179 [.ptr (1,0) 0,.ptr (2,0) 0,.ptr (3,0) 0] (a6d o1 o2 s d kids n) (.tup []) (a4u o1 o2 s d2 (kids++[v]) n):=by
 have hw:=JX (k:=n) (by omega)
 have hol:kids.length+1≤1000000:=by omega
 have hrow:=WT kids v
 obtain⟨hr,hg⟩:=YO kids
 simp only[Kh]at hv
 refine JI Tryz.func179 Tryz.ntmps179 ?_
 refine JV hw ?_
 refine KC (K6 [] [((0,0),(0,0)),((8,1),(8,1))] [((0,0),(0,0)),((8,1),(8,1))] hv) q9 ?_
 refine JV (j4 hol hr hg hrow) ?_
 exact JJ (JN [((0,0),(0,0)),((8,1),(8,1)),((1,0),(1,0)),((4,0),(10,0)),((2,0),(2,0)),((3,0),(3,0))] []) Tryz.results179 hrow
abbrev a6e (o1 o2:Obj) (s:ByteArray) (d:DS) (keys:List ByteArray) (kids:List V) (deep:Int):Mem:=[((0,0),.box [.c (.str s),.c (.int .i64 d.pl),.c (.int .i64 d.code),.c (.int .i64 d.bad)]),((8,1),.gen (KV o1 o2)),((1,0),.box [.own (1,1)]),((1,1),.row false 1 9 (keys.map CX)),((5,0),.box [.own (5,1)]),((5,1),.row false 5 76 (kids.map V.cs)),((2,0),.box [.ptr (0,0) 0]),((3,0),.box [.c (.int .i64 deep)])]
abbrev a4v (o1 o2:Obj) (s:ByteArray) (d:DS) (keys:List ByteArray) (kids:List V) (deep:Int):Mem:=[((0,0),.box [.c (.str s),.c (.int .i64 d.pl),.c (.int .i64 d.code),.c (.int .i64 d.bad)]),((8,1),.gen (KV o1 o2)),((1,0),.box [.own (4,0)]),((4,0),.row false 1 9 (keys.map CX)),((5,0),.box [.own (6,0)]),((6,0),.row false 5 76 (kids.map V.cs)),((2,0),.box [.ptr (0,0) 0]),((3,0),.box [.c (.int .i64 deep)])]
theorem a1y (s:ByteArray) (hs:s.size≤100000) (d d2:DS) (hd:d.pl≤s.size) (hd3:(d.str s).2.pl≤s.size) (keys:List ByteArray) (kids:List V) (v:V) (n:Nat) (hn:n≤100) (hl:kids.length≤900000) (hkk:keys.length≤900000)
  (hv:AC Tryz.prog 117 [.ptr (0,0) 0,.c (.int .i64 ((n+1:Nat):Int))] (dsE o1 o2 s (((d.str s).2.skip s).want s 58)) v.av (dsE o1 o2 s d2)) :
  AC Tryz.prog 180 [.ptr (1,0) 0,.ptr (2,0) 0,.ptr (5,0) 0,.ptr (3,0) 0] (a6e o1 o2 s d keys kids n) (.tup []) (a4v o1 o2 s d2 (keys++[(d.str s).1]) (kids++[v]) n):=by
 have hs':s.size≤1000000:=by omega
 have hw:=JX (k:=n) (by omega)
 have hol:kids.length+1≤1000000:=by omega
 have holk:keys.length+1≤1000000:=by omega
 have hrow:=WT kids v
 obtain⟨hr,hg⟩:=YO kids
 have hst:=Za (o1:=o1) (o2:=o2) s hs d hd
 have hsk:=LN s hs' (d.str s).2 hd3
 have hwa:=Q6 s hs' ((d.str s).2.skip s) (L0 hd3).2 58 (by decide)
 have hrowk:(keys++[(d.str s).1]).map CX=keys.map CX++[[.str (d.str s).1]]:=by rw[List.map_append];rfl
 generalize (d.str s).1=key at *
 generalize (d.str s).2=d3 at *
 generalize (d3.skip s).want s 58=d5 at *
 generalize d3.skip s=d4 at *
 simp only[K2,Kh]at hv hst hsk hwa
 refine JI Tryz.func180 Tryz.ntmps180 ?_
 refine JV q9 ?_
 refine JO (Im [((0,0),(0,0)),((8,1),(8,1))] [((0,0),(0,0)),((8,1),(8,1))] hst) q9 ?_
 refine JV holk ?_
 refine JO (Im [((0,0),(0,0))] [((0,0),(0,0))] hsk) q9 ?_
 refine JV q9 ?_
 refine JO (Im [((0,0),(0,0))] [((0,0),(0,0))] hwa) q9 ?_
 refine JV hw ?_
 refine KC (K6 [] [((0,0),(0,0)),((8,1),(8,1))] [((0,0),(0,0)),((8,1),(8,1))] hv) q9 ?_
 refine JV (j4 hol hr hg hrow) ?_
 exact JJ (JN [((0,0),(0,0)),((8,1),(8,1)),((1,0),(1,0)),((4,0),(8,0)),((5,0),(5,0)),((6,0),(20,0)),((2,0),(2,0)),((3,0),(3,0))] []) Tryz.results180 (j2 hrow hrowk)
theorem Uq {s:ByteArray}{d:DS}{b:Nat}(hb:b<256) (h:(d.want s b).code=0):(d.want s b).pl=d.pl+1:=by
 unfold DS.want at h ⊢
 cases hi:d.is s b with
 |true=>simp only[if_true];rfl
 |false =>
  rw[hi]at h
  simp only[Bool.false_eq_true,if_false]at h
  unfold DS.fail at h
  split at h
  ·exact absurd h (by show ¬((5:Int)=0);decide)
  ·rename_i h2;exact absurd h h2
def L3 (d:DS):Nat:=if d.code=0 then 1 else 0
theorem a08 (s:ByteArray) (hs:s.size≤100000) (rd:DS→V×DS) (n:Nat) (hn:n≤100) (hpl:∀d,d.pl≤s.size→d.pl≤(rd d).2.pl∧(rd d).2.pl≤s.size)
  (hv:∀d,d.pl≤s.size→AC Tryz.prog 117 [.ptr (0,0) 0,.c (.int .i64 ((n+1:Nat):Int))] (dsE o1 o2 s d) (rd d).1.av (dsE o1 o2 s (rd d).2)) (d:DS) (hd:d.pl≤s.size) (hd1:1≤d.pl) :
  AC Tryz.prog 178 [.ptr (0,0) 0,.c (.int .u8 93),.clo 179 [.ptr (1,0) 0,.ptr (2,0) 0,.ptr (3,0) 0]] (a6d o1 o2 s d [] n) (.tup []) (a4u o1 o2 s (DS.list s (Jg rd) 93 d []).1 (DS.list s (Jg rd) 93 d []).2 n):=by
 have hs':s.size≤1000000:=by omega
 have hsk:=LN s hs' d hd
 obtain⟨p1,p2⟩:=L0 (s:=s) hd
 have htk:=Mb s hs' (d.skip s) p2 93 (by decide)
 unfold DS.list
 cases hi:(d.skip s).is s 93 with
 |true =>
  unfold DS.take at htk
  rw[hi]at htk
  simp only[if_true]at htk ⊢
  generalize (d.skip s).go ((d.skip s).pl+1)=d2 at *
  generalize d.skip s=d1 at *
  simp only[K2]at htk hsk
  refine JI Tryz.func178 Tryz.ntmps178 ?_
  refine JV q9 ?_
  refine JO (Im [((0,0),(0,0))] [((0,0),(0,0))] hsk) q9 ?_
  refine JV q9 ?_
  refine JO (Im [((0,0),(0,0))] [((0,0),(0,0))] htk) q9 ?_
  refine JV q9 ?_
  exact JJ (JN [((0,0),(0,0)),((8,1),(8,1)),((1,0),(1,0)),((4,0),(1,1)),((2,0),(2,0)),((3,0),(3,0))] []) Tryz.results178 hn
 |false =>
  unfold DS.take at htk
  rw[hi]at htk
  simp only[Bool.false_eq_true,if_false]at htk ⊢
  obtain⟨R,hR⟩:∃R,DS.listGo s (Jg rd) 93 (s.size+1) (d.skip s) []=R:=⟨_,rfl⟩
  rw[hR]
  generalize d.skip s=d1 at *
  simp only[K2]at htk hsk
  (refine AC.intro_spx [(0,0),(8,1),(1,0),(2,0),(3,0)] C6 Tryz.func178 rfl Tryz.ntmps178 (Nat.le_of_ble_eq_true rfl) rfl rfl ?_;simp only[go_sem,Nat.reduceAdd])
  refine JV q9 ?_
  refine JO (Im [((0,0),(0,0))] [((0,0),(0,0))] hsk) q9 ?_
  refine JV q9 ?_
  refine JO (Im [((0,0),(0,0))] [((0,0),(0,0))] htk) q9 ?_
  refine JV q9 ?_
  refine Jz (κ:=DS×List V) (fun k=>⟨mkS 0 27 [(0,.ptr (0,0) 0),(1,.c (.int .u8 93)),(2,.clo 179 [.ptr (1,0) 0,.ptr (2,0) 0,.ptr (3,0) 0])],
    [((0,0),.box [.c (.str s),.c (.int .i64 k.1.pl),.c (.int .i64 k.1.code),.c (.int .i64 k.1.bad)]),((8,1),.gen (KV o1 o2)),((1,0),.box [.own (99,0)]),((99,0),.row false 5 76 (k.2.map V.cs)),((2,0),.box [.ptr (0,0) 0]),((3,0),.box [.c (.int .i64 n)])]⟩)
   (fun k=>k.1.pl≤s.size∧k.2.length+L3 k.1≤k.1.pl+1∧∃m,s.size-k.1.pl+L3 k.1<m+1∧DS.listGo s (Jg rd) 93 m k.1 k.2=R) (fun k=>s.size-k.1.pl+L3 k.1) (d1,[]) ⟨p2,by dsimp only;unfold L3;split<;>simp,s.size+1,by dsimp only;unfold L3;split<;>omega,hR⟩ ?_ ?_
  ·exact JQ (F7.of [((0,0),(0,0)),((8,1),(8,1)),((1,0),(1,0)),((99,0),(1,1)),((2,0),(2,0)),((3,0),(3,0))] []) @List.map_nil.{0,0}
  ·rintro⟨q,kids⟩ ⟨hq,hkl,m,hm,hgo⟩
   dsimp only at hq hkl hm hgo ⊢
   by_cases hc:q.code=0
   ·have hcc:(q.code==0)=true:=by simpa using hc
    have hf1:L3 q=1:=by unfold L3;rw[if_pos hc]
    rw[hf1]at hkl hm
    obtain⟨m,rfl⟩:∃m',m=m'+1:=⟨m-1,by omega⟩
    unfold DS.listGo Jg at hgo
    rw[if_neg (by simpa using hc)]at hgo
    simp only at hgo
    have hvq:=hv q hq
    obtain⟨v1,v2⟩:=hpl q hq
    have hp:=a1x s q (rd q).2 kids (rd q).1 n hn (by omega) hvq
    have hsk2:=LN s hs' (rd q).2 v2
    obtain⟨k1,k2⟩:=L0 (s:=s) v2
    have htk2:=Mb s hs' ((rd q).2.skip s) k2 93 (by decide)
    unfold DS.take at htk2
    cases hi2:((rd q).2.skip s).is s 93 with
    |true =>
     rw[hi2]at hgo htk2
     simp only[if_true]at hgo htk2
     subst hgo
     simp only[K2]at htk2 hsk2
     generalize ((rd q).2.skip s).go (((rd q).2.skip s).pl+1)=q3 at *
     generalize (rd q).2.skip s=q2 at *
     refine JV hcc ?_
     refine JO (Im [((0,0),(0,0)),((8,1),(8,1)),((1,0),(1,0)),((1,1),(99,0)),((2,0),(2,0)),((3,0),(3,0))] [((0,0),(0,0)),((8,1),(8,1)),((1,0),(1,0)),((4,0),(17,0)),((2,0),(2,0)),((3,0),(3,0))] hp) q9 ?_
     refine JV q9 ?_
     refine JO (Im [((0,0),(0,0))] [((0,0),(0,0))] hsk2) q9 ?_
     refine JV q9 ?_
     refine JO (Im [((0,0),(0,0))] [((0,0),(0,0))] htk2) q9 ?_
     refine JV q9 ?_
     exact JJ (JN [((0,0),(0,0)),((8,1),(8,1)),((1,0),(1,0)),((4,0),(17,0)),((2,0),(2,0)),((3,0),(3,0))] []) Tryz.results178 hn
    |false =>
     rw[hi2]at hgo htk2
     simp only[Bool.false_eq_true,if_false]at hgo htk2
     have hwa:=Q6 s hs' ((rd q).2.skip s) k2 44 (by decide)
     obtain⟨w1,w2,w3⟩:=Nb (s:=s) (d:=(rd q).2.skip s) (b:=44) (by decide) k2
     have hwn:=Uq (s:=s) (d:=(rd q).2.skip s) (b:=44) (by decide)
     have hsk3:=LN s hs' (((rd q).2.skip s).want s 44) w2
     obtain⟨j1,j2⟩:=L0 (s:=s) w2
     have hcd:=Kd (s:=s) (((rd q).2.skip s).want s 44)
     obtain⟨q4,hq4⟩:∃q4,(((rd q).2.skip s).want s 44).skip s=q4:=⟨_,rfl⟩
     rw[hq4]at hgo hsk3 j1 j2 hcd
     obtain⟨q3,hq3⟩:∃q3,((rd q).2.skip s).want s 44=q3:=⟨_,rfl⟩
     rw[hq3]at hwa w1 w2 w3 hwn hsk3 j1 hcd
     simp only[K2]at htk2 hsk2 hwa hsk3
     have hmm:(q4.code=0→q.pl+1≤q4.pl):=fun h=>by
      have:=hwn (by rw[←hcd];exact h)
      omega
     have hfl:L3 q4=1∧q4.code=0∨L3 q4=0:=by
      unfold L3
      by_cases h:q4.code=0
      ·exact .inl ⟨if_pos h,h⟩
      ·exact .inr (if_neg h)
     have hmes:s.size-q4.pl+L3 q4<s.size-q.pl+1∧s.size-q4.pl+L3 q4<m+1∧kids.length+1+L3 q4≤q4.pl+1:=by
      rcases hfl with⟨h1,h2⟩ | h1
      ·have:=hmm h2;omega
      ·omega
     refine JV hcc ?_
     refine JO (Im [((0,0),(0,0)),((8,1),(8,1)),((1,0),(1,0)),((1,1),(99,0)),((2,0),(2,0)),((3,0),(3,0))] [((0,0),(0,0)),((8,1),(8,1)),((1,0),(1,0)),((4,0),(17,0)),((2,0),(2,0)),((3,0),(3,0))] hp) q9 ?_
     refine JV q9 ?_
     refine JO (Im [((0,0),(0,0))] [((0,0),(0,0))] hsk2) q9 ?_
     refine JV q9 ?_
     refine JO (Im [((0,0),(0,0))] [((0,0),(0,0))] htk2) q9 ?_
     refine JV q9 ?_
     refine JO (Im [((0,0),(0,0))] [((0,0),(0,0))] hwa) q9 ?_
     refine JV q9 ?_
     refine JO (Im [((0,0),(0,0))] [((0,0),(0,0))] hsk3) q9 ?_
     refine JV q9 ?_
     refine⟨(q4,kids++[(rd q).1]),by dsimp only;rw[hf1];exact hmes.1,⟨j2,by dsimp only;rw[List.length_append];exact hmes.2.2,m,hmes.2.1,hgo⟩,?_⟩
     exact JQ (F7.of [((0,0),(0,0)),((8,1),(8,1)),((1,0),(1,0)),((99,0),(17,0)),((2,0),(2,0)),((3,0),(3,0))] []) hn
   ·have hcc:(q.code==0)=false:=by simpa using hc
    rw[Mn hc]at hgo
    subst hgo
    refine JV hcc ?_
    exact JJ (JN [((0,0),(0,0)),((8,1),(8,1)),((1,0),(1,0)),((4,0),(99,0)),((2,0),(2,0)),((3,0),(3,0))] []) Tryz.results178 hn
end
section
open Go.RowKit
set_option maxRecDepth 10000
variable {o1 o2:Obj}
theorem Q0 {s:ByteArray}:∀(n:Nat) (d:DS) (out:ByteArray),d.pl≤s.size→d.pl≤(d.strGo s n out).2.pl∧(d.strGo s n out).2.pl≤s.size
 | 0,d,out,h=>⟨Nat.le_refl _,h⟩
 |n+1,d,out,h=>by
  unfold DS.strGo
  split
  ·exact⟨Nat.le_refl _,h⟩
  split
  ·rename_i hi
   obtain⟨h1,_,_⟩:=TO (by decide) hi
   exact⟨Nat.le_succ _,h1⟩
  split
  ·obtain⟨g1,g2⟩:=Q0 n (d.fail 5 d.pl) out (by rw[Lm];exact h)
   rw[Lm]at g1
   exact⟨g1,g2⟩
  rename_i hlt
  have hlt:d.pl<s.size:=by omega
  split
  ·obtain⟨_,e2,e3⟩:=YB (s:=s) (d.go (d.pl+1)) hlt
   obtain⟨g1,g2⟩:=Q0 n ((d.go (d.pl+1)).escape s).2 (out++Je ((d.go (d.pl+1)).escape s).1) e3
   rw[S4]at e2
   exact⟨by omega,g2⟩
  ·obtain⟨g1,g2⟩:=Q0 n (d.go (d.pl+1)) (out++Je (bAt s d.pl)) hlt
   rw[S4]at g1
   exact⟨by omega,g2⟩
theorem Vj {s:ByteArray}(d:DS) (h:d.pl≤s.size):d.pl≤(d.str s).2.pl∧(d.str s).2.pl≤s.size:=by
 obtain⟨w1,w2,_⟩:=Nb (s:=s) (d:=d) (b:=34) (by decide) h
 obtain⟨g1,g2⟩:=Q0 (s.size+2) (d.want s 34) ByteArray.empty w2
 unfold DS.str
 simp only
 split
 ·rw[Lm];exact⟨by omega,g2⟩
 ·exact⟨by omega,g2⟩
theorem a09 (s:ByteArray) (hs:s.size≤100000) (rd:DS→V×DS) (n:Nat) (hn:n≤100) (hpl:∀d,d.pl≤s.size→d.pl≤(rd d).2.pl∧(rd d).2.pl≤s.size)
  (hv:∀d,d.pl≤s.size→AC Tryz.prog 117 [.ptr (0,0) 0,.c (.int .i64 ((n+1:Nat):Int))] (dsE o1 o2 s d) (rd d).1.av (dsE o1 o2 s (rd d).2)) (d:DS) (hd:d.pl≤s.size) (hd1:1≤d.pl) :
  AC Tryz.prog 178 [.ptr (0,0) 0,.c (.int .u8 125),.clo 180 [.ptr (1,0) 0,.ptr (2,0) 0,.ptr (5,0) 0,.ptr (3,0) 0]] (a6e o1 o2 s d [] [] n) (.tup []) (a4v o1 o2 s (DS.list s (JC s rd) 125 d ([],[])).1 (DS.list s (JC s rd) 125 d ([],[])).2.1 (DS.list s (JC s rd) 125 d ([],[])).2.2 n):=by
 have hs':s.size≤1000000:=by omega
 have hsk:=LN s hs' d hd
 obtain⟨p1,p2⟩:=L0 (s:=s) hd
 have htk:=Mb s hs' (d.skip s) p2 125 (by decide)
 unfold DS.list
 cases hi:(d.skip s).is s 125 with
 |true =>
  unfold DS.take at htk
  rw[hi]at htk
  simp only[if_true]at htk ⊢
  generalize (d.skip s).go ((d.skip s).pl+1)=d2 at *
  generalize d.skip s=d1 at *
  simp only[K2]at htk hsk
  refine JI Tryz.func178 Tryz.ntmps178 ?_
  refine JV q9 ?_
  refine JO (Im [((0,0),(0,0))] [((0,0),(0,0))] hsk) q9 ?_
  refine JV q9 ?_
  refine JO (Im [((0,0),(0,0))] [((0,0),(0,0))] htk) q9 ?_
  refine JV q9 ?_
  exact JJ (JN [((0,0),(0,0)),((8,1),(8,1)),((1,0),(1,0)),((4,0),(1,1)),((5,0),(5,0)),((6,0),(5,1)),((2,0),(2,0)),((3,0),(3,0))] []) Tryz.results178 hn
 |false =>
  unfold DS.take at htk
  rw[hi]at htk
  simp only[Bool.false_eq_true,if_false]at htk ⊢
  obtain⟨R,hR⟩:∃R,DS.listGo s (JC s rd) 125 (s.size+1) (d.skip s) ([],[])=R:=⟨_,rfl⟩
  rw[hR]
  generalize d.skip s=d1 at *
  simp only[K2]at htk hsk
  (refine AC.intro_spx [(0,0),(8,1),(1,0),(5,0),(2,0),(3,0)] C6 Tryz.func178 rfl Tryz.ntmps178 (Nat.le_of_ble_eq_true rfl) rfl rfl ?_;simp only[go_sem,Nat.reduceAdd])
  refine JV q9 ?_
  refine JO (Im [((0,0),(0,0))] [((0,0),(0,0))] hsk) q9 ?_
  refine JV q9 ?_
  refine JO (Im [((0,0),(0,0))] [((0,0),(0,0))] htk) q9 ?_
  refine JV q9 ?_
  refine Jz (κ:=DS×List ByteArray×List V) (fun k=>⟨mkS 0 27 [(0,.ptr (0,0) 0),(1,.c (.int .u8 125)),(2,.clo 180 [.ptr (1,0) 0,.ptr (2,0) 0,.ptr (5,0) 0,.ptr (3,0) 0])],
    [((0,0),.box [.c (.str s),.c (.int .i64 k.1.pl),.c (.int .i64 k.1.code),.c (.int .i64 k.1.bad)]),((8,1),.gen (KV o1 o2)),((1,0),.box [.own (99,0)]),((99,0),.row false 1 9 (k.2.1.map CX)),((5,0),.box [.own (99,1)]),((99,1),.row false 5 76 (k.2.2.map V.cs)),((2,0),.box [.ptr (0,0) 0]),((3,0),.box [.c (.int .i64 n)])]⟩)
   (fun k=>k.1.pl≤s.size∧k.2.1.length=k.2.2.length∧k.2.2.length+L3 k.1≤k.1.pl+1∧∃m,s.size-k.1.pl+L3 k.1<m+1∧DS.listGo s (JC s rd) 125 m k.1 k.2=R) (fun k=>s.size-k.1.pl+L3 k.1) (d1,[],[]) ⟨p2,rfl,by dsimp only;unfold L3;split<;>simp,s.size+1,by dsimp only;unfold L3;split<;>omega,hR⟩ ?_ ?_
  ·exact JQ (F7.of [((0,0),(0,0)),((8,1),(8,1)),((1,0),(1,0)),((99,0),(1,1)),((5,0),(5,0)),((99,1),(5,1)),((2,0),(2,0)),((3,0),(3,0))] []) @List.map_nil.{0,0}
  ·rintro⟨q,keys,kids⟩ ⟨hq,hkk,hkl,m,hm,hgo⟩
   dsimp only at hq hkk hkl hm hgo ⊢
   by_cases hc:q.code=0
   ·have hcc:(q.code==0)=true:=by simpa using hc
    have hf1:L3 q=1:=by unfold L3;rw[if_pos hc]
    rw[hf1]at hkl hm
    obtain⟨m,rfl⟩:∃m',m=m'+1:=⟨m-1,by omega⟩
    unfold DS.listGo JC at hgo
    rw[if_neg (by simpa using hc)]at hgo
    simp only at hgo
    obtain⟨s1,s2⟩:=Vj q hq
    obtain⟨a1,a2⟩:=L0 (s:=s) s2
    obtain⟨a3,a4,_⟩:=Nb (s:=s) (d:=(q.str s).2.skip s) (b:=58) (by decide) a2
    obtain⟨q5,hq5⟩:∃q5,((q.str s).2.skip s).want s 58=q5:=⟨_,rfl⟩
    have hvq:=hv q5 (by rw[←hq5];exact a4)
    obtain⟨v1,v2⟩:=hpl q5 (by rw[←hq5];exact a4)
    have hpl5:q.pl≤q5.pl:=by rw[←hq5];omega
    have hp:=a1y s hs q (rd q5).2 hq s2 keys kids (rd q5).1 n hn (by omega) (by omega) (by rw[hq5];exact hvq)
    rw[hq5]at hgo
    generalize (q.str s).1=key at *
    have hsk2:=LN s hs' (rd q5).2 v2
    obtain⟨k1,k2⟩:=L0 (s:=s) v2
    have htk2:=Mb s hs' ((rd q5).2.skip s) k2 125 (by decide)
    unfold DS.take at htk2
    cases hi2:((rd q5).2.skip s).is s 125 with
    |true =>
     rw[hi2]at hgo htk2
     simp only[if_true]at hgo htk2
     subst hgo
     simp only[K2]at htk2 hsk2
     generalize ((rd q5).2.skip s).go (((rd q5).2.skip s).pl+1)=q3 at *
     generalize (rd q5).2.skip s=q2 at *
     refine JV hcc ?_
     refine JO (Im [((0,0),(0,0)),((8,1),(8,1)),((1,0),(1,0)),((1,1),(99,0)),((5,0),(5,0)),((5,1),(99,1)),((2,0),(2,0)),((3,0),(3,0))] [((0,0),(0,0)),((8,1),(8,1)),((1,0),(1,0)),((4,0),(17,0)),((5,0),(5,0)),((6,0),(17,1)),((2,0),(2,0)),((3,0),(3,0))] hp) q9 ?_
     refine JV q9 ?_
     refine JO (Im [((0,0),(0,0))] [((0,0),(0,0))] hsk2) q9 ?_
     refine JV q9 ?_
     refine JO (Im [((0,0),(0,0))] [((0,0),(0,0))] htk2) q9 ?_
     refine JV q9 ?_
     exact JJ (JN [((0,0),(0,0)),((8,1),(8,1)),((1,0),(1,0)),((4,0),(17,0)),((5,0),(5,0)),((6,0),(17,1)),((2,0),(2,0)),((3,0),(3,0))] []) Tryz.results178 hn
    |false =>
     rw[hi2]at hgo htk2
     simp only[Bool.false_eq_true,if_false]at hgo htk2
     have hwa:=Q6 s hs' ((rd q5).2.skip s) k2 44 (by decide)
     obtain⟨w1,w2,w3⟩:=Nb (s:=s) (d:=(rd q5).2.skip s) (b:=44) (by decide) k2
     have hwn:=Uq (s:=s) (d:=(rd q5).2.skip s) (b:=44) (by decide)
     have hsk3:=LN s hs' (((rd q5).2.skip s).want s 44) w2
     obtain⟨j1,j2⟩:=L0 (s:=s) w2
     have hcd:=Kd (s:=s) (((rd q5).2.skip s).want s 44)
     obtain⟨q4,hq4⟩:∃q4,(((rd q5).2.skip s).want s 44).skip s=q4:=⟨_,rfl⟩
     rw[hq4]at hgo hsk3 j1 j2 hcd
     obtain⟨q3,hq3⟩:∃q3,((rd q5).2.skip s).want s 44=q3:=⟨_,rfl⟩
     rw[hq3]at hwa w1 w2 w3 hwn hsk3 j1 hcd
     simp only[K2]at htk2 hsk2 hwa hsk3
     have hmm:(q4.code=0→q.pl+1≤q4.pl):=fun h=>by
      have:=hwn (by rw[←hcd];exact h)
      omega
     have hfl:L3 q4=1∧q4.code=0∨L3 q4=0:=by
      unfold L3
      by_cases h:q4.code=0
      ·exact .inl ⟨if_pos h,h⟩
      ·exact .inr (if_neg h)
     have hmes:s.size-q4.pl+L3 q4<s.size-q.pl+1∧s.size-q4.pl+L3 q4<m+1∧kids.length+1+L3 q4≤q4.pl+1:=by
      rcases hfl with⟨h1,h2⟩ | h1
      ·have:=hmm h2;omega
      ·omega
     refine JV hcc ?_
     refine JO (Im [((0,0),(0,0)),((8,1),(8,1)),((1,0),(1,0)),((1,1),(99,0)),((5,0),(5,0)),((5,1),(99,1)),((2,0),(2,0)),((3,0),(3,0))] [((0,0),(0,0)),((8,1),(8,1)),((1,0),(1,0)),((4,0),(17,0)),((5,0),(5,0)),((6,0),(17,1)),((2,0),(2,0)),((3,0),(3,0))] hp) q9 ?_
     refine JV q9 ?_
     refine JO (Im [((0,0),(0,0))] [((0,0),(0,0))] hsk2) q9 ?_
     refine JV q9 ?_
     refine JO (Im [((0,0),(0,0))] [((0,0),(0,0))] htk2) q9 ?_
     refine JV q9 ?_
     refine JO (Im [((0,0),(0,0))] [((0,0),(0,0))] hwa) q9 ?_
     refine JV q9 ?_
     refine JO (Im [((0,0),(0,0))] [((0,0),(0,0))] hsk3) q9 ?_
     refine JV q9 ?_
     refine⟨(q4,keys++[key],kids++[(rd q5).1]),by dsimp only;rw[hf1];exact hmes.1,⟨j2,by simp[hkk],by dsimp only;rw[List.length_append];exact hmes.2.2,m,hmes.2.1,hgo⟩,?_⟩
     exact JQ (F7.of [((0,0),(0,0)),((8,1),(8,1)),((1,0),(1,0)),((99,0),(17,0)),((5,0),(5,0)),((99,1),(17,1)),((2,0),(2,0)),((3,0),(3,0))] []) hn
   ·have hcc:(q.code==0)=false:=by simpa using hc
    rw[Mn hc]at hgo
    subst hgo
    refine JV hcc ?_
    exact JJ (JN [((0,0),(0,0)),((8,1),(8,1)),((1,0),(1,0)),((4,0),(99,0)),((5,0),(5,0)),((6,0),(99,1)),((2,0),(2,0)),((3,0),(3,0))] []) Tryz.results178 hn
end
end Go.Proofs.YtllfmaflodbieaaGreatDoor
