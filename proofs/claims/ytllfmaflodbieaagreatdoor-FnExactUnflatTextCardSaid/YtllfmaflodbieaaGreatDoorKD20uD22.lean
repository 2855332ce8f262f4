/- Texts of this proof: D20 D21 G69 D22. -/
import Derived.Test.YtllfmaflodbieaaGreatDoorKD19uE41
import Derived.Lib.AppendZerosOnto
set_option linter.all false
set_option maxHeartbeats 8000000
namespace Go.Proofs.YtllfmaflodbieaaGreatDoor
section
open Go.RowKit
set_option maxRecDepth 10000
variable {o1 o2:Obj}
abbrev Z3 (o1 o2:Obj) (s:ByteArray) (d:DS) (kids:List V) (deep:Int):Mem:=[((0,0),.box [.c (.str s),.c (.int .i64 d.pl),.c (.int .i64 d.code),.c (.int .i64 d.bad)]),((8,1),.gen (Cf o1 o2)),((1,0),.box [.own (1,1)]),((1,1),.row false 5 76 (kids.map V.cs)),((2,0),.box [.ptr (0,0) 0]),((3,0),.box [.c (.int .i64 deep)])]
abbrev XO (o1 o2:Obj) (s:ByteArray) (d:DS) (kids:List V) (deep:Int):Mem:=[((0,0),.box [.c (.str s),.c (.int .i64 d.pl),.c (.int .i64 d.code),.c (.int .i64 d.bad)]),((8,1),.gen (Cf o1 o2)),((1,0),.box [.own (4,0)]),((4,0),.row false 5 76 (kids.map V.cs)),((2,0),.box [.ptr (0,0) 0]),((3,0),.box [.c (.int .i64 deep)])]
theorem QJ (kids:List V) (v:V):(kids.map V.cs++[[C.int .i64 0,.int .i64 0,.str ByteArray.empty,.sl [],.sl []]]).set kids.length [.int .i64 v.kind,.int .i64 v.num,.str v.text,.sl (v.keys.map Ab),.sl (v.kids.map V.cs)]=(kids++[v]).map V.cs:=by
 have hl:(kids.map V.cs).length=kids.length:=by simp
 rw[←hl,List.map_append,List.set_append,if_neg (Nat.lt_irrefl _),Nat.sub_self,List.set_cons_zero,List.map_cons,List.map_nil,V.cs_eq]
theorem T5 (kids:List V):Aj (kids.map V.cs++[[C.int .i64 0,.int .i64 0,.str ByteArray.empty,.sl [],.sl []]]) 5 (kids.length:Nat)=true∧(kids.map V.cs++[[C.int .i64 0,.int .i64 0,.str ByteArray.empty,.sl [],.sl []]])[kids.length]? = some [C.int .i64 0,.int .i64 0,.str ByteArray.empty,.sl [],.sl []]:=by
 have h:(kids.map V.cs++[[C.int .i64 0,.int .i64 0,.str ByteArray.empty,.sl [],.sl []]])[kids.length]? = some [C.int .i64 0,.int .i64 0,.str ByteArray.empty,.sl [],.sl []]:=by
  rw[List.getElem?_append_right (by simp)]
  simp
 refine⟨?_,h⟩
 unfold Aj
 rw[Int.toNat_natCast,h]
 simp
theorem Vh (s:ByteArray) (d d2:DS) (kids:List V) (v:V) (n:Nat) (hn:n≤100) (hl:kids.length≤900000) (hv:AC Tryz.prog 117 [.ptr (0,0) 0,.c (.int .i64 ((n+1:Nat):Int))] (dsE o1 o2 s d) v.av (dsE o1 o2 s d2)) :
  AC Tryz.prog 179 [.ptr (1,0) 0,.ptr (2,0) 0,.ptr (3,0) 0] (Z3 o1 o2 s d kids n) (.tup []) (XO o1 o2 s d2 (kids++[v]) n):=by
 have hw:=Ae (k:=n) (by omega)
 have hol:kids.length+1≤1000000:=by omega
 have hrow:=QJ kids v
 obtain⟨hr,hg⟩:=T5 kids
 simp only[Bg]at hv
 refine A6 Tryz.func179 Tryz.ntmps179 ?_
 refine A0 hw ?_
 refine Jj (Dr [] [((0,0),(0,0)),((8,1),(8,1))] [((0,0),(0,0)),((8,1),(8,1))] hv) trivial ?_
 refine A0 (j4 hol hr hg hrow) ?_
 exact A9 (A8 [((0,0),(0,0)),((8,1),(8,1)),((1,0),(1,0)),((4,0),(10,0)),((2,0),(2,0)),((3,0),(3,0))] []) Tryz.results179 hrow
abbrev Z1 (o1 o2:Obj) (s:ByteArray) (d:DS) (keys:List ByteArray) (kids:List V) (deep:Int):Mem:=[((0,0),.box [.c (.str s),.c (.int .i64 d.pl),.c (.int .i64 d.code),.c (.int .i64 d.bad)]),((8,1),.gen (Cf o1 o2)),((1,0),.box [.own (1,1)]),((1,1),.row false 1 9 (keys.map Ab)),((5,0),.box [.own (5,1)]),((5,1),.row false 5 76 (kids.map V.cs)),((2,0),.box [.ptr (0,0) 0]),((3,0),.box [.c (.int .i64 deep)])]
abbrev XR (o1 o2:Obj) (s:ByteArray) (d:DS) (keys:List ByteArray) (kids:List V) (deep:Int):Mem:=[((0,0),.box [.c (.str s),.c (.int .i64 d.pl),.c (.int .i64 d.code),.c (.int .i64 d.bad)]),((8,1),.gen (Cf o1 o2)),((1,0),.box [.own (4,0)]),((4,0),.row false 1 9 (keys.map Ab)),((5,0),.box [.own (6,0)]),((6,0),.row false 5 76 (kids.map V.cs)),((2,0),.box [.ptr (0,0) 0]),((3,0),.box [.c (.int .i64 deep)])]
theorem VB (s:ByteArray) (hs:s.size≤100000) (d d2:DS) (hd:d.pl≤s.size) (hd3:(d.str s).2.pl≤s.size) (keys:List ByteArray) (kids:List V) (v:V) (n:Nat) (hn:n≤100) (hl:kids.length≤900000) (hkk:keys.length≤900000)
  (hv:AC Tryz.prog 117 [.ptr (0,0) 0,.c (.int .i64 ((n+1:Nat):Int))] (dsE o1 o2 s (((d.str s).2.skip s).want s 58)) v.av (dsE o1 o2 s d2)) :
  AC Tryz.prog 180 [.ptr (1,0) 0,.ptr (2,0) 0,.ptr (5,0) 0,.ptr (3,0) 0] (Z1 o1 o2 s d keys kids n) (.tup []) (XR o1 o2 s d2 (keys++[(d.str s).1]) (kids++[v]) n):=by
 have hs':s.size≤1000000:=by omega
 have hw:=Ae (k:=n) (by omega)
 have hol:kids.length+1≤1000000:=by omega
 have holk:keys.length+1≤1000000:=by omega
 have hrow:=QJ kids v
 obtain⟨hr,hg⟩:=T5 kids
 have hst:=T3 (o1:=o1) (o2:=o2) s hs d hd
 have hsk:=Em s hs' (d.str s).2 hd3
 have hwa:=I9 s hs' ((d.str s).2.skip s) (Cc hd3).2 58 (by decide)
 have hrowk:(keys++[(d.str s).1]).map Ab=keys.map Ab++[[.str (d.str s).1]]:=by rw[List.map_append];rfl
 generalize (d.str s).1=key at *
 generalize (d.str s).2=d3 at *
 generalize (d3.skip s).want s 58=d5 at *
 generalize d3.skip s=d4 at *
 simp only[Au,Bg]at hv hst hsk hwa
 refine A6 Tryz.func180 Tryz.ntmps180 ?_
 refine A0 trivial ?_
 refine Ah (A4 [((0,0),(0,0)),((8,1),(8,1))] [((0,0),(0,0)),((8,1),(8,1))] hst) trivial ?_
 refine A0 holk ?_
 refine Ah (A4 [((0,0),(0,0))] [((0,0),(0,0))] hsk) trivial ?_
 refine A0 trivial ?_
 refine Ah (A4 [((0,0),(0,0))] [((0,0),(0,0))] hwa) trivial ?_
 refine A0 hw ?_
 refine Jj (Dr [] [((0,0),(0,0)),((8,1),(8,1))] [((0,0),(0,0)),((8,1),(8,1))] hv) trivial ?_
 refine A0 (j4 hol hr hg hrow) ?_
 exact A9 (A8 [((0,0),(0,0)),((8,1),(8,1)),((1,0),(1,0)),((4,0),(8,0)),((5,0),(5,0)),((6,0),(20,0)),((2,0),(2,0)),((3,0),(3,0))] []) Tryz.results180 (j2 hrow hrowk)
theorem MV {s:ByteArray}{d:DS}{b:Nat}(hb:b<256) (h:(d.want s b).code=0):(d.want s b).pl=d.pl+1:=by
 unfold DS.want at h ⊢
 cases hi:d.is s b with
 |true=>simp only[if_true];rfl
 |false =>
  rw[hi]at h
  simp only[Bool.false_eq_true,if_false]at h
  unfold DS.fail at h
  split at h
  ·exact absurd h (by show ¬((5:Int)=0);decide)
  ·rename_i h2;exact absurd h h2
def Cl (d:DS):Nat:=if d.code=0 then 1 else 0
theorem V9 (s:ByteArray) (hs:s.size≤100000) (rd:DS→V×DS) (n:Nat) (hn:n≤100) (hpl:∀d,d.pl≤s.size→d.pl≤(rd d).2.pl∧(rd d).2.pl≤s.size)
  (hv:∀d,d.pl≤s.size→AC Tryz.prog 117 [.ptr (0,0) 0,.c (.int .i64 ((n+1:Nat):Int))] (dsE o1 o2 s d) (rd d).1.av (dsE o1 o2 s (rd d).2)) (d:DS) (hd:d.pl≤s.size) (hd1:1≤d.pl) :
  AC Tryz.prog 178 [.ptr (0,0) 0,.c (.int .u8 93),.clo 179 [.ptr (1,0) 0,.ptr (2,0) 0,.ptr (3,0) 0]] (Z3 o1 o2 s d [] n) (.tup []) (XO o1 o2 s (DS.list s (Di rd) 93 d []).1 (DS.list s (Di rd) 93 d []).2 n):=by
 have hs':s.size≤1000000:=by omega
 have hsk:=Em s hs' d hd
 obtain⟨p1,p2⟩:=Cc (s:=s) hd
 have htk:=Dn s hs' (d.skip s) p2 93 (by decide)
 unfold DS.list
 cases hi:(d.skip s).is s 93 with
 |true =>
  unfold DS.take at htk
  rw[hi]at htk
  simp only[if_true]at htk ⊢
  generalize (d.skip s).go ((d.skip s).pl+1)=d2 at *
  generalize d.skip s=d1 at *
  simp only[Au]at htk hsk
  refine A6 Tryz.func178 Tryz.ntmps178 ?_
  refine A0 trivial ?_
  refine Ah (A4 [((0,0),(0,0))] [((0,0),(0,0))] hsk) trivial ?_
  refine A0 trivial ?_
  refine Ah (A4 [((0,0),(0,0))] [((0,0),(0,0))] htk) trivial ?_
  refine A0 trivial ?_
  exact A9 (A8 [((0,0),(0,0)),((8,1),(8,1)),((1,0),(1,0)),((4,0),(1,1)),((2,0),(2,0)),((3,0),(3,0))] []) Tryz.results178 hn
 |false =>
  unfold DS.take at htk
  rw[hi]at htk
  simp only[Bool.false_eq_true,if_false]at htk ⊢
  obtain⟨R,hR⟩:∃R,DS.listGo s (Di rd) 93 (s.size+1) (d.skip s) []=R:=⟨_,rfl⟩
  rw[hR]
  generalize d.skip s=d1 at *
  simp only[Au]at htk hsk
  (refine AC.intro_spx [(0,0),(8,1),(1,0),(2,0),(3,0)] Bk Tryz.func178 rfl Tryz.ntmps178 (Nat.le_of_ble_eq_true rfl) rfl rfl ?_;simp only[go_sem,Nat.reduceAdd])
  refine A0 trivial ?_
  refine Ah (A4 [((0,0),(0,0))] [((0,0),(0,0))] hsk) trivial ?_
  refine A0 trivial ?_
  refine Ah (A4 [((0,0),(0,0))] [((0,0),(0,0))] htk) trivial ?_
  refine A0 trivial ?_
  refine AG (κ:=DS×List V) (fun k=>⟨mkS 0 27 [(0,.ptr (0,0) 0),(1,.c (.int .u8 93)),(2,.clo 179 [.ptr (1,0) 0,.ptr (2,0) 0,.ptr (3,0) 0])],
    [((0,0),.box [.c (.str s),.c (.int .i64 k.1.pl),.c (.int .i64 k.1.code),.c (.int .i64 k.1.bad)]),((8,1),.gen (Cf o1 o2)),((1,0),.box [.own (99,0)]),((99,0),.row false 5 76 (k.2.map V.cs)),((2,0),.box [.ptr (0,0) 0]),((3,0),.box [.c (.int .i64 n)])]⟩)
   (fun k=>k.1.pl≤s.size∧k.2.length+Cl k.1≤k.1.pl+1∧∃m,s.size-k.1.pl+Cl k.1<m+1∧DS.listGo s (Di rd) 93 m k.1 k.2=R) (fun k=>s.size-k.1.pl+Cl k.1) (d1,[]) ⟨p2,by dsimp only;unfold Cl;split<;>simp,s.size+1,by dsimp only;unfold Cl;split<;>omega,hR⟩ ?_ ?_
  ·exact Aq (As.of [((0,0),(0,0)),((8,1),(8,1)),((1,0),(1,0)),((99,0),(1,1)),((2,0),(2,0)),((3,0),(3,0))] []) @List.map_nil.{0,0}
  ·rintro⟨q,kids⟩ ⟨hq,hkl,m,hm,hgo⟩
   dsimp only at hq hkl hm hgo ⊢
   by_cases hc:q.code=0
   ·have hcc:(q.code==0)=true:=by simpa using hc
    have hf1:Cl q=1:=by unfold Cl;rw[if_pos hc]
    rw[hf1]at hkl hm
    obtain⟨m,rfl⟩:∃m',m=m'+1:=⟨m-1,by omega⟩
    unfold DS.listGo Di at hgo
    rw[if_neg (by simpa using hc)]at hgo
    simp only at hgo
    have hvq:=hv q hq
    obtain⟨v1,v2⟩:=hpl q hq
    have hp:=Vh s q (rd q).2 kids (rd q).1 n hn (by omega) hvq
    have hsk2:=Em s hs' (rd q).2 v2
    obtain⟨k1,k2⟩:=Cc (s:=s) v2
    have htk2:=Dn s hs' ((rd q).2.skip s) k2 93 (by decide)
    unfold DS.take at htk2
    cases hi2:((rd q).2.skip s).is s 93 with
    |true =>
     rw[hi2]at hgo htk2
     simp only[if_true]at hgo htk2
     subst hgo
     simp only[Au]at htk2 hsk2
     generalize ((rd q).2.skip s).go (((rd q).2.skip s).pl+1)=q3 at *
     generalize (rd q).2.skip s=q2 at *
     refine A0 hcc ?_
     refine Ah (A4 [((0,0),(0,0)),((8,1),(8,1)),((1,0),(1,0)),((1,1),(99,0)),((2,0),(2,0)),((3,0),(3,0))] [((0,0),(0,0)),((8,1),(8,1)),((1,0),(1,0)),((4,0),(17,0)),((2,0),(2,0)),((3,0),(3,0))] hp) trivial ?_
     refine A0 trivial ?_
     refine Ah (A4 [((0,0),(0,0))] [((0,0),(0,0))] hsk2) trivial ?_
     refine A0 trivial ?_
     refine Ah (A4 [((0,0),(0,0))] [((0,0),(0,0))] htk2) trivial ?_
     refine A0 trivial ?_
     exact A9 (A8 [((0,0),(0,0)),((8,1),(8,1)),((1,0),(1,0)),((4,0),(17,0)),((2,0),(2,0)),((3,0),(3,0))] []) Tryz.results178 hn
    |false =>
     rw[hi2]at hgo htk2
     simp only[Bool.false_eq_true,if_false]at hgo htk2
     have hwa:=I9 s hs' ((rd q).2.skip s) k2 44 (by decide)
     obtain⟨w1,w2,w3⟩:=EQ (s:=s) (d:=(rd q).2.skip s) (b:=44) (by decide) k2
     have hwn:=MV (s:=s) (d:=(rd q).2.skip s) (b:=44) (by decide)
     have hsk3:=Em s hs' (((rd q).2.skip s).want s 44) w2
     obtain⟨j1,j2⟩:=Cc (s:=s) w2
     have hcd:=B0 (s:=s) (((rd q).2.skip s).want s 44)
     obtain⟨q4,hq4⟩:∃q4,(((rd q).2.skip s).want s 44).skip s=q4:=⟨_,rfl⟩
     rw[hq4]at hgo hsk3 j1 j2 hcd
     obtain⟨q3,hq3⟩:∃q3,((rd q).2.skip s).want s 44=q3:=⟨_,rfl⟩
     rw[hq3]at hwa w1 w2 w3 hwn hsk3 j1 hcd
     simp only[Au]at htk2 hsk2 hwa hsk3
     have hmm:(q4.code=0→q.pl+1≤q4.pl):=fun h=>by
      have:=hwn (by rw[←hcd];exact h)
      omega
     have hfl:Cl q4=1∧q4.code=0∨Cl q4=0:=by
      unfold Cl
      by_cases h:q4.code=0
      ·exact .inl ⟨if_pos h,h⟩
      ·exact .inr (if_neg h)
     have hmes:s.size-q4.pl+Cl q4<s.size-q.pl+1∧s.size-q4.pl+Cl q4<m+1∧kids.length+1+Cl q4≤q4.pl+1:=by
      rcases hfl with⟨h1,h2⟩ | h1
      ·have:=hmm h2;omega
      ·omega
     refine A0 hcc ?_
     refine Ah (A4 [((0,0),(0,0)),((8,1),(8,1)),((1,0),(1,0)),((1,1),(99,0)),((2,0),(2,0)),((3,0),(3,0))] [((0,0),(0,0)),((8,1),(8,1)),((1,0),(1,0)),((4,0),(17,0)),((2,0),(2,0)),((3,0),(3,0))] hp) trivial ?_
     refine A0 trivial ?_
     refine Ah (A4 [((0,0),(0,0))] [((0,0),(0,0))] hsk2) trivial ?_
     refine A0 trivial ?_
     refine Ah (A4 [((0,0),(0,0))] [((0,0),(0,0))] htk2) trivial ?_
     refine A0 trivial ?_
     refine Ah (A4 [((0,0),(0,0))] [((0,0),(0,0))] hwa) trivial ?_
     refine A0 trivial ?_
     refine Ah (A4 [((0,0),(0,0))] [((0,0),(0,0))] hsk3) trivial ?_
     refine A0 trivial ?_
     refine⟨(q4,kids++[(rd q).1]),by dsimp only;rw[hf1];exact hmes.1,⟨j2,by dsimp only;rw[List.length_append];exact hmes.2.2,m,hmes.2.1,hgo⟩,?_⟩
     exact Aq (As.of [((0,0),(0,0)),((8,1),(8,1)),((1,0),(1,0)),((99,0),(17,0)),((2,0),(2,0)),((3,0),(3,0))] []) hn
   ·have hcc:(q.code==0)=false:=by simpa using hc
    rw[DO hc]at hgo
    subst hgo
    refine A0 hcc ?_
    exact A9 (A8 [((0,0),(0,0)),((8,1),(8,1)),((1,0),(1,0)),((4,0),(99,0)),((2,0),(2,0)),((3,0),(3,0))] []) Tryz.results178 hn
end
section
open Go.RowKit
set_option maxRecDepth 10000
variable {o1 o2:Obj}
theorem Iy {s:ByteArray}:∀(n:Nat) (d:DS) (out:ByteArray),d.pl≤s.size→d.pl≤(d.strGo s n out).2.pl∧(d.strGo s n out).2.pl≤s.size
 | 0,d,out,h=>⟨Nat.le_refl _,h⟩
 |n+1,d,out,h=>by
  unfold DS.strGo
  split
  ·exact⟨Nat.le_refl _,h⟩
  split
  ·rename_i hi
   obtain⟨h1,_,_⟩:=MA (by decide) hi
   exact⟨Nat.le_succ _,h1⟩
  split
  ·obtain⟨g1,g2⟩:=Iy n (d.fail 5 d.pl) out (by rw[CC];exact h)
   rw[CC]at g1
   exact⟨g1,g2⟩
  rename_i hlt
  have hlt:d.pl<s.size:=by omega
  split
  ·obtain⟨_,e2,e3⟩:=SV (s:=s) (d.go (d.pl+1)) hlt
   obtain⟨g1,g2⟩:=Iy n ((d.go (d.pl+1)).escape s).2 (out++BF ((d.go (d.pl+1)).escape s).1) e3
   rw[KM]at e2
   exact⟨by omega,g2⟩
  ·obtain⟨g1,g2⟩:=Iy n (d.go (d.pl+1)) (out++BF (bAt s d.pl)) hlt
   rw[KM]at g1
   exact⟨by omega,g2⟩
theorem Ol {s:ByteArray}(d:DS) (h:d.pl≤s.size):d.pl≤(d.str s).2.pl∧(d.str s).2.pl≤s.size:=by
 obtain⟨w1,w2,_⟩:=EQ (s:=s) (d:=d) (b:=34) (by decide) h
 obtain⟨g1,g2⟩:=Iy (s.size+2) (d.want s 34) ByteArray.empty w2
 unfold DS.str
 simp only
 split
 ·rw[CC];exact⟨by omega,g2⟩
 ·exact⟨by omega,g2⟩
theorem WF (s:ByteArray) (hs:s.size≤100000) (rd:DS→V×DS) (n:Nat) (hn:n≤100) (hpl:∀d,d.pl≤s.size→d.pl≤(rd d).2.pl∧(rd d).2.pl≤s.size)
  (hv:∀d,d.pl≤s.size→AC Tryz.prog 117 [.ptr (0,0) 0,.c (.int .i64 ((n+1:Nat):Int))] (dsE o1 o2 s d) (rd d).1.av (dsE o1 o2 s (rd d).2)) (d:DS) (hd:d.pl≤s.size) (hd1:1≤d.pl) :
  AC Tryz.prog 178 [.ptr (0,0) 0,.c (.int .u8 125),.clo 180 [.ptr (1,0) 0,.ptr (2,0) 0,.ptr (5,0) 0,.ptr (3,0) 0]] (Z1 o1 o2 s d [] [] n) (.tup []) (XR o1 o2 s (DS.list s (BT s rd) 125 d ([],[])).1 (DS.list s (BT s rd) 125 d ([],[])).2.1 (DS.list s (BT s rd) 125 d ([],[])).2.2 n):=by
 have hs':s.size≤1000000:=by omega
 have hsk:=Em s hs' d hd
 obtain⟨p1,p2⟩:=Cc (s:=s) hd
 have htk:=Dn s hs' (d.skip s) p2 125 (by decide)
 unfold DS.list
 cases hi:(d.skip s).is s 125 with
 |true =>
  unfold DS.take at htk
  rw[hi]at htk
  simp only[if_true]at htk ⊢
  generalize (d.skip s).go ((d.skip s).pl+1)=d2 at *
  generalize d.skip s=d1 at *
  simp only[Au]at htk hsk
  refine A6 Tryz.func178 Tryz.ntmps178 ?_
  refine A0 trivial ?_
  refine Ah (A4 [((0,0),(0,0))] [((0,0),(0,0))] hsk) trivial ?_
  refine A0 trivial ?_
  refine Ah (A4 [((0,0),(0,0))] [((0,0),(0,0))] htk) trivial ?_
  refine A0 trivial ?_
  exact A9 (A8 [((0,0),(0,0)),((8,1),(8,1)),((1,0),(1,0)),((4,0),(1,1)),((5,0),(5,0)),((6,0),(5,1)),((2,0),(2,0)),((3,0),(3,0))] []) Tryz.results178 hn
 |false =>
  unfold DS.take at htk
  rw[hi]at htk
  simp only[Bool.false_eq_true,if_false]at htk ⊢
  obtain⟨R,hR⟩:∃R,DS.listGo s (BT s rd) 125 (s.size+1) (d.skip s) ([],[])=R:=⟨_,rfl⟩
  rw[hR]
  generalize d.skip s=d1 at *
  simp only[Au]at htk hsk
  (refine AC.intro_spx [(0,0),(8,1),(1,0),(5,0),(2,0),(3,0)] Bk Tryz.func178 rfl Tryz.ntmps178 (Nat.le_of_ble_eq_true rfl) rfl rfl ?_;simp only[go_sem,Nat.reduceAdd])
  refine A0 trivial ?_
  refine Ah (A4 [((0,0),(0,0))] [((0,0),(0,0))] hsk) trivial ?_
  refine A0 trivial ?_
  refine Ah (A4 [((0,0),(0,0))] [((0,0),(0,0))] htk) trivial ?_
  refine A0 trivial ?_
  refine AG (κ:=DS×List ByteArray×List V) (fun k=>⟨mkS 0 27 [(0,.ptr (0,0) 0),(1,.c (.int .u8 125)),(2,.clo 180 [.ptr (1,0) 0,.ptr (2,0) 0,.ptr (5,0) 0,.ptr (3,0) 0])],
    [((0,0),.box [.c (.str s),.c (.int .i64 k.1.pl),.c (.int .i64 k.1.code),.c (.int .i64 k.1.bad)]),((8,1),.gen (Cf o1 o2)),((1,0),.box [.own (99,0)]),((99,0),.row false 1 9 (k.2.1.map Ab)),((5,0),.box [.own (99,1)]),((99,1),.row false 5 76 (k.2.2.map V.cs)),((2,0),.box [.ptr (0,0) 0]),((3,0),.box [.c (.int .i64 n)])]⟩)
   (fun k=>k.1.pl≤s.size∧k.2.1.length=k.2.2.length∧k.2.2.length+Cl k.1≤k.1.pl+1∧∃m,s.size-k.1.pl+Cl k.1<m+1∧DS.listGo s (BT s rd) 125 m k.1 k.2=R) (fun k=>s.size-k.1.pl+Cl k.1) (d1,[],[]) ⟨p2,rfl,by dsimp only;unfold Cl;split<;>simp,s.size+1,by dsimp only;unfold Cl;split<;>omega,hR⟩ ?_ ?_
  ·exact Aq (As.of [((0,0),(0,0)),((8,1),(8,1)),((1,0),(1,0)),((99,0),(1,1)),((5,0),(5,0)),((99,1),(5,1)),((2,0),(2,0)),((3,0),(3,0))] []) @List.map_nil.{0,0}
  ·rintro⟨q,keys,kids⟩ ⟨hq,hkk,hkl,m,hm,hgo⟩
   dsimp only at hq hkk hkl hm hgo ⊢
   by_cases hc:q.code=0
   ·have hcc:(q.code==0)=true:=by simpa using hc
    have hf1:Cl q=1:=by unfold Cl;rw[if_pos hc]
    rw[hf1]at hkl hm
    obtain⟨m,rfl⟩:∃m',m=m'+1:=⟨m-1,by omega⟩
    unfold DS.listGo BT at hgo
    rw[if_neg (by simpa using hc)]at hgo
    simp only at hgo
    obtain⟨s1,s2⟩:=Ol q hq
    obtain⟨a1,a2⟩:=Cc (s:=s) s2
    obtain⟨a3,a4,_⟩:=EQ (s:=s) (d:=(q.str s).2.skip s) (b:=58) (by decide) a2
    obtain⟨q5,hq5⟩:∃q5,((q.str s).2.skip s).want s 58=q5:=⟨_,rfl⟩
    have hvq:=hv q5 (by rw[←hq5];exact a4)
    obtain⟨v1,v2⟩:=hpl q5 (by rw[←hq5];exact a4)
    have hpl5:q.pl≤q5.pl:=by rw[←hq5];omega
    have hp:=VB s hs q (rd q5).2 hq s2 keys kids (rd q5).1 n hn (by omega) (by omega) (by rw[hq5];exact hvq)
    rw[hq5]at hgo
    generalize (q.str s).1=key at *
    have hsk2:=Em s hs' (rd q5).2 v2
    obtain⟨k1,k2⟩:=Cc (s:=s) v2
    have htk2:=Dn s hs' ((rd q5).2.skip s) k2 125 (by decide)
    unfold DS.take at htk2
    cases hi2:((rd q5).2.skip s).is s 125 with
    |true =>
     rw[hi2]at hgo htk2
     simp only[if_true]at hgo htk2
     subst hgo
     simp only[Au]at htk2 hsk2
     generalize ((rd q5).2.skip s).go (((rd q5).2.skip s).pl+1)=q3 at *
     generalize (rd q5).2.skip s=q2 at *
     refine A0 hcc ?_
     refine Ah (A4 [((0,0),(0,0)),((8,1),(8,1)),((1,0),(1,0)),((1,1),(99,0)),((5,0),(5,0)),((5,1),(99,1)),((2,0),(2,0)),((3,0),(3,0))] [((0,0),(0,0)),((8,1),(8,1)),((1,0),(1,0)),((4,0),(17,0)),((5,0),(5,0)),((6,0),(17,1)),((2,0),(2,0)),((3,0),(3,0))] hp) trivial ?_
     refine A0 trivial ?_
     refine Ah (A4 [((0,0),(0,0))] [((0,0),(0,0))] hsk2) trivial ?_
     refine A0 trivial ?_
     refine Ah (A4 [((0,0),(0,0))] [((0,0),(0,0))] htk2) trivial ?_
     refine A0 trivial ?_
     exact A9 (A8 [((0,0),(0,0)),((8,1),(8,1)),((1,0),(1,0)),((4,0),(17,0)),((5,0),(5,0)),((6,0),(17,1)),((2,0),(2,0)),((3,0),(3,0))] []) Tryz.results178 hn
    |false =>
     rw[hi2]at hgo htk2
     simp only[Bool.false_eq_true,if_false]at hgo htk2
     have hwa:=I9 s hs' ((rd q5).2.skip s) k2 44 (by decide)
     obtain⟨w1,w2,w3⟩:=EQ (s:=s) (d:=(rd q5).2.skip s) (b:=44) (by decide) k2
     have hwn:=MV (s:=s) (d:=(rd q5).2.skip s) (b:=44) (by decide)
     have hsk3:=Em s hs' (((rd q5).2.skip s).want s 44) w2
     obtain⟨j1,j2⟩:=Cc (s:=s) w2
     have hcd:=B0 (s:=s) (((rd q5).2.skip s).want s 44)
     obtain⟨q4,hq4⟩:∃q4,(((rd q5).2.skip s).want s 44).skip s=q4:=⟨_,rfl⟩
     rw[hq4]at hgo hsk3 j1 j2 hcd
     obtain⟨q3,hq3⟩:∃q3,((rd q5).2.skip s).want s 44=q3:=⟨_,rfl⟩
     rw[hq3]at hwa w1 w2 w3 hwn hsk3 j1 hcd
     simp only[Au]at htk2 hsk2 hwa hsk3
     have hmm:(q4.code=0→q.pl+1≤q4.pl):=fun h=>by
      have:=hwn (by rw[←hcd];exact h)
      omega
     have hfl:Cl q4=1∧q4.code=0∨Cl q4=0:=by
      unfold Cl
      by_cases h:q4.code=0
      ·exact .inl ⟨if_pos h,h⟩
      ·exact .inr (if_neg h)
     have hmes:s.size-q4.pl+Cl q4<s.size-q.pl+1∧s.size-q4.pl+Cl q4<m+1∧kids.length+1+Cl q4≤q4.pl+1:=by
      rcases hfl with⟨h1,h2⟩ | h1
      ·have:=hmm h2;omega
      ·omega
     refine A0 hcc ?_
     refine Ah (A4 [((0,0),(0,0)),((8,1),(8,1)),((1,0),(1,0)),((1,1),(99,0)),((5,0),(5,0)),((5,1),(99,1)),((2,0),(2,0)),((3,0),(3,0))] [((0,0),(0,0)),((8,1),(8,1)),((1,0),(1,0)),((4,0),(17,0)),((5,0),(5,0)),((6,0),(17,1)),((2,0),(2,0)),((3,0),(3,0))] hp) trivial ?_
     refine A0 trivial ?_
     refine Ah (A4 [((0,0),(0,0))] [((0,0),(0,0))] hsk2) trivial ?_
     refine A0 trivial ?_
     refine Ah (A4 [((0,0),(0,0))] [((0,0),(0,0))] htk2) trivial ?_
     refine A0 trivial ?_
     refine Ah (A4 [((0,0),(0,0))] [((0,0),(0,0))] hwa) trivial ?_
     refine A0 trivial ?_
     refine Ah (A4 [((0,0),(0,0))] [((0,0),(0,0))] hsk3) trivial ?_
     refine A0 trivial ?_
     refine⟨(q4,keys++[key],kids++[(rd q5).1]),by dsimp only;rw[hf1];exact hmes.1,⟨j2,by simp[hkk],by dsimp only;rw[List.length_append];exact hmes.2.2,m,hmes.2.1,hgo⟩,?_⟩
     exact Aq (As.of [((0,0),(0,0)),((8,1),(8,1)),((1,0),(1,0)),((99,0),(17,0)),((5,0),(5,0)),((99,1),(17,1)),((2,0),(2,0)),((3,0),(3,0))] []) hn
   ·have hcc:(q.code==0)=false:=by simpa using hc
    rw[DO hc]at hgo
    subst hgo
    refine A0 hcc ?_
    exact A9 (A8 [((0,0),(0,0)),((8,1),(8,1)),((1,0),(1,0)),((4,0),(99,0)),((5,0),(5,0)),((6,0),(99,1)),((2,0),(2,0)),((3,0),(3,0))] []) Tryz.results178 hn
end
section
open Go.RowKit
set_option maxRecDepth 10000
theorem OY (b:Bool):AC Tryz.prog 172 [.c (.bool b)] [] (XW b).av []:=by
 cases b
 all_goals
  refine A6 Tryz.func172 Tryz.ntmps172 ?_
  refine A0 trivial ?_
  exact A7 [] (by simp only[Tryz.results172,go_sem,Nat.reduceBEq,Nat.reduceLT];exact rfl) (by simp only[go_sem,Nat.reduceEqDiff,Nat.reduceAdd,Nat.reduceSub,Nat.reduceLeDiff,Nat.reduceMul,Nat.reduceBEq,Nat.reduceLT,Int.reduceToNat,reduceCtorEq,XW,cond_true,cond_false,V.kind,V.num,V.text,V.keys,V.kids,List.map_nil]) rfl
end
section
open Go.RowKit Go.Maps
set_option maxRecDepth 10000
variable {o1 o2:Obj}
theorem X8 {s:ByteArray}{i:Nat}(hi:i<s.size) (b:Nat):i≤(KC s i b).2.pl∧(KC s i b).2.pl≤s.size:=by
 obtain⟨a1,_,a2⟩:=Iw hi
 unfold KC
 cases hd:AP (bAt s (AB s i)) with
 |false=>simp only[if_true];exact⟨a1,a2⟩
 |true =>
  obtain⟨e1,e2,_⟩:=IM hi hd
  simp only[Bool.true_eq_false,if_false]
  split
  ·exact⟨by show i≤AQ s i;omega,e2⟩
  ·split
   ·exact⟨by show i≤AQ s i;omega,e2⟩
   ·exact⟨by show i≤AQ s i;omega,e2⟩
theorem Mo {α:Type}{s:ByteArray}{part:DS→α→DS×α}{e:Nat}(he:e<256) (hp:∀d x,d.pl≤s.size→d.pl≤(part d x).1.pl∧(part d x).1.pl≤s.size):∀(n:Nat) (d:DS) (x:α),d.pl≤s.size→d.pl≤(DS.listGo s part e n d x).1.pl∧(DS.listGo s part e n d x).1.pl≤s.size
 | 0,d,x,h=>⟨Nat.le_refl _,h⟩
 |n+1,d,x,h=>by
  obtain⟨p1,p2⟩:=hp d x h
  obtain⟨k1,k2⟩:=Cc (s:=s) p2
  unfold DS.listGo
  split
  ·exact⟨Nat.le_refl _,h⟩
  split
  ·rename_i hi
   obtain⟨h1,_,_⟩:=MA he hi
   exact⟨by show d.pl≤_+1;omega,h1⟩
  ·obtain⟨w1,w2,_⟩:=EQ (s:=s) (b:=44) (by decide) k2
   obtain⟨j1,j2⟩:=Cc (s:=s) w2
   obtain⟨g1,g2⟩:=Mo he hp n _ (part d x).2 j2
   exact⟨by omega,g2⟩
theorem SM {α:Type}{s:ByteArray}{part:DS→α→DS×α}{e:Nat}(he:e<256) (hp:∀d x,d.pl≤s.size→d.pl≤(part d x).1.pl∧(part d x).1.pl≤s.size) (d:DS) (x:α) (h:d.pl≤s.size):d.pl≤(DS.list s part e d x).1.pl∧(DS.list s part e d x).1.pl≤s.size:=by
 obtain⟨k1,k2⟩:=Cc (s:=s) h
 unfold DS.list
 split
 ·rename_i hi
  obtain⟨h1,_,_⟩:=MA he hi
  exact⟨by show d.pl≤_+1;omega,h1⟩
 ·obtain⟨g1,g2⟩:=Mo he hp (s.size+1) (d.skip s) x k2
  exact⟨by omega,g2⟩
theorem WX {s:ByteArray}{rd:DS→V×DS}(h:∀d,d.pl≤s.size→d.pl≤(rd d).2.pl∧(rd d).2.pl≤s.size) (d:DS) (x:List V) (hd:d.pl≤s.size):d.pl≤(Di rd d x).1.pl∧(Di rd d x).1.pl≤s.size:=h d hd
theorem YB {s:ByteArray}{rd:DS→V×DS}(h:∀d,d.pl≤s.size→d.pl≤(rd d).2.pl∧(rd d).2.pl≤s.size) (d:DS) (x:List ByteArray×List V) (hd:d.pl≤s.size):d.pl≤(BT s rd d x).1.pl∧(BT s rd d x).1.pl≤s.size:=by
 obtain⟨s1,s2⟩:=Ol d hd
 obtain⟨a1,a2⟩:=Cc (s:=s) s2
 obtain⟨a3,a4,_⟩:=EQ (s:=s) (b:=58) (by decide) a2
 obtain⟨v1,v2⟩:=h _ a4
 exact⟨by show d.pl≤(rd _).2.pl;omega,v2⟩
theorem IR {s:ByteArray}:∀(k:Nat) (d:DS),d.pl≤s.size→d.pl≤(DS.value s k d).2.pl∧(DS.value s k d).2.pl≤s.size
 | 0,d,h=>by
  obtain⟨k1,k2⟩:=Cc (s:=s) h
  unfold DS.value
  split<;>exact⟨by rw[CC];exact k1,by rw[CC];exact k2⟩
 |k+1,d,h=>by
  obtain⟨k1,k2⟩:=Cc (s:=s) h
  have hw:∀l:List Nat,(∀b∈l,b<256)→d.pl≤((d.skip s).word s l).pl∧((d.skip s).word s l).pl≤s.size:=fun l hl=>by
   obtain⟨g1,g2⟩:=Il (l:=l) hl k2
   exact⟨by omega,g2⟩
  unfold DS.value
  simp only
  split
  ·exact⟨by rw[CC];exact k1,by rw[CC];exact k2⟩
  rename_i hlt
  split
  ·exact⟨k1,k2⟩
  split
  ·exact hw _ (by decide)
  split
  ·exact hw _ (by decide)
  split
  ·exact hw _ (by decide)
  split
  ·obtain⟨g1,g2⟩:=X8 (s:=s) (i:=(d.skip s).pl) (by omega) (d.skip s).bad
   exact⟨by omega,g2⟩
  split
  ·obtain⟨g1,g2⟩:=Ol (d.skip s) k2
   exact⟨Nat.le_trans k1 g1,g2⟩
  split
  ·obtain⟨g1,g2⟩:=SM (s:=s) (e:=93) (by decide) (WX fun d hd=>IR k d hd) ((d.skip s).go ((d.skip s).pl+1)) [] (by show _+1≤_;omega)
   rw[KM]at g1
   exact⟨Nat.le_trans (Nat.le_succ_of_le k1) g1,g2⟩
  split
  ·obtain⟨g1,g2⟩:=SM (s:=s) (e:=125) (by decide) (YB fun d hd=>IR k d hd) ((d.skip s).go ((d.skip s).pl+1)) ([],[]) (by show _+1≤_;omega)
   rw[KM]at g1
   exact⟨Nat.le_trans (Nat.le_succ_of_le k1) g1,g2⟩
  ·exact⟨by rw[CC];exact k1,by rw[CC];exact k2⟩
theorem TH (d:DS) (c c':Int) (p p':Nat) (hc:c≠0):(d.fail c p).fail c' p'=d.fail c p:=by
 unfold DS.fail
 by_cases h:d.code=0
 ·simp[h,hc]
 ·simp[h]
theorem NS (d:DS) (c:Int) (p:Nat) (hc:c≠0):(d.fail c p).code≠0:=by
 unfold DS.fail
 split
 ·exact hc
 ·rename_i h;exact h
theorem Mx {s:ByteArray}{rd:DS→V×DS}:∀(n:Nat) (d:DS) (x:List ByteArray×List V),x.1.length=x.2.length→(DS.listGo s (BT s rd) 125 n d x).2.1.length=(DS.listGo s (BT s rd) 125 n d x).2.2.length
 | 0,_,_,h=>h
 |n+1,d,x,h=>by
  have hm:(BT s rd d x).2.1.length=(BT s rd d x).2.2.length:=by unfold BT;simp[h]
  unfold DS.listGo
  split
  ·exact h
  split
  ·exact hm
  ·exact Mx n _ _ hm
theorem JE {α:Type}{s:ByteArray}{part:DS→α→DS×α}{e:Nat}(he:e<256) (len:α→Nat) (hl:∀d x,len (part d x).2=len x+1):∀(n:Nat) (d:DS) (x:α),len (DS.listGo s part e n d x).2≤len x+n
 | 0,d,x=>Nat.le_refl _
 |n+1,d,x=>by
  unfold DS.listGo
  split
  ·exact Nat.le_add_right _ _
  split
  ·show len (part d x).2≤_
   rw[hl];omega
  ·have:=JE (s:=s) he len hl n ((((part d x).1.skip s).want s 44).skip s) (part d x).2
   rw[hl]at this
   omega
theorem GD {s:ByteArray}:∀(n:Nat) (d:DS) (out:ByteArray),(d.strGo s n out).1.size≤out.size+n
 | 0,_,_=>Nat.le_refl _
 |n+1,d,out=>by
  unfold DS.strGo
  split
  ·exact Nat.le_add_right _ _
  split
  ·exact Nat.le_add_right _ _
  split
  ·have:=GD (s:=s) n (d.fail 5 d.pl) out;omega
  split
  ·have:=GD (s:=s) n ((d.go (d.pl+1)).escape s).2 (out++BF ((d.go (d.pl+1)).escape s).1)
   rw[DN]at this
   omega
  ·have:=GD (s:=s) n (d.go (d.pl+1)) (out++BF (bAt s d.pl))
   rw[DN]at this
   omega
theorem VK {s:ByteArray}(d:DS):(d.str s).1.size≤s.size+2:=by
 have:=GD (s:=s) (s.size+2) (d.want s 34) ByteArray.empty
 unfold DS.str
 simpa using this
theorem KT {s:ByteArray}{rd:DS→V×DS}:∀(n:Nat) (d:DS) (x:List ByteArray×List V),(∀k∈x.1,k.size≤s.size+2)→∀k∈(DS.listGo s (BT s rd) 125 n d x).2.1,k.size≤s.size+2
 | 0,_,_,h=>h
 |n+1,d,x,h=>by
  have hm:∀k∈(BT s rd d x).2.1,k.size≤s.size+2:=by
   unfold BT
   intro k hk
   rcases List.mem_append.1 hk with hk | hk
   ·exact h k hk
   ·rw[List.mem_singleton.1 hk];exact VK d
  unfold DS.listGo
  split
  ·exact h
  split
  ·exact hm
  ·exact KT n _ _ hm
theorem Xm (s:ByteArray) (hs:s.size≤100000) (rd:DS→V×DS) (d:DS):AC Tryz.prog 155 [.c (.sl ((DS.list s (BT s rd) 125 d ([],[])).2.1.map Ab)),.c (.sl ((DS.list s (BT s rd) 125 d ([],[])).2.2.map V.cs))] [] (Gi (DS.list s (BT s rd) 125 d ([],[])).2.1 (DS.list s (BT s rd) 125 d ([],[])).2.2).av []:=by
 have h:(DS.list s (BT s rd) 125 d ([],[])).2.1.length=(DS.list s (BT s rd) 125 d ([],[])).2.2.length∧(DS.list s (BT s rd) 125 d ([],[])).2.1.length≤s.size+1∧∀k∈(DS.list s (BT s rd) 125 d ([],[])).2.1,k.size≤s.size+2:=by
  unfold DS.list
  split
  ·exact⟨rfl,Nat.zero_le _,by simp⟩
  ·refine⟨Mx _ _ _ rfl,?_,KT _ _ _ (by simp)⟩
   have:=JE (s:=s) (part:=BT s rd) (e:=125) (by decide) (fun x=>x.1.length) (fun d x=>by unfold BT;simp) (s.size+1) (d.skip s) ([],[])
   simpa using this
 have h2:=TA _ _ h.1 (by omega) (fun k hk=>by have:=h.2.2 k hk;omega)
 rw[TD]at h2
 exact h2
end
end Go.Proofs.YtllfmaflodbieaaGreatDoor
