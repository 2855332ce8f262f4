/- Texts of this proof: D20 D21 D22. -/
import Derived.Test.YtllfmaflodbieaaGreatDoorKD19uE41
set_option linter.all false
set_option maxHeartbeats 8000000
namespace Go.Proofs.YtllfmaflodbieaaGreatDoor
section
open Go.RowKit
set_option maxRecDepth 10000
variable {o1 o2:Obj}
abbrev a48 (o1 o2:Obj) (s:ByteArray) (d:DS) (kids:List V) (deep:Int):Mem:=[((0,0),.box [.c (.str s),.c (.int .i64 d.pl),.c (.int .i64 d.code),.c (.int .i64 d.bad)]),((8,1),.gen (D8 o1 o2)),((1,0),.box [.own (1,1)]),((1,1),.row false 5 76 (kids.map V.cs)),((2,0),.box [.ptr (0,0) 0]),((3,0),.box [.c (.int .i64 deep)])]
abbrev a2t (o1 o2:Obj) (s:ByteArray) (d:DS) (kids:List V) (deep:Int):Mem:=[((0,0),.box [.c (.str s),.c (.int .i64 d.pl),.c (.int .i64 d.code),.c (.int .i64 d.bad)]),((8,1),.gen (D8 o1 o2)),((1,0),.box [.own (4,0)]),((4,0),.row false 5 76 (kids.map V.cs)),((2,0),.box [.ptr (0,0) 0]),((3,0),.box [.c (.int .i64 deep)])]
theorem TR (kids:List V) (v:V):(kids.map V.cs++[[C.int .i64 0,.int .i64 0,.str ByteArray.empty,.sl [],.sl []]]).set kids.length [.int .i64 v.kind,.int .i64 v.num,.str v.text,.sl (v.keys.map Ac),.sl (v.kids.map V.cs)]=(kids++[v]).map V.cs:=by
 have hl:(kids.map V.cs).length=kids.length:=by simp
 rw[←hl,List.map_append,List.set_append,if_neg (Nat.lt_irrefl _),Nat.sub_self,List.set_cons_zero,List.map_cons,List.map_nil,V.cs_eq]
theorem WM (kids:List V):Ae (kids.map V.cs++[[C.int .i64 0,.int .i64 0,.str ByteArray.empty,.sl [],.sl []]]) 5 (kids.length:Nat)=true∧(kids.map V.cs++[[C.int .i64 0,.int .i64 0,.str ByteArray.empty,.sl [],.sl []]])[kids.length]? = some [C.int .i64 0,.int .i64 0,.str ByteArray.empty,.sl [],.sl []]:=by
 have h:(kids.map V.cs++[[C.int .i64 0,.int .i64 0,.str ByteArray.empty,.sl [],.sl []]])[kids.length]? = some [C.int .i64 0,.int .i64 0,.str ByteArray.empty,.sl [],.sl []]:=by
  rw[List.getElem?_append_right (by simp)]
  simp
 refine⟨?_,h⟩
 unfold Ae
 rw[Int.toNat_natCast,h]
 simp
theorem q6 (s:ByteArray) (d d2:DS) (kids:List V) (v:V) (n:Nat) (hn:n≤100) (hl:kids.length≤900000) (hv:AC Tryz.prog 117 [.ptr (0,0) 0,.c (.int .i64 ((n+1:Nat):Int))] (dsE o1 o2 s d) v.av (dsE o1 o2 s d2)) :
  AC Tryz.prog 179 [.ptr (1,0) 0,.ptr (2,0) 0,.ptr (3,0) 0] (a48 o1 o2 s d kids n) (.tup []) (a2t o1 o2 s d2 (kids++[v]) n):=by
 have hw:=AA (k:=n) (by omega)
 have hol:kids.length+1≤1000000:=by omega
 have hrow:=TR kids v
 obtain⟨hr,hg⟩:=WM kids
 simp only[BR]at hv
 refine A5 Tryz.func179 Tryz.ntmps179 ?_
 refine A3 hw ?_
 refine AW (Az [] [((0,0),(0,0)),((8,1),(8,1))] [((0,0),(0,0)),((8,1),(8,1))] hv) q9 ?_
 refine A3 (j4 hol hr hg hrow) ?_
 exact Ab (Aa [((0,0),(0,0)),((8,1),(8,1)),((1,0),(1,0)),((4,0),(10,0)),((2,0),(2,0)),((3,0),(3,0))] []) Tryz.results179 hrow
abbrev a49 (o1 o2:Obj) (s:ByteArray) (d:DS) (keys:List ByteArray) (kids:List V) (deep:Int):Mem:=[((0,0),.box [.c (.str s),.c (.int .i64 d.pl),.c (.int .i64 d.code),.c (.int .i64 d.bad)]),((8,1),.gen (D8 o1 o2)),((1,0),.box [.own (1,1)]),((1,1),.row false 1 9 (keys.map Ac)),((5,0),.box [.own (5,1)]),((5,1),.row false 5 76 (kids.map V.cs)),((2,0),.box [.ptr (0,0) 0]),((3,0),.box [.c (.int .i64 deep)])]
abbrev a2u (o1 o2:Obj) (s:ByteArray) (d:DS) (keys:List ByteArray) (kids:List V) (deep:Int):Mem:=[((0,0),.box [.c (.str s),.c (.int .i64 d.pl),.c (.int .i64 d.code),.c (.int .i64 d.bad)]),((8,1),.gen (D8 o1 o2)),((1,0),.box [.own (4,0)]),((4,0),.row false 1 9 (keys.map Ac)),((5,0),.box [.own (6,0)]),((6,0),.row false 5 76 (kids.map V.cs)),((2,0),.box [.ptr (0,0) 0]),((3,0),.box [.c (.int .i64 deep)])]
theorem q7 (s:ByteArray) (hs:s.size≤100000) (d d2:DS) (hd:d.pl≤s.size) (hd3:(d.str s).2.pl≤s.size) (keys:List ByteArray) (kids:List V) (v:V) (n:Nat) (hn:n≤100) (hl:kids.length≤900000) (hkk:keys.length≤900000)
  (hv:AC Tryz.prog 117 [.ptr (0,0) 0,.c (.int .i64 ((n+1:Nat):Int))] (dsE o1 o2 s (((d.str s).2.skip s).want s 58)) v.av (dsE o1 o2 s d2)) :
  AC Tryz.prog 180 [.ptr (1,0) 0,.ptr (2,0) 0,.ptr (5,0) 0,.ptr (3,0) 0] (a49 o1 o2 s d keys kids n) (.tup []) (a2u o1 o2 s d2 (keys++[(d.str s).1]) (kids++[v]) n):=by
 have hs':s.size≤1000000:=by omega
 have hw:=AA (k:=n) (by omega)
 have hol:kids.length+1≤1000000:=by omega
 have holk:keys.length+1≤1000000:=by omega
 have hrow:=TR kids v
 obtain⟨hr,hg⟩:=WM kids
 have hst:=X9 (o1:=o1) (o2:=o2) s hs d hd
 have hsk:=Fz s hs' (d.str s).2 hd3
 have hwa:=L3 s hs' ((d.str s).2.skip s) (CU hd3).2 58 (by decide)
 have hrowk:(keys++[(d.str s).1]).map Ac=keys.map Ac++[[.str (d.str s).1]]:=by rw[List.map_append];rfl
 generalize (d.str s).1=key at *
 generalize (d.str s).2=d3 at *
 generalize (d3.skip s).want s 58=d5 at *
 generalize d3.skip s=d4 at *
 simp only[AM,BR]at hv hst hsk hwa
 refine A5 Tryz.func180 Tryz.ntmps180 ?_
 refine A3 q9 ?_
 refine A7 (A0 [((0,0),(0,0)),((8,1),(8,1))] [((0,0),(0,0)),((8,1),(8,1))] hst) q9 ?_
 refine A3 holk ?_
 refine A7 (A0 [((0,0),(0,0))] [((0,0),(0,0))] hsk) q9 ?_
 refine A3 q9 ?_
 refine A7 (A0 [((0,0),(0,0))] [((0,0),(0,0))] hwa) q9 ?_
 refine A3 hw ?_
 refine AW (Az [] [((0,0),(0,0)),((8,1),(8,1))] [((0,0),(0,0)),((8,1),(8,1))] hv) q9 ?_
 refine A3 (j4 hol hr hg hrow) ?_
 exact Ab (Aa [((0,0),(0,0)),((8,1),(8,1)),((1,0),(1,0)),((4,0),(8,0)),((5,0),(5,0)),((6,0),(20,0)),((2,0),(2,0)),((3,0),(3,0))] []) Tryz.results180 (j2 hrow hrowk)
theorem Qq {s:ByteArray}{d:DS}{b:Nat}(hb:b<256) (h:(d.want s b).code=0):(d.want s b).pl=d.pl+1:=by
 unfold DS.want at h ⊢
 cases hi:d.is s b with
 |true=>simp only[if_true];rfl
 |false =>
  rw[hi]at h
  simp only[Bool.false_eq_true,if_false]at h
  unfold DS.fail at h
  split at h
  ·exact absurd h (by show ¬((5:Int)=0);decide)
  ·rename_i h2;exact absurd h h2
def D9 (d:DS):Nat:=if d.code=0 then 1 else 0
theorem ZQ (s:ByteArray) (hs:s.size≤100000) (rd:DS→V×DS) (n:Nat) (hn:n≤100) (hpl:∀d,d.pl≤s.size→d.pl≤(rd d).2.pl∧(rd d).2.pl≤s.size)
  (hv:∀d,d.pl≤s.size→AC Tryz.prog 117 [.ptr (0,0) 0,.c (.int .i64 ((n+1:Nat):Int))] (dsE o1 o2 s d) (rd d).1.av (dsE o1 o2 s (rd d).2)) (d:DS) (hd:d.pl≤s.size) (hd1:1≤d.pl) :
  AC Tryz.prog 178 [.ptr (0,0) 0,.c (.int .u8 93),.clo 179 [.ptr (1,0) 0,.ptr (2,0) 0,.ptr (3,0) 0]] (a48 o1 o2 s d [] n) (.tup []) (a2t o1 o2 s (DS.list s (El rd) 93 d []).1 (DS.list s (El rd) 93 d []).2 n):=by
 have hs':s.size≤1000000:=by omega
 have hsk:=Fz s hs' d hd
 obtain⟨p1,p2⟩:=CU (s:=s) hd
 have htk:=EG s hs' (d.skip s) p2 93 (by decide)
 unfold DS.list
 cases hi:(d.skip s).is s 93 with
 |true =>
  unfold DS.take at htk
  rw[hi]at htk
  simp only[if_true]at htk ⊢
  generalize (d.skip s).go ((d.skip s).pl+1)=d2 at *
  generalize d.skip s=d1 at *
  simp only[AM]at htk hsk
  refine A5 Tryz.func178 Tryz.ntmps178 ?_
  refine A3 q9 ?_
  refine A7 (A0 [((0,0),(0,0))] [((0,0),(0,0))] hsk) q9 ?_
  refine A3 q9 ?_
  refine A7 (A0 [((0,0),(0,0))] [((0,0),(0,0))] htk) q9 ?_
  refine A3 q9 ?_
  exact Ab (Aa [((0,0),(0,0)),((8,1),(8,1)),((1,0),(1,0)),((4,0),(1,1)),((2,0),(2,0)),((3,0),(3,0))] []) Tryz.results178 hn
 |false =>
  unfold DS.take at htk
  rw[hi]at htk
  simp only[Bool.false_eq_true,if_false]at htk ⊢
  obtain⟨R,hR⟩:∃R,DS.listGo s (El rd) 93 (s.size+1) (d.skip s) []=R:=⟨_,rfl⟩
  rw[hR]
  generalize d.skip s=d1 at *
  simp only[AM]at htk hsk
  (refine AC.intro_spx [(0,0),(8,1),(1,0),(2,0),(3,0)] BF Tryz.func178 rfl Tryz.ntmps178 (Nat.le_of_ble_eq_true rfl) rfl rfl ?_;simp only[go_sem,Nat.reduceAdd])
  refine A3 q9 ?_
  refine A7 (A0 [((0,0),(0,0))] [((0,0),(0,0))] hsk) q9 ?_
  refine A3 q9 ?_
  refine A7 (A0 [((0,0),(0,0))] [((0,0),(0,0))] htk) q9 ?_
  refine A3 q9 ?_
  refine AZ (κ:=DS×List V) (fun k=>⟨mkS 0 27 [(0,.ptr (0,0) 0),(1,.c (.int .u8 93)),(2,.clo 179 [.ptr (1,0) 0,.ptr (2,0) 0,.ptr (3,0) 0])],
    [((0,0),.box [.c (.str s),.c (.int .i64 k.1.pl),.c (.int .i64 k.1.code),.c (.int .i64 k.1.bad)]),((8,1),.gen (D8 o1 o2)),((1,0),.box [.own (99,0)]),((99,0),.row false 5 76 (k.2.map V.cs)),((2,0),.box [.ptr (0,0) 0]),((3,0),.box [.c (.int .i64 n)])]⟩)
   (fun k=>k.1.pl≤s.size∧k.2.length+D9 k.1≤k.1.pl+1∧∃m,s.size-k.1.pl+D9 k.1<m+1∧DS.listGo s (El rd) 93 m k.1 k.2=R) (fun k=>s.size-k.1.pl+D9 k.1) (d1,[]) ⟨p2,by dsimp only;unfold D9;split<;>simp,s.size+1,by dsimp only;unfold D9;split<;>omega,hR⟩ ?_ ?_
  ·exact As (AH.of [((0,0),(0,0)),((8,1),(8,1)),((1,0),(1,0)),((99,0),(1,1)),((2,0),(2,0)),((3,0),(3,0))] []) @List.map_nil.{0,0}
  ·rintro⟨q,kids⟩ ⟨hq,hkl,m,hm,hgo⟩
   dsimp only at hq hkl hm hgo ⊢
   by_cases hc:q.code=0
   ·have hcc:(q.code==0)=true:=by simpa using hc
    have hf1:D9 q=1:=by unfold D9;rw[if_pos hc]
    rw[hf1]at hkl hm
    obtain⟨m,rfl⟩:∃m',m=m'+1:=⟨m-1,by omega⟩
    unfold DS.listGo El at hgo
    rw[if_neg (by simpa using hc)]at hgo
    simp only at hgo
    have hvq:=hv q hq
    obtain⟨v1,v2⟩:=hpl q hq
    have hp:=q6 s q (rd q).2 kids (rd q).1 n hn (by omega) hvq
    have hsk2:=Fz s hs' (rd q).2 v2
    obtain⟨k1,k2⟩:=CU (s:=s) v2
    have htk2:=EG s hs' ((rd q).2.skip s) k2 93 (by decide)
    unfold DS.take at htk2
    cases hi2:((rd q).2.skip s).is s 93 with
    |true =>
     rw[hi2]at hgo htk2
     simp only[if_true]at hgo htk2
     subst hgo
     simp only[AM]at htk2 hsk2
     generalize ((rd q).2.skip s).go (((rd q).2.skip s).pl+1)=q3 at *
     generalize (rd q).2.skip s=q2 at *
     refine A3 hcc ?_
     refine A7 (A0 [((0,0),(0,0)),((8,1),(8,1)),((1,0),(1,0)),((1,1),(99,0)),((2,0),(2,0)),((3,0),(3,0))] [((0,0),(0,0)),((8,1),(8,1)),((1,0),(1,0)),((4,0),(17,0)),((2,0),(2,0)),((3,0),(3,0))] hp) q9 ?_
     refine A3 q9 ?_
     refine A7 (A0 [((0,0),(0,0))] [((0,0),(0,0))] hsk2) q9 ?_
     refine A3 q9 ?_
     refine A7 (A0 [((0,0),(0,0))] [((0,0),(0,0))] htk2) q9 ?_
     refine A3 q9 ?_
     exact Ab (Aa [((0,0),(0,0)),((8,1),(8,1)),((1,0),(1,0)),((4,0),(17,0)),((2,0),(2,0)),((3,0),(3,0))] []) Tryz.results178 hn
    |false =>
     rw[hi2]at hgo htk2
     simp only[Bool.false_eq_true,if_false]at hgo htk2
     have hwa:=L3 s hs' ((rd q).2.skip s) k2 44 (by decide)
     obtain⟨w1,w2,w3⟩:=Gz (s:=s) (d:=(rd q).2.skip s) (b:=44) (by decide) k2
     have hwn:=Qq (s:=s) (d:=(rd q).2.skip s) (b:=44) (by decide)
     have hsk3:=Fz s hs' (((rd q).2.skip s).want s 44) w2
     obtain⟨j1,j2⟩:=CU (s:=s) w2
     have hcd:=Bq (s:=s) (((rd q).2.skip s).want s 44)
     obtain⟨q4,hq4⟩:∃q4,(((rd q).2.skip s).want s 44).skip s=q4:=⟨_,rfl⟩
     rw[hq4]at hgo hsk3 j1 j2 hcd
     obtain⟨q3,hq3⟩:∃q3,((rd q).2.skip s).want s 44=q3:=⟨_,rfl⟩
     rw[hq3]at hwa w1 w2 w3 hwn hsk3 j1 hcd
     simp only[AM]at htk2 hsk2 hwa hsk3
     have hmm:(q4.code=0→q.pl+1≤q4.pl):=fun h=>by
      have:=hwn (by rw[←hcd];exact h)
      omega
     have hfl:D9 q4=1∧q4.code=0∨D9 q4=0:=by
      unfold D9
      by_cases h:q4.code=0
      ·exact .inl ⟨if_pos h,h⟩
      ·exact .inr (if_neg h)
     have hmes:s.size-q4.pl+D9 q4<s.size-q.pl+1∧s.size-q4.pl+D9 q4<m+1∧kids.length+1+D9 q4≤q4.pl+1:=by
      rcases hfl with⟨h1,h2⟩ | h1
      ·have:=hmm h2;omega
      ·omega
     refine A3 hcc ?_
     refine A7 (A0 [((0,0),(0,0)),((8,1),(8,1)),((1,0),(1,0)),((1,1),(99,0)),((2,0),(2,0)),((3,0),(3,0))] [((0,0),(0,0)),((8,1),(8,1)),((1,0),(1,0)),((4,0),(17,0)),((2,0),(2,0)),((3,0),(3,0))] hp) q9 ?_
     refine A3 q9 ?_
     refine A7 (A0 [((0,0),(0,0))] [((0,0),(0,0))] hsk2) q9 ?_
     refine A3 q9 ?_
     refine A7 (A0 [((0,0),(0,0))] [((0,0),(0,0))] htk2) q9 ?_
     refine A3 q9 ?_
     refine A7 (A0 [((0,0),(0,0))] [((0,0),(0,0))] hwa) q9 ?_
     refine A3 q9 ?_
     refine A7 (A0 [((0,0),(0,0))] [((0,0),(0,0))] hsk3) q9 ?_
     refine A3 q9 ?_
     refine⟨(q4,kids++[(rd q).1]),by dsimp only;rw[hf1];exact hmes.1,⟨j2,by dsimp only;rw[List.length_append];exact hmes.2.2,m,hmes.2.1,hgo⟩,?_⟩
     exact As (AH.of [((0,0),(0,0)),((8,1),(8,1)),((1,0),(1,0)),((99,0),(17,0)),((2,0),(2,0)),((3,0),(3,0))] []) hn
   ·have hcc:(q.code==0)=false:=by simpa using hc
    rw[EV hc]at hgo
    subst hgo
    refine A3 hcc ?_
    exact Ab (Aa [((0,0),(0,0)),((8,1),(8,1)),((1,0),(1,0)),((4,0),(99,0)),((2,0),(2,0)),((3,0),(3,0))] []) Tryz.results178 hn
end
section
open Go.RowKit
set_option maxRecDepth 10000
variable {o1 o2:Obj}
theorem KU {s:ByteArray}:∀(n:Nat) (d:DS) (out:ByteArray),d.pl≤s.size→d.pl≤(d.strGo s n out).2.pl∧(d.strGo s n out).2.pl≤s.size
 | 0,d,out,h=>⟨Nat.le_refl _,h⟩
 |n+1,d,out,h=>by
  unfold DS.strGo
  split
  ·exact⟨Nat.le_refl _,h⟩
  split
  ·rename_i hi
   obtain⟨h1,_,_⟩:=PO (by decide) hi
   exact⟨Nat.le_succ _,h1⟩
  split
  ·obtain⟨g1,g2⟩:=KU n (d.fail 5 d.pl) out (by rw[DA];exact h)
   rw[DA]at g1
   exact⟨g1,g2⟩
  rename_i hlt
  have hlt:d.pl<s.size:=by omega
  split
  ·obtain⟨_,e2,e3⟩:=WA (s:=s) (d.go (d.pl+1)) hlt
   obtain⟨g1,g2⟩:=KU n ((d.go (d.pl+1)).escape s).2 (out++CN ((d.go (d.pl+1)).escape s).1) e3
   rw[NC]at e2
   exact⟨by omega,g2⟩
  ·obtain⟨g1,g2⟩:=KU n (d.go (d.pl+1)) (out++CN (bAt s d.pl)) hlt
   rw[NC]at g1
   exact⟨by omega,g2⟩
theorem RX {s:ByteArray}(d:DS) (h:d.pl≤s.size):d.pl≤(d.str s).2.pl∧(d.str s).2.pl≤s.size:=by
 obtain⟨w1,w2,_⟩:=Gz (s:=s) (d:=d) (b:=34) (by decide) h
 obtain⟨g1,g2⟩:=KU (s.size+2) (d.want s 34) ByteArray.empty w2
 unfold DS.str
 simp only
 split
 ·rw[DA];exact⟨by omega,g2⟩
 ·exact⟨by omega,g2⟩
theorem ZR (s:ByteArray) (hs:s.size≤100000) (rd:DS→V×DS) (n:Nat) (hn:n≤100) (hpl:∀d,d.pl≤s.size→d.pl≤(rd d).2.pl∧(rd d).2.pl≤s.size)
  (hv:∀d,d.pl≤s.size→AC Tryz.prog 117 [.ptr (0,0) 0,.c (.int .i64 ((n+1:Nat):Int))] (dsE o1 o2 s d) (rd d).1.av (dsE o1 o2 s (rd d).2)) (d:DS) (hd:d.pl≤s.size) (hd1:1≤d.pl) :
  AC Tryz.prog 178 [.ptr (0,0) 0,.c (.int .u8 125),.clo 180 [.ptr (1,0) 0,.ptr (2,0) 0,.ptr (5,0) 0,.ptr (3,0) 0]] (a49 o1 o2 s d [] [] n) (.tup []) (a2u o1 o2 s (DS.list s (CB s rd) 125 d ([],[])).1 (DS.list s (CB s rd) 125 d ([],[])).2.1 (DS.list s (CB s rd) 125 d ([],[])).2.2 n):=by
 have hs':s.size≤1000000:=by omega
 have hsk:=Fz s hs' d hd
 obtain⟨p1,p2⟩:=CU (s:=s) hd
 have htk:=EG s hs' (d.skip s) p2 125 (by decide)
 unfold DS.list
 cases hi:(d.skip s).is s 125 with
 |true =>
  unfold DS.take at htk
  rw[hi]at htk
  simp only[if_true]at htk ⊢
  generalize (d.skip s).go ((d.skip s).pl+1)=d2 at *
  generalize d.skip s=d1 at *
  simp only[AM]at htk hsk
  refine A5 Tryz.func178 Tryz.ntmps178 ?_
  refine A3 q9 ?_
  refine A7 (A0 [((0,0),(0,0))] [((0,0),(0,0))] hsk) q9 ?_
  refine A3 q9 ?_
  refine A7 (A0 [((0,0),(0,0))] [((0,0),(0,0))] htk) q9 ?_
  refine A3 q9 ?_
  exact Ab (Aa [((0,0),(0,0)),((8,1),(8,1)),((1,0),(1,0)),((4,0),(1,1)),((5,0),(5,0)),((6,0),(5,1)),((2,0),(2,0)),((3,0),(3,0))] []) Tryz.results178 hn
 |false =>
  unfold DS.take at htk
  rw[hi]at htk
  simp only[Bool.false_eq_true,if_false]at htk ⊢
  obtain⟨R,hR⟩:∃R,DS.listGo s (CB s rd) 125 (s.size+1) (d.skip s) ([],[])=R:=⟨_,rfl⟩
  rw[hR]
  generalize d.skip s=d1 at *
  simp only[AM]at htk hsk
  (refine AC.intro_spx [(0,0),(8,1),(1,0),(5,0),(2,0),(3,0)] BF Tryz.func178 rfl Tryz.ntmps178 (Nat.le_of_ble_eq_true rfl) rfl rfl ?_;simp only[go_sem,Nat.reduceAdd])
  refine A3 q9 ?_
  refine A7 (A0 [((0,0),(0,0))] [((0,0),(0,0))] hsk) q9 ?_
  refine A3 q9 ?_
  refine A7 (A0 [((0,0),(0,0))] [((0,0),(0,0))] htk) q9 ?_
  refine A3 q9 ?_
  refine AZ (κ:=DS×List ByteArray×List V) (fun k=>⟨mkS 0 27 [(0,.ptr (0,0) 0),(1,.c (.int .u8 125)),(2,.clo 180 [.ptr (1,0) 0,.ptr (2,0) 0,.ptr (5,0) 0,.ptr (3,0) 0])],
    [((0,0),.box [.c (.str s),.c (.int .i64 k.1.pl),.c (.int .i64 k.1.code),.c (.int .i64 k.1.bad)]),((8,1),.gen (D8 o1 o2)),((1,0),.box [.own (99,0)]),((99,0),.row false 1 9 (k.2.1.map Ac)),((5,0),.box [.own (99,1)]),((99,1),.row false 5 76 (k.2.2.map V.cs)),((2,0),.box [.ptr (0,0) 0]),((3,0),.box [.c (.int .i64 n)])]⟩)
   (fun k=>k.1.pl≤s.size∧k.2.1.length=k.2.2.length∧k.2.2.length+D9 k.1≤k.1.pl+1∧∃m,s.size-k.1.pl+D9 k.1<m+1∧DS.listGo s (CB s rd) 125 m k.1 k.2=R) (fun k=>s.size-k.1.pl+D9 k.1) (d1,[],[]) ⟨p2,rfl,by dsimp only;unfold D9;split<;>simp,s.size+1,by dsimp only;unfold D9;split<;>omega,hR⟩ ?_ ?_
  ·exact As (AH.of [((0,0),(0,0)),((8,1),(8,1)),((1,0),(1,0)),((99,0),(1,1)),((5,0),(5,0)),((99,1),(5,1)),((2,0),(2,0)),((3,0),(3,0))] []) @List.map_nil.{0,0}
  ·rintro⟨q,keys,kids⟩ ⟨hq,hkk,hkl,m,hm,hgo⟩
   dsimp only at hq hkk hkl hm hgo ⊢
   by_cases hc:q.code=0
   ·have hcc:(q.code==0)=true:=by simpa using hc
    have hf1:D9 q=1:=by unfold D9;rw[if_pos hc]
    rw[hf1]at hkl hm
    obtain⟨m,rfl⟩:∃m',m=m'+1:=⟨m-1,by omega⟩
    unfold DS.listGo CB at hgo
    rw[if_neg (by simpa using hc)]at hgo
    simp only at hgo
    obtain⟨s1,s2⟩:=RX q hq
    obtain⟨a1,a2⟩:=CU (s:=s) s2
    obtain⟨a3,a4,_⟩:=Gz (s:=s) (d:=(q.str s).2.skip s) (b:=58) (by decide) a2
    obtain⟨q5,hq5⟩:∃q5,((q.str s).2.skip s).want s 58=q5:=⟨_,rfl⟩
    have hvq:=hv q5 (by rw[←hq5];exact a4)
    obtain⟨v1,v2⟩:=hpl q5 (by rw[←hq5];exact a4)
    have hpl5:q.pl≤q5.pl:=by rw[←hq5];omega
    have hp:=q7 s hs q (rd q5).2 hq s2 keys kids (rd q5).1 n hn (by omega) (by omega) (by rw[hq5];exact hvq)
    rw[hq5]at hgo
    generalize (q.str s).1=key at *
    have hsk2:=Fz s hs' (rd q5).2 v2
    obtain⟨k1,k2⟩:=CU (s:=s) v2
    have htk2:=EG s hs' ((rd q5).2.skip s) k2 125 (by decide)
    unfold DS.take at htk2
    cases hi2:((rd q5).2.skip s).is s 125 with
    |true =>
     rw[hi2]at hgo htk2
     simp only[if_true]at hgo htk2
     subst hgo
     simp only[AM]at htk2 hsk2
     generalize ((rd q5).2.skip s).go (((rd q5).2.skip s).pl+1)=q3 at *
     generalize (rd q5).2.skip s=q2 at *
     refine A3 hcc ?_
     refine A7 (A0 [((0,0),(0,0)),((8,1),(8,1)),((1,0),(1,0)),((1,1),(99,0)),((5,0),(5,0)),((5,1),(99,1)),((2,0),(2,0)),((3,0),(3,0))] [((0,0),(0,0)),((8,1),(8,1)),((1,0),(1,0)),((4,0),(17,0)),((5,0),(5,0)),((6,0),(17,1)),((2,0),(2,0)),((3,0),(3,0))] hp) q9 ?_
     refine A3 q9 ?_
     refine A7 (A0 [((0,0),(0,0))] [((0,0),(0,0))] hsk2) q9 ?_
     refine A3 q9 ?_
     refine A7 (A0 [((0,0),(0,0))] [((0,0),(0,0))] htk2) q9 ?_
     refine A3 q9 ?_
     exact Ab (Aa [((0,0),(0,0)),((8,1),(8,1)),((1,0),(1,0)),((4,0),(17,0)),((5,0),(5,0)),((6,0),(17,1)),((2,0),(2,0)),((3,0),(3,0))] []) Tryz.results178 hn
    |false =>
     rw[hi2]at hgo htk2
     simp only[Bool.false_eq_true,if_false]at hgo htk2
     have hwa:=L3 s hs' ((rd q5).2.skip s) k2 44 (by decide)
     obtain⟨w1,w2,w3⟩:=Gz (s:=s) (d:=(rd q5).2.skip s) (b:=44) (by decide) k2
     have hwn:=Qq (s:=s) (d:=(rd q5).2.skip s) (b:=44) (by decide)
     have hsk3:=Fz s hs' (((rd q5).2.skip s).want s 44) w2
     obtain⟨j1,j2⟩:=CU (s:=s) w2
     have hcd:=Bq (s:=s) (((rd q5).2.skip s).want s 44)
     obtain⟨q4,hq4⟩:∃q4,(((rd q5).2.skip s).want s 44).skip s=q4:=⟨_,rfl⟩
     rw[hq4]at hgo hsk3 j1 j2 hcd
     obtain⟨q3,hq3⟩:∃q3,((rd q5).2.skip s).want s 44=q3:=⟨_,rfl⟩
     rw[hq3]at hwa w1 w2 w3 hwn hsk3 j1 hcd
     simp only[AM]at htk2 hsk2 hwa hsk3
     have hmm:(q4.code=0→q.pl+1≤q4.pl):=fun h=>by
      have:=hwn (by rw[←hcd];exact h)
      omega
     have hfl:D9 q4=1∧q4.code=0∨D9 q4=0:=by
      unfold D9
      by_cases h:q4.code=0
      ·exact .inl ⟨if_pos h,h⟩
      ·exact .inr (if_neg h)
     have hmes:s.size-q4.pl+D9 q4<s.size-q.pl+1∧s.size-q4.pl+D9 q4<m+1∧kids.length+1+D9 q4≤q4.pl+1:=by
      rcases hfl with⟨h1,h2⟩ | h1
      ·have:=hmm h2;omega
      ·omega
     refine A3 hcc ?_
     refine A7 (A0 [((0,0),(0,0)),((8,1),(8,1)),((1,0),(1,0)),((1,1),(99,0)),((5,0),(5,0)),((5,1),(99,1)),((2,0),(2,0)),((3,0),(3,0))] [((0,0),(0,0)),((8,1),(8,1)),((1,0),(1,0)),((4,0),(17,0)),((5,0),(5,0)),((6,0),(17,1)),((2,0),(2,0)),((3,0),(3,0))] hp) q9 ?_
     refine A3 q9 ?_
     refine A7 (A0 [((0,0),(0,0))] [((0,0),(0,0))] hsk2) q9 ?_
     refine A3 q9 ?_
     refine A7 (A0 [((0,0),(0,0))] [((0,0),(0,0))] htk2) q9 ?_
     refine A3 q9 ?_
     refine A7 (A0 [((0,0),(0,0))] [((0,0),(0,0))] hwa) q9 ?_
     refine A3 q9 ?_
     refine A7 (A0 [((0,0),(0,0))] [((0,0),(0,0))] hsk3) q9 ?_
     refine A3 q9 ?_
     refine⟨(q4,keys++[key],kids++[(rd q5).1]),by dsimp only;rw[hf1];exact hmes.1,⟨j2,by simp[hkk],by dsimp only;rw[List.length_append];exact hmes.2.2,m,hmes.2.1,hgo⟩,?_⟩
     exact As (AH.of [((0,0),(0,0)),((8,1),(8,1)),((1,0),(1,0)),((99,0),(17,0)),((5,0),(5,0)),((99,1),(17,1)),((2,0),(2,0)),((3,0),(3,0))] []) hn
   ·have hcc:(q.code==0)=false:=by simpa using hc
    rw[EV hc]at hgo
    subst hgo
    refine A3 hcc ?_
    exact Ab (Aa [((0,0),(0,0)),((8,1),(8,1)),((1,0),(1,0)),((4,0),(99,0)),((5,0),(5,0)),((6,0),(99,1)),((2,0),(2,0)),((3,0),(3,0))] []) Tryz.results178 hn
end
section
open Go.RowKit Go.Maps
set_option maxRecDepth 10000
variable {o1 o2:Obj}
theorem a1r {s:ByteArray}{i:Nat}(hi:i<s.size) (b:Nat):i≤(Oa s i b).2.pl∧(Oa s i b).2.pl≤s.size:=by
 obtain⟨a1,_,a2⟩:=MV hi
 unfold Oa
 cases hd:Bx (bAt s (Br s i)) with
 |false=>simp only[if_true];exact⟨a1,a2⟩
 |true =>
  obtain⟨e1,e2,_⟩:=MW hi hd
  simp only[Bool.true_eq_false,if_false]
  split
  ·exact⟨by show i≤BO s i;omega,e2⟩
  ·split
   ·exact⟨by show i≤BO s i;omega,e2⟩
   ·exact⟨by show i≤BO s i;omega,e2⟩
theorem PT {α:Type}{s:ByteArray}{part:DS→α→DS×α}{e:Nat}(he:e<256) (hp:∀d x,d.pl≤s.size→d.pl≤(part d x).1.pl∧(part d x).1.pl≤s.size):∀(n:Nat) (d:DS) (x:α),d.pl≤s.size→d.pl≤(DS.listGo s part e n d x).1.pl∧(DS.listGo s part e n d x).1.pl≤s.size
 | 0,d,x,h=>⟨Nat.le_refl _,h⟩
 |n+1,d,x,h=>by
  obtain⟨p1,p2⟩:=hp d x h
  obtain⟨k1,k2⟩:=CU (s:=s) p2
  unfold DS.listGo
  split
  ·exact⟨Nat.le_refl _,h⟩
  split
  ·rename_i hi
   obtain⟨h1,_,_⟩:=PO he hi
   exact⟨by show d.pl≤_+1;omega,h1⟩
  ·obtain⟨w1,w2,_⟩:=Gz (s:=s) (b:=44) (by decide) k2
   obtain⟨j1,j2⟩:=CU (s:=s) w2
   obtain⟨g1,g2⟩:=PT he hp n _ (part d x).2 j2
   exact⟨by omega,g2⟩
theorem WO {α:Type}{s:ByteArray}{part:DS→α→DS×α}{e:Nat}(he:e<256) (hp:∀d x,d.pl≤s.size→d.pl≤(part d x).1.pl∧(part d x).1.pl≤s.size) (d:DS) (x:α) (h:d.pl≤s.size):d.pl≤(DS.list s part e d x).1.pl∧(DS.list s part e d x).1.pl≤s.size:=by
 obtain⟨k1,k2⟩:=CU (s:=s) h
 unfold DS.list
 split
 ·rename_i hi
  obtain⟨h1,_,_⟩:=PO he hi
  exact⟨by show d.pl≤_+1;omega,h1⟩
 ·obtain⟨g1,g2⟩:=PT he hp (s.size+1) (d.skip s) x k2
  exact⟨by omega,g2⟩
theorem a01 {s:ByteArray}{rd:DS→V×DS}(h:∀d,d.pl≤s.size→d.pl≤(rd d).2.pl∧(rd d).2.pl≤s.size) (d:DS) (x:List V) (hd:d.pl≤s.size):d.pl≤(El rd d x).1.pl∧(El rd d x).1.pl≤s.size:=h d hd
theorem a4c {s:ByteArray}{rd:DS→V×DS}(h:∀d,d.pl≤s.size→d.pl≤(rd d).2.pl∧(rd d).2.pl≤s.size) (d:DS) (x:List ByteArray×List V) (hd:d.pl≤s.size):d.pl≤(CB s rd d x).1.pl∧(CB s rd d x).1.pl≤s.size:=by
 obtain⟨s1,s2⟩:=RX d hd
 obtain⟨a1,a2⟩:=CU (s:=s) s2
 obtain⟨a3,a4,_⟩:=Gz (s:=s) (b:=58) (by decide) a2
 obtain⟨v1,v2⟩:=h _ a4
 exact⟨by show d.pl≤(rd _).2.pl;omega,v2⟩
theorem L1 {s:ByteArray}:∀(k:Nat) (d:DS),d.pl≤s.size→d.pl≤(DS.value s k d).2.pl∧(DS.value s k d).2.pl≤s.size
 | 0,d,h=>by
  obtain⟨k1,k2⟩:=CU (s:=s) h
  unfold DS.value
  split<;>exact⟨by rw[DA];exact k1,by rw[DA];exact k2⟩
 |k+1,d,h=>by
  obtain⟨k1,k2⟩:=CU (s:=s) h
  have hw:∀l:List Nat,(∀b∈l,b<256)→d.pl≤((d.skip s).word s l).pl∧((d.skip s).word s l).pl≤s.size:=fun l hl=>by
   obtain⟨g1,g2⟩:=L4 (l:=l) hl k2
   exact⟨by omega,g2⟩
  unfold DS.value
  simp only
  split
  ·exact⟨by rw[DA];exact k1,by rw[DA];exact k2⟩
  rename_i hlt
  split
  ·exact⟨k1,k2⟩
  split
  ·exact hw _ (by decide)
  split
  ·exact hw _ (by decide)
  split
  ·exact hw _ (by decide)
  split
  ·obtain⟨g1,g2⟩:=a1r (s:=s) (i:=(d.skip s).pl) (by omega) (d.skip s).bad
   exact⟨by omega,g2⟩
  split
  ·obtain⟨g1,g2⟩:=RX (d.skip s) k2
   exact⟨Nat.le_trans k1 g1,g2⟩
  split
  ·obtain⟨g1,g2⟩:=WO (s:=s) (e:=93) (by decide) (a01 fun d hd=>L1 k d hd) ((d.skip s).go ((d.skip s).pl+1)) [] (by show _+1≤_;omega)
   rw[NC]at g1
   exact⟨Nat.le_trans (Nat.le_succ_of_le k1) g1,g2⟩
  split
  ·obtain⟨g1,g2⟩:=WO (s:=s) (e:=125) (by decide) (a4c fun d hd=>L1 k d hd) ((d.skip s).go ((d.skip s).pl+1)) ([],[]) (by show _+1≤_;omega)
   rw[NC]at g1
   exact⟨Nat.le_trans (Nat.le_succ_of_le k1) g1,g2⟩
  ·exact⟨by rw[DA];exact k1,by rw[DA];exact k2⟩
theorem XH (d:DS) (c c':Int) (p p':Nat) (hc:c≠0):(d.fail c p).fail c' p'=d.fail c p:=by
 unfold DS.fail
 by_cases h:d.code=0
 ·simp[h,hc]
 ·simp[h]
theorem R6 (d:DS) (c:Int) (p:Nat) (hc:c≠0):(d.fail c p).code≠0:=by
 unfold DS.fail
 split
 ·exact hc
 ·rename_i h;exact h
theorem PU {s:ByteArray}{rd:DS→V×DS}:∀(n:Nat) (d:DS) (x:List ByteArray×List V),x.1.length=x.2.length→(DS.listGo s (CB s rd) 125 n d x).2.1.length=(DS.listGo s (CB s rd) 125 n d x).2.2.length
 | 0,_,_,h=>h
 |n+1,d,x,h=>by
  have hm:(CB s rd d x).2.1.length=(CB s rd d x).2.2.length:=by unfold CB;simp[h]
  unfold DS.listGo
  split
  ·exact h
  split
  ·exact hm
  ·exact PU n _ _ hm
theorem Mj {α:Type}{s:ByteArray}{part:DS→α→DS×α}{e:Nat}(he:e<256) (len:α→Nat) (hl:∀d x,len (part d x).2=len x+1):∀(n:Nat) (d:DS) (x:α),len (DS.listGo s part e n d x).2≤len x+n
 | 0,d,x=>Nat.le_refl _
 |n+1,d,x=>by
  unfold DS.listGo
  split
  ·exact Nat.le_add_right _ _
  split
  ·show len (part d x).2≤_
   rw[hl];omega
  ·have:=Mj (s:=s) he len hl n ((((part d x).1.skip s).want s 44).skip s) (part d x).2
   rw[hl]at this
   omega
theorem Jh {s:ByteArray}:∀(n:Nat) (d:DS) (out:ByteArray),(d.strGo s n out).1.size≤out.size+n
 | 0,_,_=>Nat.le_refl _
 |n+1,d,out=>by
  unfold DS.strGo
  split
  ·exact Nat.le_add_right _ _
  split
  ·exact Nat.le_add_right _ _
  split
  ·have:=Jh (s:=s) n (d.fail 5 d.pl) out;omega
  split
  ·have:=Jh (s:=s) n ((d.go (d.pl+1)).escape s).2 (out++CN ((d.go (d.pl+1)).escape s).1)
   rw[H9]at this
   omega
  ·have:=Jh (s:=s) n (d.go (d.pl+1)) (out++CN (bAt s d.pl))
   rw[H9]at this
   omega
theorem y8 {s:ByteArray}(d:DS):(d.str s).1.size≤s.size+2:=by
 have:=Jh (s:=s) (s.size+2) (d.want s 34) ByteArray.empty
 unfold DS.str
 simpa using this
theorem O2 {s:ByteArray}{rd:DS→V×DS}:∀(n:Nat) (d:DS) (x:List ByteArray×List V),(∀k∈x.1,k.size≤s.size+2)→∀k∈(DS.listGo s (CB s rd) 125 n d x).2.1,k.size≤s.size+2
 | 0,_,_,h=>h
 |n+1,d,x,h=>by
  have hm:∀k∈(CB s rd d x).2.1,k.size≤s.size+2:=by
   unfold CB
   intro k hk
   rcases List.mem_append.1 hk with hk | hk
   ·exact h k hk
   ·rw[List.mem_singleton.1 hk];exact y8 d
  unfold DS.listGo
  split
  ·exact h
  split
  ·exact hm
  ·exact O2 n _ _ hm
theorem a1u (s:ByteArray) (hs:s.size≤100000) (rd:DS→V×DS) (d:DS):AC Tryz.prog 155 [.c (.sl ((DS.list s (CB s rd) 125 d ([],[])).2.1.map Ac)),.c (.sl ((DS.list s (CB s rd) 125 d ([],[])).2.2.map V.cs))] [] (EJ (DS.list s (CB s rd) 125 d ([],[])).2.1 (DS.list s (CB s rd) 125 d ([],[])).2.2).av []:=by
 have h:(DS.list s (CB s rd) 125 d ([],[])).2.1.length=(DS.list s (CB s rd) 125 d ([],[])).2.2.length∧(DS.list s (CB s rd) 125 d ([],[])).2.1.length≤s.size+1∧∀k∈(DS.list s (CB s rd) 125 d ([],[])).2.1,k.size≤s.size+2:=by
  unfold DS.list
  split
  ·exact⟨rfl,Nat.zero_le _,by simp⟩
  ·refine⟨PU _ _ _ rfl,?_,O2 _ _ _ (by simp)⟩
   have:=Mj (s:=s) (part:=CB s rd) (e:=125) (by decide) (fun x=>x.1.length) (fun d x=>by unfold CB;simp) (s.size+1) (d.skip s) ([],[])
   simpa using this
 have h2:=Y8 _ _ h.1 (by omega) (fun k hk=>by have:=h.2.2 k hk;omega)
 rw[Y9]at h2
 exact h2
end
end Go.Proofs.YtllfmaflodbieaaGreatDoor
