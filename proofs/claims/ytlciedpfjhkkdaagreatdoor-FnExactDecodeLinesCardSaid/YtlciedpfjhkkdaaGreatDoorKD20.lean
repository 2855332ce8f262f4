/- The program's reader: the parts of arrays and objects. -/
import Derived.Test.YtlciedpfjhkkdaaGreatDoorKD19
import Derived.Test.YtlciedpfjhkkdaaGreatDoorKE41
set_option linter.all false
set_option maxHeartbeats 8000000
namespace Go.Proofs.YtlciedpfjhkkdaaGreatDoor
open Go.RowKit
set_option maxRecDepth 10000
variable {o1 o2:Obj}
abbrev Tf (o1 o2:Obj) (s:ByteArray) (d:DS) (kids:List V) (deep:Int):Mem:=[((0,0),.box [.c (.str s),.c (.int .i64 d.pl),.c (.int .i64 d.code),.c (.int .i64 d.bad)]),((8,1),.gen (BL o1 o2)),((1,0),.box [.own (1,1)]),((1,1),.row false 5 62 (kids.map V.cs)),((2,0),.box [.ptr (0,0) 0]),((3,0),.box [.c (.int .i64 deep)])]
abbrev Sa (o1 o2:Obj) (s:ByteArray) (d:DS) (kids:List V) (deep:Int):Mem:=[((0,0),.box [.c (.str s),.c (.int .i64 d.pl),.c (.int .i64 d.code),.c (.int .i64 d.bad)]),((8,1),.gen (BL o1 o2)),((1,0),.box [.own (4,0)]),((4,0),.row false 5 62 (kids.map V.cs)),((2,0),.box [.ptr (0,0) 0]),((3,0),.box [.c (.int .i64 deep)])]
theorem KV (kids:List V) (v:V):(kids.map V.cs++[[C.int .i64 0,.int .i64 0,.str ByteArray.empty,.sl [],.sl []]]).set kids.length [.int .i64 v.kind,.int .i64 v.num,.str v.text,.sl (v.keys.map A8),.sl (v.kids.map V.cs)]=(kids++[v]).map V.cs:=by
 have hl:(kids.map V.cs).length=kids.length:=by simp
 rw[←hl,List.map_append,List.set_append,if_neg (Nat.lt_irrefl _),Nat.sub_self,List.set_cons_zero,List.map_cons,List.map_nil,V.cs_eq]
theorem Od (kids:List V):Aj (kids.map V.cs++[[C.int .i64 0,.int .i64 0,.str ByteArray.empty,.sl [],.sl []]]) 5 (kids.length:Nat)=true∧(kids.map V.cs++[[C.int .i64 0,.int .i64 0,.str ByteArray.empty,.sl [],.sl []]])[kids.length]? = some [C.int .i64 0,.int .i64 0,.str ByteArray.empty,.sl [],.sl []]:=by
 have h:(kids.map V.cs++[[C.int .i64 0,.int .i64 0,.str ByteArray.empty,.sl [],.sl []]])[kids.length]? = some [C.int .i64 0,.int .i64 0,.str ByteArray.empty,.sl [],.sl []]:=by
  rw[List.getElem?_append_right (by simp)]
  simp
 refine⟨?_,h⟩
 unfold Aj
 rw[Int.toNat_natCast,h]
 simp
theorem QF (s:ByteArray) (d d2:DS) (kids:List V) (v:V) (n:Nat) (hn:n≤100) (hl:kids.length≤900000) (hv:AC Tryz.prog 79 [.ptr (0,0) 0,.c (.int .i64 ((n+1:Nat):Int))] (dsE o1 o2 s d) v.av (dsE o1 o2 s d2)) :
  AC Tryz.prog 142 [.ptr (1,0) 0,.ptr (2,0) 0,.ptr (3,0) 0] (Tf o1 o2 s d kids n) (.tup []) (Sa o1 o2 s d2 (kids++[v]) n):=by
 have hw:=Ae (k:=n) (by omega)
 have hol:kids.length+1≤1000000:=by omega
 have hrow:=KV kids v
 obtain⟨hr,hg⟩:=Od kids
 simp only[AQ]at hv
 refine A7 Tryz.func142 Tryz.ntmps142 ?_
 refine A0 hw ?_
 refine Fs (BM [] [((0,0),(0,0)),((8,1),(8,1))] [((0,0),(0,0)),((8,1),(8,1))] hv) trivial ?_
 refine A0 (j4 hol hr hg hrow) ?_
 exact Ad (Ac [((0,0),(0,0)),((8,1),(8,1)),((1,0),(1,0)),((4,0),(10,0)),((2,0),(2,0)),((3,0),(3,0))] []) Tryz.results142 hrow
abbrev T8 (o1 o2:Obj) (s:ByteArray) (d:DS) (keys:List ByteArray) (kids:List V) (deep:Int):Mem:=[((0,0),.box [.c (.str s),.c (.int .i64 d.pl),.c (.int .i64 d.code),.c (.int .i64 d.bad)]),((8,1),.gen (BL o1 o2)),((1,0),.box [.own (1,1)]),((1,1),.row false 1 9 (keys.map A8)),((5,0),.box [.own (5,1)]),((5,1),.row false 5 62 (kids.map V.cs)),((2,0),.box [.ptr (0,0) 0]),((3,0),.box [.c (.int .i64 deep)])]
abbrev Sg (o1 o2:Obj) (s:ByteArray) (d:DS) (keys:List ByteArray) (kids:List V) (deep:Int):Mem:=[((0,0),.box [.c (.str s),.c (.int .i64 d.pl),.c (.int .i64 d.code),.c (.int .i64 d.bad)]),((8,1),.gen (BL o1 o2)),((1,0),.box [.own (4,0)]),((4,0),.row false 1 9 (keys.map A8)),((5,0),.box [.own (6,0)]),((6,0),.row false 5 62 (kids.map V.cs)),((2,0),.box [.ptr (0,0) 0]),((3,0),.box [.c (.int .i64 deep)])]
theorem PG (s:ByteArray) (hs:s.size≤100000) (d d2:DS) (hd:d.pl≤s.size) (hd3:(d.str s).2.pl≤s.size) (keys:List ByteArray) (kids:List V) (v:V) (n:Nat) (hn:n≤100) (hl:kids.length≤900000) (hkk:keys.length≤900000)
  (hv:AC Tryz.prog 79 [.ptr (0,0) 0,.c (.int .i64 ((n+1:Nat):Int))] (dsE o1 o2 s (((d.str s).2.skip s).want s 58)) v.av (dsE o1 o2 s d2)) :
  AC Tryz.prog 144 [.ptr (1,0) 0,.ptr (2,0) 0,.ptr (5,0) 0,.ptr (3,0) 0] (T8 o1 o2 s d keys kids n) (.tup []) (Sg o1 o2 s d2 (keys++[(d.str s).1]) (kids++[v]) n):=by
 have hs':s.size≤1000000:=by omega
 have hw:=Ae (k:=n) (by omega)
 have hol:kids.length+1≤1000000:=by omega
 have holk:keys.length+1≤1000000:=by omega
 have hrow:=KV kids v
 obtain⟨hr,hg⟩:=Od kids
 have hst:=Oe (o1:=o1) (o2:=o2) s hs d hd
 have hsk:=Cc s hs' (d.str s).2 hd3
 have hwa:=Gp s hs' ((d.str s).2.skip s) (Bv hd3).2 58 (by decide)
 have hrowk:(keys++[(d.str s).1]).map A8=keys.map A8++[[.str (d.str s).1]]:=by rw[List.map_append];rfl
 generalize (d.str s).1=key at *
 generalize (d.str s).2=d3 at *
 generalize (d3.skip s).want s 58=d5 at *
 generalize d3.skip s=d4 at *
 simp only[Aq,AQ]at hv hst hsk hwa
 refine A7 Tryz.func144 Tryz.ntmps144 ?_
 refine A0 trivial ?_
 refine Af (A3 [((0,0),(0,0)),((8,1),(8,1))] [((0,0),(0,0)),((8,1),(8,1))] hst) trivial ?_
 refine A0 holk ?_
 refine Af (A3 [((0,0),(0,0))] [((0,0),(0,0))] hsk) trivial ?_
 refine A0 trivial ?_
 refine Af (A3 [((0,0),(0,0))] [((0,0),(0,0))] hwa) trivial ?_
 refine A0 hw ?_
 refine Fs (BM [] [((0,0),(0,0)),((8,1),(8,1))] [((0,0),(0,0)),((8,1),(8,1))] hv) trivial ?_
 refine A0 (j4 hol hr hg hrow) ?_
 exact Ad (Ac [((0,0),(0,0)),((8,1),(8,1)),((1,0),(1,0)),((4,0),(8,0)),((5,0),(5,0)),((6,0),(20,0)),((2,0),(2,0)),((3,0),(3,0))] []) Tryz.results144 (j2 hrow hrowk)
theorem JB {s:ByteArray}{d:DS}{b:Nat}(hb:b<256) (h:(d.want s b).code=0):(d.want s b).pl=d.pl+1:=by
 unfold DS.want at h ⊢
 cases hi:d.is s b with
 |true=>simp only[if_true];rfl
 |false =>
  rw[hi]at h
  simp only[Bool.false_eq_true,if_false]at h
  unfold DS.fail at h
  split at h
  ·exact absurd h (by show ¬((5:Int)=0);decide)
  ·rename_i h2;exact absurd h h2
def BB (d:DS):Nat:=if d.code=0 then 1 else 0
theorem Q1 (s:ByteArray) (hs:s.size≤100000) (rd:DS→V×DS) (n:Nat) (hn:n≤100) (hpl:∀d,d.pl≤s.size→d.pl≤(rd d).2.pl∧(rd d).2.pl≤s.size)
  (hv:∀d,d.pl≤s.size→AC Tryz.prog 79 [.ptr (0,0) 0,.c (.int .i64 ((n+1:Nat):Int))] (dsE o1 o2 s d) (rd d).1.av (dsE o1 o2 s (rd d).2)) (d:DS) (hd:d.pl≤s.size) (hd1:1≤d.pl) :
  AC Tryz.prog 141 [.ptr (0,0) 0,.c (.int .u8 93),.clo 142 [.ptr (1,0) 0,.ptr (2,0) 0,.ptr (3,0) 0]] (Tf o1 o2 s d [] n) (.tup []) (Sa o1 o2 s (DS.list s (Ck rd) 93 d []).1 (DS.list s (Ck rd) 93 d []).2 n):=by
 have hs':s.size≤1000000:=by omega
 have hsk:=Cc s hs' d hd
 obtain⟨p1,p2⟩:=Bv (s:=s) hd
 have htk:=Cm s hs' (d.skip s) p2 93 (by decide)
 unfold DS.list
 cases hi:(d.skip s).is s 93 with
 |true =>
  unfold DS.take at htk
  rw[hi]at htk
  simp only[if_true]at htk ⊢
  generalize (d.skip s).go ((d.skip s).pl+1)=d2 at *
  generalize d.skip s=d1 at *
  simp only[Aq]at htk hsk
  refine A7 Tryz.func141 Tryz.ntmps141 ?_
  refine A0 trivial ?_
  refine Af (A3 [((0,0),(0,0))] [((0,0),(0,0))] hsk) trivial ?_
  refine A0 trivial ?_
  refine Af (A3 [((0,0),(0,0))] [((0,0),(0,0))] htk) trivial ?_
  refine A0 trivial ?_
  exact Ad (Ac [((0,0),(0,0)),((8,1),(8,1)),((1,0),(1,0)),((4,0),(1,1)),((2,0),(2,0)),((3,0),(3,0))] []) Tryz.results141 hn
 |false =>
  unfold DS.take at htk
  rw[hi]at htk
  simp only[Bool.false_eq_true,if_false]at htk ⊢
  obtain⟨R,hR⟩:∃R,DS.listGo s (Ck rd) 93 (s.size+1) (d.skip s) []=R:=⟨_,rfl⟩
  rw[hR]
  generalize d.skip s=d1 at *
  simp only[Aq]at htk hsk
  (refine AC.intro_spx [(0,0),(8,1),(1,0),(2,0),(3,0)] Be Tryz.func141 rfl Tryz.ntmps141 (Nat.le_of_ble_eq_true rfl) rfl rfl ?_;simp only[go_sem,Nat.reduceAdd])
  refine A0 trivial ?_
  refine Af (A3 [((0,0),(0,0))] [((0,0),(0,0))] hsk) trivial ?_
  refine A0 trivial ?_
  refine Af (A3 [((0,0),(0,0))] [((0,0),(0,0))] htk) trivial ?_
  refine A0 trivial ?_
  refine AH (κ:=DS×List V) (fun k=>⟨mkS 0 27 [(0,.ptr (0,0) 0),(1,.c (.int .u8 93)),(2,.clo 142 [.ptr (1,0) 0,.ptr (2,0) 0,.ptr (3,0) 0])],
    [((0,0),.box [.c (.str s),.c (.int .i64 k.1.pl),.c (.int .i64 k.1.code),.c (.int .i64 k.1.bad)]),((8,1),.gen (BL o1 o2)),((1,0),.box [.own (99,0)]),((99,0),.row false 5 62 (k.2.map V.cs)),((2,0),.box [.ptr (0,0) 0]),((3,0),.box [.c (.int .i64 n)])]⟩)
   (fun k=>k.1.pl≤s.size∧k.2.length+BB k.1≤k.1.pl+1∧∃m,s.size-k.1.pl+BB k.1<m+1∧DS.listGo s (Ck rd) 93 m k.1 k.2=R) (fun k=>s.size-k.1.pl+BB k.1) (d1,[]) ⟨p2,by dsimp only;unfold BB;split<;>simp,s.size+1,by dsimp only;unfold BB;split<;>omega,hR⟩ ?_ ?_
  ·exact Ao (Ay.of [((0,0),(0,0)),((8,1),(8,1)),((1,0),(1,0)),((99,0),(1,1)),((2,0),(2,0)),((3,0),(3,0))] []) @List.map_nil.{0,0}
  ·rintro⟨q,kids⟩ ⟨hq,hkl,m,hm,hgo⟩
   dsimp only at hq hkl hm hgo ⊢
   by_cases hc:q.code=0
   ·have hcc:(q.code==0)=true:=by simpa using hc
    have hf1:BB q=1:=by unfold BB;rw[if_pos hc]
    rw[hf1]at hkl hm
    obtain⟨m,rfl⟩:∃m',m=m'+1:=⟨m-1,by omega⟩
    unfold DS.listGo Ck at hgo
    rw[if_neg (by simpa using hc)]at hgo
    simp only at hgo
    have hvq:=hv q hq
    obtain⟨v1,v2⟩:=hpl q hq
    have hp:=QF s q (rd q).2 kids (rd q).1 n hn (by omega) hvq
    have hsk2:=Cc s hs' (rd q).2 v2
    obtain⟨k1,k2⟩:=Bv (s:=s) v2
    have htk2:=Cm s hs' ((rd q).2.skip s) k2 93 (by decide)
    unfold DS.take at htk2
    cases hi2:((rd q).2.skip s).is s 93 with
    |true =>
     rw[hi2]at hgo htk2
     simp only[if_true]at hgo htk2
     subst hgo
     simp only[Aq]at htk2 hsk2
     generalize ((rd q).2.skip s).go (((rd q).2.skip s).pl+1)=q3 at *
     generalize (rd q).2.skip s=q2 at *
     refine A0 hcc ?_
     refine Af (A3 [((0,0),(0,0)),((8,1),(8,1)),((1,0),(1,0)),((1,1),(99,0)),((2,0),(2,0)),((3,0),(3,0))] [((0,0),(0,0)),((8,1),(8,1)),((1,0),(1,0)),((4,0),(17,0)),((2,0),(2,0)),((3,0),(3,0))] hp) trivial ?_
     refine A0 trivial ?_
     refine Af (A3 [((0,0),(0,0))] [((0,0),(0,0))] hsk2) trivial ?_
     refine A0 trivial ?_
     refine Af (A3 [((0,0),(0,0))] [((0,0),(0,0))] htk2) trivial ?_
     refine A0 trivial ?_
     exact Ad (Ac [((0,0),(0,0)),((8,1),(8,1)),((1,0),(1,0)),((4,0),(17,0)),((2,0),(2,0)),((3,0),(3,0))] []) Tryz.results141 hn
    |false =>
     rw[hi2]at hgo htk2
     simp only[Bool.false_eq_true,if_false]at hgo htk2
     have hwa:=Gp s hs' ((rd q).2.skip s) k2 44 (by decide)
     obtain⟨w1,w2,w3⟩:=Dv (s:=s) (d:=(rd q).2.skip s) (b:=44) (by decide) k2
     have hwn:=JB (s:=s) (d:=(rd q).2.skip s) (b:=44) (by decide)
     have hsk3:=Cc s hs' (((rd q).2.skip s).want s 44) w2
     obtain⟨j1,j2⟩:=Bv (s:=s) w2
     have hcd:=AG (s:=s) (((rd q).2.skip s).want s 44)
     obtain⟨q4,hq4⟩:∃q4,(((rd q).2.skip s).want s 44).skip s=q4:=⟨_,rfl⟩
     rw[hq4]at hgo hsk3 j1 j2 hcd
     obtain⟨q3,hq3⟩:∃q3,((rd q).2.skip s).want s 44=q3:=⟨_,rfl⟩
     rw[hq3]at hwa w1 w2 w3 hwn hsk3 j1 hcd
     simp only[Aq]at htk2 hsk2 hwa hsk3
     have hmm:(q4.code=0→q.pl+1≤q4.pl):=fun h=>by
      have:=hwn (by rw[←hcd];exact h)
      omega
     have hfl:BB q4=1∧q4.code=0∨BB q4=0:=by
      unfold BB
      by_cases h:q4.code=0
      ·exact .inl ⟨if_pos h,h⟩
      ·exact .inr (if_neg h)
     have hmes:s.size-q4.pl+BB q4<s.size-q.pl+1∧s.size-q4.pl+BB q4<m+1∧kids.length+1+BB q4≤q4.pl+1:=by
      rcases hfl with⟨h1,h2⟩ | h1
      ·have:=hmm h2;omega
      ·omega
     refine A0 hcc ?_
     refine Af (A3 [((0,0),(0,0)),((8,1),(8,1)),((1,0),(1,0)),((1,1),(99,0)),((2,0),(2,0)),((3,0),(3,0))] [((0,0),(0,0)),((8,1),(8,1)),((1,0),(1,0)),((4,0),(17,0)),((2,0),(2,0)),((3,0),(3,0))] hp) trivial ?_
     refine A0 trivial ?_
     refine Af (A3 [((0,0),(0,0))] [((0,0),(0,0))] hsk2) trivial ?_
     refine A0 trivial ?_
     refine Af (A3 [((0,0),(0,0))] [((0,0),(0,0))] htk2) trivial ?_
     refine A0 trivial ?_
     refine Af (A3 [((0,0),(0,0))] [((0,0),(0,0))] hwa) trivial ?_
     refine A0 trivial ?_
     refine Af (A3 [((0,0),(0,0))] [((0,0),(0,0))] hsk3) trivial ?_
     refine A0 trivial ?_
     refine⟨(q4,kids++[(rd q).1]),by dsimp only;rw[hf1];exact hmes.1,⟨j2,by dsimp only;rw[List.length_append];exact hmes.2.2,m,hmes.2.1,hgo⟩,?_⟩
     exact Ao (Ay.of [((0,0),(0,0)),((8,1),(8,1)),((1,0),(1,0)),((99,0),(17,0)),((2,0),(2,0)),((3,0),(3,0))] []) hn
   ·have hcc:(q.code==0)=false:=by simpa using hc
    rw[CH hc]at hgo
    subst hgo
    refine A0 hcc ?_
    exact Ad (Ac [((0,0),(0,0)),((8,1),(8,1)),((1,0),(1,0)),((4,0),(99,0)),((2,0),(2,0)),((3,0),(3,0))] []) Tryz.results141 hn
end Go.Proofs.YtlciedpfjhkkdaaGreatDoor
