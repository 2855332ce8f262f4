/- Texts of this proof: D30 D41 G19 P00 P38 F00 O07 O12 H30 O13 O14 O15. -/
import Derived.Test.YtllfmaflodbieaaGreatDoorKG29uD40
import Derived.Test.YtllfmaflodbieaaGreatDoorRows
import Derived.SizedLaws
import Derived.Deep.Slices
import Derived.Deep.Fields
import Derived.ChangeSame
import Derived.Test.YtllfmaflodbieaaGreatDoorCards
import Derived.Test.YtllfmaflodbieaaGreatDoorTie
import Derived.Lib.LaidTab
import Derived.LaidMore
import Derived.Stop.Joined
import Derived.SevenTiedAt
import Derived.Stop.LaidErr
set_option linter.all false
set_option maxHeartbeats 8000000
namespace Go.Proofs.YtllfmaflodbieaaGreatDoor
section
open Go.RowKit
set_option maxRecDepth 10000
theorem Rm (s:ByteArray) (hs:s.size≤1048576):AC Tryz.prog 30 [.c (.str s)] [] (.c (.sl ((D7 s).map Ab))) []:=by
 have h:=Sf s hs
 change AC Tryz.prog 69 [.c (.str s),.c (.str ⟨#[10]⟩)] [] (.own (0,0)) [((0,0),.row false 1 9 ((J8 s).map Ab))]at h
 obtain⟨hp,hq⟩:=RF s
 rw[←Nr]
 generalize J8 s=l at *
 have hll:(l.map Ab).length=l.length:=by simp
 obtain⟨k,hk⟩:∃k,l.length=k+1:=⟨l.length-1,by omega⟩
 have hw:IntKind.i64.wrap ((l.length:Int)-1)=(k:Int):=by rw[CG (by omega) (by omega)];omega
 have hlt:k<l.length:=by omega
 have hkl:k≤l.length:=by omega
 have hr:Aj (l.map Ab) 1 (k:Int)=true:=by simp[Aj,Ab,hlt]
 have hg:(l.map Ab)[k]? = some [C.str l[k]]:=by simp[hlt,Ab]
 have hlast:l.getLast? = some l[k]:=by rw[List.getLast?_eq_getElem?,hk,Nat.add_sub_cancel,List.getElem?_eq_getElem hlt]
 unfold J0
 rw[hlast]
 cases he:(l[k].toList==ByteArray.empty.toList) with
 |true =>
  have hx:l[k]=ByteArray.empty:=AA (by simpa using he)
  have htk:(l.map Ab).take k=l.dropLast.map Ab:=by rw[←List.map_take,List.dropLast_eq_take,hk,Nat.add_sub_cancel]
  rw[if_pos (by rw[hx])]
  refine A6 Tryz.func30 Tryz.ntmps30 ?_
  refine A0 trivial ?_
  refine w12 (IE [] h) trivial ?_
  refine A0 (j5 hll hw hr hg he) ?_
  ((with_reducible apply Y7);(iterate 4 (focus (first | (simp only[go_sem,Nat.reduceEqDiff,Nat.reduceAdd,Nat.reduceSub,Nat.reduceLeDiff,Nat.reduceMul,Nat.reduceBEq,Nat.reduceLT,Int.reduceToNat,reduceCtorEq,hll,hkl,htk];first | done | exact rfl | (and_intros<;>rfl)) | exact rfl | decide))))
  refine A0 trivial ?_
  exact Am (A7 []) Tryz.results30
 |false =>
  have hx:¬(some l[k]=some ByteArray.empty):=by
   intro h
   injection h with h
   rw[h]at he
   simp at he
  rw[if_neg hx]
  have ho:AC Tryz.prog 30 [.c (.str s)] [] (.own (0,0)) [((0,0),.row false 1 9 (l.map Ab))]:=by
   refine A6 Tryz.func30 Tryz.ntmps30 ?_
   refine A0 trivial ?_
   refine w12 (IE [] h) trivial ?_
   refine A0 (j5 hll hw hr hg he) ?_
   exact A9 (A8 [((0,0),(6,0))] []) Tryz.results30 he
  (apply (AC.says [] [(0,0)] ho);(focus (simp only[go_sem,Nat.reduceEqDiff,Nat.reduceAdd,Nat.reduceSub,Nat.reduceLeDiff,Nat.reduceMul,Nat.reduceBEq,Nat.reduceLT,Int.reduceToNat,reduceCtorEq];try (and_intros<;>rfl)));(focus exact rfl);(focus (simp only[go_sem,Nat.reduceEqDiff,Nat.reduceAdd,Nat.reduceSub,Nat.reduceLeDiff,Nat.reduceMul,Nat.reduceBEq,Nat.reduceLT,Int.reduceToNat,reduceCtorEq];try (and_intros<;>rfl)));(focus exact rfl);(iterate 4 (focus (simp[go_sem];done))))
end
section
open Go.RowKit
set_option maxRecDepth 10000
variable {o o1 o2:Obj}
noncomputable def Cb (s:ByteArray):List ByteArray→Nat→V→(Int×Nat)×Option V
 | [],_,t=>if DF (Dd t)=s then ((0,0),some t) else ((1,0),none)
 |x::L,k,t=>match FX x with
  |none=>((5,k),none)
  |some p=>match C3 p.2 p.1 t with
   | (_,some u)=>Cb s L (k+1) u
   | (c,none)=>((c,k),none)
noncomputable def Ji (s:ByteArray):(Int×Nat)×Option V:=if 4000<s.size then ((2,0),none) else Cb s (D7 s) 0 P5
theorem KN {s x:ByteArray}(h:FX x=none) (L:List ByteArray) (k:Nat) (t:V):Cb s (x::L) k t=((5,k),none):=by rw[Cb,h]
theorem Nj {s x:ByteArray}{p:List V×V}{t:V}{c:Int}(h:FX x=some p) (hp:C3 p.2 p.1 t=(c,none)) (L:List ByteArray) (k:Nat):Cb s (x::L) k t=((c,k),none):=by rw[Cb,h];dsimp only;rw[hp]
theorem Qz {s x:ByteArray}{p:List V×V}{t u:V}{c:Int}(h:FX x=some p) (hp:C3 p.2 p.1 t=(c,some u)) (L:List ByteArray) (k:Nat):Cb s (x::L) k t=Cb s L (k+1) u:=by rw[Cb,h];dsimp only;rw[hp]
theorem Ii {p:List V×V}{x:ByteArray}(h:FlatOk p x) {t:V}(ht:t.right):(∃c:Int,c≠0∧C3 p.2 p.1 t=(c,none))∨∃u,C3 p.2 p.1 t=(0,some u)∧u.right:=by
 have hr:=Ie h.right p.1 (fun k hk=>⟨(h.keys k hk).1,(h.keys k hk).2.2.2⟩) t ht
 unfold K4 at hr
 cases hp:C3 p.2 p.1 t with
 |mk c y =>
  rw[hp]at hr
  cases y with
  |none=>exact .inl ⟨c,hr,rfl⟩
  |some u =>
   obtain⟨h1,h2⟩:=hr
   have h1':c=0:=h1
   subst h1'
   exact .inr ⟨u,rfl,h2⟩
def rdI (r:(Int×Nat)×Option V):AV:=match r.2 with
 |none=>.agg [.c (.int .i64 r.1.1),.c (.int .i64 r.1.2),.nils]
 |some _=>.agg [.c (.int .i64 0),.c (.int .i64 0),.own (0,0)]
def a24 (r:(Int×Nat)×Option V):Mem:=match r.2 with
 |none=>[]
 |some v=>[((0,0),.row false 5 115 (v.enc.map CellD.cs))]
def rdS (r:(Int×Nat)×Option V):AV:=match r.2 with
 |none=>.agg [.c (.int .i64 r.1.1),.c (.int .i64 r.1.2),.nils]
 |some v=>.agg [.c (.int .i64 0),.c (.int .i64 0),.c (.sl (v.enc.map CellD.cs))]
theorem Ok (c:Int×Nat):rdI (c,none)=.agg [.c (.int .i64 c.1),.c (.int .i64 c.2),.nils]:=rfl
theorem a2e (c:Int×Nat) (v:V):rdI (c,some v)=.agg [.c (.int .i64 0),.c (.int .i64 0),.own (0,0)]:=rfl
theorem Lz (c:Int×Nat):a24 (c,none)=[]:=rfl
theorem a1u (c:Int×Nat) (v:V):a24 (c,some v)=[((0,0),.row false 5 115 (v.enc.map CellD.cs))]:=rfl
theorem Om (c:Int×Nat):rdS (c,none)=.agg [.c (.int .i64 c.1),.c (.int .i64 c.2),.nils]:=rfl
theorem a2f (c:Int×Nat) (v:V):rdS (c,some v)=.agg [.c (.int .i64 0),.c (.int .i64 0),.c (.sl (v.enc.map CellD.cs))]:=rfl
theorem a13 (R:Option (List V×ByteArray)):∃p v,ZU R=plA p v:=by
 cases R with
 |none=>exact⟨_,_,rfl⟩
 |some q=>exact⟨_,_,rfl⟩
theorem ZK (s:ByteArray) (hs:s.size≤1048576):AC Tryz.prog 16 [.c (.str s)] [] (rdS (Ji s)) []:=by
 have hL:=R9 s hs
 have hsz:∀x∈D7 s,x.size≤s.size:=EW s _ _ _
 have hll:=FF s s.size 0 0
 have h00:((0:Int) != 0)=false:=rfl
 unfold Ji
 by_cases h4:4000<s.size
 ·have g4:decide ((s.size:Int)>4000)=true:=decide_eq_true (by omega)
  rw[if_pos h4,Om]
  refine A6 Tryz.func16 Tryz.ntmps16 ?_
  refine A0 g4 ?_
  exact A9 (A8 [] []) Tryz.results16 g4
 ·have g4:decide ((s.size:Int)>4000)=false:=decide_eq_false (by omega)
  rw[if_neg h4]
  change (D7 s).length≤_ at hll
  generalize D7 s=L at *
  have hLl:(L.map Ab).length=L.length:=by simp
  obtain⟨R,hR⟩:∃R,Cb s L 0 P5=R:=⟨_,rfl⟩
  rw[hR]
  have hnl:=Wt
  refine A6 Tryz.func16 Tryz.ntmps16 ?_
  refine A0 g4 ?_
  refine w9 (Aa [] hnl) trivial ?_
  refine A0 trivial ?_
  refine w12 (IE [] hL) trivial ?_
  refine A0 trivial ?_
  refine AG (κ:=Nat×V) (fun x=>⟨mkS 0 64 [(0,.c (.str s)),(2,.ptr (2,0) 0),(3,.c (.sl (x.2.enc.map CellD.cs))),(4,.own (98,0)),(5,.c (.int .i64 x.1))],
    [((2,0),.box [.c (.int .i64 0),.c (.int .i64 0),.nils]),((98,0),.row false 1 9 (L.map Ab))]⟩)
   (fun x=>x.1≤L.length∧x.2.right∧Cb s (L.drop x.1) x.1 x.2=R) (fun x=>L.length-x.1) (0,P5) ⟨Nat.zero_le _,D9,hR⟩ ?_ ?_
  ·exact Aq (As.of [((2,0),(2,0)),((98,0),(17,0))] []) h00
  ·rintro⟨k,t⟩ ⟨hk,ht,hgo⟩
   dsimp only at hk ht hgo ⊢
   by_cases hlt:k<L.length
   ·have hdk:decide ((k:Int)<(L.length:Int))=true:=decide_eq_true (by omega)
    rw[List.drop_eq_getElem_cons hlt]at hgo
    have hr:Aj (L.map Ab) 1 k=true:=by simp[Aj,hlt,Ab]
    have hg:(L.map Ab)[k]? = some [C.str L[k]]:=by simp[hlt,Ab]
    have hxs:L[k].size≤4000:=by have:=hsz _ (List.getElem_mem hlt);omega
    have hw:=Ae (k:=k) (by omega)
    generalize L[k]=x at *
    cases hD:FX x with
    |none =>
     rw[KN hD]at hgo
     have hS:=q9 x hxs hD
     subst hgo
     rw[Om]
     refine A0 (j4 hLl hdk hr hg) ?_
     refine w9 (Aa [] hS) trivial ?_
     refine A0 trivial ?_
     exact A9 (A8 [] []) Tryz.results16 hdk
    |some p =>
     have hfo:=(Gq hxs).1 hD
     have hS:=r7 x hxs hD
     have hset:=ZY hfo.right p.1 (by have:=hfo.len;omega) (fun k hk=>⟨(hfo.keys k hk).1,(hfo.keys k hk).2.2.2⟩) t ht
     rcases Ii hfo ht with⟨c,hc,hp⟩ | ⟨u,hp,hu⟩
     ·rw[Nj hD hp]at hgo
      rw[hp,CD]at hset
      have hc0:(c != 0)=true:=by simpa using hc
      subst hgo
      rw[Om]
      refine A0 (j4 hLl hdk hr hg) ?_
      refine w9 (Aa [] hS) trivial ?_
      refine A0 trivial ?_
      refine w9 (Aa [] hset) trivial ?_
      refine A0 hc0 ?_
      exact A9 (A8 [] []) Tryz.results16 hdk
     ·rw[Qz hD hp]at hgo
      rw[hp,Dh]at hset
      refine A0 (j4 hLl hdk hr hg) ?_
      refine w9 (Aa [] hS) trivial ?_
      refine A0 trivial ?_
      refine w9 (Aa [] hset) trivial ?_
      refine A0 (j2 h00 hw) ?_
      refine⟨(k+1,u),by dsimp only;omega,⟨by dsimp only;omega,hu,hgo⟩,?_⟩
      exact Aq (As.of [((2,0),(2,0)),((98,0),(98,0))] []) hw
   ·have hdk:decide ((k:Int)<(L.length:Int))=false:=decide_eq_false (by omega)
    rw[List.drop_eq_nil_of_le (by omega),Cb]at hgo
    have hfl:=x9 ht
    by_cases he:DF (Dd t)=s
    ·rw[if_pos he]at hgo
     have hne:=H4 he
     generalize DF (Dd t)=fs at *
     subst hgo
     rw[a2f]
     refine A0 (j2 hLl hdk) ?_
     refine w7 (A3 [] hfl) trivial ?_
     refine A0 (j2 h00 hne) ?_
     exact A9 (A8 [] []) Tryz.results16 hdk
    ·rw[if_neg he]at hgo
     have hne:=J1 he
     generalize DF (Dd t)=fs at *
     subst hgo
     rw[Om]
     refine A0 (j2 hLl hdk) ?_
     refine w7 (A3 [] hfl) trivial ?_
     refine A0 (j2 h00 hne) ?_
     exact A9 (A8 [] []) Tryz.results16 hdk
theorem ZF (s:ByteArray) (hs:s.size≤1048576):AC Tryz.prog 17 [.c (.str s)] (teL o o1 o2) (rdI (Ji s)) (a24 (Ji s)++teL o o1 o2):=by
 have hL:=Rm s hs
 have hsz:∀x∈D7 s,x.size≤s.size:=EW s _ _ _
 have hll:=FF s s.size 0 0
 have h00:((0:Int) != 0)=false:=rfl
 unfold Ji
 by_cases h4:4000<s.size
 ·have g4:decide ((s.size:Int)>4000)=true:=decide_eq_true (by omega)
  rw[if_pos h4,Ok,Lz,List.nil_append]
  refine A6 Tryz.func17 Tryz.ntmps17 ?_
  refine A0 g4 ?_
  exact A9 (A8 [((8,0),(8,0)),((8,1),(8,1))] []) Tryz.results17 g4
 ·have g4:decide ((s.size:Int)>4000)=false:=decide_eq_false (by omega)
  rw[if_neg h4]
  change (D7 s).length≤_ at hll
  generalize D7 s=L at *
  have hLl:(L.map Ab).length=L.length:=by simp
  obtain⟨R,hR⟩:∃R,Cb s L 0 P5=R:=⟨_,rfl⟩
  rw[hR]
  have hnl:=Xn
  rw[Vu]at hnl
  have hk0:P5.kind=0:=rfl
  have hn0:P5.num=0:=rfl
  have ht0:P5.text=ByteArray.empty:=rfl
  have hy0:P5.keys.map Ab=[]:=rfl
  have hi0:P5.kids.map V.cs=[]:=rfl
  refine A6 Tryz.func17 Tryz.ntmps17 ?_
  refine A0 g4 ?_
  refine w9 (Aa [] hnl) trivial ?_
  refine A0 trivial ?_
  refine w9 (Aa [] hL) trivial ?_
  refine A0 hLl ?_
  refine AG (κ:=Nat×V) (fun x=>⟨mkS 0 55 [(0,.c (.str s)),(2,.ptr (2,0) 0),(3,.ptr (3,0) 0),(15,.c (.sl (L.map Ab))),(16,.c (.int .i64 L.length)),(17,.c (.int .i64 x.1))],
    [((2,0),.box [.c (.int .i64 0),.c (.int .i64 0),.nils]),((8,0),.blk (Kb o) []),((8,1),.gen (Cf o1 o2)),((3,0),.box [.c (.int .i64 x.2.kind),.c (.int .i64 x.2.num),.c (.str x.2.text),.c (.sl (x.2.keys.map Ab)),.c (.sl (x.2.kids.map V.cs))])]⟩)
   (fun x=>x.1≤L.length∧x.2.right∧Cb s (L.drop x.1) x.1 x.2=R) (fun x=>L.length-x.1) (0,P5) ⟨Nat.zero_le _,D9,hR⟩ ?_ ?_
  ·exact Aq (As.of [((2,0),(2,0)),((8,0),(8,0)),((8,1),(8,1)),((3,0),(3,0))] []) (j5 hk0 hn0 ht0 hy0 hi0)
  ·rintro⟨k,t⟩ ⟨hk,ht,hgo⟩
   dsimp only at hk ht hgo ⊢
   by_cases hlt:k<L.length
   ·have hdk:decide ((k:Int)<(L.length:Int))=true:=decide_eq_true (by omega)
    rw[List.drop_eq_getElem_cons hlt]at hgo
    have hr:Aj (L.map Ab) 1 k=true:=by simp[Aj,hlt,Ab]
    have hg:(L.map Ab)[k]? = some [C.str L[k]]:=by simp[hlt,Ab]
    have hxs:L[k].size≤4000:=by have:=hsz _ (List.getElem_mem hlt);omega
    have hw:=Ae (k:=k) (by omega)
    generalize L[k]=x at *
    cases hD:FX x with
    |none =>
     rw[KN hD]at hgo
     have hS:=q7 (o:=o) (o1:=o1) (o2:=o2) x hxs hD
     obtain⟨jp,jv,hj⟩:=a13 (ES (x.size+1) (DL 46 x) [])
     rw[hj]at hS
     unfold plA at hS
     subst hgo
     rw[Ok,Lz,List.nil_append]
     refine A0 (j4 hLl hdk hr hg) ?_
     refine Jj (Dr [] [((8,0),(8,0)),((8,1),(8,1))] [((8,0),(8,0)),((8,1),(8,1))] hS) trivial ?_
     refine A0 trivial ?_
     exact A9 (A8 [((8,0),(8,0)),((8,1),(8,1))] []) Tryz.results17 hdk
    |some p =>
     have hfo:=(Gq hxs).1 hD
     have hS:=q8 (o:=o) (o1:=o1) (o2:=o2) x hxs hD
     unfold plA at hS
     have hset:=Zz hfo.right p.1 (by have:=hfo.len;omega) (fun k hk=>⟨(hfo.keys k hk).1,(hfo.keys k hk).2.2.2⟩) t ht
     rcases Ii hfo ht with⟨c,hc,hp⟩ | ⟨u,hp,hu⟩
     ·rw[Nj hD hp]at hgo
      rw[hp,show Qr (c,none)=Zo c P5 from rfl,PU]at hset
      have hc0:(c != 0)=true:=by simpa using hc
      subst hgo
      rw[Ok,Lz,List.nil_append]
      refine A0 (j4 hLl hdk hr hg) ?_
      refine Jj (Dr [] [((8,0),(8,0)),((8,1),(8,1))] [((8,0),(8,0)),((8,1),(8,1))] hS) trivial ?_
      refine A0 trivial ?_
      refine w9 (Aa [] hset) trivial ?_
      refine A0 hc0 ?_
      exact A9 (A8 [((8,0),(8,0)),((8,1),(8,1))] []) Tryz.results17 hdk
     ·rw[Qz hD hp]at hgo
      rw[hp,show Qr (0,some u)=Zo 0 u from rfl,WV]at hset
      refine A0 (j4 hLl hdk hr hg) ?_
      refine Jj (Dr [] [((8,0),(8,0)),((8,1),(8,1))] [((8,0),(8,0)),((8,1),(8,1))] hS) trivial ?_
      refine A0 trivial ?_
      refine w9 (Aa [] hset) trivial ?_
      refine A0 (j2 h00 hw) ?_
      refine⟨(k+1,u),by dsimp only;omega,⟨by dsimp only;omega,hu,hgo⟩,?_⟩
      exact Aq (As.of [((2,0),(2,0)),((8,0),(8,0)),((8,1),(8,1)),((3,0),(3,0))] []) hw
   ·have hdk:decide ((k:Int)<(L.length:Int))=false:=decide_eq_false (by omega)
    rw[List.drop_eq_nil_of_le (by omega),Cb]at hgo
    have hfl:=a2p (o:=o) ht
    have hce:=OO ht
    by_cases he:DF (Dd t)=s
    ·rw[if_pos he]at hgo
     have hne:=H4 he
     generalize DF (Dd t)=fs at *
     subst hgo
     rw[a2e,a1u]
     refine A0 (j2 hLl hdk) ?_
     refine w10 (EB FM FI (8,0) [] hfl) trivial ?_
     refine A0 hne ?_
     refine w12 (IE [] hce) trivial ?_
     refine A0 trivial ?_
     exact A9 (A8 [((8,0),(8,0)),((8,1),(8,1)),((0,0),(53,0))] []) Tryz.results17 hdk
    ·rw[if_neg he]at hgo
     have hne:=J1 he
     generalize DF (Dd t)=fs at *
     subst hgo
     rw[Ok,Lz,List.nil_append]
     refine A0 (j2 hLl hdk) ?_
     refine w10 (EB FM FI (8,0) [] hfl) trivial ?_
     refine A0 hne ?_
     exact A9 (A8 [((8,0),(8,0)),((8,1),(8,1))] []) Tryz.results17 hdk
end
section
open Go.RowKit
set_option maxRecDepth 10000
theorem RK (c at1:Int) (ys:List CellD) (hl:ys.length≤9223372036854775807):AC Tryz.prog 18 [.agg [.c (.int .i64 c),.c (.int .i64 at1),Ce ys],.agg [.c (.int .i64 c),.c (.int .i64 at1),Ce ys]] [] (.c (.bool true)) []:=by
 have hne:(c != c)=false:=by simp
 have hne2:(at1 != at1)=false:=by simp
 have he:=Kw ys hl
 refine A6 Tryz.func18 Tryz.ntmps18 ?_
 refine A0 (j2 hne hne2) ?_
 refine w7 (A3 [] he) trivial ?_
 refine A0 trivial ?_
 exact Am (A7 []) Tryz.results18
theorem NN (c at1:Int) (n K:Nat) (hK:K+5*n≤3000000000):AC Tryz.prog 20 [.agg [.c (.int .i64 c),.c (.int .i64 at1),Ce (BO K n)],.c (.int .i64 K)] [] (.c (.int .i64 ((K+5*n:Nat):Int))) []:=by
 have he:=IC n K hK
 have hn0:decide (((K+5*n:Nat):Int)<0)=false:=by simp;omega
 refine A6 Tryz.func20 Tryz.ntmps20 ?_
 refine A0 trivial ?_
 refine w7 (A3 [] he) trivial ?_
 refine A0 hn0 ?_
 exact Am (A7 []) Tryz.results20
theorem Oa (c at1:Int) (ys:List CellD) (K es:Nat) (e:TypeId) (hes:ys≠[]→es=5) (hK:K+5*ys.length≤3000000000) :
  AC Tryz.prog 19 [.agg [.c (.int .i64 c),.c (.int .i64 at1),.own (0,0)],.c (.int .i64 K)] [((0,0),.row false es e (ys.map CellD.cs))] (.c (.int .i64 ((K+5*ys.length:Nat):Int))) [((0,0),.row false es e ((BO K ys.length).map CellD.cs))]:=by
 have he:=IH ys K es e hes hK
 refine A6 Tryz.func19 Tryz.ntmps19 ?_
 refine A0 trivial ?_
 refine w9 (Ri (0,0) he) trivial ?_
 refine A0 trivial ?_
 exact A9 (A8 [((0,0),(0,0))] []) Tryz.results19 hK
theorem PO (c at1:Int):AC Tryz.prog 18 [.agg [.c (.int .i64 c),.c (.int .i64 at1),.nils],.agg [.c (.int .i64 c),.c (.int .i64 at1),.nils]] [] (.c (.bool true)) []:=by
 have hne:(c != c)=false:=by simp
 have hne2:(at1 != at1)=false:=by simp
 have he:=Kw [] (by simp)
 refine A6 Tryz.func18 Tryz.ntmps18 ?_
 refine A0 (j2 hne hne2) ?_
 refine w7 (A3 [] he) @List.map_nil.{0,0} ?_
 refine A0 trivial ?_
 exact Am (A7 []) Tryz.results18
theorem Mj (c at1:Int) (K:Nat) (hK:K≤3000000000):AC Tryz.prog 20 [.agg [.c (.int .i64 c),.c (.int .i64 at1),.nils],.c (.int .i64 K)] [] (.c (.int .i64 K)) []:=by
 have he:=IC 0 K (by omega)
 rw[show ((K+5*0:Nat):Int)=(K:Int) from rfl,show BO K 0=[] from rfl]at he
 have hn0:decide ((K:Int)<0)=false:=by simp
 refine A6 Tryz.func20 Tryz.ntmps20 ?_
 refine A0 trivial ?_
 refine w7 (A3 [] he) @List.map_nil.{0,0} ?_
 refine A0 hn0 ?_
 exact Am (A7 []) Tryz.results20
theorem Mw (c at1:Int) (K:Nat):AC Tryz.prog 19 [.agg [.c (.int .i64 c),.c (.int .i64 at1),.nils],.c (.int .i64 K)] [] (.c (.int .i64 K)) []:=by
 have he:=ZH K
 refine A6 Tryz.func19 Tryz.ntmps19 ?_
 refine A0 trivial ?_
 refine w7 (A3 [] he) trivial ?_
 refine A0 trivial ?_
 exact Am (A7 []) Tryz.results19
end
section
open Go.RowKit
set_option maxRecDepth 10000
variable {o o1 o2:Obj}
theorem RZ (s:ByteArray) (hs:1048576<s.size):AC Tryz.prog 5 [.c (.str s)] (teL o o1 o2) (.c (.bool true)) (teL o o1 o2):=by
 have hb:decide ((s.size:Int)>1048576)=true:=decide_eq_true (by omega)
 refine A6 Tryz.func5 Tryz.ntmps5 ?_
 refine A0 hb ?_
 exact A9 (A8 [((8,0),(8,0)),((8,1),(8,1))] []) Tryz.results5 hb
theorem ZG (s:ByteArray) (hs:¬1048576<s.size) (ys:List CellD) (hy:ys.length≤200) (hspec:AC Tryz.prog 16 [.c (.str s)] [] (.agg [.c (.int .i64 0),.c (.int .i64 0),.c (.sl (ys.map CellD.cs))]) [])
  (himpl:AC Tryz.prog 17 [.c (.str s)] (teL o o1 o2) (.agg [.c (.int .i64 0),.c (.int .i64 0),.own (0,0)]) [((0,0),.row false 5 115 (ys.map CellD.cs)),((8,0),.blk (Kb o) []),((8,1),.gen (Cf o1 o2))]):AC Tryz.prog 5 [.c (.str s)] (teL o o1 o2) (.c (.bool true)) (teL o o1 o2):=by
 have hb:decide ((s.size:Int)>1048576)=false:=decide_eq_false (by omega)
 have he:=RK 0 0 ys (by omega)
 have hm:=Oa 0 0 ys 1 5 115 (fun _=>rfl) (by omega)
 have hh:=NN 0 0 ys.length 1 (by omega)
 have hm0:decide (((1+5*ys.length:Nat):Int)<0)=false:=by simp;omega
 have hmm:(((1+5*ys.length:Nat):Int) != ((1+5*ys.length:Nat):Int))=false:=by simp
 refine A6 Tryz.func5 Tryz.ntmps5 ?_
 refine A0 hb ?_
 refine w9 (Aa [] hspec) trivial ?_
 refine A0 trivial ?_
 refine VH (Qs [] [((8,0),(8,0)),((8,1),(8,1))] [((0,0),(14,0)),((8,0),(8,0)),((8,1),(8,1))] himpl) trivial ?_
 refine A0 trivial ?_
 refine w7 (A3 [(14,0)] he) trivial ?_
 refine A0 trivial ?_
 refine w9 (Ri (14,0) hm) trivial ?_
 refine A0 (j2 hm0 hmm) ?_
 refine w7 (A3 [(14,0)] hh) trivial ?_
 refine A0 (j2 hm0 hmm) ?_
 refine VH (Qs [] [((8,0),(8,0)),((8,1),(8,1))] [((0,0),(31,0)),((8,0),(8,0)),((8,1),(8,1))] himpl) trivial ?_
 refine A0 (j2 hm0 hmm) ?_
 refine w7 (A3 [(31,0)] he) trivial ?_
 refine A0 hm0 ?_
 refine w7 (A3 [(14,0)] hh) trivial ?_
 refine A0 (j2 hm0 hmm) ?_
 exact A9 (A8 [((8,0),(8,0)),((8,1),(8,1))] []) Tryz.results5 hb
theorem WD (s:ByteArray) (hs:¬1048576<s.size) (c at1:Int) (hspec:AC Tryz.prog 16 [.c (.str s)] [] (.agg [.c (.int .i64 c),.c (.int .i64 at1),.nils]) [])
  (himpl:AC Tryz.prog 17 [.c (.str s)] (teL o o1 o2) (.agg [.c (.int .i64 c),.c (.int .i64 at1),.nils]) (teL o o1 o2)):AC Tryz.prog 5 [.c (.str s)] (teL o o1 o2) (.c (.bool true)) (teL o o1 o2):=by
 have hb:decide ((s.size:Int)>1048576)=false:=decide_eq_false (by omega)
 have he:=PO c at1
 have hm:=Mw c at1 1
 have hh:=Mj c at1 1 (by omega)
 have hm0:decide (((1:Nat):Int)<0)=false:=rfl
 have hmm:(((1:Nat):Int) != ((1:Nat):Int))=false:=by simp
 refine A6 Tryz.func5 Tryz.ntmps5 ?_
 refine A0 hb ?_
 refine w7 (A3 [] hspec) trivial ?_
 refine A0 trivial ?_
 refine Ah (A4 [((8,0),(8,0)),((8,1),(8,1))] [((8,0),(8,0)),((8,1),(8,1))] himpl) trivial ?_
 refine A0 trivial ?_
 refine w7 (A3 [] he) trivial ?_
 refine A0 trivial ?_
 refine w7 (A3 [] hm) trivial ?_
 refine A0 (j2 hm0 hmm) ?_
 refine w7 (A3 [] hh) trivial ?_
 refine A0 (j2 hm0 hmm) ?_
 refine Ah (A4 [((8,0),(8,0)),((8,1),(8,1))] [((8,0),(8,0)),((8,1),(8,1))] himpl) trivial ?_
 refine A0 (j2 hm0 hmm) ?_
 refine w7 (A3 [] he) trivial ?_
 refine A0 hm0 ?_
 refine w7 (A3 [] hh) trivial ?_
 refine A0 (j2 hm0 hmm) ?_
 exact A9 (A8 [((8,0),(8,0)),((8,1),(8,1))] []) Tryz.results5 hb
theorem Py (s:ByteArray) (hs:s.size≤4000):∀(L:List ByteArray) (k:Nat) (t:V),(∀x∈L,x.size≤s.size)→t.right→∀{c:Int×Nat}{v:V},Cb s L k t=(c,some v)→v.right∧c=(0,0)
 | [],k,t,_,ht,c,v,h=>by
  rw[Cb]at h
  split at h
  ·cases h;exact⟨ht,rfl⟩
  ·cases h
 |x::L,k,t,hL,ht,c,v,h=>by
  cases hD:FX x with
  |none=>rw[KN hD]at h;cases h
  |some p =>
   have hfo:=(Gq (by have:=hL x (by simp);omega)).1 hD
   rcases Ii hfo ht with⟨c',hc,hp⟩ | ⟨u,hp,hu⟩
   ·rw[Nj hD hp]at h;cases h
   ·rw[Qz hD hp]at h
    exact Py s hs L (k+1) u (fun y hy=>hL y (by simp[hy])) hu h
theorem f7 (s:ByteArray):AC Tryz.prog 5 [.c (.str s)] (teL o o1 o2) (.c (.bool true)) (teL o o1 o2):=by
 by_cases hs:1048576<s.size
 ·exact RZ s hs
 have hsp:=ZK s (by omega)
 have him:=ZF (o:=o) (o1:=o1) (o2:=o2) s (by omega)
 cases hd:Ji s with
 |mk c y =>
  rw[hd]at hsp him
  cases y with
  |none=>exact WD s hs c.1 c.2 hsp him
  |some v =>
   have hv:v.right:=by
    unfold Ji at hd
    split at hd
    ·cases hd
    ·exact (Py s (by omega) _ _ _ (EW s _ _ _) D9 hd).1
   have hc:=hv.2.1
   have hl:=Bv v
   exact ZG s hs v.enc (by omega) hsp him
end
section
open Go.ChangeShapes Go.WideShapes Go.ChangeAt Go.RowKit Go.Deep
theorem Tryz.own:ownKnob Tryz.prog.godebug=none:=by kernel_rfl
theorem Tryz.laidOut:laidOutB Tryz.prog=true:=by kernel_rfl
def VU:DataW Unit→Array Value
 | .agg l=>(l.map fun | .lit (.int k z)=>Value.int k z | _=>.bool false).toArray
 |_=>#[]
def Yf (d:DataW Unit):Obj→Obj
 | .cells _ t fz=>.cells (VU d) t fz
 |o=>o
theorem Px : Tryz.prog.globalNamed "internal/strconv.uint64pow10" = some 1 := by kernel_rfl
theorem Z4:(Tryz.prog.globals[1]?).map (·.type)=some 290:=by kernel_rfl
theorem Zc:(Rows.laid_internal_strconv_uint64pow10:DataW Unit)=Lib.tabData .u64 Lib.pow10Tab:=by kernel_rfl
theorem TQ {w : World} (ht : Lib.TabIs Tryz.prog w "internal/strconv.uint64pow10" .u64 Lib.pow10Tab) : ∃ o, w.heap[1]? = some o := by
 unfold Lib.TabIs World.var? at ht
 rw[Px]at ht
 simp only[Option.bind_some]at ht
 cases ho:w.heap[1]? with
 |none=>rw[ho]at ht;cases ht
 |some o=>exact⟨o,rfl⟩
def Z7 (n:Nat):Obj→Obj
 | .cells _ t fz=>.cells #[.iface 363 (.pointer (some ⟨n,0,none⟩))] t fz
 |o=>o
def Yv:ByteArray:=⟨#[118,97,108,117,101,32,111,117,116,32,111,102,32,114,97,110,103,101]⟩
def Xo:ByteArray:=⟨#[105,110,118,97,108,105,100,32,115,121,110,116,97,120]⟩
noncomputable def Z5:Nat:=(World.holding Tryz.prog default ⟨#[],#[],[]⟩).heap.size
theorem XV : Tryz.prog.globalNamed "strconv.ErrRange" = some 7 := by kernel_rfl
theorem XU : Tryz.prog.globalNamed "strconv.ErrSyntax" = some 6 := by kernel_rfl
theorem YX:(Tryz.prog.globals[7]?).map (·.type)=some 62:=by kernel_rfl
theorem Za:(Tryz.prog.globals[6]?).map (·.type)=some 62:=by kernel_rfl
theorem XP : "*" ++ "errors.errorString" = "*errors.errorString" := by decide
theorem Z9 (u : TypeId) (h : Tryz.prog.typeName? 3 u = some "*errors.errorString") : u = 363 :=
 typeName_ptr_named (nm := "errors.errorString") (by rw [XP]; kernel_rfl) (by kernel_rfl) (by decide) u (by rw [XP]; exact h)
theorem Zm:∃ms,Tryz.prog.underlying 62=some (.interface ms):=⟨_,Tryz.underlying62⟩
theorem YW:Tryz.prog.underlying 363=some (.pointer 365):=Tryz.underlying363
theorem Zp:∃f:Field,Tryz.prog.underlying 365=some (.struct #[f])∧f.type=9∧f.offset=0:=⟨_,Tryz.underlying365,rfl,rfl⟩
theorem c1E:Tryz.prog.cellsOf 365=1:=by kernel_rfl
theorem c2E:Tryz.prog.cellsOf 9=1:=by kernel_rfl
theorem SG {W:World}{n:String}{g:Nat}(hg:Tryz.prog.globalNamed n=some g) (h:∃tp p,W.var? Tryz.prog n=some #[.iface tp p]):∃o,W.heap[g]? = some o∧Qn o:=by
 obtain⟨tp,p,h⟩:=h
 unfold World.var? at h
 rw[hg]at h
 simp only[Option.bind_some]at h
 cases ho:W.heap[g]? with
 |none=>rw[ho]at h;cases h
 |some o =>
  rw[ho]at h
  cases o with
  |cells cs t fz =>
   simp only[Option.some.injEq]at h
   subst h
   refine⟨_,rfl,fun w b hb=>⟨.iface tp p,?_,.inr ⟨tp,p,rfl⟩⟩⟩
   unfold World.cell?
   simp[hb]
  |_=>cases h
end
section
open Go.RowKit
set_option maxRecDepth 10000
variable {o o1 o2:Obj}
abbrev teM (o o1 o2:Obj):Mem:=[((8,0),.blk (Kb o) []),((8,1),.gen (Cf o1 o2))]
end
section
open Go.ChangeShapes Go.WideShapes Go.ChangeAt Go.RowKit Go.Deep
theorem Yq {o o1 o2:Obj}{i:Id}{q:AO}(h:Mem.get (teM o o1 o2) i=some q):(i=(8,0)∧q=.blk (Kb o) [])∨(i=(8,1)∧q=.gen (Cf o1 o2)):=by
 simp only[Mem.get,List.lookup_cons,List.lookup_nil]at h
 by_cases hq:i=(8,0)
 ·subst hq
  exact .inl ⟨rfl,by simpa [eq_comm] using h⟩
 ·have e1:(i==((8,0):Id))=false:=by simpa using hq
  rw[e1]at h
  by_cases hq2:i=(8,1)
  ·subst hq2
   exact .inr ⟨rfl,by simpa [eq_comm] using h⟩
  ·have e2:(i==((8,1):Id))=false:=by simpa using hq2
   rw[e2]at h
   cases h
theorem AC.calls_te {o o1 o2:Obj}{f:FuncId}{args:List AV}{b:Bool}(h:AC Tryz.prog f args (teM o o1 o2) (.c (.bool b)) (teM o o1 o2)) {w:World}{S:Nat→Prop}{B7:List Value}
  (ho : w.heap[1]? = some o) (htab : Lib.TabIs Tryz.prog w "internal/strconv.uint64pow10" .u64 Lib.pow10Tab) (ho1 : w.heap[6]? = some o1) (ho2 : w.heap[7]? = some o2) (h1 : Qn o1) (h2 : Qn o2)
  (hS0:¬S 1) (hS1:¬S 6) (hS2:¬S 7)
  (hv:∀(T:Nat→Prop),(∀b,S b→T b)→∀m κ,ARs w T m κ args B7):Calls Tryz.prog f B7.toArray w fun e w'=>e=.returned (.bool b)∧Below w.heap.size w w':=by
 have hl0:1<w.heap.size:=(Array.getElem?_eq_some_iff.1 ho).1
 have hl1:6<w.heap.size:=(Array.getElem?_eq_some_iff.1 ho1).1
 have hl2:7<w.heap.size:=(Array.getElem?_eq_some_iff.1 ho2).1
 let Γ:Ctx:=⟨w,S,fun b=>if b=1 then some (8,0) else if b=6 then some (8,1) else if b=7 then some (8,1) else none,fun _=>.bool false,[(8,0),(8,1)]⟩
 have hE:Entry Γ (teM o o1 o2):=by
  refine⟨fun i o' hi=>?_,fun b i hb=>?_,rfl⟩
  ·rcases Yq hi with⟨rfl,rfl⟩ | ⟨rfl,rfl⟩
   ·refine⟨1,o,[],rfl,ho,by simp[Ag],rfl,Px,fun w2 h2=>?_⟩
    unfold Lib.TabIs World.var? at htab ⊢
    rw[Px]at htab ⊢
    simp only[Option.bind_some,h2,ho]at htab ⊢
    exact htab
   ·refine⟨[(6,o1),(7,o2)],fun p hp=>?_,rfl,h1,h2⟩
    simp only[List.mem_cons,List.not_mem_nil,or_false]at hp
    rcases hp with rfl | rfl
    ·exact⟨rfl,ho1⟩
    ·exact⟨rfl,ho2⟩
  ·simp only[Γ]at hb
   split at hb
   ·rename_i e
    subst e
    cases hb
    exact⟨hl0,_,rfl,rfl⟩
   ·split at hb
    ·rename_i e
     subst e
     cases hb
     exact⟨hl1,_,rfl,rfl⟩
    ·split at hb
     ·rename_i e
      subst e
      cases hb
      exact⟨hl2,_,rfl,rfl⟩
     ·cases hb
 refine (h Γ B7 hE (hv _ (fun b hb=>⟨by simp only[Γ];rw[if_neg (by rintro rfl;exact hS0 hb),if_neg (by rintro rfl;exact hS1 hb),if_neg (by rintro rfl;exact hS2 hb)],.inl hb⟩) _ _)).mono ?_
 rintro e w' ⟨v,ow,κ,rfl,hx⟩
 obtain⟨rfl,_⟩:=hx.res
 refine⟨rfl,hx.os,hx.tape,hx.output,hx.size,fun b hb=>?_⟩
 obtain⟨b',obj,vr,k1,k2,k3,rfl,k5,k6⟩:=hx.objs (8,0) _ rfl
 obtain⟨l,j1,rfl,_⟩:=hx.objs (8,1) _ rfl
 rw[Px]at k5
 cases k5
 by_cases hb0:b=1
 ·subst hb0
  rw[ho]
  exact k2
 ·by_cases hb1:b=6
  ·subst hb1
   rw[ho1]
   exact (j1 (6,o1) (by simp)).2
  ·by_cases hb2:b=7
   ·subst hb2
    rw[ho2]
    exact (j1 (7,o2) (by simp)).2
   ·exact (hx.frame b hb (by simp only[Γ];rw[if_neg hb0,if_neg hb1,if_neg hb2])).1
def Vv:DataW Unit→Array Value
 | .agg l=>(l.map fun | .lit (.int k z)=>[Value.int k z] | .agg m=>m.map (fun | .lit (.int k z)=>Value.int k z | _=>.bool false) | _=>[.bool false]).flatten.toArray
 |_=>#[]
def Zd (d:DataW Unit):Obj→Obj
 | .cells _ t fz=>.cells (Vv d) t fz
 |o=>o
noncomputable def L2 (os:Os):World :=
 let w0:=World.holding Tryz.prog os ⟨#[.cells #[.string Yv] 365,.cells #[.string Xo] 365],#[],[]⟩
 { w0 with heap:=((((((w0.heap.modify 4 (Yf Rows.laid_math_bits_deBruijn32tab)).modify 5 (Yf Rows.laid_math_bits_deBruijn64tab)).modify 1 (Yf Rows.laid_internal_strconv_uint64pow10)).modify 3 (Zd Rows.laid_unicode_utf8_acceptRanges)).modify 7 (Z7 Z5)).modify 6 (Z7 (Z5+1))).modify 2 (Zd Rows.laid_unicode_utf8_first) }
abbrev H8 : List (String × DataW Unit) := [("math/bits.deBruijn32tab", Rows.laid_math_bits_deBruijn32tab), ("math/bits.deBruijn64tab", Rows.laid_math_bits_deBruijn64tab), ("internal/strconv.uint64pow10", Rows.laid_internal_strconv_uint64pow10), ("unicode/utf8.acceptRanges", Rows.laid_unicode_utf8_acceptRanges), ("strconv.ErrRange", Rows.laid_strconv_ErrRange), ("strconv.ErrSyntax", Rows.laid_strconv_ErrSyntax), ("unicode/utf8.first", Rows.laid_unicode_utf8_first)]
theorem U1 (os:Os) (args:Array Value):laidMetH Tryz.prog H8 ((L2 os).forCall (fun _ _=>0) ⟨#[],args,[]⟩).memory :=
 show laidMet Tryz.prog H8 _ from laidMet_of_run' 8 (by kernel_rfl) (by kernel_rfl)
theorem V1 {W : World} (h : laidMetH Tryz.prog H8 W) : (∃ tp p, W.var? Tryz.prog "strconv.ErrRange" = some #[.iface tp p]) ∧ (∃ tp p, W.var? Tryz.prog "strconv.ErrSyntax" = some #[.iface tp p]) := by
 have h':laidMet Tryz.prog H8 W:=h
 obtain⟨ms,ht⟩:=Zm
 obtain⟨f,hs,hf1,hf2⟩:=Zp
 have h3 : laidMet Tryz.prog [("strconv.ErrRange", Rows.laid_strconv_ErrRange), ("strconv.ErrSyntax", Rows.laid_strconv_ErrSyntax), ("unicode/utf8.first", Rows.laid_unicode_utf8_first)] W := laidMet.tail (laidMet.tail (laidMet.tail (laidMet.tail h')))
 obtain⟨a,s,h5,_⟩:=laid_sentinel h3 XV YX ht Z9 YW hs hf1 hf2 Tryz.underlying9 c1E c2E
 obtain⟨a2,s2,h6,_⟩:=laid_sentinel (laidMet.tail h3) XU Za ht Z9 YW hs hf1 hf2 Tryz.underlying9 c1E c2E
 exact⟨⟨_,_,h5⟩,_,_,h6⟩
theorem Sw {W : World} (h : laidMetH Tryz.prog H8 W) : Lib.TabIs Tryz.prog W "internal/strconv.uint64pow10" .u64 Lib.pow10Tab := by
 have h0:laidMet Tryz.prog H8 W:=h
 have h':=laidMet.tail (laidMet.tail h0)
 obtain⟨ps,⟨g2,t2,cs2,f2,p2,q2,hg2,ht2,hv2,hd2,_,_⟩,_,_⟩:=h'
 obtain rfl:=Option.some.inj (Px.symm.trans hg2)
 obtain rfl:=Option.some.inj (Z4.symm.trans ht2)
 rw[Zc]at hd2
 unfold Lib.TabIs
 rw[hv2,←Lib.cells_of_tab Tryz.underlying290 Tryz.underlying249 (by kernel_rfl) (by kernel_rfl) hd2]
theorem Tx {f:FuncId}(s:ByteArray) (hac:∀o o1 o2,AC Tryz.prog f [.c (.str s)] (teM o o1 o2) (.c (.bool true)) (teM o o1 o2)) (w:World) (h:laidMetH Tryz.prog H8 w) :
  Calls Tryz.prog f #[.string s] w fun e w'=>e=.returned (.bool true)∧Below w.heap.size w w':=by
 obtain⟨hr,hs⟩:=V1 h
 obtain⟨o2,ho2,h2⟩:=SG XV hr
 obtain⟨o1,ho1,h1⟩:=SG XU hs
 obtain⟨o,ho⟩:=TQ (Sw h)
 exact AC.calls_te (S:=fun _=>False) (hac o o1 o2) ho (Sw h) ho1 ho2 h1 h2 (fun h=>h) (fun h=>h) (fun h=>h) fun T hT m κ=>⟨_,_,rfl,⟨rfl,rfl⟩,rfl⟩
end
end Go.Proofs.YtllfmaflodbieaaGreatDoor
