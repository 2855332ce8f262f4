/- Texts of this proof: D31 D32 G19 P00. -/
import Derived.Test.YtlciedpfjhkkdaaGreatDoorKD28uD30
set_option linter.all false
set_option maxHeartbeats 8000000
namespace Go.Proofs.YtlciedpfjhkkdaaGreatDoor
section
open Go.RowKit
set_option maxRecDepth 10000
variable {o1 o2:Obj}
def Ee (v:V):List C:=[.osl (v.enc.map CellD.cs)]
def lvI (acc:List V):Mem:=match acc with
 | []=>[]
 |v::vs=>[((99,1),.row true 1 22 ((v::vs).map Ee))]
def Ou (r:(Int×Nat)×Option (List V)):Mem:=match r.2 with
 |none=>[]
 |some []=>[]
 |some (v::vs)=>[((0,0),.row true 1 22 ((v::vs).map Ee))]
theorem Kr {acc:List V}(h:acc≠[]):lvI acc=[((99,1),.row true 1 22 (acc.map Ee))]:=by
 cases acc with
 |nil=>exact absurd rfl h
 |cons v vs=>rfl
theorem NW {acc:List V}{c:Int×Nat}(h:acc≠[]):Ou (c,some acc)=[((0,0),.row true 1 22 (acc.map Ee))]:=by
 cases acc with
 |nil=>exact absurd rfl h
 |cons v vs=>rfl
theorem Ka (s:ByteArray) (hs:s.size≤1048576):AC Tryz.prog 23 [.c (.str s)] (Bl o1 o2) (IT (Bo s)) (Bl o1 o2++Ou (Bo s)):=by
 have hL:=MJ s hs
 have hsz:∀x∈CE s,x.size≤s.size:=DD s _ _ _
 unfold Bo
 generalize CE s=L at *
 have hLl:(L.map A8).length=L.length:=by simp
 by_cases h4:4000<s.size
 ·have g4:decide ((s.size:Int)>4000)=true:=decide_eq_true (by omega)
  rw[if_pos (.inl h4)]
  unfold IT Ou
  dsimp only
  refine A7 Tryz.func23 Tryz.ntmps23 ?_
  refine A0 trivial ?_
  refine w9 (Ah [] hL) trivial ?_
  refine A0 g4 ?_
  exact Ad (Ac [((8,1),(8,1))] []) Tryz.results23 g4
 ·have g4:decide ((s.size:Int)>4000)=false:=decide_eq_false (by omega)
  by_cases h200:200<L.length
  ·have g2:decide ((L.length:Int)>200)=true:=decide_eq_true (by omega)
   rw[if_pos (.inr h200)]
   unfold IT Ou
   dsimp only
   refine A7 Tryz.func23 Tryz.ntmps23 ?_
   refine A0 trivial ?_
   refine w9 (Ah [] hL) trivial ?_
   refine A0 (j3 g4 hLl g2) ?_
   exact Ad (Ac [((8,1),(8,1))] []) Tryz.results23 g4
  ·have g2:decide ((L.length:Int)>200)=false:=decide_eq_false (by omega)
   rw[if_neg (by omega)]
   obtain⟨R,hR⟩:∃R,CB L 0 []=R:=⟨_,rfl⟩
   rw[hR]
   have hv0:lvA []=.nils:=rfl
   have hm0:lvI []=[]:=rfl
   refine A7 Tryz.func23 Tryz.ntmps23 ?_
   refine A0 trivial ?_
   refine w9 (Ah [] hL) trivial ?_
   refine A0 (j3 g4 hLl g2) ?_
   refine AH (κ:=List V) (fun acc=>⟨mkS 0 49 [(0,.c (.str s)),(2,.ptr (2,0) 0),(4,.ptr (4,0) 0),(22,.c (.sl (L.map A8))),(23,.c (.int .i64 L.length)),(24,.c (.int .i64 acc.length))],
     [((2,0),.box [.c (.int .i64 0),.c (.int .i64 0),.nils]),((8,1),.gen (BL o1 o2)),((4,0),.box [.c (.int .i64 0),.c (.int .i64 0),lvA acc])]++lvI acc⟩)
    (fun acc=>acc.length≤L.length∧CB (L.drop acc.length) acc.length acc=R) (fun acc=>L.length-acc.length) [] ⟨Nat.zero_le _,hR⟩ ?_ ?_
   ·(apply (Ay.of [((2,0),(2,0)),((8,1),(8,1)),((4,0),(4,0))] []);(iterate 2 ((focus (simp only[go_sem,Nat.reduceEqDiff,Nat.reduceAdd,Nat.reduceSub,Nat.reduceLeDiff,Nat.reduceMul,Nat.reduceBEq,Nat.reduceLT,Int.reduceToNat,reduceCtorEq,hv0,hm0,List.append_nil];try (and_intros<;>rfl)));(focus exact rfl)));(iterate 4 (focus (simp[go_sem,hv0,hm0,List.append_nil];done))))
   ·rintro acc ⟨hk,hgo⟩
    dsimp only at hk hgo ⊢
    obtain⟨k,hke⟩:∃k,acc.length=k:=⟨_,rfl⟩
    rw[hke]at hk hgo ⊢
    by_cases hlt:k<L.length
    ·have hdk:decide ((k:Int)<(L.length:Int))=true:=decide_eq_true (by omega)
     rw[List.drop_eq_getElem_cons hlt,CB]at hgo
     have hr:Aj (L.map A8) 1 k=true:=by simp[Aj,hlt,A8]
     have hg:(L.map A8)[k]? = some [C.str L[k]]:=by simp[hlt,A8]
     have hxs:L[k].size≤9000000000000000000:=by have:=hsz _ (List.getElem_mem hlt);omega
     have hw:=Ae (k:=k) (by omega)
     generalize L[k]=x at *
     cases hD:Ba x with
     |mk c y =>
      cases y with
      |none =>
       rw[hD]at hgo
       dsimp only at hgo
       have hc0:(c.1 != 0)=true:=by simpa using AS (EL hD).1
       have hS:=Ia (o1:=o1) (o2:=o2) x hxs hD
       subst hgo
       unfold IT Ou
       dsimp only
       rcases Classical.em (acc=[]) with rfl | hne
       ·simp only[hv0,hm0,List.append_nil]
        refine A0 (j4 hLl hdk hr hg) ?_
        refine Af (A3 [((8,1),(8,1))] [((8,1),(8,1))] hS) Gv ?_
        refine A0 (j2 hc0 Gv) ?_
        exact Ad (Ac [((8,1),(8,1))] []) Tryz.results23 hc0
       ·simp only[EH hne,Kr hne,List.cons_append,List.nil_append]
        refine A0 (j4 hLl hdk hr hg) ?_
        refine Af (A3 [((8,1),(8,1))] [((8,1),(8,1))] hS) Gv ?_
        refine A0 (j2 hc0 Gv) ?_
        exact Ad (Ac [((8,1),(8,1))] []) Tryz.results23 hc0
      |some v =>
       rw[hD]at hgo
       dsimp only at hgo
       have h00:((0:Int) != 0)=false:=rfl
       have hS:=Jh (o1:=o1) (o2:=o2) x hD
       have hce:=GZ (E5 hD).2.1
       have hol:acc.length+1≤1000000:=by omega
       have hva:lvA (acc++[v])=.own (99,1):=EH (by simp)
       have hma:=Kr (acc:=acc++[v]) (by simp)
       have hla:(acc++[v]).length=k+1:=by simp[hke]
       have hrow:(acc++[v]).map Ee=acc.map Ee++[[C.osl (v.enc.map CellD.cs)]]:=by simp[Ee]
       rw[hrow]at hma
       obtain⟨acc',hacc⟩:∃a,a=acc++[v]:=⟨_,rfl⟩
       rw[←hacc]at hva hma hla hgo
       rcases Classical.em (acc=[]) with he | hne
       ·subst he
        simp only[hv0,hm0,List.append_nil]
        simp only[List.map_nil,List.nil_append]at hma
        refine A0 (j4 hLl hdk hr hg) ?_
        refine Fs (BM [] [((8,1),(8,1))] [((8,1),(8,1))] hS) trivial ?_
        refine A0 h00 ?_
        refine w12 (D7 [] hce) trivial ?_
        refine A0 hw ?_
        refine⟨acc',by omega,⟨by omega,by rw[hla];exact hgo⟩,?_⟩
        simp only[hva,hma,hla,List.cons_append,List.nil_append]
        exact Ao (Ay.of [((2,0),(2,0)),((8,1),(8,1)),((4,0),(4,0)),((99,1),(45,0))] []) hw
       ·simp only[EH hne,Kr hne,List.cons_append,List.nil_append]
        refine A0 (j4 hLl hdk hr hg) ?_
        refine Fs (BM [] [((8,1),(8,1))] [((8,1),(8,1))] hS) trivial ?_
        refine A0 h00 ?_
        refine w12 (D7 [] hce) trivial ?_
        refine A0 (j2 hw hol) ?_
        refine⟨acc',by omega,⟨by omega,by rw[hla];exact hgo⟩,?_⟩
        simp only[hva,hma,hla,List.cons_append,List.nil_append]
        exact Ao (Ay.of [((2,0),(2,0)),((8,1),(8,1)),((4,0),(4,0)),((99,1),(45,0))] []) hw
    ·have hdk:decide ((k:Int)<(L.length:Int))=false:=decide_eq_false (by omega)
     rw[List.drop_eq_nil_of_le (by omega),CB]at hgo
     subst hgo
     rcases Classical.em (acc=[]) with rfl | hne
     ·simp only[hv0,hm0,List.append_nil]
      unfold IT Ou
      dsimp only
      refine A0 (j2 hLl hdk) ?_
      exact Ad (Ac [((8,1),(8,1))] []) Tryz.results23 hdk
     ·simp only[EH hne,Kr hne,Hz hne,NW hne,List.cons_append,List.nil_append]
      refine A0 (j2 hLl hdk) ?_
      exact Ad (Ac [((8,1),(8,1)),((0,0),(99,1))] []) Tryz.results23 hdk
end
section
open Go.RowKit
set_option maxRecDepth 10000
theorem GJ (c p:Int) (l:List (List CellD)) (hl:l.length≤1000000) (hx:∀x∈l,x.length≤9223372036854775807):AC Tryz.prog 24 [.agg [.c (.int .i64 c),.c (.int .i64 p),.c (.sl (l.map An))],.agg [.c (.int .i64 c),.c (.int .i64 p),.c (.sl (l.map An))]] [] (.c (.bool true)) []:=by
 have hne:(c != c)=false:=by simp
 have hnp:(p != p)=false:=by simp
 have he:=GW l (by omega) hx
 refine A7 Tryz.func24 Tryz.ntmps24 ?_
 refine A0 (j2 hne hnp) ?_
 refine w7 (A4 [] he) trivial ?_
 refine A0 trivial ?_
 exact Al (A6 []) Tryz.results24
theorem FI (c p:Int) (l:List (List CellD)) (K:Nat) (hK:K+5*tot l≤3000000000) (hl:l.length≤1000000):AC Tryz.prog 26 [.agg [.c (.int .i64 c),.c (.int .i64 p),.c (.sl ((BT K l).map An))],.c (.int .i64 K)] [] (.c (.int .i64 ((K+5*tot l:Nat):Int))) []:=by
 have he:=Fd l K hK (by omega)
 have hn0:decide (((K+5*tot l:Nat):Int)<0)=false:=by simp;omega
 refine A7 Tryz.func26 Tryz.ntmps26 ?_
 refine A0 trivial ?_
 refine w7 (A4 [] he) trivial ?_
 refine A0 hn0 ?_
 exact Al (A6 []) Tryz.results26
theorem F2 (c p:Int) (K:Nat):AC Tryz.prog 25 [.agg [.c (.int .i64 c),.c (.int .i64 p),.nils],.c (.int .i64 K)] [] (.c (.int .i64 K)) []:=by
 have he:=J3 K
 refine A7 Tryz.func25 Tryz.ntmps25 ?_
 refine A0 trivial ?_
 refine w7 (A4 [] he) trivial ?_
 refine A0 trivial ?_
 exact Al (A6 []) Tryz.results25
theorem Ft (c p:Int) (l:List (List CellD)) (K:Nat) (e:TypeId) (hK:K+5*tot l≤3000000000) (hl:l.length≤1000000) :
  AC Tryz.prog 25 [.agg [.c (.int .i64 c),.c (.int .i64 p),.own (0,0)],.c (.int .i64 K)] [((0,0),.row true 1 e (l.map F7))] (.c (.int .i64 ((K+5*tot l:Nat):Int))) [((0,0),.row true 1 e ((BT K l).map F7))]:=by
 have he:=J5 l K e hK (by omega)
 refine A7 Tryz.func25 Tryz.ntmps25 ?_
 refine A0 trivial ?_
 refine w9 (HK (0,0) he) trivial ?_
 refine A0 trivial ?_
 exact Ad (Ac [((0,0),(0,0))] []) Tryz.results25 hl
theorem FP (c p:Int):AC Tryz.prog 24 [.agg [.c (.int .i64 c),.c (.int .i64 p),.nils],.agg [.c (.int .i64 c),.c (.int .i64 p),.nils]] [] (.c (.bool true)) []:=by
 have hne:(c != c)=false:=by simp
 have hnp:(p != p)=false:=by simp
 have he:=GW [] (by simp) (by simp)
 refine A7 Tryz.func24 Tryz.ntmps24 ?_
 refine A0 (j2 hne hnp) ?_
 refine w7 (A4 [] he) @List.map_nil.{0,0} ?_
 refine A0 trivial ?_
 exact Al (A6 []) Tryz.results24
theorem F1 (c p:Int) (K:Nat) (hK:K≤3000000000):AC Tryz.prog 26 [.agg [.c (.int .i64 c),.c (.int .i64 p),.nils],.c (.int .i64 K)] [] (.c (.int .i64 K)) []:=by
 have he:=Fd [] K (by simp[tot];omega) (by simp)
 rw[show ((K+5*tot []:Nat):Int)=(K:Int) from rfl]at he
 have hn0:decide ((K:Int)<0)=false:=by simp
 refine A7 Tryz.func26 Tryz.ntmps26 ?_
 refine A0 trivial ?_
 (apply (A4 [] he);(iterate 7 (focus (first | (simp only[go_sem,Nat.reduceEqDiff,Nat.reduceAdd,Nat.reduceSub,Nat.reduceLeDiff,Nat.reduceMul,Nat.reduceBEq,Nat.reduceLT,Int.reduceToNat,reduceCtorEq,List.map_nil,BT];first | done | exact rfl | (and_intros<;>rfl)) | exact rfl | decide))))
 refine A0 hn0 ?_
 exact Al (A6 []) Tryz.results26
set_option maxRecDepth 10000
theorem Hm (c at1:Int) (ys:List CellD) (hl:ys.length≤9223372036854775807):AC Tryz.prog 11 [.agg [.c (.int .i64 c),.c (.int .i64 at1),Fl ys],.agg [.c (.int .i64 c),.c (.int .i64 at1),Fl ys]] [] (.c (.bool true)) []:=by
 have hne:(c != c)=false:=by simp
 have hne2:(at1 != at1)=false:=by simp
 have he:=Fw ys hl
 refine A7 Tryz.func11 Tryz.ntmps11 ?_
 refine A0 (j2 hne hne2) ?_
 refine w7 (A4 [] he) trivial ?_
 refine A0 trivial ?_
 exact Al (A6 []) Tryz.results11
theorem FZ (c at1:Int) (n K:Nat) (hK:K+5*n≤3000000000):AC Tryz.prog 13 [.agg [.c (.int .i64 c),.c (.int .i64 at1),Fl (BA K n)],.c (.int .i64 K)] [] (.c (.int .i64 ((K+5*n:Nat):Int))) []:=by
 have he:=Ea n K hK
 have hn0:decide (((K+5*n:Nat):Int)<0)=false:=by simp;omega
 refine A7 Tryz.func13 Tryz.ntmps13 ?_
 refine A0 trivial ?_
 refine w7 (A4 [] he) trivial ?_
 refine A0 hn0 ?_
 exact Al (A6 []) Tryz.results13
theorem Gh (c at1:Int) (ys:List CellD) (K es:Nat) (e:TypeId) (hes:ys≠[]→es=5) (hK:K+5*ys.length≤3000000000) :
  AC Tryz.prog 12 [.agg [.c (.int .i64 c),.c (.int .i64 at1),.own (0,0)],.c (.int .i64 K)] [((0,0),.row false es e (ys.map CellD.cs))] (.c (.int .i64 ((K+5*ys.length:Nat):Int))) [((0,0),.row false es e ((BA K ys.length).map CellD.cs))]:=by
 have he:=Gd ys K es e hes hK
 refine A7 Tryz.func12 Tryz.ntmps12 ?_
 refine A0 trivial ?_
 refine w9 (HK (0,0) he) trivial ?_
 refine A0 trivial ?_
 exact Ad (Ac [((0,0),(0,0))] []) Tryz.results12 hK
theorem Gz (c at1:Int):AC Tryz.prog 11 [.agg [.c (.int .i64 c),.c (.int .i64 at1),.nils],.agg [.c (.int .i64 c),.c (.int .i64 at1),.nils]] [] (.c (.bool true)) []:=by
 have hne:(c != c)=false:=by simp
 have hne2:(at1 != at1)=false:=by simp
 have he:=Fw [] (by simp)
 refine A7 Tryz.func11 Tryz.ntmps11 ?_
 refine A0 (j2 hne hne2) ?_
 refine w7 (A4 [] he) @List.map_nil.{0,0} ?_
 refine A0 trivial ?_
 exact Al (A6 []) Tryz.results11
theorem Fq (c at1:Int) (K:Nat) (hK:K≤3000000000):AC Tryz.prog 13 [.agg [.c (.int .i64 c),.c (.int .i64 at1),.nils],.c (.int .i64 K)] [] (.c (.int .i64 K)) []:=by
 have he:=Ea 0 K (by omega)
 rw[show ((K+5*0:Nat):Int)=(K:Int) from rfl,show BA K 0=[] from rfl]at he
 have hn0:decide ((K:Int)<0)=false:=by simp
 refine A7 Tryz.func13 Tryz.ntmps13 ?_
 refine A0 trivial ?_
 refine w7 (A4 [] he) @List.map_nil.{0,0} ?_
 refine A0 hn0 ?_
 exact Al (A6 []) Tryz.results13
theorem Fu (c at1:Int) (K:Nat):AC Tryz.prog 12 [.agg [.c (.int .i64 c),.c (.int .i64 at1),.nils],.c (.int .i64 K)] [] (.c (.int .i64 K)) []:=by
 have he:=Jf K
 refine A7 Tryz.func12 Tryz.ntmps12 ?_
 refine A0 trivial ?_
 refine w7 (A4 [] he) trivial ?_
 refine A0 trivial ?_
 exact Al (A6 []) Tryz.results12
end
end Go.Proofs.YtlciedpfjhkkdaaGreatDoor
