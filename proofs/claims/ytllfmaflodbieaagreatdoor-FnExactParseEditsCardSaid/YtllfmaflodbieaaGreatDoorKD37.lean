/- ParseEdits on both sides. -/
import Derived.Test.YtllfmaflodbieaaGreatDoorKG77
set_option linter.all false
set_option maxHeartbeats 8000000
namespace Go.Proofs.YtllfmaflodbieaaGreatDoor
open Go.RowKit
set_option maxRecDepth 10000
variable {o o1 o2:Obj}
def leA (acc:List EditD):AV:=match acc with
 | []=>.nils
 |_::_=>.own (99,1)
def leI (acc:List EditD):Mem:=match acc with
 | []=>[]
 |d::l=>[((99,1),.row true 3 53 ((d::l).map EditD.ox))]
def leS (acc:List EditD):Mem:=match acc with
 | []=>[]
 |d::l=>[((99,1),.row false 3 53 ((d::l).map EditD.cs))]
theorem EN {acc:List EditD}(h:acc≠[]):leA acc=.own (99,1):=by
 cases acc with
 |nil=>exact absurd rfl h
 |cons v vs=>rfl
theorem Ji {acc:List EditD}(h:acc≠[]):leI acc=[((99,1),.row true 3 53 (acc.map EditD.ox))]:=by
 cases acc with
 |nil=>exact absurd rfl h
 |cons v vs=>rfl
theorem L4 {acc:List EditD}(h:acc≠[]):leS acc=[((99,1),.row false 3 53 (acc.map EditD.cs))]:=by
 cases acc with
 |nil=>exact absurd rfl h
 |cons v vs=>rfl
def peA (r:Int×Nat×List EditD):AV:=.agg [.c (.int .i64 r.1),.c (.int .i64 r.2.1),match r.2.2 with
 | []=>.nils
 |_::_=>.own (0,0)]
def peI (r:Int×Nat×List EditD):Mem:=match r.2.2 with
 | []=>[]
 |d::l=>[((0,0),.row true 3 53 ((d::l).map EditD.ox))]
def peS (r:Int×Nat×List EditD):Mem:=match r.2.2 with
 | []=>[]
 |d::l=>[((0,0),.row false 3 53 ((d::l).map EditD.cs))]
theorem Ov {c:Int}{k:Nat}{l:List EditD}(h:l≠[]):peA (c,k,l)=.agg [.c (.int .i64 c),.c (.int .i64 k),.own (0,0)]:=by
 cases l with
 |nil=>exact absurd rfl h
 |cons v vs=>rfl
theorem EX (c:Int) (k:Nat):peA (c,k,[])=.agg [.c (.int .i64 c),.c (.int .i64 k),.nils]:=rfl
theorem Wt {c:Int}{k:Nat}{l:List EditD}(h:l≠[]):peI (c,k,l)=[((0,0),.row true 3 53 (l.map EditD.ox))]:=by
 cases l with
 |nil=>exact absurd rfl h
 |cons v vs=>rfl
theorem VP {c:Int}{k:Nat}{l:List EditD}(h:l≠[]):peS (c,k,l)=[((0,0),.row false 3 53 (l.map EditD.cs))]:=by
 cases l with
 |nil=>exact absurd rfl h
 |cons v vs=>rfl
theorem Ki (c:Int) (k:Nat):peI (c,k,[])=[]:=rfl
theorem Kq (c:Int) (k:Nat):peS (c,k,[])=[]:=rfl
theorem Gj (l:List EditD):B3 (l.map EditD.cs)=l.map EditD.cs:=by
 induction l with
 |nil=>rfl
 |cons d l ih=>simp only[List.map_cons,B3,ih,EditD.cs,BV,C.forget]
theorem Xw {d:EditD}(h:Ac d=0):Jl d:=by
 obtain⟨⟨q,hq,hqe,hqr⟩,hx⟩:=Ca h
 obtain⟨h1,h2⟩:=EL h
 refine⟨by rw[hqe];exact Df hqr,?_,by omega,by omega⟩
 rcases hx with h2 | ⟨h2,u,hu,hue,hur⟩
 ·rw[KU h h2];exact fun c hc=>by cases hc
 ·rw[hue];exact Df hur
def VT (l:List EditD):Int×Nat×List EditD:=if 100<l.length then (2,0,[]) else (0,0,l)
def goE (L:List ByteArray) (acc:List EditD):Int×Nat×List EditD:=match G3 L acc with
 | (_,some k)=>(5,k,[])
 | (l,none)=>VT l
theorem EH (s:ByteArray):CD s=if 4000<s.size then (2,0,[]) else goE (D7 s) []:=rfl
theorem SU (acc:List EditD):goE [] acc=VT acc:=rfl
theorem PO {x:ByteArray}(h:DE x=none) (L:List ByteArray) (acc:List EditD):goE (x::L) acc=(5,acc.length,[]):=by unfold goE G3;rw[h]
theorem QI {x:ByteArray}{d:EditD}(h:DE x=some d) (L:List ByteArray) (acc:List EditD):goE (x::L) acc=goE L (acc++[d]):=by unfold goE;rw[G3,h]
theorem L6 {l:List EditD}(h:∀d∈l,Ac d=0):(Dh l=2∧VT l=(2,0,[])∧l≠[])∨(Dh l=0∧VT l=(0,0,l)∧l.length≤100):=by
 rw[R4 h]
 unfold VT
 split
 ·rename_i h1
  refine .inl ⟨rfl,rfl,?_⟩
  rintro rfl
  simp at h1
 ·exact .inr ⟨rfl,rfl,by omega⟩
theorem Oa (s:ByteArray) (hs:s.size≤1048576):AC Tryz.prog 7 [.c (.str s)] [] (peA (CD s)) (peS (CD s)):=by
 have hL:=R9 s hs
 have hsz:∀x∈D7 s,x.size≤s.size:=EW s _ _ _
 have hll:=FF s s.size 0 0
 rw[EH]
 have h20:((2:Int) != 0)=true:=rfl
 have h00:((0:Int) != 0)=false:=rfl
 by_cases h4:4000<s.size
 ·have g4:decide ((s.size:Int)>4000)=true:=decide_eq_true (by omega)
  rw[if_pos h4,EX,Kq]
  refine A6 Tryz.func7 Tryz.ntmps7 ?_
  refine A0 g4 ?_
  exact A9 (A8 [] []) Tryz.results7 g4
 ·have g4:decide ((s.size:Int)>4000)=false:=decide_eq_false (by omega)
  rw[if_neg h4]
  change (D7 s).length≤_ at hll
  generalize D7 s=L at *
  have hLl:(L.map Ab).length=L.length:=by simp
  obtain⟨R,hR⟩:∃R,goE L []=R:=⟨_,rfl⟩
  rw[hR]
  have hv0:leA []=.nils:=rfl
  have hm0:leS []=[]:=rfl
  refine A6 Tryz.func7 Tryz.ntmps7 ?_
  refine A0 g4 ?_
  refine w12 (IE [] hL) trivial ?_
  refine A0 trivial ?_
  refine AG (κ:=List EditD) (fun acc=>⟨mkS 0 48 [(0,.c (.str s)),(2,.ptr (2,0) 0),(3,.ptr (3,0) 0),(4,.own (98,0)),(5,.c (.int .i64 acc.length))],
    [((2,0),.box [.c (.int .i64 0),.c (.int .i64 0),.nils]),((98,0),.row false 1 9 (L.map Ab)),((3,0),.box [.c (.int .i64 0),.c (.int .i64 0),leA acc])]++leS acc⟩)
   (fun acc=>acc.length≤L.length∧(∀d∈acc,Ac d=0)∧goE (L.drop acc.length) acc=R) (fun acc=>L.length-acc.length) [] ⟨Nat.zero_le _,by simp,hR⟩ ?_ ?_
  ·(apply (As.of [((2,0),(2,0)),((98,0),(15,0)),((3,0),(3,0))] []);(iterate 2 ((focus (simp only[go_sem,Nat.reduceEqDiff,Nat.reduceAdd,Nat.reduceSub,Nat.reduceLeDiff,Nat.reduceMul,Nat.reduceBEq,Nat.reduceLT,Int.reduceToNat,reduceCtorEq,hv0,hm0,List.append_nil];try (and_intros<;>rfl)));(focus exact rfl)));(iterate 4 (focus (simp[go_sem,hv0,hm0,List.append_nil];done))))
  ·rintro acc ⟨hk,hgood,hgo⟩
   dsimp only at hk hgo ⊢
   obtain⟨k,hke⟩:∃k,acc.length=k:=⟨_,rfl⟩
   rw[hke]at hk hgo ⊢
   by_cases hlt:k<L.length
   ·have hdk:decide ((k:Int)<(L.length:Int))=true:=decide_eq_true (by omega)
    rw[List.drop_eq_getElem_cons hlt]at hgo
    have hr:Aj (L.map Ab) 1 k=true:=by simp[Aj,hlt,Ab]
    have hg:(L.map Ab)[k]? = some [C.str L[k]]:=by simp[hlt,Ab]
    have hxs:L[k].size≤100000:=by have:=hsz _ (List.getElem_mem hlt);omega
    have hw:=Ae (k:=k) (by omega)
    generalize L[k]=x at *
    cases hD:DE x with
    |none =>
     rw[PO hD,hke]at hgo
     obtain⟨ja,jx,jy,hS⟩:=Py x hxs hD
     subst hgo
     rw[EX,Kq]
     rcases Classical.em (acc=[]) with rfl | hne
     ·simp only[hv0,hm0,List.append_nil]
      refine A0 (j4 hLl hdk hr hg) ?_
      refine w9 (Aa [] hS) trivial ?_
      refine A0 trivial ?_
      exact A9 (A8 [] []) Tryz.results7 hdk
     ·simp only[EN hne,L4 hne,List.cons_append,List.nil_append]
      refine A0 (j4 hLl hdk hr hg) ?_
      refine w9 (Aa [] hS) trivial ?_
      refine A0 trivial ?_
      exact A9 (A8 [] []) Tryz.results7 hdk
    |some d =>
     rw[QI hD]at hgo
     have hS:=QL x hxs hD
     unfold EditD.av at hS
     have hdc:=(Dd.1 hD).1
     have hol:acc.length+1≤1000000:=by omega
     have hva:leA (acc++[d])=.own (99,1):=EN (by simp)
     have hma:=L4 (acc:=acc++[d]) (by simp)
     have hla:(acc++[d]).length=k+1:=by simp[hke]
     have hrow:(acc++[d]).map EditD.cs=acc.map EditD.cs++[[.int .i64 d.op,.sl (d.path.map CellD.cs),.sl (d.x.map CellD.cs)]]:=by simp[EditD.cs]
     rw[hrow]at hma
     have hgood2:∀y∈acc++[d],Ac y=0:=fun y hy=>by
      rcases List.mem_append.1 hy with hy | hy
      ·exact hgood y hy
      ·rw[List.mem_singleton.1 hy];exact hdc
     obtain⟨acc',hacc⟩:∃a,a=acc++[d]:=⟨_,rfl⟩
     rw[←hacc]at hva hma hla hgo hgood2
     rcases Classical.em (acc=[]) with he | hne
     ·subst he
      simp only[hv0,hm0,List.append_nil]
      simp only[List.map_nil,List.nil_append]at hma
      refine A0 (j4 hLl hdk hr hg) ?_
      refine w9 (Aa [] hS) trivial ?_
      refine A0 hw ?_
      refine⟨acc',by omega,⟨by omega,hgood2,by rw[hla];exact hgo⟩,?_⟩
      simp only[hva,hma,hla,List.cons_append,List.nil_append]
      exact Aq (As.of [((2,0),(2,0)),((98,0),(98,0)),((3,0),(3,0)),((99,1),(38,0))] []) hw
     ·simp only[EN hne,L4 hne,List.cons_append,List.nil_append]
      refine A0 (j4 hLl hdk hr hg) ?_
      refine w9 (Aa [] hS) trivial ?_
      refine A0 (j2 hw hol) ?_
      refine⟨acc',by omega,⟨by omega,hgood2,by rw[hla];exact hgo⟩,?_⟩
      simp only[hva,hma,hla,List.cons_append,List.nil_append]
      exact Aq (As.of [((2,0),(2,0)),((98,0),(98,0)),((3,0),(3,0)),((99,1),(38,0))] []) hw
   ·have hdk:decide ((k:Int)<(L.length:Int))=false:=decide_eq_false (by omega)
    rw[List.drop_eq_nil_of_le (by omega),SU]at hgo
    have hef:=O4 acc (by omega)
    unfold E9 at hef
    have hfe:=Gj acc
    rcases L6 hgood with⟨hc,hf,hne⟩ | ⟨hc,hf,_⟩
    ·rw[hf]at hgo
     rw[hc]at hef
     subst hgo
     rw[EX,Kq]
     simp only[EN hne,L4 hne,List.cons_append,List.nil_append]
     refine A0 (j2 hLl hdk) ?_
     refine w7 (A3 [(99,1)] hef) hfe ?_
     refine A0 h20 ?_
     exact A9 (A8 [] []) Tryz.results7 hdk
    ·rw[hf]at hgo
     rw[hc]at hef
     subst hgo
     rcases Classical.em (acc=[]) with rfl | hne
     ·simp only[hv0,hm0,List.append_nil,EX,Kq]
      refine A0 (j2 hLl hdk) ?_
      refine w7 (A3 [] hef) @List.map_nil.{0,0} ?_
      refine A0 h00 ?_
      exact A9 (A8 [] []) Tryz.results7 hdk
     ·rw[Ov hne,VP hne]
      simp only[EN hne,L4 hne,List.cons_append,List.nil_append]
      refine A0 (j2 hLl hdk) ?_
      refine w7 (A3 [(99,1)] hef) hfe ?_
      refine A0 h00 ?_
      exact A9 (A8 [((0,0),(99,1))] []) Tryz.results7 hdk
theorem Om (s:ByteArray) (hs:s.size≤1048576):AC Tryz.prog 8 [.c (.str s)] (teL o o1 o2) (peA (CD s)) (teL o o1 o2++peI (CD s)):=by
 have hL:=Rm s hs
 have hsz:∀x∈D7 s,x.size≤s.size:=EW s _ _ _
 have hll:=FF s s.size 0 0
 rw[EH]
 have h20:((2:Int) != 0)=true:=rfl
 have h00:((0:Int) != 0)=false:=rfl
 by_cases h4:4000<s.size
 ·have g4:decide ((s.size:Int)>4000)=true:=decide_eq_true (by omega)
  rw[if_pos h4,EX,Ki]
  refine A6 Tryz.func8 Tryz.ntmps8 ?_
  refine A0 g4 ?_
  exact A9 (A8 [((8,0),(8,0)),((8,1),(8,1))] []) Tryz.results8 g4
 ·have g4:decide ((s.size:Int)>4000)=false:=decide_eq_false (by omega)
  rw[if_neg h4]
  change (D7 s).length≤_ at hll
  generalize D7 s=L at *
  have hLl:(L.map Ab).length=L.length:=by simp
  obtain⟨R,hR⟩:∃R,goE L []=R:=⟨_,rfl⟩
  rw[hR]
  have hv0:leA []=.nils:=rfl
  have hm0:leI []=[]:=rfl
  refine A6 Tryz.func8 Tryz.ntmps8 ?_
  refine A0 g4 ?_
  refine w9 (Aa [] hL) trivial ?_
  refine A0 hLl ?_
  refine AG (κ:=List EditD) (fun acc=>⟨mkS 0 46 [(0,.c (.str s)),(2,.ptr (2,0) 0),(3,.ptr (3,0) 0),(15,.c (.sl (L.map Ab))),(16,.c (.int .i64 L.length)),(17,.c (.int .i64 acc.length))],
    [((2,0),.box [.c (.int .i64 0),.c (.int .i64 0),.nils]),((8,0),.blk (Kb o) []),((8,1),.gen (Cf o1 o2)),((3,0),.box [.c (.int .i64 0),.c (.int .i64 0),leA acc])]++leI acc⟩)
   (fun acc=>acc.length≤L.length∧(∀d∈acc,Ac d=0)∧goE (L.drop acc.length) acc=R) (fun acc=>L.length-acc.length) [] ⟨Nat.zero_le _,by simp,hR⟩ ?_ ?_
  ·(apply (As.of [((2,0),(2,0)),((8,0),(8,0)),((8,1),(8,1)),((3,0),(3,0))] []);(iterate 2 ((focus (simp only[go_sem,Nat.reduceEqDiff,Nat.reduceAdd,Nat.reduceSub,Nat.reduceLeDiff,Nat.reduceMul,Nat.reduceBEq,Nat.reduceLT,Int.reduceToNat,reduceCtorEq,hv0,hm0,List.append_nil];try (and_intros<;>rfl)));(focus exact rfl)));(iterate 4 (focus (simp[go_sem,hv0,hm0,List.append_nil];done))))
  ·rintro acc ⟨hk,hgood,hgo⟩
   dsimp only at hk hgo ⊢
   obtain⟨k,hke⟩:∃k,acc.length=k:=⟨_,rfl⟩
   rw[hke]at hk hgo ⊢
   by_cases hlt:k<L.length
   ·have hdk:decide ((k:Int)<(L.length:Int))=true:=decide_eq_true (by omega)
    rw[List.drop_eq_getElem_cons hlt]at hgo
    have hr:Aj (L.map Ab) 1 k=true:=by simp[Aj,hlt,Ab]
    have hg:(L.map Ab)[k]? = some [C.str L[k]]:=by simp[hlt,Ab]
    have hxs:L[k].size≤10000:=by have:=hsz _ (List.getElem_mem hlt);omega
    have hw:=Ae (k:=k) (by omega)
    generalize L[k]=x at *
    cases hD:DE x with
    |none =>
     rw[PO hD,hke]at hgo
     obtain⟨ja,jx,jy,hS⟩:=UK (o:=o) (o1:=o1) (o2:=o2) x hxs hD
     subst hgo
     rw[EX,Ki]
     rcases Classical.em (acc=[]) with rfl | hne
     ·simp only[hv0,hm0,List.append_nil]
      refine A0 (j4 hLl hdk hr hg) ?_
      refine Jj (Dr [] [((8,0),(8,0)),((8,1),(8,1))] [((8,0),(8,0)),((8,1),(8,1))] hS) trivial ?_
      refine A0 trivial ?_
      exact A9 (A8 [((8,0),(8,0)),((8,1),(8,1))] []) Tryz.results8 hdk
     ·simp only[EN hne,Ji hne,List.cons_append,List.nil_append]
      refine A0 (j4 hLl hdk hr hg) ?_
      refine Jj (Dr [] [((8,0),(8,0)),((8,1),(8,1))] [((8,0),(8,0)),((8,1),(8,1))] hS) trivial ?_
      refine A0 trivial ?_
      exact A9 (A8 [((8,0),(8,0)),((8,1),(8,1))] []) Tryz.results8 hdk
    |some d =>
     rw[QI hD]at hgo
     have hS:=TE (o:=o) (o1:=o1) (o2:=o2) x hxs hD
     have hdc:=(Dd.1 hD).1
     have hol:acc.length+1≤1000000:=by omega
     have hva:leA (acc++[d])=.own (99,1):=EN (by simp)
     have hma:=Ji (acc:=acc++[d]) (by simp)
     have hla:(acc++[d]).length=k+1:=by simp[hke]
     have hgood2:∀y∈acc++[d],Ac y=0:=fun y hy=>by
      rcases List.mem_append.1 hy with hy | hy
      ·exact hgood y hy
      ·rw[List.mem_singleton.1 hy];exact hdc
     obtain⟨n1,n2⟩:=EF hdc
     rcases (Ca hdc).2 with h2 | ⟨h1,_⟩
     ·have hx:=KU hdc h2
      unfold YP Yx at hS
      rw[if_neg (by omega),if_neg (by omega),h2]at hS
      simp only[List.append_nil,List.cons_append,List.nil_append]at hS
      have hrow:(acc++[d]).map EditD.ox=acc.map EditD.ox++[[.int .i64 2,.osl (d.path.map CellD.cs),.sl []]]:=by rw[List.map_append,List.map_cons,List.map_nil];unfold EditD.ox;rw[h2,hx];rfl
      rw[hrow]at hma
      obtain⟨acc',hacc⟩:∃a,a=acc++[d]:=⟨_,rfl⟩
      rw[←hacc]at hva hma hla hgo hgood2
      rcases Classical.em (acc=[]) with he | hne
      ·subst he
       simp only[hv0,hm0,List.append_nil]
       simp only[List.map_nil,List.nil_append]at hma
       refine A0 (j4 hLl hdk hr hg) ?_
       refine Ah (A4 [((8,0),(8,0)),((8,1),(8,1))] [((8,0),(8,0)),((8,1),(8,1)),((0,0),(24,0))] hS) trivial ?_
       refine A0 hw ?_
       refine⟨acc',by omega,⟨by omega,hgood2,by rw[hla];exact hgo⟩,?_⟩
       simp only[hva,hma,hla,List.cons_append,List.nil_append]
       exact Aq (As.of [((2,0),(2,0)),((8,0),(8,0)),((8,1),(8,1)),((3,0),(3,0)),((99,1),(35,0))] []) hw
      ·simp only[EN hne,Ji hne,List.cons_append,List.nil_append]
       refine A0 (j4 hLl hdk hr hg) ?_
       refine Ah (A4 [((8,0),(8,0)),((8,1),(8,1))] [((8,0),(8,0)),((8,1),(8,1)),((0,0),(24,0))] hS) trivial ?_
       refine A0 (j2 hw hol) ?_
       refine⟨acc',by omega,⟨by omega,hgood2,by rw[hla];exact hgo⟩,?_⟩
       simp only[hva,hma,hla,List.cons_append,List.nil_append]
       exact Aq (As.of [((2,0),(2,0)),((8,0),(8,0)),((8,1),(8,1)),((3,0),(3,0)),((99,1),(35,0))] []) hw
     ·have hx:=n2 h1
      unfold YP Yx at hS
      rw[if_pos h1,if_pos h1,h1]at hS
      simp only[List.append_nil,List.cons_append,List.nil_append]at hS
      have hrow:(acc++[d]).map EditD.ox=acc.map EditD.ox++[[.int .i64 1,.osl (d.path.map CellD.cs),.osl (d.x.map CellD.cs)]]:=by rw[List.map_append,List.map_cons,List.map_nil];unfold EditD.ox;rw[h1,Pv hx]
      rw[hrow]at hma
      obtain⟨acc',hacc⟩:∃a,a=acc++[d]:=⟨_,rfl⟩
      rw[←hacc]at hva hma hla hgo hgood2
      rcases Classical.em (acc=[]) with he | hne
      ·subst he
       simp only[hv0,hm0,List.append_nil]
       simp only[List.map_nil,List.nil_append]at hma
       refine A0 (j4 hLl hdk hr hg) ?_
       refine Ah (A4 [((8,0),(8,0)),((8,1),(8,1))] [((8,0),(8,0)),((8,1),(8,1)),((0,0),(24,0)),((0,1),(24,1))] hS) trivial ?_
       refine A0 hw ?_
       refine⟨acc',by omega,⟨by omega,hgood2,by rw[hla];exact hgo⟩,?_⟩
       simp only[hva,hma,hla,List.cons_append,List.nil_append]
       exact Aq (As.of [((2,0),(2,0)),((8,0),(8,0)),((8,1),(8,1)),((3,0),(3,0)),((99,1),(35,0))] []) hw
      ·simp only[EN hne,Ji hne,List.cons_append,List.nil_append]
       refine A0 (j4 hLl hdk hr hg) ?_
       refine Ah (A4 [((8,0),(8,0)),((8,1),(8,1))] [((8,0),(8,0)),((8,1),(8,1)),((0,0),(24,0)),((0,1),(24,1))] hS) trivial ?_
       refine A0 (j2 hw hol) ?_
       refine⟨acc',by omega,⟨by omega,hgood2,by rw[hla];exact hgo⟩,?_⟩
       simp only[hva,hma,hla,List.cons_append,List.nil_append]
       exact Aq (As.of [((2,0),(2,0)),((8,0),(8,0)),((8,1),(8,1)),((3,0),(3,0)),((99,1),(35,0))] []) hw
   ·have hdk:decide ((k:Int)<(L.length:Int))=false:=decide_eq_false (by omega)
    rw[List.drop_eq_nil_of_le (by omega),SU]at hgo
    have hef:=Og acc (fun d hd=>Xw (hgood d hd)) (by omega)
    unfold E9 at hef
    rcases L6 hgood with⟨hc,hf,hne⟩ | ⟨hc,hf,_⟩
    ·rw[hf]at hgo
     rw[hc]at hef
     subst hgo
     rw[EX,Ki]
     simp only[EN hne,Ji hne,List.cons_append,List.nil_append]
     refine A0 (j2 hLl hdk) ?_
     refine w7 (A3 [(99,1)] hef) trivial ?_
     refine A0 h20 ?_
     exact A9 (A8 [((8,0),(8,0)),((8,1),(8,1))] []) Tryz.results8 hdk
    ·rw[hf]at hgo
     rw[hc]at hef
     subst hgo
     rcases Classical.em (acc=[]) with rfl | hne
     ·simp only[hv0,hm0,List.append_nil,EX,Ki]
      refine A0 (j2 hLl hdk) ?_
      refine w7 (A3 [] hef) @List.map_nil.{0,0} ?_
      refine A0 h00 ?_
      exact A9 (A8 [((8,0),(8,0)),((8,1),(8,1))] []) Tryz.results8 hdk
     ·rw[Ov hne,Wt hne]
      simp only[EN hne,Ji hne,List.cons_append,List.nil_append]
      refine A0 (j2 hLl hdk) ?_
      refine w7 (A3 [(99,1)] hef) trivial ?_
      refine A0 h00 ?_
      exact A9 (A8 [((8,0),(8,0)),((8,1),(8,1)),((0,0),(99,1))] []) Tryz.results8 hdk
end Go.Proofs.YtllfmaflodbieaaGreatDoor
