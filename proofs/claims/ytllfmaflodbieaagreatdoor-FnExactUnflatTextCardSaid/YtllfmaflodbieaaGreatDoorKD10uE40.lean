/- Texts of this proof: D10 D11 D12 E40. -/
import Derived.Test.YtllfmaflodbieaaGreatDoorKD08uD09
import Derived.Lib.IfaceEq
import Derived.Lib.IfaceNeq
set_option linter.all false
set_option maxHeartbeats 8000000
namespace Go.Proofs.YtllfmaflodbieaaGreatDoor
section
open Go.RowKit
set_option maxRecDepth 10000
theorem W0 (s:ByteArray) (rd:Nat→Rd V) (n i:Nat) (first:Bool) (kids:List V):Bd s rd false (n+1) i first [] kids=if bAt s i=93 then .ok (DB kids) (i+1) else if first=false∧bAt s i≠44 then .bad 5 i
  else match rd (if first then i else Af s (i+1)) with
   | .bad c p=>.bad c p
   | .ok v e2=>Bd s rd false n (Af s e2) false [] (kids++[v]):=by
 rw[Bd]
 simp only[Bool.false_eq_true,if_false]
 rfl
theorem Wq (s:ByteArray) (rd:Nat→Rd V) (n i:Nat) (first:Bool) (keys:List ByteArray) (kids:List V):Bd s rd true (n+1) i first keys kids=if bAt s i=125 then .ok (Gi keys kids) (i+1) else if first=false∧bAt s i≠44 then .bad 5 i
  else match RR s (if first then i else Af s (i+1)) with
   | .bad c p=>.bad c p
   | .ok k e=>match rd (Af s e) with
    | .bad c p=>.bad c p
    | .ok v e2=>Bd s rd true n (Af s e2) false (keys++[k]) (kids++[v]):=by
 rw[Bd]
 simp only[if_true]
 generalize (if first=true then i else Af s (i+1))=j
 unfold Hs RR
 cases E4 s j with
 |bad c p=>rfl
 |ok k e =>
  simp only
  by_cases h:bAt s (Af s e)=58
  ·simp[h]
   rfl
  ·simp[h]
theorem QN (s:ByteArray) (hs:s.size≤100000) (i0 d:Nat) (hd:d≤30) (hi0:i0<s.size) (h91:bAt s i0=91) (rd:Nat→Rd V)
  (hone:∀j,j≤s.size→∃x,AC Tryz.prog 66 [.c (.str s),.c (.int .i64 j),.c (.int .i64 ((d+1:Nat):Int))] [] (rdA (rd j) x) []) (m:Nat) (hrd:∀j,j≤s.size→(rd j).fine s j (rdV m j)) :
  AC Tryz.prog 124 [.c (.str s),.c (.int .i64 i0),.c (.int .i64 d)] [] (rdA (Bd s rd false (s.size+1) (Af s (i0+1)) true [] []) ByteArray.empty) []:=by
 have hs':s.size≤1000000:=by omega
 have hwd:=Ae (k:=d) (by omega)
 have h00:((0:Int) != 0)=false:=rfl
 have hw0:=Ae (k:=i0) (by omega)
 obtain⟨b0,hg0,hb0⟩:=Aw hi0
 have hbn0:(((b0.toNat:Nat):Int)==123)=false:=by rw[←hb0,h91];rfl
 obtain⟨p1,p2,_⟩:=AM (s:=s) (i:=i0+1) (by omega)
 have hsk0:=Dc s hs' (i0+1) (by omega)
 obtain⟨R,hR⟩:∃R,Bd s rd false (s.size+1) (Af s (i0+1)) true [] []=R:=⟨_,rfl⟩
 rw[hR]
 refine A6 Tryz.func124 Tryz.ntmps124 ?_
 refine A0 (j3 hg0 hbn0 hw0) ?_
 refine w7 (A3 [] hsk0) trivial ?_
 refine A0 trivial ?_
 refine AG (κ:=Nat×Bool×List V) (fun k=>⟨mkS 0 102 [(0,.c (.str s)),(2,.c (.int .i64 d)),(6,.ptr (6,0) 0),(7,.c (.bool false)),(8,.c (.int .u8 93)),(10,.own (99,1)),(11,.c (.int .i64 k.1)),(12,.c (.bool k.2.1))],
   [((6,0),.box [.nils,.c (.str ByteArray.empty),.c (.int .i64 0),.c (.int .i64 0),.c (.int .i64 0)]),((99,1),.row false 1 36 ((k.2.2.map V.enc).map AD))]⟩)
  (fun k=>k.1≤s.size∧An k.2.2+i0+1≤k.1∧∃n,s.size-k.1<n∧Bd s rd false n k.1 k.2.1 [] k.2.2=R) (fun k=>s.size+(if k.2.1 then 1 else 0)-k.1) (Af s (i0+1),true,[]) ⟨by dsimp only;omega,by simp only[An];omega,s.size+1,by dsimp only;omega,hR⟩ ?_ ?_
 ·exact Aq (As.of [((6,0),(6,0)),((99,1),(21,0))] []) @List.map_nil.{0,0}
 ·rintro⟨i,first,kids⟩ ⟨hi,hcl,n,hn,hgo⟩
  dsimp only at hi hcl hn hgo ⊢
  obtain⟨n,rfl⟩:∃m,n=m+1:=⟨n-1,by omega⟩
  rw[W0]at hgo
  have hkl:=BR kids
  have hol:kids.length+1≤1000000:=by omega
  have hwi:=Ae (k:=i) (by omega)
  by_cases hend:bAt s i=93
  ·have hlt:=BW (s:=s) (i:=i) (by omega)
   have hdg:decide ((i:Int)≥(s.size:Int))=false:=decide_eq_false (by omega)
   obtain⟨b,hg,hb⟩:=Aw hlt
   have hbn:(((b.toNat:Nat):Int) != 93)=false:=by rw[←hb,hend];rfl
   rw[if_pos hend]at hgo
   subst hgo
   have hcc:(DB kids).count≤500000:=by rw[Mq];omega
   have harr:=QB kids hcc
   unfold rdA Dk
   refine A0 (j3 hdg hg hbn) ?_
   refine w9 (Aa [(99,1)] harr) trivial ?_
   refine A0 hwi ?_
   exact Am (A7 []) Tryz.results124
  ·rw[if_neg hend]at hgo
   by_cases hcomma:first=false∧bAt s i≠44
   ·rw[if_pos hcomma]at hgo
    obtain⟨hf,h44⟩:=hcomma
    subst hgo hf
    have hbad:=Bs 5 i
    unfold rdA
    unfold B9 at hbad ⊢
    by_cases hlt:i<s.size
    ·have hdg:decide ((i:Int)≥(s.size:Int))=false:=decide_eq_false (by omega)
     obtain⟨b,hg,hb⟩:=Aw hlt
     have hbn:(((b.toNat:Nat):Int) != 93)=true:=by rw[←hb];simp;omega
     have hbn2:(((b.toNat:Nat):Int) != 44)=true:=by rw[←hb];simp;omega
     refine A0 (j4 hdg hg hbn hbn2) ?_
     refine w7 (A3 [] hbad) trivial ?_
     refine A0 trivial ?_
     exact Am (A7 []) Tryz.results124
    ·have hdg:decide ((i:Int)≥(s.size:Int))=true:=decide_eq_true (by omega)
     refine A0 hdg ?_
     refine w7 (A3 [] hbad) trivial ?_
     refine A0 trivial ?_
     exact Am (A7 []) Tryz.results124
   ·rw[if_neg hcomma]at hgo
    have hway:∃j,(if first then i else Af s (i+1))=j∧i≤j∧j≤s.size∧((first=true∧i<s.size∧i=j)∨(first=true∧¬i<s.size∧i=j)∨(first=false∧i<s.size∧bAt s i=44∧Af s (i+1)=j)):=by
     cases first with
     |true =>
      by_cases hlt:i<s.size
      ·exact⟨i,rfl,Nat.le_refl _,hi,.inl ⟨rfl,hlt,rfl⟩⟩
      ·exact⟨i,rfl,Nat.le_refl _,hi,.inr (.inl ⟨rfl,hlt,rfl⟩)⟩
     |false =>
      have hb:bAt s i=44:=Classical.byContradiction fun h=>hcomma ⟨rfl,h⟩
      have hlt:=BW (s:=s) (i:=i) (by omega)
      obtain⟨g1,g2,_⟩:=AM (s:=s) (i:=i+1) (by omega)
      exact⟨Af s (i+1),rfl,by omega,g2,.inr (.inr ⟨rfl,hlt,hb,rfl⟩)⟩
    obtain⟨j,hje,hj1,hj2,hway⟩:=hway
    rw[hje]at hgo
    have hmz:∀e,j<e→e≤s.size→s.size+0-Af s e<s.size+(if first then 1 else 0)-i:=fun e h1 h2=>by
     obtain⟨g1,g2,_⟩:=AM h2
     rcases hway with⟨h,_⟩ | ⟨h,_⟩ | ⟨h,_,_,_⟩
     ·rw[if_pos h];omega
     ·rw[if_pos h];omega
     ·omega
    obtain⟨x,hx⟩:=hone j hj2
    have hfine:=hrd j hj2
    rcases hway with⟨h1,h2,h3⟩ | ⟨h1,h2,h3⟩ | ⟨h1,h2,h3,h4⟩
    focus
     have hdg:decide ((i:Int)≥(s.size:Int))=false:=decide_eq_false (by omega)
     obtain⟨b,hg,hb⟩:=Aw h2
     have hbn:(((b.toNat:Nat):Int) != 93)=true:=by rw[←hb];simp;omega
     subst h1
     obtain rfl:j=i:=h3.symm
     refine A0 (j4 hdg hg hbn hwd) ?_
    rotate_left
    focus
     have hdg:decide ((i:Int)≥(s.size:Int))=true:=decide_eq_true (by omega)
     subst h1
     obtain rfl:j=i:=h3.symm
     refine A0 (j2 hdg hwd) ?_
    rotate_left
    focus
     have hdg:decide ((i:Int)≥(s.size:Int))=false:=decide_eq_false (by omega)
     obtain⟨b,hg,hb⟩:=Aw h2
     have hbn:(((b.toNat:Nat):Int) != 93)=true:=by rw[←hb,h3];rfl
     have hbn2:(((b.toNat:Nat):Int) != 44)=false:=by rw[←hb,h3];rfl
     have hskc:=Dc s hs' (i+1) (by omega)
     rw[h4]at hskc
     subst h1
     refine A0 (j5 hdg hg hbn hbn2 hwi) ?_
     refine w7 (A3 [] hskc) trivial ?_
     refine A0 hwd ?_
    rotate_left
    all_goals
     cases hr:rd j with
     |bad c p =>
      rw[hr]at hgo hx hfine
      simp only at hgo
      subst hgo
      have hc0:(c != 0)=true:=by simpa using Bq hfine.1
      unfold rdA at hx ⊢
      unfold B9 at hx ⊢
      refine A0 hwd ?_
      refine w7 (A3 [] hx) trivial ?_
      refine A0 hc0 ?_
      exact Am (A7 []) Tryz.results124
     |ok v e =>
      rw[hr]at hgo hx hfine
      simp only at hgo
      obtain⟨f1,f2,f3,f4,f5,f6⟩:=hfine
      have hsk:=Dc s hs' e f2
      obtain⟨k1,k2,_⟩:=AM f2
      have hrow:(kids.map V.enc).map AD++[[.sl (v.enc.map CellD.cs)]]=((kids++[v]).map V.enc).map AD:=by rw[List.map_append,List.map_append];rfl
      unfold rdA Dk at hx
      refine A0 hwd ?_
      refine w9 (Aa [] hx) trivial ?_
      refine A0 (j2 hol h00) ?_
      refine w7 (A3 [] hsk) trivial ?_
      refine A0 trivial ?_
      refine⟨(Af s e,false,kids++[v]),?_,⟨k2,?_,n,?_,hgo⟩,?_⟩
      ·have:=hmz e f1 f2
       dsimp only
       simpa using this
      ·dsimp only;rw[Dg];omega
      ·dsimp only;omega
      ·exact Aq (As.of [((6,0),(6,0)),((99,1),(85,0))] []) hrow
set_option maxRecDepth 10000
theorem O8 (ks:List ByteArray) (vs:List V) (hl:ks.length=vs.length) (hc:An vs≤400000):AC Tryz.prog 143 [.c (.sl (ks.map Ab)),.c (.sl ((vs.map V.enc).map AD))] [] (.c (.sl ((Gi ks vs).enc.map CellD.cs))) []:=by
 have h:=PG ks vs hl hc
 (apply (AC.says [] [(0,0)] h);(focus (simp only[go_sem,Nat.reduceEqDiff,Nat.reduceAdd,Nat.reduceSub,Nat.reduceLeDiff,Nat.reduceMul,Nat.reduceBEq,Nat.reduceLT,Int.reduceToNat,reduceCtorEq];try (and_intros<;>rfl)));(focus exact rfl);(focus (simp only[go_sem,Nat.reduceEqDiff,Nat.reduceAdd,Nat.reduceSub,Nat.reduceLeDiff,Nat.reduceMul,Nat.reduceBEq,Nat.reduceLT,Int.reduceToNat,reduceCtorEq];try (and_intros<;>rfl)));(focus exact rfl);(iterate 4 (focus (simp[go_sem];done))))
theorem Ur {s:ByteArray}{i:Nat}(hi:i≤s.size):(RR s i).fine s i fun t _=>AN t=true:=by
 have h:=Ep hi
 unfold RR
 cases hR:E4 s i with
 |bad c p=>rw[hR]at h;exact h
 |ok k e =>
  rw[hR]at h
  obtain⟨h1,h2,h3⟩:=h
  obtain⟨g1,g2,_⟩:=AM h2
  simp only
  by_cases h58:bAt s (Af s e)=58
  ·have hlt:=CP (s:=s) (i:=Af s e) (by omega)
   rw[if_neg (by simp[h58])]
   exact⟨by omega,by omega,h3⟩
  ·rw[if_pos h58]
   exact⟨rd5,by omega,g2⟩
theorem RA (s:ByteArray) (hs:s.size≤100000) (i0 d:Nat) (hd:d≤30) (hi0:i0<s.size) (h123:bAt s i0=123) (rd:Nat→Rd V)
  (hone:∀j,j≤s.size→∃x,AC Tryz.prog 66 [.c (.str s),.c (.int .i64 j),.c (.int .i64 ((d+1:Nat):Int))] [] (rdA (rd j) x) []) (m:Nat) (hrd:∀j,j≤s.size→(rd j).fine s j (rdV m j)) :
  AC Tryz.prog 124 [.c (.str s),.c (.int .i64 i0),.c (.int .i64 d)] [] (rdA (Bd s rd true (s.size+1) (Af s (i0+1)) true [] []) ByteArray.empty) []:=by
 have hs':s.size≤1000000:=by omega
 have hwd:=Ae (k:=d) (by omega)
 have h00:((0:Int) != 0)=false:=rfl
 have hw0:=Ae (k:=i0) (by omega)
 obtain⟨b0,hg0,hb0⟩:=Aw hi0
 have hbn0:(((b0.toNat:Nat):Int)==123)=true:=by rw[←hb0,h123];rfl
 obtain⟨p1,p2,_⟩:=AM (s:=s) (i:=i0+1) (by omega)
 have hsk0:=Dc s hs' (i0+1) (by omega)
 obtain⟨R,hR⟩:∃R,Bd s rd true (s.size+1) (Af s (i0+1)) true [] []=R:=⟨_,rfl⟩
 rw[hR]
 refine A6 Tryz.func124 Tryz.ntmps124 ?_
 refine A0 (j3 hg0 hbn0 hw0) ?_
 refine w7 (A3 [] hsk0) trivial ?_
 refine A0 trivial ?_
 refine AG (κ:=Nat×Bool×List ByteArray×List V) (fun k=>⟨mkS 0 102 [(0,.c (.str s)),(2,.c (.int .i64 d)),(6,.ptr (6,0) 0),(7,.c (.bool true)),(8,.c (.int .u8 125)),(9,.own (99,0)),(10,.own (99,1)),(11,.c (.int .i64 k.1)),(12,.c (.bool k.2.1))],
   [((6,0),.box [.nils,.c (.str ByteArray.empty),.c (.int .i64 0),.c (.int .i64 0),.c (.int .i64 0)]),((99,0),.row false 1 9 (k.2.2.1.map Ab)),((99,1),.row false 1 36 ((k.2.2.2.map V.enc).map AD))]⟩)
  (fun k=>k.1≤s.size∧An k.2.2.2+i0+1≤k.1∧k.2.2.1.length=k.2.2.2.length∧∃n,s.size-k.1<n∧Bd s rd true n k.1 k.2.1 k.2.2.1 k.2.2.2=R) (fun k=>s.size+(if k.2.1 then 1 else 0)-k.1) (Af s (i0+1),true,[],[]) ⟨by dsimp only;omega,by simp only[An];omega,rfl,s.size+1,by dsimp only;omega,hR⟩ ?_ ?_
 ·exact Aq (As.of [((6,0),(6,0)),((99,0),(20,0)),((99,1),(21,0))] []) @List.map_nil.{0,0}
 ·rintro⟨i,first,keys,kids⟩ ⟨hi,hcl,hkk,n,hn,hgo⟩
  dsimp only at hi hcl hkk hn hgo ⊢
  obtain⟨n,rfl⟩:∃m,n=m+1:=⟨n-1,by omega⟩
  rw[Wq]at hgo
  have hkl:=BR kids
  have hol:kids.length+1≤1000000:=by omega
  have hwi:=Ae (k:=i) (by omega)
  by_cases hend:bAt s i=125
  ·have hlt:=BW (s:=s) (i:=i) (by omega)
   have hdg:decide ((i:Int)≥(s.size:Int))=false:=decide_eq_false (by omega)
   obtain⟨b,hg,hb⟩:=Aw hlt
   have hbn:(((b.toNat:Nat):Int) != 125)=false:=by rw[←hb,hend];rfl
   rw[if_pos hend]at hgo
   subst hgo
   have harr:=O8 keys kids hkk (by omega)
   unfold rdA Dk
   refine A0 (j3 hdg hg hbn) ?_
   refine w9 (Aa [(99,0),(99,1)] harr) trivial ?_
   refine A0 hwi ?_
   exact Am (A7 []) Tryz.results124
  ·rw[if_neg hend]at hgo
   by_cases hcomma:first=false∧bAt s i≠44
   ·rw[if_pos hcomma]at hgo
    obtain⟨hf,h44⟩:=hcomma
    subst hgo hf
    have hbad:=Bs 5 i
    unfold rdA
    unfold B9 at hbad ⊢
    by_cases hlt:i<s.size
    ·have hdg:decide ((i:Int)≥(s.size:Int))=false:=decide_eq_false (by omega)
     obtain⟨b,hg,hb⟩:=Aw hlt
     have hbn:(((b.toNat:Nat):Int) != 125)=true:=by rw[←hb];simp;omega
     have hbn2:(((b.toNat:Nat):Int) != 44)=true:=by rw[←hb];simp;omega
     refine A0 (j4 hdg hg hbn hbn2) ?_
     refine w7 (A3 [] hbad) trivial ?_
     refine A0 trivial ?_
     exact Am (A7 []) Tryz.results124
    ·have hdg:decide ((i:Int)≥(s.size:Int))=true:=decide_eq_true (by omega)
     refine A0 hdg ?_
     refine w7 (A3 [] hbad) trivial ?_
     refine A0 trivial ?_
     exact Am (A7 []) Tryz.results124
   ·rw[if_neg hcomma]at hgo
    have hway:∃j,(if first then i else Af s (i+1))=j∧i≤j∧j≤s.size∧((first=true∧i<s.size∧i=j)∨(first=true∧¬i<s.size∧i=j)∨(first=false∧i<s.size∧bAt s i=44∧Af s (i+1)=j)):=by
     cases first with
     |true =>
      by_cases hlt:i<s.size
      ·exact⟨i,rfl,Nat.le_refl _,hi,.inl ⟨rfl,hlt,rfl⟩⟩
      ·exact⟨i,rfl,Nat.le_refl _,hi,.inr (.inl ⟨rfl,hlt,rfl⟩)⟩
     |false =>
      have hb:bAt s i=44:=Classical.byContradiction fun h=>hcomma ⟨rfl,h⟩
      have hlt:=BW (s:=s) (i:=i) (by omega)
      obtain⟨g1,g2,_⟩:=AM (s:=s) (i:=i+1) (by omega)
      exact⟨Af s (i+1),rfl,by omega,g2,.inr (.inr ⟨rfl,hlt,hb,rfl⟩)⟩
    obtain⟨j,hje,hj1,hj2,hway⟩:=hway
    rw[hje]at hgo
    have hmz:∀e,j<e→e≤s.size→s.size+0-Af s e<s.size+(if first then 1 else 0)-i:=fun e h1 h2=>by
     obtain⟨g1,g2,_⟩:=AM h2
     rcases hway with⟨h,_⟩ | ⟨h,_⟩ | ⟨h,_,_,_⟩
     ·rw[if_pos h];omega
     ·rw[if_pos h];omega
     ·omega
    have hme:=PQ s hs' j hj2
    have hmf:=Ur hj2
    rcases hway with⟨h1,h2,h3⟩ | ⟨h1,h2,h3⟩ | ⟨h1,h2,h3,h4⟩
    focus
     have hdg:decide ((i:Int)≥(s.size:Int))=false:=decide_eq_false (by omega)
     obtain⟨b,hg,hb⟩:=Aw h2
     have hbn:(((b.toNat:Nat):Int) != 125)=true:=by rw[←hb];simp;omega
     subst h1
     obtain rfl:j=i:=h3.symm
     refine A0 (j4 hdg hg hbn hwd) ?_
    rotate_left
    focus
     have hdg:decide ((i:Int)≥(s.size:Int))=true:=decide_eq_true (by omega)
     subst h1
     obtain rfl:j=i:=h3.symm
     refine A0 (j2 hdg hwd) ?_
    rotate_left
    focus
     have hdg:decide ((i:Int)≥(s.size:Int))=false:=decide_eq_false (by omega)
     obtain⟨b,hg,hb⟩:=Aw h2
     have hbn:(((b.toNat:Nat):Int) != 125)=true:=by rw[←hb,h3];rfl
     have hbn2:(((b.toNat:Nat):Int) != 44)=false:=by rw[←hb,h3];rfl
     have hskc:=Dc s hs' (i+1) (by omega)
     rw[h4]at hskc
     subst h1
     refine A0 (j5 hdg hg hbn hbn2 hwi) ?_
     refine w7 (A3 [] hskc) trivial ?_
     refine A0 hwd ?_
    rotate_left
    all_goals
     cases hm:RR s j with
     |bad c p =>
      rw[hm]at hgo hme hmf
      simp only at hgo
      subst hgo
      have hc0:(c != 0)=true:=by simpa using Bq hmf.1
      unfold rdT at hme
      unfold rdA
      unfold B9 at hme ⊢
      refine A0 trivial ?_
      refine w7 (A3 [] hme) trivial ?_
      refine A0 hc0 ?_
      exact Am (A7 []) Tryz.results124
     |ok key ek =>
      rw[hm]at hgo hme hmf
      simp only at hgo
      obtain⟨m1,m2,m3⟩:=hmf
      have hskm:=Dc s hs' ek m2
      obtain⟨q1,q2,_⟩:=AM m2
      obtain⟨x,hx⟩:=hone (Af s ek) q2
      have hfine:=hrd (Af s ek) q2
      have hrowk:(keys++[key]).map Ab=keys.map Ab++[[.str key]]:=by rw[List.map_append];rfl
      have holk:keys.length+1≤1000000:=by omega
      unfold rdT Dk at hme
      cases hr:rd (Af s ek) with
      |bad c p =>
       rw[hr]at hgo hx hfine
       simp only at hgo
       subst hgo
       have hc0:(c != 0)=true:=by simpa using Bq hfine.1
       unfold rdA at hx ⊢
       unfold B9 at hx ⊢
       refine A0 trivial ?_
       refine w7 (A3 [] hme) trivial ?_
       refine A0 (j2 holk h00) ?_
       refine w7 (A3 [] hskm) trivial ?_
       refine A0 hwd ?_
       refine w7 (A3 [] hx) trivial ?_
       refine A0 hc0 ?_
       exact Am (A7 []) Tryz.results124
      |ok v e =>
       rw[hr]at hgo hx hfine
       simp only at hgo
       obtain⟨f1,f2,f3,f4,f5,f6⟩:=hfine
       have hsk:=Dc s hs' e f2
       obtain⟨k1,k2,_⟩:=AM f2
       have hrow:(kids.map V.enc).map AD++[[.sl (v.enc.map CellD.cs)]]=((kids++[v]).map V.enc).map AD:=by rw[List.map_append,List.map_append];rfl
       unfold rdA Dk at hx
       refine A0 trivial ?_
       refine w7 (A3 [] hme) trivial ?_
       refine A0 (j2 holk h00) ?_
       refine w7 (A3 [] hskm) trivial ?_
       refine A0 hwd ?_
       refine w9 (Aa [] hx) trivial ?_
       refine A0 (j2 hol h00) ?_
       refine w7 (A3 [] hsk) trivial ?_
       refine A0 trivial ?_
       refine⟨(Af s e,false,keys++[key],kids++[v]),?_,⟨k2,?_,?_,n,?_,hgo⟩,?_⟩
       ·have:=hmz e (by omega) f2
        dsimp only
        simpa using this
       ·dsimp only;rw[Dg];omega
       ·simp[hkk]
       ·dsimp only;omega
       ·exact Aq (As.of [((6,0),(6,0)),((99,0),(67,0)),((99,1),(85,0))] []) (j2 hrow hrowk)
set_option maxRecDepth 10000
theorem Fw (s:ByteArray) (hs:s.size≤100000):∀(k d:Nat),d+k=20→∀i,i≤s.size→∃x,AC Tryz.prog 66 [.c (.str s),.c (.int .i64 i),.c (.int .i64 d)] [] (rdA (Cq k s i) x) []:=by
 intro k
 have hs':s.size≤1000000:=by omega
 induction k with
 |zero =>
  intro d hd i hi
  refine⟨ByteArray.empty,?_⟩
  have hdd:decide ((d:Int)≥20)=true:=decide_eq_true (by omega)
  unfold Cq
  by_cases hlt:s.size≤i
  ·have hdg:decide ((i:Int)≥(s.size:Int))=true:=decide_eq_true (by omega)
   have hbad:=Bs 5 s.size
   rw[if_pos hlt]
   unfold rdA
   unfold B9 at hbad ⊢
   refine A6 Tryz.func66 Tryz.ntmps66 ?_
   refine A0 hdg ?_
   refine w7 (A3 [] hbad) trivial ?_
   refine A0 trivial ?_
   exact Am (A7 []) Tryz.results66
  ·have hdg:decide ((i:Int)≥(s.size:Int))=false:=decide_eq_false (by omega)
   have hbad:=Bs 7 i
   rw[if_neg hlt]
   unfold rdA
   unfold B9 at hbad ⊢
   refine A6 Tryz.func66 Tryz.ntmps66 ?_
   refine A0 (j2 hdg hdd) ?_
   refine w7 (A3 [] hbad) trivial ?_
   refine A0 trivial ?_
   exact Am (A7 []) Tryz.results66
 |succ k ih =>
  intro d hd i hi
  have hdd:decide ((d:Int)≥20)=false:=decide_eq_false (by omega)
  by_cases hlt:s.size≤i
  ·refine⟨ByteArray.empty,?_⟩
   have hdg:decide ((i:Int)≥(s.size:Int))=true:=decide_eq_true (by omega)
   have hbad:=Bs 5 s.size
   unfold Cq
   rw[if_pos hlt]
   unfold rdA
   unfold B9 at hbad ⊢
   refine A6 Tryz.func66 Tryz.ntmps66 ?_
   refine A0 hdg ?_
   refine w7 (A3 [] hbad) trivial ?_
   refine A0 trivial ?_
   exact Am (A7 []) Tryz.results66
  ·have hdg:decide ((i:Int)≥(s.size:Int))=false:=decide_eq_false (by omega)
   have hi':i<s.size:=by omega
   obtain⟨b,hg,hb⟩:=Aw hi'
   have hbn:((b.toNat:Nat):Int)=((bAt s i:Nat):Int):=by rw[hb]
   have hone:=fun j hj=>ih (d+1) (by omega) j hj
   have hrd:=fun j hj=>C2 (s:=s) k j hj
   have hwn:=Jk s hs' i hi ⟨#[110,117,108,108]⟩ (by decide) 0
   have hwf:=Jk s hs' i hi ⟨#[102,97,108,115,101]⟩ (by decide) 1
   have hwt:=Jk s hs' i hi ⟨#[116,114,117,101]⟩ (by decide) 2
   have hwhole:=Ro s hs' i hi'
   have harr:=fun h=>QN s hs i d (by omega) hi' h (Cq k s) hone k hrd
   have hobj:=fun h=>RA s hs i d (by omega) hi' h (Cq k s) hone k hrd
   have hstr:=K6 s hs' i hi'
   have f110:=fun n=>decide_eq_false (p:=bAt s i=n)
   clear f110
   unfold Cq
   rw[if_neg hlt]
   by_cases h110:bAt s i=110
   ·have e110:(((bAt s i:Nat):Int)==110)=true:=by simp[h110]
    rw[if_pos h110]
    refine⟨ByteArray.empty,?_⟩
    change AC _ _ _ _ (rdA (Ck s (BZ 0) i [110,117,108,108] 0) ByteArray.empty) _ at hwn
    cases hR:Ck s (BZ 0) i [110,117,108,108] 0 with
    |ok v e =>
     rw[hR]at hwn
     unfold rdA Dk at hwn ⊢
     refine A6 Tryz.func66 Tryz.ntmps66 ?_
     refine A0 (j5 hdg hdd hg hbn e110) ?_
     refine w9 (Aa [] hwn) trivial ?_
     refine A0 trivial ?_
     exact Am (A7 []) Tryz.results66
    |bad c p =>
     rw[hR]at hwn
     unfold rdA at hwn ⊢
     unfold B9 at hwn ⊢
     refine A6 Tryz.func66 Tryz.ntmps66 ?_
     refine A0 (j5 hdg hdd hg hbn e110) ?_
     refine w9 (Aa [] hwn) trivial ?_
     refine A0 trivial ?_
     exact Am (A7 []) Tryz.results66
   have e110:(((bAt s i:Nat):Int)==110)=false:=by simp;omega
   rw[if_neg h110]
   by_cases h102:bAt s i=102
   ·have e102:(((bAt s i:Nat):Int)==102)=true:=by simp[h102]
    rw[if_pos h102]
    refine⟨ByteArray.empty,?_⟩
    change AC _ _ _ _ (rdA (Ck s (BZ 1) i [102,97,108,115,101] 0) ByteArray.empty) _ at hwf
    cases hR:Ck s (BZ 1) i [102,97,108,115,101] 0 with
    |ok v e =>
     rw[hR]at hwf
     unfold rdA Dk at hwf ⊢
     refine A6 Tryz.func66 Tryz.ntmps66 ?_
     refine A0 (j6 hdg hdd hg hbn e110 e102) ?_
     refine w9 (Aa [] hwf) trivial ?_
     refine A0 trivial ?_
     exact Am (A7 []) Tryz.results66
    |bad c p =>
     rw[hR]at hwf
     unfold rdA at hwf ⊢
     unfold B9 at hwf ⊢
     refine A6 Tryz.func66 Tryz.ntmps66 ?_
     refine A0 (j6 hdg hdd hg hbn e110 e102) ?_
     refine w9 (Aa [] hwf) trivial ?_
     refine A0 trivial ?_
     exact Am (A7 []) Tryz.results66
   have e102:(((bAt s i:Nat):Int)==102)=false:=by simp;omega
   rw[if_neg h102]
   by_cases h116:bAt s i=116
   ·have e116:(((bAt s i:Nat):Int)==116)=true:=by simp[h116]
    rw[if_pos h116]
    refine⟨ByteArray.empty,?_⟩
    change AC _ _ _ _ (rdA (Ck s (BZ 2) i [116,114,117,101] 0) ByteArray.empty) _ at hwt
    cases hR:Ck s (BZ 2) i [116,114,117,101] 0 with
    |ok v e =>
     rw[hR]at hwt
     unfold rdA Dk at hwt ⊢
     refine A6 Tryz.func66 Tryz.ntmps66 ?_
     refine A0 (j7 hdg hdd hg hbn e110 e102 e116) ?_
     refine w9 (Aa [] hwt) trivial ?_
     refine A0 trivial ?_
     exact Am (A7 []) Tryz.results66
    |bad c p =>
     rw[hR]at hwt
     unfold rdA at hwt ⊢
     unfold B9 at hwt ⊢
     refine A6 Tryz.func66 Tryz.ntmps66 ?_
     refine A0 (j7 hdg hdd hg hbn e110 e102 e116) ?_
     refine w9 (Aa [] hwt) trivial ?_
     refine A0 trivial ?_
     exact Am (A7 []) Tryz.results66
   have e116:(((bAt s i:Nat):Int)==116)=false:=by simp;omega
   rw[if_neg h116]
   by_cases h91:bAt s i=91
   ·have e91:(((bAt s i:Nat):Int)==91)=true:=by simp[h91]
    rw[if_pos h91]
    refine⟨ByteArray.empty,?_⟩
    have harr:=harr h91
    cases hR:Bd s (Cq k s) false (s.size+1) (Af s (i+1)) true [] [] with
    |ok v e =>
     rw[hR]at harr
     unfold rdA Dk at harr ⊢
     refine A6 Tryz.func66 Tryz.ntmps66 ?_
     refine A0 (j8 hdg hdd hg hbn e110 e102 e116 e91) ?_
     refine w9 (Aa [] harr) trivial ?_
     refine A0 trivial ?_
     exact Am (A7 []) Tryz.results66
    |bad c p =>
     rw[hR]at harr
     unfold rdA at harr ⊢
     unfold B9 at harr ⊢
     refine A6 Tryz.func66 Tryz.ntmps66 ?_
     refine A0 (j8 hdg hdd hg hbn e110 e102 e116 e91) ?_
     refine w9 (Aa [] harr) trivial ?_
     refine A0 trivial ?_
     exact Am (A7 []) Tryz.results66
   have e91:(((bAt s i:Nat):Int)==91)=false:=by simp;omega
   rw[if_neg h91]
   by_cases h123:bAt s i=123
   ·have e123:(((bAt s i:Nat):Int)==123)=true:=by simp[h123]
    rw[if_pos h123]
    refine⟨ByteArray.empty,?_⟩
    have hobj:=hobj h123
    cases hR:Bd s (Cq k s) true (s.size+1) (Af s (i+1)) true [] [] with
    |ok v e =>
     rw[hR]at hobj
     unfold rdA Dk at hobj ⊢
     refine A6 Tryz.func66 Tryz.ntmps66 ?_
     refine A0 (j9 hdg hdd hg hbn e110 e102 e116 e91 e123) ?_
     refine w9 (Aa [] hobj) trivial ?_
     refine A0 trivial ?_
     exact Am (A7 []) Tryz.results66
    |bad c p =>
     rw[hR]at hobj
     unfold rdA at hobj ⊢
     unfold B9 at hobj ⊢
     refine A6 Tryz.func66 Tryz.ntmps66 ?_
     refine A0 (j9 hdg hdd hg hbn e110 e102 e116 e91 e123) ?_
     refine w9 (Aa [] hobj) trivial ?_
     refine A0 trivial ?_
     exact Am (A7 []) Tryz.results66
   have e123:(((bAt s i:Nat):Int)==123)=false:=by simp;omega
   rw[if_neg h123]
   by_cases h34:bAt s i=34
   ·have e34:(((bAt s i:Nat):Int)==34)=true:=by simp[h34]
    rw[if_pos h34]
    have hsr:E4 s i=CU s i (s.size+1) (i+1) ByteArray.empty:=by unfold E4;rw[if_neg (by simp[h34])]
    have hsf:=Ep (s:=s) hi
    rw[←hsr]at hstr
    cases hR:E4 s i with
    |ok t e =>
     rw[hR]at hstr
     refine⟨t,?_⟩
     have hl1:=Po t
     unfold rdT Dk at hstr
     simp only
     unfold rdA Dk
     refine A6 Tryz.func66 Tryz.ntmps66 ?_
     refine A0 (j10 hdg hdd hg hbn e110 e102 e116 e91 e123 e34) ?_
     have h00:((0:Int)==0)=true:=rfl
     refine w9 (Aa [] hstr) trivial ?_
     refine A0 h00 ?_
     refine w9 (Aa [] hl1) trivial ?_
     refine A0 trivial ?_
     exact Am (A7 []) Tryz.results66
    |bad c p =>
     rw[hR]at hstr hsf
     refine⟨ByteArray.empty,?_⟩
     have hc0:(c==0)=false:=by simpa using Bq hsf.1
     unfold rdT at hstr
     simp only
     unfold rdA
     unfold B9 at hstr ⊢
     refine A6 Tryz.func66 Tryz.ntmps66 ?_
     refine A0 (j10 hdg hdd hg hbn e110 e102 e116 e91 e123 e34) ?_
     refine w9 (Aa [] hstr) trivial ?_
     refine A0 hc0 ?_
     exact Am (A7 []) Tryz.results66
   have e34:(((bAt s i:Nat):Int)==34)=false:=by simp;omega
   rw[if_neg h34]
   refine⟨ByteArray.empty,?_⟩
   change AC _ _ _ _ (rdA (T4 s i) ByteArray.empty) _
   cases hR:T4 s i with
   |ok v e =>
    rw[hR]at hwhole
    unfold rdA Dk at hwhole ⊢
    refine A6 Tryz.func66 Tryz.ntmps66 ?_
    refine A0 (j10 hdg hdd hg hbn e110 e102 e116 e91 e123 e34) ?_
    refine w9 (Aa [] hwhole) trivial ?_
    refine A0 trivial ?_
    exact Am (A7 []) Tryz.results66
   |bad c p =>
    rw[hR]at hwhole
    unfold rdA at hwhole ⊢
    unfold B9 at hwhole ⊢
    refine A6 Tryz.func66 Tryz.ntmps66 ?_
    refine A0 (j10 hdg hdd hg hbn e110 e102 e116 e91 e123 e34) ?_
    refine w9 (Aa [] hwhole) trivial ?_
    refine A0 trivial ?_
    exact Am (A7 []) Tryz.results66
end
section
open Go.RowKit
section
variable {P:Program} {o:Oper} {σ:ASt}
theorem Pw {t:TypeId}{x:Operand}{k:IntKind}{n:Int}(ho:o.op=.makeInterface t x) (hx:σ.ev x=.c (.int k n)) (hc:P.concrete t=true):Al P o σ ⟨[],[],.c (.raw (.iface t (.int k n)))⟩:=by
 refine Al.pure fun Γ σ' a w ow κ hag hr=>?_
 have e1:=AR.int (hag.ev hr (by rw[ho];simp[Op.operands]) hx)
 refine⟨.iface t (.int k n),?_,⟨rfl,rfl,rfl⟩⟩
 unfold execOp
 rw[ho]
 simp[e1,run_makeInterface _ _ _ hc]
theorem Rz {op:BinOp}{t t':TypeId}{y:Operand}{q:Value}{tx:TypeId}{u:Value}{x:AV}(ho:o.op=.binOp op t y (.const q) t') (hy:σ.ev y=.c (.raw (.iface tx u))) (hz:σ.ev (.const q)=.c (.raw .nilIface))
  (ht:P.underlying t=some (.interface (P.methodsAt t))) (he:DC op false=some x):Al P o σ ⟨[],[],x⟩:=by
 refine Al.pure fun Γ σ' a w ow κ hag hr=>?_
 have e1:=(hag.ev hr (by rw[ho];simp[Op.operands]) hy).1
 have e2:=(hag.ev hr (by rw[ho];simp[Op.operands]) hz).1
 refine DW (b:=false) ho he e1 e2 (fun op=>?_) (run_eql_held_nil w t tx u ht) (run_neq_held_nil w t tx u ht)
 unfold eqGuard
 cases op<;>simp
theorem UP {op:BinOp}{t t':TypeId}{y z:Operand}{tx:TypeId}{k q:IntKind}{m n:Int}{ms:Array (String×TypeId)}{x:AV}{b:Bool}(ho:o.op=.binOp op t y z t') (hy:σ.ev y=.c (.raw (.iface tx (.int k m)))) (hz:σ.ev z=.c (.raw (.iface tx (.int k n))))
  (ht:P.underlying t=some (.interface ms)) (hc:(P.info? tx).map (·.comparable)=some true) (hu:P.underlying tx=some (.int q)) (hg:∀op w,(eqGuard op t y z (.iface tx (.int k m)) (.iface tx (.int k n))).run P w=.ok () w) (hb:(m==n)=b) (he:DC op b=some x):Al P o σ ⟨[],[],x⟩:=by
 refine Al.pure fun Γ σ' a w ow κ hag hr=>?_
 have e1:=(hag.ev hr (by rw[ho];simp[Op.operands]) hy).1
 have e2:=(hag.ev hr (by rw[ho];simp[Op.operands]) hz).1
 subst hb
 exact DW ho he e1 e2 (fun op=>hg op w) (Lib.run_eql_iface_int w m n ht hc hu) (Lib.run_neq_iface_int w m n ht hc hu)
theorem W5 {op:BinOp}{t t':TypeId}{y z:Operand}{k k':IntKind}{m n:Int}{c:C}{u:Value}(ho:o.op=.binOp op t y z t') (hy:σ.ev y=.c (.int k m)) (hz:σ.ev z=.c (.int k' n))
  (hg:∀w,(eqGuard op t y z (.int k m) (.int k' n)).run P w=.ok () w) (hq:∀w,(binOp op t (.int k m) (.int k' n)).run P w=.ok u w) (hc:∀w S,CR w S c u []):Al P o σ ⟨[],[],.c c⟩:=by
 refine Al.pure fun Γ σ' a w ow κ hag hr=>?_
 have e1:=AR.int (hag.ev hr (by rw[ho];simp[Op.operands]) hy)
 have e2:=AR.int (hag.ev hr (by rw[ho];simp[Op.operands]) hz)
 refine⟨u,?_,hc _ _⟩
 unfold execOp
 rw[ho]
 simp only[e1,e2,Sem.run_bind,hg,hq,Result.andThen_ok,Sem.run_pure]
theorem PL (s:ByteArray) (cap j:Nat) (h:j<s.size):(bytesRow s cap)[j]? = some (.int .u8 ((s.data.toList[j]'(by simpa using h)).toNat:Int)):=by
 have h1:j<(s.data.map fun b=>Value.int .u8 b.toNat).size:=by simpa using h
 unfold bytesRow
 rw[Array.getElem?_append_left h1]
 simp
 exact⟨_,Array.getElem?_eq_getElem (by simpa using h),rfl⟩
theorem TN {src dst e:TypeId}{x:Operand}{s:ByteArray}(ho:o.op=.convert src dst x) (hx:σ.ev x=.c (.str s)) (hs:P.underlying src=some .string) (hd:P.underlying dst=some (.slice e)) (he:P.underlying e=some (.int .u8)) :
  Al P o σ ⟨[],[],.c (.sl (AF s.data.toList))⟩:=by
 intro Γ σ' a w ow κ hag hr
 have e1:=AR.str (hag.ev hr (by rw[ho];simp[Op.operands]) hx)
 have hrun:=run_bytes_of_string (P:=P) w src dst e s hs hd he
 generalize hcp:grownCap w s.size 0 e=cap at hrun
 obtain⟨w',hw'⟩:∃w',w.drew.alloc (.cells (bytesRow s cap) e ((bytesRow s cap).size,(bytesRow s cap).size+1))=w':=⟨_,rfl⟩
 rw[hw']at hrun
 have hheap:w'.heap=w.heap.push (.cells (bytesRow s cap) e ((bytesRow s cap).size,(bytesRow s cap).size+1)):=by rw[←hw'];rfl
 have hold:∀b,b<w.heap.size→w'.heap[b]? = w.heap[b]?:=fun b hb=>by rw[hheap,Array.getElem?_push_lt hb,Array.getElem?_eq_getElem hb]
 have hnew:w'.heap[w.heap.size]? = some (.cells (bytesRow s cap) e ((bytesRow s cap).size,(bytesRow s cap).size+1)):=by rw[hheap];simp
 have hno:ow w.heap.size=none:=by
  cases h:ow w.heap.size with
  |none=>rfl
  |some i=>have:=(hr.own _ _ h).1;omega
 have hsz:w'.heap.size=w.heap.size+1:=by rw[hheap];simp
 have st:Step σ'.mem [] w ow κ w' ow κ:=⟨by rw[←hw'];rfl,by rw[←hw'];rfl,by rw[←hw'];rfl,by omega,fun b hb _=>⟨hold b hb,rfl⟩,fun b i hb=>.inl ⟨by simp,hb⟩,fun _ _ _=>rfl,fun i hi=>by simp at hi⟩
 have hcell:∀j (hj:j<s.data.toList.length),w'.cell? ⟨w.heap.size,j,none⟩=some (.int .u8 ((s.data.toList[j]).toNat:Int)):=fun j hj=>by
  have h1:=PL s cap j (by simpa using hj)
  unfold World.cell?
  simp only[hnew]
  simpa using h1
 have hres:CR w' (Γ.sees ow) (.sl (AF s.data.toList)) (.slice (some ⟨w.heap.size,0,none⟩) s.size cap) []:=by
  have hlen:(AF s.data.toList).length=s.size:=by simp[AF]
  refine⟨1,some ⟨w.heap.size,0,none⟩,cap,s.data.toList.map fun b=>[.int .u8 (b.toNat:Int)],by rw[hlen],by rw[hlen,←hcp];exact grownCap_ge w _ _ _,trivial,?_,?_,rfl⟩
  ·refine⟨fun x hx=>?_,fun hn=>⟨w.heap.size,0,rfl,⟨hno,.inr (.inl hr.size)⟩,by omega,fun i x hx j u hu=>?_⟩⟩
   ·obtain⟨b,_,rfl⟩:=List.mem_map.1 hx
    rfl
   ·rw[List.getElem?_map]at hx
    cases hq:s.data.toList[i]? with
    |none=>rw[hq]at hx;cases hx
    |some b =>
     rw[hq]at hx
     simp only[Option.map_some,Option.some.injEq]at hx
     subst hx
     obtain⟨hi,hb⟩:=List.getElem?_eq_some_iff.1 hq
     cases j with
     |zero =>
      simp only[List.getElem?_cons_zero,Option.some.injEq]at hu
      subst hu
      have:=hcell i hi
      rw[hb]at this
      simpa using this
     |succ j=>simp at hu
  ·have:∀l:List UInt8,Ag w' (Γ.sees ow) (AF l) (l.map fun b=>[Value.int .u8 (b.toNat:Int)]) []:=by
    intro l
    induction l with
    |nil=>simp[AF,Ag]
    |cons b l ih =>
     simp only[AF,List.map_cons,Ag]
     exact⟨_,_,[],[],rfl,rfl,⟨_,_,[],[],rfl,rfl,⟨rfl,rfl⟩,rfl,rfl⟩,ih⟩
   exact this _
 refine⟨_,w',ow,κ,.inl ?_,hr.step (E:=⟨[],[],.c (.sl (AF s.data.toList))⟩) st hres (fun i hi=>by simp at hi) o.dst⟩
 unfold execOp
 rw[ho]
 simp[e1,hrun]
theorem Us {src dst e t:TypeId}{x:Operand}{i:Id}(ho:o.op=.convert src dst x) (hx:σ.ev x=.own i) (hs:P.underlying src=some (.slice e)) (he:P.underlying e=some (.int .u8)) (hd:P.underlying dst=some .string)
  (hi:σ.mem.get i=some (.row false 1 t [])):Al P o σ ⟨[i],[],.c (.str ByteArray.empty)⟩:=by
 refine Al.pure fun Γ σ' a w ow κ hag hr=>?_
 have hi':σ'.mem.get i=some (.row false 1 t []):=by rw[hag.2.1 i (by simp),hi]
 obtain⟨_,o1,k1,k2⟩:=hag.ev hr (by rw[ho];simp[Op.operands]) hx
 rw[hi']at k1
 cases k1
 have e1:=k2 (by simp)
 obtain⟨vrows,bs,h1,h2,h3,h4,h5,h6⟩:=hr.objs i _ hi'
 obtain⟨_,⟨h7,h8⟩ | ⟨b,cap,cs,h7,_⟩⟩:=h4
 ·refine⟨.string ByteArray.empty,?_,⟨rfl,rfl⟩⟩
  have hrun:=run_convert_bytes_nil (P:=P) (w:=w) src e hs he 0 0 dst hd
  unfold execOp
  rw[ho]
  simp[e1,h7,hrun]
 ·refine⟨.string ByteArray.empty,?_,⟨rfl,rfl⟩⟩
  have hrun:(convert src dst (.slice (some ⟨b,0,none⟩) 0 cap)).run P w=.ok (.string ByteArray.empty) w:=run_convert_bytes_back (P:=P) w src dst e ⟨b,0,none⟩ cap [] hs he hd (fun j hj=>by simp at hj)
  have h7':κ i=.slice (some ⟨b,0,none⟩) 0 cap:=h7
  unfold execOp
  rw[ho]
  simp[e1,h7',hrun]
end
section
variable {P:Program} {σ τ:ASt} {ops:Array Oper} {r:List Oper} {fs:List AEff} {K:ASt→List AEff→Prop} {E:AEff} {d:Option Tmp} {ty':TypeId} {pos:String} {af:Array Edge} {gd:Option (Nat×Bool)}
theorem D3 {t:TypeId}{x:Operand}{k:IntKind}{n:Int}(hc:P.concrete t=true) (hg:Bi ops σ ⟨d,.makeInterface t x,ty',pos,af,gd⟩=some true) (hx:σ.ev x=.c (.int k n))
  (hE:(⟨[],[],.c (.raw (.iface t (.int k n)))⟩:AEff)=E) (hτ:σ.upd d E=τ) (h:Ad P ops r τ (fs++[E]) K):Ad P ops (⟨d,.makeInterface t x,ty',pos,af,gd⟩::r) σ fs K:=by
 subst hE
 exact Bt hg (Pw rfl hx hc).sound hτ h
theorem GJ {op:BinOp}{t t':TypeId}{y:Operand}{q:Value}{tx:TypeId}{u:Value}{x:AV}(ht:P.underlying t=some (.interface (P.methodsAt t))) (hg:Bi ops σ ⟨d,.binOp op t y (.const q) t',ty',pos,af,gd⟩=some true) (hy:σ.ev y=.c (.raw (.iface tx u))) (hz:σ.ev (.const q)=.c (.raw .nilIface)) (he:DC op false=some x)
  (hE:(⟨[],[],x⟩:AEff)=E) (hτ:σ.upd d E=τ) (h:Ad P ops r τ (fs++[E]) K):Ad P ops (⟨d,.binOp op t y (.const q) t',ty',pos,af,gd⟩::r) σ fs K:=by
 subst hE
 exact Bt hg (Rz rfl hy hz ht he).sound hτ h
theorem KG {op:BinOp}{t t':TypeId}{y z:Operand}{tx:TypeId}{k q:IntKind}{m n:Int}{ms:Array (String×TypeId)}{x:AV}{b:Bool}(ht:P.underlying t=some (.interface ms)) (hc:(P.info? tx).map (·.comparable)=some true) (hu:P.underlying tx=some (.int q))
  (hg:Bi ops σ ⟨d,.binOp op t y z t',ty',pos,af,gd⟩=some true) (hy:σ.ev y=.c (.raw (.iface tx (.int k m)))) (hz:σ.ev z=.c (.raw (.iface tx (.int k n)))) (hgu:∀op w,(eqGuard op t y z (.iface tx (.int k m)) (.iface tx (.int k n))).run P w=.ok () w) (hb:(m==n)=b) (he:DC op b=some x)
  (hE:(⟨[],[],x⟩:AEff)=E) (hτ:σ.upd d E=τ) (h:Ad P ops r τ (fs++[E]) K):Ad P ops (⟨d,.binOp op t y z t',ty',pos,af,gd⟩::r) σ fs K:=by
 subst hE
 exact Bt hg (UP rfl hy hz ht hc hu hgu hb he).sound hτ h
theorem SH {op:BinOp}{t t':TypeId}{y z:Operand}{k k':IntKind}{m n:Int}{c:C}{u:Value}(hq:∀w,(binOp op t (.int k m) (.int k' n)).run P w=.ok u w) (hc:∀w S,CR w S c u []) (hgu:∀w,(eqGuard op t y z (.int k m) (.int k' n)).run P w=.ok () w)
  (hg:Bi ops σ ⟨d,.binOp op t y z t',ty',pos,af,gd⟩=some true) (hy:σ.ev y=.c (.int k m)) (hz:σ.ev z=.c (.int k' n))
  (hE:(⟨[],[],.c c⟩:AEff)=E) (hτ:σ.upd d E=τ) (h:Ad P ops r τ (fs++[E]) K):Ad P ops (⟨d,.binOp op t y z t',ty',pos,af,gd⟩::r) σ fs K:=by
 subst hE
 exact Bt hg (W5 rfl hy hz hgu hq hc).sound hτ h
theorem W9 {src dst e:TypeId}{x:Operand}{s:ByteArray}{rows:List (List C)}(hy:AF s.data.toList=rows) (hs:P.underlying src=some .string) (hd:P.underlying dst=some (.slice e)) (he:P.underlying e=some (.int .u8))
  (hg:Bi ops σ ⟨d,.convert src dst x,ty',pos,af,gd⟩=some true) (hx:σ.ev x=.c (.str s))
  (hE:(⟨[],[],.c (.sl rows)⟩:AEff)=E) (hτ:σ.upd d E=τ) (h:Ad P ops r τ (fs++[E]) K):Ad P ops (⟨d,.convert src dst x,ty',pos,af,gd⟩::r) σ fs K:=by
 subst hE hy
 exact Bt hg (TN rfl hx hs hd he).sound hτ h
theorem IP {src dst e t:TypeId}{x:Operand}{i:Id}{y:ByteArray}(l:List UInt8) (hy:(⟨l.toArray⟩:ByteArray)=y) (hs:P.underlying src=some (.slice e)) (he:P.underlying e=some (.int .u8)) (hd:P.underlying dst=some .string)
  (hg:Bi ops σ ⟨d,.convert src dst x,ty',pos,af,gd⟩=some true) (hx:σ.ev x=.own i) (hi:σ.mem.get i=some (.row false 1 t (AF l)))
  (hE:(⟨[i],[],.c (.str y)⟩:AEff)=E) (hτ:σ.upd d E=τ) (h:Ad P ops r τ (fs++[E]) K):Ad P ops (⟨d,.convert src dst x,ty',pos,af,gd⟩::r) σ fs K:=by
 subst hE hy
 cases l with
 |nil=>exact Bt hg (Us rfl hx hs he hd hi).sound hτ h
 |cons b l=>exact Bt hg (Pp (b::l) (by simp) rfl hx hs he hd hi).sound hτ h
end
theorem ST (σ:ASt):σ.ev (.const .nilIface)=.c (.raw .nilIface):=rfl
attribute [go_sem] ST
end
end Go.Proofs.YtllfmaflodbieaaGreatDoor
