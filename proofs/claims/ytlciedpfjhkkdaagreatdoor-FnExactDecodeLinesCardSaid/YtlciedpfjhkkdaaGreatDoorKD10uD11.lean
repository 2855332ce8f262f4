/- Texts of this proof: D10 D11. -/
import Derived.Test.YtlciedpfjhkkdaaGreatDoorKD09
set_option linter.all false
set_option maxHeartbeats 8000000
namespace Go.Proofs.YtlciedpfjhkkdaaGreatDoor
open Go.RowKit
set_option maxRecDepth 10000
theorem Q5 (s:ByteArray) (rd:Nat→Rd V) (n i:Nat) (first:Bool) (kids:List V):B0 s rd false (n+1) i first [] kids=if bAt s i=93 then .ok (CX kids) (i+1) else if first=false∧bAt s i≠44 then .bad 5 i
  else match rd (if first then i else Aa s (i+1)) with
   | .bad c p=>.bad c p
   | .ok v e2=>B0 s rd false n (Aa s e2) false [] (kids++[v]):=by
 rw[B0]
 simp only[Bool.false_eq_true,if_false]
 rfl
theorem R4 (s:ByteArray) (rd:Nat→Rd V) (n i:Nat) (first:Bool) (keys:List ByteArray) (kids:List V):B0 s rd true (n+1) i first keys kids=if bAt s i=125 then .ok (Gu keys kids) (i+1) else if first=false∧bAt s i≠44 then .bad 5 i
  else match Mq s (if first then i else Aa s (i+1)) with
   | .bad c p=>.bad c p
   | .ok k e=>match rd (Aa s e) with
    | .bad c p=>.bad c p
    | .ok v e2=>B0 s rd true n (Aa s e2) false (keys++[k]) (kids++[v]):=by
 rw[B0]
 simp only[if_true]
 generalize (if first=true then i else Aa s (i+1))=j
 unfold HP Mq
 cases Dl s j with
 |bad c p=>rfl
 |ok k e =>
  simp only
  by_cases h:bAt s (Aa s e)=58
  ·simp[h]
   rfl
  ·simp[h]
theorem Nd (s:ByteArray) (hs:s.size≤100000) (i0 d:Nat) (hd:d≤30) (hi0:i0<s.size) (h91:bAt s i0=91) (rd:Nat→Rd V)
  (hone:∀j,j≤s.size→∃x,AC Tryz.prog 37 [.c (.str s),.c (.int .i64 j),.c (.int .i64 ((d+1:Nat):Int))] [] (rdA (rd j) x) []) (m:Nat) (hrd:∀j,j≤s.size→(rd j).fine s j (rdV m j)) :
  AC Tryz.prog 74 [.c (.str s),.c (.int .i64 i0),.c (.int .i64 d)] [] (rdA (B0 s rd false (s.size+1) (Aa s (i0+1)) true [] []) ByteArray.empty) []:=by
 have hs':s.size≤1000000:=by omega
 have hwd:=Ae (k:=d) (by omega)
 have h00:((0:Int) != 0)=false:=rfl
 have hw0:=Ae (k:=i0) (by omega)
 obtain⟨b0,hg0,hb0⟩:=Ar hi0
 have hbn0:(((b0.toNat:Nat):Int)==123)=false:=by rw[←hb0,h91];rfl
 obtain⟨p1,p2,_⟩:=AA (s:=s) (i:=i0+1) (by omega)
 have hsk0:=BP s hs' (i0+1) (by omega)
 obtain⟨R,hR⟩:∃R,B0 s rd false (s.size+1) (Aa s (i0+1)) true [] []=R:=⟨_,rfl⟩
 rw[hR]
 refine A7 Tryz.func74 Tryz.ntmps74 ?_
 refine A0 (j3 hg0 hbn0 hw0) ?_
 refine w7 (A4 [] hsk0) trivial ?_
 refine A0 trivial ?_
 refine AH (κ:=Nat×Bool×List V) (fun k=>⟨mkS 0 102 [(0,.c (.str s)),(2,.c (.int .i64 d)),(6,.ptr (6,0) 0),(7,.c (.bool false)),(8,.c (.int .u8 93)),(10,.own (99,1)),(11,.c (.int .i64 k.1)),(12,.c (.bool k.2.1))],
   [((6,0),.box [.nils,.c (.str ByteArray.empty),.c (.int .i64 0),.c (.int .i64 0),.c (.int .i64 0)]),((99,1),.row false 1 22 ((k.2.2.map V.enc).map An))]⟩)
  (fun k=>k.1≤s.size∧Am k.2.2+i0+1≤k.1∧∃n,s.size-k.1<n∧B0 s rd false n k.1 k.2.1 [] k.2.2=R) (fun k=>s.size+(if k.2.1 then 1 else 0)-k.1) (Aa s (i0+1),true,[]) ⟨by dsimp only;omega,by simp only[Am];omega,s.size+1,by dsimp only;omega,hR⟩ ?_ ?_
 ·exact Ao (Ay.of [((6,0),(6,0)),((99,1),(21,0))] []) @List.map_nil.{0,0}
 ·rintro⟨i,first,kids⟩ ⟨hi,hcl,n,hn,hgo⟩
  dsimp only at hi hcl hn hgo ⊢
  obtain⟨n,rfl⟩:∃m,n=m+1:=⟨n-1,by omega⟩
  rw[Q5]at hgo
  have hkl:=BH kids
  have hol:kids.length+1≤1000000:=by omega
  have hwi:=Ae (k:=i) (by omega)
  by_cases hend:bAt s i=93
  ·have hlt:=BV (s:=s) (i:=i) (by omega)
   have hdg:decide ((i:Int)≥(s.size:Int))=false:=decide_eq_false (by omega)
   obtain⟨b,hg,hb⟩:=Ar hlt
   have hbn:(((b.toNat:Nat):Int) != 93)=false:=by rw[←hb,hend];rfl
   rw[if_pos hend]at hgo
   subst hgo
   have hcc:(CX kids).count≤500000:=by rw[Jt];omega
   have harr:=Ln kids hcc
   unfold rdA CV
   refine A0 (j3 hdg hg hbn) ?_
   refine w9 (Ah [(99,1)] harr) trivial ?_
   refine A0 hwi ?_
   exact Al (A6 []) Tryz.results74
  ·rw[if_neg hend]at hgo
   by_cases hcomma:first=false∧bAt s i≠44
   ·rw[if_pos hcomma]at hgo
    obtain⟨hf,h44⟩:=hcomma
    subst hgo hf
    have hbad:=AZ 5 i
    unfold rdA
    unfold AP at hbad ⊢
    by_cases hlt:i<s.size
    ·have hdg:decide ((i:Int)≥(s.size:Int))=false:=decide_eq_false (by omega)
     obtain⟨b,hg,hb⟩:=Ar hlt
     have hbn:(((b.toNat:Nat):Int) != 93)=true:=by rw[←hb];simp;omega
     have hbn2:(((b.toNat:Nat):Int) != 44)=true:=by rw[←hb];simp;omega
     refine A0 (j4 hdg hg hbn hbn2) ?_
     refine w7 (A4 [] hbad) trivial ?_
     refine A0 trivial ?_
     exact Al (A6 []) Tryz.results74
    ·have hdg:decide ((i:Int)≥(s.size:Int))=true:=decide_eq_true (by omega)
     refine A0 hdg ?_
     refine w7 (A4 [] hbad) trivial ?_
     refine A0 trivial ?_
     exact Al (A6 []) Tryz.results74
   ·rw[if_neg hcomma]at hgo
    have hway:∃j,(if first then i else Aa s (i+1))=j∧i≤j∧j≤s.size∧((first=true∧i<s.size∧i=j)∨(first=true∧¬i<s.size∧i=j)∨(first=false∧i<s.size∧bAt s i=44∧Aa s (i+1)=j)):=by
     cases first with
     |true =>
      by_cases hlt:i<s.size
      ·exact⟨i,rfl,Nat.le_refl _,hi,.inl ⟨rfl,hlt,rfl⟩⟩
      ·exact⟨i,rfl,Nat.le_refl _,hi,.inr (.inl ⟨rfl,hlt,rfl⟩)⟩
     |false =>
      have hb:bAt s i=44:=Classical.byContradiction fun h=>hcomma ⟨rfl,h⟩
      have hlt:=BV (s:=s) (i:=i) (by omega)
      obtain⟨g1,g2,_⟩:=AA (s:=s) (i:=i+1) (by omega)
      exact⟨Aa s (i+1),rfl,by omega,g2,.inr (.inr ⟨rfl,hlt,hb,rfl⟩)⟩
    obtain⟨j,hje,hj1,hj2,hway⟩:=hway
    rw[hje]at hgo
    have hmz:∀e,j<e→e≤s.size→s.size+0-Aa s e<s.size+(if first then 1 else 0)-i:=fun e h1 h2=>by
     obtain⟨g1,g2,_⟩:=AA h2
     rcases hway with⟨h,_⟩ | ⟨h,_⟩ | ⟨h,_,_,_⟩
     ·rw[if_pos h];omega
     ·rw[if_pos h];omega
     ·omega
    obtain⟨x,hx⟩:=hone j hj2
    have hfine:=hrd j hj2
    rcases hway with⟨h1,h2,h3⟩ | ⟨h1,h2,h3⟩ | ⟨h1,h2,h3,h4⟩
    focus
     have hdg:decide ((i:Int)≥(s.size:Int))=false:=decide_eq_false (by omega)
     obtain⟨b,hg,hb⟩:=Ar h2
     have hbn:(((b.toNat:Nat):Int) != 93)=true:=by rw[←hb];simp;omega
     subst h1
     obtain rfl:j=i:=h3.symm
     refine A0 (j4 hdg hg hbn hwd) ?_
    rotate_left
    focus
     have hdg:decide ((i:Int)≥(s.size:Int))=true:=decide_eq_true (by omega)
     subst h1
     obtain rfl:j=i:=h3.symm
     refine A0 (j2 hdg hwd) ?_
    rotate_left
    focus
     have hdg:decide ((i:Int)≥(s.size:Int))=false:=decide_eq_false (by omega)
     obtain⟨b,hg,hb⟩:=Ar h2
     have hbn:(((b.toNat:Nat):Int) != 93)=true:=by rw[←hb,h3];rfl
     have hbn2:(((b.toNat:Nat):Int) != 44)=false:=by rw[←hb,h3];rfl
     have hskc:=BP s hs' (i+1) (by omega)
     rw[h4]at hskc
     subst h1
     refine A0 (j5 hdg hg hbn hbn2 hwi) ?_
     refine w7 (A4 [] hskc) trivial ?_
     refine A0 hwd ?_
    rotate_left
    all_goals
     cases hr:rd j with
     |bad c p =>
      rw[hr]at hgo hx hfine
      simp only at hgo
      subst hgo
      have hc0:(c != 0)=true:=by simpa using AS hfine.1
      unfold rdA at hx ⊢
      unfold AP at hx ⊢
      refine A0 hwd ?_
      refine w7 (A4 [] hx) trivial ?_
      refine A0 hc0 ?_
      exact Al (A6 []) Tryz.results74
     |ok v e =>
      rw[hr]at hgo hx hfine
      simp only at hgo
      obtain⟨f1,f2,f3,f4,f5,f6⟩:=hfine
      have hsk:=BP s hs' e f2
      obtain⟨k1,k2,_⟩:=AA f2
      have hrow:(kids.map V.enc).map An++[[.sl (v.enc.map CellD.cs)]]=((kids++[v]).map V.enc).map An:=by rw[List.map_append,List.map_append];rfl
      unfold rdA CV at hx
      refine A0 hwd ?_
      refine w9 (Ah [] hx) trivial ?_
      refine A0 (j2 hol h00) ?_
      refine w7 (A4 [] hsk) trivial ?_
      refine A0 trivial ?_
      refine⟨(Aa s e,false,kids++[v]),?_,⟨k2,?_,n,?_,hgo⟩,?_⟩
      ·have:=hmz e f1 f2
       dsimp only
       simpa using this
      ·dsimp only;rw[CY];omega
      ·dsimp only;omega
      ·exact Ao (Ay.of [((6,0),(6,0)),((99,1),(85,0))] []) hrow
set_option maxRecDepth 10000
theorem Kb (ks:List ByteArray) (vs:List V) (hl:ks.length=vs.length) (hc:Am vs≤400000):AC Tryz.prog 130 [.c (.sl (ks.map A8)),.c (.sl ((vs.map V.enc).map An))] [] (.c (.sl ((Gu ks vs).enc.map CellD.cs))) []:=by
 have h:=Mh ks vs hl hc
 (apply (AC.says [] [(0,0)] h);(focus (simp only[go_sem,Nat.reduceEqDiff,Nat.reduceAdd,Nat.reduceSub,Nat.reduceLeDiff,Nat.reduceMul,Nat.reduceBEq,Nat.reduceLT,Int.reduceToNat,reduceCtorEq];try (and_intros<;>rfl)));(focus exact rfl);(focus (simp only[go_sem,Nat.reduceEqDiff,Nat.reduceAdd,Nat.reduceSub,Nat.reduceLeDiff,Nat.reduceMul,Nat.reduceBEq,Nat.reduceLT,Int.reduceToNat,reduceCtorEq];try (and_intros<;>rfl)));(focus exact rfl);(iterate 4 (focus (simp[go_sem];done))))
theorem P7 {s:ByteArray}{i:Nat}(hi:i≤s.size):(Mq s i).fine s i fun t _=>BR t=true:=by
 have h:=Df hi
 unfold Mq
 cases hR:Dl s i with
 |bad c p=>rw[hR]at h;exact h
 |ok k e =>
  rw[hR]at h
  obtain⟨h1,h2,h3⟩:=h
  obtain⟨g1,g2,_⟩:=AA h2
  simp only
  by_cases h58:bAt s (Aa s e)=58
  ·have hlt:=C5 (s:=s) (i:=Aa s e) (by omega)
   rw[if_neg (by simp[h58])]
   exact⟨by omega,by omega,h3⟩
  ·rw[if_pos h58]
   exact⟨rd5,by omega,g2⟩
theorem MW (s:ByteArray) (hs:s.size≤100000) (i0 d:Nat) (hd:d≤30) (hi0:i0<s.size) (h123:bAt s i0=123) (rd:Nat→Rd V)
  (hone:∀j,j≤s.size→∃x,AC Tryz.prog 37 [.c (.str s),.c (.int .i64 j),.c (.int .i64 ((d+1:Nat):Int))] [] (rdA (rd j) x) []) (m:Nat) (hrd:∀j,j≤s.size→(rd j).fine s j (rdV m j)) :
  AC Tryz.prog 74 [.c (.str s),.c (.int .i64 i0),.c (.int .i64 d)] [] (rdA (B0 s rd true (s.size+1) (Aa s (i0+1)) true [] []) ByteArray.empty) []:=by
 have hs':s.size≤1000000:=by omega
 have hwd:=Ae (k:=d) (by omega)
 have h00:((0:Int) != 0)=false:=rfl
 have hw0:=Ae (k:=i0) (by omega)
 obtain⟨b0,hg0,hb0⟩:=Ar hi0
 have hbn0:(((b0.toNat:Nat):Int)==123)=true:=by rw[←hb0,h123];rfl
 obtain⟨p1,p2,_⟩:=AA (s:=s) (i:=i0+1) (by omega)
 have hsk0:=BP s hs' (i0+1) (by omega)
 obtain⟨R,hR⟩:∃R,B0 s rd true (s.size+1) (Aa s (i0+1)) true [] []=R:=⟨_,rfl⟩
 rw[hR]
 refine A7 Tryz.func74 Tryz.ntmps74 ?_
 refine A0 (j3 hg0 hbn0 hw0) ?_
 refine w7 (A4 [] hsk0) trivial ?_
 refine A0 trivial ?_
 refine AH (κ:=Nat×Bool×List ByteArray×List V) (fun k=>⟨mkS 0 102 [(0,.c (.str s)),(2,.c (.int .i64 d)),(6,.ptr (6,0) 0),(7,.c (.bool true)),(8,.c (.int .u8 125)),(9,.own (99,0)),(10,.own (99,1)),(11,.c (.int .i64 k.1)),(12,.c (.bool k.2.1))],
   [((6,0),.box [.nils,.c (.str ByteArray.empty),.c (.int .i64 0),.c (.int .i64 0),.c (.int .i64 0)]),((99,0),.row false 1 9 (k.2.2.1.map A8)),((99,1),.row false 1 22 ((k.2.2.2.map V.enc).map An))]⟩)
  (fun k=>k.1≤s.size∧Am k.2.2.2+i0+1≤k.1∧k.2.2.1.length=k.2.2.2.length∧∃n,s.size-k.1<n∧B0 s rd true n k.1 k.2.1 k.2.2.1 k.2.2.2=R) (fun k=>s.size+(if k.2.1 then 1 else 0)-k.1) (Aa s (i0+1),true,[],[]) ⟨by dsimp only;omega,by simp only[Am];omega,rfl,s.size+1,by dsimp only;omega,hR⟩ ?_ ?_
 ·exact Ao (Ay.of [((6,0),(6,0)),((99,0),(20,0)),((99,1),(21,0))] []) @List.map_nil.{0,0}
 ·rintro⟨i,first,keys,kids⟩ ⟨hi,hcl,hkk,n,hn,hgo⟩
  dsimp only at hi hcl hkk hn hgo ⊢
  obtain⟨n,rfl⟩:∃m,n=m+1:=⟨n-1,by omega⟩
  rw[R4]at hgo
  have hkl:=BH kids
  have hol:kids.length+1≤1000000:=by omega
  have hwi:=Ae (k:=i) (by omega)
  by_cases hend:bAt s i=125
  ·have hlt:=BV (s:=s) (i:=i) (by omega)
   have hdg:decide ((i:Int)≥(s.size:Int))=false:=decide_eq_false (by omega)
   obtain⟨b,hg,hb⟩:=Ar hlt
   have hbn:(((b.toNat:Nat):Int) != 125)=false:=by rw[←hb,hend];rfl
   rw[if_pos hend]at hgo
   subst hgo
   have harr:=Kb keys kids hkk (by omega)
   unfold rdA CV
   refine A0 (j3 hdg hg hbn) ?_
   refine w9 (Ah [(99,0),(99,1)] harr) trivial ?_
   refine A0 hwi ?_
   exact Al (A6 []) Tryz.results74
  ·rw[if_neg hend]at hgo
   by_cases hcomma:first=false∧bAt s i≠44
   ·rw[if_pos hcomma]at hgo
    obtain⟨hf,h44⟩:=hcomma
    subst hgo hf
    have hbad:=AZ 5 i
    unfold rdA
    unfold AP at hbad ⊢
    by_cases hlt:i<s.size
    ·have hdg:decide ((i:Int)≥(s.size:Int))=false:=decide_eq_false (by omega)
     obtain⟨b,hg,hb⟩:=Ar hlt
     have hbn:(((b.toNat:Nat):Int) != 125)=true:=by rw[←hb];simp;omega
     have hbn2:(((b.toNat:Nat):Int) != 44)=true:=by rw[←hb];simp;omega
     refine A0 (j4 hdg hg hbn hbn2) ?_
     refine w7 (A4 [] hbad) trivial ?_
     refine A0 trivial ?_
     exact Al (A6 []) Tryz.results74
    ·have hdg:decide ((i:Int)≥(s.size:Int))=true:=decide_eq_true (by omega)
     refine A0 hdg ?_
     refine w7 (A4 [] hbad) trivial ?_
     refine A0 trivial ?_
     exact Al (A6 []) Tryz.results74
   ·rw[if_neg hcomma]at hgo
    have hway:∃j,(if first then i else Aa s (i+1))=j∧i≤j∧j≤s.size∧((first=true∧i<s.size∧i=j)∨(first=true∧¬i<s.size∧i=j)∨(first=false∧i<s.size∧bAt s i=44∧Aa s (i+1)=j)):=by
     cases first with
     |true =>
      by_cases hlt:i<s.size
      ·exact⟨i,rfl,Nat.le_refl _,hi,.inl ⟨rfl,hlt,rfl⟩⟩
      ·exact⟨i,rfl,Nat.le_refl _,hi,.inr (.inl ⟨rfl,hlt,rfl⟩)⟩
     |false =>
      have hb:bAt s i=44:=Classical.byContradiction fun h=>hcomma ⟨rfl,h⟩
      have hlt:=BV (s:=s) (i:=i) (by omega)
      obtain⟨g1,g2,_⟩:=AA (s:=s) (i:=i+1) (by omega)
      exact⟨Aa s (i+1),rfl,by omega,g2,.inr (.inr ⟨rfl,hlt,hb,rfl⟩)⟩
    obtain⟨j,hje,hj1,hj2,hway⟩:=hway
    rw[hje]at hgo
    have hmz:∀e,j<e→e≤s.size→s.size+0-Aa s e<s.size+(if first then 1 else 0)-i:=fun e h1 h2=>by
     obtain⟨g1,g2,_⟩:=AA h2
     rcases hway with⟨h,_⟩ | ⟨h,_⟩ | ⟨h,_,_,_⟩
     ·rw[if_pos h];omega
     ·rw[if_pos h];omega
     ·omega
    have hme:=LE s hs' j hj2
    have hmf:=P7 hj2
    rcases hway with⟨h1,h2,h3⟩ | ⟨h1,h2,h3⟩ | ⟨h1,h2,h3,h4⟩
    focus
     have hdg:decide ((i:Int)≥(s.size:Int))=false:=decide_eq_false (by omega)
     obtain⟨b,hg,hb⟩:=Ar h2
     have hbn:(((b.toNat:Nat):Int) != 125)=true:=by rw[←hb];simp;omega
     subst h1
     obtain rfl:j=i:=h3.symm
     refine A0 (j4 hdg hg hbn hwd) ?_
    rotate_left
    focus
     have hdg:decide ((i:Int)≥(s.size:Int))=true:=decide_eq_true (by omega)
     subst h1
     obtain rfl:j=i:=h3.symm
     refine A0 (j2 hdg hwd) ?_
    rotate_left
    focus
     have hdg:decide ((i:Int)≥(s.size:Int))=false:=decide_eq_false (by omega)
     obtain⟨b,hg,hb⟩:=Ar h2
     have hbn:(((b.toNat:Nat):Int) != 125)=true:=by rw[←hb,h3];rfl
     have hbn2:(((b.toNat:Nat):Int) != 44)=false:=by rw[←hb,h3];rfl
     have hskc:=BP s hs' (i+1) (by omega)
     rw[h4]at hskc
     subst h1
     refine A0 (j5 hdg hg hbn hbn2 hwi) ?_
     refine w7 (A4 [] hskc) trivial ?_
     refine A0 hwd ?_
    rotate_left
    all_goals
     cases hm:Mq s j with
     |bad c p =>
      rw[hm]at hgo hme hmf
      simp only at hgo
      subst hgo
      have hc0:(c != 0)=true:=by simpa using AS hmf.1
      unfold rdT at hme
      unfold rdA
      unfold AP at hme ⊢
      refine A0 trivial ?_
      refine w7 (A4 [] hme) trivial ?_
      refine A0 hc0 ?_
      exact Al (A6 []) Tryz.results74
     |ok key ek =>
      rw[hm]at hgo hme hmf
      simp only at hgo
      obtain⟨m1,m2,m3⟩:=hmf
      have hskm:=BP s hs' ek m2
      obtain⟨q1,q2,_⟩:=AA m2
      obtain⟨x,hx⟩:=hone (Aa s ek) q2
      have hfine:=hrd (Aa s ek) q2
      have hrowk:(keys++[key]).map A8=keys.map A8++[[.str key]]:=by rw[List.map_append];rfl
      have holk:keys.length+1≤1000000:=by omega
      unfold rdT CV at hme
      cases hr:rd (Aa s ek) with
      |bad c p =>
       rw[hr]at hgo hx hfine
       simp only at hgo
       subst hgo
       have hc0:(c != 0)=true:=by simpa using AS hfine.1
       unfold rdA at hx ⊢
       unfold AP at hx ⊢
       refine A0 trivial ?_
       refine w7 (A4 [] hme) trivial ?_
       refine A0 (j2 holk h00) ?_
       refine w7 (A4 [] hskm) trivial ?_
       refine A0 hwd ?_
       refine w7 (A4 [] hx) trivial ?_
       refine A0 hc0 ?_
       exact Al (A6 []) Tryz.results74
      |ok v e =>
       rw[hr]at hgo hx hfine
       simp only at hgo
       obtain⟨f1,f2,f3,f4,f5,f6⟩:=hfine
       have hsk:=BP s hs' e f2
       obtain⟨k1,k2,_⟩:=AA f2
       have hrow:(kids.map V.enc).map An++[[.sl (v.enc.map CellD.cs)]]=((kids++[v]).map V.enc).map An:=by rw[List.map_append,List.map_append];rfl
       unfold rdA CV at hx
       refine A0 trivial ?_
       refine w7 (A4 [] hme) trivial ?_
       refine A0 (j2 holk h00) ?_
       refine w7 (A4 [] hskm) trivial ?_
       refine A0 hwd ?_
       refine w9 (Ah [] hx) trivial ?_
       refine A0 (j2 hol h00) ?_
       refine w7 (A4 [] hsk) trivial ?_
       refine A0 trivial ?_
       refine⟨(Aa s e,false,keys++[key],kids++[v]),?_,⟨k2,?_,?_,n,?_,hgo⟩,?_⟩
       ·have:=hmz e (by omega) f2
        dsimp only
        simpa using this
       ·dsimp only;rw[CY];omega
       ·simp[hkk]
       ·dsimp only;omega
       ·exact Ao (Ay.of [((6,0),(6,0)),((99,0),(67,0)),((99,1),(85,0))] []) (j2 hrow hrowk)
end Go.Proofs.YtlciedpfjhkkdaaGreatDoor
