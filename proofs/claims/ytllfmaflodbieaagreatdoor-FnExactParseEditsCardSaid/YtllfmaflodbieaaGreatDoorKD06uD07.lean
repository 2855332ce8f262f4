/- Texts of this proof: D06 D07. -/
import Derived.Test.YtllfmaflodbieaaGreatDoorKE34uD05
set_option linter.all false
set_option maxHeartbeats 8000000
namespace Go.Proofs.YtllfmaflodbieaaGreatDoor
open Go.RowKit
set_option maxRecDepth 10000
def Yh (m:Bool) (u:ByteArray):AV:=if 16<u.size∨1000000000000000<Bf u 0 u.size then .tup [.c (.int .i64 0),.c (.bool false)] else .tup [.c (.int .i64 (if m then -((Bf u 0 u.size:Nat):Int) else ((Bf u 0 u.size:Nat):Int))),.c (.bool true)]
theorem R6 (t:ByteArray) (h0:0<t.size) (hs:t.size≤1000000) (m:Bool) (u:ByteArray) (hm:(bAt t 0==45)=m) (hu:(if m then t.extract 1 t.size else t)=u) (hd:∀j,j<u.size→AP (bAt u j)=true) :
  AC Tryz.prog 192 [.c (.str t)] [] (Yh m u) []:=by
 have t3:=Tryz.underlying9
 obtain⟨b0,hg0,hb0⟩:=Aw h0
 have q0:(((b0.toNat:Nat):Int)==45)=m:=by rw[←hb0,←hm];exact Qe _ 45
 have hus:u.size≤1000000:=by
  rw[←hu]
  cases m with
  |false=>exact hs
  |true=>rw[if_pos rfl,E2 (Nat.le_refl _)];omega
 have main:∀σ:List (Nat×AV),True:=fun _=>trivial
 clear main
 unfold Yh
 by_cases h16:16<u.size
 ·have g16:decide ((u.size:Int)>16)=true:=by simp;omega
  rw[if_pos (.inl h16)]
  cases m with
  |false =>
   simp only[Bool.false_eq_true,if_false]at hu
   subst hu
   refine A6 Tryz.func192 Tryz.ntmps192 ?_
   refine A0 (j3 hg0 q0 g16) ?_
   exact Am (A7 []) Tryz.results192
  |true =>
   simp only[if_true]at hu
   refine A6 Tryz.func192 Tryz.ntmps192 ?_
   refine A0 (j2 hg0 q0) ?_
   refine w5 (LK (s:=t) (y:=u) (i:=1) hu (by omega) (by omega) t3) trivial ?_
   refine A0 g16 ?_
   exact Am (A7 []) Tryz.results192
 ·have g16:decide ((u.size:Int)>16)=false:=by simp;omega
  have loop:∀(n:Nat),n=Bf u 0 u.size→True:=fun _ _=>trivial
  clear loop
  have hnx:∀k,Bf u 0 (k+1)=Bf u 0 k*10+(bAt u k-48):=fun k=>by
   show Bf u 0 k*10+(bAt u (0+k)-48)=_
   rw[Nat.zero_add]
  have hbd:∀k,k<u.size→_:=fun k (hk:k<u.size)=>Sr (s:=u) (a:=0) (k:=k) (by omega) (fun j _ h2=>hd j (by omega)) (DM (hd k hk))
  have hbn:∀k,k<u.size→∃b:UInt8,u[k]? = some b∧((b.toNat:Nat):Int)=((bAt u k:Nat):Int):=fun k hk=>by
   obtain⟨b,h1,h2⟩:=Aw hk
   exact⟨b,h1,by rw[h2]⟩
  have hlt:=SD (s:=u) (a:=0) (k:=u.size) (by omega) (fun j _ h2=>hd j (by omega))
  cases m with
  |false =>
   simp only[Bool.false_eq_true,if_false]at hu ⊢
   subst hu
   refine A6 Tryz.func192 Tryz.ntmps192 ?_
   refine A0 (j3 hg0 q0 g16) ?_
   refine AG (κ:=Nat) (fun k=>⟨mkS 0 36 [(0,.c (.str t)),(4,.c (.bool false)),(5,.c (.int .i64 (Bf t 0 k))),(6,.c (.int .i64 k))],[]⟩) (fun k=>k≤t.size) (fun k=>t.size-k) 0 (Nat.zero_le _) ?_ ?_
   ·exact Aq (As.of [] []) trivial
   ·intro k hk
    by_cases hlt2:k<t.size
    ·have hdk:decide ((k:Int)<(t.size:Int))=true:=by simpa using hlt2
     have hw:=Ae (k:=k) (by omega)
     obtain⟨b,hg,hbe⟩:=hbn k hlt2
     obtain⟨w1,w2,w3,w4⟩:=hbd k hlt2
     have hn1:=hnx k
     (repeat (first | (with_reducible first | refine GU ?_ | refine Br ?_ | refine DT ?_ | refine DU ?_) | ((with_reducible apply F7);(iterate 2 (focus (first | (simp only[go_sem,Nat.reduceEqDiff,Nat.reduceAdd,Nat.reduceSub,Nat.reduceLeDiff,Nat.reduceMul,Nat.reduceBEq,Nat.reduceLT,Int.reduceToNat,reduceCtorEq,hdk,hg,hbe,w1,w2,w3,w4,hw];first | done | exact rfl | (and_intros<;>rfl)) | exact rfl | decide)))) | ((with_reducible refine GT ?_);dsimp only;try ((with_reducible apply Fb);(focus (simp only[go_sem];exact rfl));(focus decide))) | ((with_reducible first | refine Ha ?_ | refine F9 ?_ | refine DQ ?_);dsimp only) | ((with_reducible refine F8 ?_);dsimp only;simp only[if_true,if_false,Nat.reduceEqDiff]) | ((with_reducible apply Mi);(focus (simp only[go_sem,Nat.reduceBEq,Nat.reduceLT,hdk,hg,hbe,w1,w2,w3,w4,hw];exact rfl));dsimp only[cond_true,cond_false]) | ((with_reducible refine F5 ?_ ?_);(focus exact rfl))))
     refine⟨k+1,by omega,by omega,?_⟩
     exact Aq (As.of [] []) (j2 hn1 hw)
    ·have hdk:decide ((k:Int)<(t.size:Int))=false:=by simpa using hlt2
     have hke:k=t.size:=by omega
     subst hke
     by_cases hbig:1000000000000000<Bf t 0 t.size
     ·have gb:decide (((Bf t 0 t.size:Nat):Int)>1000000000000000)=true:=by simp;omega
      rw[if_pos (.inr hbig)]
      refine A0 (j2 hdk gb) ?_
      exact Am (A7 []) Tryz.results192
     ·have gb:decide (((Bf t 0 t.size:Nat):Int)>1000000000000000)=false:=by simp;omega
      rw[if_neg (by omega)]
      refine A0 (j2 hdk gb) ?_
      exact Am (A7 []) Tryz.results192
  |true =>
   simp only[if_true]at hu ⊢
   refine A6 Tryz.func192 Tryz.ntmps192 ?_
   refine A0 (j2 hg0 q0) ?_
   refine w5 (LK (s:=t) (y:=u) (i:=1) hu (by omega) (by omega) t3) trivial ?_
   refine A0 g16 ?_
   refine AG (κ:=Nat) (fun k=>⟨mkS 0 36 [(0,.c (.str u)),(4,.c (.bool true)),(5,.c (.int .i64 (Bf u 0 k))),(6,.c (.int .i64 k))],[]⟩) (fun k=>k≤u.size) (fun k=>u.size-k) 0 (Nat.zero_le _) ?_ ?_
   ·exact Aq (As.of [] []) trivial
   ·intro k hk
    by_cases hlt2:k<u.size
    ·have hdk:decide ((k:Int)<(u.size:Int))=true:=by simpa using hlt2
     have hw:=Ae (k:=k) (by omega)
     obtain⟨b,hg,hbe⟩:=hbn k hlt2
     obtain⟨w1,w2,w3,w4⟩:=hbd k hlt2
     have hn1:=hnx k
     (repeat (first | (with_reducible first | refine GU ?_ | refine Br ?_ | refine DT ?_ | refine DU ?_) | ((with_reducible apply F7);(iterate 2 (focus (first | (simp only[go_sem,Nat.reduceEqDiff,Nat.reduceAdd,Nat.reduceSub,Nat.reduceLeDiff,Nat.reduceMul,Nat.reduceBEq,Nat.reduceLT,Int.reduceToNat,reduceCtorEq,hdk,hg,hbe,w1,w2,w3,w4,hw];first | done | exact rfl | (and_intros<;>rfl)) | exact rfl | decide)))) | ((with_reducible refine GT ?_);dsimp only;try ((with_reducible apply Fb);(focus (simp only[go_sem];exact rfl));(focus decide))) | ((with_reducible first | refine Ha ?_ | refine F9 ?_ | refine DQ ?_);dsimp only) | ((with_reducible refine F8 ?_);dsimp only;simp only[if_true,if_false,Nat.reduceEqDiff]) | ((with_reducible apply Mi);(focus (simp only[go_sem,Nat.reduceBEq,Nat.reduceLT,hdk,hg,hbe,w1,w2,w3,w4,hw];exact rfl));dsimp only[cond_true,cond_false]) | ((with_reducible refine F5 ?_ ?_);(focus exact rfl))))
     refine⟨k+1,by omega,by omega,?_⟩
     exact Aq (As.of [] []) (j2 hn1 hw)
    ·have hdk:decide ((k:Int)<(u.size:Int))=false:=by simpa using hlt2
     have hke:k=u.size:=by omega
     subst hke
     by_cases hbig:1000000000000000<Bf u 0 u.size
     ·have gb:decide (((Bf u 0 u.size:Nat):Int)>1000000000000000)=true:=by simp;omega
      rw[if_pos (.inr hbig)]
      refine A0 (j2 hdk gb) ?_
      exact Am (A7 []) Tryz.results192
     ·have gb:decide (((Bf u 0 u.size:Nat):Int)>1000000000000000)=false:=by simp;omega
      have wn:IntKind.i64.wrap (0-((Bf u 0 u.size:Nat):Int)) = -((Bf u 0 u.size:Nat):Int):=by rw[CG (by omega) (by omega)];omega
      rw[if_neg (by omega)]
      refine A0 (j3 hdk gb wn) ?_
      exact Am (A7 []) Tryz.results192
theorem PH {s t:ByteArray}{a c:Nat}:∀k,(∀j,j<k→bAt s (a+j)=bAt t (c+j))→Bf s a k=Bf t c k
 | 0,_=>rfl
 |k+1,h=>by
  simp only[Bf]
  rw[PH k fun j hj=>h j (by omega),h k (by omega)]
theorem H9 (s:ByteArray) (i:Nat) (hi:i<s.size) (hd:AP (bAt s (AB s i))=true):∃(m:Bool) (u:ByteArray),0<(s.extract i (AQ s i)).size∧(s.extract i (AQ s i)).size≤s.size∧(bAt (s.extract i (AQ s i)) 0==45)=m∧(if m then (s.extract i (AQ s i)).extract 1 (s.extract i (AQ s i)).size else s.extract i (AQ s i))=u∧0<u.size∧(∀j,j<u.size→AP (bAt u j)=true) ∧
  Dx s i=decide (16<u.size∨1000000000000000<Bf u 0 u.size)∧Ef s i=(if m then -((Bf u 0 u.size:Nat):Int) else ((Bf u 0 u.size:Nat):Int)):=by
 obtain⟨h1,h2,h3⟩:=IM hi hd
 obtain⟨g1,g2,g3⟩:=Iw hi
 have hts:=E2 (s:=s) (a:=i) h2
 have hat:∀k,i+k<AQ s i→bAt (s.extract i (AQ s i)) k=bAt s (i+k):=fun k hk=>RX h2 hk
 have hA:(bAt s i=45∧AB s i=i+1)∨(bAt s i≠45∧AB s i=i):=by
  unfold AB
  by_cases h:bAt s i=45
  ·exact .inl ⟨h,if_pos h⟩
  ·exact .inr ⟨h,if_neg h⟩
 obtain⟨m,hm⟩:∃m,(bAt (s.extract i (AQ s i)) 0==45)=m:=⟨_,rfl⟩
 obtain⟨u,hu⟩:∃u,(if m then (s.extract i (AQ s i)).extract 1 (s.extract i (AQ s i)).size else s.extract i (AQ s i))=u:=⟨_,rfl⟩
 have hm0:=hm
 rw[hat 0 (by omega)]at hm0
 rw[Nat.add_zero]at hm0
 have hus:u.size=AQ s i-AB s i∧∀j,j<u.size→bAt u j=bAt s (AB s i+j):=by
  rcases hA with⟨h45,hA⟩ | ⟨h45,hA⟩
  ·have hmt:m=true:=by rw[←hm0];simpa using h45
   subst hmt
   simp only[if_true]at hu
   have hsz:u.size=AQ s i-AB s i:=by rw[←hu,E2 (Nat.le_refl _),hts];omega
   refine⟨hsz,fun j hj=>?_⟩
   rw[←hu,RX (Nat.le_refl _) (by omega),hat (1+j) (by omega)]
   congr 1
   omega
  ·have hmt:m=false:=by rw[←hm0];simpa using h45
   subst hmt
   simp only[Bool.false_eq_true,if_false]at hu
   subst hu
   refine⟨by rw[hts,hA],fun j hj=>?_⟩
   rw[hat j (by omega),hA]
 obtain⟨hus,hub⟩:=hus
 have hdec:Bf u 0 u.size=Bf s (AB s i) (AQ s i-AB s i):=by
  rw[hus]
  exact PH _ fun j hj=>by rw[Nat.zero_add];exact hub j (by omega)
 refine⟨m,u,by omega,by omega,hm,hu,by omega,fun j hj=>by rw[hub j hj];exact h3 _ (by omega) (by omega),?_,?_⟩
 ·unfold Dx
  rw[hdec,hus]
  simp
 ·unfold Ef
  rw[hdec]
  have e2:(m=true)=(bAt s i=45):=by rw[←hm0];simp
  simp only[e2]
theorem RT (s:ByteArray) (hs:s.size≤1000000) (i:Nat) (hi:i<s.size) (hd:AP (bAt s (AB s i))=true) :
  AC Tryz.prog 192 [.c (.str (s.extract i (AQ s i)))] [] (if Dx s i then .tup [.c (.int .i64 0),.c (.bool false)] else .tup [.c (.int .i64 (Ef s i)),.c (.bool true)]) []:=by
 obtain⟨m,u,h1,h2,hm,hu,_,hd2,hB,hV⟩:=H9 s i hi hd
 have hc:=R6 (s.extract i (AQ s i)) h1 (by omega) m u hm hu hd2
 rw[hB,hV]
 unfold Yh at hc
 simpa using hc
set_option maxRecDepth 10000
def T4 (s:ByteArray) (i:Nat):Rd V:=match K8 s i with
 | .bad c p=>.bad c p
 | .ok n e=>.ok (GN n) e
theorem Ro (s:ByteArray) (hs:s.size≤1000000) (i:Nat) (hi:i<s.size):AC Tryz.prog 127 [.c (.str s),.c (.int .i64 i)] [] (rdA (T4 s i) ByteArray.empty) []:=by
 have t3:=Tryz.underlying9
 unfold T4 K8
 cases hd:AP (bAt s (AB s i)) with
 |false =>
  have hn:=NW s hs i hi hd
  have hbad:=Bs 5 (AB s i)
  simp only[if_true]
  unfold rdA
  unfold B9 at hbad ⊢
  generalize AB s i=a at *
  have hm1:decide ((-1:Int)<0)=true:=rfl
  refine A6 Tryz.func127 Tryz.ntmps127 ?_
  refine A0 trivial ?_
  refine w7 (A3 [] hn) trivial ?_
  refine A0 hm1 ?_
  refine w7 (A3 [] hbad) trivial ?_
  refine A0 trivial ?_
  exact Am (A7 []) Tryz.results127
 |true =>
  have hn:=P0 s hs i hi hd
  obtain⟨he1,he2,_⟩:=IM hi hd
  obtain⟨ha1,_,_⟩:=Iw hi
  have hv:=RT s hs i hi hd
  simp only[Bool.true_eq_false,if_false]
  have hl0:decide (((AQ s i:Nat):Int)<0)=false:=decide_eq_false (by omega)
  cases hb:Dx s i with
  |true =>
   have hbad:=Bs 3 i
   rw[hb]at hv
   simp only[if_true]at hv ⊢
   unfold rdA
   unfold B9 at hbad ⊢
   generalize AQ s i=e at *
   refine A6 Tryz.func127 Tryz.ntmps127 ?_
   refine A0 trivial ?_
   refine w7 (A3 [] hn) trivial ?_
   refine A0 hl0 ?_
   refine w7 (Dt (y:=s.extract i e) (i:=(i:Int)) (j:=(e:Int)) (s:=s) rfl (by omega) (by omega) (by omega) t3) trivial ?_
   refine A0 trivial ?_
   refine w7 (A3 [] hv) trivial ?_
   refine A0 trivial ?_
   refine w7 (A3 [] hbad) trivial ?_
   refine A0 trivial ?_
   exact Am (A7 []) Tryz.results127
  |false =>
   have hbad:=Bs 3 (AQ s i)
   rw[hb]at hv
   simp only[Bool.false_eq_true,if_false]at hv ⊢
   have hno:=Pz (Ef s i)
   have hdot:∀b:UInt8,s[AQ s i]? = some b→G6 (bAt s (AQ s i))=(((((b.toNat:Nat):Int)==46)||(((b.toNat:Nat):Int)==101))||(((b.toNat:Nat):Int)==69)):=fun b hbb=>by
    have:bAt s (AQ s i)=b.toNat:=by unfold bAt;rw[hbb]
    rw[this]
    unfold G6
    rw[Bool.eq_iff_iff];simp;omega
   have hend:s.size≤AQ s i→G6 (bAt s (AQ s i))=false:=fun h=>by rw[BX h];rfl
   generalize Ef s i=z at *
   generalize AQ s i=e at *
   generalize G6 (bAt s e)=dt at *
   by_cases hes:e<s.size
   ·have hde:decide ((e:Int)<(s.size:Int))=true:=by simpa using hes
    obtain⟨b,hg,_⟩:=Aw hes
    have hdt:=hdot b hg
    obtain⟨bz,hbz⟩:∃bz,((b.toNat:Nat):Int)=bz:=⟨_,rfl⟩
    rw[hbz]at hdt
    have tail:∀(e1 e2 e3:Bool),(bz==46)=e1→(bz==101)=e2→(bz==69)=e3→AC Tryz.prog 127 [.c (.str s),.c (.int .i64 i)] [] (rdA (if (e1||e2||e3) then Rd.bad 3 e else Rd.ok (GN z) e) ByteArray.empty) []:=by
     intro e1 e2 e3 h1 h2 h3
     unfold rdA
     cases e1 with
     |true =>
      simp only[Bool.true_or,if_true]
      unfold B9 at hbad ⊢
      refine A6 Tryz.func127 Tryz.ntmps127 ?_
      refine A0 trivial ?_
      refine w7 (A3 [] hn) trivial ?_
      refine A0 hl0 ?_
      refine w7 (Dt (y:=s.extract i e) (i:=(i:Int)) (j:=(e:Int)) (s:=s) rfl (by omega) (by omega) (by omega) t3) trivial ?_
      refine A0 trivial ?_
      refine w7 (A3 [] hv) trivial ?_
      refine A0 (j4 hde hg hbz h1) ?_
      refine w7 (A3 [] hbad) trivial ?_
      refine A0 trivial ?_
      exact Am (A7 []) Tryz.results127
     |false=>cases e2 with
      |true =>
       simp only[Bool.true_or,Bool.or_true,if_true]
       unfold B9 at hbad ⊢
       refine A6 Tryz.func127 Tryz.ntmps127 ?_
       refine A0 trivial ?_
       refine w7 (A3 [] hn) trivial ?_
       refine A0 hl0 ?_
       refine w7 (Dt (y:=s.extract i e) (i:=(i:Int)) (j:=(e:Int)) (s:=s) rfl (by omega) (by omega) (by omega) t3) trivial ?_
       refine A0 trivial ?_
       refine w7 (A3 [] hv) trivial ?_
       refine A0 (j5 hde hg hbz h1 h2) ?_
       refine w7 (A3 [] hbad) trivial ?_
       refine A0 trivial ?_
       exact Am (A7 []) Tryz.results127
      |false=>cases e3 with
       |true =>
        simp only[Bool.or_true,if_true]
        unfold B9 at hbad ⊢
        refine A6 Tryz.func127 Tryz.ntmps127 ?_
        refine A0 trivial ?_
        refine w7 (A3 [] hn) trivial ?_
        refine A0 hl0 ?_
        refine w7 (Dt (y:=s.extract i e) (i:=(i:Int)) (j:=(e:Int)) (s:=s) rfl (by omega) (by omega) (by omega) t3) trivial ?_
        refine A0 trivial ?_
        refine w7 (A3 [] hv) trivial ?_
        refine A0 (j6 hde hg hbz h1 h2 h3) ?_
        refine w7 (A3 [] hbad) trivial ?_
        refine A0 trivial ?_
        exact Am (A7 []) Tryz.results127
       |false =>
        simp only[Bool.or_false,Bool.false_eq_true,if_false]
        unfold Dk
        refine A6 Tryz.func127 Tryz.ntmps127 ?_
        refine A0 trivial ?_
        refine w7 (A3 [] hn) trivial ?_
        refine A0 hl0 ?_
        refine w7 (Dt (y:=s.extract i e) (i:=(i:Int)) (j:=(e:Int)) (s:=s) rfl (by omega) (by omega) (by omega) t3) trivial ?_
        refine A0 trivial ?_
        refine w7 (A3 [] hv) trivial ?_
        refine A0 (j6 hde hg hbz h1 h2 h3) ?_
        refine w9 (Aa [] hno) trivial ?_
        refine A0 trivial ?_
        exact Am (A7 []) Tryz.results127
    have ht:=tail _ _ _ rfl rfl rfl
    rw[←hdt]at ht
    revert ht
    cases dt with
    |true=>exact fun h=>h
    |false=>exact fun h=>h
   ·have hde:decide ((e:Int)<(s.size:Int))=false:=by simpa using hes
    rw[hend (by omega)]
    simp only[Bool.false_eq_true,if_false]
    unfold rdA Dk
    refine A6 Tryz.func127 Tryz.ntmps127 ?_
    refine A0 trivial ?_
    refine w7 (A3 [] hn) trivial ?_
    refine A0 hl0 ?_
    refine w7 (Dt (y:=s.extract i e) (i:=(i:Int)) (j:=(e:Int)) (s:=s) rfl (by omega) (by omega) (by omega) t3) trivial ?_
    refine A0 trivial ?_
    refine w7 (A3 [] hv) trivial ?_
    refine A0 hde ?_
    refine w9 (Aa [] hno) trivial ?_
    refine A0 trivial ?_
    exact Am (A7 []) Tryz.results127
end Go.Proofs.YtllfmaflodbieaaGreatDoor
