/- Texts of this proof: D06 D07. -/
import Derived.Test.YtlciedpfjhkkdaaGreatDoorKG81uD05
set_option linter.all false
set_option maxHeartbeats 8000000
namespace Go.Proofs.YtlciedpfjhkkdaaGreatDoor
open Go.RowKit
set_option maxRecDepth 10000
def SJ (m:Bool) (u:ByteArray):AV:=if 16<u.size∨1000000000000000<AU u 0 u.size then .tup [.c (.int .i64 0),.c (.bool false)] else .tup [.c (.int .i64 (if m then -((AU u 0 u.size:Nat):Int) else ((AU u 0 u.size:Nat):Int))),.c (.bool true)]
theorem MI (t:ByteArray) (h0:0<t.size) (hs:t.size≤1000000) (m:Bool) (u:ByteArray) (hm:(bAt t 0==45)=m) (hu:(if m then t.extract 1 t.size else t)=u) (hd:∀j,j<u.size→AJ (bAt u j)=true) :
  AC Tryz.prog 133 [.c (.str t)] [] (SJ m u) []:=by
 have t3:=Tryz.underlying9
 obtain⟨b0,hg0,hb0⟩:=Ar h0
 have q0:(((b0.toNat:Nat):Int)==45)=m:=by rw[←hb0,←hm];exact M5 _ 45
 have hus:u.size≤1000000:=by
  rw[←hu]
  cases m with
  |false=>exact hs
  |true=>rw[if_pos rfl,DU (Nat.le_refl _)];omega
 have main:∀σ:List (Nat×AV),True:=fun _=>trivial
 clear main
 unfold SJ
 by_cases h16:16<u.size
 ·have g16:decide ((u.size:Int)>16)=true:=by simp;omega
  rw[if_pos (.inl h16)]
  cases m with
  |false =>
   simp only[Bool.false_eq_true,if_false]at hu
   subst hu
   refine A7 Tryz.func133 Tryz.ntmps133 ?_
   refine A0 (j3 hg0 q0 g16) ?_
   exact Al (A6 []) Tryz.results133
  |true =>
   simp only[if_true]at hu
   refine A7 Tryz.func133 Tryz.ntmps133 ?_
   refine A0 (j2 hg0 q0) ?_
   refine w5 (I7 (s:=t) (y:=u) (i:=1) hu (by omega) (by omega) t3) trivial ?_
   refine A0 g16 ?_
   exact Al (A6 []) Tryz.results133
 ·have g16:decide ((u.size:Int)>16)=false:=by simp;omega
  have loop:∀(n:Nat),n=AU u 0 u.size→True:=fun _ _=>trivial
  clear loop
  have hnx:∀k,AU u 0 (k+1)=AU u 0 k*10+(bAt u k-48):=fun k=>by
   show AU u 0 k*10+(bAt u (0+k)-48)=_
   rw[Nat.zero_add]
  have hbd:∀k,k<u.size→_:=fun k (hk:k<u.size)=>MO (s:=u) (a:=0) (k:=k) (by omega) (fun j _ h2=>hd j (by omega)) (DL (hd k hk))
  have hbn:∀k,k<u.size→∃b:UInt8,u[k]? = some b∧((b.toNat:Nat):Int)=((bAt u k:Nat):Int):=fun k hk=>by
   obtain⟨b,h1,h2⟩:=Ar hk
   exact⟨b,h1,by rw[h2]⟩
  have hlt:=NM (s:=u) (a:=0) (k:=u.size) (by omega) (fun j _ h2=>hd j (by omega))
  cases m with
  |false =>
   simp only[Bool.false_eq_true,if_false]at hu ⊢
   subst hu
   refine A7 Tryz.func133 Tryz.ntmps133 ?_
   refine A0 (j3 hg0 q0 g16) ?_
   refine AH (κ:=Nat) (fun k=>⟨mkS 0 36 [(0,.c (.str t)),(4,.c (.bool false)),(5,.c (.int .i64 (AU t 0 k))),(6,.c (.int .i64 k))],[]⟩) (fun k=>k≤t.size) (fun k=>t.size-k) 0 (Nat.zero_le _) ?_ ?_
   ·exact Ao (Ay.of [] []) trivial
   ·intro k hk
    by_cases hlt2:k<t.size
    ·have hdk:decide ((k:Int)<(t.size:Int))=true:=by simpa using hlt2
     have hw:=Ae (k:=k) (by omega)
     obtain⟨b,hg,hbe⟩:=hbn k hlt2
     obtain⟨w1,w2,w3,w4⟩:=hbd k hlt2
     have hn1:=hnx k
     (repeat (first | (with_reducible first | refine Fg ?_ | refine Bi ?_ | refine CN ?_ | refine CP ?_) | ((with_reducible apply DJ);(iterate 2 (focus (first | (simp only[go_sem,Nat.reduceEqDiff,Nat.reduceAdd,Nat.reduceSub,Nat.reduceLeDiff,Nat.reduceMul,Nat.reduceBEq,Nat.reduceLT,Int.reduceToNat,reduceCtorEq,hdk,hg,hbe,w1,w2,w3,w4,hw];first | done | exact rfl | (and_intros<;>rfl)) | exact rfl | decide)))) | ((with_reducible refine Fh ?_);dsimp only;try ((with_reducible apply DN);(focus (simp only[go_sem];exact rfl));(focus decide))) | ((with_reducible first | refine Fe ?_ | refine DK ?_ | refine CO ?_);dsimp only) | ((with_reducible refine DQ ?_);dsimp only;simp only[if_true,if_false,Nat.reduceEqDiff]) | ((with_reducible apply Je);(focus (simp only[go_sem,Nat.reduceBEq,Nat.reduceLT,hdk,hg,hbe,w1,w2,w3,w4,hw];exact rfl));dsimp only[cond_true,cond_false]) | ((with_reducible refine DI ?_ ?_);(focus exact rfl))))
     refine⟨k+1,by omega,by omega,?_⟩
     exact Ao (Ay.of [] []) (j2 hn1 hw)
    ·have hdk:decide ((k:Int)<(t.size:Int))=false:=by simpa using hlt2
     have hke:k=t.size:=by omega
     subst hke
     by_cases hbig:1000000000000000<AU t 0 t.size
     ·have gb:decide (((AU t 0 t.size:Nat):Int)>1000000000000000)=true:=by simp;omega
      rw[if_pos (.inr hbig)]
      refine A0 (j2 hdk gb) ?_
      exact Al (A6 []) Tryz.results133
     ·have gb:decide (((AU t 0 t.size:Nat):Int)>1000000000000000)=false:=by simp;omega
      rw[if_neg (by omega)]
      refine A0 (j2 hdk gb) ?_
      exact Al (A6 []) Tryz.results133
  |true =>
   simp only[if_true]at hu ⊢
   refine A7 Tryz.func133 Tryz.ntmps133 ?_
   refine A0 (j2 hg0 q0) ?_
   refine w5 (I7 (s:=t) (y:=u) (i:=1) hu (by omega) (by omega) t3) trivial ?_
   refine A0 g16 ?_
   refine AH (κ:=Nat) (fun k=>⟨mkS 0 36 [(0,.c (.str u)),(4,.c (.bool true)),(5,.c (.int .i64 (AU u 0 k))),(6,.c (.int .i64 k))],[]⟩) (fun k=>k≤u.size) (fun k=>u.size-k) 0 (Nat.zero_le _) ?_ ?_
   ·exact Ao (Ay.of [] []) trivial
   ·intro k hk
    by_cases hlt2:k<u.size
    ·have hdk:decide ((k:Int)<(u.size:Int))=true:=by simpa using hlt2
     have hw:=Ae (k:=k) (by omega)
     obtain⟨b,hg,hbe⟩:=hbn k hlt2
     obtain⟨w1,w2,w3,w4⟩:=hbd k hlt2
     have hn1:=hnx k
     (repeat (first | (with_reducible first | refine Fg ?_ | refine Bi ?_ | refine CN ?_ | refine CP ?_) | ((with_reducible apply DJ);(iterate 2 (focus (first | (simp only[go_sem,Nat.reduceEqDiff,Nat.reduceAdd,Nat.reduceSub,Nat.reduceLeDiff,Nat.reduceMul,Nat.reduceBEq,Nat.reduceLT,Int.reduceToNat,reduceCtorEq,hdk,hg,hbe,w1,w2,w3,w4,hw];first | done | exact rfl | (and_intros<;>rfl)) | exact rfl | decide)))) | ((with_reducible refine Fh ?_);dsimp only;try ((with_reducible apply DN);(focus (simp only[go_sem];exact rfl));(focus decide))) | ((with_reducible first | refine Fe ?_ | refine DK ?_ | refine CO ?_);dsimp only) | ((with_reducible refine DQ ?_);dsimp only;simp only[if_true,if_false,Nat.reduceEqDiff]) | ((with_reducible apply Je);(focus (simp only[go_sem,Nat.reduceBEq,Nat.reduceLT,hdk,hg,hbe,w1,w2,w3,w4,hw];exact rfl));dsimp only[cond_true,cond_false]) | ((with_reducible refine DI ?_ ?_);(focus exact rfl))))
     refine⟨k+1,by omega,by omega,?_⟩
     exact Ao (Ay.of [] []) (j2 hn1 hw)
    ·have hdk:decide ((k:Int)<(u.size:Int))=false:=by simpa using hlt2
     have hke:k=u.size:=by omega
     subst hke
     by_cases hbig:1000000000000000<AU u 0 u.size
     ·have gb:decide (((AU u 0 u.size:Nat):Int)>1000000000000000)=true:=by simp;omega
      rw[if_pos (.inr hbig)]
      refine A0 (j2 hdk gb) ?_
      exact Al (A6 []) Tryz.results133
     ·have gb:decide (((AU u 0 u.size:Nat):Int)>1000000000000000)=false:=by simp;omega
      have wn:IntKind.i64.wrap (0-((AU u 0 u.size:Nat):Int)) = -((AU u 0 u.size:Nat):Int):=by rw[C4 (by omega) (by omega)];omega
      rw[if_neg (by omega)]
      refine A0 (j3 hdk gb wn) ?_
      exact Al (A6 []) Tryz.results133
theorem Ly {s t:ByteArray}{a c:Nat}:∀k,(∀j,j<k→bAt s (a+j)=bAt t (c+j))→AU s a k=AU t c k
 | 0,_=>rfl
 |k+1,h=>by
  simp only[AU]
  rw[Ly k fun j hj=>h j (by omega),h k (by omega)]
theorem F9 (s:ByteArray) (i:Nat) (hi:i<s.size) (hd:AJ (bAt s (Au s i))=true):∃(m:Bool) (u:ByteArray),0<(s.extract i (AF s i)).size∧(s.extract i (AF s i)).size≤s.size∧(bAt (s.extract i (AF s i)) 0==45)=m∧(if m then (s.extract i (AF s i)).extract 1 (s.extract i (AF s i)).size else s.extract i (AF s i))=u∧0<u.size∧(∀j,j<u.size→AJ (bAt u j)=true) ∧
  D3 s i=decide (16<u.size∨1000000000000000<AU u 0 u.size)∧Dy s i=(if m then -((AU u 0 u.size:Nat):Int) else ((AU u 0 u.size:Nat):Int)):=by
 obtain⟨h1,h2,h3⟩:=Gb hi hd
 obtain⟨g1,g2,g3⟩:=Gr hi
 have hts:=DU (s:=s) (a:=i) h2
 have hat:∀k,i+k<AF s i→bAt (s.extract i (AF s i)) k=bAt s (i+k):=fun k hk=>Qa h2 hk
 have hA:(bAt s i=45∧Au s i=i+1)∨(bAt s i≠45∧Au s i=i):=by
  unfold Au
  by_cases h:bAt s i=45
  ·exact .inl ⟨h,if_pos h⟩
  ·exact .inr ⟨h,if_neg h⟩
 obtain⟨m,hm⟩:∃m,(bAt (s.extract i (AF s i)) 0==45)=m:=⟨_,rfl⟩
 obtain⟨u,hu⟩:∃u,(if m then (s.extract i (AF s i)).extract 1 (s.extract i (AF s i)).size else s.extract i (AF s i))=u:=⟨_,rfl⟩
 have hm0:=hm
 rw[hat 0 (by omega)]at hm0
 rw[Nat.add_zero]at hm0
 have hus:u.size=AF s i-Au s i∧∀j,j<u.size→bAt u j=bAt s (Au s i+j):=by
  rcases hA with⟨h45,hA⟩ | ⟨h45,hA⟩
  ·have hmt:m=true:=by rw[←hm0];simpa using h45
   subst hmt
   simp only[if_true]at hu
   have hsz:u.size=AF s i-Au s i:=by rw[←hu,DU (Nat.le_refl _),hts];omega
   refine⟨hsz,fun j hj=>?_⟩
   rw[←hu,Qa (Nat.le_refl _) (by omega),hat (1+j) (by omega)]
   congr 1
   omega
  ·have hmt:m=false:=by rw[←hm0];simpa using h45
   subst hmt
   simp only[Bool.false_eq_true,if_false]at hu
   subst hu
   refine⟨by rw[hts,hA],fun j hj=>?_⟩
   rw[hat j (by omega),hA]
 obtain⟨hus,hub⟩:=hus
 have hdec:AU u 0 u.size=AU s (Au s i) (AF s i-Au s i):=by
  rw[hus]
  exact Ly _ fun j hj=>by rw[Nat.zero_add];exact hub j (by omega)
 refine⟨m,u,by omega,by omega,hm,hu,by omega,fun j hj=>by rw[hub j hj];exact h3 _ (by omega) (by omega),?_,?_⟩
 ·unfold D3
  rw[hdec,hus]
  simp
 ·unfold Dy
  rw[hdec]
  have e2:(m=true)=(bAt s i=45):=by rw[←hm0];simp
  simp only[e2]
theorem MD (s:ByteArray) (hs:s.size≤1000000) (i:Nat) (hi:i<s.size) (hd:AJ (bAt s (Au s i))=true) :
  AC Tryz.prog 133 [.c (.str (s.extract i (AF s i)))] [] (if D3 s i then .tup [.c (.int .i64 0),.c (.bool false)] else .tup [.c (.int .i64 (Dy s i)),.c (.bool true)]) []:=by
 obtain⟨m,u,h1,h2,hm,hu,_,hd2,hB,hV⟩:=F9 s i hi hd
 have hc:=MI (s.extract i (AF s i)) h1 (by omega) m u hm hu hd2
 rw[hB,hV]
 unfold SJ at hc
 simpa using hc
set_option maxRecDepth 10000
def NA (s:ByteArray) (i:Nat):Rd V:=match KM s i with
 | .bad c p=>.bad c p
 | .ok n e=>.ok (FT n) e
theorem Nb (s:ByteArray) (hs:s.size≤1000000) (i:Nat) (hi:i<s.size):AC Tryz.prog 77 [.c (.str s),.c (.int .i64 i)] [] (rdA (NA s i) ByteArray.empty) []:=by
 have t3:=Tryz.underlying9
 unfold NA KM
 cases hd:AJ (bAt s (Au s i)) with
 |false =>
  have hn:=KN s hs i hi hd
  have hbad:=AZ 5 (Au s i)
  simp only[if_true]
  unfold rdA
  unfold AP at hbad ⊢
  generalize Au s i=a at *
  have hm1:decide ((-1:Int)<0)=true:=rfl
  refine A7 Tryz.func77 Tryz.ntmps77 ?_
  refine A0 trivial ?_
  refine w7 (A4 [] hn) trivial ?_
  refine A0 hm1 ?_
  refine w7 (A4 [] hbad) trivial ?_
  refine A0 trivial ?_
  exact Al (A6 []) Tryz.results77
 |true =>
  have hn:=M7 s hs i hi hd
  obtain⟨he1,he2,_⟩:=Gb hi hd
  obtain⟨ha1,_,_⟩:=Gr hi
  have hv:=MD s hs i hi hd
  simp only[Bool.true_eq_false,if_false]
  have hl0:decide (((AF s i:Nat):Int)<0)=false:=decide_eq_false (by omega)
  cases hb:D3 s i with
  |true =>
   have hbad:=AZ 3 i
   rw[hb]at hv
   simp only[if_true]at hv ⊢
   unfold rdA
   unfold AP at hbad ⊢
   generalize AF s i=e at *
   refine A7 Tryz.func77 Tryz.ntmps77 ?_
   refine A0 trivial ?_
   refine w7 (A4 [] hn) trivial ?_
   refine A0 hl0 ?_
   refine w7 (Ds (y:=s.extract i e) (i:=(i:Int)) (j:=(e:Int)) (s:=s) rfl (by omega) (by omega) (by omega) t3) trivial ?_
   refine A0 trivial ?_
   refine w7 (A4 [] hv) trivial ?_
   refine A0 trivial ?_
   refine w7 (A4 [] hbad) trivial ?_
   refine A0 trivial ?_
   exact Al (A6 []) Tryz.results77
  |false =>
   have hbad:=AZ 3 (AF s i)
   rw[hb]at hv
   simp only[Bool.false_eq_true,if_false]at hv ⊢
   have hno:=Lh (Dy s i)
   have hdot:∀b:UInt8,s[AF s i]? = some b→FW (bAt s (AF s i))=(((((b.toNat:Nat):Int)==46)||(((b.toNat:Nat):Int)==101))||(((b.toNat:Nat):Int)==69)):=fun b hbb=>by
    have:bAt s (AF s i)=b.toNat:=by unfold bAt;rw[hbb]
    rw[this]
    unfold FW
    rw[Bool.eq_iff_iff];simp;omega
   have hend:s.size≤AF s i→FW (bAt s (AF s i))=false:=fun h=>by rw[Bn h];rfl
   generalize Dy s i=z at *
   generalize AF s i=e at *
   generalize FW (bAt s e)=dt at *
   by_cases hes:e<s.size
   ·have hde:decide ((e:Int)<(s.size:Int))=true:=by simpa using hes
    obtain⟨b,hg,_⟩:=Ar hes
    have hdt:=hdot b hg
    obtain⟨bz,hbz⟩:∃bz,((b.toNat:Nat):Int)=bz:=⟨_,rfl⟩
    rw[hbz]at hdt
    have tail:∀(e1 e2 e3:Bool),(bz==46)=e1→(bz==101)=e2→(bz==69)=e3→AC Tryz.prog 77 [.c (.str s),.c (.int .i64 i)] [] (rdA (if (e1||e2||e3) then Rd.bad 3 e else Rd.ok (FT z) e) ByteArray.empty) []:=by
     intro e1 e2 e3 h1 h2 h3
     unfold rdA
     cases e1 with
     |true =>
      simp only[Bool.true_or,if_true]
      unfold AP at hbad ⊢
      refine A7 Tryz.func77 Tryz.ntmps77 ?_
      refine A0 trivial ?_
      refine w7 (A4 [] hn) trivial ?_
      refine A0 hl0 ?_
      refine w7 (Ds (y:=s.extract i e) (i:=(i:Int)) (j:=(e:Int)) (s:=s) rfl (by omega) (by omega) (by omega) t3) trivial ?_
      refine A0 trivial ?_
      refine w7 (A4 [] hv) trivial ?_
      refine A0 (j4 hde hg hbz h1) ?_
      refine w7 (A4 [] hbad) trivial ?_
      refine A0 trivial ?_
      exact Al (A6 []) Tryz.results77
     |false=>cases e2 with
      |true =>
       simp only[Bool.true_or,Bool.or_true,if_true]
       unfold AP at hbad ⊢
       refine A7 Tryz.func77 Tryz.ntmps77 ?_
       refine A0 trivial ?_
       refine w7 (A4 [] hn) trivial ?_
       refine A0 hl0 ?_
       refine w7 (Ds (y:=s.extract i e) (i:=(i:Int)) (j:=(e:Int)) (s:=s) rfl (by omega) (by omega) (by omega) t3) trivial ?_
       refine A0 trivial ?_
       refine w7 (A4 [] hv) trivial ?_
       refine A0 (j5 hde hg hbz h1 h2) ?_
       refine w7 (A4 [] hbad) trivial ?_
       refine A0 trivial ?_
       exact Al (A6 []) Tryz.results77
      |false=>cases e3 with
       |true =>
        simp only[Bool.or_true,if_true]
        unfold AP at hbad ⊢
        refine A7 Tryz.func77 Tryz.ntmps77 ?_
        refine A0 trivial ?_
        refine w7 (A4 [] hn) trivial ?_
        refine A0 hl0 ?_
        refine w7 (Ds (y:=s.extract i e) (i:=(i:Int)) (j:=(e:Int)) (s:=s) rfl (by omega) (by omega) (by omega) t3) trivial ?_
        refine A0 trivial ?_
        refine w7 (A4 [] hv) trivial ?_
        refine A0 (j6 hde hg hbz h1 h2 h3) ?_
        refine w7 (A4 [] hbad) trivial ?_
        refine A0 trivial ?_
        exact Al (A6 []) Tryz.results77
       |false =>
        simp only[Bool.or_false,Bool.false_eq_true,if_false]
        unfold CV
        refine A7 Tryz.func77 Tryz.ntmps77 ?_
        refine A0 trivial ?_
        refine w7 (A4 [] hn) trivial ?_
        refine A0 hl0 ?_
        refine w7 (Ds (y:=s.extract i e) (i:=(i:Int)) (j:=(e:Int)) (s:=s) rfl (by omega) (by omega) (by omega) t3) trivial ?_
        refine A0 trivial ?_
        refine w7 (A4 [] hv) trivial ?_
        refine A0 (j6 hde hg hbz h1 h2 h3) ?_
        refine w9 (Ah [] hno) trivial ?_
        refine A0 trivial ?_
        exact Al (A6 []) Tryz.results77
    have ht:=tail _ _ _ rfl rfl rfl
    rw[←hdt]at ht
    revert ht
    cases dt with
    |true=>exact fun h=>h
    |false=>exact fun h=>h
   ·have hde:decide ((e:Int)<(s.size:Int))=false:=by simpa using hes
    rw[hend (by omega)]
    simp only[Bool.false_eq_true,if_false]
    unfold rdA CV
    refine A7 Tryz.func77 Tryz.ntmps77 ?_
    refine A0 trivial ?_
    refine w7 (A4 [] hn) trivial ?_
    refine A0 hl0 ?_
    refine w7 (Ds (y:=s.extract i e) (i:=(i:Int)) (j:=(e:Int)) (s:=s) rfl (by omega) (by omega) (by omega) t3) trivial ?_
    refine A0 trivial ?_
    refine w7 (A4 [] hv) trivial ?_
    refine A0 hde ?_
    refine w9 (Ah [] hno) trivial ?_
    refine A0 trivial ?_
    exact Al (A6 []) Tryz.results77
end Go.Proofs.YtlciedpfjhkkdaaGreatDoor
