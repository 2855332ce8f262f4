/- Texts of this proof: G87 G31 M38 M12 M41 M43 H12 M44. -/
import Derived.Test.YtllfmaflodbieaaGreatDoorKG86
import Derived.Test.YtllfmaflodbieaaGreatDoorKGD
set_option linter.all false
set_option maxHeartbeats 8000000
namespace Go.Proofs.YtllfmaflodbieaaGreatDoor
open Go.RowKit
set_option maxRecDepth 10000
theorem I6 (bs:List Nat) (a:Nat):-1000000000000000≤D4 bs a [200,199,-9]∧D4 bs a [200,199,-9]≤1000000000000000:=by
 have h:=Q9 bs a (l:=[200,199,-9]) (by simp)
 simp only[List.mem_cons,List.not_mem_nil,or_false]at h
 omega
theorem a0d (bs:List Nat) (a b:Nat) (i:Nat) (hi:i<2):∃q,[C6 (D5 bs a),Ar ((Af bs b 5:Nat)-2:Int)][i]? = some q∧CG q:=by
 have hy:=AD bs b (n:=5) (by omega)
 rcases (show i=0∨i=1 by omega) with rfl | rfl
 ·exact⟨_,rfl,U0 (Ma _ (T4 bs a)).1⟩
 ·exact⟨_,rfl,CM (by omega)⟩
theorem IJ:∀q∈([]:List V),CG q:=fun q hq=>absurd hq (by simp)
theorem II {P:List V}(h:∀q∈P,CG q) (hl:P.length≤15):Ia P:=⟨hl,h⟩
theorem RU {P:List V}(h:∀q∈P,CG q):Ia (P.take 15):=⟨by rw[List.length_take];omega,KQ h 15⟩
theorem Z6 (l:List (List V×V)):AJ false l=l.map (·.1):=by
 unfold AJ
 congr 1
 exact List.filter_eq_self.2 fun p _=>rfl
theorem G0 (bs:List Nat) (hb:Bs bs) (a:Nat) (ha:a≤700000) (xs:List CellD):∃P a',Ia P∧a≤a'∧a'≤a+20∧AI bs a xs P a':=by
 rcases a0x xs with⟨h1,h2⟩ | ⟨t,h1,hx,h4,h5,h6⟩
 ·have h2:(dec xs).1≠0:=h2
  cases h3:Af bs a 3==0 with
  |false =>
   cases h30:Af bs (a+1) 30==0 with
   |false =>
    exact⟨_,(a+2),II (P:=[]) IJ (by simp),by omega,by omega,OU bs hb a (by omega) xs h2 h3 h30 IJ⟩
   |true =>
    exact⟨_,(a+3),II (P:=[Ar (D4 bs (a+2) [200,199,-9])]) (BD IJ (CM (I6 bs _))) (by simp),by omega,by omega,OV bs hb a (by omega) xs h2 h3 h30 _ rfl (BD IJ (CM (I6 bs _)))⟩
  |true =>
   obtain⟨q,hq,hqs⟩:=a0d bs (a+1) (a+2) (Af bs (a+3) 2) (AD bs _ (by omega))
   cases h30:Af bs (a+4) 30==0 with
   |false =>
    exact⟨_,(a+5),II (P:=[q]) (BD IJ hqs) (by simp),by omega,by omega,OW bs hb a (by omega) xs h2 h3 h30 q hq (BD IJ hqs)⟩
   |true =>
    exact⟨_,(a+6),II (P:=[q,Ar (D4 bs (a+5) [200,199,-9])]) (BD (BD IJ hqs) (CM (I6 bs _))) (by simp),by omega,by omega,OX bs hb a (by omega) xs h2 h3 h30 q hq _ rfl (BD (BD IJ hqs) (CM (I6 bs _)))⟩
 ·subst hx
  have ht:t.right:=⟨h4,h5,h6⟩
  have hpl:=Jc t []
  have hall:=Z6 (t.paths [])
  have hlen:0<(AJ false (t.paths [])).length∧(AJ false (t.paths [])).length≤200:=by
   rw[hall,List.length_map,hpl]
   exact⟨AY t,h5⟩
  have hlt:=AD bs a hlen.1
  obtain⟨P0,hP0⟩:∃P0,(AJ false (t.paths []))[Af bs a (AJ false (t.paths [])).length]? = some P0:=⟨_,List.getElem?_eq_getElem hlt⟩
  have hmem:P0∈(t.paths []).map (·.1):=by rw[←hall];exact List.mem_of_getElem? hP0
  obtain⟨pr,hpr,rfl⟩:=List.mem_map.1 hmem
  obtain⟨hs0,hd0⟩:=TO t [] ht (by simp) pr hpr
  have hl0:pr.1.length≤20:=by
   have:=XA pr.2
   simp only[List.length_nil,Nat.zero_add]at hd0
   omega
  generalize pr.1=P0 at *
  cases h3:Af bs (a+1) 3==0 with
  |false =>
   cases h30:Af bs (a+2) 30==0 with
   |false =>
    by_cases hcut:P0.length>15
    ·exact⟨_,(a+3),RU hs0,by omega,by omega,OZ bs hb a (by omega) ht P0 hP0 hlen hs0 hl0 h3 h30 hcut hs0⟩
    ·exact⟨_,(a+3),II hs0 (by omega),by omega,by omega,OY bs hb a (by omega) ht P0 hP0 hlen hs0 hl0 h3 h30 (by omega) hs0⟩
   |true =>
    by_cases hcut:(P0++[Ar (D4 bs (a+3) [200,199,-9])]).length>15
    ·exact⟨_,(a+4),RU (BD hs0 (CM (I6 bs _))),by omega,by omega,P2 bs hb a (by omega) ht P0 hP0 hlen hs0 hl0 h3 h30 _ rfl hcut (BD hs0 (CM (I6 bs _)))⟩
    ·exact⟨_,(a+4),II (BD hs0 (CM (I6 bs _))) (by omega),by omega,by omega,P1 bs hb a (by omega) ht P0 hP0 hlen hs0 hl0 h3 h30 _ rfl (by omega) (BD hs0 (CM (I6 bs _)))⟩
  |true =>
   obtain⟨q,hq,hqs⟩:=a0d bs (a+2) (a+3) (Af bs (a+4) 2) (AD bs _ (by omega))
   cases h30:Af bs (a+5) 30==0 with
   |false =>
    by_cases hcut:(P0++[q]).length>15
    ·exact⟨_,(a+6),RU (BD hs0 hqs),by omega,by omega,P4 bs hb a (by omega) ht P0 hP0 hlen hs0 hl0 h3 h30 q hq hcut (BD hs0 hqs)⟩
    ·exact⟨_,(a+6),II (BD hs0 hqs) (by omega),by omega,by omega,P3 bs hb a (by omega) ht P0 hP0 hlen hs0 hl0 h3 h30 q hq (by omega) (BD hs0 hqs)⟩
   |true =>
    by_cases hcut:((P0++[q])++[Ar (D4 bs (a+6) [200,199,-9])]).length>15
    ·exact⟨_,(a+7),RU (BD (BD hs0 hqs) (CM (I6 bs _))),by omega,by omega,P6 bs hb a (by omega) ht P0 hP0 hlen hs0 hl0 h3 h30 q hq _ rfl hcut (BD (BD hs0 hqs) (CM (I6 bs _)))⟩
    ·exact⟨_,(a+7),II (BD (BD hs0 hqs) (CM (I6 bs _))) (by omega),by omega,by omega,P5 bs hb a (by omega) ht P0 hP0 hlen hs0 hl0 h3 h30 q hq _ rfl (by omega) (BD (BD hs0 hqs) (CM (I6 bs _)))⟩
def E7 (bs:List Nat) (f:Nat→V→List V×Nat) (x:V×Nat):V×Nat :=
 (match (if Af bs (BH bs 1 (f x.2 x.1).2).2 3==0 then CY (f x.2 x.1).1 x.1 else CD (BH bs 1 (f x.2 x.1).2).1 (f x.2 x.1).1 x.1).2 with
  |some v=>v
  |none=>x.1,(BH bs 1 (f x.2 x.1).2).2+1)
def IC (bs:List Nat) (f:Nat→V→List V×Nat):Nat→V×Nat→V×Nat
 | 0,x=>x
 |n+1,x=>IC bs f n (E7 bs f x)
theorem X5 {t:V}(h1:t.wf) (h2:t.count≤13) (h3:t.depth≤3):t.right:=⟨h1,by omega,by omega⟩
theorem d6 (bs:List Nat) (hb:Bs bs):∃f:Nat→V→List V×Nat,∀a u,a≤700000→Ia (f a u).1∧a≤(f a u).2∧(f a u).2≤a+20∧AI bs a u.enc (f a u).1 (f a u).2:=by
 obtain⟨f,hf⟩:=Classical.axiomOfChoice (r:=fun (x:Nat×V) (y:List V×Nat)=>x.1≤700000→Ia y.1∧x.1≤y.2∧y.2≤x.1+20∧AI bs x.1 x.2.enc y.1 y.2) (fun x=>by
  by_cases hx:x.1≤700000
  ·obtain⟨P,a',h1,h2,h3,h4⟩:=G0 bs hb x.1 hx x.2.enc
   exact⟨(P,a'),fun _=>⟨h1,h2,h3,h4⟩⟩
  ·exact⟨([],0),fun h=>absurd h hx⟩)
 exact⟨fun a u=>f (a,u),fun a u h=>hf (a,u) h⟩
theorem DN {P:List V}(h:Ia P):P.length≤1000000∧∀k∈P,k.right∧(k.kind=3∨k.kind=4):=⟨by have:=h.1;omega,fun k hk=>⟨(h.2 k hk).1,(h.2 k hk).2.2.2⟩⟩
theorem Ml (bs:List Nat) {f:Nat→V→List V×Nat}(hf:∀a u,a≤700000→Ia (f a u).1∧a≤(f a u).2∧(f a u).2≤a+20∧AI bs a u.enc (f a u).1 (f a u).2) {x:V×Nat}(hu:x.1.right) (ha:x.2≤600000) :
  (E7 bs f x).1.right∧x.2≤(E7 bs f x).2∧(E7 bs f x).2≤x.2+50:=by
 obtain⟨h1,h2,h3,_⟩:=hf x.2 x.1 (by omega)
 obtain⟨v1,v2,v3,v4,v5⟩:=F8 bs 1 (f x.2 x.1).2
 have hB1:EI 1=23:=rfl
 have hC1:GR 1=4:=rfl
 have hw:(BH bs 1 (f x.2 x.1).2).1.right:=⟨v1,by omega,by omega⟩
 have hk:=(DN h1).2
 refine⟨?_,by show x.2≤_+1;omega,by show _+1≤_;omega⟩
 unfold E7
 dsimp only
 split
 ·rename_i v hv
  split at hv
  ·have:=Gm (f x.2 x.1).1 hk x.1 hu
   unfold G5 at this
   rw[hv]at this
   exact this.2
  ·have:=Ge hw (f x.2 x.1).1 hk x.1 hu
   unfold G5 at this
   rw[hv]at this
   exact this.2
 ·exact hu
theorem K3 {r:Int×Option V}(h:G5 r):(∃v,r=(0,some v)∧v.right)∨∃c,c≠0∧r=(c,none):=by
 obtain⟨c,o⟩:=r
 cases o with
 |none=>exact .inr ⟨c,h,rfl⟩
 |some v=>exact .inl ⟨v,by rw[show c=0 from h.1],h.2⟩
theorem Vg (bs:List Nat) (hb:Bs bs):∃xs ys a',D7 xs∧D7 ys∧a'≤2000∧AC Tryz.prog 132 [.c (.sl (bs.map CO))] [] (.tup [Aq xs,Aq ys,.ptr (0,0) 0]) (D6 bs a'):=by
 obtain⟨f,hf⟩:=d6 bs hb
 have s0:=Ta bs
 obtain⟨v1,v2,v3,v4,v5⟩:=F8 bs 2 0
 have hB2:EI 2=77:=rfl
 have hC2:GR 2=13:=rfl
 have hB1:EI 1=23:=rfl
 have hC1:GR 1=4:=rfl
 have c1:AC Tryz.prog 101 [.ptr (0,0) 0,.c (.int .i64 3)] (D6 bs 0) (.own (0,1)) (N4 bs (BH bs 2 0).1.enc (BH bs 2 0).2):=Ed bs hb 2 (by omega) 0 (by omega)
 have ht:(BH bs 2 0).1.right:=X5 v1 (by omega) v3
 have hel:=Bb (BH bs 2 0).1
 generalize BH bs 2 0=r0 at *
 obtain⟨t,a0⟩:=r0
 dsimp only at v1 v2 v3 v4 v5 c1 ht hel
 have hz1:0+t.enc.length≤1000000:=by omega
 have n1:=AB bs hb a0 4 (by omega) (by omega)
 have hn:=AD bs a0 (n:=4) (by omega)
 generalize Af bs a0 4=n at *
 -- what is there behind the loop
 obtain⟨y,hy⟩:∃y,IC bs f n (t,a0+1)=y:=⟨_,rfl⟩
 have hgo:∀(m:Nat) (x:V×Nat),m≤3→x.1.right→x.2+50*m≤600000→(IC bs f m x).1.right∧(IC bs f m x).2≤x.2+50*m:=fun m=>by
  induction m with
  |zero=>intro x _ hu _;exact⟨hu,by simp[IC]⟩
  |succ m ih =>
   intro x hm hu hx
   obtain⟨g1,g2,g3⟩:=Ml bs hf hu (by omega)
   obtain⟨k1,k2⟩:=ih (E7 bs f x) (by omega) g1 (by omega)
   exact⟨k1,by show (IC bs f m (E7 bs f x)).2≤_;omega⟩
 have hyr:=hgo n (t,a0+1) (by omega) ht (by dsimp only;omega)
 rw[hy]at hyr
 dsimp only at hyr
 obtain⟨u,au⟩:=y
 dsimp only at hyr
 obtain⟨hur,hau⟩:=hyr
 -- behind the loop
 have c6:=Am bs hb au 6 (by omega) (by omega)
 obtain⟨w1,w2,w3,w4,w5⟩:=F8 bs 2 (au+1)
 have cv:AC Tryz.prog 101 [.ptr (0,0) 0,.c (.int .i64 3)] (D6 bs (au+1)) (.own (0,1)) (N4 bs (BH bs 2 (au+1)).1.enc (BH bs 2 (au+1)).2):=Ed bs hb 2 (by omega) (au+1) (by omega)
 have hwr:(BH bs 2 (au+1)).1.right:=X5 w1 (by omega) w3
 generalize BH bs 2 (au+1)=r1 at *
 obtain⟨t2,a2⟩:=r1
 dsimp only at w1 w2 w3 w4 w5 cv hwr
 obtain⟨b6,hb6⟩:∃b6,(Af bs au 6==0)=b6:=⟨_,rfl⟩
 rw[hb6]at c6
 obtain⟨a3,ha3⟩:∃a3,(if b6=true then a2 else au+1)=a3:=⟨_,rfl⟩
 have ha3l:a3≤1000:=by rw[←ha3];split<;>omega
 have n20:=AB bs hb a3 20 (by omega) (by omega)
 obtain⟨z,hzz⟩:∃z:Int,((Af bs a3 20:Nat):Int)=z:=⟨_,rfl⟩
 rw[hzz]at n20
 have hz20:0≤z:=by omega
 obtain⟨es,a4,⟨g1,g2,g3,g4⟩,cb⟩:=J4 bs hb (a3+1) (by omega)
 have hts:=Bu ht
 have hus:=Bu hur
 have hws:=Bu hwr
 have e0:z=0∨z=1∨((z==0)=false∧(z==1)=false∧z≠0∧z≠1):=by simp only[beq_eq_false_iff_ne];omega
 obtain⟨X,hX⟩:∃X:List CellD,X=if z=0 then es else t.enc:=⟨_,rfl⟩
 obtain⟨Y,hY⟩:∃Y:List CellD,Y=if z=1 then es else if b6=true then t2.enc else u.enc:=⟨_,rfl⟩
 obtain⟨A,hA⟩:∃A:Nat,A=if z=0∨z=1 then a4 else a3+1:=⟨_,rfl⟩
 refine⟨X,Y,A,by rw[hX];split;exact g2;exact hts,by rw[hY];split;exact g2;split;exact hws;exact hus,by rw[hA];split<;>omega,?_⟩
 refine A5 Tryz.func132 Tryz.ntmps132 ?_
 refine A3 q9 ?_
 refine w12 (Au [] s0) q9 ?_
 refine A3 q9 ?_
 refine A7 (A0 [((0,0),(12,0))] [((0,0),(12,0)),((0,1),(14,0))] c1) q9 ?_
 refine A3 (j2 hz1 @List.nil_append.{0}) ?_
 refine A7 (A0 [((0,0),(12,0))] [((0,0),(12,0))] n1) q9 ?_
 refine A3 q9 ?_
 refine AZ (κ:=V×Nat×Nat) (fun x=>⟨mkS 0 60 [(5,.ptr (12,0) 0),(6,.own (14,0)),(7,Aq x.1.enc),(8,.c (.int .i64 (x.2.1:Int)))],[((12,0),Wd bs x.2.2),((14,0),.row false 5 115 (t.enc.map CellD.cs))]⟩)
  (fun x=>x.1.right∧x.2.1≤3∧x.2.2+50*x.2.1≤600000∧IC bs f x.2.1 (x.1,x.2.2)=(u,au)) (fun x=>x.2.1) (t,n,a0+1) ⟨ht,by show n≤3;omega,by show a0+1+50*n≤_;omega,hy⟩ ?_ ?_
 ·exact As (AH.of [((12,0),(12,0)),((14,0),(14,0))] [(17,0)]) hz1
 ·rintro⟨b,m,a1⟩ ⟨i1,i2,i3,i4⟩
  dsimp only at i1 i2 i3 i4 ⊢
  cases m with
  |succ m =>
   obtain⟨p1,p2,p3,pc⟩:=hf a1 b (by omega)
   have hst:=Ml bs hf (x:=(b,a1)) i1 (by dsimp only;omega)
   have i4':IC bs f m (E7 bs f (b,a1))=(u,au):=i4
   obtain⟨r,hr⟩:∃r,E7 bs f (b,a1)=r:=⟨_,rfl⟩
   rw[hr]at hst i4'
   unfold E7 at hr
   dsimp only at hr hst
   unfold AI at pc
   obtain⟨q1,q2,q3,q4,q5⟩:=F8 bs 1 (f a1 b).2
   have cw:AC Tryz.prog 101 [.ptr (0,0) 0,.c (.int .i64 2)] (D6 bs (f a1 b).2) (.own (0,1)) (N4 bs (BH bs 1 (f a1 b).2).1.enc (BH bs 1 (f a1 b).2).2):=Ed bs hb 1 (by omega) (f a1 b).2 (by omega)
   have hwr1:(BH bs 1 (f a1 b).2).1.right:=⟨q1,by omega,by omega⟩
   generalize BH bs 1 (f a1 b).2=rw1 at *
   obtain⟨w,aw⟩:=rw1
   dsimp only at q1 q2 q3 q4 q5 cw hwr1 hr
   generalize f a1 b=rp at *
   obtain⟨P,ap⟩:=rp
   dsimp only at p1 p2 p3 pc hr
   have hpr:=G8 p1.2 (by have:=p1.1;omega)
   have pp:=Cj (t:=Ba P) hpr.1 hpr.2.1
   have hkids:(Ba P).kids=P:=rfl
   rw[hkids]at pp
   have cs:=Lq hwr1 P (DN p1).1 (DN p1).2 b i1
   have cd:=NS P (DN p1).1 (DN p1).2 b i1
   have os:=Ge hwr1 P (DN p1).2 b i1
   have od:=Gm P (DN p1).2 b i1
   have c3:=Am bs hb aw 3 (by omega) (by omega)
   have h0:decide (((m+1:Nat):Int)>0)=true:=decide_eq_true (by omega)
   have hw:IntKind.i64.wrap (((m+1:Nat):Int)-1)=(m:Int):=EH (by omega) (by omega)
   have h01:((0:Int)==0)=true:=rfl
   have start:r.2=aw+1:=by rw[←hr]
   generalize CD w P b=rs at *
   generalize CY P b=rd at *
   generalize (Ba P).enc=PE at *
   generalize (P.map V.enc).map A9=PR at *
   generalize w.enc=we at *
   cases hb3:Af bs aw 3==0 with
   |false =>
    rw[hb3]at c3 hr
    have hr':(match rs.2 with | some v=>v | none=>b,aw+1)=r:=hr
    rcases K3 os with⟨v,rfl,hv⟩ | ⟨c,hc,rfl⟩
    ·rw[C3]at cs
     have hrv:r=(v,aw+1):=hr'.symm
     refine A3 h0 ?_
     refine A7 (A0 [((0,0),(12,0))] [((0,0),(12,0)),((0,1),(26,0))] pc) q9 ?_
     refine A3 q9 ?_
     refine w9 (A6 [(26,0)] pp) q9 ?_
     refine A3 q9 ?_
     refine A7 (A0 [((0,0),(12,0))] [((0,0),(12,0)),((0,1),(31,0))] cw) q9 ?_
     refine A3 q9 ?_
     refine w9 (A6 [(31,0)] cs) q9 ?_
     refine A3 q9 ?_
     refine A7 (A0 [((0,0),(12,0))] [((0,0),(12,0))] c3) q9 ?_
     refine A3 (j2 h01 hw) ?_
     refine⟨(v,m,aw+1),by dsimp only;omega,⟨hv,by dsimp only;omega,by dsimp only;omega,by rw[←hrv];exact i4'⟩,?_⟩
     exact As (AH.of [((12,0),(12,0)),((14,0),(14,0))] []) hw
    ·rw[C2]at cs
     have hrv:r=(b,aw+1):=hr'.symm
     have hc0:(c==0)=false:=by simpa using hc
     refine A3 h0 ?_
     refine A7 (A0 [((0,0),(12,0))] [((0,0),(12,0)),((0,1),(26,0))] pc) q9 ?_
     refine A3 q9 ?_
     refine w9 (A6 [(26,0)] pp) q9 ?_
     refine A3 q9 ?_
     refine A7 (A0 [((0,0),(12,0))] [((0,0),(12,0)),((0,1),(31,0))] cw) q9 ?_
     refine A3 q9 ?_
     refine w9 (A6 [(31,0)] cs) q9 ?_
     refine A3 q9 ?_
     refine A7 (A0 [((0,0),(12,0))] [((0,0),(12,0))] c3) q9 ?_
     refine A3 (j2 hc0 hw) ?_
     refine⟨(b,m,aw+1),by dsimp only;omega,⟨i1,by dsimp only;omega,by dsimp only;omega,by rw[←hrv];exact i4'⟩,?_⟩
     exact As (AH.of [((12,0),(12,0)),((14,0),(14,0))] []) hw
   |true =>
    rw[hb3]at c3 hr
    have hr':(match rd.2 with | some v=>v | none=>b,aw+1)=r:=hr
    rcases K3 os with⟨vs,rfl,_⟩ | ⟨c1,_,rfl⟩
    all_goals
     first | rw[C3]at cs | rw[C2]at cs
     rcases K3 od with⟨v,rfl,hv⟩ | ⟨c,hc,rfl⟩
     ·rw[C3]at cd
      have hrv:r=(v,aw+1):=hr'.symm
      refine A3 h0 ?_
      refine A7 (A0 [((0,0),(12,0))] [((0,0),(12,0)),((0,1),(26,0))] pc) q9 ?_
      refine A3 q9 ?_
      refine w9 (A6 [(26,0)] pp) q9 ?_
      refine A3 q9 ?_
      refine A7 (A0 [((0,0),(12,0))] [((0,0),(12,0)),((0,1),(31,0))] cw) q9 ?_
      refine A3 q9 ?_
      refine w9 (A6 [(31,0)] cs) q9 ?_
      refine A3 q9 ?_
      refine A7 (A0 [((0,0),(12,0))] [((0,0),(12,0))] c3) q9 ?_
      refine A3 hw ?_
      refine w9 (A6 [] cd) q9 ?_
      refine A3 (j2 h01 hw) ?_
      refine⟨(v,m,aw+1),by dsimp only;omega,⟨hv,by dsimp only;omega,by dsimp only;omega,by rw[←hrv];exact i4'⟩,?_⟩
      exact As (AH.of [((12,0),(12,0)),((14,0),(14,0))] []) hw
     ·rw[C2]at cd
      have hrv:r=(b,aw+1):=hr'.symm
      have hc0:(c==0)=false:=by simpa using hc
      refine A3 h0 ?_
      refine A7 (A0 [((0,0),(12,0))] [((0,0),(12,0)),((0,1),(26,0))] pc) q9 ?_
      refine A3 q9 ?_
      refine w9 (A6 [(26,0)] pp) q9 ?_
      refine A3 q9 ?_
      refine A7 (A0 [((0,0),(12,0))] [((0,0),(12,0)),((0,1),(31,0))] cw) q9 ?_
      refine A3 q9 ?_
      refine w9 (A6 [(31,0)] cs) q9 ?_
      refine A3 q9 ?_
      refine A7 (A0 [((0,0),(12,0))] [((0,0),(12,0))] c3) q9 ?_
      refine A3 hw ?_
      refine w9 (A6 [] cd) q9 ?_
      refine A3 (j2 hc0 hw) ?_
      refine⟨(b,m,aw+1),by dsimp only;omega,⟨i1,by dsimp only;omega,by dsimp only;omega,by rw[←hrv];exact i4'⟩,?_⟩
      exact As (AH.of [((12,0),(12,0)),((14,0),(14,0))] []) hw
  |zero =>
   have hbu:b=u:=congrArg Prod.fst i4
   have hba:a1=au:=congrArg Prod.snd i4
   rw[hbu,hba]
   have h0:decide (((0:Nat):Int)>0)=false:=rfl
   have h01:((0:Int)==0)=true:=rfl
   have h10:((1:Int)==0)=false:=rfl
   have h11:((1:Int)==1)=true:=rfl
   cases b6 with
   |false =>
    have ha3e:a3=au+1:=ha3.symm
    subst ha3e
    rcases e0 with rfl | rfl | ⟨e0,e1,z0,z1⟩
    ·rw[if_pos rfl]at hX
     rw[if_neg (by decide),if_neg (by decide)]at hY
     rw[if_pos (.inl rfl)]at hA
     rw[hX,hY,hA]
     refine A3 h0 ?_
     refine A7 (A0 [((0,0),(12,0))] [((0,0),(12,0))] c6) q9 ?_
     refine A3 q9 ?_
     refine A7 (A0 [((0,0),(12,0))] [((0,0),(12,0))] n20) q9 ?_
     refine A3 h01 ?_
     refine A7 (A0 [((0,0),(12,0))] [((0,0),(12,0)),((0,1),(52,0))] cb) q9 ?_
     refine A3 q9 ?_
     exact Ab (Aa [((0,0),(12,0))] [(52,0)]) Tryz.results132 h0
    ·rw[if_neg (by decide)]at hX
     rw[if_pos rfl]at hY
     rw[if_pos (.inr rfl)]at hA
     rw[hX,hY,hA]
     refine A3 h0 ?_
     refine A7 (A0 [((0,0),(12,0))] [((0,0),(12,0))] c6) q9 ?_
     refine A3 q9 ?_
     refine A7 (A0 [((0,0),(12,0))] [((0,0),(12,0))] n20) q9 ?_
     refine A3 (j2 h10 h11) ?_
     refine A7 (A0 [((0,0),(12,0))] [((0,0),(12,0)),((0,1),(56,0))] cb) q9 ?_
     refine A3 q9 ?_
     exact Ab (Aa [((0,0),(12,0))] [(14,0),(56,0)]) Tryz.results132 h0
    ·rw[if_neg z0]at hX
     rw[if_neg z1,if_neg (by decide)]at hY
     rw[if_neg (fun h=>h.elim z0 z1)]at hA
     rw[hX,hY,hA]
     refine A3 h0 ?_
     refine A7 (A0 [((0,0),(12,0))] [((0,0),(12,0))] c6) q9 ?_
     refine A3 q9 ?_
     refine A7 (A0 [((0,0),(12,0))] [((0,0),(12,0))] n20) q9 ?_
     refine A3 (j2 e0 e1) ?_
     exact Ab (Aa [((0,0),(12,0))] [(14,0)]) Tryz.results132 h0
   |true =>
    have ha3e:a3=a2:=ha3.symm
    subst ha3e
    rcases e0 with rfl | rfl | ⟨e0,e1,z0,z1⟩
    ·rw[if_pos rfl]at hX
     rw[if_neg (by decide),if_pos rfl]at hY
     rw[if_pos (.inl rfl)]at hA
     rw[hX,hY,hA]
     refine A3 h0 ?_
     refine A7 (A0 [((0,0),(12,0))] [((0,0),(12,0))] c6) q9 ?_
     refine A3 q9 ?_
     refine A7 (A0 [((0,0),(12,0))] [((0,0),(12,0)),((0,1),(46,0))] cv) q9 ?_
     refine A3 q9 ?_
     refine A7 (A0 [((0,0),(12,0))] [((0,0),(12,0))] n20) q9 ?_
     refine A3 h01 ?_
     refine A7 (A0 [((0,0),(12,0))] [((0,0),(12,0)),((0,1),(52,0))] cb) q9 ?_
     refine A3 q9 ?_
     exact Ab (Aa [((0,0),(12,0))] [(52,0),(46,0)]) Tryz.results132 h0
    ·rw[if_neg (by decide)]at hX
     rw[if_pos rfl]at hY
     rw[if_pos (.inr rfl)]at hA
     rw[hX,hY,hA]
     refine A3 h0 ?_
     refine A7 (A0 [((0,0),(12,0))] [((0,0),(12,0))] c6) q9 ?_
     refine A3 q9 ?_
     refine A7 (A0 [((0,0),(12,0))] [((0,0),(12,0)),((0,1),(46,0))] cv) q9 ?_
     refine A3 q9 ?_
     refine A7 (A0 [((0,0),(12,0))] [((0,0),(12,0))] n20) q9 ?_
     refine A3 (j2 h10 h11) ?_
     refine A7 (A0 [((0,0),(12,0))] [((0,0),(12,0)),((0,1),(56,0))] cb) q9 ?_
     refine A3 q9 ?_
     exact Ab (Aa [((0,0),(12,0))] [(14,0),(56,0)]) Tryz.results132 h0
    ·rw[if_neg z0]at hX
     rw[if_neg z1,if_pos rfl]at hY
     rw[if_neg (fun h=>h.elim z0 z1)]at hA
     rw[hX,hY,hA]
     refine A3 h0 ?_
     refine A7 (A0 [((0,0),(12,0))] [((0,0),(12,0))] c6) q9 ?_
     refine A3 q9 ?_
     refine A7 (A0 [((0,0),(12,0))] [((0,0),(12,0)),((0,1),(46,0))] cv) q9 ?_
     refine A3 q9 ?_
     refine A7 (A0 [((0,0),(12,0))] [((0,0),(12,0))] n20) q9 ?_
     refine A3 (j2 e0 e1) ?_
     exact Ab (Aa [((0,0),(12,0))] [(14,0),(46,0)]) Tryz.results132 h0
set_option maxRecDepth 10000
theorem Sj {q:V}(h:q.right):AC Tryz.prog 49 [q.av] [] (.own (0,0)) [((0,0),.row false 5 115 (q.enc.map CellD.cs))] :=
 Zk q.count q (Nat.le_refl _) (by have:=h.2.1;omega) (Gc h)
def a54 (t:V):Int×Option V:=if t.count≤200 then okR t else JG 2
theorem Nf (t:V):t.count=1+Ag t.kids:=by
 cases t
 simp only[V.count,V.kids]
 omega
theorem EP (t:V):t.depth=1+AF t.kids:=by
 cases t
 simp only[V.depth,V.kids]
 omega
abbrev Xf:=ByteArray×V
def JQ (l:List Xf):List ByteArray:=l.map Prod.fst
def Pk (l:List Xf):List V:=l.map Prod.snd
def ovV (l:List Xf):V:=.mk 6 0 ByteArray.empty (JQ l) (Pk l)
theorem a3s (l:List Xf):(JQ l).length=(Pk l).length:=by unfold JQ Pk;rw[List.length_map,List.length_map]
theorem Tf {l:List Xf}(h:Up (JQ l)) {k:ByteArray}{u:V}(h1:(k,u)∈l):AS (JQ l) (Pk l) k=u:=by
 have hk:k∈JQ l:=List.mem_map.2 ⟨(k,u),h1,rfl⟩
 obtain⟨j,g1,_,g3⟩:=Ee (a3s l) hk
 obtain⟨i,hi,e1⟩:=List.mem_iff_getElem.1 h1
 have q1:(JQ l)[i]? = some k:=by unfold JQ;rw[List.getElem?_map,List.getElem?_eq_getElem hi,e1];rfl
 have:=a0f h g1 q1
 subst this
 have q2:(Pk l)[j]? = some u:=by unfold Pk;rw[List.getElem?_map,List.getElem?_eq_getElem hi,e1];rfl
 rw[q2]at g3
 exact (Option.some.inj g3).symm
theorem Wl {t:V}(h:t.wf) (h5:t.kind=5):t=Ba t.kids:=by
 obtain⟨_,_,h3,h4,h6,_⟩:=Bl h
 cases t with
 |mk kind num text keys kids =>
  simp only[V.kind,V.num,V.text,V.keys]at h5 h3 h4 h6
  rw[h3 (by omega),h4 (by omega),h6 (by omega),h5]
  rfl
def Eg (t:V):List Xf:=t.keys.zip t.kids
theorem Rv {t:V}(h:t.keys.length=t.kids.length):JQ (Eg t)=t.keys:=by
 unfold JQ Eg
 exact List.map_fst_zip (by omega)
theorem X3 {t:V}(h:t.keys.length=t.kids.length):Pk (Eg t)=t.kids:=by
 unfold Pk Eg
 exact List.map_snd_zip (by omega)
theorem a1w {t:V}(h:t.right) (h6:t.kind=6):t=ovV (Eg t):=by
 obtain⟨_,_,hl⟩:=B9 h h6
 obtain⟨_,_,h3,h4,_,_⟩:=Bl h.1
 unfold ovV
 rw[Rv hl,X3 hl]
 cases t with
 |mk kind num text keys kids =>
  simp only[V.kind,V.num,V.text]at h6 h3 h4
  rw[h3 (by omega),h4 (by omega),h6]
  rfl
set_option maxRecDepth 10000
theorem Xo (x y:List CellD):(E4 x y≠0)∨∃t u,dec x=(0,some t)∧dec y=(0,some u)∧E4 x y=0:=by
 unfold E4
 rcases DR x with⟨t,h1⟩ | ⟨c,hc,h1⟩
 ·rcases DR y with⟨u,h2⟩ | ⟨c,hc,h2⟩
  ·exact .inr ⟨t,u,h1,h2,by rw[h1,h2];rfl⟩
  ·rw[h1,h2]
   exact .inl hc
 ·rw[h1]
  dsimp only
  rw[if_neg hc]
  exact .inl hc
def Z3 (d:EditD):Prop:=∃q:List V,(∀k∈q,CG k)∧q.length≤50∧((∃x:V,x.right∧d=IH q x)∨(q≠[]∧d=Ii q))
theorem Lc:∀(n:Nat) (a b:V) (p:List V) (D:Nat),a.right→b.right→a.depth≤D→b.depth≤D→(∀q∈p,CG q)→p.length+D≤50→∀d∈Cw n a b p,Z3 d
 | 0,a,b,p,D,_,_,_,_,_,_,d,hd=>by unfold Cw at hd;cases hd
 |n+1,a,b,p,D,ha,hb,da,db,hp,hpl,d,hd=>by
  unfold Cw at hd
  have hda:=EP a
  have hdb:=EP b
  obtain⟨E,rfl⟩:∃E,D=E+1:=⟨D-1,by omega⟩
  split at hd
  ·cases hd
  ·split at hd
   ·rename_i h6
    obtain⟨ua,ta,la⟩:=B9 ha h6.1
    obtain⟨ub,tb,lb⟩:=B9 hb h6.2
    obtain⟨k,hk,hdk⟩:=List.mem_flatMap.1 hd
    have hkm:=(CS _ a.keys b.keys (Nat.le_refl _) k).1 hk
    have hkt:AP k=true:=hkm.elim (ta k) (tb k)
    have hsk:∀q∈p++[C6 k],CG q:=BD hp (U0 hkt)
    have hlen:(p++[C6 k]).length+E≤50:=by rw[List.length_append,List.length_singleton];omega
    have mdep:∀{t:V},t.right→t.kind=6→t.depth≤E+1→(B3 t.keys k).isSome=true→(t.member k).depth≤E:=fun {t} ht h6 hd hs=>by
     obtain⟨i,hi⟩:=Option.isSome_iff_exists.1 hs
     obtain⟨h1,_⟩:=Dh hi
     obtain⟨_,_,hl⟩:=B9 ht h6
     rw[EW hi (List.getElem?_eq_getElem (by omega))]
     have:=CP (List.getElem_mem (show i<t.kids.length by omega))
     have:=EP t
     omega
    unfold H3 at hdk
    cases hB:(B3 b.keys k).isSome with
    |false =>
     rw[hB]at hdk
     simp only[if_true,List.mem_singleton]at hdk
     exact⟨_,hsk,by omega,.inr ⟨by simp,hdk⟩⟩
    |true =>
     rw[hB]at hdk
     cases hA:(B3 a.keys k).isSome with
     |false =>
      rw[hA]at hdk
      simp only[Bool.true_eq_false,if_true,if_false,List.mem_singleton]at hdk
      exact⟨_,hsk,by omega,.inl ⟨_,Cv hb h6.2 k,hdk⟩⟩
     |true =>
      rw[hA]at hdk
      simp only[Bool.true_eq_false,if_false]at hdk
      exact Lc n _ _ _ E (Cv ha h6.1 k) (Cv hb h6.2 k) (mdep ha h6.1 da hA) (mdep hb h6.2 db hB) hsk hlen d hdk
   ·split at hd
    ·have hla:=BL a.kids
     have hlb:=BL b.kids
     have hca:=Nf a
     have hcb:=Nf b
     have q1:=ha.2.1
     have q2:=hb.2.1
     have hsk:∀i:Nat,i≤400→∀q∈p++[Ar (i:Int)],CG q:=fun i hi=>BD hp (CM (by omega))
     have hlen:∀i:Nat,(p++[Ar (i:Int)]).length+E≤50:=fun i=>by rw[List.length_append,List.length_singleton];omega
     unfold Uw at hd
     rcases List.mem_append.1 hd with hd | hd
     ·rcases List.mem_append.1 hd with hd | hd
      ·obtain⟨i,hi,hdi⟩:=List.mem_flatMap.1 hd
       rw[List.mem_range]at hi
       have i1:i<a.kids.length:=by omega
       have i2:i<b.kids.length:=by omega
       unfold Ib at hdi
       rw[show a.kids.getD i BA=a.kids[i] by simp[List.getD_eq_getElem?_getD,List.getElem?_eq_getElem i1],show b.kids.getD i BA=b.kids[i] by simp[List.getD_eq_getElem?_getD,List.getElem?_eq_getElem i2]]at hdi
       have d1:=CP (List.getElem_mem i1)
       have d2:=CP (List.getElem_mem i2)
       exact Lc n _ _ _ E (AQ ha (List.getElem_mem i1)) (AQ hb (List.getElem_mem i2)) (by omega) (by omega) (hsk i (by omega)) (hlen i) d hdi
      ·obtain⟨j,hj,rfl⟩:=List.mem_map.1 hd
       have:=hlen (a.kids.length-1-j)
       exact⟨_,hsk (a.kids.length-1-j) (by omega),by omega,.inr ⟨by simp,rfl⟩⟩
     ·obtain⟨j,hj,rfl⟩:=List.mem_map.1 hd
      rw[List.mem_range]at hj
      have i2:min a.kids.length b.kids.length+j<b.kids.length:=by omega
      have:=hlen (min a.kids.length b.kids.length+j)
      refine⟨_,hsk (min a.kids.length b.kids.length+j) (by omega),by omega,.inl ⟨b.kids.getD (min a.kids.length b.kids.length+j) BA,?_,rfl⟩⟩
      rw[show b.kids.getD (min a.kids.length b.kids.length+j) BA=b.kids[min a.kids.length b.kids.length+j] by simp[List.getD_eq_getElem?_getD,List.getElem?_eq_getElem i2]]
      exact AQ hb (List.getElem_mem i2)
    ·rw[List.mem_singleton]at hd
     exact⟨p,hp,by omega,.inl ⟨b,hb,hd⟩⟩
theorem a0b {d:EditD}(h:Z3 d):DY d:=by
 obtain⟨q,hq,hl,⟨x,hx,rfl⟩ | ⟨hn,rfl⟩⟩:=h
 ·have hp:=G8 hq (by omega:q.length≤100)
  have h1:=hp.2.1
  have h2:=hx.2.1
  refine⟨Bu hp,Bu hx,?_,?_⟩
  ·show (Ba q).enc.length≤_
   rw[Bb];omega
  ·show x.enc.length≤_
   rw[Bb];omega
 ·have hp:=G8 hq (by omega:q.length≤100)
  have h1:=hp.2.1
  refine⟨Bu hp,by show D7 [];unfold D7;simp,?_,?_⟩
  ·show (Ba q).enc.length≤_
   rw[Bb];omega
  ·show ([]:List CellD).length≤_
   exact Nat.zero_le _
end Go.Proofs.YtllfmaflodbieaaGreatDoor
