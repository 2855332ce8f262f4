/- Texts of this proof: G57 G59. -/
import Derived.Test.YtllfmaflodbieaaGreatDoorKG45uG56
set_option linter.all false
set_option maxHeartbeats 8000000
namespace Go.Proofs.YtllfmaflodbieaaGreatDoor
open Go.RowKit
set_option maxRecDepth 10000
theorem z6 (n:Int) (m:Nat) (hn:-1000000000000000≤n∧n≤1000000000000000) (hm:m≤1000000):AC Tryz.prog 152 [.c (.int .i64 n),.c (.int .i64 m)] [] (.c (.int .i64 (C0 n m))) []:=by
 unfold C0
 by_cases h:n<0
 ·have hd:decide (n<0)=true:=by simpa using h
  have hw:IntKind.i64.wrap (n+(m:Int))=n+(m:Int):=IntWalk.i64_in _ (by omega)
  rw[if_pos h]
  refine A6 Tryz.func152 Tryz.ntmps152 ?_
  refine A0 (j2 hd hw) ?_
  exact Am (A7 []) Tryz.results152
 ·have hd:decide (n<0)=false:=by simpa using h
  rw[if_neg h]
  refine A6 Tryz.func152 Tryz.ntmps152 ?_
  refine A0 hd ?_
  exact Am (A7 []) Tryz.results152
theorem s8 (n:Int) (m:Nat) (hn:-1000000000000000≤n∧n≤1000000000000000) (hm:m≤1000000):AC Tryz.prog 139 [.c (.int .i64 n),.c (.int .i64 m)] [] (.c (.int .i64 (C0 n m))) []:=by
 unfold C0
 by_cases h:n<0
 ·have hd:decide (n<0)=true:=by simpa using h
  have hw:IntKind.i64.wrap (n+(m:Int))=n+(m:Int):=IntWalk.i64_in _ (by omega)
  rw[if_pos h]
  refine A6 Tryz.func139 Tryz.ntmps139 ?_
  refine A0 (j2 hd hw) ?_
  exact Am (A7 []) Tryz.results139
 ·have hd:decide (n<0)=false:=by simpa using h
  rw[if_neg h]
  refine A6 Tryz.func139 Tryz.ntmps139 ?_
  refine A0 hd ?_
  exact Am (A7 []) Tryz.results139
theorem u7 (v:V) (n:Nat):∃L:Nat→List V,L 0=v.kids∧(∀j,(L j).length=v.kids.length+j)∧L (n+1-v.kids.length)=Kq v.kids n∧∀j,L (j+1)=L j++[P5]:=by
 refine⟨fun j=>v.kids++List.replicate j P5,by simp,fun j=>by rw[List.length_append,List.length_replicate],rfl,fun j=>?_⟩
 dsimp only
 rw[List.replicate_succ',List.append_assoc]
theorem ZI {v x:V}(hv:v.right) (P p:List V) (k:V) (hk:k.right) (f:V→Int×Option V)
  (hP1:Aj (P.map V.cs) 5 0=true) (hP2:(P.map V.cs)[0]? = some [.int .i64 k.kind,.int .i64 k.num,.str k.text,.sl (k.keys.map Ab),.sl (k.kids.map V.cs)]) (hP3:1≤P.length) (hP4:((P.map V.cs).take P.length).drop 1=p.map V.cs)
  (hf:∀w,w.right→K4 (f w)) (hrec:∀w,w.right→AC Tryz.prog 47 [w.av,PD p,x.av] [] (Qr (f w)) []) :
  AC Tryz.prog 94 [v.av,PD P,x.av] [] (Qr (Hj v k.num f)) []:=by
 have hkl:=Cj hv.2.1
 have hnum:=Gx hk
 have hcv:=NC v.kids (by omega)
 have hsz:=K0 v.kids
 have hcn:=z6 k.num v.kids.length hnum (by omega)
 have hPl:(P.map V.cs).length=P.length:=by simp
 have hPa:=Ug P
 have h01:GR 0 (some (AV.c (C.int IntKind.i64 1)))=some 1:=rfl
 unfold Hj
 by_cases h5:v.kind=5∨v.kind=0
 ·rw[if_pos h5]
  obtain⟨m,hm⟩:∃m,C0 k.num v.kids.length=m:=⟨_,rfl⟩
  rw[hm]at hcn ⊢
  rcases h5 with h5 | h5
  case' inl =>
   have hb5:(v.kind != 5)=false:=by simpa using h5
   have hb0:(v.kind != 0)=true:=by simp[h5]
  case' inr =>
   have hb5:(v.kind != 5)=true:=by simp[h5]
   have hb0:(v.kind != 0)=false:=by simpa using h5
  all_goals
   by_cases hneg:m<0
   ·rw[if_pos hneg,KD]
    have hd:decide (m<0)=true:=by simpa using hneg
    refine A6 Tryz.func94 Tryz.ntmps94 ?_
    refine A0 (j2 hb5 hb0) ?_
    refine w12 (IE [] hcv) trivial ?_
    refine A0 (j2 hP1 hP2) ?_
    refine w7 (A3 [] hsz) trivial ?_
    refine w7 (A3 [] hcn) trivial ?_
    refine A0 hd ?_
    refine w7 (A3 [] (GS 3)) trivial ?_
    refine A0 trivial ?_
    exact Am (A7 []) Tryz.results94
   ·rw[if_neg hneg]
    have hd:decide (m<0)=false:=by simpa using hneg
    by_cases hbig:m≥200
    ·rw[if_pos hbig,KD]
     have hd2:decide (m≥200)=true:=by simpa using hbig
     refine A6 Tryz.func94 Tryz.ntmps94 ?_
     refine A0 (j2 hb5 hb0) ?_
     refine w12 (IE [] hcv) trivial ?_
     refine A0 (j2 hP1 hP2) ?_
     refine w7 (A3 [] hsz) trivial ?_
     refine w7 (A3 [] hcn) trivial ?_
     refine A0 (j2 hd hd2) ?_
     refine w7 (A3 [] (GS 2)) trivial ?_
     refine A0 trivial ?_
     exact Am (A7 []) Tryz.results94
    ·rw[if_neg hbig]
     have hd2:decide (m≥200)=false:=by simpa using hbig
     obtain⟨n,rfl⟩:∃n:Nat,m=n:=⟨m.toNat,by omega⟩
     rw[Int.toNat_natCast]
     obtain⟨L,hL0,hLl,hLe,hLs⟩:=u7 v n
     have hpr:=Lg (kids:=v.kids) (fun z hz=>Cg hv hz) n
     have hpl:=i7 v.kids n
     have hfit:=fun {r:V} (hr:r.right)=>YS hv hr n
     have hcnt:=fun {r:V} (hr:r.right)=>P6 hv hr (n:=n) (by omega)
     generalize Kq v.kids n=Q at *
     have hnl:n<Q.length:=by omega
     have hwD:Q.getD n P5=Q[n]:=by rw[List.getD_eq_getElem?_getD,List.getElem?_eq_getElem hnl];rfl
     rw[hwD]
     have hwr:=hpr Q[n] (List.getElem_mem hnl)
     have hrc:=hrec Q[n] hwr
     have hok:=hf Q[n] hwr
     have hnr:Aj (Q.map V.cs) 5 n=true:=by simp[Aj,hnl,V.cs_eq]
     have hng:(Q.map V.cs)[n]? = some [.int .i64 Q[n].kind,.int .i64 Q[n].num,.str Q[n].text,.sl (Q[n].keys.map Ab),.sl (Q[n].kids.map V.cs)]:=by simp[hnl,V.cs_eq]
     generalize f Q[n]=r at *
     generalize Q[n]=w at *
     generalize hres:a0k r _=res
     refine A6 Tryz.func94 Tryz.ntmps94 ?_
     refine A0 (j2 hb5 hb0) ?_
     refine w12 (IE [] hcv) trivial ?_
     refine A0 (j2 hP1 hP2) ?_
     refine w7 (A3 [] hsz) trivial ?_
     refine w7 (A3 [] hcn) trivial ?_
     refine A0 (j2 hd hd2) ?_
     refine AG (κ:=Nat) (fun j=>⟨mkS 0 66 [(1,.c (.sl (P.map V.cs))),(5,.ptr (5,0) 0),(6,.ptr (6,0) 0),(7,.own (95,0)),(8,.c (.int .i64 n))],
       [((5,0),.box [.c (.int .i64 x.kind),.c (.int .i64 x.num),.c (.str x.text),.c (.sl (x.keys.map Ab)),.c (.sl (x.kids.map V.cs))]),((6,0),.box [.c (.int .i64 0),.c (.int .i64 0),.c (.int .i64 0),.c (.str ByteArray.empty),.c (.sl []),.c (.sl [])]),((95,0),.row false 5 76 ((L j).map V.cs))]⟩)
      (fun j=>j≤n+1-v.kids.length) (fun j=>n+1-v.kids.length-j) 0 (Nat.zero_le _) ?_ ?_
     ·exact Aq (As.of [((5,0),(5,0)),((6,0),(6,0)),((95,0),(21,0))] []) hL0
     ·intro j hj
      have hszj:=K0 (L j)
      by_cases hlt:v.kids.length+j≤n
      ·have hd3:decide (((L j).length:Int)≤(n:Int))=true:=by rw[hLl];simp;omega
       have hl1:(L j).length+1≤1000000:=by rw[hLl];omega
       have hn1:(L j).map V.cs++[[.int .i64 0,.int .i64 0,.str ByteArray.empty,.sl [],.sl []]]=(L (j+1)).map V.cs:=by rw[hLs,List.map_append];rfl
       refine A0 trivial ?_
       refine w7 (A3 [(95,0)] hszj) trivial ?_
       refine A0 hd3 ?_
       refine w7 (A3 [] Xn) trivial ?_
       refine A0 hl1 ?_
       refine⟨j+1,by omega,by omega,?_⟩
       exact Aq (As.of [((5,0),(5,0)),((6,0),(6,0)),((95,0),(45,0))] []) hn1
      ·have hje:L j=Q:=by rw[show j=n+1-v.kids.length by omega];exact hLe
       have hd3:decide (((L j).length:Int)≤(n:Int))=false:=by rw[hLl];simp;omega
       rw[hje]at hszj hd3 ⊢
       rcases r with⟨c,_ | u⟩
       ·have hc:(c != 0)=true:=by simpa using (show c≠0 from hok)
        have hres:(c,none)=res:=hres
        subst hres
        simp only[FA]at hrc ⊢
        refine A0 trivial ?_
        refine w7 (A3 [(95,0)] hszj) trivial ?_
        refine A0 (j9 hd3 hnr hng hPl hP3 hP4 h01 hPa @Nat.le_refl) ?_
        refine w9 (Aa [] hrc) trivial ?_
        refine A0 hc ?_
        exact Am (A7 []) Tryz.results94
       ·obtain⟨h0,hu⟩:=hok
        have hres:Js (DB (Q.set n u))=res:=hres
        have h00:((0:Int) != 0)=false:=rfl
        have hgv:=ZV (hfit hu) (by have:=hcnt hu;omega)
        have hay:=Vf (Q.set n u)
        have hset:(Q.map V.cs).set n [.int .i64 u.kind,.int .i64 u.num,.str u.text,.sl (u.keys.map Ab),.sl (u.kids.map V.cs)]=(Q.set n u).map V.cs:=by rw[List.map_set,V.cs_eq]
        simp only[FQ]at hrc
        generalize Q.set n u=R at *
        rw[hres]at hgv
        rcases res with⟨c2,_ | y⟩
        all_goals
         simp only[FQ,FA]at hgv ⊢
         refine A0 trivial ?_
         refine w7 (A3 [(95,0)] hszj) trivial ?_
         refine A0 (j9 hd3 hnr hng hPl hP3 hP4 h01 hPa @Nat.le_refl) ?_
         refine w9 (Aa [] hrc) trivial ?_
         refine A0 (j4 h00 hnr hng hset) ?_
         refine w9 (Aa [(95,0)] hay) hset ?_
         refine w9 (Aa [] hgv) trivial ?_
         refine A0 trivial ?_
         exact Am (A7 []) Tryz.results94
 ·rw[if_neg h5,KD]
  have hb5:(v.kind != 5)=true:=by simp;omega
  have hb0:(v.kind != 0)=true:=by simp;omega
  refine A6 Tryz.func94 Tryz.ntmps94 ?_
  refine A0 (j2 hb5 hb0) ?_
  refine w7 (A3 [] (GS 6)) trivial ?_
  refine A0 trivial ?_
  exact Am (A7 []) Tryz.results94
theorem Zz {x:V}(hx:x.right):∀(P:List V),P.length≤1000000→(∀k∈P,k.right∧(k.kind=3∨k.kind=4))→∀(v:V),v.right→AC Tryz.prog 47 [v.av,PD P,x.av] [] (Qr (C3 x P v)) []
 | [],_,_,v,hv=>by
  have hg:=VN hx
  have hz0:((0:Int)==0)=true:=rfl
  have hz1:(((0:Nat):Int)==0)=true:=rfl
  show AC _ _ _ _ (Qr (okR x)) _
  rw[i8]
  refine A6 Tryz.func47 Tryz.ntmps47 ?_
  refine A0 (j2 hz0 hz1) ?_
  refine w9 (Aa [] hg) trivial ?_
  refine A0 trivial ?_
  exact Am (A7 []) Tryz.results47
 |k::p,hl,hp,v,hv=>by
  have hpl:p.length≤1000000:=by simp only[List.length_cons]at hl;omega
  have hpp:∀y∈p,y.right∧(y.kind=3∨y.kind=4):=fun y hy=>hp y (by simp[hy])
  obtain⟨hk,hkk⟩:=hp k (by simp)
  have ih:=Zz hx p hpl hpp
  have ok:=Ie hx p hpp
  have hP1:Aj ((k::p).map V.cs) 5 0=true:=by simp[Aj,V.cs_eq]
  have hP2:((k::p).map V.cs)[0]? = some [.int .i64 k.kind,.int .i64 k.num,.str k.text,.sl (k.keys.map Ab),.sl (k.kids.map V.cs)]:=by simp[V.cs_eq]
  have hP3:1≤(k::p).length:=by simp
  have hP4:(((k::p).map V.cs).take (k::p).length).drop 1=p.map V.cs:=by
   rw[List.take_of_length_le (by rw[List.length_map];exact Nat.le_refl _)]
   rfl
  have hP5:(((k::p).length:Int)==0)=false:=by simp;omega
  have hel:=ZI (x:=x) hv (k::p) p k hk (C3 x p) hP1 hP2 hP3 hP4 ok ih
  have hgk:=a1c hv k.text (FU hk)
  have hok:=L4 hv k.text
  unfold C3
  generalize hPP:k::p=P at *
  have hPl:(P.map V.cs).length=P.length:=by simp
  have hPa:=Ug P
  have h01:GR 0 (some (AV.c (C.int IntKind.i64 1)))=some 1:=rfl
  have h00:((0:Int) != 0)=false:=rfl
  by_cases h3:k.kind=3
  ·have hb3:(k.kind==3)=true:=by simpa using h3
   rw[if_pos h3]
   generalize Hj v k.num (C3 x p)=r at *
   rcases r with⟨c,_ | u⟩
   all_goals
    simp only[FQ,FA]at hel ⊢
    refine A6 Tryz.func47 Tryz.ntmps47 ?_
    refine A0 (j5 hPl hP5 hP1 hP2 hb3) ?_
    refine w9 (Aa [] hel) trivial ?_
    refine A0 trivial ?_
    exact Am (A7 []) Tryz.results47
  ·have hb3:(k.kind==3)=false:=by simpa using h3
   rw[if_neg h3]
   generalize Ca v k.text=g at *
   rcases g with⟨c,_ | w⟩
   ·have hc:(c != 0)=true:=by simpa using (show c≠0 from hok)
    simp only[FA]at hgk ⊢
    refine A6 Tryz.func47 Tryz.ntmps47 ?_
    refine A0 (j5 hPl hP5 hP1 hP2 hb3) ?_
    refine w9 (Aa [] hgk) trivial ?_
    refine A0 hc ?_
    exact Am (A7 []) Tryz.results47
   ·have hw:w.right:=hok.2
    have hih:=ih w hw
    have hok2:=ok w hw
    dsimp only
    simp only[FQ]at hgk
    generalize C3 x p w=q at *
    rcases q with⟨c,_ | u⟩
    ·have hc:(c != 0)=true:=by simpa using (show c≠0 from hok2)
     simp only[FA]at hih ⊢
     refine A6 Tryz.func47 Tryz.ntmps47 ?_
     refine A0 (j5 hPl hP5 hP1 hP2 hb3) ?_
     refine w9 (Aa [] hgk) trivial ?_
     refine A0 (j7 h00 hPl hP3 hP4 h01 hPa @Nat.le_refl) ?_
     refine w9 (Aa [] hih) trivial ?_
     refine A0 hc ?_
     exact Am (A7 []) Tryz.results47
    ·have hsk:=a1w hv hok2.2 k.text (FU hk)
     dsimp only
     simp only[FQ]at hih
     generalize Gf v k.text u=z at *
     rcases z with⟨c,_ | y⟩
     all_goals
      simp only[FQ,FA]at hsk ⊢
      refine A6 Tryz.func47 Tryz.ntmps47 ?_
      refine A0 (j5 hPl hP5 hP1 hP2 hb3) ?_
      refine w9 (Aa [] hgk) trivial ?_
      refine A0 (j7 h00 hPl hP3 hP4 h01 hPa @Nat.le_refl) ?_
      refine w9 (Aa [] hih) trivial ?_
      refine A0 (j3 h00 hP1 hP2) ?_
      refine w9 (Aa [] hsk) trivial ?_
      refine A0 trivial ?_
      exact Am (A7 []) Tryz.results47
set_option maxRecDepth 10000
theorem Wc {v x:V}(hv:v.right) (k:V) (hk:k.right) (p:List V) (f:V→Int×Option V)
  (hf:∀w,w.right→K4 (f w)) (hrec:∀w,w.right→AC Tryz.prog 43 [Ce w.enc,.c (.sl ((p.map V.enc).map AD)),Ce x.enc] [] (vrA (f w)) []) :
  AC Tryz.prog 81 [Ce v.enc,.c (.int .i64 k.num),.c (.sl ((p.map V.enc).map AD)),Ce x.enc] [] (vrA (Hj v k.num f)) []:=by
 have hkl:=Cj hv.2.1
 have hnum:=Gx hk
 have hcn:=s8 k.num v.kids.length hnum (by omega)
 have hr0:=Qq v
 have hg0:=Dp v
 unfold Hj
 by_cases h5:v.kind=5∨v.kind=0
 ·rw[if_pos h5]
  obtain⟨m,hm⟩:∃m,C0 k.num v.kids.length=m:=⟨_,rfl⟩
  rw[hm]at hcn ⊢
  have hpO:=QO hv.1 hv.2.1
  by_cases hneg:m<0
  ·rw[if_pos hneg,Jl]
   have hd:decide (m<0)=true:=by simpa using hneg
   rcases h5 with h5 | h5
   ·have hb5:(v.kind != 5)=false:=by simpa using h5
    have he5:(v.kind==5)=true:=by simpa using h5
    refine A6 Tryz.func81 Tryz.ntmps81 ?_
    refine A0 (j4 hr0 hg0 hb5 he5) ?_
    refine w12 (IE [] hpO) trivial ?_
    refine A0 trivial ?_
    refine w7 (A3 [] hcn) trivial ?_
    refine A0 hd ?_
    refine w7 (A3 [] (E9 3)) trivial ?_
    refine A0 trivial ?_
    exact Am (A7 []) Tryz.results81
   ·have hb5:(v.kind != 5)=true:=by simp[h5]
    have hb0:(v.kind != 0)=false:=by simpa using h5
    have he5:(v.kind==5)=false:=by simp[h5]
    rw[(Ey hv h5).2]at hcn
    simp only[List.length_nil]at hcn
    refine A6 Tryz.func81 Tryz.ntmps81 ?_
    refine A0 (j5 hr0 hg0 hb5 hb0 he5) ?_
    refine w7 (A3 [] hcn) trivial ?_
    refine A0 hd ?_
    refine w7 (A3 [] (E9 3)) trivial ?_
    refine A0 trivial ?_
    exact Am (A7 []) Tryz.results81
  ·rw[if_neg hneg]
   have hd:decide (m<0)=false:=by simpa using hneg
   by_cases hbig:m≥200
   ·rw[if_pos hbig,Jl]
    have hd2:decide (m≥200)=true:=by simpa using hbig
    rcases h5 with h5 | h5
    ·have hb5:(v.kind != 5)=false:=by simpa using h5
     have he5:(v.kind==5)=true:=by simpa using h5
     refine A6 Tryz.func81 Tryz.ntmps81 ?_
     refine A0 (j4 hr0 hg0 hb5 he5) ?_
     refine w12 (IE [] hpO) trivial ?_
     refine A0 trivial ?_
     refine w7 (A3 [] hcn) trivial ?_
     refine A0 (j2 hd hd2) ?_
     refine w7 (A3 [] (E9 2)) trivial ?_
     refine A0 trivial ?_
     exact Am (A7 []) Tryz.results81
    ·have hb5:(v.kind != 5)=true:=by simp[h5]
     have hb0:(v.kind != 0)=false:=by simpa using h5
     have he5:(v.kind==5)=false:=by simp[h5]
     rw[(Ey hv h5).2]at hcn
     simp only[List.length_nil]at hcn
     refine A6 Tryz.func81 Tryz.ntmps81 ?_
     refine A0 (j5 hr0 hg0 hb5 hb0 he5) ?_
     refine w7 (A3 [] hcn) trivial ?_
     refine A0 (j2 hd hd2) ?_
     refine w7 (A3 [] (E9 2)) trivial ?_
     refine A0 trivial ?_
     exact Am (A7 []) Tryz.results81
   ·rw[if_neg hbig]
    have hd2:decide (m≥200)=false:=by simpa using hbig
    obtain⟨n,rfl⟩:∃n:Nat,m=n:=⟨m.toNat,by omega⟩
    rw[Int.toNat_natCast]
    obtain⟨L,hL0,hLl,hLe,hLs⟩:=u7 v n
    have hpr:=Lg (kids:=v.kids) (fun z hz=>Cg hv hz) n
    have hpl:=i7 v.kids n
    have hcnt:=fun {r:V} (hr:r.right)=>P6 hv hr (n:=n) (by omega)
    generalize Kq v.kids n=Q at *
    have hnl:n<Q.length:=by omega
    have hwD:Q.getD n P5=Q[n]:=by rw[List.getD_eq_getElem?_getD,List.getElem?_eq_getElem hnl];rfl
    rw[hwD]
    have hwr:=hpr Q[n] (List.getElem_mem hnl)
    have hrc:=hrec Q[n] hwr
    have hok:=hf Q[n] hwr
    have hnr:Aj ((Q.map V.enc).map AD) 1 n=true:=by simp[Aj,hnl,AD]
    have hng:((Q.map V.enc).map AD)[n]? = some [.sl (Q[n].enc.map CellD.cs)]:=by simp[hnl,AD]
    generalize f Q[n]=r at *
    generalize Q[n]=w at *
    generalize hres:a0k r _=res
    have hl3:=Wt
    rcases h5 with h5 | h5
    case' inl =>
     have hb5:(v.kind != 5)=false:=by simpa using h5
     have he5:(v.kind==5)=true:=by simpa using h5
     refine A6 Tryz.func81 Tryz.ntmps81 ?_
     refine A0 (j4 hr0 hg0 hb5 he5) ?_
     refine w12 (IE [] hpO) trivial ?_
     refine A0 trivial ?_
     refine w7 (A3 [] hcn) trivial ?_
     refine A0 (j2 hd hd2) ?_
    case' inr =>
     have hb5:(v.kind != 5)=true:=by simp[h5]
     have hb0:(v.kind != 0)=false:=by simpa using h5
     have he5:(v.kind==5)=false:=by simp[h5]
     have hk0:=(Ey hv h5).2
     rw[hk0]at hcn hL0
     simp only[List.length_nil]at hcn
     refine A6 Tryz.func81 Tryz.ntmps81 ?_
     refine A0 (j5 hr0 hg0 hb5 hb0 he5) ?_
     refine w7 (A3 [] hcn) trivial ?_
     refine A0 (j2 hd hd2) ?_
    all_goals
     refine AG (κ:=Nat) (fun j=>⟨mkS 0 69 [(1,.c (.int .i64 n)),(2,.c (.sl ((p.map V.enc).map AD))),(3,Ce x.enc),(8,.ptr (8,0) 0),(9,.own (95,0))],
       [((8,0),.box [.c (.int .i64 0),.nils]),((95,0),.row false 1 36 (((L j).map V.enc).map AD))]⟩)
      (fun j=>j≤n+1-v.kids.length) (fun j=>n+1-v.kids.length-j) 0 (Nat.zero_le _) ?_ ?_
     ·first
      |exact Aq (As.of [((8,0),(8,0)),((95,0),(31,0))] []) hL0
      |exact Aq (As.of [((8,0),(8,0)),((95,0),(24,0))] []) (j2 hL0 @List.map_nil.{0,0})
     ·intro j hj
      have hLm:(((L j).map V.enc).map AD).length=(L j).length:=by simp
      by_cases hlt:v.kids.length+j≤n
      ·have hd3:decide (((L j).length:Int)≤(n:Int))=true:=by rw[hLl];simp;omega
       have hl1:(L j).length+1≤1000000:=by rw[hLl];omega
       have hn1:((L j).map V.enc).map AD++[[.sl (P5.enc.map CellD.cs)]]=((L (j+1)).map V.enc).map AD:=by rw[hLs,List.map_append,List.map_append];rfl
       generalize P5.enc.map CellD.cs=nc at *
       refine A0 (j2 hLm hd3) ?_
       refine w9 (Aa [] hl3) trivial ?_
       refine A0 (j2 hLm hl1) ?_
       refine⟨j+1,by omega,by omega,?_⟩
       exact Aq (As.of [((8,0),(8,0)),((95,0),(49,0))] []) hn1
      ·have hje:L j=Q:=by rw[show j=n+1-v.kids.length by omega];exact hLe
       have hd3:decide (((L j).length:Int)≤(n:Int))=false:=by rw[hLl];simp;omega
       rw[hje]at hLm hd3 ⊢
       rcases r with⟨c,_ | u⟩
       ·have hc:(c != 0)=true:=by simpa using (show c≠0 from hok)
        have hres:(c,none)=res:=hres
        subst hres
        simp only[CD]at hrc ⊢
        refine A0 (j4 hLm hd3 hnr hng) ?_
        refine w9 (Aa [] hrc) trivial ?_
        refine A0 hc ?_
        exact Am (A7 []) Tryz.results81
       ·obtain⟨h0,hu⟩:=hok
        have hres:Js (DB (Q.set n u))=res:=hres
        have h00:((0:Int) != 0)=false:=rfl
        have hay:=QB (Q.set n u) (by have:=hcnt hu;omega)
        have htd:=ZZ (DB (Q.set n u))
        have hset:((Q.map V.enc).map AD).set n [.sl (u.enc.map CellD.cs)]=((Q.set n u).map V.enc).map AD:=by rw[List.map_set,List.map_set];rfl
        simp only[Dh]at hrc
        generalize Q.set n u=R at *
        rw[hres]at htd
        generalize DB R=ar at *
        rcases res with⟨c2,_ | y⟩
        all_goals
         simp only[Dh,CD]at htd ⊢
         refine A0 (j4 hLm hd3 hnr hng) ?_
         refine w9 (Aa [] hrc) trivial ?_
         refine A0 (j4 h00 hnr hng hset) ?_
         refine w9 (Aa [(95,0)] hay) hset ?_
         refine w9 (Aa [] htd) trivial ?_
         refine A0 trivial ?_
         exact Am (A7 []) Tryz.results81
 ·rw[if_neg h5,Jl]
  have hb5:(v.kind != 5)=true:=by simp;omega
  have hb0:(v.kind != 0)=true:=by simp;omega
  refine A6 Tryz.func81 Tryz.ntmps81 ?_
  refine A0 (j4 hr0 hg0 hb5 hb0) ?_
  refine w7 (A3 [] (E9 6)) trivial ?_
  refine A0 trivial ?_
  exact Am (A7 []) Tryz.results81
theorem ZY {x:V}(hx:x.right):∀(P:List V),P.length≤1000000→(∀k∈P,k.right∧(k.kind=3∨k.kind=4))→∀(v:V),v.right→AC Tryz.prog 43 [Ce v.enc,.c (.sl ((P.map V.enc).map AD)),Ce x.enc] [] (vrA (C3 x P v)) []
 | [],_,_,v,hv=>by
  have hel:=Bv x
  have hxc:=hx.2.1
  have hall:=Na x.enc
  have hb0:0+x.enc.length≤1000000:=by omega
  have hz0:((0:Int)==0)=true:=rfl
  have hz1:(((0:Nat):Int)==0)=true:=rfl
  show AC _ _ _ _ (vrA (okR x)) _
  rw[Ns]
  refine A6 Tryz.func43 Tryz.ntmps43 ?_
  refine A0 (j4 hz0 hz1 hall hb0) ?_
  exact A9 (A8 [] [(15,0)]) Tryz.results43 hel
 |k::p,hl,hp,v,hv=>by
  have hpl:p.length≤1000000:=by simp only[List.length_cons]at hl;omega
  have hpp:∀y∈p,y.right∧(y.kind=3∨y.kind=4):=fun y hy=>hp y (by simp[hy])
  obtain⟨hk,hkk⟩:=hp k (by simp)
  have ih:=ZY hx p hpl hpp
  have ok:=Ie hx p hpp
  have hP1:Aj (((k::p).map V.enc).map AD) 1 0=true:=by simp[Aj,AD]
  have hP2:(((k::p).map V.enc).map AD)[0]? = some [.sl (k.enc.map CellD.cs)]:=rfl
  have hP3:1≤(k::p).length:=by simp
  have hP4:((((k::p).map V.enc).map AD).take (k::p).length).drop 1=(p.map V.enc).map AD:=by
   rw[List.take_of_length_le (by rw[List.length_map,List.length_map];exact Nat.le_refl _)]
   rfl
  have hP5:(((k::p).length:Int)==0)=false:=by simp;omega
  have hel:=Wc (x:=x) hv k hk p (C3 x p) ok ih
  have hgk:=t7 hv k.text
  have hok:=L4 hv k.text
  have hkr:=Qq k
  have hkg:=Dp k
  unfold C3
  generalize hPP:k::p=P at *
  have hPl:((P.map V.enc).map AD).length=P.length:=by simp
  have hPa:=IW (P.map V.enc)
  have h01:GR 0 (some (AV.c (C.int IntKind.i64 1)))=some 1:=rfl
  have h00:((0:Int) != 0)=false:=rfl
  by_cases h3:k.kind=3
  ·have hb3:(k.kind==3)=true:=by simpa using h3
   rw[if_pos h3]
   generalize Hj v k.num (C3 x p)=r at *
   rcases r with⟨c,_ | u⟩
   all_goals
    simp only[Dh,CD]at hel ⊢
    refine A6 Tryz.func43 Tryz.ntmps43 ?_
    refine A0 (j12 hPl hP5 hP1 hP2 hkr hkg hb3 hP3 hP4 h01 hPa @Nat.le_refl) ?_
    refine w9 (Aa [] hel) trivial ?_
    refine A0 trivial ?_
    exact Am (A7 []) Tryz.results43
  ·have hb3:(k.kind==3)=false:=by simpa using h3
   rw[if_neg h3]
   generalize Ca v k.text=g at *
   rcases g with⟨c,_ | w⟩
   ·have hc:(c != 0)=true:=by simpa using (show c≠0 from hok)
    simp only[CD]at hgk ⊢
    refine A6 Tryz.func43 Tryz.ntmps43 ?_
    refine A0 (j7 hPl hP5 hP1 hP2 hkr hkg hb3) ?_
    refine w9 (Aa [] hgk) trivial ?_
    refine A0 hc ?_
    exact Am (A7 []) Tryz.results43
   ·have hw:w.right:=hok.2
    have hih:=ih w hw
    have hok2:=ok w hw
    dsimp only
    simp only[Dh]at hgk
    generalize C3 x p w=q at *
    rcases q with⟨c,_ | u⟩
    ·have hc:(c != 0)=true:=by simpa using (show c≠0 from hok2)
     simp only[CD]at hih ⊢
     refine A6 Tryz.func43 Tryz.ntmps43 ?_
     refine A0 (j7 hPl hP5 hP1 hP2 hkr hkg hb3) ?_
     refine w9 (Aa [] hgk) trivial ?_
     refine A0 (j7 h00 hPl hP3 hP4 h01 hPa @Nat.le_refl) ?_
     refine w9 (Aa [] hih) trivial ?_
     refine A0 hc ?_
     exact Am (A7 []) Tryz.results43
    ·have hsk:=ZJ hv hok2.2 k.text (FU hk)
     dsimp only
     simp only[Dh]at hih
     generalize Gf v k.text u=z at *
     rcases z with⟨c,_ | y⟩
     all_goals
      simp only[Dh,CD]at hsk ⊢
      refine A6 Tryz.func43 Tryz.ntmps43 ?_
      refine A0 (j7 hPl hP5 hP1 hP2 hkr hkg hb3) ?_
      refine w9 (Aa [] hgk) trivial ?_
      refine A0 (j7 h00 hPl hP3 hP4 h01 hPa @Nat.le_refl) ?_
      refine w9 (Aa [] hih) trivial ?_
      refine A0 h00 ?_
      refine w9 (Aa [] hsk) trivial ?_
      refine A0 trivial ?_
      exact Am (A7 []) Tryz.results43
end Go.Proofs.YtllfmaflodbieaaGreatDoor
