/- Texts of this proof: G49 G50 G51 G52 G53 G54. -/
import Derived.Test.YtllfmaflodbieaaGreatDoorKG25uG8
import Derived.Test.YtllfmaflodbieaaGreatDoorKM3uM46
set_option linter.all false
set_option maxHeartbeats 8000000
namespace Go.Proofs.YtllfmaflodbieaaGreatDoor
open Go.RowKit
set_option maxRecDepth 10000
theorem d7 (l:List ByteArray) (hl:l.length≤1000000):AC Tryz.prog 156 [.c (.sl (l.map Ab))] [] (.own (0,0)) [((0,0),.row false 1 9 (l.map Ab))]:=by
 have ha:=IZ l
 have hl0:0+l.length≤1000000:=by omega
 refine A6 Tryz.func156 Tryz.ntmps156 ?_
 refine ER trivial ?_
 refine Br ?_
 refine ER trivial ?_
 refine Jg ?_
 (repeat ((with_reducible apply Te);(iterate 2 (focus (first | (simp only[go_sem,Nat.reduceEqDiff,Nat.reduceAdd,Nat.reduceSub,Nat.reduceLeDiff,Nat.reduceMul,Nat.reduceBEq,Nat.reduceLT,Int.reduceToNat,reduceCtorEq];first | done | exact rfl | (and_intros<;>rfl)) | exact rfl | decide)))))
 (apply a0y;(focus (first | (simp only[go_sem,Nat.reduceEqDiff,Nat.reduceAdd,Nat.reduceSub,Nat.reduceLeDiff,Nat.reduceMul,Nat.reduceBEq,Nat.reduceLT,Int.reduceToNat,reduceCtorEq];first | done | exact rfl | (and_intros<;>rfl)) | exact rfl | decide));(focus (first | (simp only[go_sem,Nat.reduceEqDiff,Nat.reduceAdd,Nat.reduceSub,Nat.reduceLeDiff,Nat.reduceMul,Nat.reduceBEq,Nat.reduceLT,Int.reduceToNat,reduceCtorEq];first | done | exact rfl | (and_intros<;>rfl)) | exact rfl | decide));(focus (first | (simp only[go_sem,Nat.reduceEqDiff,Nat.reduceAdd,Nat.reduceSub,Nat.reduceLeDiff,Nat.reduceMul,Nat.reduceBEq,Nat.reduceLT,Int.reduceToNat,reduceCtorEq];first | done | exact rfl | (and_intros<;>rfl)) | exact rfl | decide));(focus (first | (simp only[go_sem,Nat.reduceEqDiff,Nat.reduceAdd,Nat.reduceSub,Nat.reduceLeDiff,Nat.reduceMul,Nat.reduceBEq,Nat.reduceLT,Int.reduceToNat,reduceCtorEq];first | done | exact rfl | (and_intros<;>rfl)) | exact rfl | decide));(focus (first | (simp only[go_sem,Nat.reduceEqDiff,Nat.reduceAdd,Nat.reduceSub,Nat.reduceLeDiff,Nat.reduceMul,Nat.reduceBEq,Nat.reduceLT,Int.reduceToNat,reduceCtorEq];first | done | exact rfl | (and_intros<;>rfl)) | exact rfl | decide)))
 ·intro hnil
  have hnil2:l=[]:=List.map_eq_nil_iff.1 hnil
  subst hnil2
  refine SP ?_
  dsimp only
  refine A0 trivial ?_
  exact A9 (A8 [] []) Tryz.results156 @List.map_nil.{0,0}
 ·refine SP ?_
  dsimp only
  refine A0 (j3 hl ha hl0) ?_
  exact A9 (A8 [((0,0),(7,0))] []) Tryz.results156 hl
theorem NC (l:List V) (hl:l.length≤1000000):AC Tryz.prog 151 [.c (.sl (l.map V.cs))] [] (.own (0,0)) [((0,0),.row false 5 76 (l.map V.cs))]:=by
 have ha:=Ug l
 have hl0:0+l.length≤1000000:=by omega
 refine A6 Tryz.func151 Tryz.ntmps151 ?_
 refine ER trivial ?_
 refine Br ?_
 refine ER trivial ?_
 refine Jg ?_
 (repeat ((with_reducible apply Te);(iterate 2 (focus (first | (simp only[go_sem,Nat.reduceEqDiff,Nat.reduceAdd,Nat.reduceSub,Nat.reduceLeDiff,Nat.reduceMul,Nat.reduceBEq,Nat.reduceLT,Int.reduceToNat,reduceCtorEq];first | done | exact rfl | (and_intros<;>rfl)) | exact rfl | decide)))))
 (apply a0y;(focus (first | (simp only[go_sem,Nat.reduceEqDiff,Nat.reduceAdd,Nat.reduceSub,Nat.reduceLeDiff,Nat.reduceMul,Nat.reduceBEq,Nat.reduceLT,Int.reduceToNat,reduceCtorEq];first | done | exact rfl | (and_intros<;>rfl)) | exact rfl | decide));(focus (first | (simp only[go_sem,Nat.reduceEqDiff,Nat.reduceAdd,Nat.reduceSub,Nat.reduceLeDiff,Nat.reduceMul,Nat.reduceBEq,Nat.reduceLT,Int.reduceToNat,reduceCtorEq];first | done | exact rfl | (and_intros<;>rfl)) | exact rfl | decide));(focus (first | (simp only[go_sem,Nat.reduceEqDiff,Nat.reduceAdd,Nat.reduceSub,Nat.reduceLeDiff,Nat.reduceMul,Nat.reduceBEq,Nat.reduceLT,Int.reduceToNat,reduceCtorEq];first | done | exact rfl | (and_intros<;>rfl)) | exact rfl | decide));(focus (first | (simp only[go_sem,Nat.reduceEqDiff,Nat.reduceAdd,Nat.reduceSub,Nat.reduceLeDiff,Nat.reduceMul,Nat.reduceBEq,Nat.reduceLT,Int.reduceToNat,reduceCtorEq];first | done | exact rfl | (and_intros<;>rfl)) | exact rfl | decide));(focus (first | (simp only[go_sem,Nat.reduceEqDiff,Nat.reduceAdd,Nat.reduceSub,Nat.reduceLeDiff,Nat.reduceMul,Nat.reduceBEq,Nat.reduceLT,Int.reduceToNat,reduceCtorEq];first | done | exact rfl | (and_intros<;>rfl)) | exact rfl | decide)))
 ·intro hnil
  have hnil2:l=[]:=List.map_eq_nil_iff.1 hnil
  subst hnil2
  refine SP ?_
  dsimp only
  refine A0 trivial ?_
  exact A9 (A8 [] []) Tryz.results151 @List.map_nil.{0,0}
 ·refine SP ?_
  dsimp only
  refine A0 (j3 hl ha hl0) ?_
  exact A9 (A8 [((0,0),(7,0))] []) Tryz.results151 hl
set_option maxRecDepth 10000
theorem Nq {t:V}(h:t.fit) (hc:t.count≤500000):AC Tryz.prog 90 [t.av] [] (.c (.int .i64 (dec t.enc).1)) []:=by
 have h1:=OL t.count t (Nat.le_refl _) (by omega)
 have h2:=UX t.count t (Nat.le_refl _) (by omega) (q6 t h)
 by_cases hb:t.count≤200
 ·have hd:decide ((t.count:Int)>200)=false:=by simp;omega
  rcases Fg t.enc with⟨u,hu⟩ | ⟨c,hc0,hu⟩
  ·have h3:=Pl t.enc (ZT h) (t:=u) (by rw[hu])
   rw[hu]
   refine A6 Tryz.func90 Tryz.ntmps90 ?_
   refine A0 trivial ?_
   refine w7 (A3 [] h1) trivial ?_
   refine A0 hd ?_
   refine w12 (IE [] h2) trivial ?_
   refine w9 (Aa [(10,0)] h3) trivial ?_
   refine A0 trivial ?_
   exact Am (A7 []) Tryz.results90
  ·have h3:=Uu t.enc (ZT h) (by rw[hu])
   refine A6 Tryz.func90 Tryz.ntmps90 ?_
   refine A0 trivial ?_
   refine w7 (A3 [] h1) trivial ?_
   refine A0 hd ?_
   refine w12 (IE [] h2) trivial ?_
   refine w9 (Aa [(10,0)] h3) V7 ?_
   refine A0 V7 ?_
   exact Am (A7 []) Tryz.results90
 ·have hd:decide ((t.count:Int)>200)=true:=by simp;omega
  have hr:(dec t.enc).1=2:=by
   unfold dec
   rw[if_pos (by rw[Bv];omega)]
  rw[hr]
  refine A6 Tryz.func90 Tryz.ntmps90 ?_
  refine A0 trivial ?_
  refine w7 (A3 [] h1) trivial ?_
  refine A0 hd ?_
  exact Am (A7 []) Tryz.results90
theorem ZV {t:V}(h:t.fit) (hc:t.count≤500000):AC Tryz.prog 93 [t.av] [] (Qr (Js t)) []:=by
 have h1:=Nq h hc
 unfold Js
 by_cases h0:(dec t.enc).1=0
 ·rw[if_pos h0]
  have hb:((0:Int) != 0)=false:=rfl
  rw[h0]at h1
  show AC _ _ _ _ (Zo 0 t) _
  refine A6 Tryz.func93 Tryz.ntmps93 ?_
  refine A0 trivial ?_
  refine w7 (A3 [] h1) trivial ?_
  refine A0 hb ?_
  exact Am (A7 []) Tryz.results93
 ·rw[if_neg h0]
  have hb:((dec t.enc).1 != 0)=true:=by simpa using h0
  show AC _ _ _ _ (Zo (dec t.enc).1 P5) _
  rw[PU]
  refine A6 Tryz.func93 Tryz.ntmps93 ?_
  refine A0 trivial ?_
  refine w7 (A3 [] h1) trivial ?_
  refine A0 hb ?_
  exact Am (A7 []) Tryz.results93
set_option maxRecDepth 10000
theorem x8 {t:V}(h:t.right):t.keys.length≤200∧t.kids.length≤200:=by
 have h1:=Cj h.2.1
 refine⟨?_,h1⟩
 by_cases h6:t.kind=6
 ·have:=(Gy h h6).2.2
  omega
 ·have:=(EV h.1).2.2.2.2.1 h6
  rw[this]
  exact Nat.zero_le _
set_option maxRecDepth 10000
theorem Np {ks:List ByteArray}{i:Nat}(h:i<ks.length):AX (ks.take (i+1))=Bw ks[i] (AX (ks.take i)):=by
 rw[List.take_succ_eq_append_getElem h,Iz]
theorem NG {ks:List ByteArray}{vs:List V}(hl:ks.length=vs.length) {i:Nat}(h:i<ks.length) {x:ByteArray}(hx:x=ks[i]∨x∈ks.take i):AH (ks.take (i+1)) (vs.take (i+1)) x=if x=ks[i] then vs[i]'(by omega) else AH (ks.take i) (vs.take i) x:=by
 rw[List.take_succ_eq_append_getElem h,List.take_succ_eq_append_getElem (show i<vs.length by omega)]
 exact Du (by rw[List.length_take,List.length_take,hl]) hx
theorem PG (ks:List ByteArray) (vs:List V) (hl:ks.length=vs.length) (hc:An vs≤400000):AC Tryz.prog 143 [.c (.sl (ks.map Ab)),.c (.sl ((vs.map V.enc).map AD))] [] (.own (0,0)) [((0,0),.row false 5 115 ((Gi ks vs).enc.map CellD.cs))]:=by
 have hcl:=BR vs
 have hlm:(ks.map Ab).length=ks.length:=by simp
 obtain⟨KS,hKS⟩:∃KS:Nat→List ByteArray,∀i,KS i=AX (ks.take i):=⟨_,fun _=>rfl⟩
 obtain⟨G,hG⟩:∃G:Nat→ByteArray→V,∀i,G i=AH (ks.take i) (vs.take i):=⟨_,fun _=>rfl⟩
 have hK0:KS 0=[]:=by rw[hKS];rfl
 have hup:∀i,Up (KS i):=fun i=>by rw[hKS];exact Ex _
 have hlen:∀i,(KS i).length≤ks.length:=fun i=>by
  rw[hKS]
  have:=JA (ks.take i)
  rw[List.length_take]at this
  omega
 refine A6 Tryz.func143 Tryz.ntmps143 ?_
 refine A0 trivial ?_
 refine AG (κ:=Nat) (fun k=>⟨mkS 0 116 [(0,.c (.sl (ks.map Ab))),(1,.c (.sl ((vs.map V.enc).map AD))),(5,.c (.sl ((KS k).map Ab))),(6,.own (96,0)),(7,.c (.int .i64 k))],
   [((96,0),.row false 1 36 ((((KS k).map (G k)).map V.enc).map AD))]⟩)
  (fun k=>k≤ks.length) (fun k=>ks.length-k) 0 (Nat.zero_le _) ?_ ?_
 ·exact Aq (As.of [((96,0),(13,0))] [(12,0)]) (j2 hK0 @List.map_nil.{0,0})
 ·intro i hi
  by_cases hlt:i<ks.length
  ·have hdk:decide ((i:Int)<(ks.length:Int))=true:=by simpa using hlt
   have hw:=Ae (k:=i) (by omega)
   have hlt2:i<vs.length:=by omega
   have hr:Aj (ks.map Ab) 1 i=true:=by simp[Aj,hlt,Ab]
   have hg:(ks.map Ab)[i]? = some [.str ks[i]]:=by simp[hlt,Ab]
   have hr2:Aj ((vs.map V.enc).map AD) 1 i=true:=by simp[Aj,hlt2,AD]
   have hg2:((vs.map V.enc).map AD)[i]? = some [.sl (vs[i].enc.map CellD.cs)]:=by simp[hlt2,AD]
   have hstep:KS (i+1)=Bw ks[i] (KS i):=by rw[hKS,hKS];exact Np hlt
   have hlast:∀x,(x=ks[i]∨x∈KS i)→G (i+1) x=if x=ks[i] then vs[i] else G i x:=fun x hx=>by
    rw[hG,hG]
    exact NG hl hlt (hx.imp id fun h=>by rw[hKS]at h;exact C7.1 h)
   have hup':=hup i
   have hlen':=hlen i
   rw[HT hup']at hstep
   generalize KS i=N at *
   generalize G i=g at *
   generalize vs[i]=v at *
   generalize ks[i]=s at *
   have hNm:(N.map Ab).length=N.length:=by simp
   have hple:=Qj N s
   obtain⟨p,hp⟩:∃p,p=Dw N s:=⟨_,rfl⟩
   have hlow:∀t (ht:t<N.length),t<p→BS N[t] s=true:=fun t ht h=>by rw[hp]at h;exact TF h
   have hatp:∀(h:p<N.length),BS N[p] s=false:=fun h=>by
    subst hp
    exact Wl h
   have hfnd:Cn N s=true↔N[p]? = some s:=by rw[hp];exact E1
   rw[←hp]at hple hstep
   cases hff:Cn N s with
   |true =>
    rw[hff,if_pos rfl]at hstep
    have hfk:N[p]? = some s:=hfnd.1 hff
    refine A0 (j2 hlm hdk) ?_
    refine AG (κ:=Nat) (fun k=>⟨mkS 0 116 [(0,.c (.sl (ks.map Ab))),(1,.c (.sl ((vs.map V.enc).map AD))),(5,.c (.sl (N.map Ab))),(6,.own (96,0)),(7,.c (.int .i64 i)),(8,.c (.int .i64 k))],
      [((96,0),.row false 1 36 (((N.map g).map V.enc).map AD))]⟩)
     (fun k=>k≤p) (fun k=>p-k) 0 (Nat.zero_le _) ?_ ?_
    ·exact Aq (As.of [((96,0),(96,0))] []) hdk
    ·intro k hk
     by_cases hkp:k<p
     ·have hlk:k<N.length:=by omega
      have hdk2:decide ((k:Int)<(N.length:Int))=true:=by simpa using hlk
      have hw2:=Ae (k:=k) (by omega)
      have hr3:Aj (N.map Ab) 1 k=true:=by simp[Aj,hlk,Ab]
      have hg3:(N.map Ab)[k]? = some [.str N[k]]:=by simp[hlk,Ab]
      have hb:=hlow k hlk hkp
      unfold BS at hb
      generalize N[k]=x at *
      refine A0 (j8 hNm hdk2 hr hg hr3 hg3 hb hw2) ?_
      refine⟨k+1,by omega,by omega,?_⟩
      exact Aq (As.of [((96,0),(96,0))] []) hdk
     ·have hkk:k=p:=by omega
      clear hk hkp
      subst hkk
      obtain⟨hlk,hek⟩:=List.getElem?_eq_some_iff.1 hfk
      have he:(N[k].toList==s.toList)=true:=by rw[hek];simp
      have hdk2:decide ((k:Int)<(N.length:Int))=true:=by simpa using hlk
      have hr3:Aj (N.map Ab) 1 k=true:=by simp[Aj,hlk,Ab]
      have hg3:(N.map Ab)[k]? = some [.str N[k]]:=by simp[hlk,Ab]
      have hb:=hatp hlk
      unfold BS at hb
      have hr4:Aj (((N.map g).map V.enc).map AD) 1 k=true:=by simp[Aj,hlk,AD]
      have hg4:(((N.map g).map V.enc).map AD)[k]? = some [.sl ((g N[k]).enc.map CellD.cs)]:=by simp[hlk,AD]
      have hset:=Yk hup' hfk g (G (i+1)) v (by rw[hlast s (.inl rfl),if_pos rfl]) (fun x hx hne=>by rw[hlast x (.inr hx),if_neg hne])
      have hs1:N.map Ab=(KS (i+1)).map Ab:=by rw[hstep]
      have hset2:(((N.map g).map V.enc).map AD).set k [C.sl (v.enc.map CellD.cs)]=(((KS (i+1)).map (G (i+1))).map V.enc).map AD:=by
       rw[hstep,hset,List.map_set,List.map_set]
       rfl
      generalize N[k]=x at *
      refine A0 (j2 (j12 hlm hNm hdk2 hr hg hr2 hg2 hr3 hg3 hb he hr4) (j3 hg4 hset2 hw)) ?_
      refine⟨i+1,by omega,by omega,?_⟩
      exact Aq (As.of [((96,0),(96,0))] []) (j2 hs1 hset2)
   |false =>
    rw[hff,if_neg Bool.false_ne_true]at hstep
    refine A0 (j2 hlm hdk) ?_
    refine AG (κ:=Nat) (fun k=>⟨mkS 0 116 [(0,.c (.sl (ks.map Ab))),(1,.c (.sl ((vs.map V.enc).map AD))),(5,.c (.sl (N.map Ab))),(6,.c (.sl (((N.map g).map V.enc).map AD))),(7,.c (.int .i64 i)),(8,.c (.int .i64 k))],
      []⟩)
     (fun k=>k≤p) (fun k=>p-k) 0 (Nat.zero_le _) ?_ ?_
    ·exact Aq (As.of [] [(96,0)]) hdk
    ·intro k hk
     by_cases hkp:k<p
     ·have hlk:k<N.length:=by omega
      have hdk2:decide ((k:Int)<(N.length:Int))=true:=by simpa using hlk
      have hw2:=Ae (k:=k) (by omega)
      have hr3:Aj (N.map Ab) 1 k=true:=by simp[Aj,hlk,Ab]
      have hg3:(N.map Ab)[k]? = some [.str N[k]]:=by simp[hlk,Ab]
      have hb:=hlow k hlk hkp
      unfold BS at hb
      generalize N[k]=x at *
      refine A0 (j8 hNm hdk2 hr hg hr3 hg3 hb hw2) ?_
      refine⟨k+1,by omega,by omega,?_⟩
      exact Aq (As.of [] []) hdk
     ·have hkk:k=p:=by omega
      clear hk hkp
      subst hkk
      have hlk':k≤N.length:=by omega
      have hnf:¬N[k]? = some s:=fun e=>by
       rw[hfnd.2 e]at hff
       cases hff
      have hno:s ∉ N:=fun hm=>by
       have h2:=FB s N s
       have:(Bw s N).length=N.length+1:=by rw[HT hup',hff,if_neg Bool.false_ne_true];simp;omega
       obtain⟨t,ht,et⟩:=List.getElem_of_mem hm
       exact absurd et (by
        intro e
        by_cases htk:t<k
        ·have:=hlow t ht htk
         rw[e,C8]at this
         cases this
        ·by_cases hke:k=t
         ·subst hke
          exact hnf (List.getElem?_eq_some_iff.2 ⟨ht,e⟩)
         ·have h3:=List.pairwise_iff_getElem.1 (show List.Pairwise _ N from hup') k t (by omega) ht (by omega)
          rw[e]at h3
          rw[hatp (by omega)]at h3
          cases h3)
      have hgN:∀x∈N,G (i+1) x=g x:=fun x hx=>by rw[hlast x (.inr hx),if_neg (fun e=>hno (by rw[←e];exact hx))]
      have hgs:G (i+1) s=v:=by rw[hlast s (.inl rfl),if_pos rfl]
      obtain⟨A1,hA1⟩:∃A1,A1=N.take k:=⟨_,rfl⟩
      obtain⟨A2,hA2⟩:∃A2,A2=N.drop k:=⟨_,rfl⟩
      have hN1:∀x∈A1,x∈N:=fun x hx=>List.mem_of_mem_take (hA1▸hx)
      have hN2:∀x∈A2,x∈N:=fun x hx=>List.mem_of_mem_drop (hA2▸hx)
      have ht1:(N.map Ab).take k=A1.map Ab:=by rw[hA1,List.map_take]
      have ht2:(N.map Ab).drop k=A2.map Ab:=by rw[hA2,List.map_drop]
      obtain⟨VL,hVL⟩:∃VL,VL=A1.map g:=⟨_,rfl⟩
      obtain⟨VR,hVR⟩:∃VR,VR=A2.map g:=⟨_,rfl⟩
      obtain⟨M1,hM1⟩:∃M1,M1=A1++[s]:=⟨_,rfl⟩
      obtain⟨VM,hVM⟩:∃VM,VM=VL++[v]:=⟨_,rfl⟩
      have hu1:(((N.map g).map V.enc).map AD).take k=(VL.map V.enc).map AD:=by rw[hVL,hA1,List.map_take,List.map_take,List.map_take]
      have hu2:(((N.map g).map V.enc).map AD).drop k=(VR.map V.enc).map AD:=by rw[hVR,hA2,List.map_drop,List.map_drop,List.map_drop]
      have hm1:A1.map Ab++[[C.str s]]=M1.map Ab:=by rw[hM1,List.map_append];rfl
      have hm2:(VL.map V.enc).map AD++[[C.sl (v.enc.map CellD.cs)]]=(VM.map V.enc).map AD:=by rw[hVM,List.map_append,List.map_append];rfl
      have hVLl:VL.length=A1.length:=by rw[hVL,List.length_map]
      have hVRl:VR.length=A2.length:=by rw[hVR,List.length_map]
      have hM1l:M1.length=A1.length+1:=by rw[hM1,List.length_append,List.length_singleton]
      have hVMl:VM.length=A1.length+1:=by rw[hVM,List.length_append,List.length_singleton,hVLl]
      have hfl:(N.map Ab).take N.length=N.map Ab:=by rw[←hNm,List.take_length]
      have hfl2:(((N.map g).map V.enc).map AD).take N.length=((N.map g).map V.enc).map AD:=List.take_of_length_le (by simp)
      have hA1l:A1.length≤N.length:=by rw[hA1,List.length_take];omega
      have hA2l:A2.length≤N.length:=by rw[hA2,List.length_drop];omega
      have ha1:=IZ N
      have ha2:=IW ((N.map g).map V.enc)
      have ha3:=IZ A1
      have ha4:=IZ A2
      have ha5:=IW (VL.map V.enc)
      have ha6:=IW (VR.map V.enc)
      have hb1:0+A1.length≤1000000:=by omega
      have hb2:A1.length+1≤1000000:=by omega
      have hb3:M1.length+A2.length≤1000000:=by omega
      have hb4:0+VL.length≤1000000:=by omega
      have hb5:VL.length+1≤1000000:=by omega
      have hb6:VM.length+VR.length≤1000000:=by omega
      have hr1':M1.map Ab++A2.map Ab=(KS (i+1)).map Ab:=by rw[hstep,hM1,←hA1,←hA2,List.map_append (l₂:=A2)]
      have hr2':(VM.map V.enc).map AD++(VR.map V.enc).map AD=(((KS (i+1)).map (G (i+1))).map V.enc).map AD:=by
       have e1:VL=A1.map (G (i+1)):=by rw[hVL];exact List.map_congr_left fun x hx=>(hgN x (hN1 x hx)).symm
       have e2:VR=A2.map (G (i+1)):=by rw[hVR];exact List.map_congr_left fun x hx=>(hgN x (hN2 x hx)).symm
       rw[hstep,hVM,←hA1,←hA2,e1,e2]
       simp only[List.map_append,List.map_cons,List.map_nil,hgs]
      by_cases hlk:k<N.length
      ·have hdk2:decide ((k:Int)<(N.length:Int))=true:=by simpa using hlk
       have hr3:Aj (N.map Ab) 1 k=true:=by simp[Aj,hlk,Ab]
       have hg3:(N.map Ab)[k]? = some [.str N[k]]:=by simp[hlk,Ab]
       have hb:=hatp hlk
       unfold BS at hb
       have he:(N[k].toList==s.toList)=false:=by
        cases he:N[k].toList==s.toList with
        |false=>rfl
        |true=>exact absurd (List.getElem?_eq_some_iff.2 ⟨hlk,AA (by simpa using he)⟩) hnf
       generalize N[k]=x at *
       refine A0 (j2 (j12 hlm hNm hdk2 hr hg hr2 hg2 hr3 hg3 hb he ht1) (j2 (j12 ht2 hfl hm1 ha1 ha3 ha4 hb1 hb2 hb3 hlk' @Nat.zero_le @List.drop_zero.{0}) (j12 @Nat.le_refl hu1 hu2 hfl2 hm2 ha2 ha5 ha6 hb4 hb5 hb6 hw))) ?_
       refine⟨i+1,by omega,by omega,?_⟩
       exact Aq (As.of [((96,0),(88,0))] [(73,0)]) (j2 hr1' hr2')
      ·have hdk2:decide ((k:Int)<(N.length:Int))=false:=by simpa using hlk
       refine A0 (j2 (j12 hlm hNm hdk2 hr hg hr2 hg2 ht1 ht2 hfl hm1 ha1) (j2 (j12 ha3 ha4 hb1 hb2 hb3 hlk' @Nat.zero_le @List.drop_zero.{0} @Nat.le_refl hu1 hu2 hfl2) (j8 hm2 ha2 ha5 ha6 hb4 hb5 hb6 hw))) ?_
       refine⟨i+1,by omega,by omega,?_⟩
       exact Aq (As.of [((96,0),(88,0))] [(73,0)]) (j2 hr1' hr2')
  ·have hdk:decide ((i:Int)<(ks.length:Int))=false:=by simpa using hlt
   have hie:i=ks.length:=by omega
   subst hie
   have eK:KS ks.length=AX ks:=by rw[hKS,List.take_length]
   have eG:G ks.length=AH ks vs:=by
    rw[hG,List.take_length]
    congr 1
    rw[hl,List.take_length]
   rw[eK,eG]
   obtain⟨T,hT⟩:∃T,T=Gi ks vs:=⟨_,rfl⟩
   have hTk:AX ks=T.keys:=by rw[hT];rfl
   have hTv:(AX ks).map (AH ks vs)=T.kids:=by rw[hT];rfl
   have hT6:T.kind=6:=by rw[hT];rfl
   have hTn:T.num=0:=by rw[hT];rfl
   have hTt:T.text=ByteArray.empty:=by rw[hT];rfl
   have hTl:T.keys.length=T.kids.length:=by rw[←hTk,←hTv,List.length_map]
   have hTc:T.count≤400001:=by
    have h1:=Hx ks.length ks vs rfl hl.symm
    rw[hTv]at h1
    have h2:=Bp T
    omega
   have hkat:∀j (hj:j<T.keys.length),T.keyAt j=T.keys[j]:=fun j hj=>by
    unfold V.keyAt
    rw[if_pos hT6,List.drop_eq_getElem_cons hj]
    rfl
   rw[hTv,hTk]
   rw[←hT]
   have hTm:(T.keys.map Ab).length=T.kids.length:=by simp[hTl]
   have hcl2:=BR T.kids
   have hck2:=Bp T
   obtain⟨R,hR⟩:∃R:Nat→List CellD,∀k,R k=T.enc.take (kp T.kids k):=⟨_,fun _=>rfl⟩
   have h0:(R 0).map CellD.cs=[[.int .i64 6,.int .i64 0,.str ByteArray.empty,.str ByteArray.empty,.int .i64 T.kids.length]]:=by
    rw[hR,FS,hT6,hTn,hTt];rfl
   refine A0 (j4 hlm hdk hTm hTl) ?_
   refine AG (κ:=Nat) (fun k=>⟨mkS 0 116 [(5,.c (.sl (T.keys.map Ab))),(6,.own (96,0)),(9,.own (97,0)),(10,.c (.int .i64 k))],
     [((96,0),.row false 1 36 ((T.kids.map V.enc).map AD)),((97,0),.row false 5 115 ((R k).map CellD.cs))]⟩)
    (fun k=>k≤T.kids.length) (fun k=>T.kids.length-k) 0 (Nat.zero_le _) ?_ ?_
   ·exact Aq (As.of [((96,0),(96,0)),((97,0),(92,0))] []) h0
   ·intro k hk
    by_cases hlt:k<T.kids.length
    ·have hd:decide ((k:Int)<(T.kids.length:Int))=true:=by simpa using hlt
     have hw1:=Ae (k:=k) (by omega)
     have hlk:k<T.keys.length:=by omega
     have hr1:Aj ((T.kids.map V.enc).map AD) 1 k=true:=by simp[Aj,hlt,AD]
     have hg1:((T.kids.map V.enc).map AD)[k]? = some [.sl (T.kids[k].enc.map CellD.cs)]:=by simp[hlt,AD]
     have hr3:Aj (T.keys.map Ab) 1 k=true:=by simp[Aj,hlk,Ab]
     have hg3:(T.keys.map Ab)[k]? = some [.str T.keys[k]]:=by simp[hlk,Ab]
     have hts:=Ff T (i:=k) hlt
     rw[hkat k hlk,←hR,←hR]at hts
     have htl:=FP T k
     have hkl:=GW T k
     have hm:=BC (List.getElem_mem hlt)
     have hel:=Bv T.kids[k]
     have hcel:=Bu T.kids[k] T.keys[k]
     have hall:=Na T.kids[k].enc
     have hb0:0+T.kids[k].enc.length≤1000000:=by omega
     have h1:(R k).length+(T.kids[k].cells T.keys[k]).length≤1000000:=by rw[hR,htl,hcel];omega
     have hru:Aj (T.kids[k].enc.map CellD.cs) 5 0=true:=by unfold Aj;rw[show (0:Int).toNat=0 from rfl,Dp];rfl
     have hgu:=Dp T.kids[k]
     have hset:=Nl T.kids[k] T.keys[k]
     simp only[BD,List.take,List.drop,List.cons_append,List.nil_append,List.length_cons,List.length_nil,Nat.reduceAdd]at hset
     have hn:(R k).map CellD.cs++(T.kids[k].cells T.keys[k]).map CellD.cs=(R (k+1)).map CellD.cs:=by rw[hts,List.map_append]
     generalize T.kids[k]=u at *
     generalize T.keys[k]=s at *
     refine A0 (j2 (j12 hd hTm hTl hr1 hg1 hr3 hg3 hb0 hall hru hgu hset) (j2 h1 hw1)) ?_
     refine⟨k+1,by omega,by omega,?_⟩
     exact Aq (As.of [((96,0),(96,0)),((97,0),(114,0))] []) hn
    ·have hd:decide ((k:Int)<(T.kids.length:Int))=false:=by simpa using hlt
     have hke:k=T.kids.length:=by omega
     have hall:R k=T.enc:=by rw[hR,hke];exact FT T
     refine A0 (j3 hd hTm hTl) ?_
     exact A9 (A8 [((0,0),(97,0))] []) Tryz.results143 hall
end Go.Proofs.YtllfmaflodbieaaGreatDoor
