/- Texts of this proof: G49 G50 G51 G52 G53 G54. -/
import Derived.Test.YtcejfdfmgmcinaaGreatKG8
set_option linter.all false
set_option maxHeartbeats 8000000
namespace Go.Proofs.YtcejfdfmgmcinaaGreat
open Go.RowKit
set_option maxRecDepth 10000
theorem QB (l:List ByteArray) (hl:l.length≤1000000):AC Tryz.prog 204 [.c (.sl (l.map Ae))] [] (.own (0,0)) [((0,0),.row false 1 9 (l.map Ae))]:=by
 have ha:=Fm l
 have hl0:0+l.length≤1000000:=by omega
 refine AA Tryz.func204 Tryz.ntmps204 ?_
 refine FF q9 ?_
 refine CV ?_
 refine FF q9 ?_
 refine FR ?_
 (repeat ((with_reducible apply O7);(iterate 2 (focus (first | (simp only[go_sem,Nat.reduceEqDiff,Nat.reduceAdd,Nat.reduceSub,Nat.reduceLeDiff,Nat.reduceMul,Nat.reduceBEq,Nat.reduceLT,Int.reduceToNat,reduceCtorEq];first | done | exact rfl | (and_intros<;>rfl)) | exact rfl | decide)))))
 (apply Rs;(focus (first | (simp only[go_sem,Nat.reduceEqDiff,Nat.reduceAdd,Nat.reduceSub,Nat.reduceLeDiff,Nat.reduceMul,Nat.reduceBEq,Nat.reduceLT,Int.reduceToNat,reduceCtorEq];first | done | exact rfl | (and_intros<;>rfl)) | exact rfl | decide));(focus (first | (simp only[go_sem,Nat.reduceEqDiff,Nat.reduceAdd,Nat.reduceSub,Nat.reduceLeDiff,Nat.reduceMul,Nat.reduceBEq,Nat.reduceLT,Int.reduceToNat,reduceCtorEq];first | done | exact rfl | (and_intros<;>rfl)) | exact rfl | decide));(focus (first | (simp only[go_sem,Nat.reduceEqDiff,Nat.reduceAdd,Nat.reduceSub,Nat.reduceLeDiff,Nat.reduceMul,Nat.reduceBEq,Nat.reduceLT,Int.reduceToNat,reduceCtorEq];first | done | exact rfl | (and_intros<;>rfl)) | exact rfl | decide));(focus (first | (simp only[go_sem,Nat.reduceEqDiff,Nat.reduceAdd,Nat.reduceSub,Nat.reduceLeDiff,Nat.reduceMul,Nat.reduceBEq,Nat.reduceLT,Int.reduceToNat,reduceCtorEq];first | done | exact rfl | (and_intros<;>rfl)) | exact rfl | decide));(focus (first | (simp only[go_sem,Nat.reduceEqDiff,Nat.reduceAdd,Nat.reduceSub,Nat.reduceLeDiff,Nat.reduceMul,Nat.reduceBEq,Nat.reduceLT,Int.reduceToNat,reduceCtorEq];first | done | exact rfl | (and_intros<;>rfl)) | exact rfl | decide)))
 ·intro hnil
  have hnil2:l=[]:=List.map_eq_nil_iff.1 hnil
  subst hnil2
  refine JO ?_
  dsimp only
  refine Ab q9 ?_
  exact Aa (A9 [] []) Tryz.results204 @List.map_nil.{0,0}
 ·refine JO ?_
  dsimp only
  refine Ab (j3 hl ha hl0) ?_
  exact Aa (A9 [((0,0),(7,0))] []) Tryz.results204 hl
theorem HI (l:List V) (hl:l.length≤1000000):AC Tryz.prog 205 [.c (.sl (l.map V.cs))] [] (.own (0,0)) [((0,0),.row false 5 127 (l.map V.cs))]:=by
 have ha:=J6 l
 have hl0:0+l.length≤1000000:=by omega
 refine AA Tryz.func205 Tryz.ntmps205 ?_
 refine FF q9 ?_
 refine CV ?_
 refine FF q9 ?_
 refine FR ?_
 (repeat ((with_reducible apply O7);(iterate 2 (focus (first | (simp only[go_sem,Nat.reduceEqDiff,Nat.reduceAdd,Nat.reduceSub,Nat.reduceLeDiff,Nat.reduceMul,Nat.reduceBEq,Nat.reduceLT,Int.reduceToNat,reduceCtorEq];first | done | exact rfl | (and_intros<;>rfl)) | exact rfl | decide)))))
 (apply Rs;(focus (first | (simp only[go_sem,Nat.reduceEqDiff,Nat.reduceAdd,Nat.reduceSub,Nat.reduceLeDiff,Nat.reduceMul,Nat.reduceBEq,Nat.reduceLT,Int.reduceToNat,reduceCtorEq];first | done | exact rfl | (and_intros<;>rfl)) | exact rfl | decide));(focus (first | (simp only[go_sem,Nat.reduceEqDiff,Nat.reduceAdd,Nat.reduceSub,Nat.reduceLeDiff,Nat.reduceMul,Nat.reduceBEq,Nat.reduceLT,Int.reduceToNat,reduceCtorEq];first | done | exact rfl | (and_intros<;>rfl)) | exact rfl | decide));(focus (first | (simp only[go_sem,Nat.reduceEqDiff,Nat.reduceAdd,Nat.reduceSub,Nat.reduceLeDiff,Nat.reduceMul,Nat.reduceBEq,Nat.reduceLT,Int.reduceToNat,reduceCtorEq];first | done | exact rfl | (and_intros<;>rfl)) | exact rfl | decide));(focus (first | (simp only[go_sem,Nat.reduceEqDiff,Nat.reduceAdd,Nat.reduceSub,Nat.reduceLeDiff,Nat.reduceMul,Nat.reduceBEq,Nat.reduceLT,Int.reduceToNat,reduceCtorEq];first | done | exact rfl | (and_intros<;>rfl)) | exact rfl | decide));(focus (first | (simp only[go_sem,Nat.reduceEqDiff,Nat.reduceAdd,Nat.reduceSub,Nat.reduceLeDiff,Nat.reduceMul,Nat.reduceBEq,Nat.reduceLT,Int.reduceToNat,reduceCtorEq];first | done | exact rfl | (and_intros<;>rfl)) | exact rfl | decide)))
 ·intro hnil
  have hnil2:l=[]:=List.map_eq_nil_iff.1 hnil
  subst hnil2
  refine JO ?_
  dsimp only
  refine Ab q9 ?_
  exact Aa (A9 [] []) Tryz.results205 @List.map_nil.{0,0}
 ·refine JO ?_
  dsimp only
  refine Ab (j3 hl ha hl0) ?_
  exact Aa (A9 [((0,0),(7,0))] []) Tryz.results205 hl
set_option maxRecDepth 10000
theorem Wr {t:V}(h:t.fit) (hc:t.count≤500000):AC Tryz.prog 206 [t.av] [] (.c (.int .i64 (dec t.enc).1)) []:=by
 have h1:=Sm t.count t (Nat.le_refl _) (by omega)
 have h2:=Na t.count t (Nat.le_refl _) (by omega) (NE t h)
 by_cases hb:t.count≤200
 ·have hd:decide ((t.count:Int)>200)=false:=by simp;omega
  rcases H4 t.enc with⟨u,hu⟩ | ⟨c,hc0,hu⟩
  ·have h3:=Lw t.enc (Jf h) (t:=u) (by rw[hu])
   rw[hu]
   refine A6 Tryz.func206 Tryz.ntmps206 q9 ?_
   refine v7 (A3 [] h1) q9 hd ?_
   refine w12 (AU [] h2) q9 ?_
   refine v9 (A4 [(10,0)] h3) q9 q9 ?_
   exact Ag (A5 []) Tryz.results206
  ·have h3:=Qr t.enc (Jf h) (by rw[hu])
   refine A6 Tryz.func206 Tryz.ntmps206 q9 ?_
   refine v7 (A3 [] h1) q9 hd ?_
   refine w12 (AU [] h2) q9 ?_
   refine v9 (A4 [(10,0)] h3) DV DV ?_
   exact Ag (A5 []) Tryz.results206
 ·have hd:decide ((t.count:Int)>200)=true:=by simp;omega
  have hr:(dec t.enc).1=2:=by
   unfold dec
   rw[if_pos (by rw[CY];omega)]
  rw[hr]
  refine A6 Tryz.func206 Tryz.ntmps206 q9 ?_
  refine v7 (A3 [] h1) q9 hd ?_
  exact Ag (A5 []) Tryz.results206
theorem Ev {t:V}(h:t.fit) (hc:t.count≤500000):AC Tryz.prog 126 [t.av] [] (EF (Co t)) []:=by
 have h1:=Wr h hc
 unfold Co
 by_cases h0:(dec t.enc).1=0
 ·rw[if_pos h0]
  have hb:((0:Int) != 0)=false:=rfl
  rw[h0]at h1
  show AC _ _ _ _ (D7 0 t) _
  refine A6 Tryz.func126 Tryz.ntmps126 q9 ?_
  refine v7 (A3 [] h1) q9 hb ?_
  exact Ag (A5 []) Tryz.results126
 ·rw[if_neg h0]
  have hb:((dec t.enc).1 != 0)=true:=by simpa using h0
  show AC _ _ _ _ (D7 (dec t.enc).1 BD) _
  rw[LV]
  refine A6 Tryz.func126 Tryz.ntmps126 q9 ?_
  refine v7 (A3 [] h1) q9 hb ?_
  exact Ag (A5 []) Tryz.results126
set_option maxRecDepth 10000
theorem D4 {t:V}(h:t.right):t.keys.length≤200∧t.kids.length≤200:=by
 have h1:=BH h.2.1
 refine⟨?_,h1⟩
 by_cases h6:t.kind=6
 ·have:=(DI h h6).2.2
  omega
 ·have:=(Ba h.1).2.2.2.2.1 h6
  rw[this]
  exact Nat.zero_le _
set_option maxRecDepth 10000
theorem Rx {ks:List ByteArray}{i:Nat}(h:i<ks.length):C3 (ks.take (i+1))=Cj ks[i] (C3 (ks.take i)):=by
 rw[List.take_succ_eq_append_getElem h,Lo]
theorem Rp {ks:List ByteArray}{vs:List V}(hl:ks.length=vs.length) {i:Nat}(h:i<ks.length) {x:ByteArray}(hx:x=ks[i]∨x∈ks.take i):Bp (ks.take (i+1)) (vs.take (i+1)) x=if x=ks[i] then vs[i]'(by omega) else Bp (ks.take i) (vs.take i) x:=by
 rw[List.take_succ_eq_append_getElem h,List.take_succ_eq_append_getElem (show i<vs.length by omega)]
 exact ES (by rw[List.length_take,List.length_take,hl]) hx
theorem Mr (ks:List ByteArray) (vs:List V) (hl:ks.length=vs.length) (hc:Aw vs≤400000):AC Tryz.prog 249 [.c (.sl (ks.map Ae)),.c (.sl ((vs.map V.enc).map Al))] [] (.own (0,0)) [((0,0),.row false 5 80 ((I9 ks vs).enc.map CellD.cs))]:=by
 have hcl:=Bq vs
 have hlm:(ks.map Ae).length=ks.length:=by simp
 obtain⟨KS,hKS⟩:∃KS:Nat→List ByteArray,∀i,KS i=C3 (ks.take i):=⟨_,fun _=>rfl⟩
 obtain⟨G,hG⟩:∃G:Nat→ByteArray→V,∀i,G i=Bp (ks.take i) (vs.take i):=⟨_,fun _=>rfl⟩
 have hK0:KS 0=[]:=by rw[hKS];rfl
 have hup:∀i,Up (KS i):=fun i=>by rw[hKS];exact Kn _
 have hlen:∀i,(KS i).length≤ks.length:=fun i=>by
  rw[hKS]
  have:=My (ks.take i)
  rw[List.length_take]at this
  omega
 refine A6 Tryz.func249 Tryz.ntmps249 q9 ?_
 refine Ar (κ:=Nat) (fun k=>⟨mkS 0 116 [(0,.c (.sl (ks.map Ae))),(1,.c (.sl ((vs.map V.enc).map Al))),(5,.c (.sl ((KS k).map Ae))),(6,.own (96,0)),(7,.c (.int .i64 k))],
   [((96,0),.row false 1 50 ((((KS k).map (G k)).map V.enc).map Al))]⟩)
  (fun k=>k≤ks.length) (fun k=>ks.length-k) 0 (Nat.zero_le _) ?_ ?_
 ·exact Ac (Aj.of [((96,0),(13,0))] [(12,0)]) (j2 hK0 @List.map_nil.{0,0})
 ·intro i hi
  by_cases hlt:i<ks.length
  ·have hdk:decide ((i:Int)<(ks.length:Int))=true:=by simpa using hlt
   have hw:=Ad (k:=i) (by omega)
   have hlt2:i<vs.length:=by omega
   have hr:A8 (ks.map Ae) 1 i=true:=by simp[A8,hlt,Ae]
   have hg:(ks.map Ae)[i]? = some [.str ks[i]]:=by simp[hlt,Ae]
   have hr2:A8 ((vs.map V.enc).map Al) 1 i=true:=by simp[A8,hlt2,Al]
   have hg2:((vs.map V.enc).map Al)[i]? = some [.sl (vs[i].enc.map CellD.cs)]:=by simp[hlt2,Al]
   have hstep:KS (i+1)=Cj ks[i] (KS i):=by rw[hKS,hKS];exact Rx hlt
   have hlast:∀x,(x=ks[i]∨x∈KS i)→G (i+1) x=if x=ks[i] then vs[i] else G i x:=fun x hx=>by
    rw[hG,hG]
    exact Rp hl hlt (hx.imp id fun h=>by rw[hKS]at h;exact Ez.1 h)
   have hup':=hup i
   have hlen':=hlen i
   rw[Ke hup']at hstep
   generalize KS i=N,G i=g,vs[i]=v,ks[i]=s at *
   have hNm:(N.map Ae).length=N.length:=by simp
   have hple:=KC N s
   obtain⟨p,hp⟩:∃p,p=CF N s:=⟨_,rfl⟩
   have hlow:∀t (ht:t<N.length),t<p→AZ N[t] s=true:=fun t ht h=>by rw[hp]at h;exact LC h
   have hatp:∀(h:p<N.length),AZ N[p] s=false:=fun h=>by
    subst hp
    exact ZH h
   have hfnd:BW N s=true↔N[p]? = some s:=by rw[hp];exact Fo
   rw[←hp]at hple hstep
   cases hff:BW N s with
   |true =>
    rw[hff,if_pos rfl]at hstep
    have hfk:N[p]? = some s:=hfnd.1 hff
    refine Ab (j2 hlm hdk) ?_
    refine Ar (κ:=Nat) (fun k=>⟨mkS 0 116 [(0,.c (.sl (ks.map Ae))),(1,.c (.sl ((vs.map V.enc).map Al))),(5,.c (.sl (N.map Ae))),(6,.own (96,0)),(7,.c (.int .i64 i)),(8,.c (.int .i64 k))],
      [((96,0),.row false 1 50 (((N.map g).map V.enc).map Al))]⟩)
     (fun k=>k≤p) (fun k=>p-k) 0 (Nat.zero_le _) ?_ ?_
    ·exact Ac (Aj.of [((96,0),(96,0))] []) hdk
    ·intro k hk
     by_cases hkp:k<p
     ·have hlk:k<N.length:=by omega
      have hdk2:decide ((k:Int)<(N.length:Int))=true:=by simpa using hlk
      have hw2:=Ad (k:=k) (by omega)
      have hr3:A8 (N.map Ae) 1 k=true:=by simp[A8,hlk,Ae]
      have hg3:(N.map Ae)[k]? = some [.str N[k]]:=by simp[hlk,Ae]
      have hb:=hlow k hlk hkp
      unfold AZ at hb
      generalize N[k]=x at *
      refine Ab (j8 hNm hdk2 hr hg hr3 hg3 hb hw2) ?_
      refine⟨k+1,by omega,by omega,?_⟩
      exact Ac (Aj.of [((96,0),(96,0))] []) hdk
     ·have hkk:k=p:=by omega
      clear hk hkp
      subst hkk
      obtain⟨hlk,hek⟩:=List.getElem?_eq_some_iff.1 hfk
      have he:(N[k].toList==s.toList)=true:=by rw[hek];simp
      have hdk2:decide ((k:Int)<(N.length:Int))=true:=by simpa using hlk
      have hr3:A8 (N.map Ae) 1 k=true:=by simp[A8,hlk,Ae]
      have hg3:(N.map Ae)[k]? = some [.str N[k]]:=by simp[hlk,Ae]
      have hb:=hatp hlk
      unfold AZ at hb
      have hr4:A8 (((N.map g).map V.enc).map Al) 1 k=true:=by simp[A8,hlk,Al]
      have hg4:(((N.map g).map V.enc).map Al)[k]? = some [.sl ((g N[k]).enc.map CellD.cs)]:=by simp[hlk,Al]
      have hset:=a5h hup' hfk g (G (i+1)) v (by rw[hlast s (.inl rfl),if_pos rfl]) (fun x hx hne=>by rw[hlast x (.inr hx),if_neg hne])
      have hs1:N.map Ae=(KS (i+1)).map Ae:=by rw[hstep]
      have hset2:(((N.map g).map V.enc).map Al).set k [C.sl (v.enc.map CellD.cs)]=(((KS (i+1)).map (G (i+1))).map V.enc).map Al:=by
       rw[hstep,hset,List.map_set,List.map_set]
       rfl
      generalize N[k]=x at *
      refine Ab (j2 (j12 hlm hNm hdk2 hr hg hr2 hg2 hr3 hg3 hb he hr4) (j3 hg4 hset2 hw)) ?_
      refine⟨i+1,by omega,by omega,?_⟩
      exact Ac (Aj.of [((96,0),(96,0))] []) (j2 hs1 hset2)
   |false =>
    rw[hff,if_neg Bool.false_ne_true]at hstep
    refine Ab (j2 hlm hdk) ?_
    refine Ar (κ:=Nat) (fun k=>⟨mkS 0 116 [(0,.c (.sl (ks.map Ae))),(1,.c (.sl ((vs.map V.enc).map Al))),(5,.c (.sl (N.map Ae))),(6,.c (.sl (((N.map g).map V.enc).map Al))),(7,.c (.int .i64 i)),(8,.c (.int .i64 k))],
      []⟩)
     (fun k=>k≤p) (fun k=>p-k) 0 (Nat.zero_le _) ?_ ?_
    ·exact Ac (Aj.of [] [(96,0)]) hdk
    ·intro k hk
     by_cases hkp:k<p
     ·have hlk:k<N.length:=by omega
      have hdk2:decide ((k:Int)<(N.length:Int))=true:=by simpa using hlk
      have hw2:=Ad (k:=k) (by omega)
      have hr3:A8 (N.map Ae) 1 k=true:=by simp[A8,hlk,Ae]
      have hg3:(N.map Ae)[k]? = some [.str N[k]]:=by simp[hlk,Ae]
      have hb:=hlow k hlk hkp
      unfold AZ at hb
      generalize N[k]=x at *
      refine Ab (j8 hNm hdk2 hr hg hr3 hg3 hb hw2) ?_
      refine⟨k+1,by omega,by omega,?_⟩
      exact Ac (Aj.of [] []) hdk
     ·have hkk:k=p:=by omega
      clear hk hkp
      subst hkk
      have hlk':k≤N.length:=by omega
      have hnf:¬N[k]? = some s:=fun e=>by
       rw[hfnd.2 e]at hff
       cases hff
      have hno:s ∉ N:=fun hm=>by
       have h2:=I1 s N s
       have:(Cj s N).length=N.length+1:=by rw[Ke hup',hff,if_neg Bool.false_ne_true];simp;omega
       obtain⟨t,ht,et⟩:=List.getElem_of_mem hm
       exact absurd et (by
        intro e
        by_cases htk:t<k
        ·have:=hlow t ht htk
         rw[e,CC]at this
         cases this
        ·by_cases hke:k=t
         ·subst hke
          exact hnf (List.getElem?_eq_some_iff.2 ⟨ht,e⟩)
         ·have h3:=List.pairwise_iff_getElem.1 (show List.Pairwise _ N from hup') k t (by omega) ht (by omega)
          rw[e,hatp (by omega)]at h3
          cases h3)
      have hgN:∀x∈N,G (i+1) x=g x:=fun x hx=>by rw[hlast x (.inr hx),if_neg (fun e=>hno (by rw[←e];exact hx))]
      have hgs:G (i+1) s=v:=by rw[hlast s (.inl rfl),if_pos rfl]
      obtain⟨A1,hA1⟩:∃A1,A1=N.take k:=⟨_,rfl⟩
      obtain⟨A2,hA2⟩:∃A2,A2=N.drop k:=⟨_,rfl⟩
      have hN1:∀x∈A1,x∈N:=fun x hx=>List.mem_of_mem_take (hA1▸hx)
      have hN2:∀x∈A2,x∈N:=fun x hx=>List.mem_of_mem_drop (hA2▸hx)
      have ht1:(N.map Ae).take k=A1.map Ae:=by rw[hA1,List.map_take]
      have ht2:(N.map Ae).drop k=A2.map Ae:=by rw[hA2,List.map_drop]
      obtain⟨VL,hVL⟩:∃VL,VL=A1.map g:=⟨_,rfl⟩
      obtain⟨VR,hVR⟩:∃VR,VR=A2.map g:=⟨_,rfl⟩
      obtain⟨M1,hM1⟩:∃M1,M1=A1++[s]:=⟨_,rfl⟩
      obtain⟨VM,hVM⟩:∃VM,VM=VL++[v]:=⟨_,rfl⟩
      have hu1:(((N.map g).map V.enc).map Al).take k=(VL.map V.enc).map Al:=by rw[hVL,hA1,List.map_take,List.map_take,List.map_take]
      have hu2:(((N.map g).map V.enc).map Al).drop k=(VR.map V.enc).map Al:=by rw[hVR,hA2,List.map_drop,List.map_drop,List.map_drop]
      have hm1:A1.map Ae++[[C.str s]]=M1.map Ae:=by rw[hM1,List.map_append];rfl
      have hm2:(VL.map V.enc).map Al++[[C.sl (v.enc.map CellD.cs)]]=(VM.map V.enc).map Al:=by rw[hVM,List.map_append,List.map_append];rfl
      have hVLl:VL.length=A1.length:=by rw[hVL,List.length_map]
      have hVRl:VR.length=A2.length:=by rw[hVR,List.length_map]
      have hM1l:M1.length=A1.length+1:=by rw[hM1,List.length_append,List.length_singleton]
      have hVMl:VM.length=A1.length+1:=by rw[hVM,List.length_append,List.length_singleton,hVLl]
      have hfl:(N.map Ae).take N.length=N.map Ae:=by rw[←hNm,List.take_length]
      have hfl2:(((N.map g).map V.enc).map Al).take N.length=((N.map g).map V.enc).map Al:=List.take_of_length_le (by simp)
      have hA1l:A1.length≤N.length:=by rw[hA1,List.length_take];omega
      have hA2l:A2.length≤N.length:=by rw[hA2,List.length_drop];omega
      have ha1:=Fm N
      have ha2:=GY ((N.map g).map V.enc)
      have ha3:=Fm A1
      have ha4:=Fm A2
      have ha5:=GY (VL.map V.enc)
      have ha6:=GY (VR.map V.enc)
      have hb1:0+A1.length≤1000000:=by omega
      have hb2:A1.length+1≤1000000:=by omega
      have hb3:M1.length+A2.length≤1000000:=by omega
      have hb4:0+VL.length≤1000000:=by omega
      have hb5:VL.length+1≤1000000:=by omega
      have hb6:VM.length+VR.length≤1000000:=by omega
      have hr1':M1.map Ae++A2.map Ae=(KS (i+1)).map Ae:=by rw[hstep,hM1,←hA1,←hA2,List.map_append (l₂:=A2)]
      have hr2':(VM.map V.enc).map Al++(VR.map V.enc).map Al=(((KS (i+1)).map (G (i+1))).map V.enc).map Al:=by
       have e1:VL=A1.map (G (i+1)):=by rw[hVL];exact List.map_congr_left fun x hx=>(hgN x (hN1 x hx)).symm
       have e2:VR=A2.map (G (i+1)):=by rw[hVR];exact List.map_congr_left fun x hx=>(hgN x (hN2 x hx)).symm
       rw[hstep,hVM,←hA1,←hA2,e1,e2]
       simp only[List.map_append,List.map_cons,List.map_nil,hgs]
      by_cases hlk:k<N.length
      ·have hdk2:decide ((k:Int)<(N.length:Int))=true:=by simpa using hlk
       have hr3:A8 (N.map Ae) 1 k=true:=by simp[A8,hlk,Ae]
       have hg3:(N.map Ae)[k]? = some [.str N[k]]:=by simp[hlk,Ae]
       have hb:=hatp hlk
       unfold AZ at hb
       have he:(N[k].toList==s.toList)=false:=by
        cases he:N[k].toList==s.toList with
        |false=>rfl
        |true=>exact absurd (List.getElem?_eq_some_iff.2 ⟨hlk,AM (by simpa using he)⟩) hnf
       generalize N[k]=x at *
       refine Ab (j2 (j12 hlm hNm hdk2 hr hg hr2 hg2 hr3 hg3 hb he ht1) (j2 (j12 ht2 hfl hm1 ha1 ha3 ha4 hb1 hb2 hb3 hlk' @Nat.zero_le @List.drop_zero.{0}) (j12 @Nat.le_refl hu1 hu2 hfl2 hm2 ha2 ha5 ha6 hb4 hb5 hb6 hw))) ?_
       refine⟨i+1,by omega,by omega,?_⟩
       exact Ac (Aj.of [((96,0),(88,0))] [(73,0)]) (j2 hr1' hr2')
      ·have hdk2:decide ((k:Int)<(N.length:Int))=false:=by simpa using hlk
       refine Ab (j2 (j12 hlm hNm hdk2 hr hg hr2 hg2 ht1 ht2 hfl hm1 ha1) (j2 (j12 ha3 ha4 hb1 hb2 hb3 hlk' @Nat.zero_le @List.drop_zero.{0} @Nat.le_refl hu1 hu2 hfl2) (j8 hm2 ha2 ha5 ha6 hb4 hb5 hb6 hw))) ?_
       refine⟨i+1,by omega,by omega,?_⟩
       exact Ac (Aj.of [((96,0),(88,0))] [(73,0)]) (j2 hr1' hr2')
  ·have hdk:decide ((i:Int)<(ks.length:Int))=false:=by simpa using hlt
   have hie:i=ks.length:=by omega
   subst hie
   have eK:KS ks.length=C3 ks:=by rw[hKS,List.take_length]
   have eG:G ks.length=Bp ks vs:=by
    rw[hG,List.take_length]
    congr 1
    rw[hl,List.take_length]
   rw[eK,eG]
   obtain⟨T,hT⟩:∃T,T=I9 ks vs:=⟨_,rfl⟩
   have hTk:C3 ks=T.keys:=by rw[hT];rfl
   have hTv:(C3 ks).map (Bp ks vs)=T.kids:=by rw[hT];rfl
   have hT6:T.kind=6:=by rw[hT];rfl
   have hTn:T.num=0:=by rw[hT];rfl
   have hTt:T.text=ByteArray.empty:=by rw[hT];rfl
   have hTl:T.keys.length=T.kids.length:=by rw[←hTk,←hTv,List.length_map]
   have hTc:T.count≤400001:=by
    have h1:=Ia ks.length ks vs rfl hl.symm
    rw[hTv]at h1
    have h2:=AP T
    omega
   have hkat:∀j (hj:j<T.keys.length),T.keyAt j=T.keys[j]:=fun j hj=>by
    unfold V.keyAt
    rw[if_pos hT6,List.drop_eq_getElem_cons hj]
    rfl
   rw[hTv,hTk,←hT]
   have hTm:(T.keys.map Ae).length=T.kids.length:=by simp[hTl]
   have hcl2:=Bq T.kids
   have hck2:=AP T
   obtain⟨R,hR⟩:∃R:Nat→List CellD,∀k,R k=T.enc.take (kp T.kids k):=⟨_,fun _=>rfl⟩
   have h0:(R 0).map CellD.cs=[[.int .i64 6,.int .i64 0,.str ByteArray.empty,.str ByteArray.empty,.int .i64 T.kids.length]]:=by
    rw[hR,HX,hT6,hTn,hTt];rfl
   refine Ab (j4 hlm hdk hTm hTl) ?_
   refine Ar (κ:=Nat) (fun k=>⟨mkS 0 116 [(5,.c (.sl (T.keys.map Ae))),(6,.own (96,0)),(9,.own (97,0)),(10,.c (.int .i64 k))],
     [((96,0),.row false 1 50 ((T.kids.map V.enc).map Al)),((97,0),.row false 5 80 ((R k).map CellD.cs))]⟩)
    (fun k=>k≤T.kids.length) (fun k=>T.kids.length-k) 0 (Nat.zero_le _) ?_ ?_
   ·exact Ac (Aj.of [((96,0),(96,0)),((97,0),(92,0))] []) h0
   ·intro k hk
    by_cases hlt:k<T.kids.length
    ·have hd:decide ((k:Int)<(T.kids.length:Int))=true:=by simpa using hlt
     have hw1:=Ad (k:=k) (by omega)
     have hlk:k<T.keys.length:=by omega
     have hr1:A8 ((T.kids.map V.enc).map Al) 1 k=true:=by simp[A8,hlt,Al]
     have hg1:((T.kids.map V.enc).map Al)[k]? = some [.sl (T.kids[k].enc.map CellD.cs)]:=by simp[hlt,Al]
     have hr3:A8 (T.keys.map Ae) 1 k=true:=by simp[A8,hlk,Ae]
     have hg3:(T.keys.map Ae)[k]? = some [.str T.keys[k]]:=by simp[hlk,Ae]
     have hts:=GP T (i:=k) hlt
     rw[hkat k hlk,←hR,←hR]at hts
     have htl:=HW T k
     have hkl:=JM T k
     have hm:=CL (List.getElem_mem hlt)
     have hel:=CY T.kids[k]
     have hcel:=Cb T.kids[k] T.keys[k]
     have hall:=GX T.kids[k].enc
     have hb0:0+T.kids[k].enc.length≤1000000:=by omega
     have h1:(R k).length+(T.kids[k].cells T.keys[k]).length≤1000000:=by rw[hR,htl,hcel];omega
     have hru:A8 (T.kids[k].enc.map CellD.cs) 5 0=true:=by unfold A8;rw[show (0:Int).toNat=0 from rfl,AL];rfl
     have hgu:=AL T.kids[k]
     have hset:=Pu T.kids[k] T.keys[k]
     simp only[C4,List.take,List.drop,List.cons_append,List.nil_append,List.length_cons,List.length_nil,Nat.reduceAdd]at hset
     have hn:(R k).map CellD.cs++(T.kids[k].cells T.keys[k]).map CellD.cs=(R (k+1)).map CellD.cs:=by rw[hts,List.map_append]
     generalize T.kids[k]=u,T.keys[k]=s at *
     refine Ab (j2 (j12 hd hTm hTl hr1 hg1 hr3 hg3 hb0 hall hru hgu hset) (j2 h1 hw1)) ?_
     refine⟨k+1,by omega,by omega,?_⟩
     exact Ac (Aj.of [((96,0),(96,0)),((97,0),(114,0))] []) hn
    ·have hd:decide ((k:Int)<(T.kids.length:Int))=false:=by simpa using hlt
     have hke:k=T.kids.length:=by omega
     have hall:R k=T.enc:=by rw[hR,hke];exact HS T
     refine Ab (j3 hd hTm hTl) ?_
     exact Aa (A9 [((0,0),(97,0))] []) Tryz.results249 hall
end Go.Proofs.YtcejfdfmgmcinaaGreat
