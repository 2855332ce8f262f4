/- Texts of this proof: G49 G50 G51 G52 G53 G54. -/
import Derived.Test.YtllfmaflodbieaaGreatDoorKG8
set_option linter.all false
set_option maxHeartbeats 8000000
namespace Go.Proofs.YtllfmaflodbieaaGreatDoor
open Go.RowKit
set_option maxRecDepth 10000
theorem UC (l:List ByteArray) (hl:l.length≤1000000):AC Tryz.prog 156 [.c (.sl (l.map CX))] [] (.own (0,0)) [((0,0),.row false 1 9 (l.map CX))]:=by
 have ha:=NY l
 have hl0:0+l.length≤1000000:=by omega
 refine JI Tryz.func156 Tryz.ntmps156 ?_
 refine JP q9 ?_
 refine GH ?_
 refine JP q9 ?_
 refine J6 ?_
 (repeat ((with_reducible apply TX);(iterate 2 (focus (first | (simp only[go_sem,Nat.reduceEqDiff,Nat.reduceAdd,Nat.reduceSub,Nat.reduceLeDiff,Nat.reduceMul,Nat.reduceBEq,Nat.reduceLT,Int.reduceToNat,reduceCtorEq];first | done | exact rfl | (and_intros<;>rfl)) | exact rfl | decide)))))
 (apply YV;(focus (first | (simp only[go_sem,Nat.reduceEqDiff,Nat.reduceAdd,Nat.reduceSub,Nat.reduceLeDiff,Nat.reduceMul,Nat.reduceBEq,Nat.reduceLT,Int.reduceToNat,reduceCtorEq];first | done | exact rfl | (and_intros<;>rfl)) | exact rfl | decide));(focus (first | (simp only[go_sem,Nat.reduceEqDiff,Nat.reduceAdd,Nat.reduceSub,Nat.reduceLeDiff,Nat.reduceMul,Nat.reduceBEq,Nat.reduceLT,Int.reduceToNat,reduceCtorEq];first | done | exact rfl | (and_intros<;>rfl)) | exact rfl | decide));(focus (first | (simp only[go_sem,Nat.reduceEqDiff,Nat.reduceAdd,Nat.reduceSub,Nat.reduceLeDiff,Nat.reduceMul,Nat.reduceBEq,Nat.reduceLT,Int.reduceToNat,reduceCtorEq];first | done | exact rfl | (and_intros<;>rfl)) | exact rfl | decide));(focus (first | (simp only[go_sem,Nat.reduceEqDiff,Nat.reduceAdd,Nat.reduceSub,Nat.reduceLeDiff,Nat.reduceMul,Nat.reduceBEq,Nat.reduceLT,Int.reduceToNat,reduceCtorEq];first | done | exact rfl | (and_intros<;>rfl)) | exact rfl | decide));(focus (first | (simp only[go_sem,Nat.reduceEqDiff,Nat.reduceAdd,Nat.reduceSub,Nat.reduceLeDiff,Nat.reduceMul,Nat.reduceBEq,Nat.reduceLT,Int.reduceToNat,reduceCtorEq];first | done | exact rfl | (and_intros<;>rfl)) | exact rfl | decide)))
 ·intro hnil
  have hnil2:l=[]:=List.map_eq_nil_iff.1 hnil
  subst hnil2
  refine JL ?_
  dsimp only
  refine JV q9 ?_
  exact JJ (JN [] []) Tryz.results156 @List.map_nil.{0,0}
 ·refine JL ?_
  dsimp only
  refine JV (j3 hl ha hl0) ?_
  exact JJ (JN [((0,0),(7,0))] []) Tryz.results156 hl
theorem PB (l:List V) (hl:l.length≤1000000):AC Tryz.prog 151 [.c (.sl (l.map V.cs))] [] (.own (0,0)) [((0,0),.row false 5 76 (l.map V.cs))]:=by
 have ha:=Ou l
 have hl0:0+l.length≤1000000:=by omega
 refine JI Tryz.func151 Tryz.ntmps151 ?_
 refine JP q9 ?_
 refine GH ?_
 refine JP q9 ?_
 refine J6 ?_
 (repeat ((with_reducible apply TX);(iterate 2 (focus (first | (simp only[go_sem,Nat.reduceEqDiff,Nat.reduceAdd,Nat.reduceSub,Nat.reduceLeDiff,Nat.reduceMul,Nat.reduceBEq,Nat.reduceLT,Int.reduceToNat,reduceCtorEq];first | done | exact rfl | (and_intros<;>rfl)) | exact rfl | decide)))))
 (apply YV;(focus (first | (simp only[go_sem,Nat.reduceEqDiff,Nat.reduceAdd,Nat.reduceSub,Nat.reduceLeDiff,Nat.reduceMul,Nat.reduceBEq,Nat.reduceLT,Int.reduceToNat,reduceCtorEq];first | done | exact rfl | (and_intros<;>rfl)) | exact rfl | decide));(focus (first | (simp only[go_sem,Nat.reduceEqDiff,Nat.reduceAdd,Nat.reduceSub,Nat.reduceLeDiff,Nat.reduceMul,Nat.reduceBEq,Nat.reduceLT,Int.reduceToNat,reduceCtorEq];first | done | exact rfl | (and_intros<;>rfl)) | exact rfl | decide));(focus (first | (simp only[go_sem,Nat.reduceEqDiff,Nat.reduceAdd,Nat.reduceSub,Nat.reduceLeDiff,Nat.reduceMul,Nat.reduceBEq,Nat.reduceLT,Int.reduceToNat,reduceCtorEq];first | done | exact rfl | (and_intros<;>rfl)) | exact rfl | decide));(focus (first | (simp only[go_sem,Nat.reduceEqDiff,Nat.reduceAdd,Nat.reduceSub,Nat.reduceLeDiff,Nat.reduceMul,Nat.reduceBEq,Nat.reduceLT,Int.reduceToNat,reduceCtorEq];first | done | exact rfl | (and_intros<;>rfl)) | exact rfl | decide));(focus (first | (simp only[go_sem,Nat.reduceEqDiff,Nat.reduceAdd,Nat.reduceSub,Nat.reduceLeDiff,Nat.reduceMul,Nat.reduceBEq,Nat.reduceLT,Int.reduceToNat,reduceCtorEq];first | done | exact rfl | (and_intros<;>rfl)) | exact rfl | decide)))
 ·intro hnil
  have hnil2:l=[]:=List.map_eq_nil_iff.1 hnil
  subst hnil2
  refine JL ?_
  dsimp only
  refine JV q9 ?_
  exact JJ (JN [] []) Tryz.results151 @List.map_nil.{0,0}
 ·refine JL ?_
  dsimp only
  refine JV (j3 hl ha hl0) ?_
  exact JJ (JN [((0,0),(7,0))] []) Tryz.results151 hl
set_option maxRecDepth 10000
theorem Pv {t:V}(h:t.fit) (hc:t.count≤500000):AC Tryz.prog 90 [t.av] [] (.c (.int .i64 (dec t.enc).1)) []:=by
 have h1:=Np t.count t (Nat.le_refl _) (by omega)
 have h2:=Rz t.count t (Nat.le_refl _) (by omega) (VY t h)
 by_cases hb:t.count≤200
 ·have hd:decide ((t.count:Int)>200)=false:=by simp;omega
  rcases Lx t.enc with⟨u,hu⟩ | ⟨c,hc0,hu⟩
  ·have h3:=LK t.enc (TB h) (t:=u) (by rw[hu])
   rw[hu]
   refine JI Tryz.func90 Tryz.ntmps90 ?_
   refine JV q9 ?_
   refine w7 (Ju [] h1) q9 ?_
   refine JV hd ?_
   refine w12 (Kj [] h2) q9 ?_
   refine w9 (Ja [(10,0)] h3) q9 ?_
   refine JV q9 ?_
   exact JW (Iu []) Tryz.results90
  ·have h3:=Mw t.enc (TB h) (by rw[hu])
   refine JI Tryz.func90 Tryz.ntmps90 ?_
   refine JV q9 ?_
   refine w7 (Ju [] h1) q9 ?_
   refine JV hd ?_
   refine w12 (Kj [] h2) q9 ?_
   refine w9 (Ja [(10,0)] h3) Ki ?_
   refine JV Ki ?_
   exact JW (Iu []) Tryz.results90
 ·have hd:decide ((t.count:Int)>200)=true:=by simp;omega
  have hr:(dec t.enc).1=2:=by
   unfold dec
   rw[if_pos (by rw[KU];omega)]
  rw[hr]
  refine JI Tryz.func90 Tryz.ntmps90 ?_
  refine JV q9 ?_
  refine w7 (Ju [] h1) q9 ?_
  refine JV hd ?_
  exact JW (Iu []) Tryz.results90
theorem TH {t:V}(h:t.fit) (hc:t.count≤500000):AC Tryz.prog 93 [t.av] [] (Qs (Ij t)) []:=by
 have h1:=Pv h hc
 unfold Ij
 by_cases h0:(dec t.enc).1=0
 ·rw[if_pos h0]
  have hb:((0:Int) != 0)=false:=rfl
  rw[h0]at h1
  show AC _ _ _ _ (PS 0 t) _
  refine JI Tryz.func93 Tryz.ntmps93 ?_
  refine JV q9 ?_
  refine w7 (Ju [] h1) q9 ?_
  refine JV hb ?_
  exact JW (Iu []) Tryz.results93
 ·rw[if_neg h0]
  have hb:((dec t.enc).1 != 0)=true:=by simpa using h0
  show AC _ _ _ _ (PS (dec t.enc).1 Dq) _
  rw[Ql]
  refine JI Tryz.func93 Tryz.ntmps93 ?_
  refine JV q9 ?_
  refine w7 (Ju [] h1) q9 ?_
  refine JV hb ?_
  exact JW (Iu []) Tryz.results93
set_option maxRecDepth 10000
theorem a2b {t:V}(h:t.right):t.keys.length≤200∧t.kids.length≤200:=by
 have h1:=Kg h.2.1
 refine⟨?_,h1⟩
 by_cases h6:t.kind=6
 ·have:=(KL h h6).2.2
  omega
 ·have:=(KB h.1).2.2.2.2.1 h6
  rw[this]
  exact Nat.zero_le _
set_option maxRecDepth 10000
theorem V2 {ks:List ByteArray}{i:Nat}(h:i<ks.length):FQ (ks.take (i+1))=GZ ks[i] (FQ (ks.take i)):=by
 rw[List.take_succ_eq_append_getElem h,PP]
theorem UW {ks:List ByteArray}{vs:List V}(hl:ks.length=vs.length) {i:Nat}(h:i<ks.length) {x:ByteArray}(hx:x=ks[i]∨x∈ks.take i):FM (ks.take (i+1)) (vs.take (i+1)) x=if x=ks[i] then vs[i]'(by omega) else FM (ks.take i) (vs.take i) x:=by
 rw[List.take_succ_eq_append_getElem h,List.take_succ_eq_append_getElem (show i<vs.length by omega)]
 exact Lz (by rw[List.length_take,List.length_take,hl]) hx
theorem Wl (ks:List ByteArray) (vs:List V) (hl:ks.length=vs.length) (hc:GR vs≤400000):AC Tryz.prog 143 [.c (.sl (ks.map CX)),.c (.sl ((vs.map V.enc).map CH))] [] (.own (0,0)) [((0,0),.row false 5 115 ((Jm ks vs).enc.map CellD.cs))]:=by
 have hcl:=KA vs
 have hlm:(ks.map CX).length=ks.length:=by simp
 obtain⟨KS,hKS⟩:∃KS:Nat→List ByteArray,∀i,KS i=FQ (ks.take i):=⟨_,fun _=>rfl⟩
 obtain⟨G,hG⟩:∃G:Nat→ByteArray→V,∀i,G i=FM (ks.take i) (vs.take i):=⟨_,fun _=>rfl⟩
 have hK0:KS 0=[]:=by rw[hKS];rfl
 have hup:∀i,Up (KS i):=fun i=>by rw[hKS];exact LR _
 have hlen:∀i,(KS i).length≤ks.length:=fun i=>by
  rw[hKS]
  have:=Oe (ks.take i)
  rw[List.length_take]at this
  omega
 refine JI Tryz.func143 Tryz.ntmps143 ?_
 refine JV q9 ?_
 refine Jz (κ:=Nat) (fun k=>⟨mkS 0 116 [(0,.c (.sl (ks.map CX))),(1,.c (.sl ((vs.map V.enc).map CH))),(5,.c (.sl ((KS k).map CX))),(6,.own (96,0)),(7,.c (.int .i64 k))],
   [((96,0),.row false 1 36 ((((KS k).map (G k)).map V.enc).map CH))]⟩)
  (fun k=>k≤ks.length) (fun k=>ks.length-k) 0 (Nat.zero_le _) ?_ ?_
 ·exact JQ (F7.of [((96,0),(13,0))] [(12,0)]) (j2 hK0 @List.map_nil.{0,0})
 ·intro i hi
  by_cases hlt:i<ks.length
  ·have hdk:decide ((i:Int)<(ks.length:Int))=true:=by simpa using hlt
   have hw:=JX (k:=i) (by omega)
   have hlt2:i<vs.length:=by omega
   have hr:B4 (ks.map CX) 1 i=true:=by simp[B4,hlt,CX]
   have hg:(ks.map CX)[i]? = some [.str ks[i]]:=by simp[hlt,CX]
   have hr2:B4 ((vs.map V.enc).map CH) 1 i=true:=by simp[B4,hlt2,CH]
   have hg2:((vs.map V.enc).map CH)[i]? = some [.sl (vs[i].enc.map CellD.cs)]:=by simp[hlt2,CH]
   have hstep:KS (i+1)=GZ ks[i] (KS i):=by rw[hKS,hKS];exact V2 hlt
   have hlast:∀x,(x=ks[i]∨x∈KS i)→G (i+1) x=if x=ks[i] then vs[i] else G i x:=fun x hx=>by
    rw[hG,hG]
    exact UW hl hlt (hx.imp id fun h=>by rw[hKS]at h;exact Kv.1 h)
   have hup':=hup i
   have hlen':=hlen i
   rw[Pe hup']at hstep
   generalize KS i=N at *
   generalize G i=g at *
   generalize vs[i]=v at *
   generalize ks[i]=s at *
   have hNm:(N.map CX).length=N.length:=by simp
   have hple:=Py N s
   obtain⟨p,hp⟩:∃p,p=KH N s:=⟨_,rfl⟩
   have hlow:∀t (ht:t<N.length),t<p→Jj N[t] s=true:=fun t ht h=>by rw[hp]at h;exact Q9 h
   have hatp:∀(h:p<N.length),Jj N[p] s=false:=fun h=>by
    subst hp
    exact z8 h
   have hfnd:Kr N s=true↔N[p]? = some s:=by rw[hp];exact My
   rw[←hp]at hple hstep
   cases hff:Kr N s with
   |true =>
    rw[hff,if_pos rfl]at hstep
    have hfk:N[p]? = some s:=hfnd.1 hff
    refine JV (j2 hlm hdk) ?_
    refine Jz (κ:=Nat) (fun k=>⟨mkS 0 116 [(0,.c (.sl (ks.map CX))),(1,.c (.sl ((vs.map V.enc).map CH))),(5,.c (.sl (N.map CX))),(6,.own (96,0)),(7,.c (.int .i64 i)),(8,.c (.int .i64 k))],
      [((96,0),.row false 1 36 (((N.map g).map V.enc).map CH))]⟩)
     (fun k=>k≤p) (fun k=>p-k) 0 (Nat.zero_le _) ?_ ?_
    ·exact JQ (F7.of [((96,0),(96,0))] []) hdk
    ·intro k hk
     by_cases hkp:k<p
     ·have hlk:k<N.length:=by omega
      have hdk2:decide ((k:Int)<(N.length:Int))=true:=by simpa using hlk
      have hw2:=JX (k:=k) (by omega)
      have hr3:B4 (N.map CX) 1 k=true:=by simp[B4,hlk,CX]
      have hg3:(N.map CX)[k]? = some [.str N[k]]:=by simp[hlk,CX]
      have hb:=hlow k hlk hkp
      unfold Jj at hb
      generalize N[k]=x at *
      refine JV (j8 hNm hdk2 hr hg hr3 hg3 hb hw2) ?_
      refine⟨k+1,by omega,by omega,?_⟩
      exact JQ (F7.of [((96,0),(96,0))] []) hdk
     ·have hkk:k=p:=by omega
      clear hk hkp
      subst hkk
      obtain⟨hlk,hek⟩:=List.getElem?_eq_some_iff.1 hfk
      have he:(N[k].toList==s.toList)=true:=by rw[hek];simp
      have hdk2:decide ((k:Int)<(N.length:Int))=true:=by simpa using hlk
      have hr3:B4 (N.map CX) 1 k=true:=by simp[B4,hlk,CX]
      have hg3:(N.map CX)[k]? = some [.str N[k]]:=by simp[hlk,CX]
      have hb:=hatp hlk
      unfold Jj at hb
      have hr4:B4 (((N.map g).map V.enc).map CH) 1 k=true:=by simp[B4,hlk,CH]
      have hg4:(((N.map g).map V.enc).map CH)[k]? = some [.sl ((g N[k]).enc.map CellD.cs)]:=by simp[hlk,CH]
      have hset:=a5y hup' hfk g (G (i+1)) v (by rw[hlast s (.inl rfl),if_pos rfl]) (fun x hx hne=>by rw[hlast x (.inr hx),if_neg hne])
      have hs1:N.map CX=(KS (i+1)).map CX:=by rw[hstep]
      have hset2:(((N.map g).map V.enc).map CH).set k [C.sl (v.enc.map CellD.cs)]=(((KS (i+1)).map (G (i+1))).map V.enc).map CH:=by
       rw[hstep,hset,List.map_set,List.map_set]
       rfl
      generalize N[k]=x at *
      refine JV (j2 (j12 hlm hNm hdk2 hr hg hr2 hg2 hr3 hg3 hb he hr4) (j3 hg4 hset2 hw)) ?_
      refine⟨i+1,by omega,by omega,?_⟩
      exact JQ (F7.of [((96,0),(96,0))] []) (j2 hs1 hset2)
   |false =>
    rw[hff,if_neg Bool.false_ne_true]at hstep
    refine JV (j2 hlm hdk) ?_
    refine Jz (κ:=Nat) (fun k=>⟨mkS 0 116 [(0,.c (.sl (ks.map CX))),(1,.c (.sl ((vs.map V.enc).map CH))),(5,.c (.sl (N.map CX))),(6,.c (.sl (((N.map g).map V.enc).map CH))),(7,.c (.int .i64 i)),(8,.c (.int .i64 k))],
      []⟩)
     (fun k=>k≤p) (fun k=>p-k) 0 (Nat.zero_le _) ?_ ?_
    ·exact JQ (F7.of [] [(96,0)]) hdk
    ·intro k hk
     by_cases hkp:k<p
     ·have hlk:k<N.length:=by omega
      have hdk2:decide ((k:Int)<(N.length:Int))=true:=by simpa using hlk
      have hw2:=JX (k:=k) (by omega)
      have hr3:B4 (N.map CX) 1 k=true:=by simp[B4,hlk,CX]
      have hg3:(N.map CX)[k]? = some [.str N[k]]:=by simp[hlk,CX]
      have hb:=hlow k hlk hkp
      unfold Jj at hb
      generalize N[k]=x at *
      refine JV (j8 hNm hdk2 hr hg hr3 hg3 hb hw2) ?_
      refine⟨k+1,by omega,by omega,?_⟩
      exact JQ (F7.of [] []) hdk
     ·have hkk:k=p:=by omega
      clear hk hkp
      subst hkk
      have hlk':k≤N.length:=by omega
      have hnf:¬N[k]? = some s:=fun e=>by
       rw[hfnd.2 e]at hff
       cases hff
      have hno:s ∉ N:=fun hm=>by
       have h2:=NJ s N s
       have:(GZ s N).length=N.length+1:=by rw[Pe hup',hff,if_neg Bool.false_ne_true];simp;omega
       obtain⟨t,ht,et⟩:=List.getElem_of_mem hm
       exact absurd et (by
        intro e
        by_cases htk:t<k
        ·have:=hlow t ht htk
         rw[e,Ko]at this
         cases this
        ·by_cases hke:k=t
         ·subst hke
          exact hnf (List.getElem?_eq_some_iff.2 ⟨ht,e⟩)
         ·have h3:=List.pairwise_iff_getElem.1 (show List.Pairwise _ N from hup') k t (by omega) ht (by omega)
          rw[e]at h3
          rw[hatp (by omega)]at h3
          cases h3)
      have hgN:∀x∈N,G (i+1) x=g x:=fun x hx=>by rw[hlast x (.inr hx),if_neg (fun e=>hno (by rw[←e];exact hx))]
      have hgs:G (i+1) s=v:=by rw[hlast s (.inl rfl),if_pos rfl]
      obtain⟨A1,hA1⟩:∃A1,A1=N.take k:=⟨_,rfl⟩
      obtain⟨A2,hA2⟩:∃A2,A2=N.drop k:=⟨_,rfl⟩
      have hN1:∀x∈A1,x∈N:=fun x hx=>List.mem_of_mem_take (hA1▸hx)
      have hN2:∀x∈A2,x∈N:=fun x hx=>List.mem_of_mem_drop (hA2▸hx)
      have ht1:(N.map CX).take k=A1.map CX:=by rw[hA1,List.map_take]
      have ht2:(N.map CX).drop k=A2.map CX:=by rw[hA2,List.map_drop]
      obtain⟨VL,hVL⟩:∃VL,VL=A1.map g:=⟨_,rfl⟩
      obtain⟨VR,hVR⟩:∃VR,VR=A2.map g:=⟨_,rfl⟩
      obtain⟨M1,hM1⟩:∃M1,M1=A1++[s]:=⟨_,rfl⟩
      obtain⟨VM,hVM⟩:∃VM,VM=VL++[v]:=⟨_,rfl⟩
      have hu1:(((N.map g).map V.enc).map CH).take k=(VL.map V.enc).map CH:=by rw[hVL,hA1,List.map_take,List.map_take,List.map_take]
      have hu2:(((N.map g).map V.enc).map CH).drop k=(VR.map V.enc).map CH:=by rw[hVR,hA2,List.map_drop,List.map_drop,List.map_drop]
      have hm1:A1.map CX++[[C.str s]]=M1.map CX:=by rw[hM1,List.map_append];rfl
      have hm2:(VL.map V.enc).map CH++[[C.sl (v.enc.map CellD.cs)]]=(VM.map V.enc).map CH:=by rw[hVM,List.map_append,List.map_append];rfl
      have hVLl:VL.length=A1.length:=by rw[hVL,List.length_map]
      have hVRl:VR.length=A2.length:=by rw[hVR,List.length_map]
      have hM1l:M1.length=A1.length+1:=by rw[hM1,List.length_append,List.length_singleton]
      have hVMl:VM.length=A1.length+1:=by rw[hVM,List.length_append,List.length_singleton,hVLl]
      have hfl:(N.map CX).take N.length=N.map CX:=by rw[←hNm,List.take_length]
      have hfl2:(((N.map g).map V.enc).map CH).take N.length=((N.map g).map V.enc).map CH:=List.take_of_length_le (by simp)
      have hA1l:A1.length≤N.length:=by rw[hA1,List.length_take];omega
      have hA2l:A2.length≤N.length:=by rw[hA2,List.length_drop];omega
      have ha1:=NY N
      have ha2:=GJ ((N.map g).map V.enc)
      have ha3:=NY A1
      have ha4:=NY A2
      have ha5:=GJ (VL.map V.enc)
      have ha6:=GJ (VR.map V.enc)
      have hb1:0+A1.length≤1000000:=by omega
      have hb2:A1.length+1≤1000000:=by omega
      have hb3:M1.length+A2.length≤1000000:=by omega
      have hb4:0+VL.length≤1000000:=by omega
      have hb5:VL.length+1≤1000000:=by omega
      have hb6:VM.length+VR.length≤1000000:=by omega
      have hr1':M1.map CX++A2.map CX=(KS (i+1)).map CX:=by rw[hstep,hM1,←hA1,←hA2,List.map_append (l₂:=A2)]
      have hr2':(VM.map V.enc).map CH++(VR.map V.enc).map CH=(((KS (i+1)).map (G (i+1))).map V.enc).map CH:=by
       have e1:VL=A1.map (G (i+1)):=by rw[hVL];exact List.map_congr_left fun x hx=>(hgN x (hN1 x hx)).symm
       have e2:VR=A2.map (G (i+1)):=by rw[hVR];exact List.map_congr_left fun x hx=>(hgN x (hN2 x hx)).symm
       rw[hstep,hVM,←hA1,←hA2,e1,e2]
       simp only[List.map_append,List.map_cons,List.map_nil,hgs]
      by_cases hlk:k<N.length
      ·have hdk2:decide ((k:Int)<(N.length:Int))=true:=by simpa using hlk
       have hr3:B4 (N.map CX) 1 k=true:=by simp[B4,hlk,CX]
       have hg3:(N.map CX)[k]? = some [.str N[k]]:=by simp[hlk,CX]
       have hb:=hatp hlk
       unfold Jj at hb
       have he:(N[k].toList==s.toList)=false:=by
        cases he:N[k].toList==s.toList with
        |false=>rfl
        |true=>exact absurd (List.getElem?_eq_some_iff.2 ⟨hlk,K3 (by simpa using he)⟩) hnf
       generalize N[k]=x at *
       refine JV (j2 (j12 hlm hNm hdk2 hr hg hr2 hg2 hr3 hg3 hb he ht1) (j2 (j12 ht2 hfl hm1 ha1 ha3 ha4 hb1 hb2 hb3 hlk' @Nat.zero_le @List.drop_zero.{0}) (j12 @Nat.le_refl hu1 hu2 hfl2 hm2 ha2 ha5 ha6 hb4 hb5 hb6 hw))) ?_
       refine⟨i+1,by omega,by omega,?_⟩
       exact JQ (F7.of [((96,0),(88,0))] [(73,0)]) (j2 hr1' hr2')
      ·have hdk2:decide ((k:Int)<(N.length:Int))=false:=by simpa using hlk
       refine JV (j2 (j12 hlm hNm hdk2 hr hg hr2 hg2 ht1 ht2 hfl hm1 ha1) (j2 (j12 ha3 ha4 hb1 hb2 hb3 hlk' @Nat.zero_le @List.drop_zero.{0} @Nat.le_refl hu1 hu2 hfl2) (j8 hm2 ha2 ha5 ha6 hb4 hb5 hb6 hw))) ?_
       refine⟨i+1,by omega,by omega,?_⟩
       exact JQ (F7.of [((96,0),(88,0))] [(73,0)]) (j2 hr1' hr2')
  ·have hdk:decide ((i:Int)<(ks.length:Int))=false:=by simpa using hlt
   have hie:i=ks.length:=by omega
   subst hie
   have eK:KS ks.length=FQ ks:=by rw[hKS,List.take_length]
   have eG:G ks.length=FM ks vs:=by
    rw[hG,List.take_length]
    congr 1
    rw[hl,List.take_length]
   rw[eK,eG]
   obtain⟨T,hT⟩:∃T,T=Jm ks vs:=⟨_,rfl⟩
   have hTk:FQ ks=T.keys:=by rw[hT];rfl
   have hTv:(FQ ks).map (FM ks vs)=T.kids:=by rw[hT];rfl
   have hT6:T.kind=6:=by rw[hT];rfl
   have hTn:T.num=0:=by rw[hT];rfl
   have hTt:T.text=ByteArray.empty:=by rw[hT];rfl
   have hTl:T.keys.length=T.kids.length:=by rw[←hTk,←hTv,List.length_map]
   have hTc:T.count≤400001:=by
    have h1:=N0 ks.length ks vs rfl hl.symm
    rw[hTv]at h1
    have h2:=K4 T
    omega
   have hkat:∀j (hj:j<T.keys.length),T.keyAt j=T.keys[j]:=fun j hj=>by
    unfold V.keyAt
    rw[if_pos hT6,List.drop_eq_getElem_cons hj]
    rfl
   rw[hTv,hTk]
   rw[←hT]
   have hTm:(T.keys.map CX).length=T.kids.length:=by simp[hTl]
   have hcl2:=KA T.kids
   have hck2:=K4 T
   obtain⟨R,hR⟩:∃R:Nat→List CellD,∀k,R k=T.enc.take (kp T.kids k):=⟨_,fun _=>rfl⟩
   have h0:(R 0).map CellD.cs=[[.int .i64 6,.int .i64 0,.str ByteArray.empty,.str ByteArray.empty,.int .i64 T.kids.length]]:=by
    rw[hR,NG,hT6,hTn,hTt];rfl
   refine JV (j4 hlm hdk hTm hTl) ?_
   refine Jz (κ:=Nat) (fun k=>⟨mkS 0 116 [(5,.c (.sl (T.keys.map CX))),(6,.own (96,0)),(9,.own (97,0)),(10,.c (.int .i64 k))],
     [((96,0),.row false 1 36 ((T.kids.map V.enc).map CH)),((97,0),.row false 5 115 ((R k).map CellD.cs))]⟩)
    (fun k=>k≤T.kids.length) (fun k=>T.kids.length-k) 0 (Nat.zero_le _) ?_ ?_
   ·exact JQ (F7.of [((96,0),(96,0)),((97,0),(92,0))] []) h0
   ·intro k hk
    by_cases hlt:k<T.kids.length
    ·have hd:decide ((k:Int)<(T.kids.length:Int))=true:=by simpa using hlt
     have hw1:=JX (k:=k) (by omega)
     have hlk:k<T.keys.length:=by omega
     have hr1:B4 ((T.kids.map V.enc).map CH) 1 k=true:=by simp[B4,hlt,CH]
     have hg1:((T.kids.map V.enc).map CH)[k]? = some [.sl (T.kids[k].enc.map CellD.cs)]:=by simp[hlt,CH]
     have hr3:B4 (T.keys.map CX) 1 k=true:=by simp[B4,hlk,CX]
     have hg3:(T.keys.map CX)[k]? = some [.str T.keys[k]]:=by simp[hlk,CX]
     have hts:=Nf T (i:=k) hlt
     rw[hkat k hlk,←hR,←hR]at hts
     have htl:=NF T k
     have hkl:=OY T k
     have hm:=K7 (List.getElem_mem hlt)
     have hel:=KU T.kids[k]
     have hcel:=Kz T.kids[k] T.keys[k]
     have hall:=Tj T.kids[k].enc
     have hb0:0+T.kids[k].enc.length≤1000000:=by omega
     have h1:(R k).length+(T.kids[k].cells T.keys[k]).length≤1000000:=by rw[hR,htl,hcel];omega
     have hru:B4 (T.kids[k].enc.map CellD.cs) 5 0=true:=by unfold B4;rw[show (0:Int).toNat=0 from rfl,Lq];rfl
     have hgu:=Lq T.kids[k]
     have hset:=Tn T.kids[k] T.keys[k]
     simp only[Aj,List.take,List.drop,List.cons_append,List.nil_append,List.length_cons,List.length_nil,Nat.reduceAdd]at hset
     have hn:(R k).map CellD.cs++(T.kids[k].cells T.keys[k]).map CellD.cs=(R (k+1)).map CellD.cs:=by rw[hts,List.map_append]
     generalize T.kids[k]=u at *
     generalize T.keys[k]=s at *
     refine JV (j2 (j12 hd hTm hTl hr1 hg1 hr3 hg3 hb0 hall hru hgu hset) (j2 h1 hw1)) ?_
     refine⟨k+1,by omega,by omega,?_⟩
     exact JQ (F7.of [((96,0),(96,0)),((97,0),(114,0))] []) hn
    ·have hd:decide ((k:Int)<(T.kids.length:Int))=false:=by simpa using hlt
     have hke:k=T.kids.length:=by omega
     have hall:R k=T.enc:=by rw[hR,hke];exact NE T
     refine JV (j3 hd hTm hTl) ?_
     exact JJ (JN [((0,0),(97,0))] []) Tryz.results143 hall
end Go.Proofs.YtllfmaflodbieaaGreatDoor
