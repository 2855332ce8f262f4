/- Texts of this proof: G49 G50 G51 G52 G53 G54. -/
import Derived.Test.YtcejfdfmgmcinaaGreatKG8
set_option linter.all false
set_option maxHeartbeats 8000000
namespace Go.Proofs.YtcejfdfmgmcinaaGreat
open Go.RowKit
set_option maxRecDepth 10000
theorem Pn (l:List V) (hl:l.length≤1000000):AC Tryz.prog 205 [.c (.sl (l.map V.cs))] [] (.own (0,0)) [((0,0),.row false 5 127 (l.map V.cs))]:=by
 have ha:=Ib l
 have hl0:0+l.length≤1000000:=by omega
 refine AK Tryz.func205 Tryz.ntmps205 ?_
 refine Ga q9 ?_
 refine Dk ?_
 refine Ga q9 ?_
 refine Gj ?_
 (repeat ((with_reducible apply OH);(iterate 2 (focus (first | (simp only[go_sem,Nat.reduceEqDiff,Nat.reduceAdd,Nat.reduceSub,Nat.reduceLeDiff,Nat.reduceMul,Nat.reduceBEq,Nat.reduceLT,Int.reduceToNat,reduceCtorEq];first | done | exact rfl | (and_intros<;>rfl)) | exact rfl | decide)))))
 (apply Ve;(focus (first | (simp only[go_sem,Nat.reduceEqDiff,Nat.reduceAdd,Nat.reduceSub,Nat.reduceLeDiff,Nat.reduceMul,Nat.reduceBEq,Nat.reduceLT,Int.reduceToNat,reduceCtorEq];first | done | exact rfl | (and_intros<;>rfl)) | exact rfl | decide));(focus (first | (simp only[go_sem,Nat.reduceEqDiff,Nat.reduceAdd,Nat.reduceSub,Nat.reduceLeDiff,Nat.reduceMul,Nat.reduceBEq,Nat.reduceLT,Int.reduceToNat,reduceCtorEq];first | done | exact rfl | (and_intros<;>rfl)) | exact rfl | decide));(focus (first | (simp only[go_sem,Nat.reduceEqDiff,Nat.reduceAdd,Nat.reduceSub,Nat.reduceLeDiff,Nat.reduceMul,Nat.reduceBEq,Nat.reduceLT,Int.reduceToNat,reduceCtorEq];first | done | exact rfl | (and_intros<;>rfl)) | exact rfl | decide));(focus (first | (simp only[go_sem,Nat.reduceEqDiff,Nat.reduceAdd,Nat.reduceSub,Nat.reduceLeDiff,Nat.reduceMul,Nat.reduceBEq,Nat.reduceLT,Int.reduceToNat,reduceCtorEq];first | done | exact rfl | (and_intros<;>rfl)) | exact rfl | decide));(focus (first | (simp only[go_sem,Nat.reduceEqDiff,Nat.reduceAdd,Nat.reduceSub,Nat.reduceLeDiff,Nat.reduceMul,Nat.reduceBEq,Nat.reduceLT,Int.reduceToNat,reduceCtorEq];first | done | exact rfl | (and_intros<;>rfl)) | exact rfl | decide)))
 ·intro hnil
  have hnil2:l=[]:=List.map_eq_nil_iff.1 hnil
  subst hnil2
  refine Lh ?_
  dsimp only
  refine Ac q9 ?_
  exact A9 (A8 [] []) Tryz.results205 @List.map_nil.{0,0}
 ·refine Lh ?_
  dsimp only
  refine Ac (j3 hl ha hl0) ?_
  exact A9 (A8 [((0,0),(7,0))] []) Tryz.results205 hl
set_option maxRecDepth 10000
theorem UO {t:V}(h:t.fit) (hc:t.count≤500000):AC Tryz.prog 206 [t.av] [] (.c (.int .i64 (dec t.enc).1)) []:=by
 have h1:=QT t.count t (Nat.le_refl _) (by omega)
 have h2:=LY t.count t (Nat.le_refl _) (by omega) (Mr t h)
 by_cases hb:t.count≤200
 ·have hd:decide ((t.count:Int)>200)=false:=by simp;omega
  rcases Gu t.enc with⟨u,hu⟩ | ⟨c,hc0,hu⟩
  ·have h3:=Km t.enc (Kw h) (t:=u) (by rw[hu])
   rw[hu]
   refine A7 Tryz.func206 Tryz.ntmps206 q9 ?_
   refine v7 (A3 [] h1) q9 hd ?_
   refine w12 (AU [] h2) q9 ?_
   refine v9 (A4 [(10,0)] h3) q9 q9 ?_
   exact Aj (A5 []) Tryz.results206
  ·have h3:=P6 t.enc (Kw h) (by rw[hu])
   refine A7 Tryz.func206 Tryz.ntmps206 q9 ?_
   refine v7 (A3 [] h1) q9 hd ?_
   refine w12 (AU [] h2) q9 ?_
   refine v9 (A4 [(10,0)] h3) Dp Dp ?_
   exact Aj (A5 []) Tryz.results206
 ·have hd:decide ((t.count:Int)>200)=true:=by simp;omega
  have hr:(dec t.enc).1=2:=by
   unfold dec
   rw[if_pos (by rw[CA];omega)]
  rw[hr]
  refine A7 Tryz.func206 Tryz.ntmps206 q9 ?_
  refine v7 (A3 [] h1) q9 hd ?_
  exact Aj (A5 []) Tryz.results206
theorem Gx {t:V}(h:t.fit) (hc:t.count≤500000):AC Tryz.prog 126 [t.av] [] (FM (CM t)) []:=by
 have h1:=UO h hc
 unfold CM
 by_cases h0:(dec t.enc).1=0
 ·rw[if_pos h0]
  have hb:((0:Int) != 0)=false:=rfl
  rw[h0]at h1
  show AC _ _ _ _ (Dq 0 t) _
  refine A7 Tryz.func126 Tryz.ntmps126 q9 ?_
  refine v7 (A3 [] h1) q9 hb ?_
  exact Aj (A5 []) Tryz.results126
 ·rw[if_neg h0]
  have hb:((dec t.enc).1 != 0)=true:=by simpa using h0
  show AC _ _ _ _ (Dq (dec t.enc).1 BG) _
  rw[KG]
  refine A7 Tryz.func126 Tryz.ntmps126 q9 ?_
  refine v7 (A3 [] h1) q9 hb ?_
  exact Aj (A5 []) Tryz.results126
set_option maxRecDepth 10000
theorem Da {t:V}(h:t.right):t.keys.length≤200∧t.kids.length≤200:=by
 have h1:=BV h.2.1
 refine⟨?_,h1⟩
 by_cases h6:t.kind=6
 ·have:=(DC h h6).2.2
  omega
 ·have:=(B6 h.1).2.2.2.2.1 h6
  rw[this]
  exact Nat.zero_le _
set_option maxRecDepth 10000
theorem Q6 {ks:List ByteArray}{i:Nat}(h:i<ks.length):BR (ks.take (i+1))=C5 ks[i] (BR (ks.take i)):=by
 rw[List.take_succ_eq_append_getElem h,Kg]
theorem PX {ks:List ByteArray}{vs:List V}(hl:ks.length=vs.length) {i:Nat}(h:i<ks.length) {x:ByteArray}(hx:x=ks[i]∨x∈ks.take i):Bg (ks.take (i+1)) (vs.take (i+1)) x=if x=ks[i] then vs[i]'(by omega) else Bg (ks.take i) (vs.take i) x:=by
 rw[List.take_succ_eq_append_getElem h,List.take_succ_eq_append_getElem (show i<vs.length by omega)]
 exact Ef (by rw[List.length_take,List.length_take,hl]) hx
theorem L9 (ks:List ByteArray) (vs:List V) (hl:ks.length=vs.length) (hc:Am vs≤400000):AC Tryz.prog 249 [.c (.sl (ks.map Ad)),.c (.sl ((vs.map V.enc).map Ag))] [] (.own (0,0)) [((0,0),.row false 5 80 ((Ht ks vs).enc.map CellD.cs))]:=by
 have hcl:=Bq vs
 have hlm:(ks.map Ad).length=ks.length:=by simp
 obtain⟨KS,hKS⟩:∃KS:Nat→List ByteArray,∀i,KS i=BR (ks.take i):=⟨_,fun _=>rfl⟩
 obtain⟨G,hG⟩:∃G:Nat→ByteArray→V,∀i,G i=Bg (ks.take i) (vs.take i):=⟨_,fun _=>rfl⟩
 have hK0:KS 0=[]:=by rw[hKS];rfl
 have hup:∀i,Up (KS i):=fun i=>by rw[hKS];exact Jr _
 have hlen:∀i,(KS i).length≤ks.length:=fun i=>by
  rw[hKS]
  have:=Lj (ks.take i)
  rw[List.length_take]at this
  omega
 refine A7 Tryz.func249 Tryz.ntmps249 q9 ?_
 refine Ar (κ:=Nat) (fun k=>⟨mkS 0 116 [(0,.c (.sl (ks.map Ad))),(1,.c (.sl ((vs.map V.enc).map Ag))),(5,.c (.sl ((KS k).map Ad))),(6,.own (96,0)),(7,.c (.int .i64 k))],
   [((96,0),.row false 1 50 ((((KS k).map (G k)).map V.enc).map Ag))]⟩)
  (fun k=>k≤ks.length) (fun k=>ks.length-k) 0 (Nat.zero_le _) ?_ ?_
 ·exact Ab (Ah.of [((96,0),(13,0))] [(12,0)]) (j2 hK0 @List.map_nil.{0,0})
 ·intro i hi
  by_cases hlt:i<ks.length
  ·have hdk:decide ((i:Int)<(ks.length:Int))=true:=by simpa using hlt
   have hw:=Af (k:=i) (by omega)
   have hlt2:i<vs.length:=by omega
   have hr:Aa (ks.map Ad) 1 i=true:=by simp[Aa,hlt,Ad]
   have hg:(ks.map Ad)[i]? = some [.str ks[i]]:=by simp[hlt,Ad]
   have hr2:Aa ((vs.map V.enc).map Ag) 1 i=true:=by simp[Aa,hlt2,Ag]
   have hg2:((vs.map V.enc).map Ag)[i]? = some [.sl (vs[i].enc.map CellD.cs)]:=by simp[hlt2,Ag]
   have hstep:KS (i+1)=C5 ks[i] (KS i):=by rw[hKS,hKS];exact Q6 hlt
   have hlast:∀x,(x=ks[i]∨x∈KS i)→G (i+1) x=if x=ks[i] then vs[i] else G i x:=fun x hx=>by
    rw[hG,hG]
    exact PX hl hlt (hx.imp id fun h=>by rw[hKS]at h;exact DX.1 h)
   have hup':=hup i
   have hlen':=hlen i
   rw[Jh hup']at hstep
   generalize KS i=N,G i=g,vs[i]=v,ks[i]=s at *
   have hNm:(N.map Ad).length=N.length:=by simp
   have hple:=QL N s
   obtain⟨p,hp⟩:∃p,p=E4 N s:=⟨_,rfl⟩
   have hlow:∀t (ht:t<N.length),t<p→Bh N[t] s=true:=fun t ht h=>by rw[hp]at h;exact VN h
   have hatp:∀(h:p<N.length),Bh N[p] s=false:=fun h=>by
    subst hp
    exact XU h
   have hfnd:CQ N s=true↔N[p]? = some s:=by rw[hp];exact EK
   rw[←hp]at hple hstep
   cases hff:CQ N s with
   |true =>
    rw[hff,if_pos rfl]at hstep
    have hfk:N[p]? = some s:=hfnd.1 hff
    refine Ac (j2 hlm hdk) ?_
    refine Ar (κ:=Nat) (fun k=>⟨mkS 0 116 [(0,.c (.sl (ks.map Ad))),(1,.c (.sl ((vs.map V.enc).map Ag))),(5,.c (.sl (N.map Ad))),(6,.own (96,0)),(7,.c (.int .i64 i)),(8,.c (.int .i64 k))],
      [((96,0),.row false 1 50 (((N.map g).map V.enc).map Ag))]⟩)
     (fun k=>k≤p) (fun k=>p-k) 0 (Nat.zero_le _) ?_ ?_
    ·exact Ab (Ah.of [((96,0),(96,0))] []) hdk
    ·intro k hk
     by_cases hkp:k<p
     ·have hlk:k<N.length:=by omega
      have hdk2:decide ((k:Int)<(N.length:Int))=true:=by simpa using hlk
      have hw2:=Af (k:=k) (by omega)
      have hr3:Aa (N.map Ad) 1 k=true:=by simp[Aa,hlk,Ad]
      have hg3:(N.map Ad)[k]? = some [.str N[k]]:=by simp[hlk,Ad]
      have hb:=hlow k hlk hkp
      unfold Bh at hb
      generalize N[k]=x at *
      refine Ac (j8 hNm hdk2 hr hg hr3 hg3 hb hw2) ?_
      refine⟨k+1,by omega,by omega,?_⟩
      exact Ab (Ah.of [((96,0),(96,0))] []) hdk
     ·have hkk:k=p:=by omega
      clear hk hkp
      subst hkk
      obtain⟨hlk,hek⟩:=List.getElem?_eq_some_iff.1 hfk
      have he:(N[k].toList==s.toList)=true:=by rw[hek];simp
      have hdk2:decide ((k:Int)<(N.length:Int))=true:=by simpa using hlk
      have hr3:Aa (N.map Ad) 1 k=true:=by simp[Aa,hlk,Ad]
      have hg3:(N.map Ad)[k]? = some [.str N[k]]:=by simp[hlk,Ad]
      have hb:=hatp hlk
      unfold Bh at hb
      have hr4:Aa (((N.map g).map V.enc).map Ag) 1 k=true:=by simp[Aa,hlk,Ag]
      have hg4:(((N.map g).map V.enc).map Ag)[k]? = some [.sl ((g N[k]).enc.map CellD.cs)]:=by simp[hlk,Ag]
      have hset:=a1l hup' hfk g (G (i+1)) v (by rw[hlast s (.inl rfl),if_pos rfl]) (fun x hx hne=>by rw[hlast x (.inr hx),if_neg hne])
      have hs1:N.map Ad=(KS (i+1)).map Ad:=by rw[hstep]
      have hset2:(((N.map g).map V.enc).map Ag).set k [C.sl (v.enc.map CellD.cs)]=(((KS (i+1)).map (G (i+1))).map V.enc).map Ag:=by
       rw[hstep,hset,List.map_set,List.map_set]
       rfl
      generalize N[k]=x at *
      refine Ac (j2 (j12 hlm hNm hdk2 hr hg hr2 hg2 hr3 hg3 hb he hr4) (j3 hg4 hset2 hw)) ?_
      refine⟨i+1,by omega,by omega,?_⟩
      exact Ab (Ah.of [((96,0),(96,0))] []) (j2 hs1 hset2)
   |false =>
    rw[hff,if_neg Bool.false_ne_true]at hstep
    refine Ac (j2 hlm hdk) ?_
    refine Ar (κ:=Nat) (fun k=>⟨mkS 0 116 [(0,.c (.sl (ks.map Ad))),(1,.c (.sl ((vs.map V.enc).map Ag))),(5,.c (.sl (N.map Ad))),(6,.c (.sl (((N.map g).map V.enc).map Ag))),(7,.c (.int .i64 i)),(8,.c (.int .i64 k))],
      []⟩)
     (fun k=>k≤p) (fun k=>p-k) 0 (Nat.zero_le _) ?_ ?_
    ·exact Ab (Ah.of [] [(96,0)]) hdk
    ·intro k hk
     by_cases hkp:k<p
     ·have hlk:k<N.length:=by omega
      have hdk2:decide ((k:Int)<(N.length:Int))=true:=by simpa using hlk
      have hw2:=Af (k:=k) (by omega)
      have hr3:Aa (N.map Ad) 1 k=true:=by simp[Aa,hlk,Ad]
      have hg3:(N.map Ad)[k]? = some [.str N[k]]:=by simp[hlk,Ad]
      have hb:=hlow k hlk hkp
      unfold Bh at hb
      generalize N[k]=x at *
      refine Ac (j8 hNm hdk2 hr hg hr3 hg3 hb hw2) ?_
      refine⟨k+1,by omega,by omega,?_⟩
      exact Ab (Ah.of [] []) hdk
     ·have hkk:k=p:=by omega
      clear hk hkp
      subst hkk
      have hlk':k≤N.length:=by omega
      have hnf:¬N[k]? = some s:=fun e=>by
       rw[hfnd.2 e]at hff
       cases hff
      have hno:s ∉ N:=fun hm=>by
       have h2:=GY s N s
       have:(C5 s N).length=N.length+1:=by rw[Jh hup',hff,if_neg Bool.false_ne_true];simp;omega
       obtain⟨t,ht,et⟩:=List.getElem_of_mem hm
       exact absurd et (by
        intro e
        by_cases htk:t<k
        ·have:=hlow t ht htk
         rw[e,Cn]at this
         cases this
        ·by_cases hke:k=t
         ·subst hke
          exact hnf (List.getElem?_eq_some_iff.2 ⟨ht,e⟩)
         ·have h3:=List.pairwise_iff_getElem.1 (show List.Pairwise _ N from hup') k t (by omega) ht (by omega)
          rw[e,hatp (by omega)]at h3
          cases h3)
      have hgN:∀x∈N,G (i+1) x=g x:=fun x hx=>by rw[hlast x (.inr hx),if_neg (fun e=>hno (by rw[←e];exact hx))]
      have hgs:G (i+1) s=v:=by rw[hlast s (.inl rfl),if_pos rfl]
      obtain⟨A1,hA1⟩:∃A1,A1=N.take k:=⟨_,rfl⟩
      obtain⟨A2,hA2⟩:∃A2,A2=N.drop k:=⟨_,rfl⟩
      have hN1:∀x∈A1,x∈N:=fun x hx=>List.mem_of_mem_take (hA1▸hx)
      have hN2:∀x∈A2,x∈N:=fun x hx=>List.mem_of_mem_drop (hA2▸hx)
      have ht1:(N.map Ad).take k=A1.map Ad:=by rw[hA1,List.map_take]
      have ht2:(N.map Ad).drop k=A2.map Ad:=by rw[hA2,List.map_drop]
      obtain⟨VL,hVL⟩:∃VL,VL=A1.map g:=⟨_,rfl⟩
      obtain⟨VR,hVR⟩:∃VR,VR=A2.map g:=⟨_,rfl⟩
      obtain⟨M1,hM1⟩:∃M1,M1=A1++[s]:=⟨_,rfl⟩
      obtain⟨VM,hVM⟩:∃VM,VM=VL++[v]:=⟨_,rfl⟩
      have hu1:(((N.map g).map V.enc).map Ag).take k=(VL.map V.enc).map Ag:=by rw[hVL,hA1,List.map_take,List.map_take,List.map_take]
      have hu2:(((N.map g).map V.enc).map Ag).drop k=(VR.map V.enc).map Ag:=by rw[hVR,hA2,List.map_drop,List.map_drop,List.map_drop]
      have hm1:A1.map Ad++[[C.str s]]=M1.map Ad:=by rw[hM1,List.map_append];rfl
      have hm2:(VL.map V.enc).map Ag++[[C.sl (v.enc.map CellD.cs)]]=(VM.map V.enc).map Ag:=by rw[hVM,List.map_append,List.map_append];rfl
      have hVLl:VL.length=A1.length:=by rw[hVL,List.length_map]
      have hVRl:VR.length=A2.length:=by rw[hVR,List.length_map]
      have hM1l:M1.length=A1.length+1:=by rw[hM1,List.length_append,List.length_singleton]
      have hVMl:VM.length=A1.length+1:=by rw[hVM,List.length_append,List.length_singleton,hVLl]
      have hfl:(N.map Ad).take N.length=N.map Ad:=by rw[←hNm,List.take_length]
      have hfl2:(((N.map g).map V.enc).map Ag).take N.length=((N.map g).map V.enc).map Ag:=List.take_of_length_le (by simp)
      have hA1l:A1.length≤N.length:=by rw[hA1,List.length_take];omega
      have hA2l:A2.length≤N.length:=by rw[hA2,List.length_drop];omega
      have ha1:=Fp N
      have ha2:=Gl ((N.map g).map V.enc)
      have ha3:=Fp A1
      have ha4:=Fp A2
      have ha5:=Gl (VL.map V.enc)
      have ha6:=Gl (VR.map V.enc)
      have hb1:0+A1.length≤1000000:=by omega
      have hb2:A1.length+1≤1000000:=by omega
      have hb3:M1.length+A2.length≤1000000:=by omega
      have hb4:0+VL.length≤1000000:=by omega
      have hb5:VL.length+1≤1000000:=by omega
      have hb6:VM.length+VR.length≤1000000:=by omega
      have hr1':M1.map Ad++A2.map Ad=(KS (i+1)).map Ad:=by rw[hstep,hM1,←hA1,←hA2,List.map_append (l₂:=A2)]
      have hr2':(VM.map V.enc).map Ag++(VR.map V.enc).map Ag=(((KS (i+1)).map (G (i+1))).map V.enc).map Ag:=by
       have e1:VL=A1.map (G (i+1)):=by rw[hVL];exact List.map_congr_left fun x hx=>(hgN x (hN1 x hx)).symm
       have e2:VR=A2.map (G (i+1)):=by rw[hVR];exact List.map_congr_left fun x hx=>(hgN x (hN2 x hx)).symm
       rw[hstep,hVM,←hA1,←hA2,e1,e2]
       simp only[List.map_append,List.map_cons,List.map_nil,hgs]
      by_cases hlk:k<N.length
      ·have hdk2:decide ((k:Int)<(N.length:Int))=true:=by simpa using hlk
       have hr3:Aa (N.map Ad) 1 k=true:=by simp[Aa,hlk,Ad]
       have hg3:(N.map Ad)[k]? = some [.str N[k]]:=by simp[hlk,Ad]
       have hb:=hatp hlk
       unfold Bh at hb
       have he:(N[k].toList==s.toList)=false:=by
        cases he:N[k].toList==s.toList with
        |false=>rfl
        |true=>exact absurd (List.getElem?_eq_some_iff.2 ⟨hlk,AL (by simpa using he)⟩) hnf
       generalize N[k]=x at *
       refine Ac (j2 (j12 hlm hNm hdk2 hr hg hr2 hg2 hr3 hg3 hb he ht1) (j2 (j12 ht2 hfl hm1 ha1 ha3 ha4 hb1 hb2 hb3 hlk' @Nat.zero_le @List.drop_zero.{0}) (j12 @Nat.le_refl hu1 hu2 hfl2 hm2 ha2 ha5 ha6 hb4 hb5 hb6 hw))) ?_
       refine⟨i+1,by omega,by omega,?_⟩
       exact Ab (Ah.of [((96,0),(88,0))] [(73,0)]) (j2 hr1' hr2')
      ·have hdk2:decide ((k:Int)<(N.length:Int))=false:=by simpa using hlk
       refine Ac (j2 (j12 hlm hNm hdk2 hr hg hr2 hg2 ht1 ht2 hfl hm1 ha1) (j2 (j12 ha3 ha4 hb1 hb2 hb3 hlk' @Nat.zero_le @List.drop_zero.{0} @Nat.le_refl hu1 hu2 hfl2) (j8 hm2 ha2 ha5 ha6 hb4 hb5 hb6 hw))) ?_
       refine⟨i+1,by omega,by omega,?_⟩
       exact Ab (Ah.of [((96,0),(88,0))] [(73,0)]) (j2 hr1' hr2')
  ·have hdk:decide ((i:Int)<(ks.length:Int))=false:=by simpa using hlt
   have hie:i=ks.length:=by omega
   subst hie
   have eK:KS ks.length=BR ks:=by rw[hKS,List.take_length]
   have eG:G ks.length=Bg ks vs:=by
    rw[hG,List.take_length]
    congr 1
    rw[hl,List.take_length]
   rw[eK,eG]
   obtain⟨T,hT⟩:∃T,T=Ht ks vs:=⟨_,rfl⟩
   have hTk:BR ks=T.keys:=by rw[hT];rfl
   have hTv:(BR ks).map (Bg ks vs)=T.kids:=by rw[hT];rfl
   have hT6:T.kind=6:=by rw[hT];rfl
   have hTn:T.num=0:=by rw[hT];rfl
   have hTt:T.text=ByteArray.empty:=by rw[hT];rfl
   have hTl:T.keys.length=T.kids.length:=by rw[←hTk,←hTv,List.length_map]
   have hTc:T.count≤400001:=by
    have h1:=H6 ks.length ks vs rfl hl.symm
    rw[hTv]at h1
    have h2:=AN T
    omega
   have hkat:∀j (hj:j<T.keys.length),T.keyAt j=T.keys[j]:=fun j hj=>by
    unfold V.keyAt
    rw[if_pos hT6,List.drop_eq_getElem_cons hj]
    rfl
   rw[hTv,hTk,←hT]
   have hTm:(T.keys.map Ad).length=T.kids.length:=by simp[hTl]
   have hcl2:=Bq T.kids
   have hck2:=AN T
   obtain⟨R,hR⟩:∃R:Nat→List CellD,∀k,R k=T.enc.take (kp T.kids k):=⟨_,fun _=>rfl⟩
   have h0:(R 0).map CellD.cs=[[.int .i64 6,.int .i64 0,.str ByteArray.empty,.str ByteArray.empty,.int .i64 T.kids.length]]:=by
    rw[hR,GU,hT6,hTn,hTt];rfl
   refine Ac (j4 hlm hdk hTm hTl) ?_
   refine Ar (κ:=Nat) (fun k=>⟨mkS 0 116 [(5,.c (.sl (T.keys.map Ad))),(6,.own (96,0)),(9,.own (97,0)),(10,.c (.int .i64 k))],
     [((96,0),.row false 1 50 ((T.kids.map V.enc).map Ag)),((97,0),.row false 5 80 ((R k).map CellD.cs))]⟩)
    (fun k=>k≤T.kids.length) (fun k=>T.kids.length-k) 0 (Nat.zero_le _) ?_ ?_
   ·exact Ab (Ah.of [((96,0),(96,0)),((97,0),(92,0))] []) h0
   ·intro k hk
    by_cases hlt:k<T.kids.length
    ·have hd:decide ((k:Int)<(T.kids.length:Int))=true:=by simpa using hlt
     have hw1:=Af (k:=k) (by omega)
     have hlk:k<T.keys.length:=by omega
     have hr1:Aa ((T.kids.map V.enc).map Ag) 1 k=true:=by simp[Aa,hlt,Ag]
     have hg1:((T.kids.map V.enc).map Ag)[k]? = some [.sl (T.kids[k].enc.map CellD.cs)]:=by simp[hlt,Ag]
     have hr3:Aa (T.keys.map Ad) 1 k=true:=by simp[Aa,hlk,Ad]
     have hg3:(T.keys.map Ad)[k]? = some [.str T.keys[k]]:=by simp[hlk,Ad]
     have hts:=Gc T (i:=k) hlt
     rw[hkat k hlk,←hR,←hR]at hts
     have htl:=GT T k
     have hkl:=IT T k
     have hm:=Ct (List.getElem_mem hlt)
     have hel:=CA T.kids[k]
     have hcel:=BZ T.kids[k] T.keys[k]
     have hall:=Gk T.kids[k].enc
     have hb0:0+T.kids[k].enc.length≤1000000:=by omega
     have h1:(R k).length+(T.kids[k].cells T.keys[k]).length≤1000000:=by rw[hR,htl,hcel];omega
     have hru:Aa (T.kids[k].enc.map CellD.cs) 5 0=true:=by unfold Aa;rw[show (0:Int).toNat=0 from rfl,AJ];rfl
     have hgu:=AJ T.kids[k]
     have hset:=Oa T.kids[k] T.keys[k]
     simp only[BU,List.take,List.drop,List.cons_append,List.nil_append,List.length_cons,List.length_nil,Nat.reduceAdd]at hset
     have hn:(R k).map CellD.cs++(T.kids[k].cells T.keys[k]).map CellD.cs=(R (k+1)).map CellD.cs:=by rw[hts,List.map_append]
     generalize T.kids[k]=u,T.keys[k]=s at *
     refine Ac (j2 (j12 hd hTm hTl hr1 hg1 hr3 hg3 hb0 hall hru hgu hset) (j2 h1 hw1)) ?_
     refine⟨k+1,by omega,by omega,?_⟩
     exact Ab (Ah.of [((96,0),(96,0)),((97,0),(114,0))] []) hn
    ·have hd:decide ((k:Int)<(T.kids.length:Int))=false:=by simpa using hlt
     have hke:k=T.kids.length:=by omega
     have hall:R k=T.enc:=by rw[hR,hke];exact GS T
     refine Ac (j3 hd hTm hTl) ?_
     exact A9 (A8 [((0,0),(97,0))] []) Tryz.results249 hall
end Go.Proofs.YtcejfdfmgmcinaaGreat
