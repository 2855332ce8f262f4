/- Texts of this proof: G53 G54 G55 R12 R14. -/
import Derived.Test.YtllfmaflodbieaaGreatDoorKG8
set_option linter.all false
set_option maxHeartbeats 8000000
namespace Go.Proofs.YtllfmaflodbieaaGreatDoor
open Go.RowKit
set_option maxRecDepth 10000
theorem Np {ks:List ByteArray}{i:Nat}(h:i<ks.length):AX (ks.take (i+1))=Bw ks[i] (AX (ks.take i)):=by
 rw[List.take_succ_eq_append_getElem h,Iz]
theorem NG {ks:List ByteArray}{vs:List V}(hl:ks.length=vs.length) {i:Nat}(h:i<ks.length) {x:ByteArray}(hx:x=ks[i]∨x∈ks.take i):AH (ks.take (i+1)) (vs.take (i+1)) x=if x=ks[i] then vs[i]'(by omega) else AH (ks.take i) (vs.take i) x:=by
 rw[List.take_succ_eq_append_getElem h,List.take_succ_eq_append_getElem (show i<vs.length by omega)]
 exact Du (by rw[List.length_take,List.length_take,hl]) hx
theorem PG (ks:List ByteArray) (vs:List V) (hl:ks.length=vs.length) (hc:An vs≤400000):AC Tryz.prog 143 [.c (.sl (ks.map Ab)),.c (.sl ((vs.map V.enc).map AD))] [] (.own (0,0)) [((0,0),.row false 5 115 ((Gi ks vs).enc.map CellD.cs))]:=by
 have hcl:=BR vs
 have hlm:(ks.map Ab).length=ks.length:=by simp
 obtain⟨KS,hKS⟩:∃KS:Nat→List ByteArray,∀i,KS i=AX (ks.take i):=⟨_,fun _=>rfl⟩
 obtain⟨G,hG⟩:∃G:Nat→ByteArray→V,∀i,G i=AH (ks.take i) (vs.take i):=⟨_,fun _=>rfl⟩
 have hK0:KS 0=[]:=by rw[hKS];rfl
 have hup:∀i,Up (KS i):=fun i=>by rw[hKS];exact Ex _
 have hlen:∀i,(KS i).length≤ks.length:=fun i=>by
  rw[hKS]
  have:=JA (ks.take i)
  rw[List.length_take]at this
  omega
 refine A6 Tryz.func143 Tryz.ntmps143 ?_
 refine A0 trivial ?_
 refine AG (κ:=Nat) (fun k=>⟨mkS 0 116 [(0,.c (.sl (ks.map Ab))),(1,.c (.sl ((vs.map V.enc).map AD))),(5,.c (.sl ((KS k).map Ab))),(6,.own (96,0)),(7,.c (.int .i64 k))],
   [((96,0),.row false 1 36 ((((KS k).map (G k)).map V.enc).map AD))]⟩)
  (fun k=>k≤ks.length) (fun k=>ks.length-k) 0 (Nat.zero_le _) ?_ ?_
 ·exact Aq (As.of [((96,0),(13,0))] [(12,0)]) (j2 hK0 @List.map_nil.{0,0})
 ·intro i hi
  by_cases hlt:i<ks.length
  ·have hdk:decide ((i:Int)<(ks.length:Int))=true:=by simpa using hlt
   have hw:=Ae (k:=i) (by omega)
   have hlt2:i<vs.length:=by omega
   have hr:Aj (ks.map Ab) 1 i=true:=by simp[Aj,hlt,Ab]
   have hg:(ks.map Ab)[i]? = some [.str ks[i]]:=by simp[hlt,Ab]
   have hr2:Aj ((vs.map V.enc).map AD) 1 i=true:=by simp[Aj,hlt2,AD]
   have hg2:((vs.map V.enc).map AD)[i]? = some [.sl (vs[i].enc.map CellD.cs)]:=by simp[hlt2,AD]
   have hstep:KS (i+1)=Bw ks[i] (KS i):=by rw[hKS,hKS];exact Np hlt
   have hlast:∀x,(x=ks[i]∨x∈KS i)→G (i+1) x=if x=ks[i] then vs[i] else G i x:=fun x hx=>by
    rw[hG,hG]
    exact NG hl hlt (hx.imp id fun h=>by rw[hKS]at h;exact C7.1 h)
   have hup':=hup i
   have hlen':=hlen i
   rw[HT hup']at hstep
   generalize KS i=N at *
   generalize G i=g at *
   generalize vs[i]=v at *
   generalize ks[i]=s at *
   have hNm:(N.map Ab).length=N.length:=by simp
   have hple:=Qj N s
   obtain⟨p,hp⟩:∃p,p=Dw N s:=⟨_,rfl⟩
   have hlow:∀t (ht:t<N.length),t<p→BS N[t] s=true:=fun t ht h=>by rw[hp]at h;exact TF h
   have hatp:∀(h:p<N.length),BS N[p] s=false:=fun h=>by
    subst hp
    exact Wl h
   have hfnd:Cn N s=true↔N[p]? = some s:=by rw[hp];exact E1
   rw[←hp]at hple hstep
   cases hff:Cn N s with
   |true =>
    rw[hff,if_pos rfl]at hstep
    have hfk:N[p]? = some s:=hfnd.1 hff
    refine A0 (j2 hlm hdk) ?_
    refine AG (κ:=Nat) (fun k=>⟨mkS 0 116 [(0,.c (.sl (ks.map Ab))),(1,.c (.sl ((vs.map V.enc).map AD))),(5,.c (.sl (N.map Ab))),(6,.own (96,0)),(7,.c (.int .i64 i)),(8,.c (.int .i64 k))],
      [((96,0),.row false 1 36 (((N.map g).map V.enc).map AD))]⟩)
     (fun k=>k≤p) (fun k=>p-k) 0 (Nat.zero_le _) ?_ ?_
    ·exact Aq (As.of [((96,0),(96,0))] []) hdk
    ·intro k hk
     by_cases hkp:k<p
     ·have hlk:k<N.length:=by omega
      have hdk2:decide ((k:Int)<(N.length:Int))=true:=by simpa using hlk
      have hw2:=Ae (k:=k) (by omega)
      have hr3:Aj (N.map Ab) 1 k=true:=by simp[Aj,hlk,Ab]
      have hg3:(N.map Ab)[k]? = some [.str N[k]]:=by simp[hlk,Ab]
      have hb:=hlow k hlk hkp
      unfold BS at hb
      generalize N[k]=x at *
      refine A0 (j8 hNm hdk2 hr hg hr3 hg3 hb hw2) ?_
      refine⟨k+1,by omega,by omega,?_⟩
      exact Aq (As.of [((96,0),(96,0))] []) hdk
     ·have hkk:k=p:=by omega
      clear hk hkp
      subst hkk
      obtain⟨hlk,hek⟩:=List.getElem?_eq_some_iff.1 hfk
      have he:(N[k].toList==s.toList)=true:=by rw[hek];simp
      have hdk2:decide ((k:Int)<(N.length:Int))=true:=by simpa using hlk
      have hr3:Aj (N.map Ab) 1 k=true:=by simp[Aj,hlk,Ab]
      have hg3:(N.map Ab)[k]? = some [.str N[k]]:=by simp[hlk,Ab]
      have hb:=hatp hlk
      unfold BS at hb
      have hr4:Aj (((N.map g).map V.enc).map AD) 1 k=true:=by simp[Aj,hlk,AD]
      have hg4:(((N.map g).map V.enc).map AD)[k]? = some [.sl ((g N[k]).enc.map CellD.cs)]:=by simp[hlk,AD]
      have hset:=Yk hup' hfk g (G (i+1)) v (by rw[hlast s (.inl rfl),if_pos rfl]) (fun x hx hne=>by rw[hlast x (.inr hx),if_neg hne])
      have hs1:N.map Ab=(KS (i+1)).map Ab:=by rw[hstep]
      have hset2:(((N.map g).map V.enc).map AD).set k [C.sl (v.enc.map CellD.cs)]=(((KS (i+1)).map (G (i+1))).map V.enc).map AD:=by
       rw[hstep,hset,List.map_set,List.map_set]
       rfl
      generalize N[k]=x at *
      refine A0 (j2 (j12 hlm hNm hdk2 hr hg hr2 hg2 hr3 hg3 hb he hr4) (j3 hg4 hset2 hw)) ?_
      refine⟨i+1,by omega,by omega,?_⟩
      exact Aq (As.of [((96,0),(96,0))] []) (j2 hs1 hset2)
   |false =>
    rw[hff,if_neg Bool.false_ne_true]at hstep
    refine A0 (j2 hlm hdk) ?_
    refine AG (κ:=Nat) (fun k=>⟨mkS 0 116 [(0,.c (.sl (ks.map Ab))),(1,.c (.sl ((vs.map V.enc).map AD))),(5,.c (.sl (N.map Ab))),(6,.c (.sl (((N.map g).map V.enc).map AD))),(7,.c (.int .i64 i)),(8,.c (.int .i64 k))],
      []⟩)
     (fun k=>k≤p) (fun k=>p-k) 0 (Nat.zero_le _) ?_ ?_
    ·exact Aq (As.of [] [(96,0)]) hdk
    ·intro k hk
     by_cases hkp:k<p
     ·have hlk:k<N.length:=by omega
      have hdk2:decide ((k:Int)<(N.length:Int))=true:=by simpa using hlk
      have hw2:=Ae (k:=k) (by omega)
      have hr3:Aj (N.map Ab) 1 k=true:=by simp[Aj,hlk,Ab]
      have hg3:(N.map Ab)[k]? = some [.str N[k]]:=by simp[hlk,Ab]
      have hb:=hlow k hlk hkp
      unfold BS at hb
      generalize N[k]=x at *
      refine A0 (j8 hNm hdk2 hr hg hr3 hg3 hb hw2) ?_
      refine⟨k+1,by omega,by omega,?_⟩
      exact Aq (As.of [] []) hdk
     ·have hkk:k=p:=by omega
      clear hk hkp
      subst hkk
      have hlk':k≤N.length:=by omega
      have hnf:¬N[k]? = some s:=fun e=>by
       rw[hfnd.2 e]at hff
       cases hff
      have hno:s ∉ N:=fun hm=>by
       have h2:=FB s N s
       have:(Bw s N).length=N.length+1:=by rw[HT hup',hff,if_neg Bool.false_ne_true];simp;omega
       obtain⟨t,ht,et⟩:=List.getElem_of_mem hm
       exact absurd et (by
        intro e
        by_cases htk:t<k
        ·have:=hlow t ht htk
         rw[e,C8]at this
         cases this
        ·by_cases hke:k=t
         ·subst hke
          exact hnf (List.getElem?_eq_some_iff.2 ⟨ht,e⟩)
         ·have h3:=List.pairwise_iff_getElem.1 (show List.Pairwise _ N from hup') k t (by omega) ht (by omega)
          rw[e]at h3
          rw[hatp (by omega)]at h3
          cases h3)
      have hgN:∀x∈N,G (i+1) x=g x:=fun x hx=>by rw[hlast x (.inr hx),if_neg (fun e=>hno (by rw[←e];exact hx))]
      have hgs:G (i+1) s=v:=by rw[hlast s (.inl rfl),if_pos rfl]
      obtain⟨A1,hA1⟩:∃A1,A1=N.take k:=⟨_,rfl⟩
      obtain⟨A2,hA2⟩:∃A2,A2=N.drop k:=⟨_,rfl⟩
      have hN1:∀x∈A1,x∈N:=fun x hx=>List.mem_of_mem_take (hA1▸hx)
      have hN2:∀x∈A2,x∈N:=fun x hx=>List.mem_of_mem_drop (hA2▸hx)
      have ht1:(N.map Ab).take k=A1.map Ab:=by rw[hA1,List.map_take]
      have ht2:(N.map Ab).drop k=A2.map Ab:=by rw[hA2,List.map_drop]
      obtain⟨VL,hVL⟩:∃VL,VL=A1.map g:=⟨_,rfl⟩
      obtain⟨VR,hVR⟩:∃VR,VR=A2.map g:=⟨_,rfl⟩
      obtain⟨M1,hM1⟩:∃M1,M1=A1++[s]:=⟨_,rfl⟩
      obtain⟨VM,hVM⟩:∃VM,VM=VL++[v]:=⟨_,rfl⟩
      have hu1:(((N.map g).map V.enc).map AD).take k=(VL.map V.enc).map AD:=by rw[hVL,hA1,List.map_take,List.map_take,List.map_take]
      have hu2:(((N.map g).map V.enc).map AD).drop k=(VR.map V.enc).map AD:=by rw[hVR,hA2,List.map_drop,List.map_drop,List.map_drop]
      have hm1:A1.map Ab++[[C.str s]]=M1.map Ab:=by rw[hM1,List.map_append];rfl
      have hm2:(VL.map V.enc).map AD++[[C.sl (v.enc.map CellD.cs)]]=(VM.map V.enc).map AD:=by rw[hVM,List.map_append,List.map_append];rfl
      have hVLl:VL.length=A1.length:=by rw[hVL,List.length_map]
      have hVRl:VR.length=A2.length:=by rw[hVR,List.length_map]
      have hM1l:M1.length=A1.length+1:=by rw[hM1,List.length_append,List.length_singleton]
      have hVMl:VM.length=A1.length+1:=by rw[hVM,List.length_append,List.length_singleton,hVLl]
      have hfl:(N.map Ab).take N.length=N.map Ab:=by rw[←hNm,List.take_length]
      have hfl2:(((N.map g).map V.enc).map AD).take N.length=((N.map g).map V.enc).map AD:=List.take_of_length_le (by simp)
      have hA1l:A1.length≤N.length:=by rw[hA1,List.length_take];omega
      have hA2l:A2.length≤N.length:=by rw[hA2,List.length_drop];omega
      have ha1:=IZ N
      have ha2:=IW ((N.map g).map V.enc)
      have ha3:=IZ A1
      have ha4:=IZ A2
      have ha5:=IW (VL.map V.enc)
      have ha6:=IW (VR.map V.enc)
      have hb1:0+A1.length≤1000000:=by omega
      have hb2:A1.length+1≤1000000:=by omega
      have hb3:M1.length+A2.length≤1000000:=by omega
      have hb4:0+VL.length≤1000000:=by omega
      have hb5:VL.length+1≤1000000:=by omega
      have hb6:VM.length+VR.length≤1000000:=by omega
      have hr1':M1.map Ab++A2.map Ab=(KS (i+1)).map Ab:=by rw[hstep,hM1,←hA1,←hA2,List.map_append (l₂:=A2)]
      have hr2':(VM.map V.enc).map AD++(VR.map V.enc).map AD=(((KS (i+1)).map (G (i+1))).map V.enc).map AD:=by
       have e1:VL=A1.map (G (i+1)):=by rw[hVL];exact List.map_congr_left fun x hx=>(hgN x (hN1 x hx)).symm
       have e2:VR=A2.map (G (i+1)):=by rw[hVR];exact List.map_congr_left fun x hx=>(hgN x (hN2 x hx)).symm
       rw[hstep,hVM,←hA1,←hA2,e1,e2]
       simp only[List.map_append,List.map_cons,List.map_nil,hgs]
      by_cases hlk:k<N.length
      ·have hdk2:decide ((k:Int)<(N.length:Int))=true:=by simpa using hlk
       have hr3:Aj (N.map Ab) 1 k=true:=by simp[Aj,hlk,Ab]
       have hg3:(N.map Ab)[k]? = some [.str N[k]]:=by simp[hlk,Ab]
       have hb:=hatp hlk
       unfold BS at hb
       have he:(N[k].toList==s.toList)=false:=by
        cases he:N[k].toList==s.toList with
        |false=>rfl
        |true=>exact absurd (List.getElem?_eq_some_iff.2 ⟨hlk,AA (by simpa using he)⟩) hnf
       generalize N[k]=x at *
       refine A0 (j2 (j12 hlm hNm hdk2 hr hg hr2 hg2 hr3 hg3 hb he ht1) (j2 (j12 ht2 hfl hm1 ha1 ha3 ha4 hb1 hb2 hb3 hlk' @Nat.zero_le @List.drop_zero.{0}) (j12 @Nat.le_refl hu1 hu2 hfl2 hm2 ha2 ha5 ha6 hb4 hb5 hb6 hw))) ?_
       refine⟨i+1,by omega,by omega,?_⟩
       exact Aq (As.of [((96,0),(88,0))] [(73,0)]) (j2 hr1' hr2')
      ·have hdk2:decide ((k:Int)<(N.length:Int))=false:=by simpa using hlk
       refine A0 (j2 (j12 hlm hNm hdk2 hr hg hr2 hg2 ht1 ht2 hfl hm1 ha1) (j2 (j12 ha3 ha4 hb1 hb2 hb3 hlk' @Nat.zero_le @List.drop_zero.{0} @Nat.le_refl hu1 hu2 hfl2) (j8 hm2 ha2 ha5 ha6 hb4 hb5 hb6 hw))) ?_
       refine⟨i+1,by omega,by omega,?_⟩
       exact Aq (As.of [((96,0),(88,0))] [(73,0)]) (j2 hr1' hr2')
  ·have hdk:decide ((i:Int)<(ks.length:Int))=false:=by simpa using hlt
   have hie:i=ks.length:=by omega
   subst hie
   have eK:KS ks.length=AX ks:=by rw[hKS,List.take_length]
   have eG:G ks.length=AH ks vs:=by
    rw[hG,List.take_length]
    congr 1
    rw[hl,List.take_length]
   rw[eK,eG]
   obtain⟨T,hT⟩:∃T,T=Gi ks vs:=⟨_,rfl⟩
   have hTk:AX ks=T.keys:=by rw[hT];rfl
   have hTv:(AX ks).map (AH ks vs)=T.kids:=by rw[hT];rfl
   have hT6:T.kind=6:=by rw[hT];rfl
   have hTn:T.num=0:=by rw[hT];rfl
   have hTt:T.text=ByteArray.empty:=by rw[hT];rfl
   have hTl:T.keys.length=T.kids.length:=by rw[←hTk,←hTv,List.length_map]
   have hTc:T.count≤400001:=by
    have h1:=Hx ks.length ks vs rfl hl.symm
    rw[hTv]at h1
    have h2:=Bp T
    omega
   have hkat:∀j (hj:j<T.keys.length),T.keyAt j=T.keys[j]:=fun j hj=>by
    unfold V.keyAt
    rw[if_pos hT6,List.drop_eq_getElem_cons hj]
    rfl
   rw[hTv,hTk]
   rw[←hT]
   have hTm:(T.keys.map Ab).length=T.kids.length:=by simp[hTl]
   have hcl2:=BR T.kids
   have hck2:=Bp T
   obtain⟨R,hR⟩:∃R:Nat→List CellD,∀k,R k=T.enc.take (kp T.kids k):=⟨_,fun _=>rfl⟩
   have h0:(R 0).map CellD.cs=[[.int .i64 6,.int .i64 0,.str ByteArray.empty,.str ByteArray.empty,.int .i64 T.kids.length]]:=by
    rw[hR,FS,hT6,hTn,hTt];rfl
   refine A0 (j4 hlm hdk hTm hTl) ?_
   refine AG (κ:=Nat) (fun k=>⟨mkS 0 116 [(5,.c (.sl (T.keys.map Ab))),(6,.own (96,0)),(9,.own (97,0)),(10,.c (.int .i64 k))],
     [((96,0),.row false 1 36 ((T.kids.map V.enc).map AD)),((97,0),.row false 5 115 ((R k).map CellD.cs))]⟩)
    (fun k=>k≤T.kids.length) (fun k=>T.kids.length-k) 0 (Nat.zero_le _) ?_ ?_
   ·exact Aq (As.of [((96,0),(96,0)),((97,0),(92,0))] []) h0
   ·intro k hk
    by_cases hlt:k<T.kids.length
    ·have hd:decide ((k:Int)<(T.kids.length:Int))=true:=by simpa using hlt
     have hw1:=Ae (k:=k) (by omega)
     have hlk:k<T.keys.length:=by omega
     have hr1:Aj ((T.kids.map V.enc).map AD) 1 k=true:=by simp[Aj,hlt,AD]
     have hg1:((T.kids.map V.enc).map AD)[k]? = some [.sl (T.kids[k].enc.map CellD.cs)]:=by simp[hlt,AD]
     have hr3:Aj (T.keys.map Ab) 1 k=true:=by simp[Aj,hlk,Ab]
     have hg3:(T.keys.map Ab)[k]? = some [.str T.keys[k]]:=by simp[hlk,Ab]
     have hts:=Ff T (i:=k) hlt
     rw[hkat k hlk,←hR,←hR]at hts
     have htl:=FP T k
     have hkl:=GW T k
     have hm:=BC (List.getElem_mem hlt)
     have hel:=Bv T.kids[k]
     have hcel:=Bu T.kids[k] T.keys[k]
     have hall:=Na T.kids[k].enc
     have hb0:0+T.kids[k].enc.length≤1000000:=by omega
     have h1:(R k).length+(T.kids[k].cells T.keys[k]).length≤1000000:=by rw[hR,htl,hcel];omega
     have hru:Aj (T.kids[k].enc.map CellD.cs) 5 0=true:=by unfold Aj;rw[show (0:Int).toNat=0 from rfl,Dp];rfl
     have hgu:=Dp T.kids[k]
     have hset:=Nl T.kids[k] T.keys[k]
     simp only[BD,List.take,List.drop,List.cons_append,List.nil_append,List.length_cons,List.length_nil,Nat.reduceAdd]at hset
     have hn:(R k).map CellD.cs++(T.kids[k].cells T.keys[k]).map CellD.cs=(R (k+1)).map CellD.cs:=by rw[hts,List.map_append]
     generalize T.kids[k]=u at *
     generalize T.keys[k]=s at *
     refine A0 (j2 (j12 hd hTm hTl hr1 hg1 hr3 hg3 hb0 hall hru hgu hset) (j2 h1 hw1)) ?_
     refine⟨k+1,by omega,by omega,?_⟩
     exact Aq (As.of [((96,0),(96,0)),((97,0),(114,0))] []) hn
    ·have hd:decide ((k:Int)<(T.kids.length:Int))=false:=by simpa using hlt
     have hke:k=T.kids.length:=by omega
     have hall:R k=T.enc:=by rw[hR,hke];exact FT T
     refine A0 (j3 hd hTm hTl) ?_
     exact A9 (A8 [((0,0),(97,0))] []) Tryz.results143 hall
set_option maxRecDepth 10000
theorem Qq (t:V):Aj (t.enc.map CellD.cs) 5 0=true:=by unfold Aj;rw[show (0:Int).toNat=0 from rfl,Dp];rfl
set_option maxRecDepth 10000
theorem BJ (b:UInt8):(⟨#[b]⟩:ByteArray).size=1:=rfl
theorem US {n:Int}(h:-1000000000000000≤n∧n≤1000000000000000):(Fx n).size≤21:=by
 have h1:=Lib.itoa_length_le n (by omega) (by omega)
 show (Lib.itoa n).toArray.size≤21
 simpa using h1
theorem GK {s:ByteArray}(h:s.size≤60):(BY s).size≤122:=by
 have h1:=Fv s.data.toList
 have h2:cz s.data.toList≤s.data.toList.length:=List.length_filter_le _ _
 have h3:s.data.toList.length=s.size:=Array.length_toList
 unfold BY
 rw[ByteArray.size_append,ByteArray.size_append,BJ]
 have:(⟨(Ay s.data.toList).toArray⟩:ByteArray).size=(Ay s.data.toList).length:=by show (Ay s.data.toList).toArray.size=_;simp
 omega
def Bh (sep:ByteArray):List ByteArray→ByteArray
 | []=>ByteArray.empty
 |x::r=>match r with
  | []=>x
  |_=>x++sep++Bh sep r
theorem EO (sep x:ByteArray) {r:List ByteArray}(h:r≠[]):Bh sep (x::r)=x++sep++Bh sep r:=by
 cases r with
 |nil=>exact absurd rfl h
 |cons y r=>rfl
theorem Lv (sep:ByteArray):∀(l:List ByteArray) (x:ByteArray),l≠[]→Bh sep (l++[x])=Bh sep l++sep++x
 | [],_,h=>absurd rfl h
 | [y],x,_=>rfl
 |y::z::r,x,_=>by
  rw[List.cons_append,EO sep y (by simp),Lv sep (z::r) x (by simp),EO sep y (by simp)]
  simp only[ByteArray.append_assoc]
theorem Li (sep:ByteArray):∀l:List ByteArray,(Bh sep l).size≤(l.map fun x=>x.size+sep.size).sum
 | []=>Nat.zero_le _
 | [y]=>by simp[Bh]
 |y::z::r=>by
  have h1:=Li sep (z::r)
  rw[EO sep y (by simp),ByteArray.size_append,ByteArray.size_append,List.map_cons,List.sum_cons]
  omega
theorem RN (sep:ByteArray) {l:List ByteArray}{k:Nat}(h:k<l.length):Bh sep (l.take (k+1))=if k=0 then l[k] else Bh sep (l.take k)++sep++l[k]:=by
 rw[List.take_succ_eq_append_getElem h]
 split
 ·rename_i h0
  subst h0
  rfl
 ·rename_i h0
  refine Lv sep _ _ fun e=>?_
  have h1:(l.take k).length=0:=by rw[e];rfl
  rw[List.length_take]at h1
  omega
def Qh:ByteArray:=⟨#[110,117,108,108]⟩
def Ll:ByteArray:=⟨#[102,97,108,115,101]⟩
def Pr:ByteArray:=⟨#[116,114,117,101]⟩
abbrev bS (b:UInt8):ByteArray:=⟨#[b]⟩
mutual
def V.txt:V→ByteArray
 | .mk kind num text keys kids=>if kind=0 then Qh else if kind=1 then Ll else if kind=2 then Pr else if kind=3 then Fx num else if kind=4 then BY text
  else if kind=5 then bS 91++Bh (bS 44) (D2 kind keys kids)++bS 93 else bS 123++Bh (bS 44) (D2 kind keys kids)++bS 125
def D2 (kind:Int) (keys:List ByteArray):List V→List ByteArray
 | []=>[]
 |x::r=>(if kind=6 then BY (keys.headD ByteArray.empty)++bS 58++x.txt else x.txt)::D2 kind keys.tail r
end
def V.part (t:V) (i:Nat) (x:V):ByteArray:=if t.kind=6 then BY (t.keyAt i)++bS 58++x.txt else x.txt
def V.parts (t:V):List ByteArray:=D2 t.kind t.keys t.kids
theorem LF (kind:Int):∀(kids:List V) (keys:List ByteArray),(D2 kind keys kids).length=kids.length
 | [],_=>by simp[D2]
 |x::r,keys=>by simp[D2,LF kind r]
theorem CN (t:V):t.parts.length=t.kids.length:=LF _ _ _
theorem Lw (kind:Int):∀(kids:List V) (keys:List ByteArray) (i:Nat) (h:i<kids.length),(D2 kind keys kids)[i]? = some (if kind=6 then BY ((keys.drop i).headD ByteArray.empty)++bS 58++kids[i].txt else kids[i].txt)
 | [],_,i,h=>by simp at h
 |x::r,keys,0,_=>by simp[D2]
 |x::r,keys,i+1,h=>by
  have h1:=Lw kind r keys.tail i (by simpa using h)
  simp only[D2,List.getElem?_cons_succ,h1,List.getElem_cons_succ]
  rw[show keys.tail.drop i=keys.drop (i+1) by cases keys<;>simp]
theorem TW (t:V) {i:Nat}(h:i<t.kids.length):t.parts[i]? = some (t.part i t.kids[i]):=by
 have h1:=Lw t.kind t.kids t.keys i h
 unfold V.parts V.part
 rw[h1]
 unfold V.keyAt
 split<;>rfl
theorem KL (t:V) {i:Nat}(h:i<t.kids.length):t.parts[i]'(by rw[CN];exact h)=t.part i t.kids[i]:=by
 have h1:=TW t h
 rw[List.getElem?_eq_getElem (by rw[CN];exact h)]at h1
 exact Option.some.inj h1
theorem IA {t:V}(h:t.kind=5):t.txt=bS 91++Bh (bS 44) t.parts++bS 93:=by
 cases t;simp only[DV]at h;subst h;rfl
theorem IK {t:V}(h:t.kind=6):t.txt=bS 123++Bh (bS 44) t.parts++bS 125:=by
 cases t;simp only[DV]at h;subst h;rfl
theorem Gn {t:V}(h:t.kind=0):t.txt=Qh:=by cases t;simp only[DV]at h;subst h;rfl
theorem Fr {t:V}(h:t.kind=1):t.txt=Ll:=by cases t;simp only[DV]at h;subst h;rfl
theorem Gk {t:V}(h:t.kind=2):t.txt=Pr:=by cases t;simp only[DV]at h;subst h;rfl
theorem Ik {t:V}(h:t.kind=3):t.txt=Fx t.num:=by cases t;simp only[DV]at h;subst h;rfl
theorem IG {t:V}(h:t.kind=4):t.txt=BY t.text:=by cases t;simp only[DV]at h;subst h;rfl
theorem Eu {t:V}(h:t.right):0≤t.kind∧t.kind≤6:=by
 have hc:=HG h
 unfold CellD.code Az at hc
 cases hh:inB t.kind 0 6
 ·simp[hh]at hc
 ·simp[inB]at hh
  omega
theorem Gs {t:V}(h:t.right) (i:Nat):(t.keyAt i).size≤60:=by
 unfold V.keyAt
 split
 ·rename_i h6
  rcases Nat.lt_or_ge i t.keys.length with hi | hi
  ·rw[List.drop_eq_getElem_cons hi]
   exact Da ((Gy h h6).2.1 _ (List.getElem_mem hi))
  ·rw[List.drop_eq_nil_of_le hi];exact Nat.zero_le _
 ·exact Nat.zero_le _
theorem MQ {t:V}(hr:t.right) (ih:∀x∈t.kids,x.txt.size+124≤250*x.count):∀m,m≤t.kids.length→(Bh (bS 44) (t.parts.take m)).size≤250*An t.kids:=by
 intro m hm
 refine Nat.le_trans (Li _ _) ?_
 have key:∀m,m≤t.kids.length→((t.parts.take m).map fun x=>x.size+(bS 44).size).sum≤250*An (t.kids.take m):=by
  intro m
  induction m with
  |zero=>intro _;simp
  |succ m ihm =>
   intro hm
   have h1:=ihm (by omega)
   have hm':m<t.kids.length:=by omega
   have hmem:t.kids[m]∈t.kids:=List.getElem_mem hm'
   have h2:=ih _ hmem
   have h3:=GK (Gs hr m)
   rw[List.take_succ_eq_append_getElem (by rw[CN];omega),List.take_succ_eq_append_getElem hm',KL t hm',List.map_append,List.sum_append,Dg]
   have h4:(t.part m t.kids[m]).size+1≤250*t.kids[m].count:=by
    unfold V.part
    split
    ·rw[ByteArray.size_append,ByteArray.size_append,BJ];omega
    ·omega
   have h5:(bS 44).size=1:=rfl
   simp only[h5]at h1
   simp only[List.map_cons,List.map_nil,List.sum_cons,List.sum_nil,h5]
   omega
 have h1:=key m hm
 have h2:=Ew t.kids m
 omega
theorem P7:∀(n:Nat) (t:V),t.count≤n→t.right→t.txt.size+124≤250*t.count:=by
 intro n
 induction n with
 |zero=>intro t hn _;have:=Bc t;omega
 |succ n ih =>
  intro t hn hr
  have hp:=Bc t
  have hk:=Eu hr
  have hcc:=Bp t
  have hparts:=MQ hr (fun x hx=>ih x (by have:=BC hx;omega) (Cg hr hx)) t.kids.length (Nat.le_refl _)
  rw[List.take_of_length_le (by rw[CN];exact Nat.le_refl _)]at hparts
  have hcase:t.kind=0∨t.kind=1∨t.kind=2∨t.kind=3∨t.kind=4∨t.kind=5∨t.kind=6:=by omega
  rcases hcase with h | h | h | h | h | h | h
  ·rw[Gn h];have:Qh.size=4:=rfl;omega
  ·rw[Fr h];have:Ll.size=5:=rfl;omega
  ·rw[Gk h];have:Pr.size=4:=rfl;omega
  ·rw[Ik h];have:=US (Gx hr);omega
  ·rw[IG h];have:=GK (Da (FU hr));omega
  ·rw[IA h,ByteArray.size_append,ByteArray.size_append,BJ,BJ];omega
  ·rw[IK h,ByteArray.size_append,ByteArray.size_append,BJ,BJ];omega
theorem En {t:V}(h:t.right):t.txt.size≤50000:=by
 have h1:=P7 _ t (Nat.le_refl _) h
 have:=h.2.1
 omega
theorem MU {t:V}(h:t.right) {k:Nat}(hk:k≤t.kids.length):(Bh (bS 44) (t.parts.take k)).size≤50000:=by
 have h1:=MQ h (fun x hx=>P7 _ x (Nat.le_refl _) (Cg h hx)) k hk
 have h2:=Bp t
 have:=h.2.1
 omega
end Go.Proofs.YtllfmaflodbieaaGreatDoor
