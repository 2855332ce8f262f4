/- Texts of this proof: G53 G54. -/
import Derived.Test.YtllfmaflodbieaaGreatDoorKG8uG52
set_option linter.all false
set_option maxHeartbeats 8000000
namespace Go.Proofs.YtllfmaflodbieaaGreatDoor
open Go.RowKit
set_option maxRecDepth 10000
theorem Md (l:List ByteArray) (key:ByteArray) (hl:l.length≤1000000):AC Tryz.prog 268 [.c (.sl (l.map Ac)),.c (.str key)] [] (.c (.int .i64 (match B3 l key with | some i=>(i:Int) | none=>-1))) []:=by
 have hlm:(l.map Ac).length=l.length:=by simp
 refine A5 Tryz.func268 Tryz.ntmps268 ?_
 refine A3 q9 ?_
 refine AZ (κ:=Nat) (fun k=>⟨mkS 0 19 [(0,.c (.sl (l.map Ac))),(1,.c (.str key)),(5,.c (.int .i64 k))],[]⟩)
  (fun k=>k≤l.length∧∀j (h:j<l.length),j<k→(l[j].toList==key.toList)=false) (fun k=>l.length-k) 0 ⟨Nat.zero_le _,by intro j h hj;omega⟩ ?_ ?_
 ·exact As (AH.of [] []) hl
 ·rintro k ⟨hk,hno⟩
  by_cases hlt:k<l.length
  ·have hdk:decide ((k:Int)<(l.length:Int))=true:=by simpa using hlt
   have hw:=AA (k:=k) (by omega)
   have hr:Ae (l.map Ac) 1 k=true:=by simp[Ae,hlt,Ac]
   have hg:(l.map Ac)[k]? = some [.str l[k]]:=by simp[hlt,Ac]
   cases hb:l[k].toList==key.toList with
   |true =>
    have hf:B3 l key=some k:=by
     unfold B3
     exact List.findIdx?_eq_some_iff_getElem.2 ⟨hlt,hb,fun j hj=>by simpa using hno j (by omega) hj⟩
    rw[hf]
    refine A3 (j5 hlm hdk hr hg hb) ?_
    exact AL (Ad []) Tryz.results268
   |false =>
    refine A3 (j6 hlm hdk hr hg hb hw) ?_
    refine⟨k+1,by omega,⟨by omega,fun j hj hjk=>?_⟩,?_⟩
    ·by_cases hjk':j=k
     ·subst hjk';exact hb
     ·exact hno j hj (by omega)
    ·exact As (AH.of [] []) hw
  ·have hdk:decide ((k:Int)<(l.length:Int))=false:=by simpa using hlt
   have hf:B3 l key=none:=by
    unfold B3
    rw[List.findIdx?_eq_none_iff]
    intro x hx
    obtain⟨i,hi,rfl⟩:=List.getElem_of_mem hx
    exact hno i hi (by omega)
   rw[hf]
   refine A3 (j2 hlm hdk) ?_
   exact AL (Ad []) Tryz.results268
theorem Vf (a b:List ByteArray) (hla:a.length≤400000) (hlb:b.length≤400000):AC Tryz.prog 266 [.c (.sl (a.map Ac)),.c (.sl (b.map Ac))] [] (.own (0,0)) [((0,0),.row false 1 9 ((Cc a b).map Ac))]:=by
 have hlma:(a.map Ac).length=a.length:=by simp
 have hlmb:(b.map Ac).length=b.length:=by simp
 obtain⟨R,hR⟩:∃R,R=Cc a b:=⟨_,rfl⟩
 rw[←hR]
 refine A5 Tryz.func266 Tryz.ntmps266 ?_
 refine A3 q9 ?_
 refine AZ (κ:=Nat×Nat×List ByteArray) (fun x=>⟨mkS 0 76 [(0,.c (.sl (a.map Ac))),(1,.c (.sl (b.map Ac))),(5,.own (95,0)),(6,.c (.int .i64 x.1)),(7,.c (.int .i64 x.2.1))],[((95,0),.row false 1 9 (x.2.2.map Ac))]⟩)
  (fun x=>x.1≤a.length∧x.2.1≤b.length∧x.2.2.length≤x.1+x.2.1∧x.2.2++Cc (a.drop x.1) (b.drop x.2.1)=R) (fun x=>(a.length-x.1)+(b.length-x.2.1)) (0,0,[]) ⟨Nat.zero_le _,Nat.zero_le _,Nat.zero_le _,by rw[hR];rfl⟩ ?_ ?_
 ·exact As (AH.of [((95,0),(8,0))] []) @List.map_nil.{0,0}
 ·rintro⟨i,k,l⟩ ⟨hi,hk,hll,hlR⟩
  dsimp only at hi hk hll hlR ⊢
  have hol:l.length+1≤1000000:=by omega
  have hrow:∀s,∃l',l'=l++[s]∧l.map Ac++[[C.str s]]=l'.map Ac:=fun s=>⟨_,rfl,by rw[List.map_append];rfl⟩
  by_cases h1:i<a.length
  ·have hd1:decide ((i:Int)<(a.length:Int))=true:=by simpa using h1
   have hw1:=AA (k:=i) (by omega)
   have hr1:Ae (a.map Ac) 1 i=true:=by simp[Ae,h1,Ac]
   have hg1:(a.map Ac)[i]? = some [.str a[i]]:=by simp[h1,Ac]
   rw[List.drop_eq_getElem_cons h1]at hlR
   obtain⟨l1,hl1,hs1⟩:=hrow a[i]
   by_cases h2:k<b.length
   ·have hd2:decide ((k:Int)≥(b.length:Int))=false:=by simp;omega
    have hw2:=AA (k:=k) (by omega)
    have hr2:Ae (b.map Ac) 1 k=true:=by simp[Ae,h2,Ac]
    have hg2:(b.map Ac)[k]? = some [.str b[k]]:=by simp[h2,Ac]
    rw[List.drop_eq_getElem_cons h2]at hlR
    obtain⟨l2,hl2,hs2⟩:=hrow b[k]
    unfold Cc at hlR
    cases hb:Bz a[i] b[k] with
    |true =>
     rw[hb,if_pos rfl,←List.drop_eq_getElem_cons h2]at hlR
     unfold Bz at hb
     generalize a[i]=s at *
     generalize b[k]=u at *
     refine A3 (j11 hlma hlmb hd1 hd2 hr1 hr2 hg1 hg2 hb hol hw1) ?_
     refine⟨(i+1,k,l1),by dsimp only;omega,⟨by dsimp only;omega,hk,by dsimp only;rw[hl1,List.length_append,List.length_singleton];omega,by dsimp only;rw[hl1,List.append_assoc];exact hlR⟩,?_⟩
     exact As (AH.of [((95,0),(46,0))] []) hs1
    |false =>
     rw[hb,if_neg Bool.false_ne_true]at hlR
     unfold Bz at hb
     cases he:a[i].toList==b[k].toList with
     |true =>
      rw[he,if_pos rfl]at hlR
      generalize a[i]=s at *
      generalize b[k]=u at *
      refine A3 (j2 (j12 hlma hlmb hd1 hd2 hr1 hr2 hg1 hg2 hb he hol hw1) hw2) ?_
      refine⟨(i+1,k+1,l2),by dsimp only;omega,⟨by dsimp only;omega,by dsimp only;omega,by dsimp only;rw[hl2,List.length_append,List.length_singleton];omega,by dsimp only;rw[hl2,List.append_assoc];exact hlR⟩,?_⟩
      exact As (AH.of [((95,0),(72,0))] []) hs2
     |false =>
      rw[he,if_neg Bool.false_ne_true,←List.drop_eq_getElem_cons h1]at hlR
      generalize a[i]=s at *
      generalize b[k]=u at *
      refine A3 (j2 (j12 hlma hlmb hd1 hd2 hr1 hr2 hg1 hg2 hb he hol hw1) hw2) ?_
      refine⟨(i,k+1,l2),by dsimp only;omega,⟨by dsimp only;omega,by dsimp only;omega,by dsimp only;rw[hl2,List.length_append,List.length_singleton];omega,by dsimp only;rw[hl2,List.append_assoc];exact hlR⟩,?_⟩
      exact As (AH.of [((95,0),(72,0))] []) hs2
   ·have hd2:decide ((k:Int)≥(b.length:Int))=true:=by simp;omega
    have hdb:b.drop k=[]:=List.drop_eq_nil_of_le (by omega)
    rw[hdb,K1]at hlR
    generalize a[i]=s at *
    refine A3 (j8 hlma hlmb hd1 hd2 hr1 hg1 hol hw1) ?_
    refine⟨(i+1,k,l1),by dsimp only;omega,⟨by dsimp only;omega,hk,by dsimp only;rw[hl1,List.length_append,List.length_singleton];omega,by dsimp only;rw[hl1,List.append_assoc,hdb,K1];exact hlR⟩,?_⟩
    exact As (AH.of [((95,0),(46,0))] []) hs1
  ·have hd1:decide ((i:Int)<(a.length:Int))=false:=by simpa using h1
   have hda:a.drop i=[]:=List.drop_eq_nil_of_le (by omega)
   rw[hda,IB]at hlR
   by_cases h2:k<b.length
   ·have hd2:decide ((k:Int)≥(b.length:Int))=false:=by simp;omega
    have hd3:decide ((k:Int)<(b.length:Int))=true:=by simpa using h2
    have hw2:=AA (k:=k) (by omega)
    have hr2:Ae (b.map Ac) 1 k=true:=by simp[Ae,h2,Ac]
    have hg2:(b.map Ac)[k]? = some [.str b[k]]:=by simp[h2,Ac]
    rw[List.drop_eq_getElem_cons h2]at hlR
    obtain⟨l2,hl2,hs2⟩:=hrow b[k]
    generalize b[k]=u at *
    refine A3 (j9 hlma hlmb hd1 hd2 hd3 hr2 hg2 hol hw2) ?_
    refine⟨(i,k+1,l2),by dsimp only;omega,⟨by dsimp only;omega,by dsimp only;omega,by dsimp only;rw[hl2,List.length_append,List.length_singleton];omega,by dsimp only;rw[hl2,List.append_assoc,hda,IB];exact hlR⟩,?_⟩
    exact As (AH.of [((95,0),(72,0))] []) hs2
   ·have hd3:decide ((k:Int)<(b.length:Int))=false:=by simpa using h2
    have hdb:b.drop k=[]:=List.drop_eq_nil_of_le (by omega)
    rw[hdb,List.append_nil]at hlR
    refine A3 (j4 hlma hlmb hd1 hd3) ?_
    exact Ab (Aa [((0,0),(95,0))] []) Tryz.results266 hlR
set_option maxRecDepth 10000
theorem Rs {ks:List ByteArray}{i:Nat}(h:i<ks.length):B0 (ks.take (i+1))=Cb ks[i] (B0 (ks.take i)):=by
 rw[List.take_succ_eq_append_getElem h,KF]
theorem Rk {ks:List ByteArray}{vs:List V}(hl:ks.length=vs.length) {i:Nat}(h:i<ks.length) {x:ByteArray}(hx:x=ks[i]∨x∈ks.take i):AS (ks.take (i+1)) (vs.take (i+1)) x=if x=ks[i] then vs[i]'(by omega) else AS (ks.take i) (vs.take i) x:=by
 rw[List.take_succ_eq_append_getElem h,List.take_succ_eq_append_getElem (show i<vs.length by omega)]
 exact EC (by rw[List.length_take,List.length_take,hl]) hx
theorem Iw (ks:List ByteArray) (vs:List V) (hl:ks.length=vs.length) (hc:Ag vs≤400000):AC Tryz.prog 143 [.c (.sl (ks.map Ac)),.c (.sl ((vs.map V.enc).map A9))] [] (.own (0,0)) [((0,0),.row false 5 115 ((EJ ks vs).enc.map CellD.cs))]:=by
 have hcl:=BL vs
 have hlm:(ks.map Ac).length=ks.length:=by simp
 obtain⟨KS,hKS⟩:∃KS:Nat→List ByteArray,∀i,KS i=B0 (ks.take i):=⟨_,fun _=>rfl⟩
 obtain⟨G,hG⟩:∃G:Nat→ByteArray→V,∀i,G i=AS (ks.take i) (vs.take i):=⟨_,fun _=>rfl⟩
 have hK0:KS 0=[]:=by rw[hKS];rfl
 have hup:∀i,Up (KS i):=fun i=>by rw[hKS];exact DL _
 have hlen:∀i,(KS i).length≤ks.length:=fun i=>by
  rw[hKS]
  have:=Gq (ks.take i)
  rw[List.length_take]at this
  omega
 refine A5 Tryz.func143 Tryz.ntmps143 ?_
 refine A3 q9 ?_
 refine AZ (κ:=Nat) (fun k=>⟨mkS 0 116 [(0,.c (.sl (ks.map Ac))),(1,.c (.sl ((vs.map V.enc).map A9))),(5,.c (.sl ((KS k).map Ac))),(6,.own (96,0)),(7,.c (.int .i64 k))],
   [((96,0),.row false 1 36 ((((KS k).map (G k)).map V.enc).map A9))]⟩)
  (fun k=>k≤ks.length) (fun k=>ks.length-k) 0 (Nat.zero_le _) ?_ ?_
 ·exact As (AH.of [((96,0),(13,0))] [(12,0)]) (j2 hK0 @List.map_nil.{0,0})
 ·intro i hi
  by_cases hlt:i<ks.length
  ·have hdk:decide ((i:Int)<(ks.length:Int))=true:=by simpa using hlt
   have hw:=AA (k:=i) (by omega)
   have hlt2:i<vs.length:=by omega
   have hr:Ae (ks.map Ac) 1 i=true:=by simp[Ae,hlt,Ac]
   have hg:(ks.map Ac)[i]? = some [.str ks[i]]:=by simp[hlt,Ac]
   have hr2:Ae ((vs.map V.enc).map A9) 1 i=true:=by simp[Ae,hlt2,A9]
   have hg2:((vs.map V.enc).map A9)[i]? = some [.sl (vs[i].enc.map CellD.cs)]:=by simp[hlt2,A9]
   have hstep:KS (i+1)=Cb ks[i] (KS i):=by rw[hKS,hKS];exact Rs hlt
   have hlast:∀x,(x=ks[i]∨x∈KS i)→G (i+1) x=if x=ks[i] then vs[i] else G i x:=fun x hx=>by
    rw[hG,hG]
    exact Rk hl hlt (hx.imp id fun h=>by rw[hKS]at h;exact BP.1 h)
   have hup':=hup i
   have hlen':=hlen i
   rw[JS hup']at hstep
   generalize KS i=N at *
   generalize G i=g at *
   generalize vs[i]=v at *
   generalize ks[i]=s at *
   have hNm:(N.map Ac).length=N.length:=by simp
   have hple:=S8 N s
   obtain⟨p,hp⟩:∃p,p=Ex N s:=⟨_,rfl⟩
   have hlow:∀t (ht:t<N.length),t<p→Bz N[t] s=true:=fun t ht h=>by rw[hp]at h;exact Xp h
   have hatp:∀(h:p<N.length),Bz N[p] s=false:=fun h=>by
    subst hp
    exact Ze h
   have hfnd:De N s=true↔N[p]? = some s:=by rw[hp];exact F9
   rw[←hp]at hple hstep
   cases hff:De N s with
   |true =>
    rw[hff,if_pos rfl]at hstep
    have hfk:N[p]? = some s:=hfnd.1 hff
    refine A3 (j2 hlm hdk) ?_
    refine AZ (κ:=Nat) (fun k=>⟨mkS 0 116 [(0,.c (.sl (ks.map Ac))),(1,.c (.sl ((vs.map V.enc).map A9))),(5,.c (.sl (N.map Ac))),(6,.own (96,0)),(7,.c (.int .i64 i)),(8,.c (.int .i64 k))],
      [((96,0),.row false 1 36 (((N.map g).map V.enc).map A9))]⟩)
     (fun k=>k≤p) (fun k=>p-k) 0 (Nat.zero_le _) ?_ ?_
    ·exact As (AH.of [((96,0),(96,0))] []) hdk
    ·intro k hk
     by_cases hkp:k<p
     ·have hlk:k<N.length:=by omega
      have hdk2:decide ((k:Int)<(N.length:Int))=true:=by simpa using hlk
      have hw2:=AA (k:=k) (by omega)
      have hr3:Ae (N.map Ac) 1 k=true:=by simp[Ae,hlk,Ac]
      have hg3:(N.map Ac)[k]? = some [.str N[k]]:=by simp[hlk,Ac]
      have hb:=hlow k hlk hkp
      unfold Bz at hb
      generalize N[k]=x at *
      refine A3 (j8 hNm hdk2 hr hg hr3 hg3 hb hw2) ?_
      refine⟨k+1,by omega,by omega,?_⟩
      exact As (AH.of [((96,0),(96,0))] []) hdk
     ·have hkk:k=p:=by omega
      clear hk hkp
      subst hkk
      obtain⟨hlk,hek⟩:=List.getElem?_eq_some_iff.1 hfk
      have he:(N[k].toList==s.toList)=true:=by rw[hek];simp
      have hdk2:decide ((k:Int)<(N.length:Int))=true:=by simpa using hlk
      have hr3:Ae (N.map Ac) 1 k=true:=by simp[Ae,hlk,Ac]
      have hg3:(N.map Ac)[k]? = some [.str N[k]]:=by simp[hlk,Ac]
      have hb:=hatp hlk
      unfold Bz at hb
      have hr4:Ae (((N.map g).map V.enc).map A9) 1 k=true:=by simp[Ae,hlk,A9]
      have hg4:(((N.map g).map V.enc).map A9)[k]? = some [.sl ((g N[k]).enc.map CellD.cs)]:=by simp[hlk,A9]
      have hset:=a4u hup' hfk g (G (i+1)) v (by rw[hlast s (.inl rfl),if_pos rfl]) (fun x hx hne=>by rw[hlast x (.inr hx),if_neg hne])
      have hs1:N.map Ac=(KS (i+1)).map Ac:=by rw[hstep]
      have hset2:(((N.map g).map V.enc).map A9).set k [C.sl (v.enc.map CellD.cs)]=(((KS (i+1)).map (G (i+1))).map V.enc).map A9:=by
       rw[hstep,hset,List.map_set,List.map_set]
       rfl
      generalize N[k]=x at *
      refine A3 (j2 (j12 hlm hNm hdk2 hr hg hr2 hg2 hr3 hg3 hb he hr4) (j3 hg4 hset2 hw)) ?_
      refine⟨i+1,by omega,by omega,?_⟩
      exact As (AH.of [((96,0),(96,0))] []) (j2 hs1 hset2)
   |false =>
    rw[hff,if_neg Bool.false_ne_true]at hstep
    refine A3 (j2 hlm hdk) ?_
    refine AZ (κ:=Nat) (fun k=>⟨mkS 0 116 [(0,.c (.sl (ks.map Ac))),(1,.c (.sl ((vs.map V.enc).map A9))),(5,.c (.sl (N.map Ac))),(6,.c (.sl (((N.map g).map V.enc).map A9))),(7,.c (.int .i64 i)),(8,.c (.int .i64 k))],
      []⟩)
     (fun k=>k≤p) (fun k=>p-k) 0 (Nat.zero_le _) ?_ ?_
    ·exact As (AH.of [] [(96,0)]) hdk
    ·intro k hk
     by_cases hkp:k<p
     ·have hlk:k<N.length:=by omega
      have hdk2:decide ((k:Int)<(N.length:Int))=true:=by simpa using hlk
      have hw2:=AA (k:=k) (by omega)
      have hr3:Ae (N.map Ac) 1 k=true:=by simp[Ae,hlk,Ac]
      have hg3:(N.map Ac)[k]? = some [.str N[k]]:=by simp[hlk,Ac]
      have hb:=hlow k hlk hkp
      unfold Bz at hb
      generalize N[k]=x at *
      refine A3 (j8 hNm hdk2 hr hg hr3 hg3 hb hw2) ?_
      refine⟨k+1,by omega,by omega,?_⟩
      exact As (AH.of [] []) hdk
     ·have hkk:k=p:=by omega
      clear hk hkp
      subst hkk
      have hlk':k≤N.length:=by omega
      have hnf:¬N[k]? = some s:=fun e=>by
       rw[hfnd.2 e]at hff
       cases hff
      have hno:s ∉ N:=fun hm=>by
       have h2:=Hx s N s
       have:(Cb s N).length=N.length+1:=by rw[JS hup',hff,if_neg Bool.false_ne_true];simp;omega
       obtain⟨t,ht,et⟩:=List.getElem_of_mem hm
       exact absurd et (by
        intro e
        by_cases htk:t<k
        ·have:=hlow t ht htk
         rw[e,BK]at this
         cases this
        ·by_cases hke:k=t
         ·subst hke
          exact hnf (List.getElem?_eq_some_iff.2 ⟨ht,e⟩)
         ·have h3:=List.pairwise_iff_getElem.1 (show List.Pairwise _ N from hup') k t (by omega) ht (by omega)
          rw[e]at h3
          rw[hatp (by omega)]at h3
          cases h3)
      have hgN:∀x∈N,G (i+1) x=g x:=fun x hx=>by rw[hlast x (.inr hx),if_neg (fun e=>hno (by rw[←e];exact hx))]
      have hgs:G (i+1) s=v:=by rw[hlast s (.inl rfl),if_pos rfl]
      obtain⟨A1,hA1⟩:∃A1,A1=N.take k:=⟨_,rfl⟩
      obtain⟨A2,hA2⟩:∃A2,A2=N.drop k:=⟨_,rfl⟩
      have hN1:∀x∈A1,x∈N:=fun x hx=>List.mem_of_mem_take (hA1▸hx)
      have hN2:∀x∈A2,x∈N:=fun x hx=>List.mem_of_mem_drop (hA2▸hx)
      have ht1:(N.map Ac).take k=A1.map Ac:=by rw[hA1,List.map_take]
      have ht2:(N.map Ac).drop k=A2.map Ac:=by rw[hA2,List.map_drop]
      obtain⟨VL,hVL⟩:∃VL,VL=A1.map g:=⟨_,rfl⟩
      obtain⟨VR,hVR⟩:∃VR,VR=A2.map g:=⟨_,rfl⟩
      obtain⟨M1,hM1⟩:∃M1,M1=A1++[s]:=⟨_,rfl⟩
      obtain⟨VM,hVM⟩:∃VM,VM=VL++[v]:=⟨_,rfl⟩
      have hu1:(((N.map g).map V.enc).map A9).take k=(VL.map V.enc).map A9:=by rw[hVL,hA1,List.map_take,List.map_take,List.map_take]
      have hu2:(((N.map g).map V.enc).map A9).drop k=(VR.map V.enc).map A9:=by rw[hVR,hA2,List.map_drop,List.map_drop,List.map_drop]
      have hm1:A1.map Ac++[[C.str s]]=M1.map Ac:=by rw[hM1,List.map_append];rfl
      have hm2:(VL.map V.enc).map A9++[[C.sl (v.enc.map CellD.cs)]]=(VM.map V.enc).map A9:=by rw[hVM,List.map_append,List.map_append];rfl
      have hVLl:VL.length=A1.length:=by rw[hVL,List.length_map]
      have hVRl:VR.length=A2.length:=by rw[hVR,List.length_map]
      have hM1l:M1.length=A1.length+1:=by rw[hM1,List.length_append,List.length_singleton]
      have hVMl:VM.length=A1.length+1:=by rw[hVM,List.length_append,List.length_singleton,hVLl]
      have hfl:(N.map Ac).take N.length=N.map Ac:=by rw[←hNm,List.take_length]
      have hfl2:(((N.map g).map V.enc).map A9).take N.length=((N.map g).map V.enc).map A9:=List.take_of_length_le (by simp)
      have hA1l:A1.length≤N.length:=by rw[hA1,List.length_take];omega
      have hA2l:A2.length≤N.length:=by rw[hA2,List.length_drop];omega
      have ha1:=Kg N
      have ha2:=GP ((N.map g).map V.enc)
      have ha3:=Kg A1
      have ha4:=Kg A2
      have ha5:=GP (VL.map V.enc)
      have ha6:=GP (VR.map V.enc)
      have hb1:0+A1.length≤1000000:=by omega
      have hb2:A1.length+1≤1000000:=by omega
      have hb3:M1.length+A2.length≤1000000:=by omega
      have hb4:0+VL.length≤1000000:=by omega
      have hb5:VL.length+1≤1000000:=by omega
      have hb6:VM.length+VR.length≤1000000:=by omega
      have hr1':M1.map Ac++A2.map Ac=(KS (i+1)).map Ac:=by rw[hstep,hM1,←hA1,←hA2,List.map_append (l₂:=A2)]
      have hr2':(VM.map V.enc).map A9++(VR.map V.enc).map A9=(((KS (i+1)).map (G (i+1))).map V.enc).map A9:=by
       have e1:VL=A1.map (G (i+1)):=by rw[hVL];exact List.map_congr_left fun x hx=>(hgN x (hN1 x hx)).symm
       have e2:VR=A2.map (G (i+1)):=by rw[hVR];exact List.map_congr_left fun x hx=>(hgN x (hN2 x hx)).symm
       rw[hstep,hVM,←hA1,←hA2,e1,e2]
       simp only[List.map_append,List.map_cons,List.map_nil,hgs]
      by_cases hlk:k<N.length
      ·have hdk2:decide ((k:Int)<(N.length:Int))=true:=by simpa using hlk
       have hr3:Ae (N.map Ac) 1 k=true:=by simp[Ae,hlk,Ac]
       have hg3:(N.map Ac)[k]? = some [.str N[k]]:=by simp[hlk,Ac]
       have hb:=hatp hlk
       unfold Bz at hb
       have he:(N[k].toList==s.toList)=false:=by
        cases he:N[k].toList==s.toList with
        |false=>rfl
        |true=>exact absurd (List.getElem?_eq_some_iff.2 ⟨hlk,Ay (by simpa using he)⟩) hnf
       generalize N[k]=x at *
       refine A3 (j2 (j12 hlm hNm hdk2 hr hg hr2 hg2 hr3 hg3 hb he ht1) (j2 (j12 ht2 hfl hm1 ha1 ha3 ha4 hb1 hb2 hb3 hlk' @Nat.zero_le @List.drop_zero.{0}) (j12 @Nat.le_refl hu1 hu2 hfl2 hm2 ha2 ha5 ha6 hb4 hb5 hb6 hw))) ?_
       refine⟨i+1,by omega,by omega,?_⟩
       exact As (AH.of [((96,0),(88,0))] [(73,0)]) (j2 hr1' hr2')
      ·have hdk2:decide ((k:Int)<(N.length:Int))=false:=by simpa using hlk
       refine A3 (j2 (j12 hlm hNm hdk2 hr hg hr2 hg2 ht1 ht2 hfl hm1 ha1) (j2 (j12 ha3 ha4 hb1 hb2 hb3 hlk' @Nat.zero_le @List.drop_zero.{0} @Nat.le_refl hu1 hu2 hfl2) (j8 hm2 ha2 ha5 ha6 hb4 hb5 hb6 hw))) ?_
       refine⟨i+1,by omega,by omega,?_⟩
       exact As (AH.of [((96,0),(88,0))] [(73,0)]) (j2 hr1' hr2')
  ·have hdk:decide ((i:Int)<(ks.length:Int))=false:=by simpa using hlt
   have hie:i=ks.length:=by omega
   subst hie
   have eK:KS ks.length=B0 ks:=by rw[hKS,List.take_length]
   have eG:G ks.length=AS ks vs:=by
    rw[hG,List.take_length]
    congr 1
    rw[hl,List.take_length]
   rw[eK,eG]
   obtain⟨T,hT⟩:∃T,T=EJ ks vs:=⟨_,rfl⟩
   have hTk:B0 ks=T.keys:=by rw[hT];rfl
   have hTv:(B0 ks).map (AS ks vs)=T.kids:=by rw[hT];rfl
   have hT6:T.kind=6:=by rw[hT];rfl
   have hTn:T.num=0:=by rw[hT];rfl
   have hTt:T.text=ByteArray.empty:=by rw[hT];rfl
   have hTl:T.keys.length=T.kids.length:=by rw[←hTk,←hTv,List.length_map]
   have hTc:T.count≤400001:=by
    have h1:=G4 ks.length ks vs rfl hl.symm
    rw[hTv]at h1
    have h2:=AK T
    omega
   have hkat:∀j (hj:j<T.keys.length),T.keyAt j=T.keys[j]:=fun j hj=>by
    unfold V.keyAt
    rw[if_pos hT6,List.drop_eq_getElem_cons hj]
    rfl
   rw[hTv,hTk]
   rw[←hT]
   have hTm:(T.keys.map Ac).length=T.kids.length:=by simp[hTl]
   have hcl2:=BL T.kids
   have hck2:=AK T
   obtain⟨R,hR⟩:∃R:Nat→List CellD,∀k,R k=T.enc.take (kp T.kids k):=⟨_,fun _=>rfl⟩
   have h0:(R 0).map CellD.cs=[[.int .i64 6,.int .i64 0,.str ByteArray.empty,.str ByteArray.empty,.int .i64 T.kids.length]]:=by
    rw[hR,Hq,hT6,hTn,hTt];rfl
   refine A3 (j4 hlm hdk hTm hTl) ?_
   refine AZ (κ:=Nat) (fun k=>⟨mkS 0 116 [(5,.c (.sl (T.keys.map Ac))),(6,.own (96,0)),(9,.own (97,0)),(10,.c (.int .i64 k))],
     [((96,0),.row false 1 36 ((T.kids.map V.enc).map A9)),((97,0),.row false 5 115 ((R k).map CellD.cs))]⟩)
    (fun k=>k≤T.kids.length) (fun k=>T.kids.length-k) 0 (Nat.zero_le _) ?_ ?_
   ·exact As (AH.of [((96,0),(96,0)),((97,0),(92,0))] []) h0
   ·intro k hk
    by_cases hlt:k<T.kids.length
    ·have hd:decide ((k:Int)<(T.kids.length:Int))=true:=by simpa using hlt
     have hw1:=AA (k:=k) (by omega)
     have hlk:k<T.keys.length:=by omega
     have hr1:Ae ((T.kids.map V.enc).map A9) 1 k=true:=by simp[Ae,hlt,A9]
     have hg1:((T.kids.map V.enc).map A9)[k]? = some [.sl (T.kids[k].enc.map CellD.cs)]:=by simp[hlt,A9]
     have hr3:Ae (T.keys.map Ac) 1 k=true:=by simp[Ae,hlk,Ac]
     have hg3:(T.keys.map Ac)[k]? = some [.str T.keys[k]]:=by simp[hlk,Ac]
     have hts:=GD T (i:=k) hlt
     rw[hkat k hlk,←hR,←hR]at hts
     have htl:=Ho T k
     have hkl:=Jv T k
     have hm:=BB (List.getElem_mem hlt)
     have hel:=Bb T.kids[k]
     have hcel:=C5 T.kids[k] T.keys[k]
     have hall:=IS T.kids[k].enc
     have hb0:0+T.kids[k].enc.length≤1000000:=by omega
     have h1:(R k).length+(T.kids[k].cells T.keys[k]).length≤1000000:=by rw[hR,htl,hcel];omega
     have hru:Ae (T.kids[k].enc.map CellD.cs) 5 0=true:=by unfold Ae;rw[show (0:Int).toNat=0 from rfl,AT];rfl
     have hgu:=AT T.kids[k]
     have hset:=Pt T.kids[k] T.keys[k]
     simp only[BZ,List.take,List.drop,List.cons_append,List.nil_append,List.length_cons,List.length_nil,Nat.reduceAdd]at hset
     have hn:(R k).map CellD.cs++(T.kids[k].cells T.keys[k]).map CellD.cs=(R (k+1)).map CellD.cs:=by rw[hts,List.map_append]
     generalize T.kids[k]=u at *
     generalize T.keys[k]=s at *
     refine A3 (j2 (j12 hd hTm hTl hr1 hg1 hr3 hg3 hb0 hall hru hgu hset) (j2 h1 hw1)) ?_
     refine⟨k+1,by omega,by omega,?_⟩
     exact As (AH.of [((96,0),(96,0)),((97,0),(114,0))] []) hn
    ·have hd:decide ((k:Int)<(T.kids.length:Int))=false:=by simpa using hlt
     have hke:k=T.kids.length:=by omega
     have hall:R k=T.enc:=by rw[hR,hke];exact Hn T
     refine A3 (j3 hd hTm hTl) ?_
     exact Ab (Aa [((0,0),(97,0))] []) Tryz.results143 hall
end Go.Proofs.YtllfmaflodbieaaGreatDoor
