/- spec.l14Set, l14Drop, l14Objects, l14Arrays, l14Diff, by the engine. -/
import Derived.Test.YtllfmaflodbieaaGreatDoorKG73uG30
set_option linter.all false
set_option maxHeartbeats 8000000
namespace Go.Proofs.YtllfmaflodbieaaGreatDoor
open Go.RowKit
set_option maxRecDepth 10000
theorem Uu (l:List EditD):((l.map EditD.cs).all fun r=>r.length==3)=true:=by simp[EditD.cs]
theorem Pa (l:List EditD):AE (l.map EditD.cs)=l.map EditD.cs:=by
 induction l with
 |nil=>rfl
 |cons d l ih=>simp only[List.map_cons,AE,ih,EditD.cs,Ct,C.forget]
attribute [go_sem] Uu Pa
theorem NU (p:List V) (hp:(Ba p).count≤500000):AC Tryz.prog 269 [.c (.sl ((p.map V.enc).map A9))] [] (Ii p).av []:=by
 have hl:=Gp p hp
 have hn:(([]:List CellD).map CellD.cs)=[]:=rfl
 unfold Ii EditD.av
 refine A5 Tryz.func269 Tryz.ntmps269 ?_
 refine A3 q9 ?_
 refine w9 (A6 [] hl) q9 ?_
 refine A3 q9 ?_
 exact Ab (Aa [] []) Tryz.results269 hn
theorem Lr (p:List V) (x:V) (hp:(Ba p).count≤500000) (hx:x.count≤500000):AC Tryz.prog 242 [.c (.sl ((p.map V.enc).map A9)),Aq x.enc] [] (IH p x).av []:=by
 have hl:=Gp p hp
 have hel:=Bb x
 have hbl:0+x.enc.length≤1000000:=by omega
 unfold IH EditD.av
 refine A5 Tryz.func242 Tryz.ntmps242 ?_
 refine A3 q9 ?_
 refine w9 (A6 [] hl) q9 ?_
 refine A3 hbl ?_
 exact Ab (Aa [] [(9,0)]) Tryz.results242 hbl
def Qw (n:Nat):Prop:=∀(a b:V) (p:List V),a.right→b.right→Iy p→p.length+n≤10000→(Cw n a b p).length≤800000→a.count≤n →
 AC Tryz.prog 200 [Aq a.enc,Aq b.enc,.c (.sl ((p.map V.enc).map A9))] [] (.c (.sl ((Cw n a b p).map EditD.cs))) []
theorem Tv {n:Nat}(ih:Qw n) {a b:V}{p:List V}(ha:a.right) (hb:b.right) (ha6:a.kind=6) (hb6:b.kind=6) (hp:Iy p) (hpn:p.length+n≤9999)
  (hl:((Cc a.keys b.keys).flatMap (H3 (Cw n) a b p)).length≤800000) (hn:a.count≤n+1) :
  AC Tryz.prog 240 [Aq a.enc,Aq b.enc,.c (.sl ((p.map V.enc).map A9))] [] (.own (0,0)) [((0,0),.row false 3 53 (((Cc a.keys b.keys).flatMap (H3 (Cw n) a b p)).map EditD.cs))]:=by
 have hak:=H7 ha
 have hbk:=H7 hb
 have hca:=AK a
 have hac:=ha.2.1
 have hbc:=hb.2.1
 have hkeyA:=ET ha.1 hac
 rw[show Bo a a.kids.length=a.keys from ES ha ha6]at hkeyA
 have hkeyB:=ET hb.1 hbc
 rw[show Bo b b.kids.length=b.keys from ES hb hb6]at hkeyB
 have hmg:=T7 a.keys b.keys (by omega) (by omega)
 have hKm:=CS _ a.keys b.keys (Nat.le_refl _)
 have hpa:=Cj ha.1 hac
 have hpb:=Cj hb.1 hbc
 have hllA:=(B9 ha ha6).2.2
 have hllB:=(B9 hb hb6).2.2
 have hKl:(Cc a.keys b.keys).length≤a.keys.length+b.keys.length:=by
  rw[Tp (OL (B9 ha ha6).1) (OL (B9 hb hb6).1)]
  have:=Gq (a.keys++b.keys)
  rwa [List.length_append]at this
 generalize Cc a.keys b.keys=K at *
 obtain⟨F,hF0,hFs,hFe,hFl⟩:∃F:Nat→List EditD,F 0=[]∧(∀k (h:k<K.length),F (k+1)=F k++H3 (Cw n) a b p K[k])∧F K.length=K.flatMap (H3 (Cw n) a b p)∧∀k,k≤K.length→(F k).length≤(K.flatMap (H3 (Cw n) a b p)).length:=by
  refine⟨fun k=>(K.take k).flatMap (H3 (Cw n) a b p),by simp,fun k h=>?_,by simp,fun k h=>?_⟩
  ·dsimp only;rw[List.take_succ_eq_append_getElem h,List.flatMap_append];simp
  ·have e:K.flatMap (H3 (Cw n) a b p)=(K.take k).flatMap (H3 (Cw n) a b p)++(K.drop k).flatMap (H3 (Cw n) a b p):=by rw[←List.flatMap_append,List.take_append_drop]
   rw[e,List.length_append]
   exact Nat.le_add_right _ _
 rw[←hFe]at hl ⊢
 rw[←hFe]at hFl
 have h0:(F 0).map EditD.cs=[]:=by rw[hF0];rfl
 have hKc:(K.map Ac).length=K.length:=by simp
 refine A5 Tryz.func240 Tryz.ntmps240 ?_
 refine A3 q9 ?_
 refine w9 (A6 [] hkeyA) q9 ?_
 refine A3 q9 ?_
 refine w9 (A6 [] hkeyB) q9 ?_
 refine A3 q9 ?_
 refine w9 (A6 [] hmg) q9 ?_
 refine A3 q9 ?_
 refine AZ (κ:=Nat) (fun k=>⟨mkS 0 84 [(0,Aq a.enc),(1,Aq b.enc),(2,.c (.sl ((p.map V.enc).map A9))),(7,.own (99,0)),(8,.c (.sl (a.keys.map Ac))),(9,.c (.sl (b.keys.map Ac))),(10,.c (.sl (K.map Ac))),(11,.c (.int .i64 k))],
   [((99,0),.row false 3 53 ((F k).map EditD.cs))]⟩)
  (fun k=>k≤K.length) (fun k=>K.length-k) 0 (Nat.zero_le _) ?_ ?_
 ·exact As (AH.of [((99,0),(15,0))] []) h0
 ·intro k hk
  by_cases hlt:k<K.length
  ·have hdk:decide ((k:Int)<(K.length:Int))=true:=by simpa using hlt
   have hw:=AA (k:=k) (by omega)
   have hr:Ae (K.map Ac) 1 k=true:=by simp[Ae,hlt,Ac]
   have hg:(K.map Ac)[k]? = some [.str K[k]]:=by simp[hlt,Ac]
   have hFk:=hFl k (by omega)
   have hFk1:=hFl (k+1) (by omega)
   rw[hFs k hlt,List.length_append]at hFk1
   have hnext:=hFs k hlt
   have hbe:=Fx p (C6 K[k]) (by omega)
   have htx:=Da K[k]
   have hlf:=XY hp K[k]
   have har:=J5 hlf
   have hpl:(p++[C6 K[k]]).length=p.length+1:=by simp
   have hpA:=Md a.keys K[k] (by omega)
   have hpB:=Md b.keys K[k] (by omega)
   have hmr:=Cv ha ha6 K[k]
   have hmr2:=Cv hb hb6 K[k]
   generalize K[k]=key at *
   unfold H3 at hnext hFk1
   generalize C6 key=q at *
   cases hB:B3 b.keys key with
   |none =>
    rw[hB]at hnext hFk1 hpB
    simp only[Option.isSome_none,if_true]at hnext hFk1
    dsimp only at hpB
    have hdr:=NU (p++[q]) (by omega)
    generalize (match B3 a.keys key with | some i=>(i:Int) | none=>-1)=inA at *
    have hm1:decide ((-1:Int)<0)=true:=rfl
    have hol:(F k).length+1≤1000000:=by omega
    have hrow:(F k).map EditD.cs++[[.int .i64 (Ii (p++[q])).op,.sl ((Ii (p++[q])).path.map CellD.cs),.sl ((Ii (p++[q])).x.map CellD.cs)]]=(F (k+1)).map EditD.cs:=by rw[hnext,List.map_append];rfl
    refine A3 (j4 hdk hr hg hKc) ?_
    refine w9 (A6 [] htx) q9 ?_
    refine w9 (A6 [] hbe) q9 ?_
    refine A3 (j2 hr hg) ?_
    refine w7 (A8 [] hpA) q9 ?_
    refine A3 (j2 hr hg) ?_
    refine w7 (A8 [] hpB) q9 ?_
    refine A3 hm1 ?_
    refine w9 (A6 [] hdr) q9 ?_
    refine A3 (j2 hw hol) ?_
    refine⟨k+1,by omega,by omega,?_⟩
    exact As (AH.of [((99,0),(69,0))] []) hrow
   |some j =>
    obtain⟨hj1,hj2,_⟩:=Dh hB
    have hjk:j<b.kids.length:=by omega
    rw[hB]at hnext hFk1 hpB
    simp only[Option.isSome_some,Bool.true_eq_false,if_false]at hnext hFk1
    dsimp only at hpB
    have hm1:decide ((j:Int)<0)=false:=by simp
    have hrj:Ae ((b.kids.map V.enc).map A9) 1 j=true:=by simp[Ae,hjk,A9]
    have hgj:((b.kids.map V.enc).map A9)[j]? = some [.sl ((b.member key).enc.map CellD.cs)]:=by
     rw[EW hB (List.getElem?_eq_getElem hjk)]
     simp[hjk,A9]
    cases hA:B3 a.keys key with
    |none =>
     rw[hA]at hnext hFk1 hpA
     simp only[Option.isSome_none,if_true]at hnext hFk1
     dsimp only at hpA
     have hm2:decide ((-1:Int)<0)=true:=rfl
     have hdr:=Lr (p++[q]) (b.member key) (by omega) (by have:=hmr2.2.1;omega)
     have hol:(F k).length+1≤1000000:=by omega
     have hrow:(F k).map EditD.cs++[[.int .i64 (IH (p++[q]) (b.member key)).op,.sl ((IH (p++[q]) (b.member key)).path.map CellD.cs),.sl ((IH (p++[q]) (b.member key)).x.map CellD.cs)]]=(F (k+1)).map EditD.cs:=by rw[hnext,List.map_append];rfl
     refine A3 (j4 hdk hr hg hKc) ?_
     refine w9 (A6 [] htx) q9 ?_
     refine w9 (A6 [] hbe) q9 ?_
     refine A3 (j2 hr hg) ?_
     refine w7 (A8 [] hpA) q9 ?_
     refine A3 (j2 hr hg) ?_
     refine w7 (A8 [] hpB) q9 ?_
     refine A3 (j2 hm1 hm2) ?_
     refine w9 (A6 [] hpb) q9 ?_
     refine A3 (j2 hrj hgj) ?_
     refine w9 (A6 [] hdr) q9 ?_
     refine A3 (j2 hw hol) ?_
     refine⟨k+1,by omega,by omega,?_⟩
     exact As (AH.of [((99,0),(82,0))] []) hrow
    |some i =>
     obtain⟨hi1,hi2,_⟩:=Dh hA
     have hik:i<a.kids.length:=by omega
     rw[hA]at hnext hFk1 hpA
     simp only[Option.isSome_some,Bool.true_eq_false,if_false]at hnext hFk1
     dsimp only at hpA
     have hm2:decide ((i:Int)<0)=false:=by simp
     have hmc:(a.member key).count≤n:=by
      rw[EW hA (List.getElem?_eq_getElem hik)]
      have:=BB (List.getElem_mem hik)
      omega
     have hri:Ae ((a.kids.map V.enc).map A9) 1 i=true:=by simp[Ae,hik,A9]
     have hgi:((a.kids.map V.enc).map A9)[i]? = some [.sl ((a.member key).enc.map CellD.cs)]:=by
      rw[EW hA (List.getElem?_eq_getElem hik)]
      simp[hik,A9]
     have hst:=ih (a.member key) (b.member key) (p++[q]) hmr hmr2 hlf (by omega) (by omega) hmc
     generalize Cw n (a.member key) (b.member key) (p++[q])=R at *
     have hol:(F k).length+R.length≤1000000:=by omega
     have hrow:(F k).map EditD.cs++R.map EditD.cs=(F (k+1)).map EditD.cs:=by rw[hnext,List.map_append]
     refine A3 (j4 hdk hr hg hKc) ?_
     refine w9 (A6 [] htx) q9 ?_
     refine w9 (A6 [] hbe) q9 ?_
     refine A3 (j2 hr hg) ?_
     refine w7 (A8 [] hpA) q9 ?_
     refine A3 (j2 hr hg) ?_
     refine w7 (A8 [] hpB) q9 ?_
     refine A3 (j2 hm1 hm2) ?_
     refine w9 (A6 [] hpa) q9 ?_
     refine A3 (j2 hri hgi) ?_
     refine w9 (A6 [] hpb) q9 ?_
     refine A3 (j2 hrj hgj) ?_
     refine w9 (A6 [] hst) q9 ?_
     refine A3 (j2 hw hol) ?_
     refine⟨k+1,by omega,by omega,?_⟩
     exact As (AH.of [((99,0),(61,0))] []) hrow
  ·have hdk:decide ((k:Int)<(K.length:Int))=false:=by simpa using hlt
   have hke:k=K.length:=by omega
   subst hke
   refine A3 (j2 hdk hKc) ?_
   exact Ab (Aa [((0,0),(99,0))] []) Tryz.results240 hdk
theorem Ux {n:Nat}(ih:Qw n) {a b:V}{p:List V}(ha:a.right) (hb:b.right) (hp:Iy p) (hpn:p.length+n≤9999)
  (hl:(Uw (Cw n) a b p).length≤800000) (hn:a.count≤n+1) :
  AC Tryz.prog 241 [Aq a.enc,Aq b.enc,.c (.sl ((p.map V.enc).map A9))] [] (.own (0,0)) [((0,0),.row false 3 53 ((Uw (Cw n) a b p).map EditD.cs))]:=by
 have hak:=H7 ha
 have hbk:=H7 hb
 have hca:=AK a
 have hac:=ha.2.1
 have hbc:=hb.2.1
 have hpa:=Cj ha.1 hac
 have hpb:=Cj hb.1 hbc
 have hkm:((a.kids.map V.enc).map A9).length=a.kids.length:=by simp
 have hkm2:((b.kids.map V.enc).map A9).length=b.kids.length:=by simp
 obtain⟨m,hm⟩:∃m,min a.kids.length b.kids.length=m:=⟨_,rfl⟩
 unfold Uw at hl ⊢
 rw[hm]at hl ⊢
 have hma:m≤a.kids.length:=by omega
 have hmb:m≤b.kids.length:=by omega
 have hmw:a.kids.length=m∨b.kids.length=m:=by omega
 obtain⟨F,hF0,hFs,hFe,hFl⟩:∃F:Nat→List EditD,F 0=[]∧(∀k,F (k+1)=F k++Ib (Cw n) a b p k)∧F m=(List.range m).flatMap (Ib (Cw n) a b p)∧∀k,k≤m→(F k).length≤(F m).length:=by
  refine⟨fun k=>(List.range k).flatMap (Ib (Cw n) a b p),by simp,fun k=>?_,rfl,fun k h=>?_⟩
  ·dsimp only;rw[List.range_succ,List.flatMap_append];simp
  ·dsimp only
   obtain⟨d,rfl⟩:∃d,m=k+d:=⟨m-k,by omega⟩
   rw[List.range_add,List.flatMap_append,List.length_append]
   exact Nat.le_add_right _ _
 obtain⟨D,hD0,hDs,hDe,hDl⟩:∃D:Nat→List EditD,D 0=[]∧(∀j,D (j+1)=D j++[Kp a p j])∧D (a.kids.length-m)=(List.range (a.kids.length-m)).map (Kp a p)∧∀j,(D j).length=j:=by
  refine⟨fun j=>(List.range j).map (Kp a p),by simp,fun j=>?_,rfl,fun j=>by simp⟩
  dsimp only;rw[List.range_succ,List.map_append];simp
 obtain⟨S,hS0,hSs,hSe,hSl⟩:∃S:Nat→List EditD,S 0=[]∧(∀j,S (j+1)=S j++[Ov b p (m+j)])∧S (b.kids.length-m)=(List.range (b.kids.length-m)).map (fun j=>Ov b p (m+j))∧∀j,(S j).length=j:=by
  refine⟨fun j=>(List.range j).map (fun j=>Ov b p (m+j)),by simp,fun j=>?_,rfl,fun j=>by simp⟩
  dsimp only;rw[List.range_succ,List.map_append];simp
 rw[←hFe,←hDe,←hSe]at hl ⊢
 simp only[List.length_append,hDl,hSl]at hl
 have h0:(F 0).map EditD.cs=[]:=by rw[hF0];rfl
 have hpl:∀q:V,(p++[q]).length=p.length+1:=fun q=>by simp
 refine A5 Tryz.func241 Tryz.ntmps241 ?_
 refine A3 q9 ?_
 refine w9 (A6 [] hpa) q9 ?_
 refine A3 q9 ?_
 refine w9 (A6 [] hpb) q9 ?_
 refine A3 q9 ?_
 refine AZ (κ:=Nat) (fun k=>⟨mkS 0 83 [(2,.c (.sl ((p.map V.enc).map A9))),(7,.own (99,0)),(8,.c (.sl ((a.kids.map V.enc).map A9))),(9,.c (.sl ((b.kids.map V.enc).map A9))),(10,.c (.int .i64 k))],
   [((99,0),.row false 3 53 ((F k).map EditD.cs))]⟩)
  (fun k=>k≤m) (fun k=>m-k) 0 (Nat.zero_le _) ?_ ?_
 ·exact As (AH.of [((99,0),(13,0))] []) h0
 ·intro k hk
  by_cases hlt:k<m
  ·have hd1:decide ((k:Int)<(a.kids.length:Int))=true:=by simp;omega
   have hd2:decide ((k:Int)<(b.kids.length:Int))=true:=by simp;omega
   have hw:=AA (k:=k) (by omega)
   have hka:k<a.kids.length:=by omega
   have hkb:k<b.kids.length:=by omega
   have hr:Ae ((a.kids.map V.enc).map A9) 1 k=true:=by simp[Ae,hka,A9]
   have hg:((a.kids.map V.enc).map A9)[k]? = some [.sl (a.kids[k].enc.map CellD.cs)]:=by simp[hka,A9]
   have hr2:Ae ((b.kids.map V.enc).map A9) 1 k=true:=by simp[Ae,hkb,A9]
   have hg2:((b.kids.map V.enc).map A9)[k]? = some [.sl (b.kids[k].enc.map CellD.cs)]:=by simp[hkb,A9]
   have hFk1:=hFl (k+1) (by omega)
   have hnext:=hFs k
   rw[hnext,List.length_append]at hFk1
   have hnb:=Bd k
   have hbe:=Fx p (Ar k) (by omega)
   have hlf:=Lw hp k
   have hmemA:=BB (List.getElem_mem hka)
   have hra:=AQ ha (List.getElem_mem hka)
   have hrb:=AQ hb (List.getElem_mem hkb)
   unfold Ib at hnext hFk1
   rw[List.getD_eq_getElem?_getD,List.getElem?_eq_getElem hka,Option.getD_some,List.getD_eq_getElem?_getD,List.getElem?_eq_getElem hkb,Option.getD_some]at hnext hFk1
   have hst:=ih a.kids[k] b.kids[k] (p++[Ar k]) hra hrb hlf (by rw[hpl];omega) (by omega) (by omega)
   generalize Cw n a.kids[k] b.kids[k] (p++[Ar k])=R at *
   generalize a.kids[k]=x at *
   generalize b.kids[k]=y at *
   generalize Ar k=q at *
   have hol:(F k).length+R.length≤1000000:=by omega
   have hrow:(F k).map EditD.cs++R.map EditD.cs=(F (k+1)).map EditD.cs:=by rw[hnext,List.map_append]
   refine A3 (j8 hd1 hd2 hkm hkm2 hr hg hr2 hg2) ?_
   refine w9 (A6 [] hnb) q9 ?_
   refine w9 (A6 [] hbe) q9 ?_
   refine w9 (A6 [] hst) q9 ?_
   refine A3 (j2 hw hol) ?_
   refine⟨k+1,by omega,by omega,?_⟩
   exact As (AH.of [((99,0),(44,0))] []) hrow
  ·have hke:k=m:=by omega
   subst hke
   have hws:IntKind.i64.wrap ((a.kids.length:Int)-1)=(a.kids.length:Int)-1-(0:Nat):=by rw[IntWalk.i64_in _ (by omega)];omega
   have h1:(F k++D 0).map EditD.cs=(F k).map EditD.cs:=by rw[hD0,List.append_nil]
   by_cases hka:k<a.kids.length
   case' pos =>
    have hd1:decide ((k:Int)<(a.kids.length:Int))=true:=by simpa using hka
    have hd2:decide ((k:Int)<(b.kids.length:Int))=false:=by simp;omega
   case' neg =>
    have hd1:decide ((k:Int)<(a.kids.length:Int))=false:=by simpa using hka
    have hd2:True:=trivial
   all_goals
    refine A3 (j5 hd1 hd2 hkm hkm2 hws) ?_
    refine AZ (κ:=Nat) (fun j=>⟨mkS 0 83 [(2,.c (.sl ((p.map V.enc).map A9))),(7,.own (99,0)),(8,.c (.sl ((a.kids.map V.enc).map A9))),(9,.c (.sl ((b.kids.map V.enc).map A9))),(11,.c (.int .i64 ((a.kids.length:Int)-1-(j:Nat))))],
      [((99,0),.row false 3 53 ((F k++D j).map EditD.cs))]⟩)
     (fun j=>j≤a.kids.length-k) (fun j=>a.kids.length-k-j) 0 (Nat.zero_le _) ?_ ?_
    ·exact As (AH.of [((99,0),(99,0))] []) h1
    ·intro j hj
     by_cases hjl:j<a.kids.length-k
     ·obtain⟨i,hi⟩:∃i:Nat,(a.kids.length:Int)-1-(j:Nat)=(i:Int):=⟨a.kids.length-1-j,by omega⟩
      have hge:decide ((i:Int)≥(b.kids.length:Int))=true:=by simp;omega
      have hw:IntKind.i64.wrap ((i:Int)-1)=(a.kids.length:Int)-1-(j+1:Nat):=by rw[IntWalk.i64_in _ (by omega)];omega
      have hnext:=hDs j
      have hei:a.kids.length-1-j=i:=by omega
      unfold Kp at hnext
      rw[hei]at hnext
      have hlf:=Lw hp i
      have har:=J5 hlf
      rw[hpl]at har
      have hDj:=hDl j
      have hdr:=NU (p++[Ar i]) (by omega)
      have hnb:=Bd i
      have hbe:=Fx p (Ar i) (by omega)
      have hol:(F k++D j).length+1≤1000000:=by rw[List.length_append];omega
      have hrow:(F k++D j).map EditD.cs++[[.int .i64 (Ii (p++[Ar i])).op,.sl ((Ii (p++[Ar i])).path.map CellD.cs),.sl ((Ii (p++[Ar i])).x.map CellD.cs)]]=(F k++D (j+1)).map EditD.cs:=by rw[hnext,←List.append_assoc,List.map_append (l₁:=F k++D j)];rfl
      rw[hi]
      generalize Ar i=q at *
      refine A3 (j2 hge hkm2) ?_
      refine w9 (A6 [] hnb) q9 ?_
      refine w9 (A6 [] hbe) q9 ?_
      refine w9 (A6 [] hdr) q9 ?_
      refine A3 (j2 hw hol) ?_
      refine⟨j+1,by omega,by omega,?_⟩
      exact As (AH.of [((99,0),(61,0))] []) hrow
     ·have hje:j=a.kids.length-k:=by omega
      have hge:decide ((a.kids.length:Int)-1-(j:Nat)≥(b.kids.length:Int))=false:=by simp;omega
      subst hje
      have h2:(F k++D (a.kids.length-k)++S 0).map EditD.cs=(F k++D (a.kids.length-k)).map EditD.cs:=by rw[hS0,List.append_nil]
      have hk0:((a.kids.length+0:Nat):Int)=(a.kids.length:Int):=rfl
      refine A3 (j3 hge hkm2 hkm) ?_
      refine AZ (κ:=Nat) (fun j=>⟨mkS 0 83 [(2,.c (.sl ((p.map V.enc).map A9))),(7,.own (99,0)),(9,.c (.sl ((b.kids.map V.enc).map A9))),(12,.c (.int .i64 (a.kids.length+j:Nat)))],
        [((99,0),.row false 3 53 ((F k++D (a.kids.length-k)++S j).map EditD.cs))]⟩)
       (fun j=>j≤b.kids.length-k) (fun j=>b.kids.length-k-j) 0 (Nat.zero_le _) ?_ ?_
      ·exact As (AH.of [((99,0),(99,0))] []) (j2 h2 hk0)
      ·intro j hj
       obtain⟨i,hi⟩:∃i,a.kids.length+j=i:=⟨_,rfl⟩
       have hnext:=hSs j
       rw[hi]
       by_cases hjl:j<b.kids.length-k
       ·have hki:k+j=i:=by omega
        rw[hki]at hnext
        have hkb:i<b.kids.length:=by omega
        have hd3:decide ((i:Int)<(b.kids.length:Int))=true:=by simpa using hkb
        have hw:=AA (k:=i) (by omega)
        have hr2:Ae ((b.kids.map V.enc).map A9) 1 i=true:=by simp[Ae,hkb,A9]
        have hg2:((b.kids.map V.enc).map A9)[i]? = some [.sl (b.kids[i].enc.map CellD.cs)]:=by simp[hkb,A9]
        unfold Ov at hnext
        rw[List.getD_eq_getElem?_getD,List.getElem?_eq_getElem hkb,Option.getD_some]at hnext
        have hlf:=Lw hp i
        have har:=J5 hlf
        rw[hpl]at har
        have hSj:=hSl j
        have hDj:=hDl (a.kids.length-k)
        have hrb:=AQ hb (List.getElem_mem hkb)
        have hdr:=Lr (p++[Ar i]) b.kids[i] (by omega) (by have:=hrb.2.1;omega)
        have hnb:=Bd i
        have hbe:=Fx p (Ar i) (by omega)
        generalize b.kids[i]=y at *
        have hol:(F k++D (a.kids.length-k)++S j).length+1≤1000000:=by simp only[List.length_append];omega
        have hrow:(F k++D (a.kids.length-k)++S j).map EditD.cs++[[.int .i64 (IH (p++[Ar i]) y).op,.sl ((IH (p++[Ar i]) y).path.map CellD.cs),.sl ((IH (p++[Ar i]) y).x.map CellD.cs)]]=(F k++D (a.kids.length-k)++S (j+1)).map EditD.cs:=by rw[hnext,←List.append_assoc (F k++D (a.kids.length-k)),List.map_append (l₁:=F k++D (a.kids.length-k)++S j)];rfl
        generalize Ar i=q at *
        refine A3 (j2 hd3 hkm2) ?_
        refine w9 (A6 [] hnb) q9 ?_
        refine w9 (A6 [] hbe) q9 ?_
        refine A3 (j2 hr2 hg2) ?_
        refine w9 (A6 [] hdr) q9 ?_
        refine A3 (j2 hw hol) ?_
        have hi1:a.kids.length+(j+1)=i+1:=by omega
        refine⟨j+1,by omega,by omega,?_⟩
        exact As (AH.of [((99,0),(81,0))] []) (j2 hi1 hrow)
       ·have hje:j=b.kids.length-k:=by omega
        have hd3:decide ((i:Int)<(b.kids.length:Int))=false:=by simp;omega
        subst hje
        refine A3 (j2 hd3 hkm2) ?_
        exact Ab (Aa [((0,0),(99,0))] []) Tryz.results241 hd3
def Wj (a b:V) (p:List V) (R:List EditD):Prop:=(R=[]∧AC Tryz.prog 200 [Aq a.enc,Aq b.enc,.c (.sl ((p.map V.enc).map A9))] [] .nils [])∨AC Tryz.prog 200 [Aq a.enc,Aq b.enc,.c (.sl ((p.map V.enc).map A9))] [] (.own (0,0)) [((0,0),.row false 3 53 (R.map EditD.cs))]
theorem Ss {n:Nat}(ih:Qw n) (a b:V) (p:List V) (ha:a.right) (hb:b.right) (hp:Iy p) (hpn:p.length+(n+1)≤10000) (hl:(Cw (n+1) a b p).length≤800000) (hc:a.count≤n+1):Wj a b p (Cw (n+1) a b p):=by
 unfold Wj
 have hcm:=Rh a.count a b (Nat.le_refl _) ha hb
 have hr0:Ae (a.enc.map CellD.cs) 5 0=true:=by unfold Ae;rw[show (0:Int).toNat=0 from rfl,AT];rfl
 have hg0:=AT a
 have hr1:Ae (b.enc.map CellD.cs) 5 0=true:=by unfold Ae;rw[show (0:Int).toNat=0 from rfl,AT];rfl
 have hg1:=AT b
 have hnil:([]:List EditD).map EditD.cs=[]:=rfl
 unfold Cw at hl ⊢
 by_cases h0:a.cmp b=0
 ·rw[if_pos h0]
  refine .inl ⟨rfl,?_⟩
  have hb0:(a.cmp b==0)=true:=by simpa using h0
  refine A5 Tryz.func200 Tryz.ntmps200 ?_
  refine A3 q9 ?_
  refine w7 (A8 [] hcm) q9 ?_
  refine A3 hb0 ?_
  exact Ab (Aa [] []) Tryz.results200 hnil
 ·rw[if_neg h0]at hl ⊢
  have hb0:(a.cmp b==0)=false:=by simpa using h0
  by_cases h6:a.kind=6∧b.kind=6
  ·rw[if_pos h6]at hl ⊢
   have hob:=Tv ih ha hb h6.1 h6.2 hp (by omega) hl (by omega)
   have e1:(a.kind==6)=true:=by simp[h6.1]
   have e2:(b.kind==6)=true:=by simp[h6.2]
   generalize (Cc a.keys b.keys).flatMap _=R at *
   refine .inr ?_
   refine A5 Tryz.func200 Tryz.ntmps200 ?_
   refine A3 q9 ?_
   refine w7 (A8 [] hcm) q9 ?_
   refine A3 (j7 hb0 hr0 hg0 hr1 hg1 e1 e2) ?_
   refine w12 (Au [] hob) q9 ?_
   refine A3 q9 ?_
   exact Ab (Aa [((0,0),(28,0))] []) Tryz.results200 hb0
  ·rw[if_neg h6]at hl ⊢
   have hk6:(a.kind==6)=false∨(a.kind==6)=true∧(b.kind==6)=false:=by
    cases e1:a.kind==6 with
    |false=>exact .inl rfl
    |true=>exact .inr ⟨rfl,by cases e2:b.kind==6 with
     |false=>rfl
     |true=>exact absurd ⟨by simpa using e1,by simpa using e2⟩ h6⟩
   have hk5:(a.kind==5&&b.kind==5)=true∨(a.kind==5)=false∨(a.kind==5)=true∧(b.kind==5)=false:=by
    cases e1:a.kind==5 with
    |false=>exact .inr (.inl rfl)
    |true=>cases e2:b.kind==5 with
     |false=>exact .inr (.inr ⟨rfl,rfl⟩)
     |true=>exact .inl rfl
   by_cases h5:a.kind=5∧b.kind=5
   ·rw[if_pos h5]at hl ⊢
    have hob:=Ux ih ha hb hp (by omega) hl (by omega)
    have e1:(a.kind==5)=true:=by simp[h5.1]
    have e2:(b.kind==5)=true:=by simp[h5.2]
    have e3:(a.kind==6)=false:=by simp[h5.1]
    generalize Uw (Cw n) a b p=R at *
    refine .inr ?_
    refine A5 Tryz.func200 Tryz.ntmps200 ?_
    refine A3 q9 ?_
    refine w7 (A8 [] hcm) q9 ?_
    refine A3 (j8 hb0 hr0 hg0 hr1 hg1 e1 e2 e3) ?_
    refine w12 (Au [] hob) q9 ?_
    refine A3 q9 ?_
    exact Ab (Aa [((0,0),(45,0))] []) Tryz.results200 hb0
   ·rw[if_neg h5]at hl ⊢
    have hpc:=J5 hp
    have hdr:=Lr p b (by omega) (by have:=hb.2.1;omega)
    have hrow:[IH p b].map EditD.cs=[[.int .i64 (IH p b).op,.sl ((IH p b).path.map CellD.cs),.sl ((IH p b).x.map CellD.cs)]]:=rfl
    have hk5:(a.kind==5)=false∨(a.kind==5)=true∧(b.kind==5)=false:=hk5.resolve_left fun h=>h5 (by simpa using h)
    rw[hrow]
    generalize IH p b=d at *
    refine .inr ?_
    rcases hk6 with e1 | ⟨e1,e2⟩
    case' inl=>have e2:True:=trivial
    all_goals
     rcases hk5 with e3 | ⟨e3,e4⟩
     case' inl=>have e4:True:=trivial
     all_goals
      refine A5 Tryz.func200 Tryz.ntmps200 ?_
      refine A3 q9 ?_
      refine w7 (A8 [] hcm) q9 ?_
      refine A3 (j9 hb0 hr0 hg0 hr1 hg1 e1 e2 e3 e4) ?_
      refine w9 (A6 [] hdr) q9 ?_
      refine A3 q9 ?_
      exact Ab (Aa [((0,0),(49,0))] []) Tryz.results200 hb0
theorem Su {a b:V}{p:List V}{R:List EditD}(h:Wj a b p R):AC Tryz.prog 200 [Aq a.enc,Aq b.enc,.c (.sl ((p.map V.enc).map A9))] [] (.c (.sl (R.map EditD.cs))) []:=by
 rcases h with⟨rfl,h⟩ | h
 ·exact wAS (AC.says [] [] h) @List.map_nil.{0,0}
 ·exact wAS (AC.says [] [(0,0)] h) q9
theorem St:∀n,Qw n
 | 0=>by intro a b p ha _ _ _ _ hc;have:=AY a;omega
 |n+1=>fun a b p ha hb hp hpn hl hc=>Su (Ss (St n) a b p ha hb hp hpn hl hc)
end Go.Proofs.YtllfmaflodbieaaGreatDoor
