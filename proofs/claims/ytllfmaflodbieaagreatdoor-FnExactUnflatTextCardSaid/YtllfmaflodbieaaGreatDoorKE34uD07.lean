/- Texts of this proof: E34 G81 D03 D04 E39 D05 D06 D07. -/
import Derived.Test.YtllfmaflodbieaaGreatDoorKM57uE32
import Derived.Laws.Strings3
set_option linter.all false
set_option maxHeartbeats 8000000
namespace Go.Proofs.YtllfmaflodbieaaGreatDoor
section
open Go.RowKit
section
variable {P:Program} {ops:Array Oper} {r:List Oper} {σ τ:ASt} {fs:List AEff} {K:ASt→List AEff→Prop} {E:AEff}
theorem Fits.ofB (bw:List Id) (ρ ρ':List (Id×Id)) {fz:List (Id×AO)}{m:Mem}{res:AV}{m':Mem}(h1:Jq (rn ρ) σ.mem bw m) (h2:(m.all fun p=>p.2.refs m)=true) (hfz:Gl σ.mem bw=fz) (hids:fz.map (·.1)=bw) (hndb:bw.Nodup) (h3:(m.map (·.1)).Nodup) (h4:(m.filterMap fun p=>if p.2.live then rn ρ p.1 else none).Nodup)
  (hl:(m.all fun p=>p.2.live)=true) (hl':(m'.all fun p=>p.2.live)=true) (hnd:(m'.map fun p=>rnF ρ' p.1).Nodup) (hnd':(m'.map (·.1)).Nodup)
  (hnew:∀p,p∈m'→((m.get p.1).isSome=true∧rn ρ p.1=some (rnF ρ' p.1))∨(m.get p.1=none∧σ.mem.get (rnF ρ' p.1)=none))
  (hbw:∀j,j∈(m.filterMap fun p=>if p.2.live then rn ρ p.1 else none)→j ∉ bw):Fits σ (rn ρ) bw fz false (rnF ρ') m res m':=by
 subst hfz
 refine⟨MatM.of h1 h2 h3 h4 hbw,fun p hp=>List.all_eq_true.1 hl p hp,hnd,hnd',fun p hp=>List.all_eq_true.1 hl' p hp,fun p hp=>?_,fun p hp=>?_,fun _ j hj=>by rw[hids];exact hj,by rw[hids];exact hndb,fun h=>by cases h⟩
 ·rcases hnew p hp with⟨g1,g2⟩ | g
  ·obtain⟨o,ho⟩:=Option.isSome_iff_exists.1 g1
   exact .inl ⟨o,ho,g2⟩
  ·exact .inr g
 ·unfold Gl at hp
  simp only[List.mem_filterMap,Option.map_eq_some_iff]at hp
  obtain⟨j,hj,rows,hr,rfl⟩:=hp
  exact⟨hj,rows,rfl,hr⟩
theorem Fits.ofC (bw:List Id) (ρ ρ':List (Id×Id)) {m:Mem}{res:AV}{m':Mem}(h1:Jq (rn ρ) σ.mem bw m) (h2:(m.all fun p=>p.2.refs m)=true) (hc1:res.closed=true) (hc2:(m'.all fun p=>p.2.closed)=true) (h3:(m.map (·.1)).Nodup) (h4:(m.filterMap fun p=>if p.2.live then rn ρ p.1 else none).Nodup)
  (hl:(m.all fun p=>p.2.live)=true) (hl':(m'.all fun p=>p.2.live)=true) (hnd:(m'.map fun p=>rnF ρ' p.1).Nodup) (hnd':(m'.map (·.1)).Nodup)
  (hnew:∀p,p∈m'→((m.get p.1).isSome=true∧rn ρ p.1=some (rnF ρ' p.1))∨(m.get p.1=none∧σ.mem.get (rnF ρ' p.1)=none))
  (hbw:∀j,j∈(m.filterMap fun p=>if p.2.live then rn ρ p.1 else none)→j ∉ bw):Fits σ (rn ρ) bw [] true (rnF ρ') m res m':=by
 refine⟨MatM.of h1 h2 h3 h4 hbw,fun p hp=>List.all_eq_true.1 hl p hp,hnd,hnd',fun p hp=>List.all_eq_true.1 hl' p hp,fun p hp=>?_,fun p hp=>absurd hp (by simp),fun h=>Bool.noConfusion h,List.nodup_nil,fun _=>⟨hc1,fun p hp=>List.all_eq_true.1 hc2 p hp⟩⟩
 rcases hnew p hp with⟨g1,g2⟩ | g
 ·obtain⟨o,ho⟩:=Option.isSome_iff_exists.1 g1
  exact .inl ⟨o,ho,g2⟩
 ·exact .inr g
theorem Qs (bw:List Id) (ρ ρ':List (Id×Id)) {d:Option Tmp}{fv:Operand}{args:Array Operand}{tys:Array TypeId}{ty:TypeId}{pos:String}{af:Array Edge}{gd:Option (Nat×Bool)}{m:Mem}{res:AV}{m':Mem}{f:FuncId}{caps cargs:List AV}
  (hac:AC P f cargs m res m') (hg:Bi ops σ ⟨d,.call ⟨.value fv,args,tys⟩,ty,pos,af,gd⟩=some true) (hv:σ.ev fv=.clo f caps) (hc:A5 P f=true)
  (hm:B5 (rn ρ) σ.mem bw cargs (args.toList.map σ.ev++caps)) (hrefs:BE m cargs=true) (h1:Jq (rn ρ) σ.mem bw m) (h2:(m.all fun p=>p.2.refs m)=true) (hc1:res.closed=true) (hc2:(m'.all fun p=>p.2.closed)=true) (h3:(m.map (·.1)).Nodup) (h4:(m.filterMap fun p=>if p.2.live then rn ρ p.1 else none).Nodup)
  (hl:(m.all fun p=>p.2.live)=true) (hl':(m'.all fun p=>p.2.live)=true) (hnd:(m'.map fun p=>rnF ρ' p.1).Nodup) (hnd':(m'.map (·.1)).Nodup)
  (hnew:∀p,p∈m'→((m.get p.1).isSome=true∧rn ρ p.1=some (rnF ρ' p.1))∨(m.get p.1=none∧σ.mem.get (rnF ρ' p.1)=none))
  (hbw:∀j,j∈(m.filterMap fun p=>if p.2.live then rn ρ p.1 else none)→j ∉ bw)
  (he:(⟨bw,DD (rn ρ) m++[]++m'.map (fun p=>(rnF ρ' p.1,p.2.ren (rnF ρ'))),res.ren (rnF ρ')⟩:AEff)=E) (hτ:σ.upd d E=τ) (h:Ad P ops r τ (fs++[E]) K):Ad P ops (⟨d,.call ⟨.value fv,args,tys⟩,ty,pos,af,gd⟩::r) σ fs K:=by
 subst he
 have:=F2 hac hg hv hc hm hrefs (Fits.ofC bw ρ ρ' h1 h2 hc1 hc2 h3 h4 hl hl' hnd hnd' hnew hbw) (τ:=τ) (r:=r) (fs:=fs) (K:=K)
 unfold AS at this
 exact this hτ h
theorem Dr (bw:List Id) (ρ ρ':List (Id×Id)) {d:Option Tmp}{fv:Operand}{args:Array Operand}{tys:Array TypeId}{ty:TypeId}{pos:String}{af:Array Edge}{gd:Option (Nat×Bool)}{fz:List (Id×AO)}{m:Mem}{res:AV}{m':Mem}{f:FuncId}{caps cargs:List AV}
  (hac:AC P f cargs m res m') (hg:Bi ops σ ⟨d,.call ⟨.value fv,args,tys⟩,ty,pos,af,gd⟩=some true) (hv:σ.ev fv=.clo f caps) (hc:A5 P f=true)
  (hm:B5 (rn ρ) σ.mem bw cargs (args.toList.map σ.ev++caps)) (hrefs:BE m cargs=true) (h1:Jq (rn ρ) σ.mem bw m) (h2:(m.all fun p=>p.2.refs m)=true) (hfz:Gl σ.mem bw=fz) (hids:fz.map (·.1)=bw) (hndb:bw.Nodup) (h3:(m.map (·.1)).Nodup) (h4:(m.filterMap fun p=>if p.2.live then rn ρ p.1 else none).Nodup)
  (hl:(m.all fun p=>p.2.live)=true) (hl':(m'.all fun p=>p.2.live)=true) (hnd:(m'.map fun p=>rnF ρ' p.1).Nodup) (hnd':(m'.map (·.1)).Nodup)
  (hnew:∀p,p∈m'→((m.get p.1).isSome=true∧rn ρ p.1=some (rnF ρ' p.1))∨(m.get p.1=none∧σ.mem.get (rnF ρ' p.1)=none))
  (hbw:∀j,j∈(m.filterMap fun p=>if p.2.live then rn ρ p.1 else none)→j ∉ bw)
  (he:(⟨bw,DD (rn ρ) m++fz++m'.map (fun p=>(rnF ρ' p.1,p.2.ren (rnF ρ'))),res.ren (rnF ρ')⟩:AEff)=E) (hτ:σ.upd d E=τ) (h:Ad P ops r τ (fs++[E]) K):Ad P ops (⟨d,.call ⟨.value fv,args,tys⟩,ty,pos,af,gd⟩::r) σ fs K:=by
 subst he
 have:=F2 hac hg hv hc hm hrefs (Fits.ofB bw ρ ρ' h1 h2 hfz hids hndb h3 h4 hl hl' hnd hnd' hnew hbw) (τ:=τ) (r:=r) (fs:=fs) (K:=K)
 unfold AS at this
 exact this hτ h
end
attribute [go_sem] AO.closed
theorem VH {A Φ G' G:Prop}(f:A) (F:Φ) (h:G') (e:A→Φ→G'→G:=by intro f F hh;apply f;(iterate 7 (focus (first | (simp only[go_sem,Nat.reduceEqDiff,Nat.reduceAdd,Nat.reduceSub,Nat.reduceLeDiff,Nat.reduceMul,Nat.reduceBEq,Nat.reduceLT,Int.reduceToNat,reduceCtorEq,F];first | done | exact rfl | (and_intros<;>rfl)) | exact rfl | decide)));(iterate 10 (focus (simp[go_sem,F];done)));(iterate 2 (focus (first | (simp only[go_sem,Nat.reduceEqDiff,Nat.reduceAdd,Nat.reduceSub,Nat.reduceLeDiff,Nat.reduceMul,Nat.reduceBEq,Nat.reduceLT,Int.reduceToNat,reduceCtorEq,F];first | done | exact rfl | (and_intros<;>rfl)) | exact rfl | decide)));exact hh):G:=e f F h
theorem Jj {A Φ G' G:Prop}(f:A) (F:Φ) (h:G') (e:A→Φ→G'→G:=by intro f F hh;apply f;(iterate 10 (focus (first | (simp only[go_sem,Nat.reduceEqDiff,Nat.reduceAdd,Nat.reduceSub,Nat.reduceLeDiff,Nat.reduceMul,Nat.reduceBEq,Nat.reduceLT,Int.reduceToNat,reduceCtorEq,F];first | done | exact rfl | (and_intros<;>rfl)) | exact rfl | decide)));(iterate 8 (focus (simp[go_sem,F];done)));(iterate 2 (focus (first | (simp only[go_sem,Nat.reduceEqDiff,Nat.reduceAdd,Nat.reduceSub,Nat.reduceLeDiff,Nat.reduceMul,Nat.reduceBEq,Nat.reduceLT,Int.reduceToNat,reduceCtorEq,F];first | done | exact rfl | (and_intros<;>rfl)) | exact rfl | decide)));exact hh):G:=e f F h
end
section
open Go.RowKit
set_option maxRecDepth 10000
theorem XE (k:Int):(V.mk k 0 ByteArray.empty [] []).enc.map CellD.cs=[[.int .i64 k,.int .i64 0,.str ByteArray.empty,.str ByteArray.empty,.int .i64 0]]:=rfl
set_option maxRecDepth 10000
def rdA (R:Rd V) (x:ByteArray):AV:=match R with
 | .ok v e=>Dk (.c (.sl (v.enc.map CellD.cs))) x e
 | .bad c p=>B9 c p
theorem DH {a b:Nat}(h:a+b<9000000000000000000):IntKind.i64.wrap ((a:Int)+(b:Int))=((a+b:Nat):Int):=by
 rw[CG (by omega) (by omega)];omega
theorem Jk (s:ByteArray) (hs:s.size≤1000000) (i:Nat) (hi:i≤s.size) (w:ByteArray) (hw:w.size≤100) (m:Int) :
  AC Tryz.prog 123 [.c (.str s),.c (.int .i64 i),.c (.str w),.c (.int .i64 m)] [] (rdA (Ck s (BZ m) i (w.data.toList.map UInt8.toNat) 0) ByteArray.empty) []:=by
 have hlen:(w.data.toList.map UInt8.toNat).length=w.size:=by simp
 obtain⟨l,hl⟩:∃l,w.data.toList.map UInt8.toNat=l:=⟨_,rfl⟩
 rw[hl]at hlen ⊢
 obtain⟨R,hR⟩:∃R,Ck s (BZ m) i l 0=R:=⟨_,rfl⟩
 rw[hR]
 refine A6 Tryz.func123 Tryz.ntmps123 ?_
 refine A0 trivial ?_
 refine AG (κ:=Nat) (fun k=>⟨mkS 0 45 [(0,.c (.str s)),(1,.c (.int .i64 i)),(2,.c (.str w)),(3,.c (.int .i64 m)),(8,.ptr (8,0) 0),(9,.c (.int .i64 k))],[((8,0),.box [.nils,.c (.str ByteArray.empty),.c (.int .i64 0),.c (.int .i64 0),.c (.int .i64 0)])]⟩)
  (fun k=>k≤w.size∧Ck s (BZ m) i (l.drop k) k=R) (fun k=>w.size-k) 0 ⟨Nat.zero_le _,hR⟩ ?_ ?_
 ·exact Aq (As.of [((8,0),(8,0))] []) hi
 ·rintro k ⟨hk,hgo⟩
  by_cases hlt:k<w.size
  ·have hdk:decide ((k:Int)<(w.size:Int))=true:=by simpa using hlt
   have hwk:=Ae (k:=k) (by omega)
   have hwp:=DH (a:=i) (b:=k) (by omega)
   obtain⟨b,hb,hb2⟩:=Aw hlt
   have hlk:l[k]? = some b.toNat:=by
    have:=DA w k
    rw[←hl,List.getElem?_map]
    cases hq:w.data.toList[k]? with
    |none=>rw[List.getElem?_eq_none_iff,AL]at hq;omega
    |some b' =>
     rw[hq,hb2]at this
     simp only at this
     rw[Option.map_some,this]
   obtain⟨hkl,hke⟩:=List.getElem?_eq_some_iff.1 hlk
   rw[List.drop_eq_getElem_cons hkl,hke]at hgo
   simp only[Ck]at hgo
   have hbad:=Bs 5 (i+k)
   by_cases hin:i+k<s.size
   ·have hge:decide (((i+k:Nat):Int)≥(s.size:Int))=false:=by simp;omega
    obtain⟨b1,h1,h2⟩:=Aw hin
    rw[h2]at hgo
    by_cases heq:b1.toNat=b.toNat
    ·rw[if_pos heq]at hgo
     have hne:(((b1.toNat:Nat):Int) != ((b.toNat:Nat):Int))=false:=by simp[heq]
     refine A0 (j7 hdk hwp hge h1 hb hne hwk) ?_
     refine⟨k+1,by omega,⟨by omega,hgo⟩,?_⟩
     exact Aq (As.of [((8,0),(8,0))] []) hwk
    ·rw[if_neg heq]at hgo
     subst hgo
     have hne:(((b1.toNat:Nat):Int) != ((b.toNat:Nat):Int))=true:=by simp;omega
     unfold rdA
     unfold B9 at hbad ⊢
     refine A0 (j6 hdk hwp hge h1 hb hne) ?_
     refine w7 (A3 [] hbad) trivial ?_
     refine A0 trivial ?_
     exact Am (A7 []) Tryz.results123
   ·have hge:decide (((i+k:Nat):Int)≥(s.size:Int))=true:=by simp;omega
    rw[BX (by omega),if_neg (by have:=b.toNat_lt;omega)]at hgo
    subst hgo
    unfold rdA
    unfold B9 at hbad ⊢
    refine A0 (j3 hdk hwp hge) ?_
    refine w7 (A3 [] hbad) trivial ?_
    refine A0 trivial ?_
    exact Am (A7 []) Tryz.results123
  ·have hdk:decide ((k:Int)<(w.size:Int))=false:=by simpa using hlt
   have hkw:k=w.size:=by omega
   rw[List.drop_eq_nil_of_le (by omega)]at hgo
   simp only[Ck]at hgo
   subst hgo
   have hwp:=DH (a:=i) (b:=w.size) (by omega)
   have hme:=XE m
   unfold rdA Dk BZ
   rw[hkw]at hdk ⊢
   refine A0 (j2 hdk hwp) ?_
   exact A9 (A8 [] [(39,0)]) Tryz.results123 hme
set_option maxRecDepth 10000
theorem P0 (s:ByteArray) (hs:s.size≤1000000) (i:Nat) (hi:i<s.size) (hd:AP (bAt s (AB s i))=true):AC Tryz.prog 191 [.c (.str s),.c (.int .i64 i)] [] (.tup [.c (.int .i64 (AQ s i)),.c (.int .i64 0)]) []:=by
 have ha0:=CP (s:=s) (i:=AB s i) (by have:=DM hd;omega)
 have hdi:decide ((i:Int)<(s.size:Int))=true:=by simpa using hi
 obtain⟨b,hg,hb⟩:=Aw hi
 obtain⟨b2,hg2,hb2⟩:=Aw ha0
 have hdg:=He b2.toNat
 rw[←hb2,hd]at hdg
 have hbn2:((b2.toNat:Nat):Int)=((bAt s (AB s i):Nat):Int):=by rw[hb2]
 have hbn:((b.toNat:Nat):Int)=((bAt s i:Nat):Int):=by rw[hb]
 have hwi:=Ae (k:=i) (by omega)
 have hga:decide (((AB s i:Nat):Int)≥(s.size:Int))=false:=by simp;omega
 have hwa:=Ae (k:=AB s i) (by omega)
 have hEz:bAt s (AB s i)=48→AQ s i=AB s i+1:=fun h=>by unfold AQ;rw[if_pos h]
 have hEn:bAt s (AB s i)≠48→Dm s (AB s i)=AQ s i:=fun h=>by unfold AQ;rw[if_neg h]
 have fin:∀a,AB s i=a→∀j,a≤j→j≤s.size→Dm s j=AQ s i→True:=fun _ _ _ _ _ _=>trivial
 clear fin
 have hA:(bAt s i=45∧AB s i=i+1)∨(bAt s i≠45∧AB s i=i):=by
  unfold AB
  by_cases h:bAt s i=45
  ·exact .inl ⟨h,if_pos h⟩
  ·exact .inr ⟨h,if_neg h⟩
 generalize AB s i=a at *
 generalize AQ s i=e at *
 rcases hA with⟨h45,hA⟩ | ⟨h45,hA⟩
 all_goals
  first
   |have q45:(((bAt s i:Nat):Int)==45)=true:=by simp;omega
   |have q45:(((bAt s i:Nat):Int)==45)=false:=by simp;omega
  subst hA
  by_cases h48:b2.toNat=48
  ·have q48:(((b2.toNat:Nat):Int)==48)=true:=by simp;omega
   have r48:=q48
   rw[hbn2]at r48
   have he:=hEz (by omega)
   subst he
   refine A6 Tryz.func191 Tryz.ntmps191 ?_
   refine A0 (j8 hdi hg hbn q45 hwi hga hg2 hbn2) ?_
   refine w7 (A3 [] hdg) trivial ?_
   refine A0 (j4 hg2 hbn2 r48 hwa) ?_
   exact Am (A7 []) Tryz.results191
  ·have q48:(((b2.toNat:Nat):Int)==48)=false:=by simp;omega
   have r48:=q48
   rw[hbn2]at r48
   have he:=hEn (by omega)
   refine A6 Tryz.func191 Tryz.ntmps191 ?_
   refine A0 (j8 hdi hg hbn q45 hwi hga hg2 hbn2) ?_
   refine w7 (A3 [] hdg) trivial ?_
   refine A0 (j3 hg2 hbn2 r48) ?_
   refine AG (κ:=Nat) (fun j=>⟨mkS 0 49 [(0,.c (.str s)),(1,.c (.int .i64 j))],[]⟩) (fun j=>j≤s.size∧Dm s j=e) (fun j=>s.size-j) _ ⟨by omega,he⟩ ?_ ?_
   ·exact Aq (As.of [] []) he
   ·rintro j ⟨hj,hje⟩
    by_cases hlt:j<s.size
    ·have hdk:decide ((j:Int)<(s.size:Int))=true:=by simpa using hlt
     have hwj:=Ae (k:=j) (by omega)
     obtain⟨b3,hg3,hb3⟩:=Aw hlt
     have hdg3:=He b3.toNat
     have hbn3:((b3.toNat:Nat):Int)=((bAt s j:Nat):Int):=by rw[hb3]
     rw[←hb3]at hdg3
     cases hdb:AP (bAt s j) with
     |true =>
      rw[hdb]at hdg3
      refine A0 (j3 hdk hg3 hbn3) ?_
      refine w7 (A3 [] hdg3) trivial ?_
      refine A0 hwj ?_
      refine⟨j+1,by omega,⟨by omega,by rw[←IX hdb,hje]⟩,?_⟩
      exact Aq (As.of [] []) hwj
     |false =>
      rw[hdb]at hdg3
      rw[Eo hdb]at hje
      subst hje
      refine A0 (j3 hdk hg3 hbn3) ?_
      refine w7 (A3 [] hdg3) trivial ?_
      refine A0 trivial ?_
      exact Am (A7 []) Tryz.results191
    ·have hdk:decide ((j:Int)<(s.size:Int))=false:=by simpa using hlt
     rw[Eo (by rw[BX (by omega)];rfl)]at hje
     subst hje
     refine A0 hdk ?_
     exact Am (A7 []) Tryz.results191
theorem NW (s:ByteArray) (hs:s.size≤1000000) (i:Nat) (hi:i<s.size) (hd:AP (bAt s (AB s i))=false):AC Tryz.prog 191 [.c (.str s),.c (.int .i64 i)] [] (.tup [.c (.int .i64 (-1)),.c (.int .i64 (AB s i))]) []:=by
 have hdi:decide ((i:Int)<(s.size:Int))=true:=by simpa using hi
 obtain⟨b,hg,hb⟩:=Aw hi
 have hbn:((b.toNat:Nat):Int)=((bAt s i:Nat):Int):=by rw[hb]
 have hwi:=Ae (k:=i) (by omega)
 have hA:(bAt s i=45∧AB s i=i+1)∨(bAt s i≠45∧AB s i=i):=by
  unfold AB
  by_cases h:bAt s i=45
  ·exact .inl ⟨h,if_pos h⟩
  ·exact .inr ⟨h,if_neg h⟩
 generalize AB s i=a at *
 by_cases ha0:a<s.size
 ·obtain⟨b2,hg2,hb2⟩:=Aw ha0
  have hdg:=He b2.toNat
  rw[←hb2,hd]at hdg
  have hbn2:((b2.toNat:Nat):Int)=((bAt s a:Nat):Int):=by rw[hb2]
  have hga:decide (((a:Nat):Int)≥(s.size:Int))=false:=by simp;omega
  rcases hA with⟨h45,hA⟩ | ⟨h45,hA⟩
  all_goals
   first
    |have q45:(((bAt s i:Nat):Int)==45)=true:=by simp;omega
    |have q45:(((bAt s i:Nat):Int)==45)=false:=by simp;omega
   subst hA
   refine A6 Tryz.func191 Tryz.ntmps191 ?_
   refine A0 (j8 hdi hg hbn q45 hwi hga hg2 hbn2) ?_
   refine w7 (A3 [] hdg) trivial ?_
   refine A0 trivial ?_
   exact Am (A7 []) Tryz.results191
 ·have hga:decide (((a:Nat):Int)≥(s.size:Int))=true:=by simp;omega
  rcases hA with⟨h45,hA⟩ | ⟨h45,hA⟩
  ·have q45:(((bAt s i:Nat):Int)==45)=true:=by simp;omega
   subst hA
   refine A6 Tryz.func191 Tryz.ntmps191 ?_
   refine A0 (j6 hdi hg hbn q45 hwi hga) ?_
   exact Am (A7 []) Tryz.results191
  ·omega
end
section
open Go.RowKit
section
variable {P:Program} {o:Oper} {σ:ASt} {t:TypeId}
theorem OS {x lo:Operand}{s:ByteArray}{i:Int}(ho:o.op=.slice t x (some lo) none none) (hx:σ.ev x=.c (.str s)) (hlo:σ.ev lo=.c (.int .i64 i)) (ht:P.underlying t=some .string)
  (h0:0≤i) (h1:i≤s.size):Al P o σ ⟨[],[],.c (.str (s.extract i.toNat s.size))⟩:=by
 refine Al.pure fun Γ σ' a w ow κ hag hr=>?_
 have e1:=AR.str (hag.ev hr (by rw[ho];simp[Op.operands]) hx)
 have e2:=(hag.ev hr (by rw[ho];simp[Op.operands]) hlo).1
 refine⟨.string (s.extract i.toNat s.size),?_,⟨rfl,rfl⟩⟩
 have hrun:=run_slice_string_from_if (P:=P) w t s .i64 i ht
 rw[if_pos ⟨h0,h1⟩]at hrun
 unfold execOp
 rw[ho]
 simp[e1,e2,hrun,run_sliceAt_string _ t _ _ _ _ ht]
end
section
variable {P:Program} {σ τ:ASt} {ops:Array Oper} {r:List Oper} {fs:List AEff} {K:ASt→List AEff→Prop} {E:AEff} {d:Option Tmp} {ty':TypeId} {pos:String} {af:Array Edge} {gd:Option (Nat×Bool)}
theorem LK {t:TypeId}{x lo:Operand}{s y:ByteArray}{i:Int}(hy:s.extract i.toNat s.size=y) (h0:0≤i) (h1:i≤s.size) (ht:P.underlying t=some .string)
  (hg:Bi ops σ ⟨d,.slice t x (some lo) none none,ty',pos,af,gd⟩=some true) (hx:σ.ev x=.c (.str s)) (hlo:σ.ev lo=.c (.int .i64 i))
  (hE:(⟨[],[],.c (.str y)⟩:AEff)=E) (hτ:σ.upd d E=τ) (h:Ad P ops r τ (fs++[E]) K):Ad P ops (⟨d,.slice t x (some lo) none none,ty',pos,af,gd⟩::r) σ fs K:=by
 subst hE hy
 exact Bt hg (OS rfl hx hlo ht h0 h1).sound hτ h
end
end
section
open Go.RowKit
set_option maxRecDepth 10000
theorem SD {s:ByteArray}{a k:Nat}(hk:k≤16) (h:∀j,a≤j→j<a+k→AP (bAt s j)=true):Bf s a k<10000000000000000:=by
 have h1:=SC k h
 have h2:(10:Nat) ^ k≤10 ^ 16:=Nat.pow_le_pow_right (by decide) hk
 have h3:(10:Nat) ^ 16=10000000000000000:=by decide
 omega
theorem Sr {s:ByteArray}{a k:Nat}(hk:k≤16) (h:∀j,a≤j→j<a+k→AP (bAt s j)=true) {b:Nat}(hb:48≤b∧b≤57) :
  IntKind.i64.wrap ((Bf s a k:Int)*10)=((Bf s a k*10:Nat):Int)∧IntKind.u8.wrap ((b:Int)-48)=((b-48:Nat):Int)∧IntKind.i64.wrap ((b-48:Nat):Int)=((b-48:Nat):Int)∧IntKind.i64.wrap (((Bf s a k*10:Nat):Int)+((b-48:Nat):Int))=((Bf s a k*10+(b-48):Nat):Int):=by
 have h1:=SD hk h
 refine⟨?_,?_,CG (by omega) (by omega),?_⟩
 ·rw[CG (by omega) (by omega)];omega
 ·rw[Gt (by omega) (by omega)];omega
 ·rw[CG (by omega) (by omega)];omega
set_option maxRecDepth 10000
def Yh (m:Bool) (u:ByteArray):AV:=if 16<u.size∨1000000000000000<Bf u 0 u.size then .tup [.c (.int .i64 0),.c (.bool false)] else .tup [.c (.int .i64 (if m then -((Bf u 0 u.size:Nat):Int) else ((Bf u 0 u.size:Nat):Int))),.c (.bool true)]
theorem R6 (t:ByteArray) (h0:0<t.size) (hs:t.size≤1000000) (m:Bool) (u:ByteArray) (hm:(bAt t 0==45)=m) (hu:(if m then t.extract 1 t.size else t)=u) (hd:∀j,j<u.size→AP (bAt u j)=true) :
  AC Tryz.prog 192 [.c (.str t)] [] (Yh m u) []:=by
 have t3:=Tryz.underlying9
 obtain⟨b0,hg0,hb0⟩:=Aw h0
 have q0:(((b0.toNat:Nat):Int)==45)=m:=by rw[←hb0,←hm];exact Qe _ 45
 have hus:u.size≤1000000:=by
  rw[←hu]
  cases m with
  |false=>exact hs
  |true=>rw[if_pos rfl,E2 (Nat.le_refl _)];omega
 have main:∀σ:List (Nat×AV),True:=fun _=>trivial
 clear main
 unfold Yh
 by_cases h16:16<u.size
 ·have g16:decide ((u.size:Int)>16)=true:=by simp;omega
  rw[if_pos (.inl h16)]
  cases m with
  |false =>
   simp only[Bool.false_eq_true,if_false]at hu
   subst hu
   refine A6 Tryz.func192 Tryz.ntmps192 ?_
   refine A0 (j3 hg0 q0 g16) ?_
   exact Am (A7 []) Tryz.results192
  |true =>
   simp only[if_true]at hu
   refine A6 Tryz.func192 Tryz.ntmps192 ?_
   refine A0 (j2 hg0 q0) ?_
   refine w5 (LK (s:=t) (y:=u) (i:=1) hu (by omega) (by omega) t3) trivial ?_
   refine A0 g16 ?_
   exact Am (A7 []) Tryz.results192
 ·have g16:decide ((u.size:Int)>16)=false:=by simp;omega
  have loop:∀(n:Nat),n=Bf u 0 u.size→True:=fun _ _=>trivial
  clear loop
  have hnx:∀k,Bf u 0 (k+1)=Bf u 0 k*10+(bAt u k-48):=fun k=>by
   show Bf u 0 k*10+(bAt u (0+k)-48)=_
   rw[Nat.zero_add]
  have hbd:∀k,k<u.size→_:=fun k (hk:k<u.size)=>Sr (s:=u) (a:=0) (k:=k) (by omega) (fun j _ h2=>hd j (by omega)) (DM (hd k hk))
  have hbn:∀k,k<u.size→∃b:UInt8,u[k]? = some b∧((b.toNat:Nat):Int)=((bAt u k:Nat):Int):=fun k hk=>by
   obtain⟨b,h1,h2⟩:=Aw hk
   exact⟨b,h1,by rw[h2]⟩
  have hlt:=SD (s:=u) (a:=0) (k:=u.size) (by omega) (fun j _ h2=>hd j (by omega))
  cases m with
  |false =>
   simp only[Bool.false_eq_true,if_false]at hu ⊢
   subst hu
   refine A6 Tryz.func192 Tryz.ntmps192 ?_
   refine A0 (j3 hg0 q0 g16) ?_
   refine AG (κ:=Nat) (fun k=>⟨mkS 0 36 [(0,.c (.str t)),(4,.c (.bool false)),(5,.c (.int .i64 (Bf t 0 k))),(6,.c (.int .i64 k))],[]⟩) (fun k=>k≤t.size) (fun k=>t.size-k) 0 (Nat.zero_le _) ?_ ?_
   ·exact Aq (As.of [] []) trivial
   ·intro k hk
    by_cases hlt2:k<t.size
    ·have hdk:decide ((k:Int)<(t.size:Int))=true:=by simpa using hlt2
     have hw:=Ae (k:=k) (by omega)
     obtain⟨b,hg,hbe⟩:=hbn k hlt2
     obtain⟨w1,w2,w3,w4⟩:=hbd k hlt2
     have hn1:=hnx k
     (repeat (first | (with_reducible first | refine GU ?_ | refine Br ?_ | refine DT ?_ | refine DU ?_) | ((with_reducible apply F7);(iterate 2 (focus (first | (simp only[go_sem,Nat.reduceEqDiff,Nat.reduceAdd,Nat.reduceSub,Nat.reduceLeDiff,Nat.reduceMul,Nat.reduceBEq,Nat.reduceLT,Int.reduceToNat,reduceCtorEq,hdk,hg,hbe,w1,w2,w3,w4,hw];first | done | exact rfl | (and_intros<;>rfl)) | exact rfl | decide)))) | ((with_reducible refine GT ?_);dsimp only;try ((with_reducible apply Fb);(focus (simp only[go_sem];exact rfl));(focus decide))) | ((with_reducible first | refine Ha ?_ | refine F9 ?_ | refine DQ ?_);dsimp only) | ((with_reducible refine F8 ?_);dsimp only;simp only[if_true,if_false,Nat.reduceEqDiff]) | ((with_reducible apply Mi);(focus (simp only[go_sem,Nat.reduceBEq,Nat.reduceLT,hdk,hg,hbe,w1,w2,w3,w4,hw];exact rfl));dsimp only[cond_true,cond_false]) | ((with_reducible refine F5 ?_ ?_);(focus exact rfl))))
     refine⟨k+1,by omega,by omega,?_⟩
     exact Aq (As.of [] []) (j2 hn1 hw)
    ·have hdk:decide ((k:Int)<(t.size:Int))=false:=by simpa using hlt2
     have hke:k=t.size:=by omega
     subst hke
     by_cases hbig:1000000000000000<Bf t 0 t.size
     ·have gb:decide (((Bf t 0 t.size:Nat):Int)>1000000000000000)=true:=by simp;omega
      rw[if_pos (.inr hbig)]
      refine A0 (j2 hdk gb) ?_
      exact Am (A7 []) Tryz.results192
     ·have gb:decide (((Bf t 0 t.size:Nat):Int)>1000000000000000)=false:=by simp;omega
      rw[if_neg (by omega)]
      refine A0 (j2 hdk gb) ?_
      exact Am (A7 []) Tryz.results192
  |true =>
   simp only[if_true]at hu ⊢
   refine A6 Tryz.func192 Tryz.ntmps192 ?_
   refine A0 (j2 hg0 q0) ?_
   refine w5 (LK (s:=t) (y:=u) (i:=1) hu (by omega) (by omega) t3) trivial ?_
   refine A0 g16 ?_
   refine AG (κ:=Nat) (fun k=>⟨mkS 0 36 [(0,.c (.str u)),(4,.c (.bool true)),(5,.c (.int .i64 (Bf u 0 k))),(6,.c (.int .i64 k))],[]⟩) (fun k=>k≤u.size) (fun k=>u.size-k) 0 (Nat.zero_le _) ?_ ?_
   ·exact Aq (As.of [] []) trivial
   ·intro k hk
    by_cases hlt2:k<u.size
    ·have hdk:decide ((k:Int)<(u.size:Int))=true:=by simpa using hlt2
     have hw:=Ae (k:=k) (by omega)
     obtain⟨b,hg,hbe⟩:=hbn k hlt2
     obtain⟨w1,w2,w3,w4⟩:=hbd k hlt2
     have hn1:=hnx k
     (repeat (first | (with_reducible first | refine GU ?_ | refine Br ?_ | refine DT ?_ | refine DU ?_) | ((with_reducible apply F7);(iterate 2 (focus (first | (simp only[go_sem,Nat.reduceEqDiff,Nat.reduceAdd,Nat.reduceSub,Nat.reduceLeDiff,Nat.reduceMul,Nat.reduceBEq,Nat.reduceLT,Int.reduceToNat,reduceCtorEq,hdk,hg,hbe,w1,w2,w3,w4,hw];first | done | exact rfl | (and_intros<;>rfl)) | exact rfl | decide)))) | ((with_reducible refine GT ?_);dsimp only;try ((with_reducible apply Fb);(focus (simp only[go_sem];exact rfl));(focus decide))) | ((with_reducible first | refine Ha ?_ | refine F9 ?_ | refine DQ ?_);dsimp only) | ((with_reducible refine F8 ?_);dsimp only;simp only[if_true,if_false,Nat.reduceEqDiff]) | ((with_reducible apply Mi);(focus (simp only[go_sem,Nat.reduceBEq,Nat.reduceLT,hdk,hg,hbe,w1,w2,w3,w4,hw];exact rfl));dsimp only[cond_true,cond_false]) | ((with_reducible refine F5 ?_ ?_);(focus exact rfl))))
     refine⟨k+1,by omega,by omega,?_⟩
     exact Aq (As.of [] []) (j2 hn1 hw)
    ·have hdk:decide ((k:Int)<(u.size:Int))=false:=by simpa using hlt2
     have hke:k=u.size:=by omega
     subst hke
     by_cases hbig:1000000000000000<Bf u 0 u.size
     ·have gb:decide (((Bf u 0 u.size:Nat):Int)>1000000000000000)=true:=by simp;omega
      rw[if_pos (.inr hbig)]
      refine A0 (j2 hdk gb) ?_
      exact Am (A7 []) Tryz.results192
     ·have gb:decide (((Bf u 0 u.size:Nat):Int)>1000000000000000)=false:=by simp;omega
      have wn:IntKind.i64.wrap (0-((Bf u 0 u.size:Nat):Int)) = -((Bf u 0 u.size:Nat):Int):=by rw[CG (by omega) (by omega)];omega
      rw[if_neg (by omega)]
      refine A0 (j3 hdk gb wn) ?_
      exact Am (A7 []) Tryz.results192
theorem PH {s t:ByteArray}{a c:Nat}:∀k,(∀j,j<k→bAt s (a+j)=bAt t (c+j))→Bf s a k=Bf t c k
 | 0,_=>rfl
 |k+1,h=>by
  simp only[Bf]
  rw[PH k fun j hj=>h j (by omega),h k (by omega)]
theorem H9 (s:ByteArray) (i:Nat) (hi:i<s.size) (hd:AP (bAt s (AB s i))=true):∃(m:Bool) (u:ByteArray),0<(s.extract i (AQ s i)).size∧(s.extract i (AQ s i)).size≤s.size∧(bAt (s.extract i (AQ s i)) 0==45)=m∧(if m then (s.extract i (AQ s i)).extract 1 (s.extract i (AQ s i)).size else s.extract i (AQ s i))=u∧0<u.size∧(∀j,j<u.size→AP (bAt u j)=true) ∧
  Dx s i=decide (16<u.size∨1000000000000000<Bf u 0 u.size)∧Ef s i=(if m then -((Bf u 0 u.size:Nat):Int) else ((Bf u 0 u.size:Nat):Int)):=by
 obtain⟨h1,h2,h3⟩:=IM hi hd
 obtain⟨g1,g2,g3⟩:=Iw hi
 have hts:=E2 (s:=s) (a:=i) h2
 have hat:∀k,i+k<AQ s i→bAt (s.extract i (AQ s i)) k=bAt s (i+k):=fun k hk=>RX h2 hk
 have hA:(bAt s i=45∧AB s i=i+1)∨(bAt s i≠45∧AB s i=i):=by
  unfold AB
  by_cases h:bAt s i=45
  ·exact .inl ⟨h,if_pos h⟩
  ·exact .inr ⟨h,if_neg h⟩
 obtain⟨m,hm⟩:∃m,(bAt (s.extract i (AQ s i)) 0==45)=m:=⟨_,rfl⟩
 obtain⟨u,hu⟩:∃u,(if m then (s.extract i (AQ s i)).extract 1 (s.extract i (AQ s i)).size else s.extract i (AQ s i))=u:=⟨_,rfl⟩
 have hm0:=hm
 rw[hat 0 (by omega)]at hm0
 rw[Nat.add_zero]at hm0
 have hus:u.size=AQ s i-AB s i∧∀j,j<u.size→bAt u j=bAt s (AB s i+j):=by
  rcases hA with⟨h45,hA⟩ | ⟨h45,hA⟩
  ·have hmt:m=true:=by rw[←hm0];simpa using h45
   subst hmt
   simp only[if_true]at hu
   have hsz:u.size=AQ s i-AB s i:=by rw[←hu,E2 (Nat.le_refl _),hts];omega
   refine⟨hsz,fun j hj=>?_⟩
   rw[←hu,RX (Nat.le_refl _) (by omega),hat (1+j) (by omega)]
   congr 1
   omega
  ·have hmt:m=false:=by rw[←hm0];simpa using h45
   subst hmt
   simp only[Bool.false_eq_true,if_false]at hu
   subst hu
   refine⟨by rw[hts,hA],fun j hj=>?_⟩
   rw[hat j (by omega),hA]
 obtain⟨hus,hub⟩:=hus
 have hdec:Bf u 0 u.size=Bf s (AB s i) (AQ s i-AB s i):=by
  rw[hus]
  exact PH _ fun j hj=>by rw[Nat.zero_add];exact hub j (by omega)
 refine⟨m,u,by omega,by omega,hm,hu,by omega,fun j hj=>by rw[hub j hj];exact h3 _ (by omega) (by omega),?_,?_⟩
 ·unfold Dx
  rw[hdec,hus]
  simp
 ·unfold Ef
  rw[hdec]
  have e2:(m=true)=(bAt s i=45):=by rw[←hm0];simp
  simp only[e2]
theorem RT (s:ByteArray) (hs:s.size≤1000000) (i:Nat) (hi:i<s.size) (hd:AP (bAt s (AB s i))=true) :
  AC Tryz.prog 192 [.c (.str (s.extract i (AQ s i)))] [] (if Dx s i then .tup [.c (.int .i64 0),.c (.bool false)] else .tup [.c (.int .i64 (Ef s i)),.c (.bool true)]) []:=by
 obtain⟨m,u,h1,h2,hm,hu,_,hd2,hB,hV⟩:=H9 s i hi hd
 have hc:=R6 (s.extract i (AQ s i)) h1 (by omega) m u hm hu hd2
 rw[hB,hV]
 unfold Yh at hc
 simpa using hc
set_option maxRecDepth 10000
def T4 (s:ByteArray) (i:Nat):Rd V:=match K8 s i with
 | .bad c p=>.bad c p
 | .ok n e=>.ok (GN n) e
theorem Ro (s:ByteArray) (hs:s.size≤1000000) (i:Nat) (hi:i<s.size):AC Tryz.prog 127 [.c (.str s),.c (.int .i64 i)] [] (rdA (T4 s i) ByteArray.empty) []:=by
 have t3:=Tryz.underlying9
 unfold T4 K8
 cases hd:AP (bAt s (AB s i)) with
 |false =>
  have hn:=NW s hs i hi hd
  have hbad:=Bs 5 (AB s i)
  simp only[if_true]
  unfold rdA
  unfold B9 at hbad ⊢
  generalize AB s i=a at *
  have hm1:decide ((-1:Int)<0)=true:=rfl
  refine A6 Tryz.func127 Tryz.ntmps127 ?_
  refine A0 trivial ?_
  refine w7 (A3 [] hn) trivial ?_
  refine A0 hm1 ?_
  refine w7 (A3 [] hbad) trivial ?_
  refine A0 trivial ?_
  exact Am (A7 []) Tryz.results127
 |true =>
  have hn:=P0 s hs i hi hd
  obtain⟨he1,he2,_⟩:=IM hi hd
  obtain⟨ha1,_,_⟩:=Iw hi
  have hv:=RT s hs i hi hd
  simp only[Bool.true_eq_false,if_false]
  have hl0:decide (((AQ s i:Nat):Int)<0)=false:=decide_eq_false (by omega)
  cases hb:Dx s i with
  |true =>
   have hbad:=Bs 3 i
   rw[hb]at hv
   simp only[if_true]at hv ⊢
   unfold rdA
   unfold B9 at hbad ⊢
   generalize AQ s i=e at *
   refine A6 Tryz.func127 Tryz.ntmps127 ?_
   refine A0 trivial ?_
   refine w7 (A3 [] hn) trivial ?_
   refine A0 hl0 ?_
   refine w7 (Dt (y:=s.extract i e) (i:=(i:Int)) (j:=(e:Int)) (s:=s) rfl (by omega) (by omega) (by omega) t3) trivial ?_
   refine A0 trivial ?_
   refine w7 (A3 [] hv) trivial ?_
   refine A0 trivial ?_
   refine w7 (A3 [] hbad) trivial ?_
   refine A0 trivial ?_
   exact Am (A7 []) Tryz.results127
  |false =>
   have hbad:=Bs 3 (AQ s i)
   rw[hb]at hv
   simp only[Bool.false_eq_true,if_false]at hv ⊢
   have hno:=Pz (Ef s i)
   have hdot:∀b:UInt8,s[AQ s i]? = some b→G6 (bAt s (AQ s i))=(((((b.toNat:Nat):Int)==46)||(((b.toNat:Nat):Int)==101))||(((b.toNat:Nat):Int)==69)):=fun b hbb=>by
    have:bAt s (AQ s i)=b.toNat:=by unfold bAt;rw[hbb]
    rw[this]
    unfold G6
    rw[Bool.eq_iff_iff];simp;omega
   have hend:s.size≤AQ s i→G6 (bAt s (AQ s i))=false:=fun h=>by rw[BX h];rfl
   generalize Ef s i=z at *
   generalize AQ s i=e at *
   generalize G6 (bAt s e)=dt at *
   by_cases hes:e<s.size
   ·have hde:decide ((e:Int)<(s.size:Int))=true:=by simpa using hes
    obtain⟨b,hg,_⟩:=Aw hes
    have hdt:=hdot b hg
    obtain⟨bz,hbz⟩:∃bz,((b.toNat:Nat):Int)=bz:=⟨_,rfl⟩
    rw[hbz]at hdt
    have tail:∀(e1 e2 e3:Bool),(bz==46)=e1→(bz==101)=e2→(bz==69)=e3→AC Tryz.prog 127 [.c (.str s),.c (.int .i64 i)] [] (rdA (if (e1||e2||e3) then Rd.bad 3 e else Rd.ok (GN z) e) ByteArray.empty) []:=by
     intro e1 e2 e3 h1 h2 h3
     unfold rdA
     cases e1 with
     |true =>
      simp only[Bool.true_or,if_true]
      unfold B9 at hbad ⊢
      refine A6 Tryz.func127 Tryz.ntmps127 ?_
      refine A0 trivial ?_
      refine w7 (A3 [] hn) trivial ?_
      refine A0 hl0 ?_
      refine w7 (Dt (y:=s.extract i e) (i:=(i:Int)) (j:=(e:Int)) (s:=s) rfl (by omega) (by omega) (by omega) t3) trivial ?_
      refine A0 trivial ?_
      refine w7 (A3 [] hv) trivial ?_
      refine A0 (j4 hde hg hbz h1) ?_
      refine w7 (A3 [] hbad) trivial ?_
      refine A0 trivial ?_
      exact Am (A7 []) Tryz.results127
     |false=>cases e2 with
      |true =>
       simp only[Bool.true_or,Bool.or_true,if_true]
       unfold B9 at hbad ⊢
       refine A6 Tryz.func127 Tryz.ntmps127 ?_
       refine A0 trivial ?_
       refine w7 (A3 [] hn) trivial ?_
       refine A0 hl0 ?_
       refine w7 (Dt (y:=s.extract i e) (i:=(i:Int)) (j:=(e:Int)) (s:=s) rfl (by omega) (by omega) (by omega) t3) trivial ?_
       refine A0 trivial ?_
       refine w7 (A3 [] hv) trivial ?_
       refine A0 (j5 hde hg hbz h1 h2) ?_
       refine w7 (A3 [] hbad) trivial ?_
       refine A0 trivial ?_
       exact Am (A7 []) Tryz.results127
      |false=>cases e3 with
       |true =>
        simp only[Bool.or_true,if_true]
        unfold B9 at hbad ⊢
        refine A6 Tryz.func127 Tryz.ntmps127 ?_
        refine A0 trivial ?_
        refine w7 (A3 [] hn) trivial ?_
        refine A0 hl0 ?_
        refine w7 (Dt (y:=s.extract i e) (i:=(i:Int)) (j:=(e:Int)) (s:=s) rfl (by omega) (by omega) (by omega) t3) trivial ?_
        refine A0 trivial ?_
        refine w7 (A3 [] hv) trivial ?_
        refine A0 (j6 hde hg hbz h1 h2 h3) ?_
        refine w7 (A3 [] hbad) trivial ?_
        refine A0 trivial ?_
        exact Am (A7 []) Tryz.results127
       |false =>
        simp only[Bool.or_false,Bool.false_eq_true,if_false]
        unfold Dk
        refine A6 Tryz.func127 Tryz.ntmps127 ?_
        refine A0 trivial ?_
        refine w7 (A3 [] hn) trivial ?_
        refine A0 hl0 ?_
        refine w7 (Dt (y:=s.extract i e) (i:=(i:Int)) (j:=(e:Int)) (s:=s) rfl (by omega) (by omega) (by omega) t3) trivial ?_
        refine A0 trivial ?_
        refine w7 (A3 [] hv) trivial ?_
        refine A0 (j6 hde hg hbz h1 h2 h3) ?_
        refine w9 (Aa [] hno) trivial ?_
        refine A0 trivial ?_
        exact Am (A7 []) Tryz.results127
    have ht:=tail _ _ _ rfl rfl rfl
    rw[←hdt]at ht
    revert ht
    cases dt with
    |true=>exact fun h=>h
    |false=>exact fun h=>h
   ·have hde:decide ((e:Int)<(s.size:Int))=false:=by simpa using hes
    rw[hend (by omega)]
    simp only[Bool.false_eq_true,if_false]
    unfold rdA Dk
    refine A6 Tryz.func127 Tryz.ntmps127 ?_
    refine A0 trivial ?_
    refine w7 (A3 [] hn) trivial ?_
    refine A0 hl0 ?_
    refine w7 (Dt (y:=s.extract i e) (i:=(i:Int)) (j:=(e:Int)) (s:=s) rfl (by omega) (by omega) (by omega) t3) trivial ?_
    refine A0 trivial ?_
    refine w7 (A3 [] hv) trivial ?_
    refine A0 hde ?_
    refine w9 (Aa [] hno) trivial ?_
    refine A0 trivial ?_
    exact Am (A7 []) Tryz.results127
end
end Go.Proofs.YtllfmaflodbieaaGreatDoor
