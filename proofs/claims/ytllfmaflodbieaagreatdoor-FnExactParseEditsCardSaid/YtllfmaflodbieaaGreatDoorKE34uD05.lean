/- Texts of this proof: E34 G81 D03 D04 E39 D05. -/
import Derived.Test.YtllfmaflodbieaaGreatDoorKD02uE32
import Derived.Laws.Strings3
set_option linter.all false
set_option maxHeartbeats 8000000
namespace Go.Proofs.YtllfmaflodbieaaGreatDoor
section
open Go.RowKit
section
variable {P:Program} {ops:Array Oper} {r:List Oper} {σ τ:ASt} {fs:List AEff} {K:ASt→List AEff→Prop} {E:AEff}
theorem Fits.ofB (bw:List Id) (ρ ρ':List (Id×Id)) {fz:List (Id×AO)}{m:Mem}{res:AV}{m':Mem}(h1:Jq (rn ρ) σ.mem bw m) (h2:(m.all fun p=>p.2.refs m)=true) (hfz:Gl σ.mem bw=fz) (hids:fz.map (·.1)=bw) (hndb:bw.Nodup) (h3:(m.map (·.1)).Nodup) (h4:(m.filterMap fun p=>if p.2.live then rn ρ p.1 else none).Nodup)
  (hl:(m.all fun p=>p.2.live)=true) (hl':(m'.all fun p=>p.2.live)=true) (hnd:(m'.map fun p=>rnF ρ' p.1).Nodup) (hnd':(m'.map (·.1)).Nodup)
  (hnew:∀p,p∈m'→((m.get p.1).isSome=true∧rn ρ p.1=some (rnF ρ' p.1))∨(m.get p.1=none∧σ.mem.get (rnF ρ' p.1)=none))
  (hbw:∀j,j∈(m.filterMap fun p=>if p.2.live then rn ρ p.1 else none)→j ∉ bw):Fits σ (rn ρ) bw fz false (rnF ρ') m res m':=by
 subst hfz
 refine⟨MatM.of h1 h2 h3 h4 hbw,fun p hp=>List.all_eq_true.1 hl p hp,hnd,hnd',fun p hp=>List.all_eq_true.1 hl' p hp,fun p hp=>?_,fun p hp=>?_,fun _ j hj=>by rw[hids];exact hj,by rw[hids];exact hndb,fun h=>by cases h⟩
 ·rcases hnew p hp with⟨g1,g2⟩ | g
  ·obtain⟨o,ho⟩:=Option.isSome_iff_exists.1 g1
   exact .inl ⟨o,ho,g2⟩
  ·exact .inr g
 ·unfold Gl at hp
  simp only[List.mem_filterMap,Option.map_eq_some_iff]at hp
  obtain⟨j,hj,rows,hr,rfl⟩:=hp
  exact⟨hj,rows,rfl,hr⟩
theorem Fits.ofC (bw:List Id) (ρ ρ':List (Id×Id)) {m:Mem}{res:AV}{m':Mem}(h1:Jq (rn ρ) σ.mem bw m) (h2:(m.all fun p=>p.2.refs m)=true) (hc1:res.closed=true) (hc2:(m'.all fun p=>p.2.closed)=true) (h3:(m.map (·.1)).Nodup) (h4:(m.filterMap fun p=>if p.2.live then rn ρ p.1 else none).Nodup)
  (hl:(m.all fun p=>p.2.live)=true) (hl':(m'.all fun p=>p.2.live)=true) (hnd:(m'.map fun p=>rnF ρ' p.1).Nodup) (hnd':(m'.map (·.1)).Nodup)
  (hnew:∀p,p∈m'→((m.get p.1).isSome=true∧rn ρ p.1=some (rnF ρ' p.1))∨(m.get p.1=none∧σ.mem.get (rnF ρ' p.1)=none))
  (hbw:∀j,j∈(m.filterMap fun p=>if p.2.live then rn ρ p.1 else none)→j ∉ bw):Fits σ (rn ρ) bw [] true (rnF ρ') m res m':=by
 refine⟨MatM.of h1 h2 h3 h4 hbw,fun p hp=>List.all_eq_true.1 hl p hp,hnd,hnd',fun p hp=>List.all_eq_true.1 hl' p hp,fun p hp=>?_,fun p hp=>absurd hp (by simp),fun h=>Bool.noConfusion h,List.nodup_nil,fun _=>⟨hc1,fun p hp=>List.all_eq_true.1 hc2 p hp⟩⟩
 rcases hnew p hp with⟨g1,g2⟩ | g
 ·obtain⟨o,ho⟩:=Option.isSome_iff_exists.1 g1
  exact .inl ⟨o,ho,g2⟩
 ·exact .inr g
theorem Qs (bw:List Id) (ρ ρ':List (Id×Id)) {d:Option Tmp}{fv:Operand}{args:Array Operand}{tys:Array TypeId}{ty:TypeId}{pos:String}{af:Array Edge}{gd:Option (Nat×Bool)}{m:Mem}{res:AV}{m':Mem}{f:FuncId}{caps cargs:List AV}
  (hac:AC P f cargs m res m') (hg:Bi ops σ ⟨d,.call ⟨.value fv,args,tys⟩,ty,pos,af,gd⟩=some true) (hv:σ.ev fv=.clo f caps) (hc:A5 P f=true)
  (hm:B5 (rn ρ) σ.mem bw cargs (args.toList.map σ.ev++caps)) (hrefs:BE m cargs=true) (h1:Jq (rn ρ) σ.mem bw m) (h2:(m.all fun p=>p.2.refs m)=true) (hc1:res.closed=true) (hc2:(m'.all fun p=>p.2.closed)=true) (h3:(m.map (·.1)).Nodup) (h4:(m.filterMap fun p=>if p.2.live then rn ρ p.1 else none).Nodup)
  (hl:(m.all fun p=>p.2.live)=true) (hl':(m'.all fun p=>p.2.live)=true) (hnd:(m'.map fun p=>rnF ρ' p.1).Nodup) (hnd':(m'.map (·.1)).Nodup)
  (hnew:∀p,p∈m'→((m.get p.1).isSome=true∧rn ρ p.1=some (rnF ρ' p.1))∨(m.get p.1=none∧σ.mem.get (rnF ρ' p.1)=none))
  (hbw:∀j,j∈(m.filterMap fun p=>if p.2.live then rn ρ p.1 else none)→j ∉ bw)
  (he:(⟨bw,DD (rn ρ) m++[]++m'.map (fun p=>(rnF ρ' p.1,p.2.ren (rnF ρ'))),res.ren (rnF ρ')⟩:AEff)=E) (hτ:σ.upd d E=τ) (h:Ad P ops r τ (fs++[E]) K):Ad P ops (⟨d,.call ⟨.value fv,args,tys⟩,ty,pos,af,gd⟩::r) σ fs K:=by
 subst he
 have:=F2 hac hg hv hc hm hrefs (Fits.ofC bw ρ ρ' h1 h2 hc1 hc2 h3 h4 hl hl' hnd hnd' hnew hbw) (τ:=τ) (r:=r) (fs:=fs) (K:=K)
 unfold AS at this
 exact this hτ h
theorem Dr (bw:List Id) (ρ ρ':List (Id×Id)) {d:Option Tmp}{fv:Operand}{args:Array Operand}{tys:Array TypeId}{ty:TypeId}{pos:String}{af:Array Edge}{gd:Option (Nat×Bool)}{fz:List (Id×AO)}{m:Mem}{res:AV}{m':Mem}{f:FuncId}{caps cargs:List AV}
  (hac:AC P f cargs m res m') (hg:Bi ops σ ⟨d,.call ⟨.value fv,args,tys⟩,ty,pos,af,gd⟩=some true) (hv:σ.ev fv=.clo f caps) (hc:A5 P f=true)
  (hm:B5 (rn ρ) σ.mem bw cargs (args.toList.map σ.ev++caps)) (hrefs:BE m cargs=true) (h1:Jq (rn ρ) σ.mem bw m) (h2:(m.all fun p=>p.2.refs m)=true) (hfz:Gl σ.mem bw=fz) (hids:fz.map (·.1)=bw) (hndb:bw.Nodup) (h3:(m.map (·.1)).Nodup) (h4:(m.filterMap fun p=>if p.2.live then rn ρ p.1 else none).Nodup)
  (hl:(m.all fun p=>p.2.live)=true) (hl':(m'.all fun p=>p.2.live)=true) (hnd:(m'.map fun p=>rnF ρ' p.1).Nodup) (hnd':(m'.map (·.1)).Nodup)
  (hnew:∀p,p∈m'→((m.get p.1).isSome=true∧rn ρ p.1=some (rnF ρ' p.1))∨(m.get p.1=none∧σ.mem.get (rnF ρ' p.1)=none))
  (hbw:∀j,j∈(m.filterMap fun p=>if p.2.live then rn ρ p.1 else none)→j ∉ bw)
  (he:(⟨bw,DD (rn ρ) m++fz++m'.map (fun p=>(rnF ρ' p.1,p.2.ren (rnF ρ'))),res.ren (rnF ρ')⟩:AEff)=E) (hτ:σ.upd d E=τ) (h:Ad P ops r τ (fs++[E]) K):Ad P ops (⟨d,.call ⟨.value fv,args,tys⟩,ty,pos,af,gd⟩::r) σ fs K:=by
 subst he
 have:=F2 hac hg hv hc hm hrefs (Fits.ofB bw ρ ρ' h1 h2 hfz hids hndb h3 h4 hl hl' hnd hnd' hnew hbw) (τ:=τ) (r:=r) (fs:=fs) (K:=K)
 unfold AS at this
 exact this hτ h
end
attribute [go_sem] AO.closed
theorem VH {A Φ G' G:Prop}(f:A) (F:Φ) (h:G') (e:A→Φ→G'→G:=by intro f F hh;apply f;(iterate 7 (focus (first | (simp only[go_sem,Nat.reduceEqDiff,Nat.reduceAdd,Nat.reduceSub,Nat.reduceLeDiff,Nat.reduceMul,Nat.reduceBEq,Nat.reduceLT,Int.reduceToNat,reduceCtorEq,F];first | done | exact rfl | (and_intros<;>rfl)) | exact rfl | decide)));(iterate 10 (focus (simp[go_sem,F];done)));(iterate 2 (focus (first | (simp only[go_sem,Nat.reduceEqDiff,Nat.reduceAdd,Nat.reduceSub,Nat.reduceLeDiff,Nat.reduceMul,Nat.reduceBEq,Nat.reduceLT,Int.reduceToNat,reduceCtorEq,F];first | done | exact rfl | (and_intros<;>rfl)) | exact rfl | decide)));exact hh):G:=e f F h
theorem Jj {A Φ G' G:Prop}(f:A) (F:Φ) (h:G') (e:A→Φ→G'→G:=by intro f F hh;apply f;(iterate 10 (focus (first | (simp only[go_sem,Nat.reduceEqDiff,Nat.reduceAdd,Nat.reduceSub,Nat.reduceLeDiff,Nat.reduceMul,Nat.reduceBEq,Nat.reduceLT,Int.reduceToNat,reduceCtorEq,F];first | done | exact rfl | (and_intros<;>rfl)) | exact rfl | decide)));(iterate 8 (focus (simp[go_sem,F];done)));(iterate 2 (focus (first | (simp only[go_sem,Nat.reduceEqDiff,Nat.reduceAdd,Nat.reduceSub,Nat.reduceLeDiff,Nat.reduceMul,Nat.reduceBEq,Nat.reduceLT,Int.reduceToNat,reduceCtorEq,F];first | done | exact rfl | (and_intros<;>rfl)) | exact rfl | decide)));exact hh):G:=e f F h
end
section
open Go.RowKit
set_option maxRecDepth 10000
theorem XE (k:Int):(V.mk k 0 ByteArray.empty [] []).enc.map CellD.cs=[[.int .i64 k,.int .i64 0,.str ByteArray.empty,.str ByteArray.empty,.int .i64 0]]:=rfl
set_option maxRecDepth 10000
def rdA (R:Rd V) (x:ByteArray):AV:=match R with
 | .ok v e=>Dk (.c (.sl (v.enc.map CellD.cs))) x e
 | .bad c p=>B9 c p
theorem DH {a b:Nat}(h:a+b<9000000000000000000):IntKind.i64.wrap ((a:Int)+(b:Int))=((a+b:Nat):Int):=by
 rw[CG (by omega) (by omega)];omega
theorem Jk (s:ByteArray) (hs:s.size≤1000000) (i:Nat) (hi:i≤s.size) (w:ByteArray) (hw:w.size≤100) (m:Int) :
  AC Tryz.prog 123 [.c (.str s),.c (.int .i64 i),.c (.str w),.c (.int .i64 m)] [] (rdA (Ck s (BZ m) i (w.data.toList.map UInt8.toNat) 0) ByteArray.empty) []:=by
 have hlen:(w.data.toList.map UInt8.toNat).length=w.size:=by simp
 obtain⟨l,hl⟩:∃l,w.data.toList.map UInt8.toNat=l:=⟨_,rfl⟩
 rw[hl]at hlen ⊢
 obtain⟨R,hR⟩:∃R,Ck s (BZ m) i l 0=R:=⟨_,rfl⟩
 rw[hR]
 refine A6 Tryz.func123 Tryz.ntmps123 ?_
 refine A0 trivial ?_
 refine AG (κ:=Nat) (fun k=>⟨mkS 0 45 [(0,.c (.str s)),(1,.c (.int .i64 i)),(2,.c (.str w)),(3,.c (.int .i64 m)),(8,.ptr (8,0) 0),(9,.c (.int .i64 k))],[((8,0),.box [.nils,.c (.str ByteArray.empty),.c (.int .i64 0),.c (.int .i64 0),.c (.int .i64 0)])]⟩)
  (fun k=>k≤w.size∧Ck s (BZ m) i (l.drop k) k=R) (fun k=>w.size-k) 0 ⟨Nat.zero_le _,hR⟩ ?_ ?_
 ·exact Aq (As.of [((8,0),(8,0))] []) hi
 ·rintro k ⟨hk,hgo⟩
  by_cases hlt:k<w.size
  ·have hdk:decide ((k:Int)<(w.size:Int))=true:=by simpa using hlt
   have hwk:=Ae (k:=k) (by omega)
   have hwp:=DH (a:=i) (b:=k) (by omega)
   obtain⟨b,hb,hb2⟩:=Aw hlt
   have hlk:l[k]? = some b.toNat:=by
    have:=DA w k
    rw[←hl,List.getElem?_map]
    cases hq:w.data.toList[k]? with
    |none=>rw[List.getElem?_eq_none_iff,AL]at hq;omega
    |some b' =>
     rw[hq,hb2]at this
     simp only at this
     rw[Option.map_some,this]
   obtain⟨hkl,hke⟩:=List.getElem?_eq_some_iff.1 hlk
   rw[List.drop_eq_getElem_cons hkl,hke]at hgo
   simp only[Ck]at hgo
   have hbad:=Bs 5 (i+k)
   by_cases hin:i+k<s.size
   ·have hge:decide (((i+k:Nat):Int)≥(s.size:Int))=false:=by simp;omega
    obtain⟨b1,h1,h2⟩:=Aw hin
    rw[h2]at hgo
    by_cases heq:b1.toNat=b.toNat
    ·rw[if_pos heq]at hgo
     have hne:(((b1.toNat:Nat):Int) != ((b.toNat:Nat):Int))=false:=by simp[heq]
     refine A0 (j7 hdk hwp hge h1 hb hne hwk) ?_
     refine⟨k+1,by omega,⟨by omega,hgo⟩,?_⟩
     exact Aq (As.of [((8,0),(8,0))] []) hwk
    ·rw[if_neg heq]at hgo
     subst hgo
     have hne:(((b1.toNat:Nat):Int) != ((b.toNat:Nat):Int))=true:=by simp;omega
     unfold rdA
     unfold B9 at hbad ⊢
     refine A0 (j6 hdk hwp hge h1 hb hne) ?_
     refine w7 (A3 [] hbad) trivial ?_
     refine A0 trivial ?_
     exact Am (A7 []) Tryz.results123
   ·have hge:decide (((i+k:Nat):Int)≥(s.size:Int))=true:=by simp;omega
    rw[BX (by omega),if_neg (by have:=b.toNat_lt;omega)]at hgo
    subst hgo
    unfold rdA
    unfold B9 at hbad ⊢
    refine A0 (j3 hdk hwp hge) ?_
    refine w7 (A3 [] hbad) trivial ?_
    refine A0 trivial ?_
    exact Am (A7 []) Tryz.results123
  ·have hdk:decide ((k:Int)<(w.size:Int))=false:=by simpa using hlt
   have hkw:k=w.size:=by omega
   rw[List.drop_eq_nil_of_le (by omega)]at hgo
   simp only[Ck]at hgo
   subst hgo
   have hwp:=DH (a:=i) (b:=w.size) (by omega)
   have hme:=XE m
   unfold rdA Dk BZ
   rw[hkw]at hdk ⊢
   refine A0 (j2 hdk hwp) ?_
   exact A9 (A8 [] [(39,0)]) Tryz.results123 hme
set_option maxRecDepth 10000
theorem P0 (s:ByteArray) (hs:s.size≤1000000) (i:Nat) (hi:i<s.size) (hd:AP (bAt s (AB s i))=true):AC Tryz.prog 191 [.c (.str s),.c (.int .i64 i)] [] (.tup [.c (.int .i64 (AQ s i)),.c (.int .i64 0)]) []:=by
 have ha0:=CP (s:=s) (i:=AB s i) (by have:=DM hd;omega)
 have hdi:decide ((i:Int)<(s.size:Int))=true:=by simpa using hi
 obtain⟨b,hg,hb⟩:=Aw hi
 obtain⟨b2,hg2,hb2⟩:=Aw ha0
 have hdg:=He b2.toNat
 rw[←hb2,hd]at hdg
 have hbn2:((b2.toNat:Nat):Int)=((bAt s (AB s i):Nat):Int):=by rw[hb2]
 have hbn:((b.toNat:Nat):Int)=((bAt s i:Nat):Int):=by rw[hb]
 have hwi:=Ae (k:=i) (by omega)
 have hga:decide (((AB s i:Nat):Int)≥(s.size:Int))=false:=by simp;omega
 have hwa:=Ae (k:=AB s i) (by omega)
 have hEz:bAt s (AB s i)=48→AQ s i=AB s i+1:=fun h=>by unfold AQ;rw[if_pos h]
 have hEn:bAt s (AB s i)≠48→Dm s (AB s i)=AQ s i:=fun h=>by unfold AQ;rw[if_neg h]
 have fin:∀a,AB s i=a→∀j,a≤j→j≤s.size→Dm s j=AQ s i→True:=fun _ _ _ _ _ _=>trivial
 clear fin
 have hA:(bAt s i=45∧AB s i=i+1)∨(bAt s i≠45∧AB s i=i):=by
  unfold AB
  by_cases h:bAt s i=45
  ·exact .inl ⟨h,if_pos h⟩
  ·exact .inr ⟨h,if_neg h⟩
 generalize AB s i=a at *
 generalize AQ s i=e at *
 rcases hA with⟨h45,hA⟩ | ⟨h45,hA⟩
 all_goals
  first
   |have q45:(((bAt s i:Nat):Int)==45)=true:=by simp;omega
   |have q45:(((bAt s i:Nat):Int)==45)=false:=by simp;omega
  subst hA
  by_cases h48:b2.toNat=48
  ·have q48:(((b2.toNat:Nat):Int)==48)=true:=by simp;omega
   have r48:=q48
   rw[hbn2]at r48
   have he:=hEz (by omega)
   subst he
   refine A6 Tryz.func191 Tryz.ntmps191 ?_
   refine A0 (j8 hdi hg hbn q45 hwi hga hg2 hbn2) ?_
   refine w7 (A3 [] hdg) trivial ?_
   refine A0 (j4 hg2 hbn2 r48 hwa) ?_
   exact Am (A7 []) Tryz.results191
  ·have q48:(((b2.toNat:Nat):Int)==48)=false:=by simp;omega
   have r48:=q48
   rw[hbn2]at r48
   have he:=hEn (by omega)
   refine A6 Tryz.func191 Tryz.ntmps191 ?_
   refine A0 (j8 hdi hg hbn q45 hwi hga hg2 hbn2) ?_
   refine w7 (A3 [] hdg) trivial ?_
   refine A0 (j3 hg2 hbn2 r48) ?_
   refine AG (κ:=Nat) (fun j=>⟨mkS 0 49 [(0,.c (.str s)),(1,.c (.int .i64 j))],[]⟩) (fun j=>j≤s.size∧Dm s j=e) (fun j=>s.size-j) _ ⟨by omega,he⟩ ?_ ?_
   ·exact Aq (As.of [] []) he
   ·rintro j ⟨hj,hje⟩
    by_cases hlt:j<s.size
    ·have hdk:decide ((j:Int)<(s.size:Int))=true:=by simpa using hlt
     have hwj:=Ae (k:=j) (by omega)
     obtain⟨b3,hg3,hb3⟩:=Aw hlt
     have hdg3:=He b3.toNat
     have hbn3:((b3.toNat:Nat):Int)=((bAt s j:Nat):Int):=by rw[hb3]
     rw[←hb3]at hdg3
     cases hdb:AP (bAt s j) with
     |true =>
      rw[hdb]at hdg3
      refine A0 (j3 hdk hg3 hbn3) ?_
      refine w7 (A3 [] hdg3) trivial ?_
      refine A0 hwj ?_
      refine⟨j+1,by omega,⟨by omega,by rw[←IX hdb,hje]⟩,?_⟩
      exact Aq (As.of [] []) hwj
     |false =>
      rw[hdb]at hdg3
      rw[Eo hdb]at hje
      subst hje
      refine A0 (j3 hdk hg3 hbn3) ?_
      refine w7 (A3 [] hdg3) trivial ?_
      refine A0 trivial ?_
      exact Am (A7 []) Tryz.results191
    ·have hdk:decide ((j:Int)<(s.size:Int))=false:=by simpa using hlt
     rw[Eo (by rw[BX (by omega)];rfl)]at hje
     subst hje
     refine A0 hdk ?_
     exact Am (A7 []) Tryz.results191
theorem NW (s:ByteArray) (hs:s.size≤1000000) (i:Nat) (hi:i<s.size) (hd:AP (bAt s (AB s i))=false):AC Tryz.prog 191 [.c (.str s),.c (.int .i64 i)] [] (.tup [.c (.int .i64 (-1)),.c (.int .i64 (AB s i))]) []:=by
 have hdi:decide ((i:Int)<(s.size:Int))=true:=by simpa using hi
 obtain⟨b,hg,hb⟩:=Aw hi
 have hbn:((b.toNat:Nat):Int)=((bAt s i:Nat):Int):=by rw[hb]
 have hwi:=Ae (k:=i) (by omega)
 have hA:(bAt s i=45∧AB s i=i+1)∨(bAt s i≠45∧AB s i=i):=by
  unfold AB
  by_cases h:bAt s i=45
  ·exact .inl ⟨h,if_pos h⟩
  ·exact .inr ⟨h,if_neg h⟩
 generalize AB s i=a at *
 by_cases ha0:a<s.size
 ·obtain⟨b2,hg2,hb2⟩:=Aw ha0
  have hdg:=He b2.toNat
  rw[←hb2,hd]at hdg
  have hbn2:((b2.toNat:Nat):Int)=((bAt s a:Nat):Int):=by rw[hb2]
  have hga:decide (((a:Nat):Int)≥(s.size:Int))=false:=by simp;omega
  rcases hA with⟨h45,hA⟩ | ⟨h45,hA⟩
  all_goals
   first
    |have q45:(((bAt s i:Nat):Int)==45)=true:=by simp;omega
    |have q45:(((bAt s i:Nat):Int)==45)=false:=by simp;omega
   subst hA
   refine A6 Tryz.func191 Tryz.ntmps191 ?_
   refine A0 (j8 hdi hg hbn q45 hwi hga hg2 hbn2) ?_
   refine w7 (A3 [] hdg) trivial ?_
   refine A0 trivial ?_
   exact Am (A7 []) Tryz.results191
 ·have hga:decide (((a:Nat):Int)≥(s.size:Int))=true:=by simp;omega
  rcases hA with⟨h45,hA⟩ | ⟨h45,hA⟩
  ·have q45:(((bAt s i:Nat):Int)==45)=true:=by simp;omega
   subst hA
   refine A6 Tryz.func191 Tryz.ntmps191 ?_
   refine A0 (j6 hdi hg hbn q45 hwi hga) ?_
   exact Am (A7 []) Tryz.results191
  ·omega
end
section
open Go.RowKit
section
variable {P:Program} {o:Oper} {σ:ASt} {t:TypeId}
theorem OS {x lo:Operand}{s:ByteArray}{i:Int}(ho:o.op=.slice t x (some lo) none none) (hx:σ.ev x=.c (.str s)) (hlo:σ.ev lo=.c (.int .i64 i)) (ht:P.underlying t=some .string)
  (h0:0≤i) (h1:i≤s.size):Al P o σ ⟨[],[],.c (.str (s.extract i.toNat s.size))⟩:=by
 refine Al.pure fun Γ σ' a w ow κ hag hr=>?_
 have e1:=AR.str (hag.ev hr (by rw[ho];simp[Op.operands]) hx)
 have e2:=(hag.ev hr (by rw[ho];simp[Op.operands]) hlo).1
 refine⟨.string (s.extract i.toNat s.size),?_,⟨rfl,rfl⟩⟩
 have hrun:=run_slice_string_from_if (P:=P) w t s .i64 i ht
 rw[if_pos ⟨h0,h1⟩]at hrun
 unfold execOp
 rw[ho]
 simp[e1,e2,hrun,run_sliceAt_string _ t _ _ _ _ ht]
end
section
variable {P:Program} {σ τ:ASt} {ops:Array Oper} {r:List Oper} {fs:List AEff} {K:ASt→List AEff→Prop} {E:AEff} {d:Option Tmp} {ty':TypeId} {pos:String} {af:Array Edge} {gd:Option (Nat×Bool)}
theorem LK {t:TypeId}{x lo:Operand}{s y:ByteArray}{i:Int}(hy:s.extract i.toNat s.size=y) (h0:0≤i) (h1:i≤s.size) (ht:P.underlying t=some .string)
  (hg:Bi ops σ ⟨d,.slice t x (some lo) none none,ty',pos,af,gd⟩=some true) (hx:σ.ev x=.c (.str s)) (hlo:σ.ev lo=.c (.int .i64 i))
  (hE:(⟨[],[],.c (.str y)⟩:AEff)=E) (hτ:σ.upd d E=τ) (h:Ad P ops r τ (fs++[E]) K):Ad P ops (⟨d,.slice t x (some lo) none none,ty',pos,af,gd⟩::r) σ fs K:=by
 subst hE hy
 exact Bt hg (OS rfl hx hlo ht h0 h1).sound hτ h
end
end
section
open Go.RowKit
set_option maxRecDepth 10000
theorem SD {s:ByteArray}{a k:Nat}(hk:k≤16) (h:∀j,a≤j→j<a+k→AP (bAt s j)=true):Bf s a k<10000000000000000:=by
 have h1:=SC k h
 have h2:(10:Nat) ^ k≤10 ^ 16:=Nat.pow_le_pow_right (by decide) hk
 have h3:(10:Nat) ^ 16=10000000000000000:=by decide
 omega
theorem Sr {s:ByteArray}{a k:Nat}(hk:k≤16) (h:∀j,a≤j→j<a+k→AP (bAt s j)=true) {b:Nat}(hb:48≤b∧b≤57) :
  IntKind.i64.wrap ((Bf s a k:Int)*10)=((Bf s a k*10:Nat):Int)∧IntKind.u8.wrap ((b:Int)-48)=((b-48:Nat):Int)∧IntKind.i64.wrap ((b-48:Nat):Int)=((b-48:Nat):Int)∧IntKind.i64.wrap (((Bf s a k*10:Nat):Int)+((b-48:Nat):Int))=((Bf s a k*10+(b-48):Nat):Int):=by
 have h1:=SD hk h
 refine⟨?_,?_,CG (by omega) (by omega),?_⟩
 ·rw[CG (by omega) (by omega)];omega
 ·rw[Gt (by omega) (by omega)];omega
 ·rw[CG (by omega) (by omega)];omega
end
end Go.Proofs.YtllfmaflodbieaaGreatDoor
