/- Texts of this proof: G60 G61 G62 G63. -/
import Derived.Test.YtllfmaflodbieaaGreatDoorKG73uG30
import Derived.Deep.RegionLaw
set_option linter.all false
set_option maxHeartbeats 8000000
namespace Go.Proofs.YtllfmaflodbieaaGreatDoor
open Go.RowKit
set_option maxRecDepth 10000
theorem XC (v:V) (key:ByteArray):∃F:Nat→List ByteArray,F 0=[]∧(∀k,(F k).length≤k)∧F v.keys.length=v.keys.filter (fun s=>!(s.toList==key.toList))∧∀k (h:k<v.keys.length),F (k+1)=F k++(if (v.keys[k].toList==key.toList)=true then [] else [v.keys[k]]):=by
 refine⟨fun k=>(v.keys.take k).filter fun s=>!(s.toList==key.toList),rfl,fun k=>?_,by dsimp only;rw[List.take_length],fun k h=>?_⟩
 ·exact Nat.le_trans (List.length_filter_le _ _) (by rw[List.length_take];omega)
 ·dsimp only
  rw[List.take_succ_eq_append_getElem h,List.filter_append]
  congr 1
  rw[List.filter_cons,List.filter_nil]
  cases v.keys[k].toList==key.toList<;>rfl
theorem OB {v:V}(h:v.right) (key:ByteArray) (hk:AP key=true):AC Tryz.prog 238 [Aq v.enc,.c (.str key)] [] (vrA (GW v key)) []:=by
 have hv:=C0 v.enc
 rw[Cz h]at hv
 have h00:((0:Int) != 0)=false:=rfl
 have ht:=PP key
 rw[hk]at ht
 have hr0:=Ez v
 have hg0:=AT v
 unfold GW
 by_cases h0:v.kind=0
 ·have hb:(v.kind==0)=true:=by simpa using h0
  have hl3:=HA
  rw[if_pos h0,Fq]
  generalize BA.enc.map CellD.cs=nc at *
  refine A5 Tryz.func238 Tryz.ntmps238 ?_
  refine A3 q9 ?_
  refine w7 (A8 [] hv) q9 ?_
  refine A3 h00 ?_
  refine w7 (A8 [] ht) q9 ?_
  refine A3 (j3 hr0 hg0 hb) ?_
  refine w9 (A6 [] hl3) q9 ?_
  refine A3 q9 ?_
  exact AL (Ad []) Tryz.results238
 ·have hb:(v.kind==0)=false:=by simpa using h0
  rw[if_neg h0]
  by_cases h6:v.kind=6
  ·have hb6:(v.kind != 6)=false:=by simpa using h6
   rw[if_pos h6,Fq]
   obtain⟨hasc,hok,hlen⟩:=B9 h h6
   have hkl:=(H7 h).1
   have hlm:(v.keys.map Ac).length=v.keys.length:=by simp
   have hkO:=ET h.1 h.2.1
   rw[show Bo v v.kids.length=v.keys from ES h h6]at hkO
   have hpO:=Cj h.1 h.2.1
   have hfc:=Hs (fun s=>!(s.toList==key.toList)) v.member v.keys
   rw[ID h h6]at hfc
   have hck:=AK v
   have hvc:=h.2.1
   obtain⟨F,hF0,hFl,hFn,hFs⟩:=XC v key
   have hob:=Iw (F v.keys.length) ((F v.keys.length).map v.member) (by rw[List.length_map]) (by rw[hFn];omega)
   rw[a1v (by rw[hFn];exact Qo (OL hasc) _)]at hob
   rw[show V.mk 6 0 ByteArray.empty (F v.keys.length) ((F v.keys.length).map v.member)=Ko v key by rw[hFn];rfl]at hob
   have hel:=Bb (Ko v key)
   clear hFn
   generalize Ko v key=d at *
   refine A5 Tryz.func238 Tryz.ntmps238 ?_
   refine A3 q9 ?_
   refine w7 (A8 [] hv) q9 ?_
   refine A3 h00 ?_
   refine w7 (A8 [] ht) q9 ?_
   refine A3 (j4 hr0 hg0 hb hb6) ?_
   refine w9 (A6 [] hkO) q9 ?_
   refine A3 q9 ?_
   refine w9 (A6 [] hpO) q9 ?_
   refine A3 q9 ?_
   refine AZ (κ:=Nat) (fun k=>⟨mkS 0 70 [(1,.c (.str key)),(4,.ptr (4,0) 0),(6,.own (97,0)),(7,.own (98,0)),(8,.c (.sl (v.keys.map Ac))),(9,.c (.sl ((v.kids.map V.enc).map A9))),(10,.c (.int .i64 k))],
     [((4,0),.box [.c (.int .i64 0),.nils]),((97,0),.row false 1 9 ((F k).map Ac)),((98,0),.row false 1 36 ((((F k).map v.member).map V.enc).map A9))]⟩)
    (fun k=>k≤v.keys.length) (fun k=>v.keys.length-k) 0 (Nat.zero_le _) ?_ ?_
   ·exact As (AH.of [((4,0),(4,0)),((97,0),(34,0)),((98,0),(35,0))] []) (j2 hF0 @List.map_nil.{0,0})
   ·intro k hk
    by_cases hlt:k<v.keys.length
    ·have hdk:decide ((k:Int)<(v.keys.length:Int))=true:=by simpa using hlt
     have hw:=AA (k:=k) (by omega)
     have hlt2:k<v.kids.length:=by omega
     have hmem:v.kids[k]=v.member v.keys[k]:=(EW (LY hasc hlt) (List.getElem?_eq_getElem hlt2)).symm
     have hr:Ae (v.keys.map Ac) 1 k=true:=by simp[Ae,hlt,Ac]
     have hg1:(v.keys.map Ac)[k]? = some [.str v.keys[k]]:=by simp[hlt,Ac]
     have hr2:Ae ((v.kids.map V.enc).map A9) 1 k=true:=by simp[Ae,hlt2,A9]
     have hg2:((v.kids.map V.enc).map A9)[k]? = some [.sl (v.kids[k].enc.map CellD.cs)]:=by simp[hlt2,A9]
     have hl1:(F k).length+1≤1000000:=by have:=hFl k;omega
     have hFk:=hFs k hlt
     have e1:F (k+1)=F k++[v.keys[k]]→(F k).map Ac++[[C.str v.keys[k]]]=(F (k+1)).map Ac:=fun h=>by rw[h,List.map_append];rfl
     have e2:F (k+1)=F k++[v.keys[k]]→(((F k).map v.member).map V.enc).map A9++[[C.sl (v.kids[k].enc.map CellD.cs)]]=(((F (k+1)).map v.member).map V.enc).map A9:=fun h=>by rw[h,hmem,List.map_append,List.map_append,List.map_append];rfl
     clear hmem hob
     generalize v.kids[k]=u at *
     generalize v.keys[k]=s at *
     cases hc:s.toList==key.toList with
     |true =>
      rw[hc]at hFk
      have e:=hFk
      simp only[if_true,List.append_nil]at e
      refine A3 (j6 hlm hdk hr hg1 hc hw) ?_
      refine⟨k+1,by omega,by omega,?_⟩
      exact As (AH.of [((4,0),(4,0)),((97,0),(97,0)),((98,0),(98,0))] []) e
     |false =>
      rw[hc]at hFk
      have e:=hFk
      simp only[Bool.false_eq_true,if_false]at e
      have e1:=e1 e
      have e2:=e2 e
      refine A3 (j9 hlm hdk hr hg1 hr2 hg2 hc hl1 hw) ?_
      refine⟨k+1,by omega,by omega,?_⟩
      exact As (AH.of [((4,0),(4,0)),((97,0),(58,0)),((98,0),(65,0))] []) (j2 e1 e2)
    ·have hdk:decide ((k:Int)<(v.keys.length:Int))=false:=by simpa using hlt
     have hke:k=v.keys.length:=by omega
     rw[hke]
     rw[hke]at hdk
     refine A3 (j2 hlm hdk) ?_
     refine w12 (Au [(97,0),(98,0)] hob) q9 ?_
     refine A3 q9 ?_
     exact Ab (Aa [] [(68,0)]) Tryz.results238 hel
  ·have hb6:(v.kind != 6)=true:=by simpa using h6
   rw[if_neg h6,FB]
   refine A5 Tryz.func238 Tryz.ntmps238 ?_
   refine A3 q9 ?_
   refine w7 (A8 [] hv) q9 ?_
   refine A3 h00 ?_
   refine w7 (A8 [] ht) q9 ?_
   refine A3 (j4 hr0 hg0 hb hb6) ?_
   refine w7 (A8 [] (DJ 6)) q9 ?_
   refine A3 q9 ?_
   exact AL (Ad []) Tryz.results238
set_option maxRecDepth 10000
theorem UQ (l:List V) (m:Int):∃F:Nat→List V,F 0=[]∧(∀k,(F k).length≤k)∧F l.length=FU l m∧∀k (h:k<l.length),F (k+1)=F k++(if ((k:Int) != m)=true then [l[k]] else []):=by
 obtain⟨F,hF⟩:∃F:Nat→List V,∀k,F k=(List.range k).filterMap fun (i:Nat)=>if ((i:Int) != m)=true then l[i]? else none:=⟨_,fun _=>rfl⟩
 have hs:∀k (h:k<l.length),F (k+1)=F k++(if ((k:Int) != m)=true then [l[k]] else []):=fun k h=>by
  rw[hF,hF,List.range_succ,List.filterMap_append]
  congr 1
  rw[List.filterMap_cons,List.filterMap_nil,List.getElem?_eq_getElem h]
  cases (k:Int) != m<;>rfl
 have hn:∀k,k≤l.length→F k=(if 0≤m∧m<(k:Int) then (l.take k).eraseIdx m.toNat else l.take k):=by
  intro k
  induction k with
  |zero=>intro _;rw[hF];split<;>simp
  |succ k ih =>
   intro hk
   rw[hs k (by omega),ih (by omega),List.take_succ_eq_append_getElem (show k<l.length by omega)]
   have htl:(l.take k).length=k:=by rw[List.length_take];omega
   by_cases hm:(k:Int)=m
   ·have hb:((k:Int) != m)=false:=by simpa using hm
    rw[hb]
    simp only[if_neg (show ¬(0≤m∧m<(k:Int)) by omega),if_pos (show 0≤m∧m<((k+1:Nat):Int) by omega),Bool.false_eq_true,if_false]
    rw[←hm,Int.toNat_natCast,List.eraseIdx_append_of_length_le (by omega),htl,Nat.sub_self]
    simp
   ·have hb:((k:Int) != m)=true:=by simpa using hm
    rw[hb]
    by_cases hm2:0≤m∧m<(k:Int)
    ·simp only[if_pos hm2,if_pos (show 0≤m∧m<((k+1:Nat):Int) by omega),if_true]
     rw[List.eraseIdx_append_of_lt_length (by omega)]
    ·simp only[if_neg hm2,if_neg (show ¬(0≤m∧m<((k+1:Nat):Int)) by omega),if_true]
 refine⟨F,by rw[hF];rfl,fun k=>?_,?_,hs⟩
 ·rw[hF]
  exact Nat.le_trans (List.length_filterMap_le _ _) (by rw[List.length_range];exact Nat.le_refl _)
 ·rw[hn _ (Nat.le_refl _),List.take_length]
  rfl
theorem OT {v:V}(h:v.right) (m:Int):(Ba (FU v.kids m)).count≤200:=(Jr h m).2.1
theorem MD {v:V}(hv:v.right) (n:Int) (hn:-1000000000000000≤n∧n≤1000000000000000):AC Tryz.prog 237 [Aq v.enc,.c (.int .i64 n)] [] (vrA (GV v n)) []:=by
 have hkl:=B6 hv.2.1
 have hcn:=Mc n v.kids.length hn (by omega)
 have hr0:=Ez v
 have hg0:=AT v
 unfold GV
 by_cases h0:v.kind=0
 ·have hb:(v.kind==0)=true:=by simpa using h0
  have hl3:=HA
  rw[if_pos h0,Fq]
  generalize BA.enc.map CellD.cs=nc at *
  refine A5 Tryz.func237 Tryz.ntmps237 ?_
  refine A3 (j3 hr0 hg0 hb) ?_
  refine w9 (A6 [] hl3) q9 ?_
  refine A3 q9 ?_
  exact AL (Ad []) Tryz.results237
 ·have hb:(v.kind==0)=false:=by simpa using h0
  rw[if_neg h0]
  by_cases h5:v.kind=5
  ·have hb5:(v.kind != 5)=false:=by simpa using h5
   rw[if_pos h5,Fq]
   have hpO:=Cj hv.1 hv.2.1
   obtain⟨m,hm⟩:∃m,BQ n v.kids.length=m:=⟨_,rfl⟩
   rw[hm]at hcn ⊢
   have hac:=OT hv m
   obtain⟨F,hF0,hFl,hFn,hFs⟩:=UQ v.kids m
   have hay:=Gp (FU v.kids m) (by omega)
   rw[←hFn]at hay hac ⊢
   have hlm:((v.kids.map V.enc).map A9).length=v.kids.length:=by simp
   generalize Ba (F v.kids.length)=ar at *
   refine A5 Tryz.func237 Tryz.ntmps237 ?_
   refine A3 (j4 hr0 hg0 hb hb5) ?_
   refine w9 (A6 [] hpO) q9 ?_
   refine A3 hlm ?_
   refine w7 (A8 [] hcn) q9 ?_
   refine A3 q9 ?_
   refine AZ (κ:=Nat) (fun k=>⟨mkS 0 47 [(1,.c (.int .i64 m)),(4,.ptr (4,0) 0),(5,.c (.sl ((v.kids.map V.enc).map A9))),(6,.own (97,0)),(7,.c (.int .i64 k))],
     [((4,0),.box [.c (.int .i64 0),.nils]),((97,0),.row false 1 36 (((F k).map V.enc).map A9))]⟩)
    (fun k=>k≤v.kids.length) (fun k=>v.kids.length-k) 0 (Nat.zero_le _) ?_ ?_
   ·exact As (AH.of [((4,0),(4,0)),((97,0),(27,0))] []) (j2 hF0 @List.map_nil.{0,0})
   ·intro k hk
    by_cases hlt:k<v.kids.length
    ·have hdk:decide ((k:Int)<(v.kids.length:Int))=true:=by simpa using hlt
     have hw:=AA (k:=k) (by omega)
     have hr2:Ae ((v.kids.map V.enc).map A9) 1 k=true:=by simp[Ae,hlt,A9]
     have hg2:((v.kids.map V.enc).map A9)[k]? = some [.sl (v.kids[k].enc.map CellD.cs)]:=by simp[hlt,A9]
     have hl1:(F k).length+1≤1000000:=by have:=hFl k;omega
     have hFk:=hFs k hlt
     have e1:F (k+1)=F k++[v.kids[k]]→((F k).map V.enc).map A9++[[C.sl (v.kids[k].enc.map CellD.cs)]]=((F (k+1)).map V.enc).map A9:=fun h=>by rw[h,List.map_append,List.map_append];rfl
     generalize v.kids[k]=u at *
     cases hc:(k:Int) != m with
     |false =>
      rw[hc]at hFk
      have e:=hFk
      simp only[Bool.false_eq_true,if_false,List.append_nil]at e
      refine A3 (j4 hlm hdk hc hw) ?_
      refine⟨k+1,by omega,by omega,?_⟩
      exact As (AH.of [((4,0),(4,0)),((97,0),(97,0))] []) e
     |true =>
      rw[hc]at hFk
      have e:=hFk
      simp only[if_true]at e
      have e1:=e1 e
      refine A3 (j7 hlm hdk hr2 hg2 hc hl1 hw) ?_
      refine⟨k+1,by omega,by omega,?_⟩
      exact As (AH.of [((4,0),(4,0)),((97,0),(43,0))] []) e1
    ·have hdk:decide ((k:Int)<(v.kids.length:Int))=false:=by simpa using hlt
     have hke:k=v.kids.length:=by omega
     rw[hke]
     rw[hke]at hdk
     refine A3 (j2 hlm hdk) ?_
     refine w9 (A6 [(97,0)] hay) q9 ?_
     refine A3 q9 ?_
     exact AL (Ad []) Tryz.results237
  ·have hb5:(v.kind != 5)=true:=by simpa using h5
   rw[if_neg h5,FB]
   refine A5 Tryz.func237 Tryz.ntmps237 ?_
   refine A3 (j4 hr0 hg0 hb hb5) ?_
   refine w7 (A8 [] (DJ 6)) q9 ?_
   refine A3 q9 ?_
   exact AL (Ad []) Tryz.results237
theorem NS:∀(P:List V),P.length≤1000000→(∀k∈P,k.right∧(k.kind=3∨k.kind=4))→∀(v:V),v.right→AC Tryz.prog 199 [Aq v.enc,.c (.sl ((P.map V.enc).map A9))] [] (vrA (CY P v)) []
 | [],_,_,v,hv=>by
  have hz0:((0:Int)==0)=true:=rfl
  have hz1:(((0:Nat):Int)==0)=true:=rfl
  have hl3:=HA
  show AC _ _ _ _ (vrA (okR BA)) _
  rw[Fq]
  generalize BA.enc.map CellD.cs=nc at *
  refine A5 Tryz.func199 Tryz.ntmps199 ?_
  refine A3 (j2 hz0 hz1) ?_
  refine w9 (A6 [] hl3) q9 ?_
  refine A3 q9 ?_
  exact AL (Ad []) Tryz.results199
 | [k],_,hp,v,hv=>by
  obtain⟨hk,hkk⟩:=hp k (by simp)
  have h10:((1:Int)==0)=false:=rfl
  have h11:((1:Int)==1)=true:=rfl
  have h20:(((1:Nat):Int)==0)=false:=rfl
  have h21:(((1:Nat):Int)==1)=true:=rfl
  have hP1:Ae (([k].map V.enc).map A9) 1 0=true:=by simp[Ae,A9]
  have hP2:(([k].map V.enc).map A9)[0]? = some [.sl (k.enc.map CellD.cs)]:=rfl
  have hPl:(([k].map V.enc).map A9).length=1:=rfl
  have hkr:=Ez k
  have hkg:=AT k
  unfold CY
  generalize ([k].map V.enc).map A9=P at *
  by_cases h4:k.kind=4
  ·have hb3:(k.kind==3)=false:=by simp[h4]
   have hd:=OB hv k.text (F0 hk)
   rw[if_pos h4]
   generalize GW v k.text=r at *
   rcases r with⟨c,_ | u⟩
   all_goals
    simp only[C3,C2]at hd ⊢
    refine A5 Tryz.func199 Tryz.ntmps199 ?_
    refine A3 (j10 hPl h10 h11 h20 h21 hP1 hP2 hkr hkg hb3) ?_
    refine w9 (A6 [] hd) q9 ?_
    refine A3 q9 ?_
    exact AL (Ad []) Tryz.results199
  ·have hb3:(k.kind==3)=true:=by simp;omega
   have hd:=MD hv k.num (FI hk)
   rw[if_neg h4]
   generalize GV v k.num=r at *
   rcases r with⟨c,_ | u⟩
   all_goals
    simp only[C3,C2]at hd ⊢
    refine A5 Tryz.func199 Tryz.ntmps199 ?_
    refine A3 (j10 hPl h10 h11 h20 h21 hP1 hP2 hkr hkg hb3) ?_
    refine w9 (A6 [] hd) q9 ?_
    refine A3 q9 ?_
    exact AL (Ad []) Tryz.results199
 |k::k'::p,hl,hp,v,hv=>by
  have hpl:(k'::p).length≤1000000:=by simp only[List.length_cons]at hl ⊢;omega
  have hpp:∀y∈k'::p,y.right∧(y.kind=3∨y.kind=4):=fun y hy=>hp y (by simp only[List.mem_cons]at hy ⊢;exact .inr hy)
  obtain⟨hk,hkk⟩:=hp k (by simp)
  have ih:=NS (k'::p) hpl hpp
  have ok:=Gm (k'::p) hpp
  have hP1:Ae (((k::k'::p).map V.enc).map A9) 1 0=true:=by simp[Ae,A9]
  have hP2:(((k::k'::p).map V.enc).map A9)[0]? = some [.sl (k.enc.map CellD.cs)]:=rfl
  have hP3:1≤(k::k'::p).length:=by simp
  have hP4:((((k::k'::p).map V.enc).map A9).take (k::k'::p).length).drop 1=((k'::p).map V.enc).map A9:=by
   rw[List.take_of_length_le (by rw[List.length_map,List.length_map];exact Nat.le_refl _)]
   rfl
  have hP7:(((k::k'::p).map V.enc).map A9).take 1=([k].map V.enc).map A9:=rfl
  have hP5:(((k::k'::p).length:Int)==0)=false:=by simp;omega
  have hP6:(((k::k'::p).length:Int)==1)=false:=by simp;omega
  have hga:=a1n hv hk
  have hgo:=SU hv k
  have hsp:=fun {r:V} (hr:r.right)=>Lq (x:=r) hr [k] (by simp) (fun y hy=>by rw[List.mem_singleton]at hy;rw[hy];exact⟨hk,hkk⟩) v hv
  have hkr:=Ez k
  have hkg:=AT k
  have hel:=Bb v
  have hvc:=hv.2.1
  have hall:=IS v.enc
  have hb0:0+v.enc.length≤1000000:=by omega
  unfold CY
  generalize k'::p=p' at *
  generalize [k]=kk at *
  generalize hPP:k::p'=P at *
  have hPl:((P.map V.enc).map A9).length=P.length:=by simp
  have hPa:=GP (P.map V.enc)
  have h01:Hl 0 (some (AV.c (C.int IntKind.i64 1)))=some 1:=rfl
  have h02:Hl P.length (some (AV.c (C.int IntKind.i64 1)))=some 1:=rfl
  have h00:((0:Int) != 0)=false:=rfl
  generalize Fl v k=g at *
  rcases g with⟨c,_ | w⟩
  ·have hc:(c != 0)=true:=by simpa using (show c≠0 from hgo)
   simp only[C2]at hga ⊢
   refine A5 Tryz.func199 Tryz.ntmps199 ?_
   refine A3 (j7 hPl hP5 hP6 hP1 hP2 hkr hkg) ?_
   refine w9 (A6 [] hga) q9 ?_
   refine A3 hc ?_
   exact AL (Ad []) Tryz.results199
  ·have hw:w.right:=hgo.2
   have hih:=ih w hw
   have hok2:=ok w hw
   have hwr:=Ez w
   have hwg:=AT w
   dsimp only
   simp only[C3]at hga
   by_cases hw0:w.kind=0
   ·have hbw:(w.kind==0)=true:=by simpa using hw0
    rw[if_pos hw0,Fq]
    refine A5 Tryz.func199 Tryz.ntmps199 ?_
    refine A3 (j7 hPl hP5 hP6 hP1 hP2 hkr hkg) ?_
    refine w9 (A6 [] hga) q9 ?_
    refine A3 (j6 h00 hwr hwg hbw hall hb0) ?_
    exact Ab (Aa [] [(49,0)]) Tryz.results199 hel
   ·have hbw:(w.kind==0)=false:=by simpa using hw0
    rw[if_neg hw0]
    generalize CY p' w=q at *
    rcases q with⟨c,_ | u⟩
    ·have hc:(c != 0)=true:=by simpa using (show c≠0 from hok2)
     simp only[C2]at hih ⊢
     refine A5 Tryz.func199 Tryz.ntmps199 ?_
     refine A3 (j7 hPl hP5 hP6 hP1 hP2 hkr hkg) ?_
     refine w9 (A6 [] hga) q9 ?_
     refine A3 (j10 h00 hwr hwg hbw hPl hP3 hP4 h01 hPa @Nat.le_refl) ?_
     refine w9 (A6 [] hih) q9 ?_
     refine A3 hc ?_
     exact AL (Ad []) Tryz.results199
    ·have hsk:=hsp hok2.2
     dsimp only
     simp only[C3]at hih
     generalize CD u kk v=z at *
     rcases z with⟨c,_ | y⟩
     all_goals
      simp only[C3,C2]at hsk ⊢
      refine A5 Tryz.func199 Tryz.ntmps199 ?_
      refine A3 (j7 hPl hP5 hP6 hP1 hP2 hkr hkg) ?_
      refine w9 (A6 [] hga) q9 ?_
      refine A3 (j10 h00 hwr hwg hbw hPl hP3 hP4 h01 hPa @Nat.le_refl) ?_
      refine w9 (A6 [] hih) q9 ?_
      refine A3 (j6 h00 hPl hP3 hP7 h02 hPa) ?_
      refine w9 (A6 [] hsk) q9 ?_
      refine A3 q9 ?_
      exact AL (Ad []) Tryz.results199
end Go.Proofs.YtllfmaflodbieaaGreatDoor
