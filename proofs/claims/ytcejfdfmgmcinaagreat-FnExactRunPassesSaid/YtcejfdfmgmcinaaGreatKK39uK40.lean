/- Texts of this proof: K39 K40. -/
import Derived.Test.YtcejfdfmgmcinaaGreatKK37uE45
set_option linter.all false
set_option maxHeartbeats 8000000
namespace Go.Proofs.YtcejfdfmgmcinaaGreat
open Go.RowKit
set_option maxRecDepth 10000
noncomputable def Hn (st:Nat×List CoD) (p:Int):Nat×List CoD:=if Cw st.2=0 then (st.1+Gb (AQ p) st.2,Fq (AQ p) st.2) else (st.1,[])
noncomputable def FP (L:List CoD) (ps:List Int):Nat×List CoD:=ps.foldl Hn (0,L)
theorem LY (L:List CoD) (ps:List Int) {k:Nat}(h:k<ps.length):FP L (ps.take (k+1))=Hn (FP L (ps.take k)) ps[k]:=by
 unfold FP
 rw[List.take_succ_eq_append_getElem h,List.foldl_append]
 rfl
structure GoodL (M:List CoD):Prop where
 len:M.length≤900
 node:∀d∈M,NodeOk d.op d.num d.val
theorem GoodL.sized {M:List CoD}(h:GoodL M):∀d∈M,EG d.val:=fun d hd=>by
 have hn:=h.node d hd
 cases hv:BX d.op with
 |false=>rw[hn.noVal hv];exact fun c hc=>absurd hc (by simp)
 |true =>
  obtain⟨t,ht,e,_⟩:=hn.hasVal hv
  rw[e]
  exact Jf (Cd ht)
theorem Kc {L:List CoD}(h:Cw L=0):GoodL L:=by
 obtain⟨h1,h2,t1,t2,t3,t4⟩:=DE (F0 h)
 exact⟨h2,by rw[t4];exact LJ _ 0 t1⟩
theorem QO (p:Int) {L:List CoD}(h:Cw L=0):Gb (AQ p) L≤900:=by
 obtain⟨h1,h2,t1,t2,t3,t4⟩:=DE (F0 h)
 have:=(X5 (Hi p) (Ek L) t1).2.2
 unfold Gb
 omega
theorem XW {st:Nat×List CoD}(p:Int) (h:GoodL st.2):GoodL (Hn st p).2∧(Hn st p).1≤st.1+900:=by
 unfold Hn
 split
 ·rename_i hc
  obtain⟨d1,d2⟩:=Nt (Hi p) hc
  have:=QO p hc
  exact⟨⟨d1,d2⟩,by dsimp only;omega⟩
 ·exact⟨⟨by simp,by simp⟩,Nat.le_add_right _ _⟩
theorem L5 {L:List CoD}(h:Cw L=0) (ps:List Int):∀k,k≤ps.length→GoodL (FP L (ps.take k)).2∧(FP L (ps.take k)).1≤900*k
 | 0,_=>by
  unfold FP
  rw[List.take_zero]
  exact⟨Kc h,Nat.le_refl _⟩
 |k+1,hk=>by
  obtain⟨h1,h2⟩:=L5 h ps k (by omega)
  rw[LY L ps (by omega)]
  obtain⟨g1,g2⟩:=XW (st:=FP L (ps.take k)) (ps[k]'(by omega)) h1
  exact⟨g1,by omega⟩
def SH (p:Int):FuncId:=if p=1 then 62 else if p=2 then 65 else if p=3 then 74 else 75
theorem XH {p:Int}(hp:1≤p∧p≤4):A7 Tryz.prog (SH p)=true∧Iz (SH p) (AQ p):=by
 have hc:p=1∨p=2∨p=3∨p=4:=by omega
 rcases hc with rfl | rfl | rfl | rfl
 ·exact⟨rfl,R9⟩
 ·exact⟨rfl,RH⟩
 ·exact⟨rfl,QN⟩
 ·exact⟨rfl,Uc⟩
theorem ZY {p:Int}(hp:1≤p∧p≤4):A8 ([[.raw (.func (.func 62) #[] #[])],[.raw (.func (.func 65) #[] #[])],[.raw (.func (.func 74) #[] #[])],[.raw (.func (.func 75) #[] #[])]]:List (List C)) 1 (p-1)=true ∧
  ([[.raw (.func (.func 62) #[] #[])],[.raw (.func (.func 65) #[] #[])],[.raw (.func (.func 74) #[] #[])],[.raw (.func (.func 75) #[] #[])]]:List (List C))[(p-1).toNat]? = some [.raw (.func (.func (SH p)) #[] #[])]:=by
 have hc:p=1∨p=2∨p=3∨p=4:=by omega
 rcases hc with rfl | rfl | rfl | rfl<;>exact⟨rfl,rfl⟩
theorem YB:Iz 73 fun _ _ _ _=>none:=by
 intro p h
 refine⟨DA,false,Fk,?_⟩
 show AC _ _ _ _ (.tup [DA.av,.c (.bool false)]) _
 rw[CN]
 unfold PT.av
 generalize p.d=d,p.kids.map PT.cs=P at *
 refine A6 Tryz.func73 Tryz.ntmps73 q9 ?_
 exact Ag (A5 []) Tryz.results73
mutual
theorem RT:∀t:CT,t.rw (fun _ _ _ _=>none)=(t,0)
 | .mk op num val kids=>by rw[CT.rw,TP kids]
theorem TP:∀l:List CT,rwL (fun _ _ _ _=>none) l=(l,0)
 | []=>by rw[rwL]
 |t::l=>by rw[rwL,RT t,TP l];simp
end
theorem a0d:JA fun _ _ _ _=>none:=fun _ _ _ _ _ _ h=>by cases h
theorem Qi (p:Int):AC Tryz.prog 71 [.c (.int .i64 p)] [] (.c (.bool (!(decide (p≥1)&&decide (p≤4))))) []:=by
 have h:=ED p 1 4
 generalize (decide (p≥1)&&decide (p≤4))=q at *
 refine A6 Tryz.func71 Tryz.ntmps71 q9 ?_
 refine v7 (A3 [] h) q9 q9 ?_
 exact Ag (A5 []) Tryz.results71
theorem XX (f:FuncId) (hcal:A7 Tryz.prog f=true) (d:Int→Bool) (l:List Int) (hl:l.length≤1000000) (hd:∀p∈l,AC Tryz.prog f [.c (.int .i64 p)] [] (.c (.bool (d p))) []) :
  AC Tryz.prog 139 [Cr l,.clo f []] [] (.c (.int .i64 (DM d l))) []:=by
 have hln:(l.map As).length=l.length:=by simp
 refine A6 Tryz.func139 Tryz.ntmps139 q9 ?_
 refine Ar (κ:=Nat) (fun k=>⟨mkS 0 19 [(0,Cr l),(1,.clo f []),(7,.c (.int .i64 l.length)),(8,.c (.int .i64 k))],[]⟩)
  (fun k=>k≤l.length∧∀j (h:j<l.length),j<k→d l[j]=false) (fun k=>l.length-k) 0 ⟨Nat.zero_le _,by intro j h hj;omega⟩ ?_ ?_
 ·exact Ac (Aj.of [] []) hln
 ·rintro k ⟨hk,hno⟩
  by_cases hlt:k<l.length
  ·have hdk:decide ((k:Int)<(l.length:Int))=true:=by simpa using hlt
   have hw:=Ad (k:=k) (by omega)
   obtain⟨hr,hg⟩:=D2 l hlt
   have hc:=hd l[k] (List.getElem_mem hlt)
   cases hb:d l[k] with
   |true =>
    rw[hb]at hc
    have hix:DM d l=k:=by
     unfold DM
     rw[List.findIdx?_eq_some_iff_getElem.2 ⟨hlt,hb,fun j hj=>by simp[hno j (by omega) hj]⟩]
    rw[hix]
    refine Ab (j3 hdk hr hg) ?_
    refine v7 (A3 [] hc) hcal q9 ?_
    exact Ag (A5 []) Tryz.results139
   |false =>
    rw[hb]at hc
    refine Ab (j3 hdk hr hg) ?_
    refine v7 (A3 [] hc) hcal hw ?_
    refine⟨k+1,by omega,⟨by omega,fun j h hj=>?_⟩,?_⟩
    ·by_cases hjk:j=k
     ·subst hjk;exact hb
     ·exact hno j h (by omega)
    ·exact Ac (Aj.of [] []) hw
  ·have hdk:decide ((k:Int)<(l.length:Int))=false:=by simpa using hlt
   have hix:DM d l = -1:=by
    unfold DM
    rw[List.findIdx?_eq_none_iff.2 fun x hx=>by
     obtain⟨j,h1,rfl⟩:=List.mem_iff_getElem.1 hx
     simpa using hno j h1 (by omega)]
   rw[hix]
   exact FC hdk (A5 []) Tryz.results139
theorem KM (f:FuncId) (hcal:A7 Tryz.prog f=true) (d:Int→Bool) (l:List Int) (hl:l.length≤1000000) (hd:∀p∈l,AC Tryz.prog f [.c (.int .i64 p)] [] (.c (.bool (d p))) []) :
  AC Tryz.prog 70 [Cr l,.clo f []] [] (.c (.bool (l.any d))) []:=by
 have h:=XX f hcal d l hl hd
 have he:=Mh d l
 generalize DM d l=r,l.any d=q at *
 refine A6 Tryz.func70 Tryz.ntmps70 q9 ?_
 refine v7 (A3 [] h) hcal he ?_
 exact Ag (A5 []) Tryz.results70
def Kz (p:Int):Bool:=!(decide (p≥1)&&decide (p≤4))
noncomputable def DX (L:List CoD) (ps:List Int):Int:=if Cw L≠0 then Cw L else if 20<ps.length then 2 else if ps.any Kz then 3 else 0
theorem Rj {L:List CoD}(hl:L.length≤1048576) (hz:∀d∈L,EG d.val) (ps:List Int) (hps:ps.length≤1048576) (h:DX L ps≠0):AC Tryz.prog 23 [AE L,Cr ps] [] (.agg [.c (.int .i64 (DX L ps)),.c (.int .i64 0),.nils]) []:=by
 have hc:=FM hl hz
 have hln:(ps.map As).length=ps.length:=by simp
 unfold DX at h ⊢
 by_cases h1:Cw L≠0
 ·rw[if_pos h1]at h ⊢
  have hb:(Cw L != 0)=true:=E9 h1
  generalize Cw L=c at *
  refine A6 Tryz.func23 Tryz.ntmps23 q9 ?_
  refine v7 (A3 [] hc) q9 hb ?_
  exact Ag (A5 []) Tryz.results23
 ·rw[if_neg h1]at h ⊢
  rw[Classical.byContradiction h1]at hc
  have h00:((0:Int) != 0)=false:=rfl
  by_cases h2:20<ps.length
  ·rw[if_pos h2]at h ⊢
   have hg:decide ((ps.length:Int)>20)=true:=decide_eq_true (by omega)
   refine A6 Tryz.func23 Tryz.ntmps23 q9 ?_
   refine v7 (A3 [] hc) q9 (j3 h00 hln hg) ?_
   exact Ag (A5 []) Tryz.results23
  ·rw[if_neg h2]at h ⊢
   have hg:decide ((ps.length:Int)>20)=false:=decide_eq_false (by omega)
   have hk:=KM 71 rfl Kz ps (by omega) fun p _=>Qi p
   by_cases h3:ps.any Kz=true
   ·rw[if_pos h3]at h ⊢
    rw[h3]at hk
    refine A6 Tryz.func23 Tryz.ntmps23 q9 ?_
    refine v7 (A3 [] hc) q9 (j3 h00 hln hg) ?_
    refine v7 (A3 [] hk) q9 q9 ?_
    exact Ag (A5 []) Tryz.results23
   ·rw[if_neg h3]at h
    exact absurd rfl h
theorem GV {L:List CoD}{ps:List Int}(h:DX L ps=0):Cw L=0∧ps.length≤20∧ps.any Kz=false:=by
 unfold DX at h
 split at h
 ·rename_i h1;exact absurd h h1
 ·rename_i h1
  split at h
  ·cases h
  ·rename_i h2
   split at h
   ·cases h
   ·rename_i h3
    exact⟨Classical.byContradiction h1,by omega,by simpa using h3⟩
theorem JY {ps:List Int}(h:ps.any Kz=false) {k:Nat}(hk:k<ps.length):1≤ps[k]∧ps[k]≤4:=by
 rw[List.any_eq_false]at h
 have:=h _ (List.getElem_mem hk)
 unfold Kz at this
 simp at this
 omega
theorem SU {L:List CoD}(ps:List Int) (h:DX L ps=0):AC Tryz.prog 23 [AE L,Cr ps] [] (.agg [.c (.int .i64 0),.c (.int .i64 ((FP L ps).1:Nat)),.own (0,0)]) [((0,0),.row true 6 87 ((FP L ps).2.map CoD.os))]:=by
 obtain⟨h1,h2,h3⟩:=GV h
 have hgL:=Kc h1
 have hc:=FM (L:=L) (by have:=hgL.len;omega) hgL.sized
 rw[h1]at hc
 have h00:((0:Int) != 0)=false:=rfl
 have hln:(ps.map As).length=ps.length:=by simp
 have hg:decide ((ps.length:Int)>20)=false:=decide_eq_false (by omega)
 have hk:=KM 71 rfl Kz ps (by omega) fun p _=>Qi p
 rw[h3]at hk
 have hfirst:=WT (f:=73) rfl a0d YB hgL.sized h1
 have hd0:Gb (fun _ _ _ _=>none) L=0:=by unfold Gb;rw[RT]
 have hdn:Fq (fun _ _ _ _=>none) L=L:=by unfold Fq;rw[RT];exact (DE (F0 h1)).2.2.2.2.2.symm
 rw[hd0,hdn]at hfirst
 have hr0:FP L (ps.take 0)=(0,L):=by rw[List.take_zero];rfl
 refine A6 Tryz.func23 Tryz.ntmps23 q9 ?_
 refine v7 (A3 [] hc) q9 (j3 h00 hln hg) ?_
 refine v7 (A3 [] hk) q9 q9 ?_
 refine v12 (BB [] hfirst) q9 hln ?_
 refine Ar (κ:=Nat) (fun k=>⟨mkS 0 52 [(4,.ptr (4,0) 0),(6,.ptr (6,0) 0),(27,Cr ps),(28,.c (.int .i64 ps.length)),(29,.c (.int .i64 k))],
   [((4,0),.box [.c (.int .i64 0),.c (.int .i64 0),.nils]),((6,0),.box [.c (.int .i64 0),.c (.int .i64 ((FP L (ps.take k)).1:Nat)),.own (95,0)]),((95,0),.row true 6 87 ((FP L (ps.take k)).2.map CoD.os))]⟩)
  (fun k=>k≤ps.length) (fun k=>ps.length-k) 0 (Nat.zero_le _) ?_ ?_
 ·exact Ac (Aj.of [((4,0),(4,0)),((6,0),(6,0)),((95,0),(26,0))] []) (j2 hr0 @Int.natCast_zero)
 intro k hk
 by_cases hlt:k<ps.length
 ·have hdk:decide ((k:Int)<(ps.length:Int))=true:=decide_eq_true (by omega)
  have hw:=Ad (k:=k) (by omega)
  obtain⟨hr,hgr⟩:=D2 ps hlt
  obtain⟨g1,g2⟩:=L5 h1 ps k (by omega)
  have hp:=JY h3 hlt
  have hnx:=LY L ps hlt
  have hwp:IntKind.i64.wrap (ps[k] - 1)=ps[k] - 1:=IntWalk.i64_in _ (by omega)
  obtain⟨f1,f2⟩:=ZY hp
  obtain⟨c1,c2⟩:=XH hp
  generalize FP L (ps.take k)=st at *
  obtain⟨n,M⟩:=st
  dsimp only at g1 g2
  generalize ps[k]=p at *
  by_cases hM:Cw M=0
  ·have hst:Hn (n,M) p=(n+Gb (AQ p) M,Fq (AQ p) M):=by unfold Hn;rw[if_pos hM]
   have hpass:=AC.clo_last (WT (f:=SH p) c1 (Hi p) c2 g1.sized hM)
   have hdl:=QO p hM
   have hws:IntKind.i64.wrap ((n:Int)+(Gb (AQ p) M:Int))=((n+Gb (AQ p) M:Nat):Int):=by rw[IntWalk.i64_in _ (by omega)];omega
   rw[hst]at hnx
   have hn1:=congrArg Prod.fst hnx
   have hn2:=congrArg Prod.snd hnx
   dsimp only at hn1 hn2
   clear hnx hst
   generalize Gb (AQ p) M=m,Fq (AQ p) M=M2 at *
   refine Ab (j6 hdk hr hgr hwp f1 f2) ?_
   refine v12 (BB [(95,0)] hpass) q9 (j2 hws hw) ?_
   refine⟨k+1,by omega,by omega,?_⟩
   exact Ac (Aj.of [((4,0),(4,0)),((6,0),(6,0)),((95,0),(40,0))] []) (j2 hn1 hn2)
  ·have hst:Hn (n,M) p=(n,[]):=by unfold Hn;rw[if_neg hM]
   have hpass:=AC.clo_last (a0p (f:=SH p) (by have:=g1.len;omega) g1.sized hM)
   have hws:IntKind.i64.wrap ((n:Int)+0)=(n:Int):=by rw[IntWalk.i64_in _ (by omega)];omega
   rw[hst]at hnx
   have hn1:=congrArg Prod.fst hnx
   have hn2:=congrArg Prod.snd hnx
   dsimp only at hn1 hn2
   clear hnx hst
   generalize Cw M=cM at *
   refine Ab (j6 hdk hr hgr hwp f1 f2) ?_
   refine v7 (A3 [(95,0)] hpass) q9 (j2 hws hw) ?_
   refine⟨k+1,by omega,by omega,?_⟩
   exact Ac (Aj.of [((4,0),(4,0)),((6,0),(6,0))] []) (j3 hn1 hn2 @List.map_nil.{0,0})
 ·have hdk:decide ((k:Int)<(ps.length:Int))=false:=decide_eq_false (by omega)
  have hke:k=ps.length:=by omega
  subst hke
  rw[List.take_length]
  refine Ab hdk ?_
  exact Aa (A9 [((0,0),(95,0))] []) Tryz.results23 hdk
set_option maxRecDepth 10000
theorem Xo {ps:List Int}(h:ps.any Kz=true):∃(j:Nat) (hj:j<ps.length),Kz ps[j]=true∧∀(k:Nat) (hk:k<ps.length),k<j→Kz ps[k]=false:=by
 induction ps with
 |nil=>simp at h
 |cons p l ih =>
  cases hb:Kz p with
  |true=>exact⟨0,by simp,by simpa using hb,fun k hk hkj=>by omega⟩
  |false =>
   rw[List.any_cons,hb,Bool.false_or]at h
   obtain⟨j,hj,h1,h2⟩:=ih h
   refine⟨j+1,by simpa using hj,by simpa using h1,fun k hk hkj=>?_⟩
   cases k with
   |zero=>simpa using hb
   |succ k=>simpa using h2 k (by simpa using hk) (by omega)
theorem RW {L:List CoD}(hl:L.length≤1048576) (ps:List Int) (hps:ps.length≤1048576) (h:DX L ps≠0):AC Tryz.prog 21 [AE L,Cr ps] [] (.agg [.c (.int .i64 (DX L ps)),.c (.int .i64 0),.nils]) []:=by
 have hc:=FQ hl
 have hln:(ps.map As).length=ps.length:=by simp
 unfold DX at h ⊢
 by_cases h1:Cw L≠0
 ·rw[if_pos h1]at h ⊢
  have hb:(Cw L != 0)=true:=E9 h1
  generalize Cw L=c at *
  refine A6 Tryz.func21 Tryz.ntmps21 q9 ?_
  refine v7 (A3 [] hc) q9 hb ?_
  exact Ag (A5 []) Tryz.results21
 ·rw[if_neg h1]at h ⊢
  rw[Classical.byContradiction h1]at hc
  have h00:((0:Int) != 0)=false:=rfl
  by_cases h2:20<ps.length
  ·rw[if_pos h2]at h ⊢
   have hg:decide ((ps.length:Int)>20)=true:=decide_eq_true (by omega)
   refine A6 Tryz.func21 Tryz.ntmps21 q9 ?_
   refine v7 (A3 [] hc) q9 (j3 h00 hln hg) ?_
   exact Ag (A5 []) Tryz.results21
  ·rw[if_neg h2]at h ⊢
   have hg:decide ((ps.length:Int)>20)=false:=decide_eq_false (by omega)
   by_cases h3:ps.any Kz=true
   ·rw[if_pos h3]at h ⊢
    obtain⟨j,hj,hjb,hjl⟩:=Xo h3
    refine A6 Tryz.func21 Tryz.ntmps21 q9 ?_
    refine v7 (A3 [] hc) q9 (j3 h00 hln hg) ?_
    refine Ar (κ:=Nat) (fun k=>⟨mkS 0 59 [(0,AE L),(1,Cr ps),(4,.ptr (4,0) 0),(6,.c (.int .i64 k))],[((4,0),.box [.c (.int .i64 0),.c (.int .i64 0),.nils])]⟩) (fun k=>k≤j) (fun k=>ps.length-k) 0 (Nat.zero_le _) ?_ ?_
    ·exact Ac (Aj.of [((4,0),(4,0))] []) @Int.natCast_zero
    intro k hk
    have hlt:k<ps.length:=by omega
    have hdk:decide ((k:Int)<(ps.length:Int))=true:=decide_eq_true (by omega)
    have hw:=Ad (k:=k) (by omega)
    obtain⟨hr,hgr⟩:=D2 ps hlt
    have hin:=I5 ps[k] 1 4
    by_cases hkj:k=j
    ·subst hkj
     have hq:(decide (ps[k]≥1)&&decide (ps[k]≤4))=false:=by
      unfold Kz at hjb
      cases hq:(decide (ps[k]≥1)&&decide (ps[k]≤4)) with
      |true=>rw[hq]at hjb;cases hjb
      |false=>rfl
     rw[hq]at hin
     generalize ps[k]=p at *
     refine Ab (j4 hln hdk hr hgr) ?_
     refine v7 (A3 [] hin) q9 q9 ?_
     exact Ag (A5 []) Tryz.results21
    ·have hq:(decide (ps[k]≥1)&&decide (ps[k]≤4))=true:=by
      have hb:=hjl k hlt (by omega)
      unfold Kz at hb
      cases hq:(decide (ps[k]≥1)&&decide (ps[k]≤4)) with
      |true=>rfl
      |false=>rw[hq]at hb;cases hb
     rw[hq]at hin
     generalize ps[k]=p at *
     refine Ab (j4 hln hdk hr hgr) ?_
     refine v7 (A3 [] hin) q9 hw ?_
     refine⟨k+1,by omega,by omega,?_⟩
     exact Ac (Aj.of [((4,0),(4,0))] []) hw
   ·rw[if_neg h3]at h
    exact absurd rfl h
theorem TX {L:List CoD}(ps:List Int) (h:DX L ps=0):AC Tryz.prog 21 [AE L,Cr ps] [] (.agg [.c (.int .i64 0),.c (.int .i64 ((FP L ps).1:Nat)),.own (0,0)]) [((0,0),.row true 6 87 ((FP L ps).2.map CoD.os))]:=by
 obtain⟨h1,h2,h3⟩:=GV h
 have hgL:=Kc h1
 have hc:=FQ (L:=L) (by have:=hgL.len;omega)
 rw[h1]at hc
 have h00:((0:Int) != 0)=false:=rfl
 have hln:(ps.map As).length=ps.length:=by simp
 have hg:decide ((ps.length:Int)>20)=false:=decide_eq_false (by omega)
 have hcp:=NT L (by have:=hgL.len;omega) fun d hd=>Oa (hgL.node d hd)
 have hr0:FP L (ps.take 0)=(0,L):=by rw[List.take_zero];rfl
 refine A6 Tryz.func21 Tryz.ntmps21 q9 ?_
 refine v7 (A3 [] hc) q9 (j3 h00 hln hg) ?_
 refine Ar (κ:=Nat) (fun k=>⟨mkS 0 59 [(0,AE L),(1,Cr ps),(4,.ptr (4,0) 0),(6,.c (.int .i64 k))],[((4,0),.box [.c (.int .i64 0),.c (.int .i64 0),.nils])]⟩) (fun k=>k≤ps.length) (fun k=>ps.length-k) 0 (Nat.zero_le _) ?_ ?_
 ·exact Ac (Aj.of [((4,0),(4,0))] []) @Int.natCast_zero
 intro k hk
 by_cases hlt:k<ps.length
 ·have hdk:decide ((k:Int)<(ps.length:Int))=true:=decide_eq_true (by omega)
  have hw:=Ad (k:=k) (by omega)
  obtain⟨hr,hgr⟩:=D2 ps hlt
  have hp:=JY h3 hlt
  have hin:=I5 ps[k] 1 4
  have hq:(decide (ps[k]≥1)&&decide (ps[k]≤4))=true:=by rw[Bool.and_eq_true];exact⟨decide_eq_true hp.1,decide_eq_true hp.2⟩
  rw[hq]at hin
  generalize ps[k]=p at *
  refine Ab (j4 hln hdk hr hgr) ?_
  refine v7 (A3 [] hin) q9 hw ?_
  refine⟨k+1,by omega,by omega,?_⟩
  exact Ac (Aj.of [((4,0),(4,0))] []) hw
 have hdk:decide ((k:Int)<(ps.length:Int))=false:=decide_eq_false (by omega)
 refine Ab (j2 hln hdk) ?_
 refine v12 (BB [] hcp) q9 q9 ?_
 refine Ar (κ:=Nat) (fun k=>⟨mkS 0 59 [(1,Cr ps),(4,.ptr (4,0) 0),(7,.ptr (7,0) 0),(8,.c (.int .i64 k))],
   [((4,0),.box [.c (.int .i64 0),.c (.int .i64 0),.nils]),((7,0),.box [.c (.int .i64 0),.c (.int .i64 ((FP L (ps.take k)).1:Nat)),.own (95,0)]),((95,0),.row true 6 87 ((FP L (ps.take k)).2.map CoD.os))]⟩)
  (fun k=>k≤ps.length) (fun k=>ps.length-k) 0 (Nat.zero_le _) ?_ ?_
 ·exact Ac (Aj.of [((4,0),(4,0)),((7,0),(7,0)),((95,0),(34,0))] []) (j2 hr0 @Int.natCast_zero)
 clear hdk hk
 intro k hk
 by_cases hlt:k<ps.length
 ·have hdk:decide ((k:Int)<(ps.length:Int))=true:=decide_eq_true (by omega)
  have hw:=Ad (k:=k) (by omega)
  obtain⟨hr,hgr⟩:=D2 ps hlt
  obtain⟨g1,g2⟩:=L5 h1 ps k (by omega)
  have hp:=JY h3 hlt
  have hnx:=LY L ps hlt
  generalize FP L (ps.take k)=st at *
  obtain⟨n,M⟩:=st
  dsimp only at g1 g2
  generalize ps[k]=p at *
  by_cases hM:Cw M=0
  ·have hst:Hn (n,M) p=(n+Gb (AQ p) M,Fq (AQ p) M):=by unfold Hn;rw[if_pos hM]
   have hpass:=TW hp hM
   have hdl:=QO p hM
   have hws:IntKind.i64.wrap ((n:Int)+(Gb (AQ p) M:Int))=((n+Gb (AQ p) M:Nat):Int):=by rw[IntWalk.i64_in _ (by omega)];omega
   rw[hst]at hnx
   have hn1:=congrArg Prod.fst hnx
   have hn2:=congrArg Prod.snd hnx
   dsimp only at hn1 hn2
   clear hnx hst
   generalize Gb (AQ p) M=m,Fq (AQ p) M=M2 at *
   refine Ab (j4 hln hdk hr hgr) ?_
   refine v12 (BB [(95,0)] hpass) q9 (j2 hws hw) ?_
   refine⟨k+1,by omega,by omega,?_⟩
   exact Ac (Aj.of [((4,0),(4,0)),((7,0),(7,0)),((95,0),(48,0))] []) (j2 hn1 hn2)
  ·have hst:Hn (n,M) p=(n,[]):=by unfold Hn;rw[if_neg hM]
   have hpass:=RU (L:=M) (by have:=g1.len;omega) p hM
   have hws:IntKind.i64.wrap ((n:Int)+0)=(n:Int):=by rw[IntWalk.i64_in _ (by omega)];omega
   rw[hst]at hnx
   have hn1:=congrArg Prod.fst hnx
   have hn2:=congrArg Prod.snd hnx
   dsimp only at hn1 hn2
   clear hnx hst
   generalize Cw M=cM at *
   refine Ab (j4 hln hdk hr hgr) ?_
   refine v7 (A3 [(95,0)] hpass) q9 (j2 hws hw) ?_
   refine⟨k+1,by omega,by omega,?_⟩
   exact Ac (Aj.of [((4,0),(4,0)),((7,0),(7,0))] []) (j3 hn1 hn2 @List.map_nil.{0,0})
 ·have hdk:decide ((k:Int)<(ps.length:Int))=false:=decide_eq_false (by omega)
  have hke:k=ps.length:=by omega
  subst hke
  rw[List.take_length]
  refine Ab (j2 hln hdk) ?_
  exact Aa (A9 [((0,0),(95,0))] []) Tryz.results21 hdk
def toI (l:List Int) (k:Nat):List (List C):=(l.take k).map As++List.replicate (l.length-k) [.int .i64 0]
theorem a1j (l:List Int):toI l 0=List.replicate l.length [C.int .i64 0]:=by simp[toI]
theorem a1h (l:List Int):toI l l.length=l.map As:=by simp[toI]
theorem a1i (l:List Int) {k:Nat}(h:k<l.length):A8 (toI l k) 1 k=true∧(toI l k)[k]? = some [.int .i64 0]:=by
 have h1:(toI l k)[k]? = some [.int .i64 0]:=by
  unfold toI
  rw[List.getElem?_append_right (by simp;omega),List.length_map,List.length_take,Nat.min_eq_left (by omega),Nat.sub_self,List.getElem?_replicate,if_pos (by omega)]
 exact⟨by unfold A8;rw[Int.toNat_natCast,h1];rfl,h1⟩
theorem a3g (l:List Int) {k:Nat}(h:k<l.length):(toI l k).set k [.int .i64 l[k]]=toI l (k+1):=by
 have hl:((l.take k).map As).length=k:=by simp;omega
 unfold toI
 rw[List.set_append_right _ _ (by omega),hl,Nat.sub_self,List.take_succ_eq_append_getElem h,List.map_append,List.append_assoc,show l.length-k=(l.length-(k+1))+1 by omega,List.replicate_succ]
 simp[As]
theorem U8 (l:List Int) (hl:l.length≤1048576):AC Tryz.prog 22 [Cr l] [] (.own (0,0)) [((0,0),.row false 1 2 (l.map As))]:=by
 have hln:(l.map As).length=l.length:=by simp
 have h2:(0:Int)≤(l.length:Int):=by omega
 have h3:(l.length:Int)≤2000000:=by omega
 have hz:=a1j l
 refine A6 Tryz.func22 Tryz.ntmps22 (j3 hln h2 h3) ?_
 refine Ar (κ:=Nat) (fun k=>⟨mkS 0 22 [(0,Cr l),(3,.own (99,0)),(4,.c (.int .i64 k))],[((99,0),.row false 1 2 (toI l k))]⟩)
  (fun k=>k≤l.length) (fun k=>l.length-k) 0 (Nat.zero_le _) ?_ ?_
 ·exact Ac (Aj.of [((99,0),(7,0))] []) (j3 hz @Int.toNat_natCast @Int.natCast_zero)
 intro k hk
 by_cases hlt:k<l.length
 ·have hdk:decide ((k:Int)<(l.length:Int))=true:=decide_eq_true (by omega)
  have hw:=Ad (k:=k) (by omega)
  obtain⟨hr0,hg0⟩:=D2 l hlt
  obtain⟨hr1,hg1⟩:=a1i l hlt
  have hs:=a3g l hlt
  generalize l[k]=x at *
  refine Ab (j8 hln hdk hr0 hg0 hr1 hg1 hs hw) ?_
  refine⟨k+1,by omega,by omega,?_⟩
  exact Ac (Aj.of [((99,0),(99,0))] []) hs
 ·have hdk:decide ((k:Int)<(l.length:Int))=false:=decide_eq_false (by omega)
  have hke:k=l.length:=by omega
  subst hke
  have hf:=a1h l
  refine Ab (j2 hln hdk) ?_
  exact Aa (A9 [((0,0),(99,0))] []) Tryz.results22 hf
end Go.Proofs.YtcejfdfmgmcinaaGreat
