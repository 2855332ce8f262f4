/- The reference's CoreFault. Printed by gen_k11.py. -/
import Derived.Test.YtcejfdfmgmcinaaGreatKK10uK19
set_option linter.all false
set_option maxHeartbeats 8000000
namespace Go.Proofs.YtcejfdfmgmcinaaGreat
open Go.RowKit
set_option maxRecDepth 10000
theorem Wm (a b:Nat):AC Tryz.prog 134 [.c (.int .i64 a),.c (.int .i64 b)] [] (.c (.int .i64 (max a b:Nat))) []:=by
 by_cases h:a>b
 ·have hd:decide ((a:Int)>(b:Int))=true:=decide_eq_true (by omega)
  rw[show max a b=a by omega]
  refine A7 Tryz.func134 Tryz.ntmps134 hd ?_
  exact Aj (A5 []) Tryz.results134
 ·have hd:decide ((a:Int)>(b:Int))=false:=decide_eq_false (by omega)
  rw[show max a b=b by omega]
  refine A7 Tryz.func134 Tryz.ntmps134 hd ?_
  exact Aj (A5 []) Tryz.results134
def Dg (L:List CoD) (k:Nat):List Nat:=(List.range k).map (B2 L L.length)++List.replicate (L.length-k) 0
theorem Oi (L:List CoD) {k:Nat}(h:k≤L.length):(Dg L k).length=L.length:=by unfold Dg;simp;omega
theorem R6 (L:List CoD) {k j:Nat}(h:j<k):(Dg L k)[j]? = some (B2 L L.length j):=by
 unfold Dg
 rw[List.getElem?_append_left (by simpa using h)]
 simp[h]
theorem VY (L:List CoD) {k:Nat}(h:k<L.length):(Dg L k)[k]? = some 0:=by
 unfold Dg
 rw[List.getElem?_append_right (by simp),List.length_map,List.length_range,Nat.sub_self,List.getElem?_replicate,if_pos (by omega)]
theorem VZ (L:List CoD) {k:Nat}(h:k<L.length):(Dg L k).set k (B2 L L.length k)=Dg L (k+1):=by
 unfold Dg
 rw[List.set_append_right _ _ (by simp),List.length_map,List.length_range,Nat.sub_self,List.range_succ,List.map_append,List.append_assoc]
 congr 1
 rw[show L.length-k=(L.length-(k+1))+1 by omega,List.replicate_succ]
 rfl
theorem T0 {L:List CoD}{t:CT}(ho:t.ok) (hs:Seg L 0 t) (hn:t.size=L.length) {f k:Nat}(hk:k<f) (hkl:k<L.length):B2 L f k=B2 L L.length k:=by
 obtain⟨s,c,s1,s2,s3,_⟩:=UG t 0 k ho hs (Nat.zero_le _) (by omega)
 have h1:=E7 s c f s1 s2 (by omega)
 have h2:=E7 s c L.length s1 s2 (by omega)
 rw[show c+s.size-1=k by omega]at h1 h2
 rw[h1,h2]
theorem R9 {L:List CoD}{t:CT}(ho:t.ok) (hs:Seg L 0 t) (hn:t.size=L.length) (hL:∀(k:Nat) (h:k<L.length),CoOk L[k] k) {i:Nat}(hi:i<L.length):B2 L L.length i=(L[i].named.map fun k=>B2 L L.length k.toNat).foldl max 0+1:=by
 obtain⟨n,hn'⟩:∃n,L.length=n+1:=⟨L.length-1,by omega⟩
 have h1:B2 L (n+1) i=(L[i].named.map fun k=>B2 L n k.toNat).foldl max 0+1:=by
  conv=>lhs;unfold B2
  rw[List.getElem?_eq_getElem hi]
 rw[←hn']at h1
 rw[h1]
 congr 2
 refine List.map_congr_left fun k hk=>?_
 obtain⟨k0,k1⟩:=(hL i hi).ahead k hk
 exact T0 ho hs hn (by omega) (by omega)
def FT (L:List CoD) (d:CoD) (k:Nat):Nat:=((d.named.take k).map fun j=>B2 L L.length j.toNat).foldl max 0
theorem WJ (L:List CoD) (d:CoD):FT L d 0=0:=by unfold FT;simp
theorem WI (L:List CoD) (d:CoD) {k:Nat}(h:k<An d.op) {j:Nat}(hj:d.kid k=(j:Int)):FT L d (k+1)=max (FT L d k) (B2 L L.length j):=by
 obtain⟨h2,h3⟩:=List.getElem?_eq_some_iff.1 (Fd d h)
 unfold FT
 rw[List.take_succ_eq_append_getElem h2,h3,hj,List.map_append,List.foldl_append]
 rfl
theorem WH (L:List CoD) (d:CoD):FT L d (An d.op)=(d.named.map fun j=>B2 L L.length j.toNat).foldl max 0:=by
 unfold FT
 rw[List.take_of_length_le (by rw[d.named_len];exact Nat.le_refl _)]
def EP (l:List Nat):List (List C):=l.map fun (x:Nat)=>[C.int .i64 x]
theorem MV (l:List Nat) {k x:Nat}(h:l[k]? = some x):Aa (EP l) 1 k=true∧(EP l)[k]? = some [.int .i64 x]:=by
 have h1:(EP l)[k]? = some [.int .i64 x]:=by unfold EP;rw[List.getElem?_map,h];rfl
 exact⟨by unfold Aa;rw[Int.toNat_natCast,h1];rfl,h1⟩
theorem OI (l:List Nat) (k x:Nat):(EP l).set k [.int .i64 x]=EP (l.set k x):=by unfold EP;rw[List.map_set]
theorem U4 (n:Nat):List.replicate n [C.int .i64 0]=EP (List.replicate n 0):=by unfold EP;rw[List.map_replicate];rfl
theorem SY (L:List CoD):Dg L 0=List.replicate L.length 0:=by unfold Dg;simp
def C4 (L:List CoD) (t:CT):Int:=if EM L≠0 then EM L else Sx t
theorem So (L:List CoD) (hl:L.length≤1048576) (t:CT) (ht:EM L=0→t.ok∧Seg L 0 t∧t.size=L.length):AC Tryz.prog 66 [AA L] [] (.c (.int .i64 (C4 L t))) []:=by
 have hln:(L.map CoD.cs).length=L.length:=by simp
 have h00:((0:Int) != 0)=false:=rfl
 by_cases hsz:L.length<1∨900<L.length
 ·have hc:C4 L t=2:=by
   have:EM L=2:=by unfold EM;rw[if_pos hsz]
   unfold C4
   rw[this]
   rfl
  rw[hc]
  by_cases h1:L.length<1
  ·have g1:decide ((L.length:Int)<1)=true:=decide_eq_true (by omega)
   refine A7 Tryz.func66 Tryz.ntmps66 (j2 hln g1) ?_
   exact Aj (A5 []) Tryz.results66
  ·have g1:decide ((L.length:Int)<1)=false:=decide_eq_false (by omega)
   have g2:decide ((L.length:Int)>900)=true:=decide_eq_true (by omega)
   refine A7 Tryz.func66 Tryz.ntmps66 (j3 hln g1 g2) ?_
   exact Aj (A5 []) Tryz.results66
 have g1:decide ((L.length:Int)<1)=false:=decide_eq_false (by omega)
 have g2:decide ((L.length:Int)>900)=false:=decide_eq_false (by omega)
 obtain⟨R,hR⟩:∃R,C4 L t=R:=⟨_,rfl⟩
 rw[hR]
 have hhead:EM L=if Cw 0 L≠0 then Cw 0 L else if BN L L.length (L.length-1)≠0 then 1 else 0:=by unfold EM;rw[if_neg hsz]
 have hnode:=fun i h=>Wy L i h (by omega)
 refine A7 Tryz.func66 Tryz.ntmps66 (j3 hln g1 g2) ?_
 refine Ar (κ:=Nat) (fun k=>⟨mkS 0 105 [(0,AA L),(3,.c (.int .i64 k))],[]⟩) (fun k=>k≤L.length∧Cw k (L.drop k)=Cw 0 L) (fun k=>L.length-k) 0 ⟨Nat.zero_le _,by rw[List.drop_zero]⟩ ?_ ?_
 ·exact Ab (Ah.of [] []) hln
 rintro k ⟨hk,hgo⟩
 by_cases hlt:k<L.length
 ·have hdk:decide ((k:Int)<(L.length:Int))=true:=decide_eq_true (by omega)
  have hw:=Af (k:=k) (by omega)
  have hnd:=hnode k hlt
  rw[JO L hlt]at hgo
  by_cases hc:CJ L[k] k=0
  ·rw[if_pos hc]at hgo
   rw[hc]at hnd
   refine Ac (j2 hln hdk) ?_
   refine v7 (A3 [] hnd) q9 (j2 h00 hw) ?_
   refine⟨k+1,by omega,⟨by omega,hgo⟩,?_⟩
   exact Ab (Ah.of [] []) hw
  ·rw[if_neg hc]at hgo
   have hb:(CJ L[k] k != 0)=true:=DS hc
   have hRk:CJ L[k] k=R:=by
    rw[←hR]
    unfold C4
    rw[hhead,←hgo,if_pos hc,if_pos hc]
   rw[hRk]at hb hnd
   refine Ac (j2 hln hdk) ?_
   refine v7 (A3 [] hnd) q9 hb ?_
   exact Aj (A5 []) Tryz.results66
 have hdk:decide ((k:Int)<(L.length:Int))=false:=decide_eq_false (by omega)
 rw[List.drop_eq_nil_of_le (by omega)]at hgo
 have hgo:Cw 0 L=0:=hgo.symm
 rw[hgo,if_neg (by simp)]at hhead
 have hL:∀(k:Nat) (h:k<L.length),CoOk L[k] k:=fun k hk=>by
  have:=FX L 0 hgo k hk
  rw[Nat.zero_add]at this
  exact HF this
 have hord:=MM hL (by omega) L.length (L.length-1) [] (by omega) (by omega) (by omega) (Nat.zero_le _)
 have hob:=S6 hL (by omega)
 have hol:=Jt (L:=L) (n:=L.length) L.length (L.length-1) [] (Nat.zero_le _)
 have hwl:IntKind.i64.wrap ((L.length:Int)-1)=((L.length-1:Nat):Int):=by rw[IntWalk.i64_in _ (by omega)];omega
 generalize Cv L L.length L.length (L.length-1) []=O at *
 have hOl:(O.map Aw).length=O.length:=by simp
 clear hnode hgo
 by_cases hlen:¬O.length=L.length
 ·have hne:((O.length:Int) != (L.length:Int))=true:=DS (by omega)
  have hb0:BN L L.length (L.length-1)≠0:=fun h=>hlen (by rw[hob.2 h,Iy])
  have hR1:R=1:=by
   rw[←hR]
   unfold C4
   rw[hhead,if_pos hb0]
   rfl
  rw[hR1]
  refine Ac (j3 hln hdk hwl) ?_
  refine Ca (As [] [((1,0),(36,0))] hord) @List.map_nil.{0,0} (j3 hOl hln hne) ?_
  exact Aj (A5 []) Tryz.results66
 have hlen:O.length=L.length:=Classical.byContradiction hlen
 have hne:((O.length:Int) != (L.length:Int))=false:=IG (by omega)
 refine Ac (j3 hln hdk hwl) ?_
 refine Ca (As [] [((1,0),(36,0))] hord) @List.map_nil.{0,0} (j3 hOl hln hne) ?_
 refine Ar (κ:=Nat) (fun k=>⟨mkS 0 105 [(0,AA L),(5,.c (.int .i64 (L.length-1:Nat))),(6,.own (99,0)),(7,.c (.int .i64 k))],[((99,0),.row false 1 2 (O.map Aw))]⟩) (fun k=>k≤O.length∧O.take k=rng k) (fun k=>O.length-k) 0 ⟨Nat.zero_le _,rfl⟩ ?_ ?_
 ·exact Ab (Ah.of [((99,0),(36,0))] []) hln
 rintro k2 ⟨hk2,hpre⟩
 by_cases hlt2:k2<O.length
 ·have hdk2:decide ((k2:Int)<(O.length:Int))=true:=decide_eq_true (by omega)
  have hw:=Af (k:=k2) (by omega)
  obtain⟨hr1,hg1⟩:=EN O hlt2
  by_cases hq:O[k2]=(k2:Int)
  ·have hqf:(O[k2] != (k2:Int))=false:=IG hq
   have hpre2:O.take (k2+1)=rng (k2+1):=by rw[List.take_succ_eq_append_getElem hlt2,hpre,hq,Nd]
   generalize O[k2]=x at *
   refine Ac (j6 hOl hdk2 hr1 hg1 hqf hw) ?_
   refine⟨k2+1,by omega,⟨by omega,hpre2⟩,?_⟩
   exact Ab (Ah.of [((99,0),(99,0))] []) hw
  ·have hqf:(O[k2] != (k2:Int))=true:=DS hq
   have hb0:BN L L.length (L.length-1)≠0:=fun h=>hq (by
    have h1:=hob.2 h
    have h2:=l8 (m:=L.length) (k:=k2) (by omega)
    rw[←h1,List.getElem?_eq_getElem hlt2]at h2
    exact Option.some.inj h2)
   have hR1:R=1:=by
    rw[←hR]
    unfold C4
    rw[hhead,if_pos hb0]
    rfl
   rw[hR1]
   generalize O[k2]=x at *
   exact FU (j5 hOl hdk2 hr1 hg1 hqf) (A5 []) Tryz.results66
 have hdk2:decide ((k2:Int)<(O.length:Int))=false:=decide_eq_false (by omega)
 have hb0:BN L L.length (L.length-1)=0:=hob.1 (by
  rw[List.take_of_length_le (by omega)]at hpre
  rw[hpre]
  congr 1
  omega)
 rw[hb0,if_neg (by simp)]at hhead
 obtain⟨t1,t2,t3⟩:=ht hhead
 have hRt:Sx t=R:=by rw[←hR];unfold C4;rw[hhead,if_neg (by simp)]
 have hkn:=ML (L:=L) (by omega) L.length t 0 [] (by omega) t1 t2 (by simp;omega)
 rw[show 0+t.size-1=L.length-1 by omega]at hkn
 unfold Sx at hRt
 replace hkn:AC Tryz.prog 132 [AA L,.c (.int .i64 (L.length-1:Nat)),.c (.sl [])] [] (.c (.bool (t.known []))) []:=hkn
 clear hord hob hol hpre hhead hb0
 cases hknv:t.known [] with
 |false =>
  rw[hknv]at hkn hRt
  rw[if_pos rfl]at hRt
  subst hRt
  refine Ac (j2 hOl hdk2) ?_
  refine v7 (A3 [] hkn) q9 q9 ?_
  exact Aj (A5 []) Tryz.results66
 |true =>
  rw[hknv]at hkn hRt
  rw[if_neg (by decide)]at hRt
  have hz0:=U4 L.length
  have hd0:=SY L
  rw[←hd0]at hz0
  have h2:(0:Int)≤(L.length:Int):=by omega
  have h3:(L.length:Int)≤2000000:=by omega
  refine Ac (j2 hOl hdk2) ?_
  refine v7 (A3 [] hkn) q9 (j3 hln h2 h3) ?_
  refine Ar (κ:=Nat) (fun k=>⟨mkS 0 105 [(0,AA L),(8,.own (98,0)),(9,.c (.int .i64 k))],[((98,0),.row false 1 2 (EP (Dg L k)))]⟩) (fun k=>k≤L.length∧∀j,j<k→B2 L L.length j≤120) (fun k=>L.length-k) 0 ⟨Nat.zero_le _,fun j hj=>absurd hj (by omega)⟩ ?_ ?_
  ·exact Ab (Ah.of [((98,0),(60,0))] []) hz0
  rintro i ⟨hi,hall⟩
  by_cases hlt3:¬i<L.length
  ·have hdk3:decide ((i:Int)<(L.length:Int))=false:=decide_eq_false (by omega)
   have h120:¬120<t.depth:=by
    have h5:=E7 t 0 L.length t1 t2 (by omega)
    rw[show 0+t.size-1=L.length-1 by omega]at h5
    have:=hall (L.length-1) (by omega)
    omega
   rw[if_neg h120]at hRt
   subst hRt
   exact FU (j2 hln hdk3) (A5 []) Tryz.results66
  have hlt3:i<L.length:=Classical.byContradiction hlt3
  have hdk3:decide ((i:Int)<(L.length:Int))=true:=decide_eq_true (by omega)
  have hok:=hL i hlt3
  obtain⟨hr0,hg0⟩:=E5 L hlt3
  have hK:=Fj L[i].op hok.op.1 hok.op.2
  have hkid:=HW L[i]
  have hah:=hok.ahead
  have hal:=Bl L[i].op
  have hkd:=fun k=>@Fd L[i] k
  have hmz:=WJ L L[i]
  have hms:=fun k=>@WI L L[i] k
  have hmf:=WH L L[i]
  have hde:=R9 t1 t2 t3 hL hlt3
  rw[←hmf]at hde
  have hdl:=SZ t1 t2 t3 hlt3
  unfold CoD.av at hkid
  generalize L[i]=d at *
  refine Ac (j2 hln hdk3) ?_
  refine Ar (κ:=Nat) (fun k=>⟨mkS 0 105 [(0,AA L),(8,.own (97,0)),(9,.c (.int .i64 i)),(10,.c (.int .i64 k))],[((97,0),.row false 1 2 (EP ((Dg L i).set i (FT L d k))))]⟩) (fun k=>k≤An d.op) (fun k=>3-k) 0 (Nat.zero_le _) ?_ ?_
  ·have hs0:EP (Dg L i)=EP ((Dg L i).set i (FT L d 0)):=by
    rw[hmz]
    congr 1
    symm
    apply List.ext_getElem?
    intro j
    rw[List.getElem?_set]
    split
    ·rename_i hj
     subst hj
     rw[if_pos (by rw[Oi L hi];omega),VY L hlt3]
    ·rfl
   exact Ab (Ah.of [((97,0),(98,0))] []) hs0
  intro k3 hk3
  have hDl:=Oi L hi
  have hself:((Dg L i).set i (FT L d k3))[i]? = some (FT L d k3):=List.getElem?_set_self (by omega)
  obtain⟨hr1,hg1⟩:=MV _ hself
  by_cases hlt4:k3<An d.op
  ·have hdk4:decide ((k3:Int)<(An d.op:Nat))=true:=decide_eq_true (by omega)
   have hw:=Af (k:=k3) (by omega)
   have hkc:=hkid k3 (by omega)
   obtain⟨q0,q1⟩:=hah _ (List.mem_of_getElem? (hkd k3 hlt4))
   obtain⟨j,hj⟩:∃j:Nat,d.kid k3=(j:Int):=⟨(d.kid k3).toNat,by omega⟩
   rw[hj]at hkc
   have hother:((Dg L i).set i (FT L d k3))[j]? = some (B2 L L.length j):=by
    rw[List.getElem?_set_ne (by omega)]
    exact R6 L (by omega)
   obtain⟨hr2,hg2⟩:=MV _ hother
   have hmx:=Wm (FT L d k3) (B2 L L.length j)
   rw[←hms k3 hlt4 hj]at hmx
   have hset:=OI ((Dg L i).set i (FT L d k3)) i (FT L d (k3+1))
   rw[List.set_set]at hset
   generalize EP ((Dg L i).set i (FT L d k3))=D0 at *
   generalize hD1:EP ((Dg L i).set i (FT L d (k3+1)))=D1 at *
   generalize FT L d k3=m0,B2 L L.length j=dj at *
   refine Ac (j2 hr0 hg0) ?_
   refine v7 (A3 [] hK) q9 (j5 hdk4 hr0 hg0 hr1 hg1) ?_
   refine v7 (A3 [] hkc) q9 (j2 hr2 hg2) ?_
   refine v7 (A3 [] hmx) q9 (j4 hr1 hg1 hset hw) ?_
   refine⟨k3+1,by omega,by omega,?_⟩
   exact Ab (Ah.of [((97,0),(97,0))] []) hD1
  ·have hdk4:decide ((k3:Int)<(An d.op:Nat))=false:=decide_eq_false (by omega)
   obtain rfl:k3=An d.op:=by omega
   have hw1:IntKind.i64.wrap (((FT L d (An d.op):Nat):Int)+1)=((B2 L L.length i:Nat):Int):=by rw[hde,IntWalk.i64_in _ (by have:=hdl;have:=t.depth_size;omega)];omega
   have hset:=OI ((Dg L i).set i (FT L d (An d.op))) i (B2 L L.length i)
   rw[List.set_set,VZ L hlt3]at hset
   have hnew:(Dg L (i+1))[i]? = some (B2 L L.length i):=R6 L (by omega)
   obtain⟨hr2,hg2⟩:=MV _ hnew
   have hw:=Af (k:=i) (by omega)
   clear hms hmz hmf
   generalize EP ((Dg L i).set i (FT L d (An d.op)))=D0 at *
   generalize hD1:EP (Dg L (i+1))=D1 at *
   generalize FT L d (An d.op)=m0 at *
   by_cases h120:120<B2 L L.length i
   ·have g3:decide (((B2 L L.length i:Nat):Int)>120)=true:=decide_eq_true (by omega)
    rw[if_pos (by omega)]at hRt
    subst hRt
    generalize B2 L L.length i=di at *
    refine Ac (j2 hr0 hg0) ?_
    refine v7 (A3 [] hK) q9 (j8 hdk4 hr1 hg1 hw1 hset hr2 hg2 g3) ?_
    exact Aj (A5 []) Tryz.results66
   ·have g3:decide (((B2 L L.length i:Nat):Int)>120)=false:=decide_eq_false (by omega)
    have hall2:∀j,j<i+1→B2 L L.length j≤120:=fun j hj=>by
     rcases Nat.lt_succ_iff_lt_or_eq.1 hj with h | rfl
     ·exact hall j h
     ·omega
    clear hde hdl hnew
    generalize B2 L L.length i=di at *
    refine Ac (j2 hr0 hg0) ?_
    refine v7 (A3 [] hK) q9 (j9 hdk4 hr1 hg1 hw1 hset hr2 hg2 g3 hw) ?_
    refine⟨i+1,by omega,⟨by omega,hall2⟩,?_⟩
    exact Ab (Ah.of [((98,0),(97,0))] []) hD1
end Go.Proofs.YtcejfdfmgmcinaaGreat
