/- The reference's CoreFault. Printed by gen_k11.py. -/
import Derived.Test.YtcejfdfmgmcinaaGreatKK10uK19
set_option linter.all false
set_option maxHeartbeats 8000000
namespace Go.Proofs.YtcejfdfmgmcinaaGreat
open Go.RowKit
set_option maxRecDepth 10000
theorem Y8 (a b:Nat):AC Tryz.prog 134 [.c (.int .i64 a),.c (.int .i64 b)] [] (.c (.int .i64 (max a b:Nat))) []:=by
 by_cases h:a>b
 ·have hd:decide ((a:Int)>(b:Int))=true:=decide_eq_true (by omega)
  rw[show max a b=a by omega]
  refine A6 Tryz.func134 Tryz.ntmps134 hd ?_
  exact Ag (A5 []) Tryz.results134
 ·have hd:decide ((a:Int)>(b:Int))=false:=decide_eq_false (by omega)
  rw[show max a b=b by omega]
  refine A6 Tryz.func134 Tryz.ntmps134 hd ?_
  exact Ag (A5 []) Tryz.results134
def DL (L:List CoD) (k:Nat):List Nat:=(List.range k).map (B7 L L.length)++List.replicate (L.length-k) 0
theorem PC (L:List CoD) {k:Nat}(h:k≤L.length):(DL L k).length=L.length:=by unfold DL;simp;omega
theorem Sv (L:List CoD) {k j:Nat}(h:j<k):(DL L k)[j]? = some (B7 L L.length j):=by
 unfold DL
 rw[List.getElem?_append_left (by simpa using h)]
 simp[h]
theorem XB (L:List CoD) {k:Nat}(h:k<L.length):(DL L k)[k]? = some 0:=by
 unfold DL
 rw[List.getElem?_append_right (by simp),List.length_map,List.length_range,Nat.sub_self,List.getElem?_replicate,if_pos (by omega)]
theorem XC (L:List CoD) {k:Nat}(h:k<L.length):(DL L k).set k (B7 L L.length k)=DL L (k+1):=by
 unfold DL
 rw[List.set_append_right _ _ (by simp),List.length_map,List.length_range,Nat.sub_self,List.range_succ,List.map_append,List.append_assoc]
 congr 1
 rw[show L.length-k=(L.length-(k+1))+1 by omega,List.replicate_succ]
 rfl
theorem UC {L:List CoD}{t:CT}(ho:t.ok) (hs:Seg L 0 t) (hn:t.size=L.length) {f k:Nat}(hk:k<f) (hkl:k<L.length):B7 L f k=B7 L L.length k:=by
 obtain⟨s,c,s1,s2,s3,_⟩:=Wh t 0 k ho hs (Nat.zero_le _) (by omega)
 have h1:=EM s c f s1 s2 (by omega)
 have h2:=EM s c L.length s1 s2 (by omega)
 rw[show c+s.size-1=k by omega]at h1 h2
 rw[h1,h2]
theorem Sz {L:List CoD}{t:CT}(ho:t.ok) (hs:Seg L 0 t) (hn:t.size=L.length) (hL:∀(k:Nat) (h:k<L.length),CoOk L[k] k) {i:Nat}(hi:i<L.length):B7 L L.length i=(L[i].named.map fun k=>B7 L L.length k.toNat).foldl max 0+1:=by
 obtain⟨n,hn'⟩:∃n,L.length=n+1:=⟨L.length-1,by omega⟩
 have h1:B7 L (n+1) i=(L[i].named.map fun k=>B7 L n k.toNat).foldl max 0+1:=by
  conv=>lhs;unfold B7
  rw[List.getElem?_eq_getElem hi]
 rw[←hn']at h1
 rw[h1]
 congr 2
 refine List.map_congr_left fun k hk=>?_
 obtain⟨k0,k1⟩:=(hL i hi).ahead k hk
 exact UC ho hs hn (by omega) (by omega)
def Gx (L:List CoD) (d:CoD) (k:Nat):Nat:=((d.named.take k).map fun j=>B7 L L.length j.toNat).foldl max 0
theorem Yt (L:List CoD) (d:CoD):Gx L d 0=0:=by unfold Gx;simp
theorem Ys (L:List CoD) (d:CoD) {k:Nat}(h:k<Au d.op) {j:Nat}(hj:d.kid k=(j:Int)):Gx L d (k+1)=max (Gx L d k) (B7 L L.length j):=by
 obtain⟨h2,h3⟩:=List.getElem?_eq_some_iff.1 (FU d h)
 unfold Gx
 rw[List.take_succ_eq_append_getElem h2,h3,hj,List.map_append,List.foldl_append]
 rfl
theorem Yr (L:List CoD) (d:CoD):Gx L d (Au d.op)=(d.named.map fun j=>B7 L L.length j.toNat).foldl max 0:=by
 unfold Gx
 rw[List.take_of_length_le (by rw[d.named_len];exact Nat.le_refl _)]
def Fv (l:List Nat):List (List C):=l.map fun (x:Nat)=>[C.int .i64 x]
theorem O9 (l:List Nat) {k x:Nat}(h:l[k]? = some x):A8 (Fv l) 1 k=true∧(Fv l)[k]? = some [.int .i64 x]:=by
 have h1:(Fv l)[k]? = some [.int .i64 x]:=by unfold Fv;rw[List.getElem?_map,h];rfl
 exact⟨by unfold A8;rw[Int.toNat_natCast,h1];rfl,h1⟩
theorem PZ (l:List Nat) (k x:Nat):(Fv l).set k [.int .i64 x]=Fv (l.set k x):=by unfold Fv;rw[List.map_set]
theorem VF (n:Nat):List.replicate n [C.int .i64 0]=Fv (List.replicate n 0):=by unfold Fv;rw[List.map_replicate];rfl
theorem UA (L:List CoD):DL L 0=List.replicate L.length 0:=by unfold DL;simp
def Ci (L:List CoD) (t:CT):Int:=if Ft L≠0 then Ft L else U5 t
theorem TV (L:List CoD) (hl:L.length≤1048576) (t:CT) (ht:Ft L=0→t.ok∧Seg L 0 t∧t.size=L.length):AC Tryz.prog 66 [AE L] [] (.c (.int .i64 (Ci L t))) []:=by
 have hln:(L.map CoD.cs).length=L.length:=by simp
 have h00:((0:Int) != 0)=false:=rfl
 by_cases hsz:L.length<1∨900<L.length
 ·have hc:Ci L t=2:=by
   have:Ft L=2:=by unfold Ft;rw[if_pos hsz]
   unfold Ci
   rw[this]
   rfl
  rw[hc]
  by_cases h1:L.length<1
  ·have g1:decide ((L.length:Int)<1)=true:=decide_eq_true (by omega)
   refine A6 Tryz.func66 Tryz.ntmps66 (j2 hln g1) ?_
   exact Ag (A5 []) Tryz.results66
  ·have g1:decide ((L.length:Int)<1)=false:=decide_eq_false (by omega)
   have g2:decide ((L.length:Int)>900)=true:=decide_eq_true (by omega)
   refine A6 Tryz.func66 Tryz.ntmps66 (j3 hln g1 g2) ?_
   exact Ag (A5 []) Tryz.results66
 have g1:decide ((L.length:Int)<1)=false:=decide_eq_false (by omega)
 have g2:decide ((L.length:Int)>900)=false:=decide_eq_false (by omega)
 obtain⟨R,hR⟩:∃R,Ci L t=R:=⟨_,rfl⟩
 rw[hR]
 have hhead:Ft L=if CQ 0 L≠0 then CQ 0 L else if C0 L L.length (L.length-1)≠0 then 1 else 0:=by unfold Ft;rw[if_neg hsz]
 have hnode:=fun i h=>Yi L i h (by omega)
 refine A6 Tryz.func66 Tryz.ntmps66 (j3 hln g1 g2) ?_
 refine Ar (κ:=Nat) (fun k=>⟨mkS 0 105 [(0,AE L),(3,.c (.int .i64 k))],[]⟩) (fun k=>k≤L.length∧CQ k (L.drop k)=CQ 0 L) (fun k=>L.length-k) 0 ⟨Nat.zero_le _,by rw[List.drop_zero]⟩ ?_ ?_
 ·exact Ac (Aj.of [] []) hln
 rintro k ⟨hk,hgo⟩
 by_cases hlt:k<L.length
 ·have hdk:decide ((k:Int)<(L.length:Int))=true:=decide_eq_true (by omega)
  have hw:=Ad (k:=k) (by omega)
  have hnd:=hnode k hlt
  rw[KO L hlt]at hgo
  by_cases hc:Dd L[k] k=0
  ·rw[if_pos hc]at hgo
   rw[hc]at hnd
   refine Ab (j2 hln hdk) ?_
   refine v7 (A3 [] hnd) q9 (j2 h00 hw) ?_
   refine⟨k+1,by omega,⟨by omega,hgo⟩,?_⟩
   exact Ac (Aj.of [] []) hw
  ·rw[if_neg hc]at hgo
   have hb:(Dd L[k] k != 0)=true:=E9 hc
   have hRk:Dd L[k] k=R:=by
    rw[←hR]
    unfold Ci
    rw[hhead,←hgo,if_pos hc,if_pos hc]
   rw[hRk]at hb hnd
   refine Ab (j2 hln hdk) ?_
   refine v7 (A3 [] hnd) q9 hb ?_
   exact Ag (A5 []) Tryz.results66
 have hdk:decide ((k:Int)<(L.length:Int))=false:=decide_eq_false (by omega)
 rw[List.drop_eq_nil_of_le (by omega)]at hgo
 have hgo:CQ 0 L=0:=hgo.symm
 rw[hgo,if_neg (by simp)]at hhead
 have hL:∀(k:Nat) (h:k<L.length),CoOk L[k] k:=fun k hk=>by
  have:=GA L 0 hgo k hk
  rw[Nat.zero_add]at this
  exact ID this
 have hord:=O1 hL (by omega) L.length (L.length-1) [] (by omega) (by omega) (by omega) (Nat.zero_le _)
 have hob:=TA hL (by omega)
 have hol:=Kp (L:=L) (n:=L.length) L.length (L.length-1) [] (Nat.zero_le _)
 have hwl:IntKind.i64.wrap ((L.length:Int)-1)=((L.length-1:Nat):Int):=by rw[IntWalk.i64_in _ (by omega)];omega
 generalize CO L L.length L.length (L.length-1) []=O at *
 have hOl:(O.map As).length=O.length:=by simp
 clear hnode hgo
 by_cases hlen:¬O.length=L.length
 ·have hne:((O.length:Int) != (L.length:Int))=true:=E9 (by omega)
  have hb0:C0 L L.length (L.length-1)≠0:=fun h=>hlen (by rw[hob.2 h,Jp])
  have hR1:R=1:=by
   rw[←hR]
   unfold Ci
   rw[hhead,if_pos hb0]
   rfl
  rw[hR1]
  refine Ab (j3 hln hdk hwl) ?_
  refine Bw (Am [] [((1,0),(36,0))] hord) @List.map_nil.{0,0} (j3 hOl hln hne) ?_
  exact Ag (A5 []) Tryz.results66
 have hlen:O.length=L.length:=Classical.byContradiction hlen
 have hne:((O.length:Int) != (L.length:Int))=false:=JB (by omega)
 refine Ab (j3 hln hdk hwl) ?_
 refine Bw (Am [] [((1,0),(36,0))] hord) @List.map_nil.{0,0} (j3 hOl hln hne) ?_
 refine Ar (κ:=Nat) (fun k=>⟨mkS 0 105 [(0,AE L),(5,.c (.int .i64 (L.length-1:Nat))),(6,.own (99,0)),(7,.c (.int .i64 k))],[((99,0),.row false 1 2 (O.map As))]⟩) (fun k=>k≤O.length∧O.take k=rng k) (fun k=>O.length-k) 0 ⟨Nat.zero_le _,rfl⟩ ?_ ?_
 ·exact Ac (Aj.of [((99,0),(36,0))] []) hln
 rintro k2 ⟨hk2,hpre⟩
 by_cases hlt2:k2<O.length
 ·have hdk2:decide ((k2:Int)<(O.length:Int))=true:=decide_eq_true (by omega)
  have hw:=Ad (k:=k2) (by omega)
  obtain⟨hr1,hg1⟩:=D2 O hlt2
  by_cases hq:O[k2]=(k2:Int)
  ·have hqf:(O[k2] != (k2:Int))=false:=JB hq
   have hpre2:O.take (k2+1)=rng (k2+1):=by rw[List.take_succ_eq_append_getElem hlt2,hpre,hq,Oq]
   generalize O[k2]=x at *
   refine Ab (j6 hOl hdk2 hr1 hg1 hqf hw) ?_
   refine⟨k2+1,by omega,⟨by omega,hpre2⟩,?_⟩
   exact Ac (Aj.of [((99,0),(99,0))] []) hw
  ·have hqf:(O[k2] != (k2:Int))=true:=E9 hq
   have hb0:C0 L L.length (L.length-1)≠0:=fun h=>hq (by
    have h1:=hob.2 h
    have h2:=a22 (m:=L.length) (k:=k2) (by omega)
    rw[←h1,List.getElem?_eq_getElem hlt2]at h2
    exact Option.some.inj h2)
   have hR1:R=1:=by
    rw[←hR]
    unfold Ci
    rw[hhead,if_pos hb0]
    rfl
   rw[hR1]
   generalize O[k2]=x at *
   exact FC (j5 hOl hdk2 hr1 hg1 hqf) (A5 []) Tryz.results66
 have hdk2:decide ((k2:Int)<(O.length:Int))=false:=decide_eq_false (by omega)
 have hb0:C0 L L.length (L.length-1)=0:=hob.1 (by
  rw[List.take_of_length_le (by omega)]at hpre
  rw[hpre]
  congr 1
  omega)
 rw[hb0,if_neg (by simp)]at hhead
 obtain⟨t1,t2,t3⟩:=ht hhead
 have hRt:U5 t=R:=by rw[←hR];unfold Ci;rw[hhead,if_neg (by simp)]
 have hkn:=O0 (L:=L) (by omega) L.length t 0 [] (by omega) t1 t2 (by simp;omega)
 rw[show 0+t.size-1=L.length-1 by omega]at hkn
 unfold U5 at hRt
 replace hkn:AC Tryz.prog 132 [AE L,.c (.int .i64 (L.length-1:Nat)),.c (.sl [])] [] (.c (.bool (t.known []))) []:=hkn
 clear hord hob hol hpre hhead hb0
 cases hknv:t.known [] with
 |false =>
  rw[hknv]at hkn hRt
  rw[if_pos rfl]at hRt
  subst hRt
  refine Ab (j2 hOl hdk2) ?_
  refine v7 (A3 [] hkn) q9 q9 ?_
  exact Ag (A5 []) Tryz.results66
 |true =>
  rw[hknv]at hkn hRt
  rw[if_neg (by decide)]at hRt
  have hz0:=VF L.length
  have hd0:=UA L
  rw[←hd0]at hz0
  have h2:(0:Int)≤(L.length:Int):=by omega
  have h3:(L.length:Int)≤2000000:=by omega
  refine Ab (j2 hOl hdk2) ?_
  refine v7 (A3 [] hkn) q9 (j3 hln h2 h3) ?_
  refine Ar (κ:=Nat) (fun k=>⟨mkS 0 105 [(0,AE L),(8,.own (98,0)),(9,.c (.int .i64 k))],[((98,0),.row false 1 2 (Fv (DL L k)))]⟩) (fun k=>k≤L.length∧∀j,j<k→B7 L L.length j≤120) (fun k=>L.length-k) 0 ⟨Nat.zero_le _,fun j hj=>absurd hj (by omega)⟩ ?_ ?_
  ·exact Ac (Aj.of [((98,0),(60,0))] []) hz0
  rintro i ⟨hi,hall⟩
  by_cases hlt3:¬i<L.length
  ·have hdk3:decide ((i:Int)<(L.length:Int))=false:=decide_eq_false (by omega)
   have h120:¬120<t.depth:=by
    have h5:=EM t 0 L.length t1 t2 (by omega)
    rw[show 0+t.size-1=L.length-1 by omega]at h5
    have:=hall (L.length-1) (by omega)
    omega
   rw[if_neg h120]at hRt
   subst hRt
   exact FC (j2 hln hdk3) (A5 []) Tryz.results66
  have hlt3:i<L.length:=Classical.byContradiction hlt3
  have hdk3:decide ((i:Int)<(L.length:Int))=true:=decide_eq_true (by omega)
  have hok:=hL i hlt3
  obtain⟨hr0,hg0⟩:=EJ L hlt3
  have hK:=G0 L[i].op hok.op.1 hok.op.2
  have hkid:=IQ L[i]
  have hah:=hok.ahead
  have hal:=Bx L[i].op
  have hkd:=fun k=>@FU L[i] k
  have hmz:=Yt L L[i]
  have hms:=fun k=>@Ys L L[i] k
  have hmf:=Yr L L[i]
  have hde:=Sz t1 t2 t3 hL hlt3
  rw[←hmf]at hde
  have hdl:=UB t1 t2 t3 hlt3
  unfold CoD.av at hkid
  generalize L[i]=d at *
  refine Ab (j2 hln hdk3) ?_
  refine Ar (κ:=Nat) (fun k=>⟨mkS 0 105 [(0,AE L),(8,.own (97,0)),(9,.c (.int .i64 i)),(10,.c (.int .i64 k))],[((97,0),.row false 1 2 (Fv ((DL L i).set i (Gx L d k))))]⟩) (fun k=>k≤Au d.op) (fun k=>3-k) 0 (Nat.zero_le _) ?_ ?_
  ·have hs0:Fv (DL L i)=Fv ((DL L i).set i (Gx L d 0)):=by
    rw[hmz]
    congr 1
    symm
    apply List.ext_getElem?
    intro j
    rw[List.getElem?_set]
    split
    ·rename_i hj
     subst hj
     rw[if_pos (by rw[PC L hi];omega),XB L hlt3]
    ·rfl
   exact Ac (Aj.of [((97,0),(98,0))] []) hs0
  intro k3 hk3
  have hDl:=PC L hi
  have hself:((DL L i).set i (Gx L d k3))[i]? = some (Gx L d k3):=List.getElem?_set_self (by omega)
  obtain⟨hr1,hg1⟩:=O9 _ hself
  by_cases hlt4:k3<Au d.op
  ·have hdk4:decide ((k3:Int)<(Au d.op:Nat))=true:=decide_eq_true (by omega)
   have hw:=Ad (k:=k3) (by omega)
   have hkc:=hkid k3 (by omega)
   obtain⟨q0,q1⟩:=hah _ (List.mem_of_getElem? (hkd k3 hlt4))
   obtain⟨j,hj⟩:∃j:Nat,d.kid k3=(j:Int):=⟨(d.kid k3).toNat,by omega⟩
   rw[hj]at hkc
   have hother:((DL L i).set i (Gx L d k3))[j]? = some (B7 L L.length j):=by
    rw[List.getElem?_set_ne (by omega)]
    exact Sv L (by omega)
   obtain⟨hr2,hg2⟩:=O9 _ hother
   have hmx:=Y8 (Gx L d k3) (B7 L L.length j)
   rw[←hms k3 hlt4 hj]at hmx
   have hset:=PZ ((DL L i).set i (Gx L d k3)) i (Gx L d (k3+1))
   rw[List.set_set]at hset
   generalize Fv ((DL L i).set i (Gx L d k3))=D0 at *
   generalize hD1:Fv ((DL L i).set i (Gx L d (k3+1)))=D1 at *
   generalize Gx L d k3=m0,B7 L L.length j=dj at *
   refine Ab (j2 hr0 hg0) ?_
   refine v7 (A3 [] hK) q9 (j5 hdk4 hr0 hg0 hr1 hg1) ?_
   refine v7 (A3 [] hkc) q9 (j2 hr2 hg2) ?_
   refine v7 (A3 [] hmx) q9 (j4 hr1 hg1 hset hw) ?_
   refine⟨k3+1,by omega,by omega,?_⟩
   exact Ac (Aj.of [((97,0),(97,0))] []) hD1
  ·have hdk4:decide ((k3:Int)<(Au d.op:Nat))=false:=decide_eq_false (by omega)
   obtain rfl:k3=Au d.op:=by omega
   have hw1:IntKind.i64.wrap (((Gx L d (Au d.op):Nat):Int)+1)=((B7 L L.length i:Nat):Int):=by rw[hde,IntWalk.i64_in _ (by have:=hdl;have:=t.depth_size;omega)];omega
   have hset:=PZ ((DL L i).set i (Gx L d (Au d.op))) i (B7 L L.length i)
   rw[List.set_set,XC L hlt3]at hset
   have hnew:(DL L (i+1))[i]? = some (B7 L L.length i):=Sv L (by omega)
   obtain⟨hr2,hg2⟩:=O9 _ hnew
   have hw:=Ad (k:=i) (by omega)
   clear hms hmz hmf
   generalize Fv ((DL L i).set i (Gx L d (Au d.op)))=D0 at *
   generalize hD1:Fv (DL L (i+1))=D1 at *
   generalize Gx L d (Au d.op)=m0 at *
   by_cases h120:120<B7 L L.length i
   ·have g3:decide (((B7 L L.length i:Nat):Int)>120)=true:=decide_eq_true (by omega)
    rw[if_pos (by omega)]at hRt
    subst hRt
    generalize B7 L L.length i=di at *
    refine Ab (j2 hr0 hg0) ?_
    refine v7 (A3 [] hK) q9 (j8 hdk4 hr1 hg1 hw1 hset hr2 hg2 g3) ?_
    exact Ag (A5 []) Tryz.results66
   ·have g3:decide (((B7 L L.length i:Nat):Int)>120)=false:=decide_eq_false (by omega)
    have hall2:∀j,j<i+1→B7 L L.length j≤120:=fun j hj=>by
     rcases Nat.lt_succ_iff_lt_or_eq.1 hj with h | rfl
     ·exact hall j h
     ·omega
    clear hde hdl hnew
    generalize B7 L L.length i=di at *
    refine Ab (j2 hr0 hg0) ?_
    refine v7 (A3 [] hK) q9 (j9 hdk4 hr1 hg1 hw1 hset hr2 hg2 g3 hw) ?_
    refine⟨i+1,by omega,⟨by omega,hall2⟩,?_⟩
    exact Ac (Aj.of [((98,0),(97,0))] []) hD1
end Go.Proofs.YtcejfdfmgmcinaaGreat
