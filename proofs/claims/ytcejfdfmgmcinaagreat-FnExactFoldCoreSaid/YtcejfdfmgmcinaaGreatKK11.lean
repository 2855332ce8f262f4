/- The reference's CoreFault. Printed by gen_k11.py. -/
import Derived.Test.YtcejfdfmgmcinaaGreatKK10uK19
set_option linter.all false
set_option maxHeartbeats 8000000
namespace Go.Proofs.YtcejfdfmgmcinaaGreat
open Go.RowKit
set_option maxRecDepth 10000
theorem XN (a b:Nat):AC Tryz.prog 134 [.c (.int .i64 a),.c (.int .i64 b)] [] (.c (.int .i64 (max a b:Nat))) []:=by
 by_cases h:a>b
 ·have hd:decide ((a:Int)>(b:Int))=true:=decide_eq_true (by omega)
  rw[show max a b=a by omega]
  refine A7 Tryz.func134 Tryz.ntmps134 ?_
  refine A3 hd ?_
  exact Ad (A6 []) Tryz.results134
 ·have hd:decide ((a:Int)>(b:Int))=false:=decide_eq_false (by omega)
  rw[show max a b=b by omega]
  refine A7 Tryz.func134 Tryz.ntmps134 ?_
  refine A3 hd ?_
  exact Ad (A6 []) Tryz.results134
def DP (L:List CoD) (k:Nat):List Nat:=(List.range k).map (B9 L L.length)++List.replicate (L.length-k) 0
theorem Px (L:List CoD) {k:Nat}(h:k≤L.length):(DP L k).length=L.length:=by unfold DP;simp;omega
theorem Sl (L:List CoD) {k j:Nat}(h:j<k):(DP L k)[j]? = some (B9 L L.length j):=by
 unfold DP
 rw[List.getElem?_append_left (by simpa using h)]
 simp[h]
theorem Xm (L:List CoD) {k:Nat}(h:k<L.length):(DP L k)[k]? = some 0:=by
 unfold DP
 rw[List.getElem?_append_right (by simp),List.length_map,List.length_range,Nat.sub_self,List.getElem?_replicate,if_pos (by omega)]
theorem Xn (L:List CoD) {k:Nat}(h:k<L.length):(DP L k).set k (B9 L L.length k)=DP L (k+1):=by
 unfold DP
 rw[List.set_append_right _ _ (by simp),List.length_map,List.length_range,Nat.sub_self,List.range_succ,List.map_append,List.append_assoc]
 congr 1
 rw[show L.length-k=(L.length-(k+1))+1 by omega,List.replicate_succ]
 rfl
theorem Uq {L:List CoD}{t:CT}(ho:t.ok) (hs:Seg L 0 t) (hn:t.size=L.length) {f k:Nat}(hk:k<f) (hkl:k<L.length):B9 L f k=B9 L L.length k:=by
 obtain⟨s,c,s1,s2,s3,_⟩:=W4 t 0 k ho hs (Nat.zero_le _) (by omega)
 have h1:=EQ s c f s1 s2 (by omega)
 have h2:=EQ s c L.length s1 s2 (by omega)
 rw[show c+s.size-1=k by omega]at h1 h2
 rw[h1,h2]
theorem Sp {L:List CoD}{t:CT}(ho:t.ok) (hs:Seg L 0 t) (hn:t.size=L.length) (hL:∀(k:Nat) (h:k<L.length),CoOk L[k] k) {i:Nat}(hi:i<L.length):B9 L L.length i=(L[i].named.map fun k=>B9 L L.length k.toNat).foldl max 0+1:=by
 obtain⟨n,hn'⟩:∃n,L.length=n+1:=⟨L.length-1,by omega⟩
 have h1:B9 L (n+1) i=(L[i].named.map fun k=>B9 L n k.toNat).foldl max 0+1:=by
  conv=>lhs;unfold B9
  rw[List.getElem?_eq_getElem hi]
 rw[←hn']at h1
 rw[h1]
 congr 2
 refine List.map_congr_left fun k hk=>?_
 obtain⟨k0,k1⟩:=(hL i hi).ahead k hk
 exact Uq ho hs hn (by omega) (by omega)
def Gt (L:List CoD) (d:CoD) (k:Nat):Nat:=((d.named.take k).map fun j=>B9 L L.length j.toNat).foldl max 0
theorem Ya (L:List CoD) (d:CoD):Gt L d 0=0:=by unfold Gt;simp
theorem Y9 (L:List CoD) (d:CoD) {k:Nat}(h:k<Au d.op) {j:Nat}(hj:d.kid k=(j:Int)):Gt L d (k+1)=max (Gt L d k) (B9 L L.length j):=by
 obtain⟨h2,h3⟩:=List.getElem?_eq_some_iff.1 (FS d h)
 unfold Gt
 rw[List.take_succ_eq_append_getElem h2,h3,hj,List.map_append,List.foldl_append]
 rfl
theorem Y8 (L:List CoD) (d:CoD):Gt L d (Au d.op)=(d.named.map fun j=>B9 L L.length j.toNat).foldl max 0:=by
 unfold Gt
 rw[List.take_of_length_le (by rw[d.named_len];exact Nat.le_refl _)]
def EY (l:List Nat):List (List C):=l.map fun (x:Nat)=>[C.int .i64 x]
theorem O3 (l:List Nat) {k x:Nat}(h:l[k]? = some x):A9 (EY l) 1 k=true∧(EY l)[k]? = some [.int .i64 x]:=by
 have h1:(EY l)[k]? = some [.int .i64 x]:=by unfold EY;rw[List.getElem?_map,h];rfl
 exact⟨by unfold A9;rw[Int.toNat_natCast,h1];rfl,h1⟩
theorem PU (l:List Nat) (k x:Nat):(EY l).set k [.int .i64 x]=EY (l.set k x):=by unfold EY;rw[List.map_set]
theorem Vr (n:Nat):List.replicate n [C.int .i64 0]=EY (List.replicate n 0):=by unfold EY;rw[List.map_replicate];rfl
theorem Un (L:List CoD):DP L 0=List.replicate L.length 0:=by unfold DP;simp
def Co (L:List CoD) (t:CT):Int:=if Fx L≠0 then Fx L else TU t
theorem TL (L:List CoD) (hl:L.length≤1048576) (t:CT) (ht:Fx L=0→t.ok∧Seg L 0 t∧t.size=L.length):AC Tryz.prog 66 [AD L] [] (.c (.int .i64 (Co L t))) []:=by
 have hln:(L.map CoD.cs).length=L.length:=by simp
 have h00:((0:Int) != 0)=false:=rfl
 by_cases hsz:L.length<1∨900<L.length
 ·have hc:Co L t=2:=by
   have:Fx L=2:=by unfold Fx;rw[if_pos hsz]
   unfold Co
   rw[this]
   rfl
  rw[hc]
  by_cases h1:L.length<1
  ·have g1:decide ((L.length:Int)<1)=true:=decide_eq_true (by omega)
   refine A7 Tryz.func66 Tryz.ntmps66 ?_
   refine A3 (j2 hln g1) ?_
   exact Ad (A6 []) Tryz.results66
  ·have g1:decide ((L.length:Int)<1)=false:=decide_eq_false (by omega)
   have g2:decide ((L.length:Int)>900)=true:=decide_eq_true (by omega)
   refine A7 Tryz.func66 Tryz.ntmps66 ?_
   refine A3 (j3 hln g1 g2) ?_
   exact Ad (A6 []) Tryz.results66
 have g1:decide ((L.length:Int)<1)=false:=decide_eq_false (by omega)
 have g2:decide ((L.length:Int)>900)=false:=decide_eq_false (by omega)
 obtain⟨R,hR⟩:∃R,Co L t=R:=⟨_,rfl⟩
 rw[hR]
 have hhead:Fx L=if D3 0 L≠0 then D3 0 L else if C3 L L.length (L.length-1)≠0 then 1 else 0:=by unfold Fx;rw[if_neg hsz]
 have hnode:=fun i h=>XX L i h (by omega)
 refine A7 Tryz.func66 Tryz.ntmps66 ?_
 refine A3 (j3 hln g1 g2) ?_
 refine Ay (κ:=Nat) (fun k=>⟨mkS 0 105 [(0,AD L),(3,.c (.int .i64 k))],[]⟩) (fun k=>k≤L.length∧D3 k (L.drop k)=D3 0 L) (fun k=>L.length-k) 0 ⟨Nat.zero_le _,by rw[List.drop_zero]⟩ ?_ ?_
 ·exact Af (Am.of [] []) hln
 rintro k ⟨hk,hgo⟩
 by_cases hlt:k<L.length
 ·have hdk:decide ((k:Int)<(L.length:Int))=true:=decide_eq_true (by omega)
  have hw:=Ah (k:=k) (by omega)
  have hnd:=hnode k hlt
  rw[KH L hlt]at hgo
  by_cases hc:Dn L[k] k=0
  ·rw[if_pos hc]at hgo
   rw[hc]at hnd
   refine A3 (j2 hln hdk) ?_
   refine w7 (A4 [] hnd) q9 ?_
   refine A3 (j2 h00 hw) ?_
   refine⟨k+1,by omega,⟨by omega,hgo⟩,?_⟩
   exact Af (Am.of [] []) hw
  ·rw[if_neg hc]at hgo
   have hb:(Dn L[k] k != 0)=true:=Ek hc
   have hRk:Dn L[k] k=R:=by
    rw[←hR]
    unfold Co
    rw[hhead,←hgo,if_pos hc,if_pos hc]
   rw[hRk]at hb hnd
   refine A3 (j2 hln hdk) ?_
   refine w7 (A4 [] hnd) q9 ?_
   refine A3 hb ?_
   exact Ad (A6 []) Tryz.results66
 have hdk:decide ((k:Int)<(L.length:Int))=false:=decide_eq_false (by omega)
 rw[List.drop_eq_nil_of_le (by omega)]at hgo
 have hgo:D3 0 L=0:=hgo.symm
 rw[hgo,if_neg (by simp)]at hhead
 have hL:∀(k:Nat) (h:k<L.length),CoOk L[k] k:=fun k hk=>by
  have:=Gx L 0 hgo k hk
  rw[Nat.zero_add]at this
  exact Iy this
 have hord:=NU hL (by omega) L.length (L.length-1) [] (by omega) (by omega) (by omega) (Nat.zero_le _)
 have hob:=Tq hL (by omega)
 have hol:=Kk (L:=L) (n:=L.length) L.length (L.length-1) [] (Nat.zero_le _)
 have hwl:IntKind.i64.wrap ((L.length:Int)-1)=((L.length-1:Nat):Int):=by rw[IntWalk.i64_in _ (by omega)];omega
 generalize CY L L.length L.length (L.length-1) []=O at *
 have hOl:(O.map AB).length=O.length:=by simp
 clear hnode hgo
 by_cases hlen:¬O.length=L.length
 ·have hne:((O.length:Int) != (L.length:Int))=true:=Ek (by omega)
  have hb0:C3 L L.length (L.length-1)≠0:=fun h=>hlen (by rw[hob.2 h,Ji])
  have hR1:R=1:=by
   rw[←hR]
   unfold Co
   rw[hhead,if_pos hb0]
   rfl
  rw[hR1]
  refine A3 (j3 hln hdk hwl) ?_
  refine Bx (An [] [((1,0),(36,0))] hord) @List.map_nil.{0,0} ?_
  refine A3 (j3 hOl hln hne) ?_
  exact Ad (A6 []) Tryz.results66
 have hlen:O.length=L.length:=Classical.byContradiction hlen
 have hne:((O.length:Int) != (L.length:Int))=false:=Js (by omega)
 refine A3 (j3 hln hdk hwl) ?_
 refine Bx (An [] [((1,0),(36,0))] hord) @List.map_nil.{0,0} ?_
 refine A3 (j3 hOl hln hne) ?_
 refine Ay (κ:=Nat) (fun k=>⟨mkS 0 105 [(0,AD L),(5,.c (.int .i64 (L.length-1:Nat))),(6,.own (99,0)),(7,.c (.int .i64 k))],[((99,0),.row false 1 2 (O.map AB))]⟩) (fun k=>k≤O.length∧O.take k=rng k) (fun k=>O.length-k) 0 ⟨Nat.zero_le _,rfl⟩ ?_ ?_
 ·exact Af (Am.of [((99,0),(36,0))] []) hln
 rintro k2 ⟨hk2,hpre⟩
 by_cases hlt2:k2<O.length
 ·have hdk2:decide ((k2:Int)<(O.length:Int))=true:=decide_eq_true (by omega)
  have hw:=Ah (k:=k2) (by omega)
  obtain⟨hr1,hg1⟩:=Fy O hlt2
  by_cases hq:O[k2]=(k2:Int)
  ·have hqf:(O[k2] != (k2:Int))=false:=Js hq
   have hpre2:O.take (k2+1)=rng (k2+1):=by rw[List.take_succ_eq_append_getElem hlt2,hpre,hq,Oj]
   generalize O[k2]=x at *
   refine A3 (j6 hOl hdk2 hr1 hg1 hqf hw) ?_
   refine⟨k2+1,by omega,⟨by omega,hpre2⟩,?_⟩
   exact Af (Am.of [((99,0),(99,0))] []) hw
  ·have hqf:(O[k2] != (k2:Int))=true:=Ek hq
   have hb0:C3 L L.length (L.length-1)≠0:=fun h=>hq (by
    have h1:=hob.2 h
    have h2:=a15 (m:=L.length) (k:=k2) (by omega)
    rw[←h1,List.getElem?_eq_getElem hlt2]at h2
    exact Option.some.inj h2)
   have hR1:R=1:=by
    rw[←hR]
    unfold Co
    rw[hhead,if_pos hb0]
    rfl
   rw[hR1]
   generalize O[k2]=x at *
   refine A3 (j5 hOl hdk2 hr1 hg1 hqf) ?_
   exact Ad (A6 []) Tryz.results66
 have hdk2:decide ((k2:Int)<(O.length:Int))=false:=decide_eq_false (by omega)
 have hb0:C3 L L.length (L.length-1)=0:=hob.1 (by
  rw[List.take_of_length_le (by omega)]at hpre
  rw[hpre]
  congr 1
  omega)
 rw[hb0,if_neg (by simp)]at hhead
 obtain⟨t1,t2,t3⟩:=ht hhead
 have hRt:TU t=R:=by rw[←hR];unfold Co;rw[hhead,if_neg (by simp)]
 have hkn:=NT (L:=L) (by omega) L.length t 0 [] (by omega) t1 t2 (by simp;omega)
 rw[show 0+t.size-1=L.length-1 by omega]at hkn
 unfold TU at hRt
 replace hkn:AC Tryz.prog 132 [AD L,.c (.int .i64 (L.length-1:Nat)),.c (.sl [])] [] (.c (.bool (t.known []))) []:=hkn
 clear hord hob hol hpre hhead hb0
 cases hknv:t.known [] with
 |false =>
  rw[hknv]at hkn hRt
  rw[if_pos rfl]at hRt
  subst hRt
  refine A3 (j2 hOl hdk2) ?_
  refine w7 (A4 [] hkn) q9 ?_
  refine A3 q9 ?_
  exact Ad (A6 []) Tryz.results66
 |true =>
  rw[hknv]at hkn hRt
  rw[if_neg (by decide)]at hRt
  have hz0:=Vr L.length
  have hd0:=Un L
  rw[←hd0]at hz0
  have h2:(0:Int)≤(L.length:Int):=by omega
  have h3:(L.length:Int)≤2000000:=by omega
  refine A3 (j2 hOl hdk2) ?_
  refine w7 (A4 [] hkn) q9 ?_
  refine A3 (j3 hln h2 h3) ?_
  refine Ay (κ:=Nat) (fun k=>⟨mkS 0 105 [(0,AD L),(8,.own (98,0)),(9,.c (.int .i64 k))],[((98,0),.row false 1 2 (EY (DP L k)))]⟩) (fun k=>k≤L.length∧∀j,j<k→B9 L L.length j≤120) (fun k=>L.length-k) 0 ⟨Nat.zero_le _,fun j hj=>absurd hj (by omega)⟩ ?_ ?_
  ·exact Af (Am.of [((98,0),(60,0))] []) hz0
  rintro i ⟨hi,hall⟩
  by_cases hlt3:¬i<L.length
  ·have hdk3:decide ((i:Int)<(L.length:Int))=false:=decide_eq_false (by omega)
   have h120:¬120<t.depth:=by
    have h5:=EQ t 0 L.length t1 t2 (by omega)
    rw[show 0+t.size-1=L.length-1 by omega]at h5
    have:=hall (L.length-1) (by omega)
    omega
   rw[if_neg h120]at hRt
   subst hRt
   refine A3 (j2 hln hdk3) ?_
   exact Ad (A6 []) Tryz.results66
  have hlt3:i<L.length:=Classical.byContradiction hlt3
  have hdk3:decide ((i:Int)<(L.length:Int))=true:=decide_eq_true (by omega)
  have hok:=hL i hlt3
  obtain⟨hr0,hg0⟩:=Ex L hlt3
  have hK:=FY L[i].op hok.op.1 hok.op.2
  have hkid:=IK L[i]
  have hah:=hok.ahead
  have hal:=Bz L[i].op
  have hkd:=fun k=>@FS L[i] k
  have hmz:=Ya L L[i]
  have hms:=fun k=>@Y9 L L[i] k
  have hmf:=Y8 L L[i]
  have hde:=Sp t1 t2 t3 hL hlt3
  rw[←hmf]at hde
  have hdl:=Uo t1 t2 t3 hlt3
  unfold CoD.av at hkid
  generalize L[i]=d at *
  refine A3 (j2 hln hdk3) ?_
  refine Ay (κ:=Nat) (fun k=>⟨mkS 0 105 [(0,AD L),(8,.own (97,0)),(9,.c (.int .i64 i)),(10,.c (.int .i64 k))],[((97,0),.row false 1 2 (EY ((DP L i).set i (Gt L d k))))]⟩) (fun k=>k≤Au d.op) (fun k=>3-k) 0 (Nat.zero_le _) ?_ ?_
  ·have hs0:EY (DP L i)=EY ((DP L i).set i (Gt L d 0)):=by
    rw[hmz]
    congr 1
    symm
    apply List.ext_getElem?
    intro j
    rw[List.getElem?_set]
    split
    ·rename_i hj
     subst hj
     rw[if_pos (by rw[Px L hi];omega),Xm L hlt3]
    ·rfl
   exact Af (Am.of [((97,0),(98,0))] []) hs0
  intro k3 hk3
  have hDl:=Px L hi
  have hself:((DP L i).set i (Gt L d k3))[i]? = some (Gt L d k3):=List.getElem?_set_self (by omega)
  obtain⟨hr1,hg1⟩:=O3 _ hself
  by_cases hlt4:k3<Au d.op
  ·have hdk4:decide ((k3:Int)<(Au d.op:Nat))=true:=decide_eq_true (by omega)
   have hw:=Ah (k:=k3) (by omega)
   have hkc:=hkid k3 (by omega)
   obtain⟨q0,q1⟩:=hah _ (List.mem_of_getElem? (hkd k3 hlt4))
   obtain⟨j,hj⟩:∃j:Nat,d.kid k3=(j:Int):=⟨(d.kid k3).toNat,by omega⟩
   rw[hj]at hkc
   have hother:((DP L i).set i (Gt L d k3))[j]? = some (B9 L L.length j):=by
    rw[List.getElem?_set_ne (by omega)]
    exact Sl L (by omega)
   obtain⟨hr2,hg2⟩:=O3 _ hother
   have hmx:=XN (Gt L d k3) (B9 L L.length j)
   rw[←hms k3 hlt4 hj]at hmx
   have hset:=PU ((DP L i).set i (Gt L d k3)) i (Gt L d (k3+1))
   rw[List.set_set]at hset
   generalize EY ((DP L i).set i (Gt L d k3))=D0 at *
   generalize hD1:EY ((DP L i).set i (Gt L d (k3+1)))=D1 at *
   generalize Gt L d k3=m0 at *
   generalize B9 L L.length j=dj at *
   refine A3 (j2 hr0 hg0) ?_
   refine w7 (A4 [] hK) q9 ?_
   refine A3 (j5 hdk4 hr0 hg0 hr1 hg1) ?_
   refine w7 (A4 [] hkc) q9 ?_
   refine A3 (j2 hr2 hg2) ?_
   refine w7 (A4 [] hmx) q9 ?_
   refine A3 (j4 hr1 hg1 hset hw) ?_
   refine⟨k3+1,by omega,by omega,?_⟩
   exact Af (Am.of [((97,0),(97,0))] []) hD1
  ·have hdk4:decide ((k3:Int)<(Au d.op:Nat))=false:=decide_eq_false (by omega)
   obtain rfl:k3=Au d.op:=by omega
   have hw1:IntKind.i64.wrap (((Gt L d (Au d.op):Nat):Int)+1)=((B9 L L.length i:Nat):Int):=by rw[hde,IntWalk.i64_in _ (by have:=hdl;have:=t.depth_size;omega)];omega
   have hset:=PU ((DP L i).set i (Gt L d (Au d.op))) i (B9 L L.length i)
   rw[List.set_set,Xn L hlt3]at hset
   have hnew:(DP L (i+1))[i]? = some (B9 L L.length i):=Sl L (by omega)
   obtain⟨hr2,hg2⟩:=O3 _ hnew
   have hw:=Ah (k:=i) (by omega)
   clear hms hmz hmf
   generalize EY ((DP L i).set i (Gt L d (Au d.op)))=D0 at *
   generalize hD1:EY (DP L (i+1))=D1 at *
   generalize Gt L d (Au d.op)=m0 at *
   by_cases h120:120<B9 L L.length i
   ·have g3:decide (((B9 L L.length i:Nat):Int)>120)=true:=decide_eq_true (by omega)
    rw[if_pos (by omega)]at hRt
    subst hRt
    generalize B9 L L.length i=di at *
    refine A3 (j2 hr0 hg0) ?_
    refine w7 (A4 [] hK) q9 ?_
    refine A3 (j8 hdk4 hr1 hg1 hw1 hset hr2 hg2 g3) ?_
    exact Ad (A6 []) Tryz.results66
   ·have g3:decide (((B9 L L.length i:Nat):Int)>120)=false:=decide_eq_false (by omega)
    have hall2:∀j,j<i+1→B9 L L.length j≤120:=fun j hj=>by
     rcases Nat.lt_succ_iff_lt_or_eq.1 hj with h | rfl
     ·exact hall j h
     ·omega
    clear hde hdl hnew
    generalize B9 L L.length i=di at *
    refine A3 (j2 hr0 hg0) ?_
    refine w7 (A4 [] hK) q9 ?_
    refine A3 (j9 hdk4 hr1 hg1 hw1 hset hr2 hg2 g3 hw) ?_
    refine⟨i+1,by omega,⟨by omega,hall2⟩,?_⟩
    exact Af (Am.of [((98,0),(97,0))] []) hD1
end Go.Proofs.YtcejfdfmgmcinaaGreat
