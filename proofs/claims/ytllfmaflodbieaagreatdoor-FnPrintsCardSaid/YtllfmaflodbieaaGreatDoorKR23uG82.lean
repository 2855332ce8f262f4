/- Texts of this proof: R23 R24 G82. -/
import Derived.Test.YtllfmaflodbieaaGreatDoorKM60uR22
set_option linter.all false
set_option maxHeartbeats 8000000
namespace Go.Proofs.YtllfmaflodbieaaGreatDoor
section
open Go.RowKit
set_option maxRecDepth 10000
variable {o:Obj}
theorem Xw {d:Nat}(hd:d≤8):∀(n:Nat) (t:V) (a:Nat),t.count≤n→t.right→a+d*t.depth≤168→AC Tryz.prog 58 [t.av,.c (.int .i64 d),.c (.int .i64 a)] (Nk o) (.c (.str (t.pre d a))) (Nk o):=by
 intro n
 induction n with
 |zero=>intro t a hn _;have:=K8 t;omega
 |succ n ih =>
  intro t a hn ht hda
  have hlf:=Nr t
  have he:=MT (o:=o) ht
  cases hle:t.kids.isEmpty with
  |true =>
   rw[hle]at hlf
   have hk:=YP hle
   rw[Og d a hk]
   refine JI Tryz.func58 Tryz.ntmps58 ?_
   refine JV q9 ?_
   refine w7 (Ju [] hlf) q9 ?_
   refine JV hle ?_
   refine w10 (Kk Ky Kx (8,0) [] he) q9 ?_
   refine JV q9 ?_
   exact JJ (JN [((8,0),(8,0))] []) Tryz.results58 hle
  |false =>
   rw[hle]at hlf
   have hk:t.kids≠[]:=by intro e;rw[e]at hle;simp at hle
   have hkp:0<t.kids.length:=List.length_pos_iff.2 hk
   have hkl:=Kg ht.2.1
   have hlk:(t.kids.map V.cs).length=t.kids.length:=by simp
   have h0:((t.pparts d (a+d)).take 0).map CX=[]:=rfl
   have hdk:=L8 t
   have hda':a+d≤168:=by
    have:d*1≤d*t.depth:=Nat.mul_le_mul_left _ (by omega)
    omega
   have hw1:IntKind.i64.wrap ((a:Int)+(d:Int))=((a+d:Nat):Int):=by rw[IntWalk.i64_in _ (by omega)];simp
   refine JI Tryz.func58 Tryz.ntmps58 ?_
   refine JV q9 ?_
   refine w7 (Ju [] hlf) q9 ?_
   refine JV (j2 hle hlk) ?_
   refine Jz (κ:=Nat) (fun k=>⟨mkS 0 73 [(1,.c (.int .i64 d)),(2,.c (.int .i64 a)),(3,.ptr (3,0) 0),(7,.own (98,0)),(19,.c (.sl (t.kids.map V.cs))),(20,.c (.int .i64 t.kids.length)),(21,.c (.int .i64 k))],
     [((3,0),.box [.c (.int .i64 t.kind),.c (.int .i64 t.num),.c (.str t.text),.c (.sl (t.keys.map CX)),.c (.sl (t.kids.map V.cs))]),((98,0),.row false 1 9 (((t.pparts d (a+d)).take k).map CX)),((8,0),.blk (Ps o) [])]⟩)
    (fun k=>k≤t.kids.length) (fun k=>t.kids.length-k) 0 (Nat.zero_le _) ?_ ?_
   ·exact JQ (F7.of [((3,0),(3,0)),((98,0),(17,0)),((8,0),(8,0))] []) h0
   ·intro k hk1
    by_cases hlt:k<t.kids.length
    ·have hdk1:decide ((k:Int)<(t.kids.length:Int))=true:=by simpa using hlt
     have hw:=JX (k:=k) (by omega)
     have hr:B4 (t.kids.map V.cs) 5 k=true:=by simp[B4,hlt,V.cs_eq]
     have hg:(t.kids.map V.cs)[k]? = some [.int .i64 t.kids[k].kind,.int .i64 t.kids[k].num,.str t.kids[k].text,.sl (t.kids[k].keys.map CX),.sl (t.kids[k].kids.map V.cs)]:=by simp[hlt,V.cs_eq]
     have hks:=LY ht k
     have hes:=LV hks
     have hqk:=LL (t.keyAt k) (by omega)
     have hmem:t.kids[k]∈t.kids:=List.getElem_mem hlt
     have hcm:=K7 hmem
     have hck:=K4 t
     have hkd:=PK hmem hda
     have hxs:=Ue hd (K1 ht hmem) hkd
     have hrec:=ih t.kids[k] (a+d) (by omega) (K1 ht hmem) hkd
     have hpl:((t.pparts d (a+d)).take k).length+1≤1000000:=by rw[List.length_take];omega
     have hnext:((t.pparts d (a+d)).take k).map CX++[[.str (t.ppart d (a+d) k t.kids[k])]]=((t.pparts d (a+d)).take (k+1)).map CX:=by
      rw[List.take_succ_eq_append_getElem (by rw[Lb];exact hlt),Qp t d (a+d) hlt,List.map_append];rfl
     unfold V.ppart at hnext
     by_cases h6:t.kind=6
     ·have b6:(t.kind==6)=true:=by simp[h6]
      rw[if_pos h6]at hnext
      obtain⟨hkk,hkey⟩:=Mj (Lc ht) h6 hlt
      have hrk:B4 (t.keys.map CX) 1 k=true:=by simp[B4,hkk,CX]
      have hgk:(t.keys.map CX)[k]? = some [.str (t.keyAt k)]:=by simp[hkk,CX,hkey]
      generalize t.kids[k]=x at *
      generalize t.keyAt k=key at *
      have x1:(HH key).size+2≤9223372036854775807:=by omega
      have x2:(HH key++⟨#[58,32]⟩).size+(x.pre d (a+d)).size≤9223372036854775807:=by simp only[ByteArray.size_append,SV];omega
      generalize hv1:HH key++⟨#[58,32]⟩=v1 at *
      refine JV (j4 hdk1 hr hg hw1) ?_
      refine w10 (Kk Ky Kx (8,0) [] hrec) q9 ?_
      refine JV (j3 b6 hrk hgk) ?_
      refine w7 (Ju [] hqk) q9 ?_
      refine JV (j5 x1 hv1 x2 hpl hw) ?_
      refine⟨k+1,by omega,by omega,?_⟩
      exact JQ (F7.of [((3,0),(3,0)),((98,0),(47,0)),((8,0),(8,0))] []) hnext
     ·have b6:(t.kind==6)=false:=by simp[h6]
      rw[if_neg h6]at hnext
      generalize t.kids[k]=x at *
      refine JV (j4 hdk1 hr hg hw1) ?_
      refine w10 (Kk Ky Kx (8,0) [] hrec) q9 ?_
      refine JV (j3 b6 hpl hw) ?_
      refine⟨k+1,by omega,by omega,?_⟩
      exact JQ (F7.of [((3,0),(3,0)),((98,0),(47,0)),((8,0),(8,0))] []) hnext
    ·have hdk1:decide ((k:Int)<(t.kids.length:Int))=false:=by simpa using hlt
     obtain rfl:k=t.kids.length:=by omega
     have hall:(t.pparts d (a+d)).take t.kids.length=t.pparts d (a+d):=List.take_of_length_le (Nat.le_of_eq (Lb _ _ _))
     have hjs:=Pm (d:=d) hda' ht (fun x hx=>SI hd _ x (a+d) (Nat.le_refl _) (K1 ht hx) (PK hx hda)) t.kids.length (Nat.le_refl _)
     rw[hall]at hjs
     have hck:=K4 t
     have hc:=ht.2.1
     have hlB:bS 10++Px (a+d)=lnB (a+d):=rfl
     have hj:=YL (t.pparts d (a+d)) (bS 44++lnB (a+d)) (by rw[Lb];omega) (by omega)
     have hr1:=Ui (a+d) (by omega)
     have hr2:=Ui a (by omega)
     have z1:=Q8 (a+d)
     have z2:=Q8 a
     have z3:=MY (a+d)
     have hpn:=Oh d a hk
     have y1:1+(Px (a+d)).size≤9223372036854775807:=by omega
     have y2:1+(lnB (a+d)).size≤9223372036854775807:=by omega
     have y3:(lnB (a+d)).size+(H0 (bS 44++lnB (a+d)) (t.pparts d (a+d))).size≤9223372036854775807:=by omega
     have y4:(lnB (a+d)++H0 (bS 44++lnB (a+d)) (t.pparts d (a+d))).size+1≤9223372036854775807:=by simp only[ByteArray.size_append];omega
     have y5:(lnB (a+d)++H0 (bS 44++lnB (a+d)) (t.pparts d (a+d))++bS 10).size+(Px a).size≤9223372036854775807:=by simp only[ByteArray.size_append,K9];omega
     have y6:1+(lnB (a+d)++H0 (bS 44++lnB (a+d)) (t.pparts d (a+d))++bS 10++Px a).size≤9223372036854775807:=by simp only[ByteArray.size_append,K9];omega
     have y7:∀b:UInt8,(bS b++(lnB (a+d)++H0 (bS 44++lnB (a+d)) (t.pparts d (a+d))++bS 10++Px a)).size+1≤9223372036854775807:=fun b=>by simp only[ByteArray.size_append,K9];omega
     have hin:lnB (a+d)++H0 (bS 44++lnB (a+d)) (t.pparts d (a+d))++bS 10++Px a=lnB (a+d)++H0 (bS 44++lnB (a+d)) (t.pparts d (a+d))++lnB a:=by unfold lnB;simp only[ByteArray.append_assoc]
     rw[←hin]at hpn
     generalize hu0:bS 44++lnB (a+d)=u0 at *
     generalize H0 u0 (t.pparts d (a+d))=J at *
     generalize hu1:lnB (a+d)++J=u1 at *
     generalize hu2:u1++bS 10=u2 at *
     generalize hu3:u2++Px a=u3 at *
     by_cases h5:t.kind=5
     ·have b5:(t.kind==5)=true:=by simp[h5]
      rw[if_pos h5,if_pos h5]at hpn
      have y8:=y7 91
      generalize hv1:bS 91++u3=v1 at *
      have hpe:=hpn.symm
      refine JV (j3 hdk1 hall hw1) ?_
      refine w7 (Ju [] hr1) q9 ?_
      refine JV (j4 y1 hlB y2 hu0) ?_
      refine w7 (Ju [(98,0)] hj) q9 ?_
      refine JV (j4 y3 hu1 y4 hu2) ?_
      refine w7 (Ju [] hr2) q9 ?_
      refine JV (j7 y5 hu3 b5 y6 hv1 y8 hpe) ?_
      exact JJ (JN [((8,0),(8,0))] []) Tryz.results58 hpe
     ·have b5:(t.kind==5)=false:=by simp[h5]
      rw[if_neg h5,if_neg h5]at hpn
      have y8:=y7 123
      generalize hv1:bS 123++u3=v1 at *
      have hpe:=hpn.symm
      refine JV (j3 hdk1 hall hw1) ?_
      refine w7 (Ju [] hr1) q9 ?_
      refine JV (j4 y1 hlB y2 hu0) ?_
      refine w7 (Ju [(98,0)] hj) q9 ?_
      refine JV (j4 y3 hu1 y4 hu2) ?_
      refine w7 (Ju [] hr2) q9 ?_
      refine JV (j7 y5 hu3 b5 y6 hv1 y8 hpe) ?_
      exact JJ (JN [((8,0),(8,0))] []) Tryz.results58 hpe
end
section
open Go.RowKit
set_option maxRecDepth 10000
variable {o:Obj}
def M0 (xs:List CellD) (n:Int):Int×ByteArray :=
 if (dec xs).1≠0 then ((dec xs).1,ByteArray.empty) else if decide (n≥0)&&decide (n≤8) then (if 60000<((SU xs).pre n.toNat 0).size then (2,ByteArray.empty) else (0,(SU xs).pre n.toNat 0)) else (3,ByteArray.empty)
theorem Ud (xs:List CellD) (n:Int):(M0 xs n).2.size≤60000:=by
 unfold M0
 split
 ·simp
 ·split
  ·split
   ·simp
   ·simp only;omega
  ·simp
theorem Th (xs:List CellD) (n:Int):AC Tryz.prog 23 [Iw xs,.c (.int .i64 n)] [] (.agg [.c (.int .i64 (M0 xs n).1),.c (.str (M0 xs n).2)]) []:=by
 have h1:=a0s xs
 have h2:=a3w n 0 8
 rcases Lx xs with⟨t,ht⟩ | ⟨c,hc,hd⟩
 ·obtain⟨e1,w1,w2,w3⟩:=Pb ht
  have hr:t.right:=⟨w1,w2,w3⟩
  have hne:((0:Int) != 0)=false:=rfl
  have htr:=Vl ht
  have h0:¬((dec xs).1≠0):=by rw[ht];simp
  rw[ht]at h1
  unfold M0
  rw[if_neg h0,htr]
  cases hin:(decide (n≥0)&&decide (n≤8)) with
  |false =>
   rw[hin]at h2
   rw[if_neg (by simp)]
   refine JI Tryz.func23 Tryz.ntmps23 ?_
   refine JV q9 ?_
   refine w7 (Ju [] h1) q9 ?_
   refine JV hne ?_
   refine w7 (Ju [] h2) q9 ?_
   refine JV q9 ?_
   exact JJ (JN [] []) Tryz.results23 hne
  |true =>
   rw[hin]at h2
   rw[if_pos rfl]
   simp only[Bool.and_eq_true,decide_eq_true_eq]at hin
   obtain⟨d,rfl⟩:∃d:Nat,n=d:=⟨n.toNat,by omega⟩
   have hd8:d≤8:=by omega
   rw[Int.toNat_natCast]
   have h3:=Ye d hd8 _ t 0 (Nat.le_refl _) hr (by omega)
   rw[Nat.mul_zero,←e1]at h3
   have hz:((0:Nat):Int)=0:=rfl
   rw[hz]at h3
   by_cases hs:60000<(t.pre d 0).size
   ·have hb:decide (((t.pre d 0).size:Int)>60000)=true:=by simp;omega
    rw[if_pos hs]
    refine JI Tryz.func23 Tryz.ntmps23 ?_
    refine JV q9 ?_
    refine w7 (Ju [] h1) q9 ?_
    refine JV hne ?_
    refine w7 (Ju [] h2) q9 ?_
    refine JV q9 ?_
    refine w7 (Ju [] h3) q9 ?_
    refine JV hb ?_
    exact JJ (JN [] []) Tryz.results23 hne
   ·have hb:decide (((t.pre d 0).size:Int)>60000)=false:=by simp;omega
    rw[if_neg hs]
    refine JI Tryz.func23 Tryz.ntmps23 ?_
    refine JV q9 ?_
    refine w7 (Ju [] h1) q9 ?_
    refine JV hne ?_
    refine w7 (Ju [] h2) q9 ?_
    refine JV q9 ?_
    refine w7 (Ju [] h3) q9 ?_
    refine JV hb ?_
    exact JJ (JN [] []) Tryz.results23 hne
 ·have hb:(c != 0)=true:=by simpa using hc
  rw[hd]at h1
  unfold M0
  rw[hd,if_pos hc]
  refine JI Tryz.func23 Tryz.ntmps23 ?_
  refine JV q9 ?_
  refine w7 (Ju [] h1) q9 ?_
  refine JV hb ?_
  exact JJ (JN [] []) Tryz.results23 hb
theorem OW (xs:List CellD) (hz:Lk xs) (n:Int):AC Tryz.prog 22 [Iw xs,.c (.int .i64 n)] (Nk o) (.agg [.c (.int .i64 (M0 xs n).1),.c (.str (M0 xs n).2)]) (Nk o):=by
 have h2:=Qy n 0 8
 rcases Lx xs with⟨t,ht⟩ | ⟨c,hc,hd⟩
 ·obtain⟨e1,w1,w2,w3⟩:=Pb ht
  have hr:t.right:=⟨w1,w2,w3⟩
  have hne:((0:Int) != 0)=false:=rfl
  have htr:=Vl ht
  have h0:¬((dec xs).1≠0):=by rw[ht];simp
  have h1:=LK xs hz (t:=t) (by rw[ht])
  unfold M0
  rw[if_neg h0,htr]
  cases hin:(decide (n≥0)&&decide (n≤8)) with
  |false =>
   rw[hin]at h2
   rw[if_neg (by simp)]
   refine JI Tryz.func22 Tryz.ntmps22 ?_
   refine JV q9 ?_
   refine w9 (Ja [] h1) q9 ?_
   refine JV hne ?_
   refine w7 (Ju [] h2) q9 ?_
   refine JV q9 ?_
   exact JJ (JN [((8,0),(8,0))] []) Tryz.results22 hne
  |true =>
   rw[hin]at h2
   rw[if_pos rfl]
   simp only[Bool.and_eq_true,decide_eq_true_eq]at hin
   obtain⟨d,rfl⟩:∃d:Nat,n=d:=⟨n.toNat,by omega⟩
   have hd8:d≤8:=by omega
   rw[Int.toNat_natCast]
   have h3:=Xw (o:=o) hd8 _ t 0 (Nat.le_refl _) hr (by
    have:d*t.depth≤8*20:=Nat.mul_le_mul hd8 w3
    omega)
   have hz0:((0:Nat):Int)=0:=rfl
   rw[hz0]at h3
   by_cases hs:60000<(t.pre d 0).size
   ·have hb:decide (((t.pre d 0).size:Int)>60000)=true:=by simp;omega
    rw[if_pos hs]
    refine JI Tryz.func22 Tryz.ntmps22 ?_
    refine JV q9 ?_
    refine w9 (Ja [] h1) q9 ?_
    refine JV hne ?_
    refine w7 (Ju [] h2) q9 ?_
    refine JV q9 ?_
    refine w10 (Kk Ky Kx (8,0) [] h3) q9 ?_
    refine JV hb ?_
    exact JJ (JN [((8,0),(8,0))] []) Tryz.results22 hne
   ·have hb:decide (((t.pre d 0).size:Int)>60000)=false:=by simp;omega
    rw[if_neg hs]
    refine JI Tryz.func22 Tryz.ntmps22 ?_
    refine JV q9 ?_
    refine w9 (Ja [] h1) q9 ?_
    refine JV hne ?_
    refine w7 (Ju [] h2) q9 ?_
    refine JV q9 ?_
    refine w10 (Kk Ky Kx (8,0) [] h3) q9 ?_
    refine JV hb ?_
    exact JJ (JN [((8,0),(8,0))] []) Tryz.results22 hne
 ·have hb:(c != 0)=true:=by simpa using hc
  have h1:=Mw xs hz (by rw[hd])
  rw[hd]at h1
  unfold M0
  rw[hd,if_pos hc]
  refine JI Tryz.func22 Tryz.ntmps22 ?_
  refine JV q9 ?_
  refine w9 (Ja [] h1) Ki ?_
  refine JV (j2 hb Ki) ?_
  exact JJ (JN [((8,0),(8,0))] []) Tryz.results22 hb
theorem a14 {xs:List CellD}{n:Int}(h:(M0 xs n).1≠0):(M0 xs n).2=ByteArray.empty:=by
 unfold M0 at h ⊢
 split
 ·rfl
 ·rename_i h0
  rw[if_neg h0]at h
  split
  ·rename_i h1
   rw[if_pos h1]at h
   split
   ·rfl
   ·rename_i h2
    rw[if_neg h2]at h
    exact absurd rfl h
  ·rfl
theorem i7 (s:ByteArray) (h:s.size≤1000000):AC Tryz.prog 63 [.c (.str s)] [] (.c (.int .i64 s.size)) []:=by
 refine JI Tryz.func63 Tryz.ntmps63 ?_
 refine JV q9 ?_
 exact JJ (JN [] []) Tryz.results63 h
theorem Wb (xs:List CellD) (hz:Lk xs) (n:Int):AC Tryz.prog 26 [Iw xs,.c (.int .i64 n)] (Nk o) (.agg [.c (.int .i64 (M0 xs n).1),.c (.int .i64 (M0 xs n).2.size)]) (Nk o):=by
 have h1:=OW (o:=o) xs hz n
 have hsz:=Ud xs n
 have hl:=i7 (M0 xs n).2 (by omega)
 by_cases h0:(M0 xs n).1=0
 ·have hb:((M0 xs n).1 != 0)=false:=by simpa using h0
  have hc:((0:Int))=(M0 xs n).1:=h0.symm
  refine JI Tryz.func26 Tryz.ntmps26 ?_
  refine JV q9 ?_
  refine JO (Im [((8,0),(8,0))] [((8,0),(8,0))] h1) q9 ?_
  refine JV hb ?_
  refine w7 (Ju [] hl) q9 ?_
  refine JV q9 ?_
  exact JJ (JN [((8,0),(8,0))] []) Tryz.results26 h0
 ·have hb:((M0 xs n).1 != 0)=true:=by simpa using h0
  have he:=a14 h0
  have hs0:(ByteArray.empty).size=0:=rfl
  have hs1:(((M0 xs n).2.size:Nat):Int)=0:=by rw[he];rfl
  rw[hs1]
  refine JI Tryz.func26 Tryz.ntmps26 ?_
  refine JV q9 ?_
  refine JO (Im [((8,0),(8,0))] [((8,0),(8,0))] h1) q9 ?_
  refine JV hb ?_
  exact JJ (JN [((8,0),(8,0))] []) Tryz.results26 hb
end
section
open Go.RowKit
set_option maxRecDepth 10000
def v7 (bs:List Nat) (d:Nat):Prop:=∀a,a+MP d≤900000→AC Tryz.prog 101 [.ptr (0,0) 0,.c (.int .i64 ((d+1:Nat):Int))] (OP bs a) (.own (0,1)) (a22 bs (KY bs d a))
theorem Wo (bs:List Nat) (hb:M2 bs) {d:Nat}(hd:d≤4) (ih:v7 bs d) (a:Nat) (ha:a+MP (d+1)≤900000) (hk:K0 bs a 10=7∨K0 bs a 10=8) :
  AC Tryz.prog 101 [.ptr (0,0) 0,.c (.int .i64 ((d+2:Nat):Int))] (OP bs a) (.own (0,1)) (a22 bs (Ir (Lp (KY bs d) (K0 bs (a+1) 4) (a+2)).1,(Lp (KY bs d) (K0 bs (a+1) 4) (a+2)).2)):=by
 have hb1:MP (d+1)=5+3*(1+MP d):=rfl
 have hc:=Km bs hb a 10 (by omega) (by omega)
 have n1:=Km bs hb (a+1) 4 (by omega) (by omega)
 have hn:=Kn bs (a+1) (n:=4) (by omega)
 have hok:=Rr bs d
 have hcc:P7 d≤400:=by
  have:d=0∨d=1∨d=2∨d=3∨d=4:=by omega
  rcases this with rfl | rfl | rfl | rfl | rfl<;>decide
 obtain⟨g1,g2,g3,g4,g5,g6⟩:=RR hok (K0 bs (a+1) 4) (a+2)
 have hdp:decide (((d+2:Nat):Int)≤1)=false:=decide_eq_false (by omega)
 have hdw:IntKind.i64.wrap (((d+2:Nat):Int)-1)=((d+1:Nat):Int):=Mc (by omega) (by omega)
 have hm1:K0 bs (a+1) 4*P7 d≤3*P7 d:=Nat.mul_le_mul_right _ (by omega)
 obtain⟨q,hq⟩:∃q,Lp (KY bs d) (K0 bs (a+1) 4) (a+2)=q:=⟨_,rfl⟩
 rw[hq]at g1 g2 g3 g4 g5 g6 ⊢
 have har:=XE q.1 (by simp only[Ir,V.count];omega)
 generalize K0 bs (a+1) 4=n at *
 have hz:(([]:List V).map V.enc).map N1=[]:=rfl
 obtain⟨z,hzr⟩:∃z:Int,((K0 bs a 10:Nat):Int)=z:=⟨_,rfl⟩
 rw[hzr]at hc
 have hzz:z=7∨z=8:=by omega
 rcases hzz with rfl | rfl
 all_goals
  refine JI Tryz.func101 Tryz.ntmps101 ?_
  refine JV q9 ?_
  refine JO (Im [((0,0),(0,0))] [((0,0),(0,0))] hc) q9 ?_
  refine a62 hdp ?_
  refine JO (Im [((0,0),(0,0))] [((0,0),(0,0))] n1) q9 ?_
  refine JV q9 ?_
  refine Jz (κ:=List V×Nat×Nat) (fun x=>⟨mkS 0 91 [(0,.ptr (0,0) 0),(1,.c (.int .i64 ((d+2:Nat):Int))),(6,.own (99,0)),(7,.c (.int .i64 (x.2.1:Int)))],
    [((0,0),a2m bs x.2.2),((99,0),.row true 1 36 ((x.1.map V.enc).map N1))]⟩)
   (fun x=>x.1.length+x.2.1≤3∧x.2.2+x.2.1*MP d≤a+2+3*MP d∧x.1++(Lp (KY bs d) x.2.1 x.2.2).1=q.1∧(Lp (KY bs d) x.2.1 x.2.2).2=q.2) (fun x=>x.2.1) ([],n,a+2) ⟨by show 0+n≤3;omega,Nat.add_le_add_left (Nat.mul_le_mul_right _ (show n≤3 by omega)) _,by rw[List.nil_append,hq],by rw[hq]⟩ ?_ ?_
  ·exact JQ (F7.of [((0,0),(0,0)),((99,0),(52,0))] []) hz
  ·rintro⟨vs,m,a1⟩ ⟨i1,i2,i3,i4⟩
   dsimp only at i1 i2 i3 i4 ⊢
   cases m with
   |zero =>
    have e1:vs=q.1:=by rw[←i3];simp[Lp]
    have e2:a1=q.2:=i4
    rw[e1,e2]
    have h0:decide (((0:Nat):Int)>0)=false:=rfl
    generalize q.1=qs at *
    generalize q.2=q2 at *
    refine JV h0 ?_
    refine w12 (Kj [(99,0)] har) q9 ?_
    refine JV q9 ?_
    exact JJ (JN [((0,0),(0,0)),((0,1),(67,0))] []) Tryz.results101 hdp
   |succ m =>
    rw[Nat.succ_mul]at i2
    have ihc:=ih a1 (by omega)
    obtain⟨o1,o2,o3,o4,o5⟩:=hok a1
    have h0:decide (((m+1:Nat):Int)>0)=true:=decide_eq_true (by omega)
    have hw:IntKind.i64.wrap (((m+1:Nat):Int)-1)=(m:Int):=Mc (by omega) (by omega)
    have hol:vs.length+1≤1000000:=by omega
    have i3':(vs++[(KY bs d a1).1])++(Lp (KY bs d) m (KY bs d a1).2).1=q.1:=by rw[List.append_assoc];exact i3
    have i4':(Lp (KY bs d) m (KY bs d a1).2).2=q.2:=i4
    generalize KY bs d a1=v at *
    have hrow:(vs.map V.enc).map N1++[[C.osl (v.1.enc.map CellD.cs)]]=((vs++[v.1]).map V.enc).map N1:=by rw[List.map_append,List.map_append];rfl
    refine JV (j2 h0 hdw) ?_
    refine JO (Im [((0,0),(0,0))] [((0,0),(0,0)),((0,1),(63,0))] ihc) q9 ?_
    refine JV (j2 hol hw) ?_
    refine⟨(vs++[v.1],m,v.2),by dsimp only;omega,⟨by dsimp only;simp;omega,by dsimp only;omega,i3',i4'⟩,?_⟩
    dsimp only
    rw[←hrow]
    exact JQ (F7.of [((0,0),(0,0)),((99,0),(65,0))] []) hol
theorem Wp (bs:List Nat) (hb:M2 bs) {d:Nat}(hd:d≤4) (ih:v7 bs d) (a:Nat) (ha:a+MP (d+1)≤900000) (hk:K0 bs a 10=9) :
  AC Tryz.prog 101 [.ptr (0,0) 0,.c (.int .i64 ((d+2:Nat):Int))] (OP bs a) (.own (0,1)) (a22 bs (Jm (KD bs (KY bs d) (K0 bs (a+1) 4) (a+2)).1 (KD bs (KY bs d) (K0 bs (a+1) 4) (a+2)).2.1,(KD bs (KY bs d) (K0 bs (a+1) 4) (a+2)).2.2)):=by
 have hb1:MP (d+1)=5+3*(1+MP d):=rfl
 have hc:=Km bs hb a 10 (by omega) (by omega)
 have n1:=Km bs hb (a+1) 4 (by omega) (by omega)
 have hn:=Kn bs (a+1) (n:=4) (by omega)
 have hok:=Rr bs d
 have hcc:P7 d≤400:=by
  have:d=0∨d=1∨d=2∨d=3∨d=4:=by omega
  rcases this with rfl | rfl | rfl | rfl | rfl<;>decide
 obtain⟨g1,g0,g7,g2,g3,g4,g5,g6⟩:=RQ bs hok (K0 bs (a+1) 4) (a+2)
 have hdp:decide (((d+2:Nat):Int)≤1)=false:=decide_eq_false (by omega)
 have hdw:IntKind.i64.wrap (((d+2:Nat):Int)-1)=((d+1:Nat):Int):=Mc (by omega) (by omega)
 have hm1:K0 bs (a+1) 4*P7 d≤3*P7 d:=Nat.mul_le_mul_right _ (by omega)
 obtain⟨q,hq⟩:∃q,KD bs (KY bs d) (K0 bs (a+1) 4) (a+2)=q:=⟨_,rfl⟩
 rw[hq]at g1 g0 g7 g2 g3 g4 g5 g6 ⊢
 have har:=Wl q.1 q.2.1 (by omega) (by omega)
 generalize K0 bs (a+1) 4=n at *
 have hz:(([]:List V).map V.enc).map N1=[]:=rfl
 have hz1:([]:List ByteArray).map CX=[]:=rfl
 have hzr:((K0 bs a 10:Nat):Int)=9:=by omega
 rw[hzr]at hc
 refine JI Tryz.func101 Tryz.ntmps101 ?_
 refine JV q9 ?_
 refine JO (Im [((0,0),(0,0))] [((0,0),(0,0))] hc) q9 ?_
 refine a62 hdp ?_
 refine JO (Im [((0,0),(0,0))] [((0,0),(0,0))] n1) q9 ?_
 refine JV q9 ?_
 refine Jz (κ:=List ByteArray×List V×Nat×Nat) (fun x=>⟨mkS 0 91 [(0,.ptr (0,0) 0),(1,.c (.int .i64 ((d+2:Nat):Int))),(8,.own (98,0)),(9,.own (99,0)),(10,.c (.int .i64 (x.2.2.1:Int)))],
   [((0,0),a2m bs x.2.2.2),((98,0),.row false 1 9 (x.1.map CX)),((99,0),.row true 1 36 ((x.2.1.map V.enc).map N1))]⟩)
  (fun x=>x.1.length+x.2.2.1≤3∧x.2.1.length=x.1.length∧x.2.2.2+x.2.2.1*(MP d+1)≤a+2+3*(MP d+1)∧x.1++(KD bs (KY bs d) x.2.2.1 x.2.2.2).1=q.1∧x.2.1++(KD bs (KY bs d) x.2.2.1 x.2.2.2).2.1=q.2.1∧(KD bs (KY bs d) x.2.2.1 x.2.2.2).2.2=q.2.2) (fun x=>x.2.2.1) ([],[],n,a+2) ⟨by show 0+n≤3;omega,rfl,Nat.add_le_add_left (Nat.mul_le_mul_right _ (show n≤3 by omega)) _,by rw[List.nil_append,hq],by rw[List.nil_append,hq],by rw[hq]⟩ ?_ ?_
 ·exact JQ (F7.of [((0,0),(0,0)),((98,0),(68,0)),((99,0),(69,0))] []) (j2 hz hz1)
 ·rintro⟨ks,vs,m,a1⟩ ⟨i1,i0,i2,i3,i5,i4⟩
  dsimp only at i1 i0 i2 i3 i4 i5 ⊢
  cases m with
  |zero =>
   have e1:ks=q.1:=by rw[←i3];simp[KD]
   have e3:vs=q.2.1:=by rw[←i5];simp[KD]
   have e2:a1=q.2.2:=i4
   rw[e1,e2,e3]
   have h0:decide (((0:Nat):Int)>0)=false:=rfl
   generalize q.1=qk at *
   generalize q.2.1=qs at *
   generalize q.2.2=q2 at *
   refine JV h0 ?_
   refine w12 (Kj [(98,0),(99,0)] har) q9 ?_
   refine JV q9 ?_
   exact JJ (JN [((0,0),(0,0)),((0,1),(90,0))] []) Tryz.results101 hdp
  |succ m =>
   rw[Nat.succ_mul]at i2
   have kc:=a07 bs hb a1 (by omega)
   have ihc:=ih (a1+1) (by omega)
   obtain⟨o1,o2,o3,o4,o5⟩:=hok (a1+1)
   have h0:decide (((m+1:Nat):Int)>0)=true:=decide_eq_true (by omega)
   have hw:IntKind.i64.wrap (((m+1:Nat):Int)-1)=(m:Int):=Mc (by omega) (by omega)
   have hol:vs.length+1≤1000000:=by omega
   have hol2:ks.length+1≤1000000:=by omega
   have i3':(ks++[UT bs a1])++(KD bs (KY bs d) m (KY bs d (a1+1)).2).1=q.1:=by rw[List.append_assoc];exact i3
   have i5':(vs++[(KY bs d (a1+1)).1])++(KD bs (KY bs d) m (KY bs d (a1+1)).2).2.1=q.2.1:=by rw[List.append_assoc];exact i5
   have i4':(KD bs (KY bs d) m (KY bs d (a1+1)).2).2.2=q.2.2:=i4
   generalize KY bs d (a1+1)=v at *
   generalize UT bs a1=kn at *
   have hrow:(vs.map V.enc).map N1++[[C.osl (v.1.enc.map CellD.cs)]]=((vs++[v.1]).map V.enc).map N1:=by rw[List.map_append,List.map_append];rfl
   have hrow2:ks.map CX++[[C.str kn]]=(ks++[kn]).map CX:=by rw[List.map_append];rfl
   refine JV (j2 h0 hdw) ?_
   refine JO (Im [((0,0),(0,0))] [((0,0),(0,0))] kc) q9 ?_
   refine JV (j2 hol2 hdw) ?_
   refine JO (Im [((0,0),(0,0))] [((0,0),(0,0)),((0,1),(85,0))] ihc) q9 ?_
   refine JV (j2 hol hw) ?_
   refine⟨(ks++[kn],vs++[v.1],m,v.2),by dsimp only;omega,⟨by dsimp only;simp;omega,by dsimp only;simp[i0],by dsimp only;omega,i3',i5',i4'⟩,?_⟩
   dsimp only
   rw[←hrow,←hrow2]
   exact JQ (F7.of [((0,0),(0,0)),((98,0),(80,0)),((99,0),(87,0))] []) hol
theorem So (bs:List Nat) (hb:M2 bs):∀d,d≤4→v7 bs d
 | 0,_=>fun a ha=>by
  have hk:=(PL bs 0 a).2 rfl
  unfold KY
  have hb1:MP 0=5:=rfl
  exact PM bs hb a (by omega) _ true (by decide) _ (by unfold OX;simp) hk
 |d+1,hd=>fun a ha=>by
  have ih:=So bs hb d (by omega)
  have hk:=(PL bs (d+1) a).1
  have hkr:OX bs (d+1) a=K0 bs a 10:=by unfold OX;simp
  have hb1:MP (d+1)=5+3*(1+MP d):=rfl
  unfold KY
  rw[hkr]at hk ⊢
  split
  ·rename_i h6
   exact PM bs hb a (by omega) _ false (decide_eq_false (by omega)) _ (by simp) h6
  ·split
   ·exact Wo bs hb (by omega) ih a ha (by omega)
   ·exact Wp bs hb (by omega) ih a ha (by omega)
end
end Go.Proofs.YtllfmaflodbieaaGreatDoor
