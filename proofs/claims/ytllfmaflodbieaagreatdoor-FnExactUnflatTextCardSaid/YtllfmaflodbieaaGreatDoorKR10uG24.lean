/- Texts of this proof: R10 R11 G22 G24. -/
import Derived.Test.YtllfmaflodbieaaGreatDoorKG09uR09
import Derived.Lib.ItoaLen
import Derived.Lib.ItoaMem
import Derived.Test.YtllfmaflodbieaaGreatDoorKR06uR08
set_option linter.all false
set_option maxHeartbeats 8000000
namespace Go.Proofs.YtllfmaflodbieaaGreatDoor
open Go.RowKit
set_option maxRecDepth 10000
theorem CW (a b:List UInt8):(⟨a.toArray⟩:ByteArray)++⟨b.toArray⟩=⟨(a++b).toArray⟩:=by
 apply ByteArray.ext
 simp
theorem K3 (n:Nat) (h:n≤9223372036854775807):(⟨(Lib.decDigits n).toArray⟩:ByteArray).size≤21:=by
 have h1:=Lib.itoa_length_le n (by omega) (by omega)
 rw[Lib.itoa_nonneg]at h1
 show (Lib.decDigits n).toArray.size≤21
 simpa using h1
theorem JT (n:Nat) (h:n<10):AF [UInt8.ofNat (48+n)]=[[.int .u8 (48+(n:Int))]]:=by
 have:(UInt8.ofNat (48+n)).toNat=48+n:=by simp;omega
 simp only[AF,List.map_cons,List.map_nil,this]
 rfl
theorem SO {n:Int}(h0:0≤n) (h1:n<256):IntKind.u8.wrap n=n:=IntWalk.u8_in _ (by omega)
theorem Mz:∀(k n:Nat),n<k→n≤9223372036854775807→AC Tryz.prog 202 [.c (.int .i64 n)] [] (.c (.str ⟨(Lib.decDigits n).toArray⟩)) []:=by
 intro k
 induction k with
 |zero=>intro n h;omega
 |succ k ih =>
  intro n hn hm
  have t1:=Tryz.underlying29
  have t2:=Tryz.underlying5
  have t3:=Tryz.underlying9
  by_cases h:n<10
  ·have hd:decide ((n:Int)<10)=true:=decide_eq_true (by omega)
   have hb:=JT n h
   have h1:IntKind.i64.wrap (48+(n:Int))=48+(n:Int):=IntWalk.i64_in _ (by omega)
   have h2:IntKind.u8.wrap (48+(n:Int))=48+(n:Int):=SO (by omega) (by omega)
   rw[Lib.decDigits_one h]
   generalize hy:(⟨[UInt8.ofNat (48+n)].toArray⟩:ByteArray)=y
   refine A6 Tryz.func202 Tryz.ntmps202 ?_
   refine A0 (j3 hd h1 h2) ?_
   (apply (Ot [UInt8.ofNat (48+n)] hy (by simp) t1 t2 t3);(focus (first | (simp only[go_sem,Nat.reduceEqDiff,Nat.reduceAdd,Nat.reduceSub,Nat.reduceLeDiff,Nat.reduceMul,Nat.reduceBEq,Nat.reduceLT,Int.reduceToNat,reduceCtorEq];first | done | exact rfl | (and_intros<;>rfl)) | exact rfl | decide));(focus (first | (simp only[go_sem,Nat.reduceEqDiff,Nat.reduceAdd,Nat.reduceSub,Nat.reduceLeDiff,Nat.reduceMul,Nat.reduceBEq,Nat.reduceLT,Int.reduceToNat,reduceCtorEq];first | done | exact rfl | (and_intros<;>rfl)) | exact rfl | decide));(focus (first | (simp only[go_sem,Nat.reduceEqDiff,Nat.reduceAdd,Nat.reduceSub,Nat.reduceLeDiff,Nat.reduceMul,Nat.reduceBEq,Nat.reduceLT,Int.reduceToNat,reduceCtorEq];first | done | exact rfl | (and_intros<;>rfl)) | exact rfl | decide));(focus (first | (simp only[go_sem,Nat.reduceEqDiff,Nat.reduceAdd,Nat.reduceSub,Nat.reduceLeDiff,Nat.reduceMul,Nat.reduceBEq,Nat.reduceLT,Int.reduceToNat,reduceCtorEq,hb];first | done | exact rfl | (and_intros<;>rfl)) | exact rfl | decide));(focus (first | (simp only[go_sem,Nat.reduceEqDiff,Nat.reduceAdd,Nat.reduceSub,Nat.reduceLeDiff,Nat.reduceMul,Nat.reduceBEq,Nat.reduceLT,Int.reduceToNat,reduceCtorEq];first | done | exact rfl | (and_intros<;>rfl)) | exact rfl | decide));(focus (first | (simp only[go_sem,Nat.reduceEqDiff,Nat.reduceAdd,Nat.reduceSub,Nat.reduceLeDiff,Nat.reduceMul,Nat.reduceBEq,Nat.reduceLT,Int.reduceToNat,reduceCtorEq];first | done | exact rfl | (and_intros<;>rfl)) | exact rfl | decide)))
   refine A0 (j3 hd h1 h2) ?_
   exact Am (A7 []) Tryz.results202
  ·have hd:decide ((n:Int)<10)=false:=decide_eq_false (by omega)
   have hq:IntKind.i64.wrap ((n:Int).tdiv 10)=((n / 10:Nat):Int):=by
    rw[show ((n:Int).tdiv 10)=((n / 10:Nat):Int) by rw[Int.tdiv_eq_ediv_of_nonneg (by omega)];rfl]
    exact IntWalk.i64_in _ (by omega)
   have hr:(n:Int).tmod 10=((n % 10:Nat):Int):=by rw[Int.tmod_eq_emod_of_nonneg (by omega)];rfl
   have hrw:IntKind.i64.wrap ((n % 10:Nat):Int)=((n % 10:Nat):Int):=IntWalk.i64_in _ (by omega)
   have h1:IntKind.i64.wrap (48+((n % 10:Nat):Int))=48+((n % 10:Nat):Int):=IntWalk.i64_in _ (by omega)
   have h2:IntKind.u8.wrap (48+((n % 10:Nat):Int))=48+((n % 10:Nat):Int):=SO (by omega) (by omega)
   have hb:=JT (n % 10) (by omega)
   have ihn:=ih (n / 10) (by omega) (by omega)
   have hs1:=K3 (n / 10) (by omega)
   have hs2:(⟨(Lib.decDigits (n / 10)).toArray⟩:ByteArray).size+(⟨[UInt8.ofNat (48+n % 10)].toArray⟩:ByteArray).size≤9223372036854775807:=by
    have:(⟨[UInt8.ofNat (48+n % 10)].toArray⟩:ByteArray).size=1:=rfl
    omega
   have happ:(⟨(Lib.decDigits (n / 10)).toArray⟩:ByteArray)++⟨[UInt8.ofNat (48+n % 10)].toArray⟩=⟨(Lib.decDigits n).toArray⟩:=by
    rw[CW]
    congr 2
    rw[Lib.decDigits.eq_1 n,dif_neg h]
   generalize hx:(⟨(Lib.decDigits (n / 10)).toArray⟩:ByteArray)=x at *
   generalize hm0:n % 10=m0 at *
   generalize hy:(⟨[UInt8.ofNat (48+m0)].toArray⟩:ByteArray)=y at *
   refine A6 Tryz.func202 Tryz.ntmps202 ?_
   refine A0 (j6 hd hq hr hrw h1 h2) ?_
   refine w7 (A3 [] ihn) trivial ?_
   refine A0 (j6 hd hq hr hrw h1 h2) ?_
   (apply (Ot [UInt8.ofNat (48+m0)] hy (by simp) t1 t2 t3);(focus (first | (simp only[go_sem,Nat.reduceEqDiff,Nat.reduceAdd,Nat.reduceSub,Nat.reduceLeDiff,Nat.reduceMul,Nat.reduceBEq,Nat.reduceLT,Int.reduceToNat,reduceCtorEq];first | done | exact rfl | (and_intros<;>rfl)) | exact rfl | decide));(focus (first | (simp only[go_sem,Nat.reduceEqDiff,Nat.reduceAdd,Nat.reduceSub,Nat.reduceLeDiff,Nat.reduceMul,Nat.reduceBEq,Nat.reduceLT,Int.reduceToNat,reduceCtorEq];first | done | exact rfl | (and_intros<;>rfl)) | exact rfl | decide));(focus (first | (simp only[go_sem,Nat.reduceEqDiff,Nat.reduceAdd,Nat.reduceSub,Nat.reduceLeDiff,Nat.reduceMul,Nat.reduceBEq,Nat.reduceLT,Int.reduceToNat,reduceCtorEq];first | done | exact rfl | (and_intros<;>rfl)) | exact rfl | decide));(focus (first | (simp only[go_sem,Nat.reduceEqDiff,Nat.reduceAdd,Nat.reduceSub,Nat.reduceLeDiff,Nat.reduceMul,Nat.reduceBEq,Nat.reduceLT,Int.reduceToNat,reduceCtorEq,hb];first | done | exact rfl | (and_intros<;>rfl)) | exact rfl | decide));(focus (first | (simp only[go_sem,Nat.reduceEqDiff,Nat.reduceAdd,Nat.reduceSub,Nat.reduceLeDiff,Nat.reduceMul,Nat.reduceBEq,Nat.reduceLT,Int.reduceToNat,reduceCtorEq];first | done | exact rfl | (and_intros<;>rfl)) | exact rfl | decide));(focus (first | (simp only[go_sem,Nat.reduceEqDiff,Nat.reduceAdd,Nat.reduceSub,Nat.reduceLeDiff,Nat.reduceMul,Nat.reduceBEq,Nat.reduceLT,Int.reduceToNat,reduceCtorEq];first | done | exact rfl | (and_intros<;>rfl)) | exact rfl | decide)))
   refine A0 (j2 hs2 happ) ?_
   exact Am (A7 []) Tryz.results202
theorem Lj {n:Int}(h:¬n<0):Lib.itoa n=Lib.decDigits n.toNat:=by unfold Lib.itoa;rw[if_neg h]
theorem Pi {n:Int}(h:n<0):Lib.itoa n=45::Lib.decDigits n.natAbs:=by unfold Lib.itoa;rw[if_pos h]
theorem Se (n:Int) (h0:-9223372036854775807≤n) (h1:n≤9223372036854775807):AC Tryz.prog 137 [.c (.int .i64 n)] [] (.c (.str (Fx n))) []:=by
 by_cases h:n<0
 ·have hd:decide (n<0)=true:=decide_eq_true h
  have hw:IntKind.i64.wrap (0-n)=((n.natAbs:Nat):Int):=by rw[IntWalk.i64_in _ (by omega)];omega
  have hc:=Mz (n.natAbs+1) n.natAbs (by omega) (by omega)
  have hs:=K3 n.natAbs (by omega)
  have happ:(⟨#[45]⟩:ByteArray)++⟨(Lib.decDigits n.natAbs).toArray⟩=Fx n:=by
   unfold Fx
   rw[Pi h]
   exact CW [45] _
  have hsz:1+(⟨(Lib.decDigits n.natAbs).toArray⟩:ByteArray).size≤9223372036854775807:=by omega
  generalize (⟨(Lib.decDigits n.natAbs).toArray⟩:ByteArray)=x at *
  refine A6 Tryz.func137 Tryz.ntmps137 ?_
  refine A0 (j2 hd hw) ?_
  refine w7 (A3 [] hc) trivial ?_
  refine A0 (j2 hsz happ) ?_
  exact Am (A7 []) Tryz.results137
 ·have hd:decide (n<0)=false:=decide_eq_false h
  have hc:=Mz (n.toNat+1) n.toNat (by omega) (by omega)
  have hn:((n.toNat:Nat):Int)=n:=by omega
  have hx:(⟨(Lib.decDigits n.toNat).toArray⟩:ByteArray)=Fx n:=by
   unfold Fx
   rw[Lj h]
  rw[hn,hx]at hc
  refine A6 Tryz.func137 Tryz.ntmps137 ?_
  refine A0 hd ?_
  refine w7 (A3 [] hc) trivial ?_
  refine A0 trivial ?_
  exact Am (A7 []) Tryz.results137
set_option maxRecDepth 10000
theorem FY (s:ByteArray) (hs:s.size≤1000000):AC Tryz.prog 108 [.c (.str s)] [] (.c (.str (BY s))) []:=by
 refine AC.of_calls fun S w κ vs hv=>?_
 obtain⟨v,vs',rfl,⟨rfl,_⟩,rfl⟩:=hv
 refine (Ib s hs w).mono ?_
 rintro e w' ⟨rfl,hb⟩
 exact⟨hb,_,rfl,fun T _ _=>⟨rfl,rfl⟩⟩
def G2 (s:ByteArray) (k:Nat):ByteArray:=⟨#[34]⟩++⟨(Ay (s.data.toList.take k)).toArray⟩
theorem Mv (s:ByteArray):G2 s 0=⟨#[34]⟩:=rfl
theorem Uo (s:ByteArray) (hs:s.size≤1000000) (k:Nat):(G2 s k).size≤2000001:=by
 have h1:=Fv (s.data.toList.take k)
 have h2:cz (s.data.toList.take k)≤(s.data.toList.take k).length:=List.length_filter_le _ _
 have h3:s.data.toList.length=s.size:=Array.length_toList
 have h4:(s.data.toList.take k).length≤s.data.toList.length:=by rw[List.length_take];omega
 have h5:(G2 s k).size=1+(Ay (s.data.toList.take k)).length:=by
  unfold G2
  rw[ByteArray.size_append]
  rfl
 omega
theorem V6 (s:ByteArray):G2 s s.size++⟨#[34]⟩=BY s:=by
 have h3:s.data.toList.length=s.size:=Array.length_toList
 unfold G2 BY
 rw[←h3,List.take_length]
theorem U8 (s:ByteArray) {k:Nat}{b:UInt8}(h:s.data.toList[k]? = some b):G2 s (k+1)=G2 s k++⟨(CA b).toArray⟩:=by
 obtain⟨hk,rfl⟩:=List.getElem?_eq_some_iff.1 h
 unfold G2 Ay
 rw[List.take_succ_eq_append_getElem hk,List.flatMap_append,←CW,ByteArray.append_assoc]
 simp
theorem Yt {s:ByteArray}{k:Nat}(h:k<s.size):s[k]? = some s.data.toList[k]!∧s.data.toList[k]? = some s.data.toList[k]!:=by
 have h3:s.data.toList.length=s.size:=Array.length_toList
 have h4:k<s.data.toList.length:=by omega
 rw[List.getElem!_eq_getElem?_getD,List.getElem?_eq_getElem h4]
 refine⟨?_,rfl⟩
 rw[getElem?_pos s k h]
 rfl
theorem WZ {s:ByteArray}{k:Nat}{b:UInt8}(h:s.data.toList[k]? = some b):s.extract k (k+1)=⟨#[b]⟩:=by
 obtain⟨hk,rfl⟩:=List.getElem?_eq_some_iff.1 h
 apply ByteArray.ext
 apply Array.ext'
 rw[ByteArray.data_extract,Array.toList_extract,List.extract_eq_take_drop]
 rw[List.drop_eq_getElem_cons hk]
 simp
theorem Qg (s:ByteArray) (hs:s.size≤1000000):AC Tryz.prog 116 [.c (.str s)] [] (.c (.str (BY s))) []:=by
 have t3:=Tryz.underlying9
 refine A6 Tryz.func116 Tryz.ntmps116 ?_
 refine ER trivial ?_
 refine Br ?_
 refine ER trivial ?_
 refine Br ?_
 refine ER trivial ?_
 refine Br ?_
 refine ER trivial ?_
 refine AG (κ:=Nat) (fun k=>⟨mkS 0 32 [(0,.c (.str s)),(3,.c (.str (G2 s k))),(4,.c (.int .i64 k))],[]⟩) (fun k=>k≤s.size) (fun k=>s.size-k) 0 (Nat.zero_le _) ?_ ?_
 ·(apply (As.of [] []);(iterate 2 ((focus (simp only[go_sem,Nat.reduceEqDiff,Nat.reduceAdd,Nat.reduceSub,Nat.reduceLeDiff,Nat.reduceMul,Nat.reduceBEq,Nat.reduceLT,Int.reduceToNat,reduceCtorEq,Mv];try (and_intros<;>rfl)));(focus exact rfl)));(iterate 4 (focus (simp[go_sem,Mv];done))))
 ·intro k hk1
  have hz:=Uo s hs k
  by_cases hlt:k<s.size
  ·have hdk:decide ((k:Int)<(s.size:Int))=true:=by simpa using hlt
   have hw:=Ae (k:=k) (by omega)
   obtain⟨hg,hg2⟩:=Yt hlt
   generalize s.data.toList[k]! = b at *
   have hsub:=WZ hg2
   have hnx:=U8 s hg2
   have hsb:(s.extract ((k:Nat):Int).toNat (((k+1:Nat)):Int).toNat)=⟨#[b]⟩:=hsub
   have hk2:((k+1:Nat):Int)≤(s.size:Int):=by omega
   have hx1:(G2 s k).size+1≤9223372036854775807:=by omega
   by_cases hsp:b=34∨b=92
   ·have hu2:(G2 s k++⟨#[92]⟩).size+1≤9223372036854775807:=by rw[ByteArray.size_append];have:(⟨#[92]⟩:ByteArray).size=1:=rfl;omega
    have hnx2:(G2 s k++⟨#[92]⟩)++⟨#[b]⟩=G2 s (k+1):=by
     rw[hnx,ByteArray.append_assoc]
     rcases hsp with rfl | rfl<;>rfl
    generalize hu:G2 s k++⟨#[92]⟩=u at *
    rcases hsp with rfl | rfl
    ·have e1:(((34:UInt8).toNat:Int)==34)=true:=rfl
     refine A0 (j6 hdk hg e1 hx1 hu hw) ?_
     refine w7 (Dt (y:=⟨#[34]⟩) (i:=(k:Int)) (j:=((k+1:Nat):Int)) (s:=s) hsb (by omega) (by omega) hk2 t3) trivial ?_
     refine A0 (j3 hu2 hnx2 hw) ?_
     refine⟨k+1,by omega,by omega,?_⟩
     exact Aq (As.of [] []) trivial
    ·have e1:(((92:UInt8).toNat:Int)==34)=false:=rfl
     have e2:(((92:UInt8).toNat:Int)==92)=true:=rfl
     refine A0 (j7 hdk hg e1 e2 hx1 hu hw) ?_
     refine w7 (Dt (y:=⟨#[92]⟩) (i:=(k:Int)) (j:=((k+1:Nat):Int)) (s:=s) hsb (by omega) (by omega) hk2 t3) trivial ?_
     refine A0 (j3 hu2 hnx2 hw) ?_
     refine⟨k+1,by omega,by omega,?_⟩
     exact Aq (As.of [] []) trivial
   ·have e1:((b.toNat:Int)==34)=false:=by
     rw[beq_eq_false_iff_ne]
     intro h
     exact hsp (.inl (UInt8.toNat_inj.1 (Int.ofNat_inj.1 h)))
    have e2:((b.toNat:Int)==92)=false:=by
     rw[beq_eq_false_iff_ne]
     intro h
     exact hsp (.inr (UInt8.toNat_inj.1 (Int.ofNat_inj.1 h)))
    have hnx2:G2 s k++⟨#[b]⟩=G2 s (k+1):=by
     rw[hnx]
     congr 1
     simp only[not_or]at hsp
     simp[CA,hsp.1,hsp.2]
    refine A0 (j5 hdk hg e1 e2 hw) ?_
    refine w7 (Dt (y:=⟨#[b]⟩) (i:=(k:Int)) (j:=((k+1:Nat):Int)) (s:=s) hsb (by omega) (by omega) hk2 t3) trivial ?_
    refine A0 (j3 hx1 hnx2 hw) ?_
    refine⟨k+1,by omega,by omega,?_⟩
    exact Aq (As.of [] []) trivial
  ·have hdk:decide ((k:Int)<(s.size:Int))=false:=by simpa using hlt
   obtain rfl:k=s.size:=by omega
   have hx1:(G2 s s.size).size+1≤9223372036854775807:=by omega
   have ha:=V6 s
   refine A0 (j3 hdk hx1 ha) ?_
   exact Am (A7 []) Tryz.results116
set_option maxRecDepth 10000
theorem QL (s:ByteArray) (hs:s.size≤9223372036854775807):AC Tryz.prog 153 [.c (.str s)] [] (.c (.bool (AN s))) []:=by
 refine AC.of_calls fun S w κ vs hv=>?_
 obtain⟨v,vs',rfl,⟨rfl,_⟩,rfl⟩:=hv
 refine (Dy s hs w).mono ?_
 rintro e w' ⟨rfl,rfl⟩
 exact⟨Below.refl _ _,_,rfl,fun T _ _=>⟨rfl,rfl⟩⟩
theorem Ms (n lo hi:Int):AC Tryz.prog 57 [.c (.int .i64 n),.c (.int .i64 lo),.c (.int .i64 hi)] [] (.c (.bool (decide (n≥lo)&&decide (n≤hi)))) []:=by
 cases h1:decide (n≥lo)<;>cases h2:decide (n≤hi)
 all_goals
  refine A6 Tryz.func57 Tryz.ntmps57 ?_
  refine A0 (j2 h1 h2) ?_
  exact Am (A7 []) Tryz.results57
theorem MZ {t:V}(h:t.right):(⟨t.kind,t.num,t.text,ByteArray.empty,t.kids.length⟩:CellD).code=0:=by
 refine E0 t ByteArray.empty h.1 B6 _ ?_
 rw[Cp]
 simp
theorem Gx {t:V}(h:t.right):-1000000000000000≤t.num∧t.num≤1000000000000000:=by
 have hc:=MZ h
 unfold CellD.code Az at hc
 have hr:cR t.num (t.kids.length:Int)=false:=by
  cases hh:cR t.num (t.kids.length:Int)
  ·rfl
  ·simp only[hh]at hc
   split at hc
   ·omega
   ·split at hc
    ·omega
    ·simp at hc
 simp[cR,inB]at hr
 omega
theorem FU {t:V}(h:t.right):AN t.text=true:=(MT (MZ h)).1
theorem a1c {t:V}(h:t.right) (key:ByteArray) (hk:AN key=true):AC Tryz.prog 95 [t.av,.c (.str key)] [] (Qr (Ca t key)) []:=by
 have hs:=QL key (by have:=Da hk;omega)
 rw[hk]at hs
 by_cases h0:t.kind=0
 ·have hr:Ca t key=okR P5:=by unfold Ca;rw[if_pos h0]
  have hb:(t.kind==0)=true:=by simpa using h0
  rw[hr,i8]
  refine A6 Tryz.func95 Tryz.ntmps95 ?_
  refine A0 trivial ?_
  refine w7 (A3 [] hs) trivial ?_
  refine A0 hb ?_
  refine w7 (A3 [] Xn) trivial ?_
  refine w7 (A3 [] (VN D9)) trivial ?_
  refine A0 trivial ?_
  exact Am (A7 []) Tryz.results95
 ·have hb:(t.kind==0)=false:=by simpa using h0
  by_cases h6:t.kind=6
  ·have hr:Ca t key=okR (t.member key):=by unfold Ca;rw[if_neg h0,if_pos h6]
   have hb6:(t.kind != 6)=false:=by simpa using h6
   have hm:=a1n h h6 key
   have hg:=VN (Ov h h6 key)
   rw[hr,i8]
   generalize t.member key=u at *
   refine A6 Tryz.func95 Tryz.ntmps95 ?_
   refine A0 trivial ?_
   refine w7 (A3 [] hs) trivial ?_
   refine A0 (j2 hb hb6) ?_
   refine w9 (Aa [] hm) trivial ?_
   refine w9 (Aa [] hg) trivial ?_
   refine A0 trivial ?_
   exact Am (A7 []) Tryz.results95
  ·have hr:Ca t key=Zq 6:=by unfold Ca;rw[if_neg h0,if_neg h6]
   have hb6:(t.kind != 6)=true:=by simpa using h6
   rw[hr,KD]
   refine A6 Tryz.func95 Tryz.ntmps95 ?_
   refine A0 trivial ?_
   refine w7 (A3 [] hs) trivial ?_
   refine A0 (j2 hb hb6) ?_
   refine w7 (A3 [] (GS 6)) trivial ?_
   refine A0 trivial ?_
   exact Am (A7 []) Tryz.results95
theorem FQ (c:Int) (t:V):Qr (c,some t)=Zo 0 t:=rfl
theorem FA (c:Int):Qr (c,none)=Zo c P5:=rfl
theorem e7 (t u:V) (path:List V) (k:Nat) (hk:k<path.length):D8 u (path.drop k)=match EF u path[k] with
  | (_,some x)=>D8 x (path.drop (k+1))
  | (c,none)=>(c,none):=by
 rw[List.drop_eq_getElem_cons hk]
 rfl
set_option maxRecDepth 10000
def G3 (xs ps:List CellD) (F:V→List V→Int×Option V):Int×Option V:=match dec xs with
 | (c,none)=>(c,none)
 | (_,some t)=>match Bn ps with
  | (c,none)=>(c,none)
  | (_,some path)=>F t path
theorem j0 {xs:List CellD}{t:V}(h:dec xs=(0,some t)):xs=t.enc∧t.right:=by
 obtain⟨h1,h2,h3,h4⟩:=Of h
 exact⟨h1,h2,h3,h4⟩
theorem a2j (xs ps:List CellD) (F:V→List V→Int×Option V):((dec xs).2=none∧(dec xs).1≠0∧G3 xs ps F=((dec xs).1,none))∨∃t:V,dec xs=(0,some t)∧xs=t.enc∧t.right∧((∃c:Int,c≠0∧Bn ps=(c,none)∧G3 xs ps F=(c,none)) ∨
  ∃s:V,s.right∧ps=s.enc∧s.kind=5∧s.kids.any BM=false∧Bn ps=(0,some s.kids)∧G3 xs ps F=F t s.kids):=by
 rcases Fg xs with⟨t,ht⟩ | ⟨c,hc,hd⟩
 ·obtain⟨h1,h2⟩:=j0 ht
  refine .inr ⟨t,ht,h1,h2,?_⟩
  rcases BP ps with⟨s,h3,h4,h5,h6,h7,h8,h9⟩ | ⟨c,hc,hp⟩
  ·exact .inr ⟨s,⟨h4,h5,h6⟩,h3,h7,h8,h9,by unfold G3;rw[ht,h9]⟩
  ·exact .inl ⟨c,hc,hp,by unfold G3;rw[ht,hp]⟩
 ·exact .inl ⟨by rw[hd],by rw[hd];exact hc,by unfold G3;rw[hd]⟩
end Go.Proofs.YtllfmaflodbieaaGreatDoor
