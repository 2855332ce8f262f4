/- Texts of this proof: R10 R11 G22 G23 G26 G27 G48 S02. -/
import Derived.Test.YtllfmaflodbieaaGreatDoorKG10uR09
import Derived.Lib.ItoaLen
import Derived.Lib.ItoaMem
import Derived.Test.YtllfmaflodbieaaGreatDoorKR06uR08
import Derived.Shelf.SlGeneric
import Derived.Shelf.SlLaysM
set_option linter.all false
set_option maxHeartbeats 8000000
namespace Go.Proofs.YtllfmaflodbieaaGreatDoor
section
open Go.RowKit
set_option maxRecDepth 10000
theorem CW (a b:List UInt8):(⟨a.toArray⟩:ByteArray)++⟨b.toArray⟩=⟨(a++b).toArray⟩:=by
 apply ByteArray.ext
 simp
theorem K3 (n:Nat) (h:n≤9223372036854775807):(⟨(Lib.decDigits n).toArray⟩:ByteArray).size≤21:=by
 have h1:=Lib.itoa_length_le n (by omega) (by omega)
 rw[Lib.itoa_nonneg]at h1
 show (Lib.decDigits n).toArray.size≤21
 simpa using h1
theorem JT (n:Nat) (h:n<10):AF [UInt8.ofNat (48+n)]=[[.int .u8 (48+(n:Int))]]:=by
 have:(UInt8.ofNat (48+n)).toNat=48+n:=by simp;omega
 simp only[AF,List.map_cons,List.map_nil,this]
 rfl
theorem SO {n:Int}(h0:0≤n) (h1:n<256):IntKind.u8.wrap n=n:=IntWalk.u8_in _ (by omega)
theorem Mz:∀(k n:Nat),n<k→n≤9223372036854775807→AC Tryz.prog 202 [.c (.int .i64 n)] [] (.c (.str ⟨(Lib.decDigits n).toArray⟩)) []:=by
 intro k
 induction k with
 |zero=>intro n h;omega
 |succ k ih =>
  intro n hn hm
  have t1:=Tryz.underlying29
  have t2:=Tryz.underlying5
  have t3:=Tryz.underlying9
  by_cases h:n<10
  ·have hd:decide ((n:Int)<10)=true:=decide_eq_true (by omega)
   have hb:=JT n h
   have h1:IntKind.i64.wrap (48+(n:Int))=48+(n:Int):=IntWalk.i64_in _ (by omega)
   have h2:IntKind.u8.wrap (48+(n:Int))=48+(n:Int):=SO (by omega) (by omega)
   rw[Lib.decDigits_one h]
   generalize hy:(⟨[UInt8.ofNat (48+n)].toArray⟩:ByteArray)=y
   refine A6 Tryz.func202 Tryz.ntmps202 ?_
   refine A0 (j3 hd h1 h2) ?_
   (apply (Ot [UInt8.ofNat (48+n)] hy (by simp) t1 t2 t3);(focus (first | (simp only[go_sem,Nat.reduceEqDiff,Nat.reduceAdd,Nat.reduceSub,Nat.reduceLeDiff,Nat.reduceMul,Nat.reduceBEq,Nat.reduceLT,Int.reduceToNat,reduceCtorEq];first | done | exact rfl | (and_intros<;>rfl)) | exact rfl | decide));(focus (first | (simp only[go_sem,Nat.reduceEqDiff,Nat.reduceAdd,Nat.reduceSub,Nat.reduceLeDiff,Nat.reduceMul,Nat.reduceBEq,Nat.reduceLT,Int.reduceToNat,reduceCtorEq];first | done | exact rfl | (and_intros<;>rfl)) | exact rfl | decide));(focus (first | (simp only[go_sem,Nat.reduceEqDiff,Nat.reduceAdd,Nat.reduceSub,Nat.reduceLeDiff,Nat.reduceMul,Nat.reduceBEq,Nat.reduceLT,Int.reduceToNat,reduceCtorEq];first | done | exact rfl | (and_intros<;>rfl)) | exact rfl | decide));(focus (first | (simp only[go_sem,Nat.reduceEqDiff,Nat.reduceAdd,Nat.reduceSub,Nat.reduceLeDiff,Nat.reduceMul,Nat.reduceBEq,Nat.reduceLT,Int.reduceToNat,reduceCtorEq,hb];first | done | exact rfl | (and_intros<;>rfl)) | exact rfl | decide));(focus (first | (simp only[go_sem,Nat.reduceEqDiff,Nat.reduceAdd,Nat.reduceSub,Nat.reduceLeDiff,Nat.reduceMul,Nat.reduceBEq,Nat.reduceLT,Int.reduceToNat,reduceCtorEq];first | done | exact rfl | (and_intros<;>rfl)) | exact rfl | decide));(focus (first | (simp only[go_sem,Nat.reduceEqDiff,Nat.reduceAdd,Nat.reduceSub,Nat.reduceLeDiff,Nat.reduceMul,Nat.reduceBEq,Nat.reduceLT,Int.reduceToNat,reduceCtorEq];first | done | exact rfl | (and_intros<;>rfl)) | exact rfl | decide)))
   refine A0 (j3 hd h1 h2) ?_
   exact Am (A7 []) Tryz.results202
  ·have hd:decide ((n:Int)<10)=false:=decide_eq_false (by omega)
   have hq:IntKind.i64.wrap ((n:Int).tdiv 10)=((n / 10:Nat):Int):=by
    rw[show ((n:Int).tdiv 10)=((n / 10:Nat):Int) by rw[Int.tdiv_eq_ediv_of_nonneg (by omega)];rfl]
    exact IntWalk.i64_in _ (by omega)
   have hr:(n:Int).tmod 10=((n % 10:Nat):Int):=by rw[Int.tmod_eq_emod_of_nonneg (by omega)];rfl
   have hrw:IntKind.i64.wrap ((n % 10:Nat):Int)=((n % 10:Nat):Int):=IntWalk.i64_in _ (by omega)
   have h1:IntKind.i64.wrap (48+((n % 10:Nat):Int))=48+((n % 10:Nat):Int):=IntWalk.i64_in _ (by omega)
   have h2:IntKind.u8.wrap (48+((n % 10:Nat):Int))=48+((n % 10:Nat):Int):=SO (by omega) (by omega)
   have hb:=JT (n % 10) (by omega)
   have ihn:=ih (n / 10) (by omega) (by omega)
   have hs1:=K3 (n / 10) (by omega)
   have hs2:(⟨(Lib.decDigits (n / 10)).toArray⟩:ByteArray).size+(⟨[UInt8.ofNat (48+n % 10)].toArray⟩:ByteArray).size≤9223372036854775807:=by
    have:(⟨[UInt8.ofNat (48+n % 10)].toArray⟩:ByteArray).size=1:=rfl
    omega
   have happ:(⟨(Lib.decDigits (n / 10)).toArray⟩:ByteArray)++⟨[UInt8.ofNat (48+n % 10)].toArray⟩=⟨(Lib.decDigits n).toArray⟩:=by
    rw[CW]
    congr 2
    rw[Lib.decDigits.eq_1 n,dif_neg h]
   generalize hx:(⟨(Lib.decDigits (n / 10)).toArray⟩:ByteArray)=x at *
   generalize hm0:n % 10=m0 at *
   generalize hy:(⟨[UInt8.ofNat (48+m0)].toArray⟩:ByteArray)=y at *
   refine A6 Tryz.func202 Tryz.ntmps202 ?_
   refine A0 (j6 hd hq hr hrw h1 h2) ?_
   refine w7 (A3 [] ihn) trivial ?_
   refine A0 (j6 hd hq hr hrw h1 h2) ?_
   (apply (Ot [UInt8.ofNat (48+m0)] hy (by simp) t1 t2 t3);(focus (first | (simp only[go_sem,Nat.reduceEqDiff,Nat.reduceAdd,Nat.reduceSub,Nat.reduceLeDiff,Nat.reduceMul,Nat.reduceBEq,Nat.reduceLT,Int.reduceToNat,reduceCtorEq];first | done | exact rfl | (and_intros<;>rfl)) | exact rfl | decide));(focus (first | (simp only[go_sem,Nat.reduceEqDiff,Nat.reduceAdd,Nat.reduceSub,Nat.reduceLeDiff,Nat.reduceMul,Nat.reduceBEq,Nat.reduceLT,Int.reduceToNat,reduceCtorEq];first | done | exact rfl | (and_intros<;>rfl)) | exact rfl | decide));(focus (first | (simp only[go_sem,Nat.reduceEqDiff,Nat.reduceAdd,Nat.reduceSub,Nat.reduceLeDiff,Nat.reduceMul,Nat.reduceBEq,Nat.reduceLT,Int.reduceToNat,reduceCtorEq];first | done | exact rfl | (and_intros<;>rfl)) | exact rfl | decide));(focus (first | (simp only[go_sem,Nat.reduceEqDiff,Nat.reduceAdd,Nat.reduceSub,Nat.reduceLeDiff,Nat.reduceMul,Nat.reduceBEq,Nat.reduceLT,Int.reduceToNat,reduceCtorEq,hb];first | done | exact rfl | (and_intros<;>rfl)) | exact rfl | decide));(focus (first | (simp only[go_sem,Nat.reduceEqDiff,Nat.reduceAdd,Nat.reduceSub,Nat.reduceLeDiff,Nat.reduceMul,Nat.reduceBEq,Nat.reduceLT,Int.reduceToNat,reduceCtorEq];first | done | exact rfl | (and_intros<;>rfl)) | exact rfl | decide));(focus (first | (simp only[go_sem,Nat.reduceEqDiff,Nat.reduceAdd,Nat.reduceSub,Nat.reduceLeDiff,Nat.reduceMul,Nat.reduceBEq,Nat.reduceLT,Int.reduceToNat,reduceCtorEq];first | done | exact rfl | (and_intros<;>rfl)) | exact rfl | decide)))
   refine A0 (j2 hs2 happ) ?_
   exact Am (A7 []) Tryz.results202
theorem Lj {n:Int}(h:¬n<0):Lib.itoa n=Lib.decDigits n.toNat:=by unfold Lib.itoa;rw[if_neg h]
theorem Pi {n:Int}(h:n<0):Lib.itoa n=45::Lib.decDigits n.natAbs:=by unfold Lib.itoa;rw[if_pos h]
theorem Se (n:Int) (h0:-9223372036854775807≤n) (h1:n≤9223372036854775807):AC Tryz.prog 137 [.c (.int .i64 n)] [] (.c (.str (Fx n))) []:=by
 by_cases h:n<0
 ·have hd:decide (n<0)=true:=decide_eq_true h
  have hw:IntKind.i64.wrap (0-n)=((n.natAbs:Nat):Int):=by rw[IntWalk.i64_in _ (by omega)];omega
  have hc:=Mz (n.natAbs+1) n.natAbs (by omega) (by omega)
  have hs:=K3 n.natAbs (by omega)
  have happ:(⟨#[45]⟩:ByteArray)++⟨(Lib.decDigits n.natAbs).toArray⟩=Fx n:=by
   unfold Fx
   rw[Pi h]
   exact CW [45] _
  have hsz:1+(⟨(Lib.decDigits n.natAbs).toArray⟩:ByteArray).size≤9223372036854775807:=by omega
  generalize (⟨(Lib.decDigits n.natAbs).toArray⟩:ByteArray)=x at *
  refine A6 Tryz.func137 Tryz.ntmps137 ?_
  refine A0 (j2 hd hw) ?_
  refine w7 (A3 [] hc) trivial ?_
  refine A0 (j2 hsz happ) ?_
  exact Am (A7 []) Tryz.results137
 ·have hd:decide (n<0)=false:=decide_eq_false h
  have hc:=Mz (n.toNat+1) n.toNat (by omega) (by omega)
  have hn:((n.toNat:Nat):Int)=n:=by omega
  have hx:(⟨(Lib.decDigits n.toNat).toArray⟩:ByteArray)=Fx n:=by
   unfold Fx
   rw[Lj h]
  rw[hn,hx]at hc
  refine A6 Tryz.func137 Tryz.ntmps137 ?_
  refine A0 hd ?_
  refine w7 (A3 [] hc) trivial ?_
  refine A0 trivial ?_
  exact Am (A7 []) Tryz.results137
set_option maxRecDepth 10000
theorem FY (s:ByteArray) (hs:s.size≤1000000):AC Tryz.prog 108 [.c (.str s)] [] (.c (.str (BY s))) []:=by
 refine AC.of_calls fun S w κ vs hv=>?_
 obtain⟨v,vs',rfl,⟨rfl,_⟩,rfl⟩:=hv
 refine (Ib s hs w).mono ?_
 rintro e w' ⟨rfl,hb⟩
 exact⟨hb,_,rfl,fun T _ _=>⟨rfl,rfl⟩⟩
def G2 (s:ByteArray) (k:Nat):ByteArray:=⟨#[34]⟩++⟨(Ay (s.data.toList.take k)).toArray⟩
theorem Mv (s:ByteArray):G2 s 0=⟨#[34]⟩:=rfl
theorem Uo (s:ByteArray) (hs:s.size≤1000000) (k:Nat):(G2 s k).size≤2000001:=by
 have h1:=Fv (s.data.toList.take k)
 have h2:cz (s.data.toList.take k)≤(s.data.toList.take k).length:=List.length_filter_le _ _
 have h3:s.data.toList.length=s.size:=Array.length_toList
 have h4:(s.data.toList.take k).length≤s.data.toList.length:=by rw[List.length_take];omega
 have h5:(G2 s k).size=1+(Ay (s.data.toList.take k)).length:=by
  unfold G2
  rw[ByteArray.size_append]
  rfl
 omega
theorem V6 (s:ByteArray):G2 s s.size++⟨#[34]⟩=BY s:=by
 have h3:s.data.toList.length=s.size:=Array.length_toList
 unfold G2 BY
 rw[←h3,List.take_length]
theorem U8 (s:ByteArray) {k:Nat}{b:UInt8}(h:s.data.toList[k]? = some b):G2 s (k+1)=G2 s k++⟨(CA b).toArray⟩:=by
 obtain⟨hk,rfl⟩:=List.getElem?_eq_some_iff.1 h
 unfold G2 Ay
 rw[List.take_succ_eq_append_getElem hk,List.flatMap_append,←CW,ByteArray.append_assoc]
 simp
theorem Yt {s:ByteArray}{k:Nat}(h:k<s.size):s[k]? = some s.data.toList[k]!∧s.data.toList[k]? = some s.data.toList[k]!:=by
 have h3:s.data.toList.length=s.size:=Array.length_toList
 have h4:k<s.data.toList.length:=by omega
 rw[List.getElem!_eq_getElem?_getD,List.getElem?_eq_getElem h4]
 refine⟨?_,rfl⟩
 rw[getElem?_pos s k h]
 rfl
theorem WZ {s:ByteArray}{k:Nat}{b:UInt8}(h:s.data.toList[k]? = some b):s.extract k (k+1)=⟨#[b]⟩:=by
 obtain⟨hk,rfl⟩:=List.getElem?_eq_some_iff.1 h
 apply ByteArray.ext
 apply Array.ext'
 rw[ByteArray.data_extract,Array.toList_extract,List.extract_eq_take_drop]
 rw[List.drop_eq_getElem_cons hk]
 simp
theorem Qg (s:ByteArray) (hs:s.size≤1000000):AC Tryz.prog 116 [.c (.str s)] [] (.c (.str (BY s))) []:=by
 have t3:=Tryz.underlying9
 refine A6 Tryz.func116 Tryz.ntmps116 ?_
 refine ER trivial ?_
 refine Br ?_
 refine ER trivial ?_
 refine Br ?_
 refine ER trivial ?_
 refine Br ?_
 refine ER trivial ?_
 refine AG (κ:=Nat) (fun k=>⟨mkS 0 32 [(0,.c (.str s)),(3,.c (.str (G2 s k))),(4,.c (.int .i64 k))],[]⟩) (fun k=>k≤s.size) (fun k=>s.size-k) 0 (Nat.zero_le _) ?_ ?_
 ·(apply (As.of [] []);(iterate 2 ((focus (simp only[go_sem,Nat.reduceEqDiff,Nat.reduceAdd,Nat.reduceSub,Nat.reduceLeDiff,Nat.reduceMul,Nat.reduceBEq,Nat.reduceLT,Int.reduceToNat,reduceCtorEq,Mv];try (and_intros<;>rfl)));(focus exact rfl)));(iterate 4 (focus (simp[go_sem,Mv];done))))
 ·intro k hk1
  have hz:=Uo s hs k
  by_cases hlt:k<s.size
  ·have hdk:decide ((k:Int)<(s.size:Int))=true:=by simpa using hlt
   have hw:=Ae (k:=k) (by omega)
   obtain⟨hg,hg2⟩:=Yt hlt
   generalize s.data.toList[k]! = b at *
   have hsub:=WZ hg2
   have hnx:=U8 s hg2
   have hsb:(s.extract ((k:Nat):Int).toNat (((k+1:Nat)):Int).toNat)=⟨#[b]⟩:=hsub
   have hk2:((k+1:Nat):Int)≤(s.size:Int):=by omega
   have hx1:(G2 s k).size+1≤9223372036854775807:=by omega
   by_cases hsp:b=34∨b=92
   ·have hu2:(G2 s k++⟨#[92]⟩).size+1≤9223372036854775807:=by rw[ByteArray.size_append];have:(⟨#[92]⟩:ByteArray).size=1:=rfl;omega
    have hnx2:(G2 s k++⟨#[92]⟩)++⟨#[b]⟩=G2 s (k+1):=by
     rw[hnx,ByteArray.append_assoc]
     rcases hsp with rfl | rfl<;>rfl
    generalize hu:G2 s k++⟨#[92]⟩=u at *
    rcases hsp with rfl | rfl
    ·have e1:(((34:UInt8).toNat:Int)==34)=true:=rfl
     refine A0 (j6 hdk hg e1 hx1 hu hw) ?_
     refine w7 (Dt (y:=⟨#[34]⟩) (i:=(k:Int)) (j:=((k+1:Nat):Int)) (s:=s) hsb (by omega) (by omega) hk2 t3) trivial ?_
     refine A0 (j3 hu2 hnx2 hw) ?_
     refine⟨k+1,by omega,by omega,?_⟩
     exact Aq (As.of [] []) trivial
    ·have e1:(((92:UInt8).toNat:Int)==34)=false:=rfl
     have e2:(((92:UInt8).toNat:Int)==92)=true:=rfl
     refine A0 (j7 hdk hg e1 e2 hx1 hu hw) ?_
     refine w7 (Dt (y:=⟨#[92]⟩) (i:=(k:Int)) (j:=((k+1:Nat):Int)) (s:=s) hsb (by omega) (by omega) hk2 t3) trivial ?_
     refine A0 (j3 hu2 hnx2 hw) ?_
     refine⟨k+1,by omega,by omega,?_⟩
     exact Aq (As.of [] []) trivial
   ·have e1:((b.toNat:Int)==34)=false:=by
     rw[beq_eq_false_iff_ne]
     intro h
     exact hsp (.inl (UInt8.toNat_inj.1 (Int.ofNat_inj.1 h)))
    have e2:((b.toNat:Int)==92)=false:=by
     rw[beq_eq_false_iff_ne]
     intro h
     exact hsp (.inr (UInt8.toNat_inj.1 (Int.ofNat_inj.1 h)))
    have hnx2:G2 s k++⟨#[b]⟩=G2 s (k+1):=by
     rw[hnx]
     congr 1
     simp only[not_or]at hsp
     simp[CA,hsp.1,hsp.2]
    refine A0 (j5 hdk hg e1 e2 hw) ?_
    refine w7 (Dt (y:=⟨#[b]⟩) (i:=(k:Int)) (j:=((k+1:Nat):Int)) (s:=s) hsb (by omega) (by omega) hk2 t3) trivial ?_
    refine A0 (j3 hx1 hnx2 hw) ?_
    refine⟨k+1,by omega,by omega,?_⟩
    exact Aq (As.of [] []) trivial
  ·have hdk:decide ((k:Int)<(s.size:Int))=false:=by simpa using hlt
   obtain rfl:k=s.size:=by omega
   have hx1:(G2 s s.size).size+1≤9223372036854775807:=by omega
   have ha:=V6 s
   refine A0 (j3 hdk hx1 ha) ?_
   exact Am (A7 []) Tryz.results116
set_option maxRecDepth 10000
theorem Ms (n lo hi:Int):AC Tryz.prog 57 [.c (.int .i64 n),.c (.int .i64 lo),.c (.int .i64 hi)] [] (.c (.bool (decide (n≥lo)&&decide (n≤hi)))) []:=by
 cases h1:decide (n≥lo)<;>cases h2:decide (n≤hi)
 all_goals
  refine A6 Tryz.func57 Tryz.ntmps57 ?_
  refine A0 (j2 h1 h2) ?_
  exact Am (A7 []) Tryz.results57
theorem HG {t:V}(h:t.right):(⟨t.kind,t.num,t.text,ByteArray.empty,t.kids.length⟩:CellD).code=0:=by
 refine E0 t ByteArray.empty h.1 B6 _ ?_
 rw[Cp]
 simp
theorem Gx {t:V}(h:t.right):-1000000000000000≤t.num∧t.num≤1000000000000000:=by
 have hc:=HG h
 unfold CellD.code Az at hc
 have hr:cR t.num (t.kids.length:Int)=false:=by
  cases hh:cR t.num (t.kids.length:Int)
  ·rfl
  ·simp only[hh]at hc
   split at hc
   ·omega
   ·split at hc
    ·omega
    ·simp at hc
 simp[cR,inB]at hr
 omega
theorem FU {t:V}(h:t.right):AN t.text=true:=(MT (HG h)).1
set_option maxRecDepth 10000
theorem VF {w:World}{S:Nat→Prop}{m:Mem}{κ:Id→Value}{ks:List V}{kvs:List (List Value)}{A:Option Addr}{cv:Nat}(hc:ks.length≤cv) (hr:Row w S 5 A kvs) (hv:AT w S ks kvs):AR w S m κ (PD ks) (.slice A ks.length cv):=by
 have h7:=Ho hv
 rw[Jf]at h7
 exact⟨5,A,cv,kvs,by rw[List.length_map],by rw[List.length_map];exact hc,trivial,hr,h7,rfl⟩
theorem Mw (xs:List CellD) (hz:G8 xs) {ks:List V}(h:Bn xs=(0,some ks)):AC Tryz.prog 131 [Ce xs] [] (.tup [PD ks,.c (.int .i64 0)]) []:=by
 refine AC.of_calls fun S w κ vs hv=>?_
 obtain⟨v,vs',rfl,h1,rfl⟩:=hv
 obtain⟨A,cap,rfl,_,hc⟩:=Cv.1 h1
 refine (LT xs hz A cap S w hc).mono ?_
 rintro e w' ⟨hb,he⟩
 rw[h]at he
 obtain⟨Av,cv,kvs,rfl,h2,h3,h4⟩:=he
 exact⟨hb,_,rfl,fun T _ hT=>⟨[_,_],rfl,_,_,rfl,VF h2 (h3.weaken fun b hb _=>hT b hb) (h4.weaken fun b hb _=>hT b hb),_,_,rfl,⟨rfl,rfl⟩,rfl⟩⟩
theorem KD (xs:List CellD) (hz:G8 xs) {c:Int}(h:Bn xs=(c,none)):AC Tryz.prog 131 [Ce xs] [] (.tup [.nils,.c (.int .i64 c)]) []:=by
 refine AC.of_calls fun S w κ vs hv=>?_
 obtain⟨v,vs',rfl,h1,rfl⟩:=hv
 obtain⟨A,cap,rfl,_,hc⟩:=Cv.1 h1
 refine (LT xs hz A cap S w hc).mono ?_
 rintro e w' ⟨hb,he⟩
 rw[h]at he
 have he':e=.returned (.tuple #[.slice none 0 0,.int .i64 c]):=he
 subst he'
 exact⟨hb,_,rfl,fun T _ hT=>⟨[_,_],rfl,_,_,rfl,rfl,_,_,rfl,⟨rfl,rfl⟩,rfl⟩⟩
set_option maxRecDepth 10000
theorem WN (n lo hi:Int):AC Tryz.prog 60 [.c (.int .i64 n),.c (.int .i64 lo),.c (.int .i64 hi)] [] (.c (.bool (decide (n≥lo)&&decide (n≤hi)))) []:=by
 cases h1:decide (n≥lo)<;>cases h2:decide (n≤hi)
 all_goals
  refine A6 Tryz.func60 Tryz.ntmps60 ?_
  refine A0 (j2 h1 h2) ?_
  exact Am (A7 []) Tryz.results60
set_option maxRecDepth 10000
theorem E3 (ps:List CellD):AC Tryz.prog 67 [Ce ps] [] (.c (.int .i64 (Bn ps).1)) []:=by
 refine AC.of_calls fun S w κ vs hv=>?_
 obtain⟨v,vs',rfl,h1,rfl⟩:=hv
 obtain⟨A,cap,rfl,hcap,hc⟩:=Cv.1 h1
 refine (I7 ps A cap hcap S w hc).mono ?_
 rintro e w' ⟨rfl,hb⟩
 exact⟨hb,_,rfl,fun T _ _=>⟨rfl,rfl⟩⟩
theorem AC.of_mut {P:Program}{f:FuncId}{es:Nat}{e:TypeId}{rows rows':List (List C)}(hc:BA rows'=true)
  (h:∀(S:Nat→Prop) (w:World) (v:Value) (vrows:List (List Value)),Ag w S rows vrows []→(∀x∈vrows,x.length=es)→w.ownsRow 0 e es v rows.length vrows.flatten→Calls P f #[v] w fun e1 w'=>e1=.returned (.tuple #[])∧w.grownBy w' v.ownBlock∧∃vrows',Ag w' (fun _=>False) rows' vrows' []∧(∀x∈vrows',x.length=es)∧w'.ownsRow 0 e es v rows'.length vrows'.flatten) :
  AC P f [.own (0,0)] [((0,0),.row false es e rows)] (.tup []) [((0,0),.row false es e rows')]:=by
 intro Γ B7 hE hA
 obtain⟨v,vs,rfl,hv,rfl⟩:=hA
 obtain⟨_,o,ho,hk⟩:=hv
 obtain⟨_,rfl⟩:=Kj ho
 obtain⟨vrows,bs,h1,h2,h3,h4,h5,h6⟩:=hE.objs (0,0) _ rfl
 have hbs:=h2 rfl
 subst hbs
 have hkv:=hk (by simp)
 rw[←hkv]at h4 h5 h6
 refine (h _ _ _ _ h1 h3 h4).mono ?_
 rintro e1 w' ⟨rfl,hg,vrows',g1,g2,g3⟩
 have hob:∀b,b < Γ.w.heap.size→Γ.ow b=none→some b≠v.ownBlock:=by
  intro b _ hb hv
  have:=h6 b (by simp[←hv])
  rw[hb]at this
  cases this
 refine⟨.tuple #[],Γ.ow,Γ.κ,rfl,⟨⟨[],rfl,rfl⟩,?_,?_,hg.os,hg.tape,hg.output,hg.size,?_,fun i o o' _ _=>rfl⟩⟩
 ·intro i o hi
  obtain⟨rfl,rfl⟩:=Kj hi
  refine⟨vrows',[],Ag.closed hc g1,fun _=>rfl,g2,by rw[←hkv];exact g3,by rw[←hkv];exact h5,fun b hb=>h6 b (by rw[hkv];exact hb)⟩
 ·intro b i hbi
  obtain⟨k1,o,k2,k3⟩:=hE.own b i hbi
  obtain⟨rfl,_⟩:=Kj k2
  exact⟨Nat.lt_of_lt_of_le k1 hg.size,_,rfl,rfl⟩
 ·intro b hl hb
  exact⟨hg.block b hl (hob b hl hb),hb⟩
end
section
open Go.RowKit Go.Shelf
def TS:Ren where
 f:=fun x=>match x with
  | 6=>206
  | 8=>251
  | 9=>250
  | 19=>283
  | 20=>271
  | 21=>275
  | 22=>276
  | 23=>277
  | 24=>278
  | 25=>279
  | 26=>280
  | 27=>248
  | 28=>281
  | 29=>282
  | 36=>295
  | 31=>296
  | 32=>297
  | 37=>298
  | 38=>299
  | 39=>259
  | 41=>311
  |n=>n
 t:=fun x=>match x with
  | 27=>50
  | 29=>9
  | 3=>3
  | 32=>194
  | 26=>50
  | 0=>0
  | 44=>233
  | 46=>249
  | 4=>4
  | 36=>294
  | 35=>293
  | 41=>225
  | 5=>5
  | 9=>9
  | 53=>319
  | 57=>323
  | 63=>347
  | 64=>151
  |n=>n
 g:=fun n=>n
theorem Lh:SlLaysM.n6 Tryz.prog TS where
 mixed:=Bk
 f6:=⟨Tryz.f206.name,by kernel_rfl,by kernel_rfl⟩
 f8:=by kernel_rfl
 f9:=⟨Tryz.f250.name,by kernel_rfl,by kernel_rfl⟩
 f19:=by kernel_rfl
 f20:=by kernel_rfl
 f21:=⟨Tryz.f275.name,by kernel_rfl,by kernel_rfl⟩
 f22:=⟨Tryz.f276.name,by kernel_rfl,by kernel_rfl⟩
 f23:=⟨Tryz.f277.name,by kernel_rfl,by kernel_rfl⟩
 f24:=⟨Tryz.f278.name,by kernel_rfl,by kernel_rfl⟩
 f25:=⟨Tryz.f279.name,by kernel_rfl,by kernel_rfl⟩
 f26:=⟨Tryz.f280.name,by kernel_rfl,by kernel_rfl⟩
 f27:=⟨Tryz.f248.name,by kernel_rfl,by kernel_rfl⟩
 f28:=⟨Tryz.f281.name,by kernel_rfl,by kernel_rfl⟩
 f29:=⟨Tryz.f282.name,by kernel_rfl,by kernel_rfl⟩
 f31:=by kernel_rfl
 f32:=by kernel_rfl
 f36:=⟨Tryz.f295.name,by kernel_rfl,by kernel_rfl⟩
 f37:=⟨Tryz.f298.name,by kernel_rfl,by kernel_rfl⟩
 f38:=⟨Tryz.f299.name,by kernel_rfl,by kernel_rfl⟩
 f39:=⟨Tryz.f259.name,by kernel_rfl,by kernel_rfl⟩
 f41:=⟨Tryz.f311.name,by kernel_rfl,by kernel_rfl⟩
 t0:=Tryz.underlying0
 a0:=Tryz.isAgg0
 z0:=Tryz.sizeOf0
 v0:=Tryz.zeroValue0
 t3:=Tryz.underlying3
 a3:=Tryz.isAgg3
 z3:=Tryz.sizeOf3
 v3:=Tryz.zeroValue3
 t4:=Tryz.underlying4
 a4:=Tryz.isAgg4
 z4:=Tryz.sizeOf4
 v4:=Tryz.zeroValue4
 t5:=Tryz.underlying5
 a5:=Tryz.isAgg5
 z5:=Tryz.sizeOf5
 v5:=Tryz.zeroValue5
 t9:=Tryz.underlying9
 a9:=Tryz.isAgg9
 z9:=Tryz.sizeOf9
 v9:=Tryz.zeroValue9
 t26:=Tryz.underlying50
 a26:=Tryz.isAgg50
 z26:=Tryz.sizeOf50
 v26:=Tryz.zeroValue50
 t27:=Tryz.underlying50
 a27:=Tryz.isAgg50
 z27:=Tryz.sizeOf50
 v27:=Tryz.zeroValue50
 t29:=Tryz.underlying9
 a29:=Tryz.isAgg9
 z29:=Tryz.sizeOf9
 v29:=Tryz.zeroValue9
 t32:=Tryz.underlying194
 a32:=Tryz.isAgg194
 z32:=Tryz.sizeOf194
 v32:=Tryz.zeroValue194
 t35:=Tryz.underlying293
 a35:=Tryz.isAgg293
 z35:=Tryz.sizeOf293
 v35:=Tryz.zeroValue293
 t36:=Tryz.underlying294
 a36:=Tryz.isAgg294
 z36:=Tryz.sizeOf294
 v36:=Tryz.zeroValue294
 t41:=Tryz.underlying225
 a41:=Tryz.isAgg225
 z41:=Tryz.sizeOf225
 v41:=Tryz.zeroValue225
 t44:=Tryz.underlying233
 a44:=Tryz.isAgg233
 z44:=Tryz.sizeOf233
 v44:=Tryz.zeroValue233
 t46:=Tryz.underlying249
 a46:=Tryz.isAgg249
 z46:=Tryz.sizeOf249
 v46:=Tryz.zeroValue249
 t53:=Tryz.underlying319
 a53:=Tryz.isAgg319
 z53:=Tryz.sizeOf319
 v53:=Tryz.zeroValue319
 t57:=Tryz.underlying323
 a57:=Tryz.isAgg323
 z57:=Tryz.sizeOf323
 v57:=Tryz.zeroValue323
 t63:=Tryz.underlying347
 a63:=Tryz.isAgg347
 z63:=Tryz.sizeOf347
 v63:=Tryz.zeroValue347
 t64:=Tryz.underlying151
 a64:=Tryz.isAgg151
 z64:=Tryz.sizeOf151
 v64:=Tryz.zeroValue151
end
end Go.Proofs.YtllfmaflodbieaaGreatDoor
