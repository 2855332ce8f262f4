/- Texts of this proof: G09 L01 L02 L03 L04 L05 G10 G11 G14 R09. -/
import Derived.Test.YtllfmaflodbieaaGreatDoorKE35uG08
import Derived.Deep.RegionHeld3
import Derived.Deep.RegionWith
import Derived.Shelf.Strconv.Itoa4
set_option linter.all false
set_option maxHeartbeats 8000000
namespace Go.Proofs.YtllfmaflodbieaaGreatDoor
section
open Go.RowKit
def Yx (p:List V):List C:=[.osl ((DB p).enc.map CellD.cs)]
theorem a2i (l:List (List V)):((l.map Yx).all fun r=>r.length==1)=true:=by simp[Yx]
attribute [go_sem] a2i
set_option maxRecDepth 10000
theorem s9 {t:V}(b:Bool) (hw:t.wf) (hc:t.count≤200) (hd:t.depth≤20) :
  AC Tryz.prog 144 [Ce t.enc,.c (.bool b)] [] (.agg [.c (.int .i64 0),.own (0,0)]) [((0,0),.row true 1 36 ((EL b (t.paths [])).map Yx))]:=by
 have h0:((dec t.enc).1 != 0)=false:=by rw[SQ hw hc hd];rfl
 have hv:=Wv t.enc
 have hall:=a1f b t.count t [] (Nat.le_refl _) hc hw (by simp;omega)
 simp only[List.map_nil]at hall
 have hpl:=DI t []
 have hok:∀p∈EL b (t.paths []),(DB p).count≤500000:=by
  intro p hp
  simp only[EL,List.mem_map,List.mem_filter]at hp
  obtain⟨x,⟨hx,_⟩,rfl⟩:=hp
  obtain⟨h1,h2⟩:=v7 t [] trivial x hx
  rw[Mq]
  simp only[An]at h2
  omega
 have hl:(EL b (t.paths [])).length≤200:=Nat.le_trans (SY b _) (by omega)
 generalize EL b (t.paths [])=l at *
 have hb:decide ((l.length:Int)>200)=false:=by simp;omega
 refine A6 Tryz.func144 Tryz.ntmps144 ?_
 refine A0 trivial ?_
 refine w7 (A3 [] hv) trivial ?_
 refine A0 h0 ?_
 refine w9 (Aa [] hall) trivial ?_
 refine A0 hb ?_
 refine AG (κ:=Nat) (fun k=>⟨mkS 0 40 [(4,.ptr (4,0) 0),(6,.c (.sl (l.map Nd))),(7,.ptr (7,0) 0),(8,.c (.int .i64 k))],
   [((4,0),.box [.c (.int .i64 0),.nils]),((7,0),.box [.c (.int .i64 0),.own (99,0)]),((99,0),.row true 1 36 ((l.take k).map Yx))]⟩)
  (fun k=>k≤l.length) (fun k=>l.length-k) 0 (Nat.zero_le _) ?_ ?_
 ·exact Aq (As.of [((4,0),(4,0)),((7,0),(7,0))] []) hb
 ·intro k hk
  by_cases hlt:k<l.length
  ·have hd:decide ((k:Int)<(l.length:Int))=true:=by simpa using hlt
   have hr:Aj (l.map Nd) 1 k=true:=by simp[Aj,hlt,Nd]
   have hg:(l.map Nd)[k]? = some [.sl ((l[k].map V.enc).map AD)]:=by simp[hlt,Nd]
   have hcc:=hok _ (List.getElem_mem hlt)
   have hts:l.take (k+1)=l.take k++[l[k]]:=List.take_succ_eq_append_getElem hlt
   generalize l[k]=p at *
   have hw:=Ae (k:=k) (by omega)
   have h1:(l.take k).length+1≤1000000:=by rw[List.length_take];omega
   have ha:=Rl p hcc
   have hrow:(l.take k).map Yx++[[.osl ((V.mk 5 0 ByteArray.empty [] p).enc.map CellD.cs)]]=(l.take (k+1)).map Yx:=by rw[hts,List.map_append];rfl
   refine A0 (j3 hd hr hg) ?_
   refine w12 (IE [] ha) trivial ?_
   refine A0 (j2 h1 hw) ?_
   refine⟨k+1,by omega,by omega,?_⟩
   exact Aq (As.of [((4,0),(4,0)),((7,0),(7,0)),((99,0),(37,0))] []) hrow
  ·have hd:decide ((k:Int)<(l.length:Int))=false:=by simpa using hlt
   have hke:l.take k=l:=List.take_of_length_le (by omega)
   refine A0 hd ?_
   exact A9 (A8 [((0,0),(99,0))] []) Tryz.results144 hke
theorem Pk (k m:Int) (t y:ByteArray) (n:Int) (w:World) :
  Calls Tryz.prog 99 #[.agg #[.int .i64 k,.int .i64 m,.string t,.string y,.int .i64 n],.agg #[.int .i64 k,.int .i64 m,.string t,.string y,.int .i64 n]] w fun e w'=>e=.returned (.bool true)∧Below w.heap.size w w':=by
 go_enter Tryz.func99,Tryz.ntmps99
 go_wp2
 go_ret
 exact⟨rfl,((Below.refl _ _).alloc (Nat.le_refl _) _).alloc (by simp) _⟩
set_option maxRecDepth 100000 in
theorem NR (xs:List CellD) (hl:xs.length≤9223372036854775807) (A B:Option Addr) (ca cb:Nat) (S T:Nat→Prop) (w:World) (ha:AU w S A xs) (hb:AU w T B xs) :
  Calls Tryz.prog 50 #[.slice A xs.length ca,.slice B xs.length cb] w fun e w'=>e=.returned (.bool true)∧Below w.heap.size w w':=by
 have HA:=Lib.hid ha
 have HB:=Lib.hid hb
 clear ha hb
 go_enter Tryz.func50,Tryz.ntmps50
 go_wp2
 go_loopw [5] (fun ki wr=>∃(k:Nat),ki=.int .i64 k∧k≤xs.length∧Below w.heap.size w wr) (fun ki _=>xs.length-(intOf ki).toNat)
 case atStart=>exact⟨0,rfl,Nat.zero_le _,Below.refl _ _⟩
 case round =>
  obtain⟨k,rfl,hk,hbw⟩:=hrel
  have Hb:=Lib.hid hbw
  clear hbw
  by_cases hlt:k<xs.length
  ·obtain⟨b,off,rfl,_,hbl,c0,c1,c2,c3,c4⟩:=(HA.out.below Hb.out).at_ hlt
   obtain⟨b',off',rfl,_,hbl',d0,d1,d2,d3,d4⟩:=(HB.out.below Hb.out).at_ hlt
   have HE:=Lib.hid (Pk xs[k].kind xs[k].num xs[k].text xs[k].key xs[k].n)
   have hi0:(0:Int)≤(k:Int):=by omega
   have hi1:(k:Int)<(xs.length:Int):=by omega
   go_wp2
   go_region_with (go_at_call 99;refine (HE.out _).mono ?_;rintro e w1 ⟨rfl,hb1⟩)
   all_goals
    go_wp2
    go_roundw
    case rel=>exact⟨k+1,by go_num,by omega,(Hb.out.drew).trans (hb1.mono (by simpa using Hb.out.size))⟩
    case measure=>simp[intOf];omega
  ·go_wp2
   go_ret
   exact⟨rfl,Hb.out⟩
def IJ (k:Nat):List UInt8:=if _h:k=0 then [] else IJ (k / 10)++[UInt8.ofNat (48+k % 10)]
termination_by k
decreasing_by omega
theorem Tm {k:Nat}(h:0<k):IJ k=IJ (k / 10)++[UInt8.ofNat (48+k % 10)]:=by
 rw[IJ,dif_neg (by omega)]
theorem S6:IJ 0=[]:=by rw[IJ];rfl
def LH (k:Nat):ByteArray:=if k=0 then ⟨#[109,48]⟩ else ⟨(109::IJ k).toArray⟩
set_option maxRecDepth 100000 in
theorem IN (K:Nat) (hK:K≤4000000000) (w:World) :
  Calls Tryz.prog 100 #[.int .i64 K] w fun e w'=>e=.returned (.string (LH K))∧Below w.heap.size w w':=by
 go_enter Tryz.func100,Tryz.ntmps100
 by_cases h0:K=0
 ·subst h0
  go_wp2
  go_ret
  exact⟨rfl,Below.refl _ _⟩
 ·have h1:decide ((K:Int)≤0)=false:=by simp;omega
  go_wp2
  go_loopw [0,3] (fun kv ov wr=>∃(k:Nat) (out:ByteArray),kv=.int .i64 k∧ov=.string out∧IJ K=IJ k++out.data.toList∧out.size+k≤K∧Below w.heap.size w wr) (fun kv _ _=>(intOf kv).toNat)
  case atStart=>exact⟨K,⟨#[]⟩,rfl,rfl,by simp,by simp[ByteArray.size],Below.refl _ _⟩
  case round =>
   obtain⟨k,out,rfl,rfl,hd,hs,hb⟩:=hrel
   have Hd:=Lib.hid hd
   have Hb:=Lib.hid hb
   clear hd hb
   by_cases hk:0<k
   ·have hk1:decide (0<k)=true:=by simp;omega
    have hlt:k % 10<10:=Nat.mod_lt _ (by omega)
    have hconv:∀x:Int,(convert 29 9 (.slice (some ⟨wr.heap.size,0,none⟩) 1 1)).run Tryz.prog (wr.alloc (.cells #[.int .u8 x] 5))=.ok (.string (strOfNums [x])) (wr.alloc (.cells #[.int .u8 x] 5)):=fun x =>
     run_convert_bytes_arg (P:=Tryz.prog) _ 29 5 Tryz.underlying29 Tryz.underlying5 wr.heap.size 0 1 1 [x] rfl (fun i hi=>by
      have:i=0:=by omega
      subst this
      exact World.cell?_alloc_at _ _ _ _ rfl) 9 Tryz.underlying9
    have hss:∀x:Int,(strOfNums [x]).size=1:=fun x=>strOfNums_size _
    go_wp2
    all_goals go_roundw
    case rel =>
     refine⟨k / 10,_,by simp,rfl,?_,?_,Hb.out.alloc Hb.out.size _⟩
     ·rw[Hd.out,Tm hk,ByteArray.data_append,Array.toList_append,strOfNums_data]
      have:(48+(k:Int) % 10).toNat=48+k % 10:=by omega
      simp[this]
     ·rw[ByteArray.size_append,hss]
      omega
    case measure=>simp[intOf];omega
   ·have hk1:decide (0<k)=false:=by simp;omega
    go_wp2
    go_ret
    refine⟨?_,Hb.out⟩
    have hk0:k=0:=by omega
    have h2:=Hd.out
    rw[hk0,S6,List.nil_append]at h2
    have:LH K={ data:=#[109] }++out:=by
     unfold LH
     rw[if_neg h0,h2]
     apply ByteArray.ext
     rw[ByteArray.data_append]
     simp
    rw[this]
    rfl
def GY (k:Nat):CellD:=⟨(k:Nat),((k+1:Nat):Int),LH (k+2),LH (k+3),((k+4:Nat):Int)⟩
def BO (K n:Nat):List CellD:=(List.range n).map fun i=>GY (K+5*i)
theorem DG (K n:Nat):(BO K n).length=n:=by simp[BO]
theorem U5 (K n i:Nat) (h:i<(BO K n).length):(BO K n)[i]=GY (K+5*i):=by simp[BO]
theorem Ix (x:Int) (m:Nat) (hx:x=(m:Int)) (hm:m≤4000000000) (w:World) :
  Calls Tryz.prog 100 #[.int .i64 x] w fun e w'=>e=.returned (.string (LH m))∧Below w.heap.size w w':=by
 subst hx
 exact IN m hm w
set_option maxRecDepth 100000 in
theorem M3 (n cap K:Nat) (A:Option Addr) (hK:K+5*n≤3000000000) (S:Nat→Prop) (w:World) (hcs:AU w S A (BO K n)) :
  Calls Tryz.prog 52 #[.slice A n cap,.int .i64 K] w fun e w'=>e=.returned (.int .i64 (K+5*n:Nat))∧Below w.heap.size w w':=by
 have HC:=Lib.hid hcs
 clear hcs
 go_enter Tryz.func52,Tryz.ntmps52
 go_wp2
 go_loopw [1,5] (fun kv iv wr=>∃i M:Nat,iv=.int .i64 i∧i≤n∧kv=.int .i64 M∧M=K+5*i∧Below w.heap.size w wr) (fun _ iv _=>n-(intOf iv).toNat)
 case atStart=>exact⟨0,K,rfl,Nat.zero_le _,rfl,by omega,Below.refl _ _⟩
 case round =>
  obtain⟨i,M,rfl,hi,rfl,hM,hb⟩:=hrel
  have Hb:=Lib.hid hb
  have hMb:M≤3000000000:=by omega
  have HM:=Lib.hid hM
  clear hb hM
  by_cases hlt:i<n
  ·have hl2:i<(BO K n).length:=by rw[DG];exact hlt
   have hmk:(BO K n)[i]=GY M:=by rw[U5,←HM.out]
   have Hcr:=Lib.hid (HC.out.below Hb.out)
   obtain⟨b,off,rfl,_,hbl,c0,c1,c2,c3,c4⟩:=Hcr.out.at_ hl2
   rw[hmk]at c0 c1 c2 c3 c4
   simp only[GY]at c0 c1 c2 c3 c4
   rw[show ((M+1:Nat):Int)=(M:Int)+1 from by omega]at c1
   rw[show ((M+4:Nat):Int)=(M:Int)+1+1+1+1 from by omega]at c4
   have hi0:(0:Int)≤(i:Int):=by omega
   have hi1:(i:Int)<(n:Int):=by omega
   have Hmk:=Lib.hid hmk
   clear hmk
   go_wp2_with fail
   go_region_with (go_at_call 100;refine (Ix _ (M+2) (by omega) (by omega) _).mono ?_;rintro e w3 ⟨rfl,hb3⟩;have hcc3:∀bb o,bb<wr.heap.size→w3.cell? ⟨bb,o,none⟩=wr.cell? ⟨bb,o,none⟩:=fun bb o h=>hb3.cell (p:=⟨bb,o,none⟩) h;have Hb3:Hid (Below wr.heap.size wr w3):=⟨hb3.os,hb3.tape,hb3.output,hb3.size,hb3.block⟩;have hsz3:wr.heap.size≤w3.heap.size:=hb3.size;clear hb3)
   all_goals
    go_wp2_with fail
    have hbl3:b<w3.heap.size:=by omega
    go_region_with (go_at_call 100;refine (Ix _ (M+3) (by omega) (by omega) _).mono ?_;rintro e w4 ⟨rfl,hb4⟩;have hcc4:∀bb o,bb<w3.heap.size→w4.cell? ⟨bb,o,none⟩=w3.cell? ⟨bb,o,none⟩:=fun bb o h=>hb4.cell (p:=⟨bb,o,none⟩) h;have Hb4:Hid (Below w3.heap.size w3 w4):=⟨hb4.os,hb4.tape,hb4.output,hb4.size,hb4.block⟩;have hsz4:w3.heap.size≤w4.heap.size:=hb4.size;clear hb4)
    all_goals
     go_wp2
     go_roundw
     case rel=>exact⟨i+1,M+5,by go_num,by omega,by go_num,by have:=HM.out;omega,(Hb.out.trans (Hb3.out.mono Hb.out.size)).trans (Hb4.out.mono (by have:=Hb.out.size;omega))⟩
     case measure=>simp[intOf];omega
  ·have hin:i=n:=by omega
   have Hin:=Lib.hid hin
   clear hin
   go_wp2
   go_ret
   exact⟨by rw[HM.out,Hin.out];rfl,Hb.out⟩
theorem JM (m:Nat) (hm:m≤4000000000):AC Tryz.prog 100 [.c (.int .i64 m)] [] (.c (.str (LH m))) []:=by
 refine AC.of_calls fun S w κ vs hv=>?_
 obtain⟨v,vs',rfl,⟨rfl,_⟩,rfl⟩:=hv
 refine (IN m hm w).mono ?_
 rintro e w' ⟨rfl,hb⟩
 exact⟨hb,_,rfl,fun T _ _=>⟨rfl,rfl⟩⟩
theorem IC (n K:Nat) (hK:K+5*n≤3000000000):AC Tryz.prog 52 [Ce (BO K n),.c (.int .i64 K)] [] (.c (.int .i64 ((K+5*n:Nat):Int))) []:=by
 refine AC.of_calls fun S w κ vs hv=>?_
 obtain⟨v,vs',rfl,h1,v2,vs2,rfl,⟨rfl,_⟩,rfl⟩:=hv
 obtain⟨A,cap,rfl,_,hc⟩:=Cv.1 h1
 rw[DG]
 refine (M3 n cap K A hK S w hc).mono ?_
 rintro e w' ⟨rfl,hb⟩
 exact⟨hb,_,rfl,fun T _ _=>⟨rfl,rfl⟩⟩
theorem Kw (xs:List CellD) (hl:xs.length≤9223372036854775807):AC Tryz.prog 50 [Ce xs,Ce xs] [] (.c (.bool true)) []:=by
 refine AC.of_calls fun S w κ vs hv=>?_
 obtain⟨v,vs',rfl,h1,v2,vs2,rfl,h2,rfl⟩:=hv
 obtain⟨A,cap,rfl,_,hc⟩:=Cv.1 h1
 obtain⟨B,cap',rfl,_,hc'⟩:=Cv.1 h2
 refine (NR xs hl A B cap cap' S S w hc hc').mono ?_
 rintro e w' ⟨rfl,hb⟩
 exact⟨hb,_,rfl,fun T _ _=>⟨rfl,rfl⟩⟩
theorem S2 (K n:Nat):BO K (n+1)=BO K n++[GY (K+5*n)]:=by simp[BO,List.range_succ]
def Bx (K:Nat) (xs:List CellD) (k:Nat):List CellD:=BO K k++xs.drop k
theorem NY {K:Nat}{xs:List CellD}{k:Nat}(h:k≤xs.length):(Bx K xs k).length=xs.length:=by simp[Bx,DG];omega
theorem OU {K:Nat}{xs:List CellD}{k:Nat}(h:k<xs.length):(Bx K xs k)[k]? = some xs[k]:=by
 unfold Bx
 rw[List.getElem?_append_right (by rw[DG];omega),DG,List.getElem?_drop]
 simp[h]
theorem M8 {K:Nat}{xs:List CellD}{k:Nat}(h:k<xs.length):(Bx K xs k).set k (GY (K+5*k))=Bx K xs (k+1):=by
 unfold Bx
 have hd:(xs.drop k).set 0 (GY (K+5*k))=GY (K+5*k)::xs.drop (k+1):=by rw[List.drop_eq_getElem_cons h];rfl
 rw[List.set_append_right _ _ (by rw[DG];omega),DG,Nat.sub_self,hd,S2]
 simp
set_option maxRecDepth 10000
theorem IH (xs:List CellD) (K es:Nat) (e:TypeId) (hes:xs≠[]→es=5) (hK:K+5*xs.length≤3000000000) :
  AC Tryz.prog 51 [.own (0,0),.c (.int .i64 K)] [((0,0),.row false es e (xs.map CellD.cs))] (.c (.int .i64 ((K+5*xs.length:Nat):Int))) [((0,0),.row false es e ((BO K xs.length).map CellD.cs))]:=by
 have h0:(Bx K xs 0)=xs:=by simp[Bx,BO]
 refine A6 Tryz.func51 Tryz.ntmps51 ?_
 refine A0 trivial ?_
 refine AG (κ:=Nat) (fun k=>⟨mkS 0 50 [(0,.own (0,0)),(1,.c (.int .i64 ((K+5*k:Nat):Int))),(5,.c (.int .i64 k))],
   [((0,0),.row false es e ((Bx K xs k).map CellD.cs))]⟩)
  (fun k=>k≤xs.length) (fun k=>xs.length-k) 0 (Nat.zero_le _) ?_ ?_
 ·exact Aq (As.of [((0,0),(0,0))] []) h0
 ·intro k hk
  have hml:=NY (K:=K) hk
  by_cases hlt:k<xs.length
  ·have h5:es=5:=hes (by intro h;rw[h]at hlt;simp at hlt)
   subst h5
   have hd:decide ((k:Int)<(xs.length:Int))=true:=by simpa using hlt
   have hw:=Ae (k:=k) (by omega)
   have hat:=OU (K:=K) hlt
   have hnx:((Bx K xs k).map CellD.cs).set k (GY (K+5*k)).cs=(Bx K xs (k+1)).map CellD.cs:=by rw[←List.map_set,M8 hlt]
   have hKn:((K+5*(k+1):Nat):Int)=((K+5*k+5:Nat):Int):=by omega
   have hll:((Bx K xs k).map CellD.cs).length=xs.length:=by rw[List.length_map,hml]
   have hg0:((Bx K xs k).map CellD.cs)[k]? = some [.int .i64 xs[k].kind,.int .i64 xs[k].num,.str xs[k].text,.str xs[k].key,.int .i64 xs[k].n]:=by rw[List.getElem?_map,hat];rfl
   simp only[CellD.cs,GY]at hnx
   generalize (Bx K xs k).map CellD.cs=L at *
   have hr0:Aj L 5 k=true:=by unfold Aj;rw[Int.toNat_natCast,hg0];simp
   have hg1:∀a b c d e:C,(L.set k [a,b,c,d,e])[k]? = some [a,b,c,d,e]:=by intro a b c d e;rw[List.getElem?_set_self (by rw[hll];exact hlt)]
   have hr1:∀a b c d e:C,Aj (L.set k [a,b,c,d,e]) 5 k=true:=by intro a b c d e;unfold Aj;rw[Int.toNat_natCast,hg1];simp
   have hs:∀x y:List C,(L.set k x).set k y=L.set k y:=fun x y=>List.set_set ..
   generalize hM:K+5*k=M at *
   have w0:=Ae (k:=M) (by omega)
   have w1:=Ae (k:=M+1) (by omega)
   have w2:=Ae (k:=M+2) (by omega)
   have w3:=Ae (k:=M+3) (by omega)
   have w4:=Ae (k:=M+4) (by omega)
   (repeat (first | (with_reducible first | refine GU ?_ | refine Br ?_ | refine DT ?_ | refine DU ?_) | ((with_reducible apply F7);(iterate 2 (focus (first | (simp only[go_sem,Nat.reduceEqDiff,Nat.reduceAdd,Nat.reduceSub,Nat.reduceLeDiff,Nat.reduceMul,Nat.reduceBEq,Nat.reduceLT,Int.reduceToNat,reduceCtorEq,hll,hd,hr0,hg0,hr1,hg1,hs,w0,w1,w2,w3,w4];first | done | exact rfl | (and_intros<;>rfl)) | exact rfl | decide)))) | ((with_reducible refine GT ?_);dsimp only;try ((with_reducible apply Fb);(focus (simp only[go_sem];exact rfl));(focus decide))) | ((with_reducible first | refine Ha ?_ | refine F9 ?_ | refine DQ ?_);dsimp only) | ((with_reducible refine F8 ?_);dsimp only;simp only[if_true,if_false,Nat.reduceEqDiff]) | ((with_reducible apply Mi);(focus (simp only[go_sem,Nat.reduceBEq,Nat.reduceLT,hll,hd,hr0,hg0,hr1,hg1,hs,w0,w1,w2,w3,w4];exact rfl));dsimp only[cond_true,cond_false]) | ((with_reducible refine F5 ?_ ?_);(focus exact rfl))))
   refine w7 (A3 [] (JM (M+2) (by omega))) trivial ?_
   (repeat (first | (with_reducible first | refine GU ?_ | refine Br ?_ | refine DT ?_ | refine DU ?_) | ((with_reducible apply F7);(iterate 2 (focus (first | (simp only[go_sem,Nat.reduceEqDiff,Nat.reduceAdd,Nat.reduceSub,Nat.reduceLeDiff,Nat.reduceMul,Nat.reduceBEq,Nat.reduceLT,Int.reduceToNat,reduceCtorEq,hll,hd,hr0,hg0,hr1,hg1,hs,w0,w1,w2,w3,w4];first | done | exact rfl | (and_intros<;>rfl)) | exact rfl | decide)))) | ((with_reducible refine GT ?_);dsimp only;try ((with_reducible apply Fb);(focus (simp only[go_sem];exact rfl));(focus decide))) | ((with_reducible first | refine Ha ?_ | refine F9 ?_ | refine DQ ?_);dsimp only) | ((with_reducible refine F8 ?_);dsimp only;simp only[if_true,if_false,Nat.reduceEqDiff]) | ((with_reducible apply Mi);(focus (simp only[go_sem,Nat.reduceBEq,Nat.reduceLT,hll,hd,hr0,hg0,hr1,hg1,hs,w0,w1,w2,w3,w4];exact rfl));dsimp only[cond_true,cond_false]) | ((with_reducible refine F5 ?_ ?_);(focus exact rfl))))
   refine w7 (A3 [] (JM (M+3) (by omega))) trivial ?_
   (repeat (first | (with_reducible first | refine GU ?_ | refine Br ?_ | refine DT ?_ | refine DU ?_) | ((with_reducible apply F7);(iterate 2 (focus (first | (simp only[go_sem,Nat.reduceEqDiff,Nat.reduceAdd,Nat.reduceSub,Nat.reduceLeDiff,Nat.reduceMul,Nat.reduceBEq,Nat.reduceLT,Int.reduceToNat,reduceCtorEq,hll,hd,hr0,hg0,hr1,hg1,hs,w0,w1,w2,w3,w4,hw];first | done | exact rfl | (and_intros<;>rfl)) | exact rfl | decide)))) | ((with_reducible refine GT ?_);dsimp only;try ((with_reducible apply Fb);(focus (simp only[go_sem];exact rfl));(focus decide))) | ((with_reducible first | refine Ha ?_ | refine F9 ?_ | refine DQ ?_);dsimp only) | ((with_reducible refine F8 ?_);dsimp only;simp only[if_true,if_false,Nat.reduceEqDiff]) | ((with_reducible apply Mi);(focus (simp only[go_sem,Nat.reduceBEq,Nat.reduceLT,hll,hd,hr0,hg0,hr1,hg1,hs,w0,w1,w2,w3,w4,hw];exact rfl));dsimp only[cond_true,cond_false]) | ((with_reducible refine F5 ?_ ?_);(focus exact rfl))))
   refine⟨k+1,by omega,by omega,?_⟩
   exact Aq (As.of [((0,0),(0,0))] []) (j2 hnx hKn)
  ·have hd:decide ((k:Int)<(xs.length:Int))=false:=by simpa using hlt
   have hke:k=xs.length:=by omega
   have hall:Bx K xs k=BO K xs.length:=by rw[hke];simp[Bx]
   refine A0 (j2 hml hd) ?_
   subst hke
   exact A9 (A8 [((0,0),(0,0))] []) Tryz.results51 hall
def Xw (xs:List CellD):List C:=[.osl (xs.map CellD.cs)]
def J5 (w:World):List (List CellD)→List Value→List Nat→Prop
 | [],vs,bs=>vs=[]∧bs=[]
 |x::l,vs,bs=>∃v vs' b1 b2,vs=v::vs'∧bs=b1++b2∧CR w (fun _=>False) (.osl (x.map CellD.cs)) v b1∧J5 w l vs' b2
theorem J5.length {w:World}:∀{l:List (List CellD)}{vs:List Value}{bs:List Nat},J5 w l vs bs→vs.length=l.length
 | [],vs,bs,h=>by rw[h.1];rfl
 |x::l,vs,bs,h=>by
  obtain⟨v,vs',b1,b2,rfl,rfl,h1,h2⟩:=h
  simp[J5.length h2]
theorem J5.keep {w w':World}(hz:w.heap.size≤w'.heap.size):∀{l:List (List CellD)}{vs:List Value}{bs:List Nat},(∀b,b∈bs→b<w.heap.size→w'.heap[b]? = w.heap[b]?)→J5 w l vs bs→J5 w' l vs bs
 | [],vs,bs,_,h=>h
 |x::l,vs,bs,hb,h=>by
  obtain⟨v,vs',b1,b2,rfl,rfl,h1,h2⟩:=h
  exact⟨v,vs',b1,b2,rfl,rfl,CR.keep hz (fun b hf=>hf.elim) (fun b hb1=>hb b (by simp[hb1])) h1,J5.keep hz (fun b hb2=>hb b (by simp[hb2])) h2⟩
theorem J5.at_ {w:World}:∀{l:List (List CellD)}{vs:List Value}{bs:List Nat},J5 w l vs bs→bs.Nodup→∀{i:Nat}(hi:i<l.length),∃v bi,vs[i]? = some v∧CR w (fun _=>False) (.osl (l[i].map CellD.cs)) v bi∧(∀b,b∈bi→b∈bs) ∧
  ∀(w':World) (y:List CellD),w.heap.size≤w'.heap.size→CR w' (fun _=>False) (.osl (y.map CellD.cs)) v bi→(∀b,b∈bs→b ∉ bi→b<w.heap.size→w'.heap[b]? = w.heap[b]?)→J5 w' (l.set i y) vs bs
 | [],vs,bs,_,_,i,hi=>by simp at hi
 |x::l,vs,bs,h,hnd,0,_=>by
  obtain⟨v,vs',b1,b2,rfl,rfl,h1,h2⟩:=h
  refine⟨v,b1,rfl,h1,fun b hb=>by simp[hb],fun w' y hz hy hk=>⟨v,vs',b1,b2,rfl,rfl,hy,J5.keep hz (fun b hb=>hk b (by simp[hb]) ?_) h2⟩⟩
  intro hb1
  exact (List.nodup_append.1 hnd).2.2 b hb1 b hb rfl
 |x::l,vs,bs,h,hnd,i+1,hi=>by
  obtain⟨v,vs',b1,b2,rfl,rfl,h1,h2⟩:=h
  obtain⟨v1,bi,g1,g2,g3,g4⟩:=J5.at_ h2 (List.nodup_append.1 hnd).2.1 (i:=i) (by simpa using hi)
  refine⟨v1,bi,by simpa using g1,by simpa using g2,fun b hb=>by simp[g3 b hb],fun w' y hz hy hk=>⟨v,vs',b1,b2,rfl,rfl,CR.keep hz (fun b hf=>hf.elim) (fun b hb=>hk b (by simp[hb]) ?_) h1,g4 w' y hz hy fun b hb=>hk b (by simp[hb])⟩⟩
  intro hbi
  exact (List.nodup_append.1 hnd).2.2 b hb b (g3 b hbi) rfl
theorem Kj {p:Id×AO}{i:Id}{o:AO}(h:Mem.get [p] i=some o):i=p.1∧o=p.2:=by
 obtain⟨a,b⟩:=p
 simp only[Mem.get,List.lookup_cons,List.lookup_nil]at h
 split at h
 ·rename_i hq
  exact⟨by simpa using hq,(Option.some.inj h).symm⟩
 ·cases h
theorem Kx {w:World}{base:Nat}{e:TypeId}{es n:Nat}{v:Value}{cs:List Value}(h:w.ownsRow base e es v n cs) {b:Nat}(hb:v.ownBlock=some b):base≤b∧b<w.heap.size:=by
 rcases h.2 with⟨rfl,_⟩ | ⟨g,cap,cur,rfl,hg,hh,_⟩
 ·cases hb
 ·have:g=b:=by simpa [Value.ownBlock] using hb
  subst this
  exact⟨hg,(Array.getElem?_eq_some_iff.1 hh).1⟩
theorem NV {w:World}{base:Nat}{e:TypeId}{es n:Nat}{v:Value}{cs:List Value}(h:w.ownsRow base e es v n cs):w.ownsRow 0 e es v n cs:=by
 refine⟨h.1,?_⟩
 rcases h.2 with h | ⟨g,cap,cur,e1,hg,r⟩
 ·exact .inl h
 ·exact .inr ⟨g,cap,cur,e1,Nat.zero_le _,r⟩
theorem AC.of_row {P:Program}{f:FuncId}{args:List AV}{es:Nat}{e:TypeId}{rows:List (List C)}(hc:BA rows=true)
  (h:∀(S:Nat→Prop) (w:World) (κ:Id→Value) (B7:List Value),ARs w S [] κ args B7→Calls P f B7.toArray w fun e1 w'=>Below w.heap.size w w'∧∃v vrows,e1=.returned v∧Ag w' (fun _=>False) rows vrows []∧(∀x∈vrows,x.length=es)∧w'.ownsRow w.heap.size e es v rows.length vrows.flatten) :
  AC P f args [] (.own (0,0)) [((0,0),.row false es e rows)]:=by
 intro Γ B7 hE hA
 have how:∀b,Γ.ow b=none:=by
  intro b
  cases hb:Γ.ow b with
  |none=>rfl
  |some i=>obtain⟨_,o,h1,_⟩:=hE.own b i hb;simp[Mem.get]at h1
 refine (h _ _ _ _ hA).mono ?_
 rintro e1 w' ⟨hb,v,vrows,rfl,h1,h2,h3⟩
 refine⟨v,fun b=>if v.ownBlock=some b then some (0,0) else none,fun _=>v,rfl,⟨⟨OT h3,_,rfl,fun _=>rfl⟩,?_,?_,hb.os,hb.tape,hb.output,hb.size,?_,fun i o o' h=>(by simp[Mem.get]at h)⟩⟩
 ·intro i o hi
  obtain⟨rfl,rfl⟩:=Kj hi
  refine⟨vrows,[],Ag.closed hc h1,fun _=>rfl,h2,NV h3,?_,fun b hb=>?_⟩
  ·show (v.ownBlock.toList++[]).Nodup
   cases v.ownBlock<;>simp
  ·have hb':b∈v.ownBlock.toList++[]:=hb
   have:v.ownBlock=some b:=by simpa using hb'
   exact if_pos this
 ·intro b i hbi
  split at hbi
  ·rename_i hv
   refine⟨(Kx h3 hv).2,.row false es e rows,?_,rfl⟩
   rw[←Option.some.inj hbi]
   rfl
  ·cases hbi
 ·intro b hl _
  refine⟨hb.block b hl,?_⟩
  refine if_neg fun hv=>?_
  have:=(Kx h3 hv).1
  omega
theorem Eh (l:List CellD):BA (l.map CellD.cs)=true:=by
 induction l with
 |nil=>rfl
 |cons c l ih=>simp only[List.map_cons,BA,ih,Bool.and_true];rfl
attribute [go_sem] Eh AO.closed
end
section
open Go.RowKit Go.Shelf
def Rf:Ren where
 f:=fun x=>match x with
  | 173=>149
  | 246=>204
  | 283=>244
  | 284=>245
  | 285=>246
  | 286=>247
  | 129=>271
  | 317=>270
  | 318=>272
  | 319=>273
  | 320=>274
  | 337=>293
  | 338=>294
  |n=>n
 t:=fun x=>match x with
  | 2=>2
  | 3=>3
  | 9=>9
  | 4=>4
  | 171=>269
  | 0=>0
  | 53=>249
  | 37=>29
  | 5=>5
  | 173=>272
  | 212=>290
  | 51=>233
  | 20=>20
  | 213=>291
  | 46=>194
  | 232=>345
  | 233=>346
  |n=>n
 g:=fun x=>match x with
  | 17=>1
  | 18=>4
  | 19=>5
  |n=>n
theorem PB:LaysM.n173 Tryz.prog Rf where
 mixed:=Bk
 f129:=by kernel_rfl
 f173:=by kernel_rfl
 f246:=by kernel_rfl
 f283:=by kernel_rfl
 f284:=by kernel_rfl
 f285:=by kernel_rfl
 f286:=by kernel_rfl
 f317:=by kernel_rfl
 f318:=by kernel_rfl
 f319:=by kernel_rfl
 f320:=by kernel_rfl
 f337:=by kernel_rfl
 f338:=by kernel_rfl
 t0:=Tryz.underlying0
 a0:=Tryz.isAgg0
 z0:=Tryz.sizeOf0
 v0:=Tryz.zeroValue0
 t2:=Tryz.underlying2
 a2:=Tryz.isAgg2
 z2:=Tryz.sizeOf2
 v2:=Tryz.zeroValue2
 t3:=Tryz.underlying3
 a3:=Tryz.isAgg3
 z3:=Tryz.sizeOf3
 v3:=Tryz.zeroValue3
 t4:=Tryz.underlying4
 a4:=Tryz.isAgg4
 z4:=Tryz.sizeOf4
 v4:=Tryz.zeroValue4
 t5:=Tryz.underlying5
 a5:=Tryz.isAgg5
 z5:=Tryz.sizeOf5
 v5:=Tryz.zeroValue5
 t9:=Tryz.underlying9
 a9:=Tryz.isAgg9
 z9:=Tryz.sizeOf9
 v9:=Tryz.zeroValue9
 t20:=Tryz.underlying20
 a20:=Tryz.isAgg20
 z20:=Tryz.sizeOf20
 v20:=Tryz.zeroValue20
 t37:=Tryz.underlying29
 a37:=Tryz.isAgg29
 z37:=Tryz.sizeOf29
 v37:=Tryz.zeroValue29
 t46:=Tryz.underlying194
 a46:=Tryz.isAgg194
 z46:=Tryz.sizeOf194
 v46:=Tryz.zeroValue194
 t51:=Tryz.underlying233
 a51:=Tryz.isAgg233
 z51:=Tryz.sizeOf233
 v51:=Tryz.zeroValue233
 t53:=Tryz.underlying249
 a53:=Tryz.isAgg249
 z53:=Tryz.sizeOf249
 v53:=Tryz.zeroValue249
 t171:=Tryz.underlying269
 a171:=Tryz.isAgg269
 z171:=Tryz.sizeOf269
 v171:=Tryz.zeroValue269
 t173:=Tryz.underlying272
 a173:=Tryz.isAgg272
 z173:=Tryz.sizeOf272
 v173:=Tryz.zeroValue272
 t212:=Tryz.underlying290
 a212:=Tryz.isAgg290
 z212:=Tryz.sizeOf290
 v212:=Tryz.zeroValue290
 t213:=Tryz.underlying291
 a213:=Tryz.isAgg291
 z213:=Tryz.sizeOf291
 t232:=Tryz.underlying345
 a232:=Tryz.isAgg345
 z232:=Tryz.sizeOf345
 v232:=Tryz.zeroValue345
 t233:=Tryz.underlying346
 a233:=Tryz.isAgg346
 z233:=Tryz.sizeOf346
 v233:=Tryz.zeroValue346
 g17:=by kernel_rfl
 g18:=by kernel_rfl
 g19:=by kernel_rfl
 i0:=by kernel_rfl
 i2:=by kernel_rfl
 i3:=by kernel_rfl
 i4:=by kernel_rfl
 i5:=by kernel_rfl
 i9:=by kernel_rfl
 i20:=by kernel_rfl
 i37:=by kernel_rfl
 i46:=by kernel_rfl
 i51:=by kernel_rfl
 i53:=by kernel_rfl
 i171:=by kernel_rfl
 i173:=by kernel_rfl
 i212:=by kernel_rfl
 i232:=by kernel_rfl
 i233:=by kernel_rfl
 m17:=by kernel_rfl
 m18:=by kernel_rfl
 m19:=by kernel_rfl
def Kb (o : Obj) (b : Nat) (_ : Value) (_ : List (List Value)) (obj : Obj) : Prop := obj = o ∧ Tryz.prog.globalNamed "internal/strconv.uint64pow10" = some b ∧ ∀ w : World, w.heap[b]? = some obj → Lib.TabIs Tryz.prog w "internal/strconv.uint64pow10" .u64 Lib.pow10Tab
abbrev Kc (o:Obj):Mem:=[((8,0),.blk (Kb o) [])]
theorem AC.of_tab {o:Obj}{f:FuncId}{args:List AV}{res:AV}
  (h : ∀ (S : Nat → Prop) (w : World) (m : Mem) (κ : Id → Value) (B7 : List Value), Lib.TabIs Tryz.prog w "internal/strconv.uint64pow10" .u64 Lib.pow10Tab → ARs w S m κ args B7 → Calls Tryz.prog f B7.toArray w fun e w' => Below w.heap.size w w' ∧ ∃ v, e = .returned v ∧ ∀ T : Nat → Prop, (∀ b, S b → T b) → (∀ b, w.heap.size ≤ b → T b) → AR w' T m κ res v) : AC Tryz.prog f args (Kc o) res (Kc o) := by
 intro Γ B7 hE hA
 obtain⟨b,obj,vrows,h1,h2,h3,h4⟩:=hE.objs (8,0) _ rfl
 refine (h _ _ _ _ _ (h4.2.2 _ h2) hA).mono ?_
 rintro e w' ⟨hb,v,rfl,hv⟩
 have hlt:∀b i,Γ.ow b=some i→b < Γ.w.heap.size:=fun b i hbi=>(hE.own b i hbi).1
 have hnone:∀b,Γ.w.heap.size≤b→Γ.ow b=none:=by
  intro b hb
  cases hbi:Γ.ow b with
  |none=>rfl
  |some i=>have:=hlt b i hbi;omega
 refine⟨v,Γ.ow,Γ.κ,rfl,⟨hv _ (fun _ h=>h) (fun b hb=>⟨hnone b hb,.inr (.inl hb)⟩),?_,?_,hb.os,hb.tape,hb.output,hb.size,fun b hl ho=>⟨hb.block b hl,ho⟩,fun i o1 o2 _ _=>rfl⟩⟩
 ·intro i o' hi
  obtain⟨rfl,rfl⟩:i=(8,0)∧o'=.blk (Kb o) []:=by
   simp only[Mem.get,List.lookup_cons,List.lookup_nil]at hi
   by_cases hq:i=(8,0)
   ·subst hq
    simpa [eq_comm] using hi
   ·have:(i==((8,0):Id))=false:=by simpa using hq
    rw[this]at hi
    cases hi
  refine⟨b,obj,vrows,h1,(hb.block b (hlt b _ h1)).trans h2,?_,h4⟩
  simp only[Ag]at h3 ⊢
  exact h3
 ·intro b i hbi
  obtain⟨k1,o1,k2,k3⟩:=hE.own b i hbi
  exact⟨Nat.lt_of_lt_of_le k1 hb.size,o1,k2,k3⟩
def Fx (n:Int):ByteArray:=⟨(Lib.itoa n).toArray⟩
theorem Oj {o:Obj}(n:Int) (h0:-9223372036854775808≤n) (h1:n≤9223372036854775807):AC Tryz.prog 149 [.c (.int .i64 n),.c (.int .i64 10)] (Kc o) (.c (.str (Fx n))) (Kc o):=by
 refine AC.of_tab fun S w m κ B7 ht hv=>?_
 obtain⟨v,vs,rfl,⟨rfl,_⟩,u,us,rfl,⟨rfl,_⟩,rfl⟩:=hv
 refine (Any.strconv_FormatInt_10 PB n h0 h1 w ht).mono ?_
 rintro e w' ⟨rfl,k,os,rfl⟩
 exact⟨⟨rfl,rfl,rfl,by simp[Sort.grow],fun b hb=>Sort.heap_grow_old (w.drewN k) os hb⟩,_,rfl,fun T _ _=>⟨rfl,rfl⟩⟩
end
end Go.Proofs.YtllfmaflodbieaaGreatDoor
