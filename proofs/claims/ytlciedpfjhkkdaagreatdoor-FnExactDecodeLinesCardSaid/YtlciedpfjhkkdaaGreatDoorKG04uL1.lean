/- Texts of this proof: G04 G05 G06 G07 G08 L01 L02 L03 L04 L05. -/
import Derived.Test.YtlciedpfjhkkdaaGreatDoorKG01uG02
import Derived.WalkSpells
import Derived.WalkLawsBesides
import Derived.Deep.QuietTactic
import Derived.BigQuiet
import Derived.Deep.RegionHeld3
import Derived.Deep.RegionWith
set_option linter.all false
set_option maxHeartbeats 8000000
namespace Go.Proofs.YtlciedpfjhkkdaaGreatDoor
section
open Go.RowKit
section
variable {w:World} {S:Nat→Prop}
theorem Dk {c:CellD}{v:List Value}{bs:List Nat}:CRs w S c.cs v bs↔v=B4 c∧bs=[]:=by
 simp only[CellD.cs,CRs,CR,B4]
 constructor
 ·rintro⟨_,_,_,_,rfl,rfl,⟨rfl,rfl⟩,_,_,_,_,rfl,rfl,⟨rfl,rfl⟩,_,_,_,_,rfl,rfl,⟨rfl,rfl⟩,_,_,_,_,rfl,rfl,⟨rfl,rfl⟩,_,_,_,_,rfl,rfl,⟨rfl,rfl⟩,rfl,rfl⟩
  exact⟨rfl,rfl⟩
 ·rintro⟨rfl,rfl⟩
  exact⟨_,_,[],[],rfl,rfl,⟨rfl,rfl⟩,_,_,[],[],rfl,rfl,⟨rfl,rfl⟩,_,_,[],[],rfl,rfl,⟨rfl,rfl⟩,_,_,[],[],rfl,rfl,⟨rfl,rfl⟩,_,_,[],[],rfl,rfl,⟨rfl,rfl⟩,rfl,rfl⟩
theorem BW {α:Type}{f:α→List C}{g:α→List Value}(hf:∀{x v bs},CRs w S (f x) v bs↔v=g x∧bs=[]):∀{l:List α}{vs:List (List Value)}{bs:List Nat},Ab w S (l.map f) vs bs↔vs=l.map g∧bs=[]
 | [],vs,bs=>by simp[Ab]
 |x::l,vs,bs=>by
  simp only[List.map_cons,Ab]
  constructor
  ·rintro⟨v,vs',b1,b2,rfl,rfl,h1,h2⟩
   obtain⟨rfl,rfl⟩:=hf.1 h1
   obtain⟨rfl,rfl⟩:=(BW hf).1 h2
   exact⟨rfl,rfl⟩
  ·rintro⟨rfl,rfl⟩
   exact⟨_,_,[],[],rfl,rfl,hf.2 ⟨rfl,rfl⟩,(BW hf).2 ⟨rfl,rfl⟩⟩
theorem Row.resize {es n:Nat}{A:Option Addr}{xs:List (List Value)}(h:Row w S es A xs) (hl:∀x∈xs,x.length=n):Row w S n A xs:=by
 cases xs with
 |nil=>exact Row.nil
 |cons x xs =>
  have h1:=h.1 x (by simp)
  have h2:=hl x (by simp)
  rw[←h2,h1]
  exact h
theorem O9 {α:Type}{f:α→List C}{g:α→List Value}{n:Nat}(hf:∀{x v bs},CRs w S (f x) v bs↔v=g x∧bs=[]) (hg:∀x,(g x).length=n) {l:List α}{v:Value} :
  CR w S (.sl (l.map f)) v []↔∃A cap,v=.slice A l.length cap∧l.length≤cap∧Row w S n A (l.map g):=by
 simp only[CR]
 constructor
 ·rintro⟨es,A,cap,vrows,rfl,h2,_,h4,h5,_⟩
  obtain⟨rfl,_⟩:=(BW hf).1 h5
  rw[List.length_map]at h2 ⊢
  exact⟨A,cap,rfl,h2,h4.resize (by simp[hg])⟩
 ·rintro⟨A,cap,rfl,h2,h4⟩
  exact⟨n,A,cap,l.map g,by rw[List.length_map],by rw[List.length_map];exact h2,trivial,h4,(BW hf).2 ⟨rfl,rfl⟩,trivial⟩
theorem QR (c:CellD):(B4 c).length=5:=rfl
theorem IW {xs:List CellD}{v:Value}:CR w S (.sl (xs.map CellD.cs)) v []↔∃A cap,v=.slice A xs.length cap∧xs.length≤cap∧C0 w S A xs:=O9 Dk QR
theorem O5 {s:ByteArray}{v:List Value}{bs:List Nat}:CRs w S (A8 s) v bs↔v=[.string s]∧bs=[]:=by
 simp only[A8,CRs,CR]
 constructor
 ·rintro⟨_,_,_,_,rfl,rfl,⟨rfl,rfl⟩,rfl,rfl⟩
  exact⟨rfl,rfl⟩
 ·rintro⟨rfl,rfl⟩
  exact⟨_,_,[],[],rfl,rfl,⟨rfl,rfl⟩,rfl,rfl⟩
theorem RS {xs:List ByteArray}{v:Value}:CR w S (.sl (xs.map A8)) v []↔∃A cap,v=.slice A xs.length cap∧xs.length≤cap∧LI w S A xs:=O9 (f:=A8) (g:=fun k=>[.string k]) (n:=1) O5 fun _=>rfl
mutual
theorem Q8:∀{t:V}{vs:List Value},Cw w S t vs→CRs w S t.cs vs []
 | .mk kind num text keys kids,vs,h=>by
  simp only[Cw]at h
  obtain⟨Ak,ck,Av,cv,kvs,rfl,h2,h3,h4,h5,h6⟩:=h
  have h7:=Is h6
  have hl:=h7.length
  simp only[Ig,List.length_map]at hl
  simp only[V.cs,CRs]
  refine⟨_,_,[],[],rfl,rfl,⟨rfl,rfl⟩,_,_,[],[],rfl,rfl,⟨rfl,rfl⟩,_,_,[],[],rfl,rfl,⟨rfl,rfl⟩,_,_,[],[],rfl,rfl,RS.2 ⟨_,_,rfl,h2,h4⟩,_,_,[],[],rfl,rfl,?_,rfl,rfl⟩
  simp only[CR]
  exact⟨5,Av,cv,kvs,by rw[Ig,List.length_map],by rw[Ig,List.length_map];exact h3,trivial,h5,h7,trivial⟩
theorem Is:∀{ts:List V}{vs:List (List Value)},AM w S ts vs→Ab w S (csL ts) vs []
 | [],vs,h=>by
  simp only[AM]at h
  subst h
  exact⟨rfl,rfl⟩
 |t::ts,vs,h=>by
  simp only[AM]at h
  obtain⟨v,vs',rfl,h1,h2⟩:=h
  exact⟨_,_,[],[],rfl,rfl,Q8 h1,Is h2⟩
end
end
theorem AC.of_calls {P:Program}{f:FuncId}{args:List AV}{res:AV}
  (h:∀(S:Nat→Prop) (w:World) (κ:Id→Value) (B4:List Value),ARs w S [] κ args B4→Calls P f B4.toArray w fun e w'=>Below w.heap.size w w'∧∃v,e=.returned v∧∀T:Nat→Prop,(∀b,S b→T b)→(∀b,w.heap.size≤b→T b)→AR w' T [] κ res v):AC P f args [] res []:=by
 intro Γ B4 hE hA
 have how:∀b,Γ.ow b=none:=by
  intro b
  cases hb:Γ.ow b with
  |none=>rfl
  |some i=>obtain⟨_,o,h1,_⟩:=hE.own b i hb;simp[Mem.get]at h1
 refine (h _ _ _ _ hA).mono ?_
 rintro e w' ⟨hb,v,rfl,hv⟩
 refine⟨v,Γ.ow,Γ.κ,rfl,⟨hv _ (fun _ h=>h) (fun b hb=>⟨how b,.inr (.inl hb)⟩),fun i o h=>(by simp[Mem.get]at h),fun b i h=>(by rw[how b]at h;cases h),hb.os,hb.tape,hb.output,hb.size,fun b hl _=>⟨hb.block b hl,how b⟩,fun i o o' h=>(by simp[Mem.get]at h)⟩⟩
def noV:AV:=.agg [.c (.int .i64 0),.c (.int .i64 0),.c (.str ByteArray.empty),.nils,.nils]
theorem Gv:noV=.agg [.c (.int .i64 0),.c (.int .i64 0),.c (.str ByteArray.empty),.nils,.nils]:=rfl
end
section
open Go.RowKit
def QH (p:List V×V):List C:=[.osl ((CX p.1).enc.map CellD.cs)]
theorem OH (l:List (List V×V)):((l.map QH).all fun r=>r.length==1)=true:=by simp[QH]
attribute [go_sem] OH
set_option maxRecDepth 10000
theorem Jt (l:List V):(CX l).count=Am l+1:=rfl
def IN (n:Int):List C:=[.int .i64 n]
def An (xs:List CellD):List C:=[.sl (xs.map CellD.cs)]
theorem QV (l:List Int):((l.map IN).all fun r=>r.length==1)=true:=by simp[IN]
theorem FN (l:List (List CellD)):((l.map An).all fun r=>r.length==1)=true:=by simp[An]
theorem T4 (n:Int):Bu (IN n)=IN n:=rfl
theorem SU (xs:List CellD):Bu (An xs)=An xs:=rfl
theorem LF (l:List Int):AX (l.map IN)=l.map IN:=Cg _ T4 l
theorem L0 (l:List (List CellD)):AX (l.map An)=l.map An:=Cg _ SU l
attribute [go_sem] QV FN LF L0 IN An
set_option maxRecDepth 10000
theorem Lh (n:Int):AC Tryz.prog 100 [.c (.int .i64 n)] [] (.c (.sl ((FT n).enc.map CellD.cs))) []:=by
 have he:(FT n).enc.map CellD.cs=[[.int .i64 3,.int .i64 n,.str ByteArray.empty,.str ByteArray.empty,.int .i64 0]]:=rfl
 rw[he]
 refine A7 Tryz.func100 Tryz.ntmps100 ?_
 refine A0 trivial ?_
 exact Ad (Ac [] [(5,0)]) Tryz.results100 he
theorem Lf (s:ByteArray):AC Tryz.prog 76 [.c (.str s)] [] (.c (.sl ((J7 s).enc.map CellD.cs))) []:=by
 have he:(J7 s).enc.map CellD.cs=[[.int .i64 4,.int .i64 0,.str s,.str ByteArray.empty,.int .i64 0]]:=rfl
 rw[he]
 refine A7 Tryz.func76 Tryz.ntmps76 ?_
 refine A0 trivial ?_
 exact Ad (Ac [] [(5,0)]) Tryz.results76 he
set_option maxRecDepth 10000
theorem MF (ps:List V) (hc:(CX ps).count≤500000):AC Tryz.prog 98 [.c (.sl ((ps.map V.enc).map An))] [] (.own (0,0)) [((0,0),.row false 5 94 ((CX ps).enc.map CellD.cs))]:=by
 have hcl:=BH ps
 have hcc:=Jt ps
 obtain⟨R,hR⟩:∃R:Nat→List CellD,∀k,R k=(CX ps).enc.take (kp (CX ps).kids k):=⟨_,fun _=>rfl⟩
 have h0:(R 0).map CellD.cs=[[.int .i64 5,.int .i64 0,.str ByteArray.empty,.str ByteArray.empty,.int .i64 ps.length]]:=by
  rw[hR,E7];rfl
 refine A7 Tryz.func98 Tryz.ntmps98 ?_
 refine A0 trivial ?_
 refine AH (κ:=Nat) (fun k=>⟨mkS 0 22 [(0,.c (.sl ((ps.map V.enc).map An))),(3,.own (3,0)),(4,.c (.int .i64 k))],
   [((3,0),.row false 5 94 ((R k).map CellD.cs))]⟩)
  (fun k=>k≤ps.length) (fun k=>ps.length-k) 0 (Nat.zero_le _) ?_ ?_
 ·exact Ao (Ay.of [((3,0),(8,0))] []) h0
 ·intro k hk
  by_cases hlt:k<ps.length
  ·have hd:decide ((k:Int)<(ps.length:Int))=true:=by simpa using hlt
   have hw1:=Ae (k:=k) (by omega)
   have hr1:Aj ((ps.map V.enc).map An) 1 k=true:=by simp[Aj,hlt,An]
   have hg1:((ps.map V.enc).map An)[k]? = some [.sl (ps[k].enc.map CellD.cs)]:=by simp[hlt,An]
   have hts:=DM (CX ps) (i:=k) hlt
   have h56:(CX ps).kind≠6:=show (5:Int)≠6 by decide
   rw[ID h56,←hR,←hR]at hts
   have htl:=Ed (CX ps) k
   have hkl:=NS (CX ps) k
   have hm:=CM (List.getElem_mem hlt)
   have hel:=D8 ps[k]
   have h1:(R k).length+ps[k].enc.length≤1000000:=by rw[hR,htl,hel];omega
   have hn:(R k).map CellD.cs++ps[k].enc.map CellD.cs=(R (k+1)).map CellD.cs:=by
    rw[hts,List.map_append];rfl
   generalize ps[k]=u at *
   refine A0 (j5 hd hr1 hg1 h1 hw1) ?_
   refine⟨k+1,by omega,by omega,?_⟩
   exact Ao (Ay.of [((3,0),(20,0))] []) hn
  ·have hd:decide ((k:Int)<(ps.length:Int))=false:=by simpa using hlt
   have hke:k=ps.length:=by omega
   have hall:R k=(V.mk 5 0 ByteArray.empty [] ps).enc:=by rw[hR,hke];exact Ec (CX ps)
   refine A0 hd ?_
   exact Ad (Ac [((0,0),(3,0))] []) Tryz.results98 hall
def keep (b:Bool) (p:List V×V):Bool:=!b||p.2.kids.isEmpty
def Jn (p:List V):List C:=[.sl ((p.map V.enc).map An)]
theorem QK (l:List (List V)):((l.map Jn).all fun r=>r.length==1)=true:=by simp[Jn]
theorem Sk (p:List V):Bu (Jn p)=Jn p:=rfl
theorem LP (l:List (List V)):AX (l.map Jn)=l.map Jn:=Cg _ Sk l
attribute [go_sem] QK LP
set_option maxRecDepth 10000
theorem LZ (k m:Int) (t y:ByteArray) (n:Int) (w:World) :
  Calls Tryz.prog 83 #[.agg #[.int .i64 k,.int .i64 m,.string t,.string y,.int .i64 n],.agg #[.int .i64 k,.int .i64 m,.string t,.string y,.int .i64 n]] w fun e w'=>e=.returned (.bool true)∧Below w.heap.size w w':=by
 go_enter Tryz.func83,Tryz.ntmps83
 go_wp2
 go_ret
 exact⟨rfl,((Below.refl _ _).alloc (Nat.le_refl _) _).alloc (by simp) _⟩
set_option maxRecDepth 100000 in
theorem Kp (xs:List CellD) (hl:xs.length≤9223372036854775807) (A B:Option Addr) (ca cb:Nat) (S T:Nat→Prop) (w:World) (ha:C0 w S A xs) (hb:C0 w T B xs) :
  Calls Tryz.prog 41 #[.slice A xs.length ca,.slice B xs.length cb] w fun e w'=>e=.returned (.bool true)∧Below w.heap.size w w':=by
 have HA:=Lib.hid ha
 have HB:=Lib.hid hb
 clear ha hb
 go_enter Tryz.func41,Tryz.ntmps41
 go_wp2
 go_loopw [5] (fun ki wr=>∃(k:Nat),ki=.int .i64 k∧k≤xs.length∧Below w.heap.size w wr) (fun ki _=>xs.length-(intOf ki).toNat)
 case atStart=>exact⟨0,rfl,Nat.zero_le _,Below.refl _ _⟩
 case round =>
  obtain⟨k,rfl,hk,hbw⟩:=hrel
  have Hb:=Lib.hid hbw
  clear hbw
  by_cases hlt:k<xs.length
  ·obtain⟨b,off,rfl,_,hbl,c0,c1,c2,c3,c4⟩:=(HA.out.below Hb.out).at_ hlt
   obtain⟨b',off',rfl,_,hbl',d0,d1,d2,d3,d4⟩:=(HB.out.below Hb.out).at_ hlt
   have HE:=Lib.hid (LZ xs[k].kind xs[k].num xs[k].text xs[k].key xs[k].n)
   have hi0:(0:Int)≤(k:Int):=by omega
   have hi1:(k:Int)<(xs.length:Int):=by omega
   go_wp2
   go_region_with (go_at_call 83;refine (HE.out _).mono ?_;rintro e w1 ⟨rfl,hb1⟩)
   all_goals
    go_wp2
    go_roundw
    case rel=>exact⟨k+1,by go_num,by omega,(Hb.out.drew).trans (hb1.mono (by simpa using Hb.out.size))⟩
    case measure=>simp[intOf];omega
  ·go_wp2
   go_ret
   exact⟨rfl,Hb.out⟩
def Gj (k:Nat):List UInt8:=if _h:k=0 then [] else Gj (k / 10)++[UInt8.ofNat (48+k % 10)]
termination_by k
decreasing_by omega
theorem PB {k:Nat}(h:0<k):Gj k=Gj (k / 10)++[UInt8.ofNat (48+k % 10)]:=by
 rw[Gj,dif_neg (by omega)]
theorem MU:Gj 0=[]:=by rw[Gj];rfl
def IY (k:Nat):ByteArray:=if k=0 then ⟨#[109,48]⟩ else ⟨(109::Gj k).toArray⟩
set_option maxRecDepth 100000 in
theorem Ge (K:Nat) (hK:K≤4000000000) (w:World) :
  Calls Tryz.prog 84 #[.int .i64 K] w fun e w'=>e=.returned (.string (IY K))∧Below w.heap.size w w':=by
 go_enter Tryz.func84,Tryz.ntmps84
 by_cases h0:K=0
 ·subst h0
  go_wp2
  go_ret
  exact⟨rfl,Below.refl _ _⟩
 ·have h1:decide ((K:Int)≤0)=false:=by simp;omega
  go_wp2
  go_loopw [0,3] (fun kv ov wr=>∃(k:Nat) (out:ByteArray),kv=.int .i64 k∧ov=.string out∧Gj K=Gj k++out.data.toList∧out.size+k≤K∧Below w.heap.size w wr) (fun kv _ _=>(intOf kv).toNat)
  case atStart=>exact⟨K,⟨#[]⟩,rfl,rfl,by simp,by simp[ByteArray.size],Below.refl _ _⟩
  case round =>
   obtain⟨k,out,rfl,rfl,hd,hs,hb⟩:=hrel
   have Hd:=Lib.hid hd
   have Hb:=Lib.hid hb
   clear hd hb
   by_cases hk:0<k
   ·have hk1:decide (0<k)=true:=by simp;omega
    have hlt:k % 10<10:=Nat.mod_lt _ (by omega)
    have hconv:∀x:Int,(convert 29 9 (.slice (some ⟨wr.heap.size,0,none⟩) 1 1)).run Tryz.prog (wr.alloc (.cells #[.int .u8 x] 5))=.ok (.string (strOfNums [x])) (wr.alloc (.cells #[.int .u8 x] 5)):=fun x =>
     run_convert_bytes_arg (P:=Tryz.prog) _ 29 5 Tryz.underlying29 Tryz.underlying5 wr.heap.size 0 1 1 [x] rfl (fun i hi=>by
      have:i=0:=by omega
      subst this
      exact World.cell?_alloc_at _ _ _ _ rfl) 9 Tryz.underlying9
    have hss:∀x:Int,(strOfNums [x]).size=1:=fun x=>strOfNums_size _
    go_wp2
    all_goals go_roundw
    case rel =>
     refine⟨k / 10,_,by simp,rfl,?_,?_,Hb.out.alloc Hb.out.size _⟩
     ·rw[Hd.out,PB hk,ByteArray.data_append,Array.toList_append,strOfNums_data]
      have:(48+(k:Int) % 10).toNat=48+k % 10:=by omega
      simp[this]
     ·rw[ByteArray.size_append,hss]
      omega
    case measure=>simp[intOf];omega
   ·have hk1:decide (0<k)=false:=by simp;omega
    go_wp2
    go_ret
    refine⟨?_,Hb.out⟩
    have hk0:k=0:=by omega
    have h2:=Hd.out
    rw[hk0,MU,List.nil_append]at h2
    have:IY K={ data:=#[109] }++out:=by
     unfold IY
     rw[if_neg h0,h2]
     apply ByteArray.ext
     rw[ByteArray.data_append]
     simp
    rw[this]
    rfl
def Fb (k:Nat):CellD:=⟨(k:Nat),((k+1:Nat):Int),IY (k+2),IY (k+3),((k+4:Nat):Int)⟩
def BA (K n:Nat):List CellD:=(List.range n).map fun i=>Fb (K+5*i)
theorem CD (K n:Nat):(BA K n).length=n:=by simp[BA]
theorem OG (K n i:Nat) (h:i<(BA K n).length):(BA K n)[i]=Fb (K+5*i):=by simp[BA]
theorem Gf (x:Int) (m:Nat) (hx:x=(m:Int)) (hm:m≤4000000000) (w:World) :
  Calls Tryz.prog 84 #[.int .i64 x] w fun e w'=>e=.returned (.string (IY m))∧Below w.heap.size w w':=by
 subst hx
 exact Ge m hm w
set_option maxRecDepth 100000 in
theorem J6 (n cap K:Nat) (A:Option Addr) (hK:K+5*n≤3000000000) (S:Nat→Prop) (w:World) (hcs:C0 w S A (BA K n)) :
  Calls Tryz.prog 43 #[.slice A n cap,.int .i64 K] w fun e w'=>e=.returned (.int .i64 (K+5*n:Nat))∧Below w.heap.size w w':=by
 have HC:=Lib.hid hcs
 clear hcs
 go_enter Tryz.func43,Tryz.ntmps43
 go_wp2
 go_loopw [1,5] (fun kv iv wr=>∃i M:Nat,iv=.int .i64 i∧i≤n∧kv=.int .i64 M∧M=K+5*i∧Below w.heap.size w wr) (fun _ iv _=>n-(intOf iv).toNat)
 case atStart=>exact⟨0,K,rfl,Nat.zero_le _,rfl,by omega,Below.refl _ _⟩
 case round =>
  obtain⟨i,M,rfl,hi,rfl,hM,hb⟩:=hrel
  have Hb:=Lib.hid hb
  have hMb:M≤3000000000:=by omega
  have HM:=Lib.hid hM
  clear hb hM
  by_cases hlt:i<n
  ·have hl2:i<(BA K n).length:=by rw[CD];exact hlt
   have hmk:(BA K n)[i]=Fb M:=by rw[OG,←HM.out]
   have Hcr:=Lib.hid (HC.out.below Hb.out)
   obtain⟨b,off,rfl,_,hbl,c0,c1,c2,c3,c4⟩:=Hcr.out.at_ hl2
   rw[hmk]at c0 c1 c2 c3 c4
   simp only[Fb]at c0 c1 c2 c3 c4
   rw[show ((M+1:Nat):Int)=(M:Int)+1 from by omega]at c1
   rw[show ((M+4:Nat):Int)=(M:Int)+1+1+1+1 from by omega]at c4
   have hi0:(0:Int)≤(i:Int):=by omega
   have hi1:(i:Int)<(n:Int):=by omega
   have Hmk:=Lib.hid hmk
   clear hmk
   go_wp2_with fail
   go_region_with (go_at_call 84;refine (Gf _ (M+2) (by omega) (by omega) _).mono ?_;rintro e w3 ⟨rfl,hb3⟩;have hcc3:∀bb o,bb<wr.heap.size→w3.cell? ⟨bb,o,none⟩=wr.cell? ⟨bb,o,none⟩:=fun bb o h=>hb3.cell (p:=⟨bb,o,none⟩) h;have Hb3:Hid (Below wr.heap.size wr w3):=⟨hb3.os,hb3.tape,hb3.output,hb3.size,hb3.block⟩;have hsz3:wr.heap.size≤w3.heap.size:=hb3.size;clear hb3)
   all_goals
    go_wp2_with fail
    have hbl3:b<w3.heap.size:=by omega
    go_region_with (go_at_call 84;refine (Gf _ (M+3) (by omega) (by omega) _).mono ?_;rintro e w4 ⟨rfl,hb4⟩;have hcc4:∀bb o,bb<w3.heap.size→w4.cell? ⟨bb,o,none⟩=w3.cell? ⟨bb,o,none⟩:=fun bb o h=>hb4.cell (p:=⟨bb,o,none⟩) h;have Hb4:Hid (Below w3.heap.size w3 w4):=⟨hb4.os,hb4.tape,hb4.output,hb4.size,hb4.block⟩;have hsz4:w3.heap.size≤w4.heap.size:=hb4.size;clear hb4)
    all_goals
     go_wp2
     go_roundw
     case rel=>exact⟨i+1,M+5,by go_num,by omega,by go_num,by have:=HM.out;omega,(Hb.out.trans (Hb3.out.mono Hb.out.size)).trans (Hb4.out.mono (by have:=Hb.out.size;omega))⟩
     case measure=>simp[intOf];omega
  ·have hin:i=n:=by omega
   have Hin:=Lib.hid hin
   clear hin
   go_wp2
   go_ret
   exact⟨by rw[HM.out,Hin.out];rfl,Hb.out⟩
end
end Go.Proofs.YtlciedpfjhkkdaaGreatDoor
