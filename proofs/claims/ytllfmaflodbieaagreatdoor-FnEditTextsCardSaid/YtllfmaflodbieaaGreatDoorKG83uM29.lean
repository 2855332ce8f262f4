/- Texts of this proof: G83 M29. -/
import Derived.Test.YtllfmaflodbieaaGreatDoorKG80uG82
set_option linter.all false
set_option maxHeartbeats 8000000
namespace Go.Proofs.YtllfmaflodbieaaGreatDoor
open Go.RowKit
set_option maxRecDepth 10000
def Py (n:Nat):List CellD:=List.replicate n ⟨5,0,ByteArray.empty,ByteArray.empty,1⟩++[⟨5,0,ByteArray.empty,ByteArray.empty,0⟩]
theorem XT (n:Nat) (hn:n≤1000):AC Tryz.prog 103 [.c (.int .i64 ((n+1:Nat):Int))] [] (.own (0,0)) [((0,0),.row false 5 115 ((Py n).map CellD.cs))]:=by
 have hz:(List.replicate 0 (⟨5,0,ByteArray.empty,ByteArray.empty,1⟩:CellD)).map CellD.cs=[]:=rfl
 refine A5 Tryz.func103 Tryz.ntmps103 ?_
 refine A3 q9 ?_
 refine AZ (κ:=Nat×Nat) (fun x=>⟨mkS 0 17 [(0,.c (.int .i64 ((x.1+1:Nat):Int))),(3,.own (99,0))],[((99,0),.row false 5 115 ((List.replicate x.2 (⟨5,0,ByteArray.empty,ByteArray.empty,1⟩:CellD)).map CellD.cs))]⟩)
  (fun x=>x.1+x.2=n) (fun x=>x.1) (n,0) rfl ?_ ?_
 ·exact As (AH.of [((99,0),(4,0))] []) hz
 ·rintro⟨m,k⟩ hmk
  dsimp only at hmk ⊢
  have hol:k+1≤1000000:=by omega
  cases m with
  |zero =>
   have hk:k=n:=by omega
   have hd:decide (((0+1:Nat):Int)>1)=false:=rfl
   have hrow:(List.replicate k (⟨5,0,ByteArray.empty,ByteArray.empty,1⟩:CellD)).map CellD.cs++[[.int .i64 5,.int .i64 0,.str ByteArray.empty,.str ByteArray.empty,.int .i64 0]]=(Py n).map CellD.cs:=by
    rw[hk];unfold Py;rw[List.map_append];rfl
   refine A3 (j4 hd hol hrow @List.length_replicate.{0}) ?_
   exact Ab (Aa [((0,0),(16,0))] []) Tryz.results103 hrow
  |succ m =>
   have hd:decide (((m+1+1:Nat):Int)>1)=true:=decide_eq_true (by omega)
   have hw:IntKind.i64.wrap (((m+1+1:Nat):Int)-1)=((m+1:Nat):Int):=EH (by omega) (by omega)
   have hrow:(List.replicate k (⟨5,0,ByteArray.empty,ByteArray.empty,1⟩:CellD)).map CellD.cs++[[.int .i64 5,.int .i64 0,.str ByteArray.empty,.str ByteArray.empty,.int .i64 1]]=(List.replicate (k+1) (⟨5,0,ByteArray.empty,ByteArray.empty,1⟩:CellD)).map CellD.cs:=by
    rw[List.replicate_succ',List.map_append];rfl
   refine A3 (j5 hd hol hrow hw @List.length_replicate.{0}) ?_
   refine⟨(m,k+1),by dsimp only;omega,by dsimp only;omega,?_⟩
   exact As (AH.of [((99,0),(12,0))] []) hrow
def a2y (a:Nat) (xs:List CellD) (a':Nat):Prop:=xs.length≤250∧D7 xs∧a≤a'∧a'≤a+100
abbrev N4 (bs:List Nat) (xs:List CellD) (a:Nat):Mem:=[((0,0),Wd bs a),((0,1),.row false 5 115 (xs.map CellD.cs))]
theorem FK {L:List CellD}(h:D7 L) {i:Nat}{c:CellD}(hc:c.text.size≤9223372036854775807∧c.key.size≤9223372036854775807):D7 (L.set i c):=fun d hd=>by
 rcases List.mem_or_eq_of_mem_set hd with hd | rfl
 ·exact h d hd
 ·exact hc
theorem YI {L M:List CellD}(h:D7 L) (h2:D7 M):D7 (L++M):=fun d hd=>by
 rcases List.mem_append.1 hd with hd | hd
 ·exact h d hd
 ·exact h2 d hd
theorem CQ:ByteArray.empty.size≤9223372036854775807:=by decide
theorem W9:D7 [⟨0,0,ByteArray.empty,ByteArray.empty,0⟩]:=fun d hd=>by rw[List.mem_singleton.1 hd];exact⟨CQ,CQ⟩
theorem J4 (bs:List Nat) (hb:Bs bs) (a:Nat) (ha:a≤800000):∃xs a',a2y a xs a'∧AC Tryz.prog 54 [.ptr (0,0) 0] (D6 bs a) (.own (0,1)) (N4 bs xs a'):=by
 obtain⟨v1,v2,v3,v4,v5⟩:=F8 bs 2 a
 have hB:EI 2=77:=rfl
 have hC:GR 2=13:=rfl
 have hv:AC Tryz.prog 101 [.ptr (0,0) 0,.c (.int .i64 3)] (D6 bs a) (.own (0,1)) (Wi bs (BH bs 2 a)):=Ed bs hb 2 (by omega) a (by omega)
 have hright:(BH bs 2 a).1.right:=⟨v1,by omega,by omega⟩
 generalize BH bs 2 a=r at *
 obtain⟨t,a1⟩:=r
 dsimp only at v1 v2 v3 v4 v5 hright
 replace hv:AC Tryz.prog 101 [.ptr (0,0) 0,.c (.int .i64 3)] (D6 bs a) (.own (0,1)) (N4 bs t.enc a1):=hv
 have hsz:=Bu hright
 have hel:=Bb t
 have hcp:=AY t
 generalize t.enc=L at *
 have hln:(L.map CellD.cs).length=L.length:=by simp
 have n1:=AB bs hb a1 L.length (by omega) (by omega)
 have hi:=AD bs a1 (n:=L.length) (by omega)
 have n2:=AB bs hb (a1+1) 36 (by omega) (by omega)
 have hz:=AD bs (a1+1) (n:=36) (by omega)
 generalize Af bs a1 L.length=i at *
 obtain⟨z,hzz⟩:∃z:Int,((Af bs (a1+1) 36:Nat):Int)=z:=⟨_,rfl⟩
 rw[hzz]at n2
 have hr0:Ae (L.map CellD.cs) 5 ((i:Nat):Int)=true:=by simp[Ae,hi,CellD.cs]
 have hg0:(L.map CellD.cs)[i]? = some [.int .i64 L[i].kind,.int .i64 L[i].num,.str L[i].text,.str L[i].key,.int .i64 L[i].n]:=by simp[hi,CellD.cs]
 have hc0:=hsz _ (List.getElem_mem hi)
 obtain⟨c,hcc⟩:∃c,L[i]=c:=⟨_,rfl⟩
 rw[hcc]at hg0 hc0
 have s0:∀x,(L.map CellD.cs).set i [.int .i64 x,.int .i64 c.num,.str c.text,.str c.key,.int .i64 c.n]=(L.set i { c with kind:=x }).map CellD.cs:=fun x=>by rw[List.map_set];rfl
 have s1:∀x,(L.map CellD.cs).set i [.int .i64 c.kind,.int .i64 x,.str c.text,.str c.key,.int .i64 c.n]=(L.set i { c with num:=x }).map CellD.cs:=fun x=>by rw[List.map_set];rfl
 have s2:∀x,(L.map CellD.cs).set i [.int .i64 c.kind,.int .i64 c.num,.str x,.str c.key,.int .i64 c.n]=(L.set i { c with text:=x }).map CellD.cs:=fun x=>by rw[List.map_set];rfl
 have s3:∀x,(L.map CellD.cs).set i [.int .i64 c.kind,.int .i64 c.num,.str c.text,.str x,.int .i64 c.n]=(L.set i { c with key:=x }).map CellD.cs:=fun x=>by rw[List.map_set];rfl
 have s4:∀x,(L.map CellD.cs).set i [.int .i64 c.kind,.int .i64 c.num,.str c.text,.str c.key,.int .i64 x]=(L.set i { c with n:=x }).map CellD.cs:=fun x=>by rw[List.map_set];rfl
 have hcase:z=0∨z=1∨z=2∨z=3∨z=4∨z=5∨z=6∨z=7∨z=8∨9≤z:=by omega
 rcases hcase with rfl | rfl | rfl | rfl | rfl | rfl | rfl | rfl | rfl | h9
 ·have n3:=AB bs hb (a1+2) 7 (by omega) (by omega)
  generalize Af bs (a1+2) 7=y at *
  have n4:=CI bs hb (a1+3) [-1,7,(y:Int)] (by simp) (by simp) (by omega)
  generalize D4 bs (a1+3) _=p at *
  refine⟨L.set i { c with kind:=p },a1+4,⟨by rw[List.length_set];omega,FK hsz hc0,by omega,by omega⟩,?_⟩
  refine A5 Tryz.func54 Tryz.ntmps54 ?_
  refine A3 q9 ?_
  refine A7 (A0 [((0,0),(0,0))] [((0,0),(0,0)),((0,1),(6,0))] hv) q9 ?_
  refine A3 hln ?_
  refine A7 (A0 [((0,0),(0,0))] [((0,0),(0,0))] n1) q9 ?_
  refine A3 q9 ?_
  refine A7 (A0 [((0,0),(0,0))] [((0,0),(0,0))] n2) q9 ?_
  refine a6f q9 ?_
  refine A7 (A0 [((0,0),(0,0))] [((0,0),(0,0))] n3) q9 ?_
  refine A3 q9 ?_
  refine AW (Az [(20,0)] [((0,0),(0,0))] [((0,0),(0,0))] n4) q9 ?_
  refine A3 (j3 hr0 hg0 s0) ?_
  exact Ab (Aa [((0,0),(0,0)),((0,1),(6,0))] []) Tryz.results54 hln
 ·have n4:=CI bs hb (a1+2) [1,1000000000000001,-1000000000000001,4611686018427387904] (by simp) (by simp) (by omega)
  generalize D4 bs (a1+2) _=p at *
  refine⟨L.set i { c with num:=p },a1+3,⟨by rw[List.length_set];omega,FK hsz hc0,by omega,by omega⟩,?_⟩
  refine A5 Tryz.func54 Tryz.ntmps54 ?_
  refine A3 q9 ?_
  refine A7 (A0 [((0,0),(0,0))] [((0,0),(0,0)),((0,1),(6,0))] hv) q9 ?_
  refine A3 hln ?_
  refine A7 (A0 [((0,0),(0,0))] [((0,0),(0,0))] n1) q9 ?_
  refine A3 q9 ?_
  refine A7 (A0 [((0,0),(0,0))] [((0,0),(0,0))] n2) q9 ?_
  refine a6f q9 ?_
  refine AW (Az [(29,0)] [((0,0),(0,0))] [((0,0),(0,0))] n4) q9 ?_
  refine A3 (j3 hr0 hg0 s1) ?_
  exact Ab (Aa [((0,0),(0,0)),((0,1),(6,0))] []) Tryz.results54 hln
 ·have n3:=AB bs hb (a1+2) 3 (by omega) (by omega)
  have hlt:=AD bs (a1+2) (n:=3) (by omega)
  obtain⟨k0,k1⟩:=Je (L:=[⟨#[120]⟩,⟨#[10]⟩,⟨#[97,127]⟩]) hlt
  have hs:∀x∈[(⟨#[120]⟩:ByteArray),⟨#[10]⟩,⟨#[97,127]⟩],x.size≤9223372036854775807:=by decide +kernel
  have hs1:=hs _ (List.getElem_mem hlt)
  obtain⟨x,hx⟩:∃x,([(⟨#[120]⟩:ByteArray),⟨#[10]⟩,⟨#[97,127]⟩])[Af bs (a1+2) 3]'hlt=x:=⟨_,rfl⟩
  rw[hx]at k1 hs1
  generalize Af bs (a1+2) 3=y at *
  simp only[List.map_cons,List.map_nil,Ac]at k0 k1
  refine⟨L.set i { c with text:=x },a1+3,⟨by rw[List.length_set];omega,FK hsz ⟨hs1,hc0.2⟩,by omega,by omega⟩,?_⟩
  refine A5 Tryz.func54 Tryz.ntmps54 ?_
  refine A3 q9 ?_
  refine A7 (A0 [((0,0),(0,0))] [((0,0),(0,0)),((0,1),(6,0))] hv) q9 ?_
  refine A3 hln ?_
  refine A7 (A0 [((0,0),(0,0))] [((0,0),(0,0))] n1) q9 ?_
  refine A3 q9 ?_
  refine A7 (A0 [((0,0),(0,0))] [((0,0),(0,0))] n2) q9 ?_
  refine a6f q9 ?_
  refine A7 (A0 [((0,0),(0,0))] [((0,0),(0,0))] n3) q9 ?_
  refine A3 (j5 k0 k1 hr0 hg0 s2) ?_
  exact Ab (Aa [((0,0),(0,0)),((0,1),(6,0))] []) Tryz.results54 hln
 ·have n3:=AB bs hb (a1+2) 3 (by omega) (by omega)
  have hlt:=AD bs (a1+2) (n:=3) (by omega)
  obtain⟨k0,k1⟩:=Je (L:=[⟨#[107]⟩,ByteArray.empty,⟨#[31]⟩]) hlt
  have hs:∀x∈[(⟨#[107]⟩:ByteArray),ByteArray.empty,⟨#[31]⟩],x.size≤9223372036854775807:=by decide +kernel
  have hs1:=hs _ (List.getElem_mem hlt)
  obtain⟨x,hx⟩:∃x,([(⟨#[107]⟩:ByteArray),ByteArray.empty,⟨#[31]⟩])[Af bs (a1+2) 3]'hlt=x:=⟨_,rfl⟩
  rw[hx]at k1 hs1
  generalize Af bs (a1+2) 3=y at *
  simp only[List.map_cons,List.map_nil,Ac]at k0 k1
  refine⟨L.set i { c with key:=x },a1+3,⟨by rw[List.length_set];omega,FK hsz ⟨hc0.1,hs1⟩,by omega,by omega⟩,?_⟩
  refine A5 Tryz.func54 Tryz.ntmps54 ?_
  refine A3 q9 ?_
  refine A7 (A0 [((0,0),(0,0))] [((0,0),(0,0)),((0,1),(6,0))] hv) q9 ?_
  refine A3 hln ?_
  refine A7 (A0 [((0,0),(0,0))] [((0,0),(0,0))] n1) q9 ?_
  refine A3 q9 ?_
  refine A7 (A0 [((0,0),(0,0))] [((0,0),(0,0))] n2) q9 ?_
  refine a6f q9 ?_
  refine A7 (A0 [((0,0),(0,0))] [((0,0),(0,0))] n3) q9 ?_
  refine A3 (j5 k0 k1 hr0 hg0 s3) ?_
  exact Ab (Aa [((0,0),(0,0)),((0,1),(6,0))] []) Tryz.results54 hln
 ·have n4:=CI bs hb (a1+2) [IntKind.i64.wrap (c.n+1),-1,IntKind.i64.wrap (c.n-1),201] (by simp) (by simp) (by omega)
  generalize D4 bs (a1+2) _=p at *
  refine⟨L.set i { c with n:=p },a1+3,⟨by rw[List.length_set];omega,FK hsz hc0,by omega,by omega⟩,?_⟩
  refine A5 Tryz.func54 Tryz.ntmps54 ?_
  refine A3 q9 ?_
  refine A7 (A0 [((0,0),(0,0))] [((0,0),(0,0)),((0,1),(6,0))] hv) q9 ?_
  refine A3 hln ?_
  refine A7 (A0 [((0,0),(0,0))] [((0,0),(0,0))] n1) q9 ?_
  refine A3 q9 ?_
  refine A7 (A0 [((0,0),(0,0))] [((0,0),(0,0))] n2) q9 ?_
  refine a6f (j2 hr0 hg0) ?_
  refine AW (Az [(72,0)] [((0,0),(0,0))] [((0,0),(0,0))] n4) q9 ?_
  refine A3 (j3 hr0 hg0 s4) ?_
  exact Ab (Aa [((0,0),(0,0)),((0,1),(6,0))] []) Tryz.results54 hln
 ·refine⟨L.take i,a1+2,⟨by rw[List.length_take];omega,fun d hd=>hsz d (List.mem_of_mem_take hd),by omega,by omega⟩,?_⟩
  have hi0:(0:Int)≤(i:Int):=by omega
  have hi1:(i:Int)≤(L.length:Int):=by omega
  unfold N4
  obtain⟨X,hX⟩:∃X,(L.take i).map CellD.cs=X:=⟨_,rfl⟩
  rw[hX]
  have htk:(L.map CellD.cs).take i=X:=by rw[←hX,List.map_take]
  refine A5 Tryz.func54 Tryz.ntmps54 ?_
  refine A3 q9 ?_
  refine A7 (A0 [((0,0),(0,0))] [((0,0),(0,0)),((0,1),(6,0))] hv) q9 ?_
  refine A3 hln ?_
  refine A7 (A0 [((0,0),(0,0))] [((0,0),(0,0))] n1) q9 ?_
  refine A3 q9 ?_
  refine A7 (A0 [((0,0),(0,0))] [((0,0),(0,0))] n2) q9 ?_
  refine a6f q9 ?_
  ((with_reducible apply Ja);(iterate 10 (focus (first | (simp only[go_sem,Nat.reduceEqDiff,Nat.reduceAdd,Nat.reduceSub,Nat.reduceLeDiff,Nat.reduceMul,Nat.reduceBEq,Nat.reduceLT,Int.reduceToNat,reduceCtorEq,hi0,hi1,hln];first | done | exact rfl | (and_intros<;>rfl)) | exact rfl | decide))))
  refine A3 q9 ?_
  exact Ab (Aa [((0,0),(0,0)),((0,1),(80,0))] []) Tryz.results54 htk
 ·have hol:L.length+1≤1000000:=by omega
  refine⟨L++[(⟨0,0,ByteArray.empty,ByteArray.empty,0⟩:CellD)],a1+2,⟨by simp;omega,YI hsz W9,by omega,by omega⟩,?_⟩
  unfold N4
  obtain⟨X,hX⟩:∃X,(L++[(⟨0,0,ByteArray.empty,ByteArray.empty,0⟩:CellD)]).map CellD.cs=X:=⟨_,rfl⟩
  rw[hX]
  have hrow:L.map CellD.cs++[[.int .i64 0,.int .i64 0,.str ByteArray.empty,.str ByteArray.empty,.int .i64 0]]=X:=by rw[←hX,List.map_append];rfl
  refine A5 Tryz.func54 Tryz.ntmps54 ?_
  refine A3 q9 ?_
  refine A7 (A0 [((0,0),(0,0))] [((0,0),(0,0)),((0,1),(6,0))] hv) q9 ?_
  refine A3 hln ?_
  refine A7 (A0 [((0,0),(0,0))] [((0,0),(0,0))] n1) q9 ?_
  refine A3 q9 ?_
  refine A7 (A0 [((0,0),(0,0))] [((0,0),(0,0))] n2) q9 ?_
  refine a6f (j2 hol hrow) ?_
  exact Ab (Aa [((0,0),(0,0)),((0,1),(86,0))] []) Tryz.results54 hrow
 ·have n3:=AB bs hb (a1+2) 2 (by omega) (by omega)
  have hlt:=AD bs (a1+2) (n:=2) (by omega)
  generalize Af bs (a1+2) 2=y at *
  have hw:IntKind.i64.wrap (20+(y:Int))=((19+y+1:Nat):Int):=EH (by omega) (by omega)
  have hd:=XT (19+y) (by omega)
  refine⟨Py (19+y),a1+3,⟨by simp[Py];omega,fun d hd=>?_,by omega,by omega⟩,?_⟩
  ·unfold Py at hd
   rcases List.mem_append.1 hd with hd | hd
   ·rw[(List.mem_replicate.1 hd).2];exact⟨CQ,CQ⟩
   ·rw[List.mem_singleton.1 hd];exact⟨CQ,CQ⟩
  refine A5 Tryz.func54 Tryz.ntmps54 ?_
  refine A3 q9 ?_
  refine A7 (A0 [((0,0),(0,0))] [((0,0),(0,0)),((0,1),(6,0))] hv) q9 ?_
  refine A3 hln ?_
  refine A7 (A0 [((0,0),(0,0))] [((0,0),(0,0))] n1) q9 ?_
  refine A3 q9 ?_
  refine A7 (A0 [((0,0),(0,0))] [((0,0),(0,0))] n2) q9 ?_
  refine a6f q9 ?_
  refine A7 (A0 [((0,0),(0,0))] [((0,0),(0,0))] n3) q9 ?_
  refine A3 hw ?_
  refine w12 (Au [] hd) q9 ?_
  refine A3 q9 ?_
  exact Ab (Aa [((0,0),(0,0)),((0,1),(92,0))] []) Tryz.results54 hw
 ·have n3:=AB bs hb (a1+2) 2 (by omega) (by omega)
  have hlt:=AD bs (a1+2) (n:=2) (by omega)
  generalize Af bs (a1+2) 2=y at *
  have hw:IntKind.i64.wrap (200+(y:Int))=((200+y:Nat):Int):=EH (by omega) (by omega)
  have h2:(0:Int)≤((200+y:Nat):Int):=by omega
  have h3:((200+y:Nat):Int)≤2000000:=by omega
  have hmk:List.replicate (200+y) [C.int .i64 0,.int .i64 0,.str ByteArray.empty,.str ByteArray.empty,.int .i64 0]=(List.replicate (200+y) (⟨0,0,ByteArray.empty,ByteArray.empty,0⟩:CellD)).map CellD.cs:=by rw[List.map_replicate];rfl
  have q0:Ae (List.replicate (200+y) [C.int .i64 0,.int .i64 0,.str ByteArray.empty,.str ByteArray.empty,.int .i64 0]) 5 0=true:=by unfold Ae;rw[show (0:Int).toNat=0 from rfl,List.getElem?_replicate,if_pos (by omega)];rfl
  have q1:(List.replicate (200+y) [C.int .i64 0,.int .i64 0,.str ByteArray.empty,.str ByteArray.empty,.int .i64 0])[0]? = some [C.int .i64 0,.int .i64 0,.str ByteArray.empty,.str ByteArray.empty,.int .i64 0]:=by rw[List.getElem?_replicate,if_pos (by omega)]
  have q2:(List.replicate (200+y) [C.int .i64 0,.int .i64 0,.str ByteArray.empty,.str ByteArray.empty,.int .i64 0]).set 0 [C.int .i64 5,.int .i64 0,.str ByteArray.empty,.str ByteArray.empty,.int .i64 199]=((List.replicate (200+y) (⟨0,0,ByteArray.empty,ByteArray.empty,0⟩:CellD)).set 0 ⟨5,0,ByteArray.empty,ByteArray.empty,199⟩).map CellD.cs:=by rw[List.map_set,←hmk];rfl
  refine⟨(List.replicate (200+y) (⟨0,0,ByteArray.empty,ByteArray.empty,0⟩:CellD)).set 0 ⟨5,0,ByteArray.empty,ByteArray.empty,199⟩,a1+3,⟨by rw[List.length_set,List.length_replicate];omega,FK (fun d hd=>by rw[(List.mem_replicate.1 hd).2];exact⟨CQ,CQ⟩) ⟨CQ,CQ⟩,by omega,by omega⟩,?_⟩
  have hlr:(List.replicate (200+y) [C.int .i64 0,.int .i64 0,.str ByteArray.empty,.str ByteArray.empty,.int .i64 0]).length=200+y:=List.length_replicate
  generalize hR:List.replicate (200+y) [C.int .i64 0,.int .i64 0,.str ByteArray.empty,.str ByteArray.empty,.int .i64 0]=R at *
  refine A5 Tryz.func54 Tryz.ntmps54 ?_
  refine A3 q9 ?_
  refine A7 (A0 [((0,0),(0,0))] [((0,0),(0,0)),((0,1),(6,0))] hv) q9 ?_
  refine A3 hln ?_
  refine A7 (A0 [((0,0),(0,0))] [((0,0),(0,0))] n1) q9 ?_
  refine A3 q9 ?_
  refine A7 (A0 [((0,0),(0,0))] [((0,0),(0,0))] n2) q9 ?_
  refine a6f q9 ?_
  refine A7 (A0 [((0,0),(0,0))] [((0,0),(0,0))] n3) q9 ?_
  refine A3 (j8 hw h2 h3 @Int.toNat_natCast hR q0 q1 q2) ?_
  exact Ab (Aa [((0,0),(0,0)),((0,1),(98,0))] []) Tryz.results54 hw
 ·have e0:(z==0)=false:=by simp;omega
  have e1:(z==1)=false:=by simp;omega
  have e2:(z==2)=false:=by simp;omega
  have e3:(z==3)=false:=by simp;omega
  have e4:(z==4)=false:=by simp;omega
  have e5:(z==5)=false:=by simp;omega
  have e6:(z==6)=false:=by simp;omega
  have e7:(z==7)=false:=by simp;omega
  have e8:(z==8)=false:=by simp;omega
  refine⟨L,a1+2,⟨by omega,hsz,by omega,by omega⟩,?_⟩
  refine A5 Tryz.func54 Tryz.ntmps54 ?_
  refine A3 q9 ?_
  refine A7 (A0 [((0,0),(0,0))] [((0,0),(0,0)),((0,1),(6,0))] hv) q9 ?_
  refine A3 hln ?_
  refine A7 (A0 [((0,0),(0,0))] [((0,0),(0,0))] n1) q9 ?_
  refine A3 q9 ?_
  refine A7 (A0 [((0,0),(0,0))] [((0,0),(0,0))] n2) q9 ?_
  refine A3 (j9 e0 e1 e2 e3 e4 e5 e6 e7 e8) ?_
  exact Ab (Aa [((0,0),(0,0)),((0,1),(6,0))] []) Tryz.results54 hln
def CG (q:V):Prop:=q.right∧q.count=1∧q.depth=1∧(q.kind=3∨q.kind=4)
theorem a2b {q:V}(h:l9 q):CG q:=by
 obtain⟨h1,h2,h3⟩:=Tx h
 refine⟨h1,h2,h3,?_⟩
 rcases h with⟨s,rfl,_⟩ | ⟨n,rfl,_⟩
 ·exact .inr rfl
 ·exact .inl rfl
theorem CM {n:Int}(h:-1000000000000000≤n∧n≤1000000000000000):CG (Ar n):=⟨K2 h,rfl,rfl,.inl rfl⟩
theorem OF {s:ByteArray}(h:AP s=true):(C6 s).right:=by
 refine EU ?_ (by decide)
 unfold AN
 have h2:inB 0 (-1000000000000000) 1000000000000000=true:=by decide
 simp[cF,cR,cT,B7,C7,h2,inB,h]
theorem U0 {s:ByteArray}(h:AP s=true):CG (C6 s):=⟨OF h,rfl,rfl,.inr rfl⟩
mutual
theorem TO:∀(t:V) (ahead:List V),t.right→(∀q∈ahead,CG q)→∀p∈t.paths ahead,(∀q∈p.1,CG q)∧p.1.length+p.2.depth≤ahead.length+t.depth
 | .mk kind num text keys kids,ahead,ht,ha=>by
  intro p hp
  simp only[V.paths,List.mem_cons]at hp
  rcases hp with rfl | hp
  ·exact⟨ha,Nat.le_refl _⟩
  ·have hr:∀k∈kids,k.right:=fun k hk=>AQ ht hk
   have:=Q8 (V.mk kind num text keys kids).keyV 0 kids ahead hr (fun j hj=>a2b (a1k ht (by simpa [V.kids] using hj))) ha p hp
   exact⟨this.1,by simp only[V.depth];omega⟩
theorem Q8:∀(key:Nat→V) (i:Nat) (ks ahead:List V),(∀k∈ks,k.right)→(∀j,j<i+ks.length→CG (key j))→(∀q∈ahead,CG q)→∀p∈EY key i ks ahead,(∀q∈p.1,CG q)∧p.1.length+p.2.depth≤ahead.length+1+AF ks
 |_,_,[],_,_,_,_=>by simp[EY]
 |key,i,k::ks,ahead,hr,hk,ha=>by
  intro p hp
  simp only[EY,List.mem_append]at hp
  rcases hp with hp | hp
  ·have:=TO k (ahead++[key i]) (hr k (by simp)) (fun q hq=>by
    rcases List.mem_append.1 hq with hq | hq
    ·exact ha q hq
    ·rw[List.mem_singleton.1 hq];exact hk i (by simp)) p hp
   refine⟨this.1,?_⟩
   have h2:=this.2
   rw[List.length_append,List.length_singleton]at h2
   simp only[AF]
   omega
  ·have:=Q8 key (i+1) ks ahead (fun x hx=>hr x (by simp[hx])) (fun j hj=>hk j (by simp only[List.length_cons];omega)) ha p hp
   exact⟨this.1,by simp only[AF];omega⟩
end
theorem XA (t:V):1≤t.depth:=by cases t;simp[V.depth]
def Ia (P:List V):Prop:=P.length≤15∧∀q∈P,CG q
theorem Pu:∀{l:List V},(∀q∈l,CG q)→Ag l=l.length∧AF l≤1∧wfL l
 | [],_=>⟨rfl,Nat.zero_le _,trivial⟩
 |q::l,h=>by
  obtain⟨h1,h2,h3⟩:=Pu (l:=l) fun x hx=>h x (by simp[hx])
  obtain⟨h4,h5,h6,_⟩:=h q (by simp)
  exact⟨by simp only[Ag,List.length_cons];omega,by simp only[AF];omega,h4.1,h3⟩
theorem G8 {P:List V}(h:∀q∈P,CG q) (hl:P.length≤100):(Ba P).right:=by
 obtain⟨h1,h2,h3⟩:=Pu h
 exact⟨QA h3 (by omega),by simp only[Ba,V.count];omega,by simp only[Ba,V.depth];omega⟩
theorem BD {P:List V}(h:∀q∈P,CG q) {x:V}(hx:CG x):∀q∈P++[x],CG q:=fun q hq=>by
 rcases List.mem_append.1 hq with hq | hq
 ·exact h q hq
 ·rw[List.mem_singleton.1 hq];exact hx
theorem KQ {P:List V}(h:∀q∈P,CG q) (n:Nat):∀q∈P.take n,CG q:=fun q hq=>h q (List.mem_of_mem_take hq)
end Go.Proofs.YtllfmaflodbieaaGreatDoor
