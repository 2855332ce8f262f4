/- Texts of this proof: R20 G85 H32 O01 F00 O07 O12 H30. -/
import Derived.Test.YtllfmaflodbieaaGreatDoorKD42
import Derived.Test.YtllfmaflodbieaaGreatDoorKD36uD37
import Derived.Test.YtllfmaflodbieaaGreatDoorRows
import Derived.SizedLaws
import Derived.Deep.Slices
import Derived.Deep.Fields
import Derived.ChangeSame
import Derived.Test.YtllfmaflodbieaaGreatDoorCards
import Derived.Test.YtllfmaflodbieaaGreatDoorTie
import Derived.Lib.LaidTab
import Derived.LaidMore
import Derived.Stop.Joined
import Derived.SevenTiedAt
import Derived.Stop.LaidErr
set_option linter.all false
set_option maxHeartbeats 8000000
namespace Go.Proofs.YtllfmaflodbieaaGreatDoor
section
open Go.RowKit
set_option maxRecDepth 10000
variable {o:Obj}
theorem ND (l:List EditD) (hz:∀d∈l,DY d) (hl:l.length≤9223372036854775807) (h:Bk l≠0):AC Tryz.prog 14 [GC l] (Jn o) (.agg [.c (.int .i64 (Bk l)),.c (.str ByteArray.empty)]) (Jn o):=by
 have h1:=Hv l hz hl
 have hb:(Bk l != 0)=true:=by simpa using h
 refine A5 Tryz.func14 Tryz.ntmps14 ?_
 refine A3 q9 ?_
 refine w7 (A8 [] h1) q9 ?_
 refine A3 hb ?_
 exact Ab (Aa [((8,0),(8,0))] []) Tryz.results14 hb
theorem Pb (l:List EditD) (hz:∀d∈l,DY d) (h:Bk l=0):AC Tryz.prog 14 [GC l] (Jn o) (.agg [.c (.int .i64 0),.c (.str (CK l))]) (Jn o):=by
 obtain⟨hl,hd⟩:=JN h
 have h1:=Hv l hz (by omega)
 rw[h]at h1
 have hln:(l.map EditD.cs).length=l.length:=by simp
 have h0:CK (l.take 0)=ByteArray.empty:=rfl
 have hne:((0:Int) != 0)=false:=rfl
 refine A5 Tryz.func14 Tryz.ntmps14 ?_
 refine A3 q9 ?_
 refine w7 (A8 [] h1) q9 ?_
 refine I7 hne ?_
 refine B8 ?_
 refine I7 hne ?_
 refine B8 ?_
 (refine w3 (VE a3u) q9 ?_;refine w4 (Ye 5 a3u) q9 ?_;refine w6 (TE a3u) q9 ?_)
 refine A3 hln ?_
 refine AZ (κ:=Nat) (fun k=>⟨mkS 0 26 [(2,.ptr (2,0) 0),(4,.ptr (4,0) 0),(14,GC l),(15,.c (.int .i64 l.length)),(16,.c (.int .i64 k))],
   [((2,0),.box [.c (.int .i64 0),.c (.str ByteArray.empty)]),((4,0),a0u (CK (l.take k))),((8,0),.blk (MH o) [])]⟩)
  (fun k=>k≤l.length) (fun k=>l.length-k) 0 (Nat.zero_le _) ?_ ?_
 ·exact As (AH.of [((2,0),(2,0)),((4,0),(4,0)),((8,0),(8,0))] []) h0
 ·intro k hk
  have hz1:=NA hd k hk
  by_cases hlt:k<l.length
  ·have hdk:decide ((k:Int)<(l.length:Int))=true:=by simpa using hlt
   have hw:=AA (k:=k) (by omega)
   have hr:Ae (l.map EditD.cs) 3 k=true:=by simp[Ae,hlt,EditD.cs]
   have hg:(l.map EditD.cs)[k]? = some [.int .i64 l[k].op,.sl (l[k].path.map CellD.cs),.sl (l[k].x.map CellD.cs)]:=by simp[hlt,EditD.cs]
   have hc:=hd _ (List.getElem_mem hlt)
   have hli:=Fd (o:=o) hc
   have hsz:=Tl hc
   have hnx:=(Nz hlt).symm
   have hwr:=OS (CK (l.take k)) (lnS l[k]) (by omega)
   rw[hnx]at hwr
   generalize l[k]=d at *
   refine A3 (j3 hdk hr hg) ?_
   refine w10 (Fh Gy Gx (8,0) [] hli) q9 ?_
   refine A7 (A0 [((0,0),(4,0))] [((0,0),(4,0))] hwr) q9 ?_
   refine A3 hw ?_
   refine⟨k+1,by omega,by omega,?_⟩
   exact As (AH.of [((2,0),(2,0)),((4,0),(4,0)),((8,0),(8,0))] []) q9
  ·have hdk:decide ((k:Int)<(l.length:Int))=false:=by simpa using hlt
   obtain rfl:k=l.length:=by omega
   have hall:l.take l.length=l:=List.take_length
   have hst:=QB (CK l)
   refine A3 (j2 hdk hall) ?_
   refine A7 (A0 [((0,0),(4,0))] [] hst) q9 ?_
   refine A3 q9 ?_
   exact Ab (Aa [((8,0),(8,0))] []) Tryz.results14 hdk
end
section
open Go.RowKit
set_option maxRecDepth 10000
theorem ZV (bs:List Nat):AC Tryz.prog 12 [.c (.sl (bs.map CO))] [] (.c (.bool (decide ((bs.length:Int)>1048576)))) []:=by
 have hln:(bs.map CO).length=bs.length:=by simp
 refine A5 Tryz.func12 Tryz.ntmps12 ?_
 refine A3 hln ?_
 exact AL (Ad []) Tryz.results12
end
section
open Go.RowKit
set_option maxRecDepth 10000
variable {o o1 o2:Obj}
theorem Pc (s:ByteArray) (h:4000<s.size):AC Tryz.prog 8 [.c (.str s)] (teL o o1 o2) (.agg [.c (.int .i64 2),.c (.int .i64 0),.nils]) (teL o o1 o2):=by
 have g4:decide ((s.size:Int)>4000)=true:=decide_eq_true (by omega)
 refine A5 Tryz.func8 Tryz.ntmps8 ?_
 refine A3 g4 ?_
 exact Ab (Aa [((8,0),(8,0)),((8,1),(8,1))] []) Tryz.results8 g4
theorem MF {L:List EditD}(h:Hi L):AC Tryz.prog 15 [.c (.sl (L.map EditD.cs))] [] (.c (.int .i64 (Bk L))) []:=RW L (by have:=h.1;omega)
theorem ME (bs:List Nat) (hbb:∀b∈bs,b<256):AC Tryz.prog 4 [.c (.sl (bs.map CO))] (teL o o1 o2) (.c (.bool true)) (teL o o1 o2):=by
 have hbig:=ZV bs
 by_cases hl:bs.length≤1048576
 ·have hd:decide ((bs.length:Int)>1048576)=false:=decide_eq_false (by omega)
  rw[hd]at hbig
  obtain⟨L,hL,hdraw⟩:=QL bs ⟨hl,hbb⟩
  have hll:=hL.1
  have hsp:=MF hL
  have h00:((0:Int) != 0)=false:=rfl
  have h0e:((0:Int)==0)=true:=rfl
  have h22:((2:Int)==2)=true:=rfl
  by_cases hc:Bk L=0
  ·have hF:=Pb (o:=o) L hL.2 hc
   obtain⟨hl100,hd0⟩:=JN hc
   have hsz:=NA hd0 L.length (Nat.le_refl _)
   rw[List.take_length]at hsz
   have hP:=Re (o:=o) (o1:=o1) (o2:=o2) (CK L)
   rw[VJ hc]at hP
   have hem:=UW L
   unfold GC at hF
   by_cases h4:4000<(CK L).size
   ·have g4:decide (((CK L).size:Int)>4000)=true:=decide_eq_true (by omega)
    have hP:=Pc (o:=o) (o1:=o1) (o2:=o2) (CK L) h4
    clear hem
    generalize CK L=u at *
    refine A5 Tryz.func4 Tryz.ntmps4 ?_
    refine A3 q9 ?_
    refine w7 (A8 [] hbig) q9 ?_
    refine A3 q9 ?_
    refine w9 (A6 [] hdraw) q9 ?_
    refine A3 q9 ?_
    refine A7 (A0 [((8,0),(8,0))] [((8,0),(8,0))] hF) q9 ?_
    refine A3 h00 ?_
    refine A7 (A0 [((8,0),(8,0)),((8,1),(8,1))] [((8,0),(8,0)),((8,1),(8,1))] hP) q9 ?_
    refine A3 (j2 g4 h22) ?_
    exact Ab (Aa [((8,0),(8,0)),((8,1),(8,1))] []) Tryz.results4 h00
   ·have g4:decide (((CK L).size:Int)>4000)=false:=decide_eq_false (by omega)
    have hP:=hP (by omega)
    rw[if_neg h4]at hP
    have hlen:(L.map EditD.cs).length=L.length:=by simp
    have hlo:(L.map EditD.ox).length=L.length:=by simp
    have hll2:((L.length:Int)==(L.length:Int))=true:=by simp
    have huu:((CK L).toList==(CK L).toList)=true:=N6 rfl
    by_cases hne:L=[]
    ·subst hne
     rw[KJ,KL,List.append_nil]at hP
     have hz0:((CK []).toList==ByteArray.empty.toList)=true:=N6 rfl
     have q0:((0:Int)==((0:Nat):Int))=true:=rfl
     have q1:(((0:Nat):Int)==0)=true:=rfl
     clear hem
     generalize CK []=u at *
     refine A5 Tryz.func4 Tryz.ntmps4 ?_
     refine A3 q9 ?_
     refine w7 (A8 [] hbig) q9 ?_
     refine A3 q9 ?_
     refine w9 (A6 [] hdraw) q9 ?_
     refine A3 q9 ?_
     refine A7 (A0 [((8,0),(8,0))] [((8,0),(8,0))] hF) @List.map_nil.{0,0} ?_
     refine A3 h00 ?_
     refine A7 (A0 [((8,0),(8,0)),((8,1),(8,1))] [((8,0),(8,0)),((8,1),(8,1))] hP) q9 ?_
     refine A3 (j6 g4 h0e q0 q1 @List.map_nil.{0,0} @List.length_nil.{0}) ?_
     refine A7 (A0 [((8,0),(8,0))] [((8,0),(8,0))] hF) @List.map_nil.{0,0} ?_
     refine A3 (j6 huu hz0 q0 q1 @List.map_nil.{0,0} @List.length_nil.{0}) ?_
     exact Ab (Aa [((8,0),(8,0)),((8,1),(8,1))] []) Tryz.results4 h00
    ·rw[r7 hne,r8 hne]at hP
     have hz:((L.length:Int)==0)=false:=by rw[beq_eq_false_iff_ne];have:=List.length_pos_iff.2 hne;omega
     have hz0:((CK L).toList==ByteArray.empty.toList)=false:=S9 fun e=>hne (hem.1 e)
     clear hem
     generalize CK L=u at *
     refine A5 Tryz.func4 Tryz.ntmps4 ?_
     refine A3 q9 ?_
     refine w7 (A8 [] hbig) q9 ?_
     refine A3 q9 ?_
     refine w9 (A6 [] hdraw) q9 ?_
     refine A3 q9 ?_
     refine A7 (A0 [((8,0),(8,0))] [((8,0),(8,0))] hF) q9 ?_
     refine A3 h00 ?_
     refine a0l (TA [] [((8,0),(8,0)),((8,1),(8,1))] [((8,0),(8,0)),((8,1),(8,1)),((0,0),(22,0))] hP) q9 ?_
     refine A3 (j5 g4 h0e hlen hlo hll2) ?_
     refine a0l (TA [(22,0)] [((8,0),(8,0))] [((8,0),(8,0))] hF) q9 ?_
     refine A3 (j5 huu hlen hlo hz hz0) ?_
     exact Ab (Aa [((8,0),(8,0)),((8,1),(8,1))] []) Tryz.results4 h00
  ·have hF:=ND (o:=o) L hL.2 (by omega) hc
   unfold GC at hF
   have hb:(Bk L != 0)=true:=by simpa using hc
   have hee:(Bk L==Bk L)=true:=by simp
   generalize Bk L=c at *
   refine A5 Tryz.func4 Tryz.ntmps4 ?_
   refine A3 q9 ?_
   refine w7 (A8 [] hbig) q9 ?_
   refine A3 q9 ?_
   refine w9 (A6 [] hdraw) q9 ?_
   refine A3 q9 ?_
   refine A7 (A0 [((8,0),(8,0))] [((8,0),(8,0))] hF) q9 ?_
   refine A3 hb ?_
   refine w7 (A8 [] hsp) q9 ?_
   refine A3 hee ?_
   exact Ab (Aa [((8,0),(8,0)),((8,1),(8,1))] []) Tryz.results4 hb
 ·have hd:decide ((bs.length:Int)>1048576)=true:=decide_eq_true (by omega)
  rw[hd]at hbig
  refine A5 Tryz.func4 Tryz.ntmps4 ?_
  refine A3 q9 ?_
  refine w7 (A8 [] hbig) q9 ?_
  refine A3 q9 ?_
  exact Ab (Aa [((8,0),(8,0)),((8,1),(8,1))] []) Tryz.results4 hd
end
section
open Go.ChangeShapes Go.WideShapes Go.ChangeAt Go.RowKit Go.Deep
section
variable {H:Type} {enc:TypeId×Value→H} {P:Program} {w:World} {base:Nat} {spare:Nat→Bool} {held:Bool}
theorem EE {t e:TypeId}{fs:Array Field}{fuel:Nat}{cs:List Value}{x:DataW H×List MemPlace}(ht:P.underlying t=some (.slice e)) (he:P.underlying e=some (.struct fs))
  (hone:oneCellFields P fs=true) (hC:P.cellsOf e=fs.size) (h:DataW.trod enc P w base spare held fuel t cs=some x) :
  (cs=[.slice none 0 0]∧x=(.nil,[])) ∨
  ∃(a:Addr) (len cap m:Nat) (D:Nat→DataW H) (Pl:Nat→List MemPlace),cs=[.slice (some a) len cap]∧base≤a.block∧len≤cap∧cap≤maxLen∧m=(if spare a.block then cap else len) ∧
   x=(.slice ((List.range len).map D) ((List.range (m-len)).map fun j=>D (len+j)),MemPlace.row a (m*fs.size)++(List.range m).flatMap Pl) ∧
   ∀i,i<m→∃(ys:List (DataW H×List MemPlace)) (n:Nat),D i=.agg (ys.map (·.1))∧Pl i=ys.flatMap (·.2)∧ys.length=fs.size ∧
    ∀(j:Nat) (f:Field),fs[j]? = some f→∃(v:Value) (y:DataW H×List MemPlace),w.cell? (a.add (i*fs.size+j))=some v∧ys[j]? = some y∧DataW.trod enc P w base spare held n f.type [v]=some y:=by
 rcases open_slice ht h with h0 | ⟨a,len,cap,m,n,D,Pl,hcs,hb,hl,hm,hmm,hx,hi⟩
 ·exact .inl h0
 ·refine .inr ⟨a,len,cap,m,D,Pl,hcs,hb,hl,hm,hmm,by rw[hC]at hx;exact hx,fun i him=>?_⟩
  obtain⟨cs',hc,ht'⟩:=hi i him
  rw[hC]at hc
  obtain⟨ys,n',hn',hy,hlen,hyl,hf⟩:=DataW.trod_struct he ht'
  obtain⟨_,hcl,hat⟩:=World.cells?_some hc
  simp only[Prod.mk.injEq]at hy
  refine⟨ys,n',hy.1,hy.2,hyl,fun j f hj=>?_⟩
  obtain⟨ho,hk⟩:=hone_of hone j f hj
  have hjl:j<fs.size:=(Array.getElem?_eq_some_iff.1 hj).1
  have hcell:=hat j hjl
  have hv:cs'[j]? = some (cs'[j]'(by omega)):=List.getElem?_eq_getElem (by omega)
  have h1:=hf j f hj
  rw[ho,hk]at h1
  have hone':(cs'.drop j).take 1=[cs'[j]'(by omega)]:=by
   rw[List.drop_eq_getElem_cons (by omega)]
   rfl
  rw[hone']at h1
  have hys:ys[j]? = some (ys[j]'(by omega)):=List.getElem?_eq_getElem (by omega)
  refine⟨_,_,?_,hys,h1.trans hys⟩
  rw[←Go.Deep.add_add,hcell,hv]
theorem MT {α:Type}{p:Nat→α→Prop}:∀(n:Nat),(∀i,i<n→∃c,p i c)→∃xs:List α,xs.length=n∧∀i (h:i<xs.length),p i xs[i]
 | 0,_=>⟨[],rfl,fun i h=>absurd h (by simp)⟩
 |n+1,h=>by
  obtain⟨xs,hl,hx⟩:=MT n (fun i hi=>h i (by omega))
  obtain⟨c,hc⟩:=h n (by omega)
  refine⟨xs++[c],by simp[hl],fun i hi=>?_⟩
  by_cases hlt:i<xs.length
  ·rw[List.getElem_append_left hlt];exact hx i hlt
  ·have:i=xs.length:=by simp at hi;omega
   subst this
   rw[List.getElem_append_right (Nat.le_refl _)]
   simp
   rw[hl]
   exact hc
theorem Od {t e tI tS:TypeId}{n0 n1 n2 n3 n4:Field}{fuel len cap:Nat}{A:Option Addr}{x:DataW H×List MemPlace}(ht:P.underlying t=some (.slice e)) (he:P.underlying e=some (.struct #[n0,n1,n2,n3,n4]))
  (hone:oneCellFields P #[n0,n1,n2,n3,n4]=true) (hC:P.cellsOf e=5) (h0:n0.type=tI) (h1:n1.type=tI) (h2:n2.type=tS) (h3:n3.type=tS) (h4:n4.type=tI)
  (hI:P.underlying tI=some (.int .i64)) (hS:P.underlying tS=some .string)
  (h:DataW.trod enc P w base spare held fuel t [.slice A len cap]=some x) :
  ∃xs:List CellD,xs.length=len∧len≤9223372036854775807∧len≤cap∧(∀c∈xs,c.text.size≤9223372036854775807∧c.key.size≤9223372036854775807)∧Bg w (fun b=>b<w.heap.size) A xs:=by
 rcases EE ht he hone hC h with⟨hcs,_⟩ | ⟨a,len',cap',m,D,Pl,hcs,_,hl,hm,hmm,_,hi⟩
 ·simp only[List.cons.injEq,Value.slice.injEq,and_true]at hcs
  obtain⟨rfl,rfl,rfl⟩:=hcs
  exact⟨[],rfl,by omega,by omega,by simp,Bg.nil⟩
 ·simp only[List.cons.injEq,Value.slice.injEq,and_true]at hcs
  obtain⟨rfl,rfl,rfl⟩:=hcs
  have hlm:len≤m:=by rw[hmm];split<;>omega
  have hmx:maxLen=9223372036854775807:=rfl
  obtain⟨xs,hxl,hx⟩:=MT (p:=fun i (c:CellD)=>(c.text.size≤9223372036854775807∧c.key.size≤9223372036854775807)∧∀j u,(Bv c)[j]? = some u→w.cell? (a.add (i*5+j))=some u) len (fun i hil=>by
   obtain⟨ys,n,_,_,_,hf⟩:=hi i (by omega)
   obtain⟨v0,y0,c0,_,t0⟩:=hf 0 n0 rfl
   obtain⟨v1,y1,c1,_,t1⟩:=hf 1 n1 rfl
   obtain⟨v2,y2,c2,_,t2⟩:=hf 2 n2 rfl
   obtain⟨v3,y3,c3,_,t3⟩:=hf 3 n3 rfl
   obtain⟨v4,y4,c4,_,t4⟩:=hf 4 n4 rfl
   rw[h0]at t0;rw[h1]at t1;rw[h2]at t2;rw[h3]at t3;rw[h4]at t4
   obtain⟨k,e0,_⟩:=DataW.trod_int hI t0
   obtain⟨q,e1,_⟩:=DataW.trod_int hI t1
   obtain⟨s,e2,_,z2⟩:=DataW.trod_string hS t2
   obtain⟨y,e3,_,z3⟩:=DataW.trod_string hS t3
   obtain⟨nn,e4,_⟩:=DataW.trod_int hI t4
   simp only[List.cons.injEq,and_true]at e0 e1 e2 e3 e4
   subst e0 e1 e2 e3 e4
   refine⟨⟨k,q,s,y,nn⟩,⟨by show s.size≤_;omega,by show y.size≤_;omega⟩,fun j u hu=>?_⟩
   simp only[Bv]at hu
   match j with
   | 0=>simp only[List.getElem?_cons_zero,Option.some.injEq]at hu;subst hu;exact c0
   | 1=>simp only[List.getElem?_cons_succ,List.getElem?_cons_zero,Option.some.injEq]at hu;subst hu;exact c1
   | 2=>simp only[List.getElem?_cons_succ,List.getElem?_cons_zero,Option.some.injEq]at hu;subst hu;exact c2
   | 3=>simp only[List.getElem?_cons_succ,List.getElem?_cons_zero,Option.some.injEq]at hu;subst hu;exact c3
   | 4=>simp only[List.getElem?_cons_succ,List.getElem?_cons_zero,Option.some.injEq]at hu;subst hu;exact c4
   |j+5=>simp at hu)
  refine⟨xs,hxl,by omega,hl,fun c hc=>?_,fun x hx'=>?_,fun hn=>?_⟩
  ·obtain⟨i,hi',rfl⟩:=List.getElem_of_mem hc
   exact (hx i hi').1
  ·simp only[List.mem_map]at hx'
   obtain⟨c,_,rfl⟩:=hx'
   rfl
  ·simp only[List.length_map]at hn
   have hfirst:=(hx 0 hn).2 0 _ rfl
   simp only[Nat.zero_mul,Nat.zero_add]at hfirst
   have hadd0:a.add 0=a:=by unfold Addr.add;simp
   rw[hadd0]at hfirst
   obtain⟨ab,ao,asp⟩:=a
   have hsp:asp=none:=by
    unfold World.cell? at hfirst
    simp only at hfirst
    split at hfirst
    ·split at hfirst
     ·simp at hfirst
     ·rename_i hns;simpa using hns
    ·simp at hfirst
   subst hsp
   refine⟨ab,ao,rfl,World.block_lt_of_cell? w _ hfirst,World.block_lt_of_cell? w _ hfirst,fun i x hxi j u hu=>?_⟩
   simp only[List.getElem?_map]at hxi
   by_cases hil:i<xs.length
   ·rw[List.getElem?_eq_getElem hil]at hxi
    simp only[Option.map_some,Option.some.injEq]at hxi
    subst hxi
    have:=(hx i hil).2 j u hu
    have hadd:(⟨ab,ao,none⟩:Addr).add (i*5+j)=⟨ab,ao+i*5+j,none⟩:=by
     unfold Addr.add
     split
     ·rename_i h0;(have hi0:i=0:=by omega);subst hi0;simp
     ·simp[Nat.add_assoc]
    rw[hadd]at this
    exact this
   ·rw[List.getElem?_eq_none (by omega)]at hxi
    simp at hxi
end
end
section
open Go.ChangeShapes Go.WideShapes Go.ChangeAt Go.RowKit Go.Deep
theorem Tryz.own:ownKnob Tryz.prog.godebug=none:=by kernel_rfl
theorem Tryz.laidOut:laidOutB Tryz.prog=true:=by kernel_rfl
end
section
open Go.ChangeShapes Go.WideShapes Go.ChangeAt Go.RowKit Go.Deep
def Zi:DataW Unit→Array Value
 | .agg l=>(l.map fun | .lit (.int k z)=>Value.int k z | _=>.bool false).toArray
 |_=>#[]
def a3v (d:DataW Unit):Obj→Obj
 | .cells _ t fz=>.cells (Zi d) t fz
 |o=>o
theorem PF : Tryz.prog.globalNamed "internal/strconv.uint64pow10" = some 1 := by kernel_rfl
theorem a5k:(Tryz.prog.globals[1]?).map (·.type)=some 290:=by kernel_rfl
theorem a5d:(Rows.laid_internal_strconv_uint64pow10:DataW Unit)=Lib.tabData .u64 Lib.pow10Tab:=by kernel_rfl
mutual
def C.offT:C→Bool
 | .int k _=>k != .u64
 | .bool _=>true
 | .str _=>true
 | .sl rows=>HJ rows
 |_=>false
def KG:List C→Bool
 | []=>true
 |c::cs=>c.offT&&KG cs
def HJ:List (List C)→Bool
 | []=>true
 |r::rs=>!r.isEmpty&&KG r&&HJ rs
end
section
variable {w:World} {S:Nat→Prop} {g:Nat}
theorem CR.noT {x:C}{v:Value}{bs:List Nat}(hx:x.offT=true) (h:CR w S x v bs):∀z,v≠.int .u64 z:=by
 rintro z rfl
 cases x<;>simp only[CR]at h<;>simp[C.offT]at hx
 case int k n=>obtain⟨h,_⟩:=h;injection h with h1 _;exact hx h1.symm
 case bool=>exact absurd h.1 (by simp)
 case str=>exact absurd h.1 (by simp)
 case sl=>obtain⟨es,A,cap,vrows,h1,_⟩:=h;cases h1
theorem YS (hg : Tryz.prog.globalNamed "internal/strconv.uint64pow10" = some g) (ht : Lib.TabIs Tryz.prog w "internal/strconv.uint64pow10" .u64 Lib.pow10Tab) {j : Nat} {u : Value} (h : w.cell? ⟨g, j, none⟩ = some u) : ∃ z, u = .int .u64 z := by
 unfold Lib.TabIs at ht
 have h1:=World.var?_cell hg ht j
 rw[h]at h1
 rw[List.getElem?_toArray,List.getElem?_map]at h1
 cases hq:Lib.pow10Tab[j]? with
 |none=>rw[hq]at h1;cases h1
 |some z=>rw[hq]at h1;simp at h1;exact⟨_,h1⟩
theorem Row.off (hg : Tryz.prog.globalNamed "internal/strconv.uint64pow10" = some g) (ht : Lib.TabIs Tryz.prog w "internal/strconv.uint64pow10" .u64 Lib.pow10Tab) {es : Nat} {A : Option Addr} {xs : List (List Value)} (h : Row w S es A xs)
  (h0:0<xs.length→∃u r,xs[0]? = some (u::r)∧∀z,u≠.int .u64 z):Row w (fun b=>S b∧b≠g) es A xs:=by
 refine⟨h.1,fun hn=>?_⟩
 obtain⟨b,off,hA,hS,hb,hc⟩:=h.2 hn
 refine⟨b,off,hA,⟨hS,?_⟩,hb,hc⟩
 rintro rfl
 obtain⟨u,r,h1,h2⟩:=h0 hn
 have:=hc 0 _ h1 0 u rfl
 obtain⟨z,hz⟩:=YS hg ht this
 exact h2 z hz
mutual
theorem CR.off (hg : Tryz.prog.globalNamed "internal/strconv.uint64pow10" = some g) (ht : Lib.TabIs Tryz.prog w "internal/strconv.uint64pow10" .u64 Lib.pow10Tab) : ∀ {x : C} {v : Value} {bs : List Nat}, x.offT = true → CR w S x v bs → CR w (fun b => S b ∧ b ≠ g) x v bs
 | .int _ _,_,_,_,h=>h
 | .bool _,_,_,_,h=>h
 | .str _,_,_,_,h=>h
 | .raw _,_,_,hx,_=>by simp[C.offT]at hx
 | .osl _,_,_,hx,_=>by simp[C.offT]at hx
 | .ref _,_,_,hx,_=>by simp[C.offT]at hx
 | .oref _,_,_,hx,_=>by simp[C.offT]at hx
 | .sl rows,v,bs,hx,h=>by
  simp only[CR]at h ⊢
  simp only[C.offT]at hx
  obtain⟨es,A,cap,vrows,h1,h2,h3,h4,h5,h6⟩:=h
  refine⟨es,A,cap,vrows,h1,h2,h3,Row.off hg ht h4 fun hn=>?_,Aj.off hg ht hx h5,h6⟩
  cases rows with
  |nil=>simp only[Aj]at h5;rw[h5.1]at hn;simp at hn
  |cons r rs =>
   simp only[HJ,Bool.and_eq_true]at hx
   cases r with
   |nil=>simp at hx
   |cons c cs =>
    simp only[Aj,CRs]at h5
    obtain⟨vr,vs',b1,b2,rfl,_,⟨u,us,c1,c2,rfl,_,hu,_⟩,_⟩:=h5
    simp only[KG,Bool.and_eq_true]at hx
    exact⟨u,us,rfl,CR.noT hx.1.2.1 hu⟩
theorem CRs.off (hg : Tryz.prog.globalNamed "internal/strconv.uint64pow10" = some g) (ht : Lib.TabIs Tryz.prog w "internal/strconv.uint64pow10" .u64 Lib.pow10Tab) : ∀ {x : List C} {v : List Value} {bs : List Nat}, KG x = true → CRs w S x v bs → CRs w (fun b => S b ∧ b ≠ g) x v bs
 | [],_,_,_,h=>h
 |c::cs,v,bs,hx,h=>by
  simp only[CRs]at h ⊢
  simp only[KG,Bool.and_eq_true]at hx
  obtain⟨u,vs',b1,b2,h1,h2,h3,h4⟩:=h
  exact⟨u,vs',b1,b2,h1,h2,CR.off hg ht hx.1 h3,CRs.off hg ht hx.2 h4⟩
theorem Aj.off (hg : Tryz.prog.globalNamed "internal/strconv.uint64pow10" = some g) (ht : Lib.TabIs Tryz.prog w "internal/strconv.uint64pow10" .u64 Lib.pow10Tab) : ∀ {x : List (List C)} {v : List (List Value)} {bs : List Nat}, HJ x = true → Aj w S x v bs → Aj w (fun b => S b ∧ b ≠ g) x v bs
 | [],_,_,_,h=>h
 |c::cs,v,bs,hx,h=>by
  simp only[Aj]at h ⊢
  simp only[HJ,Bool.and_eq_true]at hx
  obtain⟨u,vs',b1,b2,h1,h2,h3,h4⟩:=h
  exact⟨u,vs',b1,b2,h1,h2,CRs.off hg ht hx.1.2 h3,Aj.off hg ht hx.2 h4⟩
end
end
theorem Yl {w : World} (ht : Lib.TabIs Tryz.prog w "internal/strconv.uint64pow10" .u64 Lib.pow10Tab) : ∃ o, w.heap[1]? = some o := by
 unfold Lib.TabIs World.var? at ht
 rw[PF]at ht
 simp only[Option.bind_some]at ht
 cases ho:w.heap[1]? with
 |none=>rw[ho]at ht;cases ht
 |some o=>exact⟨o,rfl⟩
end
section
open Go.ChangeShapes Go.WideShapes Go.ChangeAt Go.RowKit Go.Deep
def a5e (n:Nat):Obj→Obj
 | .cells _ t fz=>.cells #[.iface 363 (.pointer (some ⟨n,0,none⟩))] t fz
 |o=>o
def a4q:ByteArray:=⟨#[118,97,108,117,101,32,111,117,116,32,111,102,32,114,97,110,103,101]⟩
def a2i:ByteArray:=⟨#[105,110,118,97,108,105,100,32,115,121,110,116,97,120]⟩
noncomputable def a47:Nat:=(World.holding Tryz.prog default ⟨#[],#[],[]⟩).heap.size
theorem ZF : Tryz.prog.globalNamed "strconv.ErrRange" = some 7 := by kernel_rfl
theorem ZG : Tryz.prog.globalNamed "strconv.ErrSyntax" = some 6 := by kernel_rfl
theorem a5l:(Tryz.prog.globals[7]?).map (·.type)=some 62:=by kernel_rfl
theorem a5m:(Tryz.prog.globals[6]?).map (·.type)=some 62:=by kernel_rfl
theorem a2w : "*" ++ "errors.errorString" = "*errors.errorString" := by decide
theorem a5g (u : TypeId) (h : Tryz.prog.typeName? 3 u = some "*errors.errorString") : u = 363 :=
 typeName_ptr_named (nm := "errors.errorString") (by rw [a2w]; kernel_rfl) (by kernel_rfl) (by decide) u (by rw [a2w]; exact h)
theorem a5x:∃ms,Tryz.prog.underlying 62=some (.interface ms):=⟨_,Tryz.underlying62⟩
theorem a5f:Tryz.prog.underlying 363=some (.pointer 365):=Tryz.underlying363
theorem a52:∃f:Field,Tryz.prog.underlying 365=some (.struct #[f])∧f.type=9∧f.offset=0:=⟨_,Tryz.underlying365,rfl,rfl⟩
theorem c1E:Tryz.prog.cellsOf 365=1:=by kernel_rfl
theorem c2E:Tryz.prog.cellsOf 9=1:=by kernel_rfl
theorem WJ {W:World}{n:String}{g:Nat}(hg:Tryz.prog.globalNamed n=some g) (h:∃tp p,W.var? Tryz.prog n=some #[.iface tp p]):∃o,W.heap[g]? = some o∧SX o:=by
 obtain⟨tp,p,h⟩:=h
 unfold World.var? at h
 rw[hg]at h
 simp only[Option.bind_some]at h
 cases ho:W.heap[g]? with
 |none=>rw[ho]at h;cases h
 |some o =>
  rw[ho]at h
  cases o with
  |cells cs t fz =>
   simp only[Option.some.injEq]at h
   subst h
   refine⟨_,rfl,fun w b hb=>⟨.iface tp p,?_,.inr ⟨tp,p,rfl⟩⟩⟩
   unfold World.cell?
   simp[hb]
  |_=>cases h
end
section
open Go.RowKit
set_option maxRecDepth 10000
variable {o o1 o2:Obj}
abbrev teM (o o1 o2:Obj):Mem:=[((8,0),.blk (MH o) []),((8,1),.gen (D8 o1 o2))]
end
end Go.Proofs.YtllfmaflodbieaaGreatDoor
