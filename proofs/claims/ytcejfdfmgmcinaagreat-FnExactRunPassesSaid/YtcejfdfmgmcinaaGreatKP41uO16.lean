/- Texts of this proof: P41 O01 F00 O02 O03 O16. -/
import Derived.Test.YtcejfdfmgmcinaaGreatKK39uK40
import Derived.Test.YtcejfdfmgmcinaaGreatRows
import Derived.SizedLaws
import Derived.Deep.Slices
import Derived.Deep.Fields
import Derived.ChangeSame
set_option linter.all false
set_option maxHeartbeats 8000000
namespace Go.Proofs.YtcejfdfmgmcinaaGreat
section
open Go.RowKit
set_option maxRecDepth 10000
theorem Jy (x0:List CoD) (x1:List Int) (hz0:∀d∈x0,J2 d.val)  (hl0:x0.length≤9223372036854775807) (hm0:∀d∈x0,d.val.length≤9223372036854775807) (hl1:x1.length≤1048576) (hb0':(S1 x0 1048576)<0):AC Tryz.prog 5 [AE x0,Cr x1] [] (.c (.bool true)) []:=by
 have hln1:(x1.map As).length=x1.length:=by simp
 have hpl:decide ((x1.length:Int)>1048576)=false:=decide_eq_false (by omega)
 have hq0:=Xb x0 1048576 (by omega)
 have hs0:=OF x0 hz0 (by omega) (fun d h=>by have:=hm0 d h;omega) 1048576 (by omega) (by omega)
 have hb0:decide ((S1 x0 1048576)<0)=true:=by simpa using hb0'
 refine A6 Tryz.func5 Tryz.ntmps5 (j2 hln1 hpl) ?_
 refine v7 (A3 [] hs0) q9 hb0 ?_
 exact Ag (A5 []) Tryz.results5
theorem H9 (x0:List CoD) (x1:List Int) (hz0:∀d∈x0,J2 d.val) (hl0:x0.length≤1048576) (hm0:∀d∈x0,d.val.length≤1048576) (hl1:x1.length≤1048576) (hb0':¬(S1 x0 1048576)<0) (c did:Int) (ys:List CoD) (hy:ys.length≤1000000) (ht:1+Bd ys≤3000000000) (hx:∀d∈ys,d.val.length≤9223372036854775807) (hk9:1+Bd x0+x1.length≤3000000000) (hspec:AC Tryz.prog 21 [AE x0,Cr x1] [] (.agg [.c (.int .i64 c),.c (.int .i64 did),.own (0,0)]) [((0,0),.row true 6 87 (ys.map CoD.os))]) (himpl:AC Tryz.prog 23 [AE x0,Cr x1] [] (.agg [.c (.int .i64 c),.c (.int .i64 did),.own (0,0)]) [((0,0),.row true 6 87 (ys.map CoD.os))]):AC Tryz.prog 5 [AE x0,Cr x1] [] (.c (.bool true)) []:=by
 have hln1:(x1.map As).length=x1.length:=by simp
 have hpl:decide ((x1.length:Int)>1048576)=false:=decide_eq_false (by omega)
 have hq0:=Xb x0 1048576 (by omega)
 have hs0:=OF x0 hz0 (by omega) (fun d h=>by have:=hm0 d h;omega) 1048576 (by omega) (by omega)
 have hb0:decide ((S1 x0 1048576)<0)=false:=by simpa using hb0'
 have hto0:=Wn x0 hl0 hm0
 have heq0:=Nz x0 hl0 (fun d h=>by have:=hm0 d h;omega)
 have hmk0:=Lg x0 (1) 87 (by omega) (by omega)
 have hto1:=U8 x1 hl1
 have heq1:=SF x1 hl1
 have hmk1:=P2 x1 (1+Bd x0) 1 2 (fun _=>rfl) (by omega)
 have he:=MO c did ys (by omega) hx
 have hm:=Li c did ys 1 87 ht (by omega)
 have hh:=L6 c did ys 1 ht (by omega)
 have hm0:decide (((1+Bd ys:Nat):Int)<0)=false:=by simp;omega
 have hmm:(((1+Bd ys:Nat):Int) != ((1+Bd ys:Nat):Int))=false:=by simp
 have hk0:decide (((1+Bd x0+x1.length:Nat):Int)<0)=false:=by simp;omega
 refine A6 Tryz.func5 Tryz.ntmps5 (j2 hln1 hpl) ?_
 refine v7 (A3 [] hs0) q9 hb0 ?_
 refine v12 (BB [] hto0) q9 hb0 ?_
 refine v12 (BB [] hto1) q9 hb0 ?_
 refine v12 (BB [(23,0),(25,0)] hspec) q9 hb0 ?_
 refine v12 (BB [] hto0) q9 hb0 ?_
 refine v12 (BB [] hto1) q9 hb0 ?_
 refine v12 (BB [(28,0),(30,0)] himpl) q9 hb0 ?_
 refine v7 (A3 [(33,0),(26,0)] he) q9 (j2 hb0 hk0) ?_
 refine v12 (BB [] hto0) q9 (j2 hb0 hk0) ?_
 refine v7 (A3 [(28,0),(40,0)] heq0) q9 (j2 hb0 hk0) ?_
 refine v12 (BB [] hto1) q9 (j2 hb0 hk0) ?_
 refine v7 (A3 [(30,0),(45,0)] heq1) q9 (j2 hb0 hk0) ?_
 refine v9 (Oe (28,0) hmk0) q9 hk0 ?_
 refine v9 (Oe (30,0) hmk1) q9 hk0 ?_
 refine v7 (A3 [(33,0),(26,0)] he) q9 hk0 ?_
 refine v9 (Oe (33,0) hm) q9 (j2 hm0 hmm) ?_
 refine v7 (A3 [(33,0)] hh) q9 (j2 hm0 hmm) ?_
 refine v12 (BB [] hto0) q9 (j2 hm0 hmm) ?_
 refine v12 (BB [] hto1) q9 (j2 hm0 hmm) ?_
 refine v12 (BB [(74,0),(76,0)] himpl) q9 (j2 hm0 hmm) ?_
 refine v7 (A3 [(77,0),(26,0)] he) q9 (j2 hm0 hk0) ?_
 refine v7 (A3 [(33,0)] hh) q9 (j2 hm0 hmm) ?_
 exact Ag (A5 []) Tryz.results5
theorem Qa {f:FuncId}{args:List AV}{c did:Int}(h:AC Tryz.prog f args [] (.agg [.c (.int .i64 c),.c (.int .i64 did),.nils]) []):AC Tryz.prog f args [] (.agg [.c (.int .i64 c),.c (.int .i64 did),.own (0,0)]) [((0,0),.row true 6 87 (([]:List CoD).map CoD.os))]:=by
 exact wAS (AC.says [] [] h) @List.map_nil.{0,0}
theorem Zp:Bd []=0:=by rw[Hq];rfl
theorem Lb (x0:List CoD) (x1:List Int) (h:1048576<x1.length):AC Tryz.prog 5 [AE x0,Cr x1] [] (.c (.bool true)) []:=by
 have hln1:(x1.map As).length=x1.length:=by simp
 have hpl:decide ((x1.length:Int)>1048576)=true:=decide_eq_true (by omega)
 refine A6 Tryz.func5 Tryz.ntmps5 (j2 hln1 hpl) ?_
 exact Ag (A5 []) Tryz.results5
theorem YX {L:List CoD}{ps:List Int}(h:Cw L=0):(FP L ps).2.length≤900∧Bd (FP L ps).2≤904500∧∀d∈(FP L ps).2,d.val.length≤200:=by
 obtain⟨h1,_⟩:=L5 h ps ps.length (Nat.le_refl _)
 rw[List.take_length]at h1
 have h3:∀d∈(FP L ps).2,d.val.length≤200:=fun d hd=>Tu (h1.node d hd)
 have h4:=MH _ h3
 have h5:(FP L ps).2.length*1005≤900*1005:=Nat.mul_le_mul_right _ h1.len
 exact⟨h1.len,by omega,h3⟩
theorem MQ (x0:List CoD) (x1:List Int) (hz0:∀d∈x0,J2 d.val) (hl0:x0.length≤9223372036854775807) (hy0:∀d∈x0,d.val.length≤9223372036854775807) (hl1:x1.length≤9223372036854775807):AC Tryz.prog 5 [AE x0,Cr x1] [] (.c (.bool true)) []:=by
 by_cases hlong:1048576<x1.length
 ·exact Lb x0 x1 hlong
 by_cases hsz:S1 x0 1048576<0
 ·exact Jy x0 x1 hz0 hl0 hy0 (by omega) hsz
 ·obtain⟨h1,h2,h3⟩:=a1e hsz (by omega)
  by_cases hc:DX x0 x1=0
  ·obtain⟨t1,t2,t3⟩:=YX (ps:=x1) (GV hc).1
   exact H9 x0 x1 hz0 h1 h3 (by omega) hsz _ _ _ (by omega) (by omega) (fun d hd=>Nat.le_trans (t3 d hd) (by omega)) (by omega) (TX x1 hc) (SU x1 hc)
  ·exact H9 x0 x1 hz0 h1 h3 (by omega) hsz _ _ [] (by simp) (by rw[Zp];omega) (by simp) (by omega) (Qa (RW h1 x1 (by omega) hc)) (Qa (Rj h1 hz0 x1 (by omega) hc))
end
section
open Go.ChangeShapes Go.WideShapes Go.ChangeAt Go.RowKit Go.Deep
section
variable {H:Type} {enc:TypeId×Value→H} {P:Program} {w:World} {base:Nat} {spare:Nat→Bool} {held:Bool}
theorem DO {t e:TypeId}{fs:Array Field}{fuel:Nat}{cs:List Value}{x:DataW H×List MemPlace}(ht:P.underlying t=some (.slice e)) (he:P.underlying e=some (.struct fs))
  (hone:oneCellFields P fs=true) (hC:P.cellsOf e=fs.size) (h:DataW.trod enc P w base spare held fuel t cs=some x) :
  (cs=[.slice none 0 0]∧x=(.nil,[])) ∨
  ∃(a:Addr) (len cap m:Nat) (D:Nat→DataW H) (Pl:Nat→List MemPlace),cs=[.slice (some a) len cap]∧base≤a.block∧len≤cap∧cap≤maxLen∧m=(if spare a.block then cap else len) ∧
   x=(.slice ((List.range len).map D) ((List.range (m-len)).map fun j=>D (len+j)),MemPlace.row a (m*fs.size)++(List.range m).flatMap Pl) ∧
   ∀i,i<m→∃(ys:List (DataW H×List MemPlace)) (n:Nat),D i=.agg (ys.map (·.1))∧Pl i=ys.flatMap (·.2)∧ys.length=fs.size ∧
    ∀(j:Nat) (f:Field),fs[j]? = some f→∃(v:Value) (y:DataW H×List MemPlace),w.cell? (a.add (i*fs.size+j))=some v∧ys[j]? = some y∧DataW.trod enc P w base spare held n f.type [v]=some y:=by
 rcases open_slice ht h with h0 | ⟨a,len,cap,m,n,D,Pl,hcs,hb,hl,hm,hmm,hx,hi⟩
 ·exact .inl h0
 ·refine .inr ⟨a,len,cap,m,D,Pl,hcs,hb,hl,hm,hmm,by rw[hC]at hx;exact hx,fun i him=>?_⟩
  obtain⟨cs',hc,ht'⟩:=hi i him
  rw[hC]at hc
  obtain⟨ys,n',hn',hy,hlen,hyl,hf⟩:=DataW.trod_struct he ht'
  obtain⟨_,hcl,hat⟩:=World.cells?_some hc
  simp only[Prod.mk.injEq]at hy
  refine⟨ys,n',hy.1,hy.2,hyl,fun j f hj=>?_⟩
  obtain⟨ho,hk⟩:=hone_of hone j f hj
  have hjl:j<fs.size:=(Array.getElem?_eq_some_iff.1 hj).1
  have hcell:=hat j hjl
  have hv:cs'[j]? = some (cs'[j]'(by omega)):=List.getElem?_eq_getElem (by omega)
  have h1:=hf j f hj
  rw[ho,hk]at h1
  have hone':(cs'.drop j).take 1=[cs'[j]'(by omega)]:=by
   rw[List.drop_eq_getElem_cons (by omega)]
   rfl
  rw[hone']at h1
  have hys:ys[j]? = some (ys[j]'(by omega)):=List.getElem?_eq_getElem (by omega)
  refine⟨_,_,?_,hys,h1.trans hys⟩
  rw[←Go.Deep.add_add,hcell,hv]
theorem Ld {α:Type}{p:Nat→α→Prop}:∀(n:Nat),(∀i,i<n→∃c,p i c)→∃xs:List α,xs.length=n∧∀i (h:i<xs.length),p i xs[i]
 | 0,_=>⟨[],rfl,fun i h=>absurd h (by simp)⟩
 |n+1,h=>by
  obtain⟨xs,hl,hx⟩:=Ld n (fun i hi=>h i (by omega))
  obtain⟨c,hc⟩:=h n (by omega)
  refine⟨xs++[c],by simp[hl],fun i hi=>?_⟩
  by_cases hlt:i<xs.length
  ·rw[List.getElem_append_left hlt];exact hx i hlt
  ·have:i=xs.length:=by simp at hi;omega
   subst this
   rw[List.getElem_append_right (Nat.le_refl _)]
   simp
   rw[hl]
   exact hc
theorem Of {t e tI tS:TypeId}{n0 n1 n2 n3 n4:Field}{fuel len cap:Nat}{A:Option Addr}{x:DataW H×List MemPlace}(ht:P.underlying t=some (.slice e)) (he:P.underlying e=some (.struct #[n0,n1,n2,n3,n4]))
  (hone:oneCellFields P #[n0,n1,n2,n3,n4]=true) (hC:P.cellsOf e=5) (h0:n0.type=tI) (h1:n1.type=tI) (h2:n2.type=tS) (h3:n3.type=tS) (h4:n4.type=tI)
  (hI:P.underlying tI=some (.int .i64)) (hS:P.underlying tS=some .string)
  (h:DataW.trod enc P w base spare held fuel t [.slice A len cap]=some x) :
  ∃xs:List CellD,xs.length=len∧len≤9223372036854775807∧len≤cap∧(∀c∈xs,c.text.size≤9223372036854775807∧c.key.size≤9223372036854775807)∧Be w (fun b=>b<w.heap.size) A xs:=by
 rcases DO ht he hone hC h with⟨hcs,_⟩ | ⟨a,len',cap',m,D,Pl,hcs,_,hl,hm,hmm,_,hi⟩
 ·simp only[List.cons.injEq,Value.slice.injEq,and_true]at hcs
  obtain⟨rfl,rfl,rfl⟩:=hcs
  exact⟨[],rfl,by omega,by omega,by simp,Be.nil⟩
 ·simp only[List.cons.injEq,Value.slice.injEq,and_true]at hcs
  obtain⟨rfl,rfl,rfl⟩:=hcs
  have hlm:len≤m:=by rw[hmm];split<;>omega
  have hmx:maxLen=9223372036854775807:=rfl
  obtain⟨xs,hxl,hx⟩:=Ld (p:=fun i (c:CellD)=>(c.text.size≤9223372036854775807∧c.key.size≤9223372036854775807)∧∀j u,(vals c)[j]? = some u→w.cell? (a.add (i*5+j))=some u) len (fun i hil=>by
   obtain⟨ys,n,_,_,_,hf⟩:=hi i (by omega)
   obtain⟨v0,y0,c0,_,t0⟩:=hf 0 n0 rfl
   obtain⟨v1,y1,c1,_,t1⟩:=hf 1 n1 rfl
   obtain⟨v2,y2,c2,_,t2⟩:=hf 2 n2 rfl
   obtain⟨v3,y3,c3,_,t3⟩:=hf 3 n3 rfl
   obtain⟨v4,y4,c4,_,t4⟩:=hf 4 n4 rfl
   rw[h0]at t0;rw[h1]at t1;rw[h2]at t2;rw[h3]at t3;rw[h4]at t4
   obtain⟨k,e0,_⟩:=DataW.trod_int hI t0
   obtain⟨q,e1,_⟩:=DataW.trod_int hI t1
   obtain⟨s,e2,_,z2⟩:=DataW.trod_string hS t2
   obtain⟨y,e3,_,z3⟩:=DataW.trod_string hS t3
   obtain⟨nn,e4,_⟩:=DataW.trod_int hI t4
   simp only[List.cons.injEq,and_true]at e0 e1 e2 e3 e4
   subst e0 e1 e2 e3 e4
   refine⟨⟨k,q,s,y,nn⟩,⟨by show s.size≤_;omega,by show y.size≤_;omega⟩,fun j u hu=>?_⟩
   simp only[vals]at hu
   match j with
   | 0=>simp only[List.getElem?_cons_zero,Option.some.injEq]at hu;subst hu;exact c0
   | 1=>simp only[List.getElem?_cons_succ,List.getElem?_cons_zero,Option.some.injEq]at hu;subst hu;exact c1
   | 2=>simp only[List.getElem?_cons_succ,List.getElem?_cons_zero,Option.some.injEq]at hu;subst hu;exact c2
   | 3=>simp only[List.getElem?_cons_succ,List.getElem?_cons_zero,Option.some.injEq]at hu;subst hu;exact c3
   | 4=>simp only[List.getElem?_cons_succ,List.getElem?_cons_zero,Option.some.injEq]at hu;subst hu;exact c4
   |j+5=>simp at hu)
  refine⟨xs,hxl,by omega,hl,fun c hc=>?_,fun x hx'=>?_,fun hn=>?_⟩
  ·obtain⟨i,hi',rfl⟩:=List.getElem_of_mem hc
   exact (hx i hi').1
  ·simp only[List.mem_map]at hx'
   obtain⟨c,_,rfl⟩:=hx'
   rfl
  ·simp only[List.length_map]at hn
   have hfirst:=(hx 0 hn).2 0 _ rfl
   simp only[Nat.zero_mul,Nat.zero_add]at hfirst
   have hadd0:a.add 0=a:=by unfold Addr.add;simp
   rw[hadd0]at hfirst
   obtain⟨ab,ao,asp⟩:=a
   have hsp:asp=none:=by
    unfold World.cell? at hfirst
    simp only at hfirst
    split at hfirst
    ·split at hfirst
     ·simp at hfirst
     ·rename_i hns;simpa using hns
    ·simp at hfirst
   subst hsp
   refine⟨ab,ao,rfl,World.block_lt_of_cell? w _ hfirst,World.block_lt_of_cell? w _ hfirst,fun i x hxi j u hu=>?_⟩
   simp only[List.getElem?_map]at hxi
   by_cases hil:i<xs.length
   ·rw[List.getElem?_eq_getElem hil]at hxi
    simp only[Option.map_some,Option.some.injEq]at hxi
    subst hxi
    have:=(hx i hil).2 j u hu
    have hadd:(⟨ab,ao,none⟩:Addr).add (i*5+j)=⟨ab,ao+i*5+j,none⟩:=by
     unfold Addr.add
     split
     ·rename_i h0;(have hi0:i=0:=by omega);subst hi0;simp
     ·simp[Nat.add_assoc]
    rw[hadd]at this
    exact this
   ·rw[List.getElem?_eq_none (by omega)]at hxi
    simp at hxi
end
end
section
open Go.ChangeShapes Go.WideShapes Go.ChangeAt Go.RowKit Go.Deep
theorem Tryz.own:ownKnob Tryz.prog.godebug=none:=by kernel_rfl
theorem Tryz.laidOut:laidOutB Tryz.prog=true:=by kernel_rfl
end
section
open Go.ChangeShapes Go.WideShapes Go.ChangeAt Go.RowKit Go.Deep
section
variable {H:Type} {enc:TypeId×Value→H} {P:Program} {w:World} {base:Nat} {spare:Nat→Bool} {held:Bool}
theorem Ib {t e tI tS:TypeId}{n0 n1 n2 n3 n4:Field}{fuel:Nat}{v:Value}{x:DataW H×List MemPlace}(ht:P.underlying t=some (.slice e)) (he:P.underlying e=some (.struct #[n0,n1,n2,n3,n4]))
  (hone:oneCellFields P #[n0,n1,n2,n3,n4]=true) (hC:P.cellsOf e=5) (h0:n0.type=tI) (h1:n1.type=tI) (h2:n2.type=tS) (h3:n3.type=tS) (h4:n4.type=tI)
  (hI:P.underlying tI=some (.int .i64)) (hS:P.underlying tS=some .string)
  (h:DataW.trod enc P w base spare held fuel t [v]=some x) :
  ∃(A:Option Addr) (c:Nat) (xs:List CellD),v=.slice A xs.length c∧xs.length≤9223372036854775807∧xs.length≤c∧(∀c∈xs,c.text.size≤9223372036854775807∧c.key.size≤9223372036854775807)∧Be w (fun b=>b<w.heap.size) A xs:=by
 rcases DO ht he hone hC h with⟨hcs,_⟩ | ⟨a,len',cap',m,D,Pl,hcs,_⟩
 ·simp only[List.cons.injEq,and_true]at hcs
  subst hcs
  obtain⟨xs,hl,h5,h6,h7,h8⟩:=Of ht he hone hC h0 h1 h2 h3 h4 hI hS h
  exact⟨none,0,xs,by rw[hl],by omega,by omega,h7,h8⟩
 ·simp only[List.cons.injEq,and_true]at hcs
  subst hcs
  obtain⟨xs,hl,h5,h6,h7,h8⟩:=Of ht he hone hC h0 h1 h2 h3 h4 hI hS h
  exact⟨some a,cap',xs,by rw[hl],by omega,by omega,h7,h8⟩
theorem a45 {t e tc ec tI tS:TypeId}{f0 f1 f2 n0 n1 n2 n3 n4:Field}{fuel len cap:Nat}{A:Option Addr}{x:DataW H×List MemPlace}(ht:P.underlying t=some (.slice e)) (he:P.underlying e=some (.struct #[f0,f1,f2]))
  (hone:oneCellFields P #[f0,f1,f2]=true) (hC:P.cellsOf e=3) (g0:f0.type=tI) (g1:f1.type=tc) (g2:f2.type=tc)
  (htc:P.underlying tc=some (.slice ec)) (hec:P.underlying ec=some (.struct #[n0,n1,n2,n3,n4]))
  (honec:oneCellFields P #[n0,n1,n2,n3,n4]=true) (hCc:P.cellsOf ec=5) (h0:n0.type=tI) (h1:n1.type=tI) (h2:n2.type=tS) (h3:n3.type=tS) (h4:n4.type=tI)
  (hI:P.underlying tI=some (.int .i64)) (hS:P.underlying tS=some .string)
  (h:DataW.trod enc P w base spare held fuel t [.slice A len cap]=some x) :
  ∃l:List EditD,l.length=len∧len≤9223372036854775807∧len≤cap∧(∀d∈l,Zx d)∧Pi w (fun b=>b<w.heap.size) A l:=by
 rcases DO ht he hone hC h with⟨hcs,_⟩ | ⟨a,len',cap',m,D,Pl,hcs,_,hl,hm,hmm,_,hi⟩
 ·simp only[List.cons.injEq,Value.slice.injEq,and_true]at hcs
  obtain⟨rfl,rfl,rfl⟩:=hcs
  exact⟨[],rfl,by omega,by omega,by simp,Bk.nil⟩
 ·simp only[List.cons.injEq,Value.slice.injEq,and_true]at hcs
  obtain⟨rfl,rfl,rfl⟩:=hcs
  have hlm:len≤m:=by rw[hmm];split<;>omega
  have hmx:maxLen=9223372036854775807:=rfl
  obtain⟨l,hll,hx⟩:=Ld (p:=fun i (d:EditD×List Value)=>Zx d.1∧RE w (fun b=>b<w.heap.size) d.1 d.2∧∀j u,d.2[j]? = some u→w.cell? (a.add (i*3+j))=some u) len (fun i hil=>by
   obtain⟨ys,n,_,_,_,hf⟩:=hi i (by omega)
   obtain⟨v0,y0,c0,_,t0⟩:=hf 0 f0 rfl
   obtain⟨v1,y1,c1,_,t1⟩:=hf 1 f1 rfl
   obtain⟨v2,y2,c2,_,t2⟩:=hf 2 f2 rfl
   rw[g0]at t0;rw[g1]at t1;rw[g2]at t2
   obtain⟨op,e0,_⟩:=DataW.trod_int hI t0
   simp only[List.cons.injEq,and_true]at e0
   subst e0
   obtain⟨Ap,cp,ps,rfl,p1,p2,p3,p4⟩:=Ib htc hec honec hCc h0 h1 h2 h3 h4 hI hS t1
   obtain⟨Ax,cx,xs,rfl,x1,x2,x3,x4⟩:=Ib htc hec honec hCc h0 h1 h2 h3 h4 hI hS t2
   refine⟨(⟨op,ps,xs⟩,[.int .i64 op,.slice Ap ps.length cp,.slice Ax xs.length cx]),⟨p3,x3,p1,x1⟩,⟨Ap,cp,Ax,cx,rfl,p2,x2,p4,x4⟩,fun j u hu=>?_⟩
   match j with
   | 0=>simp only[List.getElem?_cons_zero,Option.some.injEq]at hu;subst hu;exact c0
   | 1=>simp only[List.getElem?_cons_succ,List.getElem?_cons_zero,Option.some.injEq]at hu;subst hu;exact c1
   | 2=>simp only[List.getElem?_cons_succ,List.getElem?_cons_zero,Option.some.injEq]at hu;subst hu;exact c2
   |j+3=>simp at hu)
  refine⟨l.map (·.1),by simp[hll],by omega,hl,fun d hd=>?_,l.map (·.2),by simp,⟨fun x hx'=>?_,fun hn=>?_⟩,fun i hi' row hr=>?_⟩
  ·simp only[List.mem_map]at hd
   obtain⟨y,hy,rfl⟩:=hd
   obtain⟨i,hi',rfl⟩:=List.getElem_of_mem hy
   exact (hx i hi').1
  ·simp only[List.mem_map]at hx'
   obtain⟨y,hy,rfl⟩:=hx'
   obtain⟨i,hi',rfl⟩:=List.getElem_of_mem hy
   exact okE.len (hx i hi').2.1
  ·simp only[List.length_map]at hn
   obtain⟨_,⟨_,_,_,_,hrow,_⟩,hc0⟩:=hx 0 hn
   have hfirst:=hc0 0 _ (by rw[hrow];rfl)
   simp only[Nat.zero_mul,Nat.zero_add]at hfirst
   have hadd0:a.add 0=a:=by unfold Addr.add;simp
   rw[hadd0]at hfirst
   obtain⟨ab,ao,asp⟩:=a
   have hsp:asp=none:=by
    unfold World.cell? at hfirst
    simp only at hfirst
    split at hfirst
    ·split at hfirst
     ·simp at hfirst
     ·rename_i hns;simpa using hns
    ·simp at hfirst
   subst hsp
   refine⟨ab,ao,rfl,World.block_lt_of_cell? w _ hfirst,World.block_lt_of_cell? w _ hfirst,fun i x hxi j u hu=>?_⟩
   simp only[List.getElem?_map]at hxi
   by_cases hil:i<l.length
   ·rw[List.getElem?_eq_getElem hil]at hxi
    simp only[Option.map_some,Option.some.injEq]at hxi
    subst hxi
    have:=(hx i hil).2.2 j u hu
    have hadd:(⟨ab,ao,none⟩:Addr).add (i*3+j)=⟨ab,ao+i*3+j,none⟩:=by
     unfold Addr.add
     split
     ·rename_i h0
      have hi0:i=0:=by omega
      subst hi0
      simp
     ·simp[Nat.add_assoc]
    rw[hadd]at this
    exact this
   ·rw[List.getElem?_eq_none (by omega)]at hxi
    simp at hxi
  ·simp only[List.length_map]at hi'
   rw[List.getElem?_map,List.getElem?_eq_getElem hi']at hr
   simp only[Option.map_some,Option.some.injEq]at hr
   subst hr
   simp only[List.getElem_map]
   exact (hx i hi').2.1
end
end
section
open Go.ChangeShapes Go.WideShapes Go.ChangeAt Go.RowKit Go.Deep
section
variable {H:Type} {enc:TypeId×Value→H} {P:Program} {w:World} {base:Nat} {spare:Nat→Bool} {held:Bool}
theorem PA {α:Type}{S:Nat→Prop}(f:α→C):∀(l:List (α×Value)),(∀y∈l,CR w S (f y.1) y.2 [])→An w S (l.map fun y=>[f y.1]) (l.map fun y=>[y.2]) []
 | [],_=>⟨rfl,rfl⟩
 |y::l,h=>⟨[y.2],_,[],[],rfl,rfl,⟨y.2,[],[],[],rfl,rfl,h y (by simp),rfl,rfl⟩,PA f l fun z hz=>h z (by simp[hz])⟩
theorem Q9 {α:Type}{p:α→Prop}{f:α→C}{t e:TypeId}{fuel len cap:Nat}{A:Option Addr}{x:DataW H×List MemPlace}(ht:P.underlying t=some (.slice e)) (hC:P.cellsOf e=1)
  (hel:∀(n:Nat) (v:Value) (y:DataW H×List MemPlace),DataW.trod enc P w base spare held n e [v]=some y→∃a:α,p a∧CR w (fun b=>b<w.heap.size) (f a) v [])
  (h:DataW.trod enc P w base spare held fuel t [.slice A len cap]=some x) :
  ∃l:List α,l.length=len∧len≤9223372036854775807∧len≤cap∧(∀a∈l,p a)∧CR w (fun b=>b<w.heap.size) (.sl (l.map fun a=>[f a])) (.slice A len cap) []:=by
 rcases open_slice1 ht hC h with⟨hcs,_⟩ | ⟨a,len',cap',m,n,V,D,Pl,hcs,_,hl,hm,hmm,_,hi⟩
 ·simp only[List.cons.injEq,Value.slice.injEq,and_true]at hcs
  obtain⟨rfl,rfl,rfl⟩:=hcs
  exact⟨[],rfl,by omega,by omega,by simp,0,none,0,[],rfl,Nat.le_refl _,trivial,Row.nil,⟨rfl,rfl⟩,rfl⟩
 ·simp only[List.cons.injEq,Value.slice.injEq,and_true]at hcs
  obtain⟨rfl,rfl,rfl⟩:=hcs
  have hlm:len≤m:=by rw[hmm];split<;>omega
  have hmx:maxLen=9223372036854775807:=rfl
  obtain⟨l,hll,hx⟩:=Ld (p:=fun i (y:α×Value)=>p y.1∧CR w (fun b=>b<w.heap.size) (f y.1) y.2 []∧w.cell? (a.add i)=some y.2) len (fun i hil=>by
   obtain⟨c0,t0⟩:=hi i (by omega)
   obtain⟨b,h1,h2⟩:=hel _ _ _ t0
   exact⟨(b,V i),h1,h2,c0⟩)
  have hmem:∀y∈l,p y.1∧CR w (fun b=>b<w.heap.size) (f y.1) y.2 []:=fun y hy=>by
   obtain⟨i,hi',rfl⟩:=List.getElem_of_mem hy
   exact⟨(hx i hi').1,(hx i hi').2.1⟩
  refine⟨l.map (·.1),by simp[hll],by omega,hl,fun b hb=>?_,1,some a,cap,l.map fun y=>[y.2],by simp[hll],by simp[hll];exact hl,trivial,⟨fun x hx'=>?_,fun hn=>?_⟩,?_,rfl⟩
  ·simp only[List.mem_map]at hb
   obtain⟨y,hy,rfl⟩:=hb
   exact (hmem y hy).1
  ·simp only[List.mem_map]at hx'
   obtain⟨y,_,rfl⟩:=hx'
   rfl
  ·simp only[List.length_map]at hn
   have hfirst:=(hx 0 hn).2.2
   have hadd0:a.add 0=a:=by unfold Addr.add;simp
   rw[hadd0]at hfirst
   obtain⟨ab,ao,asp⟩:=a
   have hsp:asp=none:=by
    unfold World.cell? at hfirst
    simp only at hfirst
    split at hfirst
    ·split at hfirst
     ·simp at hfirst
     ·rename_i hns;simpa using hns
    ·simp at hfirst
   subst hsp
   refine⟨ab,ao,rfl,World.block_lt_of_cell? w _ hfirst,World.block_lt_of_cell? w _ hfirst,fun i x hxi j u hu=>?_⟩
   simp only[List.getElem?_map]at hxi
   by_cases hil:i<l.length
   ·rw[List.getElem?_eq_getElem hil]at hxi
    simp only[Option.map_some,Option.some.injEq]at hxi
    subst hxi
    have hj:j=0:=by
     match j with
     | 0=>rfl
     |j+1=>simp at hu
    subst hj
    simp only[List.getElem?_cons_zero,Option.some.injEq]at hu
    subst hu
    have:=(hx i hil).2.2
    have hadd:(⟨ab,ao,none⟩:Addr).add i=⟨ab,ao+i*1+0,none⟩:=by
     unfold Addr.add
     split
     ·rename_i h0
      have hi0:i=0:=by omega
      subst hi0
      simp
     ·simp
    rw[hadd]at this
    exact this
   ·rw[List.getElem?_eq_none (by omega)]at hxi
    simp at hxi
  ·rw[List.map_map]
   exact PA f l fun y hy=>(hmem y hy).2
theorem a3r {t tc e tI tS:TypeId}{n0 n1 n2 n3 n4:Field}{fuel len cap:Nat}{A:Option Addr}{x:DataW H×List MemPlace}(ht:P.underlying t=some (.slice tc)) (htc:P.underlying tc=some (.slice e)) (hC1:P.cellsOf tc=1) (he:P.underlying e=some (.struct #[n0,n1,n2,n3,n4]))
  (hone:oneCellFields P #[n0,n1,n2,n3,n4]=true) (hC:P.cellsOf e=5) (h0:n0.type=tI) (h1:n1.type=tI) (h2:n2.type=tS) (h3:n3.type=tS) (h4:n4.type=tI)
  (hI:P.underlying tI=some (.int .i64)) (hS:P.underlying tS=some .string)
  (h:DataW.trod enc P w base spare held fuel t [.slice A len cap]=some x) :
  ∃l:List (List CellD),l.length=len∧len≤9223372036854775807∧len≤cap∧(∀x∈l,EG x)∧(∀x∈l,x.length≤9223372036854775807)∧CR w (fun b=>b<w.heap.size) (.sl (l.map Al)) (.slice A len cap) []:=by
 obtain⟨l,g1,g2,g3,g4,g5⟩:=Q9 (α:=List CellD) (p:=fun xs=>EG xs∧xs.length≤9223372036854775807) (f:=fun xs=>.sl (xs.map CellD.cs)) ht hC1 (fun n v y hy=>by
  obtain⟨A',c,xs,rfl,p1,p2,p3,p4⟩:=Ib htc he hone hC h0 h1 h2 h3 h4 hI hS hy
  exact⟨xs,⟨p3,p1⟩,CX.2 ⟨A',c,rfl,p2,p4⟩⟩) h
 exact⟨l,g1,g2,g3,fun x hx=>(g4 x hx).1,fun x hx=>(g4 x hx).2,g5⟩
end
end
section
open Go.ChangeShapes Go.WideShapes Go.ChangeAt Go.RowKit Go.Deep
section
variable {H:Type} {enc:TypeId×Value→H} {P:Program} {w:World} {base:Nat} {spare:Nat→Bool} {held:Bool}
def RCo (w:World) (d:CoD) (row:List Value):Prop:=∃v,row=[.int .i64 d.op,.int .i64 d.a,.int .i64 d.b,.int .i64 d.c,.int .i64 d.num,v]∧CR w (fun b=>b<w.heap.size) (.sl (d.val.map CellD.cs)) v []
theorem Nj:∀(l:List (CoD×List Value)),(∀y∈l,RCo w y.1 y.2)→An w (fun b=>b<w.heap.size) (l.map fun y=>y.1.cs) (l.map fun y=>y.2) []
 | [],_=>⟨rfl,rfl⟩
 |y::l,h=>by
  obtain⟨v,hv,hc⟩:=h y (by simp)
  refine⟨y.2,_,[],[],rfl,rfl,?_,Nj l fun z hz=>h z (by simp[hz])⟩
  rw[hv]
  exact⟨_,_,[],[],rfl,rfl,⟨rfl,rfl⟩,_,_,[],[],rfl,rfl,⟨rfl,rfl⟩,_,_,[],[],rfl,rfl,⟨rfl,rfl⟩,_,_,[],[],rfl,rfl,⟨rfl,rfl⟩,_,_,[],[],rfl,rfl,⟨rfl,rfl⟩,v,[],[],[],rfl,rfl,hc,rfl,rfl⟩
theorem VN {t e tc ec tI tS:TypeId}{f0 f1 f2 f3 f4 f5 n0 n1 n2 n3 n4:Field}{fuel len cap:Nat}{A:Option Addr}{x:DataW H×List MemPlace}(ht:P.underlying t=some (.slice e)) (he:P.underlying e=some (.struct #[f0,f1,f2,f3,f4,f5]))
  (hone:oneCellFields P #[f0,f1,f2,f3,f4,f5]=true) (hC:P.cellsOf e=6) (g0:f0.type=tI) (g1:f1.type=tI) (g2:f2.type=tI) (g3:f3.type=tI) (g4:f4.type=tI) (g5:f5.type=tc)
  (htc:P.underlying tc=some (.slice ec)) (hec:P.underlying ec=some (.struct #[n0,n1,n2,n3,n4]))
  (honec:oneCellFields P #[n0,n1,n2,n3,n4]=true) (hCc:P.cellsOf ec=5) (h0:n0.type=tI) (h1:n1.type=tI) (h2:n2.type=tS) (h3:n3.type=tS) (h4:n4.type=tI)
  (hI:P.underlying tI=some (.int .i64)) (hS:P.underlying tS=some .string)
  (h:DataW.trod enc P w base spare held fuel t [.slice A len cap]=some x) :
  ∃l:List CoD,l.length=len∧len≤9223372036854775807∧len≤cap∧(∀d∈l,EG d.val)∧(∀d∈l,d.val.length≤9223372036854775807)∧CR w (fun b=>b<w.heap.size) (.sl (l.map CoD.cs)) (.slice A len cap) []:=by
 rcases DO ht he hone hC h with⟨hcs,_⟩ | ⟨a,len',cap',m,D,Pl,hcs,_,hl,hm,hmm,_,hi⟩
 ·simp only[List.cons.injEq,Value.slice.injEq,and_true]at hcs
  obtain⟨rfl,rfl,rfl⟩:=hcs
  exact⟨[],rfl,by omega,by omega,by simp,by simp,0,none,0,[],rfl,Nat.le_refl _,trivial,Row.nil,⟨rfl,rfl⟩,rfl⟩
 ·simp only[List.cons.injEq,Value.slice.injEq,and_true]at hcs
  obtain⟨rfl,rfl,rfl⟩:=hcs
  have hlm:len≤m:=by rw[hmm];split<;>omega
  have hmx:maxLen=9223372036854775807:=rfl
  obtain⟨l,hll,hx⟩:=Ld (p:=fun i (d:CoD×List Value)=>(EG d.1.val∧d.1.val.length≤9223372036854775807)∧RCo w d.1 d.2∧∀j u,d.2[j]? = some u→w.cell? (a.add (i*6+j))=some u) len (fun i hil=>by
   obtain⟨ys,n,_,_,_,hf⟩:=hi i (by omega)
   obtain⟨v0,y0,c0,_,t0⟩:=hf 0 f0 rfl
   obtain⟨v1,y1,c1,_,t1⟩:=hf 1 f1 rfl
   obtain⟨v2,y2,c2,_,t2⟩:=hf 2 f2 rfl
   obtain⟨v3,y3,c3,_,t3⟩:=hf 3 f3 rfl
   obtain⟨v4,y4,c4,_,t4⟩:=hf 4 f4 rfl
   obtain⟨v5,y5,c5,_,t5⟩:=hf 5 f5 rfl
   rw[g0]at t0;rw[g1]at t1;rw[g2]at t2;rw[g3]at t3;rw[g4]at t4;rw[g5]at t5
   obtain⟨op,e0,_⟩:=DataW.trod_int hI t0
   obtain⟨a0,e1,_⟩:=DataW.trod_int hI t1
   obtain⟨b0,e2,_⟩:=DataW.trod_int hI t2
   obtain⟨q0,e3,_⟩:=DataW.trod_int hI t3
   obtain⟨num,e4,_⟩:=DataW.trod_int hI t4
   simp only[List.cons.injEq,and_true]at e0 e1 e2 e3 e4
   subst e0 e1 e2 e3 e4
   obtain⟨Ax,cx,xs,rfl,x1,x2,x3,x4⟩:=Ib htc hec honec hCc h0 h1 h2 h3 h4 hI hS t5
   refine⟨(⟨op,a0,b0,q0,num,xs⟩,[.int .i64 op,.int .i64 a0,.int .i64 b0,.int .i64 q0,.int .i64 num,.slice Ax xs.length cx]),⟨x3,x1⟩,⟨_,rfl,CX.2 ⟨Ax,cx,rfl,x2,x4⟩⟩,fun j u hu=>?_⟩
   match j with
   | 0=>simp only[List.getElem?_cons_succ,List.getElem?_cons_zero,Option.some.injEq]at hu;subst hu;exact c0
   | 1=>simp only[List.getElem?_cons_succ,List.getElem?_cons_zero,Option.some.injEq]at hu;subst hu;exact c1
   | 2=>simp only[List.getElem?_cons_succ,List.getElem?_cons_zero,Option.some.injEq]at hu;subst hu;exact c2
   | 3=>simp only[List.getElem?_cons_succ,List.getElem?_cons_zero,Option.some.injEq]at hu;subst hu;exact c3
   | 4=>simp only[List.getElem?_cons_succ,List.getElem?_cons_zero,Option.some.injEq]at hu;subst hu;exact c4
   | 5=>simp only[List.getElem?_cons_succ,List.getElem?_cons_zero,Option.some.injEq]at hu;subst hu;exact c5
   |j+6=>simp at hu)
  have hmem:∀y∈l,(EG y.1.val∧y.1.val.length≤9223372036854775807)∧RCo w y.1 y.2:=fun y hy=>by
   obtain⟨i,hi',rfl⟩:=List.getElem_of_mem hy
   exact⟨(hx i hi').1,(hx i hi').2.1⟩
  refine⟨l.map (·.1),by simp[hll],by omega,hl,fun d hd=>?_,fun d hd=>?_,6,some a,cap,l.map fun y=>y.2,by simp[hll],by simp[hll];exact hl,trivial,⟨fun x hx'=>?_,fun hn=>?_⟩,?_,rfl⟩
  ·simp only[List.mem_map]at hd
   obtain⟨y,hy,rfl⟩:=hd
   exact (hmem y hy).1.1
  ·simp only[List.mem_map]at hd
   obtain⟨y,hy,rfl⟩:=hd
   exact (hmem y hy).1.2
  ·simp only[List.mem_map]at hx'
   obtain⟨y,hy,rfl⟩:=hx'
   obtain⟨v,hv,_⟩:=(hmem y hy).2
   rw[hv]
   rfl
  ·simp only[List.length_map]at hn
   obtain⟨_,⟨_,hrow,_⟩,hc0⟩:=hx 0 hn
   have hfirst:=hc0 0 _ (by rw[hrow];rfl)
   simp only[Nat.zero_mul,Nat.zero_add]at hfirst
   have hadd0:a.add 0=a:=by unfold Addr.add;simp
   rw[hadd0]at hfirst
   obtain⟨ab,ao,asp⟩:=a
   have hsp:asp=none:=by
    unfold World.cell? at hfirst
    simp only at hfirst
    split at hfirst
    ·split at hfirst
     ·simp at hfirst
     ·rename_i hns;simpa using hns
    ·simp at hfirst
   subst hsp
   refine⟨ab,ao,rfl,World.block_lt_of_cell? w _ hfirst,World.block_lt_of_cell? w _ hfirst,fun i x hxi j u hu=>?_⟩
   simp only[List.getElem?_map]at hxi
   by_cases hil:i<l.length
   ·rw[List.getElem?_eq_getElem hil]at hxi
    simp only[Option.map_some,Option.some.injEq]at hxi
    subst hxi
    have:=(hx i hil).2.2 j u hu
    have hadd:(⟨ab,ao,none⟩:Addr).add (i*6+j)=⟨ab,ao+i*6+j,none⟩:=by
     unfold Addr.add
     split
     ·rename_i h0
      have hi0:i=0:=by omega
      subst hi0
      simp
     ·simp[Nat.add_assoc]
    rw[hadd]at this
    exact this
   ·rw[List.getElem?_eq_none (by omega)]at hxi
    simp at hxi
  ·rw[List.map_map]
   exact Nj l fun y hy=>(hmem y hy).2
theorem YJ {t e:TypeId}{fuel len cap:Nat}{A:Option Addr}{x:DataW H×List MemPlace}(ht:P.underlying t=some (.slice e)) (he:P.underlying e=some (.int .i64)) (hC:P.cellsOf e=1)
  (h:DataW.trod enc P w base spare held fuel t [.slice A len cap]=some x) :
  ∃l:List Int,l.length=len∧len≤9223372036854775807∧len≤cap∧CR w (fun b=>b<w.heap.size) (.sl (l.map As)) (.slice A len cap) []:=by
 obtain⟨l,h1,h2,h3,_,h4⟩:=Q9 (α:=Int) (p:=fun _=>True) (f:=fun z=>.int .i64 z) ht hC (fun n v y hy=>by
  obtain⟨k,h1,_,h2⟩:=DataW.trod_int he hy
  simp only[List.cons.injEq,and_true]at h1
  subst h1
  exact⟨k,trivial,rfl,rfl⟩) h
 exact⟨l,h1,h2,h3,h4⟩
end
end
end Go.Proofs.YtcejfdfmgmcinaaGreat
