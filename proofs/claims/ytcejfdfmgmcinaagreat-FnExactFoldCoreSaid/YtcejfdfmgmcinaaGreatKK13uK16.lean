/- Texts of this proof: K13 K14 K15 K16. -/
import Derived.RangeFuncNested
import Derived.RangeFuncBound
import Derived.RangeFuncCalls
import Derived.Test.YtcejfdfmgmcinaaGreatKK12
import Derived.Test.YtcejfdfmgmcinaaGreatKK03
set_option linter.all false
set_option maxHeartbeats 8000000
namespace Go.Proofs.YtcejfdfmgmcinaaGreat
section
open Go.RowKit Go.Shelf
attribute [local go_sem] Oper.semAt_some
theorem AC.calls_row {P:Program}{f:FuncId}{args:List AV}{ex:Bool}{es:Nat}{e:TypeId}{rows:List (List C)}(h:AC P f args [] (.own (0,0)) [((0,0),.row ex es e rows)]) {w:World}{S:Nat→Prop}{vals:List Value}
  (hv:∀(T:Nat→Prop),(∀b,S b→T b)→∀κ,ARs w T [] κ args vals):Calls P f vals.toArray w fun e1 w'=>Below w.heap.size w w'∧∃v T vrows bs,e1=.returned v∧Aq w' T rows vrows bs∧(∀x∈vrows,x.length=es)∧w'.ownsRow w.heap.size e es v rows.length vrows.flatten:=by
 let Γ:Ctx:=⟨w,S,fun _=>none,fun _=>.bool false,[]⟩
 have hE:Entry Γ []:=⟨fun i o hi=>(by simp[Mem.get]at hi),fun b i hb=>(by cases hb),rfl⟩
 refine (h Γ vals hE (hv _ (fun b hb=>⟨rfl,.inl hb⟩) _)).mono ?_
 rintro e1 w' ⟨v,ow,κ,rfl,hx⟩
 refine⟨⟨hx.os,hx.tape,hx.output,hx.size,fun b hb=>(hx.frame b hb rfl).1⟩,?_⟩
 obtain⟨h1,o,ho,hk⟩:=hx.res
 have ho':o=.row ex es e rows:=by
  have:(Mem.get [((0,0),AO.row ex es e rows)] (0,0))=some (AO.row ex es e rows):=rfl
  rw[this]at ho
  exact (Option.some.inj ho).symm
 subst ho'
 have hvk:=hk (by simp)
 subst hvk
 obtain⟨vrows,bs,r1,_,r3,r4,_,r6⟩:=hx.objs (0,0) _ rfl
 refine⟨κ (0,0),_,vrows,bs,rfl,r1,r3,r4.1,?_⟩
 rcases r4.2 with r | ⟨g,cap,cur,e1,_,r⟩
 ·exact .inl r
 ·refine .inr ⟨g,cap,cur,e1,?_,r⟩
  by_cases hg:g<w.heap.size
  ·have:=(hx.frame g hg rfl).2
   rw[r6 g (by rw[e1];simp[Value.ownBlock])]at this
   cases this
  ·exact Nat.le_of_not_lt hg
theorem ZX (l:List Int) {w:World}{T:Nat→Prop}:∀{vrows:List (List Value)}{bs:List Nat},Aq w T (l.map AB) vrows bs→vrows=l.map fun z=>[Value.int .i64 z]:=by
 induction l with
 |nil=>intro vrows bs h;exact h.1
 |cons z l ih =>
  intro vrows bs h
  obtain⟨v,vs',b1,b2,rfl,_,h1,h2⟩:=h
  obtain⟨u,us,c1,c2,rfl,_,⟨rfl,_⟩,h3,_⟩:=h1
  subst h3
  rw[ih h2]
  rfl
theorem Xt (l:List Int):(l.map fun z=>[Value.int .i64 z]).flatten=l.map (Value.int .i64):=by
 induction l with
 |nil=>rfl
 |cons z l ih=>simp only[List.map_cons,List.flatten_cons,ih];rfl
theorem a1j {w:World}{base:Nat}{e:TypeId}{v:Value}{zs:List Int}(h:w.ownsRow base e 1 v zs.length (zs.map (Value.int .i64))):∃A cap b,v=.slice A zs.length cap∧(zs=[]∨(base≤b∧b<w.heap.size))∧JN b w A zs:=by
 rcases h.2 with⟨rfl,h1⟩ | ⟨g,cap,cur,rfl,hg,hh,h1⟩
 ·have:zs=[]:=by
   cases zs with
   |nil=>rfl
   |cons z l=>simp at h1
  subst this
  exact⟨_,_,0,rfl,.inl rfl,.inl rfl⟩
 ·refine⟨_,cap,g,rfl,.inr ⟨hg,(Array.getElem?_eq_some_iff.1 hh).1⟩,.inr ⟨0,rfl,fun j hj=>?_⟩⟩
  have hlen:=h.1
  have hcur:cur[j]? = some (.int .i64 (zs.getD j 0)):=by
   have h2:=h1.2.2.2
   have h3:(cur.toList.take (zs.length*1))[j]? = (zs.map (Value.int .i64))[j]?:=by rw[h2]
   rw[List.getElem?_take,if_pos (by omega),List.getElem?_map,List.getElem?_eq_getElem hj]at h3
   rw[←Array.getElem?_toList,h3,List.getD_eq_getElem?_getD,List.getElem?_eq_getElem hj]
   rfl
  simp[World.cell?,hh,hcur]
set_option maxRecDepth 10000
theorem O2 (d:CoD) (h1:1≤d.op) (h2:d.op≤17):AC Tryz.prog 191 [d.av] [] (.own (0,0)) [((0,0),.row false 1 2 (d.named.map AB))]:=by
 have har:=Bz d.op
 have hp:Au d.op≤([[C.int .i64 d.a],[C.int .i64 d.b],[C.int .i64 d.c]]:List (List C)).length:=har
 have hpi:(Au d.op:Int)≤(([[C.int .i64 d.a],[C.int .i64 d.b],[C.int .i64 d.c]]:List (List C)).length:Int):=Int.ofNat_le.2 har
 have hp0:(0:Int)≤(Au d.op:Int):=by omega
 have hfin:([[C.int .i64 d.a],[C.int .i64 d.b],[C.int .i64 d.c]]).take (Au d.op)=d.named.map AB:=by
  unfold CoD.named CoD.all
  rw[List.map_take]
  rfl
 refine A7 Tryz.func191 Tryz.ntmps191 ?_
 refine A3 q9 ?_
 refine w7 (A4 [] (KG d.op h1 h2)) q9 ?_
 ((with_reducible apply Q4);(iterate 10 (focus (first | exact⟨hp0,hpi⟩ | (simp only[go_sem,Nat.reduceEqDiff,Nat.reduceAdd,Nat.reduceSub,Nat.reduceLeDiff,Nat.reduceMul,Nat.reduceBEq,Nat.reduceLT,Int.reduceToNat,reduceCtorEq];first | done | exact rfl | (and_intros<;>rfl)) | exact rfl | decide))))
 refine A3 q9 ?_
 exact Ab (Aa [((0,0),(13,0))] []) Tryz.results191 hfin
attribute [local go_sem] Oper.semAt_some
def Hi (w:World) (S:Nat→Prop) (A:Option Addr) (L:List CoD):Prop:=L=[]∨∃vrows,Row w S 6 A vrows∧Aq w S (L.map CoD.cs) vrows []
theorem Hi.keep {w w':World}{S:Nat→Prop}{A:Option Addr}{L:List CoD}(hb:Below w.heap.size w w'):Hi w S A L→Hi w' S A L
 | .inl h=>.inl h
 | .inr ⟨vrows,h1,h2⟩=>.inr ⟨vrows,Row.mono hb.size (fun b hS hl=>⟨hb.block b hl,hS⟩) h1,Aq.keep hb.size (fun b hS hl=>⟨hb.block b hl,hS⟩) (by simp) h2⟩
theorem QD {w:World}{S:Nat→Prop}:∀{rows:List (List C)}{vrows:List (List Value)},Aq w S rows vrows []→∀{k:Nat}{r:List C},rows[k]? = some r→∃v,vrows[k]? = some v∧CRs w S r v []
 | [],vrows,h,k,r,hk=>by simp at hk
 |c::cs,vrows,h,k,r,hk=>by
  obtain⟨v,vs',b1,b2,rfl,hb,h1,h2⟩:=h
  have hb':b1=[]∧b2=[]:=by simpa using hb.symm
  obtain⟨rfl,rfl⟩:=hb'
  cases k with
  |zero =>
   simp at hk
   subst hk
   exact⟨v,rfl,h1⟩
  |succ k =>
   obtain⟨u,h3,h4⟩:=QD h2 (k:=k) (r:=r) (by simpa using hk)
   exact⟨u,by simpa using h3,h4⟩
theorem Zn {w:World}{S:Nat→Prop}{v:Value}{L:List CoD}(h:CR w S (.sl (L.map CoD.cs)) v []):∃A cap,v=.slice A L.length cap∧Hi w S A L:=by
 obtain⟨es,A,cap,vrows,rfl,_,_,h4,h5,_⟩:=h
 refine⟨A,cap,by rw[List.length_map],?_⟩
 cases L with
 |nil=>exact .inl rfl
 |cons d L =>
  obtain⟨v,h6,h7⟩:=QD h5 (k:=0) (r:=d.cs) rfl
  have h8:v.length=6:=by
   obtain⟨_,_,_,_,rfl,_,_,_,_,_,_,rfl,_,_,_,_,_,_,rfl,_,_,_,_,_,_,rfl,_,_,_,_,_,_,rfl,_,_,_,_,_,_,rfl,_,_,rfl,_⟩:=h7
   rfl
  have h9:=h4.1 v (List.mem_of_getElem? h6)
  obtain rfl:es=6:=by omega
  exact .inr ⟨vrows,h4,h5⟩
theorem Hi.node {w:World}{S:Nat→Prop}{A:Option Addr}{L:List CoD}(h:Hi w S A L) {k:Nat}(hk:k<L.length) :
  ∃b off Av cv,A=some ⟨b,off,none⟩∧b<w.heap.size∧(w.cell? ⟨b,off+k*6,none⟩=some (.int .i64 L[k].op)∧w.cell? ⟨b,off+k*6+1,none⟩=some (.int .i64 L[k].a)∧w.cell? ⟨b,off+k*6+2,none⟩=some (.int .i64 L[k].b)∧w.cell? ⟨b,off+k*6+3,none⟩=some (.int .i64 L[k].c)∧w.cell? ⟨b,off+k*6+4,none⟩=some (.int .i64 L[k].num)∧w.cell? ⟨b,off+k*6+5,none⟩=some (.slice Av L[k].val.length cv)) ∧
   CR w S (.sl (L[k].val.map CellD.cs)) (.slice Av L[k].val.length cv) []:=by
 rcases h with rfl | ⟨vrows,h1,h2⟩
 ·simp at hk
 ·obtain⟨v,h3,h4⟩:=QD h2 (k:=k) (r:=L[k].cs) (by simp[hk])
  obtain⟨b,off,rfl,hS,hl,hc⟩:=h1.2 (by have:=(List.getElem?_eq_some_iff.1 h3).1;omega)
  obtain⟨_,_,b1,r1,rfl,e1,⟨rfl,rfl⟩,_,_,b2,r2,rfl,e2,⟨rfl,rfl⟩,_,_,b3,r3,rfl,e3,⟨rfl,rfl⟩,_,_,b4,r4,rfl,e4,⟨rfl,rfl⟩,_,_,b5,r5,rfl,e5,⟨rfl,rfl⟩,u,_,b6,r6,rfl,e6,hu,rfl,rfl⟩:=h4
  rw[List.nil_append]at e1 e2 e3 e4 e5
  rw[←e5,←e4,←e3,←e2,←e1,List.append_nil]at e6
  subst e6
  obtain⟨es,Av,cv,vr,hue,q1,q2,q3,q4,q5⟩:=hu
  rw[List.length_map]at hue
  subst hue
  have hh:=hc k _ h3
  refine⟨b,off,Av,cv,rfl,hl,⟨hh 0 _ rfl,hh 1 _ rfl,hh 2 _ rfl,hh 3 _ rfl,hh 4 _ rfl,hh 5 _ rfl⟩,es,Av,cv,vr,by rw[List.length_map],?_,q2,q3,q4,q5⟩
  rw[List.length_map];rw[List.length_map]at q1;exact q1
theorem Yi {w w':World}{S T:Nat→Prop}{κ:Id→Value}{d:CoD}{Av:Option Addr}{cv:Nat}(h:CR w S (.sl (d.val.map CellD.cs)) (.slice Av d.val.length cv) []) (hb:Below w.heap.size w w') (hT:∀b,S b→T b) :
  ARs w' T [] κ [d.av] [.agg #[.int .i64 d.op,.int .i64 d.a,.int .i64 d.b,.int .i64 d.c,.int .i64 d.num,.slice Av d.val.length cv]]:=by
 have h':=CR.keep hb.size (fun b hS hl=>⟨hb.block b hl,hT b hS⟩) (by simp) h
 refine⟨_,_,rfl,⟨[.int .i64 d.op,.int .i64 d.a,.int .i64 d.b,.int .i64 d.c,.int .i64 d.num,.slice Av d.val.length cv],rfl,⟨_,_,rfl,⟨rfl,rfl⟩,_,_,rfl,⟨rfl,rfl⟩,_,_,rfl,⟨rfl,rfl⟩,_,_,rfl,⟨rfl,rfl⟩,_,_,rfl,⟨rfl,rfl⟩,_,_,rfl,h',rfl⟩,?_⟩,rfl⟩
 intro u hu
 simp only[List.mem_cons,List.not_mem_nil,or_false]at hu
 rcases hu with rfl | rfl | rfl | rfl | rfl | rfl<;>rfl
attribute [local go_sem] Oper.semAt_some
theorem Z8 {c:Int}(h0:0≤c) (h1:c≤1000):wrap64 (c-1)=c-1:=by
 unfold wrap64
 omega
theorem Pk {f:Nat→Int}(hf:∀k:Nat,f k≤k):∀(xs:List Int) (b:Int),0≤b→C1 f xs b≤b
 | [],b,_=>by unfold C1;exact Int.le_refl _
 |o::r,b,hb=>by
  unfold C1
  split
  ·omega
  ·rename_i h1
   split
   ·omega
   ·rename_i h2
    have h3:=Pk hf r (f o.toNat) (by omega)
    have h4:=hf o.toNat
    omega
theorem Pj (L:List CoD):∀(n i:Nat),C3 L n i≤i
 | 0,i=>by unfold C3;omega
 |n+1,i=>by
  unfold C3
  split
  ·exact Pk (Pj L n) _ _ (by omega)
  ·omega
set_option maxRecDepth 100000 in
theorem Im {L:List CoD}(hL:∀(k:Nat) (h:k<L.length),CoOk L[k] k) (hlen:L.length≤1000) (S:Nat→Prop) (A:Option Addr) (cap:Nat):∀(n i:Nat),i<n→i<L.length→∀(w:World),Hi w S A L →
  Calls Tryz.prog 137 #[.slice A L.length cap,.int .i64 i] w fun e w'=>e=.returned (.int .i64 (C3 L n i))∧Below w.heap.size w w'
 | 0,i,h,_,_,_=>absurd h (Nat.not_lt_zero _)
 |n+1,i,hin,hi,w,hc=>by
  have IH:=Im hL hlen S A cap n
  obtain⟨b,off,Av,cv,rfl,hbl,⟨c0,c1,c2,c3,c4,c5⟩,hv⟩:=hc.node hi
  have hok:=hL i hi
  obtain⟨d,hd⟩:∃d,L[i]=d:=⟨_,rfl⟩
  have hbc:C3 L (n+1) i=C1 (C3 L n) d.named.reverse i:=by
   conv=>lhs;unfold C3
   rw[List.getElem?_eq_getElem hi,hd]
  rw[hbc]
  rw[hd]at c0 c1 c2 c3 c4 c5 hv hok
  clear hbc hd
  have hN:∀(w3:World),Below w.heap.size w w3→Calls Tryz.prog 191 #[.agg #[.int .i64 d.op,.int .i64 d.a,.int .i64 d.b,.int .i64 d.c,.int .i64 d.num,.slice Av d.val.length cv]] w3 fun e w4 =>
    Below w3.heap.size w3 w4∧∃A2 cap2 b2,e=.returned (.slice A2 d.named.length cap2)∧(d.named=[]∨(w3.heap.size≤b2∧b2<w4.heap.size))∧JN b2 w4 A2 d.named:=fun w3 hw=>by
   refine ((O2 d hok.op.1 hok.op.2).calls_row (S:=S) (vals:=[.agg #[.int .i64 d.op,.int .i64 d.a,.int .i64 d.b,.int .i64 d.c,.int .i64 d.num,.slice Av d.val.length cv]]) fun T hT κ=>Yi hv hw hT).mono ?_
   rintro e w4 ⟨hb4,v,T,vrows,bs,rfl,h1,h2,h3⟩
   have h4:=ZX _ h1
   subst h4
   rw[Xt,List.length_map]at h3
   obtain⟨A2,cap2,b2,rfl,h5,h6⟩:=a1j h3
   exact⟨hb4,A2,cap2,b2,rfl,h5,h6⟩
  obtain⟨zs,hzs⟩:∃zs,zs=d.named:=⟨_,rfl⟩
  have hah:=hok.ahead
  have hzl:zs.length≤3:=by rw[hzs,CoD.named_len];exact Bz _
  rw[←hzs]at hah hN ⊢
  clear hok hv hzs
  obtain⟨f,hf⟩:∃f,f=C3 L n:=⟨_,rfl⟩
  have hfle:∀k:Nat,f k≤k:=by rw[hf];exact Pj L n
  have hfle:=Lib.hid hfle
  rw[←hf]at IH ⊢
  clear hf
  refine (callsIn_wide (n:=6)).1 ?_
  refine callsIn_of_wp_marks Tryz.func137 rfl trivial ?_ rfl
  simp only[Tryz.ntmps137,List.size_toArray,List.length_cons,List.length_nil,Nat.reduceAdd,Nat.reduceSub,Array.replicate_succ,Array.replicate_zero,List.push_toArray,List.append_toArray,List.nil_append,List.cons_append]
  have hW:Below w.heap.size w (((w.alloc (.cells #[.slice (some ⟨b,off,none⟩) L.length cap] 24)).alloc (.cells #[.int .i64 0] 2)).alloc (.cells #[.int .i64 i] 2)) :=
   (((Below.refl _ w).alloc (Nat.le_refl _) _).alloc (by simp) _).alloc (by simp;omega) _
  have e0:=(hW.cell (p:=⟨b,off+i*6,none⟩) hbl).trans c0
  have e1:=(hW.cell (p:=⟨b,off+i*6+1,none⟩) hbl).trans c1
  have e2:=(hW.cell (p:=⟨b,off+i*6+2,none⟩) hbl).trans c2
  have e3:=(hW.cell (p:=⟨b,off+i*6+3,none⟩) hbl).trans c3
  have e4:=(hW.cell (p:=⟨b,off+i*6+4,none⟩) hbl).trans c4
  have e5:=(hW.cell (p:=⟨b,off+i*6+5,none⟩) hbl).trans c5
  have hN:=hN _ hW
  clear c0 c1 c2 c3 c4 c5
  gi_wp2_with (first
   | (refine⟨trivial,?_⟩;gi_at_call 191;refine (callsIn_wide.2 hN).mono ?_;rintro e w4 ⟨hb4,A2,cap2,b2,rfl,hq,hI⟩)
   | (refine⟨trivial,?_⟩;gi_at_call 219;refine (S5 _ _ trivial rfl _ _ _ _).mono ?_;rintro e w5 ⟨rfl,rfl⟩))
  obtain⟨W3,hW3⟩:∃W3,(((w.alloc (.cells #[.slice (some ⟨b,off,none⟩) L.length cap] 24)).alloc (.cells #[.int .i64 0] 2)).alloc (.cells #[.int .i64 i] 2))=W3:=⟨_,rfl⟩
  have hs3:W3.heap.size=w.heap.size+3:=by rw[←hW3];simp
  have b0:Boxed W3 w.heap.size 24 (.slice (some ⟨b,off,none⟩) L.length cap):=by rw[←hW3];exact ((Boxed.new w _ _).alloc _).alloc _
  have b1:Boxed W3 (w.heap.size+1) 2 (.int .i64 0):=by
   rw[←hW3]
   have:=(Boxed.new (w.alloc (.cells #[.slice (some ⟨b,off,none⟩) L.length cap] 24)) 2 (.int .i64 0)).alloc (.cells #[.int .i64 i] 2)
   rwa [World.size_alloc]at this
  have b2':Boxed W3 (w.heap.size+1+1) 2 (.int .i64 i):=by
   rw[←hW3]
   have:=Boxed.new ((w.alloc (.cells #[.slice (some ⟨b,off,none⟩) L.length cap] 24)).alloc (.cells #[.int .i64 0] 2)) 2 (.int .i64 i)
   rwa [World.size_alloc,World.size_alloc]at this
  rw[hW3]at hW hb4 hq
  clear hN e0 e1 e2 e3 e4 e5
  obtain⟨W5,hW5⟩:∃W5,w4.alloc (.cells #[.slice A2 zs.length cap2] 34)=W5:=⟨_,rfl⟩
  have hs4:=hb4.size
  have hs5:W5.heap.size=w4.heap.size+1:=by rw[←hW5];simp
  have h35:Below W3.heap.size W3 W5:=by rw[←hW5];exact hb4.alloc hb4.size _
  have hB5:Below w.heap.size w W5:=hW.trans (h35.mono hW.size)
  have bS:Boxed W5 w4.heap.size 34 (.slice A2 zs.length cap2):=by rw[←hW5];exact Boxed.new _ _ _
  have c0:Boxed W5 w.heap.size 24 (.slice (some ⟨b,off,none⟩) L.length cap):=(h35.block _ b0.lt).trans b0
  have c1:Boxed W5 (w.heap.size+1) 2 (.int .i64 0):=(h35.block _ b1.lt).trans b1
  have c2:Boxed W5 (w.heap.size+1+1) 2 (.int .i64 i):=(h35.block _ b2'.lt).trans b2'
  obtain⟨b3,hb3,hb3',hI3⟩:∃b3,W3.heap.size≤b3∧b3<W5.heap.size∧JN b3 W5 A2 zs:=by
   rcases hq with hq | ⟨hq1,hq2⟩
   ·exact⟨w4.heap.size,hs4,by omega,.inl hq⟩
   ·exact⟨b2,hq1,by omega,hI.keep (by rw[←hW5];exact Below.heap_alloc _ _ _ hq2)⟩
  rw[hW5]
  clear hI hq b0 b1 b2' hb4
  refine wpIn_rangeFunc_ownG rfl (by omega) (gf:=286) (lb:=#[.pointer (some ⟨w4.heap.size,0,none⟩)]) rfl trivial (enters_of Tryz.func286 (by kernel_rfl) rfl)
   (Uc Fence.wide 5 trivial rfl (by omega) w4.heap.size b3 A2 cap2 zs (by omega) W5 (by omega) hb3' bS.cell hI3) KB.trans (KB.put (w:=W5) (by omega) hb3') (Below.refl _ _) (fun _=>rfl)
   (fun pre W=>((∃c:Int,(0≤c∧c≤i∧∀r,C1 f (pre.map (fun x=>x.1.2)++r) i=C1 f r c)∧Boxed W (w.heap.size+1+1) 2 (.int .i64 c))∧Boxed W w.heap.size 24 (.slice (some ⟨b,off,none⟩) L.length cap)∧Boxed W (w.heap.size+1) 2 (.int .i64 0)∧W5.heap.size≤W.heap.size)∧Below w.heap.size w W)
   (fun c pre W=>((c=.ret∧∀r,C1 f (pre.map (fun x=>x.1.2)++r) i = -1)∧Boxed W (w.heap.size+1) 2 (.int .i64 (-1)))∧Below w.heap.size w W)
   (OwnFrom.and (Own.from (fun s A B row hs hg hr=>by
    obtain⟨⟨c,h1,h2⟩,h3,h4,h5⟩:=hs
    exact⟨⟨c,h1,boxed_own _ _ (fun _:Unit=>.int .i64 c) () A B row h2 hg hr⟩,boxed_own _ _ (fun _:Unit=>_) () A B row h3 hg hr,boxed_own _ _ (fun _:Unit=>_) () A B row h4 hg hr,Nat.le_trans h5 hg.size⟩) _) (ownFrom_below (Nat.le_refl _) hB5.size))
   (fun c=>OwnFrom.and (Own.from (fun s A B row hs hg hr=>⟨hs.1,boxed_own _ _ (fun _:Unit=>_) () A B row hs.2 hg hr⟩) _) (ownFrom_below (Nat.le_refl _) hB5.size))
   ⟨⟨⟨i,⟨by omega,by omega,fun r=>rfl⟩,c2⟩,c0,c1,Nat.le_refl _⟩,hB5⟩
   (fun x=>{ tmps:=#[.slice (some ⟨b,off,none⟩) L.length cap,.int .i64 i,.pointer (some ⟨w.heap.size,0,none⟩),undef,.pointer (some ⟨w.heap.size+1,0,none⟩),.pointer (some ⟨w.heap.size+1+1,0,none⟩),undef,.int .i64 x.1.2,.int .i64 i,.slice (some ⟨b,off,none⟩) L.length cap,.int .i64 i,.pointer (some ⟨b,off+i*6,none⟩),
    .agg #[.int .i64 d.op,.int .i64 d.a,.int .i64 d.b,.int .i64 d.c,.int .i64 d.num,.slice Av d.val.length cv],.slice A2 zs.length cap2,.func (.func 286) #[] #[.pointer (some ⟨w4.heap.size,0,none⟩)],.int .i64 (x.1.1:Int),.int .i64 x.1.2,undef,undef,undef,undef,undef,undef,undef,undef,undef,undef],defers:=[] }) ?assign ?body ?done ?stop
  case assign =>
   intro l x W K hK
   gi_wp2
   exact hK
  case body =>
   rintro l pre ⟨⟨xi,xk⟩,hxm⟩ W ⟨⟨⟨c,⟨hc0,hci,hacc⟩,bB⟩,bC,bR,hsz⟩,hB⟩ hpl
   dsimp only at hxm ⊢
   have hx:0≤xk∧xk<i:=hxm.elim (hah _) (fun e=>by have he:=congrArg List.length e;rw[List.length_nil]at he;omega)
   obtain⟨m,rfl⟩:∃m:Nat,xk=(m:Int):=⟨xk.toNat,by omega⟩
   have hstep:∀r,C1 f ((pre++[(⟨(xi,(m:Int)),hxm⟩:BkE zs)]).map (fun x=>x.1.2)++r) i=if (m:Int)≠c-1 then -1 else if f m<0 then -1 else C1 f r (f m):=fun r=>by
    rw[List.map_append,List.append_assoc,hacc]
    show C1 f ((m:Int)::r) c=_
    conv=>lhs;unfold C1
    rw[Int.toNat_natCast]
   have hw:wrap64 (c-1)=c-1:=Z8 hc0 (by omega)
   have cB:=bB.cell
   have fB:=bB.frozen
   have cC:=bC.cell
   have cR:=bR.cell
   have fR:=bR.frozen
   have IHm:=IH m (by omega) (by omega) W (hc.keep hB)
   clear IH hacc
   by_cases h1:c-1=(m:Int)
   ·have hwm:wrap64 (m:Int)=m:=by rw[←h1];exact hw
    clear hw
    by_cases h2:f m<0
    ·have hs:∀r,C1 f ((pre++[(⟨(xi,(m:Int)),hxm⟩:BkE zs)]).map (fun x=>x.1.2)++r) i = -1:=fun r=>by rw[hstep,if_neg (fun h=>h h1.symm),if_pos h2]
     gi_wp2_with (refine⟨trivial,?_⟩;gi_at_call 137;refine (CallsIn.inRound l (callsIn_wide.2 IHm)).mono ?_;rintro e w6 ⟨rfl,hb6⟩;have q2:Boxed w6 (w.heap.size+1+1) 2 (.int .i64 c):=(hb6.block _ bB.lt).trans bB;have q1:Boxed w6 (w.heap.size+1) 2 (.int .i64 0):=(hb6.block _ bR.lt).trans bR;have q2c:=q2.cell;have q2f:=q2.frozen;have q1c:=q1.cell;have q1f:=q1.frozen)
     have hkf:KeepsFrom W5.heap.size W w6:=⟨hb6.size,fun k o _ hk _=>(hb6.block k (Array.getElem?_eq_some_iff.1 hk).1).trans hk⟩
     have hBW:=hB.trans (hb6.mono hB.size)
     exact⟨hkf.trans (((KeepsOthers.setCell _ _ _).trans (KeepsOthers.setCell _ _ _)).from _),⟨⟨rfl,hs⟩,(q1.other (by omega) _).set _⟩,
      (hBW.setCell (p:=⟨w.heap.size+1+1,0,none⟩) (by simp;omega) _).setCell (p:=⟨w.heap.size+1,0,none⟩) (by simp) _⟩
    ·have hs:∀r,C1 f ((pre++[(⟨(xi,(m:Int)),hxm⟩:BkE zs)]).map (fun x=>x.1.2)++r) i=C1 f r (f m):=fun r=>by rw[hstep,if_neg (fun h=>h h1.symm),if_neg h2]
     have hrng:=Lib.hid (show 0≤f m∧f m≤i from ⟨Int.not_lt.1 h2,Int.le_trans (hfle.out m) (Int.le_of_lt hx.2)⟩)
     gi_wp2_with (refine⟨trivial,?_⟩;gi_at_call 137;refine (CallsIn.inRound l (callsIn_wide.2 IHm)).mono ?_;rintro e w6 ⟨rfl,hb6⟩;have q2:Boxed w6 (w.heap.size+1+1) 2 (.int .i64 c):=(hb6.block _ bB.lt).trans bB;have q1:Boxed w6 (w.heap.size+1) 2 (.int .i64 0):=(hb6.block _ bR.lt).trans bR;have q2c:=q2.cell;have q2f:=q2.frozen;have q1c:=q1.cell;have q1f:=q1.frozen)
     have hkf:KeepsFrom W5.heap.size W w6:=⟨hb6.size,fun k o _ hk _=>(hb6.block k (Array.getElem?_eq_some_iff.1 hk).1).trans hk⟩
     have hBW:=hB.trans (hb6.mono hB.size)
     have q0:Boxed w6 w.heap.size 24 (.slice (some ⟨b,off,none⟩) L.length cap):=(hb6.block _ bC.lt).trans bC
     have hsz6:=hb6.size
     exact⟨hkf.trans ((KeepsOthers.setCell _ _ _).from _),KB.trans (KB.below hb6 (by omega) (by omega)) (KB.set _ _ _ (by simp;omega) (by simp;omega)),
      ⟨⟨f m,⟨hrng.out.1,hrng.out.2,hs⟩,q2.set _⟩,q0.other (by omega) _,q1.other (by omega) _,Nat.le_trans (Nat.le_trans hsz hsz6) (KeepsOthers.setCell _ _ _).size⟩,
      hBW.setCell (p:=⟨w.heap.size+1+1,0,none⟩) (by simp;omega) _⟩
   ·have hs:∀r,C1 f ((pre++[(⟨(xi,(m:Int)),hxm⟩:BkE zs)]).map (fun x=>x.1.2)++r) i = -1:=fun r=>by rw[hstep,if_pos (fun h=>h1 h.symm)]
    have h1':¬(m:Int)=c-1:=fun h=>h1 h.symm
    gi_wp2
    exact⟨(KeepsOthers.setCell _ _ _).from _,⟨⟨rfl,hs⟩,bR.set _⟩,hB.setCell (p:=⟨w.heap.size+1,0,none⟩) (by simp) _⟩
  case done =>
   rintro D ys W hD rfl ⟨⟨⟨c,⟨hc0,hci,hacc⟩,bB⟩,bC,bR,hsz⟩,hB⟩ hK
   have hres:C1 f zs.reverse i=c:=by
    have hres:=hacc []
    rw[List.append_nil,S4 zs _ (Nat.le_refl _),←List.length_reverse,List.take_length]at hres
    exact hres
   have hres:=Lib.hid hres
   have cB:=bB.cell
   have cR:=bR.cell
   have fR:=bR.frozen
   clear hacc
   gi_wp2
   have hw5:=hB5.size
   have hK':=(KeepsOthers.setCell W ⟨w.heap.size+1,0,none⟩ (.int .i64 c)).same D _ hK rfl
   refine⟨by simp,.inl ⟨_,_,rfl,run_takeDeferred hK',?_⟩⟩
   have hc5:=cell_kept (bR.set (.int .i64 c)).cell (grownBy_putObj' _ D (.deferred none)) (fun r e=>by cases e;exact⟨_,hK',rfl⟩)
   refine⟨.int .i64 c,?_,by rw[hres.out],(hB.setCell (p:=⟨w.heap.size+1,0,none⟩) (by simp) _).trans (belowK_b (w:=w) (Nat.le_refl _) _ D _ _ (by omega) hK' rfl rfl)⟩
   simp[results,Tryz.results137,go_sem,hc5]
  case stop =>
   rintro D cc pre W hD ⟨k,hk,rfl⟩ ⟨⟨⟨rfl,hacc⟩,bR⟩,hB⟩ hK
   have hres:C1 f zs.reverse i = -1:=by
    have:=hacc (zs.reverse.drop k)
    rwa [S4 zs k hk,List.take_append_drop]at this
   have hres:=Lib.hid hres
   have cR:=bR.cell
   clear hacc
   gi_wp2
   have hw5:=hB5.size
   refine⟨by simp,.inl ⟨_,_,rfl,run_takeDeferred hK,?_⟩⟩
   have hc5:=cell_kept cR (grownBy_putObj' _ D (.deferred none)) (fun r e=>by cases e;exact⟨_,hK,rfl⟩)
   refine⟨.int .i64 (-1),?_,by rw[hres.out],hB.trans (belowK_b (w:=w) (Nat.le_refl _) W D _ _ (by omega) hK rfl rfl)⟩
   simp[results,Tryz.results137,go_sem,hc5]
end
section
open Go.RowKit
set_option maxRecDepth 10000
theorem QC {L:List CoD}(hL:∀(k:Nat) (h:k<L.length),CoOk L[k] k) (hlen:L.length≤1000) {i:Nat}(hi:i<L.length):AC Tryz.prog 137 [AD L,.c (.int .i64 i)] [] (.c (.int .i64 (C3 L L.length i))) []:=by
 refine AC.of_calls fun S w κ vs hv=>?_
 obtain⟨v,vs',rfl,h1,v2,vs2,rfl,⟨rfl,_⟩,rfl⟩:=hv
 obtain⟨A,cap,rfl,hc⟩:=Zn h1
 refine (Im hL hlen S A cap L.length i hi hi w hc).mono ?_
 rintro e w' ⟨rfl,hb⟩
 exact⟨hb,_,rfl,fun T _ _=>⟨rfl,rfl⟩⟩
theorem Zh (d:CoD) (k:Nat):AC Tryz.prog 220 [d.av,.c (.int .i64 k)] [] (.c (.bool ((d.op==14&&k==1)||(d.op==13&&k==2)))) []:=by
 have e1:((k:Int)==1)=(k==1):=by rw[Bool.eq_iff_iff];simp;omega
 have e2:((k:Int)==2)=(k==2):=by rw[Bool.eq_iff_iff];simp;omega
 cases h1:(d.op==14)<;>cases h2:(d.op==13)<;>cases h3:(k==1)<;>cases h4:(k==2)
 all_goals
  rw[h3]at e1
  rw[h4]at e2
  refine A7 Tryz.func220 Tryz.ntmps220 ?_
  refine A3 (j4 h1 h2 e1 e2) ?_
  exact Ad (A6 []) Tryz.results220
end
end Go.Proofs.YtcejfdfmgmcinaaGreat
