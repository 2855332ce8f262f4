/- Texts of this proof: G07 G08 G11 G14 R09 R10 R11 G22 G24 G26 G48 S02. -/
import Derived.Test.YtllfmaflodbieaaGreatDoorKM23uG06
import Derived.Deep.RegionHeld3
import Derived.Deep.RegionWith
import Derived.Shelf.Strconv.Itoa4
import Derived.Lib.ItoaLen
import Derived.Lib.ItoaMem
import Derived.Test.YtllfmaflodbieaaGreatDoorKR06uR08
import Derived.Shelf.SlGeneric
import Derived.Shelf.SlLaysM
set_option linter.all false
set_option maxHeartbeats 8000000
namespace Go.Proofs.YtllfmaflodbieaaGreatDoor
section
open Go.RowKit
def KQ (t:V) (k:Nat):List ByteArray:=(List.range k).map t.keyAt
theorem Wh (t:V) (k:Nat):KQ t (k+1)=KQ t k++[t.keyAt k]:=by simp[KQ,List.range_succ]
theorem XC (t:V) (k:Nat):(KQ t k).length=k:=by simp[KQ]
theorem Xl (t:V) {k:Nat}(h:k<t.kids.length):(t.enc.map CellD.cs)[kp t.kids k]? = some [.int .i64 t.kids[k].kind,.int .i64 t.kids[k].num,.str t.kids[k].text,.str (t.keyAt k),.int .i64 t.kids[k].kids.length]:=by
 have h1:=UK t h
 have h2:t.enc[kp t.kids k]? = some ⟨t.kids[k].kind,t.kids[k].num,t.kids[k].text,t.keyAt k,t.kids[k].kids.length⟩:=by
  have h3:(t.enc.drop (kp t.kids k))[0]? = t.enc[kp t.kids k]?:=by rw[List.getElem?_drop];rfl
  rw[←h3,h1,L5]
  rfl
 rw[List.getElem?_map,h2]
 rfl
set_option maxRecDepth 10000
theorem TR {t:V}(hw:t.wf) (hc:t.count≤200):AC Tryz.prog 114 [Iw t.enc] [] (.c (.sl ((KQ t t.kids.length).map CX))) []:=by
 have hkl:=Kg hc
 have hkn:=Mk t t.kids.length
 have hch:=T7 hw hc
 refine JI Tryz.func114 Tryz.ntmps114 ?_
 refine JV q9 ?_
 refine w9 (Ja [] hch) q9 ?_
 refine JV q9 ?_
 refine Jz (κ:=Nat) (fun k=>⟨mkS 0 27 [(0,Iw t.enc),(3,.own (3,0)),(4,.c (.sl ((Ls t t.kids.length).map Dd))),(5,.c (.int .i64 k))],
   [((3,0),.row false 1 9 ((KQ t k).map CX))]⟩)
  (fun k=>k≤t.kids.length) (fun k=>t.kids.length-k) 0 (Nat.zero_le _) ?_ ?_
 ·(apply (F7.of [((3,0),(6,0))] []);(iterate 2 ((focus (simp only[go_sem,Nat.reduceEqDiff,Nat.reduceAdd,Nat.reduceSub,Nat.reduceLeDiff,Nat.reduceMul,Nat.reduceBEq,Nat.reduceLT,Int.reduceToNat,reduceCtorEq,KQ];try (and_intros<;>rfl)));(focus exact rfl)));(iterate 4 (focus (simp[go_sem,KQ];done))))
 ·intro k hk
  by_cases hlt:k<t.kids.length
  ·have hd:decide ((k:Int)<(t.kids.length:Int))=true:=by simpa using hlt
   have hw1:=JX (k:=k) (by omega)
   have h1:(KQ t k).length+1≤1000000:=by rw[XC];omega
   have hr1:B4 ((Ls t t.kids.length).map Dd) 1 k=true:=by simp[B4,Ls,hlt,Dd]
   have hg1:((Ls t t.kids.length).map Dd)[k]? = some [.int .i64 ((kp t.kids k:Nat):Int)]:=by simp[Ls,hlt,Dd]
   have hg2:=Xl t hlt
   have hr2:B4 (t.enc.map CellD.cs) 5 ((kp t.kids k:Nat):Int)=true:=by unfold B4;rw[Int.toNat_natCast,hg2];simp
   have hn:(KQ t k).map CX++[[.str (t.keyAt k)]]=(KQ t (k+1)).map CX:=by rw[Wh,List.map_append];rfl
   refine JV (j8 hd hkn hr1 hg1 hr2 hg2 h1 hw1) ?_
   refine⟨k+1,by omega,by omega,?_⟩
   exact JQ (F7.of [((3,0),(25,0))] []) hn
  ·have hd:decide ((k:Int)<(t.kids.length:Int))=false:=by simpa using hlt
   have hke:k=t.kids.length:=by omega
   refine JV (j2 hkn hd) ?_
   subst hke
   exact JJ (JN [] [(3,0)]) Tryz.results114 hd
theorem XE (ps:List V) (hc:(Ir ps).count≤500000):AC Tryz.prog 77 [.c (.sl ((ps.map V.enc).map CH))] [] (.own (0,0)) [((0,0),.row false 5 115 ((Ir ps).enc.map CellD.cs))]:=by
 have hcl:=KA ps
 have hcc:=Zm ps
 obtain⟨R,hR⟩:∃R:Nat→List CellD,∀k,R k=(Ir ps).enc.take (kp (Ir ps).kids k):=⟨_,fun _=>rfl⟩
 have h0:(R 0).map CellD.cs=[[.int .i64 5,.int .i64 0,.str ByteArray.empty,.str ByteArray.empty,.int .i64 ps.length]]:=by
  rw[hR,NG];rfl
 refine JI Tryz.func77 Tryz.ntmps77 ?_
 refine JV q9 ?_
 refine Jz (κ:=Nat) (fun k=>⟨mkS 0 22 [(0,.c (.sl ((ps.map V.enc).map CH))),(3,.own (3,0)),(4,.c (.int .i64 k))],
   [((3,0),.row false 5 115 ((R k).map CellD.cs))]⟩)
  (fun k=>k≤ps.length) (fun k=>ps.length-k) 0 (Nat.zero_le _) ?_ ?_
 ·exact JQ (F7.of [((3,0),(8,0))] []) h0
 ·intro k hk
  by_cases hlt:k<ps.length
  ·have hd:decide ((k:Int)<(ps.length:Int))=true:=by simpa using hlt
   have hw1:=JX (k:=k) (by omega)
   have hr1:B4 ((ps.map V.enc).map CH) 1 k=true:=by simp[B4,hlt,CH]
   have hg1:((ps.map V.enc).map CH)[k]? = some [.sl (ps[k].enc.map CellD.cs)]:=by simp[hlt,CH]
   have hts:=Nf (Ir ps) (i:=k) hlt
   have h56:(Ir ps).kind≠6:=show (5:Int)≠6 by decide
   rw[Sj h56,←hR,←hR]at hts
   have htl:=NF (Ir ps) k
   have hkl:=OY (Ir ps) k
   have hm:=K7 (List.getElem_mem hlt)
   have hel:=KU ps[k]
   have h1:(R k).length+ps[k].enc.length≤1000000:=by rw[hR,htl,hel];omega
   have hn:(R k).map CellD.cs++ps[k].enc.map CellD.cs=(R (k+1)).map CellD.cs:=by
    rw[hts,List.map_append];rfl
   generalize ps[k]=u at *
   refine JV (j5 hd hr1 hg1 h1 hw1) ?_
   refine⟨k+1,by omega,by omega,?_⟩
   exact JQ (F7.of [((3,0),(20,0))] []) hn
  ·have hd:decide ((k:Int)<(ps.length:Int))=false:=by simpa using hlt
   have hke:k=ps.length:=by omega
   have hall:R k=(V.mk 5 0 ByteArray.empty [] ps).enc:=by rw[hR,hke];exact NE (Ir ps)
   refine JV hd ?_
   exact JJ (JN [((0,0),(3,0))] []) Tryz.results77 hall
def keep (b:Bool) (p:List V×V):Bool:=!b||p.2.kids.isEmpty
def DQ (p:List V):List C:=[.sl ((p.map V.enc).map CH)]
theorem GL (l:List (List V)):((l.map DQ).all fun r=>r.length==1)=true:=by simp[DQ]
theorem IF (p:List V):KP (DQ p)=DQ p:=rfl
theorem EG (l:List (List V)):Ac (l.map DQ)=l.map DQ:=AH _ IF l
attribute [go_sem] GL EG
set_option maxRecDepth 10000
def N1 (xs:List CellD):List C:=[.osl (xs.map CellD.cs)]
def Cs (w:World):List (List CellD)→List Value→List Nat→Prop
 | [],vs,bs=>vs=[]∧bs=[]
 |x::l,vs,bs=>∃v vs' b1 b2,vs=v::vs'∧bs=b1++b2∧CR w (fun _=>False) (.osl (x.map CellD.cs)) v b1∧Cs w l vs' b2
theorem Cs.length {w:World}:∀{l:List (List CellD)}{vs:List Value}{bs:List Nat},Cs w l vs bs→vs.length=l.length
 | [],vs,bs,h=>by rw[h.1];rfl
 |x::l,vs,bs,h=>by
  obtain⟨v,vs',b1,b2,rfl,rfl,h1,h2⟩:=h
  simp[Cs.length h2]
theorem Cs.keep {w w':World}(hz:w.heap.size≤w'.heap.size):∀{l:List (List CellD)}{vs:List Value}{bs:List Nat},(∀b,b∈bs→b<w.heap.size→w'.heap[b]? = w.heap[b]?)→Cs w l vs bs→Cs w' l vs bs
 | [],vs,bs,_,h=>h
 |x::l,vs,bs,hb,h=>by
  obtain⟨v,vs',b1,b2,rfl,rfl,h1,h2⟩:=h
  exact⟨v,vs',b1,b2,rfl,rfl,CR.keep hz (fun b hf=>hf.elim) (fun b hb1=>hb b (by simp[hb1])) h1,Cs.keep hz (fun b hb2=>hb b (by simp[hb2])) h2⟩
theorem Cs.at_ {w:World}:∀{l:List (List CellD)}{vs:List Value}{bs:List Nat},Cs w l vs bs→bs.Nodup→∀{i:Nat}(hi:i<l.length),∃v bi,vs[i]? = some v∧CR w (fun _=>False) (.osl (l[i].map CellD.cs)) v bi∧(∀b,b∈bi→b∈bs) ∧
  ∀(w':World) (y:List CellD),w.heap.size≤w'.heap.size→CR w' (fun _=>False) (.osl (y.map CellD.cs)) v bi→(∀b,b∈bs→b ∉ bi→b<w.heap.size→w'.heap[b]? = w.heap[b]?)→Cs w' (l.set i y) vs bs
 | [],vs,bs,_,_,i,hi=>by simp at hi
 |x::l,vs,bs,h,hnd,0,_=>by
  obtain⟨v,vs',b1,b2,rfl,rfl,h1,h2⟩:=h
  refine⟨v,b1,rfl,h1,fun b hb=>by simp[hb],fun w' y hz hy hk=>⟨v,vs',b1,b2,rfl,rfl,hy,Cs.keep hz (fun b hb=>hk b (by simp[hb]) ?_) h2⟩⟩
  intro hb1
  exact (List.nodup_append.1 hnd).2.2 b hb1 b hb rfl
 |x::l,vs,bs,h,hnd,i+1,hi=>by
  obtain⟨v,vs',b1,b2,rfl,rfl,h1,h2⟩:=h
  obtain⟨v1,bi,g1,g2,g3,g4⟩:=Cs.at_ h2 (List.nodup_append.1 hnd).2.1 (i:=i) (by simpa using hi)
  refine⟨v1,bi,by simpa using g1,by simpa using g2,fun b hb=>by simp[g3 b hb],fun w' y hz hy hk=>⟨v,vs',b1,b2,rfl,rfl,CR.keep hz (fun b hf=>hf.elim) (fun b hb=>hk b (by simp[hb]) ?_) h1,g4 w' y hz hy fun b hb=>hk b (by simp[hb])⟩⟩
  intro hbi
  exact (List.nodup_append.1 hnd).2.2 b hb b (g3 b hbi) rfl
theorem Rh {p:Id×AO}{i:Id}{o:AO}(h:Mem.get [p] i=some o):i=p.1∧o=p.2:=by
 obtain⟨a,b⟩:=p
 simp only[Mem.get,List.lookup_cons,List.lookup_nil]at h
 split at h
 ·rename_i hq
  exact⟨by simpa using hq,(Option.some.inj h).symm⟩
 ·cases h
theorem Dt {w:World}{base:Nat}{e:TypeId}{es n:Nat}{v:Value}{cs:List Value}(h:w.ownsRow base e es v n cs) {b:Nat}(hb:v.ownBlock=some b):base≤b∧b<w.heap.size:=by
 rcases h.2 with⟨rfl,_⟩ | ⟨g,cap,cur,rfl,hg,hh,_⟩
 ·cases hb
 ·have:g=b:=by simpa [Value.ownBlock] using hb
  subst this
  exact⟨hg,(Array.getElem?_eq_some_iff.1 hh).1⟩
theorem Ef {w:World}{base:Nat}{e:TypeId}{es n:Nat}{v:Value}{cs:List Value}(h:w.ownsRow base e es v n cs):w.ownsRow 0 e es v n cs:=by
 refine⟨h.1,?_⟩
 rcases h.2 with h | ⟨g,cap,cur,e1,hg,r⟩
 ·exact .inl h
 ·exact .inr ⟨g,cap,cur,e1,Nat.zero_le _,r⟩
theorem AC.of_row {P:Program}{f:FuncId}{args:List AV}{es:Nat}{e:TypeId}{rows:List (List C)}(hc:As rows=true)
  (h:∀(S:Nat→Prop) (w:World) (κ:Id→Value) (Bh:List Value),ARs w S [] κ args Bh→Calls P f Bh.toArray w fun e1 w'=>Below w.heap.size w w'∧∃v vrows,e1=.returned v∧A0 w' (fun _=>False) rows vrows []∧(∀x∈vrows,x.length=es)∧w'.ownsRow w.heap.size e es v rows.length vrows.flatten) :
  AC P f args [] (.own (0,0)) [((0,0),.row false es e rows)]:=by
 intro Γ Bh hE hA
 have how:∀b,Γ.ow b=none:=by
  intro b
  cases hb:Γ.ow b with
  |none=>rfl
  |some i=>obtain⟨_,o,h1,_⟩:=hE.own b i hb;simp[Mem.get]at h1
 refine (h _ _ _ _ hA).mono ?_
 rintro e1 w' ⟨hb,v,vrows,rfl,h1,h2,h3⟩
 refine⟨v,fun b=>if v.ownBlock=some b then some (0,0) else none,fun _=>v,rfl,⟨⟨EP h3,_,rfl,fun _=>rfl⟩,?_,?_,hb.os,hb.tape,hb.output,hb.size,?_,fun i o o' h=>(by simp[Mem.get]at h)⟩⟩
 ·intro i o hi
  obtain⟨rfl,rfl⟩:=Rh hi
  refine⟨vrows,[],A0.closed hc h1,fun _=>rfl,h2,Ef h3,?_,fun b hb=>?_⟩
  ·show (v.ownBlock.toList++[]).Nodup
   cases v.ownBlock<;>simp
  ·have hb':b∈v.ownBlock.toList++[]:=hb
   have:v.ownBlock=some b:=by simpa using hb'
   exact if_pos this
 ·intro b i hbi
  split at hbi
  ·rename_i hv
   refine⟨(Dt h3 hv).2,.row false es e rows,?_,rfl⟩
   rw[←Option.some.inj hbi]
   rfl
  ·cases hbi
 ·intro b hl _
  refine⟨hb.block b hl,?_⟩
  refine if_neg fun hv=>?_
  have:=(Dt h3 hv).1
  omega
theorem Cg (l:List CellD):As (l.map CellD.cs)=true:=by
 induction l with
 |nil=>rfl
 |cons c l ih=>simp only[List.map_cons,As,ih,Bool.and_true];rfl
attribute [go_sem] Cg AO.closed
end
section
open Go.RowKit Go.Shelf
def Xr:Ren where
 f:=fun x=>match x with
  | 173=>149
  | 246=>204
  | 283=>244
  | 284=>245
  | 285=>246
  | 286=>247
  | 129=>271
  | 317=>270
  | 318=>272
  | 319=>273
  | 320=>274
  | 337=>293
  | 338=>294
  |n=>n
 t:=fun x=>match x with
  | 2=>2
  | 3=>3
  | 9=>9
  | 4=>4
  | 171=>269
  | 0=>0
  | 53=>249
  | 37=>29
  | 5=>5
  | 173=>272
  | 212=>290
  | 51=>233
  | 20=>20
  | 213=>291
  | 46=>194
  | 232=>345
  | 233=>346
  |n=>n
 g:=fun x=>match x with
  | 17=>1
  | 18=>4
  | 19=>5
  |n=>n
theorem W2:LaysM.n173 Tryz.prog Xr where
 mixed:=C6
 f129:=by kernel_rfl
 f173:=by kernel_rfl
 f246:=by kernel_rfl
 f283:=by kernel_rfl
 f284:=by kernel_rfl
 f285:=by kernel_rfl
 f286:=by kernel_rfl
 f317:=by kernel_rfl
 f318:=by kernel_rfl
 f319:=by kernel_rfl
 f320:=by kernel_rfl
 f337:=by kernel_rfl
 f338:=by kernel_rfl
 t0:=Tryz.underlying0
 a0:=Tryz.isAgg0
 z0:=Tryz.sizeOf0
 v0:=Tryz.zeroValue0
 t2:=Tryz.underlying2
 a2:=Tryz.isAgg2
 z2:=Tryz.sizeOf2
 v2:=Tryz.zeroValue2
 t3:=Tryz.underlying3
 a3:=Tryz.isAgg3
 z3:=Tryz.sizeOf3
 v3:=Tryz.zeroValue3
 t4:=Tryz.underlying4
 a4:=Tryz.isAgg4
 z4:=Tryz.sizeOf4
 v4:=Tryz.zeroValue4
 t5:=Tryz.underlying5
 a5:=Tryz.isAgg5
 z5:=Tryz.sizeOf5
 v5:=Tryz.zeroValue5
 t9:=Tryz.underlying9
 a9:=Tryz.isAgg9
 z9:=Tryz.sizeOf9
 v9:=Tryz.zeroValue9
 t20:=Tryz.underlying20
 a20:=Tryz.isAgg20
 z20:=Tryz.sizeOf20
 v20:=Tryz.zeroValue20
 t37:=Tryz.underlying29
 a37:=Tryz.isAgg29
 z37:=Tryz.sizeOf29
 v37:=Tryz.zeroValue29
 t46:=Tryz.underlying194
 a46:=Tryz.isAgg194
 z46:=Tryz.sizeOf194
 v46:=Tryz.zeroValue194
 t51:=Tryz.underlying233
 a51:=Tryz.isAgg233
 z51:=Tryz.sizeOf233
 v51:=Tryz.zeroValue233
 t53:=Tryz.underlying249
 a53:=Tryz.isAgg249
 z53:=Tryz.sizeOf249
 v53:=Tryz.zeroValue249
 t171:=Tryz.underlying269
 a171:=Tryz.isAgg269
 z171:=Tryz.sizeOf269
 v171:=Tryz.zeroValue269
 t173:=Tryz.underlying272
 a173:=Tryz.isAgg272
 z173:=Tryz.sizeOf272
 v173:=Tryz.zeroValue272
 t212:=Tryz.underlying290
 a212:=Tryz.isAgg290
 z212:=Tryz.sizeOf290
 v212:=Tryz.zeroValue290
 t213:=Tryz.underlying291
 a213:=Tryz.isAgg291
 z213:=Tryz.sizeOf291
 t232:=Tryz.underlying345
 a232:=Tryz.isAgg345
 z232:=Tryz.sizeOf345
 v232:=Tryz.zeroValue345
 t233:=Tryz.underlying346
 a233:=Tryz.isAgg346
 z233:=Tryz.sizeOf346
 v233:=Tryz.zeroValue346
 g17:=by kernel_rfl
 g18:=by kernel_rfl
 g19:=by kernel_rfl
 i0:=by kernel_rfl
 i2:=by kernel_rfl
 i3:=by kernel_rfl
 i4:=by kernel_rfl
 i5:=by kernel_rfl
 i9:=by kernel_rfl
 i20:=by kernel_rfl
 i37:=by kernel_rfl
 i46:=by kernel_rfl
 i51:=by kernel_rfl
 i53:=by kernel_rfl
 i171:=by kernel_rfl
 i173:=by kernel_rfl
 i212:=by kernel_rfl
 i232:=by kernel_rfl
 i233:=by kernel_rfl
 m17:=by kernel_rfl
 m18:=by kernel_rfl
 m19:=by kernel_rfl
def Ps (o : Obj) (b : Nat) (_ : Value) (_ : List (List Value)) (obj : Obj) : Prop := obj = o ∧ Tryz.prog.globalNamed "internal/strconv.uint64pow10" = some b ∧ ∀ w : World, w.heap[b]? = some obj → Lib.TabIs Tryz.prog w "internal/strconv.uint64pow10" .u64 Lib.pow10Tab
abbrev Nk (o:Obj):Mem:=[((8,0),.blk (Ps o) [])]
theorem AC.of_tab {o:Obj}{f:FuncId}{args:List AV}{res:AV}
  (h : ∀ (S : Nat → Prop) (w : World) (m : Mem) (κ : Id → Value) (Bh : List Value), Lib.TabIs Tryz.prog w "internal/strconv.uint64pow10" .u64 Lib.pow10Tab → ARs w S m κ args Bh → Calls Tryz.prog f Bh.toArray w fun e w' => Below w.heap.size w w' ∧ ∃ v, e = .returned v ∧ ∀ T : Nat → Prop, (∀ b, S b → T b) → (∀ b, w.heap.size ≤ b → T b) → AR w' T m κ res v) : AC Tryz.prog f args (Nk o) res (Nk o) := by
 intro Γ Bh hE hA
 obtain⟨b,obj,vrows,h1,h2,h3,h4⟩:=hE.objs (8,0) _ rfl
 refine (h _ _ _ _ _ (h4.2.2 _ h2) hA).mono ?_
 rintro e w' ⟨hb,v,rfl,hv⟩
 have hlt:∀b i,Γ.ow b=some i→b < Γ.w.heap.size:=fun b i hbi=>(hE.own b i hbi).1
 have hnone:∀b,Γ.w.heap.size≤b→Γ.ow b=none:=by
  intro b hb
  cases hbi:Γ.ow b with
  |none=>rfl
  |some i=>have:=hlt b i hbi;omega
 refine⟨v,Γ.ow,Γ.κ,rfl,⟨hv _ (fun _ h=>h) (fun b hb=>⟨hnone b hb,.inr (.inl hb)⟩),?_,?_,hb.os,hb.tape,hb.output,hb.size,fun b hl ho=>⟨hb.block b hl,ho⟩,fun i o1 o2 _ _=>rfl⟩⟩
 ·intro i o' hi
  obtain⟨rfl,rfl⟩:i=(8,0)∧o'=.blk (Ps o) []:=by
   simp only[Mem.get,List.lookup_cons,List.lookup_nil]at hi
   by_cases hq:i=(8,0)
   ·subst hq
    simpa [eq_comm] using hi
   ·have:(i==((8,0):Id))=false:=by simpa using hq
    rw[this]at hi
    cases hi
  refine⟨b,obj,vrows,h1,(hb.block b (hlt b _ h1)).trans h2,?_,h4⟩
  simp only[A0]at h3 ⊢
  exact h3
 ·intro b i hbi
  obtain⟨k1,o1,k2,k3⟩:=hE.own b i hbi
  exact⟨Nat.lt_of_lt_of_le k1 hb.size,o1,k2,k3⟩
def JE (n:Int):ByteArray:=⟨(Lib.itoa n).toArray⟩
theorem PH {o:Obj}(n:Int) (h0:-9223372036854775808≤n) (h1:n≤9223372036854775807):AC Tryz.prog 149 [.c (.int .i64 n),.c (.int .i64 10)] (Nk o) (.c (.str (JE n))) (Nk o):=by
 refine AC.of_tab fun S w m κ Bh ht hv=>?_
 obtain⟨v,vs,rfl,⟨rfl,_⟩,u,us,rfl,⟨rfl,_⟩,rfl⟩:=hv
 refine (Any.strconv_FormatInt_10 W2 n h0 h1 w ht).mono ?_
 rintro e w' ⟨rfl,k,os,rfl⟩
 exact⟨⟨rfl,rfl,rfl,by simp[Sort.grow],fun b hb=>Sort.heap_grow_old (w.drewN k) os hb⟩,_,rfl,fun T _ _=>⟨rfl,rfl⟩⟩
end
section
open Go.RowKit
set_option maxRecDepth 10000
theorem Lg (a b:List UInt8):(⟨a.toArray⟩:ByteArray)++⟨b.toArray⟩=⟨(a++b).toArray⟩:=by
 apply ByteArray.ext
 simp
theorem QF (n:Nat) (h:n≤9223372036854775807):(⟨(Lib.decDigits n).toArray⟩:ByteArray).size≤21:=by
 have h1:=Lib.itoa_length_le n (by omega) (by omega)
 rw[Lib.itoa_nonneg]at h1
 show (Lib.decDigits n).toArray.size≤21
 simpa using h1
theorem QE (n:Nat) (h:n<10):Kb [UInt8.ofNat (48+n)]=[[.int .u8 (48+(n:Int))]]:=by
 have:(UInt8.ofNat (48+n)).toNat=48+n:=by simp;omega
 simp only[Kb,List.map_cons,List.map_nil,this]
 rfl
theorem Zf {n:Int}(h0:0≤n) (h1:n<256):IntKind.u8.wrap n=n:=IntWalk.u8_in _ (by omega)
theorem Tw:∀(k n:Nat),n<k→n≤9223372036854775807→AC Tryz.prog 202 [.c (.int .i64 n)] [] (.c (.str ⟨(Lib.decDigits n).toArray⟩)) []:=by
 intro k
 induction k with
 |zero=>intro n h;omega
 |succ k ih =>
  intro n hn hm
  have t1:=Tryz.underlying29
  have t2:=Tryz.underlying5
  have t3:=Tryz.underlying9
  by_cases h:n<10
  ·have hd:decide ((n:Int)<10)=true:=decide_eq_true (by omega)
   have hb:=QE n h
   have h1:IntKind.i64.wrap (48+(n:Int))=48+(n:Int):=IntWalk.i64_in _ (by omega)
   have h2:IntKind.u8.wrap (48+(n:Int))=48+(n:Int):=Zf (by omega) (by omega)
   rw[Lib.decDigits_one h]
   generalize hy:(⟨[UInt8.ofNat (48+n)].toArray⟩:ByteArray)=y
   refine JI Tryz.func202 Tryz.ntmps202 ?_
   refine JV (j3 hd h1 h2) ?_
   (apply (Z1 [UInt8.ofNat (48+n)] hy (by simp) t1 t2 t3);(focus (first | (simp only[go_sem,Nat.reduceEqDiff,Nat.reduceAdd,Nat.reduceSub,Nat.reduceLeDiff,Nat.reduceMul,Nat.reduceBEq,Nat.reduceLT,Int.reduceToNat,reduceCtorEq];first | done | exact rfl | (and_intros<;>rfl)) | exact rfl | decide));(focus (first | (simp only[go_sem,Nat.reduceEqDiff,Nat.reduceAdd,Nat.reduceSub,Nat.reduceLeDiff,Nat.reduceMul,Nat.reduceBEq,Nat.reduceLT,Int.reduceToNat,reduceCtorEq];first | done | exact rfl | (and_intros<;>rfl)) | exact rfl | decide));(focus (first | (simp only[go_sem,Nat.reduceEqDiff,Nat.reduceAdd,Nat.reduceSub,Nat.reduceLeDiff,Nat.reduceMul,Nat.reduceBEq,Nat.reduceLT,Int.reduceToNat,reduceCtorEq];first | done | exact rfl | (and_intros<;>rfl)) | exact rfl | decide));(focus (first | (simp only[go_sem,Nat.reduceEqDiff,Nat.reduceAdd,Nat.reduceSub,Nat.reduceLeDiff,Nat.reduceMul,Nat.reduceBEq,Nat.reduceLT,Int.reduceToNat,reduceCtorEq,hb];first | done | exact rfl | (and_intros<;>rfl)) | exact rfl | decide));(focus (first | (simp only[go_sem,Nat.reduceEqDiff,Nat.reduceAdd,Nat.reduceSub,Nat.reduceLeDiff,Nat.reduceMul,Nat.reduceBEq,Nat.reduceLT,Int.reduceToNat,reduceCtorEq];first | done | exact rfl | (and_intros<;>rfl)) | exact rfl | decide));(focus (first | (simp only[go_sem,Nat.reduceEqDiff,Nat.reduceAdd,Nat.reduceSub,Nat.reduceLeDiff,Nat.reduceMul,Nat.reduceBEq,Nat.reduceLT,Int.reduceToNat,reduceCtorEq];first | done | exact rfl | (and_intros<;>rfl)) | exact rfl | decide)))
   refine JV (j3 hd h1 h2) ?_
   exact JW (Iu []) Tryz.results202
  ·have hd:decide ((n:Int)<10)=false:=decide_eq_false (by omega)
   have hq:IntKind.i64.wrap ((n:Int).tdiv 10)=((n / 10:Nat):Int):=by
    rw[show ((n:Int).tdiv 10)=((n / 10:Nat):Int) by rw[Int.tdiv_eq_ediv_of_nonneg (by omega)];rfl]
    exact IntWalk.i64_in _ (by omega)
   have hr:(n:Int).tmod 10=((n % 10:Nat):Int):=by rw[Int.tmod_eq_emod_of_nonneg (by omega)];rfl
   have hrw:IntKind.i64.wrap ((n % 10:Nat):Int)=((n % 10:Nat):Int):=IntWalk.i64_in _ (by omega)
   have h1:IntKind.i64.wrap (48+((n % 10:Nat):Int))=48+((n % 10:Nat):Int):=IntWalk.i64_in _ (by omega)
   have h2:IntKind.u8.wrap (48+((n % 10:Nat):Int))=48+((n % 10:Nat):Int):=Zf (by omega) (by omega)
   have hb:=QE (n % 10) (by omega)
   have ihn:=ih (n / 10) (by omega) (by omega)
   have hs1:=QF (n / 10) (by omega)
   have hs2:(⟨(Lib.decDigits (n / 10)).toArray⟩:ByteArray).size+(⟨[UInt8.ofNat (48+n % 10)].toArray⟩:ByteArray).size≤9223372036854775807:=by
    have:(⟨[UInt8.ofNat (48+n % 10)].toArray⟩:ByteArray).size=1:=rfl
    omega
   have happ:(⟨(Lib.decDigits (n / 10)).toArray⟩:ByteArray)++⟨[UInt8.ofNat (48+n % 10)].toArray⟩=⟨(Lib.decDigits n).toArray⟩:=by
    rw[Lg]
    congr 2
    rw[Lib.decDigits.eq_1 n,dif_neg h]
   generalize hx:(⟨(Lib.decDigits (n / 10)).toArray⟩:ByteArray)=x at *
   generalize hm0:n % 10=m0 at *
   generalize hy:(⟨[UInt8.ofNat (48+m0)].toArray⟩:ByteArray)=y at *
   refine JI Tryz.func202 Tryz.ntmps202 ?_
   refine JV (j6 hd hq hr hrw h1 h2) ?_
   refine w7 (Ju [] ihn) q9 ?_
   refine JV (j6 hd hq hr hrw h1 h2) ?_
   (apply (Z1 [UInt8.ofNat (48+m0)] hy (by simp) t1 t2 t3);(focus (first | (simp only[go_sem,Nat.reduceEqDiff,Nat.reduceAdd,Nat.reduceSub,Nat.reduceLeDiff,Nat.reduceMul,Nat.reduceBEq,Nat.reduceLT,Int.reduceToNat,reduceCtorEq];first | done | exact rfl | (and_intros<;>rfl)) | exact rfl | decide));(focus (first | (simp only[go_sem,Nat.reduceEqDiff,Nat.reduceAdd,Nat.reduceSub,Nat.reduceLeDiff,Nat.reduceMul,Nat.reduceBEq,Nat.reduceLT,Int.reduceToNat,reduceCtorEq];first | done | exact rfl | (and_intros<;>rfl)) | exact rfl | decide));(focus (first | (simp only[go_sem,Nat.reduceEqDiff,Nat.reduceAdd,Nat.reduceSub,Nat.reduceLeDiff,Nat.reduceMul,Nat.reduceBEq,Nat.reduceLT,Int.reduceToNat,reduceCtorEq];first | done | exact rfl | (and_intros<;>rfl)) | exact rfl | decide));(focus (first | (simp only[go_sem,Nat.reduceEqDiff,Nat.reduceAdd,Nat.reduceSub,Nat.reduceLeDiff,Nat.reduceMul,Nat.reduceBEq,Nat.reduceLT,Int.reduceToNat,reduceCtorEq,hb];first | done | exact rfl | (and_intros<;>rfl)) | exact rfl | decide));(focus (first | (simp only[go_sem,Nat.reduceEqDiff,Nat.reduceAdd,Nat.reduceSub,Nat.reduceLeDiff,Nat.reduceMul,Nat.reduceBEq,Nat.reduceLT,Int.reduceToNat,reduceCtorEq];first | done | exact rfl | (and_intros<;>rfl)) | exact rfl | decide));(focus (first | (simp only[go_sem,Nat.reduceEqDiff,Nat.reduceAdd,Nat.reduceSub,Nat.reduceLeDiff,Nat.reduceMul,Nat.reduceBEq,Nat.reduceLT,Int.reduceToNat,reduceCtorEq];first | done | exact rfl | (and_intros<;>rfl)) | exact rfl | decide)))
   refine JV (j2 hs2 happ) ?_
   exact JW (Iu []) Tryz.results202
theorem O6 {n:Int}(h:¬n<0):Lib.itoa n=Lib.decDigits n.toNat:=by unfold Lib.itoa;rw[if_neg h]
theorem QK {n:Int}(h:n<0):Lib.itoa n=45::Lib.decDigits n.natAbs:=by unfold Lib.itoa;rw[if_pos h]
theorem Xi (n:Int) (h0:-9223372036854775807≤n) (h1:n≤9223372036854775807):AC Tryz.prog 137 [.c (.int .i64 n)] [] (.c (.str (JE n))) []:=by
 by_cases h:n<0
 ·have hd:decide (n<0)=true:=decide_eq_true h
  have hw:IntKind.i64.wrap (0-n)=((n.natAbs:Nat):Int):=by rw[IntWalk.i64_in _ (by omega)];omega
  have hc:=Tw (n.natAbs+1) n.natAbs (by omega) (by omega)
  have hs:=QF n.natAbs (by omega)
  have happ:(⟨#[45]⟩:ByteArray)++⟨(Lib.decDigits n.natAbs).toArray⟩=JE n:=by
   unfold JE
   rw[QK h]
   exact Lg [45] _
  have hsz:1+(⟨(Lib.decDigits n.natAbs).toArray⟩:ByteArray).size≤9223372036854775807:=by omega
  generalize (⟨(Lib.decDigits n.natAbs).toArray⟩:ByteArray)=x at *
  refine JI Tryz.func137 Tryz.ntmps137 ?_
  refine JV (j2 hd hw) ?_
  refine w7 (Ju [] hc) q9 ?_
  refine JV (j2 hsz happ) ?_
  exact JW (Iu []) Tryz.results137
 ·have hd:decide (n<0)=false:=decide_eq_false h
  have hc:=Tw (n.toNat+1) n.toNat (by omega) (by omega)
  have hn:((n.toNat:Nat):Int)=n:=by omega
  have hx:(⟨(Lib.decDigits n.toNat).toArray⟩:ByteArray)=JE n:=by
   unfold JE
   rw[O6 h]
  rw[hn,hx]at hc
  refine JI Tryz.func137 Tryz.ntmps137 ?_
  refine JV hd ?_
  refine w7 (Ju [] hc) q9 ?_
  refine JV q9 ?_
  exact JW (Iu []) Tryz.results137
set_option maxRecDepth 10000
theorem LL (s:ByteArray) (hs:s.size≤1000000):AC Tryz.prog 108 [.c (.str s)] [] (.c (.str (HH s))) []:=by
 refine AC.of_calls fun S w κ vs hv=>?_
 obtain⟨v,vs',rfl,⟨rfl,_⟩,rfl⟩:=hv
 refine (FK s hs w).mono ?_
 rintro e w' ⟨rfl,hb⟩
 exact⟨hb,_,rfl,fun T _ _=>⟨rfl,rfl⟩⟩
def NX (s:ByteArray) (k:Nat):ByteArray:=⟨#[34]⟩++⟨(A6 (s.data.toList.take k)).toArray⟩
theorem Tx (s:ByteArray):NX s 0=⟨#[34]⟩:=rfl
theorem Zy (s:ByteArray) (hs:s.size≤1000000) (k:Nat):(NX s k).size≤2000001:=by
 have h1:=Cm (s.data.toList.take k)
 have h2:cz (s.data.toList.take k)≤(s.data.toList.take k).length:=List.length_filter_le _ _
 have h3:s.data.toList.length=s.size:=Array.length_toList
 have h4:(s.data.toList.take k).length≤s.data.toList.length:=by rw[List.length_take];omega
 have h5:(NX s k).size=1+(A6 (s.data.toList.take k)).length:=by
  unfold NX
  rw[ByteArray.size_append]
  rfl
 omega
theorem a0o (s:ByteArray):NX s s.size++⟨#[34]⟩=HH s:=by
 have h3:s.data.toList.length=s.size:=Array.length_toList
 unfold NX HH
 rw[←h3,List.take_length]
theorem Zx (s:ByteArray) {k:Nat}{b:UInt8}(h:s.data.toList[k]? = some b):NX s (k+1)=NX s k++⟨(AQ b).toArray⟩:=by
 obtain⟨hk,rfl⟩:=List.getElem?_eq_some_iff.1 h
 unfold NX A6
 rw[List.take_succ_eq_append_getElem hk,List.flatMap_append,←Lg,ByteArray.append_assoc]
 simp
theorem a50 {s:ByteArray}{k:Nat}(h:k<s.size):s[k]? = some s.data.toList[k]!∧s.data.toList[k]? = some s.data.toList[k]!:=by
 have h3:s.data.toList.length=s.size:=Array.length_toList
 have h4:k<s.data.toList.length:=by omega
 rw[List.getElem!_eq_getElem?_getD,List.getElem?_eq_getElem h4]
 refine⟨?_,rfl⟩
 rw[getElem?_pos s k h]
 rfl
theorem a4m {s:ByteArray}{k:Nat}{b:UInt8}(h:s.data.toList[k]? = some b):s.extract k (k+1)=⟨#[b]⟩:=by
 obtain⟨hk,rfl⟩:=List.getElem?_eq_some_iff.1 h
 apply ByteArray.ext
 apply Array.ext'
 rw[ByteArray.data_extract,Array.toList_extract,List.extract_eq_take_drop]
 rw[List.drop_eq_getElem_cons hk]
 simp
theorem SK (s:ByteArray) (hs:s.size≤1000000):AC Tryz.prog 116 [.c (.str s)] [] (.c (.str (HH s))) []:=by
 have t3:=Tryz.underlying9
 refine JI Tryz.func116 Tryz.ntmps116 ?_
 refine JP q9 ?_
 refine GH ?_
 refine JP q9 ?_
 refine GH ?_
 refine JP q9 ?_
 refine GH ?_
 refine JP q9 ?_
 refine Jz (κ:=Nat) (fun k=>⟨mkS 0 32 [(0,.c (.str s)),(3,.c (.str (NX s k))),(4,.c (.int .i64 k))],[]⟩) (fun k=>k≤s.size) (fun k=>s.size-k) 0 (Nat.zero_le _) ?_ ?_
 ·exact JQ (F7.of [] []) @Tx
 ·intro k hk1
  have hz:=Zy s hs k
  by_cases hlt:k<s.size
  ·have hdk:decide ((k:Int)<(s.size:Int))=true:=by simpa using hlt
   have hw:=JX (k:=k) (by omega)
   obtain⟨hg,hg2⟩:=a50 hlt
   generalize s.data.toList[k]! = b at *
   have hsub:=a4m hg2
   have hnx:=Zx s hg2
   have hsb:(s.extract ((k:Nat):Int).toNat (((k+1:Nat)):Int).toNat)=⟨#[b]⟩:=hsub
   have hk2:((k+1:Nat):Int)≤(s.size:Int):=by omega
   have hx1:(NX s k).size+1≤9223372036854775807:=by omega
   by_cases hsp:b=34∨b=92
   ·have hu2:(NX s k++⟨#[92]⟩).size+1≤9223372036854775807:=by rw[ByteArray.size_append];have:(⟨#[92]⟩:ByteArray).size=1:=rfl;omega
    have hnx2:(NX s k++⟨#[92]⟩)++⟨#[b]⟩=NX s (k+1):=by
     rw[hnx,ByteArray.append_assoc]
     rcases hsp with rfl | rfl<;>rfl
    generalize hu:NX s k++⟨#[92]⟩=u at *
    rcases hsp with rfl | rfl
    ·have e1:(((34:UInt8).toNat:Int)==34)=true:=rfl
     refine JV (j6 hdk hg e1 hx1 hu hw) ?_
     refine w7 (Pi (y:=⟨#[34]⟩) (i:=(k:Int)) (j:=((k+1:Nat):Int)) (s:=s) hsb (by omega) (by omega) hk2 t3) q9 ?_
     refine JV (j3 hu2 hnx2 hw) ?_
     refine⟨k+1,by omega,by omega,?_⟩
     exact JQ (F7.of [] []) q9
    ·have e1:(((92:UInt8).toNat:Int)==34)=false:=rfl
     have e2:(((92:UInt8).toNat:Int)==92)=true:=rfl
     refine JV (j7 hdk hg e1 e2 hx1 hu hw) ?_
     refine w7 (Pi (y:=⟨#[92]⟩) (i:=(k:Int)) (j:=((k+1:Nat):Int)) (s:=s) hsb (by omega) (by omega) hk2 t3) q9 ?_
     refine JV (j3 hu2 hnx2 hw) ?_
     refine⟨k+1,by omega,by omega,?_⟩
     exact JQ (F7.of [] []) q9
   ·have e1:((b.toNat:Int)==34)=false:=by
     rw[beq_eq_false_iff_ne]
     intro h
     exact hsp (.inl (UInt8.toNat_inj.1 (Int.ofNat_inj.1 h)))
    have e2:((b.toNat:Int)==92)=false:=by
     rw[beq_eq_false_iff_ne]
     intro h
     exact hsp (.inr (UInt8.toNat_inj.1 (Int.ofNat_inj.1 h)))
    have hnx2:NX s k++⟨#[b]⟩=NX s (k+1):=by
     rw[hnx]
     congr 1
     simp only[not_or]at hsp
     simp[AQ,hsp.1,hsp.2]
    refine JV (j5 hdk hg e1 e2 hw) ?_
    refine w7 (Pi (y:=⟨#[b]⟩) (i:=(k:Int)) (j:=((k+1:Nat):Int)) (s:=s) hsb (by omega) (by omega) hk2 t3) q9 ?_
    refine JV (j3 hx1 hnx2 hw) ?_
    refine⟨k+1,by omega,by omega,?_⟩
    exact JQ (F7.of [] []) q9
  ·have hdk:decide ((k:Int)<(s.size:Int))=false:=by simpa using hlt
   obtain rfl:k=s.size:=by omega
   have hx1:(NX s s.size).size+1≤9223372036854775807:=by omega
   have ha:=a0o s
   refine JV (j3 hdk hx1 ha) ?_
   exact JW (Iu []) Tryz.results116
set_option maxRecDepth 10000
theorem QJ (s:ByteArray) (hs:s.size≤9223372036854775807):AC Tryz.prog 153 [.c (.str s)] [] (.c (.bool (Fr s))) []:=by
 refine AC.of_calls fun S w κ vs hv=>?_
 obtain⟨v,vs',rfl,⟨rfl,_⟩,rfl⟩:=hv
 refine (Ly s hs w).mono ?_
 rintro e w' ⟨rfl,rfl⟩
 exact⟨Below.refl _ _,_,rfl,fun T _ _=>⟨rfl,rfl⟩⟩
theorem Qy (n lo hi:Int):AC Tryz.prog 57 [.c (.int .i64 n),.c (.int .i64 lo),.c (.int .i64 hi)] [] (.c (.bool (decide (n≥lo)&&decide (n≤hi)))) []:=by
 cases h1:decide (n≥lo)<;>cases h2:decide (n≤hi)
 all_goals
  refine JI Tryz.func57 Tryz.ntmps57 ?_
  refine JV (j2 h1 h2) ?_
  exact JW (Iu []) Tryz.results57
theorem Pp {t:V}(h:t.right):(⟨t.kind,t.num,t.text,ByteArray.empty,t.kids.length⟩:CellD).code=0:=by
 refine Mz t ByteArray.empty h.1 Ka _ ?_
 rw[L5]
 simp
theorem Mu {t:V}(h:t.right):-1000000000000000≤t.num∧t.num≤1000000000000000:=by
 have hc:=Pp h
 unfold CellD.code Ew at hc
 have hr:cR t.num (t.kids.length:Int)=false:=by
  cases hh:cR t.num (t.kids.length:Int)
  ·rfl
  ·simp only[hh]at hc
   split at hc
   ·omega
   ·split at hc
    ·omega
    ·simp at hc
 simp[cR,inB]at hr
 omega
theorem Ld {t:V}(h:t.right):Fr t.text=true:=(Ov (Pp h)).1
theorem ZE {t:V}(h:t.right) (key:ByteArray) (hk:Fr key=true):AC Tryz.prog 95 [t.av,.c (.str key)] [] (Qs (KG t key)) []:=by
 have hs:=QJ key (by have:=KI hk;omega)
 rw[hk]at hs
 by_cases h0:t.kind=0
 ·have hr:KG t key=okR Dq:=by unfold KG;rw[if_pos h0]
  have hb:(t.kind==0)=true:=by simpa using h0
  rw[hr,Vc]
  refine JI Tryz.func95 Tryz.ntmps95 ?_
  refine JV q9 ?_
  refine w7 (Ju [] hs) q9 ?_
  refine JV hb ?_
  refine w7 (Ju [] PO) q9 ?_
  refine w7 (Ju [] (S3 LT)) q9 ?_
  refine JV q9 ?_
  exact JW (Iu []) Tryz.results95
 ·have hb:(t.kind==0)=false:=by simpa using h0
  by_cases h6:t.kind=6
  ·have hr:KG t key=okR (t.member key):=by unfold KG;rw[if_neg h0,if_pos h6]
   have hb6:(t.kind != 6)=false:=by simpa using h6
   have hm:=ZU h h6 key
   have hg:=S3 (PW h h6 key)
   rw[hr,Vc]
   generalize t.member key=u at *
   refine JI Tryz.func95 Tryz.ntmps95 ?_
   refine JV q9 ?_
   refine w7 (Ju [] hs) q9 ?_
   refine JV (j2 hb hb6) ?_
   refine w9 (Ja [] hm) q9 ?_
   refine w9 (Ja [] hg) q9 ?_
   refine JV q9 ?_
   exact JW (Iu []) Tryz.results95
  ·have hr:KG t key=FX 6:=by unfold KG;rw[if_neg h0,if_neg h6]
   have hb6:(t.kind != 6)=true:=by simpa using h6
   rw[hr,Oj]
   refine JI Tryz.func95 Tryz.ntmps95 ?_
   refine JV q9 ?_
   refine w7 (Ju [] hs) q9 ?_
   refine JV (j2 hb hb6) ?_
   refine w7 (Ju [] (N3 6)) q9 ?_
   refine JV q9 ?_
   exact JW (Iu []) Tryz.results95
theorem Ms (c:Int) (t:V):Qs (c,some t)=PS 0 t:=rfl
theorem Mr (c:Int):Qs (c,none)=PS c Dq:=rfl
set_option maxRecDepth 10000
theorem Vd {xs:List CellD}{t:V}(h:dec xs=(0,some t)):xs=t.enc∧t.right:=by
 obtain⟨h1,h2,h3,h4⟩:=Pb h
 exact⟨h1,h2,h3,h4⟩
set_option maxRecDepth 10000
theorem a3w (n lo hi:Int):AC Tryz.prog 60 [.c (.int .i64 n),.c (.int .i64 lo),.c (.int .i64 hi)] [] (.c (.bool (decide (n≥lo)&&decide (n≤hi)))) []:=by
 cases h1:decide (n≥lo)<;>cases h2:decide (n≤hi)
 all_goals
  refine JI Tryz.func60 Tryz.ntmps60 ?_
  refine JV (j2 h1 h2) ?_
  exact JW (Iu []) Tryz.results60
theorem AC.of_mut {P:Program}{f:FuncId}{es:Nat}{e:TypeId}{rows rows':List (List C)}(hc:As rows'=true)
  (h:∀(S:Nat→Prop) (w:World) (v:Value) (vrows:List (List Value)),A0 w S rows vrows []→(∀x∈vrows,x.length=es)→w.ownsRow 0 e es v rows.length vrows.flatten→Calls P f #[v] w fun e1 w'=>e1=.returned (.tuple #[])∧w.grownBy w' v.ownBlock∧∃vrows',A0 w' (fun _=>False) rows' vrows' []∧(∀x∈vrows',x.length=es)∧w'.ownsRow 0 e es v rows'.length vrows'.flatten) :
  AC P f [.own (0,0)] [((0,0),.row false es e rows)] (.tup []) [((0,0),.row false es e rows')]:=by
 intro Γ Bh hE hA
 obtain⟨v,vs,rfl,hv,rfl⟩:=hA
 obtain⟨_,o,ho,hk⟩:=hv
 obtain⟨_,rfl⟩:=Rh ho
 obtain⟨vrows,bs,h1,h2,h3,h4,h5,h6⟩:=hE.objs (0,0) _ rfl
 have hbs:=h2 rfl
 subst hbs
 have hkv:=hk (by simp)
 rw[←hkv]at h4 h5 h6
 refine (h _ _ _ _ h1 h3 h4).mono ?_
 rintro e1 w' ⟨rfl,hg,vrows',g1,g2,g3⟩
 have hob:∀b,b < Γ.w.heap.size→Γ.ow b=none→some b≠v.ownBlock:=by
  intro b _ hb hv
  have:=h6 b (by simp[←hv])
  rw[hb]at this
  cases this
 refine⟨.tuple #[],Γ.ow,Γ.κ,rfl,⟨⟨[],rfl,rfl⟩,?_,?_,hg.os,hg.tape,hg.output,hg.size,?_,fun i o o' _ _=>rfl⟩⟩
 ·intro i o hi
  obtain⟨rfl,rfl⟩:=Rh hi
  refine⟨vrows',[],A0.closed hc g1,fun _=>rfl,g2,by rw[←hkv];exact g3,by rw[←hkv];exact h5,fun b hb=>h6 b (by rw[hkv];exact hb)⟩
 ·intro b i hbi
  obtain⟨k1,o,k2,k3⟩:=hE.own b i hbi
  obtain⟨rfl,_⟩:=Rh k2
  exact⟨Nat.lt_of_lt_of_le k1 hg.size,_,rfl,rfl⟩
 ·intro b hl hb
  exact⟨hg.block b hl (hob b hl hb),hb⟩
end
section
open Go.RowKit Go.Shelf
def Gx:Ren where
 f:=fun x=>match x with
  | 6=>206
  | 8=>251
  | 9=>250
  | 19=>283
  | 20=>271
  | 21=>275
  | 22=>276
  | 23=>277
  | 24=>278
  | 25=>279
  | 26=>280
  | 27=>248
  | 28=>281
  | 29=>282
  | 36=>295
  | 31=>296
  | 32=>297
  | 37=>298
  | 38=>299
  | 39=>259
  | 41=>311
  |n=>n
 t:=fun x=>match x with
  | 27=>50
  | 29=>9
  | 3=>3
  | 32=>194
  | 26=>50
  | 0=>0
  | 44=>233
  | 46=>249
  | 4=>4
  | 36=>294
  | 35=>293
  | 41=>225
  | 5=>5
  | 9=>9
  | 53=>319
  | 57=>323
  | 63=>347
  | 64=>151
  |n=>n
 g:=fun n=>n
theorem J4:SlLaysM.n6 Tryz.prog Gx where
 mixed:=C6
 f6:=⟨Tryz.f206.name,by kernel_rfl,by kernel_rfl⟩
 f8:=by kernel_rfl
 f9:=⟨Tryz.f250.name,by kernel_rfl,by kernel_rfl⟩
 f19:=by kernel_rfl
 f20:=by kernel_rfl
 f21:=⟨Tryz.f275.name,by kernel_rfl,by kernel_rfl⟩
 f22:=⟨Tryz.f276.name,by kernel_rfl,by kernel_rfl⟩
 f23:=⟨Tryz.f277.name,by kernel_rfl,by kernel_rfl⟩
 f24:=⟨Tryz.f278.name,by kernel_rfl,by kernel_rfl⟩
 f25:=⟨Tryz.f279.name,by kernel_rfl,by kernel_rfl⟩
 f26:=⟨Tryz.f280.name,by kernel_rfl,by kernel_rfl⟩
 f27:=⟨Tryz.f248.name,by kernel_rfl,by kernel_rfl⟩
 f28:=⟨Tryz.f281.name,by kernel_rfl,by kernel_rfl⟩
 f29:=⟨Tryz.f282.name,by kernel_rfl,by kernel_rfl⟩
 f31:=by kernel_rfl
 f32:=by kernel_rfl
 f36:=⟨Tryz.f295.name,by kernel_rfl,by kernel_rfl⟩
 f37:=⟨Tryz.f298.name,by kernel_rfl,by kernel_rfl⟩
 f38:=⟨Tryz.f299.name,by kernel_rfl,by kernel_rfl⟩
 f39:=⟨Tryz.f259.name,by kernel_rfl,by kernel_rfl⟩
 f41:=⟨Tryz.f311.name,by kernel_rfl,by kernel_rfl⟩
 t0:=Tryz.underlying0
 a0:=Tryz.isAgg0
 z0:=Tryz.sizeOf0
 v0:=Tryz.zeroValue0
 t3:=Tryz.underlying3
 a3:=Tryz.isAgg3
 z3:=Tryz.sizeOf3
 v3:=Tryz.zeroValue3
 t4:=Tryz.underlying4
 a4:=Tryz.isAgg4
 z4:=Tryz.sizeOf4
 v4:=Tryz.zeroValue4
 t5:=Tryz.underlying5
 a5:=Tryz.isAgg5
 z5:=Tryz.sizeOf5
 v5:=Tryz.zeroValue5
 t9:=Tryz.underlying9
 a9:=Tryz.isAgg9
 z9:=Tryz.sizeOf9
 v9:=Tryz.zeroValue9
 t26:=Tryz.underlying50
 a26:=Tryz.isAgg50
 z26:=Tryz.sizeOf50
 v26:=Tryz.zeroValue50
 t27:=Tryz.underlying50
 a27:=Tryz.isAgg50
 z27:=Tryz.sizeOf50
 v27:=Tryz.zeroValue50
 t29:=Tryz.underlying9
 a29:=Tryz.isAgg9
 z29:=Tryz.sizeOf9
 v29:=Tryz.zeroValue9
 t32:=Tryz.underlying194
 a32:=Tryz.isAgg194
 z32:=Tryz.sizeOf194
 v32:=Tryz.zeroValue194
 t35:=Tryz.underlying293
 a35:=Tryz.isAgg293
 z35:=Tryz.sizeOf293
 v35:=Tryz.zeroValue293
 t36:=Tryz.underlying294
 a36:=Tryz.isAgg294
 z36:=Tryz.sizeOf294
 v36:=Tryz.zeroValue294
 t41:=Tryz.underlying225
 a41:=Tryz.isAgg225
 z41:=Tryz.sizeOf225
 v41:=Tryz.zeroValue225
 t44:=Tryz.underlying233
 a44:=Tryz.isAgg233
 z44:=Tryz.sizeOf233
 v44:=Tryz.zeroValue233
 t46:=Tryz.underlying249
 a46:=Tryz.isAgg249
 z46:=Tryz.sizeOf249
 v46:=Tryz.zeroValue249
 t53:=Tryz.underlying319
 a53:=Tryz.isAgg319
 z53:=Tryz.sizeOf319
 v53:=Tryz.zeroValue319
 t57:=Tryz.underlying323
 a57:=Tryz.isAgg323
 z57:=Tryz.sizeOf323
 v57:=Tryz.zeroValue323
 t63:=Tryz.underlying347
 a63:=Tryz.isAgg347
 z63:=Tryz.sizeOf347
 v63:=Tryz.zeroValue347
 t64:=Tryz.underlying151
 a64:=Tryz.isAgg151
 z64:=Tryz.sizeOf151
 v64:=Tryz.zeroValue151
end
end Go.Proofs.YtllfmaflodbieaaGreatDoor
