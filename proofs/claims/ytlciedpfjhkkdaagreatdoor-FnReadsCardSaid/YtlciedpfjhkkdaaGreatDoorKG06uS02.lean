/- Texts of this proof: G06 G07 G08 G11 G14 G48 S02. -/
import Derived.Test.YtlciedpfjhkkdaaGreatDoorKG04uM23
import Derived.Deep.RegionHeld3
import Derived.Deep.RegionWith
import Derived.Shelf.SlGeneric
import Derived.Shelf.SlLaysM
set_option linter.all false
set_option maxHeartbeats 8000000
namespace Go.Proofs.YtlciedpfjhkkdaaGreatDoor
section
open Go.RowKit
def intCs (n:Int):List C:=[.int .i64 n]
def encCs (xs:List CellD):List C:=[.sl (xs.map CellD.cs)]
theorem all_ints (l:List Int):((l.map intCs).all fun r=>r.length==1)=true:=by simp[intCs]
theorem all_encs (l:List (List CellD)):((l.map encCs).all fun r=>r.length==1)=true:=by simp[encCs]
theorem fl_int (n:Int):forgetL (intCs n)=intCs n:=rfl
theorem fl_enc (xs:List CellD):forgetL (encCs xs)=encCs xs:=rfl
theorem forget_ints (l:List Int):forgetLL (l.map intCs)=l.map intCs:=forget_map _ fl_int l
theorem forget_encs (l:List (List CellD)):forgetLL (l.map encCs)=l.map encCs:=forget_map _ fl_enc l
attribute [go_sem] all_ints all_encs forget_ints forget_encs intCs encCs
theorem l1End_ac {t:V}(hw:t.wf) (hc:t.count≤200) {i:Nat}(hi:i<t.kids.length):AC Tryz.prog 171 [cellsA t.enc,.c (.int .i64 ((kp t.kids i:Nat):Int))] [] (.c (.int .i64 ((kp t.kids (i+1):Nat):Int))) []:=by
 refine AC.of_calls fun S w κ vs hv=>?_
 obtain⟨v,vs',rfl,h1,v2,vs2,rfl,h2,rfl⟩:=hv
 obtain⟨rfl,_⟩:=h2
 obtain⟨A,cap,rfl,_,hcs⟩:=cr_cells.1 h1
 have:=kp_le t i
 have hlen:=enc_len t
 have:=l1End_any t.enc (by omega) (enc_n hw) (kp t.kids i:Nat) (by omega) (by omega) A cap S w hcs
 rw[Int.toNat_natCast,end_kid hw hi (by omega)]at this
 refine this.mono ?_
 rintro e w' ⟨rfl,hb⟩
 exact⟨hb,_,rfl,fun T _ _=>⟨rfl,rfl⟩⟩
theorem crss_of {α:Type}{w:World}{S:Nat→Prop}{f:α→List C}:∀{l:List α}{rows:List (List Value)},rows.length=l.length→(∀i (h:i<l.length) row,rows[i]? = some row→CRs w S (f l[i]) row [])→CRss w S (l.map f) rows []
 | [],rows,hl,_=>by
  have:rows=[]:=List.eq_nil_of_length_eq_zero (by simpa using hl)
  subst this
  exact⟨rfl,rfl⟩
 |x::l,[],hl,_=>by simp at hl
 |x::l,r::rows,hl,h=>by
  simp only[List.map_cons,CRss]
  exact⟨r,rows,[],[],rfl,rfl,h 0 (by simp) r rfl,crss_of (by simpa using hl) fun i hi row hr=>by
   have:=h (i+1) (by simpa using hi) row (by simpa using hr)
   simpa using this⟩
theorem l1Parts_ac {t:V}(hw:t.wf) (hc:t.count≤200):AC Tryz.prog 67 [cellsA t.enc] [] (.c (.sl ((t.kids.map V.enc).map encCs))) []:=by
 refine AC.of_calls fun S w κ vs hv=>?_
 obtain⟨v,vs',rfl,h1,rfl⟩:=hv
 obtain⟨A,cap,rfl,hcap,hcs⟩:=cr_cells.1 h1
 refine (l1Parts_any t hw hc A cap hcap S w hcs).mono ?_
 rintro e w' ⟨⟨A',c',rfl,hcap',hr⟩,hb⟩
 refine⟨hb,_,rfl,fun T _ hT=>?_⟩
 obtain⟨rows,hl,hrow,hat⟩:=hr
 simp only[AR,CR]
 refine⟨1,A',c',rows,by simp,by simpa using hcap',trivial,hrow.weaken fun b hb _=>hT b hb,crss_of hl fun i hi row hri=>?_,trivial⟩
 obtain⟨Ai,ci,rfl,h3,h4⟩:=hat i hi row hri
 exact⟨_,_,[],[],rfl,rfl,cr_cells.2 ⟨Ai,ci,rfl,h3,h4.weaken fun b hb _=>hT b hb⟩,rfl,rfl⟩
set_option maxRecDepth 10000
theorem l1Number_ac (n:Int):AC Tryz.prog 100 [.c (.int .i64 n)] [] (.c (.sl ((numV n).enc.map CellD.cs))) []:=by
 have he:(numV n).enc.map CellD.cs=[[.int .i64 3,.int .i64 n,.str ByteArray.empty,.str ByteArray.empty,.int .i64 0]]:=rfl
 rw[he]
 refine wEnter Tryz.func100 Tryz.ntmps100 ?_
 refine wRUN trivial ?_
 exact wRetOf (ret_of [] [(5,0)]) Tryz.results100 he
theorem l1String_ac (s:ByteArray):AC Tryz.prog 76 [.c (.str s)] [] (.c (.sl ((strV s).enc.map CellD.cs))) []:=by
 have he:(strV s).enc.map CellD.cs=[[.int .i64 4,.int .i64 0,.str s,.str ByteArray.empty,.int .i64 0]]:=rfl
 rw[he]
 refine wEnter Tryz.func76 Tryz.ntmps76 ?_
 refine wRUN trivial ?_
 exact wRetOf (ret_of [] [(5,0)]) Tryz.results76 he
theorem l1Children_ac {t:V}(hw:t.wf) (hc:t.count≤200):AC Tryz.prog 120 [cellsA t.enc,.c (.int .i64 0)] [] (.c (.sl ((kposL t t.kids.length).map intCs))) []:=by
 have hw0:IntKind.i64.wrap (0+1)=1:=rfl
 have hk0:((kp t.kids 0:Nat):Int)=1:=by simp[kp,countL]
 have hkl:=kids_len_le hc
 have hr0:rowsAt (t.enc.map CellD.cs) 5 0=true:=by unfold rowsAt;rw[show (0:Int).toNat=0 from rfl,enc_head];rfl
 have hg0:=enc_head t
 refine wEnter Tryz.func120 Tryz.ntmps120 ?_
 refine wRUN hw0 ?_
 refine a_loop (κ:=Nat) (fun k=>⟨mkS 0 28 [(0,cellsA t.enc),(1,.c (.int .i64 0)),(5,.own (5,0)),(6,.c (.int .i64 ((kp t.kids k:Nat):Int))),(7,.c (.int .i64 k))],
   [((5,0),.row false 1 2 ((kposL t k).map intCs))]⟩)
  (fun k=>k≤t.kids.length) (fun k=>t.kids.length-k) 0 (Nat.zero_le _) ?_ ?_
 ·(apply (Says.of [((5,0),(8,0))] []);(iterate 2 ((focus (simp only[go_sem,Nat.reduceEqDiff,Nat.reduceAdd,Nat.reduceSub,Nat.reduceLeDiff,Nat.reduceMul,Nat.reduceBEq,Nat.reduceLT,Int.reduceToNat,reduceCtorEq,hk0,kposL];try (and_intros<;>rfl)));(focus exact rfl)));(iterate 4 (focus (simp[go_sem,hk0,kposL];done))))
 ·intro k hk
  by_cases hlt:k<t.kids.length
  ·have hd:decide ((k:Int)<(t.kids.length:Int))=true:=by simpa using hlt
   have hw1:=wrap_succ (k:=k) (by omega)
   have h1:(kposL t k).length+1≤1000000:=by rw[kposL_len];omega
   have he:=l1End_ac hw hc hlt
   have hn:(kposL t k).map intCs++[[.int .i64 ((kp t.kids k:Nat):Int)]]=(kposL t (k+1)).map intCs:=by rw[kposL_succ,List.map_append];rfl
   refine wRUN (j4 hr0 hg0 hd h1) ?_
   refine w7 (op_data [] he) trivial ?_
   refine wRUN hw1 ?_
   refine⟨k+1,by omega,by omega,?_⟩
   exact wSays (Says.of [((5,0),(23,0))] []) hn
  ·have hd:decide ((k:Int)<(t.kids.length:Int))=false:=by simpa using hlt
   have hke:k=t.kids.length:=by omega
   refine wRUN (j3 hr0 hg0 hd) ?_
   subst hke
   exact wRetOf (ret_of [] [(5,0)]) Tryz.results120 hd
def keysOf (t:V) (k:Nat):List ByteArray:=(List.range k).map t.keyAt
theorem keysOf_succ (t:V) (k:Nat):keysOf t (k+1)=keysOf t k++[t.keyAt k]:=by simp[keysOf,List.range_succ]
theorem keysOf_len (t:V) (k:Nat):(keysOf t k).length=k:=by simp[keysOf]
theorem enc_at_kid (t:V) {k:Nat}(h:k<t.kids.length):(t.enc.map CellD.cs)[kp t.kids k]? = some [.int .i64 t.kids[k].kind,.int .i64 t.kids[k].num,.str t.kids[k].text,.str (t.keyAt k),.int .i64 t.kids[k].kids.length]:=by
 have h1:=enc_kid t h
 have h2:t.enc[kp t.kids k]? = some ⟨t.kids[k].kind,t.kids[k].num,t.kids[k].text,t.keyAt k,t.kids[k].kids.length⟩:=by
  have h3:(t.enc.drop (kp t.kids k))[0]? = t.enc[kp t.kids k]?:=by rw[List.getElem?_drop];rfl
  rw[←h3,h1,cells_head]
  rfl
 rw[List.getElem?_map,h2]
 rfl
set_option maxRecDepth 10000
theorem l1Keys_ac {t:V}(hw:t.wf) (hc:t.count≤200):AC Tryz.prog 99 [cellsA t.enc] [] (.c (.sl ((keysOf t t.kids.length).map strCs))) []:=by
 have hkl:=kids_len_le hc
 have hkn:=kposL_len t t.kids.length
 have hch:=l1Children_ac hw hc
 refine wEnter Tryz.func99 Tryz.ntmps99 ?_
 refine wRUN trivial ?_
 refine w9 (op_shared [] hch) trivial ?_
 refine wRUN trivial ?_
 refine a_loop (κ:=Nat) (fun k=>⟨mkS 0 27 [(0,cellsA t.enc),(3,.own (3,0)),(4,.c (.sl ((kposL t t.kids.length).map intCs))),(5,.c (.int .i64 k))],
   [((3,0),.row false 1 9 ((keysOf t k).map strCs))]⟩)
  (fun k=>k≤t.kids.length) (fun k=>t.kids.length-k) 0 (Nat.zero_le _) ?_ ?_
 ·(apply (Says.of [((3,0),(6,0))] []);(iterate 2 ((focus (simp only[go_sem,Nat.reduceEqDiff,Nat.reduceAdd,Nat.reduceSub,Nat.reduceLeDiff,Nat.reduceMul,Nat.reduceBEq,Nat.reduceLT,Int.reduceToNat,reduceCtorEq,keysOf];try (and_intros<;>rfl)));(focus exact rfl)));(iterate 4 (focus (simp[go_sem,keysOf];done))))
 ·intro k hk
  by_cases hlt:k<t.kids.length
  ·have hd:decide ((k:Int)<(t.kids.length:Int))=true:=by simpa using hlt
   have hw1:=wrap_succ (k:=k) (by omega)
   have h1:(keysOf t k).length+1≤1000000:=by rw[keysOf_len];omega
   have hr1:rowsAt ((kposL t t.kids.length).map intCs) 1 k=true:=by simp[rowsAt,kposL,hlt,intCs]
   have hg1:((kposL t t.kids.length).map intCs)[k]? = some [.int .i64 ((kp t.kids k:Nat):Int)]:=by simp[kposL,hlt,intCs]
   have hg2:=enc_at_kid t hlt
   have hr2:rowsAt (t.enc.map CellD.cs) 5 ((kp t.kids k:Nat):Int)=true:=by unfold rowsAt;rw[Int.toNat_natCast,hg2];simp
   have hn:(keysOf t k).map strCs++[[.str (t.keyAt k)]]=(keysOf t (k+1)).map strCs:=by rw[keysOf_succ,List.map_append];rfl
   refine wRUN (j8 hd hkn hr1 hg1 hr2 hg2 h1 hw1) ?_
   refine⟨k+1,by omega,by omega,?_⟩
   exact wSays (Says.of [((3,0),(25,0))] []) hn
  ·have hd:decide ((k:Int)<(t.kids.length:Int))=false:=by simpa using hlt
   have hke:k=t.kids.length:=by omega
   refine wRUN (j2 hkn hd) ?_
   subst hke
   exact wRetOf (ret_of [] [(3,0)]) Tryz.results99 hd
theorem l1Array_ac (ps:List V) (hc:(arrV ps).count≤500000):AC Tryz.prog 98 [.c (.sl ((ps.map V.enc).map encCs))] [] (.own (0,0)) [((0,0),.row false 5 94 ((arrV ps).enc.map CellD.cs))]:=by
 have hcl:=countL_len ps
 have hcc:=arr_count ps
 obtain⟨R,hR⟩:∃R:Nat→List CellD,∀k,R k=(arrV ps).enc.take (kp (arrV ps).kids k):=⟨_,fun _=>rfl⟩
 have h0:(R 0).map CellD.cs=[[.int .i64 5,.int .i64 0,.str ByteArray.empty,.str ByteArray.empty,.int .i64 ps.length]]:=by
  rw[hR,enc_take_one];rfl
 refine wEnter Tryz.func98 Tryz.ntmps98 ?_
 refine wRUN trivial ?_
 refine a_loop (κ:=Nat) (fun k=>⟨mkS 0 22 [(0,.c (.sl ((ps.map V.enc).map encCs))),(3,.own (3,0)),(4,.c (.int .i64 k))],
   [((3,0),.row false 5 94 ((R k).map CellD.cs))]⟩)
  (fun k=>k≤ps.length) (fun k=>ps.length-k) 0 (Nat.zero_le _) ?_ ?_
 ·exact wSays (Says.of [((3,0),(8,0))] []) h0
 ·intro k hk
  by_cases hlt:k<ps.length
  ·have hd:decide ((k:Int)<(ps.length:Int))=true:=by simpa using hlt
   have hw1:=wrap_succ (k:=k) (by omega)
   have hr1:rowsAt ((ps.map V.enc).map encCs) 1 k=true:=by simp[rowsAt,hlt,encCs]
   have hg1:((ps.map V.enc).map encCs)[k]? = some [.sl (ps[k].enc.map CellD.cs)]:=by simp[hlt,encCs]
   have hts:=enc_take_succ (arrV ps) (i:=k) hlt
   have h56:(arrV ps).kind≠6:=show (5:Int)≠6 by decide
   rw[keyAt_none h56,←hR,←hR]at hts
   have htl:=enc_take_len (arrV ps) k
   have hkl:=kp_le (arrV ps) k
   have hm:=countL_mem (List.getElem_mem hlt)
   have hel:=enc_len ps[k]
   have h1:(R k).length+ps[k].enc.length≤1000000:=by rw[hR,htl,hel];omega
   have hn:(R k).map CellD.cs++ps[k].enc.map CellD.cs=(R (k+1)).map CellD.cs:=by
    rw[hts,List.map_append];rfl
   generalize ps[k]=u at *
   refine wRUN (j5 hd hr1 hg1 h1 hw1) ?_
   refine⟨k+1,by omega,by omega,?_⟩
   exact wSays (Says.of [((3,0),(20,0))] []) hn
  ·have hd:decide ((k:Int)<(ps.length:Int))=false:=by simpa using hlt
   have hke:k=ps.length:=by omega
   have hall:R k=(V.mk 5 0 ByteArray.empty [] ps).enc:=by rw[hR,hke];exact enc_take_all (arrV ps)
   refine wRUN hd ?_
   exact wRetOf (ret_of [((0,0),(3,0))] []) Tryz.results98 hall
def keep (b:Bool) (p:List V×V):Bool:=!b||p.2.kids.isEmpty
def pthCs (p:List V):List C:=[.sl ((p.map V.enc).map encCs)]
theorem all_pths (l:List (List V)):((l.map pthCs).all fun r=>r.length==1)=true:=by simp[pthCs]
theorem fl_pth (p:List V):forgetL (pthCs p)=pthCs p:=rfl
theorem forget_pths (l:List (List V)):forgetLL (l.map pthCs)=l.map pthCs:=forget_map _ fl_pth l
attribute [go_sem] all_pths forget_pths
set_option maxRecDepth 10000
def oslCs (xs:List CellD):List C:=[.osl (xs.map CellD.cs)]
def Nest (w:World):List (List CellD)→List Value→List Nat→Prop
 | [],vs,bs=>vs=[]∧bs=[]
 |x::l,vs,bs=>∃v vs' b1 b2,vs=v::vs'∧bs=b1++b2∧CR w (fun _=>False) (.osl (x.map CellD.cs)) v b1∧Nest w l vs' b2
theorem Nest.length {w:World}:∀{l:List (List CellD)}{vs:List Value}{bs:List Nat},Nest w l vs bs→vs.length=l.length
 | [],vs,bs,h=>by rw[h.1];rfl
 |x::l,vs,bs,h=>by
  obtain⟨v,vs',b1,b2,rfl,rfl,h1,h2⟩:=h
  simp[Nest.length h2]
theorem Nest.keep {w w':World}(hz:w.heap.size≤w'.heap.size):∀{l:List (List CellD)}{vs:List Value}{bs:List Nat},(∀b,b∈bs→b<w.heap.size→w'.heap[b]? = w.heap[b]?)→Nest w l vs bs→Nest w' l vs bs
 | [],vs,bs,_,h=>h
 |x::l,vs,bs,hb,h=>by
  obtain⟨v,vs',b1,b2,rfl,rfl,h1,h2⟩:=h
  exact⟨v,vs',b1,b2,rfl,rfl,CR.keep hz (fun b hf=>hf.elim) (fun b hb1=>hb b (by simp[hb1])) h1,Nest.keep hz (fun b hb2=>hb b (by simp[hb2])) h2⟩
theorem Nest.at_ {w:World}:∀{l:List (List CellD)}{vs:List Value}{bs:List Nat},Nest w l vs bs→bs.Nodup→∀{i:Nat}(hi:i<l.length),∃v bi,vs[i]? = some v∧CR w (fun _=>False) (.osl (l[i].map CellD.cs)) v bi∧(∀b,b∈bi→b∈bs) ∧
  ∀(w':World) (y:List CellD),w.heap.size≤w'.heap.size→CR w' (fun _=>False) (.osl (y.map CellD.cs)) v bi→(∀b,b∈bs→b ∉ bi→b<w.heap.size→w'.heap[b]? = w.heap[b]?)→Nest w' (l.set i y) vs bs
 | [],vs,bs,_,_,i,hi=>by simp at hi
 |x::l,vs,bs,h,hnd,0,_=>by
  obtain⟨v,vs',b1,b2,rfl,rfl,h1,h2⟩:=h
  refine⟨v,b1,rfl,h1,fun b hb=>by simp[hb],fun w' y hz hy hk=>⟨v,vs',b1,b2,rfl,rfl,hy,Nest.keep hz (fun b hb=>hk b (by simp[hb]) ?_) h2⟩⟩
  intro hb1
  exact (List.nodup_append.1 hnd).2.2 b hb1 b hb rfl
 |x::l,vs,bs,h,hnd,i+1,hi=>by
  obtain⟨v,vs',b1,b2,rfl,rfl,h1,h2⟩:=h
  obtain⟨v1,bi,g1,g2,g3,g4⟩:=Nest.at_ h2 (List.nodup_append.1 hnd).2.1 (i:=i) (by simpa using hi)
  refine⟨v1,bi,by simpa using g1,by simpa using g2,fun b hb=>by simp[g3 b hb],fun w' y hz hy hk=>⟨v,vs',b1,b2,rfl,rfl,CR.keep hz (fun b hf=>hf.elim) (fun b hb=>hk b (by simp[hb]) ?_) h1,g4 w' y hz hy fun b hb=>hk b (by simp[hb])⟩⟩
  intro hbi
  exact (List.nodup_append.1 hnd).2.2 b hb b (g3 b hbi) rfl
theorem get_one {p:Id×AO}{i:Id}{o:AO}(h:Mem.get [p] i=some o):i=p.1∧o=p.2:=by
 obtain⟨a,b⟩:=p
 simp only[Mem.get,List.lookup_cons,List.lookup_nil]at h
 split at h
 ·rename_i hq
  exact⟨by simpa using hq,(Option.some.inj h).symm⟩
 ·cases h
theorem ownsRow_lt {w:World}{base:Nat}{e:TypeId}{es n:Nat}{v:Value}{cs:List Value}(h:w.ownsRow base e es v n cs) {b:Nat}(hb:v.ownBlock=some b):base≤b∧b<w.heap.size:=by
 rcases h.2 with⟨rfl,_⟩ | ⟨g,cap,cur,rfl,hg,hh,_⟩
 ·cases hb
 ·have:g=b:=by simpa [Value.ownBlock] using hb
  subst this
  exact⟨hg,(Array.getElem?_eq_some_iff.1 hh).1⟩
theorem ownsRow_zero {w:World}{base:Nat}{e:TypeId}{es n:Nat}{v:Value}{cs:List Value}(h:w.ownsRow base e es v n cs):w.ownsRow 0 e es v n cs:=by
 refine⟨h.1,?_⟩
 rcases h.2 with h | ⟨g,cap,cur,e1,hg,r⟩
 ·exact .inl h
 ·exact .inr ⟨g,cap,cur,e1,Nat.zero_le _,r⟩
theorem AC.of_row {P:Program}{f:FuncId}{args:List AV}{es:Nat}{e:TypeId}{rows:List (List C)}(hc:closedLL rows=true)
  (h:∀(S:Nat→Prop) (w:World) (κ:Id→Value) (vals:List Value),ARs w S [] κ args vals→Calls P f vals.toArray w fun e1 w'=>Below w.heap.size w w'∧∃v vrows,e1=.returned v∧CRss w' (fun _=>False) rows vrows []∧(∀x∈vrows,x.length=es)∧w'.ownsRow w.heap.size e es v rows.length vrows.flatten) :
  AC P f args [] (.own (0,0)) [((0,0),.row false es e rows)]:=by
 intro Γ vals hE hA
 have how:∀b,Γ.ow b=none:=by
  intro b
  cases hb:Γ.ow b with
  |none=>rfl
  |some i=>obtain⟨_,o,h1,_⟩:=hE.own b i hb;simp[Mem.get]at h1
 refine (h _ _ _ _ hA).mono ?_
 rintro e1 w' ⟨hb,v,vrows,rfl,h1,h2,h3⟩
 refine⟨v,fun b=>if v.ownBlock=some b then some (0,0) else none,fun _=>v,rfl,⟨⟨ownsRow_one h3,_,rfl,fun _=>rfl⟩,?_,?_,hb.os,hb.tape,hb.output,hb.size,?_,fun i o o' h=>(by simp[Mem.get]at h)⟩⟩
 ·intro i o hi
  obtain⟨rfl,rfl⟩:=get_one hi
  refine⟨vrows,[],CRss.closed hc h1,fun _=>rfl,h2,ownsRow_zero h3,?_,fun b hb=>?_⟩
  ·show (v.ownBlock.toList++[]).Nodup
   cases v.ownBlock<;>simp
  ·have hb':b∈v.ownBlock.toList++[]:=hb
   have:v.ownBlock=some b:=by simpa using hb'
   exact if_pos this
 ·intro b i hbi
  split at hbi
  ·rename_i hv
   refine⟨(ownsRow_lt h3 hv).2,.row false es e rows,?_,rfl⟩
   rw[←Option.some.inj hbi]
   rfl
  ·cases hbi
 ·intro b hl _
  refine⟨hb.block b hl,?_⟩
  refine if_neg fun hv=>?_
  have:=(ownsRow_lt h3 hv).1
  omega
theorem closed_cells (l:List CellD):closedLL (l.map CellD.cs)=true:=by
 induction l with
 |nil=>rfl
 |cons c l ih=>simp only[List.map_cons,closedLL,ih,Bool.and_true];rfl
attribute [go_sem] closed_cells AO.closed
theorem AC.of_mut {P:Program}{f:FuncId}{es:Nat}{e:TypeId}{rows rows':List (List C)}(hc:closedLL rows'=true)
  (h:∀(S:Nat→Prop) (w:World) (v:Value) (vrows:List (List Value)),CRss w S rows vrows []→(∀x∈vrows,x.length=es)→w.ownsRow 0 e es v rows.length vrows.flatten→Calls P f #[v] w fun e1 w'=>e1=.returned (.tuple #[])∧w.grownBy w' v.ownBlock∧∃vrows',CRss w' (fun _=>False) rows' vrows' []∧(∀x∈vrows',x.length=es)∧w'.ownsRow 0 e es v rows'.length vrows'.flatten) :
  AC P f [.own (0,0)] [((0,0),.row false es e rows)] (.tup []) [((0,0),.row false es e rows')]:=by
 intro Γ vals hE hA
 obtain⟨v,vs,rfl,hv,rfl⟩:=hA
 obtain⟨_,o,ho,hk⟩:=hv
 obtain⟨_,rfl⟩:=get_one ho
 obtain⟨vrows,bs,h1,h2,h3,h4,h5,h6⟩:=hE.objs (0,0) _ rfl
 have hbs:=h2 rfl
 subst hbs
 have hkv:=hk (by simp)
 rw[←hkv]at h4 h5 h6
 refine (h _ _ _ _ h1 h3 h4).mono ?_
 rintro e1 w' ⟨rfl,hg,vrows',g1,g2,g3⟩
 have hob:∀b,b < Γ.w.heap.size→Γ.ow b=none→some b≠v.ownBlock:=by
  intro b _ hb hv
  have:=h6 b (by simp[←hv])
  rw[hb]at this
  cases this
 refine⟨.tuple #[],Γ.ow,Γ.κ,rfl,⟨⟨[],rfl,rfl⟩,?_,?_,hg.os,hg.tape,hg.output,hg.size,?_,fun i o o' _ _=>rfl⟩⟩
 ·intro i o hi
  obtain⟨rfl,rfl⟩:=get_one hi
  refine⟨vrows',[],CRss.closed hc g1,fun _=>rfl,g2,by rw[←hkv];exact g3,by rw[←hkv];exact h5,fun b hb=>h6 b (by rw[hkv];exact hb)⟩
 ·intro b i hbi
  obtain⟨k1,o,k2,k3⟩:=hE.own b i hbi
  obtain⟨rfl,_⟩:=get_one k2
  exact⟨Nat.lt_of_lt_of_le k1 hg.size,_,rfl,rfl⟩
 ·intro b hl hb
  exact⟨hg.block b hl (hob b hl hb),hb⟩
end
section
open Go.RowKit Go.Shelf
def sortS_ren:Ren where
 f:=fun x=>match x with
  | 6=>185
  | 8=>212
  | 9=>211
  | 19=>245
  | 20=>224
  | 21=>237
  | 22=>238
  | 23=>239
  | 24=>240
  | 25=>241
  | 26=>242
  | 27=>214
  | 28=>243
  | 29=>244
  | 36=>264
  | 31=>265
  | 32=>266
  | 37=>267
  | 38=>268
  | 39=>218
  | 41=>281
  |n=>n
 t:=fun x=>match x with
  | 27=>59
  | 29=>9
  | 3=>3
  | 32=>243
  | 26=>59
  | 0=>0
  | 44=>224
  | 46=>216
  | 4=>4
  | 36=>261
  | 35=>260
  | 41=>208
  | 5=>5
  | 9=>9
  | 53=>288
  | 57=>292
  | 63=>319
  | 64=>95
  |n=>n
 g:=fun n=>n
theorem sortS_lays:SlLaysM.n6 Tryz.prog sortS_ren where
 mixed:=follows_mixed
 f6:=⟨Tryz.f185.name,by kernel_rfl,by kernel_rfl⟩
 f8:=by kernel_rfl
 f9:=⟨Tryz.f211.name,by kernel_rfl,by kernel_rfl⟩
 f19:=by kernel_rfl
 f20:=by kernel_rfl
 f21:=⟨Tryz.f237.name,by kernel_rfl,by kernel_rfl⟩
 f22:=⟨Tryz.f238.name,by kernel_rfl,by kernel_rfl⟩
 f23:=⟨Tryz.f239.name,by kernel_rfl,by kernel_rfl⟩
 f24:=⟨Tryz.f240.name,by kernel_rfl,by kernel_rfl⟩
 f25:=⟨Tryz.f241.name,by kernel_rfl,by kernel_rfl⟩
 f26:=⟨Tryz.f242.name,by kernel_rfl,by kernel_rfl⟩
 f27:=⟨Tryz.f214.name,by kernel_rfl,by kernel_rfl⟩
 f28:=⟨Tryz.f243.name,by kernel_rfl,by kernel_rfl⟩
 f29:=⟨Tryz.f244.name,by kernel_rfl,by kernel_rfl⟩
 f31:=by kernel_rfl
 f32:=by kernel_rfl
 f36:=⟨Tryz.f264.name,by kernel_rfl,by kernel_rfl⟩
 f37:=⟨Tryz.f267.name,by kernel_rfl,by kernel_rfl⟩
 f38:=⟨Tryz.f268.name,by kernel_rfl,by kernel_rfl⟩
 f39:=⟨Tryz.f218.name,by kernel_rfl,by kernel_rfl⟩
 f41:=⟨Tryz.f281.name,by kernel_rfl,by kernel_rfl⟩
 t0:=Tryz.underlying0
 a0:=Tryz.isAgg0
 z0:=Tryz.sizeOf0
 v0:=Tryz.zeroValue0
 t3:=Tryz.underlying3
 a3:=Tryz.isAgg3
 z3:=Tryz.sizeOf3
 v3:=Tryz.zeroValue3
 t4:=Tryz.underlying4
 a4:=Tryz.isAgg4
 z4:=Tryz.sizeOf4
 v4:=Tryz.zeroValue4
 t5:=Tryz.underlying5
 a5:=Tryz.isAgg5
 z5:=Tryz.sizeOf5
 v5:=Tryz.zeroValue5
 t9:=Tryz.underlying9
 a9:=Tryz.isAgg9
 z9:=Tryz.sizeOf9
 v9:=Tryz.zeroValue9
 t26:=Tryz.underlying59
 a26:=Tryz.isAgg59
 z26:=Tryz.sizeOf59
 v26:=Tryz.zeroValue59
 t27:=Tryz.underlying59
 a27:=Tryz.isAgg59
 z27:=Tryz.sizeOf59
 v27:=Tryz.zeroValue59
 t29:=Tryz.underlying9
 a29:=Tryz.isAgg9
 z29:=Tryz.sizeOf9
 v29:=Tryz.zeroValue9
 t32:=Tryz.underlying243
 a32:=Tryz.isAgg243
 z32:=Tryz.sizeOf243
 v32:=Tryz.zeroValue243
 t35:=Tryz.underlying260
 a35:=Tryz.isAgg260
 z35:=Tryz.sizeOf260
 v35:=Tryz.zeroValue260
 t36:=Tryz.underlying261
 a36:=Tryz.isAgg261
 z36:=Tryz.sizeOf261
 v36:=Tryz.zeroValue261
 t41:=Tryz.underlying208
 a41:=Tryz.isAgg208
 z41:=Tryz.sizeOf208
 v41:=Tryz.zeroValue208
 t44:=Tryz.underlying224
 a44:=Tryz.isAgg224
 z44:=Tryz.sizeOf224
 v44:=Tryz.zeroValue224
 t46:=Tryz.underlying216
 a46:=Tryz.isAgg216
 z46:=Tryz.sizeOf216
 v46:=Tryz.zeroValue216
 t53:=Tryz.underlying288
 a53:=Tryz.isAgg288
 z53:=Tryz.sizeOf288
 v53:=Tryz.zeroValue288
 t57:=Tryz.underlying292
 a57:=Tryz.isAgg292
 z57:=Tryz.sizeOf292
 v57:=Tryz.zeroValue292
 t63:=Tryz.underlying319
 a63:=Tryz.isAgg319
 z63:=Tryz.sizeOf319
 v63:=Tryz.zeroValue319
 t64:=Tryz.underlying95
 a64:=Tryz.isAgg95
 z64:=Tryz.sizeOf95
 v64:=Tryz.zeroValue95
end
end Go.Proofs.YtlciedpfjhkkdaaGreatDoor
