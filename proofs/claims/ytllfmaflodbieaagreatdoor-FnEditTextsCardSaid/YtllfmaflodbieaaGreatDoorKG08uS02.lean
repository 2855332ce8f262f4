/- Texts of this proof: G08 G11 G14 H99 G22 G23 G25 G26 G27 G48 S02. -/
import Derived.Test.YtllfmaflodbieaaGreatDoorKM24uG07
import Derived.Deep.RegionHeld3
import Derived.Deep.RegionWith
import Derived.Shelf.SlGeneric
import Derived.Shelf.SlLaysM
set_option linter.all false
set_option maxHeartbeats 8000000
namespace Go.Proofs.YtllfmaflodbieaaGreatDoor
section
open Go.RowKit
def keep (b:Bool) (p:List V×V):Bool:=!b||p.2.kids.isEmpty
def AJ (b:Bool) (l:List (List V×V)):List (List V):=(l.filter (keep b)).map (·.1)
def BC (p:List V):List C:=[.sl ((p.map V.enc).map A9)]
theorem Z8 (l:List (List V)):((l.map BC).all fun r=>r.length==1)=true:=by simp[BC]
theorem a3q (p:List V):Ct (BC p)=BC p:=rfl
theorem LZ (l:List (List V)):AE (l.map BC)=l.map BC:=Eb _ a3q l
attribute [go_sem] Z8 LZ
def G9 (b:Bool) (t:V) (ahead:List V):List (List C):=if keep b (ahead,t) then [[.osl ((ahead.map V.enc).map A9)]] else []
theorem S1 (b:Bool) (l l':List (List V×V)):AJ b (l++l')=AJ b l++AJ b l':=by simp[AJ]
theorem S2 (b:Bool) (l:List (List V×V)):(AJ b l).length≤l.length:=by simp only[AJ,List.length_map];exact List.length_filter_le _ _
theorem Ym (b:Bool) (t:V) (ahead:List V):(G9 b t ahead).length≤1:=by unfold G9;split<;>simp
theorem Ny:∀(a b:List (List C)),AE (a++b)=AE a++AE b
 | [],b=>rfl
 |x::a,b=>by simp only[List.cons_append,AE,Ny a b]
theorem VO (b:Bool) (t:V) (ahead:List V) (rest:List (List V×V)):AE (G9 b t ahead++(AJ b rest).map BC)=(AJ b ((ahead,t)::rest)).map BC:=by
 rw[Ny,LZ]
 unfold G9 AJ
 rw[List.filter_cons]
 by_cases h:keep b (ahead,t)=true
 ·rw[if_pos h,if_pos h]
  simp only[List.map_cons]
  show [[C.sl (AE ((ahead.map V.enc).map A9))]]++_=_
  rw[Ca]
  rfl
 ·rw[if_neg h,if_neg h]
  rfl
theorem NQ (ahead:List V) (q:V):AE ((ahead.map V.enc).map A9++[[.sl (q.enc.map CellD.cs)]])=((ahead++[q]).map V.enc).map A9:=by
 rw[←Ca ((ahead++[q]).map V.enc),List.map_append,List.map_append]
 rfl
set_option maxRecDepth 10000
theorem Eo (b:Bool):∀(m:Nat) (t:V) (ahead:List V),t.count≤m→t.count≤200→t.wf→ahead.length+t.count≤900000 →
  AC Tryz.prog 201 [Aq t.enc,.c (.sl ((ahead.map V.enc).map A9)),.c (.bool b)] [] (.c (.sl ((AJ b (t.paths ahead)).map BC))) []:=by
 intro m
 induction m with
 |zero=>intro t _ hm;have:=AY t;omega
 |succ m ih =>
  intro t ahead hm hc hw hl
  have hkc:=AK t
  have hkl:=B6 hc
  have hr0:Ae (t.enc.map CellD.cs) 5 0=true:=by unfold Ae;rw[show (0:Int).toNat=0 from rfl,AT];rfl
  have hg0:=AT t
  have hn0:0+ahead.length≤1000000:=by omega
  have hpl:=Jc t ahead
  have hparts:=Cj hw hc
  have hkeys:=ET hw hc
  refine A5 Tryz.func201 Tryz.ntmps201 ?_
  rcases (by cases b<;>cases ((t.kids.length:Int)==0)<;>simp:b=false∨(b=true∧((t.kids.length:Int)==0)=true)∨(b=true∧((t.kids.length:Int)==0)=false)) with hb | ⟨hb,hz⟩ | ⟨hb,hz⟩
  case' inl =>
   have hpre:G9 false t ahead=[[.osl ((ahead.map V.enc).map A9)]]:=by unfold G9 keep;rw[if_pos];rfl
   refine A3 (j4 hb hr0 hg0 hn0) ?_
  case' inr.inl =>
   have hpre:G9 true t ahead=[[.osl ((ahead.map V.enc).map A9)]]:=by unfold G9 keep;rw[if_pos];simp at hz ⊢;exact hz
   refine A3 (j5 hb hr0 hg0 hz hn0) ?_
  case' inr.inr =>
   have hpre:G9 true t ahead=[]:=by unfold G9 keep;rw[if_neg];simp at hz ⊢;exact hz
   refine A3 (j5 hb hr0 hg0 hz hn0) ?_
  all_goals
   refine w9 (A6 [] hparts) q9 ?_
   refine A3 q9 ?_
   refine w9 (A6 [] hkeys) q9 ?_
   refine A3 q9 ?_
   refine AZ (κ:=Nat×List (List V×V)) (fun x=>⟨mkS 0 65 [(0,Aq t.enc),(1,.c (.sl ((ahead.map V.enc).map A9))),(2,.c (.bool b)),(7,.own (7,0)),(8,.c (.sl ((t.kids.map V.enc).map A9))),(9,.c (.sl ((Bo t t.kids.length).map Ac))),(10,.c (.int .i64 x.1))],
     [((7,0),.row true 1 68 (G9 b t ahead++(AJ b x.2).map BC))]⟩)
    (fun x=>x.1≤t.kids.length∧x.2++EY t.keyV x.1 (t.kids.drop x.1) ahead=EY t.keyV 0 t.kids ahead) (fun x=>t.kids.length-x.1) (0,[]) ⟨Nat.zero_le _,rfl⟩ ?_ ?_
   ·first
     | (apply (AH.of [((7,0),(27,0))] []);(iterate 2 ((focus (simp only[go_sem,Nat.reduceEqDiff,Nat.reduceAdd,Nat.reduceSub,Nat.reduceLeDiff,Nat.reduceMul,Nat.reduceBEq,Nat.reduceLT,Int.reduceToNat,reduceCtorEq,hpre,hb,AJ];try (and_intros<;>rfl)));(focus exact rfl)));(iterate 4 (focus (simp[go_sem,hpre,hb,AJ];done))))
     | (apply (AH.of [((7,0),(12,0))] []);(iterate 2 ((focus (simp only[go_sem,Nat.reduceEqDiff,Nat.reduceAdd,Nat.reduceSub,Nat.reduceLeDiff,Nat.reduceMul,Nat.reduceBEq,Nat.reduceLT,Int.reduceToNat,reduceCtorEq,hpre,hb,AJ];try (and_intros<;>rfl)));(focus exact rfl)));(iterate 4 (focus (simp[go_sem,hpre,hb,AJ];done))))
   ·rintro⟨k,done⟩ ⟨hk,hd0⟩
    dsimp only at hk hd0 ⊢
    by_cases hlt:k<t.kids.length
    ·have hd:decide ((k:Int)<(t.kids.length:Int))=true:=by simpa using hlt
     have hw1:=AA (k:=k) (by omega)
     have hr1:Ae ((t.kids.map V.enc).map A9) 1 k=true:=by simp[Ae,hlt,A9]
     have hg1:((t.kids.map V.enc).map A9)[k]? = some [.sl (t.kids[k].enc.map CellD.cs)]:=by simp[hlt,A9]
     have hr2:Ae ((Bo t t.kids.length).map Ac) 1 k=true:=by simp[Ae,Bo,hlt,Ac]
     have hg2:((Bo t t.kids.length).map Ac)[k]? = some [.str (t.keyAt k)]:=by simp[Bo,hlt,Ac]
     have hmem:=BB (List.getElem_mem hlt)
     have hwk:=a0m hw hlt
     rw[TN t.keyV ahead t.kids hlt]at hd0
     obtain⟨q,hq⟩:∃q,q=t.keyV k:=⟨_,rfl⟩
     rw[←hq]at hd0
     generalize t.kids[k]=u at *
     have hpu:=Jc u (ahead++[q])
     have hpk:=K6 t.keyV 0 t.kids ahead
     have hdl:done.length+(u.paths (ahead++[q])).length≤Ag t.kids:=by
      have:=congrArg List.length hd0
      simp only[List.length_append]at this
      omega
     have h1:ahead.length+1≤1000000:=by omega
     have h2:(G9 b t ahead++(AJ b done).map BC).length+(AJ b (u.paths (ahead++[q]))).length≤1000000:=by
      have:=Ym b t ahead
      have:=S2 b done
      have:=S2 b (u.paths (ahead++[q]))
      rw[List.length_append,List.length_map]
      omega
     have hn:G9 b t ahead++(AJ b done).map BC++(AJ b (u.paths (ahead++[q]))).map BC=G9 b t ahead++(AJ b (done++u.paths (ahead++[q]))).map BC:=by rw[S1,List.map_append,List.append_assoc]
     by_cases h6:t.kind=6
     ·have hb6:(t.kind==6)=true:=by simpa using h6
      have hqs:q=C6 (t.keyAt k):=by rw[hq];unfold V.keyV;rw[if_pos h6]
      refine A3 hd ?_
      refine w9 (A6 [] (Bd k)) q9 ?_
      refine A3 (j5 hr0 hg0 hb6 hr2 hg2) ?_
      have hkm:AE ((ahead.map V.enc).map A9++[[.sl ((V.mk 4 0 (t.keyAt k) [] []).enc.map CellD.cs)]])=((ahead++[q]).map V.enc).map A9:=by rw[←NQ,hqs];rfl
      refine w9 (A6 [] (Da (t.keyAt k))) q9 ?_
      refine A3 (j4 hr1 hg1 hn0 h1) ?_
      refine w9 (A6 [(60,0)] (ih u (ahead++[q]) (by omega) (by omega) hwk (by simp only[List.length_append,List.length_singleton];omega))) hkm ?_
      refine A3 (j2 h2 hw1) ?_
      refine⟨(k+1,done++u.paths (ahead++[q])),by dsimp only;omega,⟨by dsimp only;omega,by simpa using hd0⟩,?_⟩
      exact As (AH.of [((7,0),(63,0))] []) hn
     ·have hb6:(t.kind==6)=false:=by simpa using h6
      have hqs:q=Ar k:=by rw[hq];unfold V.keyV;rw[if_neg h6]
      have hkm:AE ((ahead.map V.enc).map A9++[[.sl ((V.mk 3 k ByteArray.empty [] []).enc.map CellD.cs)]])=((ahead++[q]).map V.enc).map A9:=by rw[←NQ,hqs];rfl
      refine A3 hd ?_
      refine w9 (A6 [] (Bd k)) q9 ?_
      refine A3 (j7 hr0 hg0 hb6 hr1 hg1 hn0 h1) ?_
      refine w9 (A6 [(60,0)] (ih u (ahead++[q]) (by omega) (by omega) hwk (by simp only[List.length_append,List.length_singleton];omega))) hkm ?_
      refine A3 (j2 h2 hw1) ?_
      refine⟨(k+1,done++u.paths (ahead++[q])),by dsimp only;omega,⟨by dsimp only;omega,by simpa using hd0⟩,?_⟩
      exact As (AH.of [((7,0),(63,0))] []) hn
    ·have hd:decide ((k:Int)<(t.kids.length:Int))=false:=by simpa using hlt
     rw[VN _ _ _ _ (by omega),List.append_nil]at hd0
     have hfin:AE (G9 b t ahead++(AJ b done).map BC)=(AJ b (t.paths ahead)).map BC:=by rw[VO,hd0,←a6e]
     refine A3 hd ?_
     exact Ab (Aa [] [(7,0)]) Tryz.results201 hfin
def G6 (xs:List CellD):List C:=[.osl (xs.map CellD.cs)]
def L6 (w:World):List (List CellD)→List Value→List Nat→Prop
 | [],vs,bs=>vs=[]∧bs=[]
 |x::l,vs,bs=>∃v vs' b1 b2,vs=v::vs'∧bs=b1++b2∧CR w (fun _=>False) (.osl (x.map CellD.cs)) v b1∧L6 w l vs' b2
theorem L6.length {w:World}:∀{l:List (List CellD)}{vs:List Value}{bs:List Nat},L6 w l vs bs→vs.length=l.length
 | [],vs,bs,h=>by rw[h.1];rfl
 |x::l,vs,bs,h=>by
  obtain⟨v,vs',b1,b2,rfl,rfl,h1,h2⟩:=h
  simp[L6.length h2]
theorem L6.keep {w w':World}(hz:w.heap.size≤w'.heap.size):∀{l:List (List CellD)}{vs:List Value}{bs:List Nat},(∀b,b∈bs→b<w.heap.size→w'.heap[b]? = w.heap[b]?)→L6 w l vs bs→L6 w' l vs bs
 | [],vs,bs,_,h=>h
 |x::l,vs,bs,hb,h=>by
  obtain⟨v,vs',b1,b2,rfl,rfl,h1,h2⟩:=h
  exact⟨v,vs',b1,b2,rfl,rfl,CR.keep hz (fun b hf=>hf.elim) (fun b hb1=>hb b (by simp[hb1])) h1,L6.keep hz (fun b hb2=>hb b (by simp[hb2])) h2⟩
theorem L6.at_ {w:World}:∀{l:List (List CellD)}{vs:List Value}{bs:List Nat},L6 w l vs bs→bs.Nodup→∀{i:Nat}(hi:i<l.length),∃v bi,vs[i]? = some v∧CR w (fun _=>False) (.osl (l[i].map CellD.cs)) v bi∧(∀b,b∈bi→b∈bs) ∧
  ∀(w':World) (y:List CellD),w.heap.size≤w'.heap.size→CR w' (fun _=>False) (.osl (y.map CellD.cs)) v bi→(∀b,b∈bs→b ∉ bi→b<w.heap.size→w'.heap[b]? = w.heap[b]?)→L6 w' (l.set i y) vs bs
 | [],vs,bs,_,_,i,hi=>by simp at hi
 |x::l,vs,bs,h,hnd,0,_=>by
  obtain⟨v,vs',b1,b2,rfl,rfl,h1,h2⟩:=h
  refine⟨v,b1,rfl,h1,fun b hb=>by simp[hb],fun w' y hz hy hk=>⟨v,vs',b1,b2,rfl,rfl,hy,L6.keep hz (fun b hb=>hk b (by simp[hb]) ?_) h2⟩⟩
  intro hb1
  exact (List.nodup_append.1 hnd).2.2 b hb1 b hb rfl
 |x::l,vs,bs,h,hnd,i+1,hi=>by
  obtain⟨v,vs',b1,b2,rfl,rfl,h1,h2⟩:=h
  obtain⟨v1,bi,g1,g2,g3,g4⟩:=L6.at_ h2 (List.nodup_append.1 hnd).2.1 (i:=i) (by simpa using hi)
  refine⟨v1,bi,by simpa using g1,by simpa using g2,fun b hb=>by simp[g3 b hb],fun w' y hz hy hk=>⟨v,vs',b1,b2,rfl,rfl,CR.keep hz (fun b hf=>hf.elim) (fun b hb=>hk b (by simp[hb]) ?_) h1,g4 w' y hz hy fun b hb=>hk b (by simp[hb])⟩⟩
  intro hbi
  exact (List.nodup_append.1 hnd).2.2 b hb b (g3 b hbi) rfl
theorem MO {p:Id×AO}{i:Id}{o:AO}(h:Mem.get [p] i=some o):i=p.1∧o=p.2:=by
 obtain⟨a,b⟩:=p
 simp only[Mem.get,List.lookup_cons,List.lookup_nil]at h
 split at h
 ·rename_i hq
  exact⟨by simpa using hq,(Option.some.inj h).symm⟩
 ·cases h
theorem K5 {w:World}{base:Nat}{e:TypeId}{es n:Nat}{v:Value}{cs:List Value}(h:w.ownsRow base e es v n cs) {b:Nat}(hb:v.ownBlock=some b):base≤b∧b<w.heap.size:=by
 rcases h.2 with⟨rfl,_⟩ | ⟨g,cap,cur,rfl,hg,hh,_⟩
 ·cases hb
 ·have:g=b:=by simpa [Value.ownBlock] using hb
  subst this
  exact⟨hg,(Array.getElem?_eq_some_iff.1 hh).1⟩
theorem Ru {w:World}{base:Nat}{e:TypeId}{es n:Nat}{v:Value}{cs:List Value}(h:w.ownsRow base e es v n cs):w.ownsRow 0 e es v n cs:=by
 refine⟨h.1,?_⟩
 rcases h.2 with h | ⟨g,cap,cur,e1,hg,r⟩
 ·exact .inl h
 ·exact .inr ⟨g,cap,cur,e1,Nat.zero_le _,r⟩
theorem AC.of_row {P:Program}{f:FuncId}{args:List AV}{es:Nat}{e:TypeId}{rows:List (List C)}(hc:BN rows=true)
  (h:∀(S:Nat→Prop) (w:World) (κ:Id→Value) (Bv:List Value),ARs w S [] κ args Bv→Calls P f Bv.toArray w fun e1 w'=>Below w.heap.size w w'∧∃v vrows,e1=.returned v∧Aj w' (fun _=>False) rows vrows []∧(∀x∈vrows,x.length=es)∧w'.ownsRow w.heap.size e es v rows.length vrows.flatten) :
  AC P f args [] (.own (0,0)) [((0,0),.row false es e rows)]:=by
 intro Γ Bv hE hA
 have how:∀b,Γ.ow b=none:=by
  intro b
  cases hb:Γ.ow b with
  |none=>rfl
  |some i=>obtain⟨_,o,h1,_⟩:=hE.own b i hb;simp[Mem.get]at h1
 refine (h _ _ _ _ hA).mono ?_
 rintro e1 w' ⟨hb,v,vrows,rfl,h1,h2,h3⟩
 refine⟨v,fun b=>if v.ownBlock=some b then some (0,0) else none,fun _=>v,rfl,⟨⟨Mo h3,_,rfl,fun _=>rfl⟩,?_,?_,hb.os,hb.tape,hb.output,hb.size,?_,fun i o o' h=>(by simp[Mem.get]at h)⟩⟩
 ·intro i o hi
  obtain⟨rfl,rfl⟩:=MO hi
  refine⟨vrows,[],Aj.closed hc h1,fun _=>rfl,h2,Ru h3,?_,fun b hb=>?_⟩
  ·show (v.ownBlock.toList++[]).Nodup
   cases v.ownBlock<;>simp
  ·have hb':b∈v.ownBlock.toList++[]:=hb
   have:v.ownBlock=some b:=by simpa using hb'
   exact if_pos this
 ·intro b i hbi
  split at hbi
  ·rename_i hv
   refine⟨(K5 h3 hv).2,.row false es e rows,?_,rfl⟩
   rw[←Option.some.inj hbi]
   rfl
  ·cases hbi
 ·intro b hl _
  refine⟨hb.block b hl,?_⟩
  refine if_neg fun hv=>?_
  have:=(K5 h3 hv).1
  omega
theorem Ey (l:List CellD):BN (l.map CellD.cs)=true:=by
 induction l with
 |nil=>rfl
 |cons c l ih=>simp only[List.map_cons,BN,ih,Bool.and_true];rfl
attribute [go_sem] Ey AO.closed
theorem Nb (l:List (List CellD)):BN (l.map G6)=true:=by
 induction l with
 |nil=>rfl
 |cons c l ih=>simp only[List.map_cons,BN,ih,Bool.and_true,G6,Fs,C.closed,Ey]
theorem UV (l:List (List CellD)):AE (l.map G6)=l.map A9:=by
 induction l with
 |nil=>rfl
 |cons c l ih=>simp only[List.map_cons,AE,ih,G6,Ct,C.forget,EA,A9]
attribute [go_sem] Nb UV
theorem a0x (xs:List CellD):((dec xs).2=none∧(dec xs).1≠0)∨∃t,dec xs=(0,some t)∧xs=t.enc∧t.wf∧t.count≤200∧t.depth≤20:=by
 rcases DR xs with⟨t,ht⟩ | ⟨c,hc,hd⟩
 ·exact .inr ⟨t,ht,Ih ht⟩
 ·exact .inl ⟨by rw[hd],by rw[hd];exact hc⟩
set_option maxRecDepth 10000
theorem Qr (n lo hi:Int):AC Tryz.prog 57 [.c (.int .i64 n),.c (.int .i64 lo),.c (.int .i64 hi)] [] (.c (.bool (decide (n≥lo)&&decide (n≤hi)))) []:=by
 cases h1:decide (n≥lo)<;>cases h2:decide (n≤hi)
 all_goals
  refine A5 Tryz.func57 Tryz.ntmps57 ?_
  refine A3 (j2 h1 h2) ?_
  exact AL (Ad []) Tryz.results57
theorem K7 {t:V}(h:t.right):(⟨t.kind,t.num,t.text,ByteArray.empty,t.kids.length⟩:CellD).code=0:=by
 refine Fa t ByteArray.empty h.1 B7 _ ?_
 rw[Df]
 simp
theorem FI {t:V}(h:t.right):-1000000000000000≤t.num∧t.num≤1000000000000000:=by
 have hc:=K7 h
 unfold CellD.code AN at hc
 have hr:cR t.num (t.kids.length:Int)=false:=by
  cases hh:cR t.num (t.kids.length:Int)
  ·rfl
  ·simp only[hh]at hc
   split at hc
   ·omega
   ·split at hc
    ·omega
    ·simp at hc
 simp[cR,inB]at hr
 omega
theorem F0 {t:V}(h:t.right):AP t.text=true:=(IW (K7 h)).1
set_option maxRecDepth 10000
theorem Za {w:World}{S:Nat→Prop}{m:Mem}{κ:Id→Value}{ks:List V}{kvs:List (List Value)}{A:Option Addr}{cv:Nat}(hc:ks.length≤cv) (hr:Row w S 5 A kvs) (hv:Bh w S ks kvs):AR w S m κ (Uj ks) (.slice A ks.length cv):=by
 have h7:=JK hv
 rw[La]at h7
 exact⟨5,A,cv,kvs,by rw[List.length_map],by rw[List.length_map];exact hc,trivial,hr,h7,rfl⟩
theorem Q7 (xs:List CellD) (hz:D7 xs) {ks:List V}(h:Cu xs=(0,some ks)):AC Tryz.prog 131 [Aq xs] [] (.tup [Uj ks,.c (.int .i64 0)]) []:=by
 refine AC.of_calls fun S w κ vs hv=>?_
 obtain⟨v,vs',rfl,h1,rfl⟩:=hv
 obtain⟨A,cap,rfl,_,hc⟩:=Dn.1 h1
 refine (Ok xs hz A cap S w hc).mono ?_
 rintro e w' ⟨hb,he⟩
 rw[h]at he
 obtain⟨Av,cv,kvs,rfl,h2,h3,h4⟩:=he
 exact⟨hb,_,rfl,fun T _ hT=>⟨[_,_],rfl,_,_,rfl,Za h2 (h3.weaken fun b hb _=>hT b hb) (h4.weaken fun b hb _=>hT b hb),_,_,rfl,⟨rfl,rfl⟩,rfl⟩⟩
theorem Ol (xs:List CellD) (hz:D7 xs) {c:Int}(h:Cu xs=(c,none)):AC Tryz.prog 131 [Aq xs] [] (.tup [.nils,.c (.int .i64 c)]) []:=by
 refine AC.of_calls fun S w κ vs hv=>?_
 obtain⟨v,vs',rfl,h1,rfl⟩:=hv
 obtain⟨A,cap,rfl,_,hc⟩:=Dn.1 h1
 refine (Ok xs hz A cap S w hc).mono ?_
 rintro e w' ⟨hb,he⟩
 rw[h]at he
 have he':e=.returned (.tuple #[.slice none 0 0,.int .i64 c]):=he
 subst he'
 exact⟨hb,_,rfl,fun T _ hT=>⟨[_,_],rfl,_,_,rfl,rfl,_,_,rfl,⟨rfl,rfl⟩,rfl⟩⟩
set_option maxRecDepth 10000
theorem DJ (c:Int):AC Tryz.prog 138 [.c (.int .i64 c)] [] (.agg [.c (.int .i64 c),.nils]) []:=by
 refine A5 Tryz.func138 Tryz.ntmps138 ?_
 refine A3 q9 ?_
 exact AL (Ad []) Tryz.results138
theorem Im:BA.enc.map CellD.cs=[[.int .i64 0,.int .i64 0,.str ByteArray.empty,.str ByteArray.empty,.int .i64 0]]:=rfl
theorem FH:AC Tryz.prog 41 [] [] (.own (0,0)) [((0,0),.row false 5 115 (BA.enc.map CellD.cs))]:=by
 rw[Im]
 refine A5 Tryz.func41 Tryz.ntmps41 ?_
 refine A3 q9 ?_
 exact Ab (Aa [((0,0),(2,0))] []) Tryz.results41 @Im
def vrA (r:Int×Option V):AV:=match r.2 with
 |some t=>.agg [.c (.int .i64 0),.c (.sl (t.enc.map CellD.cs))]
 |none=>.agg [.c (.int .i64 r.1),.c (.sl [])]
theorem C3 (c:Int) (t:V):vrA (c,some t)=.agg [.c (.int .i64 0),.c (.sl (t.enc.map CellD.cs))]:=rfl
theorem C2 (c:Int):vrA (c,none)=.agg [.c (.int .i64 c),.c (.sl [])]:=rfl
theorem Fq (t:V):vrA (okR t)=.agg [.c (.int .i64 0),.c (.sl (t.enc.map CellD.cs))]:=rfl
theorem FB (c:Int):vrA (JG c)=.agg [.c (.int .i64 c),.c (.sl [])]:=rfl
theorem Td {t:V}(h:t.right) (key:ByteArray):AC Tryz.prog 82 [Aq t.enc,.c (.str key)] [] (vrA (Di t key)) []:=by
 have hr0:Ae (t.enc.map CellD.cs) 5 0=true:=by unfold Ae;rw[show (0:Int).toNat=0 from rfl,AT];rfl
 have hg0:=AT t
 by_cases h0:t.kind=0
 ·have hr:Di t key=okR BA:=by unfold Di;rw[if_pos h0]
  have hb:(t.kind==0)=true:=by simpa using h0
  rw[hr,Fq]
  refine A5 Tryz.func82 Tryz.ntmps82 ?_
  refine A3 (j3 hr0 hg0 hb) ?_
  refine w12 (HM [] FH) q9 ?_
  refine A3 q9 ?_
  exact Ab (Aa [] [(12,0)]) Tryz.results82 hb
 ·have hb:(t.kind==0)=false:=by simpa using h0
  by_cases h6:t.kind=6
  ·have hb6:(t.kind != 6)=false:=by simpa using h6
   obtain⟨hs,_,hkl⟩:=B9 h h6
   have hkn:=B6 h.2.1
   have hkeys:=ET h.1 h.2.1
   have hparts:=Cj h.1 h.2.1
   have hkat:∀i (hi:i<t.keys.length),t.keyAt i=t.keys[i]:=fun i hi=>by
    unfold V.keyAt
    rw[if_pos h6,List.drop_eq_getElem_cons hi]
    rfl
   have hr:Di t key=okR (t.member key):=by unfold Di;rw[if_neg h0,if_pos h6]
   rw[hr,Fq]
   refine A5 Tryz.func82 Tryz.ntmps82 ?_
   refine A3 (j4 hr0 hg0 hb hb6) ?_
   refine w9 (A6 [] hkeys) q9 ?_
   refine A3 q9 ?_
   refine AZ (κ:=Nat) (fun k=>⟨mkS 0 42 [(0,Aq t.enc),(1,.c (.str key)),(4,.ptr (4,0) 0),(5,.c (.sl ((Bo t t.kids.length).map Ac))),(6,.c (.int .i64 k))],[((4,0),.box [.c (.int .i64 0),.nils])]⟩)
    (fun k=>k≤t.kids.length∧∀j (hj:j<t.keys.length),j<k→t.keys[j].toList≠key.toList) (fun k=>t.kids.length-k) 0 ⟨Nat.zero_le _,by intro j _ hj;omega⟩ ?_ ?_
   ·exact As (AH.of [((4,0),(4,0))] []) hb
   ·rintro k ⟨hk,hno⟩
    have hkol:(Bo t t.kids.length).length=t.kids.length:=JV t _
    by_cases hlt:k<t.kids.length
    ·have hd:decide ((k:Int)<(t.kids.length:Int))=true:=by simpa using hlt
     have hw:=AA (k:=k) (by omega)
     have hr2:Ae ((Bo t t.kids.length).map Ac) 1 k=true:=by simp[Ae,Bo,hlt,Ac]
     have hg2:((Bo t t.kids.length).map Ac)[k]? = some [.str t.keys[k]]:=by simp[Bo,hlt,Ac,hkat k (by omega)]
     have hr3:Ae ((t.kids.map V.enc).map A9) 1 k=true:=by simp[Ae,hlt,A9]
     have hg3:((t.kids.map V.enc).map A9)[k]? = some [.sl (t.kids[k].enc.map CellD.cs)]:=by simp[hlt,A9]
     cases he:t.keys[k].toList==key.toList with
     |true =>
      have hm:t.member key=t.kids[k]:=by
       unfold V.member B3
       rw[List.findIdx?_eq_some_iff_getElem.2 ⟨by omega,he,fun j hj=>by simpa using hno j (by omega) hj⟩]
       simp only
       rw[List.getD_eq_getElem?_getD,List.getElem?_eq_getElem hlt,Option.getD_some]
      rw[hm]
      generalize t.kids[k]=u at *
      refine A3 (j5 hkol hd hr2 hg2 he) ?_
      refine w9 (A6 [] hparts) q9 ?_
      refine A3 (j2 hr3 hg3) ?_
      exact AL (Ad []) Tryz.results82
     |false =>
      refine A3 (j6 hkol hd hr2 hg2 he hw) ?_
      refine⟨k+1,by omega,⟨by omega,fun j hj hjk=>?_⟩,?_⟩
      ·by_cases hjk':j=k
       ·subst hjk';simpa using he
       ·exact hno j hj (by omega)
      ·exact As (AH.of [((4,0),(4,0))] []) hb
    ·have hd:decide ((k:Int)<(t.kids.length:Int))=false:=by simpa using hlt
     have hm:t.member key=BA:=by
      unfold V.member B3
      rw[List.findIdx?_eq_none_iff.2 fun x hx=>by
       obtain⟨i,hi,rfl⟩:=List.getElem_of_mem hx
       simpa using hno i hi (by omega)]
     rw[hm]
     refine A3 (j2 hkol hd) ?_
     refine w12 (HM [] FH) q9 ?_
     refine A3 q9 ?_
     exact Ab (Aa [] [(40,0)]) Tryz.results82 hb
  ·have hr:Di t key=JG 6:=by unfold Di;rw[if_neg h0,if_neg h6]
   have hb6:(t.kind != 6)=true:=by simpa using h6
   rw[hr,FB]
   refine A5 Tryz.func82 Tryz.ntmps82 ?_
   refine A3 (j4 hr0 hg0 hb hb6) ?_
   refine w7 (A8 [] (DJ 6)) q9 ?_
   refine A3 q9 ?_
   exact AL (Ad []) Tryz.results82
set_option maxRecDepth 10000
theorem a1m (n lo hi:Int):AC Tryz.prog 60 [.c (.int .i64 n),.c (.int .i64 lo),.c (.int .i64 hi)] [] (.c (.bool (decide (n≥lo)&&decide (n≤hi)))) []:=by
 cases h1:decide (n≥lo)<;>cases h2:decide (n≤hi)
 all_goals
  refine A5 Tryz.func60 Tryz.ntmps60 ?_
  refine A3 (j2 h1 h2) ?_
  exact AL (Ad []) Tryz.results60
theorem Vk {t:V}(h:t.right) (n:Int) (hn:-1000000000000000≤n∧n≤1000000000000000):AC Tryz.prog 243 [Aq t.enc,.c (.int .i64 n)] [] (vrA (DB t n)) []:=by
 have hkl:=B6 h.2.1
 have hr0:Ae (t.enc.map CellD.cs) 5 0=true:=by unfold Ae;rw[show (0:Int).toNat=0 from rfl,AT];rfl
 have hg0:=AT t
 by_cases h0:t.kind=0
 ·have hr:DB t n=okR BA:=by unfold DB;rw[if_pos h0]
  have hb:(t.kind==0)=true:=by simpa using h0
  rw[hr,Fq]
  refine A5 Tryz.func243 Tryz.ntmps243 ?_
  refine A3 (j3 hr0 hg0 hb) ?_
  refine w12 (HM [] FH) q9 ?_
  refine A3 q9 ?_
  exact Ab (Aa [] [(10,0)]) Tryz.results243 hb
 ·have hb:(t.kind==0)=false:=by simpa using h0
  by_cases h5:t.kind=5
  ·have hb5:(t.kind != 5)=false:=by simpa using h5
   have hwm:IntKind.i64.wrap ((t.kids.length:Int)-1)=(t.kids.length:Int)-1:=IntWalk.i64_in _ (by omega)
   have hwi:=a1m (BQ n t.kids.length) 0 ((t.kids.length:Int)-1)
   have hparts:=Cj h.1 h.2.1
   have hsplit:(decide (n<0)=true∧IntKind.i64.wrap (n+(t.kids.length:Int))=BQ n t.kids.length)∨(decide (n<0)=false∧n=BQ n t.kids.length):=by
    unfold BQ
    by_cases hneg:n<0
    ·rw[if_pos hneg]
     exact .inl ⟨by simpa using hneg,IntWalk.i64_in _ (by omega)⟩
    ·rw[if_neg hneg]
     exact .inr ⟨by simpa using hneg,rfl⟩
   cases hin:(decide (BQ n t.kids.length≥0)&&decide (BQ n t.kids.length≤(t.kids.length:Int)-1)) with
   |false =>
    rw[hin]at hwi
    have hr:DB t n=okR BA:=by
     unfold DB
     rw[if_neg h0,if_pos h5,if_neg]
     simp at hin
     omega
    rw[hr,Fq]
    generalize BQ n t.kids.length=q at *
    rcases hsplit with⟨hd,hwa⟩ | ⟨hd,rfl⟩
    ·refine A5 Tryz.func243 Tryz.ntmps243 ?_
     refine A3 (j7 hr0 hg0 hb hb5 hd hwa hwm) ?_
     refine w7 (A8 [] hwi) q9 ?_
     refine A3 q9 ?_
     refine w12 (HM [] FH) q9 ?_
     refine A3 q9 ?_
     exact Ab (Aa [] [(34,0)]) Tryz.results243 hb
    ·refine A5 Tryz.func243 Tryz.ntmps243 ?_
     refine A3 (j6 hr0 hg0 hb hb5 hd hwm) ?_
     refine w7 (A8 [] hwi) q9 ?_
     refine A3 q9 ?_
     refine w12 (HM [] FH) q9 ?_
     refine A3 q9 ?_
     exact Ab (Aa [] [(34,0)]) Tryz.results243 hb
   |true =>
    rw[hin]at hwi
    simp at hin
    obtain⟨p,hp,hpl⟩:∃p:Nat,BQ n t.kids.length=p∧p<t.kids.length:=⟨(BQ n t.kids.length).toNat,by omega,by omega⟩
    have hr:DB t n=okR t.kids[p]:=by
     unfold DB
     rw[if_neg h0,if_pos h5,hp,if_pos (by omega),Int.toNat_natCast,List.getD_eq_getElem?_getD,List.getElem?_eq_getElem hpl,Option.getD_some]
    have hr3:Ae ((t.kids.map V.enc).map A9) 1 p=true:=by simp[Ae,hpl,A9]
    have hg3:((t.kids.map V.enc).map A9)[p]? = some [.sl (t.kids[p].enc.map CellD.cs)]:=by simp[hpl,A9]
    rw[hr,Fq]
    generalize t.kids[p]=u at *
    rw[hp]at hwi hsplit
    rcases hsplit with⟨hd,hwa⟩ | ⟨hd,rfl⟩
    ·refine A5 Tryz.func243 Tryz.ntmps243 ?_
     refine A3 (j7 hr0 hg0 hb hb5 hd hwa hwm) ?_
     refine w7 (A8 [] hwi) q9 ?_
     refine A3 q9 ?_
     refine w9 (A6 [] hparts) q9 ?_
     refine A3 (j2 hr3 hg3) ?_
     exact AL (Ad []) Tryz.results243
    ·refine A5 Tryz.func243 Tryz.ntmps243 ?_
     refine A3 (j6 hr0 hg0 hb hb5 hd hwm) ?_
     refine w7 (A8 [] hwi) q9 ?_
     refine A3 q9 ?_
     refine w9 (A6 [] hparts) q9 ?_
     refine A3 (j2 hr3 hg3) ?_
     exact AL (Ad []) Tryz.results243
  ·have hr:DB t n=JG 6:=by unfold DB;rw[if_neg h0,if_neg h5]
   have hb5:(t.kind != 5)=true:=by simpa using h5
   rw[hr,FB]
   refine A5 Tryz.func243 Tryz.ntmps243 ?_
   refine A3 (j4 hr0 hg0 hb hb5) ?_
   refine w7 (A8 [] (DJ 6)) q9 ?_
   refine A3 q9 ?_
   exact AL (Ad []) Tryz.results243
theorem a1n {t k:V}(h:t.right) (hk:k.right):AC Tryz.prog 203 [Aq t.enc,Aq k.enc] [] (vrA (Fl t k)) []:=by
 have hr0:Ae (k.enc.map CellD.cs) 5 0=true:=by unfold Ae;rw[show (0:Int).toNat=0 from rfl,AT];rfl
 have hg0:=AT k
 by_cases h4:k.kind=4
 ·have hb:(k.kind==4)=true:=by simpa using h4
  have hr:Fl t k=Di t k.text:=by unfold Fl;rw[if_pos h4]
  have hg:=Td h k.text
  rw[hr]
  generalize Di t k.text=r at *
  rcases r with⟨c,_ | u⟩
  all_goals
   simp only[C3,C2]at hg ⊢
   refine A5 Tryz.func203 Tryz.ntmps203 ?_
   refine A3 (j3 hr0 hg0 hb) ?_
   refine w9 (A6 [] hg) q9 ?_
   refine A3 q9 ?_
   exact AL (Ad []) Tryz.results203
 ·have hb:(k.kind==4)=false:=by simpa using h4
  by_cases h3:k.kind=3
  ·have hb3:(k.kind==3)=true:=by simpa using h3
   have hr:Fl t k=DB t k.num:=by unfold Fl;rw[if_neg h4,if_pos h3]
   have hg:=Vk h k.num (FI hk)
   rw[hr]
   generalize DB t k.num=r at *
   rcases r with⟨c,_ | u⟩
   all_goals
    simp only[C3,C2]at hg ⊢
    refine A5 Tryz.func203 Tryz.ntmps203 ?_
    refine A3 (j4 hr0 hg0 hb hb3) ?_
    refine w9 (A6 [] hg) q9 ?_
    refine A3 q9 ?_
    exact AL (Ad []) Tryz.results203
  ·have hb3:(k.kind==3)=false:=by simpa using h3
   have hr:Fl t k=JG 6:=by unfold Fl;rw[if_neg h4,if_neg h3]
   rw[hr,FB]
   refine A5 Tryz.func203 Tryz.ntmps203 ?_
   refine A3 (j4 hr0 hg0 hb hb3) ?_
   refine w7 (A8 [] (DJ 6)) q9 ?_
   refine A3 q9 ?_
   exact AL (Ad []) Tryz.results203
set_option maxRecDepth 10000
theorem U5 (ps:List CellD):AC Tryz.prog 67 [Aq ps] [] (.c (.int .i64 (Cu ps).1)) []:=by
 refine AC.of_calls fun S w κ vs hv=>?_
 obtain⟨v,vs',rfl,h1,rfl⟩:=hv
 obtain⟨A,cap,rfl,hcap,hc⟩:=Dn.1 h1
 refine (KR ps A cap hcap S w hc).mono ?_
 rintro e w' ⟨rfl,hb⟩
 exact⟨hb,_,rfl,fun T _ _=>⟨rfl,rfl⟩⟩
theorem AC.of_mut {P:Program}{f:FuncId}{es:Nat}{e:TypeId}{rows rows':List (List C)}(hc:BN rows'=true)
  (h:∀(S:Nat→Prop) (w:World) (v:Value) (vrows:List (List Value)),Aj w S rows vrows []→(∀x∈vrows,x.length=es)→w.ownsRow 0 e es v rows.length vrows.flatten→Calls P f #[v] w fun e1 w'=>e1=.returned (.tuple #[])∧w.grownBy w' v.ownBlock∧∃vrows',Aj w' (fun _=>False) rows' vrows' []∧(∀x∈vrows',x.length=es)∧w'.ownsRow 0 e es v rows'.length vrows'.flatten) :
  AC P f [.own (0,0)] [((0,0),.row false es e rows)] (.tup []) [((0,0),.row false es e rows')]:=by
 intro Γ Bv hE hA
 obtain⟨v,vs,rfl,hv,rfl⟩:=hA
 obtain⟨_,o,ho,hk⟩:=hv
 obtain⟨_,rfl⟩:=MO ho
 obtain⟨vrows,bs,h1,h2,h3,h4,h5,h6⟩:=hE.objs (0,0) _ rfl
 have hbs:=h2 rfl
 subst hbs
 have hkv:=hk (by simp)
 rw[←hkv]at h4 h5 h6
 refine (h _ _ _ _ h1 h3 h4).mono ?_
 rintro e1 w' ⟨rfl,hg,vrows',g1,g2,g3⟩
 have hob:∀b,b < Γ.w.heap.size→Γ.ow b=none→some b≠v.ownBlock:=by
  intro b _ hb hv
  have:=h6 b (by simp[←hv])
  rw[hb]at this
  cases this
 refine⟨.tuple #[],Γ.ow,Γ.κ,rfl,⟨⟨[],rfl,rfl⟩,?_,?_,hg.os,hg.tape,hg.output,hg.size,?_,fun i o o' _ _=>rfl⟩⟩
 ·intro i o hi
  obtain⟨rfl,rfl⟩:=MO hi
  refine⟨vrows',[],Aj.closed hc g1,fun _=>rfl,g2,by rw[←hkv];exact g3,by rw[←hkv];exact h5,fun b hb=>h6 b (by rw[hkv];exact hb)⟩
 ·intro b i hbi
  obtain⟨k1,o,k2,k3⟩:=hE.own b i hbi
  obtain⟨rfl,_⟩:=MO k2
  exact⟨Nat.lt_of_lt_of_le k1 hg.size,_,rfl,rfl⟩
 ·intro b hl hb
  exact⟨hg.block b hl (hob b hl hb),hb⟩
end
section
open Go.RowKit Go.Shelf
def YO:Ren where
 f:=fun x=>match x with
  | 6=>206
  | 8=>251
  | 9=>250
  | 19=>283
  | 20=>271
  | 21=>275
  | 22=>276
  | 23=>277
  | 24=>278
  | 25=>279
  | 26=>280
  | 27=>248
  | 28=>281
  | 29=>282
  | 36=>295
  | 31=>296
  | 32=>297
  | 37=>298
  | 38=>299
  | 39=>259
  | 41=>311
  |n=>n
 t:=fun x=>match x with
  | 27=>50
  | 29=>9
  | 3=>3
  | 32=>194
  | 26=>50
  | 0=>0
  | 44=>233
  | 46=>249
  | 4=>4
  | 36=>294
  | 35=>293
  | 41=>225
  | 5=>5
  | 9=>9
  | 53=>319
  | 57=>323
  | 63=>347
  | 64=>151
  |n=>n
 g:=fun n=>n
theorem Oy:SlLaysM.n6 Tryz.prog YO where
 mixed:=BF
 f6:=⟨Tryz.f206.name,by kernel_rfl,by kernel_rfl⟩
 f8:=by kernel_rfl
 f9:=⟨Tryz.f250.name,by kernel_rfl,by kernel_rfl⟩
 f19:=by kernel_rfl
 f20:=by kernel_rfl
 f21:=⟨Tryz.f275.name,by kernel_rfl,by kernel_rfl⟩
 f22:=⟨Tryz.f276.name,by kernel_rfl,by kernel_rfl⟩
 f23:=⟨Tryz.f277.name,by kernel_rfl,by kernel_rfl⟩
 f24:=⟨Tryz.f278.name,by kernel_rfl,by kernel_rfl⟩
 f25:=⟨Tryz.f279.name,by kernel_rfl,by kernel_rfl⟩
 f26:=⟨Tryz.f280.name,by kernel_rfl,by kernel_rfl⟩
 f27:=⟨Tryz.f248.name,by kernel_rfl,by kernel_rfl⟩
 f28:=⟨Tryz.f281.name,by kernel_rfl,by kernel_rfl⟩
 f29:=⟨Tryz.f282.name,by kernel_rfl,by kernel_rfl⟩
 f31:=by kernel_rfl
 f32:=by kernel_rfl
 f36:=⟨Tryz.f295.name,by kernel_rfl,by kernel_rfl⟩
 f37:=⟨Tryz.f298.name,by kernel_rfl,by kernel_rfl⟩
 f38:=⟨Tryz.f299.name,by kernel_rfl,by kernel_rfl⟩
 f39:=⟨Tryz.f259.name,by kernel_rfl,by kernel_rfl⟩
 f41:=⟨Tryz.f311.name,by kernel_rfl,by kernel_rfl⟩
 t0:=Tryz.underlying0
 a0:=Tryz.isAgg0
 z0:=Tryz.sizeOf0
 v0:=Tryz.zeroValue0
 t3:=Tryz.underlying3
 a3:=Tryz.isAgg3
 z3:=Tryz.sizeOf3
 v3:=Tryz.zeroValue3
 t4:=Tryz.underlying4
 a4:=Tryz.isAgg4
 z4:=Tryz.sizeOf4
 v4:=Tryz.zeroValue4
 t5:=Tryz.underlying5
 a5:=Tryz.isAgg5
 z5:=Tryz.sizeOf5
 v5:=Tryz.zeroValue5
 t9:=Tryz.underlying9
 a9:=Tryz.isAgg9
 z9:=Tryz.sizeOf9
 v9:=Tryz.zeroValue9
 t26:=Tryz.underlying50
 a26:=Tryz.isAgg50
 z26:=Tryz.sizeOf50
 v26:=Tryz.zeroValue50
 t27:=Tryz.underlying50
 a27:=Tryz.isAgg50
 z27:=Tryz.sizeOf50
 v27:=Tryz.zeroValue50
 t29:=Tryz.underlying9
 a29:=Tryz.isAgg9
 z29:=Tryz.sizeOf9
 v29:=Tryz.zeroValue9
 t32:=Tryz.underlying194
 a32:=Tryz.isAgg194
 z32:=Tryz.sizeOf194
 v32:=Tryz.zeroValue194
 t35:=Tryz.underlying293
 a35:=Tryz.isAgg293
 z35:=Tryz.sizeOf293
 v35:=Tryz.zeroValue293
 t36:=Tryz.underlying294
 a36:=Tryz.isAgg294
 z36:=Tryz.sizeOf294
 v36:=Tryz.zeroValue294
 t41:=Tryz.underlying225
 a41:=Tryz.isAgg225
 z41:=Tryz.sizeOf225
 v41:=Tryz.zeroValue225
 t44:=Tryz.underlying233
 a44:=Tryz.isAgg233
 z44:=Tryz.sizeOf233
 v44:=Tryz.zeroValue233
 t46:=Tryz.underlying249
 a46:=Tryz.isAgg249
 z46:=Tryz.sizeOf249
 v46:=Tryz.zeroValue249
 t53:=Tryz.underlying319
 a53:=Tryz.isAgg319
 z53:=Tryz.sizeOf319
 v53:=Tryz.zeroValue319
 t57:=Tryz.underlying323
 a57:=Tryz.isAgg323
 z57:=Tryz.sizeOf323
 v57:=Tryz.zeroValue323
 t63:=Tryz.underlying347
 a63:=Tryz.isAgg347
 z63:=Tryz.sizeOf347
 v63:=Tryz.zeroValue347
 t64:=Tryz.underlying151
 a64:=Tryz.isAgg151
 z64:=Tryz.sizeOf151
 v64:=Tryz.zeroValue151
end
end Go.Proofs.YtllfmaflodbieaaGreatDoor
