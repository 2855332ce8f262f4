/- Texts of this proof: G20 G21 G22 M13 G35 G40. -/
import Derived.Test.YtcejfdfmgmcinaaGreatKM2
import Derived.Test.YtcejfdfmgmcinaaGreatKG10uG33
set_option linter.all false
set_option maxHeartbeats 8000000
namespace Go.Proofs.YtcejfdfmgmcinaaGreat
open Go.RowKit
def Dh (c:Int) (t:V):AV:=.agg [.c (.int .i64 c),.c (.int .i64 t.kind),.c (.int .i64 t.num),.c (.str t.text),.c (.sl (t.keys.map Ag)),.c (.sl (t.kids.map V.cs))]
def EK (r:Int×Option V):AV:=match r.2 with
 |some t=>Dh 0 t
 |none=>Dh r.1 BE
theorem a10 (c:Int) (t:V):Dh c t=.agg [.c (.int .i64 c),.c (.int .i64 t.kind),.c (.int .i64 t.num),.c (.str t.text),.c (.sl (t.keys.map Ag)),.c (.sl (t.kids.map V.cs))]:=rfl
theorem LS (c:Int):Dh c BE=.agg [.c (.int .i64 c),.c (.int .i64 0),.c (.int .i64 0),.c (.str ByteArray.empty),.c (.sl []),.c (.sl [])]:=rfl
theorem Dm (t:V):EK (okR t)=Dh 0 t:=rfl
theorem Ep (c:Int):EK (Ew c)=Dh c BE:=rfl
theorem i9:BE.av=.agg [.c (.int .i64 0),.c (.int .i64 0),.c (.str ByteArray.empty),.c (.sl []),.c (.sl [])]:=rfl
attribute [go_sem] a10
set_option maxRecDepth 10000
theorem Ld:AC Tryz.prog 251 [] [] BE.av []:=by
 rw[i9]
 refine A7 Tryz.func251 Tryz.ntmps251 ?_
 refine A3 q9 ?_
 exact Ad (A6 []) Tryz.results251
theorem Bm (c:Int):AC Tryz.prog 199 [.c (.int .i64 c)] [] (Dh c BE) []:=by
 rw[LS]
 refine A7 Tryz.func199 Tryz.ntmps199 ?_
 refine A3 q9 ?_
 exact Ad (A6 []) Tryz.results199
theorem Sc:∀(m:Nat) (t:V),t.count≤m→t.count≤500000→AC Tryz.prog 279 [t.av] [] (.c (.int .i64 t.count)) []:=by
 intro m
 induction m with
 |zero=>intro t hm _;have:=CQ t;omega
 |succ m ih =>
  intro t hm hM
  have hkc:=AP t
  have hkl:=Br t.kids
  obtain⟨R,hR⟩:∃R:Nat→Nat,∀k,R k=1+Aw (t.kids.take k):=⟨_,fun _=>rfl⟩
  have h0:R 0=1:=by rw[hR];simp[Aw]
  refine A7 Tryz.func279 Tryz.ntmps279 ?_
  refine A3 q9 ?_
  refine Ay (κ:=Nat) (fun k=>⟨mkS 0 19 [(1,.ptr (1,0) 0),(3,.c (.int .i64 (R k))),(7,.c (.sl (t.kids.map V.cs))),(8,.c (.int .i64 t.kids.length)),(9,.c (.int .i64 k))],
    [((1,0),.box [.c (.int .i64 t.kind),.c (.int .i64 t.num),.c (.str t.text),.c (.sl (t.keys.map Ag)),.c (.sl (t.kids.map V.cs))])]⟩)
   (fun k=>k≤t.kids.length) (fun k=>t.kids.length-k) 0 (Nat.zero_le _) ?_ ?_
  ·exact Af (Am.of [((1,0),(1,0))] []) h0
  ·intro k hk
   by_cases hlt:k<t.kids.length
   ·have hd:decide ((k:Int)<(t.kids.length:Int))=true:=by simpa using hlt
    have hr:A9 (t.kids.map V.cs) 5 k=true:=by simp[A9,hlt,V.cs_eq]
    have hg:(t.kids.map V.cs)[k]? = some t.kids[k].cs:=by simp[hlt]
    have hmem:=CV (List.getElem_mem hlt)
    have hRk:R (k+1)=R k+t.kids[k].count:=by rw[hR,hR,List.take_succ_eq_append_getElem hlt,IB];omega
    have hRl:R (k+1)≤t.count:=by rw[hR];have:=EO t.kids (k+1);omega
    have hw:=Ah (k:=k) (by omega)
    generalize t.kids[k]=u at *
    have hi:=ih u (by omega) (by omega)
    have hs:IntKind.i64.wrap ((R k:Int)+(u.count:Int))=((R (k+1):Nat):Int):=by rw[IntWalk.i64_in _ (by omega)];omega
    refine A3 (j3 hd hr hg) ?_
    refine w7 (A4 [] hi) q9 ?_
    refine A3 (j2 hs hw) ?_
    refine⟨k+1,by omega,by omega,?_⟩
    exact Af (Am.of [((1,0),(1,0))] []) hs
   ·have hd:decide ((k:Int)<(t.kids.length:Int))=false:=by simpa using hlt
    have hke:R k=t.count:=by rw[hR,List.take_of_length_le (by omega)];omega
    refine A3 hd ?_
    exact A6 [] (by simp only[Tryz.results279,go_sem,Nat.reduceBEq,Nat.reduceLT];exact rfl) (by simp only[go_sem,Nat.reduceEqDiff,Nat.reduceAdd,Nat.reduceSub,Nat.reduceLeDiff,Nat.reduceMul,Nat.reduceBEq,Nat.reduceLT,Int.reduceToNat,reduceCtorEq,hke]) rfl
theorem E1 {s:ByteArray}(h:Bl s=true):s.size≤60:=by
 unfold Bl at h
 simp only[Bool.and_eq_true,decide_eq_true_eq]at h
 exact h.1
theorem Tz {t:V}(h:t.right):Ej t.enc:=by
 intro c hc
 have h1:=Fv t ByteArray.empty h.1 BB c hc
 have h2:=J7 h1
 exact⟨by have:=E1 h2.1;omega,by have:=E1 h2.2;omega⟩
theorem Z7 {t:V}(h:t.right):AC Tryz.prog 206 [t.av] [] (.c (.int .i64 0)) []:=by
 have hc:=h.2.1
 have h1:=Sc t.count t (Nat.le_refl _) (by omega)
 have h2:=N4 t.count t (Nat.le_refl _) (by omega) (Km h)
 have h3:=Lq t.enc (Tz h) (t:=t) (by rw[Jh h])
 have hd:decide ((t.count:Int)>200)=false:=by simp;omega
 refine A7 Tryz.func206 Tryz.ntmps206 ?_
 refine A3 q9 ?_
 refine w7 (A4 [] h1) q9 ?_
 refine A3 hd ?_
 refine w12 (AS [] h2) q9 ?_
 refine w9 (A5 [(10,0)] h3) q9 ?_
 refine A3 q9 ?_
 exact Ad (A6 []) Tryz.results206
theorem Ba {t:V}(h:t.right):AC Tryz.prog 126 [t.av] [] (Dh 0 t) []:=by
 have h1:=Z7 h
 have h0:((0:Int) != 0)=false:=rfl
 refine A7 Tryz.func126 Tryz.ntmps126 ?_
 refine A3 q9 ?_
 refine w7 (A4 [] h1) q9 ?_
 refine A3 h0 ?_
 exact Ad (A6 []) Tryz.results126
set_option maxRecDepth 10000
theorem XG (s:ByteArray):AC Tryz.prog 374 [.c (.str s)] [] (.c (.bool false)) []:=by
 refine A7 Tryz.func374 Tryz.ntmps374 ?_
 (repeat (first | (with_reducible first | refine Pg ?_ | refine D8 ?_ | refine IZ ?_ | refine J1 ?_) | ((with_reducible apply LP);(iterate 2 (focus (first | (simp only[go_sem,Nat.reduceEqDiff,Nat.reduceAdd,Nat.reduceSub,Nat.reduceLeDiff,Nat.reduceMul,Nat.reduceBEq,Nat.reduceLT,Int.reduceToNat,reduceCtorEq,beq_self_eq_true];first | done | exact rfl | (and_intros<;>rfl)) | exact rfl | decide)))) | ((with_reducible refine Q0 ?_);dsimp only;try ((with_reducible apply LO);(focus (simp only[go_sem];exact rfl));(focus decide))) | ((with_reducible first | refine Pf ?_ | refine Lw ?_ | refine J0 ?_);dsimp only) | ((with_reducible refine Lv ?_);dsimp only;simp only[if_true,if_false,Nat.reduceEqDiff]) | ((with_reducible apply X3);(focus (simp only[go_sem,Nat.reduceBEq,Nat.reduceLT,beq_self_eq_true];exact rfl));dsimp only[cond_true,cond_false]) | ((with_reducible refine Lu ?_ ?_);(focus exact rfl))))
 exact Ad (A6 []) Tryz.results374
theorem XH (s:ByteArray):AC Tryz.prog 376 [.c (.str s)] [] (.c (.bool false)) []:=by
 refine A7 Tryz.func376 Tryz.ntmps376 ?_
 (repeat (first | (with_reducible first | refine Pg ?_ | refine D8 ?_ | refine IZ ?_ | refine J1 ?_) | ((with_reducible apply LP);(iterate 2 (focus (first | (simp only[go_sem,Nat.reduceEqDiff,Nat.reduceAdd,Nat.reduceSub,Nat.reduceLeDiff,Nat.reduceMul,Nat.reduceBEq,Nat.reduceLT,Int.reduceToNat,reduceCtorEq,beq_self_eq_true];first | done | exact rfl | (and_intros<;>rfl)) | exact rfl | decide)))) | ((with_reducible refine Q0 ?_);dsimp only;try ((with_reducible apply LO);(focus (simp only[go_sem];exact rfl));(focus decide))) | ((with_reducible first | refine Pf ?_ | refine Lw ?_ | refine J0 ?_);dsimp only) | ((with_reducible refine Lv ?_);dsimp only;simp only[if_true,if_false,Nat.reduceEqDiff]) | ((with_reducible apply X3);(focus (simp only[go_sem,Nat.reduceBEq,Nat.reduceLT,beq_self_eq_true];exact rfl));dsimp only[cond_true,cond_false]) | ((with_reducible refine Lu ?_ ?_);(focus exact rfl))))
 exact Ad (A6 []) Tryz.results376
theorem Ug (a b:ByteArray):AC Tryz.prog 375 [.c (.str a),.c (.str b)] [] (.c (.bool (B1 a b))) []:=by
 refine A7 Tryz.func375 Tryz.ntmps375 ?_
 refine A3 q9 ?_
 refine w7 (A4 [] (XG a)) q9 ?_
 refine A3 q9 ?_
 exact A6 [] (by simp only[Tryz.results375,go_sem,Nat.reduceBEq,Nat.reduceLT];exact rfl) (by simp only[go_sem,Nat.reduceEqDiff,Nat.reduceAdd,Nat.reduceSub,Nat.reduceLeDiff,Nat.reduceMul,Nat.reduceBEq,Nat.reduceLT,Int.reduceToNat,reduceCtorEq,B1]) rfl
def CN (ks:List ByteArray) (key:ByteArray):Nat:=ks.findIdx fun k=>!B1 k key
theorem Kw (ks:List ByteArray) (key:ByteArray):CN ks key≤ks.length:=List.findIdx_le_length
theorem Lx {ks:List ByteArray}{key:ByteArray}{t:Nat}(h:t<CN ks key):B1 (ks[t]'(by have:=Kw ks key;omega)) key=true:=by
 have:=List.not_of_lt_findIdx h
 simpa using this
theorem N1 {ks:List ByteArray}{key:ByteArray}(hs:asc none ks) {t:Nat}(ht:t<ks.length) (h:CN ks key≤t):B1 ks[t] key=false:=by
 have hp:CN ks key<ks.length:=by omega
 have h1:B1 (ks[CN ks key]) key=false:=by
  have h2:(fun k=>!B1 k key) (ks[CN ks key])=true:=List.findIdx_getElem (w:=hp)
  simpa using h2
 by_cases he:t=CN ks key
 ·subst he;exact h1
 ·have h2:=JR hs (i:=CN ks key) (j:=t) (by omega) ht
  cases hl:B1 ks[t] key with
  |false=>rfl
  |true =>
   have:=ED h2 hl
   rw[h1]at this
   cases this
def BZ (ks:List ByteArray) (key:ByteArray):Bool:=if h:CN ks key<ks.length then ks[CN ks key].toList==key.toList else false
theorem Uy {ks:List ByteArray}{key:ByteArray}(hs:asc none ks):Fo ks key=if BZ ks key then some (CN ks key) else none:=by
 rw[Ux hs (Kw ks key) (fun t h=>Lx h) (fun t h hp=>N1 hs h hp)]
 unfold BZ
 by_cases h:CN ks key<ks.length
 ·rw[dif_pos h,dif_pos h]
 ·rw[dif_neg h,dif_neg h];rfl
theorem Qs (ks:List ByteArray) (key:ByteArray) (hs:asc none ks) (hl:ks.length≤1000000):AC Tryz.prog 339 [.c (.sl (ks.map Ag)),.c (.str key)] [] (.tup [.c (.int .i64 (CN ks key)),.c (.bool (BZ ks key))]) []:=by
 have hple:=Kw ks key
 obtain⟨p,hp⟩:∃p,p=CN ks key:=⟨_,rfl⟩
 rw[←hp]at hple
 refine A7 Tryz.func339 Tryz.ntmps339 ?_
 refine A3 q9 ?_
 refine Ay (κ:=Nat×Nat) (fun x=>⟨mkS 0 54 [(0,.c (.sl (ks.map Ag))),(1,.c (.str key)),(6,.c (.int .i64 ks.length)),(7,.c (.int .i64 x.1)),(8,.c (.int .i64 x.2))],[]⟩)
  (fun x=>x.1≤p∧p≤x.2∧x.2≤ks.length) (fun x=>x.2-x.1) (0,ks.length) ⟨Nat.zero_le _,hple,Nat.le_refl _⟩ ?_ ?_
 ·exact Af (Am.of [] []) hl
 ·rintro⟨i,j⟩ ⟨hi,hj,hjn⟩
  dsimp only at hi hj hjn ⊢
  by_cases hlt:i<j
  ·have hdk:decide ((i:Int)<(j:Int))=true:=by simpa using hlt
   have hm1:(i+j) / 2<j:=by omega
   have hm2:i≤(i+j) / 2:=by omega
   have hwa:IntKind.i64.wrap ((i:Int)+(j:Int))=((i+j:Nat):Int):=by rw[IntWalk.i64_in _ (by omega)];omega
   have hwu:IntKind.u64.wrap ((i+j:Nat):Int)=((i+j:Nat):Int):=by
    unfold IntKind.wrap
    simp[IntKind.bits,IntKind.signed]
    omega
   have hwh:IntKind.i64.wrap (((i+j) / 2:Nat):Int)=(((i+j) / 2:Nat):Int):=by rw[IntWalk.i64_in _ (by omega)]
   generalize hH:(i+j) / 2=h at *
   have hhl:h<ks.length:=by omega
   have hr:A9 (ks.map Ag) 1 h=true:=by simp[A9,hhl,Ag]
   have hg:(ks.map Ag)[h]? = some [.str ks[h]]:=by simp[hhl,Ag]
   have hc:=Ug ks[h] key
   have hw1:=Ah (k:=h) (by omega)
   cases hb:B1 ks[h] key with
   |true =>
    rw[hb]at hc
    have hhp:h<p:=by
     by_cases hq:h<p
     ·exact hq
     ·rw[hp]at hq
      have:=N1 (key:=key) hs hhl (by omega)
      rw[this]at hb
      cases hb
    refine A3 (j3 hdk hwa hwu) ?_
    ((with_reducible apply Eu);(iterate 4 (focus (first | (simp only[go_sem,Nat.reduceEqDiff,Nat.reduceAdd,Nat.reduceSub,Nat.reduceLeDiff,Nat.reduceMul,Nat.reduceBEq,Nat.reduceLT,Int.reduceToNat,reduceCtorEq,hwa,hwu];first | done | exact rfl | (and_intros<;>rfl)) | exact rfl | decide))))
    refine A3 (j4 hH hwh hr hg) ?_
    refine w7 (A4 [] hc) q9 ?_
    refine A3 hw1 ?_
    refine⟨(h+1,j),by dsimp only;omega,⟨by dsimp only;omega,hj,hjn⟩,?_⟩
    exact Af (Am.of [] []) hw1
   |false =>
    rw[hb]at hc
    have hhp:p≤h:=by
     by_cases hq:p≤h
     ·exact hq
     ·rw[hp]at hq
      have:=Lx (ks:=ks) (key:=key) (t:=h) (by omega)
      rw[this]at hb
      cases hb
    refine A3 (j3 hdk hwa hwu) ?_
    ((with_reducible apply Eu);(iterate 4 (focus (first | (simp only[go_sem,Nat.reduceEqDiff,Nat.reduceAdd,Nat.reduceSub,Nat.reduceLeDiff,Nat.reduceMul,Nat.reduceBEq,Nat.reduceLT,Int.reduceToNat,reduceCtorEq,hwa,hwu];first | done | exact rfl | (and_intros<;>rfl)) | exact rfl | decide))))
    refine A3 (j4 hH hwh hr hg) ?_
    refine w7 (A4 [] hc) q9 ?_
    refine A3 q9 ?_
    refine⟨(i,h),by dsimp only;omega,⟨hi,hhp,by dsimp only;omega⟩,?_⟩
    exact Af (Am.of [] []) hw1
  ·have hdk:decide ((i:Int)<(j:Int))=false:=by simpa using hlt
   have hip:i=p:=by omega
   subst hip
   by_cases hpn:i<ks.length
   ·have hdn:decide ((i:Int)<(ks.length:Int))=true:=by simpa using hpn
    have hr:A9 (ks.map Ag) 1 i=true:=by simp[A9,hpn,Ag]
    have hg:(ks.map Ag)[i]? = some [.str ks[i]]:=by simp[hpn,Ag]
    have hf:BZ ks key=(ks[i].toList==key.toList):=by
     unfold BZ
     rw[dif_pos (by omega)]
     simp only[←hp]
    rw[hf,←hp]
    cases hb:ks[i].toList==key.toList with
    |true =>
     refine A3 (j5 hdk hdn hr hg hb) ?_
     exact Ad (A6 []) Tryz.results339
    |false =>
     refine A3 (j5 hdk hdn hr hg hb) ?_
     refine w7 (A4 [] (XH _)) q9 ?_
     refine A3 q9 ?_
     exact Ad (A6 []) Tryz.results339
   ·have hdn:decide ((i:Int)<(ks.length:Int))=false:=by simpa using hpn
    have hf:BZ ks key=false:=by
     unfold BZ
     rw[dif_neg (by omega)]
    rw[hf,←hp]
    refine A3 (j2 hdk hdn) ?_
    exact Ad (A6 []) Tryz.results339
theorem Yb {t:V}(h:t.right) (h6:t.kind=6) (key:ByteArray):AC Tryz.prog 277 [t.av,.c (.str key)] [] (t.member key).av []:=by
 obtain⟨hs,_,hkl⟩:=DM h h6
 have hlc:=Br t.kids
 have hck:=AP t
 have hc:=h.2.1
 have hb:=Qs t.keys key hs (by omega)
 have hfk:=Uy (ks:=t.keys) (key:=key) hs
 cases hf:BZ t.keys key with
 |false =>
  rw[hf]at hfk hb
  have hm:t.member key=BE:=by unfold V.member;rw[hfk];rfl
  rw[hm]
  refine A7 Tryz.func277 Tryz.ntmps277 ?_
  refine A3 q9 ?_
  refine w7 (A4 [] hb) q9 ?_
  refine A3 q9 ?_
  refine w7 (A4 [] Ld) q9 ?_
  refine A3 q9 ?_
  exact Ad (A6 []) Tryz.results277
 |true =>
  rw[hf]at hfk hb
  have hp:CN t.keys key<t.kids.length:=by
   unfold BZ at hf
   split at hf
   ·omega
   ·cases hf
  have hm:t.member key=t.kids[CN t.keys key]:=by
   unfold V.member
   rw[hfk]
   simp only[if_true]
   rw[List.getD_eq_getElem?_getD,List.getElem?_eq_getElem hp,Option.getD_some]
  rw[hm]
  generalize CN t.keys key=p at *
  have hr:A9 (t.kids.map V.cs) 5 p=true:=by simp[A9,hp,V.cs_eq]
  have hg:(t.kids.map V.cs)[p]? = some t.kids[p].cs:=by simp[hp]
  refine A7 Tryz.func277 Tryz.ntmps277 ?_
  refine A3 q9 ?_
  refine w7 (A4 [] hb) q9 ?_
  refine A3 (j2 hr hg) ?_
  exact Ad (A6 []) Tryz.results277
set_option maxRecDepth 10000
theorem Mg (s:ByteArray) (hs:s.size≤9223372036854775807):AC Tryz.prog 202 [.c (.str s)] [] (.c (.bool (Bl s))) []:=by
 refine AC.of_calls fun S w κ vs hv=>?_
 obtain⟨v,vs',rfl,⟨rfl,_⟩,rfl⟩:=hv
 refine (Eb s hs w).mono ?_
 rintro e w' ⟨rfl,rfl⟩
 exact⟨Below.refl _ _,_,rfl,fun T _ _=>⟨rfl,rfl⟩⟩
theorem Fj (n lo hi:Int):AC Tryz.prog 72 [.c (.int .i64 n),.c (.int .i64 lo),.c (.int .i64 hi)] [] (.c (.bool (decide (n≥lo)&&decide (n≤hi)))) []:=by
 cases h1:decide (n≥lo)<;>cases h2:decide (n≤hi)
 all_goals
  refine A7 Tryz.func72 Tryz.ntmps72 ?_
  refine A3 (j2 h1 h2) ?_
  exact Ad (A6 []) Tryz.results72
theorem Oh {t:V}(h:t.right):(⟨t.kind,t.num,t.text,ByteArray.empty,t.kids.length⟩:CellD).code=0:=by
 refine Fv t ByteArray.empty h.1 BB _ ?_
 rw[Dr]
 simp
theorem Cz {t:V}(h:t.right):-1000000000000000≤t.num∧t.num≤1000000000000000:=by
 have hc:=Oh h
 unfold CellD.code AT at hc
 have hr:cR t.num (t.kids.length:Int)=false:=by
  cases hh:cR t.num (t.kids.length:Int)
  ·rfl
  ·simp only[hh]at hc
   split at hc
   ·omega
   ·split at hc
    ·omega
    ·simp at hc
 simp[cR,inB]at hr
 omega
theorem DB {t:V}(h:t.right):Bl t.text=true:=(J7 (Oh h)).1
theorem XD {t:V}(h:t.right) (key:ByteArray) (hk:Bl key=true):AC Tryz.prog 200 [t.av,.c (.str key)] [] (EK (Cm t key)) []:=by
 have hs:=Mg key (by have:=E1 hk;omega)
 rw[hk]at hs
 by_cases h0:t.kind=0
 ·have hr:Cm t key=okR BE:=by unfold Cm;rw[if_pos h0]
  have hb:(t.kind==0)=true:=by simpa using h0
  rw[hr,Dm]
  refine A7 Tryz.func200 Tryz.ntmps200 ?_
  refine A3 q9 ?_
  refine w7 (A4 [] hs) q9 ?_
  refine A3 hb ?_
  refine w7 (A4 [] Ld) q9 ?_
  refine w7 (A4 [] (Ba CZ)) q9 ?_
  refine A3 q9 ?_
  exact Ad (A6 []) Tryz.results200
 ·have hb:(t.kind==0)=false:=by simpa using h0
  by_cases h6:t.kind=6
  ·have hr:Cm t key=okR (t.member key):=by unfold Cm;rw[if_neg h0,if_pos h6]
   have hb6:(t.kind != 6)=false:=by simpa using h6
   have hm:=Yb h h6 key
   have hg:=Ba (Li h h6 key)
   rw[hr,Dm]
   generalize t.member key=u at *
   refine A7 Tryz.func200 Tryz.ntmps200 ?_
   refine A3 q9 ?_
   refine w7 (A4 [] hs) q9 ?_
   refine A3 (j2 hb hb6) ?_
   refine w9 (A5 [] hm) q9 ?_
   refine w9 (A5 [] hg) q9 ?_
   refine A3 q9 ?_
   exact Ad (A6 []) Tryz.results200
  ·have hr:Cm t key=Ew 6:=by unfold Cm;rw[if_neg h0,if_neg h6]
   have hb6:(t.kind != 6)=true:=by simpa using h6
   rw[hr,Ep]
   refine A7 Tryz.func200 Tryz.ntmps200 ?_
   refine A3 q9 ?_
   refine w7 (A4 [] hs) q9 ?_
   refine A3 (j2 hb hb6) ?_
   refine w7 (A4 [] (Bm 6)) q9 ?_
   refine A3 q9 ?_
   exact Ad (A6 []) Tryz.results200
theorem SG {t:V}(h:t.right) (n:Int) (hn:-1000000000000000≤n∧n≤1000000000000000):AC Tryz.prog 201 [t.av,.c (.int .i64 n)] [] (EK (BR t n)) []:=by
 have hkl:=BI h.2.1
 have hsz:=GJ t.kids
 by_cases h0:t.kind=0
 ·have hr:BR t n=okR BE:=by unfold BR;rw[if_pos h0]
  have hb:(t.kind==0)=true:=by simpa using h0
  rw[hr,Dm]
  refine A7 Tryz.func201 Tryz.ntmps201 ?_
  refine A3 q9 ?_
  refine w7 (A4 [] hsz) q9 ?_
  refine A3 hb ?_
  refine w7 (A4 [] Ld) q9 ?_
  refine w7 (A4 [] (Ba CZ)) q9 ?_
  refine A3 q9 ?_
  exact Ad (A6 []) Tryz.results201
 ·have hb:(t.kind==0)=false:=by simpa using h0
  by_cases h5:t.kind=5
  ·have hb5:(t.kind != 5)=false:=by simpa using h5
   have hwn:IntKind.i64.wrap (0-(t.kids.length:Int)) = -(t.kids.length:Int):=by rw[IntWalk.i64_in _ (by omega)];omega
   have hwm:IntKind.i64.wrap ((t.kids.length:Int)-1)=(t.kids.length:Int)-1:=IntWalk.i64_in _ (by omega)
   have hwi:=Fj n (-(t.kids.length:Int)) ((t.kids.length:Int)-1)
   cases hin:(decide (n≥-(t.kids.length:Int))&&decide (n≤(t.kids.length:Int)-1)) with
   |false =>
    rw[hin]at hwi
    have hr:BR t n=okR BE:=by
     unfold BR Dc
     rw[if_neg h0,if_pos h5,if_neg]
     simp at hin
     split<;>omega
    rw[hr,Dm]
    refine A7 Tryz.func201 Tryz.ntmps201 ?_
    refine A3 q9 ?_
    refine w7 (A4 [] hsz) q9 ?_
    refine A3 (j4 hb hb5 hwn hwm) ?_
    refine w7 (A4 [] hwi) q9 ?_
    refine A3 q9 ?_
    refine w7 (A4 [] Ld) q9 ?_
    refine w7 (A4 [] (Ba CZ)) q9 ?_
    refine A3 q9 ?_
    exact Ad (A6 []) Tryz.results201
   |true =>
    rw[hin]at hwi
    simp at hin
    obtain⟨p,hp,hpl⟩:∃p:Nat,Dc n t.kids.length=p∧p<t.kids.length:=by
     refine⟨(Dc n t.kids.length).toNat,?_,?_⟩<;>unfold Dc<;>split<;>omega
    have hr:BR t n=okR t.kids[p]:=by
     unfold BR
     rw[if_neg h0,if_pos h5,hp,if_pos (by omega),Int.toNat_natCast,List.getD_eq_getElem?_getD,List.getElem?_eq_getElem hpl,Option.getD_some]
    have hrw:A9 (t.kids.map V.cs) 5 p=true:=by simp[A9,hpl,V.cs_eq]
    have hg:(t.kids.map V.cs)[p]? = some t.kids[p].cs:=by simp[hpl]
    have hgv:=Ba (Bd h (List.getElem_mem hpl))
    rw[hr,Dm]
    generalize t.kids[p]=u at *
    unfold Dc at hp
    by_cases hneg:n<0
    ·rw[if_pos hneg]at hp
     have hd:decide (n<0)=true:=by simpa using hneg
     have hwa:IntKind.i64.wrap (n+(t.kids.length:Int))=(p:Int):=by rw[hp];exact IntWalk.i64_in _ (by omega)
     refine A7 Tryz.func201 Tryz.ntmps201 ?_
     refine A3 q9 ?_
     refine w7 (A4 [] hsz) q9 ?_
     refine A3 (j4 hb hb5 hwn hwm) ?_
     refine w7 (A4 [] hwi) q9 ?_
     refine A3 (j4 hd hwa hrw hg) ?_
     refine w9 (A5 [] hgv) q9 ?_
     refine A3 q9 ?_
     exact Ad (A6 []) Tryz.results201
    ·rw[if_neg hneg]at hp
     subst hp
     have hd:decide ((p:Int)<0)=false:=by simp
     refine A7 Tryz.func201 Tryz.ntmps201 ?_
     refine A3 q9 ?_
     refine w7 (A4 [] hsz) q9 ?_
     refine A3 (j4 hb hb5 hwn hwm) ?_
     refine w7 (A4 [] hwi) q9 ?_
     refine A3 (j3 hd hrw hg) ?_
     refine w9 (A5 [] hgv) q9 ?_
     refine A3 q9 ?_
     exact Ad (A6 []) Tryz.results201
  ·have hr:BR t n=Ew 6:=by unfold BR;rw[if_neg h0,if_neg h5]
   have hb5:(t.kind != 5)=true:=by simpa using h5
   rw[hr,Ep]
   refine A7 Tryz.func201 Tryz.ntmps201 ?_
   refine A3 q9 ?_
   refine w7 (A4 [] hsz) q9 ?_
   refine A3 (j2 hb hb5) ?_
   refine w7 (A4 [] (Bm 6)) q9 ?_
   refine A3 q9 ?_
   exact Ad (A6 []) Tryz.results201
theorem Bk (c:Int) (t:V):EK (c,some t)=Dh 0 t:=rfl
theorem Bj (c:Int):EK (c,none)=Dh c BE:=rfl
theorem ZG {t k:V}(h:t.right) (hk:k.right):AC Tryz.prog 123 [t.av,k.av] [] (EK (CB t k)) []:=by
 by_cases h4:k.kind=4
 ·have hb:(k.kind==4)=true:=by simpa using h4
  have hr:CB t k=Cm t k.text:=by unfold CB;rw[if_pos h4]
  have hg:=XD h k.text (DB hk)
  rw[hr]
  generalize Cm t k.text=r at *
  rcases r with⟨c,_ | u⟩
  all_goals
   simp only[Bk,Bj]at hg ⊢
   refine A7 Tryz.func123 Tryz.ntmps123 ?_
   refine A3 hb ?_
   refine w9 (A5 [] hg) q9 ?_
   refine A3 q9 ?_
   exact Ad (A6 []) Tryz.results123
 ·have hb:(k.kind==4)=false:=by simpa using h4
  by_cases h3:k.kind=3
  ·have hb3:(k.kind==3)=true:=by simpa using h3
   have hr:CB t k=BR t k.num:=by unfold CB;rw[if_neg h4,if_pos h3]
   have hg:=SG h k.num (Cz hk)
   rw[hr]
   generalize BR t k.num=r at *
   rcases r with⟨c,_ | u⟩
   all_goals
    simp only[Bk,Bj]at hg ⊢
    refine A7 Tryz.func123 Tryz.ntmps123 ?_
    refine A3 (j2 hb hb3) ?_
    refine w9 (A5 [] hg) q9 ?_
    refine A3 q9 ?_
    exact Ad (A6 []) Tryz.results123
  ·have hb3:(k.kind==3)=false:=by simpa using h3
   have hr:CB t k=Ew 6:=by unfold CB;rw[if_neg h4,if_neg h3]
   rw[hr,Ep]
   refine A7 Tryz.func123 Tryz.ntmps123 ?_
   refine A3 (j2 hb hb3) ?_
   refine w9 (A5 [] (Bm 6)) q9 ?_
   refine A3 q9 ?_
   exact Ad (A6 []) Tryz.results123
structure InD where
 op:Int
 arg:Int
 val:List CellD
def C4 (n lo hi:Int):Bool:=decide (n≥lo)&&decide (n≤hi)
set_option maxRecDepth 10000
def InD.cs (d:InD):List C:=[.int .i64 d.op,.int .i64 d.arg,.sl (d.val.map CellD.cs)]
def InD.av (d:InD):AV:=.agg [.c (.int .i64 d.op),.c (.int .i64 d.arg),.c (.sl (d.val.map CellD.cs))]
attribute [go_sem] InD.av
set_option maxRecDepth 10000
def InD.os (d:InD):List C:=[.int .i64 d.op,.int .i64 d.arg,.osl (d.val.map CellD.cs)]
theorem UB (l:List InD):AU (l.map InD.os)=l.map InD.cs:=by
 induction l with
 |nil=>rfl
 |cons d l ih=>simp only[List.map_cons,AU,ih,InD.os,InD.cs,Cv,C.forget,Ea]
theorem Uf (l:List InD):BD (l.map InD.os)=true:=by
 induction l with
 |nil=>rfl
 |cons d l ih=>simp only[List.map_cons,BD,ih,Bool.and_true,InD.os,Fl,C.closed,E7]
theorem a0r (l:List InD):((l.map InD.os).all fun r=>r.length==3)=true:=by simp[InD.os]
attribute [go_sem] UB Uf a0r
theorem Tu (l:List CellD):GE (l.map CellD.cs)=true:=by
 induction l with
 |nil=>rfl
 |cons c l ih=>simp only[List.map_cons,GE,ih,Bool.and_true,CellD.cs,GQ,C.plain,Bool.and_self]
end Go.Proofs.YtcejfdfmgmcinaaGreat
