/- Texts of this proof: G20 G21 G22 M13 G35 G40. -/
import Derived.Test.YtcejfdfmgmcinaaGreatKM2
import Derived.Test.YtcejfdfmgmcinaaGreatKG10uG33
set_option linter.all false
set_option maxHeartbeats 8000000
namespace Go.Proofs.YtcejfdfmgmcinaaGreat
open Go.RowKit
def D7 (c:Int) (t:V):AV:=.agg [.c (.int .i64 c),.c (.int .i64 t.kind),.c (.int .i64 t.num),.c (.str t.text),.c (.sl (t.keys.map Ae)),.c (.sl (t.kids.map V.cs))]
def EF (r:Int×Option V):AV:=match r.2 with
 |some t=>D7 0 t
 |none=>D7 r.1 BD
theorem a2x (c:Int) (t:V):D7 c t=.agg [.c (.int .i64 c),.c (.int .i64 t.kind),.c (.int .i64 t.num),.c (.str t.text),.c (.sl (t.keys.map Ae)),.c (.sl (t.kids.map V.cs))]:=rfl
theorem LV (c:Int):D7 c BD=.agg [.c (.int .i64 c),.c (.int .i64 0),.c (.int .i64 0),.c (.str ByteArray.empty),.c (.sl []),.c (.sl [])]:=rfl
theorem Dc (t:V):EF (okR t)=D7 0 t:=rfl
theorem Ei (c:Int):EF (Eo c)=D7 c BD:=rfl
theorem a0e:BD.av=.agg [.c (.int .i64 0),.c (.int .i64 0),.c (.str ByteArray.empty),.c (.sl []),.c (.sl [])]:=rfl
attribute [go_sem] a2x
set_option maxRecDepth 10000
theorem Lm:AC Tryz.prog 251 [] [] BD.av []:=by
 rw[a0e]
 refine A6 Tryz.func251 Tryz.ntmps251 q9 ?_
 exact Ag (A5 []) Tryz.results251
theorem Bj (c:Int):AC Tryz.prog 199 [.c (.int .i64 c)] [] (D7 c BD) []:=by
 rw[LV]
 refine A6 Tryz.func199 Tryz.ntmps199 q9 ?_
 exact Ag (A5 []) Tryz.results199
theorem Sm:∀(m:Nat) (t:V),t.count≤m→t.count≤500000→AC Tryz.prog 279 [t.av] [] (.c (.int .i64 t.count)) []:=by
 intro m
 induction m with
 |zero=>intro t hm _;have:=CI t;omega
 |succ m ih =>
  intro t hm hM
  have hkc:=AP t
  have hkl:=Bq t.kids
  obtain⟨R,hR⟩:∃R:Nat→Nat,∀k,R k=1+Aw (t.kids.take k):=⟨_,fun _=>rfl⟩
  have h0:R 0=1:=by rw[hR];simp[Aw]
  refine A6 Tryz.func279 Tryz.ntmps279 q9 ?_
  refine Ar (κ:=Nat) (fun k=>⟨mkS 0 19 [(1,.ptr (1,0) 0),(3,.c (.int .i64 (R k))),(7,.c (.sl (t.kids.map V.cs))),(8,.c (.int .i64 t.kids.length)),(9,.c (.int .i64 k))],
    [((1,0),.box [.c (.int .i64 t.kind),.c (.int .i64 t.num),.c (.str t.text),.c (.sl (t.keys.map Ae)),.c (.sl (t.kids.map V.cs))])]⟩)
   (fun k=>k≤t.kids.length) (fun k=>t.kids.length-k) 0 (Nat.zero_le _) ?_ ?_
  ·exact Ac (Aj.of [((1,0),(1,0))] []) h0
  ·intro k hk
   by_cases hlt:k<t.kids.length
   ·have hd:decide ((k:Int)<(t.kids.length:Int))=true:=by simpa using hlt
    have hr:A8 (t.kids.map V.cs) 5 k=true:=by simp[A8,hlt,V.cs_eq]
    have hg:(t.kids.map V.cs)[k]? = some t.kids[k].cs:=by simp[hlt]
    have hmem:=CL (List.getElem_mem hlt)
    have hRk:R (k+1)=R k+t.kids[k].count:=by rw[hR,hR,List.take_succ_eq_append_getElem hlt,II];omega
    have hRl:R (k+1)≤t.count:=by rw[hR];have:=EL t.kids (k+1);omega
    have hw:=Ad (k:=k) (by omega)
    generalize t.kids[k]=u at *
    have hi:=ih u (by omega) (by omega)
    have hs:IntKind.i64.wrap ((R k:Int)+(u.count:Int))=((R (k+1):Nat):Int):=by rw[IntWalk.i64_in _ (by omega)];omega
    refine Ab (j3 hd hr hg) ?_
    refine v7 (A3 [] hi) q9 (j2 hs hw) ?_
    refine⟨k+1,by omega,by omega,?_⟩
    exact Ac (Aj.of [((1,0),(1,0))] []) hs
   ·have hd:decide ((k:Int)<(t.kids.length:Int))=false:=by simpa using hlt
    have hke:R k=t.count:=by rw[hR,List.take_of_length_le (by omega)];omega
    refine Ab hd ?_
    exact A5 [] (by simp only[Tryz.results279,go_sem,Nat.reduceBEq,Nat.reduceLT];exact rfl) (by simp only[go_sem,Nat.reduceEqDiff,Nat.reduceAdd,Nat.reduceSub,Nat.reduceLeDiff,Nat.reduceMul,Nat.reduceBEq,Nat.reduceLT,Int.reduceToNat,reduceCtorEq,hke]) rfl
theorem DW {s:ByteArray}(h:Bi s=true):s.size≤60:=by
 unfold Bi at h
 simp only[Bool.and_eq_true,decide_eq_true_eq]at h
 exact h.1
theorem TH {t:V}(h:t.right):EG t.enc:=by
 intro c hc
 have h1:=Fp t ByteArray.empty h.1 BA c hc
 have h2:=Jb h1
 exact⟨by have:=DW h2.1;omega,by have:=DW h2.2;omega⟩
theorem Zv {t:V}(h:t.right):AC Tryz.prog 206 [t.av] [] (.c (.int .i64 0)) []:=by
 have hc:=h.2.1
 have h1:=Sm t.count t (Nat.le_refl _) (by omega)
 have h2:=Na t.count t (Nat.le_refl _) (by omega) (Kr h)
 have h3:=Lw t.enc (TH h) (t:=t) (by rw[Jo h])
 have hd:decide ((t.count:Int)>200)=false:=by simp;omega
 refine A6 Tryz.func206 Tryz.ntmps206 q9 ?_
 refine v7 (A3 [] h1) q9 hd ?_
 refine w12 (AU [] h2) q9 ?_
 refine v9 (A4 [(10,0)] h3) q9 q9 ?_
 exact Ag (A5 []) Tryz.results206
theorem B8 {t:V}(h:t.right):AC Tryz.prog 126 [t.av] [] (D7 0 t) []:=by
 have h1:=Zv h
 have h0:((0:Int) != 0)=false:=rfl
 refine A6 Tryz.func126 Tryz.ntmps126 q9 ?_
 refine v7 (A3 [] h1) q9 h0 ?_
 exact Ag (A5 []) Tryz.results126
set_option maxRecDepth 10000
theorem XZ (s:ByteArray):AC Tryz.prog 374 [.c (.str s)] [] (.c (.bool false)) []:=by
 refine AA Tryz.func374 Tryz.ntmps374 ?_
 (repeat (first | (with_reducible first | refine Pm ?_ | refine CV ?_ | refine J3 ?_ | refine J5 ?_) | ((with_reducible apply LT);(iterate 2 (focus (first | (simp only[go_sem,Nat.reduceEqDiff,Nat.reduceAdd,Nat.reduceSub,Nat.reduceLeDiff,Nat.reduceMul,Nat.reduceBEq,Nat.reduceLT,Int.reduceToNat,reduceCtorEq,beq_self_eq_true];first | done | exact rfl | (and_intros<;>rfl)) | exact rfl | decide)))) | ((with_reducible refine Q4 ?_);dsimp only;try ((with_reducible apply LS);(focus (simp only[go_sem];exact rfl));(focus decide))) | ((with_reducible first | refine Pk ?_ | refine LB ?_ | refine J4 ?_);dsimp only) | ((with_reducible refine LA ?_);dsimp only;simp only[if_true,if_false,Nat.reduceEqDiff]) | ((with_reducible apply Xg);(focus (simp only[go_sem,Nat.reduceBEq,Nat.reduceLT,beq_self_eq_true];exact rfl));dsimp only[cond_true,cond_false]) | ((with_reducible refine Lz ?_ ?_);(focus exact rfl))))
 exact Ag (A5 []) Tryz.results374
theorem Y0 (s:ByteArray):AC Tryz.prog 376 [.c (.str s)] [] (.c (.bool false)) []:=by
 refine AA Tryz.func376 Tryz.ntmps376 ?_
 (repeat (first | (with_reducible first | refine Pm ?_ | refine CV ?_ | refine J3 ?_ | refine J5 ?_) | ((with_reducible apply LT);(iterate 2 (focus (first | (simp only[go_sem,Nat.reduceEqDiff,Nat.reduceAdd,Nat.reduceSub,Nat.reduceLeDiff,Nat.reduceMul,Nat.reduceBEq,Nat.reduceLT,Int.reduceToNat,reduceCtorEq,beq_self_eq_true];first | done | exact rfl | (and_intros<;>rfl)) | exact rfl | decide)))) | ((with_reducible refine Q4 ?_);dsimp only;try ((with_reducible apply LS);(focus (simp only[go_sem];exact rfl));(focus decide))) | ((with_reducible first | refine Pk ?_ | refine LB ?_ | refine J4 ?_);dsimp only) | ((with_reducible refine LA ?_);dsimp only;simp only[if_true,if_false,Nat.reduceEqDiff]) | ((with_reducible apply Xg);(focus (simp only[go_sem,Nat.reduceBEq,Nat.reduceLT,beq_self_eq_true];exact rfl));dsimp only[cond_true,cond_false]) | ((with_reducible refine Lz ?_ ?_);(focus exact rfl))))
 exact Ag (A5 []) Tryz.results376
theorem Ut (a b:ByteArray):AC Tryz.prog 375 [.c (.str a),.c (.str b)] [] (.c (.bool (AZ a b))) []:=by
 refine A6 Tryz.func375 Tryz.ntmps375 q9 ?_
 refine v7 (A3 [] (XZ a)) q9 q9 ?_
 exact A5 [] (by simp only[Tryz.results375,go_sem,Nat.reduceBEq,Nat.reduceLT];exact rfl) (by simp only[go_sem,Nat.reduceEqDiff,Nat.reduceAdd,Nat.reduceSub,Nat.reduceLeDiff,Nat.reduceMul,Nat.reduceBEq,Nat.reduceLT,Int.reduceToNat,reduceCtorEq,AZ]) rfl
def CF (ks:List ByteArray) (key:ByteArray):Nat:=ks.findIdx fun k=>!AZ k key
theorem KC (ks:List ByteArray) (key:ByteArray):CF ks key≤ks.length:=List.findIdx_le_length
theorem LC {ks:List ByteArray}{key:ByteArray}{t:Nat}(h:t<CF ks key):AZ (ks[t]'(by have:=KC ks key;omega)) key=true:=by
 have:=List.not_of_lt_findIdx h
 simpa using this
theorem N7 {ks:List ByteArray}{key:ByteArray}(hs:asc none ks) {t:Nat}(ht:t<ks.length) (h:CF ks key≤t):AZ ks[t] key=false:=by
 have hp:CF ks key<ks.length:=by omega
 have h1:AZ (ks[CF ks key]) key=false:=by
  have h2:(fun k=>!AZ k key) (ks[CF ks key])=true:=List.findIdx_getElem (w:=hp)
  simpa using h2
 by_cases he:t=CF ks key
 ·subst he;exact h1
 ·have h2:=JX hs (i:=CF ks key) (j:=t) (by omega) ht
  cases hl:AZ ks[t] key with
  |false=>rfl
  |true =>
   have:=Ey h2 hl
   rw[h1]at this
   cases this
def BW (ks:List ByteArray) (key:ByteArray):Bool:=if h:CF ks key<ks.length then ks[CF ks key].toList==key.toList else false
theorem UJ {ks:List ByteArray}{key:ByteArray}(hs:asc none ks):Fh ks key=if BW ks key then some (CF ks key) else none:=by
 rw[UI hs (KC ks key) (fun t h=>LC h) (fun t h hp=>N7 hs h hp)]
 unfold BW
 by_cases h:CF ks key<ks.length
 ·rw[dif_pos h,dif_pos h]
 ·rw[dif_neg h,dif_neg h];rfl
theorem Qy (ks:List ByteArray) (key:ByteArray) (hs:asc none ks) (hl:ks.length≤1000000):AC Tryz.prog 339 [.c (.sl (ks.map Ae)),.c (.str key)] [] (.tup [.c (.int .i64 (CF ks key)),.c (.bool (BW ks key))]) []:=by
 have hple:=KC ks key
 obtain⟨p,hp⟩:∃p,p=CF ks key:=⟨_,rfl⟩
 rw[←hp]at hple
 refine A6 Tryz.func339 Tryz.ntmps339 q9 ?_
 refine Ar (κ:=Nat×Nat) (fun x=>⟨mkS 0 54 [(0,.c (.sl (ks.map Ae))),(1,.c (.str key)),(6,.c (.int .i64 ks.length)),(7,.c (.int .i64 x.1)),(8,.c (.int .i64 x.2))],[]⟩)
  (fun x=>x.1≤p∧p≤x.2∧x.2≤ks.length) (fun x=>x.2-x.1) (0,ks.length) ⟨Nat.zero_le _,hple,Nat.le_refl _⟩ ?_ ?_
 ·exact Ac (Aj.of [] []) hl
 ·rintro⟨i,j⟩ ⟨hi,hj,hjn⟩
  dsimp only at hi hj hjn ⊢
  by_cases hlt:i<j
  ·have hdk:decide ((i:Int)<(j:Int))=true:=by simpa using hlt
   have hm1:(i+j) / 2<j:=by omega
   have hm2:i≤(i+j) / 2:=by omega
   have hwa:IntKind.i64.wrap ((i:Int)+(j:Int))=((i+j:Nat):Int):=by rw[IntWalk.i64_in _ (by omega)];omega
   have hwu:IntKind.u64.wrap ((i+j:Nat):Int)=((i+j:Nat):Int):=by
    unfold IntKind.wrap
    simp[IntKind.bits,IntKind.signed]
    omega
   have hwh:IntKind.i64.wrap (((i+j) / 2:Nat):Int)=(((i+j) / 2:Nat):Int):=by rw[IntWalk.i64_in _ (by omega)]
   generalize hH:(i+j) / 2=h at *
   have hhl:h<ks.length:=by omega
   have hr:A8 (ks.map Ae) 1 h=true:=by simp[A8,hhl,Ae]
   have hg:(ks.map Ae)[h]? = some [.str ks[h]]:=by simp[hhl,Ae]
   have hc:=Ut ks[h] key
   have hw1:=Ad (k:=h) (by omega)
   cases hb:AZ ks[h] key with
   |true =>
    rw[hb]at hc
    have hhp:h<p:=by
     by_cases hq:h<p
     ·exact hq
     ·rw[hp]at hq
      have:=N7 (key:=key) hs hhl (by omega)
      rw[this]at hb
      cases hb
    refine Ab (j3 hdk hwa hwu) ?_
    ((with_reducible apply Em);(iterate 4 (focus (first | (simp only[go_sem,Nat.reduceEqDiff,Nat.reduceAdd,Nat.reduceSub,Nat.reduceLeDiff,Nat.reduceMul,Nat.reduceBEq,Nat.reduceLT,Int.reduceToNat,reduceCtorEq,hwa,hwu];first | done | exact rfl | (and_intros<;>rfl)) | exact rfl | decide))))
    refine Ab (j4 hH hwh hr hg) ?_
    refine v7 (A3 [] hc) q9 hw1 ?_
    refine⟨(h+1,j),by dsimp only;omega,⟨by dsimp only;omega,hj,hjn⟩,?_⟩
    exact Ac (Aj.of [] []) hw1
   |false =>
    rw[hb]at hc
    have hhp:p≤h:=by
     by_cases hq:p≤h
     ·exact hq
     ·rw[hp]at hq
      have:=LC (ks:=ks) (key:=key) (t:=h) (by omega)
      rw[this]at hb
      cases hb
    refine Ab (j3 hdk hwa hwu) ?_
    ((with_reducible apply Em);(iterate 4 (focus (first | (simp only[go_sem,Nat.reduceEqDiff,Nat.reduceAdd,Nat.reduceSub,Nat.reduceLeDiff,Nat.reduceMul,Nat.reduceBEq,Nat.reduceLT,Int.reduceToNat,reduceCtorEq,hwa,hwu];first | done | exact rfl | (and_intros<;>rfl)) | exact rfl | decide))))
    refine Ab (j4 hH hwh hr hg) ?_
    refine v7 (A3 [] hc) q9 q9 ?_
    refine⟨(i,h),by dsimp only;omega,⟨hi,hhp,by dsimp only;omega⟩,?_⟩
    exact Ac (Aj.of [] []) hw1
  ·have hdk:decide ((i:Int)<(j:Int))=false:=by simpa using hlt
   have hip:i=p:=by omega
   subst hip
   by_cases hpn:i<ks.length
   ·have hdn:decide ((i:Int)<(ks.length:Int))=true:=by simpa using hpn
    have hr:A8 (ks.map Ae) 1 i=true:=by simp[A8,hpn,Ae]
    have hg:(ks.map Ae)[i]? = some [.str ks[i]]:=by simp[hpn,Ae]
    have hf:BW ks key=(ks[i].toList==key.toList):=by
     unfold BW
     rw[dif_pos (by omega)]
     simp only[←hp]
    rw[hf,←hp]
    cases hb:ks[i].toList==key.toList with
    |true =>
     exact FC (j5 hdk hdn hr hg hb) (A5 []) Tryz.results339
    |false =>
     refine Ab (j5 hdk hdn hr hg hb) ?_
     refine v7 (A3 [] (Y0 _)) q9 q9 ?_
     exact Ag (A5 []) Tryz.results339
   ·have hdn:decide ((i:Int)<(ks.length:Int))=false:=by simpa using hpn
    have hf:BW ks key=false:=by
     unfold BW
     rw[dif_neg (by omega)]
    rw[hf,←hp]
    exact FC (j2 hdk hdn) (A5 []) Tryz.results339
theorem Yu {t:V}(h:t.right) (h6:t.kind=6) (key:ByteArray):AC Tryz.prog 277 [t.av,.c (.str key)] [] (t.member key).av []:=by
 obtain⟨hs,_,hkl⟩:=DI h h6
 have hlc:=Bq t.kids
 have hck:=AP t
 have hc:=h.2.1
 have hb:=Qy t.keys key hs (by omega)
 have hfk:=UJ (ks:=t.keys) (key:=key) hs
 cases hf:BW t.keys key with
 |false =>
  rw[hf]at hfk hb
  have hm:t.member key=BD:=by unfold V.member;rw[hfk];rfl
  rw[hm]
  refine A6 Tryz.func277 Tryz.ntmps277 q9 ?_
  refine v7 (A3 [] hb) q9 q9 ?_
  refine v7 (A3 [] Lm) q9 q9 ?_
  exact Ag (A5 []) Tryz.results277
 |true =>
  rw[hf]at hfk hb
  have hp:CF t.keys key<t.kids.length:=by
   unfold BW at hf
   split at hf
   ·omega
   ·cases hf
  have hm:t.member key=t.kids[CF t.keys key]:=by
   unfold V.member
   rw[hfk]
   simp only[if_true]
   rw[List.getD_eq_getElem?_getD,List.getElem?_eq_getElem hp,Option.getD_some]
  rw[hm]
  generalize CF t.keys key=p at *
  have hr:A8 (t.kids.map V.cs) 5 p=true:=by simp[A8,hp,V.cs_eq]
  have hg:(t.kids.map V.cs)[p]? = some t.kids[p].cs:=by simp[hp]
  refine A6 Tryz.func277 Tryz.ntmps277 q9 ?_
  refine v7 (A3 [] hb) q9 (j2 hr hg) ?_
  exact Ag (A5 []) Tryz.results277
set_option maxRecDepth 10000
theorem Mo (s:ByteArray) (hs:s.size≤9223372036854775807):AC Tryz.prog 202 [.c (.str s)] [] (.c (.bool (Bi s))) []:=by
 refine AC.of_calls fun S w κ vs hv=>?_
 obtain⟨v,vs',rfl,⟨rfl,_⟩,rfl⟩:=hv
 refine (E5 s hs w).mono ?_
 rintro e w' ⟨rfl,rfl⟩
 exact⟨Below.refl _ _,_,rfl,fun T _ _=>⟨rfl,rfl⟩⟩
theorem ED (n lo hi:Int):AC Tryz.prog 72 [.c (.int .i64 n),.c (.int .i64 lo),.c (.int .i64 hi)] [] (.c (.bool (decide (n≥lo)&&decide (n≤hi)))) []:=by
 cases h1:decide (n≥lo)<;>cases h2:decide (n≤hi)
 all_goals
  refine A6 Tryz.func72 Tryz.ntmps72 (j2 h1 h2) ?_
  exact Ag (A5 []) Tryz.results72
theorem On {t:V}(h:t.right):(⟨t.kind,t.num,t.text,ByteArray.empty,t.kids.length⟩:CellD).code=0:=by
 refine Fp t ByteArray.empty h.1 BA _ ?_
 rw[Dk]
 simp
theorem Cs {t:V}(h:t.right):-1000000000000000≤t.num∧t.num≤1000000000000000:=by
 have hc:=On h
 unfold CellD.code AS at hc
 have hr:cR t.num (t.kids.length:Int)=false:=by
  cases hh:cR t.num (t.kids.length:Int)
  ·rfl
  ·simp only[hh]at hc
   split at hc
   ·omega
   ·split at hc
    ·omega
    ·simp at hc
 simp[cR,inB]at hr
 omega
theorem Du {t:V}(h:t.right):Bi t.text=true:=(Jb (On h)).1
theorem XU {t:V}(h:t.right) (key:ByteArray) (hk:Bi key=true):AC Tryz.prog 200 [t.av,.c (.str key)] [] (EF (Cg t key)) []:=by
 have hs:=Mo key (by have:=DW hk;omega)
 rw[hk]at hs
 by_cases h0:t.kind=0
 ·have hr:Cg t key=okR BD:=by unfold Cg;rw[if_pos h0]
  have hb:(t.kind==0)=true:=by simpa using h0
  rw[hr,Dc]
  refine A6 Tryz.func200 Tryz.ntmps200 q9 ?_
  refine v7 (A3 [] hs) q9 hb ?_
  refine w7 (A3 [] Lm) q9 ?_
  refine v7 (A3 [] (B8 CP)) q9 q9 ?_
  exact Ag (A5 []) Tryz.results200
 ·have hb:(t.kind==0)=false:=by simpa using h0
  by_cases h6:t.kind=6
  ·have hr:Cg t key=okR (t.member key):=by unfold Cg;rw[if_neg h0,if_pos h6]
   have hb6:(t.kind != 6)=false:=by simpa using h6
   have hm:=Yu h h6 key
   have hg:=B8 (Lq h h6 key)
   rw[hr,Dc]
   generalize t.member key=u at *
   refine A6 Tryz.func200 Tryz.ntmps200 q9 ?_
   refine v7 (A3 [] hs) q9 (j2 hb hb6) ?_
   refine w9 (A4 [] hm) q9 ?_
   refine v9 (A4 [] hg) q9 q9 ?_
   exact Ag (A5 []) Tryz.results200
  ·have hr:Cg t key=Eo 6:=by unfold Cg;rw[if_neg h0,if_neg h6]
   have hb6:(t.kind != 6)=true:=by simpa using h6
   rw[hr,Ei]
   refine A6 Tryz.func200 Tryz.ntmps200 q9 ?_
   refine v7 (A3 [] hs) q9 (j2 hb hb6) ?_
   refine v7 (A3 [] (Bj 6)) q9 q9 ?_
   exact Ag (A5 []) Tryz.results200
theorem SP {t:V}(h:t.right) (n:Int) (hn:-1000000000000000≤n∧n≤1000000000000000):AC Tryz.prog 201 [t.av,.c (.int .i64 n)] [] (EF (BN t n)) []:=by
 have hkl:=BH h.2.1
 have hsz:=GM t.kids
 by_cases h0:t.kind=0
 ·have hr:BN t n=okR BD:=by unfold BN;rw[if_pos h0]
  have hb:(t.kind==0)=true:=by simpa using h0
  rw[hr,Dc]
  refine A6 Tryz.func201 Tryz.ntmps201 q9 ?_
  refine v7 (A3 [] hsz) q9 hb ?_
  refine w7 (A3 [] Lm) q9 ?_
  refine v7 (A3 [] (B8 CP)) q9 q9 ?_
  exact Ag (A5 []) Tryz.results201
 ·have hb:(t.kind==0)=false:=by simpa using h0
  by_cases h5:t.kind=5
  ·have hb5:(t.kind != 5)=false:=by simpa using h5
   have hwn:IntKind.i64.wrap (0-(t.kids.length:Int)) = -(t.kids.length:Int):=by rw[IntWalk.i64_in _ (by omega)];omega
   have hwm:IntKind.i64.wrap ((t.kids.length:Int)-1)=(t.kids.length:Int)-1:=IntWalk.i64_in _ (by omega)
   have hwi:=ED n (-(t.kids.length:Int)) ((t.kids.length:Int)-1)
   cases hin:(decide (n≥-(t.kids.length:Int))&&decide (n≤(t.kids.length:Int)-1)) with
   |false =>
    rw[hin]at hwi
    have hr:BN t n=okR BD:=by
     unfold BN CZ
     rw[if_neg h0,if_pos h5,if_neg]
     simp at hin
     split<;>omega
    rw[hr,Dc]
    refine A6 Tryz.func201 Tryz.ntmps201 q9 ?_
    refine v7 (A3 [] hsz) q9 (j4 hb hb5 hwn hwm) ?_
    refine v7 (A3 [] hwi) q9 q9 ?_
    refine w7 (A3 [] Lm) q9 ?_
    refine v7 (A3 [] (B8 CP)) q9 q9 ?_
    exact Ag (A5 []) Tryz.results201
   |true =>
    rw[hin]at hwi
    simp at hin
    obtain⟨p,hp,hpl⟩:∃p:Nat,CZ n t.kids.length=p∧p<t.kids.length:=by
     refine⟨(CZ n t.kids.length).toNat,?_,?_⟩<;>unfold CZ<;>split<;>omega
    have hr:BN t n=okR t.kids[p]:=by
     unfold BN
     rw[if_neg h0,if_pos h5,hp,if_pos (by omega),Int.toNat_natCast,List.getD_eq_getElem?_getD,List.getElem?_eq_getElem hpl,Option.getD_some]
    have hrw:A8 (t.kids.map V.cs) 5 p=true:=by simp[A8,hpl,V.cs_eq]
    have hg:(t.kids.map V.cs)[p]? = some t.kids[p].cs:=by simp[hpl]
    have hgv:=B8 (Bb h (List.getElem_mem hpl))
    rw[hr,Dc]
    generalize t.kids[p]=u at *
    unfold CZ at hp
    by_cases hneg:n<0
    ·rw[if_pos hneg]at hp
     have hd:decide (n<0)=true:=by simpa using hneg
     have hwa:IntKind.i64.wrap (n+(t.kids.length:Int))=(p:Int):=by rw[hp];exact IntWalk.i64_in _ (by omega)
     refine A6 Tryz.func201 Tryz.ntmps201 q9 ?_
     refine v7 (A3 [] hsz) q9 (j4 hb hb5 hwn hwm) ?_
     refine v7 (A3 [] hwi) q9 (j4 hd hwa hrw hg) ?_
     refine v9 (A4 [] hgv) q9 q9 ?_
     exact Ag (A5 []) Tryz.results201
    ·rw[if_neg hneg]at hp
     subst hp
     have hd:decide ((p:Int)<0)=false:=by simp
     refine A6 Tryz.func201 Tryz.ntmps201 q9 ?_
     refine v7 (A3 [] hsz) q9 (j4 hb hb5 hwn hwm) ?_
     refine v7 (A3 [] hwi) q9 (j3 hd hrw hg) ?_
     refine v9 (A4 [] hgv) q9 q9 ?_
     exact Ag (A5 []) Tryz.results201
  ·have hr:BN t n=Eo 6:=by unfold BN;rw[if_neg h0,if_neg h5]
   have hb5:(t.kind != 5)=true:=by simpa using h5
   rw[hr,Ei]
   refine A6 Tryz.func201 Tryz.ntmps201 q9 ?_
   refine v7 (A3 [] hsz) q9 (j2 hb hb5) ?_
   refine v7 (A3 [] (Bj 6)) q9 q9 ?_
   exact Ag (A5 []) Tryz.results201
theorem Bh (c:Int) (t:V):EF (c,some t)=D7 0 t:=rfl
theorem Bg (c:Int):EF (c,none)=D7 c BD:=rfl
theorem i7 {t k:V}(h:t.right) (hk:k.right):AC Tryz.prog 123 [t.av,k.av] [] (EF (Cu t k)) []:=by
 by_cases h4:k.kind=4
 ·have hb:(k.kind==4)=true:=by simpa using h4
  have hr:Cu t k=Cg t k.text:=by unfold Cu;rw[if_pos h4]
  have hg:=XU h k.text (Du hk)
  rw[hr]
  generalize Cg t k.text=r at *
  rcases r with⟨c,_ | u⟩
  all_goals
   simp only[Bh,Bg]at hg ⊢
   refine A6 Tryz.func123 Tryz.ntmps123 hb ?_
   refine v9 (A4 [] hg) q9 q9 ?_
   exact Ag (A5 []) Tryz.results123
 ·have hb:(k.kind==4)=false:=by simpa using h4
  by_cases h3:k.kind=3
  ·have hb3:(k.kind==3)=true:=by simpa using h3
   have hr:Cu t k=BN t k.num:=by unfold Cu;rw[if_neg h4,if_pos h3]
   have hg:=SP h k.num (Cs hk)
   rw[hr]
   generalize BN t k.num=r at *
   rcases r with⟨c,_ | u⟩
   all_goals
    simp only[Bh,Bg]at hg ⊢
    refine A6 Tryz.func123 Tryz.ntmps123 (j2 hb hb3) ?_
    refine v9 (A4 [] hg) q9 q9 ?_
    exact Ag (A5 []) Tryz.results123
  ·have hb3:(k.kind==3)=false:=by simpa using h3
   have hr:Cu t k=Eo 6:=by unfold Cu;rw[if_neg h4,if_neg h3]
   rw[hr,Ei]
   refine A6 Tryz.func123 Tryz.ntmps123 (j2 hb hb3) ?_
   refine v9 (A4 [] (Bj 6)) q9 q9 ?_
   exact Ag (A5 []) Tryz.results123
structure InD where
 op:Int
 arg:Int
 val:List CellD
def C1 (n lo hi:Int):Bool:=decide (n≥lo)&&decide (n≤hi)
set_option maxRecDepth 10000
def InD.cs (d:InD):List C:=[.int .i64 d.op,.int .i64 d.arg,.sl (d.val.map CellD.cs)]
def InD.av (d:InD):AV:=.agg [.c (.int .i64 d.op),.c (.int .i64 d.arg),.c (.sl (d.val.map CellD.cs))]
attribute [go_sem] InD.av
set_option maxRecDepth 10000
def InD.os (d:InD):List C:=[.int .i64 d.op,.int .i64 d.arg,.osl (d.val.map CellD.cs)]
theorem UN (l:List InD):AT (l.map InD.os)=l.map InD.cs:=by
 induction l with
 |nil=>rfl
 |cons d l ih=>simp only[List.map_cons,AT,ih,InD.os,InD.cs,Cn,C.forget,E4]
theorem Us (l:List InD):Bm (l.map InD.os)=true:=by
 induction l with
 |nil=>rfl
 |cons d l ih=>simp only[List.map_cons,Bm,ih,Bool.and_true,InD.os,Ff,C.closed,E2]
theorem a1t (l:List InD):((l.map InD.os).all fun r=>r.length==3)=true:=by simp[InD.os]
attribute [go_sem] UN Us a1t
theorem TC (l:List CellD):GI (l.map CellD.cs)=true:=by
 induction l with
 |nil=>rfl
 |cons c l ih=>simp only[List.map_cons,GI,ih,Bool.and_true,CellD.cs,GT,C.plain,Bool.and_self]
end Go.Proofs.YtcejfdfmgmcinaaGreat
