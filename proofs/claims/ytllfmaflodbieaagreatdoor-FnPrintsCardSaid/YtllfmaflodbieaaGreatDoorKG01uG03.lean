/- Texts of this proof: G01 G02 G03. -/
import Derived.Test.YtllfmaflodbieaaGreatDoorKE6
import Derived.IntWalk
set_option linter.all false
set_option maxHeartbeats 8000000
namespace Go.Proofs.YtllfmaflodbieaaGreatDoor
section
open Go.RowKit
def CellD.cs (c:CellD):List C:=[.int .i64 c.kind,.int .i64 c.num,.str c.text,.str c.key,.int .i64 c.n]
def CX (s:ByteArray):List C:=[.str s]
mutual
def V.cs:V→List C
 | .mk kind num text keys kids=>[.int .i64 kind,.int .i64 num,.str text,.sl (keys.map CX),.sl (csL kids)]
def csL:List V→List (List C)
 | []=>[]
 |k::ks=>k.cs::csL ks
end
theorem GS:∀(l:List V),csL l=l.map V.cs
 | []=>rfl
 |k::ks=>by simp[csL,GS ks]
theorem V.cs_eq (t:V):t.cs=[.int .i64 t.kind,.int .i64 t.num,.str t.text,.sl (t.keys.map CX),.sl (t.kids.map V.cs)]:=by
 cases t
 simp[V.cs,GS,V.kind,V.num,V.text,V.keys,V.kids]
def V.av (t:V):AV:=.agg [.c (.int .i64 t.kind),.c (.int .i64 t.num),.c (.str t.text),.c (.sl (t.keys.map CX)),.c (.sl (t.kids.map V.cs))]
def CellD.av (c:CellD):AV:=.agg [.c (.int .i64 c.kind),.c (.int .i64 c.num),.c (.str c.text),.c (.str c.key),.c (.int .i64 c.n)]
def Js (l:List V):AV:=.c (.sl (l.map V.cs))
def Iw (l:List CellD):AV:=.c (.sl (l.map CellD.cs))
section
variable (k n:Int) (s:ByteArray) (ks:List ByteArray) (vs:List V)
theorem Mx:(V.mk k n s ks vs).kind=k:=rfl
theorem IY:(V.mk k n s ks vs).num=n:=rfl
theorem I9:(V.mk k n s ks vs).text=s:=rfl
theorem HT:(V.mk k n s ks vs).keys=ks:=rfl
theorem Rk:(V.mk k n s ks vs).kids=vs:=rfl
end
attribute [go_sem] V.av CellD.av Js Iw CellD.cs CX V.cs_eq Jp L2 Ir Dq Mx IY I9 HT Rk
set_option maxRecDepth 10000
theorem HN (c:CellD):KP c.cs=c.cs:=rfl
theorem IG (s:ByteArray):KP (CX s)=CX s:=rfl
theorem a3p (t:V):KP t.cs=t.cs:=by rw[V.cs_eq];rfl
theorem Cn (l:List CellD):Ac (l.map CellD.cs)=l.map CellD.cs:=AH _ HN l
theorem EH (l:List ByteArray):Ac (l.map CX)=l.map CX:=AH _ IG l
theorem Ea (l:List V):Ac (l.map V.cs)=l.map V.cs:=AH _ a3p l
theorem Zb (s:ByteArray):(Jp s).av=.agg [.c (.int .i64 4),.c (.int .i64 0),.c (.str s),.c (.sl []),.c (.sl [])]:=rfl
theorem YX (n:Int):(L2 n).av=.agg [.c (.int .i64 3),.c (.int .i64 n),.c (.str ByteArray.empty),.c (.sl []),.c (.sl [])]:=rfl
theorem a3b (l:List V):(Ir l).av=.agg [.c (.int .i64 5),.c (.int .i64 0),.c (.str ByteArray.empty),.c (.sl []),.c (.sl (l.map V.cs))]:=rfl
attribute [go_sem] Cn EH Ea
theorem Ze (s:ByteArray):AC Tryz.prog 175 [.c (.str s)] [] (Jp s).av []:=by
 rw[Zb]
 refine JI Tryz.func175 Tryz.ntmps175 ?_
 refine JV q9 ?_
 exact JW (Iu []) Tryz.results175
theorem Qj (n:Int):AC Tryz.prog 218 [.c (.int .i64 n)] [] (L2 n).av []:=by
 rw[YX]
 refine JI Tryz.func218 Tryz.ntmps218 ?_
 refine JV q9 ?_
 exact JW (Iu []) Tryz.results218
theorem Pw (l:List V):AC Tryz.prog 89 [Js l] [] (Ir l).av []:=by
 rw[a3b]
 refine JI Tryz.func89 Tryz.ntmps89 ?_
 refine JV q9 ?_
 exact JW (Iu []) Tryz.results89
theorem Wf (t:V) (hn:t.neat) (i:Nat) (hi:i<t.kids.length):AC Tryz.prog 208 [t.av,.c (.int .i64 i)] [] (t.keyV i).av []:=by
 by_cases h6:t.kind=6
 ·obtain⟨hkk,hke⟩:=Mj hn h6 hi
  have hk:t.keyV i=Jp t.keys[i]:=by unfold V.keyV;rw[if_pos h6,hke]
  have hb:(t.kind==6)=true:=by simpa using h6
  have hr:B4 (t.keys.map CX) 1 i=true:=by simp[B4,hkk,CX]
  have hg:(t.keys.map CX)[i]? = some [.str t.keys[i]]:=by simp[hkk,CX]
  rw[hk,Zb]
  refine JI Tryz.func208 Tryz.ntmps208 ?_
  refine JV (j3 hb hr hg) ?_
  refine w7 (Ju [] (Ze _)) q9 ?_
  refine JV q9 ?_
  exact JW (Iu []) Tryz.results208
 ·have hk:t.keyV i=L2 i:=if_neg h6
  have hb:(t.kind==6)=false:=by simpa using h6
  rw[hk,YX]
  refine JI Tryz.func208 Tryz.ntmps208 ?_
  refine JV hb ?_
  refine w7 (Ju [] (Qj _)) q9 ?_
  refine JV q9 ?_
  exact JW (Iu []) Tryz.results208
end
section
open Go.RowKit
theorem Tj (l:List CellD):((l.map CellD.cs).all fun r=>r.length==5)=true:=by simp[CellD.cs]
theorem Ou (l:List V):((l.map V.cs).all fun r=>r.length==5)=true:=by simp[V.cs_eq]
theorem NY (l:List ByteArray):((l.map CX).all fun r=>r.length==1)=true:=by simp[CX]
attribute [go_sem] Tj Ou NY
theorem JX {k:Nat}(h:k<9000000000000000000):IntKind.i64.wrap ((k:Int)+1)=((k+1:Nat):Int):=by
 rw[IntWalk.i64_in _ (by omega)]
 simp
theorem Tn (u:V) (key:ByteArray):(u.enc.map CellD.cs).set 0 (Aj [.int .i64 u.kind,.int .i64 u.num,.str u.text,.str ByteArray.empty,.int .i64 u.kids.length] 3 [.str key])=(u.cells key).map CellD.cs:=by
 cases u
 simp[V.enc,V.cells,CellD.cs,Aj,Mx,IY,I9,Rk]
theorem Lq (u:V):(u.enc.map CellD.cs)[0]? = some [.int .i64 u.kind,.int .i64 u.num,.str u.text,.str ByteArray.empty,.int .i64 u.kids.length]:=by
 cases u
 simp[V.enc,V.cells,CellD.cs,Mx,IY,I9,Rk]
set_option maxRecDepth 10000
theorem Na (l:List V):AC Tryz.prog 98 [Js l] [] (.c (.int .i64 l.length)) []:=by
 refine JI Tryz.func98 Tryz.ntmps98 ?_
 refine JV q9 ?_
 exact JW (Iu []) Tryz.results98
theorem Rz:∀(m:Nat) (t:V),t.count≤m→t.count≤500000→t.neat→AC Tryz.prog 49 [t.av] [] (.own (0,0)) [((0,0),.row false 5 115 (t.enc.map CellD.cs))]:=by
 intro m
 induction m with
 |zero=>intro t hm _ _;have:=K8 t;omega
 |succ m ih =>
  intro t hm hM hn
  have hkc:=K4 t
  have hkl:=KA t.kids
  have hn0:BR t.kind=false→t.kids.length=0:=fun h=>by rw[XN hn h];rfl
  have ht0:=NG t
  refine JI Tryz.func49 Tryz.ntmps49 ?_
  cases h5:(t.kind==5)<;>cases h6:(t.kind==6)
  case' false.false =>
   have hz:t.kids.length=0:=hn0 (by simp[BR,h5,h6])
   have hst:(t.enc.take (kp t.kids 0)).map CellD.cs=[[.int .i64 t.kind,.int .i64 t.num,.str t.text,.str ByteArray.empty,.int .i64 0]]:=by rw[ht0,hz];rfl
   refine JV (j2 h5 h6) ?_
  case' false.true =>
   have hst:(t.enc.take (kp t.kids 0)).map CellD.cs=[[.int .i64 t.kind,.int .i64 t.num,.str t.text,.str ByteArray.empty,.int .i64 t.kids.length]]:=by rw[ht0];rfl
   refine JV (j2 h5 h6) ?_
   refine w7 (Ju [] (Na _)) q9 ?_
   refine JV (j2 h5 h6) ?_
  case' true.false =>
   have hst:(t.enc.take (kp t.kids 0)).map CellD.cs=[[.int .i64 t.kind,.int .i64 t.num,.str t.text,.str ByteArray.empty,.int .i64 t.kids.length]]:=by rw[ht0];rfl
   refine JV (j2 h5 h6) ?_
   refine w7 (Ju [] (Na _)) q9 ?_
   refine JV (j2 h5 h6) ?_
  case true.true =>
   simp at h5 h6
   omega
  all_goals
   refine Jz (κ:=Nat) (fun k=>⟨mkS 0 54 [(1,.ptr (1,0) 0),(4,.own (4,0)),(29,.c (.sl (t.kids.map V.cs))),(30,.c (.int .i64 t.kids.length)),(31,.c (.int .i64 k))],
     [((1,0),.box [.c (.int .i64 t.kind),.c (.int .i64 t.num),.c (.str t.text),.c (.sl (t.keys.map CX)),.c (.sl (t.kids.map V.cs))]),((4,0),.row false 5 115 ((t.enc.take (kp t.kids k)).map CellD.cs))]⟩)
    (fun k=>k≤t.kids.length) (fun k=>t.kids.length-k) 0 (Nat.zero_le _) ?_ ?_
   ·exact JQ (F7.of [((1,0),(1,0)),((4,0),(27,0))] []) hst
   ·intro k hk
    by_cases hlt:k<t.kids.length
    ·have hd:decide ((k:Int)<(t.kids.length:Int))=true:=by simpa using hlt
     have hr:B4 (t.kids.map V.cs) 5 k=true:=by simp[B4,hlt,V.cs_eq]
     have hg:(t.kids.map V.cs)[k]? = some t.kids[k].cs:=by simp[hlt]
     have hmem:=K7 (List.getElem_mem hlt)
     have hnk:=OC (Qi hn) _ (List.getElem_mem hlt)
     have hts:=Nf t hlt
     have htl:=NF t k
     have hkpl:=OY t k
     generalize t.kids[k]=u at *
     have hul:u.enc.length=u.count:=KU u
     have hw:=JX (k:=k) (by omega)
     refine JV (j3 hd hr hg) ?_
     refine w12 (Kj [] (ih u (by omega) (by omega) hnk)) q9 ?_
     by_cases hk6:t.kind=6
     ·have h6':(t.kind==6)=true:=by simpa using hk6
      obtain⟨hkk,hkey⟩:=Mj hn hk6 hlt
      have hrk:B4 (t.keys.map CX) 1 k=true:=by simp[B4,hkk,CX]
      have hgk:(t.keys.map CX)[k]? = some [.str (t.keyAt k)]:=by simp[hkk,CX,hkey]
      have hru:B4 (u.enc.map CellD.cs) 5 0=true:=by unfold B4;rw[show (0:Int).toNat=0 from rfl,Lq];rfl
      have hgu:=Lq u
      have hset:=Tn u (t.keyAt k)
      simp only[Aj,List.take,List.drop,List.cons_append,List.nil_append,List.length_cons,List.length_nil,Nat.reduceAdd]at hset
      have hlen:(t.enc.take (kp t.kids k)).length+(u.cells (t.keyAt k)).length≤1000000:=by rw[htl,Kz];omega
      have hnext:(t.enc.take (kp t.kids (k+1))).map CellD.cs=(t.enc.take (kp t.kids k)).map CellD.cs++(u.cells (t.keyAt k)).map CellD.cs:=by rw[hts,List.map_append]
      refine JV (j8 h6' hrk hgk hru hgu hset hlen hw) ?_
      refine⟨k+1,by omega,by omega,?_⟩
      exact JQ (F7.of [((1,0),(1,0)),((4,0),(51,0))] []) hnext
     ·have h6':(t.kind==6)=false:=by simpa using hk6
      have hke:=Sj hk6 k
      have hlen:(t.enc.take (kp t.kids k)).length+u.enc.length≤1000000:=by rw[htl,hul];omega
      have hnext:(t.enc.take (kp t.kids (k+1))).map CellD.cs=(t.enc.take (kp t.kids k)).map CellD.cs++u.enc.map CellD.cs:=by rw[hts,List.map_append,hke];rfl
      refine JV (j3 h6' hlen hw) ?_
      refine⟨k+1,by omega,by omega,?_⟩
      exact JQ (F7.of [((1,0),(1,0)),((4,0),(51,0))] []) hnext
    ·have hd:decide ((k:Int)<(t.kids.length:Int))=false:=by simpa using hlt
     have hke:k=t.kids.length:=by omega
     have hall:t.enc.take (kp t.kids k)=t.enc:=by rw[hke];exact NE t
     refine JV hd ?_
     exact JJ (JN [((0,0),(4,0))] []) Tryz.results49 hall
def JZ (p:List V×V):List C:=[.sl (p.1.map V.cs),.int .i64 p.2.kind,.int .i64 p.2.num,.str p.2.text,.sl (p.2.keys.map CX),.sl (p.2.kids.map V.cs)]
theorem X7 (l:List (List V×V)):((l.map JZ).all fun r=>r.length==6)=true:=by simp[JZ]
theorem ZB (p:List V×V):KP (JZ p)=JZ p:=rfl
theorem T4 (l:List (List V×V)):Ac (l.map JZ)=l.map JZ:=AH _ ZB l
attribute [go_sem] X7 T4
set_option maxRecDepth 10000
theorem Zp:AC Tryz.prog 151 [.nils] [] .nils []:=by
 refine JI Tryz.func151 Tryz.ntmps151 ?_
 refine JV q9 ?_
 exact JW (Iu []) Tryz.results151
theorem a0f (l:List V) (h0:l≠[]) (hl:l.length≤1000000):AC Tryz.prog 151 [Js l] [] (.own (0,0)) [((0,0),.row false 5 76 (l.map V.cs))]:=by
 have he:(l.map V.cs).isEmpty=false:=by cases l<;>simp at h0 ⊢
 have hn:0+l.length≤1000000:=by omega
 refine JI Tryz.func151 Tryz.ntmps151 ?_
 refine JV (j2 he hn) ?_
 exact JJ (JN [((0,0),(7,0))] []) Tryz.results151 he
theorem QH (ahead:List V) (q:V):Ac (ahead.map V.cs++[[.int .i64 q.kind,.int .i64 q.num,.str q.text,.sl (q.keys.map CX),.sl (q.kids.map V.cs)]])=(ahead++[q]).map V.cs:=by
 rw[←V.cs_eq,←Ea (ahead++[q]),List.map_append]
 rfl
theorem a12:∀(m:Nat) (t:V) (ahead:List V),t.count≤m→t.count≤500000→t.neat→ahead≠[]→ahead.length+t.count≤900000 →
  AC Tryz.prog 158 [t.av,Js ahead] [] (.own (0,0)) [((0,0),.row false 6 79 ((t.paths ahead).map JZ))]:=by
 intro m
 induction m with
 |zero=>intro t _ hm;have:=K8 t;omega
 |succ m ih =>
  intro t ahead hm hM hn h0 hl
  have hkc:=K4 t
  have hkl:=KA t.kids
  have hpl:=Mo t ahead
  refine JI Tryz.func158 Tryz.ntmps158 ?_
  refine JV q9 ?_
  refine Jz (κ:=Nat×List (List V×V)) (fun x=>⟨mkS 0 33 [(1,Js ahead),(2,.ptr (2,0) 0),(5,.own (5,0)),(13,.c (.sl (t.kids.map V.cs))),(14,.c (.int .i64 t.kids.length)),(15,.c (.int .i64 x.1))],
    [((2,0),.box [.c (.int .i64 t.kind),.c (.int .i64 t.num),.c (.str t.text),.c (.sl (t.keys.map CX)),.c (.sl (t.kids.map V.cs))]),((5,0),.row false 6 79 (x.2.map JZ))]⟩)
   (fun x=>x.1≤t.kids.length∧x.2++La t.keyV x.1 (t.kids.drop x.1) ahead=t.paths ahead) (fun x=>t.kids.length-x.1) (0,[(ahead,t)]) ⟨Nat.zero_le _,(PU t ahead).symm⟩ ?_ ?_
  ·(apply (F7.of [((2,0),(2,0)),((5,0),(11,0))] []);(iterate 2 ((focus (simp only[go_sem,Nat.reduceEqDiff,Nat.reduceAdd,Nat.reduceSub,Nat.reduceLeDiff,Nat.reduceMul,Nat.reduceBEq,Nat.reduceLT,Int.reduceToNat,reduceCtorEq,JZ];try (and_intros<;>rfl)));(focus exact rfl)));(iterate 4 (focus (simp[go_sem,JZ];done))))
  ·rintro⟨k,done⟩ ⟨hk,hd0⟩
   dsimp only at hk hd0 ⊢
   by_cases hlt:k<t.kids.length
   ·have hd:decide ((k:Int)<(t.kids.length:Int))=true:=by simpa using hlt
    have hr:B4 (t.kids.map V.cs) 5 k=true:=by simp[B4,hlt,V.cs_eq]
    have hg:(t.kids.map V.cs)[k]? = some t.kids[k].cs:=by simp[hlt]
    have hmem:=K7 (List.getElem_mem hlt)
    have hnk:=OC (Qi hn) _ (List.getElem_mem hlt)
    rw[QW t.keyV ahead t.kids hlt]at hd0
    have hkey:=Wf t hn k hlt
    generalize t.kids[k]=u at *
    generalize t.keyV k=q at *
    have hpu:=Mo u (ahead++[q])
    have hdl:done.length+(u.paths (ahead++[q])).length≤t.count:=by
     have:=congrArg List.length hd0
     simp only[List.length_append]at this
     omega
    have hw:=JX (k:=k) (by omega)
    have h1:ahead.length+1≤1000000:=by omega
    have h2:done.length+(u.paths (ahead++[q])).length≤1000000:=by omega
    have hf:=QH ahead q
    refine JV (j3 hd hr hg) ?_
    refine w12 (Kj [] (a0f ahead h0 (by omega))) q9 ?_
    refine JV (j3 hd hr hg) ?_
    refine w9 (Ja [] hkey) q9 ?_
    refine JV h1 ?_
    refine w12 (Kj [(28,0)] (ih u (ahead++[q]) (by omega) (by omega) hnk (by simp) (by simp only[List.length_append,List.length_singleton];omega))) hf ?_
    refine JV (j2 h2 hw) ?_
    refine⟨(k+1,done++u.paths (ahead++[q])),by dsimp only;omega,⟨by dsimp only;omega,by simpa using hd0⟩,?_⟩
    (apply (F7.of [((2,0),(2,0)),((5,0),(30,0))] []);(iterate 2 ((focus (simp only[go_sem,Nat.reduceEqDiff,Nat.reduceAdd,Nat.reduceSub,Nat.reduceLeDiff,Nat.reduceMul,Nat.reduceBEq,Nat.reduceLT,Int.reduceToNat,reduceCtorEq,List.map_append];try (and_intros<;>rfl)));(focus exact rfl)));(iterate 4 (focus (simp[go_sem,List.map_append];done))))
   ·have hd:decide ((k:Int)<(t.kids.length:Int))=false:=by simpa using hlt
    rw[SF _ _ _ _ (by omega),List.append_nil]at hd0
    refine JV hd ?_
    exact JJ (JN [((0,0),(5,0))] []) Tryz.results158 hd0
theorem e9 (t:V) (hM:t.count≤500000) (hn:t.neat) :
  AC Tryz.prog 158 [t.av,.nils] [] (.own (0,0)) [((0,0),.row false 6 79 ((t.paths []).map JZ))]:=by
 have hkc:=K4 t
 have hkl:=KA t.kids
 have hpl:=Mo t []
 refine JI Tryz.func158 Tryz.ntmps158 ?_
 refine JV q9 ?_
 refine Jz (κ:=Nat×List (List V×V)) (fun x=>⟨mkS 0 33 [(1,.nils),(2,.ptr (2,0) 0),(5,.own (5,0)),(13,.c (.sl (t.kids.map V.cs))),(14,.c (.int .i64 t.kids.length)),(15,.c (.int .i64 x.1))],
   [((2,0),.box [.c (.int .i64 t.kind),.c (.int .i64 t.num),.c (.str t.text),.c (.sl (t.keys.map CX)),.c (.sl (t.kids.map V.cs))]),((5,0),.row false 6 79 (x.2.map JZ))]⟩)
  (fun x=>x.1≤t.kids.length∧x.2++La t.keyV x.1 (t.kids.drop x.1) []=t.paths []) (fun x=>t.kids.length-x.1) (0,[([],t)]) ⟨Nat.zero_le _,(PU t []).symm⟩ ?_ ?_
 ·(apply (F7.of [((2,0),(2,0)),((5,0),(11,0))] []);(iterate 2 ((focus (simp only[go_sem,Nat.reduceEqDiff,Nat.reduceAdd,Nat.reduceSub,Nat.reduceLeDiff,Nat.reduceMul,Nat.reduceBEq,Nat.reduceLT,Int.reduceToNat,reduceCtorEq,JZ];try (and_intros<;>rfl)));(focus exact rfl)));(iterate 4 (focus (simp[go_sem,JZ];done))))
 ·rintro⟨k,done⟩ ⟨hk,hd0⟩
  dsimp only at hk hd0 ⊢
  by_cases hlt:k<t.kids.length
  ·have hd:decide ((k:Int)<(t.kids.length:Int))=true:=by simpa using hlt
   have hr:B4 (t.kids.map V.cs) 5 k=true:=by simp[B4,hlt,V.cs_eq]
   have hg:(t.kids.map V.cs)[k]? = some t.kids[k].cs:=by simp[hlt]
   have hmem:=K7 (List.getElem_mem hlt)
   have hnk:=OC (Qi hn) _ (List.getElem_mem hlt)
   rw[QW t.keyV [] t.kids hlt,List.nil_append]at hd0
   have hkey:=Wf t hn k hlt
   generalize t.kids[k]=u at *
   generalize t.keyV k=q at *
   have hpu:=Mo u [q]
   have hdl:done.length+(u.paths [q]).length≤t.count:=by
    have:=congrArg List.length hd0
    simp only[List.length_append]at this
    omega
   have hw:=JX (k:=k) (by omega)
   have h2:done.length+(u.paths [q]).length≤1000000:=by omega
   have hf:=QH [] q
   simp only[List.map_nil,List.nil_append]at hf
   refine JV (j3 hd hr hg) ?_
   refine w7 (Ju [] Zp) q9 ?_
   refine JV (j3 hd hr hg) ?_
   refine w9 (Ja [] hkey) q9 ?_
   refine JV q9 ?_
   refine w12 (Kj [(28,0)] (a12 u.count u [q] (Nat.le_refl _) (by omega) hnk (by simp) (by simp only[List.length_singleton];omega))) hf ?_
   refine JV (j2 h2 hw) ?_
   refine⟨(k+1,done++u.paths [q]),by dsimp only;omega,⟨by dsimp only;omega,by simpa using hd0⟩,?_⟩
   (apply (F7.of [((2,0),(2,0)),((5,0),(30,0))] []);(iterate 2 ((focus (simp only[go_sem,Nat.reduceEqDiff,Nat.reduceAdd,Nat.reduceSub,Nat.reduceLeDiff,Nat.reduceMul,Nat.reduceBEq,Nat.reduceLT,Int.reduceToNat,reduceCtorEq,List.map_append];try (and_intros<;>rfl)));(focus exact rfl)));(iterate 4 (focus (simp[go_sem,List.map_append];done))))
  ·have hd:decide ((k:Int)<(t.kids.length:Int))=false:=by simpa using hlt
   rw[SF _ _ _ _ (by omega),List.append_nil]at hd0
   refine JV hd ?_
   exact JJ (JN [((0,0),(5,0))] []) Tryz.results158 hd0
end
end Go.Proofs.YtllfmaflodbieaaGreatDoor
