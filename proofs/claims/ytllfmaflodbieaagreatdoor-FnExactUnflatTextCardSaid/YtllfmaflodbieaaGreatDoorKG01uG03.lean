/- Texts of this proof: G01 G02 G03. -/
import Derived.Test.YtllfmaflodbieaaGreatDoorKE6
import Derived.IntWalk
set_option linter.all false
set_option maxHeartbeats 8000000
namespace Go.Proofs.YtllfmaflodbieaaGreatDoor
section
open Go.RowKit
def CellD.cs (c:CellD):List C:=[.int .i64 c.kind,.int .i64 c.num,.str c.text,.str c.key,.int .i64 c.n]
def Ab (s:ByteArray):List C:=[.str s]
mutual
def V.cs:V→List C
 | .mk kind num text keys kids=>[.int .i64 kind,.int .i64 num,.str text,.sl (keys.map Ab),.sl (csL kids)]
def csL:List V→List (List C)
 | []=>[]
 |k::ks=>k.cs::csL ks
end
theorem Jf:∀(l:List V),csL l=l.map V.cs
 | []=>rfl
 |k::ks=>by simp[csL,Jf ks]
theorem V.cs_eq (t:V):t.cs=[.int .i64 t.kind,.int .i64 t.num,.str t.text,.sl (t.keys.map Ab),.sl (t.kids.map V.cs)]:=by
 cases t
 simp[V.cs,Jf,V.kind,V.num,V.text,V.keys,V.kids]
def V.av (t:V):AV:=.agg [.c (.int .i64 t.kind),.c (.int .i64 t.num),.c (.str t.text),.c (.sl (t.keys.map Ab)),.c (.sl (t.kids.map V.cs))]
def CellD.av (c:CellD):AV:=.agg [.c (.int .i64 c.kind),.c (.int .i64 c.num),.c (.str c.text),.c (.str c.key),.c (.int .i64 c.n)]
def PD (l:List V):AV:=.c (.sl (l.map V.cs))
def Ce (l:List CellD):AV:=.c (.sl (l.map CellD.cs))
section
variable (k n:Int) (s:ByteArray) (ks:List ByteArray) (vs:List V)
theorem DV:(V.mk k n s ks vs).kind=k:=rfl
theorem Sq:(V.mk k n s ks vs).num=n:=rfl
theorem NF:(V.mk k n s ks vs).text=s:=rfl
theorem X5:(V.mk k n s ks vs).keys=ks:=rfl
theorem NZ:(V.mk k n s ks vs).kids=vs:=rfl
end
attribute [go_sem] V.av CellD.av PD Ce CellD.cs Ab V.cs_eq K9 GN DB P5 DV Sq NF X5 NZ
set_option maxRecDepth 10000
theorem XL (c:CellD):BV c.cs=c.cs:=rfl
theorem Y2 (s:ByteArray):BV (Ab s)=Ab s:=rfl
theorem Xi (t:V):BV t.cs=t.cs:=by rw[V.cs_eq];rfl
theorem Ei (l:List CellD):B3 (l.map CellD.cs)=l.map CellD.cs:=D4 _ XL l
theorem PE (l:List ByteArray):B3 (l.map Ab)=l.map Ab:=D4 _ Y2 l
theorem NL (l:List V):B3 (l.map V.cs)=l.map V.cs:=D4 _ Xi l
theorem WY (s:ByteArray):(K9 s).av=.agg [.c (.int .i64 4),.c (.int .i64 0),.c (.str s),.c (.sl []),.c (.sl [])]:=rfl
theorem WT (n:Int):(GN n).av=.agg [.c (.int .i64 3),.c (.int .i64 n),.c (.str ByteArray.empty),.c (.sl []),.c (.sl [])]:=rfl
theorem WU (l:List V):(DB l).av=.agg [.c (.int .i64 5),.c (.int .i64 0),.c (.str ByteArray.empty),.c (.sl []),.c (.sl (l.map V.cs))]:=rfl
attribute [go_sem] Ei PE NL
theorem Xy (s:ByteArray):AC Tryz.prog 175 [.c (.str s)] [] (K9 s).av []:=by
 rw[WY]
 refine A6 Tryz.func175 Tryz.ntmps175 ?_
 refine A0 trivial ?_
 exact Am (A7 []) Tryz.results175
theorem MF (n:Int):AC Tryz.prog 218 [.c (.int .i64 n)] [] (GN n).av []:=by
 rw[WT]
 refine A6 Tryz.func218 Tryz.ntmps218 ?_
 refine A0 trivial ?_
 exact Am (A7 []) Tryz.results218
theorem Vf (l:List V):AC Tryz.prog 89 [PD l] [] (DB l).av []:=by
 rw[WU]
 refine A6 Tryz.func89 Tryz.ntmps89 ?_
 refine A0 trivial ?_
 exact Am (A7 []) Tryz.results89
theorem r8 (t:V) (hn:t.neat) (i:Nat) (hi:i<t.kids.length):AC Tryz.prog 208 [t.av,.c (.int .i64 i)] [] (t.keyV i).av []:=by
 by_cases h6:t.kind=6
 ·obtain⟨hkk,hke⟩:=Ml hn h6 hi
  have hk:t.keyV i=K9 t.keys[i]:=by unfold V.keyV;rw[if_pos h6,hke]
  have hb:(t.kind==6)=true:=by simpa using h6
  have hr:Aj (t.keys.map Ab) 1 i=true:=by simp[Aj,hkk,Ab]
  have hg:(t.keys.map Ab)[i]? = some [.str t.keys[i]]:=by simp[hkk,Ab]
  rw[hk,WY]
  refine A6 Tryz.func208 Tryz.ntmps208 ?_
  refine A0 (j3 hb hr hg) ?_
  refine w7 (A3 [] (Xy _)) trivial ?_
  refine A0 trivial ?_
  exact Am (A7 []) Tryz.results208
 ·have hk:t.keyV i=GN i:=if_neg h6
  have hb:(t.kind==6)=false:=by simpa using h6
  rw[hk,WT]
  refine A6 Tryz.func208 Tryz.ntmps208 ?_
  refine A0 hb ?_
  refine w7 (A3 [] (MF _)) trivial ?_
  refine A0 trivial ?_
  exact Am (A7 []) Tryz.results208
end
section
open Go.RowKit
theorem Na (l:List CellD):((l.map CellD.cs).all fun r=>r.length==5)=true:=by simp[CellD.cs]
theorem Ug (l:List V):((l.map V.cs).all fun r=>r.length==5)=true:=by simp[V.cs_eq]
theorem IZ (l:List ByteArray):((l.map Ab).all fun r=>r.length==1)=true:=by simp[Ab]
attribute [go_sem] Na Ug IZ
theorem Ae {k:Nat}(h:k<9000000000000000000):IntKind.i64.wrap ((k:Int)+1)=((k+1:Nat):Int):=by
 rw[IntWalk.i64_in _ (by omega)]
 simp
theorem Nl (u:V) (key:ByteArray):(u.enc.map CellD.cs).set 0 (BD [.int .i64 u.kind,.int .i64 u.num,.str u.text,.str ByteArray.empty,.int .i64 u.kids.length] 3 [.str key])=(u.cells key).map CellD.cs:=by
 cases u
 simp[V.enc,V.cells,CellD.cs,BD,DV,Sq,NF,NZ]
theorem Dp (u:V):(u.enc.map CellD.cs)[0]? = some [.int .i64 u.kind,.int .i64 u.num,.str u.text,.str ByteArray.empty,.int .i64 u.kids.length]:=by
 cases u
 simp[V.enc,V.cells,CellD.cs,DV,Sq,NF,NZ]
set_option maxRecDepth 10000
theorem K0 (l:List V):AC Tryz.prog 98 [PD l] [] (.c (.int .i64 l.length)) []:=by
 refine A6 Tryz.func98 Tryz.ntmps98 ?_
 refine A0 trivial ?_
 exact Am (A7 []) Tryz.results98
theorem UX:∀(m:Nat) (t:V),t.count≤m→t.count≤500000→t.neat→AC Tryz.prog 49 [t.av] [] (.own (0,0)) [((0,0),.row false 5 115 (t.enc.map CellD.cs))]:=by
 intro m
 induction m with
 |zero=>intro t hm _ _;have:=Bc t;omega
 |succ m ih =>
  intro t hm hM hn
  have hkc:=Bp t
  have hkl:=BR t.kids
  have hn0:BH t.kind=false→t.kids.length=0:=fun h=>by rw[So hn h];rfl
  have ht0:=FS t
  refine A6 Tryz.func49 Tryz.ntmps49 ?_
  cases h5:(t.kind==5)<;>cases h6:(t.kind==6)
  case' false.false =>
   have hz:t.kids.length=0:=hn0 (by simp[BH,h5,h6])
   have hst:(t.enc.take (kp t.kids 0)).map CellD.cs=[[.int .i64 t.kind,.int .i64 t.num,.str t.text,.str ByteArray.empty,.int .i64 0]]:=by rw[ht0,hz];rfl
   refine A0 (j2 h5 h6) ?_
  case' false.true =>
   have hst:(t.enc.take (kp t.kids 0)).map CellD.cs=[[.int .i64 t.kind,.int .i64 t.num,.str t.text,.str ByteArray.empty,.int .i64 t.kids.length]]:=by rw[ht0];rfl
   refine A0 (j2 h5 h6) ?_
   refine w7 (A3 [] (K0 _)) trivial ?_
   refine A0 (j2 h5 h6) ?_
  case' true.false =>
   have hst:(t.enc.take (kp t.kids 0)).map CellD.cs=[[.int .i64 t.kind,.int .i64 t.num,.str t.text,.str ByteArray.empty,.int .i64 t.kids.length]]:=by rw[ht0];rfl
   refine A0 (j2 h5 h6) ?_
   refine w7 (A3 [] (K0 _)) trivial ?_
   refine A0 (j2 h5 h6) ?_
  case true.true =>
   simp at h5 h6
   omega
  all_goals
   refine AG (κ:=Nat) (fun k=>⟨mkS 0 54 [(1,.ptr (1,0) 0),(4,.own (4,0)),(29,.c (.sl (t.kids.map V.cs))),(30,.c (.int .i64 t.kids.length)),(31,.c (.int .i64 k))],
     [((1,0),.box [.c (.int .i64 t.kind),.c (.int .i64 t.num),.c (.str t.text),.c (.sl (t.keys.map Ab)),.c (.sl (t.kids.map V.cs))]),((4,0),.row false 5 115 ((t.enc.take (kp t.kids k)).map CellD.cs))]⟩)
    (fun k=>k≤t.kids.length) (fun k=>t.kids.length-k) 0 (Nat.zero_le _) ?_ ?_
   ·exact Aq (As.of [((1,0),(1,0)),((4,0),(27,0))] []) hst
   ·intro k hk
    by_cases hlt:k<t.kids.length
    ·have hd:decide ((k:Int)<(t.kids.length:Int))=true:=by simpa using hlt
     have hr:Aj (t.kids.map V.cs) 5 k=true:=by simp[Aj,hlt,V.cs_eq]
     have hg:(t.kids.map V.cs)[k]? = some t.kids[k].cs:=by simp[hlt]
     have hmem:=BC (List.getElem_mem hlt)
     have hnk:=MM (Un hn) _ (List.getElem_mem hlt)
     have hts:=Ff t hlt
     have htl:=FP t k
     have hkpl:=GW t k
     generalize t.kids[k]=u at *
     have hul:u.enc.length=u.count:=Bv u
     have hw:=Ae (k:=k) (by omega)
     refine A0 (j3 hd hr hg) ?_
     refine w12 (IE [] (ih u (by omega) (by omega) hnk)) trivial ?_
     by_cases hk6:t.kind=6
     ·have h6':(t.kind==6)=true:=by simpa using hk6
      obtain⟨hkk,hkey⟩:=Ml hn hk6 hlt
      have hrk:Aj (t.keys.map Ab) 1 k=true:=by simp[Aj,hkk,Ab]
      have hgk:(t.keys.map Ab)[k]? = some [.str (t.keyAt k)]:=by simp[hkk,Ab,hkey]
      have hru:Aj (u.enc.map CellD.cs) 5 0=true:=by unfold Aj;rw[show (0:Int).toNat=0 from rfl,Dp];rfl
      have hgu:=Dp u
      have hset:=Nl u (t.keyAt k)
      simp only[BD,List.take,List.drop,List.cons_append,List.nil_append,List.length_cons,List.length_nil,Nat.reduceAdd]at hset
      have hlen:(t.enc.take (kp t.kids k)).length+(u.cells (t.keyAt k)).length≤1000000:=by rw[htl,Bu];omega
      have hnext:(t.enc.take (kp t.kids (k+1))).map CellD.cs=(t.enc.take (kp t.kids k)).map CellD.cs++(u.cells (t.keyAt k)).map CellD.cs:=by rw[hts,List.map_append]
      refine A0 (j8 h6' hrk hgk hru hgu hset hlen hw) ?_
      refine⟨k+1,by omega,by omega,?_⟩
      exact Aq (As.of [((1,0),(1,0)),((4,0),(51,0))] []) hnext
     ·have h6':(t.kind==6)=false:=by simpa using hk6
      have hke:=KE hk6 k
      have hlen:(t.enc.take (kp t.kids k)).length+u.enc.length≤1000000:=by rw[htl,hul];omega
      have hnext:(t.enc.take (kp t.kids (k+1))).map CellD.cs=(t.enc.take (kp t.kids k)).map CellD.cs++u.enc.map CellD.cs:=by rw[hts,List.map_append,hke];rfl
      refine A0 (j3 h6' hlen hw) ?_
      refine⟨k+1,by omega,by omega,?_⟩
      exact Aq (As.of [((1,0),(1,0)),((4,0),(51,0))] []) hnext
    ·have hd:decide ((k:Int)<(t.kids.length:Int))=false:=by simpa using hlt
     have hke:k=t.kids.length:=by omega
     have hall:t.enc.take (kp t.kids k)=t.enc:=by rw[hke];exact FT t
     refine A0 hd ?_
     exact A9 (A8 [((0,0),(4,0))] []) Tryz.results49 hall
def Ac (p:List V×V):List C:=[.sl (p.1.map V.cs),.int .i64 p.2.kind,.int .i64 p.2.num,.str p.2.text,.sl (p.2.keys.map Ab),.sl (p.2.kids.map V.cs)]
theorem y6 (l:List (List V×V)):((l.map Ac).all fun r=>r.length==6)=true:=by simp[Ac]
theorem a09 (p:List V×V):BV (Ac p)=Ac p:=rfl
theorem ZE (l:List (List V×V)):B3 (l.map Ac)=l.map Ac:=D4 _ a09 l
attribute [go_sem] y6 ZE
set_option maxRecDepth 10000
theorem a05:AC Tryz.prog 151 [.nils] [] .nils []:=by
 refine A6 Tryz.func151 Tryz.ntmps151 ?_
 refine A0 trivial ?_
 exact Am (A7 []) Tryz.results151
theorem a1z (l:List V) (h0:l≠[]) (hl:l.length≤1000000):AC Tryz.prog 151 [PD l] [] (.own (0,0)) [((0,0),.row false 5 76 (l.map V.cs))]:=by
 have he:(l.map V.cs).isEmpty=false:=by cases l<;>simp at h0 ⊢
 have hn:0+l.length≤1000000:=by omega
 refine A6 Tryz.func151 Tryz.ntmps151 ?_
 refine A0 (j2 he hn) ?_
 exact A9 (A8 [((0,0),(7,0))] []) Tryz.results151 he
theorem QI (ahead:List V) (q:V):B3 (ahead.map V.cs++[[.int .i64 q.kind,.int .i64 q.num,.str q.text,.sl (q.keys.map Ab),.sl (q.kids.map V.cs)]])=(ahead++[q]).map V.cs:=by
 rw[←V.cs_eq,←NL (ahead++[q]),List.map_append]
 rfl
theorem a2b:∀(m:Nat) (t:V) (ahead:List V),t.count≤m→t.count≤500000→t.neat→ahead≠[]→ahead.length+t.count≤900000 →
  AC Tryz.prog 158 [t.av,PD ahead] [] (.own (0,0)) [((0,0),.row false 6 79 ((t.paths ahead).map Ac))]:=by
 intro m
 induction m with
 |zero=>intro t _ hm;have:=Bc t;omega
 |succ m ih =>
  intro t ahead hm hM hn h0 hl
  have hkc:=Bp t
  have hkl:=BR t.kids
  have hpl:=DI t ahead
  refine A6 Tryz.func158 Tryz.ntmps158 ?_
  refine A0 trivial ?_
  refine AG (κ:=Nat×List (List V×V)) (fun x=>⟨mkS 0 33 [(1,PD ahead),(2,.ptr (2,0) 0),(5,.own (5,0)),(13,.c (.sl (t.kids.map V.cs))),(14,.c (.int .i64 t.kids.length)),(15,.c (.int .i64 x.1))],
    [((2,0),.box [.c (.int .i64 t.kind),.c (.int .i64 t.num),.c (.str t.text),.c (.sl (t.keys.map Ab)),.c (.sl (t.kids.map V.cs))]),((5,0),.row false 6 79 (x.2.map Ac))]⟩)
   (fun x=>x.1≤t.kids.length∧x.2++Dv t.keyV x.1 (t.kids.drop x.1) ahead=t.paths ahead) (fun x=>t.kids.length-x.1) (0,[(ahead,t)]) ⟨Nat.zero_le _,(Og t ahead).symm⟩ ?_ ?_
  ·(apply (As.of [((2,0),(2,0)),((5,0),(11,0))] []);(iterate 2 ((focus (simp only[go_sem,Nat.reduceEqDiff,Nat.reduceAdd,Nat.reduceSub,Nat.reduceLeDiff,Nat.reduceMul,Nat.reduceBEq,Nat.reduceLT,Int.reduceToNat,reduceCtorEq,Ac];try (and_intros<;>rfl)));(focus exact rfl)));(iterate 4 (focus (simp[go_sem,Ac];done))))
  ·rintro⟨k,done⟩ ⟨hk,hd0⟩
   dsimp only at hk hd0 ⊢
   by_cases hlt:k<t.kids.length
   ·have hd:decide ((k:Int)<(t.kids.length:Int))=true:=by simpa using hlt
    have hr:Aj (t.kids.map V.cs) 5 k=true:=by simp[Aj,hlt,V.cs_eq]
    have hg:(t.kids.map V.cs)[k]? = some t.kids[k].cs:=by simp[hlt]
    have hmem:=BC (List.getElem_mem hlt)
    have hnk:=MM (Un hn) _ (List.getElem_mem hlt)
    rw[KB t.keyV ahead t.kids hlt]at hd0
    have hkey:=r8 t hn k hlt
    generalize t.kids[k]=u at *
    generalize t.keyV k=q at *
    have hpu:=DI u (ahead++[q])
    have hdl:done.length+(u.paths (ahead++[q])).length≤t.count:=by
     have:=congrArg List.length hd0
     simp only[List.length_append]at this
     omega
    have hw:=Ae (k:=k) (by omega)
    have h1:ahead.length+1≤1000000:=by omega
    have h2:done.length+(u.paths (ahead++[q])).length≤1000000:=by omega
    have hf:=QI ahead q
    refine A0 (j3 hd hr hg) ?_
    refine w12 (IE [] (a1z ahead h0 (by omega))) trivial ?_
    refine A0 (j3 hd hr hg) ?_
    refine w9 (Aa [] hkey) trivial ?_
    refine A0 h1 ?_
    refine w12 (IE [(28,0)] (ih u (ahead++[q]) (by omega) (by omega) hnk (by simp) (by simp only[List.length_append,List.length_singleton];omega))) hf ?_
    refine A0 (j2 h2 hw) ?_
    refine⟨(k+1,done++u.paths (ahead++[q])),by dsimp only;omega,⟨by dsimp only;omega,by simpa using hd0⟩,?_⟩
    (apply (As.of [((2,0),(2,0)),((5,0),(30,0))] []);(iterate 2 ((focus (simp only[go_sem,Nat.reduceEqDiff,Nat.reduceAdd,Nat.reduceSub,Nat.reduceLeDiff,Nat.reduceMul,Nat.reduceBEq,Nat.reduceLT,Int.reduceToNat,reduceCtorEq,List.map_append];try (and_intros<;>rfl)));(focus exact rfl)));(iterate 4 (focus (simp[go_sem,List.map_append];done))))
   ·have hd:decide ((k:Int)<(t.kids.length:Int))=false:=by simpa using hlt
    rw[MR _ _ _ _ (by omega),List.append_nil]at hd0
    refine A0 hd ?_
    exact A9 (A8 [((0,0),(5,0))] []) Tryz.results158 hd0
theorem a1s (t:V) (hM:t.count≤500000) (hn:t.neat) :
  AC Tryz.prog 158 [t.av,.nils] [] (.own (0,0)) [((0,0),.row false 6 79 ((t.paths []).map Ac))]:=by
 have hkc:=Bp t
 have hkl:=BR t.kids
 have hpl:=DI t []
 refine A6 Tryz.func158 Tryz.ntmps158 ?_
 refine A0 trivial ?_
 refine AG (κ:=Nat×List (List V×V)) (fun x=>⟨mkS 0 33 [(1,.nils),(2,.ptr (2,0) 0),(5,.own (5,0)),(13,.c (.sl (t.kids.map V.cs))),(14,.c (.int .i64 t.kids.length)),(15,.c (.int .i64 x.1))],
   [((2,0),.box [.c (.int .i64 t.kind),.c (.int .i64 t.num),.c (.str t.text),.c (.sl (t.keys.map Ab)),.c (.sl (t.kids.map V.cs))]),((5,0),.row false 6 79 (x.2.map Ac))]⟩)
  (fun x=>x.1≤t.kids.length∧x.2++Dv t.keyV x.1 (t.kids.drop x.1) []=t.paths []) (fun x=>t.kids.length-x.1) (0,[([],t)]) ⟨Nat.zero_le _,(Og t []).symm⟩ ?_ ?_
 ·(apply (As.of [((2,0),(2,0)),((5,0),(11,0))] []);(iterate 2 ((focus (simp only[go_sem,Nat.reduceEqDiff,Nat.reduceAdd,Nat.reduceSub,Nat.reduceLeDiff,Nat.reduceMul,Nat.reduceBEq,Nat.reduceLT,Int.reduceToNat,reduceCtorEq,Ac];try (and_intros<;>rfl)));(focus exact rfl)));(iterate 4 (focus (simp[go_sem,Ac];done))))
 ·rintro⟨k,done⟩ ⟨hk,hd0⟩
  dsimp only at hk hd0 ⊢
  by_cases hlt:k<t.kids.length
  ·have hd:decide ((k:Int)<(t.kids.length:Int))=true:=by simpa using hlt
   have hr:Aj (t.kids.map V.cs) 5 k=true:=by simp[Aj,hlt,V.cs_eq]
   have hg:(t.kids.map V.cs)[k]? = some t.kids[k].cs:=by simp[hlt]
   have hmem:=BC (List.getElem_mem hlt)
   have hnk:=MM (Un hn) _ (List.getElem_mem hlt)
   rw[KB t.keyV [] t.kids hlt,List.nil_append]at hd0
   have hkey:=r8 t hn k hlt
   generalize t.kids[k]=u at *
   generalize t.keyV k=q at *
   have hpu:=DI u [q]
   have hdl:done.length+(u.paths [q]).length≤t.count:=by
    have:=congrArg List.length hd0
    simp only[List.length_append]at this
    omega
   have hw:=Ae (k:=k) (by omega)
   have h2:done.length+(u.paths [q]).length≤1000000:=by omega
   have hf:=QI [] q
   simp only[List.map_nil,List.nil_append]at hf
   refine A0 (j3 hd hr hg) ?_
   refine w7 (A3 [] a05) trivial ?_
   refine A0 (j3 hd hr hg) ?_
   refine w9 (Aa [] hkey) trivial ?_
   refine A0 trivial ?_
   refine w12 (IE [(28,0)] (a2b u.count u [q] (Nat.le_refl _) (by omega) hnk (by simp) (by simp only[List.length_singleton];omega))) hf ?_
   refine A0 (j2 h2 hw) ?_
   refine⟨(k+1,done++u.paths [q]),by dsimp only;omega,⟨by dsimp only;omega,by simpa using hd0⟩,?_⟩
   (apply (As.of [((2,0),(2,0)),((5,0),(30,0))] []);(iterate 2 ((focus (simp only[go_sem,Nat.reduceEqDiff,Nat.reduceAdd,Nat.reduceSub,Nat.reduceLeDiff,Nat.reduceMul,Nat.reduceBEq,Nat.reduceLT,Int.reduceToNat,reduceCtorEq,List.map_append];try (and_intros<;>rfl)));(focus exact rfl)));(iterate 4 (focus (simp[go_sem,List.map_append];done))))
  ·have hd:decide ((k:Int)<(t.kids.length:Int))=false:=by simpa using hlt
   rw[MR _ _ _ _ (by omega),List.append_nil]at hd0
   refine A0 hd ?_
   exact A9 (A8 [((0,0),(5,0))] []) Tryz.results158 hd0
end
end Go.Proofs.YtllfmaflodbieaaGreatDoor
