/- Texts of this proof: G01 G02. -/
import Derived.Test.YtllfmaflodbieaaGreatDoorKE6
import Derived.IntWalk
set_option linter.all false
set_option maxHeartbeats 8000000
namespace Go.Proofs.YtllfmaflodbieaaGreatDoor
section
open Go.RowKit
def CellD.cs (c:CellD):List C:=[.int .i64 c.kind,.int .i64 c.num,.str c.text,.str c.key,.int .i64 c.n]
def Ab (s:ByteArray):List C:=[.str s]
mutual
def V.cs:V→List C
 | .mk kind num text keys kids=>[.int .i64 kind,.int .i64 num,.str text,.sl (keys.map Ab),.sl (csL kids)]
def csL:List V→List (List C)
 | []=>[]
 |k::ks=>k.cs::csL ks
end
theorem Jf:∀(l:List V),csL l=l.map V.cs
 | []=>rfl
 |k::ks=>by simp[csL,Jf ks]
theorem V.cs_eq (t:V):t.cs=[.int .i64 t.kind,.int .i64 t.num,.str t.text,.sl (t.keys.map Ab),.sl (t.kids.map V.cs)]:=by
 cases t
 simp[V.cs,Jf,V.kind,V.num,V.text,V.keys,V.kids]
def V.av (t:V):AV:=.agg [.c (.int .i64 t.kind),.c (.int .i64 t.num),.c (.str t.text),.c (.sl (t.keys.map Ab)),.c (.sl (t.kids.map V.cs))]
def CellD.av (c:CellD):AV:=.agg [.c (.int .i64 c.kind),.c (.int .i64 c.num),.c (.str c.text),.c (.str c.key),.c (.int .i64 c.n)]
def PD (l:List V):AV:=.c (.sl (l.map V.cs))
def Ce (l:List CellD):AV:=.c (.sl (l.map CellD.cs))
section
variable (k n:Int) (s:ByteArray) (ks:List ByteArray) (vs:List V)
theorem DV:(V.mk k n s ks vs).kind=k:=rfl
theorem Sq:(V.mk k n s ks vs).num=n:=rfl
theorem NF:(V.mk k n s ks vs).text=s:=rfl
theorem X5:(V.mk k n s ks vs).keys=ks:=rfl
theorem NZ:(V.mk k n s ks vs).kids=vs:=rfl
end
attribute [go_sem] V.av CellD.av PD Ce CellD.cs Ab V.cs_eq K9 GN DB P5 DV Sq NF X5 NZ
set_option maxRecDepth 10000
theorem XL (c:CellD):BV c.cs=c.cs:=rfl
theorem Y2 (s:ByteArray):BV (Ab s)=Ab s:=rfl
theorem Xi (t:V):BV t.cs=t.cs:=by rw[V.cs_eq];rfl
theorem Ei (l:List CellD):B3 (l.map CellD.cs)=l.map CellD.cs:=D4 _ XL l
theorem PE (l:List ByteArray):B3 (l.map Ab)=l.map Ab:=D4 _ Y2 l
theorem NL (l:List V):B3 (l.map V.cs)=l.map V.cs:=D4 _ Xi l
theorem WY (s:ByteArray):(K9 s).av=.agg [.c (.int .i64 4),.c (.int .i64 0),.c (.str s),.c (.sl []),.c (.sl [])]:=rfl
theorem WT (n:Int):(GN n).av=.agg [.c (.int .i64 3),.c (.int .i64 n),.c (.str ByteArray.empty),.c (.sl []),.c (.sl [])]:=rfl
theorem WU (l:List V):(DB l).av=.agg [.c (.int .i64 5),.c (.int .i64 0),.c (.str ByteArray.empty),.c (.sl []),.c (.sl (l.map V.cs))]:=rfl
attribute [go_sem] Ei PE NL
theorem Xy (s:ByteArray):AC Tryz.prog 175 [.c (.str s)] [] (K9 s).av []:=by
 rw[WY]
 refine A6 Tryz.func175 Tryz.ntmps175 ?_
 refine A0 trivial ?_
 exact Am (A7 []) Tryz.results175
theorem MF (n:Int):AC Tryz.prog 218 [.c (.int .i64 n)] [] (GN n).av []:=by
 rw[WT]
 refine A6 Tryz.func218 Tryz.ntmps218 ?_
 refine A0 trivial ?_
 exact Am (A7 []) Tryz.results218
theorem Vf (l:List V):AC Tryz.prog 89 [PD l] [] (DB l).av []:=by
 rw[WU]
 refine A6 Tryz.func89 Tryz.ntmps89 ?_
 refine A0 trivial ?_
 exact Am (A7 []) Tryz.results89
end
section
open Go.RowKit
theorem Na (l:List CellD):((l.map CellD.cs).all fun r=>r.length==5)=true:=by simp[CellD.cs]
theorem Ug (l:List V):((l.map V.cs).all fun r=>r.length==5)=true:=by simp[V.cs_eq]
theorem IZ (l:List ByteArray):((l.map Ab).all fun r=>r.length==1)=true:=by simp[Ab]
attribute [go_sem] Na Ug IZ
theorem Ae {k:Nat}(h:k<9000000000000000000):IntKind.i64.wrap ((k:Int)+1)=((k+1:Nat):Int):=by
 rw[IntWalk.i64_in _ (by omega)]
 simp
theorem Nl (u:V) (key:ByteArray):(u.enc.map CellD.cs).set 0 (BD [.int .i64 u.kind,.int .i64 u.num,.str u.text,.str ByteArray.empty,.int .i64 u.kids.length] 3 [.str key])=(u.cells key).map CellD.cs:=by
 cases u
 simp[V.enc,V.cells,CellD.cs,BD,DV,Sq,NF,NZ]
theorem Dp (u:V):(u.enc.map CellD.cs)[0]? = some [.int .i64 u.kind,.int .i64 u.num,.str u.text,.str ByteArray.empty,.int .i64 u.kids.length]:=by
 cases u
 simp[V.enc,V.cells,CellD.cs,DV,Sq,NF,NZ]
set_option maxRecDepth 10000
theorem K0 (l:List V):AC Tryz.prog 98 [PD l] [] (.c (.int .i64 l.length)) []:=by
 refine A6 Tryz.func98 Tryz.ntmps98 ?_
 refine A0 trivial ?_
 exact Am (A7 []) Tryz.results98
theorem UX:∀(m:Nat) (t:V),t.count≤m→t.count≤500000→t.neat→AC Tryz.prog 49 [t.av] [] (.own (0,0)) [((0,0),.row false 5 115 (t.enc.map CellD.cs))]:=by
 intro m
 induction m with
 |zero=>intro t hm _ _;have:=Bc t;omega
 |succ m ih =>
  intro t hm hM hn
  have hkc:=Bp t
  have hkl:=BR t.kids
  have hn0:BH t.kind=false→t.kids.length=0:=fun h=>by rw[So hn h];rfl
  have ht0:=FS t
  refine A6 Tryz.func49 Tryz.ntmps49 ?_
  cases h5:(t.kind==5)<;>cases h6:(t.kind==6)
  case' false.false =>
   have hz:t.kids.length=0:=hn0 (by simp[BH,h5,h6])
   have hst:(t.enc.take (kp t.kids 0)).map CellD.cs=[[.int .i64 t.kind,.int .i64 t.num,.str t.text,.str ByteArray.empty,.int .i64 0]]:=by rw[ht0,hz];rfl
   refine A0 (j2 h5 h6) ?_
  case' false.true =>
   have hst:(t.enc.take (kp t.kids 0)).map CellD.cs=[[.int .i64 t.kind,.int .i64 t.num,.str t.text,.str ByteArray.empty,.int .i64 t.kids.length]]:=by rw[ht0];rfl
   refine A0 (j2 h5 h6) ?_
   refine w7 (A3 [] (K0 _)) trivial ?_
   refine A0 (j2 h5 h6) ?_
  case' true.false =>
   have hst:(t.enc.take (kp t.kids 0)).map CellD.cs=[[.int .i64 t.kind,.int .i64 t.num,.str t.text,.str ByteArray.empty,.int .i64 t.kids.length]]:=by rw[ht0];rfl
   refine A0 (j2 h5 h6) ?_
   refine w7 (A3 [] (K0 _)) trivial ?_
   refine A0 (j2 h5 h6) ?_
  case true.true =>
   simp at h5 h6
   omega
  all_goals
   refine AG (κ:=Nat) (fun k=>⟨mkS 0 54 [(1,.ptr (1,0) 0),(4,.own (4,0)),(29,.c (.sl (t.kids.map V.cs))),(30,.c (.int .i64 t.kids.length)),(31,.c (.int .i64 k))],
     [((1,0),.box [.c (.int .i64 t.kind),.c (.int .i64 t.num),.c (.str t.text),.c (.sl (t.keys.map Ab)),.c (.sl (t.kids.map V.cs))]),((4,0),.row false 5 115 ((t.enc.take (kp t.kids k)).map CellD.cs))]⟩)
    (fun k=>k≤t.kids.length) (fun k=>t.kids.length-k) 0 (Nat.zero_le _) ?_ ?_
   ·exact Aq (As.of [((1,0),(1,0)),((4,0),(27,0))] []) hst
   ·intro k hk
    by_cases hlt:k<t.kids.length
    ·have hd:decide ((k:Int)<(t.kids.length:Int))=true:=by simpa using hlt
     have hr:Aj (t.kids.map V.cs) 5 k=true:=by simp[Aj,hlt,V.cs_eq]
     have hg:(t.kids.map V.cs)[k]? = some t.kids[k].cs:=by simp[hlt]
     have hmem:=BC (List.getElem_mem hlt)
     have hnk:=MM (Un hn) _ (List.getElem_mem hlt)
     have hts:=Ff t hlt
     have htl:=FP t k
     have hkpl:=GW t k
     generalize t.kids[k]=u at *
     have hul:u.enc.length=u.count:=Bv u
     have hw:=Ae (k:=k) (by omega)
     refine A0 (j3 hd hr hg) ?_
     refine w12 (IE [] (ih u (by omega) (by omega) hnk)) trivial ?_
     by_cases hk6:t.kind=6
     ·have h6':(t.kind==6)=true:=by simpa using hk6
      obtain⟨hkk,hkey⟩:=Ml hn hk6 hlt
      have hrk:Aj (t.keys.map Ab) 1 k=true:=by simp[Aj,hkk,Ab]
      have hgk:(t.keys.map Ab)[k]? = some [.str (t.keyAt k)]:=by simp[hkk,Ab,hkey]
      have hru:Aj (u.enc.map CellD.cs) 5 0=true:=by unfold Aj;rw[show (0:Int).toNat=0 from rfl,Dp];rfl
      have hgu:=Dp u
      have hset:=Nl u (t.keyAt k)
      simp only[BD,List.take,List.drop,List.cons_append,List.nil_append,List.length_cons,List.length_nil,Nat.reduceAdd]at hset
      have hlen:(t.enc.take (kp t.kids k)).length+(u.cells (t.keyAt k)).length≤1000000:=by rw[htl,Bu];omega
      have hnext:(t.enc.take (kp t.kids (k+1))).map CellD.cs=(t.enc.take (kp t.kids k)).map CellD.cs++(u.cells (t.keyAt k)).map CellD.cs:=by rw[hts,List.map_append]
      refine A0 (j8 h6' hrk hgk hru hgu hset hlen hw) ?_
      refine⟨k+1,by omega,by omega,?_⟩
      exact Aq (As.of [((1,0),(1,0)),((4,0),(51,0))] []) hnext
     ·have h6':(t.kind==6)=false:=by simpa using hk6
      have hke:=KE hk6 k
      have hlen:(t.enc.take (kp t.kids k)).length+u.enc.length≤1000000:=by rw[htl,hul];omega
      have hnext:(t.enc.take (kp t.kids (k+1))).map CellD.cs=(t.enc.take (kp t.kids k)).map CellD.cs++u.enc.map CellD.cs:=by rw[hts,List.map_append,hke];rfl
      refine A0 (j3 h6' hlen hw) ?_
      refine⟨k+1,by omega,by omega,?_⟩
      exact Aq (As.of [((1,0),(1,0)),((4,0),(51,0))] []) hnext
    ·have hd:decide ((k:Int)<(t.kids.length:Int))=false:=by simpa using hlt
     have hke:k=t.kids.length:=by omega
     have hall:t.enc.take (kp t.kids k)=t.enc:=by rw[hke];exact FT t
     refine A0 hd ?_
     exact A9 (A8 [((0,0),(4,0))] []) Tryz.results49 hall
end
end Go.Proofs.YtllfmaflodbieaaGreatDoor
