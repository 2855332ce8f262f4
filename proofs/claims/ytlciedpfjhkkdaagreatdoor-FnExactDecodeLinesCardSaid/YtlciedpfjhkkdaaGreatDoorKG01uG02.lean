/- Texts of this proof: G01 G02. -/
import Derived.Test.YtlciedpfjhkkdaaGreatDoorKE6
import Derived.IntWalk
set_option linter.all false
set_option maxHeartbeats 8000000
namespace Go.Proofs.YtlciedpfjhkkdaaGreatDoor
section
open Go.RowKit
def CellD.cs (c:CellD):List C:=[.int .i64 c.kind,.int .i64 c.num,.str c.text,.str c.key,.int .i64 c.n]
def A8 (s:ByteArray):List C:=[.str s]
mutual
def V.cs:V→List C
 | .mk kind num text keys kids=>[.int .i64 kind,.int .i64 num,.str text,.sl (keys.map A8),.sl (csL kids)]
def csL:List V→List (List C)
 | []=>[]
 |k::ks=>k.cs::csL ks
end
theorem Ig:∀(l:List V),csL l=l.map V.cs
 | []=>rfl
 |k::ks=>by simp[csL,Ig ks]
theorem V.cs_eq (t:V):t.cs=[.int .i64 t.kind,.int .i64 t.num,.str t.text,.sl (t.keys.map A8),.sl (t.kids.map V.cs)]:=by
 cases t
 simp[V.cs,Ig,V.kind,V.num,V.text,V.keys,V.kids]
def V.av (t:V):AV:=.agg [.c (.int .i64 t.kind),.c (.int .i64 t.num),.c (.str t.text),.c (.sl (t.keys.map A8)),.c (.sl (t.kids.map V.cs))]
def CellD.av (c:CellD):AV:=.agg [.c (.int .i64 c.kind),.c (.int .i64 c.num),.c (.str c.text),.c (.str c.key),.c (.int .i64 c.n)]
def Qy (l:List V):AV:=.c (.sl (l.map V.cs))
def Fl (l:List CellD):AV:=.c (.sl (l.map CellD.cs))
section
variable (k n:Int) (s:ByteArray) (ks:List ByteArray) (vs:List V)
theorem Kk:(V.mk k n s ks vs).kind=k:=rfl
theorem Mo:(V.mk k n s ks vs).num=n:=rfl
theorem KD:(V.mk k n s ks vs).text=s:=rfl
theorem RY:(V.mk k n s ks vs).keys=ks:=rfl
theorem Kj:(V.mk k n s ks vs).kids=vs:=rfl
end
attribute [go_sem] V.av CellD.av Qy Fl CellD.cs A8 V.cs_eq J7 FT CX Nz Kk Mo KD RY Kj
set_option maxRecDepth 10000
theorem RQ (c:CellD):Bu c.cs=c.cs:=rfl
theorem Sr (s:ByteArray):Bu (A8 s)=A8 s:=rfl
theorem Rg (t:V):Bu t.cs=t.cs:=by rw[V.cs_eq];rfl
theorem Gk (l:List CellD):AX (l.map CellD.cs)=l.map CellD.cs:=Cg _ RQ l
theorem KW (l:List ByteArray):AX (l.map A8)=l.map A8:=Cg _ Sr l
theorem K0 (l:List V):AX (l.map V.cs)=l.map V.cs:=Cg _ Rg l
theorem RO (s:ByteArray):(J7 s).av=.agg [.c (.int .i64 4),.c (.int .i64 0),.c (.str s),.c (.sl []),.c (.sl [])]:=rfl
theorem Rf (n:Int):(FT n).av=.agg [.c (.int .i64 3),.c (.int .i64 n),.c (.str ByteArray.empty),.c (.sl []),.c (.sl [])]:=rfl
theorem Rz (l:List V):(CX l).av=.agg [.c (.int .i64 5),.c (.int .i64 0),.c (.str ByteArray.empty),.c (.sl []),.c (.sl (l.map V.cs))]:=rfl
attribute [go_sem] Gk KW K0
theorem S1 (s:ByteArray):AC Tryz.prog 138 [.c (.str s)] [] (J7 s).av []:=by
 rw[RO]
 refine A7 Tryz.func138 Tryz.ntmps138 ?_
 refine A0 trivial ?_
 exact Al (A6 []) Tryz.results138
theorem JE (n:Int):AC Tryz.prog 152 [.c (.int .i64 n)] [] (FT n).av []:=by
 rw[Rf]
 refine A7 Tryz.func152 Tryz.ntmps152 ?_
 refine A0 trivial ?_
 exact Al (A6 []) Tryz.results152
theorem QS (l:List V):AC Tryz.prog 143 [Qy l] [] (CX l).av []:=by
 rw[Rz]
 refine A7 Tryz.func143 Tryz.ntmps143 ?_
 refine A0 trivial ?_
 exact Al (A6 []) Tryz.results143
end
section
open Go.RowKit
theorem JC (l:List CellD):((l.map CellD.cs).all fun r=>r.length==5)=true:=by simp[CellD.cs]
theorem Om (l:List V):((l.map V.cs).all fun r=>r.length==5)=true:=by simp[V.cs_eq]
theorem G6 (l:List ByteArray):((l.map A8).all fun r=>r.length==1)=true:=by simp[A8]
attribute [go_sem] JC Om G6
theorem Ae {k:Nat}(h:k<9000000000000000000):IntKind.i64.wrap ((k:Int)+1)=((k+1:Nat):Int):=by
 rw[IntWalk.i64_in _ (by omega)]
 simp
theorem JP (u:V) (key:ByteArray):(u.enc.map CellD.cs).set 0 (B8 [.int .i64 u.kind,.int .i64 u.num,.str u.text,.str ByteArray.empty,.int .i64 u.kids.length] 3 [.str key])=(u.cells key).map CellD.cs:=by
 cases u
 simp[V.enc,V.cells,CellD.cs,B8,Kk,Mo,KD,Kj]
theorem G7 (u:V):(u.enc.map CellD.cs)[0]? = some [.int .i64 u.kind,.int .i64 u.num,.str u.text,.str ByteArray.empty,.int .i64 u.kids.length]:=by
 cases u
 simp[V.enc,V.cells,CellD.cs,Kk,Mo,KD,Kj]
set_option maxRecDepth 10000
theorem H9 (l:List V):AC Tryz.prog 55 [Qy l] [] (.c (.int .i64 l.length)) []:=by
 refine A7 Tryz.func55 Tryz.ntmps55 ?_
 refine A0 trivial ?_
 exact Al (A6 []) Tryz.results55
theorem QX:∀(m:Nat) (t:V),t.count≤m→t.count≤500000→t.neat→AC Tryz.prog 40 [t.av] [] (.own (0,0)) [((0,0),.row false 5 94 (t.enc.map CellD.cs))]:=by
 intro m
 induction m with
 |zero=>intro t hm _ _;have:=GE t;omega
 |succ m ih =>
  intro t hm hM hn
  have hkc:=CF t
  have hkl:=BH t.kids
  have hn0:Ci t.kind=false→t.kids.length=0:=fun h=>by rw[MS hn h];rfl
  have ht0:=E7 t
  refine A7 Tryz.func40 Tryz.ntmps40 ?_
  cases h5:(t.kind==5)<;>cases h6:(t.kind==6)
  case' false.false =>
   have hz:t.kids.length=0:=hn0 (by simp[Ci,h5,h6])
   have hst:(t.enc.take (kp t.kids 0)).map CellD.cs=[[.int .i64 t.kind,.int .i64 t.num,.str t.text,.str ByteArray.empty,.int .i64 0]]:=by rw[ht0,hz];rfl
   refine A0 (j2 h5 h6) ?_
  case' false.true =>
   have hst:(t.enc.take (kp t.kids 0)).map CellD.cs=[[.int .i64 t.kind,.int .i64 t.num,.str t.text,.str ByteArray.empty,.int .i64 t.kids.length]]:=by rw[ht0];rfl
   refine A0 (j2 h5 h6) ?_
   refine w7 (A4 [] (H9 _)) trivial ?_
   refine A0 (j2 h5 h6) ?_
  case' true.false =>
   have hst:(t.enc.take (kp t.kids 0)).map CellD.cs=[[.int .i64 t.kind,.int .i64 t.num,.str t.text,.str ByteArray.empty,.int .i64 t.kids.length]]:=by rw[ht0];rfl
   refine A0 (j2 h5 h6) ?_
   refine w7 (A4 [] (H9 _)) trivial ?_
   refine A0 (j2 h5 h6) ?_
  case true.true =>
   simp at h5 h6
   omega
  all_goals
   refine AH (κ:=Nat) (fun k=>⟨mkS 0 54 [(1,.ptr (1,0) 0),(4,.own (4,0)),(29,.c (.sl (t.kids.map V.cs))),(30,.c (.int .i64 t.kids.length)),(31,.c (.int .i64 k))],
     [((1,0),.box [.c (.int .i64 t.kind),.c (.int .i64 t.num),.c (.str t.text),.c (.sl (t.keys.map A8)),.c (.sl (t.kids.map V.cs))]),((4,0),.row false 5 94 ((t.enc.take (kp t.kids k)).map CellD.cs))]⟩)
    (fun k=>k≤t.kids.length) (fun k=>t.kids.length-k) 0 (Nat.zero_le _) ?_ ?_
   ·exact Ao (Ay.of [((1,0),(1,0)),((4,0),(27,0))] []) hst
   ·intro k hk
    by_cases hlt:k<t.kids.length
    ·have hd:decide ((k:Int)<(t.kids.length:Int))=true:=by simpa using hlt
     have hr:Aj (t.kids.map V.cs) 5 k=true:=by simp[Aj,hlt,V.cs_eq]
     have hg:(t.kids.map V.cs)[k]? = some t.kids[k].cs:=by simp[hlt]
     have hmem:=CM (List.getElem_mem hlt)
     have hnk:=JO (Px hn) _ (List.getElem_mem hlt)
     have hts:=DM t hlt
     have htl:=Ed t k
     have hkpl:=NS t k
     generalize t.kids[k]=u at *
     have hul:u.enc.length=u.count:=D8 u
     have hw:=Ae (k:=k) (by omega)
     refine A0 (j3 hd hr hg) ?_
     refine w12 (D7 [] (ih u (by omega) (by omega) hnk)) trivial ?_
     by_cases hk6:t.kind=6
     ·have h6':(t.kind==6)=true:=by simpa using hk6
      obtain⟨hkk,hkey⟩:=Pv hn hk6 hlt
      have hrk:Aj (t.keys.map A8) 1 k=true:=by simp[Aj,hkk,A8]
      have hgk:(t.keys.map A8)[k]? = some [.str (t.keyAt k)]:=by simp[hkk,A8,hkey]
      have hru:Aj (u.enc.map CellD.cs) 5 0=true:=by unfold Aj;rw[show (0:Int).toNat=0 from rfl,G7];rfl
      have hgu:=G7 u
      have hset:=JP u (t.keyAt k)
      simp only[B8,List.take,List.drop,List.cons_append,List.nil_append,List.length_cons,List.length_nil,Nat.reduceAdd]at hset
      have hlen:(t.enc.take (kp t.kids k)).length+(u.cells (t.keyAt k)).length≤1000000:=by rw[htl,CK];omega
      have hnext:(t.enc.take (kp t.kids (k+1))).map CellD.cs=(t.enc.take (kp t.kids k)).map CellD.cs++(u.cells (t.keyAt k)).map CellD.cs:=by rw[hts,List.map_append]
      refine A0 (j8 h6' hrk hgk hru hgu hset hlen hw) ?_
      refine⟨k+1,by omega,by omega,?_⟩
      exact Ao (Ay.of [((1,0),(1,0)),((4,0),(51,0))] []) hnext
     ·have h6':(t.kind==6)=false:=by simpa using hk6
      have hke:=ID hk6 k
      have hlen:(t.enc.take (kp t.kids k)).length+u.enc.length≤1000000:=by rw[htl,hul];omega
      have hnext:(t.enc.take (kp t.kids (k+1))).map CellD.cs=(t.enc.take (kp t.kids k)).map CellD.cs++u.enc.map CellD.cs:=by rw[hts,List.map_append,hke];rfl
      refine A0 (j3 h6' hlen hw) ?_
      refine⟨k+1,by omega,by omega,?_⟩
      exact Ao (Ay.of [((1,0),(1,0)),((4,0),(51,0))] []) hnext
    ·have hd:decide ((k:Int)<(t.kids.length:Int))=false:=by simpa using hlt
     have hke:k=t.kids.length:=by omega
     have hall:t.enc.take (kp t.kids k)=t.enc:=by rw[hke];exact Ec t
     refine A0 hd ?_
     exact Ad (Ac [((0,0),(4,0))] []) Tryz.results40 hall
end
end Go.Proofs.YtlciedpfjhkkdaaGreatDoor
