/- Texts of this proof: G01 G02. -/
import Derived.Test.YtcejfdfmgmcinaaGreatKE6
import Derived.IntWalk
set_option linter.all false
set_option maxHeartbeats 8000000
namespace Go.Proofs.YtcejfdfmgmcinaaGreat
section
open Go.RowKit
def CellD.cs (c:CellD):List C:=[.int .i64 c.kind,.int .i64 c.num,.str c.text,.str c.key,.int .i64 c.n]
def Ag (s:ByteArray):List C:=[.str s]
mutual
def V.cs:V→List C
 | .mk kind num text keys kids=>[.int .i64 kind,.int .i64 num,.str text,.sl (keys.map Ag),.sl (csL kids)]
def csL:List V→List (List C)
 | []=>[]
 |k::ks=>k.cs::csL ks
end
theorem Nf:∀(l:List V),csL l=l.map V.cs
 | []=>rfl
 |k::ks=>by simp[csL,Nf ks]
theorem V.cs_eq (t:V):t.cs=[.int .i64 t.kind,.int .i64 t.num,.str t.text,.sl (t.keys.map Ag),.sl (t.kids.map V.cs)]:=by
 cases t
 simp[V.cs,Nf,V.kind,V.num,V.text,V.keys,V.kids]
def V.av (t:V):AV:=.agg [.c (.int .i64 t.kind),.c (.int .i64 t.num),.c (.str t.text),.c (.sl (t.keys.map Ag)),.c (.sl (t.kids.map V.cs))]
def CellD.av (c:CellD):AV:=.agg [.c (.int .i64 c.kind),.c (.int .i64 c.num),.c (.str c.text),.c (.str c.key),.c (.int .i64 c.n)]
def WY (l:List V):AV:=.c (.sl (l.map V.cs))
def AH (l:List CellD):AV:=.c (.sl (l.map CellD.cs))
section
variable (k n:Int) (s:ByteArray) (ks:List ByteArray) (vs:List V)
theorem Rg:(V.mk k n s ks vs).kind=k:=rfl
theorem Vv:(V.mk k n s ks vs).num=n:=rfl
theorem RT:(V.mk k n s ks vs).text=s:=rfl
theorem a1k:(V.mk k n s ks vs).keys=ks:=rfl
theorem Rf:(V.mk k n s ks vs).kids=vs:=rfl
end
attribute [go_sem] V.av CellD.av WY AH CellD.cs Ag V.cs_eq Dj Cb AZ BE Rg Vv RT a1k Rf
set_option maxRecDepth 10000
theorem a1c (c:CellD):Cv c.cs=c.cs:=rfl
theorem a3r (s:ByteArray):Cv (Ag s)=Ag s:=rfl
theorem a1d (t:V):Cv t.cs=t.cs:=by rw[V.cs_eq];rfl
theorem Ea (l:List CellD):AU (l.map CellD.cs)=l.map CellD.cs:=CW _ a1c l
theorem SC (l:List ByteArray):AU (l.map Ag)=l.map Ag:=CW _ a3r l
theorem R6 (l:List V):AU (l.map V.cs)=l.map V.cs:=CW _ a1d l
theorem a2c (s:ByteArray):(Dj s).av=.agg [.c (.int .i64 4),.c (.int .i64 0),.c (.str s),.c (.sl []),.c (.sl [])]:=rfl
theorem a1s (n:Int):(Cb n).av=.agg [.c (.int .i64 3),.c (.int .i64 n),.c (.str ByteArray.empty),.c (.sl []),.c (.sl [])]:=rfl
theorem Qq (l:List V):(AZ l).av=.agg [.c (.int .i64 5),.c (.int .i64 0),.c (.str ByteArray.empty),.c (.sl []),.c (.sl (l.map V.cs))]:=rfl
attribute [go_sem] Ea SC R6
theorem RS (s:ByteArray):AC Tryz.prog 270 [.c (.str s)] [] (Dj s).av []:=by
 rw[a2c]
 refine A7 Tryz.func270 Tryz.ntmps270 ?_
 refine A3 q9 ?_
 exact Ad (A6 []) Tryz.results270
theorem Dq (n:Int):AC Tryz.prog 269 [.c (.int .i64 n)] [] (Cb n).av []:=by
 rw[a1s]
 refine A7 Tryz.func269 Tryz.ntmps269 ?_
 refine A3 q9 ?_
 exact Ad (A6 []) Tryz.results269
theorem EL (l:List V):AC Tryz.prog 127 [WY l] [] (AZ l).av []:=by
 rw[Qq]
 refine A7 Tryz.func127 Tryz.ntmps127 ?_
 refine A3 q9 ?_
 exact Ad (A6 []) Tryz.results127
end
section
open Go.RowKit
theorem GT (l:List CellD):((l.map CellD.cs).all fun r=>r.length==5)=true:=by simp[CellD.cs]
theorem J2 (l:List V):((l.map V.cs).all fun r=>r.length==5)=true:=by simp[V.cs_eq]
theorem Ft (l:List ByteArray):((l.map Ag).all fun r=>r.length==1)=true:=by simp[Ag]
attribute [go_sem] GT J2 Ft
theorem Ah {k:Nat}(h:k<9000000000000000000):IntKind.i64.wrap ((k:Int)+1)=((k+1:Nat):Int):=by
 rw[IntWalk.i64_in _ (by omega)]
 simp
theorem Po (u:V) (key:ByteArray):(u.enc.map CellD.cs).set 0 (Cc [.int .i64 u.kind,.int .i64 u.num,.str u.text,.str ByteArray.empty,.int .i64 u.kids.length] 3 [.str key])=(u.cells key).map CellD.cs:=by
 cases u
 simp[V.enc,V.cells,CellD.cs,Cc,Rg,Vv,RT,Rf]
theorem AL (u:V):(u.enc.map CellD.cs)[0]? = some [.int .i64 u.kind,.int .i64 u.num,.str u.text,.str ByteArray.empty,.int .i64 u.kids.length]:=by
 cases u
 simp[V.enc,V.cells,CellD.cs,Rg,Vv,RT,Rf]
set_option maxRecDepth 10000
theorem GJ (l:List V):AC Tryz.prog 148 [WY l] [] (.c (.int .i64 l.length)) []:=by
 refine A7 Tryz.func148 Tryz.ntmps148 ?_
 refine A3 q9 ?_
 exact Ad (A6 []) Tryz.results148
theorem N4:∀(m:Nat) (t:V),t.count≤m→t.count≤500000→t.neat→AC Tryz.prog 91 [t.av] [] (.own (0,0)) [((0,0),.row false 5 80 (t.enc.map CellD.cs))]:=by
 intro m
 induction m with
 |zero=>intro t hm _ _;have:=CQ t;omega
 |succ m ih =>
  intro t hm hM hn
  have hkc:=AP t
  have hkl:=Br t.kids
  have hn0:CO t.kind=false→t.kids.length=0:=fun h=>by rw[Vt hn h];rfl
  have ht0:=HJ t
  refine A7 Tryz.func91 Tryz.ntmps91 ?_
  cases h5:(t.kind==5)<;>cases h6:(t.kind==6)
  case' false.false =>
   have hz:t.kids.length=0:=hn0 (by simp[CO,h5,h6])
   have hst:(t.enc.take (kp t.kids 0)).map CellD.cs=[[.int .i64 t.kind,.int .i64 t.num,.str t.text,.str ByteArray.empty,.int .i64 0]]:=by rw[ht0,hz];rfl
   refine A3 (j2 h5 h6) ?_
  case' false.true =>
   have hst:(t.enc.take (kp t.kids 0)).map CellD.cs=[[.int .i64 t.kind,.int .i64 t.num,.str t.text,.str ByteArray.empty,.int .i64 t.kids.length]]:=by rw[ht0];rfl
   refine A3 (j2 h5 h6) ?_
   refine w7 (A4 [] (GJ _)) q9 ?_
   refine A3 (j2 h5 h6) ?_
  case' true.false =>
   have hst:(t.enc.take (kp t.kids 0)).map CellD.cs=[[.int .i64 t.kind,.int .i64 t.num,.str t.text,.str ByteArray.empty,.int .i64 t.kids.length]]:=by rw[ht0];rfl
   refine A3 (j2 h5 h6) ?_
   refine w7 (A4 [] (GJ _)) q9 ?_
   refine A3 (j2 h5 h6) ?_
  case true.true =>
   simp at h5 h6
   omega
  all_goals
   refine Ay (κ:=Nat) (fun k=>⟨mkS 0 54 [(1,.ptr (1,0) 0),(4,.own (4,0)),(29,.c (.sl (t.kids.map V.cs))),(30,.c (.int .i64 t.kids.length)),(31,.c (.int .i64 k))],
     [((1,0),.box [.c (.int .i64 t.kind),.c (.int .i64 t.num),.c (.str t.text),.c (.sl (t.keys.map Ag)),.c (.sl (t.kids.map V.cs))]),((4,0),.row false 5 80 ((t.enc.take (kp t.kids k)).map CellD.cs))]⟩)
    (fun k=>k≤t.kids.length) (fun k=>t.kids.length-k) 0 (Nat.zero_le _) ?_ ?_
   ·exact Af (Am.of [((1,0),(1,0)),((4,0),(27,0))] []) hst
   ·intro k hk
    by_cases hlt:k<t.kids.length
    ·have hd:decide ((k:Int)<(t.kids.length:Int))=true:=by simpa using hlt
     have hr:A9 (t.kids.map V.cs) 5 k=true:=by simp[A9,hlt,V.cs_eq]
     have hg:(t.kids.map V.cs)[k]? = some t.kids[k].cs:=by simp[hlt]
     have hmem:=CV (List.getElem_mem hlt)
     have hnk:=PW (Yh hn) _ (List.getElem_mem hlt)
     have hts:=GM t hlt
     have htl:=HI t k
     have hkpl:=JF t k
     generalize t.kids[k]=u at *
     have hul:u.enc.length=u.count:=Db u
     have hw:=Ah (k:=k) (by omega)
     refine A3 (j3 hd hr hg) ?_
     refine w12 (AS [] (ih u (by omega) (by omega) hnk)) q9 ?_
     by_cases hk6:t.kind=6
     ·have h6':(t.kind==6)=true:=by simpa using hk6
      obtain⟨hkk,hkey⟩:=PN hn hk6 hlt
      have hrk:A9 (t.keys.map Ag) 1 k=true:=by simp[A9,hkk,Ag]
      have hgk:(t.keys.map Ag)[k]? = some [.str (t.keyAt k)]:=by simp[hkk,Ag,hkey]
      have hru:A9 (u.enc.map CellD.cs) 5 0=true:=by unfold A9;rw[show (0:Int).toNat=0 from rfl,AL];rfl
      have hgu:=AL u
      have hset:=Po u (t.keyAt k)
      simp only[Cc,List.take,List.drop,List.cons_append,List.nil_append,List.length_cons,List.length_nil,Nat.reduceAdd]at hset
      have hlen:(t.enc.take (kp t.kids k)).length+(u.cells (t.keyAt k)).length≤1000000:=by rw[htl,Ci];omega
      have hnext:(t.enc.take (kp t.kids (k+1))).map CellD.cs=(t.enc.take (kp t.kids k)).map CellD.cs++(u.cells (t.keyAt k)).map CellD.cs:=by rw[hts,List.map_append]
      refine A3 (j8 h6' hrk hgk hru hgu hset hlen hw) ?_
      refine⟨k+1,by omega,by omega,?_⟩
      exact Af (Am.of [((1,0),(1,0)),((4,0),(51,0))] []) hnext
     ·have h6':(t.kind==6)=false:=by simpa using hk6
      have hke:=NJ hk6 k
      have hlen:(t.enc.take (kp t.kids k)).length+u.enc.length≤1000000:=by rw[htl,hul];omega
      have hnext:(t.enc.take (kp t.kids (k+1))).map CellD.cs=(t.enc.take (kp t.kids k)).map CellD.cs++u.enc.map CellD.cs:=by rw[hts,List.map_append,hke];rfl
      refine A3 (j3 h6' hlen hw) ?_
      refine⟨k+1,by omega,by omega,?_⟩
      exact Af (Am.of [((1,0),(1,0)),((4,0),(51,0))] []) hnext
    ·have hd:decide ((k:Int)<(t.kids.length:Int))=false:=by simpa using hlt
     have hke:k=t.kids.length:=by omega
     have hall:t.enc.take (kp t.kids k)=t.enc:=by rw[hke];exact HH t
     refine A3 hd ?_
     exact Ab (Aa [((0,0),(4,0))] []) Tryz.results91 hall
end
end Go.Proofs.YtcejfdfmgmcinaaGreat
