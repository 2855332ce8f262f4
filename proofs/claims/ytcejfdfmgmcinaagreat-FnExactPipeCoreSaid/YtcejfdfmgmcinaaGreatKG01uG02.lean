/- Texts of this proof: G01 G02. -/
import Derived.Test.YtcejfdfmgmcinaaGreatKE6
import Derived.IntWalk
set_option linter.all false
set_option maxHeartbeats 8000000
namespace Go.Proofs.YtcejfdfmgmcinaaGreat
section
open Go.RowKit
def CellD.cs (c:CellD):List C:=[.int .i64 c.kind,.int .i64 c.num,.str c.text,.str c.key,.int .i64 c.n]
def Ad (s:ByteArray):List C:=[.str s]
mutual
def V.cs:V→List C
 | .mk kind num text keys kids=>[.int .i64 kind,.int .i64 num,.str text,.sl (keys.map Ad),.sl (csL kids)]
def csL:List V→List (List C)
 | []=>[]
 |k::ks=>k.cs::csL ks
end
theorem Mb:∀(l:List V),csL l=l.map V.cs
 | []=>rfl
 |k::ks=>by simp[csL,Mb ks]
theorem V.cs_eq (t:V):t.cs=[.int .i64 t.kind,.int .i64 t.num,.str t.text,.sl (t.keys.map Ad),.sl (t.kids.map V.cs)]:=by
 cases t
 simp[V.cs,Mb,V.kind,V.num,V.text,V.keys,V.kids]
def V.av (t:V):AV:=.agg [.c (.int .i64 t.kind),.c (.int .i64 t.num),.c (.str t.text),.c (.sl (t.keys.map Ad)),.c (.sl (t.kids.map V.cs))]
def CellD.av (c:CellD):AV:=.agg [.c (.int .i64 c.kind),.c (.int .i64 c.num),.c (.str c.text),.c (.str c.key),.c (.int .i64 c.n)]
def Zs (l:List V):AV:=.c (.sl (l.map V.cs))
def AB (l:List CellD):AV:=.c (.sl (l.map CellD.cs))
section
variable (k n:Int) (s:ByteArray) (ks:List ByteArray) (vs:List V)
theorem PW:(V.mk k n s ks vs).kind=k:=rfl
theorem U7:(V.mk k n s ks vs).num=n:=rfl
theorem Qz:(V.mk k n s ks vs).text=s:=rfl
theorem ZS:(V.mk k n s ks vs).keys=ks:=rfl
theorem PV:(V.mk k n s ks vs).kids=vs:=rfl
end
attribute [go_sem] V.av CellD.av Zs AB CellD.cs Ad V.cs_eq CG C8 B4 BG PW U7 Qz ZS PV
set_option maxRecDepth 10000
theorem ZL (c:CellD):Cb c.cs=c.cs:=rfl
theorem a0t (s:ByteArray):Cb (Ad s)=Ad s:=rfl
theorem ZM (t:V):Cb t.cs=t.cs:=by rw[V.cs_eq];rfl
theorem Dy (l:List CellD):AQ (l.map CellD.cs)=l.map CellD.cs:=Cu _ ZL l
theorem Ri (l:List ByteArray):AQ (l.map Ad)=l.map Ad:=Cu _ a0t l
theorem PN (l:List V):AQ (l.map V.cs)=l.map V.cs:=Cu _ ZM l
theorem q6 (s:ByteArray):(CG s).av=.agg [.c (.int .i64 4),.c (.int .i64 0),.c (.str s),.c (.sl []),.c (.sl [])]:=rfl
theorem d7 (n:Int):(C8 n).av=.agg [.c (.int .i64 3),.c (.int .i64 n),.c (.str ByteArray.empty),.c (.sl []),.c (.sl [])]:=rfl
theorem ZA (l:List V):(B4 l).av=.agg [.c (.int .i64 5),.c (.int .i64 0),.c (.str ByteArray.empty),.c (.sl []),.c (.sl (l.map V.cs))]:=rfl
attribute [go_sem] Dy Ri PN
theorem Qy (s:ByteArray):AC Tryz.prog 270 [.c (.str s)] [] (CG s).av []:=by
 rw[q6]
 refine A7 Tryz.func270 Tryz.ntmps270 q9 ?_
 exact Aj (A5 []) Tryz.results270
theorem Ex (n:Int):AC Tryz.prog 269 [.c (.int .i64 n)] [] (C8 n).av []:=by
 rw[d7]
 refine A7 Tryz.func269 Tryz.ntmps269 q9 ?_
 exact Aj (A5 []) Tryz.results269
theorem Gm (l:List V):AC Tryz.prog 127 [Zs l] [] (B4 l).av []:=by
 rw[ZA]
 refine A7 Tryz.func127 Tryz.ntmps127 q9 ?_
 exact Aj (A5 []) Tryz.results127
end
section
open Go.RowKit
theorem Gk (l:List CellD):((l.map CellD.cs).all fun r=>r.length==5)=true:=by simp[CellD.cs]
theorem Ib (l:List V):((l.map V.cs).all fun r=>r.length==5)=true:=by simp[V.cs_eq]
theorem Fp (l:List ByteArray):((l.map Ad).all fun r=>r.length==1)=true:=by simp[Ad]
attribute [go_sem] Gk Ib Fp
theorem Af {k:Nat}(h:k<9000000000000000000):IntKind.i64.wrap ((k:Int)+1)=((k+1:Nat):Int):=by
 rw[IntWalk.i64_in _ (by omega)]
 simp
theorem Oa (u:V) (key:ByteArray):(u.enc.map CellD.cs).set 0 (BU [.int .i64 u.kind,.int .i64 u.num,.str u.text,.str ByteArray.empty,.int .i64 u.kids.length] 3 [.str key])=(u.cells key).map CellD.cs:=by
 cases u
 simp[V.enc,V.cells,CellD.cs,BU,PW,U7,Qz,PV]
theorem AJ (u:V):(u.enc.map CellD.cs)[0]? = some [.int .i64 u.kind,.int .i64 u.num,.str u.text,.str ByteArray.empty,.int .i64 u.kids.length]:=by
 cases u
 simp[V.enc,V.cells,CellD.cs,PW,U7,Qz,PV]
set_option maxRecDepth 10000
theorem I7 (l:List V):AC Tryz.prog 148 [Zs l] [] (.c (.int .i64 l.length)) []:=by
 refine A7 Tryz.func148 Tryz.ntmps148 q9 ?_
 exact Aj (A5 []) Tryz.results148
theorem LY:∀(m:Nat) (t:V),t.count≤m→t.count≤500000→t.neat→AC Tryz.prog 91 [t.av] [] (.own (0,0)) [((0,0),.row false 5 80 (t.enc.map CellD.cs))]:=by
 intro m
 induction m with
 |zero=>intro t hm _ _;have:=Cq t;omega
 |succ m ih =>
  intro t hm hM hn
  have hkc:=AN t
  have hkl:=Bq t.kids
  have hn0:Cp t.kind=false→t.kids.length=0:=fun h=>by rw[U5 hn h];rfl
  have ht0:=GU t
  refine AK Tryz.func91 Tryz.ntmps91 ?_
  cases h5:(t.kind==5)<;>cases h6:(t.kind==6)
  case' false.false =>
   have hz:t.kids.length=0:=hn0 (by simp[Cp,h5,h6])
   have hst:(t.enc.take (kp t.kids 0)).map CellD.cs=[[.int .i64 t.kind,.int .i64 t.num,.str t.text,.str ByteArray.empty,.int .i64 0]]:=by rw[ht0,hz];rfl
   refine Ac (j2 h5 h6) ?_
  case' false.true =>
   have hst:(t.enc.take (kp t.kids 0)).map CellD.cs=[[.int .i64 t.kind,.int .i64 t.num,.str t.text,.str ByteArray.empty,.int .i64 t.kids.length]]:=by rw[ht0];rfl
   refine Ac (j2 h5 h6) ?_
   refine v7 (A3 [] (I7 _)) q9 (j2 h5 h6) ?_
  case' true.false =>
   have hst:(t.enc.take (kp t.kids 0)).map CellD.cs=[[.int .i64 t.kind,.int .i64 t.num,.str t.text,.str ByteArray.empty,.int .i64 t.kids.length]]:=by rw[ht0];rfl
   refine Ac (j2 h5 h6) ?_
   refine v7 (A3 [] (I7 _)) q9 (j2 h5 h6) ?_
  case true.true =>
   simp at h5 h6
   omega
  all_goals
   refine Ar (κ:=Nat) (fun k=>⟨mkS 0 54 [(1,.ptr (1,0) 0),(4,.own (4,0)),(29,.c (.sl (t.kids.map V.cs))),(30,.c (.int .i64 t.kids.length)),(31,.c (.int .i64 k))],
     [((1,0),.box [.c (.int .i64 t.kind),.c (.int .i64 t.num),.c (.str t.text),.c (.sl (t.keys.map Ad)),.c (.sl (t.kids.map V.cs))]),((4,0),.row false 5 80 ((t.enc.take (kp t.kids k)).map CellD.cs))]⟩)
    (fun k=>k≤t.kids.length) (fun k=>t.kids.length-k) 0 (Nat.zero_le _) ?_ ?_
   ·exact Ab (Ah.of [((1,0),(1,0)),((4,0),(27,0))] []) hst
   ·intro k hk
    by_cases hlt:k<t.kids.length
    ·have hd:decide ((k:Int)<(t.kids.length:Int))=true:=by simpa using hlt
     have hr:Aa (t.kids.map V.cs) 5 k=true:=by simp[Aa,hlt,V.cs_eq]
     have hg:(t.kids.map V.cs)[k]? = some t.kids[k].cs:=by simp[hlt]
     have hmem:=Ct (List.getElem_mem hlt)
     have hnk:=OK (WP hn) _ (List.getElem_mem hlt)
     have hts:=Gc t hlt
     have htl:=GT t k
     have hkpl:=IT t k
     generalize t.kids[k]=u at *
     have hul:u.enc.length=u.count:=CA u
     have hw:=Af (k:=k) (by omega)
     refine Ac (j3 hd hr hg) ?_
     refine w12 (AU [] (ih u (by omega) (by omega) hnk)) q9 ?_
     by_cases hk6:t.kind=6
     ·have h6':(t.kind==6)=true:=by simpa using hk6
      obtain⟨hkk,hkey⟩:=OA hn hk6 hlt
      have hrk:Aa (t.keys.map Ad) 1 k=true:=by simp[Aa,hkk,Ad]
      have hgk:(t.keys.map Ad)[k]? = some [.str (t.keyAt k)]:=by simp[hkk,Ad,hkey]
      have hru:Aa (u.enc.map CellD.cs) 5 0=true:=by unfold Aa;rw[show (0:Int).toNat=0 from rfl,AJ];rfl
      have hgu:=AJ u
      have hset:=Oa u (t.keyAt k)
      simp only[BU,List.take,List.drop,List.cons_append,List.nil_append,List.length_cons,List.length_nil,Nat.reduceAdd]at hset
      have hlen:(t.enc.take (kp t.kids k)).length+(u.cells (t.keyAt k)).length≤1000000:=by rw[htl,BZ];omega
      have hnext:(t.enc.take (kp t.kids (k+1))).map CellD.cs=(t.enc.take (kp t.kids k)).map CellD.cs++(u.cells (t.keyAt k)).map CellD.cs:=by rw[hts,List.map_append]
      refine Ac (j8 h6' hrk hgk hru hgu hset hlen hw) ?_
      refine⟨k+1,by omega,by omega,?_⟩
      exact Ab (Ah.of [((1,0),(1,0)),((4,0),(51,0))] []) hnext
     ·have h6':(t.kind==6)=false:=by simpa using hk6
      have hke:=MC hk6 k
      have hlen:(t.enc.take (kp t.kids k)).length+u.enc.length≤1000000:=by rw[htl,hul];omega
      have hnext:(t.enc.take (kp t.kids (k+1))).map CellD.cs=(t.enc.take (kp t.kids k)).map CellD.cs++u.enc.map CellD.cs:=by rw[hts,List.map_append,hke];rfl
      refine Ac (j3 h6' hlen hw) ?_
      refine⟨k+1,by omega,by omega,?_⟩
      exact Ab (Ah.of [((1,0),(1,0)),((4,0),(51,0))] []) hnext
    ·have hd:decide ((k:Int)<(t.kids.length:Int))=false:=by simpa using hlt
     have hke:k=t.kids.length:=by omega
     have hall:t.enc.take (kp t.kids k)=t.enc:=by rw[hke];exact GS t
     refine Ac hd ?_
     exact A9 (A8 [((0,0),(4,0))] []) Tryz.results91 hall
end
end Go.Proofs.YtcejfdfmgmcinaaGreat
