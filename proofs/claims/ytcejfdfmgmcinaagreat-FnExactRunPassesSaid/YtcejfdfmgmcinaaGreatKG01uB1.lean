/- Texts of this proof: G01 G02 B01 B02 B03 B04. -/
import Derived.Test.YtcejfdfmgmcinaaGreatKE6
import Derived.IntWalk
import Derived.WalkSpells
import Derived.WalkLawsBesides
import Derived.Deep.QuietTactic
import Derived.BigQuiet
set_option linter.all false
set_option maxHeartbeats 8000000
namespace Go.Proofs.YtcejfdfmgmcinaaGreat
section
open Go.RowKit
def CellD.cs (c:CellD):List C:=[.int .i64 c.kind,.int .i64 c.num,.str c.text,.str c.key,.int .i64 c.n]
def Ae (s:ByteArray):List C:=[.str s]
mutual
def V.cs:V→List C
 | .mk kind num text keys kids=>[.int .i64 kind,.int .i64 num,.str text,.sl (keys.map Ae),.sl (csL kids)]
def csL:List V→List (List C)
 | []=>[]
 |k::ks=>k.cs::csL ks
end
theorem Nl:∀(l:List V),csL l=l.map V.cs
 | []=>rfl
 |k::ks=>by simp[csL,Nl ks]
theorem V.cs_eq (t:V):t.cs=[.int .i64 t.kind,.int .i64 t.num,.str t.text,.sl (t.keys.map Ae),.sl (t.kids.map V.cs)]:=by
 cases t
 simp[V.cs,Nl,V.kind,V.num,V.text,V.keys,V.kids]
def V.av (t:V):AV:=.agg [.c (.int .i64 t.kind),.c (.int .i64 t.num),.c (.str t.text),.c (.sl (t.keys.map Ae)),.c (.sl (t.kids.map V.cs))]
def CellD.av (c:CellD):AV:=.agg [.c (.int .i64 c.kind),.c (.int .i64 c.num),.c (.str c.text),.c (.str c.key),.c (.int .i64 c.n)]
def Xd (l:List V):AV:=.c (.sl (l.map V.cs))
def AF (l:List CellD):AV:=.c (.sl (l.map CellD.cs))
section
variable (k n:Int) (s:ByteArray) (ks:List ByteArray) (vs:List V)
theorem Ro:(V.mk k n s ks vs).kind=k:=rfl
theorem VI:(V.mk k n s ks vs).num=n:=rfl
theorem S4:(V.mk k n s ks vs).text=s:=rfl
theorem a2h:(V.mk k n s ks vs).keys=ks:=rfl
theorem Rn:(V.mk k n s ks vs).kids=vs:=rfl
end
attribute [go_sem] V.av CellD.av Xd AF CellD.cs Ae V.cs_eq D9 C6 AY BD Ro VI S4 a2h Rn
set_option maxRecDepth 10000
theorem a2a (c:CellD):Cn c.cs=c.cs:=rfl
theorem a4k (s:ByteArray):Cn (Ae s)=Ae s:=rfl
theorem a2b (t:V):Cn t.cs=t.cs:=by rw[V.cs_eq];rfl
theorem E4 (l:List CellD):AT (l.map CellD.cs)=l.map CellD.cs:=CM _ a2a l
theorem SM (l:List ByteArray):AT (l.map Ae)=l.map Ae:=CM _ a4k l
theorem Re (l:List V):AT (l.map V.cs)=l.map V.cs:=CM _ a2b l
theorem a3b (s:ByteArray):(D9 s).av=.agg [.c (.int .i64 4),.c (.int .i64 0),.c (.str s),.c (.sl []),.c (.sl [])]:=rfl
theorem a2p (n:Int):(C6 n).av=.agg [.c (.int .i64 3),.c (.int .i64 n),.c (.str ByteArray.empty),.c (.sl []),.c (.sl [])]:=rfl
theorem Qw (l:List V):(AY l).av=.agg [.c (.int .i64 5),.c (.int .i64 0),.c (.str ByteArray.empty),.c (.sl []),.c (.sl (l.map V.cs))]:=rfl
attribute [go_sem] E4 SM Re
theorem S3 (s:ByteArray):AC Tryz.prog 270 [.c (.str s)] [] (D9 s).av []:=by
 rw[a3b]
 refine A6 Tryz.func270 Tryz.ntmps270 q9 ?_
 exact Ag (A5 []) Tryz.results270
theorem Dh (n:Int):AC Tryz.prog 269 [.c (.int .i64 n)] [] (C6 n).av []:=by
 rw[a2p]
 refine A6 Tryz.func269 Tryz.ntmps269 q9 ?_
 exact Ag (A5 []) Tryz.results269
theorem EH (l:List V):AC Tryz.prog 127 [Xd l] [] (AY l).av []:=by
 rw[Qw]
 refine A6 Tryz.func127 Tryz.ntmps127 q9 ?_
 exact Ag (A5 []) Tryz.results127
end
section
open Go.RowKit
theorem GX (l:List CellD):((l.map CellD.cs).all fun r=>r.length==5)=true:=by simp[CellD.cs]
theorem J6 (l:List V):((l.map V.cs).all fun r=>r.length==5)=true:=by simp[V.cs_eq]
theorem Fm (l:List ByteArray):((l.map Ae).all fun r=>r.length==1)=true:=by simp[Ae]
attribute [go_sem] GX J6 Fm
theorem Ad {k:Nat}(h:k<9000000000000000000):IntKind.i64.wrap ((k:Int)+1)=((k+1:Nat):Int):=by
 rw[IntWalk.i64_in _ (by omega)]
 simp
theorem Pu (u:V) (key:ByteArray):(u.enc.map CellD.cs).set 0 (C4 [.int .i64 u.kind,.int .i64 u.num,.str u.text,.str ByteArray.empty,.int .i64 u.kids.length] 3 [.str key])=(u.cells key).map CellD.cs:=by
 cases u
 simp[V.enc,V.cells,CellD.cs,C4,Ro,VI,S4,Rn]
theorem AL (u:V):(u.enc.map CellD.cs)[0]? = some [.int .i64 u.kind,.int .i64 u.num,.str u.text,.str ByteArray.empty,.int .i64 u.kids.length]:=by
 cases u
 simp[V.enc,V.cells,CellD.cs,Ro,VI,S4,Rn]
set_option maxRecDepth 10000
theorem GM (l:List V):AC Tryz.prog 148 [Xd l] [] (.c (.int .i64 l.length)) []:=by
 refine A6 Tryz.func148 Tryz.ntmps148 q9 ?_
 exact Ag (A5 []) Tryz.results148
theorem Na:∀(m:Nat) (t:V),t.count≤m→t.count≤500000→t.neat→AC Tryz.prog 91 [t.av] [] (.own (0,0)) [((0,0),.row false 5 80 (t.enc.map CellD.cs))]:=by
 intro m
 induction m with
 |zero=>intro t hm _ _;have:=CI t;omega
 |succ m ih =>
  intro t hm hM hn
  have hkc:=AP t
  have hkl:=Bq t.kids
  have hn0:CG t.kind=false→t.kids.length=0:=fun h=>by rw[VG hn h];rfl
  have ht0:=HX t
  refine AA Tryz.func91 Tryz.ntmps91 ?_
  cases h5:(t.kind==5)<;>cases h6:(t.kind==6)
  case' false.false =>
   have hz:t.kids.length=0:=hn0 (by simp[CG,h5,h6])
   have hst:(t.enc.take (kp t.kids 0)).map CellD.cs=[[.int .i64 t.kind,.int .i64 t.num,.str t.text,.str ByteArray.empty,.int .i64 0]]:=by rw[ht0,hz];rfl
   refine Ab (j2 h5 h6) ?_
  case' false.true =>
   have hst:(t.enc.take (kp t.kids 0)).map CellD.cs=[[.int .i64 t.kind,.int .i64 t.num,.str t.text,.str ByteArray.empty,.int .i64 t.kids.length]]:=by rw[ht0];rfl
   refine Ab (j2 h5 h6) ?_
   refine v7 (A3 [] (GM _)) q9 (j2 h5 h6) ?_
  case' true.false =>
   have hst:(t.enc.take (kp t.kids 0)).map CellD.cs=[[.int .i64 t.kind,.int .i64 t.num,.str t.text,.str ByteArray.empty,.int .i64 t.kids.length]]:=by rw[ht0];rfl
   refine Ab (j2 h5 h6) ?_
   refine v7 (A3 [] (GM _)) q9 (j2 h5 h6) ?_
  case true.true =>
   simp at h5 h6
   omega
  all_goals
   refine Ar (κ:=Nat) (fun k=>⟨mkS 0 54 [(1,.ptr (1,0) 0),(4,.own (4,0)),(29,.c (.sl (t.kids.map V.cs))),(30,.c (.int .i64 t.kids.length)),(31,.c (.int .i64 k))],
     [((1,0),.box [.c (.int .i64 t.kind),.c (.int .i64 t.num),.c (.str t.text),.c (.sl (t.keys.map Ae)),.c (.sl (t.kids.map V.cs))]),((4,0),.row false 5 80 ((t.enc.take (kp t.kids k)).map CellD.cs))]⟩)
    (fun k=>k≤t.kids.length) (fun k=>t.kids.length-k) 0 (Nat.zero_le _) ?_ ?_
   ·exact Ac (Aj.of [((1,0),(1,0)),((4,0),(27,0))] []) hst
   ·intro k hk
    by_cases hlt:k<t.kids.length
    ·have hd:decide ((k:Int)<(t.kids.length:Int))=true:=by simpa using hlt
     have hr:A8 (t.kids.map V.cs) 5 k=true:=by simp[A8,hlt,V.cs_eq]
     have hg:(t.kids.map V.cs)[k]? = some t.kids[k].cs:=by simp[hlt]
     have hmem:=CL (List.getElem_mem hlt)
     have hnk:=Q1 (YA hn) _ (List.getElem_mem hlt)
     have hts:=GP t hlt
     have htl:=HW t k
     have hkpl:=JM t k
     generalize t.kids[k]=u at *
     have hul:u.enc.length=u.count:=CY u
     have hw:=Ad (k:=k) (by omega)
     refine Ab (j3 hd hr hg) ?_
     refine w12 (AU [] (ih u (by omega) (by omega) hnk)) q9 ?_
     by_cases hk6:t.kind=6
     ·have h6':(t.kind==6)=true:=by simpa using hk6
      obtain⟨hkk,hkey⟩:=PS hn hk6 hlt
      have hrk:A8 (t.keys.map Ae) 1 k=true:=by simp[A8,hkk,Ae]
      have hgk:(t.keys.map Ae)[k]? = some [.str (t.keyAt k)]:=by simp[hkk,Ae,hkey]
      have hru:A8 (u.enc.map CellD.cs) 5 0=true:=by unfold A8;rw[show (0:Int).toNat=0 from rfl,AL];rfl
      have hgu:=AL u
      have hset:=Pu u (t.keyAt k)
      simp only[C4,List.take,List.drop,List.cons_append,List.nil_append,List.length_cons,List.length_nil,Nat.reduceAdd]at hset
      have hlen:(t.enc.take (kp t.kids k)).length+(u.cells (t.keyAt k)).length≤1000000:=by rw[htl,Cb];omega
      have hnext:(t.enc.take (kp t.kids (k+1))).map CellD.cs=(t.enc.take (kp t.kids k)).map CellD.cs++(u.cells (t.keyAt k)).map CellD.cs:=by rw[hts,List.map_append]
      refine Ab (j8 h6' hrk hgk hru hgu hset hlen hw) ?_
      refine⟨k+1,by omega,by omega,?_⟩
      exact Ac (Aj.of [((1,0),(1,0)),((4,0),(51,0))] []) hnext
     ·have h6':(t.kind==6)=false:=by simpa using hk6
      have hke:=NQ hk6 k
      have hlen:(t.enc.take (kp t.kids k)).length+u.enc.length≤1000000:=by rw[htl,hul];omega
      have hnext:(t.enc.take (kp t.kids (k+1))).map CellD.cs=(t.enc.take (kp t.kids k)).map CellD.cs++u.enc.map CellD.cs:=by rw[hts,List.map_append,hke];rfl
      refine Ab (j3 h6' hlen hw) ?_
      refine⟨k+1,by omega,by omega,?_⟩
      exact Ac (Aj.of [((1,0),(1,0)),((4,0),(51,0))] []) hnext
    ·have hd:decide ((k:Int)<(t.kids.length:Int))=false:=by simpa using hlt
     have hke:k=t.kids.length:=by omega
     have hall:t.enc.take (kp t.kids k)=t.enc:=by rw[hke];exact HS t
     refine Ab hd ?_
     exact Aa (A9 [((0,0),(4,0))] []) Tryz.results91 hall
theorem YF {s:ByteArray}(h:∀j (hj:j<s.size),Gp s[j]=true):s.data.toList.all Gp=true:=by
 rw[List.all_eq_true]
 intro c hc
 obtain⟨j,hj,rfl⟩:=List.getElem_of_mem hc
 exact h j (by simpa using hj)
theorem Jk {s:ByteArray}{j:Nat}(hj:j<s.size) (h:(s[j].toNat:Int)<32∨126<(s[j].toNat:Int)):Bi s=false:=by
 have:s.data.toList.all Gp=false:=by
  rw[←Bool.not_eq_true]
  intro hh
  rw[List.all_eq_true]at hh
  have:=hh s[j] (by simp[ByteArray.getElem_eq_getElem_data])
  simp[Gp]at this
  omega
 simp[Bi,this]
theorem Q7 {s:ByteArray}(h:∀j (hj:j<s.size),Gp s[j]=true):Bi s=decide (s.size≤60):=by
 simp[Bi,YF h]
theorem WS {s:ByteArray}{k:Nat}(hk:k<s.size) (h:∀j (hj:j<s.size),j<k→Gp s[j]=true) (h1:32≤(s[k].toNat:Int)) (h2:(s[k].toNat:Int)≤126) :
  ∀j (hj:j<s.size),j<k+1→Gp s[j]=true:=by
 intro j hj hjk
 by_cases e:j=k
 ·subst e;simp[Gp];omega
 ·exact h j hj (by omega)
theorem Tb (v lo hi:Int) (w:World) :
  Calls Tryz.prog 67 #[.int .i64 v,.int .i64 lo,.int .i64 hi] w fun e w'=>e=.returned (.bool (inB v lo hi))∧w=w':=by
 go_enter Tryz.func67,Tryz.ntmps67
 cases h1:decide (lo≤v)<;>cases h2:decide (v≤hi)
 all_goals go_wp2
 all_goals go_ret
 all_goals simp[inB, *]
theorem E0 (v lo hi:Int) (w:World) :
  Calls Tryz.prog 72 #[.int .i64 v,.int .i64 lo,.int .i64 hi] w fun e w'=>e=.returned (.bool (inB v lo hi))∧w=w':=by
 go_enter Tryz.func72,Tryz.ntmps72
 cases h1:decide (lo≤v)<;>cases h2:decide (v≤hi)
 all_goals go_wp2
 all_goals go_ret
 all_goals simp[inB, *]
theorem NZ (s:ByteArray) (w:World) :
  Calls Tryz.prog 160 #[.string s] w fun e w'=>e=.returned (.bool (Bi s))∧w=w':=by
 go_enter Tryz.func160,Tryz.ntmps160
 by_cases hlen:s.size≤60
 ·go_wp2
  go_loop [3] (fun i=>∃k:Nat,k≤s.size∧i=.int .i64 k∧(∀j (hj:j<s.size),j<k→Gp s[j]=true)) (fun i=>s.size-(intOf i).toNat)
  case atStart=>exact⟨0,Nat.zero_le _,rfl,fun j hj h=>absurd h (by omega)⟩
  case round =>
   obtain⟨k,hk,rfl,hall⟩:=hrel
   have Hall:=Lib.hid hall
   clear hall
   by_cases hlt:k<s.size
   ·go_wp2
    ·go_ret
     exact⟨by rw[Jk hlt (by omega)];rfl,rfl⟩
    ·go_round
     case rel=>exact⟨k+1,by omega,by go_num,WS hlt Hall.out (by omega) (by omega)⟩
     case measure=>simp[intOf];omega
    ·go_ret
     exact⟨by rw[Jk hlt (by omega)];rfl,rfl⟩
   ·go_wp2
    go_ret
    refine⟨?_,rfl⟩
    rw[Q7 fun j hj=>Hall.out j hj (by omega)]
    simp[hlen]
 ·go_wp2
  go_ret
  simp[Bi,hlen]
theorem E5 (s:ByteArray) (hs:s.size≤9223372036854775807) (w:World) :
  Calls Tryz.prog 202 #[.string s] w fun e w'=>e=.returned (.bool (Bi s))∧w=w':=by
 go_enter Tryz.func202,Tryz.ntmps202
 go_wp2
 go_loop [6] (fun i=>∃k:Nat,k≤s.size∧i=.int .i64 k∧(∀j (hj:j<s.size),j<k→Gp s[j]=true)) (fun i=>s.size-(intOf i).toNat)
 case atStart=>exact⟨0,Nat.zero_le _,rfl,fun j hj h=>absurd h (by omega)⟩
 case round =>
  obtain⟨k,hk,rfl,hall⟩:=hrel
  have Hall:=Lib.hid hall
  clear hall
  by_cases hlt:k<s.size
  ·go_wp2
   ·go_ret
    exact⟨by rw[Jk hlt (by omega)];rfl,rfl⟩
   ·go_round
    case rel=>exact⟨k+1,by omega,by go_num,WS hlt Hall.out (by omega) (by omega)⟩
    case measure=>simp[intOf];omega
   ·go_ret
    exact⟨by rw[Jk hlt (by omega)];rfl,rfl⟩
  ·go_wp2
   go_ret
   refine⟨?_,rfl⟩
   rw[Q7 fun j hj=>Hall.out j hj (by omega)]
   simp
   omega
theorem Ta (k m:Int) (t y:ByteArray) (n:Int) (w:World) :
  Calls Tryz.prog 159 #[.agg #[.int .i64 k,.int .i64 m,.string t,.string y,.int .i64 n]] w fun e w'=>e=.returned (.bool (CG k))∧Below w.heap.size w w':=by
 go_enter Tryz.func159,Tryz.ntmps159
 cases h1:(k==5)<;>cases h2:(k==6)
 all_goals go_wp2
 all_goals go_ret
 all_goals exact⟨by simp[CG,h1,h2],(Below.refl _ _).alloc (Nat.le_refl _) _⟩
theorem NV (k m:Int) (t y:ByteArray) (n:Int) (w:World) :
  Calls Tryz.prog 96 #[.agg #[.int .i64 k,.int .i64 m,.string t,.string y,.int .i64 n]] w fun e w'=>e=.returned (.int .i64 (AS k m t y n))∧Below w.heap.size w w':=by
 have HB:∀X:Obj,Below w.heap.size w (w.alloc X):=fun X=>(Below.refl _ _).alloc (Nat.le_refl _) _
 have HBB:=Lib.hid HB
 clear HB
 go_enter Tryz.func96,Tryz.ntmps96
 cases h0:inB k 0 6
 ·go_wp2_with (go_at_call 67;refine (Tb _ _ _ _).mono ?_;rintro e w' ⟨rfl,rfl⟩)
  go_ret
  exact⟨by simp[AS,h0],HBB.out _⟩
 ·go_wp2_with (first
   | (go_at_call 67;refine (Tb _ _ _ _).mono ?_;rintro e w' ⟨rfl,rfl⟩)
   | (go_at_call 160;refine (NZ _ _).mono ?_;rintro e w' ⟨rfl,rfl⟩)
   | (go_at_call 159;refine (Ta _ _ _ _ _ _).mono ?_;rintro e w1 ⟨rfl,hb1⟩;obtain⟨hc1,hf1⟩:=a3m hb1;have HB1:=Lib.hid hb1;clear hb1))
  all_goals go_ret
  all_goals refine⟨?_,?_⟩
  any_goals (first | exact HBB.out _ | exact (HBB.out _).trans (HB1.out.mono (by simp)))
  all_goals clear HBB
  all_goals (try clear hc1 hf1 HB1)
  all_goals (refine congrArg (fun x:Int=>Ending.returned (.int .i64 x)) ?_)
  all_goals simp_all [AS,cF,cR,cT]
set_option maxRecDepth 100000 in
theorem Mt (xs:List CellD) (hx:xs.length≤200) (hn:∀c∈xs,c.n≤200) :
  ∀(m:Nat) (a d:Int) (A:Option Addr) (cap:Nat) (S:Nat→Prop) (w:World),xs.length-a.toNat≤m→0≤d→d≤a→a≤201→Be w S A xs →
   Calls Tryz.prog 97 #[.slice A xs.length cap,.int .i64 a,.int .i64 d] w fun e w' =>
    e=.returned (.tuple #[.int .i64 (JH xs.length (AJ m (xs.drop a.toNat))),.int .i64 (LF (AJ m (xs.drop a.toNat)))])∧Below w.heap.size w w':=by
 intro m
 induction m with
 |zero =>
  intro a d A cap S w hm hd0 hda ha hcs
  obtain⟨a,rfl⟩:=Int.eq_ofNat_of_zero_le (show 0≤a by omega)
  rw[Int.toNat_natCast]at *
  have hge:decide ((xs.length:Int)≤(a:Int))=true:=by simp;omega
  go_enter Tryz.func97,Tryz.ntmps97
  go_wp2
  go_ret2
  exact⟨rfl,Below.refl _ _⟩
 |succ m ih =>
  intro a d A cap S w hm hd0 hda ha hcs
  obtain⟨a,rfl⟩:=Int.eq_ofNat_of_zero_le (show 0≤a by omega)
  rw[Int.toNat_natCast]at *
  have HIH:=Lib.hid ih
  clear ih
  by_cases hge:xs.length≤a
  ·have hge':decide ((xs.length:Int)≤(a:Int))=true:=by simp;omega
   rw[List.drop_eq_nil_of_le hge]
   go_enter Tryz.func97,Tryz.ntmps97
   go_wp2
   go_ret2
   exact⟨rfl,Below.refl _ _⟩
  ·have hlt:a<xs.length:=by omega
   have hd200:d≤200:=by omega
   obtain⟨b,off,rfl,hSb,hbl,c0,c1,c2,c3,c4⟩:=hcs.at_ hlt
   have hN:=hn xs[a] (List.getElem_mem hlt)
   have HD:=Lib.hid (FS hlt)
   have HC:=Lib.hid hcs
   clear hcs
   generalize xs[a]=c at *
   obtain⟨ck,cm,ct,cy,cn⟩:=c
   simp only at c0 c1 c2 c3 c4 hN
   have HB0:Hid (∀X:Obj,Below w.heap.size w (w.alloc X)):=fun X=>(Below.refl _ _).alloc (Nat.le_refl _) _
   go_enter Tryz.func97,Tryz.ntmps97
   go_wp2
   go_loopw [9,10,11,12] (fun dp en la ki wr=>∃(k e:Nat) (K:List ByteArray) (Vs:List V) (lst:ByteArray) (last:Option ByteArray),
     ki=.int .i64 k∧en=.int .i64 e∧dp=.int .i64 (AW Vs:Nat)∧la=.string lst∧a<e∧e≤xs.length∧AW Vs≤200 ∧
     (ck=6→0<k→K.getLast? = some lst)∧Fz (AJ m) ck cn.toNat (xs.drop (a+1)) k K Vs last (xs.drop e) ∧
     Below (w.heap.size+1) (w.alloc (.cells #[.int .i64 ck,.int .i64 cm,.string ct,.string cy,.int .i64 cn] 80)) wr) (fun _ _ _ ki _=>cn.toNat-(intOf ki).toNat)
   case atStart =>
    exact⟨0,a+1,[],[],ByteArray.empty,none,rfl,rfl,rfl,rfl,by omega,by omega,by simp[AW],fun _ h=>absurd h (by omega),Fz.start,Below.refl _ _⟩
   case round =>
    obtain⟨k,e,K,Vs,lst,last,rfl,rfl,rfl,rfl,hae,hex,hdv,hlst,hinv,hbw⟩:=hrel
    have hww:Below w.heap.size w wr:=(HB0.out _).trans (hbw.mono (by omega))
    have hcr:=HC.out.below hww
    have f0:wr.cell? ⟨w.heap.size,0,none⟩=some (.int .i64 ck):=(hbw.cell (p:=⟨w.heap.size,0,none⟩) (Nat.lt_succ_self _)).trans (World.cell?_alloc_at _ _ _ _ rfl)
    have f4:wr.cell? ⟨w.heap.size,4,none⟩=some (.int .i64 cn):=(hbw.cell (p:=⟨w.heap.size,4,none⟩) (Nat.lt_succ_self _)).trans (World.cell?_alloc_at _ _ _ _ rfl)
    have Hinv:=Lib.hid hinv
    have Hlst:=Lib.hid hlst
    have Hww:=Lib.hid hww
    have Hbw:=Lib.hid hbw
    clear hinv hlst hww hbw
    have hsz:w.heap.size<wr.heap.size:=by have:=Hbw.out.size;simp at this;omega
    by_cases hk:(k:Int)<cn
    ·by_cases hel:e<xs.length
     ·obtain⟨b1,off1,hA1,_,_,g0,g1,g2,g3,g4⟩:=hcr.at_ hel
      simp only[Option.some.injEq,Addr.mk.injEq,and_true]at hA1
      obtain⟨rfl,rfl⟩:=hA1
      clear hcr g0 g1 g2 g4 c0 c1 c2 c3 c4
      have hbr:=Hbw.out
      rcases hp:AJ m (xs.drop e) with _ | ⟨v,r⟩
      ·have IH1:∀W:World,Be W S (some ⟨b,off,none⟩) xs→Calls Tryz.prog 97 #[.slice (some ⟨b,off,none⟩) xs.length cap,.int .i64 e,.int .i64 (d+1)] W fun e w' =>
         e=.returned (.tuple #[.int .i64 (-1),.int .i64 0])∧Below W.heap.size W w':=by
        intro W hW
        have:=HIH.out e (d+1) _ cap S W (by omega) (by omega) (by omega) (by omega) hW
        rw[Int.toNat_natCast,hp]at this
        exact this
       have HIH1:=Lib.hid IH1
       have Hp:=Lib.hid hp
       have HR:=Lib.hid (HC.out.below Hww.out)
       clear IH1 hp hbr
       go_wp2_with (go_at_call 97;refine (HIH1.out _ HR.out).mono ?_;rintro e w1 ⟨rfl,hb1⟩)
       all_goals go_ret2
       all_goals (refine⟨?_,by first | exact Hww.out | exact Hww.out.trans (hb1.mono (Nat.le_of_lt hsz))⟩)
       all_goals rw[HD.out,EC (by rw[FS hel]at Hinv Hp;exact Hinv.out.kid (by omega) Hp.out)]
       all_goals rfl
      ·have IH1:∀W:World,Be W S (some ⟨b,off,none⟩) xs→Calls Tryz.prog 97 #[.slice (some ⟨b,off,none⟩) xs.length cap,.int .i64 e,.int .i64 (d+1)] W fun e w' =>
         e=.returned (.tuple #[.int .i64 ((xs.length-r.length:Nat):Int),.int .i64 (v.depth:Nat)])∧Below W.heap.size W w':=by
        intro W hW
        have:=HIH.out e (d+1) _ cap S W (by omega) (by omega) (by omega) (by omega) hW
        rw[Int.toNat_natCast,hp]at this
        exact this
       have HIH1:=Lib.hid IH1
       have Hp:=Lib.hid hp
       have HR:=Lib.hid (HC.out.below Hww.out)
       clear IH1 hp hbr
       have hge2:decide ((xs.length:Int)≤(e:Int))=false:=by simp;omega
       have hneg:decide (((xs.length-r.length:Nat):Int)<0)=false:=by simp
       have hrl:=(Eh _ _ _ _ Hp.out).2
       have hrd:=RF _ _ _ _ Hp.out
       have Hrs:=Lib.hid (Eh _ _ _ _ Hp.out).1
       simp only[List.length_drop]at hrl hrd
       generalize hkey:xs[e].key=key at *
       have Hdrop:=Lib.hid (FS hel)
       have Hkey:=Lib.hid hkey
       clear hkey
       have NO:B6 ck last key=true→JH xs.length (AJ (m+1) (xs.drop a)) = -1∧LF (AJ (m+1) (xs.drop a))=0:=by
        intro hbad
        rw[HD.out,EC (by rw[Hdrop.out]at Hinv;exact Hinv.out.bad (by omega) (by rw[Hkey.out];exact hbad))]
        exact⟨rfl,rfl⟩
       have YES:B6 ck last key=false→∀dp:Nat,dp=AW (Vs++[v])→∀W:World,Below wr.heap.size wr W→∃(k' e':Nat) (K':List ByteArray) (Vs':List V) (lst':ByteArray) (last':Option ByteArray),
         Value.int .i64 ((k:Int)+1)=.int .i64 k'∧Value.int .i64 ((xs.length-r.length:Nat):Int)=.int .i64 e'∧Value.int .i64 (dp:Int)=.int .i64 (AW Vs':Nat)∧Value.string key=.string lst'∧a<e'∧e'≤xs.length∧AW Vs'≤200 ∧
         (ck=6→0<k'→K'.getLast? = some lst')∧Fz (AJ m) ck cn.toNat (xs.drop (a+1)) k' K' Vs' last' (xs.drop e') ∧
         Below (w.heap.size+1) (w.alloc (.cells #[.int .i64 ck,.int .i64 cm,.string ct,.string cy,.int .i64 cn] 80)) W:=by
        intro hok dp hdp W hW
        refine⟨k+1,xs.length-r.length,if ck=6 then K++[key] else K,Vs++[v],key,some key,by go_num,rfl,by rw[hdp],rfl,by omega,by omega,by rw[BZ];omega,fun h _=>by simp[h],?_,
         Hbw.out.trans (hW.mono hsz)⟩
        have hs:=Hinv.out
        rw[Hdrop.out]at hs
        have hp2:=Hp.out
        rw[Hdrop.out]at hp2
        have:=hs.step (by omega) (by rw[Hkey.out];exact hok) hp2
        rw[Hkey.out]at this
        rw[←MG (Hrs.out.trans (List.drop_suffix _ _))]
        exact this
       have HNO:=Lib.hid NO
       have HYES:=Lib.hid YES
       clear NO YES
       cases h5:(ck==5)
       ·cases h6:(ck==6)
        ·have hb:B6 ck last key=false:=by simp[B6,h5,h6]
         have Hb:=Lib.hid hb
         clear hb
         go_wp2_with (go_at_call 97;refine (HIH1.out _ HR.out).mono ?_;rintro e w1 ⟨rfl,hb1⟩)
         ·go_roundw
          case rel=>exact HYES.out Hb.out _ (by rw[BZ];omega) _ hb1
          case measure=>simp[intOf];omega
         ·go_roundw
          case rel=>exact HYES.out Hb.out _ (by rw[BZ];omega) _ hb1
          case measure=>simp[intOf];omega
        ·rcases Nat.eq_zero_or_pos k with hk0 | hk0
         ·have hb:B6 ck last key=false:=Hinv.out.keyOk Hlst.out (fun h=>by simp[h]at h5) (fun _ h=>absurd h (by omega))
          have Hb:=Lib.hid hb
          have hk1:decide (0<k)=false:=by simp;omega
          have Hk0:=Lib.hid hk0
          clear hb hk0
          go_wp2_with (go_at_call 97;refine (HIH1.out _ HR.out).mono ?_;rintro e w1 ⟨rfl,hb1⟩)
          ·go_roundw
           case rel=>exact HYES.out Hb.out _ (by rw[BZ];omega) _ hb1
           case measure=>simp[intOf];omega
          ·go_roundw
           case rel=>exact HYES.out Hb.out _ (by rw[BZ];omega) _ hb1
           case measure=>simp[intOf];omega
         ·have hk1:decide (0<k)=true:=by simp;omega
          cases h7:Op.bytesLess key.toList lst.toList
          ·cases h8:(key.toList==lst.toList)
           ·have hb:B6 ck last key=false:=Hinv.out.keyOk Hlst.out (fun h=>by simp[h]at h5) (fun _ _=>⟨h7,h8⟩)
            have Hb:=Lib.hid hb
            clear hb
            go_wp2_with (go_at_call 97;refine (HIH1.out _ HR.out).mono ?_;rintro e w1 ⟨rfl,hb1⟩)
            ·go_roundw
             case rel=>exact HYES.out Hb.out _ (by rw[BZ];omega) _ hb1
             case measure=>simp[intOf];omega
            ·go_roundw
             case rel=>exact HYES.out Hb.out _ (by rw[BZ];omega) _ hb1
             case measure=>simp[intOf];omega
           ·have hb:B6 ck last key=true:=Hinv.out.keyNo Hlst.out (.inr ⟨by simpa using h6,hk0,.inr h8⟩)
            have Hb:=Lib.hid (HNO.out hb)
            clear hb
            go_wp2_with (go_at_call 97;refine (HIH1.out _ HR.out).mono ?_;rintro e w1 ⟨rfl,hb1⟩)
            go_ret2
            exact⟨by rw[Hb.out.1,Hb.out.2];rfl,Hww.out⟩
          ·have hb:B6 ck last key=true:=Hinv.out.keyNo Hlst.out (.inr ⟨by simpa using h6,hk0,.inl h7⟩)
           have Hb:=Lib.hid (HNO.out hb)
           clear hb
           go_wp2_with (go_at_call 97;refine (HIH1.out _ HR.out).mono ?_;rintro e w1 ⟨rfl,hb1⟩)
           go_ret2
           exact⟨by rw[Hb.out.1,Hb.out.2];rfl,Hww.out⟩
       ·have h6:(ck==6)=false:=by simp at h5 ⊢;omega
        cases h9:key.toList.isEmpty
        ·have hb:B6 ck last key=true:=by simp[B6,h5,h9]
         have Hb:=Lib.hid (HNO.out hb)
         clear hb
         go_wp2_with (go_at_call 97;refine (HIH1.out _ HR.out).mono ?_;rintro e w1 ⟨rfl,hb1⟩)
         go_ret2
         exact⟨by rw[Hb.out.1,Hb.out.2];rfl,Hww.out⟩
        ·have hb:B6 ck last key=false:=by simp[B6,h6,h9]
         have Hb:=Lib.hid hb
         have h10:key.toList=[]:=by simpa using h9
         clear hb
         go_wp2_with (go_at_call 97;refine (HIH1.out _ HR.out).mono ?_;rintro e w1 ⟨rfl,hb1⟩)
         ·go_roundw
          case rel=>exact HYES.out Hb.out _ (by rw[BZ];omega) _ hb1
          case measure=>simp[intOf];omega
         ·go_roundw
          case rel=>exact HYES.out Hb.out _ (by rw[BZ];omega) _ hb1
          case measure=>simp[intOf];omega
     ·have hge2:decide ((xs.length:Int)≤(e:Int))=true:=by simp;omega
      have hnone:AJ (m+1) (xs.drop a)=none:=by
       rw[HD.out,EC (by rw[List.drop_eq_nil_of_le (show xs.length≤e by omega)]at Hinv;exact Hinv.out.empty (by omega))]
      go_wp2_with fail
      go_ret2
      exact⟨by rw[hnone];rfl,Hww.out⟩
    ·have hlt3:decide ((k:Int)<cn)=false:=by simp;omega
     have hkN:k=cn.toNat:=by have:=Hinv.out.1;omega
     go_wp2_with fail
     go_ret2
     refine⟨?_,Hww.out⟩
     subst hkN
     rw[HD.out,MC Hinv.out.done,Ka,Su,List.length_drop,show xs.length-(xs.length-e)=e from by omega]
     simp[V.depth]
theorem JC (k m:Int) (t y:ByteArray) (n:Int) (ht:t.size≤9223372036854775807) (hy:y.size≤9223372036854775807) (w:World) :
  Calls Tryz.prog 236 #[.agg #[.int .i64 k,.int .i64 m,.string t,.string y,.int .i64 n]] w fun e w'=>e=.returned (.int .i64 (AS k m t y n))∧Below w.heap.size w w':=by
 have HB:∀X:Obj,Below w.heap.size w (w.alloc X):=fun X=>(Below.refl _ _).alloc (Nat.le_refl _) _
 have HBB:=Lib.hid HB
 clear HB
 go_enter Tryz.func236,Tryz.ntmps236
 have hk:k=5∨k=6∨k=3∨k=4∨((k==5)=false∧(k==6)=false∧(k==3)=false∧(k==4)=false):=by simp;omega
 rcases hk with rfl | rfl | rfl | rfl | ⟨h5,h6,h3,h4⟩
 ·have h0:inB 5 0 6=true:=by decide
  go_wp2_with (first
   | (go_at_call 72;refine (E0 _ _ _ _).mono ?_;rintro e w' ⟨rfl,rfl⟩)
   | (go_at_call 202;refine (E5 _ (by assumption) _).mono ?_;rintro e w' ⟨rfl,rfl⟩))
  all_goals go_ret
  all_goals refine⟨?_,HBB.out _⟩
  all_goals clear HBB
  all_goals (refine congrArg (fun x:Int=>Ending.returned (.int .i64 x)) ?_)
  all_goals simp_all [AS,cF,cR,cT,CG]
 ·have h0:inB 6 0 6=true:=by decide
  go_wp2_with (first
   | (go_at_call 72;refine (E0 _ _ _ _).mono ?_;rintro e w' ⟨rfl,rfl⟩)
   | (go_at_call 202;refine (E5 _ (by assumption) _).mono ?_;rintro e w' ⟨rfl,rfl⟩))
  all_goals go_ret
  all_goals refine⟨?_,HBB.out _⟩
  all_goals clear HBB
  all_goals (refine congrArg (fun x:Int=>Ending.returned (.int .i64 x)) ?_)
  all_goals simp_all [AS,cF,cR,cT,CG]
 ·have h0:inB 3 0 6=true:=by decide
  go_wp2_with (first
   | (go_at_call 72;refine (E0 _ _ _ _).mono ?_;rintro e w' ⟨rfl,rfl⟩)
   | (go_at_call 202;refine (E5 _ (by assumption) _).mono ?_;rintro e w' ⟨rfl,rfl⟩))
  all_goals go_ret
  all_goals refine⟨?_,HBB.out _⟩
  all_goals clear HBB
  all_goals (refine congrArg (fun x:Int=>Ending.returned (.int .i64 x)) ?_)
  all_goals simp_all [AS,cF,cR,cT,CG]
 ·have h0:inB 4 0 6=true:=by decide
  go_wp2_with (first
   | (go_at_call 72;refine (E0 _ _ _ _).mono ?_;rintro e w' ⟨rfl,rfl⟩)
   | (go_at_call 202;refine (E5 _ (by assumption) _).mono ?_;rintro e w' ⟨rfl,rfl⟩))
  all_goals go_ret
  all_goals refine⟨?_,HBB.out _⟩
  all_goals clear HBB
  all_goals (refine congrArg (fun x:Int=>Ending.returned (.int .i64 x)) ?_)
  all_goals simp_all [AS,cF,cR,cT,CG]
 ·cases h0:inB k 0 6
  ·go_wp2_with (go_at_call 72;refine (E0 _ _ _ _).mono ?_;rintro e w' ⟨rfl,rfl⟩)
   go_ret
   exact⟨by simp[AS,h0],HBB.out _⟩
  ·go_wp2_with (first
    | (go_at_call 72;refine (E0 _ _ _ _).mono ?_;rintro e w' ⟨rfl,rfl⟩)
    | (go_at_call 202;refine (E5 _ (by assumption) _).mono ?_;rintro e w' ⟨rfl,rfl⟩))
   all_goals go_ret
   all_goals refine⟨?_,HBB.out _⟩
   all_goals clear HBB
   all_goals (refine congrArg (fun x:Int=>Ending.returned (.int .i64 x)) ?_)
   all_goals simp_all [AS,cF,cR,cT,CG]
set_option maxRecDepth 100000 in
theorem P8 (xs:List CellD) (A:Option Addr) (cap:Nat) (S:Nat→Prop) (w:World) (hcs:Be w S A xs) :
  Calls Tryz.prog 47 #[.slice A xs.length cap] w fun e w'=>e=.returned (.int .i64 (dec xs).1)∧Below w.heap.size w w':=by
 by_cases h1:xs.length<1
 ·have hd:=Lib.hid (Nn (xs:=xs) (.inl h1))
  go_enter Tryz.func47,Tryz.ntmps47
  go_wp2
  go_ret
  exact⟨by rw[hd.out];rfl,Below.refl _ _⟩
 ·by_cases h2:200<xs.length
  ·have hd:=Lib.hid (Nn (xs:=xs) (.inr h2))
   go_enter Tryz.func47,Tryz.ntmps47
   go_wp2
   go_ret
   exact⟨by rw[hd.out];rfl,Below.refl _ _⟩
  ·have HC:=Lib.hid hcs
   clear hcs
   have h1':decide ((xs.length:Int)<1)=false:=by simp;omega
   have h2':decide ((200:Int)<xs.length)=false:=by simp;omega
   go_enter Tryz.func47,Tryz.ntmps47
   go_wp2
   go_loopw [3] (fun i wr=>∃k:Nat,k≤xs.length∧i=.int .i64 k∧(∀i (hi:i<xs.length),i<k→xs[i].code=0)∧Below w.heap.size w wr) (fun i _=>xs.length-(intOf i).toNat)
   case atStart=>exact⟨0,Nat.zero_le _,rfl,fun _ _ h=>absurd h (by omega),Below.refl _ _⟩
   case round =>
    obtain⟨k,hk,rfl,hall,hb⟩:=hrel
    have Hall:=Lib.hid hall
    have Hb:=Lib.hid hb
    clear hall hb
    by_cases hlt:k<xs.length
    ·obtain⟨b,off,rfl,hS,hl,c0,c1,c2,c3,c4⟩:=(HC.out.below Hb.out).at_ hlt
     have Hk:Hid (∃c,xs[k]=c):=⟨_,rfl⟩
     cases hz:(xs[k].code != 0)
     ·have hz':AS xs[k].kind xs[k].num xs[k].text xs[k].key xs[k].n=0:=by simpa [CellD.code] using hz
      have HC1:Hid (∀W:World,Calls Tryz.prog 96 #[.agg #[.int .i64 xs[k].kind,.int .i64 xs[k].num,.string xs[k].text,.string xs[k].key,.int .i64 xs[k].n]] W fun e w'=>e=.returned (.int .i64 0)∧Below W.heap.size W w'):=by
       intro W
       have:=NV xs[k].kind xs[k].num xs[k].text xs[k].key xs[k].n W
       rw[hz']at this
       exact this
      have Hz:=Lib.hid hz'
      clear hz hz'
      go_wp2_with (go_at_call 96;refine (HC1.out _).mono ?_;rintro e w1 ⟨rfl,hb1⟩)
      all_goals go_roundw
      case rel =>
       refine⟨k+1,by omega,by go_num,fun i hi hik=>?_,Hb.out.trans (hb1.mono Hb.out.size)⟩
       by_cases he:i=k
       ·subst he;exact Hz.out
       ·exact Hall.out i hi (by omega)
      case measure=>simp[intOf];omega
     ·have HC1:Hid (∀W:World,Calls Tryz.prog 96 #[.agg #[.int .i64 xs[k].kind,.int .i64 xs[k].num,.string xs[k].text,.string xs[k].key,.int .i64 xs[k].n]] W fun e w'=>e=.returned (.int .i64 xs[k].code)∧Below W.heap.size W w'):=by
       intro W
       exact NV xs[k].kind xs[k].num xs[k].text xs[k].key xs[k].n W
      have hd:=Lib.hid (St (by omega) (by omega) hlt Hall.out (by simpa using hz))
      generalize xs[k].code=cc at *
      go_wp2_with (go_at_call 96;refine (HC1.out _).mono ?_;rintro e w1 ⟨rfl,hb1⟩)
      all_goals go_ret
      all_goals exact⟨by rw[hd.out];rfl,Hb.out.trans (hb1.mono Hb.out.size)⟩
    ·have hf0:BI xs=0:=GQ fun i hi=>Hall.out i hi (by omega)
     have hd:=Lib.hid (MT (by omega) (by omega) hf0)
     have hn:∀c∈xs,c.n≤200:=fun c hc=>(QG (Ge hf0 c hc)).2
     have HC1:Hid (∀W:World,Be W S A xs→Calls Tryz.prog 97 #[.slice A xs.length cap,.int .i64 0,.int .i64 0] W fun e w' =>
      e=.returned (.tuple #[.int .i64 (JH xs.length (AJ xs.length xs)),.int .i64 (LF (AJ xs.length xs))])∧Below W.heap.size W w'):=fun W hW=>Mt xs (by omega) hn xs.length 0 0 A cap S W (by simp) (by omega) (by omega) (by omega) hW
     have HR:=Lib.hid (HC.out.below Hb.out)
     obtain⟨b,off,rfl,hS,hl,c0,c1,c2,c3,c4⟩:=(HC.out.below Hb.out).at_ (k:=0) (by omega)
     clear hn c0 c1 c2 c4
     simp only[Nat.zero_mul,Nat.add_zero]at c3
     generalize hend:JH xs.length (AJ xs.length xs)=en at *
     generalize hdeep:LF (AJ xs.length xs)=dp at *
     have Hend:=Lib.hid hend
     have Hdeep:=Lib.hid hdeep
     clear hend hdeep hf0
     go_wp2_with (go_at_call 97;refine (HC1.out _ HR.out).mono ?_;rintro e w1 ⟨rfl,hb1⟩;obtain⟨hcc,_⟩:=a3m hb1)
     all_goals go_ret
     all_goals refine⟨?_,Hb.out.trans (hb1.mono Hb.out.size)⟩
     all_goals (rw[hd.out,ZR (by omega),Hend.out,Hdeep.out];simp[*];try omega)
end
end Go.Proofs.YtcejfdfmgmcinaaGreat
