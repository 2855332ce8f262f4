/- Texts of this proof: G01 G02 B01 B02 B03 B04. -/
import Derived.Test.YtlciedpfjhkkdaaGreatDoorKE6
import Derived.IntWalk
import Derived.WalkSpells
import Derived.WalkLawsBesides
import Derived.Deep.QuietTactic
import Derived.BigQuiet
set_option linter.all false
set_option maxHeartbeats 8000000
namespace Go.Proofs.YtlciedpfjhkkdaaGreatDoor
section
open Go.RowKit
def CellD.cs (c:CellD):List C:=[.int .i64 c.kind,.int .i64 c.num,.str c.text,.str c.key,.int .i64 c.n]
def strCs (s:ByteArray):List C:=[.str s]
mutual
def V.cs:V→List C
 | .mk kind num text keys kids=>[.int .i64 kind,.int .i64 num,.str text,.sl (keys.map strCs),.sl (csL kids)]
def csL:List V→List (List C)
 | []=>[]
 |k::ks=>k.cs::csL ks
end
theorem csL_eq:∀(l:List V),csL l=l.map V.cs
 | []=>rfl
 |k::ks=>by simp[csL,csL_eq ks]
theorem V.cs_eq (t:V):t.cs=[.int .i64 t.kind,.int .i64 t.num,.str t.text,.sl (t.keys.map strCs),.sl (t.kids.map V.cs)]:=by
 cases t
 simp[V.cs,csL_eq,V.kind,V.num,V.text,V.keys,V.kids]
def V.av (t:V):AV:=.agg [.c (.int .i64 t.kind),.c (.int .i64 t.num),.c (.str t.text),.c (.sl (t.keys.map strCs)),.c (.sl (t.kids.map V.cs))]
def CellD.av (c:CellD):AV:=.agg [.c (.int .i64 c.kind),.c (.int .i64 c.num),.c (.str c.text),.c (.str c.key),.c (.int .i64 c.n)]
def valsA (l:List V):AV:=.c (.sl (l.map V.cs))
def cellsA (l:List CellD):AV:=.c (.sl (l.map CellD.cs))
section
variable (k n:Int) (s:ByteArray) (ks:List ByteArray) (vs:List V)
theorem kind_mk:(V.mk k n s ks vs).kind=k:=rfl
theorem num_mk:(V.mk k n s ks vs).num=n:=rfl
theorem text_mk:(V.mk k n s ks vs).text=s:=rfl
theorem keys_mk:(V.mk k n s ks vs).keys=ks:=rfl
theorem kids_mk:(V.mk k n s ks vs).kids=vs:=rfl
end
attribute [go_sem] V.av CellD.av valsA cellsA CellD.cs strCs V.cs_eq strV numV arrV nullV kind_mk num_mk text_mk keys_mk kids_mk
set_option maxRecDepth 10000
theorem fl_cell (c:CellD):forgetL c.cs=c.cs:=rfl
theorem fl_str (s:ByteArray):forgetL (strCs s)=strCs s:=rfl
theorem fl_tree (t:V):forgetL t.cs=t.cs:=by rw[V.cs_eq];rfl
theorem forget_cells (l:List CellD):forgetLL (l.map CellD.cs)=l.map CellD.cs:=forget_map _ fl_cell l
theorem forget_strs (l:List ByteArray):forgetLL (l.map strCs)=l.map strCs:=forget_map _ fl_str l
theorem forget_trees (l:List V):forgetLL (l.map V.cs)=l.map V.cs:=forget_map _ fl_tree l
theorem strV_av (s:ByteArray):(strV s).av=.agg [.c (.int .i64 4),.c (.int .i64 0),.c (.str s),.c (.sl []),.c (.sl [])]:=rfl
theorem numV_av (n:Int):(numV n).av=.agg [.c (.int .i64 3),.c (.int .i64 n),.c (.str ByteArray.empty),.c (.sl []),.c (.sl [])]:=rfl
theorem arrV_av (l:List V):(arrV l).av=.agg [.c (.int .i64 5),.c (.int .i64 0),.c (.str ByteArray.empty),.c (.sl []),.c (.sl (l.map V.cs))]:=rfl
attribute [go_sem] forget_cells forget_strs forget_trees
theorem text_ac (s:ByteArray):AC Tryz.prog 138 [.c (.str s)] [] (strV s).av []:=by
 rw[strV_av]
 refine wEnter Tryz.func138 Tryz.ntmps138 ?_
 refine wRUN trivial ?_
 exact wRet (ret_data []) Tryz.results138
theorem number_ac (n:Int):AC Tryz.prog 152 [.c (.int .i64 n)] [] (numV n).av []:=by
 rw[numV_av]
 refine wEnter Tryz.func152 Tryz.ntmps152 ?_
 refine wRUN trivial ?_
 exact wRet (ret_data []) Tryz.results152
theorem array_ac (l:List V):AC Tryz.prog 143 [valsA l] [] (arrV l).av []:=by
 rw[arrV_av]
 refine wEnter Tryz.func143 Tryz.ntmps143 ?_
 refine wRUN trivial ?_
 exact wRet (ret_data []) Tryz.results143
end
section
open Go.RowKit
theorem all_cells (l:List CellD):((l.map CellD.cs).all fun r=>r.length==5)=true:=by simp[CellD.cs]
theorem all_trees (l:List V):((l.map V.cs).all fun r=>r.length==5)=true:=by simp[V.cs_eq]
theorem all_strs (l:List ByteArray):((l.map strCs).all fun r=>r.length==1)=true:=by simp[strCs]
attribute [go_sem] all_cells all_trees all_strs
theorem wrap_succ {k:Nat}(h:k<9000000000000000000):IntKind.i64.wrap ((k:Int)+1)=((k+1:Nat):Int):=by
 rw[IntWalk.i64_in _ (by omega)]
 simp
theorem cells_set (u:V) (key:ByteArray):(u.enc.map CellD.cs).set 0 (putL [.int .i64 u.kind,.int .i64 u.num,.str u.text,.str ByteArray.empty,.int .i64 u.kids.length] 3 [.str key])=(u.cells key).map CellD.cs:=by
 cases u
 simp[V.enc,V.cells,CellD.cs,putL,kind_mk,num_mk,text_mk,kids_mk]
theorem enc_head (u:V):(u.enc.map CellD.cs)[0]? = some [.int .i64 u.kind,.int .i64 u.num,.str u.text,.str ByteArray.empty,.int .i64 u.kids.length]:=by
 cases u
 simp[V.enc,V.cells,CellD.cs,kind_mk,num_mk,text_mk,kids_mk]
set_option maxRecDepth 10000
theorem sizeVals_ac (l:List V):AC Tryz.prog 55 [valsA l] [] (.c (.int .i64 l.length)) []:=by
 refine wEnter Tryz.func55 Tryz.ntmps55 ?_
 refine wRUN trivial ?_
 exact wRet (ret_data []) Tryz.results55
theorem cells_ac:∀(m:Nat) (t:V),t.count≤m→t.count≤500000→t.neat→AC Tryz.prog 40 [t.av] [] (.own (0,0)) [((0,0),.row false 5 94 (t.enc.map CellD.cs))]:=by
 intro m
 induction m with
 |zero=>intro t hm _ _;have:=count_pos t;omega
 |succ m ih =>
  intro t hm hM hn
  have hkc:=count_kids t
  have hkl:=countL_len t.kids
  have hn0:holds t.kind=false→t.kids.length=0:=fun h=>by rw[neat_holds hn h];rfl
  have ht0:=enc_take_one t
  refine wEnter Tryz.func40 Tryz.ntmps40 ?_
  cases h5:(t.kind==5)<;>cases h6:(t.kind==6)
  case' false.false =>
   have hz:t.kids.length=0:=hn0 (by simp[holds,h5,h6])
   have hst:(t.enc.take (kp t.kids 0)).map CellD.cs=[[.int .i64 t.kind,.int .i64 t.num,.str t.text,.str ByteArray.empty,.int .i64 0]]:=by rw[ht0,hz];rfl
   refine wRUN (j2 h5 h6) ?_
  case' false.true =>
   have hst:(t.enc.take (kp t.kids 0)).map CellD.cs=[[.int .i64 t.kind,.int .i64 t.num,.str t.text,.str ByteArray.empty,.int .i64 t.kids.length]]:=by rw[ht0];rfl
   refine wRUN (j2 h5 h6) ?_
   refine w7 (op_data [] (sizeVals_ac _)) trivial ?_
   refine wRUN (j2 h5 h6) ?_
  case' true.false =>
   have hst:(t.enc.take (kp t.kids 0)).map CellD.cs=[[.int .i64 t.kind,.int .i64 t.num,.str t.text,.str ByteArray.empty,.int .i64 t.kids.length]]:=by rw[ht0];rfl
   refine wRUN (j2 h5 h6) ?_
   refine w7 (op_data [] (sizeVals_ac _)) trivial ?_
   refine wRUN (j2 h5 h6) ?_
  case true.true =>
   simp at h5 h6
   omega
  all_goals
   refine a_loop (κ:=Nat) (fun k=>⟨mkS 0 54 [(1,.ptr (1,0) 0),(4,.own (4,0)),(29,.c (.sl (t.kids.map V.cs))),(30,.c (.int .i64 t.kids.length)),(31,.c (.int .i64 k))],
     [((1,0),.box [.c (.int .i64 t.kind),.c (.int .i64 t.num),.c (.str t.text),.c (.sl (t.keys.map strCs)),.c (.sl (t.kids.map V.cs))]),((4,0),.row false 5 94 ((t.enc.take (kp t.kids k)).map CellD.cs))]⟩)
    (fun k=>k≤t.kids.length) (fun k=>t.kids.length-k) 0 (Nat.zero_le _) ?_ ?_
   ·exact wSays (Says.of [((1,0),(1,0)),((4,0),(27,0))] []) hst
   ·intro k hk
    by_cases hlt:k<t.kids.length
    ·have hd:decide ((k:Int)<(t.kids.length:Int))=true:=by simpa using hlt
     have hr:rowsAt (t.kids.map V.cs) 5 k=true:=by simp[rowsAt,hlt,V.cs_eq]
     have hg:(t.kids.map V.cs)[k]? = some t.kids[k].cs:=by simp[hlt]
     have hmem:=countL_mem (List.getElem_mem hlt)
     have hnk:=neatL_mem (neat_kids hn) _ (List.getElem_mem hlt)
     have hts:=enc_take_succ t hlt
     have htl:=enc_take_len t k
     have hkpl:=kp_le t k
     generalize t.kids[k]=u at *
     have hul:u.enc.length=u.count:=enc_len u
     have hw:=wrap_succ (k:=k) (by omega)
     refine wRUN (j3 hd hr hg) ?_
     refine w12 (op_rowF [] (ih u (by omega) (by omega) hnk)) trivial ?_
     by_cases hk6:t.kind=6
     ·have h6':(t.kind==6)=true:=by simpa using hk6
      obtain⟨hkk,hkey⟩:=keyAt_get hn hk6 hlt
      have hrk:rowsAt (t.keys.map strCs) 1 k=true:=by simp[rowsAt,hkk,strCs]
      have hgk:(t.keys.map strCs)[k]? = some [.str (t.keyAt k)]:=by simp[hkk,strCs,hkey]
      have hru:rowsAt (u.enc.map CellD.cs) 5 0=true:=by unfold rowsAt;rw[show (0:Int).toNat=0 from rfl,enc_head];rfl
      have hgu:=enc_head u
      have hset:=cells_set u (t.keyAt k)
      simp only[putL,List.take,List.drop,List.cons_append,List.nil_append,List.length_cons,List.length_nil,Nat.reduceAdd]at hset
      have hlen:(t.enc.take (kp t.kids k)).length+(u.cells (t.keyAt k)).length≤1000000:=by rw[htl,cells_len];omega
      have hnext:(t.enc.take (kp t.kids (k+1))).map CellD.cs=(t.enc.take (kp t.kids k)).map CellD.cs++(u.cells (t.keyAt k)).map CellD.cs:=by rw[hts,List.map_append]
      refine wRUN (j8 h6' hrk hgk hru hgu hset hlen hw) ?_
      refine⟨k+1,by omega,by omega,?_⟩
      exact wSays (Says.of [((1,0),(1,0)),((4,0),(51,0))] []) hnext
     ·have h6':(t.kind==6)=false:=by simpa using hk6
      have hke:=keyAt_none hk6 k
      have hlen:(t.enc.take (kp t.kids k)).length+u.enc.length≤1000000:=by rw[htl,hul];omega
      have hnext:(t.enc.take (kp t.kids (k+1))).map CellD.cs=(t.enc.take (kp t.kids k)).map CellD.cs++u.enc.map CellD.cs:=by rw[hts,List.map_append,hke];rfl
      refine wRUN (j3 h6' hlen hw) ?_
      refine⟨k+1,by omega,by omega,?_⟩
      exact wSays (Says.of [((1,0),(1,0)),((4,0),(51,0))] []) hnext
    ·have hd:decide ((k:Int)<(t.kids.length:Int))=false:=by simpa using hlt
     have hke:k=t.kids.length:=by omega
     have hall:t.enc.take (kp t.kids k)=t.enc:=by rw[hke];exact enc_take_all t
     refine wRUN hd ?_
     exact wRetOf (ret_of [((0,0),(4,0))] []) Tryz.results40 hall
theorem ok_all_of {s:ByteArray}(h:∀j (hj:j<s.size),okByte s[j]=true):s.data.toList.all okByte=true:=by
 rw[List.all_eq_true]
 intro c hc
 obtain⟨j,hj,rfl⟩:=List.getElem_of_mem hc
 exact h j (by simpa using hj)
theorem okText_no {s:ByteArray}{j:Nat}(hj:j<s.size) (h:(s[j].toNat:Int)<32∨126<(s[j].toNat:Int)):okText s=false:=by
 have:s.data.toList.all okByte=false:=by
  rw[←Bool.not_eq_true]
  intro hh
  rw[List.all_eq_true]at hh
  have:=hh s[j] (by simp[ByteArray.getElem_eq_getElem_data])
  simp[okByte]at this
  omega
 simp[okText,this]
theorem okText_of {s:ByteArray}(h:∀j (hj:j<s.size),okByte s[j]=true):okText s=decide (s.size≤60):=by
 simp[okText,ok_all_of h]
theorem ok_next {s:ByteArray}{k:Nat}(hk:k<s.size) (h:∀j (hj:j<s.size),j<k→okByte s[j]=true) (h1:32≤(s[k].toNat:Int)) (h2:(s[k].toNat:Int)≤126) :
  ∀j (hj:j<s.size),j<k+1→okByte s[j]=true:=by
 intro j hj hjk
 by_cases e:j=k
 ·subst e;simp[okByte];omega
 ·exact h j hj (by omega)
theorem within_any (v lo hi:Int) (w:World) :
  Calls Tryz.prog 54 #[.int .i64 v,.int .i64 lo,.int .i64 hi] w fun e w'=>e=.returned (.bool (inB v lo hi))∧w=w':=by
 go_enter Tryz.func54,Tryz.ntmps54
 cases h1:decide (lo≤v)<;>cases h2:decide (v≤hi)
 all_goals go_wp2
 all_goals go_ret
 all_goals simp[inB, *]
theorem isString_any (s:ByteArray) (hs:s.size≤9223372036854775807) (w:World) :
  Calls Tryz.prog 150 #[.string s] w fun e w'=>e=.returned (.bool (okText s))∧w=w':=by
 go_enter Tryz.func150,Tryz.ntmps150
 go_wp2
 go_loop [6] (fun i=>∃k:Nat,k≤s.size∧i=.int .i64 k∧(∀j (hj:j<s.size),j<k→okByte s[j]=true)) (fun i=>s.size-(intOf i).toNat)
 case atStart=>exact⟨0,Nat.zero_le _,rfl,fun j hj h=>absurd h (by omega)⟩
 case round =>
  obtain⟨k,hk,rfl,hall⟩:=hrel
  have Hall:=Lib.hid hall
  clear hall
  by_cases hlt:k<s.size
  ·go_wp2
   ·go_ret
    exact⟨by rw[okText_no hlt (by omega)];rfl,rfl⟩
   ·go_round
    case rel=>exact⟨k+1,by omega,by go_num,ok_next hlt Hall.out (by omega) (by omega)⟩
    case measure=>simp[intOf];omega
   ·go_ret
    exact⟨by rw[okText_no hlt (by omega)];rfl,rfl⟩
  ·go_wp2
   go_ret
   refine⟨?_,rfl⟩
   rw[okText_of fun j hj=>Hall.out j hj (by omega)]
   simp
   omega
set_option maxRecDepth 100000 in
theorem l1Shape_any (xs:List CellD) (hx:xs.length≤200) (hn:∀c∈xs,c.n≤200) :
  ∀(m:Nat) (a d:Int) (A:Option Addr) (cap:Nat) (S:Nat→Prop) (w:World),xs.length-a.toNat≤m→0≤d→d≤a→a≤201→Cells w S A xs →
   Calls Tryz.prog 63 #[.slice A xs.length cap,.int .i64 a,.int .i64 d] w fun e w' =>
    e=.returned (.tuple #[.int .i64 (endOf xs.length (parseV m (xs.drop a.toNat))),.int .i64 (deepOf (parseV m (xs.drop a.toNat)))])∧Below w.heap.size w w':=by
 intro m
 induction m with
 |zero =>
  intro a d A cap S w hm hd0 hda ha hcs
  obtain⟨a,rfl⟩:=Int.eq_ofNat_of_zero_le (show 0≤a by omega)
  rw[Int.toNat_natCast]at *
  have hge:decide ((xs.length:Int)≤(a:Int))=true:=by simp;omega
  go_enter Tryz.func63,Tryz.ntmps63
  go_wp2
  go_ret2
  exact⟨rfl,Below.refl _ _⟩
 |succ m ih =>
  intro a d A cap S w hm hd0 hda ha hcs
  obtain⟨a,rfl⟩:=Int.eq_ofNat_of_zero_le (show 0≤a by omega)
  rw[Int.toNat_natCast]at *
  have HIH:=Lib.hid ih
  clear ih
  by_cases hge:xs.length≤a
  ·have hge':decide ((xs.length:Int)≤(a:Int))=true:=by simp;omega
   rw[List.drop_eq_nil_of_le hge]
   go_enter Tryz.func63,Tryz.ntmps63
   go_wp2
   go_ret2
   exact⟨rfl,Below.refl _ _⟩
  ·have hlt:a<xs.length:=by omega
   have hd200:d≤200:=by omega
   obtain⟨b,off,rfl,hSb,hbl,c0,c1,c2,c3,c4⟩:=hcs.at_ hlt
   have hN:=hn xs[a] (List.getElem_mem hlt)
   have HD:=Lib.hid (drop_cons hlt)
   have HC:=Lib.hid hcs
   clear hcs
   generalize xs[a]=c at *
   obtain⟨ck,cm,ct,cy,cn⟩:=c
   simp only at c0 c1 c2 c3 c4 hN
   have HB0:Hid (∀X:Obj,Below w.heap.size w (w.alloc X)):=fun X=>(Below.refl _ _).alloc (Nat.le_refl _) _
   go_enter Tryz.func63,Tryz.ntmps63
   go_wp2
   go_loopw [9,10,11,12] (fun dp en la ki wr=>∃(k e:Nat) (K:List ByteArray) (Vs:List V) (lst:ByteArray) (last:Option ByteArray),
     ki=.int .i64 k∧en=.int .i64 e∧dp=.int .i64 (depthL Vs:Nat)∧la=.string lst∧a<e∧e≤xs.length∧depthL Vs≤200 ∧
     (ck=6→0<k→K.getLast? = some lst)∧KInv (parseV m) ck cn.toNat (xs.drop (a+1)) k K Vs last (xs.drop e) ∧
     Below (w.heap.size+1) (w.alloc (.cells #[.int .i64 ck,.int .i64 cm,.string ct,.string cy,.int .i64 cn] 94)) wr) (fun _ _ _ ki _=>cn.toNat-(intOf ki).toNat)
   case atStart =>
    exact⟨0,a+1,[],[],ByteArray.empty,none,rfl,rfl,rfl,rfl,by omega,by omega,by simp[depthL],fun _ h=>absurd h (by omega),KInv.start,Below.refl _ _⟩
   case round =>
    obtain⟨k,e,K,Vs,lst,last,rfl,rfl,rfl,rfl,hae,hex,hdv,hlst,hinv,hbw⟩:=hrel
    have hww:Below w.heap.size w wr:=(HB0.out _).trans (hbw.mono (by omega))
    have hcr:=HC.out.below hww
    have f0:wr.cell? ⟨w.heap.size,0,none⟩=some (.int .i64 ck):=(hbw.cell (p:=⟨w.heap.size,0,none⟩) (Nat.lt_succ_self _)).trans (World.cell?_alloc_at _ _ _ _ rfl)
    have f4:wr.cell? ⟨w.heap.size,4,none⟩=some (.int .i64 cn):=(hbw.cell (p:=⟨w.heap.size,4,none⟩) (Nat.lt_succ_self _)).trans (World.cell?_alloc_at _ _ _ _ rfl)
    have Hinv:=Lib.hid hinv
    have Hlst:=Lib.hid hlst
    have Hww:=Lib.hid hww
    have Hbw:=Lib.hid hbw
    clear hinv hlst hww hbw
    have hsz:w.heap.size<wr.heap.size:=by have:=Hbw.out.size;simp at this;omega
    by_cases hk:(k:Int)<cn
    ·by_cases hel:e<xs.length
     ·obtain⟨b1,off1,hA1,_,_,g0,g1,g2,g3,g4⟩:=hcr.at_ hel
      simp only[Option.some.injEq,Addr.mk.injEq,and_true]at hA1
      obtain⟨rfl,rfl⟩:=hA1
      clear hcr g0 g1 g2 g4 c0 c1 c2 c3 c4
      have hbr:=Hbw.out
      rcases hp:parseV m (xs.drop e) with _ | ⟨v,r⟩
      ·have IH1:∀W:World,Cells W S (some ⟨b,off,none⟩) xs→Calls Tryz.prog 63 #[.slice (some ⟨b,off,none⟩) xs.length cap,.int .i64 e,.int .i64 (d+1)] W fun e w' =>
         e=.returned (.tuple #[.int .i64 (-1),.int .i64 0])∧Below W.heap.size W w':=by
        intro W hW
        have:=HIH.out e (d+1) _ cap S W (by omega) (by omega) (by omega) (by omega) hW
        rw[Int.toNat_natCast,hp]at this
        exact this
       have HIH1:=Lib.hid IH1
       have Hp:=Lib.hid hp
       have HR:=Lib.hid (HC.out.below Hww.out)
       clear IH1 hp hbr
       go_wp2_with (go_at_call 63;refine (HIH1.out _ HR.out).mono ?_;rintro e w1 ⟨rfl,hb1⟩)
       all_goals go_ret2
       all_goals (refine⟨?_,by first | exact Hww.out | exact Hww.out.trans (hb1.mono (Nat.le_of_lt hsz))⟩)
       all_goals rw[HD.out,parseV_fail (by rw[drop_cons hel]at Hinv Hp;exact Hinv.out.kid (by omega) Hp.out)]
       all_goals rfl
      ·have IH1:∀W:World,Cells W S (some ⟨b,off,none⟩) xs→Calls Tryz.prog 63 #[.slice (some ⟨b,off,none⟩) xs.length cap,.int .i64 e,.int .i64 (d+1)] W fun e w' =>
         e=.returned (.tuple #[.int .i64 ((xs.length-r.length:Nat):Int),.int .i64 (v.depth:Nat)])∧Below W.heap.size W w':=by
        intro W hW
        have:=HIH.out e (d+1) _ cap S W (by omega) (by omega) (by omega) (by omega) hW
        rw[Int.toNat_natCast,hp]at this
        exact this
       have HIH1:=Lib.hid IH1
       have Hp:=Lib.hid hp
       have HR:=Lib.hid (HC.out.below Hww.out)
       clear IH1 hp hbr
       have hge2:decide ((xs.length:Int)≤(e:Int))=false:=by simp;omega
       have hneg:decide (((xs.length-r.length:Nat):Int)<0)=false:=by simp
       have hrl:=(parseV_suffix _ _ _ _ Hp.out).2
       have hrd:=parseV_depth _ _ _ _ Hp.out
       have Hrs:=Lib.hid (parseV_suffix _ _ _ _ Hp.out).1
       simp only[List.length_drop]at hrl hrd
       generalize hkey:xs[e].key=key at *
       have Hdrop:=Lib.hid (drop_cons hel)
       have Hkey:=Lib.hid hkey
       clear hkey
       have NO:keyBad ck last key=true→endOf xs.length (parseV (m+1) (xs.drop a)) = -1∧deepOf (parseV (m+1) (xs.drop a))=0:=by
        intro hbad
        rw[HD.out,parseV_fail (by rw[Hdrop.out]at Hinv;exact Hinv.out.bad (by omega) (by rw[Hkey.out];exact hbad))]
        exact⟨rfl,rfl⟩
       have YES:keyBad ck last key=false→∀dp:Nat,dp=depthL (Vs++[v])→∀W:World,Below wr.heap.size wr W→∃(k' e':Nat) (K':List ByteArray) (Vs':List V) (lst':ByteArray) (last':Option ByteArray),
         Value.int .i64 ((k:Int)+1)=.int .i64 k'∧Value.int .i64 ((xs.length-r.length:Nat):Int)=.int .i64 e'∧Value.int .i64 (dp:Int)=.int .i64 (depthL Vs':Nat)∧Value.string key=.string lst'∧a<e'∧e'≤xs.length∧depthL Vs'≤200 ∧
         (ck=6→0<k'→K'.getLast? = some lst')∧KInv (parseV m) ck cn.toNat (xs.drop (a+1)) k' K' Vs' last' (xs.drop e') ∧
         Below (w.heap.size+1) (w.alloc (.cells #[.int .i64 ck,.int .i64 cm,.string ct,.string cy,.int .i64 cn] 94)) W:=by
        intro hok dp hdp W hW
        refine⟨k+1,xs.length-r.length,if ck=6 then K++[key] else K,Vs++[v],key,some key,by go_num,rfl,by rw[hdp],rfl,by omega,by omega,by rw[depthL_append];omega,fun h _=>by simp[h],?_,
         Hbw.out.trans (hW.mono hsz)⟩
        have hs:=Hinv.out
        rw[Hdrop.out]at hs
        have hp2:=Hp.out
        rw[Hdrop.out]at hp2
        have:=hs.step (by omega) (by rw[Hkey.out];exact hok) hp2
        rw[Hkey.out]at this
        rw[←suffix_drop (Hrs.out.trans (List.drop_suffix _ _))]
        exact this
       have HNO:=Lib.hid NO
       have HYES:=Lib.hid YES
       clear NO YES
       cases h5:(ck==5)
       ·cases h6:(ck==6)
        ·have hb:keyBad ck last key=false:=by simp[keyBad,h5,h6]
         have Hb:=Lib.hid hb
         clear hb
         go_wp2_with (go_at_call 63;refine (HIH1.out _ HR.out).mono ?_;rintro e w1 ⟨rfl,hb1⟩)
         ·go_roundw
          case rel=>exact HYES.out Hb.out _ (by rw[depthL_append];omega) _ hb1
          case measure=>simp[intOf];omega
         ·go_roundw
          case rel=>exact HYES.out Hb.out _ (by rw[depthL_append];omega) _ hb1
          case measure=>simp[intOf];omega
        ·rcases Nat.eq_zero_or_pos k with hk0 | hk0
         ·have hb:keyBad ck last key=false:=Hinv.out.keyOk Hlst.out (fun h=>by simp[h]at h5) (fun _ h=>absurd h (by omega))
          have Hb:=Lib.hid hb
          have hk1:decide (0<k)=false:=by simp;omega
          have Hk0:=Lib.hid hk0
          clear hb hk0
          go_wp2_with (go_at_call 63;refine (HIH1.out _ HR.out).mono ?_;rintro e w1 ⟨rfl,hb1⟩)
          ·go_roundw
           case rel=>exact HYES.out Hb.out _ (by rw[depthL_append];omega) _ hb1
           case measure=>simp[intOf];omega
          ·go_roundw
           case rel=>exact HYES.out Hb.out _ (by rw[depthL_append];omega) _ hb1
           case measure=>simp[intOf];omega
         ·have hk1:decide (0<k)=true:=by simp;omega
          cases h7:Op.bytesLess key.toList lst.toList
          ·cases h8:(key.toList==lst.toList)
           ·have hb:keyBad ck last key=false:=Hinv.out.keyOk Hlst.out (fun h=>by simp[h]at h5) (fun _ _=>⟨h7,h8⟩)
            have Hb:=Lib.hid hb
            clear hb
            go_wp2_with (go_at_call 63;refine (HIH1.out _ HR.out).mono ?_;rintro e w1 ⟨rfl,hb1⟩)
            ·go_roundw
             case rel=>exact HYES.out Hb.out _ (by rw[depthL_append];omega) _ hb1
             case measure=>simp[intOf];omega
            ·go_roundw
             case rel=>exact HYES.out Hb.out _ (by rw[depthL_append];omega) _ hb1
             case measure=>simp[intOf];omega
           ·have hb:keyBad ck last key=true:=Hinv.out.keyNo Hlst.out (.inr ⟨by simpa using h6,hk0,.inr h8⟩)
            have Hb:=Lib.hid (HNO.out hb)
            clear hb
            go_wp2_with (go_at_call 63;refine (HIH1.out _ HR.out).mono ?_;rintro e w1 ⟨rfl,hb1⟩)
            go_ret2
            exact⟨by rw[Hb.out.1,Hb.out.2];rfl,Hww.out⟩
          ·have hb:keyBad ck last key=true:=Hinv.out.keyNo Hlst.out (.inr ⟨by simpa using h6,hk0,.inl h7⟩)
           have Hb:=Lib.hid (HNO.out hb)
           clear hb
           go_wp2_with (go_at_call 63;refine (HIH1.out _ HR.out).mono ?_;rintro e w1 ⟨rfl,hb1⟩)
           go_ret2
           exact⟨by rw[Hb.out.1,Hb.out.2];rfl,Hww.out⟩
       ·have h6:(ck==6)=false:=by simp at h5 ⊢;omega
        cases h9:key.toList.isEmpty
        ·have hb:keyBad ck last key=true:=by simp[keyBad,h5,h9]
         have Hb:=Lib.hid (HNO.out hb)
         clear hb
         go_wp2_with (go_at_call 63;refine (HIH1.out _ HR.out).mono ?_;rintro e w1 ⟨rfl,hb1⟩)
         go_ret2
         exact⟨by rw[Hb.out.1,Hb.out.2];rfl,Hww.out⟩
        ·have hb:keyBad ck last key=false:=by simp[keyBad,h6,h9]
         have Hb:=Lib.hid hb
         have h10:key.toList=[]:=by simpa using h9
         clear hb
         go_wp2_with (go_at_call 63;refine (HIH1.out _ HR.out).mono ?_;rintro e w1 ⟨rfl,hb1⟩)
         ·go_roundw
          case rel=>exact HYES.out Hb.out _ (by rw[depthL_append];omega) _ hb1
          case measure=>simp[intOf];omega
         ·go_roundw
          case rel=>exact HYES.out Hb.out _ (by rw[depthL_append];omega) _ hb1
          case measure=>simp[intOf];omega
     ·have hge2:decide ((xs.length:Int)≤(e:Int))=true:=by simp;omega
      have hnone:parseV (m+1) (xs.drop a)=none:=by
       rw[HD.out,parseV_fail (by rw[List.drop_eq_nil_of_le (show xs.length≤e by omega)]at Hinv;exact Hinv.out.empty (by omega))]
      go_wp2_with fail
      go_ret2
      exact⟨by rw[hnone];rfl,Hww.out⟩
    ·have hlt3:decide ((k:Int)<cn)=false:=by simp;omega
     have hkN:k=cn.toNat:=by have:=Hinv.out.1;omega
     go_wp2_with fail
     go_ret2
     refine⟨?_,Hww.out⟩
     subst hkN
     rw[HD.out,parseV_good Hinv.out.done,endOf_some,deepOf_some,List.length_drop,show xs.length-(xs.length-e)=e from by omega]
     simp[V.depth]
theorem cellFault_any (k m:Int) (t y:ByteArray) (n:Int) (ht:t.size≤9223372036854775807) (hy:y.size≤9223372036854775807) (w:World) :
  Calls Tryz.prog 90 #[.agg #[.int .i64 k,.int .i64 m,.string t,.string y,.int .i64 n]] w fun e w'=>e=.returned (.int .i64 (cellCode k m t y n))∧Below w.heap.size w w':=by
 have HB:∀X:Obj,Below w.heap.size w (w.alloc X):=fun X=>(Below.refl _ _).alloc (Nat.le_refl _) _
 have HBB:=Lib.hid HB
 clear HB
 go_enter Tryz.func90,Tryz.ntmps90
 have hk:k=5∨k=6∨k=3∨k=4∨((k==5)=false∧(k==6)=false∧(k==3)=false∧(k==4)=false):=by simp;omega
 rcases hk with rfl | rfl | rfl | rfl | ⟨h5,h6,h3,h4⟩
 ·have h0:inB 5 0 6=true:=by decide
  go_wp2_with (first
   | (go_at_call 54;refine (within_any _ _ _ _).mono ?_;rintro e w' ⟨rfl,rfl⟩)
   | (go_at_call 150;refine (isString_any _ (by assumption) _).mono ?_;rintro e w' ⟨rfl,rfl⟩))
  all_goals go_ret
  all_goals refine⟨?_,HBB.out _⟩
  all_goals clear HBB
  all_goals (refine congrArg (fun x:Int=>Ending.returned (.int .i64 x)) ?_)
  all_goals simp_all [cellCode,cF,cR,cT,holds]
 ·have h0:inB 6 0 6=true:=by decide
  go_wp2_with (first
   | (go_at_call 54;refine (within_any _ _ _ _).mono ?_;rintro e w' ⟨rfl,rfl⟩)
   | (go_at_call 150;refine (isString_any _ (by assumption) _).mono ?_;rintro e w' ⟨rfl,rfl⟩))
  all_goals go_ret
  all_goals refine⟨?_,HBB.out _⟩
  all_goals clear HBB
  all_goals (refine congrArg (fun x:Int=>Ending.returned (.int .i64 x)) ?_)
  all_goals simp_all [cellCode,cF,cR,cT,holds]
 ·have h0:inB 3 0 6=true:=by decide
  go_wp2_with (first
   | (go_at_call 54;refine (within_any _ _ _ _).mono ?_;rintro e w' ⟨rfl,rfl⟩)
   | (go_at_call 150;refine (isString_any _ (by assumption) _).mono ?_;rintro e w' ⟨rfl,rfl⟩))
  all_goals go_ret
  all_goals refine⟨?_,HBB.out _⟩
  all_goals clear HBB
  all_goals (refine congrArg (fun x:Int=>Ending.returned (.int .i64 x)) ?_)
  all_goals simp_all [cellCode,cF,cR,cT,holds]
 ·have h0:inB 4 0 6=true:=by decide
  go_wp2_with (first
   | (go_at_call 54;refine (within_any _ _ _ _).mono ?_;rintro e w' ⟨rfl,rfl⟩)
   | (go_at_call 150;refine (isString_any _ (by assumption) _).mono ?_;rintro e w' ⟨rfl,rfl⟩))
  all_goals go_ret
  all_goals refine⟨?_,HBB.out _⟩
  all_goals clear HBB
  all_goals (refine congrArg (fun x:Int=>Ending.returned (.int .i64 x)) ?_)
  all_goals simp_all [cellCode,cF,cR,cT,holds]
 ·cases h0:inB k 0 6
  ·go_wp2_with (go_at_call 54;refine (within_any _ _ _ _).mono ?_;rintro e w' ⟨rfl,rfl⟩)
   go_ret
   exact⟨by simp[cellCode,h0],HBB.out _⟩
  ·go_wp2_with (first
    | (go_at_call 54;refine (within_any _ _ _ _).mono ?_;rintro e w' ⟨rfl,rfl⟩)
    | (go_at_call 150;refine (isString_any _ (by assumption) _).mono ?_;rintro e w' ⟨rfl,rfl⟩))
   all_goals go_ret
   all_goals refine⟨?_,HBB.out _⟩
   all_goals clear HBB
   all_goals (refine congrArg (fun x:Int=>Ending.returned (.int .i64 x)) ?_)
   all_goals simp_all [cellCode,cF,cR,cT,holds]
end
end Go.Proofs.YtlciedpfjhkkdaaGreatDoor
