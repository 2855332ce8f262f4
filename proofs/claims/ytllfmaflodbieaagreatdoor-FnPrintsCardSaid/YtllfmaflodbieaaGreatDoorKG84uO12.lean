/- Texts of this proof: G84 G85 H22 H30 H33 O01 F00 O07 O12. -/
import Derived.Test.YtllfmaflodbieaaGreatDoorKG83
import Derived.Test.YtllfmaflodbieaaGreatDoorRows
import Derived.SizedLaws
import Derived.Deep.Slices
import Derived.Deep.Fields
import Derived.ChangeSame
import Derived.Test.YtllfmaflodbieaaGreatDoorCards
import Derived.Test.YtllfmaflodbieaaGreatDoorTie
import Derived.Lib.LaidTab
import Derived.LaidMore
import Derived.Stop.Joined
import Derived.SevenTiedAt
import Derived.Stop.LaidErr
set_option linter.all false
set_option maxHeartbeats 8000000
namespace Go.Proofs.YtllfmaflodbieaaGreatDoor
section
open Go.RowKit
set_option maxRecDepth 10000
def T0 (x y:List CellD):Int:=match (dec x).2,(dec y).2 with
 |some t,some u=>t.cmp u
 |_,_=>0
def Z8 (x y:List CellD):Bool:=(dec x).1==0&&((dec y).1==0&&T0 x y==0)
theorem S6 (x y:List CellD) (hz:Lk x) (hzy:Lk y):AC Tryz.prog 65 [Iw x,Iw y] [] (.c (.int .i64 (T0 x y))) []:=by
 rcases UJ x with⟨h1,h2⟩ | ⟨t,h1,h3,h4,h5,h6⟩
 ·have hv:=Mw x hz h1
  have hb:((dec x).1 != 0)=true:=by simpa using h2
  have hc:T0 x y=0:=by unfold T0;rw[h1]
  rw[hc]
  rcases UJ y with⟨g1,g2⟩ | ⟨u,g1,g3,g4,g5,g6⟩
  ·have hu:=Mw y hzy g1
   refine JI Tryz.func65 Tryz.ntmps65 ?_
   refine JV q9 ?_
   refine w9 (Ja [] hv) Ki ?_
   refine JV Ki ?_
   refine w9 (Ja [] hu) Ki ?_
   refine JV (j2 Ki hb) ?_
   exact JW (Iu []) Tryz.results65
  ·have hu:=LK y hzy (t:=u) (by rw[g1])
   refine JI Tryz.func65 Tryz.ntmps65 ?_
   refine JV q9 ?_
   refine w9 (Ja [] hv) Ki ?_
   refine JV Ki ?_
   refine w9 (Ja [] hu) q9 ?_
   refine JV (j2 Ki hb) ?_
   exact JW (Iu []) Tryz.results65
 ·have hv:=LK x hz (t:=t) (by rw[h1])
  have h00:((0:Int) != 0)=false:=rfl
  rcases UJ y with⟨g1,g2⟩ | ⟨u,g1,g3,g4,g5,g6⟩
  ·have hu:=Mw y hzy g1
   have hb:((dec y).1 != 0)=true:=by simpa using g2
   have hc:T0 x y=0:=by unfold T0;rw[h1,g1]
   rw[hc]
   refine JI Tryz.func65 Tryz.ntmps65 ?_
   refine JV q9 ?_
   refine w9 (Ja [] hv) q9 ?_
   refine JV Ki ?_
   refine w9 (Ja [] hu) Ki ?_
   refine JV (j3 Ki hb h00) ?_
   exact JW (Iu []) Tryz.results65
  ·have hu:=LK y hzy (t:=u) (by rw[g1])
   have hc:T0 x y=t.cmp u:=by unfold T0;rw[h1,g1]
   have hcm:=RF t.count t u (Nat.le_refl _) ⟨h4,h5,h6⟩
   rw[hc]
   refine JI Tryz.func65 Tryz.ntmps65 ?_
   refine JV q9 ?_
   refine w9 (Ja [] hv) q9 ?_
   refine JV q9 ?_
   refine w9 (Ja [] hu) q9 ?_
   refine JV h00 ?_
   refine w7 (Ju [] hcm) q9 ?_
   refine JV q9 ?_
   exact JW (Iu []) Tryz.results65
theorem Wa (x y:List CellD) (hz:Lk x) (hzy:Lk y):AC Tryz.prog 27 [Iw x,Iw y] [] (.c (.bool (Z8 x y))) []:=by
 have f1:=PI x hz
 have f2:=PI y hzy
 have f3:=S6 x y hz hzy
 unfold Z8
 generalize T0 x y=q at *
 cases h1:(dec x).1==0 with
 |false =>
  refine JI Tryz.func27 Tryz.ntmps27 ?_
  refine JV q9 ?_
  refine w7 (Ju [] f1) q9 ?_
  refine JV h1 ?_
  exact JW (Iu []) Tryz.results27
 |true =>
  cases h2:(dec y).1==0 with
  |false =>
   refine JI Tryz.func27 Tryz.ntmps27 ?_
   refine JV q9 ?_
   refine w7 (Ju [] f1) q9 ?_
   refine JV h1 ?_
   refine w7 (Ju [] f2) q9 ?_
   refine JV h2 ?_
   exact JW (Iu []) Tryz.results27
  |true =>
   refine JI Tryz.func27 Tryz.ntmps27 ?_
   refine JV q9 ?_
   refine w7 (Ju [] f1) q9 ?_
   refine JV h1 ?_
   refine w7 (Ju [] f2) q9 ?_
   refine JV h2 ?_
   refine w7 (Ju [] f3) q9 ?_
   (repeat (first | (with_reducible first | refine Ig ?_ | refine GH ?_ | refine FD ?_ | refine FF ?_) | ((with_reducible apply Hc);(iterate 2 (focus (first | (simp only[go_sem,Nat.reduceEqDiff,Nat.reduceAdd,Nat.reduceSub,Nat.reduceLeDiff,Nat.reduceMul,Nat.reduceBEq,Nat.reduceLT,Int.reduceToNat,reduceCtorEq,Bool.true_and];first | done | exact rfl | (and_intros<;>rfl)) | exact rfl | decide)))) | ((with_reducible refine Il ?_);dsimp only;try ((with_reducible apply Ha);(focus (simp only[go_sem];exact rfl));(focus decide))) | ((with_reducible first | refine Ie ?_ | refine GI ?_ | refine FE ?_);dsimp only) | ((with_reducible refine GG ?_);dsimp only;simp only[if_true,if_false,Nat.reduceEqDiff]) | ((with_reducible apply Jc);(focus (simp only[go_sem,Nat.reduceBEq,Nat.reduceLT,Bool.true_and];exact rfl));dsimp only[cond_true,cond_false]) | ((with_reducible refine GE ?_ ?_);(focus exact rfl))))
   exact JW (Iu []) Tryz.results27
theorem Yb {t:V}(h:t.right):Z8 t.enc t.enc=true:=by
 unfold Z8 T0
 rw[MK h]
 show ((0:Int)==0&&((0:Int)==0&&t.cmp t==0))=true
 rw[Vw.2 rfl]
 rfl
set_option maxRecDepth 10000
theorem a1f (bs:List Nat):AC Tryz.prog 12 [.c (.sl (bs.map Li))] [] (.c (.bool (decide ((bs.length:Int)>1048576)))) []:=by
 have hln:(bs.map Li).length=bs.length:=by simp
 refine JI Tryz.func12 Tryz.ntmps12 ?_
 refine JV hln ?_
 exact JW (Iu []) Tryz.results12
set_option maxRecDepth 10000
theorem a6m {t:V}(ht:t.right):AC Tryz.prog 27 [Iw t.enc,Iw t.enc] [] (.c (.bool true)) []:=by
 have:=Wa t.enc t.enc (LZ ht) (LZ ht)
 rw[Yb ht]at this
 exact this
end
section
open Go.RowKit
set_option maxRecDepth 10000
variable {o o1 o2:Obj}
abbrev teM (o o1 o2:Obj):Mem:=[((8,0),.blk (Ps o) []),((8,1),.gen (KV o1 o2))]
theorem S7 (s:ByteArray) {c:Int×Nat}{v:V}(h:Kw s=(c,some v)):AC Tryz.prog 25 [.c (.str s)] (MD o1 o2) (.agg [.c (.int .i64 0),.c (.int .i64 0),Iw v.enc]) (MD o1 o2):=by
 have h:=T5 (o1:=o1) (o2:=o2) s h
 exact wAS (AC.says [((8,1),(8,1))] [(0,0)] h) q9
end
section
open Go.RowKit
set_option maxRecDepth 10000
variable {o o1 o2:Obj}
theorem i8 {xs:List CellD}{n:Int}(h:(M0 xs n).1=0):(dec xs).1=0∧M0 xs n=(0,(SU xs).pre n.toNat 0):=by
 unfold M0 at h ⊢
 split
 ·rename_i h0
  rw[if_pos h0]at h
  exact absurd h h0
 ·rename_i h0
  rw[if_neg h0]at h
  split
  ·rename_i h1
   rw[if_pos h1]at h
   split
   ·rename_i h2
    rw[if_pos h2]at h
    exact absurd h (by decide)
   ·exact⟨by simpa using h0,rfl⟩
  ·rename_i h1
   rw[if_neg h1]at h
   exact absurd h (by decide)
theorem T2 (bs:List Nat) (hb:M2 bs):∃xs n,Lk xs∧xs.length≤250∧AC Tryz.prog 21 [.c (.sl (bs.map Li))] [] (.tup [Iw xs,.c (.int .i64 n)]) []:=by
 have s0:=Wn bs
 obtain⟨xs,a1,⟨g1,g2,g3,g4⟩,c1⟩:=ZM bs hb 0 (by omega)
 have n5:=Nt bs hb a1 [2,0,1,8,9,-1] (by simp) (by simp) (by omega)
 generalize N9 bs a1 [2,0,1,8,9,-1]=n at *
 refine⟨xs,n,g2,g1,?_⟩
 refine JI Tryz.func21 Tryz.ntmps21 ?_
 refine JV q9 ?_
 refine w12 (Kj [] s0) q9 ?_
 refine JV q9 ?_
 refine JO (Im [((0,0),(7,0))] [((0,0),(7,0)),((0,1),(9,0))] c1) q9 ?_
 refine JV q9 ?_
 refine KC (K6 [(12,0)] [((0,0),(7,0))] [((0,0),(7,0))] n5) q9 ?_
 refine JV q9 ?_
 exact JJ (JN [] [(9,0)]) Tryz.results21 g1
theorem Sa (s:ByteArray) (h:4000<s.size):AC Tryz.prog 17 [.c (.str s)] (teL o o1 o2) (.agg [.c (.int .i64 2),.c (.int .i64 0),.nils]) (teL o o1 o2):=by
 have g4:decide ((s.size:Int)>4000)=true:=decide_eq_true (by omega)
 refine JI Tryz.func17 Tryz.ntmps17 ?_
 refine JV g4 ?_
 exact JJ (JN [((8,0),(8,0)),((8,1),(8,1))] []) Tryz.results17 g4
theorem S9 (s:ByteArray) (hs:s.size≤1048576) {t:V}(h:ON s=((0,0),some t)):AC Tryz.prog 17 [.c (.str s)] (teL o o1 o2) (.agg [.c (.int .i64 0),.c (.int .i64 0),Iw t.enc]) (teL o o1 o2):=by
 have h1:=T6 (o:=o) (o1:=o1) (o2:=o2) s hs
 rw[h,WU,Uh]at h1
 exact wAS (AC.says [((8,0),(8,0)),((8,1),(8,1))] [(0,0)] h1) q9
def x8 (t:V) (big:Bool):AV:=if big then .agg [.c (.int .i64 2),.c (.int .i64 0),.nils] else .agg [.c (.int .i64 0),.c (.int .i64 0),Iw t.enc]
theorem VZ {t:V}(ht:t.right):AC Tryz.prog 17 [.c (.str (L4 (Ke t)))] (teL o o1 o2) (x8 t (decide (((L4 (Ke t)).size:Int)>4000))) (teL o o1 o2):=by
 have hu:=X3 ht
 by_cases h4:4000<(L4 (Ke t)).size
 ·rw[decide_eq_true (by omega)]
  exact Sa _ h4
 ·rw[decide_eq_false (by omega)]
  rw[if_neg h4]at hu
  exact S9 _ (by omega) hu
theorem Y1 {t:V}(ht:t.right) (d:Nat) (hz:(t.pre d 0).size≤60000):AC Tryz.prog 25 [.c (.str (t.pre d 0))] (MD o1 o2) (x8 t (decide (((t.pre d 0).size:Int)>4000))) (MD o1 o2):=by
 have hu:=Xj (d:=d) ht
 by_cases h4:4000<(t.pre d 0).size
 ·rw[decide_eq_true (by omega)]
  rw[if_pos h4]at hu
  exact S8 (o1:=o1) (o2:=o2) _ (by omega) hu
 ·rw[decide_eq_false (by omega)]
  rw[if_neg h4]at hu
  exact S7 _ hu
theorem UX (bs:List Nat) (hbb:∀b∈bs,b<256):AC Tryz.prog 6 [.c (.sl (bs.map Li))] (teL o o1 o2) (.c (.bool true)) (teL o o1 o2):=by
 have hbig:=a1f bs
 by_cases hl:bs.length≤1048576
 ·have hd:decide ((bs.length:Int)>1048576)=false:=decide_eq_false (by omega)
  rw[hd]at hbig
  obtain⟨xs,n,hxs,_,hdraw⟩:=T2 bs ⟨hl,hbb⟩
  have hP:=OW (o:=o) xs hxs n
  have h00:((0:Int) != 0)=false:=rfl
  have h0e:((0:Int)==0)=true:=rfl
  have h22:((2:Int)==2)=true:=rfl
  have h2n:((2:Int) != 2)=false:=rfl
  by_cases hc:(M0 xs n).1=0
  ·obtain⟨hd0,hpre⟩:=i8 hc
   have hpz:=Ud xs n
   have hZ:=Wb (o:=o) xs hxs n
   rw[hpre]at hP hZ hpz
   dsimp only at hP hZ hpz
   rcases Lx xs with⟨t,ht⟩ | ⟨c,hc',hdec⟩
   ·obtain⟨rfl,hr⟩:=Vd ht
    rw[Vl ht]at hP hZ hpz
    have hF:=W9 (o:=o) t.enc hxs ht hr
    have hU:=VZ (o:=o) (o1:=o1) (o2:=o2) hr
    have hD:=Y1 (o1:=o1) (o2:=o2) hr n.toNat hpz
    have hsame:=a6m hr
    generalize L4 (Ke t)=f at *
    generalize t.pre n.toNat 0=p at *
    have hpp:((p.size:Int) != (p.size:Int))=false:=by simp
    unfold x8 at hU hD
    cases g4:decide ((f.size:Int)>4000) with
    |true =>
     rw[g4,if_pos rfl]at hU
     cases g5:decide ((p.size:Int)>4000) with
     |true =>
      rw[g5,if_pos rfl]at hD
      refine JI Tryz.func6 Tryz.ntmps6 ?_
      refine JV q9 ?_
      refine w7 (Ju [] hbig) q9 ?_
      refine JV q9 ?_
      refine w9 (Ja [] hdraw) q9 ?_
      refine JV q9 ?_
      refine JO (Im [((8,0),(8,0))] [((8,0),(8,0))] hP) q9 ?_
      refine JV h00 ?_
      refine JO (Im [((8,0),(8,0))] [((8,0),(8,0))] hF) q9 ?_
      refine JV q9 ?_
      refine JO (Im [((8,0),(8,0)),((8,1),(8,1))] [((8,0),(8,0)),((8,1),(8,1))] hU) q9 ?_
      refine JV q9 ?_
      refine JO (Im [((8,1),(8,1))] [((8,1),(8,1))] hD) q9 ?_
      refine JV h00 ?_
      refine JO (Im [((8,0),(8,0))] [((8,0),(8,0))] hZ) q9 ?_
      refine JV (j6 hpp g4 g5 h22 h2n h00) ?_
      exact JJ (JN [((8,0),(8,0)),((8,1),(8,1))] []) Tryz.results6 h00
     |false =>
      rw[g5,if_neg (by decide)]at hD
      refine JI Tryz.func6 Tryz.ntmps6 ?_
      refine JV q9 ?_
      refine w7 (Ju [] hbig) q9 ?_
      refine JV q9 ?_
      refine w9 (Ja [] hdraw) q9 ?_
      refine JV q9 ?_
      refine JO (Im [((8,0),(8,0))] [((8,0),(8,0))] hP) q9 ?_
      refine JV h00 ?_
      refine JO (Im [((8,0),(8,0))] [((8,0),(8,0))] hF) q9 ?_
      refine JV q9 ?_
      refine JO (Im [((8,0),(8,0)),((8,1),(8,1))] [((8,0),(8,0)),((8,1),(8,1))] hU) q9 ?_
      refine JV q9 ?_
      refine KC (K6 [] [((8,1),(8,1))] [((8,1),(8,1))] hD) q9 ?_
      refine JV h00 ?_
      refine JO (Im [((8,0),(8,0))] [((8,0),(8,0))] hZ) q9 ?_
      refine JV (j7 hpp g4 g5 h22 h2n h00 h0e) ?_
      refine w7 (Ju [] hsame) q9 ?_
      refine JV (j2 h00 h0e) ?_
      exact JJ (JN [((8,0),(8,0)),((8,1),(8,1))] []) Tryz.results6 h00
    |false =>
     rw[g4,if_neg (by decide)]at hU
     cases g5:decide ((p.size:Int)>4000) with
     |true =>
      rw[g5,if_pos rfl]at hD
      refine JI Tryz.func6 Tryz.ntmps6 ?_
      refine JV q9 ?_
      refine w7 (Ju [] hbig) q9 ?_
      refine JV q9 ?_
      refine w9 (Ja [] hdraw) q9 ?_
      refine JV q9 ?_
      refine JO (Im [((8,0),(8,0))] [((8,0),(8,0))] hP) q9 ?_
      refine JV h00 ?_
      refine JO (Im [((8,0),(8,0))] [((8,0),(8,0))] hF) q9 ?_
      refine JV q9 ?_
      refine KC (K6 [] [((8,0),(8,0)),((8,1),(8,1))] [((8,0),(8,0)),((8,1),(8,1))] hU) q9 ?_
      refine JV q9 ?_
      refine JO (Im [((8,1),(8,1))] [((8,1),(8,1))] hD) q9 ?_
      refine JV h00 ?_
      refine JO (Im [((8,0),(8,0))] [((8,0),(8,0))] hZ) q9 ?_
      refine JV (j7 hpp g4 g5 h22 h2n h00 h0e) ?_
      refine w7 (Ju [] hsame) q9 ?_
      refine JV (j4 h00 h0e g5 h22) ?_
      exact JJ (JN [((8,0),(8,0)),((8,1),(8,1))] []) Tryz.results6 h00
     |false =>
      rw[g5,if_neg (by decide)]at hD
      refine JI Tryz.func6 Tryz.ntmps6 ?_
      refine JV q9 ?_
      refine w7 (Ju [] hbig) q9 ?_
      refine JV q9 ?_
      refine w9 (Ja [] hdraw) q9 ?_
      refine JV q9 ?_
      refine JO (Im [((8,0),(8,0))] [((8,0),(8,0))] hP) q9 ?_
      refine JV h00 ?_
      refine JO (Im [((8,0),(8,0))] [((8,0),(8,0))] hF) q9 ?_
      refine JV q9 ?_
      refine KC (K6 [] [((8,0),(8,0)),((8,1),(8,1))] [((8,0),(8,0)),((8,1),(8,1))] hU) q9 ?_
      refine JV q9 ?_
      refine KC (K6 [] [((8,1),(8,1))] [((8,1),(8,1))] hD) q9 ?_
      refine JV h00 ?_
      refine JO (Im [((8,0),(8,0))] [((8,0),(8,0))] hZ) q9 ?_
      refine JV (j7 hpp g4 g5 h22 h2n h00 h0e) ?_
      refine w7 (Ju [] hsame) q9 ?_
      refine JV (j4 h00 h0e g5 h22) ?_
      refine w7 (Ju [] hsame) q9 ?_
      refine JV q9 ?_
      exact JJ (JN [((8,0),(8,0)),((8,1),(8,1))] []) Tryz.results6 h00
   ·exact absurd (by rw[hdec]at hd0;exact hd0) hc'
  ·have hS:=Th xs n
   have hb0:((M0 xs n).1 != 0)=true:=by simpa using hc
   have hee:((M0 xs n).1==(M0 xs n).1)=true:=by simp
   generalize (M0 xs n).1=c at *
   generalize (M0 xs n).2=p at *
   refine JI Tryz.func6 Tryz.ntmps6 ?_
   refine JV q9 ?_
   refine w7 (Ju [] hbig) q9 ?_
   refine JV q9 ?_
   refine w9 (Ja [] hdraw) q9 ?_
   refine JV q9 ?_
   refine JO (Im [((8,0),(8,0))] [((8,0),(8,0))] hP) q9 ?_
   refine JV hb0 ?_
   refine w7 (Ju [] hS) q9 ?_
   refine JV hee ?_
   exact JJ (JN [((8,0),(8,0)),((8,1),(8,1))] []) Tryz.results6 hb0
 ·have hd:decide ((bs.length:Int)>1048576)=true:=decide_eq_true (by omega)
  rw[hd]at hbig
  refine JI Tryz.func6 Tryz.ntmps6 ?_
  refine JV q9 ?_
  refine w7 (Ju [] hbig) q9 ?_
  refine JV q9 ?_
  exact JJ (JN [((8,0),(8,0)),((8,1),(8,1))] []) Tryz.results6 hd
end
section
open Go.ChangeShapes Go.WideShapes Go.ChangeAt Go.RowKit Go.Deep
section
variable {H:Type} {enc:TypeId×Value→H} {P:Program} {w:World} {base:Nat} {spare:Nat→Bool} {held:Bool}
theorem M8 {t e:TypeId}{fs:Array Field}{fuel:Nat}{cs:List Value}{x:DataW H×List MemPlace}(ht:P.underlying t=some (.slice e)) (he:P.underlying e=some (.struct fs))
  (hone:oneCellFields P fs=true) (hC:P.cellsOf e=fs.size) (h:DataW.trod enc P w base spare held fuel t cs=some x) :
  (cs=[.slice none 0 0]∧x=(.nil,[])) ∨
  ∃(a:Addr) (len cap m:Nat) (D:Nat→DataW H) (Pl:Nat→List MemPlace),cs=[.slice (some a) len cap]∧base≤a.block∧len≤cap∧cap≤maxLen∧m=(if spare a.block then cap else len) ∧
   x=(.slice ((List.range len).map D) ((List.range (m-len)).map fun j=>D (len+j)),MemPlace.row a (m*fs.size)++(List.range m).flatMap Pl) ∧
   ∀i,i<m→∃(ys:List (DataW H×List MemPlace)) (n:Nat),D i=.agg (ys.map (·.1))∧Pl i=ys.flatMap (·.2)∧ys.length=fs.size ∧
    ∀(j:Nat) (f:Field),fs[j]? = some f→∃(v:Value) (y:DataW H×List MemPlace),w.cell? (a.add (i*fs.size+j))=some v∧ys[j]? = some y∧DataW.trod enc P w base spare held n f.type [v]=some y:=by
 rcases open_slice ht h with h0 | ⟨a,len,cap,m,n,D,Pl,hcs,hb,hl,hm,hmm,hx,hi⟩
 ·exact .inl h0
 ·refine .inr ⟨a,len,cap,m,D,Pl,hcs,hb,hl,hm,hmm,by rw[hC]at hx;exact hx,fun i him=>?_⟩
  obtain⟨cs',hc,ht'⟩:=hi i him
  rw[hC]at hc
  obtain⟨ys,n',hn',hy,hlen,hyl,hf⟩:=DataW.trod_struct he ht'
  obtain⟨_,hcl,hat⟩:=World.cells?_some hc
  simp only[Prod.mk.injEq]at hy
  refine⟨ys,n',hy.1,hy.2,hyl,fun j f hj=>?_⟩
  obtain⟨ho,hk⟩:=hone_of hone j f hj
  have hjl:j<fs.size:=(Array.getElem?_eq_some_iff.1 hj).1
  have hcell:=hat j hjl
  have hv:cs'[j]? = some (cs'[j]'(by omega)):=List.getElem?_eq_getElem (by omega)
  have h1:=hf j f hj
  rw[ho,hk]at h1
  have hone':(cs'.drop j).take 1=[cs'[j]'(by omega)]:=by
   rw[List.drop_eq_getElem_cons (by omega)]
   rfl
  rw[hone']at h1
  have hys:ys[j]? = some (ys[j]'(by omega)):=List.getElem?_eq_getElem (by omega)
  refine⟨_,_,?_,hys,h1.trans hys⟩
  rw[←Go.Deep.add_add,hcell,hv]
theorem Rm {α:Type}{p:Nat→α→Prop}:∀(n:Nat),(∀i,i<n→∃c,p i c)→∃xs:List α,xs.length=n∧∀i (h:i<xs.length),p i xs[i]
 | 0,_=>⟨[],rfl,fun i h=>absurd h (by simp)⟩
 |n+1,h=>by
  obtain⟨xs,hl,hx⟩:=Rm n (fun i hi=>h i (by omega))
  obtain⟨c,hc⟩:=h n (by omega)
  refine⟨xs++[c],by simp[hl],fun i hi=>?_⟩
  by_cases hlt:i<xs.length
  ·rw[List.getElem_append_left hlt];exact hx i hlt
  ·have:i=xs.length:=by simp at hi;omega
   subst this
   rw[List.getElem_append_right (Nat.le_refl _)]
   simp
   rw[hl]
   exact hc
theorem Sz {t e tI tS:TypeId}{n0 n1 n2 n3 n4:Field}{fuel len cap:Nat}{A:Option Addr}{x:DataW H×List MemPlace}(ht:P.underlying t=some (.slice e)) (he:P.underlying e=some (.struct #[n0,n1,n2,n3,n4]))
  (hone:oneCellFields P #[n0,n1,n2,n3,n4]=true) (hC:P.cellsOf e=5) (h0:n0.type=tI) (h1:n1.type=tI) (h2:n2.type=tS) (h3:n3.type=tS) (h4:n4.type=tI)
  (hI:P.underlying tI=some (.int .i64)) (hS:P.underlying tS=some .string)
  (h:DataW.trod enc P w base spare held fuel t [.slice A len cap]=some x) :
  ∃xs:List CellD,xs.length=len∧len≤9223372036854775807∧len≤cap∧(∀c∈xs,c.text.size≤9223372036854775807∧c.key.size≤9223372036854775807)∧AL w (fun b=>b<w.heap.size) A xs:=by
 rcases M8 ht he hone hC h with⟨hcs,_⟩ | ⟨a,len',cap',m,D,Pl,hcs,_,hl,hm,hmm,_,hi⟩
 ·simp only[List.cons.injEq,Value.slice.injEq,and_true]at hcs
  obtain⟨rfl,rfl,rfl⟩:=hcs
  exact⟨[],rfl,by omega,by omega,by simp,AL.nil⟩
 ·simp only[List.cons.injEq,Value.slice.injEq,and_true]at hcs
  obtain⟨rfl,rfl,rfl⟩:=hcs
  have hlm:len≤m:=by rw[hmm];split<;>omega
  have hmx:maxLen=9223372036854775807:=rfl
  obtain⟨xs,hxl,hx⟩:=Rm (p:=fun i (c:CellD)=>(c.text.size≤9223372036854775807∧c.key.size≤9223372036854775807)∧∀j u,(Bh c)[j]? = some u→w.cell? (a.add (i*5+j))=some u) len (fun i hil=>by
   obtain⟨ys,n,_,_,_,hf⟩:=hi i (by omega)
   obtain⟨v0,y0,c0,_,t0⟩:=hf 0 n0 rfl
   obtain⟨v1,y1,c1,_,t1⟩:=hf 1 n1 rfl
   obtain⟨v2,y2,c2,_,t2⟩:=hf 2 n2 rfl
   obtain⟨v3,y3,c3,_,t3⟩:=hf 3 n3 rfl
   obtain⟨v4,y4,c4,_,t4⟩:=hf 4 n4 rfl
   rw[h0]at t0;rw[h1]at t1;rw[h2]at t2;rw[h3]at t3;rw[h4]at t4
   obtain⟨k,e0,_⟩:=DataW.trod_int hI t0
   obtain⟨q,e1,_⟩:=DataW.trod_int hI t1
   obtain⟨s,e2,_,z2⟩:=DataW.trod_string hS t2
   obtain⟨y,e3,_,z3⟩:=DataW.trod_string hS t3
   obtain⟨nn,e4,_⟩:=DataW.trod_int hI t4
   simp only[List.cons.injEq,and_true]at e0 e1 e2 e3 e4
   subst e0 e1 e2 e3 e4
   refine⟨⟨k,q,s,y,nn⟩,⟨by show s.size≤_;omega,by show y.size≤_;omega⟩,fun j u hu=>?_⟩
   simp only[Bh]at hu
   match j with
   | 0=>simp only[List.getElem?_cons_zero,Option.some.injEq]at hu;subst hu;exact c0
   | 1=>simp only[List.getElem?_cons_succ,List.getElem?_cons_zero,Option.some.injEq]at hu;subst hu;exact c1
   | 2=>simp only[List.getElem?_cons_succ,List.getElem?_cons_zero,Option.some.injEq]at hu;subst hu;exact c2
   | 3=>simp only[List.getElem?_cons_succ,List.getElem?_cons_zero,Option.some.injEq]at hu;subst hu;exact c3
   | 4=>simp only[List.getElem?_cons_succ,List.getElem?_cons_zero,Option.some.injEq]at hu;subst hu;exact c4
   |j+5=>simp at hu)
  refine⟨xs,hxl,by omega,hl,fun c hc=>?_,fun x hx'=>?_,fun hn=>?_⟩
  ·obtain⟨i,hi',rfl⟩:=List.getElem_of_mem hc
   exact (hx i hi').1
  ·simp only[List.mem_map]at hx'
   obtain⟨c,_,rfl⟩:=hx'
   rfl
  ·simp only[List.length_map]at hn
   have hfirst:=(hx 0 hn).2 0 _ rfl
   simp only[Nat.zero_mul,Nat.zero_add]at hfirst
   have hadd0:a.add 0=a:=by unfold Addr.add;simp
   rw[hadd0]at hfirst
   obtain⟨ab,ao,asp⟩:=a
   have hsp:asp=none:=by
    unfold World.cell? at hfirst
    simp only at hfirst
    split at hfirst
    ·split at hfirst
     ·simp at hfirst
     ·rename_i hns;simpa using hns
    ·simp at hfirst
   subst hsp
   refine⟨ab,ao,rfl,World.block_lt_of_cell? w _ hfirst,World.block_lt_of_cell? w _ hfirst,fun i x hxi j u hu=>?_⟩
   simp only[List.getElem?_map]at hxi
   by_cases hil:i<xs.length
   ·rw[List.getElem?_eq_getElem hil]at hxi
    simp only[Option.map_some,Option.some.injEq]at hxi
    subst hxi
    have:=(hx i hil).2 j u hu
    have hadd:(⟨ab,ao,none⟩:Addr).add (i*5+j)=⟨ab,ao+i*5+j,none⟩:=by
     unfold Addr.add
     split
     ·rename_i h0;(have hi0:i=0:=by omega);subst hi0;simp
     ·simp[Nat.add_assoc]
    rw[hadd]at this
    exact this
   ·rw[List.getElem?_eq_none (by omega)]at hxi
    simp at hxi
end
end
section
open Go.ChangeShapes Go.WideShapes Go.ChangeAt Go.RowKit Go.Deep
theorem Tryz.own:ownKnob Tryz.prog.godebug=none:=by kernel_rfl
theorem Tryz.laidOut:laidOutB Tryz.prog=true:=by kernel_rfl
end
section
open Go.ChangeShapes Go.WideShapes Go.ChangeAt Go.RowKit Go.Deep
def a0d:DataW Unit→Array Value
 | .agg l=>(l.map fun | .lit (.int k z)=>Value.int k z | _=>.bool false).toArray
 |_=>#[]
def a5j (d:DataW Unit):Obj→Obj
 | .cells _ t fz=>.cells (a0d d) t fz
 |o=>o
theorem TF : Tryz.prog.globalNamed "internal/strconv.uint64pow10" = some 1 := by kernel_rfl
theorem a6p:(Tryz.prog.globals[1]?).map (·.type)=some 290:=by kernel_rfl
theorem a6i:(Rows.laid_internal_strconv_uint64pow10:DataW Unit)=Lib.tabData .u64 Lib.pow10Tab:=by kernel_rfl
mutual
def C.offT:C→Bool
 | .int k _=>k != .u64
 | .bool _=>true
 | .str _=>true
 | .sl rows=>NN rows
 |_=>false
def PQ:List C→Bool
 | []=>true
 |c::cs=>c.offT&&PQ cs
def NN:List (List C)→Bool
 | []=>true
 |r::rs=>!r.isEmpty&&PQ r&&NN rs
end
section
variable {w:World} {S:Nat→Prop} {g:Nat}
theorem CR.noT {x:C}{v:Value}{bs:List Nat}(hx:x.offT=true) (h:CR w S x v bs):∀z,v≠.int .u64 z:=by
 rintro z rfl
 cases x<;>simp only[CR]at h<;>simp[C.offT]at hx
 case int k n=>obtain⟨h,_⟩:=h;injection h with h1 _;exact hx h1.symm
 case bool=>exact absurd h.1 (by simp)
 case str=>exact absurd h.1 (by simp)
 case sl=>obtain⟨es,A,cap,vrows,h1,_⟩:=h;cases h1
theorem s8 (hg : Tryz.prog.globalNamed "internal/strconv.uint64pow10" = some g) (ht : Lib.TabIs Tryz.prog w "internal/strconv.uint64pow10" .u64 Lib.pow10Tab) {j : Nat} {u : Value} (h : w.cell? ⟨g, j, none⟩ = some u) : ∃ z, u = .int .u64 z := by
 unfold Lib.TabIs at ht
 have h1:=World.var?_cell hg ht j
 rw[h]at h1
 rw[List.getElem?_toArray,List.getElem?_map]at h1
 cases hq:Lib.pow10Tab[j]? with
 |none=>rw[hq]at h1;cases h1
 |some z=>rw[hq]at h1;simp at h1;exact⟨_,h1⟩
theorem Row.off (hg : Tryz.prog.globalNamed "internal/strconv.uint64pow10" = some g) (ht : Lib.TabIs Tryz.prog w "internal/strconv.uint64pow10" .u64 Lib.pow10Tab) {es : Nat} {A : Option Addr} {xs : List (List Value)} (h : Row w S es A xs)
  (h0:0<xs.length→∃u r,xs[0]? = some (u::r)∧∀z,u≠.int .u64 z):Row w (fun b=>S b∧b≠g) es A xs:=by
 refine⟨h.1,fun hn=>?_⟩
 obtain⟨b,off,hA,hS,hb,hc⟩:=h.2 hn
 refine⟨b,off,hA,⟨hS,?_⟩,hb,hc⟩
 rintro rfl
 obtain⟨u,r,h1,h2⟩:=h0 hn
 have:=hc 0 _ h1 0 u rfl
 obtain⟨z,hz⟩:=s8 hg ht this
 exact h2 z hz
mutual
theorem CR.off (hg : Tryz.prog.globalNamed "internal/strconv.uint64pow10" = some g) (ht : Lib.TabIs Tryz.prog w "internal/strconv.uint64pow10" .u64 Lib.pow10Tab) : ∀ {x : C} {v : Value} {bs : List Nat}, x.offT = true → CR w S x v bs → CR w (fun b => S b ∧ b ≠ g) x v bs
 | .int _ _,_,_,_,h=>h
 | .bool _,_,_,_,h=>h
 | .str _,_,_,_,h=>h
 | .raw _,_,_,hx,_=>by simp[C.offT]at hx
 | .osl _,_,_,hx,_=>by simp[C.offT]at hx
 | .ref _,_,_,hx,_=>by simp[C.offT]at hx
 | .oref _,_,_,hx,_=>by simp[C.offT]at hx
 | .sl rows,v,bs,hx,h=>by
  simp only[CR]at h ⊢
  simp only[C.offT]at hx
  obtain⟨es,A,cap,vrows,h1,h2,h3,h4,h5,h6⟩:=h
  refine⟨es,A,cap,vrows,h1,h2,h3,Row.off hg ht h4 fun hn=>?_,A0.off hg ht hx h5,h6⟩
  cases rows with
  |nil=>simp only[A0]at h5;rw[h5.1]at hn;simp at hn
  |cons r rs =>
   simp only[NN,Bool.and_eq_true]at hx
   cases r with
   |nil=>simp at hx
   |cons c cs =>
    simp only[A0,CRs]at h5
    obtain⟨vr,vs',b1,b2,rfl,_,⟨u,us,c1,c2,rfl,_,hu,_⟩,_⟩:=h5
    simp only[PQ,Bool.and_eq_true]at hx
    exact⟨u,us,rfl,CR.noT hx.1.2.1 hu⟩
theorem CRs.off (hg : Tryz.prog.globalNamed "internal/strconv.uint64pow10" = some g) (ht : Lib.TabIs Tryz.prog w "internal/strconv.uint64pow10" .u64 Lib.pow10Tab) : ∀ {x : List C} {v : List Value} {bs : List Nat}, PQ x = true → CRs w S x v bs → CRs w (fun b => S b ∧ b ≠ g) x v bs
 | [],_,_,_,h=>h
 |c::cs,v,bs,hx,h=>by
  simp only[CRs]at h ⊢
  simp only[PQ,Bool.and_eq_true]at hx
  obtain⟨u,vs',b1,b2,h1,h2,h3,h4⟩:=h
  exact⟨u,vs',b1,b2,h1,h2,CR.off hg ht hx.1 h3,CRs.off hg ht hx.2 h4⟩
theorem A0.off (hg : Tryz.prog.globalNamed "internal/strconv.uint64pow10" = some g) (ht : Lib.TabIs Tryz.prog w "internal/strconv.uint64pow10" .u64 Lib.pow10Tab) : ∀ {x : List (List C)} {v : List (List Value)} {bs : List Nat}, NN x = true → A0 w S x v bs → A0 w (fun b => S b ∧ b ≠ g) x v bs
 | [],_,_,_,h=>h
 |c::cs,v,bs,hx,h=>by
  simp only[A0]at h ⊢
  simp only[NN,Bool.and_eq_true]at hx
  obtain⟨u,vs',b1,b2,h1,h2,h3,h4⟩:=h
  exact⟨u,vs',b1,b2,h1,h2,CRs.off hg ht hx.1.2 h3,A0.off hg ht hx.2 h4⟩
end
end
theorem i6 {w : World} (ht : Lib.TabIs Tryz.prog w "internal/strconv.uint64pow10" .u64 Lib.pow10Tab) : ∃ o, w.heap[1]? = some o := by
 unfold Lib.TabIs World.var? at ht
 rw[TF]at ht
 simp only[Option.bind_some]at ht
 cases ho:w.heap[1]? with
 |none=>rw[ho]at ht;cases ht
 |some o=>exact⟨o,rfl⟩
end
section
open Go.ChangeShapes Go.WideShapes Go.ChangeAt Go.RowKit Go.Deep
def a6j (n:Nat):Obj→Obj
 | .cells _ t fz=>.cells #[.iface 363 (.pointer (some ⟨n,0,none⟩))] t fz
 |o=>o
def a5w:ByteArray:=⟨#[118,97,108,117,101,32,111,117,116,32,111,102,32,114,97,110,103,101]⟩
def a4o:ByteArray:=⟨#[105,110,118,97,108,105,100,32,115,121,110,116,97,120]⟩
noncomputable def a6c:Nat:=(World.holding Tryz.prog default ⟨#[],#[],[]⟩).heap.size
theorem a0x : Tryz.prog.globalNamed "strconv.ErrRange" = some 7 := by kernel_rfl
theorem a0y : Tryz.prog.globalNamed "strconv.ErrSyntax" = some 6 := by kernel_rfl
theorem a6q:(Tryz.prog.globals[7]?).map (·.type)=some 62:=by kernel_rfl
theorem a6r:(Tryz.prog.globals[6]?).map (·.type)=some 62:=by kernel_rfl
theorem a4y : "*" ++ "errors.errorString" = "*errors.errorString" := by decide
theorem a6l (u : TypeId) (h : Tryz.prog.typeName? 3 u = some "*errors.errorString") : u = 363 :=
 typeName_ptr_named (nm := "errors.errorString") (by rw [a4y]; kernel_rfl) (by kernel_rfl) (by decide) u (by rw [a4y]; exact h)
theorem a6v:∃ms,Tryz.prog.underlying 62=some (.interface ms):=⟨_,Tryz.underlying62⟩
theorem a6k:Tryz.prog.underlying 363=some (.pointer 365):=Tryz.underlying363
theorem a6x:∃f:Field,Tryz.prog.underlying 365=some (.struct #[f])∧f.type=9∧f.offset=0:=⟨_,Tryz.underlying365,rfl,rfl⟩
theorem c1E:Tryz.prog.cellsOf 365=1:=by kernel_rfl
theorem c2E:Tryz.prog.cellsOf 9=1:=by kernel_rfl
theorem YJ {W:World}{n:String}{g:Nat}(hg:Tryz.prog.globalNamed n=some g) (h:∃tp p,W.var? Tryz.prog n=some #[.iface tp p]):∃o,W.heap[g]? = some o∧W7 o:=by
 obtain⟨tp,p,h⟩:=h
 unfold World.var? at h
 rw[hg]at h
 simp only[Option.bind_some]at h
 cases ho:W.heap[g]? with
 |none=>rw[ho]at h;cases h
 |some o =>
  rw[ho]at h
  cases o with
  |cells cs t fz =>
   simp only[Option.some.injEq]at h
   subst h
   refine⟨_,rfl,fun w b hb=>⟨.iface tp p,?_,.inr ⟨tp,p,rfl⟩⟩⟩
   unfold World.cell?
   simp[hb]
  |_=>cases h
end
end Go.Proofs.YtllfmaflodbieaaGreatDoor
