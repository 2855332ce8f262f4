/- Texts of this proof: G80 G81. -/
import Derived.Test.YtlciedpfjhkkdaaGreatDoorKD02uE34
import Derived.Test.YtlciedpfjhkkdaaGreatDoorKG22uG9
set_option linter.all false
set_option maxHeartbeats 8000000
namespace Go.Proofs.YtlciedpfjhkkdaaGreatDoor
open Go.RowKit
set_option maxRecDepth 10000
abbrev srcO (bs:List Nat) (a:Nat):AO:=.box [.c (.sl (bs.map byteCs)),.c (.int .i64 (a:Int))]
abbrev srcM (bs:List Nat) (a:Nat):Mem:=[((0,0),srcO bs a)]
def BytesOk (bs:List Nat):Prop:=bs.length≤1048576∧∀b∈bs,b<256
theorem l1Source_ac (bs:List Nat):AC Tryz.prog 45 [.c (.sl (bs.map byteCs))] [] (.ptr (0,0) 0) (srcM bs 0):=by
 have h0:((0:Nat):Int)=0:=rfl
 refine wEnter Tryz.func45 Tryz.ntmps45 ?_
 refine wRUN trivial ?_
 exact wRetOf (ret_of [((0,0),(5,0))] []) Tryz.results45 h0
theorem wrapN {x:Int}{n:Nat}(h:x=(n:Int)) (hn:n<9000000000000000000):IntKind.i64.wrap x=(n:Int):=by
 rw[IntWalk.i64_in _ (by omega)];exact h
theorem tmodN (a b:Nat):Int.tmod (a:Int) (b:Int)=((a % b:Nat):Int):=rfl
theorem tdivN (a b:Nat):Int.tdiv (a:Int) (b:Int)=((a / b:Nat):Int):=rfl
theorem bytes_at {bs:List Nat}(h:BytesOk bs) {i:Nat}(hi:i<bs.length):∃u:Nat,rowsAt (bs.map byteCs) 1 ((i:Nat):Int)=true∧(bs.map byteCs)[i]? = some [.int .u8 (u:Int)]∧bs.getD i 0=u∧u<256:=by
 refine⟨bs[i],by simp[rowsAt,hi,byteCs],by simp[hi,byteCs],by rw[List.getD_eq_getElem?_getD,List.getElem?_eq_getElem hi,Option.getD_some],h.2 _ (List.getElem_mem hi)⟩
theorem l1Next_ac (bs:List Nat) (hb:BytesOk bs) (a n:Nat) (ha:a≤1000000) (hn:n≤1000000):AC Tryz.prog 86 [.ptr (0,0) 0,.c (.int .i64 (n:Int))] (srcM bs a) (.c (.int .i64 (nextN bs a n))) (srcM bs (a+1)):=by
 have hw1:=wrap_succ (k:=a) (by omega)
 have hs1:IntKind.i64.wrap (((a+1:Nat):Int)-1)=(a:Int):=wrapN (by omega) (by omega)
 have hln:(bs.map byteCs).length=bs.length:=by simp
 unfold nextN
 by_cases h1:n<1
 ·rw[if_pos h1]
  have hd:decide ((n:Int)<1)=true:=decide_eq_true (by omega)
  have h0:((0:Nat):Int)=0:=rfl
  refine wEnter Tryz.func86 Tryz.ntmps86 ?_
  refine wRUN (j2 hw1 hd) ?_
  exact wRetOf (ret_of [((0,0),(0,0))] []) Tryz.results86 h0
 ·rw[if_neg h1]
  have hd:decide ((n:Int)<1)=false:=decide_eq_false (by omega)
  have hn0:((n:Int)=0)=False:=by simp;omega
  by_cases h2:bs=[]
  ·rw[if_pos h2]
   have hk:((bs.length:Int)==0)=true:=by rw[h2];rfl
   have hm:IntKind.i64.wrap ((a:Int)*7)=((a*7:Nat):Int):=wrapN (by omega) (by omega)
   have ht:=tmodN (a*7) n
   generalize hx:a*7 % n=x at *
   refine wEnter Tryz.func86 Tryz.ntmps86 ?_
   refine wRUN (j8 hw1 hd hs1 hln hk hm hn0 ht) ?_
   exact wRetOf (ret_of [((0,0),(0,0))] []) Tryz.results86 hx
  ·rw[if_neg h2]
   have hlp:0<bs.length:=List.length_pos_iff.2 h2
   have hk:((bs.length:Int)==0)=false:=by simp;exact h2
   have hk0:((bs.length:Int)=0)=False:=by simp;exact h2
   obtain⟨u,r1,g1,d1,b1⟩:=bytes_at hb (Nat.mod_lt a hlp)
   obtain⟨v,r2,g2,d2,b2⟩:=bytes_at hb (Nat.mod_lt (a+1) hlp)
   have t1:=tmodN a bs.length
   have t2:=tmodN (a+1) bs.length
   have q1:=tdivN a bs.length
   have q2:IntKind.i64.wrap (((a / bs.length:Nat):Int))=((a / bs.length:Nat):Int):=wrapN rfl (by have:=Nat.div_le_self a bs.length;omega)
   have hq:=Nat.div_le_self a bs.length
   rw[d1,d2]
   generalize a / bs.length=e at *
   generalize a % bs.length=i1 at *
   generalize (a+1) % bs.length=i2 at *
   have c1:IntKind.i64.wrap (u:Int)=(u:Int):=wrapN rfl (by omega)
   have c2:IntKind.i64.wrap (v:Int)=(v:Int):=wrapN rfl (by omega)
   have m1:IntKind.i64.wrap ((e:Int)*37)=((e*37:Nat):Int):=wrapN (by omega) (by omega)
   have p1:IntKind.i64.wrap ((u:Int)+((e*37:Nat):Int))=((u+e*37:Nat):Int):=wrapN (by omega) (by omega)
   by_cases h3:n≤200
   ·rw[if_pos h3]
    have hg:decide ((n:Int)>200)=false:=decide_eq_false (by omega)
    have ht:=tmodN (u+e*37) n
    generalize u+e*37=y at *
    generalize hx:y % n=x at *
    refine wEnter Tryz.func86 Tryz.ntmps86 ?_
    refine wRUN (j2 (j12 hw1 hd hs1 hln hk hk0 t1 r1 g1 c1 q1 q2) (j5 m1 p1 hg hn0 ht)) ?_
    exact wRetOf (ret_of [((0,0),(0,0))] []) Tryz.results86 hx
   ·rw[if_neg h3]
    have hg:decide ((n:Int)>200)=true:=decide_eq_true (by omega)
    have m2:IntKind.i64.wrap (((u+e*37:Nat):Int)*251)=(((u+e*37)*251:Nat):Int):=wrapN (by omega) (by omega)
    have m3:IntKind.i64.wrap ((v:Int)*13)=((v*13:Nat):Int):=wrapN (by omega) (by omega)
    have p2:IntKind.i64.wrap ((((u+e*37)*251:Nat):Int)+((v*13:Nat):Int))=(((u+e*37)*251+v*13:Nat):Int):=wrapN (by omega) (by omega)
    have p3:IntKind.i64.wrap ((((u+e*37)*251+v*13:Nat):Int)+(a:Int))=(((u+e*37)*251+v*13+a:Nat):Int):=wrapN (by omega) (by omega)
    have ht:=tmodN ((u+e*37)*251+v*13+a) n
    generalize hx:((u+e*37)*251+v*13+a) % n=x at *
    refine wEnter Tryz.func86 Tryz.ntmps86 ?_
    refine wRUN (j2 (j12 hw1 hd hs1 hln hk hk0 t1 r1 g1 c1 q1 q2) (j2 (j12 m1 p1 hg t2 r2 g2 c2 m2 m3 p2 p3 hn0) ht)) ?_
    exact wRetOf (ret_of [((0,0),(0,0))] []) Tryz.results86 hx
theorem l1Chance_ac (bs:List Nat) (hb:BytesOk bs) (a n:Nat) (ha:a≤1000000) (hn:n≤1000000):AC Tryz.prog 127 [.ptr (0,0) 0,.c (.int .i64 (n:Int))] (srcM bs a) (.c (.bool (nextN bs a n==0))) (srcM bs (a+1)):=by
 have hc:=l1Next_ac bs hb a n ha hn
 have he:(((nextN bs a n:Nat):Int)==0)=(nextN bs a n==0):=by
  rw[Bool.eq_iff_iff];simp
 generalize nextN bs a n=x at *
 refine wEnter Tryz.func127 Tryz.ntmps127 ?_
 refine wRUN trivial ?_
 refine wCall (op_any_call [((0,0),(0,0))] [((0,0),(0,0))] hc) trivial ?_
 refine wRUN he ?_
 exact wRetOf (ret_of [((0,0),(0,0))] []) Tryz.results127 he
theorem row_nums {l:List Int}{i:Nat}(h:i<l.length):rowsAt (l.map intCs) 1 ((i:Nat):Int)=true∧(l.map intCs)[i]? = some [.int .i64 l[i]]:=⟨by simp[rowsAt,h,intCs],by simp[h,intCs]⟩
theorem l1Pick_ac (bs:List Nat) (hb:BytesOk bs) (a:Nat) (l:List Int) (hl:l≠[]) (hll:l.length≤1000) (ha:a≤1000000):AC Tryz.prog 87 [.ptr (0,0) 0,.c (.sl (l.map intCs))] (srcM bs a) (.c (.int .i64 (pickN bs a l))) (srcM bs (a+1)):=by
 have hc:=l1Next_ac bs hb a l.length ha (by omega)
 have hln:(l.map intCs).length=l.length:=by simp
 have hlt:=nextN_lt bs a (List.length_pos_iff.2 hl)
 have hp:pickN bs a l=l[nextN bs a l.length]:=by
  unfold pickN
  rw[List.getD_eq_getElem?_getD,List.getElem?_eq_getElem hlt,Option.getD_some]
 rw[hp]
 obtain⟨hr0,hg0⟩:=row_nums hlt
 generalize hx:l[nextN bs a l.length]=x at *
 generalize nextN bs a l.length=i at *
 refine wEnter Tryz.func87 Tryz.ntmps87 ?_
 refine wRUN hln ?_
 refine wCall (op_any_call [((0,0),(0,0))] [((0,0),(0,0))] hc) trivial ?_
 refine wRUN (j2 hr0 hg0) ?_
 exact wRetOf (ret_of [((0,0),(0,0))] []) Tryz.results87 hx
theorem row_strs8 {L:List ByteArray}{i:Nat}(h:i<L.length):rowsAt (L.map strCs) 1 ((i:Nat):Int)=true∧(L.map strCs)[i]? = some [.str L[i]]:=by
 exact⟨by simp[rowsAt,h,strCs],by simp[h,strCs]⟩
theorem l1Word_ac (bs:List Nat) (hb:BytesOk bs) (a:Nat) (ha:a≤1000000):AC Tryz.prog 148 [.ptr (0,0) 0] (srcM bs a) (.c (.str (wordN bs a))) (srcM bs (a+1)):=by
 have hc:=l1Next_ac bs hb a 8 ha (by omega)
 have hlt:=nextN_lt bs a (n:=8) (by omega)
 obtain⟨hr0,hg0⟩:=row_strs8 (L:=words) hlt
 have hp:wordN bs a=words[nextN bs a 8]:=by
  unfold wordN
  rw[List.getD_eq_getElem?_getD,List.getElem?_eq_getElem (by exact hlt),Option.getD_some]
 rw[hp]
 generalize hx:words[nextN bs a 8]=x at *
 generalize nextN bs a 8=i at *
 unfold words at hr0 hg0
 simp only[List.map_cons,List.map_nil,strCs]at hr0 hg0
 refine wEnter Tryz.func148 Tryz.ntmps148 ?_
 refine wRUN trivial ?_
 refine wCall (op_any_call [((0,0),(0,0))] [((0,0),(0,0))] hc) trivial ?_
 refine wRUN (j2 hr0 hg0) ?_
 exact wRetOf (ret_of [((0,0),(0,0))] []) Tryz.results148 hx
theorem l1Key_ac (bs:List Nat) (hb:BytesOk bs) (a:Nat) (ha:a≤1000000):AC Tryz.prog 149 [.ptr (0,0) 0] (srcM bs a) (.c (.str (keyN bs a))) (srcM bs (a+1)):=by
 have hc:=l1Next_ac bs hb a 4 ha (by omega)
 have hlt:=nextN_lt bs a (n:=4) (by omega)
 obtain⟨hr0,hg0⟩:=row_strs8 (L:=keyWords) hlt
 have hp:keyN bs a=keyWords[nextN bs a 4]:=by
  unfold keyN
  rw[List.getD_eq_getElem?_getD,List.getElem?_eq_getElem (by exact hlt),Option.getD_some]
 rw[hp]
 generalize hx:keyWords[nextN bs a 4]=x at *
 generalize nextN bs a 4=i at *
 unfold keyWords at hr0 hg0
 simp only[List.map_cons,List.map_nil,strCs]at hr0 hg0
 refine wEnter Tryz.func149 Tryz.ntmps149 ?_
 refine wRUN trivial ?_
 refine wCall (op_any_call [((0,0),(0,0))] [((0,0),(0,0))] hc) trivial ?_
 refine wRUN (j2 hr0 hg0) ?_
 exact wRetOf (ret_of [((0,0),(0,0))] []) Tryz.results149 hx
set_option maxRecDepth 10000
theorem l1NumberO_ac (n:Int):AC Tryz.prog 100 [.c (.int .i64 n)] [] (.own (0,0)) [((0,0),.row false 5 94 ((numV n).enc.map CellD.cs))]:=by
 have he:(numV n).enc.map CellD.cs=[[.int .i64 3,.int .i64 n,.str ByteArray.empty,.str ByteArray.empty,.int .i64 0]]:=rfl
 refine wEnter Tryz.func100 Tryz.ntmps100 ?_
 refine wRUN trivial ?_
 exact wRetOf (ret_of [((0,0),(5,0))] []) Tryz.results100 he
theorem l1StringO_ac (s:ByteArray):AC Tryz.prog 76 [.c (.str s)] [] (.own (0,0)) [((0,0),.row false 5 94 ((strV s).enc.map CellD.cs))]:=by
 have he:(strV s).enc.map CellD.cs=[[.int .i64 4,.int .i64 0,.str s,.str ByteArray.empty,.int .i64 0]]:=rfl
 refine wEnter Tryz.func76 Tryz.ntmps76 ?_
 refine wRUN trivial ?_
 exact wRetOf (ret_of [((0,0),(5,0))] []) Tryz.results76 he
abbrev valM (bs:List Nat) (r:V×Nat):Mem:=[((0,0),srcO bs r.2),((0,1),.row false 5 94 (r.1.enc.map CellD.cs))]
theorem mkV_enc (k:Int):(V.mk k 0 ByteArray.empty [] []).enc.map CellD.cs=[[.int .i64 k,.int .i64 0,.str ByteArray.empty,.str ByteArray.empty,.int .i64 0]]:=rfl
theorem l1Value_leaf (bs:List Nat) (hb:BytesOk bs) (a:Nat) (ha:a≤900000) (dp:Int) (b:Bool) (hdp:decide (dp≤1)=b) (k:Nat) (hk:k=if b=true∧nextN bs a 10>6 then nextN bs a 10-5 else nextN bs a 10) (h6:k≤6) :
  AC Tryz.prog 85 [.ptr (0,0) 0,.c (.int .i64 dp)] (srcM bs a) (.own (0,1)) (valM bs (leafD bs k (a+1))):=by
 have hc:=l1Next_ac bs hb a 10 (by omega) (by omega)
 have hlt:=nextN_lt bs a (n:=10) (by omega)
 generalize nextN bs a 10=r at *
 have n1:=l1Next_ac bs hb (a+1) 9 (by omega) (by omega)
 have n2:=l1Next_ac bs hb (a+2) 9 (by omega) (by omega)
 have n3:=l1Next_ac bs hb (a+3) 40 (by omega) (by omega)
 have x3:=nextN_lt bs (a+3) (n:=40) (by omega)
 have n4:=l1Pick_ac bs hb (a+4) [(nextN bs (a+1) 9:Int),(nextN bs (a+2) 9:Int),-(nextN bs (a+3) 40:Int),1000000000000000] (by simp) (by simp) (by omega)
 have n5:=l1NumberO_ac (pickN bs (a+4) [(nextN bs (a+1) 9:Int),(nextN bs (a+2) 9:Int),-(nextN bs (a+3) 40:Int),1000000000000000])
 have n6:=l1Word_ac bs hb (a+1) (by omega)
 have n7:=l1StringO_ac (wordN bs (a+1))
 have hneg:IntKind.i64.wrap (0-(nextN bs (a+3) 40:Int)) = -(nextN bs (a+3) 40:Int):=by rw[IntWalk.i64_in _ (by omega)];omega
 have hnum:∀k:Nat,3≤k→k≤5→leafD bs k (a+1)=(numV (pickN bs (a+4) [(nextN bs (a+1) 9:Int),(nextN bs (a+2) 9:Int),-(nextN bs (a+3) 40:Int),1000000000000000]),a+5):=fun k h1 h2=>by
  unfold leafD
  rw[if_neg (by omega),if_pos h2]
 have hstr:leafD bs 6 (a+1)=(strV (wordN bs (a+1)),a+2):=rfl
 have hmk:∀k:Nat,k≤2→leafD bs k (a+1)=(V.mk k 0 ByteArray.empty [] [],a+1):=fun k h=>by
  unfold leafD
  rw[if_pos h]
 simp only[List.map_cons,List.map_nil,intCs]at n4
 generalize nextN bs (a+1) 9=y1 at *
 generalize nextN bs (a+2) 9=y2 at *
 generalize nextN bs (a+3) 40=y3 at *
 generalize pickN bs (a+4) _=y4 at *
 generalize wordN bs (a+1)=y5 at *
 have hs7:IntKind.i64.wrap (7-5)=2:=by decide
 have hs8:IntKind.i64.wrap (8-5)=3:=by decide
 have hs9:IntKind.i64.wrap (9-5)=4:=by decide
 have h10:r=0∨r=1∨r=2∨r=3∨r=4∨r=5∨r=6∨r=7∨r=8∨r=9:=by omega
 obtain⟨z,hz⟩:∃z:Int,(r:Int)=z:=⟨_,rfl⟩
 rw[hz]at hc
 by_cases hk2:k≤2
 ·rw[hmk k hk2]
  obtain⟨kz,hkz⟩:∃kz:Int,(k:Int)=kz:=⟨_,rfl⟩
  rw[hkz]
  have hrr:(b=false∧z=kz)∨(b=true∧z=kz)∨(b=true∧z=7∧kz=2):=by
   by_cases hr6:r>6<;>cases b<;>simp[hr6]at hk ⊢<;>omega
  have hkk:kz=0∨kz=1∨kz=2:=by omega
  rcases hrr with⟨rfl,rfl⟩ | ⟨rfl,rfl⟩ | ⟨rfl,rfl,rfl⟩
  ·rcases hkk with rfl | rfl | rfl
   all_goals
    refine wEnter Tryz.func85 Tryz.ntmps85 ?_
    refine wRUN trivial ?_
    refine wCall (op_any_call [((0,0),(0,0))] [((0,0),(0,0))] hc) trivial ?_
    (repeat (first | (with_reducible first | refine a_seq ?_ | refine a_region ?_ | refine a_block ?_ | refine a_scope ?_) | ((with_reducible apply op_any);(iterate 2 (focus (first | (simp only[go_sem,Nat.reduceEqDiff,Nat.reduceAdd,Nat.reduceSub,Nat.reduceLeDiff,Nat.reduceMul,Nat.reduceBEq,Nat.reduceLT,Int.reduceToNat,reduceCtorEq,hdp,Int.reduceBEq,Int.reduceGT,Int.reduceLT,decide_true,decide_false];first | done | exact rfl | (and_intros<;>rfl)) | exact rfl | decide)))) | ((with_reducible refine o_nil ?_);dsimp only;try ((with_reducible apply o_draw);(focus (simp only[go_sem];exact rfl));(focus decide))) | ((with_reducible first | refine a_ret ?_ | refine a_skip ?_ | refine a_label ?_);dsimp only) | ((with_reducible refine a_exit ?_);dsimp only;simp only[if_true,if_false,Nat.reduceEqDiff]) | ((with_reducible apply a_if);(focus (simp only[go_sem,Nat.reduceBEq,Nat.reduceLT,hdp,Int.reduceBEq,Int.reduceGT,Int.reduceLT,decide_true,decide_false];exact rfl));dsimp only[cond_true,cond_false]) | ((with_reducible refine a_draw ?_ ?_);(focus exact rfl))))
    (apply (ret_of [((0,0),(0,0)),((0,1),(28,0))] []);(focus (simp only[Tryz.results85,go_sem,Nat.reduceBEq,Nat.reduceLT,mkV_enc];exact rfl));(focus (simp only[go_sem,Nat.reduceEqDiff,Nat.reduceAdd,Nat.reduceSub,Nat.reduceLeDiff,Nat.reduceMul,Nat.reduceBEq,Nat.reduceLT,Int.reduceToNat,reduceCtorEq,mkV_enc];try (and_intros<;>rfl)));(focus exact rfl);(focus (simp only[go_sem,Nat.reduceEqDiff,Nat.reduceAdd,Nat.reduceSub,Nat.reduceLeDiff,Nat.reduceMul,Nat.reduceBEq,Nat.reduceLT,Int.reduceToNat,reduceCtorEq,mkV_enc];try (and_intros<;>rfl)));(focus exact rfl);(iterate 4 (focus (simp[go_sem,mkV_enc];done))))
  ·rcases hkk with rfl | rfl | rfl
   all_goals
    refine wEnter Tryz.func85 Tryz.ntmps85 ?_
    refine wRUN trivial ?_
    refine wCall (op_any_call [((0,0),(0,0))] [((0,0),(0,0))] hc) trivial ?_
    (repeat (first | (with_reducible first | refine a_seq ?_ | refine a_region ?_ | refine a_block ?_ | refine a_scope ?_) | ((with_reducible apply op_any);(iterate 2 (focus (first | (simp only[go_sem,Nat.reduceEqDiff,Nat.reduceAdd,Nat.reduceSub,Nat.reduceLeDiff,Nat.reduceMul,Nat.reduceBEq,Nat.reduceLT,Int.reduceToNat,reduceCtorEq,hdp,Int.reduceBEq,Int.reduceGT,Int.reduceLT,decide_true,decide_false];first | done | exact rfl | (and_intros<;>rfl)) | exact rfl | decide)))) | ((with_reducible refine o_nil ?_);dsimp only;try ((with_reducible apply o_draw);(focus (simp only[go_sem];exact rfl));(focus decide))) | ((with_reducible first | refine a_ret ?_ | refine a_skip ?_ | refine a_label ?_);dsimp only) | ((with_reducible refine a_exit ?_);dsimp only;simp only[if_true,if_false,Nat.reduceEqDiff]) | ((with_reducible apply a_if);(focus (simp only[go_sem,Nat.reduceBEq,Nat.reduceLT,hdp,Int.reduceBEq,Int.reduceGT,Int.reduceLT,decide_true,decide_false];exact rfl));dsimp only[cond_true,cond_false]) | ((with_reducible refine a_draw ?_ ?_);(focus exact rfl))))
    (apply (ret_of [((0,0),(0,0)),((0,1),(28,0))] []);(focus (simp only[Tryz.results85,go_sem,Nat.reduceBEq,Nat.reduceLT,mkV_enc];exact rfl));(focus (simp only[go_sem,Nat.reduceEqDiff,Nat.reduceAdd,Nat.reduceSub,Nat.reduceLeDiff,Nat.reduceMul,Nat.reduceBEq,Nat.reduceLT,Int.reduceToNat,reduceCtorEq,mkV_enc];try (and_intros<;>rfl)));(focus exact rfl);(focus (simp only[go_sem,Nat.reduceEqDiff,Nat.reduceAdd,Nat.reduceSub,Nat.reduceLeDiff,Nat.reduceMul,Nat.reduceBEq,Nat.reduceLT,Int.reduceToNat,reduceCtorEq,mkV_enc];try (and_intros<;>rfl)));(focus exact rfl);(iterate 4 (focus (simp[go_sem,mkV_enc];done))))
  ·refine wEnter Tryz.func85 Tryz.ntmps85 ?_
   refine wRUN trivial ?_
   refine wCall (op_any_call [((0,0),(0,0))] [((0,0),(0,0))] hc) trivial ?_
   (repeat (first | (with_reducible first | refine a_seq ?_ | refine a_region ?_ | refine a_block ?_ | refine a_scope ?_) | ((with_reducible apply op_any);(iterate 2 (focus (first | (simp only[go_sem,Nat.reduceEqDiff,Nat.reduceAdd,Nat.reduceSub,Nat.reduceLeDiff,Nat.reduceMul,Nat.reduceBEq,Nat.reduceLT,Int.reduceToNat,reduceCtorEq,hdp,hs7,Int.reduceBEq,Int.reduceGT,Int.reduceLT,decide_true,decide_false];first | done | exact rfl | (and_intros<;>rfl)) | exact rfl | decide)))) | ((with_reducible refine o_nil ?_);dsimp only;try ((with_reducible apply o_draw);(focus (simp only[go_sem];exact rfl));(focus decide))) | ((with_reducible first | refine a_ret ?_ | refine a_skip ?_ | refine a_label ?_);dsimp only) | ((with_reducible refine a_exit ?_);dsimp only;simp only[if_true,if_false,Nat.reduceEqDiff]) | ((with_reducible apply a_if);(focus (simp only[go_sem,Nat.reduceBEq,Nat.reduceLT,hdp,hs7,Int.reduceBEq,Int.reduceGT,Int.reduceLT,decide_true,decide_false];exact rfl));dsimp only[cond_true,cond_false]) | ((with_reducible refine a_draw ?_ ?_);(focus exact rfl))))
   (apply (ret_of [((0,0),(0,0)),((0,1),(28,0))] []);(focus (simp only[Tryz.results85,go_sem,Nat.reduceBEq,Nat.reduceLT,mkV_enc];exact rfl));(focus (simp only[go_sem,Nat.reduceEqDiff,Nat.reduceAdd,Nat.reduceSub,Nat.reduceLeDiff,Nat.reduceMul,Nat.reduceBEq,Nat.reduceLT,Int.reduceToNat,reduceCtorEq,mkV_enc];try (and_intros<;>rfl)));(focus exact rfl);(focus (simp only[go_sem,Nat.reduceEqDiff,Nat.reduceAdd,Nat.reduceSub,Nat.reduceLeDiff,Nat.reduceMul,Nat.reduceBEq,Nat.reduceLT,Int.reduceToNat,reduceCtorEq,mkV_enc];try (and_intros<;>rfl)));(focus exact rfl);(iterate 4 (focus (simp[go_sem,mkV_enc];done))))
 ·by_cases hk5:k≤5
  ·rw[hnum k (by omega) hk5]
   have hrr:(b=false∧(z=3∨z=4∨z=5))∨(b=true∧(z=3∨z=4∨z=5∨z=8∨z=9)):=by
    by_cases hr6:r>6<;>cases b<;>simp[hr6]at hk ⊢<;>omega
   rcases hrr with⟨rfl,hr⟩ | ⟨rfl,hr⟩
   ·rcases hr with rfl | rfl | rfl
    all_goals
     refine wEnter Tryz.func85 Tryz.ntmps85 ?_
     refine wRUN trivial ?_
     refine wCall (op_any_call [((0,0),(0,0))] [((0,0),(0,0))] hc) trivial ?_
     (repeat (first | (with_reducible first | refine a_seq ?_ | refine a_region ?_ | refine a_block ?_ | refine a_scope ?_) | ((with_reducible apply op_any);(iterate 2 (focus (first | (simp only[go_sem,Nat.reduceEqDiff,Nat.reduceAdd,Nat.reduceSub,Nat.reduceLeDiff,Nat.reduceMul,Nat.reduceBEq,Nat.reduceLT,Int.reduceToNat,reduceCtorEq,hdp,Int.reduceBEq,Int.reduceGT,Int.reduceLT,decide_true,decide_false];first | done | exact rfl | (and_intros<;>rfl)) | exact rfl | decide)))) | ((with_reducible refine o_nil ?_);dsimp only;try ((with_reducible apply o_draw);(focus (simp only[go_sem];exact rfl));(focus decide))) | ((with_reducible first | refine a_ret ?_ | refine a_skip ?_ | refine a_label ?_);dsimp only) | ((with_reducible refine a_exit ?_);dsimp only;simp only[if_true,if_false,Nat.reduceEqDiff]) | ((with_reducible apply a_if);(focus (simp only[go_sem,Nat.reduceBEq,Nat.reduceLT,hdp,Int.reduceBEq,Int.reduceGT,Int.reduceLT,decide_true,decide_false];exact rfl));dsimp only[cond_true,cond_false]) | ((with_reducible refine a_draw ?_ ?_);(focus exact rfl))))
     refine wCall (op_any_call [((0,0),(0,0))] [((0,0),(0,0))] n1) trivial ?_
     refine wRUN trivial ?_
     refine wCall (op_any_call [((0,0),(0,0))] [((0,0),(0,0))] n2) trivial ?_
     refine wRUN trivial ?_
     refine wCall (op_any_call [((0,0),(0,0))] [((0,0),(0,0))] n3) trivial ?_
     refine wRUN hneg ?_
     refine wCallB (op_callB [(41,0)] [((0,0),(0,0))] [((0,0),(0,0))] n4) trivial ?_
     refine wRUN trivial ?_
     refine w12 (op_rowF [] n5) trivial ?_
     refine wRUN trivial ?_
     exact wRetOf (ret_of [((0,0),(0,0)),((0,1),(43,0))] []) Tryz.results85 hdp
   ·rcases hr with rfl | rfl | rfl | rfl | rfl
    all_goals
     refine wEnter Tryz.func85 Tryz.ntmps85 ?_
     refine wRUN trivial ?_
     refine wCall (op_any_call [((0,0),(0,0))] [((0,0),(0,0))] hc) trivial ?_
     (repeat (first | (with_reducible first | refine a_seq ?_ | refine a_region ?_ | refine a_block ?_ | refine a_scope ?_) | ((with_reducible apply op_any);(iterate 2 (focus (first | (simp only[go_sem,Nat.reduceEqDiff,Nat.reduceAdd,Nat.reduceSub,Nat.reduceLeDiff,Nat.reduceMul,Nat.reduceBEq,Nat.reduceLT,Int.reduceToNat,reduceCtorEq,hdp,hs8,hs9,Int.reduceBEq,Int.reduceGT,Int.reduceLT,decide_true,decide_false];first | done | exact rfl | (and_intros<;>rfl)) | exact rfl | decide)))) | ((with_reducible refine o_nil ?_);dsimp only;try ((with_reducible apply o_draw);(focus (simp only[go_sem];exact rfl));(focus decide))) | ((with_reducible first | refine a_ret ?_ | refine a_skip ?_ | refine a_label ?_);dsimp only) | ((with_reducible refine a_exit ?_);dsimp only;simp only[if_true,if_false,Nat.reduceEqDiff]) | ((with_reducible apply a_if);(focus (simp only[go_sem,Nat.reduceBEq,Nat.reduceLT,hdp,hs8,hs9,Int.reduceBEq,Int.reduceGT,Int.reduceLT,decide_true,decide_false];exact rfl));dsimp only[cond_true,cond_false]) | ((with_reducible refine a_draw ?_ ?_);(focus exact rfl))))
     refine wCall (op_any_call [((0,0),(0,0))] [((0,0),(0,0))] n1) trivial ?_
     refine wRUN trivial ?_
     refine wCall (op_any_call [((0,0),(0,0))] [((0,0),(0,0))] n2) trivial ?_
     refine wRUN trivial ?_
     refine wCall (op_any_call [((0,0),(0,0))] [((0,0),(0,0))] n3) trivial ?_
     refine wRUN hneg ?_
     refine wCallB (op_callB [(41,0)] [((0,0),(0,0))] [((0,0),(0,0))] n4) trivial ?_
     refine wRUN trivial ?_
     refine w12 (op_rowF [] n5) trivial ?_
     refine wRUN trivial ?_
     exact wRetOf (ret_of [((0,0),(0,0)),((0,1),(43,0))] []) Tryz.results85 hdp
  ·have hk6:k=6:=by omega
   rw[hk6,hstr]
   have hr:z=6:=by by_cases hr6:r>6<;>cases b<;>simp[hr6]at hk<;>omega
   subst hr
   cases b with
   |false =>
    refine wEnter Tryz.func85 Tryz.ntmps85 ?_
    refine wRUN trivial ?_
    refine wCall (op_any_call [((0,0),(0,0))] [((0,0),(0,0))] hc) trivial ?_
    (repeat (first | (with_reducible first | refine a_seq ?_ | refine a_region ?_ | refine a_block ?_ | refine a_scope ?_) | ((with_reducible apply op_any);(iterate 2 (focus (first | (simp only[go_sem,Nat.reduceEqDiff,Nat.reduceAdd,Nat.reduceSub,Nat.reduceLeDiff,Nat.reduceMul,Nat.reduceBEq,Nat.reduceLT,Int.reduceToNat,reduceCtorEq,hdp,Int.reduceBEq,Int.reduceGT,Int.reduceLT,decide_true,decide_false];first | done | exact rfl | (and_intros<;>rfl)) | exact rfl | decide)))) | ((with_reducible refine o_nil ?_);dsimp only;try ((with_reducible apply o_draw);(focus (simp only[go_sem];exact rfl));(focus decide))) | ((with_reducible first | refine a_ret ?_ | refine a_skip ?_ | refine a_label ?_);dsimp only) | ((with_reducible refine a_exit ?_);dsimp only;simp only[if_true,if_false,Nat.reduceEqDiff]) | ((with_reducible apply a_if);(focus (simp only[go_sem,Nat.reduceBEq,Nat.reduceLT,hdp,Int.reduceBEq,Int.reduceGT,Int.reduceLT,decide_true,decide_false];exact rfl));dsimp only[cond_true,cond_false]) | ((with_reducible refine a_draw ?_ ?_);(focus exact rfl))))
    refine wCall (op_any_call [((0,0),(0,0))] [((0,0),(0,0))] n6) trivial ?_
    refine wRUN trivial ?_
    refine w12 (op_rowF [] n7) trivial ?_
    refine wRUN trivial ?_
    exact wRetOf (ret_of [((0,0),(0,0)),((0,1),(48,0))] []) Tryz.results85 hdp
   |true =>
    refine wEnter Tryz.func85 Tryz.ntmps85 ?_
    refine wRUN trivial ?_
    refine wCall (op_any_call [((0,0),(0,0))] [((0,0),(0,0))] hc) trivial ?_
    (repeat (first | (with_reducible first | refine a_seq ?_ | refine a_region ?_ | refine a_block ?_ | refine a_scope ?_) | ((with_reducible apply op_any);(iterate 2 (focus (first | (simp only[go_sem,Nat.reduceEqDiff,Nat.reduceAdd,Nat.reduceSub,Nat.reduceLeDiff,Nat.reduceMul,Nat.reduceBEq,Nat.reduceLT,Int.reduceToNat,reduceCtorEq,hdp,Int.reduceBEq,Int.reduceGT,Int.reduceLT,decide_true,decide_false];first | done | exact rfl | (and_intros<;>rfl)) | exact rfl | decide)))) | ((with_reducible refine o_nil ?_);dsimp only;try ((with_reducible apply o_draw);(focus (simp only[go_sem];exact rfl));(focus decide))) | ((with_reducible first | refine a_ret ?_ | refine a_skip ?_ | refine a_label ?_);dsimp only) | ((with_reducible refine a_exit ?_);dsimp only;simp only[if_true,if_false,Nat.reduceEqDiff]) | ((with_reducible apply a_if);(focus (simp only[go_sem,Nat.reduceBEq,Nat.reduceLT,hdp,Int.reduceBEq,Int.reduceGT,Int.reduceLT,decide_true,decide_false];exact rfl));dsimp only[cond_true,cond_false]) | ((with_reducible refine a_draw ?_ ?_);(focus exact rfl))))
    refine wCall (op_any_call [((0,0),(0,0))] [((0,0),(0,0))] n6) trivial ?_
    refine wRUN trivial ?_
    refine w12 (op_rowF [] n7) trivial ?_
    refine wRUN trivial ?_
    exact wRetOf (ret_of [((0,0),(0,0)),((0,1),(48,0))] []) Tryz.results85 hdp
end Go.Proofs.YtlciedpfjhkkdaaGreatDoor
