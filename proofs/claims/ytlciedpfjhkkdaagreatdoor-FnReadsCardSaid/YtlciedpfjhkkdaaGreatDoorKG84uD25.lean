/- Texts of this proof: G84 G85 H22 H30 R15 D25. -/
import Derived.Test.YtlciedpfjhkkdaaGreatDoorKR16uG82
import Derived.Test.YtlciedpfjhkkdaaGreatDoorKD24
set_option linter.all false
set_option maxHeartbeats 8000000
namespace Go.Proofs.YtlciedpfjhkkdaaGreatDoor
section
open Go.RowKit
set_option maxRecDepth 10000
def cmpC (x y:List CellD):Int:=match (dec x).2,(dec y).2 with
 |some t,some u=>t.cmp u
 |_,_=>0
def sameC (x y:List CellD):Bool:=(dec x).1==0&&((dec y).1==0&&cmpC x y==0)
theorem implCompare_ac (x y:List CellD) (hz:Sized x) (hzy:Sized y):AC Tryz.prog 57 [cellsA x,cellsA y] [] (.c (.int .i64 (cmpC x y))) []:=by
 rcases dec_way x with⟨h1,h2⟩ | ⟨t,h1,h3,h4,h5,h6⟩
 ·have hv:=valOf_bad x hz h1
  have hb:((dec x).1 != 0)=true:=by simpa using h2
  have hc:cmpC x y=0:=by unfold cmpC;rw[h1]
  rw[hc]
  rcases dec_way y with⟨g1,g2⟩ | ⟨u,g1,g3,g4,g5,g6⟩
  ·have hu:=valOf_bad y hzy g1
   refine wEnter Tryz.func57 Tryz.ntmps57 ?_
   refine wRUN trivial ?_
   refine w9 (op_shared [] hv) noV_eq ?_
   refine wRUN noV_eq ?_
   refine w9 (op_shared [] hu) noV_eq ?_
   refine wRUN (j2 noV_eq hb) ?_
   exact wRet (ret_data []) Tryz.results57
  ·have hu:=valOf_ac y hzy (t:=u) (by rw[g1])
   refine wEnter Tryz.func57 Tryz.ntmps57 ?_
   refine wRUN trivial ?_
   refine w9 (op_shared [] hv) noV_eq ?_
   refine wRUN noV_eq ?_
   refine w9 (op_shared [] hu) trivial ?_
   refine wRUN (j2 noV_eq hb) ?_
   exact wRet (ret_data []) Tryz.results57
 ·have hv:=valOf_ac x hz (t:=t) (by rw[h1])
  have h00:((0:Int) != 0)=false:=rfl
  rcases dec_way y with⟨g1,g2⟩ | ⟨u,g1,g3,g4,g5,g6⟩
  ·have hu:=valOf_bad y hzy g1
   have hb:((dec y).1 != 0)=true:=by simpa using g2
   have hc:cmpC x y=0:=by unfold cmpC;rw[h1,g1]
   rw[hc]
   refine wEnter Tryz.func57 Tryz.ntmps57 ?_
   refine wRUN trivial ?_
   refine w9 (op_shared [] hv) trivial ?_
   refine wRUN noV_eq ?_
   refine w9 (op_shared [] hu) noV_eq ?_
   refine wRUN (j3 noV_eq hb h00) ?_
   exact wRet (ret_data []) Tryz.results57
  ·have hu:=valOf_ac y hzy (t:=u) (by rw[g1])
   have hc:cmpC x y=t.cmp u:=by unfold cmpC;rw[h1,g1]
   have hcm:=compareVals_ac t.count t u (Nat.le_refl _) ⟨h4,h5,h6⟩
   rw[hc]
   refine wEnter Tryz.func57 Tryz.ntmps57 ?_
   refine wRUN trivial ?_
   refine w9 (op_shared [] hv) trivial ?_
   refine wRUN trivial ?_
   refine w9 (op_shared [] hu) trivial ?_
   refine wRUN h00 ?_
   refine w7 (op_data [] hcm) trivial ?_
   refine wRUN trivial ?_
   exact wRet (ret_data []) Tryz.results57
theorem implSame_ac (x y:List CellD) (hz:Sized x) (hzy:Sized y):AC Tryz.prog 21 [cellsA x,cellsA y] [] (.c (.bool (sameC x y))) []:=by
 have f1:=implFault_ac x hz
 have f2:=implFault_ac y hzy
 have f3:=implCompare_ac x y hz hzy
 unfold sameC
 generalize cmpC x y=q at *
 cases h1:(dec x).1==0 with
 |false =>
  refine wEnter Tryz.func21 Tryz.ntmps21 ?_
  refine wRUN trivial ?_
  refine w7 (op_data [] f1) trivial ?_
  refine wRUN h1 ?_
  exact wRet (ret_data []) Tryz.results21
 |true =>
  cases h2:(dec y).1==0 with
  |false =>
   refine wEnter Tryz.func21 Tryz.ntmps21 ?_
   refine wRUN trivial ?_
   refine w7 (op_data [] f1) trivial ?_
   refine wRUN h1 ?_
   refine w7 (op_data [] f2) trivial ?_
   refine wRUN h2 ?_
   exact wRet (ret_data []) Tryz.results21
  |true =>
   refine wEnter Tryz.func21 Tryz.ntmps21 ?_
   refine wRUN trivial ?_
   refine w7 (op_data [] f1) trivial ?_
   refine wRUN h1 ?_
   refine w7 (op_data [] f2) trivial ?_
   refine wRUN h2 ?_
   refine w7 (op_data [] f3) trivial ?_
   (repeat (first | (with_reducible first | refine a_seq ?_ | refine a_region ?_ | refine a_block ?_ | refine a_scope ?_) | ((with_reducible apply op_any);(iterate 2 (focus (first | (simp only[go_sem,Nat.reduceEqDiff,Nat.reduceAdd,Nat.reduceSub,Nat.reduceLeDiff,Nat.reduceMul,Nat.reduceBEq,Nat.reduceLT,Int.reduceToNat,reduceCtorEq,Bool.true_and];first | done | exact rfl | (and_intros<;>rfl)) | exact rfl | decide)))) | ((with_reducible refine o_nil ?_);dsimp only;try ((with_reducible apply o_draw);(focus (simp only[go_sem];exact rfl));(focus decide))) | ((with_reducible first | refine a_ret ?_ | refine a_skip ?_ | refine a_label ?_);dsimp only) | ((with_reducible refine a_exit ?_);dsimp only;simp only[if_true,if_false,Nat.reduceEqDiff]) | ((with_reducible apply a_if);(focus (simp only[go_sem,Nat.reduceBEq,Nat.reduceLT,Bool.true_and];exact rfl));dsimp only[cond_true,cond_false]) | ((with_reducible refine a_draw ?_ ?_);(focus exact rfl))))
   exact wRet (ret_data []) Tryz.results21
theorem sameC_self {t:V}(h:t.right):sameC t.enc t.enc=true:=by
 unfold sameC cmpC
 rw[right_dec h]
 show ((0:Int)==0&&((0:Int)==0&&t.cmp t==0))=true
 rw[cmp_null.2 rfl]
 rfl
set_option maxRecDepth 10000
theorem lwBig_ac (bs:List Nat):AC Tryz.prog 14 [.c (.sl (bs.map byteCs))] [] (.c (.bool (decide ((bs.length:Int)>1048576)))) []:=by
 have hln:(bs.map byteCs).length=bs.length:=by simp
 refine wEnter Tryz.func14 Tryz.ntmps14 ?_
 refine wRUN hln ?_
 exact wRet (ret_data []) Tryz.results14
set_option maxRecDepth 10000
theorem faultS {t:V}(ht:t.right):AC Tryz.prog 36 [cellsA t.enc] [] (.c (.int .i64 0)) []:=by
 have:=implFault_ac t.enc (right_sized ht)
 rw[right_dec ht]at this
 exact this
theorem sameS {t:V}(ht:t.right):AC Tryz.prog 21 [cellsA t.enc,cellsA t.enc] [] (.c (.bool true)) []:=by
 have:=implSame_ac t.enc t.enc (right_sized ht) (right_sized ht)
 rw[sameC_self ht]at this
 exact this
end
section
open Go.RowKit
set_option maxRecDepth 10000
variable {o o1 o2:Obj}
abbrev teM (o o1 o2:Obj):Mem:=[((8,0),.blk (tabR o) []),((8,1),.gen (errsR o1 o2))]
theorem encodeVal_ok {t:V}(ht:t.right):AC Tryz.prog 28 [cellsA t.enc] (tabM o) (.agg [.c (.int .i64 0),.c (.str t.txt)]) (tabM o):=by
 have hv:=valOf_ac t.enc (right_sized ht) (t:=t) (by rw[right_dec ht])
 have he:=encodeR_ac (o:=o) ht
 have h00:((0:Int) != 0)=false:=rfl
 refine wEnter Tryz.func28 Tryz.ntmps28 ?_
 refine wRUN trivial ?_
 refine w9 (op_shared [] hv) trivial ?_
 refine wRUN h00 ?_
 refine wCall (op_any_call [((8,0),(8,0))] [((8,0),(8,0))] he) trivial ?_
 refine wRUN trivial ?_
 exact wRetOf (ret_of [((8,0),(8,0))] []) Tryz.results28 h00
theorem implDecodeS_ok (s:ByteArray) {c:Int×Nat}{v:V}(h:decodeR s=(c,some v)):AC Tryz.prog 10 [.c (.str s)] (errM o1 o2) (.agg [.c (.int .i64 0),.c (.int .i64 0),cellsA v.enc]) (errM o1 o2):=by
 have h:=implDecode_ok (o1:=o1) (o2:=o2) s h
 (apply (AC.says [((8,1),(8,1))] [(0,0)] h);(focus (simp only[go_sem,Nat.reduceEqDiff,Nat.reduceAdd,Nat.reduceSub,Nat.reduceLeDiff,Nat.reduceMul,Nat.reduceBEq,Nat.reduceLT,Int.reduceToNat,reduceCtorEq];try (and_intros<;>rfl)));(focus exact rfl);(focus (simp only[go_sem,Nat.reduceEqDiff,Nat.reduceAdd,Nat.reduceSub,Nat.reduceLeDiff,Nat.reduceMul,Nat.reduceBEq,Nat.reduceLT,Int.reduceToNat,reduceCtorEq];try (and_intros<;>rfl)));(focus exact rfl);(iterate 4 (focus (simp[go_sem];done))))
theorem decode_big {s:ByteArray}(h:4000<s.size):decodeR s=((2,0),none):=by unfold decodeR;rw[if_pos h]
end
section
open Go.RowKit
set_option maxRecDepth 10000
theorem out_next {t:V}{k:Nat}(hk:k<t.kids.length):joinS (bS 44) (t.parts.take (k+1))=if k=0 then t.part k t.kids[k] else joinS (bS 44) (t.parts.take k)++bS 44++t.part k t.kids[k]:=by
 rw[joinS_next (bS 44) (by rw[parts_len];exact hk),parts_at t hk]
theorem out_zero (t:V):joinS (bS 44) (t.parts.take 0)=ByteArray.empty:=by simp[joinS]
theorem encode_ac:∀(n:Nat) (t:V),t.count≤n→t.right→AC Tryz.prog 125 [cellsA t.enc] [] (.c (.str t.txt)) []:=by
 intro n
 induction n with
 |zero=>intro t hn _;have:=count_pos t;omega
 |succ n ih =>
  intro t hn ht
  have ra:=enc_rows t
  have ga:=enc_head t
  have hk:=right_kind ht
  have hnum:=right_num ht
  have hs:=okText_size (right_text ht)
  have hcase:t.kind=0∨t.kind=1∨t.kind=2∨t.kind=3∨t.kind=4∨(t.kind=5∨t.kind=6):=by omega
  rcases hcase with h | h | h | h | h | h
  ·have b0:(t.kind==0)=true:=by simp[h]
   rw[txt_null h];unfold nullS
   refine wEnter Tryz.func125 Tryz.ntmps125 ?_
   refine wRUN (j3 ra ga b0) ?_
   exact wRet (ret_data []) Tryz.results125
  ·have b0:(t.kind==0)=false:=by simp[h]
   have b1:(t.kind==1)=true:=by simp[h]
   rw[txt_false h];unfold falseS
   refine wEnter Tryz.func125 Tryz.ntmps125 ?_
   refine wRUN (j4 ra ga b0 b1) ?_
   exact wRet (ret_data []) Tryz.results125
  ·have b0:(t.kind==0)=false:=by simp[h]
   have b1:(t.kind==1)=false:=by simp[h]
   have b2:(t.kind==2)=true:=by simp[h]
   rw[txt_true h];unfold trueS
   refine wEnter Tryz.func125 Tryz.ntmps125 ?_
   refine wRUN (j5 ra ga b0 b1 b2) ?_
   exact wRet (ret_data []) Tryz.results125
  ·have b0:(t.kind==0)=false:=by simp[h]
   have b1:(t.kind==1)=false:=by simp[h]
   have b2:(t.kind==2)=false:=by simp[h]
   have b3:(t.kind==3)=true:=by simp[h]
   have h1:=decimal_ac t.num (by omega) (by omega)
   rw[txt_num h]
   refine wEnter Tryz.func125 Tryz.ntmps125 ?_
   refine wRUN (j6 ra ga b0 b1 b2 b3) ?_
   refine w7 (op_data [] h1) trivial ?_
   refine wRUN trivial ?_
   exact wRet (ret_data []) Tryz.results125
  ·have b0:(t.kind==0)=false:=by simp[h]
   have b1:(t.kind==1)=false:=by simp[h]
   have b2:(t.kind==2)=false:=by simp[h]
   have b3:(t.kind==3)=false:=by simp[h]
   have b4:(t.kind==4)=true:=by simp[h]
   have h1:=quote_ac t.text (by omega)
   rw[txt_str h]
   refine wEnter Tryz.func125 Tryz.ntmps125 ?_
   refine wRUN (j7 ra ga b0 b1 b2 b3 b4) ?_
   refine w7 (op_data [] h1) trivial ?_
   refine wRUN trivial ?_
   exact wRet (ret_data []) Tryz.results125
  ·have b0:(t.kind==0)=false:=by simp;omega
   have b1:(t.kind==1)=false:=by simp;omega
   have b2:(t.kind==2)=false:=by simp;omega
   have b3:(t.kind==3)=false:=by simp;omega
   have b4:(t.kind==4)=false:=by simp;omega
   have hp:=l1Parts_ac ht.1 ht.2.1
   have hq:=l1Keys_ac ht.1 ht.2.1
   have hkl:=kids_len_le ht.2.1
   have hlp:((t.kids.map V.enc).map encCs).length=t.kids.length:=by simp
   have h0:=out_zero t
   refine wEnter Tryz.func125 Tryz.ntmps125 ?_
   refine wRUN (j7 ra ga b0 b1 b2 b3 b4) ?_
   refine w9 (op_shared [] hp) trivial ?_
   refine wRUN trivial ?_
   refine w9 (op_shared [] hq) trivial ?_
   refine wRUN trivial ?_
   refine a_loop (κ:=Nat) (fun k=>⟨mkS 0 76 [(0,cellsA t.enc),(3,.c (.sl ((t.kids.map V.enc).map encCs))),(4,.c (.sl ((keysOf t t.kids.length).map strCs))),(5,.c (.str (joinS (bS 44) (t.parts.take k)))),(6,.c (.int .i64 k))],[]⟩)
    (fun k=>k≤t.kids.length) (fun k=>t.kids.length-k) 0 (Nat.zero_le _) ?_ ?_
   ·exact wSays (Says.of [] []) h0
   ·intro k hk1
    have hz:=join_size ht hk1
    by_cases hlt:k<t.kids.length
    ·have hdk:decide ((k:Int)<(t.kids.length:Int))=true:=by simpa using hlt
     have hw:=wrap_succ (k:=k) (by omega)
     have hg:((t.kids.map V.enc).map encCs)[k]? = some [.sl (t.kids[k].enc.map CellD.cs)]:=by simp[hlt,encCs]
     have hra:rowsAt ((t.kids.map V.enc).map encCs) 1 k=true:=by simp[rowsAt,hlt,encCs]
     have hgk:((keysOf t t.kids.length).map strCs)[k]? = some [.str (t.keyAt k)]:=by simp[keysOf,hlt,strCs]
     have hrk:rowsAt ((keysOf t t.kids.length).map strCs) 1 k=true:=by simp[rowsAt,keysOf,hlt,strCs]
     have hks:=right_keyAt ht k
     have hes:=encS_size hks
     have hqk:=quote_ac (t.keyAt k) (by omega)
     have hmem:t.kids[k]∈t.kids:=List.getElem_mem hlt
     have hcm:=countL_mem hmem
     have hck:=count_kids t
     have hxs:=txt_size' (right_mem ht hmem)
     have he:=ih t.kids[k] (by omega) (right_mem ht hmem)
     have hnx:=out_next hlt
     unfold V.part at hnx
     generalize t.kids[k]=x at *
     generalize t.keyAt k=key at *
     generalize hu0:joinS (bS 44) (t.parts.take k)=u0 at *
     have key1:∀u1:ByteArray,u1.size≤60000→u1.size+(encS key).size≤9223372036854775807∧(u1++encS key).size+1≤9223372036854775807∧(u1++encS key++bS 58).size+x.txt.size≤9223372036854775807∧u1.size+x.txt.size≤9223372036854775807:=by
      intro u1 h1
      simp only[ByteArray.size_append,one_size]
      omega
     rcases Nat.eq_zero_or_pos k with hk0 | hk0
     ·subst hk0
      have hgt:decide (((0:Nat):Int)>0)=false:=by simp
      rw[if_pos rfl]at hnx
      rw[out_zero]at hu0
      subst hu0
      obtain⟨x1,x2,x3,x4⟩:=key1 ByteArray.empty (by simp)
      rcases h with h | h
      ·have b6:(t.kind==6)=false:=by simp[h]
       rw[if_neg (by omega)]at hnx
       have hy:ByteArray.empty++x.txt=joinS (bS 44) (t.parts.take (0+1)):=by rw[hnx,ByteArray.empty_append]
       refine wRUN (j8 hlp hdk hgt ra ga b6 hra hg) ?_
       refine w7 (op_data [] he) trivial ?_
       refine wRUN (j3 x4 hy hw) ?_
       refine⟨0+1,by omega,by omega,?_⟩
       exact wSays (Says.of [] []) trivial
      ·have b6:(t.kind==6)=true:=by simp[h]
       rw[if_pos h]at hnx
       have hy:ByteArray.empty++encS key++bS 58++x.txt=joinS (bS 44) (t.parts.take (0+1)):=by rw[hnx,ByteArray.empty_append]
       generalize hv1:ByteArray.empty++encS key=v1 at *
       generalize hv2:v1++bS 58=v2 at *
       refine wRUN (j8 hlp hdk hgt ra ga b6 hrk hgk) ?_
       refine w7 (op_data [] hqk) trivial ?_
       refine wRUN (j6 x1 hv1 x2 hv2 hra hg) ?_
       refine w7 (op_data [] he) trivial ?_
       refine wRUN (j3 x3 hy hw) ?_
       refine⟨0+1,by omega,by omega,?_⟩
       exact wSays (Says.of [] []) trivial
     ·have hgt:decide ((k:Int)>0)=true:=by simp;omega
      rw[if_neg (by omega)]at hnx
      have x0:u0.size+1≤9223372036854775807:=by omega
      have hu1s:(u0++bS 44).size≤60000:=by rw[ByteArray.size_append,one_size];omega
      obtain⟨x1,x2,x3,x4⟩:=key1 (u0++bS 44) hu1s
      generalize hu1:u0++bS 44=u1 at *
      rcases h with h | h
      ·have b6:(t.kind==6)=false:=by simp[h]
       rw[if_neg (by omega)]at hnx
       refine wRUN (j10 hlp hdk hgt x0 hu1 ra ga b6 hra hg) ?_
       refine w7 (op_data [] he) trivial ?_
       have hy:=hnx.symm
       refine wRUN (j3 x4 hy hw) ?_
       refine⟨k+1,by omega,by omega,?_⟩
       exact wSays (Says.of [] []) trivial
      ·have b6:(t.kind==6)=true:=by simp[h]
       rw[if_pos h]at hnx
       have hy:u1++encS key++bS 58++x.txt=joinS (bS 44) (t.parts.take (k+1)):=by rw[hnx];simp only[ByteArray.append_assoc]
       generalize hv1:u1++encS key=v1 at *
       generalize hv2:v1++bS 58=v2 at *
       refine wRUN (j10 hlp hdk hgt x0 hu1 ra ga b6 hrk hgk) ?_
       refine w7 (op_data [] hqk) trivial ?_
       refine wRUN (j6 x1 hv1 x2 hv2 hra hg) ?_
       refine w7 (op_data [] he) trivial ?_
       refine wRUN (j3 x3 hy hw) ?_
       refine⟨k+1,by omega,by omega,?_⟩
       exact wSays (Says.of [] []) trivial
    ·have hdk:decide ((k:Int)<(t.kids.length:Int))=false:=by simpa using hlt
     obtain rfl:k=t.kids.length:=by omega
     have hall:t.parts.take t.kids.length=t.parts:=List.take_of_length_le (by rw[parts_len];exact Nat.le_refl _)
     rw[hall]at hz
     have hx1:1+(joinS (bS 44) t.parts).size≤9223372036854775807:=by omega
     rcases h with h | h
     ·have b5:(t.kind==5)=true:=by simp[h]
      have hx2:(bS 91++joinS (bS 44) t.parts).size+1≤9223372036854775807:=by rw[ByteArray.size_append,one_size];omega
      have ht5:=(txt_arr h).symm
      generalize hv1:bS 91++joinS (bS 44) t.parts=v1 at *
      refine wRUN (j10 hlp hdk ra ga b5 hall hx1 hv1 hx2 ht5) ?_
      exact wRetOf (ret_of [] []) Tryz.results125 ht5
     ·have b5:(t.kind==5)=false:=by simp[h]
      have hx2:(bS 123++joinS (bS 44) t.parts).size+1≤9223372036854775807:=by rw[ByteArray.size_append,one_size];omega
      have ht5:=(txt_obj h).symm
      generalize hv1:bS 123++joinS (bS 44) t.parts=v1 at *
      refine wRUN (j10 hlp hdk ra ga b5 hall hx1 hv1 hx2 ht5) ?_
      exact wRetOf (ret_of [] []) Tryz.results125 ht5
set_option maxRecDepth 10000
theorem cutRows_at {k:Nat}(h:k<17):∃w:ByteArray,rowsAt [[C.str ⟨#[32]⟩],[C.str ⟨#[10]⟩],[C.str ⟨#[48]⟩],[C.str ⟨#[44]⟩],[C.str ⟨#[93]⟩],[C.str ⟨#[125]⟩],[C.str ⟨#[34]⟩],[C.str ⟨#[92]⟩],[C.str ⟨#[45]⟩],[C.str ⟨#[58]⟩],[C.str ⟨#[46]⟩],[C.str ⟨#[101]⟩],[C.str ⟨#[92,117,48,48,52,49]⟩],[C.str ⟨#[92,117,48,48,49,102]⟩],[C.str ⟨#[92,47]⟩],[C.str ⟨#[91]⟩],[C.str ⟨#[123]⟩]] 1 ((k:Nat):Int)=true∧([[C.str ⟨#[32]⟩],[C.str ⟨#[10]⟩],[C.str ⟨#[48]⟩],[C.str ⟨#[44]⟩],[C.str ⟨#[93]⟩],[C.str ⟨#[125]⟩],[C.str ⟨#[34]⟩],[C.str ⟨#[92]⟩],[C.str ⟨#[45]⟩],[C.str ⟨#[58]⟩],[C.str ⟨#[46]⟩],[C.str ⟨#[101]⟩],[C.str ⟨#[92,117,48,48,52,49]⟩],[C.str ⟨#[92,117,48,48,49,102]⟩],[C.str ⟨#[92,47]⟩],[C.str ⟨#[91]⟩],[C.str ⟨#[123]⟩]]:List (List C))[k]? = some [.str w]∧w.size≤6:=by
 have hk:k=0∨k=1∨k=2∨k=3∨k=4∨k=5∨k=6∨k=7∨k=8∨k=9∨k=10∨k=11∨k=12∨k=13∨k=14∨k=15∨k=16:=by omega
 rcases hk with rfl | rfl | rfl | rfl | rfl | rfl | rfl | rfl | rfl | rfl | rfl | rfl | rfl | rfl | rfl | rfl | rfl<;>exact⟨_,by decide,rfl,by decide⟩
theorem l2Cut_ac (bs:List Nat) (hb:BytesOk bs) (a:Nat) (ha:a≤900000) (t:ByteArray) (ht:t.size≤100000):∃u a',u.size≤t.size+10∧a≤a'∧a'≤a+3∧AC Tryz.prog 128 [.ptr (0,0) 0,.c (.str t)] (srcM bs a) (.c (.str u)) (srcM bs a'):=by
 have t3:=Tryz.underlying9
 have t1:=Tryz.underlying29
 have t2:=Tryz.underlying5
 by_cases h0:t.size=0
 ·have hte:t=ByteArray.empty:=by
   apply ByteArray.ext
   exact Array.eq_empty_of_size_eq_zero h0
  subst hte
  have hn:=l1Next_ac bs hb a 4 (by omega) (by omega)
  have hlt:=nextN_lt bs a (n:=4) (by omega)
  generalize nextN bs a 4=k at *
  have he:(ByteArray.empty.toList==ByteArray.empty.toList)=true:=by simp
  have hk:k=0∨k=1∨k=2∨k=3:=by omega
  have main:∀u:ByteArray,rowsAt [[C.str ByteArray.empty],[C.str ⟨#[32]⟩],[C.str ⟨#[91]⟩],[C.str ⟨#[45]⟩]] 1 ((k:Nat):Int)=true→([[C.str ByteArray.empty],[C.str ⟨#[32]⟩],[C.str ⟨#[91]⟩],[C.str ⟨#[45]⟩]]:List (List C))[k]? = some [.str u]→AC Tryz.prog 128 [.ptr (0,0) 0,.c (.str ByteArray.empty)] (srcM bs a) (.c (.str u)) (srcM bs (a+1)):=by
   intro u hr hg
   refine wEnter Tryz.func128 Tryz.ntmps128 ?_
   refine wRUN he ?_
   refine wCall (op_any_call [((0,0),(0,0))] [((0,0),(0,0))] hn) trivial ?_
   refine wRUN (j2 hr hg) ?_
   exact wRetOf (ret_of [((0,0),(0,0))] []) Tryz.results128 he
  rcases hk with rfl | rfl | rfl | rfl
  ·exact⟨_,_,Nat.zero_le _,Nat.le_succ _,by omega,main ByteArray.empty (by decide) rfl⟩
  ·exact⟨_,_,(by decide:(⟨#[32]⟩:ByteArray).size≤ByteArray.empty.size+10),Nat.le_succ _,by omega,main ⟨#[32]⟩ (by decide) rfl⟩
  ·exact⟨_,_,(by decide:(⟨#[91]⟩:ByteArray).size≤ByteArray.empty.size+10),Nat.le_succ _,by omega,main ⟨#[91]⟩ (by decide) rfl⟩
  ·exact⟨_,_,(by decide:(⟨#[45]⟩:ByteArray).size≤ByteArray.empty.size+10),Nat.le_succ _,by omega,main ⟨#[45]⟩ (by decide) rfl⟩
 ·have hn1:=l1Next_ac bs hb a t.size (by omega) (by omega)
  have hi:=nextN_lt bs a (n:=t.size) (by omega)
  have hn2:=l1Next_ac bs hb (a+1) 4 (by omega) (by omega)
  have hk:=nextN_lt bs (a+1) (n:=4) (by omega)
  have he:(t.toList==ByteArray.empty.toList)=false:=by
   cases hq:(t.toList==ByteArray.empty.toList) with
   |false=>rfl
   |true =>
    exfalso
    have h1:t=ByteArray.empty:=ByteArray_toList_inj (by simpa using hq)
    exact h0 (by rw[h1];rfl)
  generalize nextN bs a t.size=i at *
  generalize nextN bs (a+1) 4=k at *
  have c1:i≤t.size:=by omega
  have c3:i+1≤t.size:=by omega
  have hwi:=wrap_succ (k:=i) (by omega)
  have s1:=ext_size (s:=t) (a:=0) (e:=i) (by omega)
  have s2:=ext_size (s:=t) (a:=i) (e:=t.size) (Nat.le_refl _)
  have s3:=ext_size (s:=t) (a:=i+1) (e:=t.size) (Nat.le_refl _)
  generalize hL:t.extract 0 i=L at *
  generalize hR0:t.extract i t.size=R0 at *
  generalize hR1:t.extract (i+1) t.size=R1 at *
  have hkk:k=0∨k=1∨k=2∨k=3:=by omega
  rcases hkk with rfl | rfl | rfl | rfl
  ·have x1:L.size+R1.size≤9223372036854775807:=by omega
   have k0:((((0:Nat):Int))==0)=true:=rfl
   refine⟨L++R1,a+2,by rw[ByteArray.size_append];omega,by omega,by omega,?_⟩
   refine wEnter Tryz.func128 Tryz.ntmps128 ?_
   refine wRUN he ?_
   refine wCall (op_any_call [((0,0),(0,0))] [((0,0),(0,0))] hn1) trivial ?_
   refine wRUN trivial ?_
   refine wCall (op_any_call [((0,0),(0,0))] [((0,0),(0,0))] hn2) trivial ?_
   refine wRUN (j7 k0 c1 c3 hwi hL hR1 x1) ?_
   exact wRetOf (ret_of [((0,0),(0,0))] []) Tryz.results128 he
  ·have hn3:=l1Next_ac bs hb (a+2) 17 (by omega) (by omega)
   have hk3:=nextN_lt bs (a+2) (n:=17) (by omega)
   generalize nextN bs (a+2) 17=k3 at *
   obtain⟨w,hr,hg,hw⟩:=cutRows_at hk3
   have x1:L.size+w.size≤9223372036854775807:=by omega
   have x2:(L++w).size+R0.size≤9223372036854775807:=by rw[ByteArray.size_append];omega
   have k0:((((1:Nat):Int))==0)=false:=rfl
   have k1:((((1:Nat):Int))==1)=true:=rfl
   refine⟨L++w++R0,a+3,by rw[ByteArray.size_append,ByteArray.size_append];omega,by omega,by omega,?_⟩
   generalize hLw:L++w=Lw at *
   refine wEnter Tryz.func128 Tryz.ntmps128 ?_
   refine wRUN he ?_
   refine wCall (op_any_call [((0,0),(0,0))] [((0,0),(0,0))] hn1) trivial ?_
   refine wRUN trivial ?_
   refine wCall (op_any_call [((0,0),(0,0))] [((0,0),(0,0))] hn2) trivial ?_
   refine wRUN (j4 k0 k1 c1 hL) ?_
   refine wCall (op_any_call [((0,0),(0,0))] [((0,0),(0,0))] hn3) trivial ?_
   refine wRUN (j7 hr hg c1 hR0 x1 hLw x2) ?_
   exact wRetOf (ret_of [((0,0),(0,0))] []) Tryz.results128 he
  ·have hn3:=l1Next_ac bs hb (a+2) 256 (by omega) (by omega)
   have hk3:=nextN_lt bs (a+2) (n:=256) (by omega)
   generalize nextN bs (a+2) 256=k3 at *
   have wu:IntKind.u8.wrap (k3:Int)=(k3:Int):=u8_in (by omega) (by omega)
   have hb1:byteRows [UInt8.ofNat k3]=[[C.int .u8 (k3:Int)]]:=by
    show [[C.int .u8 ((UInt8.ofNat k3).toNat:Int)]]=_
    rw[UInt8.toNat_ofNat',Nat.mod_eq_of_lt (by omega)]
   have x1:L.size+(bOne k3).size≤9223372036854775807:=by rw[bOne_size];omega
   have x2:(L++bOne k3).size+R1.size≤9223372036854775807:=by rw[ByteArray.size_append,bOne_size];omega
   have k0:((((2:Nat):Int))==0)=false:=rfl
   have k1:((((2:Nat):Int))==1)=false:=rfl
   have k2:((((2:Nat):Int))==2)=true:=rfl
   refine⟨L++bOne k3++R1,a+3,by rw[ByteArray.size_append,ByteArray.size_append,bOne_size];omega,by omega,by omega,?_⟩
   generalize hLw:L++bOne k3=Lw at *
   refine wEnter Tryz.func128 Tryz.ntmps128 ?_
   refine wRUN he ?_
   refine wCall (op_any_call [((0,0),(0,0))] [((0,0),(0,0))] hn1) trivial ?_
   refine wRUN trivial ?_
   refine wCall (op_any_call [((0,0),(0,0))] [((0,0),(0,0))] hn2) trivial ?_
   refine wRUN (j5 k0 k1 k2 c1 hL) ?_
   refine wCall (op_any_call [((0,0),(0,0))] [((0,0),(0,0))] hn3) trivial ?_
   refine wRUN wu ?_
   (apply (op_convB [UInt8.ofNat k3] (y:=bOne k3) rfl t1 t2 t3);(focus (first | (simp only[go_sem,Nat.reduceEqDiff,Nat.reduceAdd,Nat.reduceSub,Nat.reduceLeDiff,Nat.reduceMul,Nat.reduceBEq,Nat.reduceLT,Int.reduceToNat,reduceCtorEq];first | done | exact rfl | (and_intros<;>rfl)) | exact rfl | decide));(focus (first | (simp only[go_sem,Nat.reduceEqDiff,Nat.reduceAdd,Nat.reduceSub,Nat.reduceLeDiff,Nat.reduceMul,Nat.reduceBEq,Nat.reduceLT,Int.reduceToNat,reduceCtorEq];first | done | exact rfl | (and_intros<;>rfl)) | exact rfl | decide));(focus (first | (simp only[go_sem,Nat.reduceEqDiff,Nat.reduceAdd,Nat.reduceSub,Nat.reduceLeDiff,Nat.reduceMul,Nat.reduceBEq,Nat.reduceLT,Int.reduceToNat,reduceCtorEq,hb1];first | done | exact rfl | (and_intros<;>rfl)) | exact rfl | decide));(focus (first | (simp only[go_sem,Nat.reduceEqDiff,Nat.reduceAdd,Nat.reduceSub,Nat.reduceLeDiff,Nat.reduceMul,Nat.reduceBEq,Nat.reduceLT,Int.reduceToNat,reduceCtorEq];first | done | exact rfl | (and_intros<;>rfl)) | exact rfl | decide));(focus (first | (simp only[go_sem,Nat.reduceEqDiff,Nat.reduceAdd,Nat.reduceSub,Nat.reduceLeDiff,Nat.reduceMul,Nat.reduceBEq,Nat.reduceLT,Int.reduceToNat,reduceCtorEq];first | done | exact rfl | (and_intros<;>rfl)) | exact rfl | decide)))
   refine wRUN (j6 c3 hwi hR1 x1 hLw x2) ?_
   exact wRetOf (ret_of [((0,0),(0,0))] []) Tryz.results128 he
  ·have k0:((((3:Nat):Int))==0)=false:=rfl
   have k1:((((3:Nat):Int))==1)=false:=rfl
   have k2:((((3:Nat):Int))==2)=false:=rfl
   refine⟨L,a+2,by omega,by omega,by omega,?_⟩
   refine wEnter Tryz.func128 Tryz.ntmps128 ?_
   refine wRUN he ?_
   refine wCall (op_any_call [((0,0),(0,0))] [((0,0),(0,0))] hn1) trivial ?_
   refine wRUN trivial ?_
   refine wCall (op_any_call [((0,0),(0,0))] [((0,0),(0,0))] hn2) trivial ?_
   refine wRUN (j5 k0 k1 k2 c1 hL) ?_
   exact wRetOf (ret_of [((0,0),(0,0))] []) Tryz.results128 he
def loopA (bs:List Nat):Nat→Nat→Nat→ByteArray→ByteArray×Nat
 | 0,_,a,t=>(t,a)
 |n+1,k,a,t=>if k<19+nextN bs a 3 then loopA bs n (k+1) (a+1) (⟨#[91]⟩++t++⟨#[93]⟩) else (t,a+1)
def loopB (bs:List Nat):Nat→Nat→Nat→ByteArray→ByteArray×Nat
 | 0,_,a,t=>(t,a)
 |n+1,k,a,t=>if k<198+nextN bs a 2 then loopB bs n (k+1) (a+1) (t++⟨#[44,49]⟩) else (t,a+1)
def loopC (bs:List Nat):Nat→Nat→ByteArray→ByteArray×Nat
 | 0,a,t=>(t,a)
 |n+1,a,t=>if t.size<4000+nextN bs a 2 then loopC bs n (a+1) (t++⟨#[32,32]⟩) else (t,a+1)
theorem loopA_in (bs:List Nat):∀(n k a:Nat) (t:ByteArray),(loopA bs n k a t).1.size≤t.size+2*n∧a≤(loopA bs n k a t).2∧(loopA bs n k a t).2≤a+n
 | 0,_,a,t=>⟨Nat.le_refl _,Nat.le_refl _,Nat.le_refl _⟩
 |n+1,k,a,t=>by
  unfold loopA
  split
  ·obtain⟨h1,h2,h3⟩:=loopA_in bs n (k+1) (a+1) (⟨#[91]⟩++t++⟨#[93]⟩)
   rw[ByteArray.size_append,ByteArray.size_append]at h1
   change _≤1+t.size+1+2*n at h1
   exact⟨by omega,by omega,by omega⟩
  ·exact⟨by show t.size≤_;omega,Nat.le_succ _,by show a+1≤_;omega⟩
theorem loopB_in (bs:List Nat):∀(n k a:Nat) (t:ByteArray),(loopB bs n k a t).1.size≤t.size+2*n∧a≤(loopB bs n k a t).2∧(loopB bs n k a t).2≤a+n
 | 0,_,a,t=>⟨Nat.le_refl _,Nat.le_refl _,Nat.le_refl _⟩
 |n+1,k,a,t=>by
  unfold loopB
  split
  ·obtain⟨h1,h2,h3⟩:=loopB_in bs n (k+1) (a+1) (t++⟨#[44,49]⟩)
   rw[ByteArray.size_append]at h1
   change _≤t.size+2+2*n at h1
   exact⟨by omega,by omega,by omega⟩
  ·exact⟨by show t.size≤_;omega,Nat.le_succ _,by show a+1≤_;omega⟩
theorem loopC_in (bs:List Nat):∀(n a:Nat) (t:ByteArray),(loopC bs n a t).1.size≤t.size+2*n∧a≤(loopC bs n a t).2∧(loopC bs n a t).2≤a+n
 | 0,a,t=>⟨Nat.le_refl _,Nat.le_refl _,Nat.le_refl _⟩
 |n+1,a,t=>by
  unfold loopC
  split
  ·obtain⟨h1,h2,h3⟩:=loopC_in bs n (a+1) (t++⟨#[32,32]⟩)
   rw[ByteArray.size_append]at h1
   change _≤t.size+2+2*n at h1
   exact⟨by omega,by omega,by omega⟩
  ·exact⟨by show t.size≤_;omega,Nat.le_succ _,by show a+1≤_;omega⟩
end
end Go.Proofs.YtlciedpfjhkkdaaGreatDoor
