/- Texts of this proof: R16 R17 R18 G82. -/
import Derived.Lib.UnsafeStr
import Derived.Shelf.Strings.OnBuilder
import Derived.Test.YtlciedpfjhkkdaaGreatDoorKR14uM49
import Derived.Test.YtlciedpfjhkkdaaGreatDoorKG80uG81
set_option linter.all false
set_option maxHeartbeats 8000000
namespace Go.Proofs.YtlciedpfjhkkdaaGreatDoor
section
open Go.RowKit Go.Shelf
def join_ren:Ren where
 f:=fun x=>match x with
  | 156=>114
  | 165=>169
  | 166=>158
  | 169=>159
  | 240=>190
  | 241=>204
  | 276=>216
  | 277=>231
  |n=>n
 t:=fun x=>match x with
  | 31=>59
  | 9=>9
  | 3=>3
  | 4=>4
  | 0=>0
  | 20=>20
  | 72=>181
  | 76=>184
  | 70=>179
  | 37=>29
  | 75=>183
  | 127=>210
  | 164=>246
  | 5=>5
  | 80=>91
  |n=>n
 g:=fun x=>match x with
  |n=>n
theorem join_lays:Lays.n156 Tryz.prog join_ren where
 mixed:=follows_mixed
 f156:=by kernel_rfl
 f165:=by kernel_rfl
 f166:=by kernel_rfl
 f169:=by kernel_rfl
 f240:=by kernel_rfl
 f241:=by kernel_rfl
 f276:=by kernel_rfl
 f277:=by kernel_rfl
 t0:=Tryz.underlying0
 a0:=Tryz.isAgg0
 z0:=Tryz.sizeOf0
 v0:=Tryz.zeroValue0
 t3:=Tryz.underlying3
 a3:=Tryz.isAgg3
 z3:=Tryz.sizeOf3
 v3:=Tryz.zeroValue3
 t4:=Tryz.underlying4
 a4:=Tryz.isAgg4
 z4:=Tryz.sizeOf4
 v4:=Tryz.zeroValue4
 t9:=Tryz.underlying9
 a9:=Tryz.isAgg9
 z9:=Tryz.sizeOf9
 v9:=Tryz.zeroValue9
 t20:=Tryz.underlying20
 a20:=Tryz.isAgg20
 z20:=Tryz.sizeOf20
 v20:=Tryz.zeroValue20
 t31:=Tryz.underlying59
 a31:=Tryz.isAgg59
 z31:=Tryz.sizeOf59
 v31:=Tryz.zeroValue59
 t37:=Tryz.underlying29
 a37:=Tryz.isAgg29
 z37:=Tryz.sizeOf29
 v37:=Tryz.zeroValue29
 t70:=Tryz.underlying179
 a70:=Tryz.isAgg179
 z70:=Tryz.sizeOf179
 v70:=Tryz.zeroValue179
 t72:=Tryz.underlying181
 a72:=Tryz.isAgg181
 z72:=Tryz.sizeOf181
 v72:=Tryz.zeroValue181
 t75:=Tryz.underlying183
 a75:=Tryz.isAgg183
 z75:=Tryz.sizeOf183
 v75:=Tryz.zeroValue183
 t76:=Tryz.underlying184
 a76:=Tryz.isAgg184
 z76:=Tryz.sizeOf184
 v76:=Tryz.zeroValue184
 t127:=Tryz.underlying210
 a127:=Tryz.isAgg210
 z127:=Tryz.sizeOf210
 v127:=Tryz.zeroValue210
 t164:=Tryz.underlying246
 a164:=Tryz.isAgg246
 z164:=Tryz.sizeOf246
 v164:=Tryz.zeroValue246
theorem join_extra:Builder.Extra Tryz.prog join_ren where
 sizeBuilder:=by kernel_rfl
 liesBuilder:=by kernel_rfl
 t5:=Tryz.underlying5
 a5:=Tryz.isAgg5
 z5:=Tryz.sizeOf5
 v5:=Tryz.zeroValue5
 infoByte:=by kernel_rfl
 cellsByte:=by kernel_rfl
 sizeByte:=by kernel_rfl
 neB5:=by decide
theorem joinS_eq (sep:ByteArray):∀l:List ByteArray,(⟨(Lib.join (l.map (·.data.toList)) sep.data.toList).toArray⟩:ByteArray)=joinS sep l
 | []=>rfl
 | [x]=>by rw[List.map_cons,List.map_nil,Lib.join_one];rfl
 |x::y::r=>by
  have ih:=joinS_eq sep (y::r)
  rw[joinS_cons sep x (by simp),←ih]
  have e:Lib.join (List.map (fun x:ByteArray=>x.data.toList) (x::y::r)) sep.data.toList=x.data.toList++sep.data.toList++Lib.join (List.map (fun x:ByteArray=>x.data.toList) (y::r)) sep.data.toList:=by
   simp[Lib.join,List.intercalate]
  rw[e,←str_mk_append,←str_mk_append]
theorem join_ac (l:List ByteArray) (sep:ByteArray) (hl:l.length≤1000000) (hsz:(joinS sep l).size≤1000000000):AC Tryz.prog 114 [.c (.sl (l.map strCs)),.c (.str sep)] [] (.c (.str (joinS sep l))) []:=by
 refine AC.of_calls fun S w κ vs hv=>?_
 obtain⟨v,vs',rfl,h1,v2,vs2,rfl,⟨rfl,_⟩,rfl⟩:=hv
 obtain⟨A,cap,rfl,hcap,hc⟩:=cr_strs.1 h1
 by_cases h0:l=[]
 ·subst h0
  refine (Any.strings_Join_none join_lays join_extra A cap sep w).mono ?_
  rintro e w' ⟨rfl,rfl⟩
  exact⟨Below.refl _ _,_,rfl,fun T _ _=>⟨rfl,rfl⟩⟩
 ·have hp:0<l.length:=List.length_pos_iff.2 h0
  obtain⟨b,o,rfl,hb⟩:∃b o,A=some ⟨b,o,none⟩∧(b<w.heap.size∧∀(j:Nat) x,l[j]? = some x→w.cell? ⟨b,o+j,none⟩=some (.string x)):=by
   obtain⟨b,off,rfl,_,hbl,hcl⟩:=hc.2 (by simpa using hp)
   refine⟨b,off,rfl,hbl,fun j x hx=>?_⟩
   have:=hcl j [.string x] (by simp[hx]) 0 _ rfl
   simpa using this
  refine (Any.strings_Join join_lays join_extra b o cap l sep w hb.2 hb.1 (by omega) hcap ?_).mono ?_
  ·have:=joinS_eq sep l
   rw[←this]at hsz
   have h2:(⟨(Lib.join (l.map (·.data.toList)) sep.data.toList).toArray⟩:ByteArray).size=(Lib.join (l.map (·.data.toList)) sep.data.toList).length:=by show (List.toArray _).size=_;simp
   omega
  ·rintro e w' ⟨rfl,hbw⟩
   exact⟨hbw,_,rfl,fun T _ _=>⟨joinS_eq sep l▸rfl,rfl⟩⟩
end
section
open Go.RowKit
set_option maxRecDepth 10000
variable {o:Obj}
theorem encodeV_ac:∀(n:Nat) (t:V),t.count≤n→t.right→AC Tryz.prog 61 [t.av] (tabM o) (.c (.str t.txt)) (tabM o):=by
 intro n
 induction n with
 |zero=>intro t hn _;have:=count_pos t;omega
 |succ n ih =>
  intro t hn ht
  have hk:=right_kind ht
  have hnum:=right_num ht
  have hs:=okText_size (right_text ht)
  have hcase:t.kind=0∨t.kind=1∨t.kind=2∨t.kind=3∨t.kind=4∨(t.kind=5∨t.kind=6):=by omega
  rcases hcase with h | h | h | h | h | h
  ·have b0:(t.kind==0)=true:=by simp[h]
   have hr:nullS=⟨#[110,117,108,108]⟩:=rfl
   rw[txt_null h]
   refine wEnter Tryz.func61 Tryz.ntmps61 ?_
   refine wRUN b0 ?_
   exact wRetOf (ret_of [((8,0),(8,0))] []) Tryz.results61 hr
  ·have b0:(t.kind==0)=false:=by simp[h]
   have b1:(t.kind==1)=true:=by simp[h]
   have hr:falseS=⟨#[102,97,108,115,101]⟩:=rfl
   rw[txt_false h]
   refine wEnter Tryz.func61 Tryz.ntmps61 ?_
   refine wRUN (j2 b0 b1) ?_
   exact wRetOf (ret_of [((8,0),(8,0))] []) Tryz.results61 hr
  ·have b0:(t.kind==0)=false:=by simp[h]
   have b1:(t.kind==1)=false:=by simp[h]
   have b2:(t.kind==2)=true:=by simp[h]
   have hr:trueS=⟨#[116,114,117,101]⟩:=rfl
   rw[txt_true h]
   refine wEnter Tryz.func61 Tryz.ntmps61 ?_
   refine wRUN (j3 b0 b1 b2) ?_
   exact wRetOf (ret_of [((8,0),(8,0))] []) Tryz.results61 hr
  ·have b0:(t.kind==0)=false:=by simp[h]
   have b1:(t.kind==1)=false:=by simp[h]
   have b2:(t.kind==2)=false:=by simp[h]
   have b3:(t.kind==3)=true:=by simp[h]
   have h1:=formatInt_ac (o:=o) t.num (by omega) (by omega)
   rw[txt_num h]
   refine wEnter Tryz.func61 Tryz.ntmps61 ?_
   refine wRUN (j4 b0 b1 b2 b3) ?_
   refine wCall (op_any_call [((8,0),(8,0))] [((8,0),(8,0))] h1) trivial ?_
   refine wRUN trivial ?_
   exact wRetOf (ret_of [((8,0),(8,0))] []) Tryz.results61 b0
  ·have b0:(t.kind==0)=false:=by simp[h]
   have b1:(t.kind==1)=false:=by simp[h]
   have b2:(t.kind==2)=false:=by simp[h]
   have b3:(t.kind==3)=false:=by simp[h]
   have b4:(t.kind==4)=true:=by simp[h]
   have h1:=encodeString_ac t.text (by omega)
   rw[txt_str h]
   refine wEnter Tryz.func61 Tryz.ntmps61 ?_
   refine wRUN (j5 b0 b1 b2 b3 b4) ?_
   refine w7 (op_data [] h1) trivial ?_
   refine wRUN trivial ?_
   exact wRetOf (ret_of [((8,0),(8,0))] []) Tryz.results61 b0
  ·have b0:(t.kind==0)=false:=by simp;omega
   have b1:(t.kind==1)=false:=by simp;omega
   have b2:(t.kind==2)=false:=by simp;omega
   have b3:(t.kind==3)=false:=by simp;omega
   have b4:(t.kind==4)=false:=by simp;omega
   have hkl:=kids_len_le ht.2.1
   have hlk:(t.kids.map V.cs).length=t.kids.length:=by simp
   have h0:(t.parts.take 0).map strCs=[]:=rfl
   refine wEnter Tryz.func61 Tryz.ntmps61 ?_
   refine wRUN (j6 b0 b1 b2 b3 b4 hlk) ?_
   refine a_loop (κ:=Nat) (fun k=>⟨mkS 0 64 [(1,.ptr (1,0) 0),(3,.own (98,0)),(27,.c (.sl (t.kids.map V.cs))),(28,.c (.int .i64 t.kids.length)),(29,.c (.int .i64 k))],
     [((1,0),.box [.c (.int .i64 t.kind),.c (.int .i64 t.num),.c (.str t.text),.c (.sl (t.keys.map strCs)),.c (.sl (t.kids.map V.cs))]),((98,0),.row false 1 9 ((t.parts.take k).map strCs)),((8,0),.blk (tabR o) [])]⟩)
    (fun k=>k≤t.kids.length) (fun k=>t.kids.length-k) 0 (Nat.zero_le _) ?_ ?_
   ·exact wSays (Says.of [((1,0),(1,0)),((98,0),(25,0)),((8,0),(8,0))] []) h0
   ·intro k hk1
    have hz:=join_size ht hk1
    by_cases hlt:k<t.kids.length
    ·have hdk:decide ((k:Int)<(t.kids.length:Int))=true:=by simpa using hlt
     have hw:=wrap_succ (k:=k) (by omega)
     have hr:rowsAt (t.kids.map V.cs) 5 k=true:=by simp[rowsAt,hlt,V.cs_eq]
     have hg:(t.kids.map V.cs)[k]? = some [.int .i64 t.kids[k].kind,.int .i64 t.kids[k].num,.str t.kids[k].text,.sl (t.kids[k].keys.map strCs),.sl (t.kids[k].kids.map V.cs)]:=by simp[hlt,V.cs_eq]
     have hks:=right_keyAt ht k
     have hes:=encS_size hks
     have hqk:=encodeString_ac (t.keyAt k) (by omega)
     have hmem:t.kids[k]∈t.kids:=List.getElem_mem hlt
     have hcm:=countL_mem hmem
     have hck:=count_kids t
     have hxs:=txt_size' (right_mem ht hmem)
     have he:=ih t.kids[k] (by omega) (right_mem ht hmem)
     have hpl:(t.parts.take k).length+1≤1000000:=by rw[List.length_take];omega
     have hnext:(t.parts.take k).map strCs++[[.str (t.part k t.kids[k])]]=(t.parts.take (k+1)).map strCs:=by
      rw[List.take_succ_eq_append_getElem (by rw[parts_len];exact hlt),parts_at t hlt,List.map_append];rfl
     unfold V.part at hnext
     rcases h with h | h
     ·have b6:(t.kind==6)=false:=by simp[h]
      rw[if_neg (by omega)]at hnext
      generalize t.kids[k]=x at *
      refine wRUN (j3 hdk hr hg) ?_
      refine wCall (op_any_call [((8,0),(8,0))] [((8,0),(8,0))] he) trivial ?_
      refine wRUN (j3 b6 hpl hw) ?_
      refine⟨k+1,by omega,by omega,?_⟩
      exact wSays (Says.of [((1,0),(1,0)),((98,0),(51,0)),((8,0),(8,0))] []) hnext
     ·have b6:(t.kind==6)=true:=by simp[h]
      rw[if_pos h]at hnext
      obtain⟨hkk,hkey⟩:=keyAt_get (right_neat ht) h hlt
      have hrk:rowsAt (t.keys.map strCs) 1 k=true:=by simp[rowsAt,hkk,strCs]
      have hgk:(t.keys.map strCs)[k]? = some [.str (t.keyAt k)]:=by simp[hkk,strCs,hkey]
      generalize t.kids[k]=x at *
      generalize t.keyAt k=key at *
      have x1:(encS key).size+1≤9223372036854775807:=by omega
      have x2:(encS key++bS 58).size+x.txt.size≤9223372036854775807:=by simp only[ByteArray.size_append,one_size];omega
      generalize hv1:encS key++bS 58=v1 at *
      refine wRUN (j3 hdk hr hg) ?_
      refine wCall (op_any_call [((8,0),(8,0))] [((8,0),(8,0))] he) trivial ?_
      refine wRUN (j3 b6 hrk hgk) ?_
      refine w7 (op_data [] hqk) trivial ?_
      refine wRUN (j5 x1 hv1 x2 hpl hw) ?_
      refine⟨k+1,by omega,by omega,?_⟩
      exact wSays (Says.of [((1,0),(1,0)),((98,0),(51,0)),((8,0),(8,0))] []) hnext
    ·have hdk:decide ((k:Int)<(t.kids.length:Int))=false:=by simpa using hlt
     obtain rfl:k=t.kids.length:=by omega
     have hall:t.parts.take t.kids.length=t.parts:=List.take_of_length_le (by rw[parts_len];exact Nat.le_refl _)
     rw[hall]at hz
     have hj:=join_ac t.parts (bS 44) (by rw[parts_len];omega) (by omega)
     have hx1:1+(joinS (bS 44) t.parts).size≤9223372036854775807:=by omega
     rcases h with h | h
     ·have b5:(t.kind==5)=true:=by simp[h]
      have hx2:(bS 91++joinS (bS 44) t.parts).size+1≤9223372036854775807:=by rw[ByteArray.size_append,one_size];omega
      have ht5:=(txt_arr h).symm
      generalize hv1:bS 91++joinS (bS 44) t.parts=v1 at *
      refine wRUN (j3 hdk b5 hall) ?_
      refine w7 (op_data [(98,0)] hj) trivial ?_
      refine wRUN (j4 hx1 hv1 hx2 ht5) ?_
      exact wRetOf (ret_of [((8,0),(8,0))] []) Tryz.results61 ht5
     ·have b5:(t.kind==5)=false:=by simp[h]
      have hx2:(bS 123++joinS (bS 44) t.parts).size+1≤9223372036854775807:=by rw[ByteArray.size_append,one_size];omega
      have ht5:=(txt_obj h).symm
      generalize hv1:bS 123++joinS (bS 44) t.parts=v1 at *
      refine wRUN (j3 hdk b5 hall) ?_
      refine w7 (op_data [(98,0)] hj) trivial ?_
      refine wRUN (j4 hx1 hv1 hx2 ht5) ?_
      exact wRetOf (ret_of [((8,0),(8,0))] []) Tryz.results61 ht5
theorem encodeR_ac {t:V}(h:t.right):AC Tryz.prog 61 [t.av] (tabM o) (.c (.str t.txt)) (tabM o):=encodeV_ac _ t (Nat.le_refl _) h
end
section
open Go.RowKit
set_option maxRecDepth 10000
def ValAC (bs:List Nat) (d:Nat):Prop:=∀a,a+capB d≤900000→AC Tryz.prog 85 [.ptr (0,0) 0,.c (.int .i64 ((d+1:Nat):Int))] (srcM bs a) (.own (0,1)) (valM bs (valD bs d a))
theorem l1Value_arr (bs:List Nat) (hb:BytesOk bs) {d:Nat}(hd:d≤4) (ih:ValAC bs d) (a:Nat) (ha:a+capB (d+1)≤900000) (hk:nextN bs a 10=7∨nextN bs a 10=8) :
  AC Tryz.prog 85 [.ptr (0,0) 0,.c (.int .i64 ((d+2:Nat):Int))] (srcM bs a) (.own (0,1)) (valM bs (arrV (drawL (valD bs d) (nextN bs (a+1) 4) (a+2)).1,(drawL (valD bs d) (nextN bs (a+1) 4) (a+2)).2)):=by
 have hb1:capB (d+1)=5+3*(1+capB d):=rfl
 have hc:=l1Next_ac bs hb a 10 (by omega) (by omega)
 have n1:=l1Next_ac bs hb (a+1) 4 (by omega) (by omega)
 have hn:=nextN_lt bs (a+1) (n:=4) (by omega)
 have hok:=valD_ok bs d
 have hcc:capC d≤400:=by
  have:d=0∨d=1∨d=2∨d=3∨d=4:=by omega
  rcases this with rfl | rfl | rfl | rfl | rfl<;>decide
 obtain⟨g1,g2,g3,g4,g5,g6⟩:=drawL_ok hok (nextN bs (a+1) 4) (a+2)
 have hdp:decide (((d+2:Nat):Int)≤1)=false:=decide_eq_false (by omega)
 have hdw:IntKind.i64.wrap (((d+2:Nat):Int)-1)=((d+1:Nat):Int):=wrapN (by omega) (by omega)
 have hm1:nextN bs (a+1) 4*capC d≤3*capC d:=Nat.mul_le_mul_right _ (by omega)
 obtain⟨q,hq⟩:∃q,drawL (valD bs d) (nextN bs (a+1) 4) (a+2)=q:=⟨_,rfl⟩
 rw[hq]at g1 g2 g3 g4 g5 g6 ⊢
 have har:=l1Array_ac q.1 (by simp only[arrV,V.count];omega)
 generalize nextN bs (a+1) 4=n at *
 have hz:(([]:List V).map V.enc).map oslCs=[]:=rfl
 obtain⟨z,hzr⟩:∃z:Int,((nextN bs a 10:Nat):Int)=z:=⟨_,rfl⟩
 rw[hzr]at hc
 have hzz:z=7∨z=8:=by omega
 rcases hzz with rfl | rfl
 all_goals
  refine wEnter Tryz.func85 Tryz.ntmps85 ?_
  refine wRUN trivial ?_
  refine wCall (op_any_call [((0,0),(0,0))] [((0,0),(0,0))] hc) trivial ?_
  (repeat (first | (with_reducible first | refine a_seq ?_ | refine a_region ?_ | refine a_block ?_ | refine a_scope ?_) | ((with_reducible apply op_any);(iterate 2 (focus (first | (simp only[go_sem,Nat.reduceEqDiff,Nat.reduceAdd,Nat.reduceSub,Nat.reduceLeDiff,Nat.reduceMul,Nat.reduceBEq,Nat.reduceLT,Int.reduceToNat,reduceCtorEq,hdp,Int.reduceBEq,Int.reduceGT,Int.reduceLT,decide_true,decide_false];first | done | exact rfl | (and_intros<;>rfl)) | exact rfl | decide)))) | ((with_reducible refine o_nil ?_);dsimp only;try ((with_reducible apply o_draw);(focus (simp only[go_sem];exact rfl));(focus decide))) | ((with_reducible first | refine a_ret ?_ | refine a_skip ?_ | refine a_label ?_);dsimp only) | ((with_reducible refine a_exit ?_);dsimp only;simp only[if_true,if_false,Nat.reduceEqDiff]) | ((with_reducible apply a_if);(focus (simp only[go_sem,Nat.reduceBEq,Nat.reduceLT,hdp,Int.reduceBEq,Int.reduceGT,Int.reduceLT,decide_true,decide_false];exact rfl));dsimp only[cond_true,cond_false]) | ((with_reducible refine a_draw ?_ ?_);(focus exact rfl))))
  refine wCall (op_any_call [((0,0),(0,0))] [((0,0),(0,0))] n1) trivial ?_
  refine wRUN trivial ?_
  refine a_loop (κ:=List V×Nat×Nat) (fun x=>⟨mkS 0 91 [(0,.ptr (0,0) 0),(1,.c (.int .i64 ((d+2:Nat):Int))),(6,.own (99,0)),(7,.c (.int .i64 (x.2.1:Int)))],
    [((0,0),srcO bs x.2.2),((99,0),.row true 1 22 ((x.1.map V.enc).map oslCs))]⟩)
   (fun x=>x.1.length+x.2.1≤3∧x.2.2+x.2.1*capB d≤a+2+3*capB d∧x.1++(drawL (valD bs d) x.2.1 x.2.2).1=q.1∧(drawL (valD bs d) x.2.1 x.2.2).2=q.2) (fun x=>x.2.1) ([],n,a+2) ⟨by show 0+n≤3;omega,Nat.add_le_add_left (Nat.mul_le_mul_right _ (show n≤3 by omega)) _,by rw[List.nil_append,hq],by rw[hq]⟩ ?_ ?_
  ·exact wSays (Says.of [((0,0),(0,0)),((99,0),(52,0))] []) hz
  ·rintro⟨vs,m,a1⟩ ⟨i1,i2,i3,i4⟩
   dsimp only at i1 i2 i3 i4 ⊢
   cases m with
   |zero =>
    have e1:vs=q.1:=by rw[←i3];simp[drawL]
    have e2:a1=q.2:=i4
    rw[e1,e2]
    have h0:decide (((0:Nat):Int)>0)=false:=rfl
    generalize q.1=qs at *
    generalize q.2=q2 at *
    refine wRUN h0 ?_
    refine w12 (op_rowF [(99,0)] har) trivial ?_
    refine wRUN trivial ?_
    exact wRetOf (ret_of [((0,0),(0,0)),((0,1),(67,0))] []) Tryz.results85 hdp
   |succ m =>
    rw[Nat.succ_mul]at i2
    have ihc:=ih a1 (by omega)
    obtain⟨o1,o2,o3,o4,o5⟩:=hok a1
    have h0:decide (((m+1:Nat):Int)>0)=true:=decide_eq_true (by omega)
    have hw:IntKind.i64.wrap (((m+1:Nat):Int)-1)=(m:Int):=wrapN (by omega) (by omega)
    have hol:vs.length+1≤1000000:=by omega
    have i3':(vs++[(valD bs d a1).1])++(drawL (valD bs d) m (valD bs d a1).2).1=q.1:=by rw[List.append_assoc];exact i3
    have i4':(drawL (valD bs d) m (valD bs d a1).2).2=q.2:=i4
    generalize valD bs d a1=v at *
    have hrow:(vs.map V.enc).map oslCs++[[C.osl (v.1.enc.map CellD.cs)]]=((vs++[v.1]).map V.enc).map oslCs:=by rw[List.map_append,List.map_append];rfl
    refine wRUN (j2 h0 hdw) ?_
    refine wCall (op_any_call [((0,0),(0,0))] [((0,0),(0,0)),((0,1),(63,0))] ihc) trivial ?_
    refine wRUN (j2 hol hw) ?_
    refine⟨(vs++[v.1],m,v.2),by dsimp only;omega,⟨by dsimp only;simp;omega,by dsimp only;omega,i3',i4'⟩,?_⟩
    dsimp only
    rw[←hrow]
    exact wSays (Says.of [((0,0),(0,0)),((99,0),(65,0))] []) hol
theorem l1Value_obj (bs:List Nat) (hb:BytesOk bs) {d:Nat}(hd:d≤4) (ih:ValAC bs d) (a:Nat) (ha:a+capB (d+1)≤900000) (hk:nextN bs a 10=9) :
  AC Tryz.prog 85 [.ptr (0,0) 0,.c (.int .i64 ((d+2:Nat):Int))] (srcM bs a) (.own (0,1)) (valM bs (objV (drawK bs (valD bs d) (nextN bs (a+1) 4) (a+2)).1 (drawK bs (valD bs d) (nextN bs (a+1) 4) (a+2)).2.1,(drawK bs (valD bs d) (nextN bs (a+1) 4) (a+2)).2.2)):=by
 have hb1:capB (d+1)=5+3*(1+capB d):=rfl
 have hc:=l1Next_ac bs hb a 10 (by omega) (by omega)
 have n1:=l1Next_ac bs hb (a+1) 4 (by omega) (by omega)
 have hn:=nextN_lt bs (a+1) (n:=4) (by omega)
 have hok:=valD_ok bs d
 have hcc:capC d≤400:=by
  have:d=0∨d=1∨d=2∨d=3∨d=4:=by omega
  rcases this with rfl | rfl | rfl | rfl | rfl<;>decide
 obtain⟨g1,g0,g7,g2,g3,g4,g5,g6⟩:=drawK_ok bs hok (nextN bs (a+1) 4) (a+2)
 have hdp:decide (((d+2:Nat):Int)≤1)=false:=decide_eq_false (by omega)
 have hdw:IntKind.i64.wrap (((d+2:Nat):Int)-1)=((d+1:Nat):Int):=wrapN (by omega) (by omega)
 have hm1:nextN bs (a+1) 4*capC d≤3*capC d:=Nat.mul_le_mul_right _ (by omega)
 obtain⟨q,hq⟩:∃q,drawK bs (valD bs d) (nextN bs (a+1) 4) (a+2)=q:=⟨_,rfl⟩
 rw[hq]at g1 g0 g7 g2 g3 g4 g5 g6 ⊢
 have har:=l1Object_ac q.1 q.2.1 (by omega) (by omega)
 generalize nextN bs (a+1) 4=n at *
 have hz:(([]:List V).map V.enc).map oslCs=[]:=rfl
 have hz1:([]:List ByteArray).map strCs=[]:=rfl
 have hzr:((nextN bs a 10:Nat):Int)=9:=by omega
 rw[hzr]at hc
 refine wEnter Tryz.func85 Tryz.ntmps85 ?_
 refine wRUN trivial ?_
 refine wCall (op_any_call [((0,0),(0,0))] [((0,0),(0,0))] hc) trivial ?_
 (repeat (first | (with_reducible first | refine a_seq ?_ | refine a_region ?_ | refine a_block ?_ | refine a_scope ?_) | ((with_reducible apply op_any);(iterate 2 (focus (first | (simp only[go_sem,Nat.reduceEqDiff,Nat.reduceAdd,Nat.reduceSub,Nat.reduceLeDiff,Nat.reduceMul,Nat.reduceBEq,Nat.reduceLT,Int.reduceToNat,reduceCtorEq,hdp,Int.reduceBEq,Int.reduceGT,Int.reduceLT,decide_true,decide_false];first | done | exact rfl | (and_intros<;>rfl)) | exact rfl | decide)))) | ((with_reducible refine o_nil ?_);dsimp only;try ((with_reducible apply o_draw);(focus (simp only[go_sem];exact rfl));(focus decide))) | ((with_reducible first | refine a_ret ?_ | refine a_skip ?_ | refine a_label ?_);dsimp only) | ((with_reducible refine a_exit ?_);dsimp only;simp only[if_true,if_false,Nat.reduceEqDiff]) | ((with_reducible apply a_if);(focus (simp only[go_sem,Nat.reduceBEq,Nat.reduceLT,hdp,Int.reduceBEq,Int.reduceGT,Int.reduceLT,decide_true,decide_false];exact rfl));dsimp only[cond_true,cond_false]) | ((with_reducible refine a_draw ?_ ?_);(focus exact rfl))))
 refine wCall (op_any_call [((0,0),(0,0))] [((0,0),(0,0))] n1) trivial ?_
 refine wRUN trivial ?_
 refine a_loop (κ:=List ByteArray×List V×Nat×Nat) (fun x=>⟨mkS 0 91 [(0,.ptr (0,0) 0),(1,.c (.int .i64 ((d+2:Nat):Int))),(8,.own (98,0)),(9,.own (99,0)),(10,.c (.int .i64 (x.2.2.1:Int)))],
   [((0,0),srcO bs x.2.2.2),((98,0),.row false 1 9 (x.1.map strCs)),((99,0),.row true 1 22 ((x.2.1.map V.enc).map oslCs))]⟩)
  (fun x=>x.1.length+x.2.2.1≤3∧x.2.1.length=x.1.length∧x.2.2.2+x.2.2.1*(capB d+1)≤a+2+3*(capB d+1)∧x.1++(drawK bs (valD bs d) x.2.2.1 x.2.2.2).1=q.1∧x.2.1++(drawK bs (valD bs d) x.2.2.1 x.2.2.2).2.1=q.2.1∧(drawK bs (valD bs d) x.2.2.1 x.2.2.2).2.2=q.2.2) (fun x=>x.2.2.1) ([],[],n,a+2) ⟨by show 0+n≤3;omega,rfl,Nat.add_le_add_left (Nat.mul_le_mul_right _ (show n≤3 by omega)) _,by rw[List.nil_append,hq],by rw[List.nil_append,hq],by rw[hq]⟩ ?_ ?_
 ·exact wSays (Says.of [((0,0),(0,0)),((98,0),(68,0)),((99,0),(69,0))] []) (j2 hz hz1)
 ·rintro⟨ks,vs,m,a1⟩ ⟨i1,i0,i2,i3,i5,i4⟩
  dsimp only at i1 i0 i2 i3 i4 i5 ⊢
  cases m with
  |zero =>
   have e1:ks=q.1:=by rw[←i3];simp[drawK]
   have e3:vs=q.2.1:=by rw[←i5];simp[drawK]
   have e2:a1=q.2.2:=i4
   rw[e1,e2,e3]
   have h0:decide (((0:Nat):Int)>0)=false:=rfl
   generalize q.1=qk at *
   generalize q.2.1=qs at *
   generalize q.2.2=q2 at *
   refine wRUN h0 ?_
   refine w12 (op_rowF [(98,0),(99,0)] har) trivial ?_
   refine wRUN trivial ?_
   exact wRetOf (ret_of [((0,0),(0,0)),((0,1),(90,0))] []) Tryz.results85 hdp
  |succ m =>
   rw[Nat.succ_mul]at i2
   have kc:=l1Key_ac bs hb a1 (by omega)
   have ihc:=ih (a1+1) (by omega)
   obtain⟨o1,o2,o3,o4,o5⟩:=hok (a1+1)
   have h0:decide (((m+1:Nat):Int)>0)=true:=decide_eq_true (by omega)
   have hw:IntKind.i64.wrap (((m+1:Nat):Int)-1)=(m:Int):=wrapN (by omega) (by omega)
   have hol:vs.length+1≤1000000:=by omega
   have hol2:ks.length+1≤1000000:=by omega
   have i3':(ks++[keyN bs a1])++(drawK bs (valD bs d) m (valD bs d (a1+1)).2).1=q.1:=by rw[List.append_assoc];exact i3
   have i5':(vs++[(valD bs d (a1+1)).1])++(drawK bs (valD bs d) m (valD bs d (a1+1)).2).2.1=q.2.1:=by rw[List.append_assoc];exact i5
   have i4':(drawK bs (valD bs d) m (valD bs d (a1+1)).2).2.2=q.2.2:=i4
   generalize valD bs d (a1+1)=v at *
   generalize keyN bs a1=kn at *
   have hrow:(vs.map V.enc).map oslCs++[[C.osl (v.1.enc.map CellD.cs)]]=((vs++[v.1]).map V.enc).map oslCs:=by rw[List.map_append,List.map_append];rfl
   have hrow2:ks.map strCs++[[C.str kn]]=(ks++[kn]).map strCs:=by rw[List.map_append];rfl
   refine wRUN (j2 h0 hdw) ?_
   refine wCall (op_any_call [((0,0),(0,0))] [((0,0),(0,0))] kc) trivial ?_
   refine wRUN (j2 hol2 hdw) ?_
   refine wCall (op_any_call [((0,0),(0,0))] [((0,0),(0,0)),((0,1),(85,0))] ihc) trivial ?_
   refine wRUN (j2 hol hw) ?_
   refine⟨(ks++[kn],vs++[v.1],m,v.2),by dsimp only;omega,⟨by dsimp only;simp;omega,by dsimp only;simp[i0],by dsimp only;omega,i3',i5',i4'⟩,?_⟩
   dsimp only
   rw[←hrow,←hrow2]
   exact wSays (Says.of [((0,0),(0,0)),((98,0),(80,0)),((99,0),(87,0))] []) hol
theorem l1Value_ac (bs:List Nat) (hb:BytesOk bs):∀d,d≤4→ValAC bs d
 | 0,_=>fun a ha=>by
  have hk:=(kindD_le bs 0 a).2 rfl
  unfold valD
  have hb1:capB 0=5:=rfl
  exact l1Value_leaf bs hb a (by omega) _ true (by decide) _ (by unfold kindD;simp) hk
 |d+1,hd=>fun a ha=>by
  have ih:=l1Value_ac bs hb d (by omega)
  have hk:=(kindD_le bs (d+1) a).1
  have hkr:kindD bs (d+1) a=nextN bs a 10:=by unfold kindD;simp
  have hb1:capB (d+1)=5+3*(1+capB d):=rfl
  unfold valD
  rw[hkr]at hk ⊢
  split
  ·rename_i h6
   exact l1Value_leaf bs hb a (by omega) _ false (decide_eq_false (by omega)) _ (by simp) h6
  ·split
   ·exact l1Value_arr bs hb (by omega) ih a ha (by omega)
   ·exact l1Value_obj bs hb (by omega) ih a ha (by omega)
end
end Go.Proofs.YtlciedpfjhkkdaaGreatDoor
