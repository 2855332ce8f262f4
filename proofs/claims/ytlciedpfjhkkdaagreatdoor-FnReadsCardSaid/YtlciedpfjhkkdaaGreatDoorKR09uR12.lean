/- Texts of this proof: R09 R10 R11 G26 G55 R12. -/
import Derived.Shelf.Strconv.Itoa4
import Derived.Test.YtlciedpfjhkkdaaGreatDoorKE35uD01
import Derived.Lib.ItoaLen
import Derived.Lib.ItoaMem
import Derived.Test.YtlciedpfjhkkdaaGreatDoorKR06uR08
import Derived.Test.YtlciedpfjhkkdaaGreatDoorKG22uG9
set_option linter.all false
set_option maxHeartbeats 8000000
namespace Go.Proofs.YtlciedpfjhkkdaaGreatDoor
section
open Go.RowKit Go.Shelf
def fmtInt_ren:Ren where
 f:=fun x=>match x with
  | 173=>112
  | 246=>166
  | 283=>198
  | 284=>199
  | 285=>200
  | 286=>201
  | 129=>224
  | 317=>223
  | 318=>225
  | 319=>226
  | 320=>227
  | 337=>250
  | 338=>251
  |n=>n
 t:=fun x=>match x with
  | 2=>2
  | 3=>3
  | 9=>9
  | 4=>4
  | 171=>215
  | 0=>0
  | 53=>216
  | 37=>29
  | 5=>5
  | 173=>219
  | 212=>253
  | 51=>224
  | 20=>20
  | 213=>254
  | 46=>243
  | 232=>299
  | 233=>300
  |n=>n
 g:=fun x=>match x with
  | 17=>1
  | 18=>4
  | 19=>5
  |n=>n
theorem fmtInt_lays:LaysM.n173 Tryz.prog fmtInt_ren where
 mixed:=follows_mixed
 f129:=by kernel_rfl
 f173:=by kernel_rfl
 f246:=by kernel_rfl
 f283:=by kernel_rfl
 f284:=by kernel_rfl
 f285:=by kernel_rfl
 f286:=by kernel_rfl
 f317:=by kernel_rfl
 f318:=by kernel_rfl
 f319:=by kernel_rfl
 f320:=by kernel_rfl
 f337:=by kernel_rfl
 f338:=by kernel_rfl
 t0:=Tryz.underlying0
 a0:=Tryz.isAgg0
 z0:=Tryz.sizeOf0
 v0:=Tryz.zeroValue0
 t2:=Tryz.underlying2
 a2:=Tryz.isAgg2
 z2:=Tryz.sizeOf2
 v2:=Tryz.zeroValue2
 t3:=Tryz.underlying3
 a3:=Tryz.isAgg3
 z3:=Tryz.sizeOf3
 v3:=Tryz.zeroValue3
 t4:=Tryz.underlying4
 a4:=Tryz.isAgg4
 z4:=Tryz.sizeOf4
 v4:=Tryz.zeroValue4
 t5:=Tryz.underlying5
 a5:=Tryz.isAgg5
 z5:=Tryz.sizeOf5
 v5:=Tryz.zeroValue5
 t9:=Tryz.underlying9
 a9:=Tryz.isAgg9
 z9:=Tryz.sizeOf9
 v9:=Tryz.zeroValue9
 t20:=Tryz.underlying20
 a20:=Tryz.isAgg20
 z20:=Tryz.sizeOf20
 v20:=Tryz.zeroValue20
 t37:=Tryz.underlying29
 a37:=Tryz.isAgg29
 z37:=Tryz.sizeOf29
 v37:=Tryz.zeroValue29
 t46:=Tryz.underlying243
 a46:=Tryz.isAgg243
 z46:=Tryz.sizeOf243
 v46:=Tryz.zeroValue243
 t51:=Tryz.underlying224
 a51:=Tryz.isAgg224
 z51:=Tryz.sizeOf224
 v51:=Tryz.zeroValue224
 t53:=Tryz.underlying216
 a53:=Tryz.isAgg216
 z53:=Tryz.sizeOf216
 v53:=Tryz.zeroValue216
 t171:=Tryz.underlying215
 a171:=Tryz.isAgg215
 z171:=Tryz.sizeOf215
 v171:=Tryz.zeroValue215
 t173:=Tryz.underlying219
 a173:=Tryz.isAgg219
 z173:=Tryz.sizeOf219
 v173:=Tryz.zeroValue219
 t212:=Tryz.underlying253
 a212:=Tryz.isAgg253
 z212:=Tryz.sizeOf253
 v212:=Tryz.zeroValue253
 t213:=Tryz.underlying254
 a213:=Tryz.isAgg254
 z213:=Tryz.sizeOf254
 t232:=Tryz.underlying299
 a232:=Tryz.isAgg299
 z232:=Tryz.sizeOf299
 v232:=Tryz.zeroValue299
 t233:=Tryz.underlying300
 a233:=Tryz.isAgg300
 z233:=Tryz.sizeOf300
 v233:=Tryz.zeroValue300
 g17:=by kernel_rfl
 g18:=by kernel_rfl
 g19:=by kernel_rfl
 i0:=by kernel_rfl
 i2:=by kernel_rfl
 i3:=by kernel_rfl
 i4:=by kernel_rfl
 i5:=by kernel_rfl
 i9:=by kernel_rfl
 i20:=by kernel_rfl
 i37:=by kernel_rfl
 i46:=by kernel_rfl
 i51:=by kernel_rfl
 i53:=by kernel_rfl
 i171:=by kernel_rfl
 i173:=by kernel_rfl
 i212:=by kernel_rfl
 i232:=by kernel_rfl
 i233:=by kernel_rfl
 m17:=by kernel_rfl
 m18:=by kernel_rfl
 m19:=by kernel_rfl
def tabR (o : Obj) (b : Nat) (_ : Value) (_ : List (List Value)) (obj : Obj) : Prop := obj = o ∧ Tryz.prog.globalNamed "internal/strconv.uint64pow10" = some b ∧ ∀ w : World, w.heap[b]? = some obj → Lib.TabIs Tryz.prog w "internal/strconv.uint64pow10" .u64 Lib.pow10Tab
abbrev tabM (o:Obj):Mem:=[((8,0),.blk (tabR o) [])]
theorem AC.of_tab {o:Obj}{f:FuncId}{args:List AV}{res:AV}
  (h : ∀ (S : Nat → Prop) (w : World) (m : Mem) (κ : Id → Value) (vals : List Value), Lib.TabIs Tryz.prog w "internal/strconv.uint64pow10" .u64 Lib.pow10Tab → ARs w S m κ args vals → Calls Tryz.prog f vals.toArray w fun e w' => Below w.heap.size w w' ∧ ∃ v, e = .returned v ∧ ∀ T : Nat → Prop, (∀ b, S b → T b) → (∀ b, w.heap.size ≤ b → T b) → AR w' T m κ res v) : AC Tryz.prog f args (tabM o) res (tabM o) := by
 intro Γ vals hE hA
 obtain⟨b,obj,vrows,h1,h2,h3,h4⟩:=hE.objs (8,0) _ rfl
 refine (h _ _ _ _ _ (h4.2.2 _ h2) hA).mono ?_
 rintro e w' ⟨hb,v,rfl,hv⟩
 have hlt:∀b i,Γ.ow b=some i→b < Γ.w.heap.size:=fun b i hbi=>(hE.own b i hbi).1
 have hnone:∀b,Γ.w.heap.size≤b→Γ.ow b=none:=by
  intro b hb
  cases hbi:Γ.ow b with
  |none=>rfl
  |some i=>have:=hlt b i hbi;omega
 refine⟨v,Γ.ow,Γ.κ,rfl,⟨hv _ (fun _ h=>h) (fun b hb=>⟨hnone b hb,.inr (.inl hb)⟩),?_,?_,hb.os,hb.tape,hb.output,hb.size,fun b hl ho=>⟨hb.block b hl,ho⟩,fun i o1 o2 _ _=>rfl⟩⟩
 ·intro i o' hi
  obtain⟨rfl,rfl⟩:i=(8,0)∧o'=.blk (tabR o) []:=by
   simp only[Mem.get,List.lookup_cons,List.lookup_nil]at hi
   by_cases hq:i=(8,0)
   ·subst hq
    simpa [eq_comm] using hi
   ·have:(i==((8,0):Id))=false:=by simpa using hq
    rw[this]at hi
    cases hi
  refine⟨b,obj,vrows,h1,(hb.block b (hlt b _ h1)).trans h2,?_,h4⟩
  simp only[CRss]at h3 ⊢
  exact h3
 ·intro b i hbi
  obtain⟨k1,o1,k2,k3⟩:=hE.own b i hbi
  exact⟨Nat.lt_of_lt_of_le k1 hb.size,o1,k2,k3⟩
def numS (n:Int):ByteArray:=⟨(Lib.itoa n).toArray⟩
theorem formatInt_ac {o:Obj}(n:Int) (h0:-9223372036854775808≤n) (h1:n≤9223372036854775807):AC Tryz.prog 112 [.c (.int .i64 n),.c (.int .i64 10)] (tabM o) (.c (.str (numS n))) (tabM o):=by
 refine AC.of_tab fun S w m κ vals ht hv=>?_
 obtain⟨v,vs,rfl,⟨rfl,_⟩,u,us,rfl,⟨rfl,_⟩,rfl⟩:=hv
 refine (Any.strconv_FormatInt_10 fmtInt_lays n h0 h1 w ht).mono ?_
 rintro e w' ⟨rfl,k,os,rfl⟩
 exact⟨⟨rfl,rfl,rfl,by simp[Sort.grow],fun b hb=>Sort.heap_grow_old (w.drewN k) os hb⟩,_,rfl,fun T _ _=>⟨rfl,rfl⟩⟩
end
section
open Go.RowKit
set_option maxRecDepth 10000
theorem str_mk_append (a b:List UInt8):(⟨a.toArray⟩:ByteArray)++⟨b.toArray⟩=⟨(a++b).toArray⟩:=by
 apply ByteArray.ext
 simp
theorem digits_size (n:Nat) (h:n≤9223372036854775807):(⟨(Lib.decDigits n).toArray⟩:ByteArray).size≤21:=by
 have h1:=Lib.itoa_length_le n (by omega) (by omega)
 rw[Lib.itoa_nonneg]at h1
 show (Lib.decDigits n).toArray.size≤21
 simpa using h1
theorem digit_cells (n:Nat) (h:n<10):byteRows [UInt8.ofNat (48+n)]=[[.int .u8 (48+(n:Int))]]:=by
 have:(UInt8.ofNat (48+n)).toNat=48+n:=by simp;omega
 simp only[byteRows,List.map_cons,List.map_nil,this]
 rfl
theorem u8_wrap {n:Int}(h0:0≤n) (h1:n<256):IntKind.u8.wrap n=n:=IntWalk.u8_in _ (by omega)
theorem digits_ac:∀(k n:Nat),n<k→n≤9223372036854775807→AC Tryz.prog 206 [.c (.int .i64 n)] [] (.c (.str ⟨(Lib.decDigits n).toArray⟩)) []:=by
 intro k
 induction k with
 |zero=>intro n h;omega
 |succ k ih =>
  intro n hn hm
  have t1:=Tryz.underlying29
  have t2:=Tryz.underlying5
  have t3:=Tryz.underlying9
  by_cases h:n<10
  ·have hd:decide ((n:Int)<10)=true:=decide_eq_true (by omega)
   have hb:=digit_cells n h
   have h1:IntKind.i64.wrap (48+(n:Int))=48+(n:Int):=IntWalk.i64_in _ (by omega)
   have h2:IntKind.u8.wrap (48+(n:Int))=48+(n:Int):=u8_wrap (by omega) (by omega)
   rw[Lib.decDigits_one h]
   generalize hy:(⟨[UInt8.ofNat (48+n)].toArray⟩:ByteArray)=y
   refine wEnter Tryz.func206 Tryz.ntmps206 ?_
   refine wRUN (j3 hd h1 h2) ?_
   (apply (op_conv [UInt8.ofNat (48+n)] hy (by simp) t1 t2 t3);(focus (first | (simp only[go_sem,Nat.reduceEqDiff,Nat.reduceAdd,Nat.reduceSub,Nat.reduceLeDiff,Nat.reduceMul,Nat.reduceBEq,Nat.reduceLT,Int.reduceToNat,reduceCtorEq];first | done | exact rfl | (and_intros<;>rfl)) | exact rfl | decide));(focus (first | (simp only[go_sem,Nat.reduceEqDiff,Nat.reduceAdd,Nat.reduceSub,Nat.reduceLeDiff,Nat.reduceMul,Nat.reduceBEq,Nat.reduceLT,Int.reduceToNat,reduceCtorEq];first | done | exact rfl | (and_intros<;>rfl)) | exact rfl | decide));(focus (first | (simp only[go_sem,Nat.reduceEqDiff,Nat.reduceAdd,Nat.reduceSub,Nat.reduceLeDiff,Nat.reduceMul,Nat.reduceBEq,Nat.reduceLT,Int.reduceToNat,reduceCtorEq];first | done | exact rfl | (and_intros<;>rfl)) | exact rfl | decide));(focus (first | (simp only[go_sem,Nat.reduceEqDiff,Nat.reduceAdd,Nat.reduceSub,Nat.reduceLeDiff,Nat.reduceMul,Nat.reduceBEq,Nat.reduceLT,Int.reduceToNat,reduceCtorEq,hb];first | done | exact rfl | (and_intros<;>rfl)) | exact rfl | decide));(focus (first | (simp only[go_sem,Nat.reduceEqDiff,Nat.reduceAdd,Nat.reduceSub,Nat.reduceLeDiff,Nat.reduceMul,Nat.reduceBEq,Nat.reduceLT,Int.reduceToNat,reduceCtorEq];first | done | exact rfl | (and_intros<;>rfl)) | exact rfl | decide));(focus (first | (simp only[go_sem,Nat.reduceEqDiff,Nat.reduceAdd,Nat.reduceSub,Nat.reduceLeDiff,Nat.reduceMul,Nat.reduceBEq,Nat.reduceLT,Int.reduceToNat,reduceCtorEq];first | done | exact rfl | (and_intros<;>rfl)) | exact rfl | decide)))
   refine wRUN (j3 hd h1 h2) ?_
   exact wRet (ret_data []) Tryz.results206
  ·have hd:decide ((n:Int)<10)=false:=decide_eq_false (by omega)
   have hq:IntKind.i64.wrap ((n:Int).tdiv 10)=((n / 10:Nat):Int):=by
    rw[show ((n:Int).tdiv 10)=((n / 10:Nat):Int) by rw[Int.tdiv_eq_ediv_of_nonneg (by omega)];rfl]
    exact IntWalk.i64_in _ (by omega)
   have hr:(n:Int).tmod 10=((n % 10:Nat):Int):=by rw[Int.tmod_eq_emod_of_nonneg (by omega)];rfl
   have hrw:IntKind.i64.wrap ((n % 10:Nat):Int)=((n % 10:Nat):Int):=IntWalk.i64_in _ (by omega)
   have h1:IntKind.i64.wrap (48+((n % 10:Nat):Int))=48+((n % 10:Nat):Int):=IntWalk.i64_in _ (by omega)
   have h2:IntKind.u8.wrap (48+((n % 10:Nat):Int))=48+((n % 10:Nat):Int):=u8_wrap (by omega) (by omega)
   have hb:=digit_cells (n % 10) (by omega)
   have ihn:=ih (n / 10) (by omega) (by omega)
   have hs1:=digits_size (n / 10) (by omega)
   have hs2:(⟨(Lib.decDigits (n / 10)).toArray⟩:ByteArray).size+(⟨[UInt8.ofNat (48+n % 10)].toArray⟩:ByteArray).size≤9223372036854775807:=by
    have:(⟨[UInt8.ofNat (48+n % 10)].toArray⟩:ByteArray).size=1:=rfl
    omega
   have happ:(⟨(Lib.decDigits (n / 10)).toArray⟩:ByteArray)++⟨[UInt8.ofNat (48+n % 10)].toArray⟩=⟨(Lib.decDigits n).toArray⟩:=by
    rw[str_mk_append]
    congr 2
    rw[Lib.decDigits.eq_1 n,dif_neg h]
   generalize hx:(⟨(Lib.decDigits (n / 10)).toArray⟩:ByteArray)=x at *
   generalize hm0:n % 10=m0 at *
   generalize hy:(⟨[UInt8.ofNat (48+m0)].toArray⟩:ByteArray)=y at *
   refine wEnter Tryz.func206 Tryz.ntmps206 ?_
   refine wRUN (j6 hd hq hr hrw h1 h2) ?_
   refine w7 (op_data [] ihn) trivial ?_
   refine wRUN (j6 hd hq hr hrw h1 h2) ?_
   (apply (op_conv [UInt8.ofNat (48+m0)] hy (by simp) t1 t2 t3);(focus (first | (simp only[go_sem,Nat.reduceEqDiff,Nat.reduceAdd,Nat.reduceSub,Nat.reduceLeDiff,Nat.reduceMul,Nat.reduceBEq,Nat.reduceLT,Int.reduceToNat,reduceCtorEq];first | done | exact rfl | (and_intros<;>rfl)) | exact rfl | decide));(focus (first | (simp only[go_sem,Nat.reduceEqDiff,Nat.reduceAdd,Nat.reduceSub,Nat.reduceLeDiff,Nat.reduceMul,Nat.reduceBEq,Nat.reduceLT,Int.reduceToNat,reduceCtorEq];first | done | exact rfl | (and_intros<;>rfl)) | exact rfl | decide));(focus (first | (simp only[go_sem,Nat.reduceEqDiff,Nat.reduceAdd,Nat.reduceSub,Nat.reduceLeDiff,Nat.reduceMul,Nat.reduceBEq,Nat.reduceLT,Int.reduceToNat,reduceCtorEq];first | done | exact rfl | (and_intros<;>rfl)) | exact rfl | decide));(focus (first | (simp only[go_sem,Nat.reduceEqDiff,Nat.reduceAdd,Nat.reduceSub,Nat.reduceLeDiff,Nat.reduceMul,Nat.reduceBEq,Nat.reduceLT,Int.reduceToNat,reduceCtorEq,hb];first | done | exact rfl | (and_intros<;>rfl)) | exact rfl | decide));(focus (first | (simp only[go_sem,Nat.reduceEqDiff,Nat.reduceAdd,Nat.reduceSub,Nat.reduceLeDiff,Nat.reduceMul,Nat.reduceBEq,Nat.reduceLT,Int.reduceToNat,reduceCtorEq];first | done | exact rfl | (and_intros<;>rfl)) | exact rfl | decide));(focus (first | (simp only[go_sem,Nat.reduceEqDiff,Nat.reduceAdd,Nat.reduceSub,Nat.reduceLeDiff,Nat.reduceMul,Nat.reduceBEq,Nat.reduceLT,Int.reduceToNat,reduceCtorEq];first | done | exact rfl | (and_intros<;>rfl)) | exact rfl | decide)))
   refine wRUN (j2 hs2 happ) ?_
   exact wRet (ret_data []) Tryz.results206
theorem itoa_of_nonneg {n:Int}(h:¬n<0):Lib.itoa n=Lib.decDigits n.toNat:=by unfold Lib.itoa;rw[if_neg h]
theorem itoa_of_neg {n:Int}(h:n<0):Lib.itoa n=45::Lib.decDigits n.natAbs:=by unfold Lib.itoa;rw[if_pos h]
theorem decimal_ac (n:Int) (h0:-9223372036854775807≤n) (h1:n≤9223372036854775807):AC Tryz.prog 176 [.c (.int .i64 n)] [] (.c (.str (numS n))) []:=by
 by_cases h:n<0
 ·have hd:decide (n<0)=true:=decide_eq_true h
  have hw:IntKind.i64.wrap (0-n)=((n.natAbs:Nat):Int):=by rw[IntWalk.i64_in _ (by omega)];omega
  have hc:=digits_ac (n.natAbs+1) n.natAbs (by omega) (by omega)
  have hs:=digits_size n.natAbs (by omega)
  have happ:(⟨#[45]⟩:ByteArray)++⟨(Lib.decDigits n.natAbs).toArray⟩=numS n:=by
   unfold numS
   rw[itoa_of_neg h]
   exact str_mk_append [45] _
  have hsz:1+(⟨(Lib.decDigits n.natAbs).toArray⟩:ByteArray).size≤9223372036854775807:=by omega
  generalize (⟨(Lib.decDigits n.natAbs).toArray⟩:ByteArray)=x at *
  refine wEnter Tryz.func176 Tryz.ntmps176 ?_
  refine wRUN (j2 hd hw) ?_
  refine w7 (op_data [] hc) trivial ?_
  refine wRUN (j2 hsz happ) ?_
  exact wRet (ret_data []) Tryz.results176
 ·have hd:decide (n<0)=false:=decide_eq_false h
  have hc:=digits_ac (n.toNat+1) n.toNat (by omega) (by omega)
  have hn:((n.toNat:Nat):Int)=n:=by omega
  have hx:(⟨(Lib.decDigits n.toNat).toArray⟩:ByteArray)=numS n:=by
   unfold numS
   rw[itoa_of_nonneg h]
  rw[hn,hx]at hc
  refine wEnter Tryz.func176 Tryz.ntmps176 ?_
  refine wRUN hd ?_
  refine w7 (op_data [] hc) trivial ?_
  refine wRUN trivial ?_
  exact wRet (ret_data []) Tryz.results176
set_option maxRecDepth 10000
theorem encodeString_ac (s:ByteArray) (hs:s.size≤1000000):AC Tryz.prog 113 [.c (.str s)] [] (.c (.str (encS s))) []:=by
 refine AC.of_calls fun S w κ vs hv=>?_
 obtain⟨v,vs',rfl,⟨rfl,_⟩,rfl⟩:=hv
 refine (encodeString_walk s hs w).mono ?_
 rintro e w' ⟨rfl,hb⟩
 exact⟨hb,_,rfl,fun T _ _=>⟨rfl,rfl⟩⟩
def escK (s:ByteArray) (k:Nat):ByteArray:=⟨#[34]⟩++⟨(escL (s.data.toList.take k)).toArray⟩
theorem escK_zero (s:ByteArray):escK s 0=⟨#[34]⟩:=rfl
theorem escK_size (s:ByteArray) (hs:s.size≤1000000) (k:Nat):(escK s k).size≤2000001:=by
 have h1:=escL_len (s.data.toList.take k)
 have h2:cz (s.data.toList.take k)≤(s.data.toList.take k).length:=List.length_filter_le _ _
 have h3:s.data.toList.length=s.size:=Array.length_toList
 have h4:(s.data.toList.take k).length≤s.data.toList.length:=by rw[List.length_take];omega
 have h5:(escK s k).size=1+(escL (s.data.toList.take k)).length:=by
  unfold escK
  rw[ByteArray.size_append]
  rfl
 omega
theorem escK_all (s:ByteArray):escK s s.size++⟨#[34]⟩=encS s:=by
 have h3:s.data.toList.length=s.size:=Array.length_toList
 unfold escK encS
 rw[←h3,List.take_length]
theorem escK_next (s:ByteArray) {k:Nat}{b:UInt8}(h:s.data.toList[k]? = some b):escK s (k+1)=escK s k++⟨(escB b).toArray⟩:=by
 obtain⟨hk,rfl⟩:=List.getElem?_eq_some_iff.1 h
 unfold escK escL
 rw[List.take_succ_eq_append_getElem hk,List.flatMap_append,←str_mk_append,ByteArray.append_assoc]
 simp
theorem str_at {s:ByteArray}{k:Nat}(h:k<s.size):s[k]? = some s.data.toList[k]!∧s.data.toList[k]? = some s.data.toList[k]!:=by
 have h3:s.data.toList.length=s.size:=Array.length_toList
 have h4:k<s.data.toList.length:=by omega
 rw[List.getElem!_eq_getElem?_getD,List.getElem?_eq_getElem h4]
 refine⟨?_,rfl⟩
 rw[getElem?_pos s k h]
 rfl
theorem str_sub {s:ByteArray}{k:Nat}{b:UInt8}(h:s.data.toList[k]? = some b):s.extract k (k+1)=⟨#[b]⟩:=by
 obtain⟨hk,rfl⟩:=List.getElem?_eq_some_iff.1 h
 apply ByteArray.ext
 apply Array.ext'
 rw[ByteArray.data_extract,Array.toList_extract,List.extract_eq_take_drop]
 rw[List.drop_eq_getElem_cons hk]
 simp
theorem quote_ac (s:ByteArray) (hs:s.size≤1000000):AC Tryz.prog 177 [.c (.str s)] [] (.c (.str (encS s))) []:=by
 have t3:=Tryz.underlying9
 refine wEnter Tryz.func177 Tryz.ntmps177 ?_
 refine wRUN1 trivial ?_
 refine a_region ?_
 refine wRUN1 trivial ?_
 refine a_region ?_
 refine wRUN1 trivial ?_
 refine a_region ?_
 refine wRUN1 trivial ?_
 refine a_loop (κ:=Nat) (fun k=>⟨mkS 0 32 [(0,.c (.str s)),(3,.c (.str (escK s k))),(4,.c (.int .i64 k))],[]⟩) (fun k=>k≤s.size) (fun k=>s.size-k) 0 (Nat.zero_le _) ?_ ?_
 ·(apply (Says.of [] []);(iterate 2 ((focus (simp only[go_sem,Nat.reduceEqDiff,Nat.reduceAdd,Nat.reduceSub,Nat.reduceLeDiff,Nat.reduceMul,Nat.reduceBEq,Nat.reduceLT,Int.reduceToNat,reduceCtorEq,escK_zero];try (and_intros<;>rfl)));(focus exact rfl)));(iterate 4 (focus (simp[go_sem,escK_zero];done))))
 ·intro k hk1
  have hz:=escK_size s hs k
  by_cases hlt:k<s.size
  ·have hdk:decide ((k:Int)<(s.size:Int))=true:=by simpa using hlt
   have hw:=wrap_succ (k:=k) (by omega)
   obtain⟨hg,hg2⟩:=str_at hlt
   generalize s.data.toList[k]! = b at *
   have hsub:=str_sub hg2
   have hnx:=escK_next s hg2
   have hsb:(s.extract ((k:Nat):Int).toNat (((k+1:Nat)):Int).toNat)=⟨#[b]⟩:=hsub
   have hk2:((k+1:Nat):Int)≤(s.size:Int):=by omega
   have hx1:(escK s k).size+1≤9223372036854775807:=by omega
   by_cases hsp:b=34∨b=92
   ·have hu2:(escK s k++⟨#[92]⟩).size+1≤9223372036854775807:=by rw[ByteArray.size_append];have:(⟨#[92]⟩:ByteArray).size=1:=rfl;omega
    have hnx2:(escK s k++⟨#[92]⟩)++⟨#[b]⟩=escK s (k+1):=by
     rw[hnx,ByteArray.append_assoc]
     rcases hsp with rfl | rfl<;>rfl
    generalize hu:escK s k++⟨#[92]⟩=u at *
    rcases hsp with rfl | rfl
    ·have e1:(((34:UInt8).toNat:Int)==34)=true:=rfl
     refine wRUN (j6 hdk hg e1 hx1 hu hw) ?_
     refine w7 (op_sub (y:=⟨#[34]⟩) (i:=(k:Int)) (j:=((k+1:Nat):Int)) (s:=s) hsb (by omega) (by omega) hk2 t3) trivial ?_
     refine wRUN (j3 hu2 hnx2 hw) ?_
     refine⟨k+1,by omega,by omega,?_⟩
     exact wSays (Says.of [] []) trivial
    ·have e1:(((92:UInt8).toNat:Int)==34)=false:=rfl
     have e2:(((92:UInt8).toNat:Int)==92)=true:=rfl
     refine wRUN (j7 hdk hg e1 e2 hx1 hu hw) ?_
     refine w7 (op_sub (y:=⟨#[92]⟩) (i:=(k:Int)) (j:=((k+1:Nat):Int)) (s:=s) hsb (by omega) (by omega) hk2 t3) trivial ?_
     refine wRUN (j3 hu2 hnx2 hw) ?_
     refine⟨k+1,by omega,by omega,?_⟩
     exact wSays (Says.of [] []) trivial
   ·have e1:((b.toNat:Int)==34)=false:=by
     rw[beq_eq_false_iff_ne]
     intro h
     exact hsp (.inl (UInt8.toNat_inj.1 (Int.ofNat_inj.1 h)))
    have e2:((b.toNat:Int)==92)=false:=by
     rw[beq_eq_false_iff_ne]
     intro h
     exact hsp (.inr (UInt8.toNat_inj.1 (Int.ofNat_inj.1 h)))
    have hnx2:escK s k++⟨#[b]⟩=escK s (k+1):=by
     rw[hnx]
     congr 1
     simp only[not_or]at hsp
     simp[escB,hsp.1,hsp.2]
    refine wRUN (j5 hdk hg e1 e2 hw) ?_
    refine w7 (op_sub (y:=⟨#[b]⟩) (i:=(k:Int)) (j:=((k+1:Nat):Int)) (s:=s) hsb (by omega) (by omega) hk2 t3) trivial ?_
    refine wRUN (j3 hx1 hnx2 hw) ?_
    refine⟨k+1,by omega,by omega,?_⟩
    exact wSays (Says.of [] []) trivial
  ·have hdk:decide ((k:Int)<(s.size:Int))=false:=by simpa using hlt
   obtain rfl:k=s.size:=by omega
   have hx1:(escK s s.size).size+1≤9223372036854775807:=by omega
   have ha:=escK_all s
   refine wRUN (j3 hdk hx1 ha) ?_
   exact wRet (ret_data []) Tryz.results177
set_option maxRecDepth 10000
theorem l1In_ac (n lo hi:Int):AC Tryz.prog 115 [.c (.int .i64 n),.c (.int .i64 lo),.c (.int .i64 hi)] [] (.c (.bool (decide (n≥lo)&&decide (n≤hi)))) []:=by
 cases h1:decide (n≥lo)<;>cases h2:decide (n≤hi)
 all_goals
  refine wEnter Tryz.func115 Tryz.ntmps115 ?_
  refine wRUN (j2 h1 h2) ?_
  exact wRet (ret_data []) Tryz.results115
set_option maxRecDepth 10000
theorem enc_rows (t:V):rowsAt (t.enc.map CellD.cs) 5 0=true:=by unfold rowsAt;rw[show (0:Int).toNat=0 from rfl,enc_head];rfl
set_option maxRecDepth 10000
theorem one_size (b:UInt8):(⟨#[b]⟩:ByteArray).size=1:=rfl
theorem numS_size {n:Int}(h:-1000000000000000≤n∧n≤1000000000000000):(numS n).size≤21:=by
 have h1:=Lib.itoa_length_le n (by omega) (by omega)
 show (Lib.itoa n).toArray.size≤21
 simpa using h1
theorem encS_size {s:ByteArray}(h:s.size≤60):(encS s).size≤122:=by
 have h1:=escL_len s.data.toList
 have h2:cz s.data.toList≤s.data.toList.length:=List.length_filter_le _ _
 have h3:s.data.toList.length=s.size:=Array.length_toList
 unfold encS
 rw[ByteArray.size_append,ByteArray.size_append,one_size]
 have:(⟨(escL s.data.toList).toArray⟩:ByteArray).size=(escL s.data.toList).length:=by show (escL s.data.toList).toArray.size=_;simp
 omega
end
end Go.Proofs.YtlciedpfjhkkdaaGreatDoor
