/- Texts of this proof: E42 D27 D28 M55 D29 D35. -/
import Derived.Test.YtllfmaflodbieaaGreatDoorKD23
import Derived.Lib.SplitLaws
import Derived.Lib.IndexBytes
import Derived.Shelf.Strings.Split
set_option linter.all false
set_option maxHeartbeats 8000000
namespace Go.Proofs.YtllfmaflodbieaaGreatDoor
section
open Go.RowKit
section
variable {P:Program} {o:Oper} {σ:ASt}
theorem Ke {t e:TypeId}{s b size bytes:Nat}{z':Option Value}{ti:TI}{z:Value}(ht:tin P t=some ⟨.sl e,s,b,z'⟩) (ht':tin P e=some ⟨ti,size,bytes,some z⟩) (hzs:z.cells.size=size) (hsz:0<size) (hby:bytes≤200)
  {w:World} {v x:Value} {n:Nat} {xs:List Value} {S:Nat→Prop} {ys:List (List C)} {vrows:List (List Value)} {bs:List Nat} (hown:w.ownsRow 0 e size v n xs) (hx:Src w S size x ys vrows bs) (hn:n+ys.length≤2000000) (ty:TypeId) :
  ∃v' w',(Builtin.append_ #[t,t] ty #[v,x]).run P w=.ok v' w'∧w'.ownsRow 0 e size v' (n+ys.length) (xs++vrows.flatten)∧w.grownBy w' v.ownBlock∧(v'.ownBlock=v.ownBlock∨v'.ownBlock=some w.heap.size):=by
 obtain⟨A,c,rfl,h1,h2⟩:=hx.val
 have hu:=Hv ht
 obtain⟨d,i,g1,g2,g3⟩:=B4 ht'
 simp only[TIn.mk.injEq]at g3
 obtain⟨_,g4,g5,g6⟩:=g3
 have hl:=hx.rep.length
 cases A with
 |none =>
  have hy:=h1 rfl
  subst hy
  have hv:vrows=[]:=by simpa using hl
  subst hv
  exact⟨v,w,by simpa using Dz w 0 t ty e i size hu g2 v n xs hown c,by simpa using hown,⟨rfl,rfl,rfl,Nat.le_refl _,fun _ _ _=>rfl⟩,.inl rfl⟩
 |some ad =>
  have hfl:=Cm hx.len
  obtain⟨v',w',k1,k2,k3,_,k4⟩:=run_append_own_at (P:=P) w 0 t ty e i z size bytes hu g2 g6.symm g4.symm g5.symm hzs hsz v n xs hown ad ys.length c vrows.flatten (by rw[hfl,hl]) (h2 ad rfl) hx.rep.one
   (by simp only[maxLen];omega) (by calc (n+ys.length)*bytes≤2000000*200:=Nat.mul_le_mul hn hby
                     _≤_:=by omega) (Nat.zero_le _)
  exact⟨v',w',k1,k2,k3,k4⟩
theorem LW {ty e e':TypeId}{y z:Operand}{fr i j:Id}{s b size size' bytes:Nat}{z':Option Value}{ti:TI}{zv:Value}{xs ys:List (List C)}
  (ho:o.op=.call { callee:=.builtin .append,args:=#[y,z],argTypes:=#[ty,ty] }) (hf:σ.mem.get fr=none) (ht:tin P ty=some ⟨.sl e,s,b,z'⟩) (ht':tin P e=some ⟨ti,size,bytes,some zv⟩)
  (c1:zv.cells.size=size) (c2:0<size) (c3:bytes≤200) (hx:σ.ev y=.own i) (hi:σ.mem.get i=some (.row false size e xs)) (hz:σ.ev z=.own j) (hj:σ.mem.get j=some (.row false size' e' ys))
  (d1:xs.length+ys.length≤2000000) (d2:(ys.all fun r=>r.length==size)=true) (d3:i≠j):Al P o σ ⟨[j],[(i,.dead),(fr,.row false size e (xs++ys))],.own fr⟩:=by
 have hyo:y∈o.op.operands:=by rw[ho];simp[Op.operands,Call.operands]
 have hzo:z∈o.op.operands:=by rw[ho];simp[Op.operands,Call.operands]
 intro Γ σ' a w ow κ hag hr
 have hfr:σ'.mem.get fr=none:=by rw[hag.2.2 fr (by simp),hf]
 have e2:σ'.mem.get i=some (.row false size e xs):=by rw[hag.2.2 i (by simp),hi]
 have e3:σ'.mem.get j=some (.row false size' e' ys):=by rw[hag.2.1 j (by simp),hj]
 obtain⟨_,o1,k1,k2⟩:=hag.ev hr hyo hx
 rw[e2]at k1
 cases k1
 have k3:=k2 (by simp)
 obtain⟨vx,bx,h1,h2,h3,h4,h5,h6⟩:=hr.objs i _ e2
 rw[←k3]at h4 h5 h6
 have hb:=h2 rfl
 subst hb
 obtain⟨_,o2,l1,l2⟩:=hag.ev hr hzo hz
 rw[e3]at l1
 cases l1
 have l3:=l2 (by simp)
 obtain⟨vy,bv,g1,g2,g3,g4,g5,g6⟩:=hr.objs j _ e3
 have hb:=g2 rfl
 subst hb
 rw[←l3]at g4 g5 g6
 have hl:∀x∈vy,x.length=size:=by
  intro x hx
  obtain⟨i,hi,rfl⟩:=List.getElem_of_mem hx
  have hl:=g1.length
  have hyi:ys[i]? = some (ys[i]'(by omega)):=List.getElem?_eq_getElem (by omega)
  obtain⟨vr,b,q1,q2,_⟩:=Ag.at_ g1 hyi
  rw[List.getElem?_eq_getElem hi]at q1
  injection q1 with q1
  rw[q1,q2.length]
  have:=List.all_eq_true.1 d2 _ (List.getElem_mem (l:=ys) (n:=i) (by omega))
  simpa using this
 have y1:Src w (Γ.sees ow) size (a.eval z) ys vy []:=by
  refine⟨?_,g1,hl⟩
  rcases g4.2 with⟨q1,h0⟩ | ⟨g,cap,cur,q1,_⟩
  ·rw[q1];exact⟨none,0,by rw[h0],fun _=>List.eq_nil_of_length_eq_zero h0,by simp⟩
  ·rw[q1];exact⟨_,cap,rfl,by simp,fun ad hA j u hu=>by cases hA;exact g4.cells (g:=g) (by rw[q1];rfl) j u hu⟩
 have hne:i≠fr:=fun e=>by rw[e,hf]at hi;cases hi
 obtain⟨v',w',r1,r2,r3,r4⟩:=Ke ht ht' c1 c2 c3 h4 y1 d1 o.type
 obtain⟨ow',κ',hr'⟩:=hr.appended (rd:=[j]) (ks:=[i]) (ex:=false) hfr (by simpa using hne) h1 g1 h3 hl r2 r3 r4 (fun _=>⟨rfl,rfl⟩) (by simpa using h5) (fun b hb=>⟨i,by simp,h6 b (by simpa using hb)⟩) o.dst
 refine⟨v',w',ow',κ',.inl ?_,hr'⟩
 unfold execOp
 rw[ho]
 simp[resolve,invoke,builtin,r1]
end
section
variable {P:Program} {σ τ:ASt} {ops:Array Oper} {r:List Oper} {fs:List AEff} {K:ASt→List AEff→Prop} {E:AEff} {d:Option Tmp} {ty':TypeId} {pos:String} {af:Array Edge} {gd:Option (Nat×Bool)}
theorem GX {ty e e':TypeId}{y z:Operand}{i j:Id}{s b size size' bytes:Nat}{z':Option Value}{ti:TI}{zv:Value}(xs ys:List (List C))
  (d1:xs.length+ys.length≤2000000) (ht:tin P ty=some ⟨.sl e,s,b,z'⟩) (ht':tin P e=some ⟨ti,size,bytes,some zv⟩) (c1:zv.cells.size=size) (c2:0<size) (c3:bytes≤200) (d2:(ys.all fun r=>r.length==size)=true)
  (hg:Bi ops σ ⟨d,.call { callee:=.builtin .append,args:=#[y,z],argTypes:=#[ty,ty] },ty',pos,af,gd⟩=some true) (hx:σ.ev y=.own i) (hi:σ.mem.get i=some (.row false size e xs)) (hz:σ.ev z=.own j) (hj:σ.mem.get j=some (.row false size' e' ys)) (d3:i≠j)
  (hf:σ.mem.get (σ.fresh ⟨d,.call { callee:=.builtin .append,args:=#[y,z],argTypes:=#[ty,ty] },ty',pos,af,gd⟩)=none)
  (hE:(⟨[j],[(i,.dead),(σ.fresh ⟨d,.call { callee:=.builtin .append,args:=#[y,z],argTypes:=#[ty,ty] },ty',pos,af,gd⟩,.row false size e (xs++ys))],.own (σ.fresh ⟨d,.call { callee:=.builtin .append,args:=#[y,z],argTypes:=#[ty,ty] },ty',pos,af,gd⟩)⟩:AEff)=E)
  (hτ:σ.upd d E=τ) (h:Ad P ops r τ (fs++[E]) K):Ad P ops (⟨d,.call { callee:=.builtin .append,args:=#[y,z],argTypes:=#[ty,ty] },ty',pos,af,gd⟩::r) σ fs K:=by
 subst hE
 exact Bt hg (LW rfl hf ht ht' c1 c2 c3 hx hi hz hj d1 d2 d3).sound hτ h
end
end
section
open Go.RowKit
set_option maxRecDepth 10000
theorem R9 (s:ByteArray) (hs:s.size≤1048576):AC Tryz.prog 28 [.c (.str s)] [] (.own (0,0)) [((0,0),.row false 1 9 ((D7 s).map Ab))]:=by
 have h0w:IntKind.i64.wrap 0=0:=rfl
 refine A6 Tryz.func28 Tryz.ntmps28 ?_
 refine A0 trivial ?_
 refine AG (κ:=List ByteArray×Nat×Nat) (fun k=>⟨mkS 0 37 [(0,.c (.str s)),(3,.own (99,0)),(4,.c (.int .i64 k.2.1)),(5,.c (.int .i64 k.2.2))],[((99,0),.row false 1 9 (k.1.map Ab))]⟩)
  (fun k=>k.2.1≤k.2.2∧k.2.2≤s.size∧k.1.length≤k.2.2∧k.1++Ct s (s.size-k.2.2) k.2.1 k.2.2=D7 s) (fun k=>s.size-k.2.2) ([],0,0) ⟨Nat.le_refl _,Nat.zero_le _,Nat.zero_le _,rfl⟩ ?_ ?_
 ·exact Aq (As.of [((99,0),(6,0))] []) @List.map_nil.{0,0}
 ·rintro⟨out,f,i⟩ ⟨hf,hi,hol,hgo⟩
  dsimp only at hf hi hol hgo ⊢
  by_cases hlt:i<s.size
  ·have hdk:decide ((i:Int)<(s.size:Int))=true:=decide_eq_true (by omega)
   obtain⟨b,hg,hb⟩:=Aw hlt
   have hwi:=Ae (k:=i) (by omega)
   obtain⟨n,hn⟩:∃n,s.size-i=n+1:=⟨s.size-i-1,by omega⟩
   have hn':s.size-(i+1)=n:=by omega
   rw[hn,Ct]at hgo
   by_cases h10:bAt s i=10
   ·have e10:(((b.toNat:Nat):Int)==10)=true:=by rw[←hb,h10];rfl
    rw[if_pos h10]at hgo
    have hrow:(out++[s.extract f i]).map Ab=(out.map Ab)++[[C.str (s.extract f i)]]:=by simp[Ab]
    refine A0 (j5 hdk hg e10 hf hi) ?_
    refine w9 (GX (out.map Ab) [Ab (s.extract f i)] (by simp;omega) XQ Z8 rfl (by decide) (by decide) rfl) trivial ?_
    refine A0 hwi ?_
    refine⟨(out++[s.extract f i],i+1,i+1),by dsimp only;omega,⟨Nat.le_refl _,by dsimp only;omega,by simp;omega,by dsimp only;rw[hn',List.append_assoc];exact hgo⟩,?_⟩
    exact Aq (As.of [((99,0),(23,0))] []) (j2 hwi hrow)
   ·have e10:(((b.toNat:Nat):Int)==10)=false:=by rw[←hb];simp;omega
    rw[if_neg h10]at hgo
    refine A0 (j4 hdk hg e10 hwi) ?_
    refine⟨(out,f,i+1),by dsimp only;omega,⟨by dsimp only;omega,by dsimp only;omega,by dsimp only;omega,by dsimp only;rw[hn'];exact hgo⟩,?_⟩
    exact Aq (As.of [((99,0),(99,0))] []) hwi
  ·have hdk:decide ((i:Int)<(s.size:Int))=false:=decide_eq_false (by omega)
   rw[show s.size-i=0 from by omega,Ct]at hgo
   by_cases hfs:f<s.size
   ·have hdf:decide ((f:Int)<(s.size:Int))=true:=decide_eq_true (by omega)
    have hfl:f≤s.size:=by omega
    rw[if_pos hfs]at hgo
    have hrow:(D7 s).map Ab=(out.map Ab)++[[C.str (s.extract f s.size)]]:=by rw[←hgo];simp[Ab]
    refine A0 (j3 hdk hdf hfl) ?_
    refine w9 (GX (out.map Ab) [Ab (s.extract f s.size)] (by simp;omega) XQ Z8 rfl (by decide) (by decide) rfl) trivial ?_
    refine A0 trivial ?_
    exact A9 (A8 [((0,0),(35,0))] []) Tryz.results28 hrow
   ·have hdf:decide ((f:Int)<(s.size:Int))=false:=decide_eq_false (by omega)
    rw[if_neg hfs,List.append_nil]at hgo
    subst hgo
    refine A0 (j2 hdk hdf) ?_
    exact A9 (A8 [((0,0),(99,0))] []) Tryz.results28 hdk
set_option maxRecDepth 10000
theorem EW (s:ByteArray):∀(n f i:Nat),∀x∈Ct s n f i,x.size≤s.size
 | 0,f,i,x,h=>by
  unfold Ct at h
  split at h
  ·simp only[List.mem_singleton]at h
   subst h
   rw[ByteArray.size_extract]
   omega
  ·cases h
 |n+1,f,i,x,h=>by
  unfold Ct at h
  split at h
  ·rcases List.mem_cons.1 h with rfl | h
   ·rw[ByteArray.size_extract];omega
   ·exact EW s n _ _ x h
  ·exact EW s n _ _ x h
theorem SR {s:ByteArray}{f:Nat}(h:f<s.size):∃b:UInt8,s.data.toList.drop f=b::s.data.toList.drop (f+1)∧bAt s f=b.toNat:=by
 obtain⟨b,h1,h2⟩:=Aw h
 rw[getElem?_pos s f h]at h1
 cases h1
 exact⟨s[f],List.drop_eq_getElem_cons (by simpa using h),h2⟩
theorem Kn (b:UInt8):(b==10)=true↔b.toNat=10:=by
 rw[beq_iff_eq]
 constructor
 ·rintro rfl;rfl
 ·intro h;exact UInt8.toNat_inj.1 h
theorem P8 (s:ByteArray):∀(n f:Nat),f+n=s.size→Lib.indexByte (s.data.toList.drop f) 10=if nlN s n f=0 then -1 else ((nlB s n f-f:Nat):Int)
 | 0,f,h=>by
  rw[List.drop_eq_nil_of_le (by simp;omega)]
  rfl
 |n+1,f,h=>by
  obtain⟨b,h1,h2⟩:=SR (s:=s) (f:=f) (by omega)
  have ih:=P8 s n (f+1) (by omega)
  rw[h1,Lib.indexByte,ih,nlN,nlB]
  by_cases h10:bAt s f=10
  ·have hb:(b==10)=true:=(Kn b).2 (by omega)
   simp[h10,hb]
  ·have hb:(b==10)=false:=by
    cases hq:(b==10) with
    |false=>rfl
    |true=>exact absurd ((Kn b).1 hq) (by omega)
   have hin:=Rx s n (f+1)
   by_cases h0:nlN s n (f+1)=0
   ·simp[h10,hb,h0]
   ·simp only[h10,hb,h0,if_false,Nat.zero_add]
    simp
    omega
theorem Q4 (s:ByteArray):∀(n f:Nat),f+n=s.size→(s.data.toList.drop f).count 10=nlN s n f
 | 0,f,h=>by
  rw[List.drop_eq_nil_of_le (by simp;omega)]
  rfl
 |n+1,f,h=>by
  obtain⟨b,h1,h2⟩:=SR (s:=s) (f:=f) (by omega)
  have ih:=Q4 s n (f+1) (by omega)
  rw[h1,List.count_cons,ih,nlN]
  by_cases h10:bAt s f=10
  ·have hb:(b==10)=true:=(Kn b).2 (by omega)
   simp[h10,hb]
   omega
  ·have hb:(b==10)=false:=by
    cases hq:(b==10) with
    |false=>rfl
    |true=>exact absurd ((Kn b).1 hq) (by omega)
   simp[h10,hb]
theorem Ss {s:ByteArray}{f a e:Nat}(hf:f≤s.size) (he:f+e≤s.size):(s.extract f s.size).extract a e=s.extract (f+a) (f+e):=by
 apply ByteArray.ext
 apply Array.toList_inj.1
 have hl:s.data.toList.take s.size=s.data.toList:=List.take_of_length_le (Nat.le_of_eq (by simp))
 rw[CJ,CJ,CJ,hl,List.drop_take,List.drop_take,List.drop_drop]
 congr 1
 omega
theorem Ir (s:ByteArray):∀(k f:Nat),f≤s.size→nlN s (s.size-f) f=k→Lib.splitB (bS 10) 0 k (s.extract f s.size)=Fc s k f
 | 0,f,hf,h=>rfl
 |k+1,f,hf,h=>by
  obtain⟨h1,h2,h3⟩:=RO s (s.size-f) f (by omega)
  have hge:=(Rx s (s.size-f) f).1
  have hix:=P8 s (s.size-f) f (by omega)
  have hes:=E2 (s:=s) (a:=f) (e:=s.size) (Nat.le_refl _)
  rw[if_neg (by omega)]at hix
  have hl:s.data.toList.take s.size=s.data.toList:=List.take_of_length_le (Nat.le_of_eq (by simp))
  have hi:Lib.indexB (s.extract f s.size) (bS 10)=((nlB s (s.size-f) f-f:Nat):Int):=by
   show Lib.index (s.extract f s.size).data.toList [10]=_
   rw[Lib.index_one,CJ,hl,hix]
  have hb1:(bS 10).size=1:=rfl
  rw[Lib.splitB_hit (bS 10) 0 k _ _ hi,hes,hb1,Ss hf (by omega),Ss hf (by omega),Fc]
  rw[show f+0=f from rfl,show f+(nlB s (s.size-f) f-f+0)=nlB s (s.size-f) f from by omega,show f+(nlB s (s.size-f) f-f+1)=nlB s (s.size-f) f+1 from by omega,show f+(s.size-f)=s.size from by omega]
  rw[show f+(s.size-f)-(nlB s (s.size-f) f+1)=s.size-(nlB s (s.size-f) f+1) from by omega]at h3
  rw[Ir s k _ (by omega) (by omega)]
theorem RP (s:ByteArray):J0 (Lib.splitB (bS 10) 0 (Lib.countB s (bS 10)) s)=D7 s:=by
 have hc:Lib.countB s (bS 10)=nlN s s.size 0:=by
  have h1:=Q4 s s.size 0 (by omega)
  rw[List.drop_zero]at h1
  rw[←h1]
  exact Lib.count_one 10 _
 have h2:=Ir s (nlN s s.size 0) 0 (Nat.zero_le _) rfl
 have h3:s.extract 0 s.size=s:=by
  apply ByteArray.ext
  apply Array.toList_inj.1
  rw[CJ,List.drop_zero]
  exact List.take_of_length_le (Nat.le_of_eq (by simp))
 rw[h3]at h2
 rw[hc,h2,Wm]
end
section
open Go.RowKit Go.Shelf
set_option maxRecDepth 10000
def TP:Ren where
 f:=fun x=>match x with
  | 146=>69
  | 221=>129
  | 268=>193
  | 138=>194
  | 143=>195
  | 195=>229
  | 197=>230
  | 218=>231
  | 219=>196
  | 260=>260
  | 217=>232
  | 225=>233
  | 224=>234
  | 267=>235
  | 266=>261
  | 314=>262
  |n=>n
 t:=fun x=>match x with
  | 9=>9
  | 31=>50
  | 3=>3
  | 4=>4
  | 0=>0
  | 105=>263
  | 21=>21
  | 5=>5
  | 46=>194
  | 119=>308
  | 139=>318
  | 138=>317
  | 146=>247
  | 51=>233
  |n=>n
 g:=fun x=>match x with
  | 1=>0
  | 3=>2
  | 4=>3
  |n=>n
theorem LD:Lays.n146 Tryz.prog TP where
 mixed:=Bk
 f138:=by kernel_rfl
 f143:=by kernel_rfl
 f146:=by kernel_rfl
 f195:=by kernel_rfl
 f197:=by kernel_rfl
 f217:=by kernel_rfl
 f218:=by kernel_rfl
 f219:=by kernel_rfl
 f221:=by kernel_rfl
 f224:=by kernel_rfl
 f225:=by kernel_rfl
 f260:=by kernel_rfl
 f266:=by kernel_rfl
 f267:=by kernel_rfl
 f268:=by kernel_rfl
 f314:=by kernel_rfl
 t0:=Tryz.underlying0
 a0:=Tryz.isAgg0
 z0:=Tryz.sizeOf0
 v0:=Tryz.zeroValue0
 t3:=Tryz.underlying3
 a3:=Tryz.isAgg3
 z3:=Tryz.sizeOf3
 v3:=Tryz.zeroValue3
 t4:=Tryz.underlying4
 a4:=Tryz.isAgg4
 z4:=Tryz.sizeOf4
 v4:=Tryz.zeroValue4
 t5:=Tryz.underlying5
 a5:=Tryz.isAgg5
 z5:=Tryz.sizeOf5
 v5:=Tryz.zeroValue5
 t9:=Tryz.underlying9
 a9:=Tryz.isAgg9
 z9:=Tryz.sizeOf9
 v9:=Tryz.zeroValue9
 t21:=Tryz.underlying21
 a21:=Tryz.isAgg21
 z21:=Tryz.sizeOf21
 v21:=Tryz.zeroValue21
 t31:=Tryz.underlying50
 a31:=Tryz.isAgg50
 z31:=Tryz.sizeOf50
 v31:=Tryz.zeroValue50
 t46:=Tryz.underlying194
 a46:=Tryz.isAgg194
 z46:=Tryz.sizeOf194
 v46:=Tryz.zeroValue194
 t51:=Tryz.underlying233
 a51:=Tryz.isAgg233
 z51:=Tryz.sizeOf233
 v51:=Tryz.zeroValue233
 t105:=Tryz.underlying263
 a105:=Tryz.isAgg263
 z105:=Tryz.sizeOf263
 v105:=Tryz.zeroValue263
 t119:=Tryz.underlying308
 a119:=Tryz.isAgg308
 z119:=Tryz.sizeOf308
 t138:=Tryz.underlying317
 a138:=Tryz.isAgg317
 z138:=Tryz.sizeOf317
 v138:=Tryz.zeroValue317
 t139:=Tryz.underlying318
 a139:=Tryz.isAgg318
 z139:=Tryz.sizeOf318
 v139:=Tryz.zeroValue318
 t146:=Tryz.underlying247
 a146:=Tryz.isAgg247
 z146:=Tryz.sizeOf247
 v146:=Tryz.zeroValue247
 g1:=by kernel_rfl
 g3:=by kernel_rfl
 g4:=by kernel_rfl
theorem Uc {P:Program}{ρ:Ren}(L:Lays.n146 P ρ) (hi9:(P.info? (ρ.t 9)).map (fun i=>(i.zero,i.size,i.bytes))=some (some (.string ByteArray.empty),1,16)) (s:ByteArray) (c:UInt8) (w:World) (hs:s.size<4294967281) :
  Calls P (ρ.f 146) #[.string s,.string ⟨#[c]⟩] w fun e w' =>
   e=.returned (.slice (some ⟨w.heap.size,0,none⟩) (Lib.countB s ⟨#[c]⟩+1) (Lib.countB s ⟨#[c]⟩+1))∧w'=w.alloc (.cells ((Lib.splitB ⟨#[c]⟩ 0 (Lib.countB s ⟨#[c]⟩) s).map Value.string).toArray (ρ.t 9)):=by
 have h1:1≤(⟨#[c]⟩:ByteArray).size:=Nat.le_refl _
 have hle:=Lib.countB_le ⟨#[c]⟩ h1 s.size s (Nat.le_refl _)
 have hlen:=Lib.splitB_all ⟨#[c]⟩ h1 0 _ s rfl
 have hC:Calls P (ρ.f 138) #[.string s,.string ⟨#[c]⟩] w fun e w'=>e=.returned (.int .i64 (Lib.countB s ⟨#[c]⟩))∧w'=w:=by
  refine (Any.strings_Count_one { L with } s c w).mono fun e w' ⟨he,hw⟩=>⟨?_,hw⟩
  rw[he]
  show _=Ending.returned (Value.int .i64 ((Lib.count s.data.toList [c]:Nat):Int))
  rw[Lib.count_one]
  rfl
 have hI:∀(x:ByteArray) (d:Array Value),x.size≤s.size→Calls P (ρ.f 143) #[.string x,.string ⟨#[c]⟩] (w.alloc (.cells d (ρ.t 9))) fun e w'=>e=.returned (.int .i64 (Lib.indexB x ⟨#[c]⟩))∧w'=w.alloc (.cells d (ρ.t 9)):=by
  intro x d _
  refine (Any.strings_Index_one { L with } x c _).mono fun e w' ⟨he,hw⟩=>⟨?_,hw⟩
  rw[he]
  show _=Ending.returned (Value.int .i64 (Lib.index x.data.toList [c]))
  rw[Lib.index_one]
 have c:=Any.strings_genSplit_core { L with } hi9 s ⟨#[c]⟩ 0 (-1) (Lib.countB s ⟨#[c]⟩+1) w hs h1 (Nat.zero_le _) hI hC (by decide) (by decide) (by rw[if_pos (by decide)];omega)
 rw[Nat.add_sub_cancel,hlen]at c
 have e2:=Lib.cellsOf_full (Lib.splitB ⟨#[‹UInt8›]⟩ 0 (Lib.countB s ⟨#[‹UInt8›]⟩) s)
 rw[hlen]at e2
 rw[e2]at c
 have t3:=L.t3;have t9:=L.t9;have t31:=L.t31
 have a3:=L.a3;have a9:=L.a9;have a31:=L.a31
 have z3:=L.z3;have v3:=L.v3;have z9:=L.z9;have v9:=L.v9;have z31:=L.z31;have v31:=L.v31
 have e221:∀args w,(callFunc (ρ.f 221) args).run P w=.ok (.enter (ρ.f 221) args) w:=enters_of L.f221 (by kernel_rfl) rfl
 go_enter L.f146,Body.n146_ntmps ρ
 go_wp2_with (go_at_fn (ρ.f 221);refine c.mono ?_;rintro e w' ⟨rfl,hw⟩;rw[hw])
 go_ret
 exact⟨rfl,rfl⟩
theorem PV (w:World) (S:Nat→Prop):∀l:List ByteArray,Ag w S (l.map Ab) (l.map fun x=>[Value.string x]) []
 | []=>by simp[Ag]
 |x::l=>⟨_,_,[],[],rfl,rfl,⟨_,_,[],[],rfl,rfl,⟨rfl,rfl⟩,⟨rfl,rfl⟩⟩,PV w S l⟩
theorem UL (l:List ByteArray):(l.map fun x=>[Value.string x]).flatten=l.map Value.string:=by
 induction l with
 |nil=>rfl
 |cons x l ih=>simp[ih]
theorem Sf (s:ByteArray) (hs:s.size≤1048576):AC Tryz.prog 69 [.c (.str s),.c (.str ⟨#[10]⟩)] [] (.own (0,0)) [((0,0),.row false 1 9 ((Lib.splitB (bS 10) 0 (Lib.countB s (bS 10)) s).map Ab))]:=by
 refine AC.of_row (G4 _) fun S w κ vs hv=>?_
 obtain⟨v,vs',rfl,⟨rfl,_⟩,v2,vs2,rfl,⟨rfl,_⟩,rfl⟩:=hv
 refine (Uc LD (by kernel_rfl) s 10 w (by omega)).mono ?_
 rintro e w' ⟨rfl,rfl⟩
 have hlen:=Lib.splitB_all (bS 10) (Nat.le_refl _) 0 _ s rfl
 have hle:=Lib.countB_le (bS 10) (Nat.le_refl _) s.size s (Nat.le_refl _)
 generalize Lib.splitB (bS 10) 0 (Lib.countB s (bS 10)) s=l at *
 generalize Lib.countB s (bS 10)=n at *
 refine⟨(Below.refl _ _).alloc (Nat.le_refl _) _,_,l.map fun x=>[Value.string x],rfl,PV _ _ l,by simp,?_⟩
 rw[UL,List.length_map,hlen]
 refine⟨by simp[hlen],.inr ⟨w.heap.size,n+1,(l.map Value.string).toArray,rfl,Nat.le_refl _,heap_alloc_new w _,Nat.le_refl _,?_,?_,?_⟩⟩
 ·simp[maxLen];omega
 ·simp[hlen]
 ·show List.take _ (l.map Value.string)=_
  exact List.take_of_length_le (by simp[hlen])
def J8 (s:ByteArray):List ByteArray:=Lib.splitB (bS 10) 0 (Lib.countB s (bS 10)) s
theorem Nr (s:ByteArray):J0 (J8 s)=D7 s:=RP s
theorem RF (s:ByteArray):0<(J8 s).length∧(J8 s).length≤s.size+1:=by
 have hlen:=Lib.splitB_all (bS 10) (Nat.le_refl _) 0 _ s rfl
 have hle:=Lib.countB_le (bS 10) (Nat.le_refl _) s.size s (Nat.le_refl _)
 unfold J8
 omega
end
section
open Go.RowKit Go.Shelf
set_option maxRecDepth 10000
variable {o1 o2:Obj}
theorem Si (s:ByteArray):AC Tryz.prog 196 [.c (.str s),.c (.str ⟨#[32]⟩)] [] (.c (.int .i64 (Lib.indexByte s.data.toList 32))) []:=by
 refine AC.of_calls fun S w κ vs hv=>?_
 obtain⟨v,vs',rfl,⟨rfl,_⟩,v2,vs2,rfl,⟨rfl,_⟩,rfl⟩:=hv
 refine (Any.stringslite_Index_one { LD with } s 32 w).mono ?_
 rintro e w' ⟨rfl,rfl⟩
 exact⟨Below.refl _ _,_,rfl,fun T _ _=>⟨rfl,rfl⟩⟩
theorem RK (s:ByteArray) (hs:s.size≤1000000):∃b,AC Tryz.prog 130 [.c (.str s),.c (.str ⟨#[32]⟩)] [] (.tup [.c (.str (AW s).1),.c (.str (AW s).2),.c (.bool b)]) []:=by
 have h:=Si s
 unfold AW
 rcases QF s.data.toList with hi | ⟨i,hi,hlt⟩
 ·rw[hi]at h ⊢
  have c0:decide ((-1:Int)≥0)=false:=rfl
  refine⟨false,?_⟩
  rw[if_pos (by decide)]
  refine A6 Tryz.func130 Tryz.ntmps130 ?_
  refine A0 trivial ?_
  refine w7 (A3 [] h) trivial ?_
  refine A0 c0 ?_
  exact A9 (A8 [] []) Tryz.results130 c0
 ·rw[hi]at h ⊢
  rw[AL]at hlt
  have c0:decide ((i:Int)≥0)=true:=decide_eq_true (by omega)
  have c1:i≤s.size:=by omega
  have c2:i+1≤s.size:=by omega
  have hw:IntKind.i64.wrap ((i:Int)+((1:Nat):Int))=((i+1:Nat):Int):=by rw[CG (by omega) (by omega)];omega
  refine⟨true,?_⟩
  rw[if_neg (by omega),Int.toNat_natCast]
  dsimp only
  generalize hL:s.extract 0 i=L
  generalize hR:s.extract (i+1) s.size=R
  refine A6 Tryz.func130 Tryz.ntmps130 ?_
  refine A0 trivial ?_
  refine w7 (A3 [] h) trivial ?_
  refine A0 (j6 c0 c1 hw c2 hL hR) ?_
  exact A9 (A8 [] []) Tryz.results130 c0
theorem Hq (s:ByteArray) (hs:s.size≤1000000):∃b,AC Tryz.prog 70 [.c (.str s),.c (.str ⟨#[32]⟩)] [] (.tup [.c (.str (AW s).1),.c (.str (AW s).2),.c (.bool b)]) []:=by
 obtain⟨b,h⟩:=RK s hs
 refine⟨b,?_⟩
 generalize (AW s).1=x at *
 generalize (AW s).2=y at *
 refine A6 Tryz.func70 Tryz.ntmps70 ?_
 refine A0 trivial ?_
 refine w7 (A3 [] h) trivial ?_
 refine A0 trivial ?_
 exact Am (A7 []) Tryz.results70
theorem Ds (s:ByteArray) (hs:s.size≤10000) (h:BG s=none):AC Tryz.prog 71 [.c (.str s)] (Ij o1 o2) (.tup [.nils,.c (.str ByteArray.empty)]) (Ij o1 o2):=by
 have hv:=Mt (o1:=o1) (o2:=o2) s hs 20 1 rfl ⟨0,0,0⟩ (Nat.zero_le _)
 have hag:=Fm (s:=s) 20 0 (Nat.zero_le _)
 have hf:=C2 (s:=s) 20 (Af s 0) (AM (Nat.zero_le _)).2.1
 unfold BG at h
 cases hR:Cq 20 s (Af s 0) with
 |bad c' p =>
  rw[hR]at hag hf
  obtain⟨a1,a2⟩:=hag
  have hc0:=Bq hf.1
  have hne:((DS.value s 20 ⟨0,0,0⟩).2.code != 0)=true:=by rw[a1];simpa using hc0
  generalize (DS.value s 20 ⟨0,0,0⟩).2=d1 at *
  generalize (DS.value s 20 ⟨0,0,0⟩).1=v at *
  simp only[Au,Bg]at hv
  refine A6 Tryz.func71 Tryz.ntmps71 ?_
  refine A0 trivial ?_
  (apply (Dr [] [((0,0),(8,0)),((8,1),(8,1))] [((0,0),(8,0)),((8,1),(8,1))] hv);(iterate 10 (focus (first | (simp only[go_sem,Nat.reduceEqDiff,Nat.reduceAdd,Nat.reduceSub,Nat.reduceLeDiff,Nat.reduceMul,Nat.reduceBEq,Nat.reduceLT,Int.reduceToNat,reduceCtorEq,Int.natCast_zero,Int.cast_ofNat_Int];first | done | exact rfl | (and_intros<;>rfl)) | exact rfl | decide)));(iterate 8 (focus (simp[go_sem,Int.natCast_zero,Int.cast_ofNat_Int];done)));(iterate 2 (focus (first | (simp only[go_sem,Nat.reduceEqDiff,Nat.reduceAdd,Nat.reduceSub,Nat.reduceLeDiff,Nat.reduceMul,Nat.reduceBEq,Nat.reduceLT,Int.reduceToNat,reduceCtorEq,Int.natCast_zero,Int.cast_ofNat_Int];first | done | exact rfl | (and_intros<;>rfl)) | exact rfl | decide))))
  refine A0 hne ?_
  exact A9 (A8 [((8,1),(8,1))] []) Tryz.results71 hne
 |ok u e =>
  rw[hR]at h hag hf
  dsimp only at h
  obtain⟨a1,a2⟩:=hag
  obtain⟨_,he,f1,f2,f3,f4⟩:=hf
  rw[a1,a2]at hv
  split at h
  ·rename_i h200
   have g200:decide ((u.count:Int)>200)=true:=decide_eq_true (by omega)
   have hc:=OL _ u (Nat.le_refl _) (by omega)
   have h00:((0:Int) != 0)=false:=rfl
   simp only[Au,Bg]at hv
   refine A6 Tryz.func71 Tryz.ntmps71 ?_
   refine A0 trivial ?_
   (apply (Dr [] [((0,0),(8,0)),((8,1),(8,1))] [((0,0),(8,0)),((8,1),(8,1))] hv);(iterate 10 (focus (first | (simp only[go_sem,Nat.reduceEqDiff,Nat.reduceAdd,Nat.reduceSub,Nat.reduceLeDiff,Nat.reduceMul,Nat.reduceBEq,Nat.reduceLT,Int.reduceToNat,reduceCtorEq,Int.natCast_zero,Int.cast_ofNat_Int];first | done | exact rfl | (and_intros<;>rfl)) | exact rfl | decide)));(iterate 8 (focus (simp[go_sem,Int.natCast_zero,Int.cast_ofNat_Int];done)));(iterate 2 (focus (first | (simp only[go_sem,Nat.reduceEqDiff,Nat.reduceAdd,Nat.reduceSub,Nat.reduceLeDiff,Nat.reduceMul,Nat.reduceBEq,Nat.reduceLT,Int.reduceToNat,reduceCtorEq,Int.natCast_zero,Int.cast_ofNat_Int];first | done | exact rfl | (and_intros<;>rfl)) | exact rfl | decide))))
   refine A0 h00 ?_
   refine w7 (A3 [] hc) trivial ?_
   refine A0 g200 ?_
   exact A9 (A8 [((8,1),(8,1))] []) Tryz.results71 g200
  ·cases h
theorem BU (s:ByteArray) (hs:s.size≤10000) {v:V}{r:ByteArray}(h:BG s=some (v,r)):AC Tryz.prog 71 [.c (.str s)] (Ij o1 o2) (.tup [.own (0,0),.c (.str r)]) [((0,0),.row false 5 115 (v.enc.map CellD.cs)),((8,1),.gen (Cf o1 o2))]:=by
 have hv:=Mt (o1:=o1) (o2:=o2) s hs 20 1 rfl ⟨0,0,0⟩ (Nat.zero_le _)
 have hag:=Fm (s:=s) 20 0 (Nat.zero_le _)
 obtain⟨e,hR,hr,he,hre,hrs⟩:=CI h
 rw[hR]at hag
 obtain⟨a1,a2⟩:=hag
 rw[a1,a2]at hv
 have hc200:=hr.2.1
 have g200:decide ((v.count:Int)>200)=false:=decide_eq_false (by omega)
 have hc:=OL _ v (Nat.le_refl _) (by omega)
 have hce:=OO hr
 have h00:((0:Int) != 0)=false:=rfl
 have hre':s.extract e s.size=r:=hre.symm
 simp only[Au,Bg]at hv
 refine A6 Tryz.func71 Tryz.ntmps71 ?_
 refine A0 trivial ?_
 (apply (Dr [] [((0,0),(8,0)),((8,1),(8,1))] [((0,0),(8,0)),((8,1),(8,1))] hv);(iterate 10 (focus (first | (simp only[go_sem,Nat.reduceEqDiff,Nat.reduceAdd,Nat.reduceSub,Nat.reduceLeDiff,Nat.reduceMul,Nat.reduceBEq,Nat.reduceLT,Int.reduceToNat,reduceCtorEq,Int.natCast_zero,Int.cast_ofNat_Int];first | done | exact rfl | (and_intros<;>rfl)) | exact rfl | decide)));(iterate 8 (focus (simp[go_sem,Int.natCast_zero,Int.cast_ofNat_Int];done)));(iterate 2 (focus (first | (simp only[go_sem,Nat.reduceEqDiff,Nat.reduceAdd,Nat.reduceSub,Nat.reduceLeDiff,Nat.reduceMul,Nat.reduceBEq,Nat.reduceLT,Int.reduceToNat,reduceCtorEq,Int.natCast_zero,Int.cast_ofNat_Int];first | done | exact rfl | (and_intros<;>rfl)) | exact rfl | decide))))
 refine A0 h00 ?_
 refine w7 (A3 [] hc) trivial ?_
 refine A0 g200 ?_
 refine w12 (IE [] hce) trivial ?_
 refine A0 (j2 he hre') ?_
 exact A9 (A8 [((8,1),(8,1)),((0,0),(22,0))] []) Tryz.results71 h00
end
end Go.Proofs.YtllfmaflodbieaaGreatDoor
