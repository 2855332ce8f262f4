/- Texts of this proof: E42 M54 D27. -/
import Derived.Test.YtlciedpfjhkkdaaGreatDoorKD24
set_option linter.all false
set_option maxHeartbeats 8000000
namespace Go.Proofs.YtlciedpfjhkkdaaGreatDoor
section
open Go.RowKit
section
variable {P:Program} {o:Oper} {σ:ASt}
theorem Hl {t e:TypeId}{s b size bytes:Nat}{z':Option Value}{ti:TI}{z:Value}(ht:tin P t=some ⟨.sl e,s,b,z'⟩) (ht':tin P e=some ⟨ti,size,bytes,some z⟩) (hzs:z.cells.size=size) (hsz:0<size) (hby:bytes≤200)
  {w:World} {v x:Value} {n:Nat} {xs:List Value} {S:Nat→Prop} {ys:List (List C)} {vrows:List (List Value)} {bs:List Nat} (hown:w.ownsRow 0 e size v n xs) (hx:Src w S size x ys vrows bs) (hn:n+ys.length≤2000000) (ty:TypeId) :
  ∃v' w',(Builtin.append_ #[t,t] ty #[v,x]).run P w=.ok v' w'∧w'.ownsRow 0 e size v' (n+ys.length) (xs++vrows.flatten)∧w.grownBy w' v.ownBlock∧(v'.ownBlock=v.ownBlock∨v'.ownBlock=some w.heap.size):=by
 obtain⟨A,c,rfl,h1,h2⟩:=hx.val
 have hu:=FJ ht
 obtain⟨d,i,g1,g2,g3⟩:=AK ht'
 simp only[TIn.mk.injEq]at g3
 obtain⟨_,g4,g5,g6⟩:=g3
 have hl:=hx.rep.length
 cases A with
 |none =>
  have hy:=h1 rfl
  subst hy
  have hv:vrows=[]:=by simpa using hl
  subst hv
  exact⟨v,w,by simpa using Cr w 0 t ty e i size hu g2 v n xs hown c,by simpa using hown,⟨rfl,rfl,rfl,Nat.le_refl _,fun _ _ _=>rfl⟩,.inl rfl⟩
 |some ad =>
  have hfl:=BC hx.len
  obtain⟨v',w',k1,k2,k3,_,k4⟩:=run_append_own_at (P:=P) w 0 t ty e i z size bytes hu g2 g6.symm g4.symm g5.symm hzs hsz v n xs hown ad ys.length c vrows.flatten (by rw[hfl,hl]) (h2 ad rfl) hx.rep.one
   (by simp only[maxLen];omega) (by calc (n+ys.length)*bytes≤2000000*200:=Nat.mul_le_mul hn hby
                     _≤_:=by omega) (Nat.zero_le _)
  exact⟨v',w',k1,k2,k3,k4⟩
theorem Il {ty e e':TypeId}{y z:Operand}{fr i j:Id}{s b size size' bytes:Nat}{z':Option Value}{ti:TI}{zv:Value}{xs ys:List (List C)}
  (ho:o.op=.call { callee:=.builtin .append,args:=#[y,z],argTypes:=#[ty,ty] }) (hf:σ.mem.get fr=none) (ht:tin P ty=some ⟨.sl e,s,b,z'⟩) (ht':tin P e=some ⟨ti,size,bytes,some zv⟩)
  (c1:zv.cells.size=size) (c2:0<size) (c3:bytes≤200) (hx:σ.ev y=.own i) (hi:σ.mem.get i=some (.row false size e xs)) (hz:σ.ev z=.own j) (hj:σ.mem.get j=some (.row false size' e' ys))
  (d1:xs.length+ys.length≤2000000) (d2:(ys.all fun r=>r.length==size)=true) (d3:i≠j):Ag P o σ ⟨[j],[(i,.dead),(fr,.row false size e (xs++ys))],.own fr⟩:=by
 have hyo:y∈o.op.operands:=by rw[ho];simp[Op.operands,Call.operands]
 have hzo:z∈o.op.operands:=by rw[ho];simp[Op.operands,Call.operands]
 intro Γ σ' a w ow κ hag hr
 have hfr:σ'.mem.get fr=none:=by rw[hag.2.2 fr (by simp),hf]
 have e2:σ'.mem.get i=some (.row false size e xs):=by rw[hag.2.2 i (by simp),hi]
 have e3:σ'.mem.get j=some (.row false size' e' ys):=by rw[hag.2.1 j (by simp),hj]
 obtain⟨_,o1,k1,k2⟩:=hag.ev hr hyo hx
 rw[e2]at k1
 cases k1
 have k3:=k2 (by simp)
 obtain⟨vx,bx,h1,h2,h3,h4,h5,h6⟩:=hr.objs i _ e2
 rw[←k3]at h4 h5 h6
 have hb:=h2 rfl
 subst hb
 obtain⟨_,o2,l1,l2⟩:=hag.ev hr hzo hz
 rw[e3]at l1
 cases l1
 have l3:=l2 (by simp)
 obtain⟨vy,bv,g1,g2,g3,g4,g5,g6⟩:=hr.objs j _ e3
 have hb:=g2 rfl
 subst hb
 rw[←l3]at g4 g5 g6
 have hl:∀x∈vy,x.length=size:=by
  intro x hx
  obtain⟨i,hi,rfl⟩:=List.getElem_of_mem hx
  have hl:=g1.length
  have hyi:ys[i]? = some (ys[i]'(by omega)):=List.getElem?_eq_getElem (by omega)
  obtain⟨vr,b,q1,q2,_⟩:=Ab.at_ g1 hyi
  rw[List.getElem?_eq_getElem hi]at q1
  injection q1 with q1
  rw[q1,q2.length]
  have:=List.all_eq_true.1 d2 _ (List.getElem_mem (l:=ys) (n:=i) (by omega))
  simpa using this
 have y1:Src w (Γ.sees ow) size (a.eval z) ys vy []:=by
  refine⟨?_,g1,hl⟩
  rcases g4.2 with⟨q1,h0⟩ | ⟨g,cap,cur,q1,_⟩
  ·rw[q1];exact⟨none,0,by rw[h0],fun _=>List.eq_nil_of_length_eq_zero h0,by simp⟩
  ·rw[q1];exact⟨_,cap,rfl,by simp,fun ad hA j u hu=>by cases hA;exact g4.cells (g:=g) (by rw[q1];rfl) j u hu⟩
 have hne:i≠fr:=fun e=>by rw[e,hf]at hi;cases hi
 obtain⟨v',w',r1,r2,r3,r4⟩:=Hl ht ht' c1 c2 c3 h4 y1 d1 o.type
 obtain⟨ow',κ',hr'⟩:=hr.appended (rd:=[j]) (ks:=[i]) (ex:=false) hfr (by simpa using hne) h1 g1 h3 hl r2 r3 r4 (fun _=>⟨rfl,rfl⟩) (by simpa using h5) (fun b hb=>⟨i,by simp,h6 b (by simpa using hb)⟩) o.dst
 refine⟨v',w',ow',κ',.inl ?_,hr'⟩
 unfold execOp
 rw[ho]
 simp[resolve,invoke,builtin,r1]
end
section
variable {P:Program} {σ τ:ASt} {ops:Array Oper} {r:List Oper} {fs:List AEff} {K:ASt→List AEff→Prop} {E:AEff} {d:Option Tmp} {ty':TypeId} {pos:String} {af:Array Edge} {gd:Option (Nat×Bool)}
theorem Fi {ty e e':TypeId}{y z:Operand}{i j:Id}{s b size size' bytes:Nat}{z':Option Value}{ti:TI}{zv:Value}(xs ys:List (List C))
  (d1:xs.length+ys.length≤2000000) (ht:tin P ty=some ⟨.sl e,s,b,z'⟩) (ht':tin P e=some ⟨ti,size,bytes,some zv⟩) (c1:zv.cells.size=size) (c2:0<size) (c3:bytes≤200) (d2:(ys.all fun r=>r.length==size)=true)
  (hg:AY ops σ ⟨d,.call { callee:=.builtin .append,args:=#[y,z],argTypes:=#[ty,ty] },ty',pos,af,gd⟩=some true) (hx:σ.ev y=.own i) (hi:σ.mem.get i=some (.row false size e xs)) (hz:σ.ev z=.own j) (hj:σ.mem.get j=some (.row false size' e' ys)) (d3:i≠j)
  (hf:σ.mem.get (σ.fresh ⟨d,.call { callee:=.builtin .append,args:=#[y,z],argTypes:=#[ty,ty] },ty',pos,af,gd⟩)=none)
  (hE:(⟨[j],[(i,.dead),(σ.fresh ⟨d,.call { callee:=.builtin .append,args:=#[y,z],argTypes:=#[ty,ty] },ty',pos,af,gd⟩,.row false size e (xs++ys))],.own (σ.fresh ⟨d,.call { callee:=.builtin .append,args:=#[y,z],argTypes:=#[ty,ty] },ty',pos,af,gd⟩)⟩:AEff)=E)
  (hτ:σ.upd d E=τ) (h:A9 P ops r τ (fs++[E]) K):A9 P ops (⟨d,.call { callee:=.builtin .append,args:=#[y,z],argTypes:=#[ty,ty] },ty',pos,af,gd⟩::r) σ fs K:=by
 subst hE
 exact B7 hg (Il rfl hf ht ht' c1 c2 c3 hx hi hz hj d1 d2 d3).sound hτ h
end
end
section
open Go.RowKit
def C8 (s:ByteArray):Nat→Nat→Nat→List ByteArray
 | 0,f,_=>if f<s.size then [s.extract f s.size] else []
 |n+1,f,i=>if bAt s i=10 then s.extract f i::C8 s n (i+1) (i+1) else C8 s n f (i+1)
def CE (s:ByteArray):List ByteArray:=C8 s s.size 0 0
def nlN (s:ByteArray):Nat→Nat→Nat
 | 0,_=>0
 |n+1,i=>(if bAt s i=10 then 1 else 0)+nlN s n (i+1)
def nlB (s:ByteArray):Nat→Nat→Nat
 | 0,i=>i
 |n+1,i=>if bAt s i=10 then i else nlB s n (i+1)
def DH (s:ByteArray):Nat→Nat→List ByteArray
 | 0,f=>[s.extract f s.size]
 |k+1,f=>s.extract f (nlB s (s.size-f) f)::DH s k (nlB s (s.size-f) f+1)
theorem MK (s:ByteArray):∀(n i:Nat),i≤nlB s n i∧nlB s n i≤i+n
 | 0,i=>⟨Nat.le_refl _,Nat.le_refl _⟩
 |n+1,i=>by
  unfold nlB
  have:=MK s n (i+1)
  split<;>omega
theorem MC (s:ByteArray):∀(n i:Nat),0<nlN s n i→bAt s (nlB s n i)=10∧nlB s n i<i+n∧nlN s n i=nlN s (i+n-(nlB s n i+1)) (nlB s n i+1)+1
 | 0,i,h=>by simp[nlN]at h
 |n+1,i,h=>by
  have e:nlN s (n+1) i=(if bAt s i=10 then 1 else 0)+nlN s n (i+1):=rfl
  have e2:nlB s (n+1) i=if bAt s i=10 then i else nlB s n (i+1):=rfl
  rw[e]at h ⊢
  rw[e2]
  by_cases h10:bAt s i=10
  ·rw[if_pos h10,if_pos h10]
   refine⟨h10,by omega,?_⟩
   rw[show i+(n+1)-(i+1)=n from by omega]
   omega
  ·rw[if_neg h10]at h ⊢
   rw[if_neg h10]
   obtain⟨h1,h2,h3⟩:=MC s n (i+1) (by omega)
   refine⟨h1,by omega,?_⟩
   rw[show i+(n+1)-(nlB s n (i+1)+1)=i+1+n-(nlB s n (i+1)+1) from by omega]
   omega
theorem I1 (s:ByteArray):∀(k f:Nat),(DH s k f).length=k+1
 | 0,f=>rfl
 |k+1,f=>by simp[DH,I1 s k]
theorem Hg (s:ByteArray):∀(n f i:Nat),0<nlN s n i→C8 s n f i=s.extract f (nlB s n i)::C8 s (i+n-(nlB s n i+1)) (nlB s n i+1) (nlB s n i+1)
 | 0,f,i,h=>by simp[nlN]at h
 |n+1,f,i,h=>by
  unfold nlN at h
  unfold nlB
  by_cases h10:bAt s i=10
  ·rw[if_pos h10,C8,if_pos h10,show i+(n+1)-(i+1)=n from by omega]
  ·rw[if_neg h10]at h ⊢
   rw[C8,if_neg h10,Hg s n f (i+1) (by omega),show i+(n+1)-(nlB s n (i+1)+1)=i+1+n-(nlB s n (i+1)+1) from by omega]
theorem H2 (s:ByteArray):∀(n f i:Nat),nlN s n i=0→C8 s n f i=if f<s.size then [s.extract f s.size] else []
 | 0,f,i,_=>rfl
 |n+1,f,i,h=>by
  unfold nlN at h
  by_cases h10:bAt s i=10
  ·rw[if_pos h10]at h;omega
  ·rw[if_neg h10]at h
   rw[C8,if_neg h10,H2 s n f (i+1) (by omega)]
def Gg (l:List ByteArray):List ByteArray:=if l.getLast? = some ByteArray.empty then l.dropLast else l
theorem Nv (x:ByteArray) {l:List ByteArray}(h:l≠[]):Gg (x::l)=x::Gg l:=by
 unfold Gg
 cases l with
 |nil=>exact absurd rfl h
 |cons y l =>
  rw[List.getLast?_cons_cons]
  split<;>simp
theorem Qg {s:ByteArray}{f:Nat}(h:s.size≤f):s.extract f s.size=ByteArray.empty:=by
 apply ByteArray.ext
 apply Array.eq_empty_of_size_eq_zero
 have h1:=DU (s:=s) (a:=f) (e:=s.size) (Nat.le_refl _)
 have h2:(s.extract f s.size).size=(s.extract f s.size).data.size:=rfl
 omega
theorem H7 (s:ByteArray):∀(k f:Nat),f≤s.size→nlN s (s.size-f) f=k→Gg (DH s k f)=C8 s (s.size-f) f f
 | 0,f,hf,h=>by
  rw[H2 s _ f f h]
  unfold DH Gg
  by_cases hl:f<s.size
  ·have h1:=DU (s:=s) (a:=f) (e:=s.size) (Nat.le_refl _)
   rw[if_pos hl,if_neg]
   intro he
   simp only[List.getLast?_singleton,Option.some.injEq]at he
   rw[he]at h1
   have h2:(ByteArray.empty:ByteArray).size=0:=rfl
   omega
  ·rw[if_neg hl,Qg (by omega)]
   rfl
 |k+1,f,hf,h=>by
  obtain⟨h1,h2,h3⟩:=MC s (s.size-f) f (by omega)
  have hne:DH s k (nlB s (s.size-f) f+1)≠[]:=by
   intro h
   have:=I1 s k (nlB s (s.size-f) f+1)
   rw[h]at this
   simp at this
  rw[show f+(s.size-f)-(nlB s (s.size-f) f+1)=s.size-(nlB s (s.size-f) f+1) from by omega]at h3
  rw[Hg s (s.size-f) f f (by omega),DH,Nv _ hne,H7 s k _ (by omega) (by omega),show f+(s.size-f)-(nlB s (s.size-f) f+1)=s.size-(nlB s (s.size-f) f+1) from by omega]
theorem PY (s:ByteArray):Gg (DH s (nlN s s.size 0) 0)=CE s:=by
 have:=H7 s (nlN s s.size 0) 0 (Nat.zero_le _) rfl
 exact this
set_option maxRecDepth 10000
theorem Mw (s:ByteArray) (hs:s.size≤1048576):AC Tryz.prog 58 [.c (.str s)] [] (.own (0,0)) [((0,0),.row false 1 9 ((CE s).map A8))]:=by
 have h0w:IntKind.i64.wrap 0=0:=rfl
 refine A7 Tryz.func58 Tryz.ntmps58 ?_
 refine A0 trivial ?_
 refine AH (κ:=List ByteArray×Nat×Nat) (fun k=>⟨mkS 0 37 [(0,.c (.str s)),(3,.own (99,0)),(4,.c (.int .i64 k.2.1)),(5,.c (.int .i64 k.2.2))],[((99,0),.row false 1 9 (k.1.map A8))]⟩)
  (fun k=>k.2.1≤k.2.2∧k.2.2≤s.size∧k.1.length≤k.2.2∧k.1++C8 s (s.size-k.2.2) k.2.1 k.2.2=CE s) (fun k=>s.size-k.2.2) ([],0,0) ⟨Nat.le_refl _,Nat.zero_le _,Nat.zero_le _,rfl⟩ ?_ ?_
 ·exact Ao (Ay.of [((99,0),(6,0))] []) @List.map_nil.{0,0}
 ·rintro⟨out,f,i⟩ ⟨hf,hi,hol,hgo⟩
  dsimp only at hf hi hol hgo ⊢
  by_cases hlt:i<s.size
  ·have hdk:decide ((i:Int)<(s.size:Int))=true:=decide_eq_true (by omega)
   obtain⟨b,hg,hb⟩:=Ar hlt
   have hwi:=Ae (k:=i) (by omega)
   obtain⟨n,hn⟩:∃n,s.size-i=n+1:=⟨s.size-i-1,by omega⟩
   have hn':s.size-(i+1)=n:=by omega
   rw[hn,C8]at hgo
   by_cases h10:bAt s i=10
   ·have e10:(((b.toNat:Nat):Int)==10)=true:=by rw[←hb,h10];rfl
    rw[if_pos h10]at hgo
    have hrow:(out++[s.extract f i]).map A8=(out.map A8)++[[C.str (s.extract f i)]]:=by simp[A8]
    refine A0 (j5 hdk hg e10 hf hi) ?_
    refine w9 (Fi (out.map A8) [A8 (s.extract f i)] (by simp;omega) S8 Ti rfl (by decide) (by decide) rfl) trivial ?_
    refine A0 hwi ?_
    refine⟨(out++[s.extract f i],i+1,i+1),by dsimp only;omega,⟨Nat.le_refl _,by dsimp only;omega,by simp;omega,by dsimp only;rw[hn',List.append_assoc];exact hgo⟩,?_⟩
    exact Ao (Ay.of [((99,0),(23,0))] []) (j2 hwi hrow)
   ·have e10:(((b.toNat:Nat):Int)==10)=false:=by rw[←hb];simp;omega
    rw[if_neg h10]at hgo
    refine A0 (j4 hdk hg e10 hwi) ?_
    refine⟨(out,f,i+1),by dsimp only;omega,⟨by dsimp only;omega,by dsimp only;omega,by dsimp only;omega,by dsimp only;rw[hn'];exact hgo⟩,?_⟩
    exact Ao (Ay.of [((99,0),(99,0))] []) hwi
  ·have hdk:decide ((i:Int)<(s.size:Int))=false:=decide_eq_false (by omega)
   rw[show s.size-i=0 from by omega,C8]at hgo
   by_cases hfs:f<s.size
   ·have hdf:decide ((f:Int)<(s.size:Int))=true:=decide_eq_true (by omega)
    have hfl:f≤s.size:=by omega
    rw[if_pos hfs]at hgo
    have hrow:(CE s).map A8=(out.map A8)++[[C.str (s.extract f s.size)]]:=by rw[←hgo];simp[A8]
    refine A0 (j3 hdk hdf hfl) ?_
    refine w9 (Fi (out.map A8) [A8 (s.extract f s.size)] (by simp;omega) S8 Ti rfl (by decide) (by decide) rfl) trivial ?_
    refine A0 trivial ?_
    exact Ad (Ac [((0,0),(35,0))] []) Tryz.results58 hrow
   ·have hdf:decide ((f:Int)<(s.size:Int))=false:=decide_eq_false (by omega)
    rw[if_neg hfs,List.append_nil]at hgo
    subst hgo
    refine A0 (j2 hdk hdf) ?_
    exact Ad (Ac [((0,0),(99,0))] []) Tryz.results58 hdk
end
end Go.Proofs.YtlciedpfjhkkdaaGreatDoor
