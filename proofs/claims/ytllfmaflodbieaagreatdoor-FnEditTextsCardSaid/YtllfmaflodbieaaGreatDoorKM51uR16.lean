/- Texts of this proof: M51 M54 E36 R16. -/
import Derived.Test.YtllfmaflodbieaaGreatDoorKE35uM49
import Derived.Lib.AppendStr
import Derived.Lib.Builder
import Derived.Lib.UnsafeStr
import Derived.Shelf.Strings.OnBuilder
set_option linter.all false
set_option maxHeartbeats 8000000
namespace Go.Proofs.YtllfmaflodbieaaGreatDoor
section
open Go.RowKit
theorem FW {s:ByteArray}{a e:Nat}(h:e≤s.size):(s.extract a e).size=e-a:=by
 rw[ByteArray.size_extract]
 omega
theorem Dq (s:ByteArray) (a e:Nat):(s.extract a e).data.toList=(s.data.toList.take e).drop a:=by
 rw[Lib.extract_data,List.drop_take]
theorem Zy {s:ByteArray}{a e k:Nat}(h:e≤s.size) (hk:a+k<e):bAt (s.extract a e) k=bAt s (a+k):=by
 rw[Ew,Ew,Dq,List.getElem?_drop,List.getElem?_take]
 rw[if_pos hk]
def Dw (s:ByteArray):Nat→Nat→Nat→List ByteArray
 | 0,f,_=>if f<s.size then [s.extract f s.size] else []
 |n+1,f,i=>if bAt s i=10 then s.extract f i::Dw s n (i+1) (i+1) else Dw s n f (i+1)
def GH (s:ByteArray):List ByteArray:=Dw s s.size 0 0
def nlN (s:ByteArray):Nat→Nat→Nat
 | 0,_=>0
 |n+1,i=>(if bAt s i=10 then 1 else 0)+nlN s n (i+1)
def nlB (s:ByteArray):Nat→Nat→Nat
 | 0,i=>i
 |n+1,i=>if bAt s i=10 then i else nlB s n (i+1)
def GL (s:ByteArray):Nat→Nat→List ByteArray
 | 0,f=>[s.extract f s.size]
 |k+1,f=>s.extract f (nlB s (s.size-f) f)::GL s k (nlB s (s.size-f) f+1)
theorem Vx (s:ByteArray):∀(n i:Nat),i≤nlB s n i∧nlB s n i≤i+n
 | 0,i=>⟨Nat.le_refl _,Nat.le_refl _⟩
 |n+1,i=>by
  unfold nlB
  have:=Vx s n (i+1)
  split<;>omega
theorem Vw (s:ByteArray):∀(n i:Nat),0<nlN s n i→bAt s (nlB s n i)=10∧nlB s n i<i+n∧nlN s n i=nlN s (i+n-(nlB s n i+1)) (nlB s n i+1)+1
 | 0,i,h=>by simp[nlN]at h
 |n+1,i,h=>by
  have e:nlN s (n+1) i=(if bAt s i=10 then 1 else 0)+nlN s n (i+1):=rfl
  have e2:nlB s (n+1) i=if bAt s i=10 then i else nlB s n (i+1):=rfl
  rw[e]at h ⊢
  rw[e2]
  by_cases h10:bAt s i=10
  ·rw[if_pos h10,if_pos h10]
   refine⟨h10,by omega,?_⟩
   rw[show i+(n+1)-(i+1)=n from by omega]
   omega
  ·rw[if_neg h10]at h ⊢
   rw[if_neg h10]
   obtain⟨h1,h2,h3⟩:=Vw s n (i+1) (by omega)
   refine⟨h1,by omega,?_⟩
   rw[show i+(n+1)-(nlB s n (i+1)+1)=i+1+n-(nlB s n (i+1)+1) from by omega]
   omega
theorem OC (s:ByteArray):∀(k f:Nat),(GL s k f).length=k+1
 | 0,f=>rfl
 |k+1,f=>by simp[GL,OC s k]
theorem IA (s:ByteArray):∀(n f i:Nat),0<nlN s n i→Dw s n f i=s.extract f (nlB s n i)::Dw s (i+n-(nlB s n i+1)) (nlB s n i+1) (nlB s n i+1)
 | 0,f,i,h=>by simp[nlN]at h
 |n+1,f,i,h=>by
  unfold nlN at h
  unfold nlB
  by_cases h10:bAt s i=10
  ·rw[if_pos h10,Dw,if_pos h10,show i+(n+1)-(i+1)=n from by omega]
  ·rw[if_neg h10]at h ⊢
   rw[Dw,if_neg h10,IA s n f (i+1) (by omega),show i+(n+1)-(nlB s n (i+1)+1)=i+1+n-(nlB s n (i+1)+1) from by omega]
theorem Mi (s:ByteArray):∀(n f i:Nat),nlN s n i=0→Dw s n f i=if f<s.size then [s.extract f s.size] else []
 | 0,f,i,_=>rfl
 |n+1,f,i,h=>by
  unfold nlN at h
  by_cases h10:bAt s i=10
  ·rw[if_pos h10]at h;omega
  ·rw[if_neg h10]at h
   rw[Dw,if_neg h10,Mi s n f (i+1) (by omega)]
def KW (l:List ByteArray):List ByteArray:=if l.getLast? = some ByteArray.empty then l.dropLast else l
theorem Wh (x:ByteArray) {l:List ByteArray}(h:l≠[]):KW (x::l)=x::KW l:=by
 unfold KW
 cases l with
 |nil=>exact absurd rfl h
 |cons y l =>
  rw[List.getLast?_cons_cons]
  split<;>simp
theorem ZA {s:ByteArray}{f:Nat}(h:s.size≤f):s.extract f s.size=ByteArray.empty:=by
 apply ByteArray.ext
 apply Array.eq_empty_of_size_eq_zero
 have h1:=FW (s:=s) (a:=f) (e:=s.size) (Nat.le_refl _)
 have h2:(s.extract f s.size).size=(s.extract f s.size).data.size:=rfl
 omega
theorem Mx (s:ByteArray):∀(k f:Nat),f≤s.size→nlN s (s.size-f) f=k→KW (GL s k f)=Dw s (s.size-f) f f
 | 0,f,hf,h=>by
  rw[Mi s _ f f h]
  unfold GL KW
  by_cases hl:f<s.size
  ·have h1:=FW (s:=s) (a:=f) (e:=s.size) (Nat.le_refl _)
   rw[if_pos hl,if_neg]
   intro he
   simp only[List.getLast?_singleton,Option.some.injEq]at he
   rw[he]at h1
   have h2:(ByteArray.empty:ByteArray).size=0:=rfl
   omega
  ·rw[if_neg hl,ZA (by omega)]
   rfl
 |k+1,f,hf,h=>by
  obtain⟨h1,h2,h3⟩:=Vw s (s.size-f) f (by omega)
  have hne:GL s k (nlB s (s.size-f) f+1)≠[]:=by
   intro h
   have:=OC s k (nlB s (s.size-f) f+1)
   rw[h]at this
   simp at this
  rw[show f+(s.size-f)-(nlB s (s.size-f) f+1)=s.size-(nlB s (s.size-f) f+1) from by omega]at h3
  rw[IA s (s.size-f) f f (by omega),GL,Wh _ hne,Mx s k _ (by omega) (by omega),show f+(s.size-f)-(nlB s (s.size-f) f+1)=s.size-(nlB s (s.size-f) f+1) from by omega]
theorem y6 (s:ByteArray):KW (GL s (nlN s s.size 0) 0)=GH s:=by
 have:=Mx s (nlN s s.size 0) 0 (Nat.zero_le _) rfl
 exact this
end
section
open Go.RowKit
def I8 (T e:TypeId) (s:ByteArray) (κ:Value) (l:List (Nat×Obj)):Prop :=
 ∃b p v,κ=.pointer (some ⟨b,0,none⟩)∧(p=.pointer none∨p=.pointer (some ⟨b,0,none⟩))∧(b,Obj.cells #[p,v] T (0,0))∈l∧v.ownBlock≠some b∧(∀g,v.ownBlock=some g→∃o,(g,o)∈l) ∧
  ∀w:World,(∀q,q∈l→w.heap[q.1]? = some q.2)→w.ownsRow 0 e 1 v s.size (Lib.strCells s)
structure BldAt (T e:TypeId) (s:ByteArray) (w:World) (ow:Nat→Option Id) (i:Id) (b:Nat) (p v:Value):Prop where
 ptr:p=.pointer none∨p=.pointer (some ⟨b,0,none⟩)
 mine:ow b=some i
 cells:w.heap[b]? = some (.cells #[p,v] T (0,0))
 ne:v.ownBlock≠some b
 buf:∀g,v.ownBlock=some g→ow g=some i
 owns:w.ownsRow 0 e 1 v s.size (Lib.strCells s)
section
variable {T e:TypeId} {s:ByteArray} {w:World} {S:Nat→Prop} {m:Mem} {ow:Nat→Option Id} {κ:Id→Value} {i:Id}
theorem Uz (h:OR w S m ow κ i (.gen (I8 T e s))):∃b p v,κ i=.pointer (some ⟨b,0,none⟩)∧BldAt T e s w ow i b p v:=by
 obtain⟨l,h1,b,p,v,h2,h3,h4,h5,h6,h7⟩:=h
 refine⟨b,p,v,h2,h3,(h1 _ h4).1,(h1 _ h4).2,h5,fun g hg=>?_,h7 w fun q hq=>(h1 q hq).2⟩
 obtain⟨o,ho⟩:=h6 g hg
 exact (h1 _ ho).1
theorem UA {b:Nat}{p v:Value}(hk:κ i=.pointer (some ⟨b,0,none⟩)) (h:BldAt T e s w ow i b p v):OR w S m ow κ i (.gen (I8 T e s)):=by
 have ho:=h.owns
 rcases ho.2 with⟨hv,hn⟩ | ⟨g,cap,cur,hv,hg0,hg,hrest⟩
 ·refine⟨[(b,.cells #[p,v] T (0,0))],?_,b,p,v,hk,h.ptr,by simp,h.ne,fun g hg=>by rw[hv]at hg;simp[Value.ownBlock]at hg,fun w' _=>⟨ho.1,.inl ⟨hv,hn⟩⟩⟩
  intro q hq
  obtain rfl:q=(b,.cells #[p,v] T (0,0)):=by simpa using hq
  exact⟨h.mine,h.cells⟩
 ·have hb:v.ownBlock=some g:=by rw[hv];rfl
  refine⟨[(b,.cells #[p,v] T (0,0)),(g,.cells cur e (0,0))],?_,b,p,v,hk,h.ptr,by simp,h.ne,fun g' hg'=>?_,fun w' hw'=>⟨ho.1,.inr ⟨g,cap,cur,hv,hg0,hw' (g,.cells cur e (0,0)) (by simp),hrest⟩⟩⟩
  ·intro q hq
   simp only[List.mem_cons,List.not_mem_nil,or_false]at hq
   rcases hq with rfl | rfl
   ·exact⟨h.mine,h.cells⟩
   ·exact⟨h.buf g hb,hg⟩
  ·rw[hb]at hg'
   cases hg'
   exact⟨.cells cur e (0,0),by simp⟩
end
section
variable {P:Program}
theorem KN (w:World) (base:Nat) (t u ty e:TypeId) (i:TypeInfo) (ht:P.underlying t=some (.slice e)) (hu:P.underlying u=some .string) (hi:P.info? e=some i) (hz:i.zero=some (.int .u8 0))
  (hsize:i.size=1) (hby:i.bytes=1) (v:Value) (n:Nat) (xs:List Value) (hown:w.ownsRow base e 1 v n xs) (s:ByteArray) (hbytes:n+s.size≤140737488355328) (hbase:base≤w.heap.size) :
  ∃v' w',(Builtin.append_ #[t,u] ty #[v,.string s]).run P w=.ok v' w'∧w'.ownsRow base e 1 v' (n+s.size) (xs++Lib.strCells s)∧w.grownBy w' v.ownBlock∧(v'.ownBlock=v.ownBlock∨v'.ownBlock=some w.heap.size):=by
 obtain⟨v',w',h1,h2,h3,h4⟩:=Lib.run_append_own_string (P:=P) w base t u ty e i ht hu hi hz hsize hby v n xs hown s (by unfold maxLen;omega) hbytes hbase
 refine⟨v',w',h1,h2,h3,?_⟩
 have hxl:xs.length=n:=by simpa using hown.1
 rcases hown.2 with⟨rfl,rfl⟩ | ⟨g,cap,cur,rfl,hbg,hg,hnc,hcm,hcs,htake⟩
 ·by_cases hm:s.size=0
  ·rw[h4.2 ⟨rfl,hm⟩];exact .inl rfl
  ·have hr:=run_append_nil_string (P:=P) w t u ty e i (.int .u8 0) ht hu hi hz s (by omega) (by omega) (by rw[hby];omega)
   have h5:=h1.symm.trans hr
   injection h5 with h5 _
   rw[h5]
   exact .inr rfl
 ·by_cases hroom:n+s.size≤cap
  ·have hcs':cur.size=cap:=by simpa using hcs
   have hr:=Lib.run_append_room_string (P:=P) w t u ty e i ht hu hi hsize g n cap cur hg s hroom (by omega)
   have h5:=h1.symm.trans hr
   injection h5 with h5 _
   rw[h5]
   exact .inl rfl
  ·have C7:∀j u,xs[j]? = some u→w.cell? ((⟨g,0,none⟩:Addr).add j)=some u:=hown.cells (g:=g) rfl
   have hr:=Lib.run_append_grow_string (P:=P) w t u ty e i (.int .u8 0) ht hu hi hz ⟨g,0,none⟩ n cap xs (by rw[hsize];simpa using hxl) C7 s (by omega) (by omega) (by rw[hby];exact growslice_fits (by omega) (by omega))
   have h5:=h1.symm.trans hr
   injection h5 with h5 _
   rw[h5]
   exact .inr rfl
theorem IR {ops:Array Oper}{rest:List Oper}{o:Oper}{a:Act}{w:World}{Q:Exit→Act→World→Prop}(hgd:o.guard=none) (sl x:Operand) (t u:TypeId)
  (ho:o.op=.call { callee:=.builtin .append,args:=#[sl,x],argTypes:=#[t,u] })
  (base:Nat) (e:TypeId) (i:TypeInfo) (ht:P.underlying t=some (.slice e)) (hu:P.underlying u=some .string) (hi:P.info? e=some i) (hz:i.zero=some (.int .u8 0))
  (hsize:i.size=1) (hby:i.bytes=1)
  (v:Value) (n:Nat) (xs:List Value) (hs:a.eval sl=v) (hown:w.ownsRow base e 1 v n xs) (s:ByteArray) (hx:a.eval x=.string s)
  (hbytes:n+s.size≤140737488355328) (hbase:base≤w.heap.size)
  (h:∀v' w',w'.ownsRow base e 1 v' (n+s.size) (xs++Lib.strCells s)→w.grownBy w' v.ownBlock→(v'.ownBlock=v.ownBlock∨v'.ownBlock=some w.heap.size)→wpList P ops Q rest (a.put o.dst v') w'):wpList P ops Q (o::rest) a w:=by
 refine wpList_plain hgd fun K hK=>?_
 obtain⟨v',w',hr,h2,h3,h4⟩:=KN (P:=P) w base t u o.type e i ht hu hi hz hsize hby v n xs hown s hbytes hbase
 unfold Oper.wp execOp
 simp only[ho,resolve,invoke,builtin,Sem.run_bind,Sem.run_pure,Result.andThen_ok,List.map_toArray,List.map_cons,List.map_nil,hs,hx,hr]
 exact hK _ _ (h v' w' h2 h3 h4)
end
def Xe (P:Program) (T:TypeId):Prop:=∃fs n,tin P T=some ⟨.st fs,2,n,some (.agg #[.pointer none,.slice none 0 0])⟩∧(fs.all fun f=>(tin P f.1).isSome)=true
section
variable {P:Program} {o:Oper} {σ:ASt}
theorem VZ {T e:TypeId}{fr:Id}(ho:o.op=.alloc T) (hz:Xe P T) (hf:σ.mem.get fr=none):An P o σ ⟨[],[(fr,.gen (I8 T e ByteArray.empty))],.ptr fr 0⟩:=by
 obtain⟨fs,sb,hz,_⟩:=hz
 intro Γ σ' a w ow κ hag hr
 have hf':σ'.mem.get fr=none:=by rw[hag.2.2 fr (by simp),hf]
 have st:Step σ'.mem [(fr,.gen (I8 T e ByteArray.empty))] w ow κ (w.alloc (.cells #[.pointer none,.slice none 0 0] T)) (D3 ow [] fr (some w.heap.size)) (CE κ fr (.pointer (some ⟨w.heap.size,0,none⟩))) :=
  Step.make (ks:=[]) rfl rfl rfl (by simp) hf' (by simp) rfl (fun b hb _=>Below.heap_alloc w _ b hb) (fun b hb=>by cases hb;exact⟨by simp,.inl (Nat.le_refl _)⟩) hr.owns
 refine⟨.pointer (some ⟨w.heap.size,0,none⟩),_,_,_,.inl ?_,hr.step (E:=⟨[],[(fr,.gen (I8 T e ByteArray.empty))],.ptr fr 0⟩) st ⟨rfl,.gen (I8 T e ByteArray.empty),C1 (ks:=[]) (by simp),fun _=>⟨w.heap.size,by simp[CE],rfl⟩⟩ (fun i hi o' ho'=>?_) o.dst⟩
 ·unfold execOp
  rw[ho]
  simp[Instr.alloc,Gd hz,newVar,newRow]
  rfl
 ·have hi':i=fr:=by simpa using hi
  subst hi'
  cases (C1 (m:=σ'.mem) (ks:=[]) (fr:=i) (obj:=.gen (I8 T e ByteArray.empty)) (by simp)).symm.trans ho'
  refine UA (b:=w.heap.size) (p:=.pointer none) (v:=.slice none 0 0) (by simp[CE]) ⟨.inl rfl,by simp[D3],heap_alloc_new w _,by simp[Value.ownBlock],fun g hg=>by simp[Value.ownBlock]at hg,?_⟩
  exact World.ownsRow_nil _ _ _ _
theorem RR {T e:TypeId}{y q:Operand}{i:Id}(ho:o.op=.store T y q) (hz:Xe P T) (hy:σ.ev y=.ptr i 0) (hq:σ.ev q=.agg [.c (.raw (.pointer none)),.nils]) (hi:σ.mem.get i=some (.gen (I8 T e ByteArray.empty))) :
  An P o σ ⟨[],[(i,.gen (I8 T e ByteArray.empty))],.skip⟩:=by
 obtain⟨fs,sb,hz,_⟩:=hz
 intro Γ σ' a w ow κ hag hr
 have hi':σ'.mem.get i=some (.gen (I8 T e ByteArray.empty)):=by rw[hag.2.2 i (by simp),hi]
 obtain⟨_,o1,k1,k2⟩:=hag.ev hr (by rw[ho];simp[Op.operands]) hy
 rw[hi']at k1
 cases k1
 obtain⟨b0,e1,e2⟩:=k2 rfl
 obtain⟨vs,q1,q2,_⟩:=hag.ev hr (by rw[ho];simp[Op.operands]) hq
 obtain⟨v1,r1,rfl,⟨rfl,_⟩,v2,r2,rfl,h2,hr2⟩:=q2
 simp only[AR]at h2
 subst h2
 simp only[ARs]at hr2
 subst hr2
 obtain⟨b,p,v,g1,g2⟩:=Uz (hr.objs i _ hi')
 obtain rfl:b0=b:=by
  have:=e1.symm.trans g1
  simpa using this
 have hrun:=Dt hz g2.cells (off:=0) (v:=.agg (List.toArray [Value.pointer none,.slice none 0 0])) (us:=[.pointer none,.slice none 0 0]) rfl rfl (by simp) (by intro u hu;simp at hu;rcases hu with rfl | rfl<;>rfl)
 have hput:BZ (#[p,v]:Array Value).toList 0 [Value.pointer none,.slice none 0 0]=[.pointer none,.slice none 0 0]:=by simp[BZ]
 rw[hput]at hrun
 have st:Step σ'.mem [(i,.gen (I8 T e ByteArray.empty))] w ow κ (w.setRow b0 [Value.pointer none,.slice none 0 0].toArray) ow κ :=
  Step.write rfl rfl rfl (by simp) hi' rfl rfl (fun b' hb' hne=>setRow_other w b0 b' _ (fun e=>hne (by rw[e];exact g2.mine))) (fun b i hb=>(hr.own b i hb).1)
 refine⟨undef,_,ow,κ,.inr ⟨?_,rfl⟩,hr.step (E:=⟨[],[(i,.gen (I8 T e ByteArray.empty))],.skip⟩) st rfl (fun j hj o' ho'=>?_) o.dst⟩
 ·unfold execOp
  rw[ho]
  simp[Instr.storeAt,Instr.sureAddr,e2,q1,hrun]
 ·have hji:j=i:=by simpa using hj
  subst hji
  have:o'=.gen (I8 T e ByteArray.empty):=by
   have:(σ'.mem.puts [(j,AO.gen (I8 T e ByteArray.empty))]).get j=some o':=ho'
   simp[Mem.puts,Mem.get_put]at this
   exact this.symm
  subst this
  exact UA (p:=.pointer none) (v:=.slice none 0 0) g1 ⟨.inl rfl,g2.mine,setRow_heap w b0 _ _ T _ g2.cells,by simp[Value.ownBlock],fun g hg=>by simp[Value.ownBlock]at hg,World.ownsRow_nil _ _ _ _⟩
end
section
variable {P:Program} {σ τ:ASt} {ops:Array Oper} {r:List Oper} {fs:List AEff} {K:ASt→List AEff→Prop} {E:AEff} {d:Option Tmp} {ty':TypeId} {pos:String} {af:Array Edge} {gd:Option (Nat×Bool)}
theorem Ye {T:TypeId}(e:TypeId) (hz:Xe P T) (hg:BM ops σ ⟨d,.alloc T,ty',pos,af,gd⟩=some true) (hf:σ.mem.get (σ.fresh ⟨d,.alloc T,ty',pos,af,gd⟩)=none)
  (he:(⟨[],[(σ.fresh ⟨d,.alloc T,ty',pos,af,gd⟩,.gen (I8 T e ByteArray.empty))],.ptr (σ.fresh ⟨d,.alloc T,ty',pos,af,gd⟩) 0⟩:AEff)=E) (hτ:σ.upd d E=τ) (h:Ah P ops r τ (fs++[E]) K):Ah P ops (⟨d,.alloc T,ty',pos,af,gd⟩::r) σ fs K:=by
 subst he
 exact BV hg (VZ rfl hz hf).sound hτ h
theorem TE {T e:TypeId}{y q:Operand}{i:Id}(hz:Xe P T) (hg:BM ops σ ⟨d,.store T y q,ty',pos,af,gd⟩=some true) (hy:σ.ev y=.ptr i 0) (hq:σ.ev q=.agg [.c (.raw (.pointer none)),.nils]) (hi:σ.mem.get i=some (.gen (I8 T e ByteArray.empty)))
  (he:(⟨[],[(i,.gen (I8 T e ByteArray.empty))],.skip⟩:AEff)=E) (hτ:σ.upd d E=τ) (h:Ah P ops r τ (fs++[E]) K):Ah P ops (⟨d,.store T y q,ty',pos,af,gd⟩::r) σ fs K:=by
 subst he
 exact BV hg (RR rfl hz hy hq hi).sound hτ h
theorem VE {T:TypeId}(hz:Xe P T) (hg:BM ops σ ⟨d,.build T #[],ty',pos,af,gd⟩=some true)
  (he:(⟨[],[],.agg [.c (.raw (.pointer none)),.nils]⟩:AEff)=E) (hτ:σ.upd d E=τ) (h:Ah P ops r τ (fs++[E]) K):Ah P ops (⟨d,.build T #[],ty',pos,af,gd⟩::r) σ fs K:=by
 subst he
 obtain⟨fs,n,hz,hf⟩:=hz
 refine BV hg (Qe rfl ?_).sound hτ h
 unfold Ik
 rw[hz]
 have h0:JE (some (.agg #[.pointer none,.slice none 0 0]))=some [.c (.raw (.pointer none)),.nils]:=rfl
 simp only[h0,hf,if_true,LW,Option.map_some]
end
end
section
open Go.RowKit Go.Shelf
def T2:Ren where
 f:=fun x=>match x with
  | 156=>110
  | 165=>166
  | 166=>37
  | 169=>39
  | 240=>75
  | 241=>213
  | 276=>136
  | 277=>255
  |n=>n
 t:=fun x=>match x with
  | 31=>50
  | 9=>9
  | 3=>3
  | 4=>4
  | 0=>0
  | 20=>20
  | 72=>60
  | 76=>63
  | 70=>58
  | 37=>29
  | 75=>62
  | 127=>113
  | 164=>174
  | 5=>5
  | 80=>65
  |n=>n
 g:=fun x=>match x with
  |n=>n
theorem H0:Lays.n156 Tryz.prog T2 where
 mixed:=BF
 f156:=by kernel_rfl
 f165:=by kernel_rfl
 f166:=by kernel_rfl
 f169:=by kernel_rfl
 f240:=by kernel_rfl
 f241:=by kernel_rfl
 f276:=by kernel_rfl
 f277:=by kernel_rfl
 t0:=Tryz.underlying0
 a0:=Tryz.isAgg0
 z0:=Tryz.sizeOf0
 v0:=Tryz.zeroValue0
 t3:=Tryz.underlying3
 a3:=Tryz.isAgg3
 z3:=Tryz.sizeOf3
 v3:=Tryz.zeroValue3
 t4:=Tryz.underlying4
 a4:=Tryz.isAgg4
 z4:=Tryz.sizeOf4
 v4:=Tryz.zeroValue4
 t9:=Tryz.underlying9
 a9:=Tryz.isAgg9
 z9:=Tryz.sizeOf9
 v9:=Tryz.zeroValue9
 t20:=Tryz.underlying20
 a20:=Tryz.isAgg20
 z20:=Tryz.sizeOf20
 v20:=Tryz.zeroValue20
 t31:=Tryz.underlying50
 a31:=Tryz.isAgg50
 z31:=Tryz.sizeOf50
 v31:=Tryz.zeroValue50
 t37:=Tryz.underlying29
 a37:=Tryz.isAgg29
 z37:=Tryz.sizeOf29
 v37:=Tryz.zeroValue29
 t70:=Tryz.underlying58
 a70:=Tryz.isAgg58
 z70:=Tryz.sizeOf58
 v70:=Tryz.zeroValue58
 t72:=Tryz.underlying60
 a72:=Tryz.isAgg60
 z72:=Tryz.sizeOf60
 v72:=Tryz.zeroValue60
 t75:=Tryz.underlying62
 a75:=Tryz.isAgg62
 z75:=Tryz.sizeOf62
 v75:=Tryz.zeroValue62
 t76:=Tryz.underlying63
 a76:=Tryz.isAgg63
 z76:=Tryz.sizeOf63
 v76:=Tryz.zeroValue63
 t127:=Tryz.underlying113
 a127:=Tryz.isAgg113
 z127:=Tryz.sizeOf113
 v127:=Tryz.zeroValue113
 t164:=Tryz.underlying174
 a164:=Tryz.isAgg174
 z164:=Tryz.sizeOf174
 v164:=Tryz.zeroValue174
theorem FZ:Builder.Extra Tryz.prog T2 where
 sizeBuilder:=by kernel_rfl
 liesBuilder:=by kernel_rfl
 t5:=Tryz.underlying5
 a5:=Tryz.isAgg5
 z5:=Tryz.sizeOf5
 v5:=Tryz.zeroValue5
 infoByte:=by kernel_rfl
 cellsByte:=by kernel_rfl
 sizeByte:=by kernel_rfl
 neB5:=by decide
theorem a3u:Xe Tryz.prog 60:=⟨[(58,0),(29,1)],32,by kernel_rfl,by kernel_rfl⟩
abbrev a0u (s:ByteArray):AO:=.gen (I8 60 5 s)
set_option maxRecDepth 100000 in
theorem Nd (b:Nat) (w:World) (h0:w.cell? ⟨b,0,none⟩=some (.pointer (some ⟨b,0,none⟩))) :
  Calls Tryz.prog 75 #[.pointer (some ⟨b,0,none⟩)] w fun e w'=>e=.returned (.tuple #[])∧w'=w:=by
 obtain⟨j,hj,_⟩:=Option.map_eq_some_iff.1 (show (Tryz.prog.info? 60).map (·.size)=some 2 by kernel_rfl)
 go_enter Tryz.func75,Tryz.ntmps75
 go_wp2
 rw[Lib.run_neq_ptr_same w _ Tryz.underlying58 hj]
 go_wp2
 go_end0
 exact⟨rfl,rfl⟩
set_option maxRecDepth 100000 in
theorem MA (b:Nat) (w:World) (h0:w.cell? ⟨b,0,none⟩=some (.pointer none)) (hsh:w.shape? b=some (60,2)) (hfz:w.frozen? ⟨b,0,none⟩=false) :
  Calls Tryz.prog 75 #[.pointer (some ⟨b,0,none⟩)] w fun e w'=>e=.returned (.tuple #[])∧w'=w.setCell ⟨b,0,none⟩ (.pointer (some ⟨b,0,none⟩)):=by
 obtain⟨j,hj,hjs⟩:=Option.map_eq_some_iff.1 (show (Tryz.prog.info? 60).map (·.size)=some 2 by kernel_rfl)
 go_enter Tryz.func75,Tryz.ntmps75
 go_wp2
 rw[Lib.run_to_unsafe w ⟨b,0,none⟩ Tryz.underlying58 Tryz.underlying174 hj (by rw[hjs];decide) hsh (Nat.zero_lt_succ 1)]
 simp only[Result.andThen]
 rw[Oper.upon_value]
 go_wp2
 rw[run_callFunc_extern Tryz.func136 (by kernel_rfl) (by kernel_rfl) (by kernel_rfl) (e:=Extern.AbiNoEscape.same) (by kernel_rfl)]
 rw[Lib.run_noEscape]
 simp only[Result.andThen]
 rw[Oper.upon_value]
 go_wp2
 rw[Lib.run_from_unsafe w ⟨b,0,none⟩ Tryz.underlying174 Tryz.underlying58 hj hsh (by kernel_rfl)]
 simp only[Result.andThen]
 rw[Oper.upon_value]
 go_wp2
 go_end0
 exact⟨rfl,rfl⟩
def a2z (b:Nat) (v:Value) (s t:ByteArray) (w:World) (e:Ending) (w':World):Prop :=
 e=.returned (.tuple #[.int .i64 t.size,.nilIface])∧∃v',w'.heap[b]? = some (.cells #[.pointer (some ⟨b,0,none⟩),v'] 60 (0,0))∧w'.ownsRow 0 5 1 v' (s.size+t.size) (Lib.strCells s++Lib.strCells t) ∧
  v'.ownBlock≠some b∧(v'.ownBlock=v.ownBlock∨v'.ownBlock=some w.heap.size)∧w'.os=w.os∧w'.tape=w.tape∧w'.output=w.output∧w.heap.size≤w'.heap.size∧∀k,k<w.heap.size→k≠b→v.ownBlock≠some k→w'.heap[k]? = w.heap[k]?
set_option maxRecDepth 100000 in
theorem LQ (b:Nat) (p v:Value) (s t:ByteArray) (w:World) (hp:p=.pointer none∨p=.pointer (some ⟨b,0,none⟩)) (hb:w.heap[b]? = some (.cells #[p,v] 60 (0,0))) (hne:v.ownBlock≠some b)
  (ho:w.ownsRow 0 5 1 v s.size (Lib.strCells s)) (hl:s.size+t.size≤1000000000):Calls Tryz.prog 37 #[.pointer (some ⟨b,0,none⟩),.string t] w (a2z b v s t w):=by
 have hbl:b<w.heap.size:=(Array.getElem?_eq_some_iff.1 hb).1
 -- behind copyCheck
 have hcc:Calls Tryz.prog 75 #[.pointer (some ⟨b,0,none⟩)] w fun e w1=>e=.returned (.tuple #[])∧(w1.heap[b]? = some (.cells #[.pointer (some ⟨b,0,none⟩),v] 60 (0,0))∧w1.ownsRow 0 5 1 v s.size (Lib.strCells s)∧w1.heap.size=w.heap.size∧w1.os=w.os∧w1.tape=w.tape∧w1.output=w.output∧∀k,k≠b→w1.heap[k]? = w.heap[k]?):=by
  have c0:w.cell? ⟨b,0,none⟩=some p:=by rw[Lib.cell_of_heap hb];rfl
  rcases hp with rfl | rfl
  ·refine (MA b w c0 (by simp[World.shape?,hb]) (Lib.frozen_of_heap hb 0)).mono ?_
   rintro e w1 ⟨rfl,rfl⟩
   have hk:∀k,k≠b→(w.setCell ⟨b,0,none⟩ (.pointer (some ⟨b,0,none⟩))).heap[k]? = w.heap[k]?:=fun k hk=>Below.heap_setCell _ _ _ _ hk
   refine⟨rfl,by simp[World.setCell,Array.getElem?_modify,hb],?_,by simp[World.setCell],rfl,rfl,rfl,hk⟩
   exact ho.kept (row:=some b) ⟨rfl,rfl,rfl,by simp[World.setCell],fun k _ hk'=>hk k (fun e=>hk' (by simp[e]))⟩ (Or.inr hne)
  ·refine (Nd b w c0).mono ?_
   rintro e w1 ⟨rfl,rfl⟩
   exact⟨rfl,hb,ho,rfl,rfl,rfl,rfl,fun _ _=>rfl⟩
 obtain⟨i0,hi,hif⟩:=Option.map_eq_some_iff.1 (show (Tryz.prog.info? 5).map (fun i=>(i.zero,i.size,i.bytes))=some (some (.int .u8 0),1,1) by kernel_rfl)
 simp only[Prod.mk.injEq]at hif
 obtain⟨hz0,hz1,hz2⟩:=hif
 have hcH:=Lib.hid hcc
 clear hcc hp hb ho
 go_enter Tryz.func37,Tryz.ntmps37
 go_wp2_with (first | (go_at_call 75;refine hcH.out.mono ?_;rintro e w1 ⟨rfl,hb1,ho1,z1,z2,z3,z4,z5⟩;have c0:w1.cell? ⟨b,0,none⟩=some (.pointer (some ⟨b,0,none⟩)):=(by rw[Lib.cell_of_heap hb1];rfl);have c1:w1.cell? ⟨b,1,none⟩=some v:=(by rw[Lib.cell_of_heap hb1];rfl);have HB:=Lib.hid hb1;have HO:=Lib.hid ho1;have HZ:=Lib.hid (And.intro z1 (And.intro z2 (And.intro z3 (And.intro z4 z5))));clear hb1 ho1 z1 z2 z3 z4 z5) | (at_builtin;refine IR rfl _ _ _ _ rfl 0 5 i0 Tryz.underlying29 Tryz.underlying9 hi hz0 hz1 hz2 _ _ _ rfl HO.out t rfl (by omega) (Nat.zero_le _) ?_))
 intro v' w2 hown' hgrow hblk
 have hlt:b<w1.heap.size:=(Array.getElem?_eq_some_iff.1 HB.out).1
 have hb2:w2.heap[b]? = some (.cells #[.pointer (some ⟨b,0,none⟩),v] 60 (0,0)):=by
  rw[hgrow.block b hlt (fun e=>hne e.symm)]
  exact HB.out
 have hne':v'.ownBlock≠some b:=by
  rcases hblk with h | h
  ·rw[h];exact hne
  ·rw[h];intro e;cases e;omega
 have d0:w2.cell? ⟨b,0,none⟩=some (.pointer (some ⟨b,0,none⟩)):=by rw[Lib.cell_of_heap hb2];rfl
 have d1:w2.cell? ⟨b,1,none⟩=some v:=by rw[Lib.cell_of_heap hb2];rfl
 have f1:w2.frozen? ⟨b,1,none⟩=false:=Lib.frozen_of_heap hb2 1
 have HB2:=Lib.hid hb2
 have HG:=Lib.hid hgrow
 have HW:=Lib.hid hown'
 have HK:=Lib.hid hblk
 clear hb2 hgrow hown' hblk
 obtain⟨ao,n',cap,rfl⟩:∃ao n' cap,v'=.slice ao n' cap:=by
  rcases HW.out.2 with⟨hv,_⟩ | ⟨g,cap,cur,hv,_⟩
  ·exact⟨_,_,_,hv⟩
  ·exact⟨_,_,_,hv⟩
 go_wp2
 go_ret2
 obtain⟨z1,z2,z3,z4,z5⟩:=HZ.out
 have hg:=HG.out
 refine⟨rfl,_,by simp[World.setCell,Array.getElem?_modify,HB2.out],?_,hne',by rw[←z1];exact HK.out,hg.os.trans z2,hg.tape.trans z3,hg.output.trans z4,?_,?_⟩
 ·exact HW.out.kept (row:=some b) ⟨rfl,rfl,rfl,by simp[World.setCell],fun k _ hk=>Below.heap_setCell _ _ _ _ (fun e=>hk (by simp[e]))⟩ (Or.inr hne')
 ·have:=hg.size
  simp only[World.setCell,Array.size_modify]
  omega
 ·intro k hk hkb hkv
  rw[Below.heap_setCell _ _ _ _ hkb,hg.block k (by omega) (fun e=>hkv e.symm)]
  exact z5 k hkb
def Qx (v:Value) (w w':World):Prop:=w'.os=w.os∧w'.tape=w.tape∧w'.output=w.output∧w.heap.size≤w'.heap.size∧∀k,k<w.heap.size→v.ownBlock≠some k→w'.heap[k]? = w.heap[k]?
theorem NN {w W:World}{g n cap m:Nat}(h:Below w.heap.size w W):Qx (.slice (some ⟨g,0,none⟩) n cap) w (W.freeze ⟨g,0,none⟩ m):=by
 unfold World.freeze
 split
 ·exact⟨h.os,h.tape,h.output,h.size,fun k hk _=>h.block k hk⟩
 ·refine⟨h.os,h.tape,h.output,by simpa using h.size,fun k hk hne=>?_⟩
  have hgk:¬g=k:=fun e=>hne (by simp[Value.ownBlock,e])
  simp only[Array.getElem?_modify]
  rw[if_neg hgk]
  exact h.block k hk
set_option maxRecDepth 100000 in
theorem N5 (b:Nat) (p v:Value) (s:ByteArray) (w:World) (hp:p=.pointer none∨p=.pointer (some ⟨b,0,none⟩)) (hb:w.heap[b]? = some (.cells #[p,v] 60 (0,0))) (hne:v.ownBlock≠some b)
  (ho:w.ownsRow 0 5 1 v s.size (Lib.strCells s)):Calls Tryz.prog 39 #[.pointer (some ⟨b,0,none⟩)] w fun e w'=>e=.returned (.string s)∧Qx v w w':=by
 by_cases h0:s.size=0
 ·have hs:s=⟨#[]⟩:=by
   have:s.data = #[]:=Array.eq_empty_of_size_eq_zero h0
   cases s;simp_all
  have post:∀(e:Ending) (w':World),(e=.returned (.string ⟨#[]⟩)∧Below w.heap.size w w')→e=.returned (.string s)∧Qx v w w':=by
   rintro e w' ⟨rfl,h⟩
   exact⟨by rw[hs],h.os,h.tape,h.output,h.size,fun k hk _=>h.block k hk⟩
  rw[h0]at ho
  rcases ho.2 with⟨rfl,_⟩ | ⟨g,cap,cur,rfl,_,hg,_⟩
  ·exact (Any.Builder_String_nil { H0 with } FZ w.heap.size b p w hb).mono post
  ·by_cases hc0:cap=0
   ·subst hc0
    exact (Any.Builder_String_noroom { H0 with } FZ w.heap.size b g p cur w (Nat.le_refl _) hb hg).mono post
   ·exact (Any.Builder_String_room { H0 with } FZ w.heap.size b g cap p w hc0 hb).mono post
 ·obtain⟨l,hl⟩:∃l:List UInt8,l=s.data.toList:=⟨_,rfl⟩
  have hsl:s.size=l.length:=by rw[hl,Array.length_toList];rfl
  have hl0:l.length≠0:=by omega
  have hse:(⟨l.toArray⟩:ByteArray)=s:=by rw[hl]
  have hcells:Lib.strCells s=Lib.byteCells l:=by rw[hl];rfl
  rw[hsl,hcells]at ho
  obtain⟨g,cap,cur,rfl,hbg,hg,hnc,hcm,hcs,htake⟩:∃g cap cur,v=.slice (some ⟨g,0,none⟩) l.length cap∧0≤g∧w.heap[g]? = some (.cells cur 5 (0,0))∧l.length≤cap∧cap≤maxLen∧cur.size=cap*1∧cur.toList.take (l.length*1)=Lib.byteCells l:=by
   rcases ho.2 with⟨_,hz⟩ | ⟨g,cap,cur,hv,r⟩
   ·exact absurd hz hl0
   ·exact⟨g,cap,cur,hv,r⟩
  have c1:w.drew.cell? ⟨b,1,none⟩=some (.slice (some ⟨g,0,none⟩) l.length cap):=by
   have:w.drew.heap[b]? = some (.cells #[p,.slice (some ⟨g,0,none⟩) l.length cap] 60 (0,0)):=hb
   rw[Lib.cell_of_heap this];rfl
  have hSD:(Builtin.unsafeSliceData_ #[29] 113 #[.slice (some ⟨g,0,none⟩) l.length cap]).run Tryz.prog w.drew=.ok (.pointer (some ⟨g,0,none⟩)) w.drew :=
   Lib.run_unsafeSliceData_row _ _ _ _ _ _ (by omega)
  have hUS:(Builtin.unsafeString_ #[113,3] 9 #[.pointer (some ⟨g,0,none⟩),.int .i64 l.length]).run Tryz.prog w.drew=.ok (.string ⟨l.toArray⟩) (w.drew.freeze ⟨g,0,none⟩ l.length):=by
   refine Lib.run_unsafeString_row w.drew 113 3 9 5 Tryz.underlying113 (by kernel_rfl) g cur.size (by have hg':w.drew.heap[g]? = some (.cells cur 5 (0,0)):=hg;simp[World.shape?,hg']) l (fun e=>hl0 (by rw[e];rfl)) (by omega) (by unfold maxLen at hcm;omega) ?_
   intro j x hx
   exact ho.cells (g:=g) rfl j (.int .u8 x.toNat) (by simp[Lib.byteCells,hx])
  rw[←hse]
  clear ho hse hsl hcells hl htake hb
  have mixed:=BF
  go_enter Tryz.func39,Tryz.ntmps39
  go_wp2
  go_region_o
  all_goals (go_wp2;go_ret;exact⟨rfl,NN (Below.drew (Below.refl w.heap.size w))⟩)
theorem MG (s t:ByteArray):Lib.strCells (s++t)=Lib.strCells s++Lib.strCells t:=by
 simp[Lib.strCells]
theorem MN {i:Id}{o x:AO}(hi:Mem.get [((0,0),x)] i=some o):i=(0,0)∧o=x:=by
 simp only[Mem.get,List.lookup_cons,List.lookup_nil]at hi
 by_cases hq:i=(0,0)
 ·subst hq
  simpa [eq_comm] using hi
 ·have:(i==((0,0):Id))=false:=by simpa using hq
  rw[this]at hi
  cases hi
theorem OS (s t:ByteArray) (hl:s.size+t.size≤1000000000):AC Tryz.prog 37 [.ptr (0,0) 0,.c (.str t)] [((0,0),a0u s)] (.tup [.c (.int .i64 t.size),.c (.raw .nilIface)]) [((0,0),a0u (s++t))]:=by
 intro Γ Bv hE hA
 obtain⟨v1,r1,rfl,⟨_,o1,g1,g2⟩,v2,r2,rfl,⟨rfl,_⟩,rfl⟩:=hA
 obtain⟨_,rfl⟩:=MN g1
 obtain⟨b0,e1,e2⟩:=g2 rfl
 obtain⟨b,p,v,k1,k2⟩:=Uz (hE.objs (0,0) _ rfl)
 obtain rfl:b0=b:=by
  have:=e1.symm.trans k1
  simpa using this
 subst e2
 have hnone:∀k,Γ.w.heap.size≤k→Γ.ow k=none:=fun k hk=>by
  cases ho:Γ.ow k with
  |none=>rfl
  |some i=>have:=(hE.own k i ho).1;omega
 refine (LQ b0 p v s t Γ.w k2.ptr k2.cells k2.ne k2.owns hl).mono ?_
 rintro e w' ⟨rfl,v',h1,h2,h3,h4,h5,h6,h7,h8,h9⟩
 refine⟨_,fun k=>if v'.ownBlock=some k then some (0,0) else Γ.ow k,Γ.κ,rfl,⟨⟨_,rfl,_,_,rfl,⟨rfl,rfl⟩,_,_,rfl,⟨rfl,rfl,rfl⟩,rfl⟩,?_,?_,h5,h6,h7,h8,?_,fun i o o' _ _=>rfl⟩⟩
 ·intro i o hi
  obtain⟨rfl,rfl⟩:=MN hi
  refine UA k1 ⟨.inr rfl,?_,h1,h3,fun g hg=>if_pos hg,?_⟩
  ·rw[if_neg h3];exact k2.mine
  ·rw[ByteArray.size_append,MG];exact h2
 ·intro k i hk
  split at hk
  ·rename_i hv
   cases hk
   exact⟨(K5 h2 hv).2,_,rfl,rfl⟩
  ·obtain⟨f1,o,f2,_⟩:=hE.own k i hk
   obtain⟨rfl,_⟩:=MN f2
   exact⟨Nat.lt_of_lt_of_le f1 h8,_,rfl,rfl⟩
 ·intro k hk ho
  have hkb:k≠b0:=by rintro rfl;rw[k2.mine]at ho;cases ho
  have hkv:v.ownBlock≠some k:=fun e=>by rw[k2.buf k e]at ho;cases ho
  refine⟨h9 k hk hkb hkv,?_⟩
  rw[if_neg]
  ·exact ho
  ·intro e
   rcases h4 with h | h
   ·exact hkv (h.symm.trans e)
   ·rw[h]at e;cases e;omega
theorem QB (s:ByteArray):AC Tryz.prog 39 [.ptr (0,0) 0] [((0,0),a0u s)] (.c (.str s)) []:=by
 intro Γ Bv hE hA
 obtain⟨v1,r1,rfl,⟨_,o1,g1,g2⟩,rfl⟩:=hA
 obtain⟨_,rfl⟩:=MN g1
 obtain⟨b0,e1,e2⟩:=g2 rfl
 obtain⟨b,p,v,k1,k2⟩:=Uz (hE.objs (0,0) _ rfl)
 obtain rfl:b0=b:=by
  have:=e1.symm.trans k1
  simpa using this
 subst e2
 refine (N5 b0 p v s Γ.w k2.ptr k2.cells k2.ne k2.owns).mono ?_
 rintro e w' ⟨rfl,h5,h6,h7,h8,h9⟩
 refine⟨_,fun _=>none,Γ.κ,rfl,⟨⟨rfl,rfl⟩,(fun i o hi=>by simp[Mem.get]at hi),(fun k i hk=>by cases hk),h5,h6,h7,h8,?_,fun i o o' _ _=>rfl⟩⟩
 ·intro k hk ho
  exact⟨h9 k hk (fun e=>by rw[k2.buf k e]at ho;cases ho),rfl⟩
end
end Go.Proofs.YtllfmaflodbieaaGreatDoor
