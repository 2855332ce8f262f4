/- Texts of this proof: E08 E09 E10 E11 E12 E13 E14 E15. -/
import Derived.Test.YtcejfdfmgmcinaaGreatKE1
import Derived.Orders
import Derived.Scope
set_option linter.all false
namespace Go.Proofs.YtcejfdfmgmcinaaGreat
section
open Go.RowKit
section
variable {P:Program} {o:Oper} {σ:ASt}
theorem DC {ty:TypeId}{ti:TI}{s b:Nat}{z:Option Value}(ht:tin P ty=some ⟨ti,s,b,z⟩) {w:World}{g off:Nat}{cur:Array Value}{T:TypeId}(hg:w.heap[g]? = some (.cells cur T (0,0))) {v:Value}{us:List Value}(hv:v.cells=us.toArray) (hl:us.length=s) (hfit:off+us.length≤cur.size) (h1:∀u∈us,u.oneCell'=true) :
  (storeVar ty ⟨g,off,none⟩ v).run P w=.ok () (w.setRow g (C4 cur.toList off us).toArray):=by
 have:=run_storeCells_at P g off T us 0 cur w hg (by simpa using hfit) h1
 simp only[Nat.add_zero]at this
 unfold storeVar
 simp only[hv,Sem.run_bind,Dv ht,Result.andThen_ok]
 simp only[List.size_toArray,hl,ne_eq,not_true_eq_false,if_false]
 rw[hl]at this
 simp only[C4,hl]
 exact this
theorem Step.write {m:Mem}{i:Id}{obj old:AO}{w w':World}{ow:Nat→Option Id}{κ:Id→Value}(hos:w'.os=w.os) (htape:w'.tape=w.tape) (hout:w'.output=w.output) (hz:w'.heap.size=w.heap.size) (hm:m.get i=some old) (h1:old.live=true) (h2:obj.live=true)
  (hblk:∀b,b<w.heap.size→ow b≠some i→w'.heap[b]? = w.heap[b]?) (hown:∀b i,ow b=some i→b<w.heap.size):Step m [(i,obj)] w ow κ w' ow κ:=by
 have hg:(m.puts [(i,obj)]).get i=some obj:=by simp[Mem.puts,Mem.get_put]
 refine⟨hos,htape,hout,Nat.le_of_eq hz.symm,fun b hb h=>⟨hblk b hb fun e=>h i e (by simp),rfl⟩,fun b j hb=>?_,fun _ _ _=>rfl,fun j hj o o' g1 g2=>?_⟩
 ·by_cases hji:j=i
  ·subst hji
   exact .inr ⟨by have:=hown b j hb;omega,obj,hg,h2,by simp⟩
  ·exact .inl ⟨by simpa using hji,hb⟩
 ·have hji:j=i:=by simpa using hj
  subst hji
  rw[hm]at g1
  rw[hg]at g2
  cases g1
  cases g2
  exact .inr ⟨fun e=>by rw[e]at h1;simp[AO.live]at h1,fun _=>h1⟩
theorem EO {size:Nat}:∀{xs:List (List Value)}(_:∀x∈xs,x.length=size) (r:Nat) (row:List Value) (off:Nat) (us:List Value),xs[r]? = some row→off+us.length≤size→(xs.set r (C4 row off us)).flatten=C4 xs.flatten (r*size+off) us
 | [],_,r,row,off,us,h,_=>by simp at h
 |y::ys,h1,0,row,off,us,h,hl=>by
  simp only[List.getElem?_cons_zero,Option.some.injEq]at h
  subst h
  have hy:=h1 y (by simp)
  simp only[List.set_cons_zero,List.flatten_cons,Nat.zero_mul,Nat.zero_add,C4]
  rw[List.take_append_of_le_length (by omega),List.drop_append_of_le_length (by omega)]
  simp
 |y::ys,h1,r+1,row,off,us,h,hl=>by
  simp only[List.getElem?_cons_succ]at h
  have hy:=h1 y (by simp)
  have ih:=EO (fun x hx=>h1 x (by simp[hx])) r row off us h hl
  rw[List.set_cons_succ,List.flatten_cons,ih]
  simp only[C4,List.flatten_cons]
  have e1:(r+1)*size+off=y.length+(r*size+off):=by rw[Nat.add_mul,hy];omega
  rw[e1,List.take_length_add_append,Nat.add_assoc y.length,List.drop_length_add_append]
  simp
theorem YO {l:List Value}{k off:Nat}{us:List Value}(hk:k≤l.length) (h:off+us.length≤k):(C4 l off us).take k=C4 (l.take k) off us:=by
 unfold C4
 apply List.ext_getElem?
 intro j
 simp only[List.getElem?_take,List.getElem?_append,List.length_append,List.length_take,List.getElem?_drop]
 by_cases h1:j<k
 ·rw[if_pos h1]
  have e1:min off l.length=off:=by omega
  have e2:min off (min k l.length)=off:=by omega
  rw[e1,e2]
  by_cases h2:j<off+us.length
  ·simp only[h2,if_true]
   by_cases h3:j<off
   ·have h4:j<k:=h1
    simp[h3,h4]
   ·simp[h3]
  ·simp only[h2,if_false]
   have:off+us.length+(j-(off+us.length))=j:=by omega
   rw[this]
   simp[h1]
 ·rw[if_neg h1]
  have e2:min off (min k l.length)=off:=by omega
  rw[e2]
  have h2:¬j<off+us.length:=by omega
  simp only[h2,if_false]
  have:off+us.length+(j-(off+us.length))=j:=by omega
  rw[this]
  simp[h1]
theorem GJ {α:Type}(l:List α) (off:Nat) (us:List α) (h:off+us.length≤l.length):(C4 l off us).length=l.length:=by
 unfold C4
 simp only[List.length_append,List.length_take,List.length_drop]
 omega
theorem EU {w:World}{base:Nat}{e:TypeId}{size n:Nat}{v:Value}{xs:List Value}(h:w.ownsRow base e size v n xs) {g:Nat}(hg:v.ownBlock=some g) {off:Nat}{us:List Value}(hl:off+us.length≤xs.length) :
  ∃cur,w.heap[g]? = some (.cells cur e (0,0))∧off+us.length≤cur.size∧(w.setRow g (C4 cur.toList off us).toArray).ownsRow base e size v n (C4 xs off us):=by
 rcases h.2 with⟨rfl,_⟩ | ⟨g',cap,cur,rfl,hb,hh,hc,hm,hs,ht⟩
 ·simp[Value.ownBlock]at hg
 ·simp only[Value.ownBlock,Option.some.injEq]at hg
  subst hg
  have hxl:=h.1
  have hle:n*size≤cur.size:=by rw[hs];exact Nat.mul_le_mul_right _ hc
  have hlc:off+us.length≤cur.toList.length:=by simp;omega
  refine⟨cur,hh,by simpa using hlc,by rw[GJ _ _ _ hl];exact hxl,.inr ⟨g',cap,_,rfl,hb,setRow_heap w g' cur _ e _ hh,hc,hm,?_,?_⟩⟩
  ·simp only[List.size_toArray,GJ _ _ _ hlc];simpa using hs
  ·simp only[]
   rw[YO (by simpa using hle) (by omega),ht]
theorem CRs.putL {w:World}{S:Nat→Prop}{row cs:List C}{vs us:List Value}{off:Nat}(h:CRs w S row vs []) (h':CRs w S cs us []):CRs w S (C4 row off cs) (C4 vs off us) []:=by
 have take:∀(n:Nat) {r:List C} {v:List Value},CRs w S r v []→CRs w S (r.take n) (v.take n) []:=by
  intro n
  induction n with
  |zero=>intro r v _;simp[CRs]
  |succ n ih =>
   intro r v h
   cases r with
   |nil=>simp only[CRs]at h;simp[h.1,CRs]
   |cons c r =>
    simp only[CRs]at h
    obtain⟨u,vs',b1,b2,rfl,hb,h3,h4⟩:=h
    have:=List.append_eq_nil_iff.1 hb.symm
    rw[this.1]at h3
    rw[this.2]at h4
    exact⟨u,vs'.take n,[],[],rfl,rfl,h3,ih h4⟩
 have drop:∀(n:Nat) {r:List C} {v:List Value},CRs w S r v []→CRs w S (r.drop n) (v.drop n) []:=by
  intro n
  induction n with
  |zero=>intro r v h;exact h
  |succ n ih =>
   intro r v h
   cases r with
   |nil=>simp only[CRs]at h;simp[h.1,CRs]
   |cons c r =>
    simp only[CRs]at h
    obtain⟨u,vs',b1,b2,rfl,hb,h3,h4⟩:=h
    have:=List.append_eq_nil_iff.1 hb.symm
    rw[this.2]at h4
    exact ih h4
 unfold Go.Proofs.YtcejfdfmgmcinaaGreat.C4
 rw[h'.length]
 exact CRs.append (bs:=[]) (cs:=[]) (CRs.append (bs:=[]) (cs:=[]) (take off h) h') (drop _ h)
theorem An.set {w:World}{S:Nat→Prop}:∀{x:List (List C)}{v:List (List Value)},An w S x v []→∀{r:Nat}{row:List C}{vr:List Value},CRs w S row vr []→An w S (x.set r row) (v.set r vr) []
 | [],_,h,r,row,vr,_=>by simp only[An]at h;simp[h.1,An]
 |c::cs,v,h,0,row,vr,h'=>by
  simp only[An]at h
  obtain⟨u,vs',b1,b2,rfl,hb,h3,h4⟩:=h
  have:=List.append_eq_nil_iff.1 hb.symm
  rw[this.2]at h4
  exact⟨vr,vs',[],[],rfl,rfl,h',h4⟩
 |c::cs,v,h,r+1,row,vr,h'=>by
  simp only[An]at h
  obtain⟨u,vs',b1,b2,rfl,hb,h3,h4⟩:=h
  have:=List.append_eq_nil_iff.1 hb.symm
  rw[this.1]at h3
  rw[this.2]at h4
  exact⟨u,vs'.set r vr,[],[],rfl,rfl,h3,An.set h4 h'⟩
theorem a3h {Γ:Ctx}{σ':ASt}{a:Act}{w:World}{ow:Nat→Option Id}{κ:Id→Value}(hr:RelAt Γ σ' a w ow κ) {get:Id→Option AO}{x:AV}{c:C}{rd:List Id}{v:Value}(h:x.toS get=some (c,[],rd)) (hrd:∀i∈rd,σ'.mem.get i=get i) (hx:AR w (Γ.sees ow) σ'.mem κ x v):CR w (Γ.sees ow) c v []:=by
 unfold AV.toS at h
 split at h
 ·cases h;exact hx
 ·cases h
  have hv:v=.slice none 0 0:=hx
  subst hv
  exact⟨0,none,0,[],rfl,Nat.le_refl _,by simp,Row.nil,by simp[An],rfl⟩
 ·rename_i i
  split at h
  ·cases h
  ·rename_i rows hget
   cases h
   obtain⟨_,o1,k1,k2⟩:=hx
   have e2:σ'.mem.get i=some (.frz rows):=by rw[hrd i (by simp),hget]
   rw[e2]at k1
   cases k1
   rw[k2 (by simp)]
   exact hr.objs i _ e2
  ·cases h
 ·rename_i f
  cases h
  obtain⟨vs,h1,h2⟩:=hx
  simp only[ARs]at h2
  subst h2
  exact⟨h1,rfl,rfl⟩
 ·cases h
theorem U9 {Γ:Ctx}{σ':ASt}{a:Act}{w:World}{ow:Nat→Option Id}{κ:Id→Value}(hr:RelAt Γ σ' a w ow κ) {get:Id→Option AO}:∀{xs:List AV}{cs:List C}{rd:List Id}{vs:List Value},Zo get xs=some (cs,[],rd)→(∀i∈rd,σ'.mem.get i=get i)→ARs w (Γ.sees ow) σ'.mem κ xs vs→CRs w (Γ.sees ow) cs vs []
 | [],cs,rd,vs,h,_,hx=>by
  simp only[Zo,Option.some.injEq,Prod.mk.injEq]at h
  obtain⟨rfl,_,rfl⟩:=h
  simp only[ARs]at hx
  simp[CRs,hx]
 |x::xs,cs,rd,vs,h,hrd,hx=>by
  simp only[Zo]at h
  split at h
  case h_2=>cases h
  rename_i c i rd1 cs' is rds h1 h2
  simp only[Option.some.injEq,Prod.mk.injEq]at h
  obtain⟨rfl,hi,rfl⟩:=h
  have:=List.append_eq_nil_iff.1 hi
  rw[this.1]at h1
  rw[this.2]at h2
  simp only[ARs]at hx
  obtain⟨v,vs',rfl,g1,g2⟩:=hx
  exact⟨v,vs',[],[],rfl,rfl,a3h hr h1 (fun i hi=>hrd i (by simp[hi])) g1,U9 hr h2 (fun i hi=>hrd i (by simp[hi])) g2⟩
theorem Wb {ty:TypeId}{y q:Operand}{E:AEff}(ho:o.op=.store ty y q) (h:Gc P σ.mem.get ty (σ.ev y) (σ.ev q)=some E):AB P o σ E:=by
 have hyo:y∈o.op.operands:=by rw[ho];simp[Op.operands]
 have hqo:q∈o.op.operands:=by rw[ho];simp[Op.operands]
 unfold Gc at h
 split at h
 case h_2=>cases h
 rename_i ti size bytes z xs ht hxs
 split at h
 case isFalse=>cases h
 rename_i hc
 obtain⟨hl,hall⟩:=hc
 have fin:∀{a:Act} {w w':World} {ad:Addr},a.eval y=.pointer (some ad)→(storeVar ty ad (a.eval q)).run P w=.ok () w'→(execOp a.eval o).run P w=.ok .skip w':=by
  intro a w w' ad h1 h2
  unfold execOp
  rw[ho]
  simp[Instr.storeAt,Instr.sureAddr,h1,h2]
 split at h
 ·rename_i i off hx
  split at h
  case h_2=>cases h
  rename_i cells hget
  split at h
  case isFalse=>cases h
  rename_i hfit
  cases h
  intro Γ σ' a w ow κ hag hr
  have e2:σ'.mem.get i=some (.box cells):=by rw[hag.2.2 i (by simp),hget]
  obtain⟨_,o1,k1,k2⟩:=hag.ev hr hyo hx
  rw[e2]at k1
  cases k1
  obtain⟨b,k3,k4⟩:=k2 rfl
  obtain⟨us,m1,m2,m3⟩:=AV.cells_rep (hag.ev hr hqo rfl) hxs
  obtain⟨b',vs,T,k5,k6,k7,k8,k9⟩:=hr.objs i _ e2
  rw[k5]at k3
  simp only[Value.pointer.injEq,Option.some.injEq,Addr.mk.injEq,and_true]at k3
  subst k3
  have hvl:=k8.length
  have hul:=m2.length
  have hrun:=DC ht k7 (off:=off) m1 (by omega) (by simp;omega) m3
  have st:Step σ'.mem [(i,.box (C4 cells off xs))] w ow κ (w.setRow b' (C4 vs off us).toArray) ow κ :=
   Step.write rfl rfl rfl (by simp) e2 rfl rfl (fun b hb hne=>setRow_other w b' b _ (fun e=>hne (by rw[e];exact k6))) (fun b i hb=>(hr.own b i hb).1)
  refine⟨undef,_,ow,κ,.inr ⟨fin k4 hrun,rfl⟩,hr.step (E:=⟨[],[(i,.box (C4 cells off xs))],.skip⟩) st rfl (fun j hj o' ho'=>?_) o.dst⟩
  have hji:j=i:=by simpa using hj
  subst hji
  have:o'=.box (C4 cells off xs):=by
   have:(σ'.mem.puts [(j,AO.box (C4 cells off xs))]).get j=some o':=ho'
   simp[Mem.puts,Mem.get_put]at this
   exact this.symm
  subst this
  refine⟨b',C4 vs off us,T,k5,k6,?_,ARs.keep (by simp) (st.sees (Γ:=Γ)) st.mem (k8.putL m2),TD k9 m3⟩
  exact setRow_heap w b' _ _ T _ k7
 ·rename_i i es r off hx
  split at h
  case h_2=>cases h
  rename_i es' e rows cs rd hget hts
  split at h
  case h_2=>cases h
  rename_i row hrow
  split at h
  case isFalse=>cases h
  rename_i hc
  obtain⟨rfl,hrl,hfit⟩:=hc
  cases h
  intro Γ σ' a w ow κ hag hr
  have e2:σ'.mem.get i=some (.row false es' e rows):=by rw[hag.2.2 i (by simp),hget]
  obtain⟨_,o1,k1,k2⟩:=hag.ev hr hyo hx
  rw[e2]at k1
  cases k1
  obtain⟨b,n,cap,k3,k4⟩:=k2 rfl
  obtain⟨us,m1,m2,m3⟩:=AV.cells_rep (hag.ev hr hqo rfl) hxs
  have hul:=m2.length
  have m4:=U9 hr hts (fun i hi=>hag.2.1 i hi) m2
  have hcl:=m4.length
  obtain⟨vrows,bs,p1,p2,p3,p4,p5,p6⟩:=hr.objs i _ e2
  have hbs:=p2 rfl
  subst hbs
  obtain⟨vr,bb,q1,q2,q3⟩:=An.at_ p1 hrow
  have q4:=CRs.of_nil q2 q3
  have hvr:=q4.length
  have hob:(κ i).ownBlock=some b:=by rw[k3];rfl
  have hlr:r<vrows.length:=(List.getElem?_eq_some_iff.1 q1).1
  have hfl:=BS p3
  have hle:r*es'+es'≤vrows.length*es':=by
   have:(r+1)*es'≤vrows.length*es':=Nat.mul_le_mul_right _ hlr
   rwa [Nat.add_mul,Nat.one_mul]at this
  obtain⟨cur,c1,c2,c3⟩:=EU p4 hob (off:=r*es'+off) (us:=us) (by omega)
  have hrun:=DC ht c1 (off:=r*es'+off) m1 (by omega) c2 m3
  have hmine:ow b=some i:=p6 b (by simp[hob])
  have st:Step σ'.mem [(i,.row false es' e (rows.set r (C4 row off cs)))] w ow κ (w.setRow b (C4 cur.toList (r*es'+off) us).toArray) ow κ :=
   Step.write rfl rfl rfl (by simp) e2 rfl rfl (fun b' hb hne=>setRow_other w b b' _ (fun e=>hne (by rw[e];exact hmine))) (fun b i hb=>(hr.own b i hb).1)
  refine⟨undef,_,ow,κ,.inr ⟨fin k4 hrun,rfl⟩,hr.step (E:=⟨rd,[(i,.row false es' e (rows.set r (C4 row off cs)))],.skip⟩) st rfl (fun j hj o' ho'=>?_) o.dst⟩
  have hji:j=i:=by simpa using hj
  subst hji
  have:o'=.row false es' e (rows.set r (C4 row off cs)):=by
   have:(σ'.mem.puts [(j,AO.row false es' e (rows.set r (C4 row off cs)))]).get j=some o':=ho'
   simp[Mem.puts,Mem.get_put]at this
   exact this.symm
  subst this
  refine⟨vrows.set r (C4 vr off us),[],An.keep (by simp) (st.sees (Γ:=Γ)) (by simp) (An.set p1 (q4.putL m4)),fun _=>rfl,fun x hx=>?_,?_,p5,p6⟩
  ·rcases List.mem_or_eq_of_mem_set hx with hx | rfl
   ·exact p3 x hx
   ·rw[GJ _ _ _ (by omega)];omega
  ·rw[EO p3 r vr off us q1 (by omega),List.length_set]
   exact c3
 ·cases h
end
end
section
open Go.RowKit
theorem LW {w:World}{S:Nat→Prop}{m:Mem}{κ:Id→Value}:∀{xs:List AV}{cs:List C}{vs:List Value},Ie xs=some cs→ARs w S m κ xs vs→CRs w S cs vs []
 | [],cs,vs,h,hx=>by
  simp only[Ie,Option.some.injEq]at h
  subst h
  exact⟨hx,rfl⟩
 |x::xs,cs,vs,h,hx=>by
  obtain⟨v,vs',rfl,g1,g2⟩:=hx
  unfold Ie at h
  split at h
  ·rename_i hnil;cases hnil
  ·rename_i y ys he
   simp only[List.cons.injEq]at he
   obtain⟨rfl,rfl⟩:=he
   simp only[Option.map_eq_some_iff]at h
   obtain⟨cs',h1,rfl⟩:=h
   exact⟨v,vs',[],[],rfl,rfl,g1,LW h1 g2⟩
  ·rename_i ys he
   simp only[List.cons.injEq]at he
   obtain⟨rfl,rfl⟩:=he
   simp only[Option.map_eq_some_iff]at h
   obtain⟨cs',h1,rfl⟩:=h
   have hv:v=.slice none 0 0:=g1
   subst hv
   exact⟨_,vs',[],[],rfl,rfl,⟨0,none,0,[],rfl,Nat.le_refl _,trivial,Row.nil,by simp[An],rfl⟩,LW h1 g2⟩
  ·cases h
section
variable {P:Program} {o:Oper} {σ:ASt}
theorem a3f {Γ:Ctx}{σ':ASt}{a:Act}{w:World}{ow:Nat→Option Id}{κ:Id→Value}(hr:RelAt Γ σ' a w ow κ) {get:Id→Option AO}{x:AV}{c:C}{i:Option Id}{rd:List Id}{v:Value}(h:x.toC get=some (c,i,rd)) (hrd:∀i∈rd,σ'.mem.get i=get i) (hx:AR w (Γ.sees ow) σ'.mem κ x v) :
  ∃bs,CR w (Γ.sees ow) c v bs∧bs.Nodup∧(∀b∈bs,∃j,i=some j∧ow b=some j):=by
 unfold AV.toC at h
 split at h
 ·cases h;exact⟨[],hx,List.nodup_nil,by simp⟩
 ·cases h
  have hv:v=.slice none 0 0:=hx
  subst hv
  exact⟨[],⟨0,none,0,[],rfl,Nat.le_refl _,by simp,Row.nil,by simp[An],rfl⟩,List.nodup_nil,by simp⟩
 ·rename_i i
  split at h
  ·rename_i ex es e rows hget
   cases h
   obtain⟨_,o1,k1,k2⟩:=hx
   have e2:σ'.mem.get i=some (.row ex es e rows):=by rw[hrd i (by simp),hget]
   rw[e2]at k1
   cases k1
   have k3:=k2 (by simp)
   obtain⟨vrows,bs,h1,h2,h3,h4,h5,h6⟩:=hr.objs i _ e2
   rw[←k3]at h4 h5 h6
   exact⟨_,⟨es,vrows,bs,e,h1,h3,h4,rfl⟩,h5,fun b hb=>⟨i,rfl,h6 b hb⟩⟩
  ·rename_i rows hget
   cases h
   obtain⟨_,o1,k1,k2⟩:=hx
   have e2:σ'.mem.get i=some (.frz rows):=by rw[hrd i (by simp),hget]
   rw[e2]at k1
   cases k1
   rw[k2 (by simp)]
   exact⟨[],hr.objs i _ e2,List.nodup_nil,by simp⟩
  ·cases h
 ·rename_i i
  split at h
  case h_2=>cases h
  rename_i cells hget
  cases hp:Ie cells with
  |none=>rw[hp]at h;cases h
  |some cs =>
   rw[hp]at h
   cases h
   obtain⟨_,o1,k1,k2⟩:=hx
   have e2:σ'.mem.get i=some (.box cells):=by rw[hrd i (by simp),hget]
   rw[e2]at k1
   cases k1
   obtain⟨b,k3,k4⟩:=k2 rfl
   obtain⟨b',vs,T,k5,k6,k7,k8,k9⟩:=hr.objs i _ e2
   rw[k5]at k3
   simp only[Value.pointer.injEq,Option.some.injEq,Addr.mk.injEq,and_true]at k3
   subst k3
   exact⟨[b'],⟨b',vs,T,k4,k7,LW hp k8,rfl⟩,by simp,fun b hb=>⟨i,rfl,by rw[List.mem_singleton.1 hb];exact k6⟩⟩
 ·rename_i row
  cases h
  obtain⟨es,b,o,vrows,k1,k2,k3⟩:=hx
  simp only[An]at k3
  obtain⟨vr,vs',b1,b2,rfl,h0,k4,rfl,rfl⟩:=k3
  have hb1:b1=[]:=by simpa using h0.symm
  subst hb1
  have hl:=CRs.length k4
  have he:=k2.1 vr (by simp)
  refine⟨[],⟨_,vr,k1,?_,k4,rfl⟩,List.nodup_nil,by simp⟩
  rw[Nat.zero_mul,Nat.add_zero,←hl,he]
  exact k2
 ·rename_i f
  cases h
  obtain⟨vs,h1,h2⟩:=hx
  simp only[ARs]at h2
  subst h2
  exact⟨[],⟨h1,rfl,rfl⟩,List.nodup_nil,by simp⟩
 ·cases h
theorem Mx {ow:Nat→Option Id}{is js:List Id}{b1 b2:List Nat}(h1:b1.Nodup) (h2:b2.Nodup) (g1:∀b∈b1,∃j,j∈is∧ow b=some j) (g2:∀b∈b2,∃j,j∈js∧ow b=some j) (hd:(is++js).Nodup):(b1++b2).Nodup:=by
 rw[List.nodup_append]at hd ⊢
 refine⟨h1,h2,fun x hx y hy e=>?_⟩
 obtain⟨i,hi,ho⟩:=g1 x hx
 obtain⟨j,hj,ho'⟩:=g2 y hy
 subst e
 rw[ho]at ho'
 injection ho' with ho'
 exact hd.2.2 i hi j hj ho'
theorem J0 {Γ:Ctx}{σ':ASt}{a:Act}{w:World}{ow:Nat→Option Id}{κ:Id→Value}(hr:RelAt Γ σ' a w ow κ) {get:Id→Option AO}:∀{xs:List AV}{cs:List C}{is rd:List Id}{vs:List Value},OI get xs=some (cs,is,rd)→(∀i∈rd,σ'.mem.get i=get i)→is.Nodup→ARs w (Γ.sees ow) σ'.mem κ xs vs →
  ∃bs,CRs w (Γ.sees ow) cs vs bs∧bs.Nodup∧(∀b∈bs,∃j,j∈is∧ow b=some j)
 | [],cs,is,rd,vs,h,_,_,hx=>by
  simp only[OI,Option.some.injEq,Prod.mk.injEq]at h
  obtain⟨rfl,_,rfl⟩:=h
  simp only[ARs]at hx
  exact⟨[],by simp[CRs,hx],List.nodup_nil,by simp⟩
 |x::xs,cs,is,rd,vs,h,hrd,hnd,hx=>by
  simp only[OI]at h
  split at h
  case h_2=>cases h
  rename_i c i rd1 cs' is' rds h1 h2
  simp only[Option.some.injEq,Prod.mk.injEq]at h
  obtain⟨rfl,rfl,rfl⟩:=h
  simp only[ARs]at hx
  obtain⟨v,vs',rfl,g1,g2⟩:=hx
  obtain⟨b1,k1,k2,k3⟩:=a3f hr h1 (fun i hi=>hrd i (by simp[hi])) g1
  obtain⟨b2,l1,l2,l3⟩:=J0 hr h2 (fun i hi=>hrd i (by simp[hi])) (List.nodup_append.1 hnd).2.1 g2
  have k3':∀b∈b1,∃j,j∈i.toList∧ow b=some j:=fun b hb=>by
   obtain⟨j,rfl,hj⟩:=k3 b hb
   exact⟨j,by simp,hj⟩
  refine⟨b1++b2,⟨v,vs',b1,b2,rfl,rfl,k1,l1⟩,Mx k2 l2 k3' l3 hnd,fun b hb=>?_⟩
  simp only[List.mem_append]at hb
  rcases hb with hb | hb
  ·obtain⟨j,hj,ho⟩:=k3' b hb;exact⟨j,by simp[hj],ho⟩
  ·obtain⟨j,hj,ho⟩:=l3 b hb;exact⟨j,by simp[hj],ho⟩
theorem Qn {Γ:Ctx}{σ':ASt}{a:Act}{w:World}{ow:Nat→Option Id}{κ:Id→Value}(hr:RelAt Γ σ' a w ow κ) {get:Id→Option AO}{es:Nat}:∀{xs:List AV}{cs:List (List C)}{is rd:List Id}{vs:List Value},Qm get es xs=some (cs,is,rd)→(∀i∈rd,σ'.mem.get i=get i)→is.Nodup→ARs w (Γ.sees ow) σ'.mem κ xs vs →
  ∃vrows bs,An w (Γ.sees ow) cs vrows bs∧bs.Nodup∧(∀b∈bs,∃j,j∈is∧ow b=some j)∧(∀x∈vrows,x.length=es)∧vs.map Value.cells=vrows.map List.toArray∧(∀x∈vrows,∀u∈x,u.oneCell'=true)∧vrows.length=xs.length
 | [],cs,is,rd,vs,h,_,_,hx=>by
  simp only[Qm,Option.some.injEq,Prod.mk.injEq]at h
  obtain⟨rfl,_,rfl⟩:=h
  simp only[ARs]at hx
  exact⟨[],[],by simp[An],List.nodup_nil,by simp,by simp,by simp[hx],by simp,rfl⟩
 |x::xs,cs,is,rd,vs,h,hrd,hnd,hx=>by
  simp only[Qm]at h
  split at h
  case h_2=>cases h
  rename_i l cs' is' rds hl h2
  split at h
  case h_2=>cases h
  rename_i c js rd1 h1
  split at h
  case isFalse=>cases h
  rename_i hes
  simp only[Option.some.injEq,Prod.mk.injEq]at h
  obtain⟨rfl,rfl,rfl⟩:=h
  simp only[ARs]at hx
  obtain⟨v,vs',rfl,g1,g2⟩:=hx
  obtain⟨us,m1,m2,m3⟩:=AV.cells_rep g1 hl
  obtain⟨b1,k1,k2,k3⟩:=J0 hr h1 (fun i hi=>hrd i (by simp[hi])) (List.nodup_append.1 hnd).1 m2
  obtain⟨vrows,b2,l1,l2,l3,l4,l5,l6,l7⟩:=Qn hr h2 (fun i hi=>hrd i (by simp[hi])) (List.nodup_append.1 hnd).2.1 g2
  refine⟨us::vrows,b1++b2,⟨us,vrows,b1,b2,rfl,rfl,k1,l1⟩,Mx k2 l2 k3 l3 hnd,fun b hb=>?_,?_,?_,?_,by simp[l7]⟩
  ·simp only[List.mem_append]at hb
   rcases hb with hb | hb
   ·obtain⟨j,hj,ho⟩:=k3 b hb;exact⟨j,by simp[hj],ho⟩
   ·obtain⟨j,hj,ho⟩:=l3 b hb;exact⟨j,by simp[hj],ho⟩
  ·intro y hy
   simp only[List.mem_cons]at hy
   rcases hy with rfl | hy
   ·rw[m2.length];exact hes
   ·exact l4 y hy
  ·simp[m1,l5]
  ·intro y hy
   simp only[List.mem_cons]at hy
   rcases hy with rfl | hy
   ·exact m3
   ·exact l6 y hy
theorem NB {size:Nat}:∀(parts:List (Nat×Value)) (vrows:List (List Value)) (k:Nat) (cells:List Value),parts.map (·.1)=List.range' k parts.length→parts.map (fun p=>p.2.cells)=vrows.map List.toArray→(∀x∈vrows,x.length=size)→cells.length=(k+parts.length)*size →
  Instr.fill (fun i=>some (i*size,size)) cells.toArray parts=some (cells.take (k*size)++vrows.flatten).toArray
 | [],vrows,k,cells,_,h2,_,hl=>by
  have:vrows=[]:=by simpa using h2.symm
  subst this
  simp only[Instr.fill,List.flatten_nil,List.append_nil]
  rw[List.take_of_length_le (by simp at hl;omega)]
 | (i,v)::parts,vrows,k,cells,h1,h2,h3,hl=>by
  cases vrows with
  |nil=>simp at h2
  |cons us vrows =>
   simp only[List.map_cons,List.length_cons,List.range'_succ,List.cons.injEq]at h1 h2
   obtain⟨rfl,h1⟩:=h1
   obtain⟨h2a,h2⟩:=h2
   have hus:=h3 us (by simp)
   have hle:i*size+size≤cells.length:=by
    rw[hl,List.length_cons]
    have:(i+1)*size≤(i+(parts.length+1))*size:=Nat.mul_le_mul_right _ (by omega)
    rwa [Nat.add_mul,Nat.one_mul]at this
   have ih:=NB parts vrows (i+1) (C4 cells (i*size) us) h1 h2 (fun x hx=>h3 x (by simp[hx])) (by rw[GJ _ _ _ (by omega),hl,List.length_cons];congr 1;omega)
   simp only[Instr.fill,h2a]
   have e2:¬(((List.toArray us).size≠size||i*size+(List.toArray us).size>cells.toArray.size)=true):=by simp[hus];omega
   rw[if_neg (by simpa using e2)]
   have hf:=PI us (i*size) 0 cells (by omega)
   simp only[Nat.add_zero]at hf
   rw[show (List.toArray us).zipIdx=(us.zipIdx).toArray from by simp]
   simp only[List.foldl_toArray]
   rw[hf,ih]
   congr 2
   unfold C4
   rw[Nat.add_mul,Nat.one_mul,List.append_assoc,List.take_append]
   have e3:(cells.take (i*size)).length=i*size:=by rw[List.length_take];omega
   rw[e3,List.take_of_length_le (by omega),show i*size+size-i*size=size from by omega,←hus,List.take_append_of_le_length (Nat.le_refl _),List.take_length]
   simp
theorem Ow {ty:TypeId}{len:Nat}{parts:Array (Nat×Operand)}{fr:Id}{E:AEff}(ho:o.op=.buildSlice ty len parts) (hf:σ.mem.get fr=none) (h:Fg P σ.ev σ.mem.get fr ty len parts.toList=some E):AB P o σ E:=by
 unfold Fg at h
 split at h
 case h_2=>cases h
 rename_i e s b z ht
 split at h
 case h_2=>cases h
 rename_i ti size bytes zv ht'
 split at h
 case isFalse=>cases h
 rename_i hc
 obtain⟨c1,c2,c3,c4,c5⟩:=hc
 split at h
 case h_2=>cases h
 rename_i rows is rd hts
 split at h
 case isFalse=>cases h
 rename_i hc
 obtain⟨d1,d2⟩:=hc
 cases h
 intro Γ σ' a w ow κ hag hr
 have hpl:parts.toList.length=len:=by have:=congrArg List.length c1;simpa using this
 have hars:ARs w (Γ.sees ow) σ'.mem κ (parts.toList.map fun p=>σ.ev p.2) (parts.toList.map fun p=>a.eval p.2):=by
  have:=ARs.map_ev (σ:=σ) hr (parts.toList.map (·.2)) fun x hx=>hag.1 x (by rw[ho];simpa [Op.operands] using hx)
  simp only[List.map_map]at this
  exact this
 obtain⟨vrows,bs,k1,k2,k3,k4,k5,k6,k7⟩:=Qn hr hts (fun i hi=>hag.2.1 i hi) d1 hars
 have hfr:σ'.mem.get fr=none:=by rw[hag.2.2 fr (by simp),hf]
 have hvl:vrows.length=len:=by rw[k7];simpa using hpl
 have hfl:=BS k4
 have hrl:=k1.length
 have st:Step σ'.mem (is.map (fun i=>(i,.dead))++[(fr,.row (!is.isEmpty) size e rows)]) w ow κ (w.alloc (.cells vrows.flatten.toArray e)) (DK ow is fr (some w.heap.size)) (Dg κ fr (.slice (some ⟨w.heap.size,0,none⟩) len len)) :=
  Step.make (ks:=is) rfl rfl rfl (by simp) hfr d2 rfl (fun b hb _=>Below.heap_alloc w _ b hb) (fun b hb=>by cases hb;exact⟨by simp,.inl (Nat.le_refl _)⟩) hr.owns
 refine⟨.slice (some ⟨w.heap.size,0,none⟩) len len,_,_,_,.inl ?_,hr.step (E:=⟨rd,is.map (fun i=>(i,.dead))++[(fr,.row (!is.isEmpty) size e rows)],.own fr⟩) st ⟨rfl,_,Cy d2,fun _=>by simp[Dg]⟩ (fun i hi o' ho'=>?_) o.dst⟩
 ·unfold execOp
  rw[ho]
  have hsz:¬(2 ^ 24<len*size):=by
   have:len*size≤1000*1000:=Nat.mul_le_mul c2 c4
   omega
  have hp1:(parts.toList.map fun p=>(p.1,a.eval p.2)).map (·.1)=List.range' 0 (parts.toList.map fun p=>(p.1,a.eval p.2)).length:=by
   rw[List.map_map,List.length_map,hpl,←List.range_eq_range',←c1];rfl
  have hp2:(parts.toList.map fun p=>(p.1,a.eval p.2)).map (fun p=>p.2.cells)=vrows.map List.toArray:=by
   rw[←k5,List.map_map,List.map_map];rfl
  have hfill:=fun (cells:List Value) (hl:cells.length=len*size)=>NB (size:=size) (parts.toList.map fun p=>(p.1,a.eval p.2)) vrows 0 cells hp1 hp2 k4 (by rw[hl,List.length_map,hpl,Nat.zero_add])
  simp only[Nat.zero_mul,List.take_zero,List.nil_append]at hfill
  have hfill':∀(zc:Array Value),Instr.fill (fun i=>some (i*size,size)) ((Array.range (len*size)).map (fun x=>zc[x % zc.size]!)) (parts.toList.map fun p=>(p.1,a.eval p.2))=some vrows.flatten.toArray:=by
   intro zc
   have:=hfill ((Array.range (len*size)).map (fun x=>zc[x % zc.size]!)).toList (by simp)
   rwa [Array.toArray_toList]at this
  simp only[Instr.buildSlice,Sem.run_bind,run_underlying (GW ht),Result.andThen_ok,Dv ht',gt_iff_lt,hsz,if_false,Sem.run_ite,Array.toList_map]
  simp only[hfill']
  by_cases hz0:len*size=0
  ·simp only[hz0,if_true,newRow,Sem.run_pure,Result.andThen_ok,Sem.run_bind,run_newObj,World.alloc_eq]
  ·simp only[hz0,if_false,Gt ht',newRow,Sem.run_pure,Result.andThen_ok,Sem.run_bind,run_newObj,World.alloc_eq]
 ·by_cases hif:i=fr
  ·subst hif
   have:o'=.row (!is.isEmpty) size e rows:=by
    have:=(Cy (m:=σ'.mem) (obj:=.row (!is.isEmpty) size e rows) d2).symm.trans ho'
    injection this with this
    exact this.symm
   subst this
   have hlt:∀b,b∈bs→b<w.heap.size:=fun b hb=>by
    obtain⟨j,_,hj⟩:=k3 b hb
    exact (hr.own b j hj).1
   refine⟨vrows,bs,An.keep (by simp) (st.sees (Γ:=Γ)) (fun b _ hl=>Below.heap_alloc w _ b hl) k1,fun hex=>?_,k4,?_,?_,?_⟩
   ·have:is=[]:=by simpa using hex
    subst this
    cases bs with
    |nil=>rfl
    |cons b bs=>obtain⟨j,hj,_⟩:=k3 b (by simp);simp at hj
   ·refine⟨by rw[hfl,hvl];rw[←hrl,hvl],.inr ⟨w.heap.size,len,vrows.flatten.toArray,?_,Nat.zero_le _,heap_alloc_new w _,?_,?_,?_,?_⟩⟩
    ·simp[Dg,←hrl,hvl]
    ·rw[←hrl,hvl];exact Nat.le_refl _
    ·simp[maxLen];omega
    ·simp only[List.size_toArray,hfl,hvl]
    ·simp only[]
     rw[List.take_of_length_le (by rw[hfl,hrl];exact Nat.le_refl _)]
   ·simp only[Dg,if_true,Value.ownBlock,Option.toList_some,List.singleton_append,List.nodup_cons]
    exact⟨fun hb=>by have:=hlt _ hb;omega,k2⟩
   ·intro b hb
    simp only[Dg,if_true,Value.ownBlock,Option.toList_some,List.singleton_append,List.mem_cons]at hb
    rcases hb with rfl | hb
    ·simp[DK]
    ·obtain⟨j,hj,hj'⟩:=k3 b hb
     have:=hlt b hb
     unfold DK
     rw[if_neg (by simp;omega),hj']
     simp[hj]
  ·have hin:i∈is:=by simpa [hif] using hi
   have:o'=.dead:=by
    have:=(Fi (m:=σ'.mem) (obj:=.row (!is.isEmpty) size e rows) hin hif).symm.trans ho'
    injection this with this
    exact this.symm
   subst this
   trivial
structure Src (w:World) (S:Nat→Prop) (size:Nat) (v:Value) (ys:List (List C)) (vrows:List (List Value)) (bs:List Nat):Prop where
 val:∃A c,v=.slice A ys.length c∧(A=none→ys=[])∧∀ad,A=some ad→∀j u,vrows.flatten[j]? = some u→w.cell? (ad.add j)=some u
 rep:An w S ys vrows bs
 len:∀x∈vrows,x.length=size
theorem Src.nil {w:World}{S:Nat→Prop}{size:Nat}:Src w S size (.slice none 0 0) [] [] []:=⟨⟨none,0,rfl,fun _=>rfl,by simp⟩,by simp[An],by simp⟩
theorem Src.of_sl {w:World}{S:Nat→Prop}{size:Nat}{v:Value}{ys:List (List C)}(h:CR w S (.sl ys) v []) (hs:0<size) (hy:(ys.all fun r=>r.length==size)=true):∃vrows,Src w S size v ys vrows []:=by
 obtain⟨es,A,cap,vrows,h1,h2,h3,h4,h5,_⟩:=h
 have hlen:∀x∈vrows,x.length=size:=by
  intro x hx
  obtain⟨i,hi,rfl⟩:=List.getElem_of_mem hx
  have hl:=h5.length
  have hyi:ys[i]? = some (ys[i]'(by omega)):=List.getElem?_eq_getElem (by omega)
  obtain⟨vr,b,g1,g2,_⟩:=An.at_ h5 hyi
  rw[List.getElem?_eq_getElem hi]at g1
  injection g1 with g1
  rw[g1,g2.length]
  have:=List.all_eq_true.1 hy _ (List.getElem_mem (l:=ys) (n:=i) (by omega))
  simpa using this
 refine⟨vrows,⟨A,cap,h1,fun hA=>?_,fun ad hA j u hu=>?_⟩,h5,hlen⟩
 ·cases ys with
  |nil=>rfl
  |cons y ys =>
   have hl:=h5.length
   obtain⟨b,off,e,_⟩:=h4.2 (by rw[hl];simp)
   rw[hA]at e
   cases e
 ·obtain⟨x,g1,g2⟩:=NH hlen hs j u hu
  obtain⟨b,off,e,hb,hlt,hc⟩:=h4.2 (Nat.lt_of_le_of_lt (Nat.zero_le _) (List.getElem?_eq_some_iff.1 g1).1)
  rw[hA]at e
  cases e
  have:=hc _ x g1 _ u g2
  have hes:es=size:=by rw[←h4.1 x (List.mem_of_getElem? g1),hlen x (List.mem_of_getElem? g1)]
  subst hes
  rw[Addr.add_mid,show off+j=off+j / es*es+j % es from by rw[Nat.add_assoc,Nat.div_add_mod' j es]]
  exact this
theorem Src.of_row {w:World}{S:Nat→Prop}{size:Nat}{e:TypeId}{v:Value}{ys:List (List C)}{vrows:List (List Value)}{bs:List Nat}(h:An w S ys vrows bs) (hl:∀x∈vrows,x.length=size) (ho:w.ownsRow 0 e size v ys.length vrows.flatten):Src w S size v ys vrows bs:=by
 refine⟨?_,h,hl⟩
 rcases ho.2 with⟨rfl,h0⟩ | ⟨g,cap,cur,rfl,_⟩
 ·exact⟨none,0,by rw[h0],fun _=>List.eq_nil_of_length_eq_zero h0,by simp⟩
 ·exact⟨_,cap,rfl,by simp,fun ad hA j u hu=>by cases hA;exact ho.cells (g:=g) rfl j u hu⟩
theorem Ov {t e:TypeId}{s b size bytes:Nat}{z':Option Value}{ti:TI}{z:Value}(ht:tin P t=some ⟨.sl e,s,b,z'⟩) (ht':tin P e=some ⟨ti,size,bytes,some z⟩) (hzs:z.cells.size=size) (hsz:0<size) (hby:bytes≤200)
  {w:World} {v x:Value} {n:Nat} {xs:List Value} {S:Nat→Prop} {ys:List (List C)} {vrows:List (List Value)} {bs:List Nat} (hown:w.ownsRow 0 e size v n xs) (hx:Src w S size x ys vrows bs) (hn:n+ys.length≤1000000) (ty:TypeId) :
  ∃v' w',(Builtin.append_ #[t,t] ty #[v,x]).run P w=.ok v' w'∧w'.ownsRow 0 e size v' (n+ys.length) (xs++vrows.flatten)∧w.grownBy w' v.ownBlock∧(v'.ownBlock=v.ownBlock∨v'.ownBlock=some w.heap.size):=by
 obtain⟨A,c,rfl,h1,h2⟩:=hx.val
 have hu:=GW ht
 obtain⟨d,i,g1,g2,g3⟩:=BE ht'
 simp only[TIn.mk.injEq]at g3
 obtain⟨_,g4,g5,g6⟩:=g3
 have hl:=hx.rep.length
 cases A with
 |none =>
  have hy:=h1 rfl
  subst hy
  have hv:vrows=[]:=by simpa using hl
  subst hv
  exact⟨v,w,by simpa using GL w 0 t ty e i size hu g2 v n xs hown c,by simpa using hown,⟨rfl,rfl,rfl,Nat.le_refl _,fun _ _ _=>rfl⟩,.inl rfl⟩
 |some ad =>
  have hfl:=BS hx.len
  obtain⟨v',w',k1,k2,k3,_,k4⟩:=run_append_own_at (P:=P) w 0 t ty e i z size bytes hu g2 g6.symm g4.symm g5.symm hzs hsz v n xs hown ad ys.length c vrows.flatten (by rw[hfl,hl]) (h2 ad rfl) hx.rep.one
   (by simp only[maxLen];omega) (by calc (n+ys.length)*bytes≤1000000*200:=Nat.mul_le_mul hn hby
                     _≤_:=by omega) (Nat.zero_le _)
  exact⟨v',w',k1,k2,k3,k4⟩
theorem RelAt.appended {Γ:Ctx}{σ':ASt}{a:Act}{w w':World}{ow:Nat→Option Id}{κ:Id→Value}(hr:RelAt Γ σ' a w ow κ) {fr:Id}{ks rd:List Id}{ex:Bool}{e:TypeId}{size:Nat}{xs ys:List (List C)}{vx vy:List (List Value)}{bx byy:List Nat}{v v':Value}
  (hf:σ'.mem.get fr=none) (hks:∀i∈ks,i≠fr) (hx:An w (Γ.sees ow) xs vx bx) (hy:An w (Γ.sees ow) ys vy byy) (hlx:∀x∈vx,x.length=size) (hly:∀x∈vy,x.length=size)
  (ho:w'.ownsRow 0 e size v' (xs.length+ys.length) (vx.flatten++vy.flatten)) (hg:w.grownBy w' v.ownBlock) (hat:v'.ownBlock=v.ownBlock∨v'.ownBlock=some w.heap.size)
  (hex:ex=false→bx=[]∧byy=[]) (hnd:(v.ownBlock.toList++(bx++byy)).Nodup) (hmine:∀b∈v.ownBlock.toList++(bx++byy),∃j,j∈ks∧ow b=some j) (dst:Option Tmp) :
  ∃ow' κ',RelAt Γ (σ'.upd dst ⟨rd,ks.map (fun i=>(i,.dead))++[(fr,.row ex size e (xs++ys))],.own fr⟩) (a.put dst v') w' ow' κ':=by
 have hlt:∀b,b∈v.ownBlock.toList++(bx++byy)→b<w.heap.size:=fun b hb=>by
  obtain⟨j,_,hj⟩:=hmine b hb
  exact (hr.own b j hj).1
 have hblk:∀b,b<w.heap.size→(∀i,ow b=some i→i ∉ ks)→w'.heap[b]? = w.heap[b]?:=fun b hb h=>hg.block b hb fun e=>by
  obtain⟨j,hj,ho⟩:=hmine b (by simp[←e])
  exact h j ho hj
 have st:Step σ'.mem (ks.map (fun i=>(i,.dead))++[(fr,.row ex size e (xs++ys))]) w ow κ w' (DK ow ks fr v'.ownBlock) (Dg κ fr v') :=
  Step.make hg.os hg.tape hg.output hg.size hf hks rfl hblk (fun b hb=>⟨(ho.lt b hb).2,by
   rcases hat with h | h
   ·rw[h]at hb
    exact .inr (by obtain⟨j,h1,h2⟩:=hmine b (by simp[hb]);exact⟨j,h1,h2⟩)
   ·rw[h]at hb;injection hb with hb;omega⟩) hr.owns
 have hsafe:∀b,b∈bx++byy→b<w.heap.size→w'.heap[b]? = w.heap[b]?:=fun b hb hl=>hg.block b hl fun e=>by
  rw[List.nodup_append]at hnd
  exact hnd.2.2 b (by simp[←e]) b hb rfl
 refine⟨_,_,hr.step (E:=⟨rd,ks.map (fun i=>(i,.dead))++[(fr,.row ex size e (xs++ys))],.own fr⟩) st ⟨?_,_,Cy hks,fun _=>by simp[Dg]⟩ (fun i hi o' ho'=>?_) dst⟩
 ·rcases ho.2 with⟨rfl,_⟩ | ⟨g,cap,cur,rfl,_⟩<;>rfl
 ·by_cases hif:i=fr
  ·subst hif
   have:o'=.row ex size e (xs++ys):=by
    have:=(Cy (m:=σ'.mem) (obj:=.row ex size e (xs++ys)) hks).symm.trans ho'
    injection this with this
    exact this.symm
   subst this
   have hkk:Dg κ i v' i=v':=by simp[Dg]
   refine⟨vx++vy,bx++byy,An.append (An.keep hg.size (st.sees (Γ:=Γ)) (fun b hb hl=>hsafe b (by simp[hb]) hl) hx) (An.keep hg.size (st.sees (Γ:=Γ)) (fun b hb hl=>hsafe b (by simp[hb]) hl) hy),fun h=>by simp[hex h],fun x hx'=>?_,?_,?_,?_⟩
   ·simp only[List.mem_append]at hx'
    rcases hx' with h | h
    ·exact hlx x h
    ·exact hly x h
   ·rw[hkk]
    simpa using ho
   ·rw[hkk]
    rcases hat with h | h
    ·rw[h];exact hnd
    ·rw[h]
     simp only[Option.toList_some,List.singleton_append,List.nodup_cons]
     refine⟨fun hb=>by have:=hlt w.heap.size (List.mem_append.2 (.inr hb));omega,?_⟩
     rw[List.nodup_append]at hnd
     exact hnd.2.1
   ·intro b hb
    rw[hkk]at hb
    unfold DK
    by_cases hvb:v'.ownBlock=some b
    ·rw[if_pos hvb]
    ·rw[if_neg hvb]
     simp only[List.mem_append,Option.mem_toList]at hb
     rcases hb with hb | hb
     ·exact absurd hb hvb
     ·obtain⟨j,hj,hj'⟩:=hmine b (by simp[hb])
      rw[hj']
      simp[hj]
  ·have hin:i∈ks:=by simpa [hif] using hi
   have:o'=.dead:=by
    have:=(Fi (m:=σ'.mem) (obj:=.row ex size e (xs++ys)) hin hif).symm.trans ho'
    injection this with this
    exact this.symm
   subst this
   trivial
theorem TK {ty:TypeId}{y z:Operand}{fr:Id}{E:AEff}(ho:o.op=.call { callee:=.builtin .append,args:=#[y,z],argTypes:=#[ty,ty] }) (hf:σ.mem.get fr=none) (h:Jd P σ.mem.get fr ty (σ.ev y) (σ.ev z)=some E):AB P o σ E:=by
 have hyo:y∈o.op.operands:=by rw[ho];simp[Op.operands,Call.operands]
 have hzo:z∈o.op.operands:=by rw[ho];simp[Op.operands,Call.operands]
 unfold Jd at h
 split at h
 case h_2=>cases h
 rename_i e s b z0 ht
 split at h
 case h_2=>cases h
 rename_i ti size bytes zv ht'
 split at h
 case isFalse=>cases h
 rename_i hc
 obtain⟨c1,c2,c3⟩:=hc
 simp only at h
 split at h
 case h_2=>cases h
 rename_i xs ex ki ys ey rd kj CG hnews
 split at h
 case isFalse=>cases h
 rename_i hc
 obtain⟨d1,d2,d3⟩:=hc
 cases h
 intro Γ σ' a w ow κ hag hr
 have hfr:σ'.mem.get fr=none:=by rw[hag.2.2 fr (by simp),hf]
 -- what is appended to
 have hold:∃iks:List Id,ki=iks.map (fun i=>(i,AO.dead))∧(∀i∈iks,i≠fr)∧∃vx bx,An w (Γ.sees ow) xs vx bx∧(∀x∈vx,x.length=size)∧w.ownsRow 0 e size (a.eval y) xs.length vx.flatten∧(ex=false→bx=[])∧((a.eval y).ownBlock.toList++bx).Nodup∧∀b∈(a.eval y).ownBlock.toList++bx,∃j,j∈iks∧ow b=some j:=by
  split at CG
  ·rename_i hy
   cases CG
   have hv:a.eval y=.slice none 0 0:=hag.ev hr hyo hy
   rw[hv]
   exact⟨[],rfl,by simp,[],[],by simp[An],by simp,World.ownsRow_nil _ _ _ _,fun _=>rfl,by simp[Value.ownBlock],by simp[Value.ownBlock]⟩
  ·rename_i i hy
   split at CG
   case h_2=>cases CG
   rename_i ex' es e' rows hget
   split at CG
   case isFalse=>cases CG
   rename_i hc
   obtain⟨rfl,rfl⟩:=hc
   cases CG
   have e2:σ'.mem.get i=some (.row ex es e' xs):=by rw[hag.2.2 i (by simp),hget]
   obtain⟨_,o1,k1,k2⟩:=hag.ev hr hyo hy
   rw[e2]at k1
   cases k1
   have k3:=k2 (by simp)
   obtain⟨vx,bx,h1,h2,h3,h4,h5,h6⟩:=hr.objs i _ e2
   rw[←k3]at h4 h5 h6
   have hne:i≠fr:=fun e=>by rw[e,hf]at hget;cases hget
   exact⟨[i],rfl,fun j hj=>(by simpa using hj:j=i)▸hne,vx,bx,h1,h3,h4,h2,h5,fun b hb=>⟨i,by simp,h6 b hb⟩⟩
  ·cases CG
 have hnew:∃jks:List Id,kj=jks.map (fun i=>(i,AO.dead))∧(∀i∈jks,i≠fr)∧∃vy byy,Src w (Γ.sees ow) size (a.eval z) ys vy byy∧(ey=false→byy=[])∧byy.Nodup∧∀b∈byy,∃j,j∈jks∧ow b=some j:=by
  split at hnews
  ·rename_i rows hz
   cases hnews
   obtain⟨vy,hs⟩:=Src.of_sl (hag.ev hr hzo hz) c2 d2
   exact⟨[],rfl,by simp,vy,[],hs,fun _=>rfl,List.nodup_nil,by simp⟩
  ·rename_i hz
   cases hnews
   have hv:a.eval z=.slice none 0 0:=hag.ev hr hzo hz
   rw[hv]
   exact⟨[],rfl,by simp,[],[],Src.nil,fun _=>rfl,List.nodup_nil,by simp⟩
  ·rename_i j hz
   have hall:∀{vy:List (List Value)} {bs:List Nat},An w (Γ.sees ow) ys vy bs→∀x∈vy,x.length=size:=by
    intro vy bs h5 x hx
    obtain⟨i,hi,rfl⟩:=List.getElem_of_mem hx
    have hl:=h5.length
    have hyi:ys[i]? = some (ys[i]'(by omega)):=List.getElem?_eq_getElem (by omega)
    obtain⟨vr,b,g1,g2,_⟩:=An.at_ h5 hyi
    rw[List.getElem?_eq_getElem hi]at g1
    injection g1 with g1
    rw[g1,g2.length]
    have:=List.all_eq_true.1 d2 _ (List.getElem_mem (l:=ys) (n:=i) (by omega))
    simpa using this
   split at hnews
   ·rename_i es e' rows hget
    cases hnews
    have e2:σ'.mem.get j=some (.row true es e' ys):=by rw[hag.2.2 j (by simp),hget]
    obtain⟨_,o1,k1,k2⟩:=hag.ev hr hzo hz
    rw[e2]at k1
    cases k1
    have k3:=k2 (by simp)
    obtain⟨vx,bx,h1,h2,h3,h4,h5,h6⟩:=hr.objs j _ e2
    rw[←k3]at h4 h5 h6
    have hl:=hall h1
    have hne:j≠fr:=fun e=>by rw[e,hf]at hget;cases hget
    refine⟨[j],rfl,fun i hi=>(by simpa using hi:i=j)▸hne,vx,bx,?_,by simp,(List.nodup_append.1 h5).2.1,fun b hb=>⟨j,by simp,h6 b (by simp[hb])⟩⟩
    refine⟨?_,h1,hl⟩
    rcases h4.2 with⟨q1,h0⟩ | ⟨g,cap,cur,q1,_⟩
    ·rw[q1];exact⟨none,0,by rw[h0],fun _=>List.eq_nil_of_length_eq_zero h0,by simp⟩
    ·rw[q1];exact⟨_,cap,rfl,by simp,fun ad hA j u hu=>by cases hA;exact h4.cells (g:=g) (by rw[q1];rfl) j u hu⟩
   ·rename_i es e' rows hget
    cases hnews
    have e2:σ'.mem.get j=some (.row false es e' ys):=by rw[hag.2.1 j (by simp),hget]
    obtain⟨_,o1,k1,k2⟩:=hag.ev hr hzo hz
    rw[e2]at k1
    cases k1
    have k3:=k2 (by simp)
    obtain⟨vx,bx,h1,h2,h3,h4,h5,h6⟩:=hr.objs j _ e2
    have hb:=h2 rfl
    subst hb
    rw[←k3]at h4 h5 h6
    have hl:=hall h1
    refine⟨[],rfl,by simp,vx,[],⟨?_,h1,hl⟩,fun _=>rfl,List.nodup_nil,by simp⟩
    rcases h4.2 with⟨q1,h0⟩ | ⟨g,cap,cur,q1,_⟩
    ·rw[q1];exact⟨none,0,by rw[h0],fun _=>List.eq_nil_of_length_eq_zero h0,by simp⟩
    ·rw[q1];exact⟨_,cap,rfl,by simp,fun ad hA j u hu=>by cases hA;exact h4.cells (g:=g) (by rw[q1];rfl) j u hu⟩
   ·rename_i rows hget
    cases hnews
    have e2:σ'.mem.get j=some (.frz ys):=by rw[hag.2.1 j (by simp),hget]
    obtain⟨_,o1,k1,k2⟩:=hag.ev hr hzo hz
    rw[e2]at k1
    cases k1
    have k3:=k2 (by simp)
    obtain⟨vy,hs⟩:=Src.of_sl (v:=a.eval z) (by rw[k3];exact hr.objs j _ e2) c2 d2
    exact⟨[],rfl,by simp,vy,[],hs,fun _=>rfl,List.nodup_nil,by simp⟩
   ·cases hnews
  ·cases hnews
 obtain⟨iks,rfl,hi1,vx,bx,x1,x2,x3,x4,x5,x6⟩:=hold
 obtain⟨jks,rfl,hj1,vy,byy,y1,y2,y3,y4⟩:=hnew
 have hdisj:∀i∈iks,i ∉ jks:=fun i hi hj=>by
  have:=(d3 (i,.dead) (by simp[hi])).1
  exact this (by simp[hj])
 obtain⟨v',w',r1,r2,r3,r4⟩:=Ov ht ht' c1 c2 c3 x3 y1 d1 o.type
 have hks:∀i∈iks++jks,i≠fr:=fun i hi=>by
  simp only[List.mem_append]at hi
  rcases hi with hi | hi
  ·exact hi1 i hi
  ·exact hj1 i hi
 have hnd:((a.eval y).ownBlock.toList++(bx++byy)).Nodup:=by
  rw[←List.append_assoc,List.nodup_append]
  refine⟨x5,y3,fun p hp q hq e=>?_⟩
  subst e
  obtain⟨i,hi,ho1⟩:=x6 p hp
  obtain⟨j,hj,ho2⟩:=y4 p hq
  rw[ho1]at ho2
  injection ho2 with ho2
  subst ho2
  exact hdisj i hi hj
 have hmine:∀b∈(a.eval y).ownBlock.toList++(bx++byy),∃j,j∈iks++jks∧ow b=some j:=fun b hb=>by
  rw[←List.append_assoc,List.mem_append]at hb
  rcases hb with hb | hb
  ·obtain⟨j,hj,h⟩:=x6 b hb;exact⟨j,by simp[hj],h⟩
  ·obtain⟨j,hj,h⟩:=y4 b hb;exact⟨j,by simp[hj],h⟩
 obtain⟨ow',κ',hr'⟩:=hr.appended (rd:=rd) (ex:=ex||ey) hfr hks x1 y1.rep x2 y1.len r2 r3 r4 (fun h=>by
  simp only[Bool.or_eq_false_iff]at h
  exact⟨x4 h.1,y2 h.2⟩) hnd hmine o.dst
 refine⟨v',w',ow',κ',.inl ?_,?_⟩
 ·unfold execOp
  rw[ho]
  simp[resolve,invoke,builtin,r1]
 ·rw[List.map_append]at hr'
  exact hr'
end
end
section
open Go.RowKit
section
variable {P:Program} {o:Oper} {σ:ASt}
theorem Fu {x:Option AV}{E:AEff}(h:(x.map fun v=>(⟨[],[],v⟩:AEff))=some E) (hr:∀v,x=some v→AB P o σ ⟨[],[],v⟩):AB P o σ E:=by
 cases x with
 |none=>cases h
 |some v=>cases h;exact hr v rfl
theorem PD {fr:Id}{E:AEff}(h:eff P σ.ev σ.mem.get fr o=some E):AB P o σ E:=by
 unfold eff at h
 split at h
 ·rename_i x ho
  cases h
  exact TM (.inl ho)
 ·rename_i x ho
  cases h
  exact TM (.inr ho)
 ·rename_i c a b ho
  split at h
  case h_2=>cases h
  rename_i t hc
  split at h
  ·rename_i x y ha hb
   cases h
   exact Z8 ho hc ha hb
  ·cases h
   exact TO ho hc
 ·rename_i ty ho
  split at h
  case h_2=>cases h
  rename_i ti s b z ht
  split at h
  case h_2=>cases h
  rename_i cells hz hf
  cases h
  exact YY ho ht hz hf
 ·rename_i ty x ho
  split at h
  case h_2=>cases h
  rename_i cells hx hf
  split at h
  case isFalse=>cases h
  cases h
  exact WZ ho hx hf
 ·rename_i ty x ho
  exact Z5 ho h
 ·rename_i ty x y ho
  exact Wb ho h
 ·rename_i ty x f ho
  exact W1 ho h
 ·rename_i ty x f ho
  exact Fu h fun v hv=>W2 ho hv
 ·rename_i ty x i ho
  exact W4 ho h
 ·rename_i ty x i ho
  exact Fu h fun v hv=>Z4 ho hv
 ·rename_i x ho
  exact RQ ho h
 ·rename_i op t x y t' ho
  split at h
  ·rename_i v hv
   cases h
   exact a24 ho hv
  ·exact Fu h fun v hv=>a28 ho hv
 ·rename_i op t x ho
  exact Fu h fun v hv=>a5g ho hv
 ·rename_i x i ho
  split at h
  case h_2=>cases h
  rename_i xs hx
  exact Fu h fun v hv=>TL ho hx hv
 ·rename_i ty parts ho
  exact Fu h fun v hv=>Z0 ho hv
 ·rename_i ty len parts ho
  split at h
  case h_2=>cases h
  rename_i hf
  exact Ow ho hf h
 ·rename_i fn first caps ho
  unfold IK at h
  split at h
  case h_2=>cases h
  rename_i f hl
  cases h
  have hl':first = #[]:=by simpa using hl
  subst hl'
  exact RP ho
 ·rename_i c ho
  unfold QP at h
  obtain⟨callee,args,tys⟩:=c
  simp only at h
  split at h
  ·split at h
   case h_2=>cases h
   rename_i x ty ha hty
   have ha':args = #[x]:=by cases args;simpa using ha
   have hty':tys = #[ty]:=by cases tys;simpa using hty
   subst ha'
   subst hty'
   split at h
   ·rename_i e s b z ht
    split at h
    case isFalse=>cases h
    rename_i hs
    exact X0 (.inr ⟨_,rfl⟩) ho ht (by simp) (fun _ q e=>by rw[e]at hs;simp[AV.isStr]at hs) h
   ·rename_i s b z ht
    split at h
    case isFalse=>cases h
    rename_i hs
    exact X0 (.inl rfl) ho ht (fun _=>AV.isStr_some hs) (by simp) h
   ·cases h
  ·split at h
   case h_2=>cases h
   rename_i s x ty ty' ha hty
   have ha':args = #[s,x]:=by cases args;simpa using ha
   have hty':tys = #[ty,ty']:=by cases tys;simpa using hty
   subst ha'
   subst hty'
   split at h
   case h_2=>cases h
   rename_i hf
   split at h
   case isFalse=>cases h
   rename_i ht
   subst ht
   exact TK ho hf h
  ·cases h
 ·rename_i src dst x ho
  split at h
  ·rename_i x1 k s b z k' n h1 h2 hx
   cases h
   exact Z2 ho h1 h2 hx
  ·rename_i s b z s' b' z' q h1 h2 hx
   cases h
   exact Z3 ho h1 h2 hx
  ·cases h
 ·cases h
end
end
section
open Go.RowKit
def Gu (n:Mem) (bw:List Id) (y:AV):Option (List (List C)) :=
 match y with
 | .nils=>some []
 | .own j=>if j∈bw then match n.get j with
  |some (.row _ _ _ rs)=>some (AT rs)
  |some (.frz rs)=>some rs
  |_=>none
  else none
 |_=>none
mutual
def Mat (ρ:Id→Option Id) (n:Mem) (bw:List Id):AV→AV→Prop
 | .undef,_=>True
 | .skip,y=>y=.skip
 | .c x,y=>y=.c x∨∃rows,x=.sl rows∧Gu n bw y=some rows
 | .agg xs,y=>∃ys,y=.agg ys∧BL ρ n bw xs ys
 | .tup xs,y=>∃ys,y=.tup ys∧BL ρ n bw xs ys
 | .ptr i off,y=>∃j,ρ i=some j∧y=.ptr j off
 | .own i,y=>match ρ i with
  |some j=>y=.own j
  |none=>y=.nils
 | .rptr i es r off,y=>∃j,ρ i=some j∧y=.rptr j es r off
 | .part i es r,y=>∃j,ρ i=some j∧y=.part j es r
 | .bsl i k,y=>∃j,ρ i=some j∧y=.bsl j k
 | .elem rows r off,y=>y=.elem rows r off
 | .nils,y=>y=.nils
 | .clo f xs,y=>∃ys,y=.clo f ys∧BL ρ n bw xs ys
def BL (ρ:Id→Option Id) (n:Mem) (bw:List Id):List AV→List AV→Prop
 | [],ys=>ys=[]
 |x::xs,ys=>∃y ys',ys=y::ys'∧Mat ρ n bw x y∧BL ρ n bw xs ys'
end
def En (ρ:Id→Option Id) (n:Mem) (bw:List Id) (i:Id):AO→Prop
 | .box cells=>∃j cells',ρ i=some j∧n.get j=some (.box cells')∧BL ρ n bw cells cells'
 | .row ex es e rows=>match ρ i with
  |some j=>n.get j=some (.row ex es e rows)∨(ex=true∧n.get j=some (.row false es e rows))
  |none=>rows=[]
 | .frz _=>False
 | .rown _=>False
 | .lent .. => False
 | .blk R rows=>∃j,ρ i=some j∧n.get j=some (.blk R rows)
 | .gen R=>∃j,ρ i=some j∧n.get j=some (.gen R)
 | .dead=>True
mutual
def AV.refs (m:Mem):AV→Bool
 | .ptr i _=>(m.get i).isSome
 | .own i=>(m.get i).isSome
 | .rptr i _ _ _=>(m.get i).isSome
 | .part i _ _=>(m.get i).isSome
 | .bsl i _=>(m.get i).isSome
 | .agg xs=>D3 m xs
 | .tup xs=>D3 m xs
 | .clo _ xs=>D3 m xs
 |_=>true
def D3 (m:Mem):List AV→Bool
 | []=>true
 |x::xs=>x.refs m&&D3 m xs
end
def AO.refs (m:Mem):AO→Bool
 | .box cells=>D3 m cells
 |_=>true
structure MatM (ρ:Id→Option Id) (bw:List Id) (m n:Mem):Prop where
 objs:∀p,p∈m→En ρ n bw p.1 p.2
 refs:∀p,p∈m→p.2.refs m=true
 inj:∀p q,p∈m→q∈m→p.2.live=true→q.2.live=true→∀j,ρ p.1=some j→ρ q.1=some j→p.1=q.1
 bw:∀p,p∈m→p.2.live=true→∀j,ρ p.1=some j→j ∉ bw
 nd:(m.map (·.1)).Nodup
theorem Mem.mem_of_get {m:Mem}{i:Id}{o:AO}(h:m.get i=some o):(i,o)∈m:=by
 induction m with
 |nil=>simp[Mem.get]at h
 |cons p m ih =>
  obtain⟨k,p⟩:=p
  simp only[Mem.get,List.lookup_cons]at h
  by_cases hk:i=k
  ·subst hk
   simp at h
   simp[h]
  ·have:(i==k)=false:=by simpa using hk
   simp only[this]at h
   exact List.mem_cons_of_mem _ (ih h)
def CA (ρ:Id→Option Id) (m:Mem) (ow:Nat→Option Id) (b:Nat):Option Id :=
 match ow b with
 |none=>none
 |some j=>(m.find? fun p=>p.2.live&&ρ p.1==some j).map (·.1)
theorem Mem.get_of_mem {m:Mem}{p:Id×AO}(h:p∈m):∃o,m.get p.1=some o:=by
 induction m with
 |nil=>simp at h
 |cons q m ih =>
  obtain⟨k,o⟩:=q
  simp only[Mem.get,List.lookup_cons]
  by_cases hk:p.1=k
  ·exact⟨o,by simp[hk]⟩
  ·have hk':(p.1==k)=false:=by simpa using hk
   simp only[hk']
   rcases List.mem_cons.1 h with rfl | h
   ·exact absurd rfl hk
   ·exact ih h
theorem Mem.get_of_mem_nd {m:Mem}(hnd:(m.map (·.1)).Nodup) {p:Id×AO}(h:p∈m):m.get p.1=some p.2:=by
 induction m with
 |nil=>simp at h
 |cons q m ih =>
  obtain⟨k,o⟩:=q
  simp only[List.map_cons,List.nodup_cons]at hnd
  simp only[Mem.get,List.lookup_cons]
  rcases List.mem_cons.1 h with rfl | h
  ·simp
  ·have hk:p.1≠k:=fun e=>hnd.1 (by rw[←e];exact List.mem_map.2 ⟨p,h,rfl⟩)
   have hk':(p.1==k)=false:=by simpa using hk
   simp only[hk']
   exact ih hnd.2 h
def Dp (ρ:Id→Option Id) (κ:Id→Value) (i:Id):Value :=
 match ρ i with
 |some j=>κ j
 |none=>.slice none 0 0
section
variable {ρ:Id→Option Id} {m n:Mem} {bw:List Id} {ow:Nat→Option Id} {κ:Id→Value}
theorem Gq (hm:MatM ρ bw m n) {b:Nat}{i:Id}{o:AO}{j:Id}(hi:m.get i=some o) (hlv:o.live=true) (hj:ρ i=some j) (ho:ow b=some j):CA ρ m ow b=some i:=by
 unfold CA
 rw[ho]
 simp only
 cases hf:m.find? fun p=>p.2.live&&ρ p.1==some j with
 |none =>
  have:=List.find?_eq_none.1 hf (i,o) (Mem.mem_of_get hi)
  simp[hj,hlv]at this
 |some p =>
  have h1:=List.mem_of_find?_eq_some hf
  have h2:=List.find?_some hf
  simp only[Bool.and_eq_true,beq_iff_eq]at h2
  exact congrArg some (hm.inj p (i,o) h1 (Mem.mem_of_get hi) h2.1 hlv j h2.2 hj)
theorem EB (hnd:(m.map (·.1)).Nodup) {b:Nat}{i:Id}(h:CA ρ m ow b=some i):(∃o,m.get i=some o∧o.live=true)∧∃j,ρ i=some j∧ow b=some j:=by
 unfold CA at h
 cases ho:ow b with
 |none=>rw[ho]at h;cases h
 |some j =>
  rw[ho]at h
  simp only[Option.map_eq_some_iff]at h
  obtain⟨p,hp,rfl⟩:=h
  have h1:=List.mem_of_find?_eq_some hp
  have h2:=List.find?_some hp
  simp only[Bool.and_eq_true,beq_iff_eq]at h2
  exact⟨⟨p.2,Mem.get_of_mem_nd hnd h1,h2.1⟩,j,h2.2,rfl⟩
theorem Dt {b:Nat}(h:ow b=none):CA ρ m ow b=none:=by
 unfold CA
 rw[h]
theorem IY (hm:MatM ρ bw m n) {b:Nat}{j:Id}(hj:j∈bw) (h:ow b=some j):CA ρ m ow b=none:=by
 cases hr:CA ρ m ow b with
 |none=>rfl
 |some i =>
  obtain⟨⟨o,h1,hlv⟩,j',h2,h3⟩:=EB hm.nd hr
  rw[h]at h3
  injection h3 with h3
  subst h3
  exact absurd hj (hm.bw (i,o) (Mem.mem_of_get h1) hlv j h2)
variable {w:World} {S T:Nat→Prop}
theorem Za (hS:∀b,S b→T b) (hT:∀b j,j∈bw→ow b=some j→T b) (hobj:∀j o,n.get j=some o→OR w S n ow κ j o) {y:AV}{rows:List (List C)}{v:Value}(h:Gu n bw y=some rows) (hr:AR w S n κ y v):CR w T (.sl rows) v []:=by
 unfold Gu at h
 split at h
 ·cases h
  have hv:v=.slice none 0 0:=hr
  subst hv
  exact⟨0,none,0,[],rfl,Nat.le_refl _,by simp,Row.nil,by simp[An],rfl⟩
 ·rename_i j
  split at h
  case isFalse=>cases h
  rename_i hbw
  obtain⟨_,o1,k1,k2⟩:=hr
  split at h
  ·rename_i ex es e rs hget
   cases h
   rw[hget]at k1
   cases k1
   have k3:=k2 (by simp)
   obtain⟨vrows,bs,h1,h2,h3,h4,h5,h6⟩:=hobj j _ hget
   rw[←k3]at h4 h5 h6
   have:CR w S (.osl rs) v (v.ownBlock.toList++bs):=⟨es,vrows,bs,e,h1,h3,h4,rfl⟩
   exact CR.forget hS (fun b hb=>hT b j hbw (h6 b hb)) this
  ·rename_i rs hget
   cases h
   rw[hget]at k1
   cases k1
   have k3:=k2 (by simp)
   rw[k3]
   exact CR.keep (Nat.le_refl _) (fun b hb _=>⟨rfl,hS b hb⟩) (by simp) (hobj j _ hget)
  ·cases h
 ·cases h
theorem H8 (hm:MatM ρ bw m n) {i:Id}{o:AO}(h:m.get i=some o):En ρ n bw i o:=hm.objs _ (Mem.mem_of_get h)
mutual
theorem Mat.rep (hm:MatM ρ bw m n) (hS:∀b,S b→T b) (hT:∀b j,j∈bw→ow b=some j→T b) (hobj:∀j o,n.get j=some o→OR w S n ow κ j o) :
  ∀{x y:AV} {v:Value},Mat ρ n bw x y→x.refs m=true→AR w S n κ y v→AR w T m (Dp ρ κ) x v
 | .undef,_,_,_,_,_=>trivial
 | .skip,_,_,h,_,hr=>by
  simp only[Mat]at h
  subst h
  exact hr
 | .c x,y,v,h,_,hr=>by
  simp only[Mat]at h
  rcases h with rfl | ⟨rows,rfl,h⟩
  ·exact CR.keep (Nat.le_refl _) (fun b hb _=>⟨rfl,hS b hb⟩) (by simp) hr
  ·exact Za hS hT hobj h hr
 | .agg xs,y,v,h,hf,hr=>by
  simp only[Mat]at h
  obtain⟨ys,rfl,h⟩:=h
  obtain⟨vs,h1,h2,h3⟩:=hr
  exact⟨vs,h1,BL.rep hm hS hT hobj h (by simpa [AV.refs] using hf) h2,h3⟩
 | .tup xs,y,v,h,hf,hr=>by
  simp only[Mat]at h
  obtain⟨ys,rfl,h⟩:=h
  obtain⟨vs,h1,h2⟩:=hr
  exact⟨vs,h1,BL.rep hm hS hT hobj h (by simpa [AV.refs] using hf) h2⟩
 | .ptr i off,y,v,h,hf,hr=>by
  simp only[Mat]at h
  obtain⟨j,hj,rfl⟩:=h
  obtain⟨h0,o1,k1,k2⟩:=hr
  simp only[AV.refs,Option.isSome_iff_exists]at hf
  obtain⟨o,ho⟩:=hf
  refine⟨h0,o,ho,fun hl=>?_⟩
  have hmo:=H8 hm ho
  have hkk:Dp ρ κ i=κ j:=by simp[Dp,hj]
  rw[hkk]
  have hlive:o1.live=true:=by
   cases o with
   |box cells =>
    obtain⟨j',cells',g1,g2,_⟩:=hmo
    rw[hj]at g1
    cases g1
    rw[g2]at k1
    cases k1
    rfl
   |row ex es e rows =>
    simp only[En,hj]at hmo
    rcases hmo with g | ⟨_,g⟩<;>(rw[g]at k1;cases k1;rfl)
   |frz _=>simp[AO.live]at hl
   |rown _=>exact hmo.elim
   |lent _ _ _ _ _ _=>exact hmo.elim
   |blk R rows =>
    obtain⟨j',g1,g2⟩:=hmo
    rw[hj]at g1
    cases g1
    rw[g2]at k1
    cases k1
    rfl
   |gen R =>
    obtain⟨j',g1,g2⟩:=hmo
    rw[hj]at g1
    cases g1
    rw[g2]at k1
    cases k1
    rfl
   |dead=>simp[AO.live]at hl
  exact k2 hlive
 | .own i,y,v,h,hf,hr=>by
  simp only[Mat]at h
  simp only[AV.refs,Option.isSome_iff_exists]at hf
  obtain⟨o,ho⟩:=hf
  have hmo:=H8 hm ho
  split at h
  ·rename_i j hj
   subst h
   obtain⟨h0,o1,k1,k2⟩:=hr
   refine⟨h0,o,ho,fun hl=>?_⟩
   have hkk:Dp ρ κ i=κ j:=by simp[Dp,hj]
   rw[hkk]
   apply k2
   cases o with
   |box cells =>
    obtain⟨j',cells',g1,g2,_⟩:=hmo
    rw[hj]at g1
    cases g1
    rw[g2]at k1
    cases k1
    simp
   |row ex es e rows =>
    simp only[En,hj]at hmo
    rcases hmo with g | ⟨_,g⟩<;>(rw[g]at k1;cases k1;simp)
   |frz _=>exact hmo.elim
   |rown _=>exact hmo.elim
   |lent _ _ _ _ _ _=>exact hmo.elim
   |blk R rows =>
    obtain⟨j',g1,g2⟩:=hmo
    rw[hj]at g1
    cases g1
    rw[g2]at k1
    cases k1
    simp
   |gen R =>
    obtain⟨j',g1,g2⟩:=hmo
    rw[hj]at g1
    cases g1
    rw[g2]at k1
    cases k1
    simp
   |dead=>exact absurd rfl hl
  ·rename_i hj
   subst h
   have hv:v=.slice none 0 0:=hr
   subst hv
   exact⟨rfl,o,ho,fun _=>by simp[Dp,hj]⟩
 | .rptr i es r off,y,v,h,hf,hr=>by
  simp only[Mat]at h
  obtain⟨j,hj,rfl⟩:=h
  obtain⟨h0,o1,k1,k2⟩:=hr
  simp only[AV.refs,Option.isSome_iff_exists]at hf
  obtain⟨o,ho⟩:=hf
  refine⟨h0,o,ho,fun hl=>?_⟩
  have hmo:=H8 hm ho
  have hkk:Dp ρ κ i=κ j:=by simp[Dp,hj]
  rw[hkk]
  have hlive:o1.live=true:=by
   cases o with
   |box cells =>
    obtain⟨j',cells',g1,g2,_⟩:=hmo
    rw[hj]at g1
    cases g1
    rw[g2]at k1
    cases k1
    rfl
   |row ex es e rows =>
    simp only[En,hj]at hmo
    rcases hmo with g | ⟨_,g⟩<;>(rw[g]at k1;cases k1;rfl)
   |frz _=>simp[AO.live]at hl
   |rown _=>exact hmo.elim
   |lent _ _ _ _ _ _=>exact hmo.elim
   |blk R rows =>
    obtain⟨j',g1,g2⟩:=hmo
    rw[hj]at g1
    cases g1
    rw[g2]at k1
    cases k1
    rfl
   |gen R =>
    obtain⟨j',g1,g2⟩:=hmo
    rw[hj]at g1
    cases g1
    rw[g2]at k1
    cases k1
    rfl
   |dead=>simp[AO.live]at hl
  exact k2 hlive
 | .part i es r,y,v,h,hf,hr=>by
  simp only[Mat]at h
  obtain⟨j,hj,rfl⟩:=h
  obtain⟨h0,o1,k1,k2⟩:=hr
  simp only[AV.refs,Option.isSome_iff_exists]at hf
  obtain⟨o,ho⟩:=hf
  refine⟨h0,o,ho,fun hl=>?_⟩
  have hmo:=H8 hm ho
  have hkk:Dp ρ κ i=κ j:=by simp[Dp,hj]
  rw[hkk]
  have hlive:o1.live=true:=by
   cases o with
   |box cells =>
    obtain⟨j',cells',g1,g2,_⟩:=hmo
    rw[hj]at g1
    cases g1
    rw[g2]at k1
    cases k1
    rfl
   |row ex es e rows =>
    simp only[En,hj]at hmo
    rcases hmo with g | ⟨_,g⟩<;>(rw[g]at k1;cases k1;rfl)
   |frz _=>simp[AO.live]at hl
   |rown _=>exact hmo.elim
   |lent _ _ _ _ _ _=>exact hmo.elim
   |blk R rows =>
    obtain⟨j',g1,g2⟩:=hmo
    rw[hj]at g1
    cases g1
    rw[g2]at k1
    cases k1
    rfl
   |gen R =>
    obtain⟨j',g1,g2⟩:=hmo
    rw[hj]at g1
    cases g1
    rw[g2]at k1
    cases k1
    rfl
   |dead=>simp[AO.live]at hl
  exact k2 hlive
 | .bsl i k,y,v,h,hf,hr=>by
  simp only[Mat]at h
  obtain⟨j,hj,rfl⟩:=h
  obtain⟨h0,o1,k1,k2⟩:=hr
  simp only[AV.refs,Option.isSome_iff_exists]at hf
  obtain⟨o,ho⟩:=hf
  refine⟨h0,o,ho,fun hl=>?_⟩
  have hmo:=H8 hm ho
  have hkk:Dp ρ κ i=κ j:=by simp[Dp,hj]
  rw[hkk]
  have hlive:o1.live=true:=by
   cases o with
   |box cells =>
    obtain⟨j',cells',g1,g2,_⟩:=hmo
    rw[hj]at g1
    cases g1
    rw[g2]at k1
    cases k1
    rfl
   |row ex es e rows =>
    simp only[En,hj]at hmo
    rcases hmo with g | ⟨_,g⟩<;>(rw[g]at k1;cases k1;rfl)
   |frz _=>simp[AO.live]at hl
   |rown _=>exact hmo.elim
   |lent _ _ _ _ _ _=>exact hmo.elim
   |blk R rows =>
    obtain⟨j',g1,g2⟩:=hmo
    rw[hj]at g1
    cases g1
    rw[g2]at k1
    cases k1
    rfl
   |gen R =>
    obtain⟨j',g1,g2⟩:=hmo
    rw[hj]at g1
    cases g1
    rw[g2]at k1
    cases k1
    rfl
   |dead=>simp[AO.live]at hl
  exact k2 hlive
 | .elem rows r off,y,v,h,_,hr=>by
  simp only[Mat]at h
  subst h
  obtain⟨es,b,q,vrows,h1,h2,h3⟩:=hr
  exact⟨es,b,q,vrows,h1,Row.mono (Nat.le_refl _) (fun b hb _=>⟨rfl,hS b hb⟩) h2,An.keep (Nat.le_refl _) (fun b hb _=>⟨rfl,hS b hb⟩) (by simp) h3⟩
 | .nils,_,_,h,_,hr=>by
  simp only[Mat]at h
  subst h
  exact hr
 | .clo f xs,y,v,h,hf,hr=>by
  simp only[Mat]at h
  obtain⟨ys,rfl,h⟩:=h
  obtain⟨vs,h1,h2⟩:=hr
  exact⟨vs,h1,BL.rep hm hS hT hobj h (by simpa [AV.refs] using hf) h2⟩
theorem BL.rep (hm:MatM ρ bw m n) (hS:∀b,S b→T b) (hT:∀b j,j∈bw→ow b=some j→T b) (hobj:∀j o,n.get j=some o→OR w S n ow κ j o) :
  ∀{x y:List AV} {v:List Value},BL ρ n bw x y→D3 m x=true→ARs w S n κ y v→ARs w T m (Dp ρ κ) x v
 | [],_,_,h,_,hr=>by
  simp only[BL]at h
  subst h
  exact hr
 |x::xs,y,v,h,hf,hr=>by
  simp only[BL]at h
  obtain⟨y,ys',rfl,h1,h2⟩:=h
  obtain⟨u,us,rfl,g1,g2⟩:=hr
  simp only[D3,Bool.and_eq_true]at hf
  exact⟨u,us,rfl,Mat.rep hm hS hT hobj h1 hf.1 g1,BL.rep hm hS hT hobj h2 hf.2 g2⟩
end
theorem En.rep (hm:MatM ρ bw m n) (hS:∀b,S b→T b) (hT:∀b j,j∈bw→ow b=some j→T b) (hobj:∀j o,n.get j=some o→OR w S n ow κ j o) {i:Id}{o:AO}(hi:m.get i=some o) :
  OR w T m (CA ρ m ow) (Dp ρ κ) i o:=by
 have hmo:=H8 hm hi
 have hrf:=hm.refs _ (Mem.mem_of_get hi)
 cases o with
 |box cells =>
  obtain⟨j,cells',g1,g2,g3⟩:=hmo
  obtain⟨b,vs,T',h1,h2,h3,h4,h5⟩:=hobj j _ g2
  exact⟨b,vs,T',by simp[Dp,g1,h1],Gq hm hi rfl g1 h2,h3,BL.rep hm hS hT hobj g3 hrf h4,h5⟩
 |row ex es e rows =>
  cases hj:ρ i with
  |some j =>
   simp only[En,hj]at hmo
   have hkk:Dp ρ κ i=κ j:=by simp[Dp,hj]
   rcases hmo with g | ⟨g0,g⟩
   ·obtain⟨vrows,bs,h1,h2,h3,h4,h5,h6⟩:=hobj j _ g
    exact⟨vrows,bs,An.keep (Nat.le_refl _) (fun b hb _=>⟨rfl,hS b hb⟩) (fun _ _ _=>rfl) h1,h2,h3,by rw[hkk];exact h4,by rw[hkk];exact h5,fun b hb=>by rw[hkk]at hb;exact Gq hm hi rfl hj (h6 b hb)⟩
   ·obtain⟨vrows,bs,h1,h2,h3,h4,h5,h6⟩:=hobj j _ g
    exact⟨vrows,bs,An.keep (Nat.le_refl _) (fun b hb _=>⟨rfl,hS b hb⟩) (fun _ _ _=>rfl) h1,by simp[g0],h3,by rw[hkk];exact h4,by rw[hkk];exact h5,fun b hb=>by rw[hkk]at hb;exact Gq hm hi rfl hj (h6 b hb)⟩
  |none =>
   simp only[En,hj]at hmo
   subst hmo
   have hkk:Dp ρ κ i=.slice none 0 0:=by simp[Dp,hj]
   exact⟨[],[],by simp[An],fun _=>rfl,by simp,by rw[hkk];exact World.ownsRow_nil _ _ _ _,by rw[hkk];simp[Value.ownBlock],fun b hb=>by rw[hkk]at hb;simp[Value.ownBlock]at hb⟩
 |frz _=>exact hmo.elim
 |rown _=>exact hmo.elim
 |lent _ _ _ _ _ _=>exact hmo.elim
 |blk R rows =>
  obtain⟨j,g1,g2⟩:=hmo
  obtain⟨b,obj,vrows,h1,h2,h3,h4⟩:=hobj j _ g2
  have hkk:Dp ρ κ i=κ j:=by simp[Dp,g1]
  exact⟨b,obj,vrows,Gq hm hi rfl g1 h1,h2,An.keep (Nat.le_refl _) (fun b hb _=>⟨rfl,hS b hb⟩) (by simp) h3,by rw[hkk];exact h4⟩
 |gen R =>
  obtain⟨j,g1,g2⟩:=hmo
  obtain⟨l,h1,h2⟩:=hobj j _ g2
  have hkk:Dp ρ κ i=κ j:=by simp[Dp,g1]
  exact⟨l,fun p hp=>⟨Gq hm hi rfl g1 (h1 p hp).1,(h1 p hp).2⟩,by rw[hkk];exact h2⟩
 |dead=>trivial
end
structure Le (ρ:Id→Option Id) (bw:List Id) (τ σ:ASt):Prop where
 slots:BL ρ σ.mem bw τ.slots σ.slots
 refs:D3 τ.mem τ.slots=true
 mem:MatM ρ bw τ.mem σ.mem
theorem BL.length {ρ:Id→Option Id}{n:Mem}{bw:List Id}:∀{x y:List AV},BL ρ n bw x y→y.length=x.length
 | [],_,h=>by simp only[BL]at h;subst h;rfl
 |_::_,_,h=>by
  simp only[BL]at h
  obtain⟨y,ys,rfl,_,h2⟩:=h
  simp[BL.length h2]
theorem BL.at_ {ρ:Id→Option Id}{n:Mem}{bw:List Id}{m:Mem}:∀{x y:List AV},BL ρ n bw x y→D3 m x=true→∀t,Mat ρ n bw (x.getD t .undef) (y.getD t .undef)∧(x.getD t .undef).refs m=true
 | [],y,h,_,t=>by simp[Mat,AV.refs]
 |x::xs,y,h,hf,t=>by
  simp only[BL]at h
  obtain⟨y,ys,rfl,h1,h2⟩:=h
  simp only[D3,Bool.and_eq_true]at hf
  cases t with
  |zero=>exact⟨h1,hf.1⟩
  |succ t=>simpa using BL.at_ h2 hf.2 t
theorem RelAt.le {Γ:Ctx}{σ τ:ASt}{a:Act}{w:World}{ow:Nat→Option Id}{κ:Id→Value}(h:RelAt Γ σ a w ow κ) {ρ:Id→Option Id}{bw:List Id}(hl:Le ρ bw τ σ) (hx:∀i,i∈Γ.ext→ρ i=some i∧(τ.mem.get i).isSome=true):RelAt Γ τ a w (CA ρ τ.mem ow) (Dp ρ κ):=by
 have hS:∀b,Γ.sees ow b→Γ.sees (CA ρ τ.mem ow) b:=fun b hb=>⟨Dt hb.1,hb.2⟩
 have hT:∀b j,j∈bw→ow b=some j→Γ.sees (CA ρ τ.mem ow) b:=fun b j hj hb=>⟨IY hl.mem hj hb,by
  by_cases h1:Γ.w.heap.size≤b
  ·exact .inr (.inl h1)
  ·by_cases h2:Γ.ow b=none
   ·have:=(h.frame b (by omega) h2).2
    rw[this]at hb
    cases hb
   ·exact .inr (.inr h2)⟩
 refine⟨by rw[h.len,hl.slots.length],h.defers,fun t=>?_,fun i o hi=>En.rep hl.mem hS hT h.objs hi,fun b i hb=>?_,h.os,h.tape,h.output,h.size,fun b hb h0=>?_,fun i hi=>?_⟩
 ·have:=hl.slots.at_ hl.refs t
  exact Mat.rep hl.mem hS hT h.objs this.1 this.2 (h.slots t)
 ·obtain⟨⟨o,h1,h2⟩,j,_,h3⟩:=EB hl.mem.nd hb
  exact⟨(h.own b j h3).1,o,h1,h2⟩
 ·obtain⟨h1,h2⟩:=h.frame b hb h0
  exact⟨h1,Dt h2⟩
 ·obtain⟨g1,g2⟩:=hx i hi
  exact⟨by rw[←(h.kap i hi).1];simp[Dp,g1],by simpa [Option.isSome_iff_exists] using g2⟩
theorem Rel.le {Γ:Ctx}{σ τ:ASt}{a:Act}{w:World}(h:Rel Γ σ a w) {ρ:Id→Option Id}{bw:List Id}(hl:Le ρ bw τ σ) (hx:∀i,i∈Γ.ext→ρ i=some i∧(τ.mem.get i).isSome=true):Rel Γ τ a w:=by
 obtain⟨ow,κ,h⟩:=h
 exact⟨_,_,h.le hl hx⟩
end
section
open Go.RowKit
mutual
def C.closed:C→Bool
 | .sl rows=>rows.isEmpty
 | .osl rows=>Bm rows
 | .tsl _ _ rows=>Bm rows
 | .ref _=>false
 | .oref row=>Ff row
 |_=>true
def Ff:List C→Bool
 | []=>true
 |c::cs=>c.closed&&Ff cs
def Bm:List (List C)→Bool
 | []=>true
 |c::cs=>Ff c&&Bm cs
end
mutual
def AV.closed:AV→Bool
 | .c x=>x.closed
 | .agg xs=>FH xs
 | .tup xs=>FH xs
 | .clo _ xs=>FH xs
 | .elem .. => false
 |_=>true
def FH:List AV→Bool
 | []=>true
 |x::xs=>x.closed&&FH xs
end
def AO.closed:AO→Bool
 | .box cells=>FH cells
 | .row _ _ _ rows=>Bm rows
 | .frz _=>false
 | .rown _=>false
 | .lent .. => false
 | .blk _ rows=>Bm rows
 | .gen _=>true
 | .dead=>true
section
variable {w:World} {S T:Nat→Prop}
mutual
theorem CR.closed:∀{x:C}{v:Value}{bs:List Nat},x.closed=true→CR w S x v bs→CR w T x v bs
 | .int _ _,_,_,_,h=>h
 | .bool _,_,_,_,h=>h
 | .str _,_,_,_,h=>h
 | .raw _,_,_,_,h=>h
 | .sl rows,v,bs,hc,h=>by
  have:rows=[]:=by simpa [C.closed] using hc
  subst this
  obtain⟨es,A,cap,vrows,h1,h2,h3,h4,h5,h6⟩:=h
  simp only[An]at h5
  obtain⟨rfl,_⟩:=h5
  exact⟨es,A,cap,[],h1,h2,h3,Row.nil,by simp[An],h6⟩
 | .osl rows,v,bs,hc,h=>by
  obtain⟨es,vrows,bs',e,h1,h2,h3,h4⟩:=h
  exact⟨es,vrows,bs',e,An.closed (by simpa [C.closed] using hc) h1,h2,h3,h4⟩
 | .tsl es e rows,v,bs,hc,h=>by
  obtain⟨vrows,bs',h1,h2,h3,h4⟩:=h
  exact⟨vrows,bs',An.closed (by simpa [C.closed] using hc) h1,h2,h3,h4⟩
 | .any,_,_,_,h=>h
 | .ref row,v,bs,hc,h=>absurd hc (by simp[C.closed])
 | .oref row,v,bs,hc,h=>by
  obtain⟨b,vr,T',h1,h2,h3,h4⟩:=h
  exact⟨b,vr,T',h1,h2,CRs.closed (by simpa [C.closed] using hc) h3,h4⟩
theorem CRs.closed:∀{x:List C}{v:List Value}{bs:List Nat},Ff x=true→CRs w S x v bs→CRs w T x v bs
 | [],_,_,_,h=>h
 |c::cs,v,bs,hc,h=>by
  simp only[Ff,Bool.and_eq_true]at hc
  obtain⟨u,vs',b1,b2,h1,h2,h3,h4⟩:=h
  exact⟨u,vs',b1,b2,h1,h2,CR.closed hc.1 h3,CRs.closed hc.2 h4⟩
theorem An.closed:∀{x:List (List C)}{v:List (List Value)}{bs:List Nat},Bm x=true→An w S x v bs→An w T x v bs
 | [],_,_,_,h=>h
 |c::cs,v,bs,hc,h=>by
  simp only[Bm,Bool.and_eq_true]at hc
  obtain⟨u,vs',b1,b2,h1,h2,h3,h4⟩:=h
  exact⟨u,vs',b1,b2,h1,h2,CRs.closed hc.1 h3,An.closed hc.2 h4⟩
end
end
mutual
def AV.ren (ρ:Id→Id):AV→AV
 | .ptr i off=>.ptr (ρ i) off
 | .own i=>.own (ρ i)
 | .rptr i es r off=>.rptr (ρ i) es r off
 | .part i es r=>.part (ρ i) es r
 | .bsl i k=>.bsl (ρ i) k
 | .agg xs=>.agg (VW ρ xs)
 | .tup xs=>.tup (VW ρ xs)
 | .clo f xs=>.clo f (VW ρ xs)
 |x=>x
def VW (ρ:Id→Id):List AV→List AV
 | []=>[]
 |x::xs=>x.ren ρ::VW ρ xs
end
def AO.ren (ρ:Id→Id):AO→AO
 | .box cells=>.box (VW ρ cells)
 | .lent es e rows r off j=>.lent es e rows r off (ρ j)
 |o=>o
theorem AO.ren_live (ρ:Id→Id) (o:AO):(o.ren ρ).live=o.live:=by cases o<;>rfl
section
variable {w:World} {S T:Nat→Prop} {m n:Mem} {ρ:Id→Id} {κ κ':Id→Value} {cl:Bool}
mutual
theorem AR.up (hS:cl=false→∀b,S b→T b) (hm:∀i o,m.get i=some o→n.get (ρ i)=some (o.ren ρ)∧κ' (ρ i)=κ i):∀{x:AV}{v:Value},(cl=true→x.closed=true)→AR w S m κ x v→AR w T n κ' (x.ren ρ) v
 | .undef,_,_,_=>trivial
 | .skip,_,_,h=>h
 | .c x,v,hc,h=>by
  cases cl with
  |true=>exact CR.closed (hc rfl) h
  |false=>exact CR.keep (Nat.le_refl _) (fun b hb _=>⟨rfl,hS rfl b hb⟩) (by simp) h
 | .agg xs,v,hc,h=>by
  obtain⟨vs,h1,h2,h3⟩:=h
  exact⟨vs,h1,ARs.up hS hm (by simpa [AV.closed] using hc) h2,h3⟩
 | .tup xs,v,hc,h=>by
  obtain⟨vs,h1,h2⟩:=h
  exact⟨vs,h1,ARs.up hS hm (by simpa [AV.closed] using hc) h2⟩
 | .clo f xs,v,hc,h=>by
  obtain⟨vs,h1,h2⟩:=h
  exact⟨vs,h1,ARs.up hS hm (by simpa [AV.closed] using hc) h2⟩
 | .ptr i off,v,_,h=>by
  obtain⟨h0,o,h1,h2⟩:=h
  obtain⟨g1,g2⟩:=hm i o h1
  exact⟨h0,_,g1,fun hl=>by rw[g2];exact h2 (by rwa [AO.ren_live]at hl)⟩
 | .own i,v,_,h=>by
  obtain⟨h0,o,h1,h2⟩:=h
  obtain⟨g1,g2⟩:=hm i o h1
  exact⟨h0,_,g1,fun hl=>by rw[g2];exact h2 (fun e=>hl (by rw[e];rfl))⟩
 | .rptr i es r off,v,_,h=>by
  obtain⟨h0,o,h1,h2⟩:=h
  obtain⟨g1,g2⟩:=hm i o h1
  exact⟨h0,_,g1,fun hl=>by rw[g2];exact h2 (by rwa [AO.ren_live]at hl)⟩
 | .part i es r,v,_,h=>by
  obtain⟨h0,o,h1,h2⟩:=h
  obtain⟨g1,g2⟩:=hm i o h1
  exact⟨h0,_,g1,fun hl=>by rw[g2];exact h2 (by rwa [AO.ren_live]at hl)⟩
 | .bsl i k,v,_,h=>by
  obtain⟨h0,o,h1,h2⟩:=h
  obtain⟨g1,g2⟩:=hm i o h1
  exact⟨h0,_,g1,fun hl=>by rw[g2];exact h2 (by rwa [AO.ren_live]at hl)⟩
 | .elem rows r off,v,hc,h=>by
  cases cl with
  |true=>exact absurd (hc rfl) (by simp[AV.closed])
  |false =>
   obtain⟨es,b,q,vrows,h1,h2,h3⟩:=h
   exact⟨es,b,q,vrows,h1,Row.mono (Nat.le_refl _) (fun b hb _=>⟨rfl,hS rfl b hb⟩) h2,An.keep (Nat.le_refl _) (fun b hb _=>⟨rfl,hS rfl b hb⟩) (by simp) h3⟩
 | .nils,_,_,h=>h
theorem ARs.up (hS:cl=false→∀b,S b→T b) (hm:∀i o,m.get i=some o→n.get (ρ i)=some (o.ren ρ)∧κ' (ρ i)=κ i):∀{x:List AV}{v:List Value},(cl=true→FH x=true)→ARs w S m κ x v→ARs w T n κ' (VW ρ x) v
 | [],_,_,h=>h
 |x::xs,v,hc,h=>by
  obtain⟨u,us,h1,h2,h3⟩:=h
  have hc':cl=true→x.closed=true∧FH xs=true:=fun e=>by simpa [FH] using hc e
  exact⟨u,us,h1,AR.up hS hm (fun e=>(hc' e).1) h2,ARs.up hS hm (fun e=>(hc' e).2) h3⟩
end
theorem OR.up {ow ow':Nat→Option Id}(hS:cl=false→∀b,S b→T b) (hm:∀i o,m.get i=some o→n.get (ρ i)=some (o.ren ρ)∧κ' (ρ i)=κ i) {i:Id}{o:AO}(hi:m.get i=some o) (how:∀b,ow b=some i→ow' b=some (ρ i)) (hc:cl=true→o.closed=true) (h:OR w S m ow κ i o):OR w T n ow' κ' (ρ i) (o.ren ρ):=by
 have hk:=(hm i o hi).2
 cases o with
 |box cells =>
  obtain⟨b,vs,T',h1,h2,h3,h4,h5⟩:=h
  exact⟨b,vs,T',by rw[hk,h1],how b h2,h3,ARs.up hS hm (by simpa [AO.closed] using hc) h4,h5⟩
 |row ex es e rows =>
  obtain⟨vrows,bs,h1,h2,h3,h4,h5,h6⟩:=h
  refine⟨vrows,bs,?_,h2,h3,by rw[hk];exact h4,by rw[hk];exact h5,fun b hb=>how b (h6 b (by rwa [hk]at hb))⟩
  cases cl with
  |true=>exact An.closed (hc rfl) h1
  |false=>exact An.keep (Nat.le_refl _) (fun b hb _=>⟨rfl,hS rfl b hb⟩) (fun _ _ _=>rfl) h1
 |frz rows =>
  cases cl with
  |true=>exact absurd (hc rfl) (by simp[AO.closed])
  |false =>
   simp only[OR,AO.ren]at h ⊢
   rw[hk]
   exact CR.keep (Nat.le_refl _) (fun b hb _=>⟨rfl,hS rfl b hb⟩) (by simp) h
 |rown rows =>
  cases cl with
  |true=>exact absurd (hc rfl) (by simp[AO.closed])
  |false =>
   simp only[OR,AO.ren]at h ⊢
   obtain⟨es,e,vrows,h1,h2,h3,h4⟩:=h
   rw[hk]
   exact⟨es,e,vrows,An.keep (Nat.le_refl _) (fun b hb _=>⟨rfl,hS rfl b hb⟩) (by simp) h1,h2,h3,fun b hb=>how b (h4 b hb)⟩
 |lent es e rows r off j =>
  cases cl with
  |true=>exact absurd (hc rfl) (by simp[AO.closed])
  |false =>
   simp only[OR,AO.ren]at h ⊢
   obtain⟨v,vrows,bs,h1,h2,h3,h4,h5,o,h6,h7⟩:=h
   rw[hk]
   obtain⟨g1,g2⟩:=hm j o h6
   refine⟨v,vrows,bs,An.keep (Nat.le_refl _) (fun b hb _=>⟨rfl,hS rfl b hb⟩) (fun _ _ _=>rfl) h1,h2,h3,h4,fun b hb=>how b (h5 b hb),_,g1,fun hd=>?_⟩
   rw[g2]
   exact h7 fun e=>hd (by rw[e];rfl)
 |blk R rows =>
  simp only[OR,AO.ren]at h ⊢
  obtain⟨b,obj,vrows,h1,h2,h3,h4⟩:=h
  rw[hk]
  refine⟨b,obj,vrows,how b h1,h2,?_,h4⟩
  cases cl with
  |true=>exact An.closed (hc rfl) h3
  |false=>exact An.keep (Nat.le_refl _) (fun b hb _=>⟨rfl,hS rfl b hb⟩) (by simp) h3
 |gen R =>
  simp only[OR,AO.ren]at h ⊢
  obtain⟨l,h1,h2⟩:=h
  rw[hk]
  exact⟨l,fun p hp=>⟨how p.1 (h1 p hp).1,(h1 p hp).2⟩,h2⟩
 |dead=>trivial
end
structure Entry (Γ:Ctx) (m:Mem):Prop where
 objs:∀i o,m.get i=some o→OR Γ.w (Γ.sees Γ.ow) m Γ.ow Γ.κ i o
 own:∀b i,Γ.ow b=some i→b < Γ.w.heap.size∧∃o,m.get i=some o∧o.live=true
 ext:Γ.ext=m.map (·.1)
structure ExitAt (Γ:Ctx) (m m':Mem) (w:World) (res:AV) (v:Value) (ow:Nat→Option Id) (κ:Id→Value):Prop where
 res:AR w (Γ.sees ow) m' κ res v
 objs:∀i o,m'.get i=some o→OR w (Γ.sees ow) m' ow κ i o
 own:∀b i,ow b=some i→b<w.heap.size∧∃o,m'.get i=some o∧o.live=true
 os:w.os = Γ.w.os
 tape:w.tape = Γ.w.tape
 output:w.output = Γ.w.output
 size:Γ.w.heap.size≤w.heap.size
 frame:∀b,b < Γ.w.heap.size→Γ.ow b=none→w.heap[b]? = Γ.w.heap[b]?∧ow b=none
 kap:∀i o o',m.get i=some o→m'.get i=some o'→κ i = Γ.κ i
def AC (P:Program) (f:FuncId) (args:List AV) (m:Mem) (res:AV) (m':Mem):Prop :=
 ∀(Γ:Ctx) (vals:List Value),Entry Γ m→ARs Γ.w (Γ.sees Γ.ow) m Γ.κ args vals →
  Calls P f vals.toArray Γ.w fun e w'=>∃v ow κ,e=.returned v∧ExitAt Γ m m' w' res v ow κ
theorem Mem.puts_append (m:Mem):∀(l l':List (Id×AO)),m.puts (l++l')=(m.puts l).puts l':=by
 intro l
 induction l generalizing m with
 |nil=>intro l';rfl
 |cons p l ih=>intro l';exact ih _ l'
theorem Mem.get_puts_nd {m:Mem}:∀{l:List (Id×AO)},(l.map (·.1)).Nodup→∀{p:Id×AO},p∈l→(m.puts l).get p.1=some p.2:=by
 intro l hnd p hp
 obtain⟨o,h1,h2⟩:=Mem.get_puts_in p.1 l m (List.mem_map.2 ⟨p,hp,rfl⟩)
 rw[h1]
 congr 1
 have:∀{l:List (Id×AO)},(l.map (·.1)).Nodup→(p.1,o)∈l→p∈l→o=p.2:=by
  intro l
  induction l with
  |nil=>intro _ h;simp at h
  |cons q l ih =>
   intro hnd h1 h2
   simp only[List.map_cons,List.nodup_cons]at hnd
   rcases List.mem_cons.1 h1 with h1 | h1
   ·rcases List.mem_cons.1 h2 with h2 | h2
    ·rw[←h1]at h2;rw[h2]
    ·exact absurd (List.mem_map.2 ⟨p,h2,by rw[←h1]⟩) hnd.1
   ·rcases List.mem_cons.1 h2 with h2 | h2
    ·exact absurd (List.mem_map.2 ⟨(p.1,o),h1,by rw[←h2]⟩) hnd.1
    ·exact ih hnd.2 h1 h2
 exact this hnd h2 hp
structure Fits (σ:ASt) (ρ:Id→Option Id) (bw:List Id) (fz:List (Id×AO)) (cl:Bool) (ρ':Id→Id) (m:Mem) (res:AV) (m':Mem):Prop where
 mem:MatM ρ bw m σ.mem
 live:∀p,p∈m→p.2.live=true
 nd:(m'.map fun p=>ρ' p.1).Nodup
 nd':(m'.map (·.1)).Nodup
 live':∀p,p∈m'→p.2.live=true
 new:∀p,p∈m'→(∃o,m.get p.1=some o∧ρ p.1=some (ρ' p.1))∨(m.get p.1=none∧σ.mem.get (ρ' p.1)=none)
 frz:∀p,p∈fz→p.1∈bw∧∃rows,p.2=.frz rows∧Gu σ.mem bw (.own p.1)=some rows
 frz':cl=false→∀j,j∈bw→j∈fz.map (·.1)
 frzNd:(fz.map (·.1)).Nodup
 cl:cl=true→res.closed=true∧∀p,p∈m'→p.2.closed=true
def FD (ρ:Id→Option Id) (m:Mem):List (Id×AO):=m.filterMap fun p=>(ρ p.1).map fun j=>(j,.dead)
def Bl (ρ:Id→Option Id) (bw:List Id) (fz:List (Id×AO)) (ρ':Id→Id) (m:Mem) (res:AV) (m':Mem):AEff :=
 ⟨bw,FD ρ m++fz++m'.map (fun p=>(ρ' p.1,p.2.ren ρ')),res.ren ρ'⟩
def A7 (P:Program) (f:FuncId):Bool :=
 match P.funcs[f]? with
 | some fn => !(fn.name == "runtime.NumGoroutine") && fn.body.isSome
 |none=>false
theorem RN {P:Program}{f:FuncId}(h:A7 P f=true) (args:Array Value) (w:World):(callFunc f args).run P w=.ok (.enter f args) w:=by
 unfold A7 at h
 cases hf:P.funcs[f]? with
 |none=>rw[hf]at h;cases h
 |some fn =>
  rw[hf]at h
  simp only[Bool.and_eq_true,Bool.not_eq_true',Option.isSome_iff_exists]at h
  obtain⟨h1,c,h2⟩:=h
  have h3 : ¬ fn.name = "runtime.NumGoroutine" := by simpa using h1
  simp[callFunc,hf,h3,h2]
theorem E6 {ρ:Id→Option Id}{m:Mem}{j:Id}:j∈(FD ρ m).map (·.1)↔∃p,p∈m∧ρ p.1=some j:=by
 unfold FD
 simp only[List.map_filterMap,List.mem_filterMap,Option.map_map,Option.map_eq_some_iff]
 constructor
 ·rintro⟨p,hp,k,hk,h⟩
  simp at h
  subst h
  exact⟨p,hp,hk⟩
 ·rintro⟨p,hp,hk⟩
  exact⟨p,hp,j,hk,rfl⟩
theorem V6 {ρ:Id→Option Id}{m:Mem}{p:Id×AO}(h:p∈FD ρ m):p.2=.dead:=by
 unfold FD at h
 simp only[List.mem_filterMap,Option.map_eq_some_iff]at h
 obtain⟨q,_,j,_,rfl⟩:=h
 rfl
section
variable {P:Program} {o:Oper} {σ:ASt} {ρ:Id→Option Id} {bw:List Id} {fz:List (Id×AO)} {cl:Bool} {ρ':Id→Id} {m:Mem} {res:AV} {m':Mem}
theorem GC {n:Mem}(hf:Fits σ ρ bw fz cl ρ' m res m') {p:Id×AO}(hp:p∈m'):(n.puts (Bl ρ bw fz ρ' m res m').wr).get (ρ' p.1)=some (p.2.ren ρ'):=by
 unfold Bl
 rw[Mem.puts_append]
 have hnd:((m'.map fun p=>(ρ' p.1,p.2.ren ρ')).map (·.1)).Nodup:=by rw[List.map_map];exact hf.nd
 exact Mem.get_puts_nd hnd (p:=(ρ' p.1,p.2.ren ρ')) (List.mem_map.2 ⟨p,hp,rfl⟩)
theorem Ml {n:Mem}(hf:Fits σ ρ bw fz cl ρ' m res m') {p:Id×AO}(hp:p∈fz) (hn:∀q,q∈m'→ρ' q.1≠p.1):(n.puts (Bl ρ bw fz ρ' m res m').wr).get p.1=some p.2:=by
 unfold Bl
 rw[Mem.puts_append,Mem.get_puts_out _ _ _ (by simp only[List.map_map,List.mem_map,not_exists,not_and];exact fun q hq=>hn q hq),Mem.puts_append]
 exact Mem.get_puts_nd hf.frzNd hp
theorem JJ {n:Mem}{j:Id}(hj:j∈(FD ρ m).map (·.1)) (hn:∀q,q∈m'→ρ' q.1≠j) (hz:j ∉ fz.map (·.1)):(n.puts (Bl ρ bw fz ρ' m res m').wr).get j=some .dead:=by
 unfold Bl
 rw[Mem.puts_append,Mem.get_puts_out _ _ _ (by simp only[List.map_map,List.mem_map,not_exists,not_and];exact fun q hq=>hn q hq),Mem.puts_append,Mem.get_puts_out _ _ _ hz]
 obtain⟨o,h1,h2⟩:=Mem.get_puts_in j (FD ρ m) n hj
 rw[h1]
 exact congrArg some (V6 h2)
def FB (ow ow':Nat→Option Id) (ρ':Id→Id) (ids:List Id) (b:Nat):Option Id :=
 match ow' b with
 |some i=>some (ρ' i)
 |none=>match ow b with
  |some j=>if j∈ids then none else some j
  |none=>none
def NP (κ κ':Id→Value) (ρ':Id→Id) (m':Mem) (j:Id):Value :=
 match m'.find? fun p=>ρ' p.1==j with
 |some p=>κ' p.1
 |none=>κ j
theorem SZ {κ κ':Id→Value}(hf:Fits σ ρ bw fz cl ρ' m res m') {p:Id×AO}(hp:p∈m'):NP κ κ' ρ' m' (ρ' p.1)=κ' p.1:=by
 unfold NP
 cases hq:m'.find? fun q=>ρ' q.1==ρ' p.1 with
 |none =>
  have:=List.find?_eq_none.1 hq p hp
  simp at this
 |some q =>
  have h1:=List.mem_of_find?_eq_some hq
  have h2:=List.find?_some hq
  simp only[beq_iff_eq]at h2
  have:∀{l:Mem},(l.map fun p=>ρ' p.1).Nodup→q∈l→p∈l→q=p:=by
   intro l
   induction l with
   |nil=>intro _ h;simp at h
   |cons r l ih =>
    intro hnd g1 g2
    simp only[List.map_cons,List.nodup_cons]at hnd
    rcases List.mem_cons.1 g1 with e1 | g1
    ·rcases List.mem_cons.1 g2 with e2 | g2
     ·rw[e1,e2]
     ·exact absurd (List.mem_map.2 ⟨p,g2,by rw[←e1,h2]⟩) hnd.1
    ·rcases List.mem_cons.1 g2 with e2 | g2
     ·exact absurd (List.mem_map.2 ⟨q,g1,by rw[←e2,h2]⟩) hnd.1
     ·exact ih hnd.2 g1 g2
  rw[this hf.nd h1 hp]
theorem Y5 {κ κ':Id→Value}{j:Id}(h:∀p,p∈m'→ρ' p.1≠j):NP κ κ' ρ' m' j=κ j:=by
 unfold NP
 cases hq:m'.find? fun q=>ρ' q.1==j with
 |none=>rfl
 |some q =>
  have h1:=List.mem_of_find?_eq_some hq
  have h2:=List.find?_some hq
  simp only[beq_iff_eq]at h2
  exact absurd h2 (h q h1)
end
end
section
open Go.RowKit
section
variable {P:Program} {o:Oper} {σ:ASt} {ρ:Id→Option Id} {bw:List Id} {fz:List (Id×AO)} {cl:Bool} {ρ':Id→Id} {m:Mem} {res:AV} {m':Mem}
theorem MF {n n':Mem}{y:AV}(h:∀j,j∈bw→n'.get j=n.get j):Gu n' bw y=Gu n bw y:=by
 unfold Gu
 split
 ·rfl
 ·rename_i j
  by_cases hj:j∈bw
  ·simp only[hj,if_true,h j hj]
  ·simp[hj]
 ·rfl
mutual
theorem Mat.agree {n n':Mem}(h:∀j,j∈bw→n'.get j=n.get j):∀{x y:AV},Mat ρ n bw x y→Mat ρ n' bw x y
 | .undef,_,hm=>hm
 | .skip,_,hm=>hm
 | .c x,y,hm=>by
  simp only[Mat]at hm ⊢
  rcases hm with hm | ⟨rows,h1,h2⟩
  ·exact .inl hm
  ·exact .inr ⟨rows,h1,by rw[MF h];exact h2⟩
 | .agg xs,y,hm=>by
  simp only[Mat]at hm ⊢
  obtain⟨ys,h1,h2⟩:=hm
  exact⟨ys,h1,BL.agree h h2⟩
 | .tup xs,y,hm=>by
  simp only[Mat]at hm ⊢
  obtain⟨ys,h1,h2⟩:=hm
  exact⟨ys,h1,BL.agree h h2⟩
 | .ptr _ _,_,hm=>hm
 | .own i,y,hm=>by simp only[Mat]at hm ⊢;exact hm
 | .rptr ..,_,hm=>hm
 | .part ..,_,hm=>hm
 | .bsl ..,_,hm=>hm
 | .elem ..,_,hm=>hm
 | .nils,_,hm=>hm
 | .clo f xs,y,hm=>by
  simp only[Mat]at hm ⊢
  obtain⟨ys,h1,h2⟩:=hm
  exact⟨ys,h1,BL.agree h h2⟩
theorem BL.agree {n n':Mem}(h:∀j,j∈bw→n'.get j=n.get j):∀{x y:List AV},BL ρ n bw x y→BL ρ n' bw x y
 | [],_,hm=>hm
 |x::xs,y,hm=>by
  simp only[BL]at hm ⊢
  obtain⟨u,us,h1,h2,h3⟩:=hm
  exact⟨u,us,h1,Mat.agree h h2,BL.agree h h3⟩
end
theorem MatM.agree {n n':Mem}(h:∀j,j∈bw→n'.get j=n.get j) (h':∀j,j∈(FD ρ m).map (·.1)→n'.get j=n.get j) (hm:MatM ρ bw m n):MatM ρ bw m n':=by
 refine⟨fun p hp=>?_,hm.refs,hm.inj,hm.bw,hm.nd⟩
 have hmo:=hm.objs p hp
 obtain⟨i,o⟩:=p
 cases o with
 |box cells =>
  obtain⟨j,cells',g1,g2,g3⟩:=hmo
  exact⟨j,cells',g1,by rw[h' j (E6.2 ⟨_,hp,g1⟩)];exact g2,BL.agree h g3⟩
 |row ex es e rows =>
  simp only[En]at hmo ⊢
  cases hj:ρ i with
  |none=>rw[hj]at hmo;exact hmo
  |some j =>
   rw[hj]at hmo
   simp only at hmo ⊢
   rw[h' j (E6.2 ⟨_,hp,hj⟩)]
   exact hmo
 |frz _=>exact hmo
 |rown _=>exact hmo
 |lent _ _ _ _ _ _=>exact hmo
 |blk R rows =>
  obtain⟨j,g1,g2⟩:=hmo
  exact⟨j,g1,by rw[h' j (E6.2 ⟨_,hp,g1⟩)];exact g2⟩
 |gen R =>
  obtain⟨j,g1,g2⟩:=hmo
  exact⟨j,g1,by rw[h' j (E6.2 ⟨_,hp,g1⟩)];exact g2⟩
 |dead=>exact hmo
theorem Fits.agree {σ':ASt}(hf:Fits σ ρ bw fz cl ρ' m res m') (h:∀j,j∈bw→σ'.mem.get j=σ.mem.get j) (h':∀j,j∈(Bl ρ bw fz ρ' m res m').wr.map (·.1)→σ'.mem.get j=σ.mem.get j):Fits σ' ρ bw fz cl ρ' m res m':=by
 refine⟨hf.mem.agree h fun j hj=>h' j (by unfold Bl;simp only[List.map_append,List.mem_append];exact .inl (.inl hj)),hf.live,hf.nd,hf.nd',hf.live',fun p hp=>?_,fun p hp=>?_,hf.frz',hf.frzNd,hf.cl⟩
 ·rcases hf.new p hp with g | ⟨g1,g2⟩
  ·exact .inl g
  ·refine .inr ⟨g1,?_⟩
   rw[h' (ρ' p.1) (by unfold Bl;simp only[List.map_append,List.mem_append,List.map_map];exact .inr (List.mem_map.2 ⟨p,hp,rfl⟩))]
   exact g2
 ·obtain⟨g1,rows,g2,g3⟩:=hf.frz p hp
  exact⟨g1,rows,g2,by rw[MF h];exact g3⟩
theorem Qj {n:Mem}{j:Id}{rows:List (List C)}(h:Gu n bw (.own j)=some rows):(∃ex es e rs,n.get j=some (.row ex es e rs)∧rows=AT rs)∨n.get j=some (.frz rows):=by
 simp only[Gu]at h
 by_cases hj:j∈bw
 ·rw[if_pos hj]at h
  cases hg:n.get j with
  |none=>rw[hg]at h;cases h
  |some o =>
   rw[hg]at h
   cases o with
   |box _=>cases h
   |row ex es e rs=>cases h;exact .inl ⟨ex,es,e,rs,rfl,rfl⟩
   |frz rs=>cases h;exact .inr rfl
   |rown _=>cases h
   |lent _ _ _ _ _ _=>cases h
   |blk _ _=>cases h
   |gen _=>cases h
   |dead=>cases h
 ·rw[if_neg hj]at h
  cases h
theorem Ks {n:Mem}{j:Id}{rows:List (List C)}(h:Gu n bw (.own j)=some rows):∃o,n.get j=some o∧o≠.dead:=by
 rcases Qj h with⟨ex,es,e,rs,g,_⟩ | g
 ·exact⟨_,g,by simp⟩
 ·exact⟨_,g,by simp⟩
theorem Ur {Γ:Ctx}{a:Act}{w:World}{ow:Nat→Option Id}{κ:Id→Value}(hr:RelAt Γ σ a w ow κ) (hf:Fits σ ρ bw fz cl ρ' m res m') {S0:Nat→Prop}(hS0:∀b,S0 b↔(Γ.sees ow b∨∃j,j∈bw∧ow b=some j))
  {w':World} {v:Value} {ow':Nat→Option Id} {κ':Id→Value} (hx:ExitAt ⟨w,S0,CA ρ m ow,Dp ρ κ,m.map (·.1)⟩ m m' w' res v ow' κ') (dst:Option Tmp) :
  ∃ow'' κ'',RelAt Γ (σ.upd dst (Bl ρ bw fz ρ' m res m')) (a.put dst v) w' ow'' κ'':=by
 -- which names are bound
 have hin:∀j,j∈(Bl ρ bw fz ρ' m res m').wr.map (·.1)↔(j∈(FD ρ m).map (·.1)∨j∈fz.map (·.1))∨∃p,p∈m'∧ρ' p.1=j:=by
  intro j
  unfold Bl
  simp only[List.map_append,List.mem_append,List.map_map]
  constructor
  ·rintro (h | h)
   ·exact .inl h
   ·obtain⟨p,hp,he⟩:=List.mem_map.1 h
    exact .inr ⟨p,hp,he⟩
  ·rintro (h | ⟨p,hp,he⟩)
   ·exact .inl h
   ·exact .inr (List.mem_map.2 ⟨p,hp,he⟩)
 have hpass:∀p,p∈m'→∀o,σ.mem.get (ρ' p.1)=some o→ρ' p.1∈(FD ρ m).map (·.1):=by
  intro p hp o ho
  rcases hf.new p hp with⟨o',g1,g2⟩ | ⟨_,g2⟩
  ·exact E6.2 ⟨(p.1,o'),Mem.mem_of_get g1,g2⟩
  ·rw[g2]at ho;cases ho
 -- a block that the caller owns, and that was not handed over, no one has touched
 have hfree:∀b,b<w.heap.size→(∀j,ow b=some j→j ∉ (FD ρ m).map (·.1))→w'.heap[b]? = w.heap[b]?∧ow' b=none:=by
  intro b hb h
  refine hx.frame b hb ?_
  show CA ρ m ow b=none
  cases hc:CA ρ m ow b with
  |none=>rfl
  |some i =>
   obtain⟨⟨o,h1,_⟩,j,h2,h3⟩:=EB hf.mem.nd hc
   exact absurd (E6.2 ⟨(i,o),Mem.mem_of_get h1,h2⟩) (h j h3)
 have hlt:∀b j,ow b=some j→b<w.heap.size:=fun b j h=>(hr.own b j h).1
 -- a block that is some object's behind the call
 have hown':∀b i,ow' b=some i→∃o,(i,o)∈m'∧o.live=true∧b<w'.heap.size:=by
  intro b i h
  obtain⟨g1,o,g2,g3⟩:=hx.own b i h
  exact⟨o,Mem.mem_of_get g2,g3,g1⟩
 -- frozen ones are handed over to no one
 have hfzk:∀j,j∈fz.map (·.1)→j ∉ (FD ρ m).map (·.1):=by
  intro j hj hk
  obtain⟨q,hq,he⟩:=List.mem_map.1 hj
  subst he
  obtain⟨p,hp,hpe⟩:=E6.1 hk
  exact hf.mem.bw p hp (hf.live p hp) _ hpe (hf.frz q hq).1
 have hfzn:∀j,j∈fz.map (·.1)→∀p,p∈m'→ρ' p.1≠j:=by
  intro j hj p hp e
  obtain⟨q,hq,he⟩:=List.mem_map.1 hj
  subst he
  have hsh:=(hf.frz q hq).2
  obtain⟨rows,_,hsh⟩:=hsh
  obtain⟨o,ho,_⟩:=Ks hsh
  rw[←e]at ho
  have:=hpass p hp o ho
  rw[e]at this
  exact hfzk _ (List.mem_map.2 ⟨q,hq,rfl⟩) this
 have hids:∀j,j∈(Bl ρ bw fz ρ' m res m').wr.map (·.1)→(∃o,σ.mem.get j=some o)→j∈(FD ρ m).map (·.1)∨j∈fz.map (·.1):=by
  intro j hj ho
  rcases (hin j).1 hj with h | ⟨p,hp,he⟩
  ·exact h
  ·obtain⟨o,ho⟩:=ho
   subst he
   exact .inl (hpass p hp o ho)
 have hkold:∀j o,σ.mem.get j=some o→NP κ κ' ρ' m' j=κ j:=by
  intro j o ho
  by_cases h:∃p,p∈m'∧ρ' p.1=j
  ·obtain⟨p,hp,he⟩:=h
   subst he
   rw[SZ hf hp]
   rcases hf.new p hp with⟨o',g1,g2⟩ | ⟨_,g2⟩
   ·have:=hx.kap p.1 o' p.2 g1 (Mem.get_of_mem_nd hf.nd' hp)
    rw[this]
    show Dp ρ κ p.1=_
    simp[Dp,g2]
   ·rw[g2]at ho;cases ho
  ·exact Y5 fun p hp he=>h ⟨p,hp,he⟩
 have st:Step σ.mem (Bl ρ bw fz ρ' m res m').wr w ow κ w' (FB ow ow' ρ' ((Bl ρ bw fz ρ' m res m').wr.map (·.1))) (NP κ κ' ρ' m'):=by
  refine⟨hx.os,hx.tape,hx.output,hx.size,fun b hb h=>?_,fun b i hb=>?_,hkold,fun j hj o o' g1 g2=>?_⟩
  ·have:=hfree b hb fun j hj hk=>h j hj ((hin j).2 (.inl (.inl hk)))
   refine⟨this.1,?_⟩
   unfold FB
   rw[this.2]
   cases ho:ow b with
   |none=>rfl
   |some j=>simp only;rw[if_neg (h j ho)]
  ·unfold FB at hb
   cases ho:ow' b with
   |some i' =>
    rw[ho]at hb
    simp only[Option.some.injEq]at hb
    subst hb
    obtain⟨o,g1,g2,g3⟩:=hown' b i' ho
    exact .inr ⟨g3,_,GC hf g1,by rw[AO.ren_live];exact g2,(hin _).2 (.inr ⟨_,g1,rfl⟩)⟩
   |none =>
    rw[ho]at hb
    simp only at hb
    have hb2:∃j,ow b=some j∧(if j∈(Bl ρ bw fz ρ' m res m').wr.map (·.1) then none else some j)=some i:=by
     cases hc:ow b with
     |none=>rw[hc]at hb;cases hb
     |some j=>rw[hc]at hb;exact⟨j,rfl,hb⟩
    obtain⟨j,h1,h2⟩:=hb2
    split at h2
    ·cases h2
    ·rename_i hn
     injection h2 with h2
     subst h2
     exact .inl ⟨hn,h1⟩
  ·by_cases hm':∃p,p∈m'∧ρ' p.1=j
   ·obtain⟨p,hp,he⟩:=hm'
    subst he
    rw[GC hf hp]at g2
    injection g2 with g2
    subst g2
    right
    have hk:=hpass p hp o g1
    obtain⟨q,hq,hqe⟩:=E6.1 hk
    have hmo:=hf.mem.objs q hq
    have hql:=hf.live q hq
    obtain⟨qi,qo⟩:=q
    cases qo with
    |box cells =>
     obtain⟨j',c',r1,r2,_⟩:=hmo
     rw[hqe]at r1
     cases r1
     rw[r2]at g1
     cases g1
     exact⟨by simp,fun _=>rfl⟩
    |row ex es e rows =>
     simp only[En,hqe]at hmo
     rcases hmo with r | ⟨_,r⟩<;>(rw[r]at g1;cases g1;exact⟨by simp,fun _=>rfl⟩)
    |frz _=>simp[AO.live]at hql
    |rown _=>exact hmo.elim
    |lent _ _ _ _ _ _=>exact hmo.elim
    |blk R rows =>
     obtain⟨j',r1,r2⟩:=hmo
     rw[hqe]at r1
     cases r1
     rw[r2]at g1
     cases g1
     exact⟨by simp,fun _=>rfl⟩
    |gen R =>
     obtain⟨j',r1,r2⟩:=hmo
     rw[hqe]at r1
     cases r1
     rw[r2]at g1
     cases g1
     exact⟨by simp,fun _=>rfl⟩
    |dead=>simp[AO.live]at hql
   ·have hn:∀q,q∈m'→ρ' q.1≠j:=fun q hq he=>hm' ⟨q,hq,he⟩
    by_cases hz:j∈fz.map (·.1)
    ·obtain⟨q,hq,he⟩:=List.mem_map.1 hz
     subst he
     rw[Ml hf hq hn]at g2
     injection g2 with g2
     obtain⟨g3,rows,g4,g5⟩:=hf.frz q hq
     rw[g4]at g2
     subst g2
     right
     refine⟨fun e=>?_,fun h=>by simp[AO.live]at h⟩
     subst e
     obtain⟨o,ho,hne⟩:=Ks g5
     rw[g1]at ho
     injection ho with ho
     exact hne ho.symm
    ·rcases hids j hj ⟨o,g1⟩ with hk | hk
     ·rw[JJ hk hn hz]at g2
      injection g2 with g2
      exact .inl g2.symm
     ·exact absurd hk hz
 have hsee:∀b,ow b=none→Γ.sees ow b→Γ.sees (FB ow ow' ρ' ((Bl ρ bw fz ρ' m res m').wr.map (·.1))) b∨∃i,ow' b=some i:=by
  intro b h1 h2
  cases ho:ow' b with
  |some i=>exact .inr ⟨i,rfl⟩
  |none =>
   refine .inl ⟨?_,h2.2⟩
   unfold FB
   rw[ho,h1]
 have hmine:∀b j,ow b=some j→Γ.w.heap.size≤b∨Γ.ow b≠none:=by
  intro b j h
  by_cases h1:Γ.w.heap.size≤b
  ·exact .inl h1
  ·by_cases h2:Γ.ow b=none
   ·have:=(hr.frame b (by omega) h2).2
    rw[h]at this
    cases this
   ·exact .inr h2
 have hfzids:∀j,j∈fz.map (·.1)→j∈(Bl ρ bw fz ρ' m res m').wr.map (·.1):=fun j hj=>(hin j).2 (.inl (.inr hj))
 -- what the callee saw, the caller sees, unless it was lent and is not frozen
 have hS:cl=false→∀b,(⟨w,S0,CA ρ m ow,Dp ρ κ,m.map (·.1)⟩:Ctx).sees ow' b→Γ.sees (FB ow ow' ρ' ((Bl ρ bw fz ρ' m res m').wr.map (·.1))) b:=by
  intro hcl b ⟨h1,h2⟩
  have key:∀j,ow b=some j→j∈(Bl ρ bw fz ρ' m res m').wr.map (·.1)→Γ.sees (FB ow ow' ρ' ((Bl ρ bw fz ρ' m res m').wr.map (·.1))) b:=by
   intro j hj hi
   refine⟨?_,.inr (hmine b j hj)⟩
   unfold FB
   rw[h1,hj]
   simp only
   rw[if_pos hi]
  rcases h2 with h2 | h2 | h2
  ·rcases (hS0 b).1 h2 with h3 | ⟨j,hj,h3⟩
   ·refine⟨?_,h3.2⟩
    unfold FB
    rw[h1,h3.1]
   ·exact key j h3 (hfzids j (hf.frz' hcl j hj))
  ·have h2':w.heap.size≤b:=h2
   refine⟨?_,.inr (.inl (Nat.le_trans hr.size h2'))⟩
   unfold FB
   rw[h1]
   cases hc:ow b with
   |none=>rfl
   |some j=>have:=hlt b j hc;omega
  ·have h2':CA ρ m ow b≠none:=h2
   cases hc:CA ρ m ow b with
   |none=>exact absurd hc h2'
   |some i =>
    obtain⟨⟨o,g1,_⟩,j,g2,g3⟩:=EB hf.mem.nd hc
    exact key j g3 ((hin j).2 (.inl (.inl (E6.2 ⟨(i,o),Mem.mem_of_get g1,g2⟩))))
 have hup:∀i o,m'.get i=some o→(σ.mem.puts (Bl ρ bw fz ρ' m res m').wr).get (ρ' i)=some (o.ren ρ')∧NP κ κ' ρ' m' (ρ' i)=κ' i:=by
  intro i o ho
  have:=Mem.mem_of_get ho
  exact⟨GC hf this,SZ hf this⟩
 refine⟨_,_,hr.step (E:=Bl ρ bw fz ρ' m res m') st (AR.up (cl:=cl) hS hup (fun h=>(hf.cl h).1) hx.res) (fun j hj o' ho'=>?_) dst⟩
 by_cases hm':∃p,p∈m'∧ρ' p.1=j
 ·obtain⟨p,hp,he⟩:=hm'
  subst he
  rw[GC hf hp]at ho'
  injection ho' with ho'
  subst ho'
  have hg:=Mem.get_of_mem_nd hf.nd' hp
  refine OR.up (cl:=cl) hS hup hg (fun b hb=>?_) (fun h=>(hf.cl h).2 p hp) (hx.objs _ _ hg)
  unfold FB
  rw[hb]
 ·have hn:∀q,q∈m'→ρ' q.1≠j:=fun q hq he=>hm' ⟨q,hq,he⟩
  by_cases hz:j∈fz.map (·.1)
  ·obtain⟨q,hq,he⟩:=List.mem_map.1 hz
   subst he
   rw[Ml hf hq hn]at ho'
   injection ho' with ho'
   obtain⟨g3,rows,g4,g5⟩:=hf.frz q hq
   rw[g4]at ho'
   subst ho'
   obtain⟨o,ho,_⟩:=Ks g5
   have hko:=hkold _ o ho
   simp only[OR]
   rw[hko]
   -- at w: what was shown; then nothing of it has turned
   have hsh:CR w (fun b=>Γ.sees ow b∨∃j,j∈fz.map (·.1)∧ow b=some j) (.sl rows) (κ q.1) []:=by
    rcases Qj g5 with⟨ex,es,e,rs,hget,rfl⟩ | hget
    ·obtain⟨vrows,bs,h1,h2,h3,h4,h5,h6⟩:=hr.objs _ _ hget
     have:CR w (Γ.sees ow) (.osl rs) (κ q.1) ((κ q.1).ownBlock.toList++bs):=⟨es,vrows,bs,e,h1,h3,h4,rfl⟩
     exact CR.forget (fun b hb=>.inl hb) (fun b hb=>.inr ⟨q.1,List.mem_map.2 ⟨q,hq,rfl⟩,h6 b hb⟩) this
    ·exact CR.keep (Nat.le_refl _) (fun b hb _=>⟨rfl,.inl hb⟩) (by simp) (hr.objs _ _ hget)
   refine CR.keep hx.size (fun b hb hl=>?_) (by simp) hsh
   rcases hb with hb | ⟨j,hj,hb⟩
   ·have:=st.blk b hl (by intro i hi;rw[hb.1]at hi;cases hi)
    exact⟨this.1,this.2.trans hb.1,hb.2⟩
   ·have hfr:=hfree b hl fun i hi=>by rw[hb]at hi;injection hi with hi;subst hi;exact hfzk j hj
    refine⟨hfr.1,?_,.inr (hmine b j hb)⟩
    unfold FB
    rw[hfr.2,hb]
    simp only
    rw[if_pos (hfzids j hj)]
  ·have hk:j∈(FD ρ m).map (·.1):=by
    rcases (hin j).1 hj with (h | h) | ⟨p,hp,he⟩
    ·exact h
    ·exact absurd h hz
    ·exact absurd he (hn p hp)
   rw[JJ hk hn hz]at ho'
   injection ho' with ho'
   subst ho'
   trivial
theorem N8 {fv:Operand}{args:Array Operand}{tys:Array TypeId}(ho:o.op=.call ⟨.value fv,args,tys⟩) {f:FuncId}{caps:List AV}(hv:σ.ev fv=.clo f caps) (hc:A7 P f=true) {cargs:List AV}(hac:AC P f cargs m res m')
  (hm:BL ρ σ.mem bw cargs (args.toList.map σ.ev++caps)) (hrefs:D3 m cargs=true) (hf:Fits σ ρ bw fz cl ρ' m res m'):FG P o σ (Bl ρ bw fz ρ' m res m'):=by
 intro Γ σ' a w hag ⟨ow,κ,hr⟩ K Q hK
 have hf':=hf.agree hag.2.1 hag.2.2
 have hm':BL ρ σ'.mem bw cargs (args.toList.map σ.ev++caps):=hm.agree hag.2.1
 obtain⟨vs,v1,v2⟩:=hag.ev hr (by rw[ho];simp[Op.operands,Call.operands]) hv
 have hargs:ARs w (Γ.sees ow) σ'.mem κ (args.toList.map σ.ev++caps) (args.toList.map a.eval++vs) :=
  (ARs.map_ev hr _ fun x hx=>hag.1 x (by rw[ho];simp[Op.operands,Call.operands];exact .inr (by simpa using hx))).append v2
 let S0:Nat→Prop:=fun b=>Γ.sees ow b∨∃j,j∈bw∧ow b=some j
 have hS:∀b,Γ.sees ow b→(⟨w,S0,CA ρ m ow,Dp ρ κ,m.map (·.1)⟩:Ctx).sees (CA ρ m ow) b:=fun b hb=>⟨Dt hb.1,.inl (.inl hb)⟩
 have hT:∀b j,j∈bw→ow b=some j→(⟨w,S0,CA ρ m ow,Dp ρ κ,m.map (·.1)⟩:Ctx).sees (CA ρ m ow) b:=fun b j hj hb=>⟨IY hf'.mem hj hb,.inl (.inr ⟨j,hj,hb⟩)⟩
 have hent:Entry ⟨w,S0,CA ρ m ow,Dp ρ κ,m.map (·.1)⟩ m:=by
  refine⟨fun i o hi=>En.rep hf'.mem hS hT hr.objs hi,fun b i hb=>?_,rfl⟩
  obtain⟨⟨o,h1,h2⟩,j,_,h3⟩:=EB hf'.mem.nd hb
  exact⟨(hr.own b j h3).1,o,h1,h2⟩
 have hcall:=hac ⟨w,S0,CA ρ m ow,Dp ρ κ,m.map (·.1)⟩ (args.toList.map a.eval++vs) hent (BL.rep hf'.mem hS hT hr.objs hm' hrefs hargs)
 unfold Oper.wp
 have hrun:(execOp a.eval o).run P w=.ok (.enter f (args.toList.map a.eval++vs).toArray) w:=by
  unfold execOp
  rw[ho]
  simp only[resolve,v1,Deferred.ofValue,Sem.run_bind,Sem.run_pure,Result.andThen_ok,invoke]
  rw[RN hc]
  congr 2
  apply Array.ext'
  simp
 rw[hrun,Oper.upon_enter]
 refine hcall.mono ?_
 rintro e w' ⟨v,ow',κ',rfl,hx⟩
 obtain⟨ow'',κ'',hr''⟩:=Ur hr hf' (fun b=>Iff.rfl) hx o.dst
 exact hK _ _ ⟨ow'',κ'',hr''⟩
end
end
section
open Go.RowKit
def CJ (ops:Array Oper) (σ:ASt) (o:Oper):Option Bool :=
 match o.guard with
 |none=>some true
 |some (j,want)=>match (ops[j]?).bind (·.dst) with
  |some t=>match σ.slot t with
   | .c (.bool b)=>some (b==want)
   | .skip=>some false
   |_=>none
  |none=>none
def JR:AEff:=⟨[],[],.skip⟩
def Im (P:Program) (ops:Array Oper):List Oper→List AEff→ASt→Prop
 | [],[],_=>True
 |o::r,E::es,σ=>(∃g,CJ ops σ o=some g∧(g=true→FG P o σ E)∧(g=false→E=JR))∧Im P ops r es (σ.upd o.dst E)
 |_,_,_=>False
def GU:List Oper→List AEff→ASt→ASt
 |o::r,E::es,σ=>GU r es (σ.upd o.dst E)
 |_,_,σ=>σ
section
variable {P:Program} {ops:Array Oper} {Γ:Ctx} {σ σ':ASt} {a:Act} {w:World} {ow:Nat→Option Id} {κ:Id→Value}
theorem Mk (h:RelAt Γ σ a w ow κ) {o:Oper}{g:Bool}(hg:CJ ops σ o=some g):Region.wanted o (yielded ops a.tmps)=g:=by
 unfold CJ at hg
 unfold Region.wanted
 cases hgd:o.guard with
 |none=>rw[hgd]at hg;simpa using hg
 |some p =>
  obtain⟨j,want⟩:=p
  rw[hgd]at hg
  simp only at hg ⊢
  cases hd:(ops[j]?).bind (·.dst) with
  |none=>rw[hd]at hg;cases hg
  |some t =>
   rw[hd]at hg
   simp only at hg
   have hs:=h.slots t
   have hget:∀v:Value,a.tmps.getD t undef=v→v≠undef→a.tmps[t]? = some v:=by
    intro v h1 h2
    rw[Array.getD_eq_getD_getElem?]at h1
    cases hq:a.tmps[t]? with
    |none=>rw[hq]at h1;exact absurd h1.symm h2
    |some u=>rw[hq]at h1;simp at h1;rw[h1]
   unfold yielded
   rw[hd]
   split at hg
   ·rename_i b hb
    rw[hb]at hs
    have hv:a.tmps.getD t undef=.bool b:=hs.1
    have:=hget _ hv (by simp[undef])
    simp only[Option.bind_some,this]
    simp only[Option.some.injEq]at hg
    subst hg
    cases b<;>cases want<;>rfl
   ·rename_i hb
    rw[hb]at hs
    have hv:a.tmps.getD t undef=undef:=hs
    simp only[Option.some.injEq]at hg
    subst hg
    rw[Array.getD_eq_getD_getElem?]at hv
    cases hq:a.tmps[t]? with
    |none=>simp[hq]
    |some u =>
     rw[hq]at hv
     simp only[Option.getD_some]at hv
     subst hv
     simp[hq,undef]
   ·cases hg
theorem Rel.skip (h:Rel Γ σ a w) (dst:Option Tmp):Rel Γ (σ.upd dst JR) (a.put dst undef) w:=by
 obtain⟨ow,κ,h⟩:=h
 exact⟨ow,κ,h.pure (x:=.skip) rfl dst⟩
theorem Gy.refl (σ:ASt) (o:Oper) (E:AEff):Gy σ σ o E:=⟨fun _ _=>rfl,fun _ _=>rfl,fun _ _=>rfl⟩
theorem Il {Q:Exit→Act→World→Prop}:∀(l:List Oper) (es:List AEff) (σ:ASt) (a:Act) (w:World),Im P ops l es σ→Rel Γ σ a w→(∀a' w',Rel Γ (GU l es σ) a' w'→Q .normal a' w')→wpList P ops Q l a w
 | [],[],_,a,w,_,h,hQ=>hQ a w h
 | [],_::_,_,_,_,h,_,_=>h.elim
 |_::_,[],_,_,_,h,_,_=>h.elim
 |o::r,E::es,σ,a,w,⟨⟨g,h1,h2,h3⟩,hc⟩,h,hQ=>by
  have hw:=Mk (ops:=ops) (o:=o) h.choose_spec.choose_spec h1
  unfold wpList
  cases g with
  |true =>
   rw[if_pos hw]
   exact .inl (h2 rfl Γ σ a w (Gy.refl _ _ _) h _ _ fun a' w' h'=>Il r es _ a' w' hc h' hQ)
  |false =>
   rw[if_neg (by rw[hw];simp)]
   have:=h3 rfl
   subst this
   exact Il r es _ _ w hc (h.skip o.dst) hQ
structure Eqv (σ σ':ASt):Prop where
 slots:σ.slots=σ'.slots
 mem:∀i,σ.mem.get i=σ'.mem.get i
theorem Eqv.refl (σ:ASt):Eqv σ σ:=⟨rfl,fun _=>rfl⟩
theorem Eqv.symm (h:Eqv σ σ'):Eqv σ' σ:=⟨h.slots.symm,fun i=>(h.mem i).symm⟩
theorem Eqv.trans {σ'':ASt}(h:Eqv σ σ') (h':Eqv σ' σ''):Eqv σ σ'':=⟨h.slots.trans h'.slots,fun i=>(h.mem i).trans (h'.mem i)⟩
theorem DT {j:Id}:∀(l:List (Id×AO)) (m m':Mem),(m.get j=m'.get j∨j∈l.map (·.1))→(m.puts l).get j=(m'.puts l).get j
 | [],m,m',h=>by
  rcases h with h | h
  ·exact h
  ·simp at h
 |p::l,m,m',h=>by
  refine DT l _ _ ?_
  rw[Mem.get_put,Mem.get_put]
  by_cases hj:j=p.1
  ·exact .inl (by simp[hj])
  ·rw[if_neg hj,if_neg hj]
   rcases h with h | h
   ·exact .inl h
   ·simp only[List.map_cons,List.mem_cons]at h
    rcases h with h | h
    ·exact absurd h hj
    ·exact .inr h
theorem Eqv.upd (h:Eqv σ σ') (dst:Option Tmp) (E:AEff):Eqv (σ.upd dst E) (σ'.upd dst E) :=
 ⟨by cases dst<;>simp[ASt.upd,h.slots],fun i=>DT _ _ _ (.inl (h.mem i))⟩
theorem Rel.eqv (h:Rel Γ σ a w) (he:Eqv σ σ'):Rel Γ σ' a w:=by
 obtain⟨ow,κ,h⟩:=h
 have hs:∀b,Γ.sees ow b→b<w.heap.size→w.heap[b]? = w.heap[b]?∧Γ.sees ow b:=fun b hb _=>⟨rfl,hb⟩
 have hm:∀i o,σ.mem.get i=some o→∃o',σ'.mem.get i=some o'∧(o'=.dead∨(κ i=κ i∧o≠.dead∧(o'.live=true→o.live=true))):=fun i o hi=>⟨o,(he.mem i).symm.trans hi,by
  by_cases hd:o=.dead
  ·exact .inl hd
  ·exact .inr ⟨rfl,hd,id⟩⟩
 have hsl:∀t,σ'.slot t=σ.slot t:=fun t=>by unfold ASt.slot;rw[he.slots]
 exact⟨ow,κ,by rw[h.len,he.slots],h.defers,fun t=>by rw[hsl];exact AR.keep (Nat.le_refl _) hs hm (h.slots t),fun i o hi=>OR.keep (Nat.le_refl _) hs hm rfl (fun b hb _=>⟨rfl,hb⟩) (fun b hb=>(h.own b i hb).1) (h.objs i o ((he.mem i).trans hi)),
  fun b i hb=>by obtain⟨g1,o,g2,g3⟩:=h.own b i hb;exact⟨g1,o,(he.mem i).symm.trans g2,g3⟩,h.os,h.tape,h.output,h.size,h.frame,fun i hi=>by obtain⟨g1,o,g2⟩:=h.kap i hi;exact⟨g1,o,(he.mem i).symm.trans g2⟩⟩
def Um (ops:Array Oper) (x y:Oper×AEff):Bool :=
 x.1.apart ops y.1&&(x.2.wr.map (·.1)).all (fun i=>!(y.2.rd.contains i)&&!((y.2.wr.map (·.1)).contains i))&&(y.2.wr.map (·.1)).all (fun i=>!(x.2.rd.contains i))
structure Apart (ops:Array Oper) (x y:Oper×AEff):Prop where
 dst:∀d,x.1.dst=some d→y.1.dst≠some d
 xl:∀d,x.1.dst=some d→d ∉ y.1.looksAt ops
 yl:∀d,y.1.dst=some d→d ∉ x.1.looksAt ops
 xr:∀i,i∈x.2.wr.map (·.1)→i ∉ y.2.rd
 xw:∀i,i∈x.2.wr.map (·.1)→i ∉ y.2.wr.map (·.1)
 yr:∀i,i∈y.2.wr.map (·.1)→i ∉ x.2.rd
theorem M5 {x y:Oper×AEff}(h:Um ops x y=true):Apart ops x y:=by
 simp only[Um,Bool.and_eq_true]at h
 obtain⟨⟨h1,h2⟩,h3⟩:=h
 obtain⟨g1,g2,g3⟩:=Oper.apart_spec h1
 refine⟨g2,g1,g3,fun i hi hc=>?_,fun i hi hc=>?_,fun i hi hc=>?_⟩
 ·have:=List.all_eq_true.1 h2 i hi
  simp[hc]at this
 ·have:=List.all_eq_true.1 h2 i hi
  simp only[Bool.and_eq_true,Bool.not_eq_true',List.contains_eq_mem,decide_eq_false_iff_not]at this
  exact this.2 hc
 ·have:=List.all_eq_true.1 h3 i hi
  simp[hc]at this
theorem Apart.symm {x y:Oper×AEff}(h:Apart ops x y):Apart ops y x :=
 ⟨fun d hd hd'=>h.dst d hd' hd,h.yl,h.xl,h.yr,fun i hi hc=>h.xw i hc hi,h.xr⟩
theorem Apart.comm {x y:Oper×AEff}(h:Apart ops x y) (σ:ASt):Eqv ((σ.upd x.1.dst x.2).upd y.1.dst y.2) ((σ.upd y.1.dst y.2).upd x.1.dst x.2):=by
 refine⟨?_,fun i=>?_⟩
 ·simp only[ASt.upd]
  cases hx:x.1.dst with
  |none=>rfl
  |some d =>
   cases hy:y.1.dst with
   |none=>rfl
   |some e =>
    have:d≠e:=fun e'=>h.dst d hx (by rw[hy,e'])
    exact List.set_comm _ _ this
 ·show ((σ.mem.puts x.2.wr).puts y.2.wr).get i=((σ.mem.puts y.2.wr).puts x.2.wr).get i
  by_cases h1:i∈x.2.wr.map (·.1)
  ·rw[Mem.get_puts_out _ _ _ (h.xw i h1)]
   exact DT _ _ _ (.inr h1)
  ·rw[Mem.get_puts_out (σ.mem.puts y.2.wr) i x.2.wr h1]
   exact DT _ _ _ (.inl (Mem.get_puts_out _ _ _ h1))
def upL (L:Nat→Bool):Nat→List (Oper×AEff)→ASt→ASt
 |_,[],σ=>σ
 |k,x::xs,σ=>upL L (k+1) xs (if L k then σ.upd x.1.dst x.2 else σ)
theorem Kx (L:Nat→Bool):∀(xs ys:List (Oper×AEff)) (k:Nat) (σ:ASt),upL L k (xs++ys) σ=upL L (k+xs.length) ys (upL L k xs σ)
 | [],_,_,_=>rfl
 |x::xs,ys,k,σ=>by
  simp only[List.cons_append,upL,List.length_cons]
  rw[Kx L xs ys]
  congr 1
  omega
theorem Qo (L:Nat→Bool):∀(xs:List (Oper×AEff)) (k:Nat) {σ σ':ASt},Eqv σ σ'→Eqv (upL L k xs σ) (upL L k xs σ')
 | [],_,_,_,h=>h
 |x::xs,k,σ,σ',h=>by
  simp only[upL]
  refine Qo L xs _ ?_
  split
  ·exact h.upd _ _
  ·exact h
theorem Uf {L L':Nat→Bool}:∀(xs:List (Oper×AEff)) (k:Nat) (σ:ASt),(∀j,k≤j→L j=L' j)→upL L k xs σ=upL L' k xs σ
 | [],_,_,_=>rfl
 |x::xs,k,σ,h=>by
  simp only[upL,h k (Nat.le_refl _)]
  exact Uf xs _ _ fun j hj=>h j (by omega)
theorem Ue {L:Nat→Bool}{x:Oper×AEff}:∀(xs:List (Oper×AEff)) (k:Nat) (σ:ASt),(∀j y,xs[j]? = some y→L (k+j)=true→Apart ops x y)→Eqv ((upL L k xs σ).upd x.1.dst x.2) (upL L k xs (σ.upd x.1.dst x.2))
 | [],_,σ,_=>Eqv.refl _
 |y::xs,k,σ,h=>by
  simp only[upL]
  have hr:=fun (τ:ASt)=>Ue (L:=L) (x:=x) xs (k+1) τ fun j z hz hl=>h (j+1) z (by simpa using hz) (by rwa [show k+(j+1)=k+1+j by omega])
  refine (hr _).trans (Qo L xs _ ?_)
  split
  ·rename_i hl
   exact ((h 0 y rfl hl).comm σ).symm
  ·exact Eqv.refl _
theorem Ug {L L':Nat→Bool}{t:Nat}:∀(xs:List (Oper×AEff)) (k:Nat) (σ σ':ASt),(∀j y,xs[j]? = some y→L (k+j)≠L' (k+j)→y.1.dst≠some t)→σ.slots.length=σ'.slots.length→σ.slot t=σ'.slot t→(upL L k xs σ).slot t=(upL L' k xs σ').slot t
 | [],_,_,_,_,_,h=>h
 |y::xs,k,σ,σ',h,hl,hs=>by
  simp only[upL]
  have key:∀(τ:ASt),y.1.dst≠some t→(τ.upd y.1.dst y.2).slot t=τ.slot t:=by
   intro τ hne
   cases hd:y.1.dst with
   |none=>rfl
   |some d =>
    show (⟨τ.slots.set d y.2.val,_⟩:ASt).slot t=_
    rw[ASt.slot_set _ τ.mem,if_neg (fun e=>hne (by rw[hd,e.1]))]
  have len:∀(τ:ASt),(τ.upd y.1.dst y.2).slots.length=τ.slots.length:=by
   intro τ
   cases y.1.dst<;>simp[ASt.upd]
  refine Ug xs (k+1) _ _ (fun j z hz hne=>h (j+1) z (by simpa using hz) (by rwa [show k+(j+1)=k+1+j by omega])) ?_ ?_
  ·split<;>split<;>simp[len,hl]
  ·by_cases hk:L k=L' k
   ·rw[←hk]
    split
    ·cases hd:y.1.dst with
     |none=>exact hs
     |some d =>
      show (⟨σ.slots.set d y.2.val,_⟩:ASt).slot t=(⟨σ'.slots.set d y.2.val,_⟩:ASt).slot t
      rw[ASt.slot_set _ σ.mem,ASt.slot_set _ σ'.mem,hl]
      split
      ·rfl
      ·exact hs
    ·exact hs
   ·have hne:=h 0 y rfl hk
    split<;>split<;>simp[key _ hne,hs]
theorem Xc {L L':Nat→Bool}{i:Id}:∀(xs:List (Oper×AEff)) (k:Nat) (σ σ':ASt),(∀j y,xs[j]? = some y→L (k+j)≠L' (k+j)→i ∉ y.2.wr.map (·.1))→σ.mem.get i=σ'.mem.get i→(upL L k xs σ).mem.get i=(upL L' k xs σ').mem.get i
 | [],_,_,_,_,h=>h
 |y::xs,k,σ,σ',h,hs=>by
  simp only[upL]
  refine Xc xs (k+1) _ _ (fun j z hz hne=>h (j+1) z (by simpa using hz) (by rwa [show k+(j+1)=k+1+j by omega])) ?_
  have key:∀(τ:ASt),i ∉ y.2.wr.map (·.1)→(τ.upd y.1.dst y.2).mem.get i=τ.mem.get i:=fun τ hne=>Mem.get_puts_out _ _ _ hne
  by_cases hk:L k=L' k
  ·rw[←hk]
   split
   ·exact DT _ _ _ (.inl hs)
   ·exact hs
  ·have hne:=h 0 y rfl hk
   split<;>split<;>simp[key _ hne,hs]
def cnt (L:Nat→Bool):Nat→Nat
 | 0=>0
 |n+1=>cnt L n+if L n then 1 else 0
theorem ZK (L:Nat→Bool):∀n,cnt L n≤n
 | 0=>Nat.le_refl _
 |n+1=>by have:=ZK L n;simp only[cnt];split<;>omega
theorem Wy {L:Nat→Bool}:∀{n:Nat},cnt L n=n→∀i,i<n→L i=true
 | 0,_,i,h=>by omega
 |n+1,hc,i,h=>by
  have:=ZK L n
  simp only[cnt]at hc
  split at hc
  ·rename_i hl
   by_cases hi:i=n
   ·subst hi;exact hl
   ·exact Wy (n:=n) (by omega) i (by omega)
  ·omega
theorem Wz {L L':Nat→Bool}{i:Nat}(hi:L i=false) (hi':L' i=true) (h:∀j,j≠i→L' j=L j):∀n,i<n→cnt L' n=cnt L n+1
 | 0,hn=>by omega
 |n+1,hn=>by
  have same:∀n,n≤i→cnt L' n=cnt L n:=by
   intro n
   induction n with
   |zero=>intro _;rfl
   |succ n ih=>intro hn;simp only[cnt];rw[ih (by omega),h n (by omega)]
  simp only[cnt]
  by_cases he:n=i
  ·subst he
   rw[same n (Nat.le_refl _),hi,hi']
   simp
  ·rw[Wz hi hi' h n (by omega),h n he]
   omega
def v6 (acc:List Nat) (o:Oper):Nat:=o.after.toList.foldl (fun s e=>if Region.binds .any e then s ||| (2 ^ e.on) ||| acc.getD e.on 0 else s) 0
def WP:List Oper→List Nat→List Nat
 | [],acc=>acc
 |o::r,acc=>WP r (acc++[v6 acc o])
theorem O4 {acc:List Nat}{j:Nat}:∀(l:List Edge) (s:Nat),(l.foldl (fun s e=>if Region.binds .any e then s ||| (2 ^ e.on) ||| acc.getD e.on 0 else s) s).testBit j=true→s.testBit j=true∨∃e,e∈l∧Region.binds .any e=true∧(e.on=j∨(acc.getD e.on 0).testBit j=true)
 | [],s,h=>.inl h
 |e::l,s,h=>by
  simp only[List.foldl_cons]at h
  rcases O4 l _ h with h | ⟨e',h1,h2⟩
  ·split at h
   ·rename_i hb
    simp only[Nat.testBit_or,Bool.or_eq_true,Nat.testBit_two_pow,decide_eq_true_eq]at h
    rcases h with (h | h) | h
    ·exact .inl h
    ·exact .inr ⟨e,by simp,hb,.inl h⟩
    ·exact .inr ⟨e,by simp,hb,.inr h⟩
   ·exact .inl h
  ·exact .inr ⟨e',by simp[h1],h2⟩
theorem Km {L:Nat→Bool}{all:List Oper}(hcl:∀k o,all[k]? = some o→L k=true→∀e,e∈o.after.toList→Region.binds .any e=true→L e.on=true):∀(r:List Oper) (acc:List Nat) (done:List Oper),all=done++r→acc.length=done.length →
  (∀k o,all[k]? = some o→k<acc.length→(∀e,e∈o.after.toList→Region.binds .any e=true→L e.on=true)→∀j,(acc.getD k 0).testBit j=true→L j=true) →
  ∀k o,all[k]? = some o→(∀e,e∈o.after.toList→Region.binds .any e=true→L e.on=true)→∀j,((WP r acc).getD k 0).testBit j=true→L j=true
 | [],acc,done,h1,h2,hinv,k,o,ho,hd,j,hj=>by
  refine hinv k o ho ?_ hd j hj
  have:=(List.getElem?_eq_some_iff.1 ho).1
  rw[h1]at this
  simp at this
  omega
 |p::r,acc,done,h1,h2,hinv,k,o,ho,hd,j,hj=>by
  refine Km hcl r (acc++[v6 acc p]) (done++[p]) (by simp[h1]) (by simp[h2]) ?_ k o ho hd j hj
  intro k' o' ho' hk' hd' j' hj'
  by_cases hlt:k' < acc.length
  ·refine hinv k' o' ho' hlt hd' j' ?_
   rwa [List.getD_eq_getElem?_getD,List.getElem?_append_left hlt,←List.getD_eq_getElem?_getD]at hj'
  ·have hke:k'=acc.length:=by simp at hk';omega
   have hop:o'=p:=by
    rw[hke,h2,h1,List.getElem?_append_right (Nat.le_refl _)]at ho'
    simpa using ho'.symm
   subst hop
   rw[hke,List.getD_eq_getElem?_getD,List.getElem?_append_right (Nat.le_refl _)]at hj'
   simp only[Nat.sub_self,List.getElem?_cons_zero,Option.getD_some]at hj'
   rcases O4 _ _ hj' with h | ⟨e,g1,g2,g3⟩
   ·simp at h
   ·have hle:=hd' e g1 g2
    rcases g3 with g3 | g3
    ·rw[←g3];exact hle
    ·by_cases hlt':e.on<acc.length
     ·have hlen:e.on<all.length:=by rw[h1];simp;omega
      exact hinv e.on _ (List.getElem?_eq_getElem hlen) hlt' (hcl e.on _ (List.getElem?_eq_getElem hlen) hle) j' g3
     ·rw[List.getD_eq_getElem?_getD,List.getElem?_eq_none (by omega)]at g3
      simp at g3
def Iu (ops:Array Oper) (es:List AEff):Bool :=
 let xs:=ops.toList.zip es
 let ms:=WP ops.toList []
 (List.range xs.length).all fun i=>(List.range i).all fun j=>(ms.getD i 0).testBit j||(match xs[j]?,xs[i]? with | some x,some y=>Um ops x y | _,_=>true)
def GG (ops:Array Oper):Bool:=(List.range ops.size).all fun i=>match ops[i]? with | some o=>o.after.toList.all fun e=>!(Region.binds .any e)||decide (e.on<i) | none=>true
theorem Im.length:∀{l:List Oper}{es:List AEff}{σ:ASt},Im P ops l es σ→es.length=l.length
 | [],[],_,_=>rfl
 | [],_::_,_,h=>h.elim
 |_::_,[],_,h=>h.elim
 |o::r,E::es,σ,h=>by simp[Im.length h.2]
theorem Ou {L:Nat→Bool}:∀(l:List Oper) (es:List AEff) (σ:ASt) (k:Nat),es.length=l.length→(∀j,k≤j→j<k+l.length→L j=true)→upL L k (l.zip es) σ=GU l es σ
 | [],[],_,_,_,_=>rfl
 | [],_::_,_,_,h,_=>by simp at h
 |_::_,[],_,_,h,_=>by simp at h
 |o::r,E::es,σ,k,h,hl=>by
  simp only[List.zip_cons_cons,upL,GU]
  rw[hl k (Nat.le_refl _) (by simp),if_pos rfl]
  exact Ou r es _ (k+1) (by simpa using h) fun j h1 h2=>hl j (by omega) (by simp;omega)
theorem Im.at_:∀{l:List Oper}{es:List AEff}{σ:ASt}(k:Nat),Im P ops l es σ→∀i o E,l[i]? = some o→es[i]? = some E→∃g,CJ ops (upL (fun j=>decide (j<k+i)) k (l.zip es) σ) o=some g∧(g=true→FG P o (upL (fun j=>decide (j<k+i)) k (l.zip es) σ) E)∧(g=false→E=JR)
 | [],_,_,_,_,i,o,E,h,_=>by simp at h
 |_::_,[],_,_,h,_,_,_,_,_=>h.elim
 |o::r,E::es,σ,k,h,i,o',E',h1,h2=>by
  cases i with
  |zero =>
   simp only[List.getElem?_cons_zero,Option.some.injEq]at h1 h2
   subst h1
   subst h2
   have:upL (fun j=>decide (j<k+0)) k ((o::r).zip (E::es)) σ=σ:=by
    have none:∀(xs:List (Oper×AEff)) (q:Nat),k≤q→upL (fun j=>decide (j<k+0)) q xs σ=σ:=by
     intro xs
     induction xs with
     |nil=>intro q _;rfl
     |cons x xs ih =>
      intro q hq
      simp only[upL]
      rw[if_neg (by simp;omega)]
      exact ih (q+1) (by omega)
    exact none _ k (Nat.le_refl _)
   rw[this]
   exact h.1
  |succ i =>
   simp only[List.getElem?_cons_succ]at h1 h2
   have:=Im.at_ (k+1) h.2 i o' E' h1 h2
   rw[show k+1+i=k+(i+1) by omega]at this
   simp only[List.zip_cons_cons,upL]
   rw[if_pos (by simp)]
   exact this
theorem a17 {o:Oper}(h:∀t,t∈o.looksAt ops→σ'.slot t=σ.slot t):∀x,x∈o.op.operands→σ'.ev x=σ.ev x:=by
 intro x hx
 cases x with
 |tmp t =>
  refine h t ?_
  unfold Oper.looksAt
  simp only[List.mem_append,List.mem_filterMap]
  exact .inl ⟨.tmp t,by simpa using hx,rfl⟩
 |const v=>rfl
 |global g=>rfl
 |func f=>rfl
theorem XR {o:Oper}(h:∀t,t∈o.looksAt ops→σ'.slot t=σ.slot t):CJ ops σ' o=CJ ops σ o:=by
 unfold CJ
 cases hg:o.guard with
 |none=>rfl
 |some p =>
  obtain⟨j,want⟩:=p
  simp only
  cases hd:(ops[j]?).bind (·.dst) with
  |none=>rfl
  |some t =>
   simp only
   rw[h t (by unfold Oper.looksAt;simp[hg,hd])]
theorem Ui {Q:Exit→Act→World→Prop}{es:List AEff}(hch:Im P ops ops.toList es σ) (hin:Iu ops es=true) (hord:GG ops=true) (hQ:∀a' w',Rel Γ (GU ops.toList es σ) a' w'→Q .normal a' w') :
  ∀(fuel:Nat) (listed:Array Bool) (a:Act) (w:World),listed.size=ops.size→fuel+cnt (fun j=>listed.getD j false) ops.size=ops.size →
  (∀k o,ops.toList[k]? = some o→listed.getD k false=true→∀e,e∈o.after.toList→Region.binds .any e=true→listed.getD e.on false=true) →
  Rel Γ (upL (fun j=>listed.getD j false) 0 (ops.toList.zip es) σ) a w→wpAny P .any ops Q fuel listed a w:=by
 have hlen:=hch.length
 have hzip:∀(i:Nat) (o:Oper),ops.toList[i]? = some o→∃E,es[i]? = some E∧(ops.toList.zip es)[i]? = some (o,E):=by
  intro i o ho
  have hi:=(List.getElem?_eq_some_iff.1 ho).1
  refine⟨es[i]'(by omega),List.getElem?_eq_getElem (by omega),?_⟩
  rw[List.getElem?_zip_eq_some]
  exact⟨ho,List.getElem?_eq_getElem (by omega)⟩
 have allOf:∀(listed:Array Bool),listed.size=ops.size→(∀i,i<ops.size→listed.getD i false=true)→Region.ready .any ops listed=[]:=by
  intro listed hsz h
  rw[List.eq_nil_iff_forall_not_mem]
  intro i hi
  obtain⟨h2,o',ho',_⟩:=mem_ready.1 hi
  have h1:i<ops.size:=(Array.getElem?_eq_some_iff.1 ho').1
  have:=h i h1
  have e:listed.getD i true=listed.getD i false:=by simp[Array.getD,hsz,h1]
  rw[e,this]at h2
  cases h2
 intro fuel
 induction fuel with
 |zero =>
  intro listed a w hsz hf hcl hr
  have hall:=Wy (L:=fun j=>listed.getD j false) (n:=ops.size) (by omega)
  refine⟨allOf listed hsz hall,hQ a w ?_⟩
  rwa [Ou _ _ _ _ hlen (fun j _ hj=>hall j (by simpa using hj))]at hr
 |succ fuel ih =>
  intro listed a w hsz hf hcl hr
  refine⟨fun hnil=>?_,fun i hi=>?_⟩
  ·-- some operation is not listed: the first such one is ready
   exfalso
   have hex:∃i,i<ops.size∧listed.getD i false=false:=by
    by_cases h:∀i,i<ops.size→listed.getD i false=true
    ·exfalso
     have:∀n,n≤ops.size→cnt (fun j=>listed.getD j false) n=n:=by
      intro n
      induction n with
      |zero=>intro _;rfl
      |succ n ihn=>intro hn;simp only[cnt];rw[ihn (by omega)];have:=h n (by omega);simp[this]
     have:=this ops.size (Nat.le_refl _)
     omega
    ·have ⟨i,hi⟩:=Classical.not_forall.1 h
     have ⟨h1,h2⟩:=Classical.not_imp.1 hi
     exact⟨i,h1,by simpa using h2⟩
   have first:∀n i,i≤n→i<ops.size→listed.getD i false=false→False:=by
    intro n
    induction n with
    |zero =>
     intro i h0 h1 h2
     have hi0:i=0:=by omega
     subst hi0
     have:0∈Region.ready .any ops listed:=by
      refine mem_ready.2 ⟨?_,ops[0],Array.getElem?_eq_getElem h1,?_⟩
      ·have e:listed.getD 0 true=listed.getD 0 false:=by simp[Array.getD,hsz,h1]
       rw[e,h2]
      ·intro e he hb
       have:=List.all_eq_true.1 hord 0 (by simpa using h1)
       rw[Array.getElem?_eq_getElem h1]at this
       have:=List.all_eq_true.1 this e (by simpa using he)
       simp[hb]at this
     rw[hnil]at this
     simp at this
    |succ n ihn =>
     intro i h0 h1 h2
     have:i∈Region.ready .any ops listed:=by
      refine mem_ready.2 ⟨?_,ops[i],Array.getElem?_eq_getElem h1,?_⟩
      ·have e:listed.getD i true=listed.getD i false:=by simp[Array.getD,hsz,h1]
       rw[e,h2]
      ·intro e he hb
       have:=List.all_eq_true.1 hord i (by simpa using h1)
       rw[Array.getElem?_eq_getElem h1]at this
       have:=List.all_eq_true.1 this e (by simpa using he)
       simp[hb]at this
       cases hl:listed.getD e.on false with
       |true=>rfl
       |false=>exact (ihn e.on (by omega) (by omega) hl).elim
     rw[hnil]at this
     simp at this
   obtain⟨i,h1,h2⟩:=hex
   exact first i i (Nat.le_refl _) h1 h2
  ·obtain⟨h2,o',ho',h3⟩:=mem_ready.1 hi
   have h1:i<ops.size:=(Array.getElem?_eq_some_iff.1 ho').1
   have hli:listed.getD i false=false:=by
    have e:listed.getD i true=listed.getD i false:=by simp[Array.getD,hsz,h1]
    rw[←e];simpa using h2
   have ho:ops[i]? = some ops[i]:=Array.getElem?_eq_getElem h1
   have hol:ops.toList[i]? = some ops[i]:=by simp
   obtain⟨E,hE,hz⟩:=hzip i _ hol
   obtain⟨g,g1,g2,g3⟩:=Im.at_ 0 hch i _ E hol hE
   simp only[Nat.zero_add]at g1 g2
   have hdeps:∀e,e∈ops[i].after→Region.binds .any e=true→listed.getD e.on false=true:=by
    have e1:ops[i]=o':=by rw[ho]at ho';injection ho'
    rw[e1];exact h3
   -- who else may have been carried out, or not
   have hap:∀j y,(ops.toList.zip es)[j]? = some y→listed.getD j false≠decide (j<i)→Apart ops (ops[i],E) y:=by
    intro j y hy hne
    have hyz:=List.getElem?_zip_eq_some.1 hy
    have hjl:=(List.getElem?_eq_some_iff.1 hy).1
    have hil:=(List.getElem?_eq_some_iff.1 hz).1
    by_cases hji:j<i
    ·have hlj:listed.getD j false=false:=by simpa [hji] using hne
     have:=List.all_eq_true.1 (List.all_eq_true.1 hin i (by simpa using hil)) j (by simpa using hji)
     simp only[Bool.or_eq_true]at this
     rcases this with hb | hb
     ·have:=Km (L:=fun j=>listed.getD j false) (all:=ops.toList) hcl ops.toList [] [] rfl rfl (by simp) i _ hol (fun e he hbd=>hdeps e (by simpa using he) hbd) j hb
      rw[hlj]at this
      cases this
     ·rw[hy,hz]at hb
      exact (M5 hb).symm
    ·have hlj:listed.getD j false=true:=by simpa [hji] using hne
     have hij:i<j:=by
      rcases Nat.lt_or_ge i j with h | h
      ·exact h
      ·have:j=i:=by omega
       rw[this,hli]at hlj
       cases hlj
     have:=List.all_eq_true.1 (List.all_eq_true.1 hin j (by simpa using hjl)) i (by simpa using hij)
     simp only[Bool.or_eq_true]at this
     rcases this with hb | hb
     ·have:=Km (L:=fun j=>listed.getD j false) (all:=ops.toList) hcl ops.toList [] [] rfl rfl (by simp) j _ hyz.1 (hcl j _ hyz.1 hlj) i hb
      rw[hli]at this
      cases this
     ·rw[hy,hz]at hb
      exact M5 hb
   have hslot:∀t,t∈ops[i].looksAt ops→(upL (fun j=>listed.getD j false) 0 (ops.toList.zip es) σ).slot t=(upL (fun j=>decide (j<i)) 0 (ops.toList.zip es) σ).slot t:=by
    intro t ht
    refine Ug _ _ _ _ (fun j y hy hne hd=>?_) rfl rfl
    simp only[Nat.zero_add]at hne
    exact (hap j y hy hne).yl t hd ht
   have hget:∀q,q∈E.rd∨q∈E.wr.map (·.1)→(upL (fun j=>listed.getD j false) 0 (ops.toList.zip es) σ).mem.get q=(upL (fun j=>decide (j<i)) 0 (ops.toList.zip es) σ).mem.get q:=by
    intro q hq
    refine Xc _ _ _ _ (fun j y hy hne hd=>?_) rfl
    simp only[Nat.zero_add]at hne
    rcases hq with hq | hq
    ·exact (hap j y hy hne).yr q hd hq
    ·exact (hap j y hy hne).xw q hq hd
   have hgate:CJ ops (upL (fun j=>listed.getD j false) 0 (ops.toList.zip es) σ) ops[i]=some g:=by rw[XR hslot];exact g1
   have hwant:=Mk (ops:=ops) hr.choose_spec.choose_spec hgate
   -- behind it
   let listed':=listed.setIfInBounds i true
   have hL':∀j,listed'.getD j false=if j=i then true else listed.getD j false:=by
    intro j
    by_cases hj:j=i
    ·subst hj
     simp[listed',Array.getD,hsz,h1]
    ·rw[if_neg hj]
     exact getD_set_ne false (Ne.symm hj)
   have next:∀a' w',Rel Γ ((upL (fun j=>listed.getD j false) 0 (ops.toList.zip es) σ).upd ops[i].dst E) a' w'→wpAny P .any ops Q fuel listed' a' w':=by
    intro a' w' hr'
    refine ih listed' a' w' (by simp[listed',hsz]) ?_ ?_ (hr'.eqv ?_)
    ·have:=Wz (L:=fun j=>listed.getD j false) (L':=fun j=>listed'.getD j false) (i:=i) hli (by show listed'.getD i false=true;rw[hL' i,if_pos rfl]) (fun j hj=>by show listed'.getD j false=listed.getD j false;rw[hL' j,if_neg hj]) ops.size h1
     omega
    ·intro k o hk hlk e he hb
     rw[hL']
     by_cases hei:e.on=i
     ·rw[if_pos hei]
     ·rw[if_neg hei]
      rw[hL']at hlk
      by_cases hki:k=i
      ·subst hki
       rw[hol]at hk
       injection hk with hk
       subst hk
       exact hdeps e (by simpa using he) hb
      ·rw[if_neg hki]at hlk
       exact hcl k o hk hlk e he hb
    ·-- the order of the text, with the i-th one in its place
     have hil:=(List.getElem?_eq_some_iff.1 hz).1
     have hsplit:ops.toList.zip es=(ops.toList.zip es).take i++(ops[i],E)::(ops.toList.zip es).drop (i+1):=by
      have e1:=List.drop_eq_getElem_cons hil
      have e2:(ops.toList.zip es)[i]=(ops[i],E):=by
       have:=List.getElem?_eq_getElem hil
       rw[hz]at this
       exact (Option.some.inj this).symm
      rw[e2]at e1
      rw[←e1,List.take_append_drop]
     have htl:((ops.toList.zip es).take i).length=i:=by rw[List.length_take];omega
     rw[hsplit,Kx,Kx,htl]
     simp only[upL,Nat.zero_add]
     have hl1:listed'.getD i false=true:=(hL' i).trans (if_pos rfl)
     simp only[hli,hl1,if_true,Bool.false_eq_true,if_false]
     have e1:upL (fun j=>listed.getD j false) 0 ((ops.toList.zip es).take i) σ=upL (fun j=>listed'.getD j false) 0 ((ops.toList.zip es).take i) σ:=by
      have pre:∀(xs:List (Oper×AEff)) (k:Nat) (τ:ASt),k+xs.length≤i→upL (fun j=>listed.getD j false) k xs τ=upL (fun j=>listed'.getD j false) k xs τ:=by
       intro xs
       induction xs with
       |nil=>intro k τ _;rfl
       |cons x xs ihx =>
        intro k τ hk
        simp only[upL,List.length_cons]at hk ⊢
        have e:listed'.getD k false=listed.getD k false:=(hL' k).trans (if_neg (by omega))
        simp only[e]
        exact ihx (k+1) _ (by omega)
      exact pre _ 0 σ (by omega)
     rw[←e1]
     have e2:=Uf (L:=fun j=>listed'.getD j false) (L':=fun j=>listed.getD j false) ((ops.toList.zip es).drop (i+1)) (i+1) ((upL (fun j=>listed.getD j false) 0 ((ops.toList.zip es).take i) σ).upd ops[i].dst E) (fun j hj=>by show listed'.getD j false=listed.getD j false;rw[hL' j,if_neg (by omega)])
     rw[e2]
     refine Ue (ops:=ops) (x:=(ops[i],E)) _ _ _ fun j y hy hl=>?_
     rw[List.getElem?_drop]at hy
     exact hap (i+1+j) y hy (by rw[hl];simp;omega)
   show wpOp P ops Q i (wpAny P .any ops Q fuel listed') a w
   unfold wpOp
   rw[ho]
   simp only
   cases g with
   |true =>
    rw[if_pos hwant]
    exact .inl (g2 rfl Γ _ a w ⟨a17 hslot,fun q hq=>hget q (.inl hq),fun q hq=>hget q (.inr hq)⟩ hr _ _ next)
   |false =>
    rw[if_neg (by rw[hwant];simp)]
    have:=g3 rfl
    subst this
    exact next _ _ (hr.skip _)
theorem Sk:∀(n k:Nat),cnt (fun j=>(Array.replicate n false).getD j false) k=0
 |_,0=>rfl
 |n,k+1=>by
  simp only[cnt]
  rw[Sk n k]
  simp[Array.getD]
theorem MS {Q:Exit→Act→World→Prop}{es:List AEff}{id:Nat}(hm:P.follows .mixedOrders=true) (hch:Im P ops ops.toList es σ) (hin:Iu ops es=true) (hord:GG ops=true) (hr:Rel Γ σ a w) (hQ:∀a' w',Rel Γ (GU ops.toList es σ) a' w'→Q .normal a' w') :
  (Code.region id ops true).wp P Q a w:=by
 refine wp_region_any hm (Ui hch hin hord hQ ops.size _ a _ (by simp) (by rw[Sk];rfl) (fun k o _ hl=>by simp[Array.getD]at hl) ?_)
 have h0:∀(xs:List (Oper×AEff)) (k:Nat),upL (fun j=>(Array.replicate ops.size false).getD j false) k xs σ=σ:=by
  intro xs
  induction xs with
  |nil=>intro k;rfl
  |cons x xs ih=>intro k;simp only[upL];rw[if_neg (by simp[Array.getD])];exact ih _
 rw[h0]
 obtain⟨ow,κ,h⟩:=hr
 exact⟨ow,κ,h.drawn _⟩
end
end
section
open Go.RowKit
inductive X where
 |normal
 |exit (id:Nat)
 |ret
def I0 (m:Mem) (d:Nat):Nat→Nat→Nat
 | 0,k=>k
 |n+1,k=>match m.get (d,k) with
  |none=>k
  |some _=>I0 m d n (k+1)
def ASt.fresh (σ:ASt) (o:Oper):Id:=(o.dst.getD 0,I0 σ.mem (o.dst.getD 0) 40 0)
def a3l (P:Program) (o:Oper) (σ:ASt) (K:AEff→Prop):Prop:=∃E,FG P o σ E∧K E
def Ay (P:Program) (ops:Array Oper):List Oper→ASt→List AEff→(ASt→List AEff→Prop)→Prop
 | [],σ,fs,K=>K σ fs
 |o::r,σ,fs,K=>match CJ ops σ o with
  |none=>False
  |some g=>(g=true→a3l P o σ fun E=>Ay P ops r (σ.upd o.dst E) (fs++[E]) K)∧(g=false→Ay P ops r (σ.upd o.dst JR) (fs++[JR]) K)
def G3 (P:Program) (o:Oper) (σ:ASt) (K:ASt→Prop):Prop :=
 ∀(Γ:Ctx) (a:Act) (w:World),Rel Γ σ a w→∀(KK:Act→World→Prop) (QQ:Exit→Act→World→Prop),(∀a' w' τ,Rel Γ τ a' w'→K τ→KK a' w')→Oper.wp P o a w KK QQ
def EZ (P:Program):List Oper→ASt→(ASt→Prop)→Prop
 | [],σ,K=>K σ
 |o::r,σ,K=>o.guard=none∧G3 P o σ fun τ=>EZ P r τ K
def Aj (x:List Id) (τ σ:ASt):Prop:=∃ρ bw,Le ρ bw τ σ∧∀i,i∈x→ρ i=some i∧(τ.mem.get i).isSome=true
def a5o (body:(X→ASt→Prop)→ASt→Prop) (x:List Id) (Q:X→ASt→Prop) (σ:ASt):Prop :=
 ∃I:Nat→ASt→Prop,(∃n τ,I n τ∧Aj x τ σ)∧∀n τ,I n τ→body (fun e τ'=>match e with
  | .normal=>∃k τ'',k<n∧I k τ''∧Aj x τ'' τ'
  |e=>Q e τ') τ
def awp (P:Program) (x:List Id):Code→(X→ASt→Prop)→ASt→Prop
 | .skip,Q,σ=>Q .normal σ
 | .label _,Q,σ=>Q .normal σ
 | .region _ ops d,Q,σ=>(Ay P ops ops.toList σ [] fun τ es=>(d=true→Iu ops es=true∧GG ops=true)∧Q .normal τ)∨(d=false∧EZ P ops.toList σ fun τ=>Q .normal τ)
 | .seq a b,Q,σ=>awp P x a (fun e τ=>match e with
  | .normal=>awp P x b Q τ
  |e=>Q e τ) σ
 | .cond c a b,Q,σ=>match σ.ev c with
  | .c (.bool t)=>(t=true→awp P x a Q σ)∧(t=false→awp P x b Q σ)
  |_=>False
 | .block id c,Q,σ=>awp P x c (fun e τ=>match e with
  | .exit i=>if i=id then Q .normal τ else Q (.exit i) τ
  |e=>Q e τ) σ
 | .loop c,Q,σ=>a5o (awp P x c) x Q σ
 | .exit id,Q,σ=>Q (.exit id) σ
 | .ret,Q,σ=>Q .ret σ
 | .scope c,Q,σ=>awp P x c Q σ
 |_,_,_=>False
section
variable {P:Program} {ops:Array Oper} {Γ:Ctx} {σ:ASt} {a:Act} {w:World}
theorem Sc {o:Oper}{K:AEff→Prop}(h:a3l P o σ K):∃E,FG P o σ E∧K E:=by
 exact h
theorem HF:∀(l:List Oper) (σ:ASt) (fs:List AEff) (K:ASt→List AEff→Prop),Ay P ops l σ fs K→∃es,Im P ops l es σ∧K (GU l es σ) (fs++es)
 | [],σ,fs,K,h=>⟨[],trivial,by simpa [GU,Ay] using h⟩
 |o::r,σ,fs,K,h=>by
  simp only[Ay]at h
  cases hg:CJ ops σ o with
  |none=>rw[hg]at h;exact h.elim
  |some g =>
   rw[hg]at h
   cases g with
   |true =>
    obtain⟨E,h1,h2⟩:=Sc (h.1 rfl)
    obtain⟨es,h3,h4⟩:=HF r _ _ _ h2
    exact⟨E::es,⟨⟨true,hg,fun _=>h1,fun e=>by cases e⟩,h3⟩,by simpa [GU] using h4⟩
   |false =>
    obtain⟨es,h3,h4⟩:=HF r _ _ _ (h.2 rfl)
    exact⟨JR::es,⟨⟨false,hg,fun e=>(by cases e),fun _=>rfl⟩,h3⟩,by simpa [GU] using h4⟩
theorem Uj {K:ASt→Prop}{Q:Exit→Act→World→Prop}:∀(l:List Oper) (σ:ASt) (a:Act) (w:World),EZ P l σ K→Rel Γ σ a w→(∀a' w' τ,Rel Γ τ a' w'→K τ→Q .normal a' w')→wpList P ops Q l a w
 | [],σ,a,w,hK,h,hQ=>hQ a w σ h hK
 |o::r,σ,a,w,⟨hg,ho⟩,h,hQ=>by
  have hw:Region.wanted o (yielded ops a.tmps)=true:=by simp[Region.wanted,hg]
  unfold wpList
  rw[if_pos hw]
  exact .inl (ho Γ a w h _ _ fun a' w' τ h' hK=>Uj r τ a' w' hK h' hQ)
def a5v (Γ:Ctx) (Q:X→ASt→Prop):Exit→Act→World→Prop
 | .normal,a,w=>∃τ,Rel Γ τ a w∧Q .normal τ
 | .exit id,a,w=>∃τ,Rel Γ τ a w∧Q (.exit id) τ
 | .ret,a,w=>∃τ,Rel Γ τ a w∧Q .ret τ
 |_,_,_=>False
theorem a1r {Q:Exit→Act→World→Prop}{c:Code}(I:Nat→Act→World→Prop) {n:Nat}(h₀:I n a w)
  (round:∀n a w,I n a w→c.wp P (Exit.then (fun a' w'=>∃m,m<n∧I m a' w') Q) a w):(Code.loop c).wp P Q a w:=by
 intro b k cs
 have key:∀n a w,I n a w→∃e a' w',Q e a' w'∧Arrives P (lone (b.at a (.code c::.inLoop c::k)) cs w) b k cs e a' w':=by
  intro n
  induction n using Nat.strongRecOn with
  |_ n ih =>
   intro a w hI
   obtain⟨e,a₁,w₁,hq,harr⟩:=round n a w hI b (.inLoop c::k) cs
   cases e with
   |normal =>
    obtain⟨m,hlt,hI₁⟩:=hq
    obtain⟨e₂,a₂,w₂,hq₂,harr₂⟩:=ih m hlt a₁ w₁ hI₁
    exact⟨e₂,a₂,w₂,hq₂,.of_steps (Steps.trans harr (.one step_inLoop)) harr₂⟩
   |exit id=>exact⟨_,a₁,w₁,hq,.pass (x:=.inLoop c) rfl (fun _ _=>.inl (by simp)) harr⟩
   |goto l=>exact⟨_,a₁,w₁,hq,.pass (x:=.inLoop c) rfl (fun _ _=>.inl (by simp)) harr⟩
   |ret=>exact⟨_,a₁,w₁,hq,.pass (x:=.inLoop c) rfl (fun _ _=>.inl (by simp)) harr⟩
   |panic ch=>exact⟨_,a₁,w₁,hq,.pass (x:=.inLoop c) rfl (fun _ _=>.inl (by simp)) harr⟩
   |outgrown=>exact⟨_,a₁,w₁,hq,.pass (x:=.inLoop c) rfl (fun _ _=>.inl (by simp)) harr⟩
 obtain⟨e,a',w',hq,harr⟩:=key n a w h₀
 exact⟨e,a',w',hq,.of_steps (.one step_loop) harr⟩
theorem Rel.says (h:Rel Γ σ a w) {τ:ASt}(hs:Aj Γ.ext τ σ):Rel Γ τ a w:=by
 obtain⟨ρ,bw,h1,h2⟩:=hs
 exact h.le h1 h2
theorem E1 (hm:P.follows .mixedOrders=true):∀(c:Code) (Q:X→ASt→Prop) (σ:ASt) (a:Act) (w:World),awp P Γ.ext c Q σ→Rel Γ σ a w→c.wp P (a5v Γ Q) a w
 | .skip,Q,σ,a,w,h,hr=>wp_skip ⟨σ,hr,h⟩
 | .label _,Q,σ,a,w,h,hr=>wp_label ⟨σ,hr,h⟩
 | .region id ops d,Q,σ,a,w,h,hr=>by
  rcases h with h | ⟨rfl,h⟩
  case inr=>exact wp_region_list (Uj _ _ _ _ h hr fun a' w' τ h' hK=>⟨τ,h',hK⟩)
  obtain⟨es,h1,h2,h3⟩:=HF _ _ _ _ h
  cases d with
  |true =>
   obtain⟨h4,h5⟩:=h2 rfl
   exact MS hm h1 (by simpa using h4) h5 hr fun a' w' h'=>⟨_,h',h3⟩
  |false=>exact wp_region_list (Il _ _ _ _ _ h1 hr fun a' w' h'=>⟨_,h',h3⟩)
 | .seq x y,Q,σ,a,w,h,hr=>by
  refine wp_seq (wp_mono (E1 hm x _ σ a w h hr) ?_)
  intro e a' w' hq
  cases e with
  |normal=>obtain⟨τ,h1,h2⟩:=hq;exact E1 hm y _ τ _ _ h2 h1
  |exit id=>exact hq
  |ret=>exact hq
  |goto l=>exact hq.elim
  |panic ch=>exact hq.elim
  |outgrown=>exact hq.elim
 | .cond c x y,Q,σ,a,w,h,hr=>by
  simp only[awp]at h
  split at h
  ·rename_i t ht
   obtain⟨ow,κ,hr'⟩:=hr
   have:=hr'.ev c
   rw[ht]at this
   refine wp_cond this.bool ?_
   cases t with
   |true=>exact E1 hm x _ σ a w (h.1 rfl) ⟨ow,κ,hr'⟩
   |false=>exact E1 hm y _ σ a w (h.2 rfl) ⟨ow,κ,hr'⟩
  ·exact h.elim
 | .block id c,Q,σ,a,w,h,hr=>by
  refine wp_block (wp_mono (E1 hm c _ σ a w h hr) ?_)
  intro e a' w' hq
  cases e with
  |normal=>exact hq
  |exit i =>
   obtain⟨τ,h1,h2⟩:=hq
   simp only at h2
   simp only[Exit.inBlock]
   split
   ·rename_i he;rw[if_pos he]at h2;exact⟨τ,h1,h2⟩
   ·rename_i he;rw[if_neg he]at h2;exact⟨τ,h1,h2⟩
  |ret=>exact hq
  |goto l=>exact hq.elim
  |panic ch=>exact hq.elim
  |outgrown=>exact hq.elim
 | .loop c,Q,σ,a,w,h,hr=>by
  obtain⟨I,⟨n,τ,h1,h2⟩,h3⟩:=h
  refine a1r (fun n a w=>∃τ,I n τ∧Rel Γ τ a w) (n:=n) ⟨τ,h1,hr.says h2⟩ ?_
  rintro n a w ⟨τ,hI,hr⟩
  refine wp_mono (E1 hm c _ τ a w (h3 n τ hI) hr) ?_
  intro e a' w' hq
  cases e with
  |normal =>
   obtain⟨τ',g1,k,τ'',g2,g3,g4⟩:=hq
   exact⟨k,g2,τ'',g3,g1.says g4⟩
  |exit id=>exact hq
  |ret=>exact hq
  |goto l=>exact hq.elim
  |panic ch=>exact hq.elim
  |outgrown=>exact hq.elim
 | .exit id,Q,σ,a,w,h,hr=>wp_exit ⟨σ,hr,h⟩
 | .ret,Q,σ,a,w,h,hr=>wp_ret ⟨σ,hr,h⟩
 | .scope c,Q,σ,a,w,h,hr=>by
  refine wp_scope_straight (wp_mono (E1 hm c _ σ a w h hr) ?_)
  intro e a' w' hq
  cases e with
  |goto l=>exact hq.elim
  |_=>exact hq
 | .goto _,_,_,_,_,h,_=>h.elim
 | .refuse _,_,_,_,_,h,_=>h.elim
 | .rangeFunc ..,_,_,_,_,h,_=>h.elim
def RK (P:Program) (σ:ASt):ResultVar→Option AV
 | .tmp t=>some (σ.slot t)
 | .cell t ty=>(EN P σ.mem.get ty (σ.slot t)).map (·.val)
def YS (P:Program) (σ:ASt):List ResultVar→Option (List AV)
 | []=>some []
 |r::rs=>match RK P σ r,YS P σ rs with
  |some x,some xs=>some (x::xs)
  |_,_=>none
def Qd (P:Program) (σ:ASt) (l:List ResultVar):Option AV :=
 match YS P σ l with
 |some [x]=>some x
 |some xs=>some (.tup xs)
 |none=>none
def Fe (P:Program) (fn:Func) (m:Mem) (res:AV) (m':Mem) (σ:ASt):Prop :=
 ∃r,Qd P σ fn.results.toList=some r∧∃ρ bw,Mat ρ σ.mem bw res r∧res.refs m'=true∧MatM ρ bw m' σ.mem∧∀p,p∈m→(m'.get p.1).isSome=true→ρ p.1=some p.1
def Om (tmps:Array Value):ResultVar→Sem Value
 | .tmp t=>pure (tmps.getD t undef)
 | .cell x t=>do loadVar t (←asAddr (tmps.getD x undef))
theorem VX (fn:Func) (tmps:Array Value):results fn tmps=(do
  let vs ←fn.results.mapM (Om tmps)
  pure (if h:vs.size=1 then vs[0] else .tuple vs)):=by
 unfold results
 have key:∀f g:ResultVar→Sem Value,(∀x,f x=g x)→(do
   let vs ←fn.results.mapM f
   pure (if h:vs.size=1 then vs[0] else .tuple vs))=(do
   let vs ←fn.results.mapM g
   pure (if h:vs.size=1 then vs[0] else .tuple vs):Sem Value):=by
  intro f g h
  rw[funext h]
 apply key
 intro x
 cases x<;>rfl
theorem Ol {ow:Nat→Option Id}{κ:Id→Value}(h:RelAt Γ σ a w ow κ):∀(l:List ResultVar) {xs:List AV},YS P σ l=some xs→∃vs,(l.mapM (Om a.tmps)).run P w=.ok vs w∧ARs w (Γ.sees ow) σ.mem κ xs vs
 | [],xs,hx=>by
  simp only[YS,Option.some.injEq]at hx
  subst hx
  exact⟨[],by simp,rfl⟩
 |r::rs,xs,hx=>by
  simp only[YS]at hx
  split at hx
  case h_2=>cases hx
  rename_i y ys h1 h2
  cases hx
  obtain⟨vs,g1,g2⟩:=Ol h rs h2
  cases r with
  |tmp t =>
   simp only[RK,Option.some.injEq]at h1
   subst h1
   exact⟨a.tmps.getD t undef::vs,by simp only[List.mapM_cons,Om,Sem.run_bind,Sem.run_pure,Result.andThen_ok,g1],⟨_,_,rfl,h.slots t,g2⟩⟩
  |cell x t =>
   simp only[RK,Option.map_eq_some_iff]at h1
   obtain⟨E,h1,rfl⟩:=h1
   obtain⟨_,ad,u,k1,k2,k3⟩:=PW h (h.slots x) h1 (fun _ _=>rfl)
   exact⟨u::vs,by simp only[List.mapM_cons,Om,Sem.run_bind,k1,asAddr,Sem.run_pure,Result.andThen_ok,k2,g1],⟨_,_,rfl,k3,g2⟩⟩
theorem Qe {ow:Nat→Option Id}{κ:Id→Value}(h:RelAt Γ σ a w ow κ) {fn:Func}{r:AV}(hx:Qd P σ fn.results.toList=some r):∃v,(results fn a.tmps).run P w=.ok v w∧AR w (Γ.sees ow) σ.mem κ r v:=by
 unfold Qd at hx
 have run:∀{vs:List Value},(fn.results.toList.mapM (Om a.tmps)).run P w=.ok vs w→(results fn a.tmps).run P w=.ok (if h:vs.toArray.size=1 then vs.toArray[0] else .tuple vs.toArray) w:=by
  intro vs hv
  rw[VX,Array.mapM_eq_mapM_toList]
  simp only[Sem.run_bind,Sem.run_map,hv,Result.andThen_ok,Sem.run_pure]
 split at hx
 ·rename_i x hl
  cases hx
  obtain⟨vs,g1,g2⟩:=Ol h _ hl
  obtain⟨u,us,rfl,g3,g4⟩:=g2
  simp only[ARs]at g4
  subst g4
  exact⟨u,by rw[run g1];simp,g3⟩
 ·rename_i xs hne hl
  cases hx
  obtain⟨vs,g1,g2⟩:=Ol h _ hl
  refine⟨.tuple vs.toArray,?_,vs,rfl,g2⟩
  rw[run g1,dif_neg]
  intro h1
  have h2:=g2.length
  simp only[List.size_toArray]at h1
  have h3:xs.length=1:=by omega
  obtain⟨x,rfl⟩:=List.length_eq_one_iff.1 h3
  exact hne x rfl
 ·cases hx
theorem RL {ow:Nat→Option Id}{κ:Id→Value}(h:RelAt Γ σ a w ow κ) {fn:Func}{m:Mem}(hΓ:Γ.ext=m.map (·.1)) {res:AV}{m':Mem}(hR:Fe P fn m res m' σ):∃v,(results fn a.tmps).run P w=.ok v w∧∃ow' κ',ExitAt Γ m m' w res v ow' κ':=by
 obtain⟨r,h1,ρ,bw,h2,h3,h4,h5⟩:=hR
 obtain⟨v,g1,g2⟩:=Qe h h1
 have hS:∀b,Γ.sees ow b→Γ.sees (CA ρ m' ow) b:=fun b hb=>⟨Dt hb.1,hb.2⟩
 have hT:∀b j,j∈bw→ow b=some j→Γ.sees (CA ρ m' ow) b:=fun b j hj hb=>⟨IY h4 hj hb,by
  by_cases h1:Γ.w.heap.size≤b
  ·exact .inr (.inl h1)
  ·by_cases h2:Γ.ow b=none
   ·have:=(h.frame b (by omega) h2).2
    rw[this]at hb
    cases hb
   ·exact .inr (.inr h2)⟩
 refine⟨v,g1,CA ρ m' ow,Dp ρ κ,Mat.rep h4 hS hT h.objs h2 h3 g2,fun i o hi=>En.rep h4 hS hT h.objs hi,fun b i hb=>?_,h.os,h.tape,h.output,h.size,fun b hb h0=>?_,fun i o o' hi hi'=>?_⟩
 ·obtain⟨⟨o,h1,h2⟩,j,_,h3⟩:=EB h4.nd hb
  exact⟨(h.own b j h3).1,o,h1,h2⟩
 ·obtain⟨h1,h2⟩:=h.frame b hb h0
  exact⟨h1,Dt h2⟩
 ·have:=h5 (i,o) (Mem.mem_of_get hi) (by simp[hi'])
  simp only at this
  simp only[Dp,this]
  exact (h.kap i (by rw[hΓ];exact List.mem_map.2 ⟨(i,o),Mem.mem_of_get hi,rfl⟩)).1
theorem ARs.getD {S:Nat→Prop}{m:Mem}{κ:Id→Value}:∀{xs:List AV}{vs:List Value},ARs w S m κ xs vs→∀t,AR w S m κ (xs.getD t .undef) (vs.getD t undef)
 | [],vs,h,t=>by simp[AR]
 |x::xs,vs,h,t=>by
  obtain⟨v,vs',rfl,h1,h2⟩:=h
  cases t with
  |zero=>exact h1
  |succ t=>simpa using ARs.getD h2 t
theorem AC.intro {f:FuncId}{fn:Func}{c:Code}{args:List AV}{m:Mem}{res:AV}{m':Mem}(hm:P.follows .mixedOrders=true) (hf:P.funcs[f]? = some fn) (hb:fn.body=some c)
  (h:awp P (m.map (·.1)) c (fun e σ=>match e with
   | .exit _=>False
   |_=>Fe P fn m res m' σ) ⟨args++List.replicate (fn.ntmps-args.length) .undef,m⟩):AC P f args m res m':=by
 intro Γ vals hent hargs
 refine calls_of_wp hf hb ?_
 have hl:=hargs.length
 have hr:Rel Γ ⟨args++List.replicate (fn.ntmps-args.length) .undef,m⟩ { tmps:=vals.toArray++Array.replicate (fn.ntmps-vals.toArray.size) undef,defers:=[] } Γ.w:=by
  refine⟨Γ.ow,Γ.κ,by simp[hl],rfl,fun t=>?_,hent.objs,hent.own,rfl,rfl,rfl,Nat.le_refl _,fun b _ h0=>⟨rfl,h0⟩,fun i hi=>⟨rfl,?_⟩⟩
  ·have:=ARs.getD hargs t
   by_cases ht:t<args.length
   ·have e1:(⟨args++List.replicate (fn.ntmps-args.length) .undef,m⟩:ASt).slot t=args.getD t .undef:=by
     simp only[ASt.slot,List.getD,List.getElem?_append_left ht]
    have e2:(vals.toArray++Array.replicate (fn.ntmps-vals.toArray.size) undef).getD t undef=vals.getD t undef:=by
     rw[Array.getD_eq_getD_getElem?,Array.getElem?_append_left (by simp;omega)]
     simp[List.getD]
    show AR _ _ _ _ (ASt.slot _ t) (Array.getD _ t undef)
    rw[e1,e2]
    exact this
   ·have e1:(⟨args++List.replicate (fn.ntmps-args.length) .undef,m⟩:ASt).slot t=.undef:=by
     simp only[ASt.slot,List.getD,List.getElem?_append_right (Nat.le_of_not_lt ht),List.getElem?_replicate]
     split<;>rfl
    show AR _ _ _ _ (ASt.slot _ t) (Array.getD _ t undef)
    rw[e1]
    trivial
  ·rw[hent.ext]at hi
   obtain⟨p,hp,rfl⟩:=List.mem_map.1 hi
   exact Mem.get_of_mem hp
 rw[←hent.ext]at h
 refine wp_mono (E1 hm c _ _ _ _ h hr) ?_
 intro e a' w' hq
 have fin:∀τ,Rel Γ τ a' w'→Fe P fn m res m' τ→a'.defers=[]∧∃v,(results fn a'.tmps).run P w'=.ok v w'∧∃v',∃ow κ,Ending.returned v=.returned v'∧ExitAt Γ m m' w' res v' ow κ:=by
  rintro τ ⟨ow,κ,hr'⟩ hR
  obtain⟨v,g1,ow',κ',g2⟩:=RL hr' hent.ext hR
  exact⟨hr'.defers,v,g1,v,ow',κ',rfl,g2⟩
 cases e with
 |normal=>obtain⟨τ,h1,h2⟩:=hq;exact fin τ h1 h2
 |ret=>obtain⟨τ,h1,h2⟩:=hq;exact fin τ h1 h2
 |exit id=>obtain⟨τ,h1,h2⟩:=hq;exact h2
 |goto l=>exact hq.elim
 |panic ch=>exact hq.elim
 |outgrown=>exact hq.elim
end
end
end Go.Proofs.YtcejfdfmgmcinaaGreat
