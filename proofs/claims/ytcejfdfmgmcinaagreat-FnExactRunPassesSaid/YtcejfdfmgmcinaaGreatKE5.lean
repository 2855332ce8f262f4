/- Texts of this proof: E20 E21 E22 E23 E24 E25 E26. -/
import Derived.Test.YtcejfdfmgmcinaaGreatKE4
import Derived.Laws.CopyRow
set_option linter.all false
namespace Go.Proofs.YtcejfdfmgmcinaaGreat
section
open Go.RowKit
def MN (d:Nat):Option AV→Option Nat
 |none=>some d
 |some (.c (.int _ n))=>if 0≤n then some n.toNat else none
 |_=>none
def Mc (n:Nat) (lo hi:Option AV):Option (Nat×Nat) :=
 match MN 0 lo,MN n hi with
 |some l,some h=>if l≤h∧h≤n then some (l,h) else none
 |_,_=>none
def KV (P:Program) (F:Bool) (get:Id→Option AO) (ty:TypeId) (x:AV) (lo hi:Option AV):Option AEff :=
 match tin P ty with
 |some ⟨.str,_,_,_⟩=>match x with
  | .c (.str s)=>match Mc s.size lo hi with
   |some (l,h)=>some ⟨[],[],.c (.str (s.extract l h))⟩
   |none=>none
  |_=>none
 |some ⟨.sl e,_,_,_⟩=>match tin P e with
  |some ⟨_,size,_,_⟩=>match x with
   | .nils=>match Mc 0 lo hi with
    |some _=>some ⟨[],[],.nils⟩
    |none=>none
   | .c (.sl rows)=>if 0<size∧(rows.all fun r=>r.length==size) then match Mc rows.length lo hi with
     |some (l,h)=>some ⟨[],[],.c (.sl ((rows.take h).drop l))⟩
     |none=>none
    else none
   | .own i=>match get i with
    |some (.row false es _ rows)=>bif F then (if 0<size∧es=size then match Mc rows.length lo hi with
      |some (l,h)=>some ⟨[],[(i,.frz rows)],.c (.sl ((rows.take h).drop l))⟩
      |none=>none
     else none) else none
    |some (.frz rows)=>if 0<size∧(rows.all fun r=>r.length==size) then match Mc rows.length lo hi with
      |some (l,h)=>some ⟨[i],[],.c (.sl ((rows.take h).drop l))⟩
      |none=>none
     else none
    |_=>none
   |_=>none
  |none=>none
 |_=>none
def MU (P:Program) (fr:Id) (ty:TypeId) (x y:AV):Option AEff :=
 match tin P ty,x,y with
 |some ⟨.sl e,_,_,_⟩,.c (.int _ n),.c (.int _ m)=>match tin P e with
  |some ⟨_,size,bytes,some z⟩=>match Lx (some z) with
   |some cells=>match OI (fun _=>none) cells with
    |some (cs,[],[])=>if n=m∧0≤n∧n≤2000000∧0<size∧cs.length=size∧bytes≤200 then some ⟨[],[(fr,.row false size e (List.replicate n.toNat cs))],.own fr⟩ else none
    |_=>none
   |none=>none
  |_=>none
 |_,_,_=>none
def SA (least:Bool) (x y:AV):Option AV :=
 match x,y with
 | .c (.int k a),.c (.int k' b)=>if k=k' then some (.c (.int k (if least then (if b<a then b else a) else (if b>a then b else a)))) else none
 |_,_=>none
def XF (P:Program) (F:Bool) (ev:Operand→AV) (get:Id→Option AO) (fr:Id) (o:Oper):Option AEff :=
 match o.op with
 | .slice ty x lo hi none=>KV P F get ty (ev x) (lo.map ev) (hi.map ev)
 | .makeSlice ty n m=>match get fr with
  |none=>MU P fr ty (ev n) (ev m)
  |_=>none
 | .call c=>match c.callee,c.args.toList with
  | .builtin .min,[x,y]=>(SA true (ev x) (ev y)).map fun v=>⟨[],[],v⟩
  | .builtin .max,[x,y]=>(SA false (ev x) (ev y)).map fun v=>⟨[],[],v⟩
  |_,_=>none
 |_=>none
section
variable {P:Program} {o:Oper} {σ:ASt}
def G4 (w:World) (S:Nat→Prop) (m:Mem) (κ:Id→Value):Option AV→Option Value→Prop
 |none,none=>True
 |some x,some y=>AR w S m κ x y
 |_,_=>False
theorem Sp {d:Nat}{x:Option AV}{n:Nat}(h:MN d x=some n) {w:World}{S:Nat→Prop}{m:Mem}{κ:Id→Value}{y:Option Value}(hy:G4 w S m κ x y) :
  (x=none∧y=none∧n=d)∨∃k,y=some (.int k (n:Int)):=by
 unfold MN at h
 split at h
 ·cases y with
  |none=>exact .inl ⟨rfl,rfl,(Option.some.inj h).symm⟩
  |some y=>exact hy.elim
 ·rename_i k q
  split at h
  case isFalse=>cases h
  rename_i hq
  cases h
  cases y with
  |none=>exact hy.elim
  |some y =>
   have:=AR.int (w:=w) (S:=S) (m:=m) (κ:=κ) hy
   subst this
   exact .inr ⟨k,by rw[Int.toNat_of_nonneg hq]⟩
 ·cases h
theorem H3 {len cap:Nat}{x y:Option AV}{l h:Nat}(hc:Mc len x y=some (l,h)) (hcap:len≤cap) (sl:Bool) {w:World}{S:Nat→Prop}{m:Mem}{κ:Id→Value}{x' y':Option Value}
  (hx:G4 w S m κ x x') (hy:G4 w S m κ y y') :
  (Instr.sliceBounds sl len cap x' y' none).run P w=.ok (l,h,cap) w∧l≤h∧h≤len:=by
 unfold Mc at hc
 split at hc
 case h_2=>cases hc
 rename_i l' h' h1 h2
 split at hc
 case isFalse=>cases hc
 rename_i hle
 cases hc
 refine⟨?_,hle⟩
 rcases Sp h1 hx with⟨_,rfl,rfl⟩ | ⟨k,rfl⟩<;>rcases Sp h2 hy with⟨_,rfl,rfl⟩ | ⟨k',rfl⟩
 ·simp[Instr.sliceBounds]
 ·have:=run_sliceBound (P:=P) w k' (h:Int) cap (if sl then .sliceAcap else .sliceAlen) (by omega) (by omega)
  simp[Instr.sliceBounds,this]
 ·have:=run_sliceBound (P:=P) w k (l:Int) h (.sliceB) (by omega) (by omega)
  simp[Instr.sliceBounds,this]
 ·have e1:=run_sliceBound (P:=P) w k (l:Int) h (.sliceB) (by omega) (by omega)
  have e2:=run_sliceBound (P:=P) w k' (h:Int) cap (if sl then .sliceAcap else .sliceAlen) (by omega) (by omega)
  simp[Instr.sliceBounds,e1,e2]
theorem An.take {w:World}{S:Nat→Prop}:∀{x:List (List C)}{v:List (List Value)}(n:Nat),An w S x v []→An w S (x.take n) (v.take n) []
 | [],v,n,h=>by simp only[An]at h;simp[h.1,An]
 |c::cs,v,n,h=>by
  simp only[An]at h
  obtain⟨u,vs',b1,b2,rfl,h0,h3,h4⟩:=h
  obtain⟨rfl,rfl⟩:b1=[]∧b2=[]:=by simpa using h0.symm
  cases n with
  |zero=>simp[An]
  |succ n=>exact⟨u,vs'.take n,[],[],rfl,rfl,h3,An.take n h4⟩
theorem An.drop {w:World}{S:Nat→Prop}:∀{x:List (List C)}{v:List (List Value)}(n:Nat),An w S x v []→An w S (x.drop n) (v.drop n) []
 | [],v,n,h=>by simp only[An]at h;simp[h.1,An]
 |c::cs,v,n,h=>by
  have h':=h
  simp only[An]at h
  obtain⟨u,vs',b1,b2,rfl,h0,h3,h4⟩:=h
  obtain⟨rfl,rfl⟩:b1=[]∧b2=[]:=by simpa using h0.symm
  cases n with
  |zero=>exact h'
  |succ n=>exact An.drop n h4
theorem CR.cut {w:World}{S:Nat→Prop}{rows:List (List C)}{v:Value}{size:Nat}(h:CR w S (.sl rows) v []) (hs:∀es vrows,An w S rows vrows []→(∀x∈vrows,x.length=es)→0<vrows.length→es=size) {l k:Nat}(h1:l≤k) (h2:k≤rows.length) :
  ∃a cap,v=.slice a rows.length cap∧rows.length≤cap∧CR w S (.sl ((rows.take k).drop l)) (sliced a l k cap size) []:=by
 simp only[CR]at h
 obtain⟨es,A,cap,vrows,rfl,g1,_,g2,g3,_⟩:=h
 refine⟨A,cap,rfl,g1,?_⟩
 have hl:=An.length g3
 simp only[CR]
 have hln:((rows.take k).drop l).length=k-l:=by simp;omega
 refine⟨es,if cap=l then A else A.map (·.add (l*size)),cap-l,(vrows.take k).drop l,?_,by rw[hln];omega,trivial,?_,An.drop l (An.take k g3),trivial⟩
 ·rw[hln];rfl
 ·by_cases hn:0<vrows.length
  ·have:=hs es vrows g3 g2.1 hn
   subst this
   exact (g2.take k).cut l cap (by simp;omega)
  ·have:vrows=[]:=List.eq_nil_of_length_eq_zero (by omega)
   subst this
   simp only[List.take_nil,List.drop_nil]
   exact Row.nil
theorem GN {w:World}{S:Nat→Prop}{rows:List (List C)}{size:Nat}(hall:(rows.all fun r=>r.length==size)=true):∀es vrows,An w S rows vrows []→(∀x∈vrows,x.length=es)→0<vrows.length→es=size:=by
 intro es vrows h1 h2 h3
 have hl:=An.length h1
 cases rows with
 |nil=>rw[List.length_nil]at hl;omega
 |cons r rows =>
  simp only[An]at h1
  obtain⟨u,vs',b1,b2,rfl,_,h4,_⟩:=h1
  have:=CRs.length h4
  have h5:=h2 u (by simp)
  simp only[List.all_cons,Bool.and_eq_true,beq_iff_eq]at hall
  have:=hall.1
  omega
theorem Cm {ty e:TypeId}{s b size by':Nat}{z z':Option Value}{ti:TI}(ht:tin P ty=some ⟨.sl e,s,b,z⟩) (ht':tin P e=some ⟨ti,size,by',z'⟩) {w:World}{A:Option Addr}{len cap:Nat}{lo hi:Option Value}{l h:Nat}
  (hb:(Instr.sliceBounds true len cap lo hi none).run P w=.ok (l,h,cap) w):(Instr.sliceAt ty (.slice A len cap) lo hi none).run P w=.ok (sliced A l h cap size) w:=by
 simp only[Instr.sliceAt,Instr.slice,Sem.run_bind,run_underlying (GW ht),Result.andThen_ok,hb,Dv ht',Sem.run_pure,sliced]
theorem RelAt.freeze {Γ:Ctx}{a:Act}{w:World}{ow:Nat→Option Id}{κ:Id→Value}(hr:RelAt Γ σ a w ow κ) {i:Id}{es:Nat}{e:TypeId}{rows:List (List C)}(hi:σ.mem.get i=some (.row false es e rows)) (hes:0<es) :
  ∃ow',CR w (Γ.sees ow') (.sl rows) (κ i) []∧∀(x:AV) (v:Value),AR w (Γ.sees ow') (σ.mem.puts [(i,.frz rows)]) κ x v→∀dst,RelAt Γ (σ.upd dst ⟨[],[(i,.frz rows)],x⟩) (a.put dst v) w ow' κ:=by
 let ow':Nat→Option Id:=fun b=>if ow b=some i then none else ow b
 have how:∀b,ow' b=if ow b=some i then none else ow b:=fun _=>rfl
 have hsee:∀b,Γ.sees ow b→Γ.sees ow' b:=by
  intro b hb
  refine⟨?_,hb.2⟩
  rw[how,hb.1]
  simp
 obtain⟨vrows,bs,h1,h2,h3,h4,h5,h6⟩:=hr.objs i _ hi
 have:=h2 rfl
 subst this
 rw[List.append_nil]at h6
 have hl:=An.length h1
 obtain⟨A,cap,g1,g2,_,g3⟩:=Row.of_owns (T:=Γ.sees ow') h3 (by omega) (.inl hes) h4 (fun b hb=>by
  have hb':=h6 b (by simp[hb])
  refine⟨by rw[how,if_pos hb'],?_⟩
  by_cases hlt:b < Γ.w.heap.size
  ·right;right
   intro h0
   have:=(hr.frame b hlt h0).2
   rw[hb']at this
   cases this
  ·right;left;omega)
 have hcr:CR w (Γ.sees ow') (.sl rows) (κ i) []:=by
  simp only[CR]
  exact⟨es,A,cap,vrows,g1,g2,trivial,g3,An.keep (Nat.le_refl _) (fun b hb _=>⟨rfl,hsee b hb⟩) (by simp) h1,trivial⟩
 refine⟨ow',hcr,fun x v hv dst=>?_⟩
 have st:Step σ.mem [(i,.frz rows)] w ow κ w ow' κ:=by
  refine⟨rfl,rfl,rfl,Nat.le_refl _,fun b hb h=>⟨rfl,?_⟩,fun b j hb=>?_,fun _ _ _=>rfl,fun j hj o o' k1 k2=>?_⟩
  ·rw[how,if_neg]
   intro hc
   exact h i hc (by simp)
  ·rw[how]at hb
   split at hb
   ·cases hb
   ·rename_i hne
    refine .inl ⟨?_,hb⟩
    intro hj
    have:j=i:=by simpa using hj
    subst this
    exact hne hb
  ·have:j=i:=by simpa using hj
   subst this
   rw[hi]at k1
   cases k1
   have h7:(σ.mem.puts [(j,.frz rows)]).get j=some (.frz rows):=by
    show (σ.mem.put j (.frz rows)).get j=_
    rw[Mem.get_put,if_pos rfl]
   rw[h7]at k2
   cases k2
   exact .inr ⟨by simp,by simp[AO.live]⟩
 refine hr.step (E:=⟨[],[(i,.frz rows)],x⟩) st hv (fun j hj o' ho'=>?_) dst
 have:j=i:=by simpa using hj
 subst this
 have h7:(σ.mem.puts [(j,.frz rows)]).get j=some (.frz rows):=by
  show (σ.mem.put j (.frz rows)).get j=_
  rw[Mem.get_put,if_pos rfl]
 rw[h7]at ho'
 cases ho'
 exact hcr
theorem G4.of {Γ:Ctx}{σ':ASt}{a:Act}{w:World}{ow:Nat→Option Id}{κ:Id→Value}{E:AEff}(hag:Gy σ' σ o E) (hr:RelAt Γ σ' a w ow κ) (y:Option Operand) (hy:∀x,y=some x→x∈o.op.operands):G4 w (Γ.sees ow) σ'.mem κ (y.map σ.ev) (y.map a.eval):=by
 cases y with
 |none=>trivial
 |some y=>exact hag.ev hr (hy y rfl) rfl
theorem Wa {ty:TypeId}{y:Operand}{lo hi:Option Operand}{E:AEff}(ho:o.op=.slice ty y lo hi none) {F:Bool}(h:KV P F σ.mem.get ty (σ.ev y) (lo.map σ.ev) (hi.map σ.ev)=some E):AB P o σ E:=by
 have hex:∀(a:Act) (w:World) (v:Value),(Instr.sliceAt ty (a.eval y) (lo.map a.eval) (hi.map a.eval) none).run P w=.ok v w→(execOp a.eval o).run P w=.ok (.value v) w:=by
  intro a w v hv
  unfold execOp
  rw[ho]
  simp[hv]
 have hmy:y∈o.op.operands:=by rw[ho];simp[Op.operands]
 have hml:∀x,lo=some x→x∈o.op.operands:=by intro x hx;rw[ho,hx];simp[Op.operands]
 have hmh:∀x,hi=some x→x∈o.op.operands:=by intro x hx;rw[ho,hx];simp[Op.operands]
 unfold KV at h
 split at h
 ·rename_i s b z ht
  split at h
  case h_2=>cases h
  rename_i q hy
  split at h
  case h_2=>cases h
  rename_i l k hc
  cases h
  refine AB.pure fun Γ σ' a w ow κ hag hr=>?_
  have e1:=AR.str (hag.ev hr hmy hy)
  obtain⟨r1,r2,r3⟩:=H3 (P:=P) hc (Nat.le_refl _) false (G4.of hag hr lo hml) (G4.of hag hr hi hmh)
  refine⟨_,hex a w _ ?_,⟨rfl,rfl⟩⟩
  have hu:P.underlying ty=some .string:=by
   obtain⟨d,i,g1,g2,g3⟩:=BE ht
   rw[g1]
   simp only[TIn.mk.injEq]at g3
   have:=g3.1
   cases d<;>simp[TI.of]at this
   rfl
  rw[e1]
  simp only[Instr.sliceAt,Instr.slice,Sem.run_bind,run_underlying hu,Result.andThen_ok,Option.isSome_none,Bool.false_eq_true,if_false,r1,Sem.run_pure]
 ·rename_i e s b z ht
  split at h
  case h_2=>cases h
  rename_i ti size by' z' ht'
  split at h
  ·rename_i hy
   split at h
   case h_2=>cases h
   rename_i p hc
   cases h
   obtain⟨l,k⟩:=p
   refine AB.pure fun Γ σ' a w ow κ hag hr=>?_
   have e1:a.eval y=.slice none 0 0:=hag.ev hr hmy hy
   obtain⟨r1,r2,r3⟩:=H3 (P:=P) hc (Nat.le_refl _) true (G4.of hag hr lo hml) (G4.of hag hr hi hmh)
   have hk:k=0:=by omega
   have hl:l=0:=by omega
   subst hk
   subst hl
   refine⟨_,hex a w _ (by rw[e1];exact Cm ht ht' r1),?_⟩
   show sliced none 0 0 0 size=.slice none 0 0
   simp[sliced]
  ·rename_i rows hy
   split at h
   case isFalse=>cases h
   rename_i hall
   split at h
   case h_2=>cases h
   rename_i l k hc
   cases h
   refine AB.pure fun Γ σ' a w ow κ hag hr=>?_
   have e1:CR w (Γ.sees ow) (.sl rows) (a.eval y) []:=hag.ev hr hmy hy
   have e1':=e1
   obtain⟨A,cap,e2,e3,_⟩:=CR.cut e1 (GN hall.2) (l:=0) (k:=0) (Nat.le_refl _) (Nat.zero_le _)
   obtain⟨r1,r2,r3⟩:=H3 (P:=P) hc e3 true (G4.of hag hr lo hml) (G4.of hag hr hi hmh)
   obtain⟨A2,cap2,f2,f3,f4⟩:=CR.cut e1 (GN hall.2) r2 r3
   rw[e2]at f2
   cases f2
   exact⟨_,hex a w _ (by rw[e2];exact Cm ht ht' r1),f4⟩
  ·rename_i i hy
   split at h
   ·rename_i es e' rows hget
    cases F with
    |false=>cases h
    |true =>
    simp only[cond_true]at h
    split at h
    case isFalse=>cases h
    rename_i hsz
    split at h
    case h_2=>cases h
    rename_i l k hc
    cases h
    obtain⟨hs0,rfl⟩:=hsz
    intro Γ σ' a w ow κ hag hr
    have hg':σ'.mem.get i=some (.row false es e' rows):=by rw[hag.2.2 i (by simp),hget]
    obtain⟨ow',h1,h2⟩:=hr.freeze hg' hs0
    have e1:=hag.ev hr hmy hy
    obtain⟨_,o1,k1,k2⟩:=e1
    rw[hg']at k1
    cases k1
    have e2:=k2 (by simp)
    have hse:∀es' vrows,An w (Γ.sees ow') rows vrows []→(∀x∈vrows,x.length=es')→0<vrows.length→es'=es:=by
     intro es' vrows c1 c2 c3
     obtain⟨vr,bs,m1,m2,m3,_⟩:=hr.objs i _ hg'
     have hl1:=An.length c1
     have hl2:=An.length m1
     cases rows with
     |nil=>rw[List.length_nil]at hl1;omega
     |cons r rows =>
      simp only[An]at c1 m1
      obtain⟨u,vs',b1,b2,rfl,_,h4,_⟩:=c1
      obtain⟨u',vs'',b1',b2',rfl,_,h4',_⟩:=m1
      have q1:=CRs.length h4
      have q2:=CRs.length h4'
      have q3:=c2 u (by simp)
      have q4:=m3 u' (by simp)
      omega
    obtain⟨A,cap,e3,e4,_⟩:=CR.cut h1 hse (l:=0) (k:=0) (Nat.le_refl _) (Nat.zero_le _)
    obtain⟨r1,r2,r3⟩:=H3 (P:=P) hc e4 true (G4.of hag hr lo hml) (G4.of hag hr hi hmh)
    obtain⟨A2,cap2,f2,f3,f4⟩:=CR.cut h1 hse r2 r3
    rw[e3]at f2
    cases f2
    exact⟨_,w,ow',κ,.inl (hex a w _ (by rw[e2,e3];exact Cm ht ht' r1)),h2 (.c (.sl ((rows.take k).drop l))) _ f4 o.dst⟩
   ·rename_i rows hget
    split at h
    case isFalse=>cases h
    rename_i hall
    split at h
    case h_2=>cases h
    rename_i l k hc
    cases h
    refine AB.pure fun Γ σ' a w ow κ hag hr=>?_
    have hg':σ'.mem.get i=some (.frz rows):=by rw[hag.2.1 i (by simp),hget]
    have e1:=hag.ev hr hmy hy
    obtain⟨_,o1,k1,k2⟩:=e1
    rw[hg']at k1
    cases k1
    have e2:=k2 (by simp)
    have h1:CR w (Γ.sees ow) (.sl rows) (κ i) []:=hr.objs i _ hg'
    obtain⟨A,cap,e3,e4,_⟩:=CR.cut h1 (GN hall.2) (l:=0) (k:=0) (Nat.le_refl _) (Nat.zero_le _)
    obtain⟨r1,r2,r3⟩:=H3 (P:=P) hc e4 true (G4.of hag hr lo hml) (G4.of hag hr hi hmh)
    obtain⟨A2,cap2,f2,f3,f4⟩:=CR.cut h1 (GN hall.2) r2 r3
    rw[e3]at f2
    cases f2
    exact⟨_,hex a w _ (by rw[e2,e3];exact Cm ht ht' r1),f4⟩
   ·cases h
  ·cases h
 ·cases h
theorem a03 {least:Bool}{y z:Operand}{tys:Array TypeId}{x:AV}(ho:o.op=.call ⟨.builtin (if least then .min else .max),⟨[y,z]⟩,tys⟩) (h:SA least (σ.ev y) (σ.ev z)=some x):AB P o σ ⟨[],[],x⟩:=by
 unfold SA at h
 split at h
 case h_2=>cases h
 rename_i k a1 k' b1 hy hz
 split at h
 case isFalse=>cases h
 rename_i hk
 subst hk
 cases h
 refine AB.pure fun Γ σ' a w ow κ hag hr=>?_
 have e1:=AR.int (hag.ev hr (by rw[ho];simp[Op.operands,Call.operands]) hy)
 have e2:=AR.int (hag.ev hr (by rw[ho];simp[Op.operands,Call.operands]) hz)
 refine⟨_,?_,⟨rfl,rfl⟩⟩
 unfold execOp
 rw[ho]
 cases least
 ·simp[resolve,invoke,builtin,e1,e2,run_max_int2]
 ·simp[resolve,invoke,builtin,e1,e2,run_min_int2]
theorem G9 {w:World}{S:Nat→Prop}{cs:List C}{us:List Value}(h:CRs w S cs us []):∀n,An w S (List.replicate n cs) (List.replicate n us) []
 | 0=>by simp[An]
 |n+1=>⟨us,List.replicate n us,[],[],rfl,rfl,h,G9 h n⟩
theorem Z6 {ty:TypeId}{y z:Operand}{fr:Id}{E:AEff}(ho:o.op=.makeSlice ty y z) (hf:σ.mem.get fr=none) (h:MU P fr ty (σ.ev y) (σ.ev z)=some E):AB P o σ E:=by
 unfold MU at h
 split at h
 case h_2=>cases h
 rename_i e s b z0 k n k' m ht hy hz
 split at h
 case h_2=>cases h
 rename_i ti size bytes zv ht'
 split at h
 case h_2=>cases h
 rename_i cells hzc
 split at h
 case h_2=>cases h
 rename_i cs hcs
 split at h
 case isFalse=>cases h
 rename_i hc
 obtain⟨rfl,c1,c2,c3,c4,c5⟩:=hc
 cases h
 intro Γ σ' a w ow κ hag hr
 obtain⟨v,us,hv,g1,g2,g3⟩:=Jw (w:=w) (S:=Γ.sees ow) (m:=σ'.mem) (κ:=κ) hzc
 cases hv
 obtain⟨bs,k1,k2,k3⟩:=J0 hr hcs (by simp) (by simp) g2
 have:bs=[]:=by
  cases bs with
  |nil=>rfl
  |cons b bs=>obtain⟨j,hj,_⟩:=k3 b (by simp);simp at hj
 subst this
 have hul:us.length=size:=by rw[←c4];exact CRs.length k1
 have e1:=AR.int (hag.ev hr (by rw[ho];simp[Op.operands]) hy)
 have e2:=AR.int (hag.ev hr (by rw[ho];simp[Op.operands]) hz)
 obtain⟨d,i,t1,t2,t3⟩:=BE ht'
 simp only[TIn.mk.injEq]at t3
 obtain⟨_,t4,t5,t6⟩:=t3
 have hby:i.bytes*n.toNat≤281474976710656:=by
  rw[←t5]
  calc bytes*n.toNat≤200*2000000:=Nat.mul_le_mul c5 (by omega)
   _≤_:=by omega
 obtain⟨w',r1,r2,r3⟩:=run_make_full (P:=P) w 0 ty e i zv size (GW ht) t2 t6.symm t4.symm k k' n.toNat hby (by simp only[maxLen];omega) (Nat.zero_le _)
 rw[Int.toNat_of_nonneg c1]at r1
 rw[g1,show (n.toNat*size)=n.toNat*us.length by rw[hul],FN us (by omega)]at r2
 obtain⟨ow',κ',h'⟩:=hr.appended (fr:=fr) (ks:=[]) (rd:=[]) (ex:=false) (e:=e) (size:=size) (xs:=[]) (ys:=List.replicate n.toNat cs) (vx:=[]) (vy:=List.replicate n.toNat us) (bx:=[]) (byy:=[]) (v:=.slice none 0 0) (v':=.slice (some ⟨w.heap.size,0,none⟩) n.toNat n.toNat)
  (by rw[hag.2.2 fr (by simp),hf]) (by simp) (by simp[An]) (G9 k1 _) (by simp) (by intro x hx;rw[List.mem_replicate]at hx;rw[hx.2,hul]) (by simpa using r2) r3 (.inr rfl) (fun _=>⟨rfl,rfl⟩) (by simp[Value.ownBlock]) (by simp[Value.ownBlock]) o.dst
 refine⟨_,w',ow',κ',.inl ?_,h'⟩
 unfold execOp
 rw[ho]
 simp[e1,e2,r1]
theorem K9 {F:Bool}{fr:Id}{E:AEff}(h:XF P F σ.ev σ.mem.get fr o=some E):AB P o σ E:=by
 unfold XF at h
 split at h
 ·rename_i ty x lo hi ho
  exact Wa ho h
 ·rename_i ty n m ho
  split at h
  case h_2=>cases h
  rename_i hf
  exact Z6 ho hf h
 ·rename_i c ho
  obtain⟨cal,args,tys⟩:=c
  simp only at h
  split at h
  ·rename_i x y ha
   have ha':args=⟨[x,y]⟩:=by cases args;simpa using ha
   subst ha'
   exact Fu h fun v hv=>a03 (least:=true) ho hv
  ·rename_i x y ha
   have ha':args=⟨[x,y]⟩:=by cases args;simpa using ha
   subst ha'
   exact Fu h fun v hv=>a03 (least:=false) ho hv
  ·cases h
 ·cases h
theorem a0k {ops:Array Oper}{r:List Oper}{τ:ASt}{fs:List AEff}{K:ASt→List AEff→Prop}{E:AEff}(hg:CJ ops σ o=some true) (h0:eff P σ.ev σ.mem.get (σ.fresh o) o=none) (he:XF P false σ.ev σ.mem.get (σ.fresh o) o=some E) (hτ:σ.upd o.dst E=τ) (h:Ay P ops r τ (fs++[E]) K):Ay P ops (o::r) σ fs K :=
 Ca hg h0 (K9 he).sound hτ h
theorem a5w {ops:Array Oper}{r:List Oper}{τ:ASt}{fs:List AEff}{K:ASt→List AEff→Prop}{E:AEff}(hg:CJ ops σ o=some true) (h0:eff P σ.ev σ.mem.get (σ.fresh o) o=none) (he:XF P true σ.ev σ.mem.get (σ.fresh o) o=some E) (hτ:σ.upd o.dst E=τ) (h:Ay P ops r τ (fs++[E]) K):Ay P ops (o::r) σ fs K :=
 Ca hg h0 (K9 he).sound hτ h
end
theorem WD (d:Nat) (k:IntKind) (n:Nat):MN d (some (.c (.int k (n:Int))))=some n:=by simp[MN]
theorem a1y (d:Nat) (k:IntKind) (n:Nat):MN d (some (.c (.int k (OfNat.ofNat n:Int))))=some n:=by
 have:(OfNat.ofNat n:Int)=((n:Nat):Int):=rfl
 rw[this]
 exact WD d k n
theorem ZM (d:Nat):MN d none=some d:=rfl
attribute [go_sem] XF KV MU SA Mc WD a1y ZM Option.map_none Option.map_some Nat.zero_le Nat.le_refl
end
section
open Go.RowKit
mutual
def C.plain:C→Bool
 | .osl _=>false
 | .oref _=>false
 | .tsl .. => false
 |_=>true
def GT:List C→Bool
 | []=>true
 |c::cs=>c.plain&&GT cs
def GI:List (List C)→Bool
 | []=>true
 |c::cs=>GT c&&GI cs
end
section
variable {w:World} {S T:Nat→Prop}
theorem CR.plain_nil {x:C}{v:Value}{bs:List Nat}(hp:x.plain=true) (h:CR w S x v bs):bs=[]:=by
 cases x<;>simp only[CR]at h<;>simp only[C.plain]at hp
 case int=>exact h.2
 case bool=>exact h.2
 case str=>exact h.2
 case raw=>exact h.2.2
 case sl=>obtain⟨_,_,_,_,_,_,_,_,_,h⟩:=h;exact h
 case osl=>cases hp
 case ref=>obtain⟨_,_,_,_,_,h⟩:=h;exact h
 case oref=>cases hp
 case tsl=>cases hp
 case any=>exact h.2
theorem CRs.plain_nil:∀{x:List C}{v:List Value}{bs:List Nat},GT x=true→CRs w S x v bs→bs=[]
 | [],_,_,_,h=>by simp only[CRs]at h;exact h.2
 |c::cs,v,bs,hp,h=>by
  simp only[GT,Bool.and_eq_true]at hp
  obtain⟨u,vs',b1,b2,_,rfl,h1,h2⟩:=h
  rw[CR.plain_nil hp.1 h1,CRs.plain_nil hp.2 h2]
  rfl
theorem An.plain_nil:∀{x:List (List C)}{v:List (List Value)}{bs:List Nat},GI x=true→An w S x v bs→bs=[]
 | [],_,_,_,h=>by simp only[An]at h;exact h.2
 |c::cs,v,bs,hp,h=>by
  simp only[GI,Bool.and_eq_true]at hp
  obtain⟨u,vs',b1,b2,_,rfl,h1,h2⟩:=h
  rw[CRs.plain_nil hp.1 h1,An.plain_nil hp.2 h2]
  rfl
theorem TQ {α:Type}{v:List α}{i:Nat}{u:α}(h:v[i]? = some u):v.set i u=v:=by
 apply List.ext_getElem?
 intro j
 rw[List.getElem?_set]
 split
 ·rename_i hj
  subst hj
  have:=(List.getElem?_eq_some_iff.1 h).1
  rw[if_pos this,h]
 ·rfl
theorem CRs.resplit:∀{x:List C}{v:List Value}{bs:List Nat},CRs w S x v bs→∀{off:Nat}{c:C},x[off]? = some c→∃u b1 b2 b3,v[off]? = some u∧bs=b1++b2++b3∧CR w S c u b2∧∀c' u' b',CR w S c' u' b'→CRs w S (x.set off c') (v.set off u') (b1++b'++b3)
 | [],_,_,_,off,c,hc=>by simp at hc
 |y::x,v,bs,h,off,c,hc=>by
  obtain⟨u,vs',d1,d2,rfl,rfl,h1,h2⟩:=h
  cases off with
  |zero =>
   simp only[List.getElem?_cons_zero,Option.some.injEq]at hc
   subst hc
   exact⟨u,[],d1,d2,rfl,rfl,h1,fun c' u' b' h'=>⟨u',vs',b',d2,rfl,rfl,h',h2⟩⟩
  |succ off =>
   simp only[List.getElem?_cons_succ]at hc
   obtain⟨u',b1,b2,b3,g1,rfl,g3,g4⟩:=CRs.resplit h2 hc
   exact⟨u',d1++b1,b2,b3,g1,by simp,g3,fun c' u2 b' h'=>⟨u,vs'.set off u2,d1,b1++b'++b3,rfl,by simp,h1,g4 c' u2 b' h'⟩⟩
theorem An.resplit:∀{x:List (List C)}{v:List (List Value)}{bs:List Nat},An w S x v bs→∀{r off:Nat}{row:List C}{c:C},x[r]? = some row→row[off]? = some c→∃vr u b1 b2 b3,v[r]? = some vr∧vr[off]? = some u∧bs=b1++b2++b3∧CR w S c u b2∧∀c' u' b',CR w S c' u' b'→An w S (x.set r (row.set off c')) (v.set r (vr.set off u')) (b1++b'++b3)
 | [],_,_,_,r,off,row,c,hr,_=>by simp at hr
 |y::x,v,bs,h,r,off,row,c,hr,hc=>by
  obtain⟨vr,vs',d1,d2,rfl,rfl,h1,h2⟩:=h
  cases r with
  |zero =>
   simp only[List.getElem?_cons_zero,Option.some.injEq]at hr
   subst hr
   obtain⟨u,b1,b2,b3,g1,rfl,g3,g4⟩:=CRs.resplit h1 hc
   exact⟨vr,u,b1,b2,b3++d2,rfl,g1,by simp,g3,fun c' u' b' h'=>⟨vr.set off u',vs',b1++b'++b3,d2,rfl,by simp,g4 c' u' b' h',h2⟩⟩
  |succ r =>
   simp only[List.getElem?_cons_succ]at hr
   obtain⟨vr',u,b1,b2,b3,g0,g1,rfl,g3,g4⟩:=An.resplit h2 hr hc
   exact⟨vr',u,d1++b1,b2,b3,g0,g1,by simp,g3,fun c' u' b' h'=>⟨vr,vs'.set r (vr'.set off u'),d1,b1++b'++b3,rfl,by simp,h1,g4 c' u' b' h'⟩⟩
theorem An.split {x:List (List C)}{v:List (List Value)}{bs:List Nat}(h:An w S x v bs) {r off:Nat}{row:List C}{c:C}(hr:x[r]? = some row) (hc:row[off]? = some c):∃vr u b1 b2 b3,v[r]? = some vr∧vr[off]? = some u∧bs=b1++b2++b3∧CR w S c u b2∧∀c' b',CR w S c' u b'→An w S (x.set r (row.set off c')) v (b1++b'++b3):=by
 obtain⟨vr,u,b1,b2,b3,g0,g1,g2,g3,g4⟩:=An.resplit h hr hc
 refine⟨vr,u,b1,b2,b3,g0,g1,g2,g3,fun c' b' h'=>?_⟩
 have:=g4 c' u b' h'
 rwa [TQ g1,TQ g0]at this
end
def OG (i:Id) (es:Nat) (e:TypeId) (rows:List (List C)) (r off:Nat) (fr:Id) (inner:List (List C)):AEff:=⟨[],[(i,.lent es e rows r off fr),(fr,.rown inner)],.own fr⟩
section
variable {P:Program} {o:Oper} {σ:ASt}
theorem WK {m:Mem}{i j:Id}{x y:AO}(hne:i≠j):(m.puts [(i,x),(j,y)]).get i=some x∧(m.puts [(i,x),(j,y)]).get j=some y:=by
 constructor
 ·show ((m.put i x).put j y).get i=_
  rw[Mem.get_put,if_neg hne,Mem.get_put,if_pos rfl]
 ·show ((m.put i x).put j y).get j=_
  rw[Mem.get_put,if_pos rfl]
theorem a05 {ty:TypeId}{y:Operand}{i:Id}{es:Nat}{e:TypeId}{rows:List (List C)}{r off:Nat}{row:List C}{inner:List (List C)}{fr:Id}{ti:TI}{size by':Nat}{z:Option Value}(ho:o.op=.load ty y) (hy:σ.ev y=.rptr i es r off) (ht:tin P ty=some ⟨ti,size,by',z⟩) (hg:ti.agg=some false)
  (hi:σ.mem.get i=some (.row true es e rows)) (hf:σ.mem.get fr=none) (hr:rows[r]? = some row) (hro:row[off]? = some (.osl inner)) (hp:GI inner=true):AB P o σ (OG i es e rows r off fr inner):=by
 intro Γ σ' a w ow κ hag hrel
 have hne:i≠fr:=fun e=>by rw[e,hf]at hi;cases hi
 have e1:=hag.ev hrel (by rw[ho];simp[Op.operands]) hy
 have hi':σ'.mem.get i=some (.row true es e rows):=by rw[hag.2.2 i (by simp[OG]),hi]
 have hf':σ'.mem.get fr=none:=by rw[hag.2.2 fr (by simp[OG]),hf]
 obtain⟨_,o1,k1,k2⟩:=e1
 rw[hi']at k1
 cases k1
 obtain⟨b,n,cap,k3,k4⟩:=k2 rfl
 obtain⟨vrows,bs,h1,_,h3,h4,h5,h6⟩:=hrel.objs i _ hi'
 obtain⟨vr,u,b1,b2,b3,g0,g1,rfl,g3,g4⟩:=An.split h1 hr hro
 have hone:=g3.one
 simp only[CR]at g3
 obtain⟨es',vin,bin,e',c1,c2,c3,rfl⟩:=g3
 have hbin:=An.plain_nil hp c1
 subst hbin
 rw[List.append_nil]at h5 h6
 have hhol:JK rows r off (.raw u)=rows.set r (row.set off (.raw u)):=by
  unfold JK
  rw[List.getD_eq_getElem?_getD,hr,Option.getD_some]
 have hlen:(JK rows r off (.raw u)).length=rows.length:=by rw[hhol,List.length_set]
 have hc:=g4 (.raw u) [] ⟨rfl,hone,rfl⟩
 rw[←hhol,List.append_nil]at hc
 have hcell:w.cell? ⟨b,r*es+off,none⟩=some u:=by
  rw[k3]at h4
  have:=h4.cells (g:=b) rfl _ _ (BR h3 r vr g0 off u g1)
  rwa [Addr.add_mid,Nat.zero_add]at this
 have hlt:∀q,q∈(κ i).ownBlock.toList++(b1++u.ownBlock.toList++b3)→q<w.heap.size:=fun q hq=>(hrel.own q i (h6 q hq)).1
 let ow':Nat→Option Id:=fun q=>if u.ownBlock=some q then some fr else ow q
 let κ':Id→Value:=fun j=>if j=fr then u else κ j
 have how:∀q,ow' q=if u.ownBlock=some q then some fr else ow q:=fun _=>rfl
 have hmine:∀q,u.ownBlock=some q→ow q=some i:=fun q hq=>h6 q (by simp[hq])
 have hki:κ' i=κ i:=if_neg hne
 have hkf:κ' fr=u:=if_pos rfl
 obtain⟨gi,gf⟩:=WK (m:=σ'.mem) (x:=AO.lent es e rows r off fr) (y:=AO.rown inner) hne
 have st:Step σ'.mem [(i,.lent es e rows r off fr),(fr,.rown inner)] w ow κ w ow' κ':=by
  refine⟨rfl,rfl,rfl,Nat.le_refl _,fun q hq h=>⟨rfl,?_⟩,fun q j hq=>?_,fun j o' hj=>?_,fun j hj o1 o2 q1 q2=>?_⟩
  ·rw[how,if_neg]
   intro hu
   exact h i (hmine q hu) (by simp)
  ·rw[how]at hq
   split at hq
   ·rename_i hu
    have:fr=j:=by simpa using hq
    subst this
    exact .inr ⟨(hrel.own q i (hmine q hu)).1,_,gf,rfl,by simp⟩
   ·by_cases hj:j=i
    ·subst hj
     exact .inr ⟨(hrel.own q j hq).1,_,gi,rfl,by simp⟩
    ·refine .inl ⟨?_,hq⟩
     have hjf:j≠fr:=fun e=>by
      obtain⟨_,o3,h7,_⟩:=hrel.own q j hq
      rw[e,hf']at h7
      cases h7
     simp[hj,hjf]
  ·have:j≠fr:=fun e=>by rw[e,hf']at hj;cases hj
   exact if_neg this
  ·have hj':j=i∨j=fr:=by simpa using hj
   rcases hj' with rfl | rfl
   ·rw[hi']at q1
    rw[gi]at q2
    cases q1;cases q2
    exact .inr ⟨by simp,fun _=>rfl⟩
   ·rw[hf']at q1
    cases q1
 have hsee:∀q,Γ.sees ow q→Γ.sees ow' q:=by
  intro q hq
  refine⟨?_,hq.2⟩
  rw[how,if_neg,hq.1]
  intro hu
  have h8:=hmine q hu
  rw[hq.1]at h8
  cases h8
 refine⟨u,w,ow',κ',.inl ?_,hrel.step (E:=OG i es e rows r off fr inner) st ⟨hone,_,gf,fun _=>hkf.symm⟩ (fun j hj o' ho'=>?_) o.dst⟩
 ·obtain⟨d,inf,t1,t2,t3⟩:=BE ht
  simp only[TIn.mk.injEq]at t3
  unfold execOp
  rw[ho]
  simp[Instr.loadAt,Instr.sureAddr,k4,loadVar,Lu (by rw[←t3.1];exact hg) t1 w,hcell]
 ·have hj':j=i∨j=fr:=by simpa [OG] using hj
  rcases hj' with rfl | rfl
  ·have hh:=gi.symm.trans ho'
   cases hh
   simp only[OR]
   rw[hki]
   refine⟨u,vrows,b1++b3,An.keep (Nat.le_refl _) (fun q hq _=>⟨rfl,hsee q hq⟩) (fun _ _ _=>rfl) hc,h3,h4,?_,?_,_,gf,fun _=>hkf.symm⟩
   ·rw[List.nodup_append]at h5 ⊢
    refine⟨h5.1,?_,fun x hx y hy=>h5.2.2 x hx y (by simp only[List.mem_append]at hy ⊢;rcases hy with hy | hy;exact .inl (.inl hy);exact .inr hy)⟩
    have h8:=h5.2.1
    rw[List.nodup_append]at h8 ⊢
    rw[List.nodup_append]at h8
    exact⟨h8.1.1,h8.2.1,fun x hx y hy=>h8.2.2 x (by simp[hx]) y hy⟩
   ·intro q hq
    rw[how,if_neg]
    ·exact h6 q (by simp only[List.mem_append]at hq ⊢;rcases hq with hq | hq | hq;exact .inl hq;exact .inr (.inl (.inl hq));exact .inr (.inr hq))
    ·intro hu
     rw[List.nodup_append]at h5
     have h8:=h5.2.1
     rw[List.nodup_append,List.nodup_append]at h8
     simp only[List.mem_append]at hq
     rcases hq with hq | hq | hq
     ·exact h5.2.2 q hq q (by simp[hu]) rfl
     ·exact h8.1.2.2 q hq q (by simp[hu]) rfl
     ·exact h8.2.2 q (by simp[hu]) q hq rfl
  ·have hh:=gf.symm.trans ho'
   cases hh
   simp only[OR]
   rw[hkf]
   exact⟨es',e',vin,An.keep (Nat.le_refl _) (fun q hq _=>⟨rfl,hsee q hq⟩) (by simp) c1,c2,c3,fun q hq=>by rw[how,if_pos hq]⟩
theorem Rel.putback {Γ:Ctx}{a:Act}{w:World}(h:Rel Γ σ a w) {i j:Id}{es:Nat}{e:TypeId}{rows:List (List C)}{r off es':Nat}{e':TypeId}{row:List C}{inner':List (List C)}(hi:σ.mem.get i=some (.lent es e rows r off j)) (hj:σ.mem.get j=some (.row false es' e' inner')) (hr:rows[r]? = some row) (hro:off<row.length) :
  Rel Γ (σ.upd none ⟨[],[(j,.dead),(i,.row true es e (rows.set r (row.set off (.osl inner'))))],.skip⟩) a w:=by
 obtain⟨ow,κ,hrel⟩:=h
 have hne:j≠i:=fun e=>by rw[e,hi]at hj;cases hj
 obtain⟨v,vrows,bs,h1,h2,h3,h4,h5,o1,h6,h7⟩:=hrel.objs i _ hi
 rw[hj]at h6
 cases h6
 have hv:=h7 (by simp)
 subst hv
 obtain⟨vin,bin,c1,c2,c3,c4,c5,c6⟩:=hrel.objs j _ hj
 have:=c2 rfl
 subst this
 rw[List.append_nil]at c5 c6
 have hhol:JK rows r off (.raw (κ j))=rows.set r (row.set off (.raw (κ j))):=by
  unfold JK
  rw[List.getD_eq_getElem?_getD,hr,Option.getD_some]
 rw[hhol]at h1
 have hrl:r<rows.length:=(List.getElem?_eq_some_iff.1 hr).1
 obtain⟨vr,u,b1,b2,b3,g0,g1,rfl,g3,g4⟩:=An.split h1 (r:=r) (off:=off) (row:=row.set off (.raw (κ j))) (c:=.raw (κ j)) (by rw[List.getElem?_set_self hrl]) (by rw[List.getElem?_set_self hro])
 obtain⟨hu,_,hb2⟩:=g3
 subst hb2
 subst hu
 have g5:=g4 (.osl inner') ((κ j).ownBlock.toList++[]) ⟨es',vin,[],e',c1,c3,c4,rfl⟩
 rw[List.set_set,List.set_set,List.append_nil]at g5
 rw[List.append_nil]at h4 h5
 let ow':Nat→Option Id:=fun q=>if ow q=some j then some i else ow q
 have how:∀q,ow' q=if ow q=some j then some i else ow q:=fun _=>rfl
 obtain⟨gj,gi⟩:=WK (m:=σ.mem) (x:=AO.dead) (y:=AO.row true es e (rows.set r (row.set off (.osl inner')))) hne
 have st:Step σ.mem [(j,.dead),(i,.row true es e (rows.set r (row.set off (.osl inner'))))] w ow κ w ow' κ:=by
  refine⟨rfl,rfl,rfl,Nat.le_refl _,fun q hq hh=>⟨rfl,?_⟩,fun q k hq=>?_,fun _ _ _=>rfl,fun k hk o2 o3 q1 q2=>?_⟩
  ·rw[how,if_neg]
   intro hc
   exact hh j hc (by simp)
  ·rw[how]at hq
   split at hq
   ·rename_i hc
    have:i=k:=by simpa using hq
    subst this
    exact .inr ⟨(hrel.own q j hc).1,_,gi,rfl,by simp⟩
   ·rename_i hc
    by_cases hk:k=i
    ·subst hk
     exact .inr ⟨(hrel.own q k hq).1,_,gi,rfl,by simp⟩
    ·refine .inl ⟨?_,hq⟩
     have hkj:k≠j:=fun e=>hc (by rw[hq,e])
     simp[hk,hkj]
  ·have hk':k=j∨k=i:=by simpa using hk
   rcases hk' with rfl | rfl
   ·rw[gj]at q2
    cases q2
    exact .inl rfl
   ·rw[hi]at q1
    rw[gi]at q2
    cases q1;cases q2
    exact .inr ⟨by simp,fun _=>rfl⟩
 have hsee:∀q,Γ.sees ow q→Γ.sees ow' q:=by
  intro q hq
  refine⟨?_,hq.2⟩
  rw[how,if_neg,hq.1]
  intro hc
  rw[hq.1]at hc
  cases hc
 refine⟨ow',κ,?_⟩
 refine hrel.step (E:=⟨[],[(j,.dead),(i,.row true es e (rows.set r (row.set off (.osl inner'))))],.skip⟩) st (v:=undef) rfl (fun k hk o' ho'=>?_) none
 have hk':k=j∨k=i:=by simpa using hk
 rcases hk' with rfl | rfl
 ·have hh:=gj.symm.trans ho'
  cases hh
  trivial
 ·have hh:=gi.symm.trans ho'
  cases hh
  simp only[OR]
  refine⟨vrows,b1++(κ j).ownBlock.toList++b3,An.keep (Nat.le_refl _) (fun q hq _=>⟨rfl,hsee q hq⟩) (fun _ _ _=>rfl) g5,fun hh=>(by cases hh),h2,by rw[List.length_set];exact h3,?_,fun q hq=>?_⟩
  ·have hd:∀q,(κ j).ownBlock=some q→q ∉ (κ k).ownBlock.toList++(b1++b3):=by
    intro q hq hm
    have h8:=h5 q hm
    have h9:=c6 q (by simp[hq])
    rw[h8]at h9
    exact hne (Option.some.inj h9).symm
   rw[List.nodup_append]at h4
   obtain⟨n1,n2,n3⟩:=h4
   rw[List.nodup_append]at n2
   obtain⟨n4,n5,n6⟩:=n2
   rw[List.nodup_append,List.nodup_append,List.nodup_append]
   refine⟨n1,⟨⟨n4,c5,fun x hx y hy e=>?_⟩,n5,fun x hx y hy=>?_⟩,fun x hx y hy e=>?_⟩
   ·subst e
    exact hd x (by simpa using hy) (by simp[hx])
   ·simp only[List.mem_append]at hx
    rcases hx with hx | hx
    ·exact n6 x hx y hy
    ·intro e
     subst e
     exact hd x (by simpa using hx) (by simp[hy])
   ·subst e
    simp only[List.mem_append]at hy
    rcases hy with (hy | hy) | hy
    ·exact n3 x hx x (by simp[hy]) rfl
    ·exact hd x (by simpa using hy) (by simp[hx])
    ·exact n3 x hx x (by simp[hy]) rfl
  ·rw[how]
   simp only[List.mem_append]at hq
   by_cases hc:(κ j).ownBlock=some q
   ·rw[if_pos (c6 q (by simp[hc]))]
   ·have:q∈(κ k).ownBlock.toList++(b1++b3):=by
     simp only[List.mem_append]
     rcases hq with hq | (hq | hq) | hq
     ·exact .inl hq
     ·exact .inr (.inl hq)
     ·exact absurd (by simpa using hq) hc
     ·exact .inr (.inr hq)
    rw[h5 q this,if_neg]
    intro e
    exact hne (Option.some.inj e).symm
theorem TE {α:Type}{l:List α}{off:Nat}{x:α}(h:off<l.length):C4 l off [x]=l.set off x:=by
 unfold C4
 rw[List.set_eq_take_append_cons_drop,if_pos h]
 simp
theorem Wc {ty:TypeId}{y q:Operand}{i:Id}{es:Nat}{e:TypeId}{rows:List (List C)}{r off:Nat}{row:List C}{x old:C}{ti:TI}{by':Nat}{z:Option Value}(ho:o.op=.store ty y q) (hy:σ.ev y=.rptr i es r off) (hq:σ.ev q=.c x) (ht:tin P ty=some ⟨ti,1,by',z⟩)
  (hi:σ.mem.get i=some (.row true es e rows)) (hro:rows[r]? = some row) (hrl:row.length=es) (hold:row[off]? = some old) (hp:old.plain=true):AB P o σ ⟨[],[(i,.row true es e (rows.set r (row.set off x)))],.skip⟩:=by
 have hyo:y∈o.op.operands:=by rw[ho];simp[Op.operands]
 have hqo:q∈o.op.operands:=by rw[ho];simp[Op.operands]
 have fin:∀{a:Act} {w w':World} {ad:Addr},a.eval y=.pointer (some ad)→(storeVar ty ad (a.eval q)).run P w=.ok () w'→(execOp a.eval o).run P w=.ok .skip w':=by
  intro a w w' ad h1 h2
  unfold execOp
  rw[ho]
  simp[Instr.storeAt,Instr.sureAddr,h1,h2]
 intro Γ σ' a w ow κ hag hr
 have e2:σ'.mem.get i=some (.row true es e rows):=by rw[hag.2.2 i (by simp),hi]
 obtain⟨_,o1,k1,k2⟩:=hag.ev hr hyo hy
 rw[e2]at k1
 cases k1
 obtain⟨b,n,cap,k3,k4⟩:=k2 rfl
 have hx:CR w (Γ.sees ow) x (a.eval q) []:=hag.ev hr hqo hq
 have hone:=hx.one
 have hcells:(a.eval q).cells=List.toArray [a.eval q]:=Value.cells_one hone
 obtain⟨vrows,bs,p1,p2,p3,p4,p5,p6⟩:=hr.objs i _ e2
 obtain⟨vr,u,b1,b2,b3,g0,g1,rfl,g3,g4⟩:=An.resplit p1 hro hold
 have hb2:=CR.plain_nil hp g3
 subst hb2
 have g5:=g4 x (a.eval q) [] hx
 have hob:(κ i).ownBlock=some b:=by rw[k3];rfl
 have hlr:r<vrows.length:=(List.getElem?_eq_some_iff.1 g0).1
 have hlo:off<vr.length:=(List.getElem?_eq_some_iff.1 g1).1
 have hvr:vr.length=es:=p3 vr (List.mem_of_getElem? g0)
 have hfl:=BS p3
 have hle:r*es+es≤vrows.length*es:=by
  have:(r+1)*es≤vrows.length*es:=Nat.mul_le_mul_right _ hlr
  rwa [Nat.add_mul,Nat.one_mul]at this
 obtain⟨cur,c1,c2,c3⟩:=EU p4 hob (off:=r*es+off) (us:=[a.eval q]) (by simp only[List.length_singleton];omega)
 have hrun:=DC ht c1 (off:=r*es+off) hcells rfl c2 (by simpa using hone)
 have hmine:ow b=some i:=p6 b (by simp[hob])
 have st:Step σ'.mem [(i,.row true es e (rows.set r (row.set off x)))] w ow κ (w.setRow b (C4 cur.toList (r*es+off) [a.eval q]).toArray) ow κ :=
  Step.write rfl rfl rfl (by simp) e2 rfl rfl (fun b' hb hne=>setRow_other w b b' _ (fun e=>hne (by rw[e];exact hmine))) (fun b i hb=>(hr.own b i hb).1)
 refine⟨undef,_,ow,κ,.inr ⟨fin k4 hrun,rfl⟩,hr.step (E:=⟨[],[(i,.row true es e (rows.set r (row.set off x)))],.skip⟩) st rfl (fun j hj o' ho'=>?_) o.dst⟩
 have hji:j=i:=by simpa using hj
 subst hji
 have:o'=.row true es e (rows.set r (row.set off x)):=by
  have:(σ'.mem.puts [(j,AO.row true es e (rows.set r (row.set off x)))]).get j=some o':=ho'
  simp[Mem.puts,Mem.get_put]at this
  exact this.symm
 subst this
 have hown:∀q,q∈b1++[]++b3→ow q=some j:=fun q hq=>p6 q (List.mem_append.2 (.inr hq))
 refine⟨vrows.set r (vr.set off (a.eval q)),b1++[]++b3,An.keep (by simp) (st.sees (Γ:=Γ)) (fun q hq _=>setRow_other w b q _ (fun e=>?_)) g5,fun h=>(by cases h),fun x hx=>?_,?_,p5,p6⟩
 ·subst e
  rw[List.nodup_append]at p5
  exact p5.2.2 q (by simp[hob]) q hq rfl
 ·rcases List.mem_or_eq_of_mem_set hx with hx | rfl
  ·exact p3 x hx
  ·rw[List.length_set];exact hvr
 ·have:=EO p3 r vr off [a.eval q] g0 (by simp only[List.length_singleton];omega)
  rw[TE hlo]at this
  rw[this,List.length_set]
  exact c3
theorem IW {d:Option Tmp}{ops:Array Oper}{r':List Oper}{τ:ASt}{fs:List AEff}{K:ASt→List AEff→Prop}{E:AEff}{ty ty':TypeId}{y q:Operand}{pos:String}{af:Array Edge}{gd:Option (Nat×Bool)}{i:Id}{es:Nat}{e:TypeId}{rows:List (List C)}{r off:Nat}{row:List C}{x old:C}{ti:TI}{by':Nat}{z:Option Value}
  (hg:CJ ops σ ⟨d,.store ty y q,ty',pos,af,gd⟩=some true) (hy:σ.ev y=.rptr i es r off) (hq:σ.ev q=.c x) (ht:tin P ty=some ⟨ti,1,by',z⟩)
  (hi:σ.mem.get i=some (.row true es e rows)) (hro:rows[r]? = some row) (hrl:row.length=es) (hold:row[off]? = some old) (hp:old.plain=true)
  (he:(⟨[],[(i,.row true es e (rows.set r (row.set off x)))],.skip⟩:AEff)=E) (hτ:σ.upd d E=τ) (h:Ay P ops r' τ (fs++[E]) K):Ay P ops (⟨d,.store ty y q,ty',pos,af,gd⟩::r') σ fs K:=by
 subst he
 refine Ca hg ?_ (Wc rfl hy hq ht hi hro hrl hold hp).sound hτ h
 simp[eff,Gc,ht,hq,AV.cells,AV.isCell,hy,hi]
theorem a2w {d:Option Tmp}{ops:Array Oper}{r':List Oper}{τ:ASt}{fs:List AEff}{K:ASt→List AEff→Prop}{E:AEff}{ty ty':TypeId}{y:Operand}{pos:String}{af:Array Edge}{gd:Option (Nat×Bool)}{i:Id}{es:Nat}{e:TypeId}{rows:List (List C)}{r off:Nat}{row:List C}{inner:List (List C)}{ti:TI}{size by':Nat}{z:Option Value}
  (hg:CJ ops σ ⟨d,.load ty y,ty',pos,af,gd⟩=some true) (hy:σ.ev y=.rptr i es r off) (ht:tin P ty=some ⟨ti,size,by',z⟩) (hag:ti.agg=some false)
  (hi:σ.mem.get i=some (.row true es e rows)) (hf:σ.mem.get (σ.fresh ⟨d,.load ty y,ty',pos,af,gd⟩)=none) (hr:rows[r]? = some row) (hro:row[off]? = some (.osl inner)) (hp:GI inner=true)
  (he:OG i es e rows r off (σ.fresh ⟨d,.load ty y,ty',pos,af,gd⟩) inner=E) (hτ:σ.upd d E=τ) (h:Ay P ops r' τ (fs++[E]) K):Ay P ops (⟨d,.load ty y,ty',pos,af,gd⟩::r') σ fs K:=by
 subst he
 refine Ca hg ?_ (a05 rfl hy ht hag hi hf hr hro hp).sound hτ h
 simp[eff,EN,ht,hag,hy,hi]
theorem a2s {d:Option Tmp}{ops:Array Oper}{r':List Oper}{τ:ASt}{fs:List AEff}{K:ASt→List AEff→Prop}{E:AEff}{fv:Operand}{args:Array Operand}{tys:Array TypeId}{ty:TypeId}{pos:String}{af:Array Edge}{gd:Option (Nat×Bool)}(i fr:Id) (n:Nat) {es:Nat}{e:TypeId}{rows:List (List C)}{r off:Nat}{row:List C}{inner inner':List (List C)}{res:AV}{f:FuncId}{caps cargs:List AV}
  (hac:∀es' e',(inner≠[]→es'=n)→AC P f cargs [((0,0),.row false es' e' inner)] res [((0,0),.row false es' e' inner')])
  (hg:CJ ops σ ⟨d,.call ⟨.value fv,args,tys⟩,ty,pos,af,gd⟩=some true) (hv:σ.ev fv=.clo f caps) (hc:A7 P f=true)
  (hm:BL (rn [((0,0),fr)]) σ.mem [] cargs (args.toList.map σ.ev++caps)) (hrefs:∀es' e',D3 [((0,0),.row false es' e' inner)] cargs=true)
  (hi:σ.mem.get i=some (.lent es e rows r off fr)) (hfr:σ.mem.get fr=some (.rown inner)) (hall:(inner.all fun x=>x.length==n)=true) (hr:rows[r]? = some row) (hro:decide (off<row.length)=true)
  (he:(⟨[],[(fr,.dead),(i,.row true es e (rows.set r (row.set off (.osl inner'))))],res.ren fun _=>fr⟩:AEff)=E)
  (hτ:σ.upd d E=τ) (h:Ay P ops r' τ (fs++[E]) K):Ay P ops (⟨d,.call ⟨.value fv,args,tys⟩,ty,pos,af,gd⟩::r') σ fs K:=by
 subst he
 refine Ca hg rfl ?_ hτ h
 intro Γ σ' a w hag ⟨ow,κ,hrel⟩ K' Q' hK
 have hne:fr≠i:=fun e=>by rw[e,hi]at hfr;cases hfr
 have gi:σ'.mem.get i=some (.lent es e rows r off fr):=by rw[hag.2.2 i (by simp),hi]
 have gf:σ'.mem.get fr=some (.rown inner):=by rw[hag.2.2 fr (by simp),hfr]
 obtain⟨es',e',vin,c1,c2,c3,c4⟩:=hrel.objs fr _ gf
 have hes:inner≠[]→es'=n:=by
  intro hne'
  have hl:=An.length c1
  cases inner with
  |nil=>exact absurd rfl hne'
  |cons x inner =>
   obtain⟨u,vs',b1,b2,rfl,_,h4,_⟩:=c1
   have q1:=CRs.length h4
   have q2:=c2 u (by simp)
   simp only[List.all_cons,Bool.and_eq_true,beq_iff_eq]at hall
   omega
 let σ1:ASt:=⟨σ'.slots,σ'.mem.put fr (.row false es' e' inner)⟩
 have hg1:∀j,σ1.mem.get j=if j=fr then some (.row false es' e' inner) else σ'.mem.get j:=fun j=>Mem.get_put _ _ _ _
 have hev:∀x,σ1.ev x=σ'.ev x:=fun x=>by cases x<;>rfl
 have hr1:RelAt Γ σ1 a w ow κ:=by
  have hm':∀k o',σ'.mem.get k=some o'→∃o2,σ1.mem.get k=some o2∧(o2=.dead∨(κ k=κ k∧o'≠.dead∧(o2.live=true→o'.live=true))):=by
   intro k o' hk
   rw[hg1]
   by_cases hkf:k=fr
   ·subst hkf
    rw[if_pos rfl]
    rw[gf]at hk
    cases hk
    exact⟨_,rfl,.inr ⟨rfl,by simp,fun _=>rfl⟩⟩
   ·rw[if_neg hkf]
    refine⟨o',hk,?_⟩
    by_cases hd:o'=.dead
    ·exact .inl hd
    ·exact .inr ⟨rfl,hd,id⟩
  have hid:∀b,Γ.sees ow b→b<w.heap.size→w.heap[b]? = w.heap[b]?∧Γ.sees ow b:=fun b hb _=>⟨rfl,hb⟩
  refine⟨hrel.len,hrel.defers,fun t=>AR.keep (Nat.le_refl _) hid hm' (hrel.slots t),fun k o' hk=>?_,fun b k hb=>?_,hrel.os,hrel.tape,hrel.output,hrel.size,hrel.frame,fun k hk=>?_⟩
  ·rw[hg1]at hk
   split at hk
   ·rename_i hkf
    cases hk
    subst hkf
    refine⟨vin,[],c1,fun _=>rfl,c2,c3,?_,?_⟩
    ·cases (κ k).ownBlock<;>simp
    ·intro b hb
     exact c4 b (by simpa using hb)
   ·exact OR.keep (Nat.le_refl _) hid hm' rfl (fun b hb _=>⟨rfl,hb⟩) (fun b hb=>(hrel.own b k hb).1) (hrel.objs k o' hk)
  ·obtain⟨g1,o2,g2,g3⟩:=hrel.own b k hb
   refine⟨g1,?_⟩
   by_cases hkf:k=fr
   ·exact⟨.row false es' e' inner,by rw[hg1,if_pos hkf],rfl⟩
   ·exact⟨o2,by rw[hg1,if_neg hkf];exact g2,g3⟩
  ·obtain⟨g1,o2,g2⟩:=hrel.kap k hk
   obtain⟨o3,g4,_⟩:=hm' k o2 g2
   exact⟨g1,o3,g4⟩
 have hargs:args.toList.map σ1.ev=args.toList.map σ.ev:=by
  apply List.map_congr_left
  intro x hx
  rw[hev]
  exact hag.1 x (by simp only[Op.operands,Call.operands];exact Array.mem_append.2 (.inr (by simpa using hx)))
 have hfv:σ1.ev fv=.clo f caps:=by
  rw[hev,hag.1 fv (by simp[Op.operands,Call.operands]),hv]
 have hs:=N8 (o:=⟨d,.call ⟨.value fv,args,tys⟩,ty,pos,af,gd⟩) (σ:=σ1) rfl hfv hc (hac es' e' hes) (by rw[hargs];exact BL.agree (by simp) hm) (hrefs es' e') (Fits.own (σ:=σ1) (j:=fr) (o':=.row false es' e' inner') (by rw[hg1,if_pos rfl]) rfl)
 refine hs Γ σ1 a w (Gy.refl _ _ _) ⟨ow,κ,hr1⟩ K' Q' fun a' w' hr'=>hK a' w' ?_
 have hmm:∀(l:List (Id×AO)) (dst:Option Tmp) (E:AEff),(σ1.upd dst E).mem=σ1.mem.puts E.wr:=fun _ _ _=>rfl
 have gi':(σ1.upd d (Bl (rn [((0,0),fr)]) [] [] (fun _=>fr) [((0,0),.row false es' e' inner)] res [((0,0),.row false es' e' inner')])).mem.get i=some (.lent es e rows r off fr):=by
  show ((σ1.mem.put fr .dead).put fr (.row false es' e' inner')).get i=_
  rw[Mem.get_put,if_neg (Ne.symm hne),Mem.get_put,if_neg (Ne.symm hne),hg1,if_neg (Ne.symm hne),gi]
 have gf':(σ1.upd d (Bl (rn [((0,0),fr)]) [] [] (fun _=>fr) [((0,0),.row false es' e' inner)] res [((0,0),.row false es' e' inner')])).mem.get fr=some (.row false es' e' inner'):=by
  show ((σ1.mem.put fr .dead).put fr (.row false es' e' inner')).get fr=_
  rw[Mem.get_put,if_pos rfl]
 have hb:=hr'.putback gi' gf' hr (by simpa using hro)
 refine hb.eqv ⟨rfl,fun k=>?_⟩
 show ((((σ1.mem.put fr .dead).put fr (.row false es' e' inner')).put fr .dead).put i _).get k=((σ'.mem.put fr .dead).put i _).get k
 rw[Mem.get_put,Mem.get_put,Mem.get_put,Mem.get_put,hg1,Mem.get_put,Mem.get_put]
 by_cases h1:k=i
 ·rw[if_pos h1,if_pos h1]
 ·rw[if_neg h1,if_neg h1]
  by_cases h2:k=fr
  ·rw[if_pos h2,if_pos h2]
  ·rw[if_neg h2,if_neg h2,if_neg h2,if_neg h2,if_neg h2]
end
attribute [go_sem] C.plain GT GI OG
end
section
open Go.RowKit
theorem MA {w:World}{base:Nat}{e:TypeId}{es n:Nat}{v:Value}{cs:List Value}(h:w.ownsRow base e es v n cs):v.oneCell'=true:=by
 rcases h.2 with⟨rfl,_⟩ | ⟨g,cap,cur,rfl,_⟩<;>rfl
section
variable {P:Program} {o:Oper} {σ:ASt}
theorem a04 {ty ety:TypeId}{y lo:Operand}{i:Id}{es:Nat}{e:TypeId}{ex:Bool}{rows:List (List C)}{k:IntKind}{n:Int}{s b by':Nat}{z z':Option Value}{ti:TI}(ho:o.op=.slice ty y (some lo) none none) (hy:σ.ev y=.own i) (hlo:σ.ev lo=.c (.int k n)) (ht:tin P ty=some ⟨.sl ety,s,b,z⟩) (ht':tin P ety=some ⟨ti,es,by',z'⟩)
  (hi:σ.mem.get i=some (.row ex es e rows)) (hn:0≤n∧n≤rows.length):AB P o σ ⟨[i],[],.part i es n.toNat⟩:=by
 refine AB.pure fun Γ σ' a w ow κ hag hr=>?_
 have hi':σ'.mem.get i=some (.row ex es e rows):=by rw[hag.2.1 i (by simp),hi]
 have e2:=AR.int (hag.ev hr (by rw[ho];simp[Op.operands]) hlo)
 obtain⟨_,o1,k1,k2⟩:=hag.ev hr (by rw[ho];simp[Op.operands]) hy
 rw[hi']at k1
 cases k1
 have e1:=k2 (by simp)
 obtain⟨vrows,bs,_,_,_,h4,_,_⟩:=hr.objs i _ hi'
 have hex:∀v,(Instr.sliceAt ty (a.eval y) (some (a.eval lo)) none none).run P w=.ok v w→(execOp a.eval o).run P w=.ok (.value v) w:=by
  intro v hv
  unfold execOp
  rw[ho]
  simp[hv]
 rcases h4.2 with⟨hk,h0⟩ | ⟨g,cap,cur,hk,_,_,hc,_,_⟩
 ·have hn0:n=0:=by omega
  subst hn0
  have hb:(Instr.sliceBounds true 0 0 (some (a.eval lo)) none none).run P w=.ok (0,0,0) w:=by
   rw[e2]
   have:=run_sliceBound (P:=P) w k 0 0 (.sliceB) (by omega) (by omega)
   simp[Instr.sliceBounds,this]
  refine⟨_,hex _ (by rw[e1,hk];exact Cm ht ht' hb),?_,_,hi',fun _=>.inr ⟨hk,?_⟩⟩
  ·simp[sliced,Value.oneCell']
  ·simp[sliced]
 ·have hb:(Instr.sliceBounds true rows.length cap (some (a.eval lo)) none none).run P w=.ok (n.toNat,rows.length,cap) w:=by
   rw[e2]
   have:=run_sliceBound (P:=P) w k n rows.length (.sliceB) hn.1 hn.2
   simp[Instr.sliceBounds,this]
  refine⟨_,hex _ (by rw[e1,hk];exact Cm ht ht' hb),?_,_,hi',fun _=>.inl ⟨g,rows.length,cap,hk,rfl⟩⟩
  simp[sliced,Value.oneCell']
theorem TB {w:World}{base:Nat}{e:TypeId}{es n:Nat}{v:Value}{xs:List (List Value)}(h:w.ownsRow base e es v n xs.flatten) (hl:∀x∈xs,x.length=es) (hn:n=xs.length) {m:Nat}(hm:m≤n) :
  (v=.slice none 0 0∧m=0)∨∃g cap,v=.slice (some ⟨g,0,none⟩) n cap∧n≤cap∧w.ownsRow base e es (.slice (some ⟨g,0,none⟩) m cap) m (xs.take m).flatten:=by
 rcases h.2 with⟨hk,h0⟩ | ⟨g,cap,cur,hk,h1,h2,hc,h3,h4,h5⟩
 ·exact .inl ⟨hk,by omega⟩
 ·refine .inr ⟨g,cap,hk,hc,?_,.inr ⟨g,cap,cur,rfl,h1,h2,by omega,h3,h4,?_⟩⟩
  ·rw[BS (fun x hx=>hl x (List.mem_of_mem_take hx)),List.length_take,show min m xs.length=m by omega]
  ·have h6:(xs.take m).flatten=xs.flatten.take (m*es):=by
    have hq:xs.flatten=(xs.take m).flatten++(xs.drop m).flatten:=by rw[←List.flatten_append,List.take_append_drop]
    have hlen:(xs.take m).flatten.length=m*es:=by
     rw[BS (fun x hx=>hl x (List.mem_of_mem_take hx)),List.length_take,show min m xs.length=m by omega]
    rw[hq,List.take_left' hlen]
   rw[h6,←h5,List.take_take]
   congr 1
   have:m*es≤n*es:=Nat.mul_le_mul_right _ hm
   omega
theorem S2 {xs:List (List Value)}{es:Nat}(hl:∀x∈xs,x.length=es) {m:Nat}(hm:m≤xs.length):xs.flatten.take (m*es)=(xs.take m).flatten:=by
 have hq:xs.flatten=(xs.take m).flatten++(xs.drop m).flatten:=by rw[←List.flatten_append,List.take_append_drop]
 have hlen:(xs.take m).flatten.length=m*es:=by
  rw[BS (fun x hx=>hl x (List.mem_of_mem_take hx)),List.length_take,show min m xs.length=m by omega]
 rw[hq,List.take_left' hlen]
theorem Z1 {ty ety:TypeId}{y:Operand}{i:Id}{es:Nat}{e:TypeId}{rows:List (List C)}{n:Nat}{s b by':Nat}{z:Option Value}{zv:Value}{ti:TI}{cells:List AV}{zc:List C}(ho:o.op=.call ⟨.builtin .clear,#[y],#[ty]⟩) (hy:σ.ev y=.part i es n) (ht:tin P ty=some ⟨.sl ety,s,b,z⟩) (ht':tin P ety=some ⟨ti,es,by',some zv⟩)
  (hz:Lx (some zv)=some cells) (hcs:OI (fun _=>none) cells=some (zc,[],[])) (hzl:zc.length=es) (hes:0<es) (hi:σ.mem.get i=some (.row false es e rows)) (hn:n≤rows.length) :
  AB P o σ ⟨[],[(i,.row false es e (rows.take n++List.replicate (rows.length-n) zc))],.tup []⟩:=by
 intro Γ σ' a w ow κ hag hr
 have hi':σ'.mem.get i=some (.row false es e rows):=by rw[hag.2.2 i (by simp),hi]
 obtain⟨_,o1,k1,k2⟩:=hag.ev hr (by rw[ho];simp[Op.operands,Call.operands]) hy
 rw[hi']at k1
 cases k1
 have k3:=k2 rfl
 obtain⟨v,us,hv,g1,g2,g3⟩:=Jw (w:=w) (S:=Γ.sees ow) (m:=σ'.mem) (κ:=κ) hz
 cases hv
 obtain⟨bs0,q1,q2,q3⟩:=J0 hr hcs (by simp) (by simp) g2
 have:bs0=[]:=by
  cases bs0 with
  |nil=>rfl
  |cons b bs=>obtain⟨j,hj,_⟩:=q3 b (by simp);simp at hj
 subst this
 have hul:us.length=es:=by rw[←hzl];exact CRs.length q1
 obtain⟨vrows,bs,h1,h2,h3,h4,h5,h6⟩:=hr.objs i _ hi'
 have hbs:=h2 rfl
 subst hbs
 have hvl:=An.length h1
 have hex:∀w',(Builtin.clear_ #[ty] o.type #[a.eval y]).run P w=.ok (.tuple #[]) w'→(execOp a.eval o).run P w=.ok (.value (.tuple #[])) w':=by
  intro w' hw
  unfold execOp
  rw[ho]
  simp[resolve,invoke,builtin,hw]
 -- nothing turns
 have idle:n=rows.length→(Builtin.clear_ #[ty] o.type #[a.eval y]).run P w=.ok (.tuple #[]) w→∃v w' ow' κ',((execOp a.eval o).run P w=.ok (.value v) w'∨((execOp a.eval o).run P w=.ok .skip w'∧v=undef))∧RelAt Γ (σ'.upd o.dst ⟨[],[(i,.row false es e (rows.take n++List.replicate (rows.length-n) zc))],.tup []⟩) (a.put o.dst v) w' ow' κ':=by
  intro hnl hw
  have hrows:rows.take n++List.replicate (rows.length-n) zc=rows:=by rw[hnl,Nat.sub_self,List.take_length];simp
  rw[hrows]
  have st:Step σ'.mem [(i,.row false es e rows)] w ow κ w ow κ :=
   Step.write rfl rfl rfl rfl hi' rfl rfl (fun _ _ _=>rfl) (fun b i hb=>(hr.own b i hb).1)
  refine⟨_,w,ow,κ,.inl (hex w hw),hr.step (E:=⟨[],[(i,.row false es e rows)],.tup []⟩) st ⟨[],rfl,rfl⟩ (fun j hj o' ho'=>?_) o.dst⟩
  have hji:j=i:=by simpa using hj
  subst hji
  have:o'=.row false es e rows:=by
   have:(σ'.mem.puts [(j,AO.row false es e rows)]).get j=some o':=ho'
   simp[Mem.puts,Mem.get_put]at this
   exact this.symm
  subst this
  exact⟨vrows,[],An.keep (Nat.le_refl _) (st.sees (Γ:=Γ)) (by simp) h1,fun _=>rfl,h3,h4,h5,h6⟩
 have hu:=GW ht
 rcases k3 with⟨g,n',cap,k4,k5⟩ | ⟨k4,k5⟩
 ·have hown:=h4
  rw[k4]at hown
  rcases hown.2 with⟨hh,_⟩ | ⟨g',cap',cur,hh,_,hcur,hcap,hmax,hsz,htake⟩
  ·cases hh
  ·simp only[Value.slice.injEq,Option.some.injEq,Addr.mk.injEq,and_true]at hh
   obtain⟨rfl,hn',rfl⟩:=hh
   subst hn'
   by_cases hlast:n=rows.length
   ·refine idle hlast ?_
    rw[k5]
    simp only[sliced]
    rw[show rows.length-n=0 by omega]
    simp[Builtin.clear_,run_underlying hu]
    split<;>simp_all
   ·have hcn:¬cap=n:=by omega
    have hadd:(⟨g,0,none⟩:Addr).add (n*es)=⟨g,n*es,none⟩:=by
     unfold Addr.add
     split
     ·rename_i h0;simp[h0]
     ·simp
    have hob:(κ i).ownBlock=some g:=by rw[k4];rfl
    have hfl:=BS h3
    have hzs:((List.replicate (rows.length-n) us).flatten).length=(rows.length-n)*es:=by rw[BS (size:=es) (by intro x hx;rw[List.mem_replicate]at hx;rw[hx.2,hul]),List.length_replicate]
    have htot:n*es+(rows.length-n)*es=rows.length*es:=by rw[←Nat.add_mul];congr 1;omega
    obtain⟨cur',c1,c2,c3⟩:=EU h4 hob (off:=n*es) (us:=(List.replicate (rows.length-n) us).flatten) (by rw[hzs,hfl,hvl];omega)
    have hrun:=run_storeCells_at (P:=P) g (n*es) e (List.replicate (rows.length-n) us).flatten 0 cur' w c1 (by rw[hzs]at c2 ⊢;omega) (by
     intro v hv
     rw[List.mem_flatten]at hv
     obtain⟨l,hl,hv⟩:=hv
     rw[List.mem_replicate]at hl
     rw[hl.2]at hv
     exact g3 v hv)
    rw[Nat.add_zero]at hrun
    have hw:(Builtin.clear_ #[ty] o.type #[a.eval y]).run P w=.ok (.tuple #[]) (w.setRow g (C4 cur'.toList (n*es) (List.replicate (rows.length-n) us).flatten).toArray):=by
     rw[k5]
     simp only[sliced,if_neg hcn,Option.map_some,hadd]
     obtain⟨m,hm⟩:∃m,rows.length-n=m+1:=⟨rows.length-n-1,by omega⟩
     have hzc:(Builtin.zeroCells zv.cells (rows.length-n)).toList=(List.replicate (rows.length-n) us).flatten:=by
      rw[g1,←FN us (by omega)]
      simp[Builtin.zeroCells,madeCells]
     have hrun':(storeCells ⟨g,n*es,none⟩ (List.replicate (rows.length-n) us).flatten).run P w=.ok () (w.setRow g (C4 cur'.toList (n*es) (List.replicate (rows.length-n) us).flatten).toArray):=hrun
     rw[←hzc,hm]at hrun'
     rw[←hzc,hm]
     simp[Builtin.clear_,run_underlying hu,Gt ht',hrun']
    have hmine:ow g=some i:=h6 g (by simp[hob])
    have st:Step σ'.mem [(i,.row false es e (rows.take n++List.replicate (rows.length-n) zc))] w ow κ (w.setRow g (C4 cur'.toList (n*es) (List.replicate (rows.length-n) us).flatten).toArray) ow κ :=
     Step.write rfl rfl rfl (by simp) hi' rfl rfl (fun b' hb hne=>setRow_other w g b' _ (fun e=>hne (by rw[e];exact hmine))) (fun b i hb=>(hr.own b i hb).1)
    refine⟨_,_,ow,κ,.inl (hex _ hw),hr.step (E:=⟨[],[(i,.row false es e (rows.take n++List.replicate (rows.length-n) zc))],.tup []⟩) st ⟨[],rfl,rfl⟩ (fun j hj o' ho'=>?_) o.dst⟩
    have hji:j=i:=by simpa using hj
    subst hji
    have:o'=.row false es e (rows.take n++List.replicate (rows.length-n) zc):=by
     have:(σ'.mem.puts [(j,AO.row false es e (rows.take n++List.replicate (rows.length-n) zc))]).get j=some o':=ho'
     simp[Mem.puts,Mem.get_put]at this
     exact this.symm
    subst this
    refine⟨vrows.take n++List.replicate (rows.length-n) us,[],An.keep (by simp) (st.sees (Γ:=Γ)) (by simp) (An.append (An.take n h1) (G9 q1 _)),fun _=>rfl,fun x hx=>?_,?_,h5,h6⟩
    ·simp only[List.mem_append,List.mem_replicate]at hx
     rcases hx with hx | ⟨_,rfl⟩
     ·exact h3 x (List.mem_of_mem_take hx)
     ·exact hul
    ·have hlen:(rows.take n++List.replicate (rows.length-n) zc).length=rows.length:=by simp;omega
     rw[hlen,List.flatten_append,←S2 h3 (by omega)]
     have:C4 vrows.flatten (n*es) (List.replicate (rows.length-n) us).flatten=vrows.flatten.take (n*es)++(List.replicate (rows.length-n) us).flatten:=by
      unfold C4
      rw[List.drop_eq_nil_of_le (by rw[hzs,hfl,hvl];omega),List.append_nil]
     rw[←this]
     exact c3
 ·have h0:rows.length=0:=by
   rw[k4]at h4
   rcases h4.2 with⟨_,hh⟩ | ⟨g',cap',cur,hh,_⟩
   ·exact hh
   ·cases hh
  refine idle (by omega) ?_
  rw[k5]
  simp[Builtin.clear_,run_underlying hu]
theorem W9 {ty ety:TypeId}{y hi:Operand}{i fr:Id}{es:Nat}{e:TypeId}{rows:List (List C)}{k:IntKind}{n:Int}{s b by':Nat}{z z':Option Value}{ti:TI}(ho:o.op=.slice ty y none (some hi) none) (hy:σ.ev y=.own i) (hhi:σ.ev hi=.c (.int k n)) (ht:tin P ty=some ⟨.sl ety,s,b,z⟩) (ht':tin P ety=some ⟨ti,es,by',z'⟩)
  (hi1:σ.mem.get i=some (.row false es e rows)) (hf:σ.mem.get fr=none) (hn:0≤n∧n≤rows.length):AB P o σ ⟨[],[(i,.dead),(fr,.row false es e (rows.take n.toNat))],.own fr⟩:=by
 intro Γ σ' a w ow κ hag hr
 have hi':σ'.mem.get i=some (.row false es e rows):=by rw[hag.2.2 i (by simp),hi1]
 have hf':σ'.mem.get fr=none:=by rw[hag.2.2 fr (by simp),hf]
 have hne:i≠fr:=fun e=>by rw[e,hf]at hi1;cases hi1
 have e2:=AR.int (hag.ev hr (by rw[ho];simp[Op.operands]) hhi)
 obtain⟨_,o1,k1,k2⟩:=hag.ev hr (by rw[ho];simp[Op.operands]) hy
 rw[hi']at k1
 cases k1
 have e1:=k2 (by simp)
 obtain⟨vrows,bs,h1,h2,h3,h4,h5,h6⟩:=hr.objs i _ hi'
 have hbs:=h2 rfl
 subst hbs
 have hvl:=An.length h1
 have hex:∀v,(Instr.sliceAt ty (a.eval y) none (some (a.eval hi)) none).run P w=.ok v w→(execOp a.eval o).run P w=.ok (.value v) w:=by
  intro v hv
  unfold execOp
  rw[ho]
  simp[hv]
 -- the value that comes out, and that it owns the beginning
 obtain⟨v,hv1,hv2,hv3⟩:∃v,(Instr.sliceAt ty (a.eval y) none (some (a.eval hi)) none).run P w=.ok v w∧w.ownsRow 0 e es v n.toNat (vrows.take n.toNat).flatten∧v.ownBlock=(κ i).ownBlock:=by
  rcases TB h4 h3 hvl.symm (m:=n.toNat) (by omega) with⟨hk,h0⟩ | ⟨g,cap,hk,hcap,hown⟩
  ·have hb:(Instr.sliceBounds true 0 0 none (some (a.eval hi)) none).run P w=.ok (0,0,0) w:=by
    rw[e2]
    have hn0:n=0:=by omega
    subst hn0
    have:=run_sliceBound (P:=P) w k 0 0 (.sliceAcap) (by omega) (by omega)
    simp[Instr.sliceBounds,this]
   refine⟨.slice none 0 0,?_,?_,by rw[hk]⟩
   ·rw[e1,hk]
    have:=Cm ht ht' (A:=none) hb
    simpa [sliced] using this
   ·rw[h0]
    simp only[List.take_zero,List.flatten_nil]
    exact World.ownsRow_nil _ _ _ _
  ·have hb:(Instr.sliceBounds true rows.length cap none (some (a.eval hi)) none).run P w=.ok (0,n.toNat,cap) w:=by
    rw[e2]
    have:=run_sliceBound (P:=P) w k n cap (.sliceAcap) hn.1 (by omega)
    simp[Instr.sliceBounds,this]
   refine⟨.slice (some ⟨g,0,none⟩) n.toNat cap,?_,hown,by rw[hk];rfl⟩
   rw[e1,hk]
   have:=Cm ht ht' (A:=some ⟨g,0,none⟩) hb
   have hs0:sliced (some ⟨g,0,none⟩) 0 n.toNat cap es=.slice (some ⟨g,0,none⟩) n.toNat cap:=by
    simp only[sliced,Nat.zero_mul,Nat.sub_zero]
    split
    ·rfl
    ·simp[Addr.add]
   rw[hs0]at this
   exact this
 have st:Step σ'.mem ([i].map (fun i=>(i,AO.dead))++[(fr,.row false es e (rows.take n.toNat))]) w ow κ w (DK ow [i] fr v.ownBlock) (Dg κ fr v) :=
  Step.make (ks:=[i]) rfl rfl rfl (Nat.le_refl _) hf' (by simpa using hne) rfl (fun _ _ _=>rfl) (fun b hb=>by
   have hb':ow b=some i:=h6 b (by rw[hv3]at hb;simp[hb])
   exact⟨(hr.own b i hb').1,.inr ⟨i,by simp,hb'⟩⟩) hr.owns
 have hone:=MA hv2
 refine⟨v,w,_,_,.inl (hex v hv1),hr.step (E:=⟨[],[(i,.dead),(fr,.row false es e (rows.take n.toNat))],.own fr⟩) st ⟨hone,_,Cy (ks:=[i]) (by simpa using hne),fun _=>by simp[Dg]⟩ (fun j hj o' ho'=>?_) o.dst⟩
 by_cases hjf:j=fr
 ·subst hjf
  have hh:=(Cy (m:=σ'.mem) (ks:=[i]) (fr:=j) (obj:=.row false es e (rows.take n.toNat)) (by simpa using hne)).symm.trans ho'
  cases hh
  have hkk:Dg κ j v j=v:=by simp[Dg]
  refine⟨vrows.take n.toNat,[],An.keep (Nat.le_refl _) (st.sees (Γ:=Γ)) (by simp) (An.take n.toNat h1),fun _=>rfl,fun x hx=>h3 x (List.mem_of_mem_take hx),?_,?_,?_⟩
  ·rw[hkk,show (rows.take n.toNat).length=n.toNat by rw[List.length_take];omega]
   exact hv2
  ·rw[hkk,hv3]
   exact h5
  ·intro b hb
   rw[hkk]at hb
   unfold DK
   have:v.ownBlock=some b:=by simpa using hb
   rw[if_pos this]
 ·have hin:j=i:=by simpa [hjf] using hj
  subst hin
  have hh:=(Fi (m:=σ'.mem) (ks:=[j]) (fr:=fr) (obj:=.row false es e (rows.take n.toNat)) (i:=j) (by simp) hne).symm.trans ho'
  cases hh
  trivial
section
variable {d:Option Tmp} {ops:Array Oper} {r':List Oper} {τ:ASt} {fs:List AEff} {K:ASt→List AEff→Prop} {E:AEff} {ty':TypeId} {pos:String} {af:Array Edge} {gd:Option (Nat×Bool)}
theorem a2t {ty ety:TypeId}{y lo:Operand}{i:Id}{es:Nat}{e:TypeId}{ex:Bool}{rows:List (List C)}{k:IntKind}{n:Int}{s b by':Nat}{z z':Option Value}{ti:TI}(hg:CJ ops σ ⟨d,.slice ty y (some lo) none none,ty',pos,af,gd⟩=some true) (hy:σ.ev y=.own i) (hlo:σ.ev lo=.c (.int k n)) (ht:tin P ty=some ⟨.sl ety,s,b,z⟩) (ht':tin P ety=some ⟨ti,es,by',z'⟩)
  (hi:σ.mem.get i=some (.row ex es e rows)) (hn:0≤n∧n≤rows.length) (he:(⟨[i],[],.part i es n.toNat⟩:AEff)=E) (hτ:σ.upd d E=τ) (h:Ay P ops r' τ (fs++[E]) K):Ay P ops (⟨d,.slice ty y (some lo) none none,ty',pos,af,gd⟩::r') σ fs K:=by
 subst he
 exact Ca hg rfl (a04 rfl hy hlo ht ht' hi hn).sound hτ h
theorem a0g {ty ety:TypeId}{y:Operand}{i:Id}{es:Nat}{e:TypeId}{rows:List (List C)}{n:Nat}{s b by':Nat}{z:Option Value}{zv:Value}{ti:TI}{cells:List AV}{zc:List C}(hg:CJ ops σ ⟨d,.call ⟨.builtin .clear,#[y],#[ty]⟩,ty',pos,af,gd⟩=some true) (hy:σ.ev y=.part i es n) (ht:tin P ty=some ⟨.sl ety,s,b,z⟩) (ht':tin P ety=some ⟨ti,es,by',some zv⟩)
  (hz:Lx (some zv)=some cells) (hcs:OI (fun _=>none) cells=some (zc,[],[])) (hzl:zc.length=es) (hes:0<es) (hi:σ.mem.get i=some (.row false es e rows)) (hn:n≤rows.length)
  (he:(⟨[],[(i,.row false es e (rows.take n++List.replicate (rows.length-n) zc))],.tup []⟩:AEff)=E) (hτ:σ.upd d E=τ) (h:Ay P ops r' τ (fs++[E]) K):Ay P ops (⟨d,.call ⟨.builtin .clear,#[y],#[ty]⟩,ty',pos,af,gd⟩::r') σ fs K:=by
 subst he
 exact Ca hg rfl (Z1 rfl hy ht ht' hz hcs hzl hes hi hn).sound hτ h
theorem Q8 {ty ety:TypeId}{y hi:Operand}{i:Id}{es:Nat}{e:TypeId}{rows:List (List C)}{k:IntKind}{n:Int}{s b by':Nat}{z z':Option Value}{ti:TI}(hg:CJ ops σ ⟨d,.slice ty y none (some hi) none,ty',pos,af,gd⟩=some true) (hy:σ.ev y=.own i) (hhi:σ.ev hi=.c (.int k n)) (ht:tin P ty=some ⟨.sl ety,s,b,z⟩) (ht':tin P ety=some ⟨ti,es,by',z'⟩)
  (hi1:σ.mem.get i=some (.row false es e rows)) (hf:σ.mem.get (σ.fresh ⟨d,.slice ty y none (some hi) none,ty',pos,af,gd⟩)=none) (hn:0≤n∧n≤rows.length)
  (he:(⟨[],[(i,.dead),(σ.fresh ⟨d,.slice ty y none (some hi) none,ty',pos,af,gd⟩,.row false es e (rows.take n.toNat))],.own (σ.fresh ⟨d,.slice ty y none (some hi) none,ty',pos,af,gd⟩)⟩:AEff)=E) (hτ:σ.upd d E=τ) (h:Ay P ops r' τ (fs++[E]) K):Ay P ops (⟨d,.slice ty y none (some hi) none,ty',pos,af,gd⟩::r') σ fs K:=by
 subst he
 exact Ca hg rfl (W9 rfl hy hhi ht ht' hi1 hf hn).sound hτ h
end
end
section
variable {P:Program} {ops:Array Oper} {r:List Oper} {σ τ:ASt} {fs:List AEff} {K:ASt→List AEff→Prop} {E:AEff}
theorem Fits.cons {j fr:Id}{ex:Bool}{es:Nat}{e:TypeId}{rows:List (List C)}{o':AO}{res:AV}(hm:σ.mem.get j=some (.row ex es e rows)) (hf:σ.mem.get fr=none) (hl:o'.live=true) :
  Fits σ (rn [((0,0),j)]) [] [] false (fun _=>fr) [((0,0),.row ex es e rows)] res [((1,0),o')]:=by
 have hr:rn [((0,0),j)] (0,0)=some j:=rfl
 have one:∀p,p∈[(((0:Nat),(0:Nat)),AO.row ex es e rows)]→p=((0,0),.row ex es e rows):=fun p hp=>by simpa using hp
 refine⟨⟨?_,?_,?_,?_,by simp⟩,?_,by simp,by simp,?_,?_,by simp,by simp,by simp,fun h=>by cases h⟩
 ·intro p hp
  rw[one p hp]
  simp only[En,hr]
  exact .inl hm
 ·intro p hp
  rw[one p hp]
  rfl
 ·intro p q hp hq _ _ _ _ _
  rw[one p hp,one q hq]
 ·intro p _ _ _ _
  simp
 ·intro p hp
  rw[one p hp]
  rfl
 ·intro p hp
  have:p=((1,0),o'):=by simpa using hp
  subst this
  exact hl
 ·intro p hp
  have:p=((1,0),o'):=by simpa using hp
  subst this
  exact .inr ⟨rfl,hf⟩
theorem MX {d:Option Tmp}{fv:Operand}{args:Array Operand}{tys:Array TypeId}{ty:TypeId}{pos:String}{af:Array Edge}{gd:Option (Nat×Bool)}(j:Id) {ex:Bool}{es:Nat}{e:TypeId}{rows:List (List C)}{o':AO}{res:AV}{f:FuncId}{caps cargs:List AV}
  (hac:AC P f cargs [((0,0),.row ex es e rows)] res [((1,0),o')]) (hg:CJ ops σ ⟨d,.call ⟨.value fv,args,tys⟩,ty,pos,af,gd⟩=some true) (hv:σ.ev fv=.clo f caps) (hc:A7 P f=true)
  (hm:BL (rn [((0,0),j)]) σ.mem [] cargs (args.toList.map σ.ev++caps)) (hrefs:D3 [((0,0),.row ex es e rows)] cargs=true) (hget:σ.mem.get j=some (.row ex es e rows)) (hfr:σ.mem.get (σ.fresh ⟨d,.call ⟨.value fv,args,tys⟩,ty,pos,af,gd⟩)=none) (hl:o'.live=true)
  (he:(⟨[],[(j,.dead),(σ.fresh ⟨d,.call ⟨.value fv,args,tys⟩,ty,pos,af,gd⟩,o'.ren fun _=>σ.fresh ⟨d,.call ⟨.value fv,args,tys⟩,ty,pos,af,gd⟩)],res.ren fun _=>σ.fresh ⟨d,.call ⟨.value fv,args,tys⟩,ty,pos,af,gd⟩⟩:AEff)=E)
  (hτ:σ.upd d E=τ) (h:Ay P ops r τ (fs++[E]) K):Ay P ops (⟨d,.call ⟨.value fv,args,tys⟩,ty,pos,af,gd⟩::r) σ fs K:=by
 subst he
 exact Jm hac hg hv hc hm hrefs (Fits.cons hget hfr hl) hτ h
end
theorem z7 (n m:Nat):(0≤(n:Int)∧(n:Int)≤(m:Int))=(n≤m):=by
 apply propext
 omega
attribute [go_sem] z7
end
section
open Go.RowKit
def TY (P:Program) (ops:Array Oper) (σ:ASt) (o:Oper):Option AEff :=
 match CJ ops σ o with
 |none=>none
 |some false=>some JR
 |some true=>match eff P σ.ev σ.mem.get (σ.fresh o) o with
  |some E=>some E
  |none=>XF P false σ.ev σ.mem.get (σ.fresh o) o
theorem LT {P:Program}{ops:Array Oper}{r:List Oper}{o:Oper}{σ τ:ASt}{fs:List AEff}{K:ASt→List AEff→Prop}{E:AEff}(he:TY P ops σ o=some E) (hτ:σ.upd o.dst E=τ) (h:Ay P ops r τ (fs++[E]) K):Ay P ops (o::r) σ fs K:=by
 unfold TY at he
 split at he
 ·cases he
 ·rename_i hg
  cases he
  exact a2u hg hτ h
 ·rename_i hg
  split at he
  ·rename_i E' h1
   cases he
   exact a2v hg h1 hτ h
  ·rename_i h0
   exact a0k hg h0 he hτ h
theorem PK (ops:Array Oper) (σ:ASt) (d:Option Tmp) (op:Op) (ty:TypeId) (pos:String) (af:Array Edge):CJ ops σ ⟨d,op,ty,pos,af,none⟩=some true:=rfl
def PJ (want:Bool):AV→Option Bool
 | .c (.bool b)=>some (bif want then b else !b)
 | .skip=>some false
 |_=>none
theorem US (want b:Bool):PJ want (.c (.bool b))=some (bif want then b else !b):=rfl
theorem UT (want:Bool):PJ want .skip=some false:=rfl
def a3n (σ:ASt) (want:Bool):Option Tmp→Option Bool
 |some t=>PJ want (σ.slot t)
 |none=>none
theorem UR (σ:ASt) (want:Bool) (t:Tmp):a3n σ want (some t)=PJ want (σ.slot t):=rfl
theorem XS (ops:Array Oper) (σ:ASt) (d:Option Tmp) (op:Op) (ty:TypeId) (pos:String) (af:Array Edge) (j:Nat) (want:Bool):CJ ops σ ⟨d,op,ty,pos,af,some (j,want)⟩=a3n σ want ((ops[j]?).bind (·.dst)):=by
 show (match (ops[j]?).bind (·.dst) with
  |some t=>(match σ.slot t with
   | .c (.bool b)=>some (b==want)
   | .skip=>some false
   |_=>none)
  |none=>none)=_
 generalize (ops[j]?).bind (·.dst)=q
 cases q with
 |none=>rfl
 |some t =>
  show (match σ.slot t with
   | .c (.bool b)=>some (b==want)
   | .skip=>some false
   |_=>none)=PJ want (σ.slot t)
  unfold PJ
  split
  ·rename_i b _;cases b<;>cases want<;>rfl
  ·rfl
  ·rfl
theorem Xg {P:Program}{x:List Id}{Q:X→ASt→Prop}{σ:ASt}{c:Operand}{a b:Code}{t:Bool}(ht:σ.ev c=.c (.bool t)) (h:awp P x (bif t then a else b) Q σ):awp P x (.cond c a b) Q σ:=by
 cases t
 ·exact a1s ht h
 ·exact a3u ht h
theorem LS {ops:Array Oper}{fs:List AEff}{fp:List (List Id×List Id)}{R:Prop}(hf:fs.map i6=fp) (hi:UV ops fp=true) (h:R):Iu ops fs=true∧R:=⟨UW hf hi,h⟩
section
variable {P:Program} {ops:Array Oper} {σ τ:ASt} {r:List Oper} {fs:List AEff} {K:ASt→List AEff→Prop} {E:AEff}
theorem BB {d:Option Tmp}{fv:Operand}{args:Array Operand}{tys:Array TypeId}{ty:TypeId}{pos:String}{af:Array Edge}{gd:Option (Nat×Bool)}(bw:List Id) {res:AV}{i:Id}{ob:AO}{f:FuncId}{caps cargs:List AV}
  (hac:AC P f cargs [] res [(i,ob)]) (hg:CJ ops σ ⟨d,.call ⟨.value fv,args,tys⟩,ty,pos,af,gd⟩=some true) (hv:σ.ev fv=.clo f caps) (hc:A7 P f=true)
  (hm:BL (fun _=>none) σ.mem bw cargs (args.toList.map σ.ev++caps)) (hrefs:D3 [] cargs=true) (hfr:σ.mem.get (σ.fresh ⟨d,.call ⟨.value fv,args,tys⟩,ty,pos,af,gd⟩)=none) (hl:ob.live=true)
  (hnd:bw.Nodup) (hc1:res.closed=true) (hc2:ob.closed=true) (he:(⟨bw,[]++[(σ.fresh ⟨d,.call ⟨.value fv,args,tys⟩,ty,pos,af,gd⟩,ob.ren fun _=>σ.fresh ⟨d,.call ⟨.value fv,args,tys⟩,ty,pos,af,gd⟩)],res.ren fun _=>σ.fresh ⟨d,.call ⟨.value fv,args,tys⟩,ty,pos,af,gd⟩⟩:AEff)=E)
  (hτ:σ.upd d E=τ) (h:Ay P ops r τ (fs++[E]) K):Ay P ops (⟨d,.call ⟨.value fv,args,tys⟩,ty,pos,af,gd⟩::r) σ fs K :=
 a0j true bw hac hg hv hc hm hrefs hfr hl rfl (fun h=>by cases h) hnd (fun _=>⟨hc1,hc2⟩) he hτ h
theorem AU {d:Option Tmp}{fv:Operand}{args:Array Operand}{tys:Array TypeId}{ty:TypeId}{pos:String}{af:Array Edge}{gd:Option (Nat×Bool)}(bw:List Id) {fz:List (Id×AO)}{res:AV}{i:Id}{ob:AO}{f:FuncId}{caps cargs:List AV}
  (hac:AC P f cargs [] res [(i,ob)]) (hg:CJ ops σ ⟨d,.call ⟨.value fv,args,tys⟩,ty,pos,af,gd⟩=some true) (hv:σ.ev fv=.clo f caps) (hc:A7 P f=true)
  (hm:BL (fun _=>none) σ.mem bw cargs (args.toList.map σ.ev++caps)) (hrefs:D3 [] cargs=true) (hfr:σ.mem.get (σ.fresh ⟨d,.call ⟨.value fv,args,tys⟩,ty,pos,af,gd⟩)=none) (hl:ob.live=true)
  (hfz:Mj σ.mem bw=fz) (hids:fz.map (·.1)=bw) (hnd:bw.Nodup) (he:(⟨bw,fz++[(σ.fresh ⟨d,.call ⟨.value fv,args,tys⟩,ty,pos,af,gd⟩,ob.ren fun _=>σ.fresh ⟨d,.call ⟨.value fv,args,tys⟩,ty,pos,af,gd⟩)],res.ren fun _=>σ.fresh ⟨d,.call ⟨.value fv,args,tys⟩,ty,pos,af,gd⟩⟩:AEff)=E)
  (hτ:σ.upd d E=τ) (h:Ay P ops r τ (fs++[E]) K):Ay P ops (⟨d,.call ⟨.value fv,args,tys⟩,ty,pos,af,gd⟩::r) σ fs K :=
 a0j false bw hac hg hv hc hm hrefs hfr hl hfz (fun _=>hids) hnd (fun h=>by cases h) he hτ h
end
attribute [go_sem] TY PK XS US UT UR List.getElem?_toArray Option.bind_some i6
end
section
open Go.RowKit
def rnF (l:List (Id×Id)) (i:Id):Id:=(rn l i).getD i
theorem a5e (l:List (Id×Id)) (i:Id):rnF l i=(rn l i).getD i:=rfl
section
variable {P:Program} {ops:Array Oper} {r:List Oper} {σ τ:ASt} {fs:List AEff} {K:ASt→List AEff→Prop} {E:AEff}
theorem Fits.of (ρ ρ':List (Id×Id)) {m:Mem}{res:AV}{m':Mem}(h1:Qs (rn ρ) σ.mem [] m) (h2:(m.all fun p=>p.2.refs m)=true) (h3:(m.map (·.1)).Nodup) (h4:(m.filterMap fun p=>if p.2.live then rn ρ p.1 else none).Nodup)
  (hl:(m.all fun p=>p.2.live)=true) (hl':(m'.all fun p=>p.2.live)=true) (hnd:(m'.map fun p=>rnF ρ' p.1).Nodup) (hnd':(m'.map (·.1)).Nodup)
  (hnew:∀p,p∈m'→((m.get p.1).isSome=true∧rn ρ p.1=some (rnF ρ' p.1))∨(m.get p.1=none∧σ.mem.get (rnF ρ' p.1)=none)):Fits σ (rn ρ) [] [] false (rnF ρ') m res m':=by
 refine⟨MatM.of h1 h2 h3 h4 (by simp),fun p hp=>List.all_eq_true.1 hl p hp,hnd,hnd',fun p hp=>List.all_eq_true.1 hl' p hp,fun p hp=>?_,by simp,by simp,by simp,fun h=>by cases h⟩
 rcases hnew p hp with⟨g1,g2⟩ | g
 ·obtain⟨o,ho⟩:=Option.isSome_iff_exists.1 g1
  exact .inl ⟨o,ho,g2⟩
 ·exact .inr g
theorem Am (ρ ρ':List (Id×Id)) {d:Option Tmp}{fv:Operand}{args:Array Operand}{tys:Array TypeId}{ty:TypeId}{pos:String}{af:Array Edge}{gd:Option (Nat×Bool)}{m:Mem}{res:AV}{m':Mem}{f:FuncId}{caps cargs:List AV}
  (hac:AC P f cargs m res m') (hg:CJ ops σ ⟨d,.call ⟨.value fv,args,tys⟩,ty,pos,af,gd⟩=some true) (hv:σ.ev fv=.clo f caps) (hc:A7 P f=true)
  (hm:BL (rn ρ) σ.mem [] cargs (args.toList.map σ.ev++caps)) (hrefs:D3 m cargs=true) (h1:Qs (rn ρ) σ.mem [] m) (h2:(m.all fun p=>p.2.refs m)=true) (h3:(m.map (·.1)).Nodup) (h4:(m.filterMap fun p=>if p.2.live then rn ρ p.1 else none).Nodup)
  (hl:(m.all fun p=>p.2.live)=true) (hl':(m'.all fun p=>p.2.live)=true) (hnd:(m'.map fun p=>rnF ρ' p.1).Nodup) (hnd':(m'.map (·.1)).Nodup)
  (hnew:∀p,p∈m'→((m.get p.1).isSome=true∧rn ρ p.1=some (rnF ρ' p.1))∨(m.get p.1=none∧σ.mem.get (rnF ρ' p.1)=none))
  (he:(⟨[],FD (rn ρ) m++m'.map (fun p=>(rnF ρ' p.1,p.2.ren (rnF ρ'))),res.ren (rnF ρ')⟩:AEff)=E) (hτ:σ.upd d E=τ) (h:Ay P ops r τ (fs++[E]) K):Ay P ops (⟨d,.call ⟨.value fv,args,tys⟩,ty,pos,af,gd⟩::r) σ fs K:=by
 subst he
 have:=Jm hac hg hv hc hm hrefs (Fits.of ρ ρ' h1 h2 h3 h4 hl hl' hnd hnd' hnew) (τ:=τ) (r:=r) (fs:=fs) (K:=K)
 unfold Bl at this
 rw[List.append_nil]at this
 exact this hτ h
theorem a02 {o:Oper}{ty ty2:TypeId}{x y:Operand}{k yk:IntKind}{n:Nat}(ho:o.op=.binOp .shr ty x y ty2) (hx:σ.ev x=.c (.int k (n:Int))) (hy:σ.ev y=.c (.int yk 1)):AB P o σ ⟨[],[],.c (.int k ((n / 2:Nat):Int))⟩:=by
 refine AB.pure fun Γ σ' a w ow κ hag hr=>?_
 have e1:=AR.int (hag.ev hr (by rw[ho];simp[Op.operands]) hx)
 have e2:=AR.int (hag.ev hr (by rw[ho];simp[Op.operands]) hy)
 refine⟨_,?_,⟨rfl,rfl⟩⟩
 unfold execOp
 rw[ho]
 have hb:min (1:Int).toNat k.bits=1:=by cases k<;>rfl
 have hf:(n:Int).fdiv 2=((n / 2:Nat):Int):=by
  rw[Int.fdiv_eq_ediv_of_nonneg _ (by decide)]
  omega
 have hg:(eqGuard .shr ty x y (.int k (n:Int)) (.int yk 1)).run P w=.ok () w:=rfl
 have hq:(binOp .shr ty (.int k (n:Int)) (.int yk 1)).run P w=.ok (.int k ((n / 2:Nat):Int)) w:=by
  simp only[binOp,Op.shift,hb]
  simp[hf]
 simp only[e1,e2,Sem.run_bind,hg,hq,Result.andThen_ok,Sem.run_pure]
theorem Em {d:Option Tmp}{ty ty2 ty':TypeId}{x y:Operand}{k yk:IntKind}{n:Nat}{pos:String}{af:Array Edge}{gd:Option (Nat×Bool)}(hg:CJ ops σ ⟨d,.binOp .shr ty x y ty2,ty',pos,af,gd⟩=some true) (hx:σ.ev x=.c (.int k (n:Int))) (hy:σ.ev y=.c (.int yk 1))
  (hτ:σ.upd d ⟨[],[],.c (.int k ((n / 2:Nat):Int))⟩=τ) (h:Ay P ops r τ (fs++[⟨[],[],.c (.int k ((n / 2:Nat):Int))⟩]) K):Ay P ops (⟨d,.binOp .shr ty x y ty2,ty',pos,af,gd⟩::r) σ fs K:=by
 refine Ca hg ?_ (a02 rfl hx hy).sound hτ h
 have h1:LG .shr (σ.ev x) (σ.ev y)=none:=by
  rw[hx,hy]
  simp[LG]
 have h2:LH P .shr ty (σ.ev x) (σ.ev y)=none:=by
  rw[hx,hy]
  unfold LH
  split<;>simp
 simp[eff,h1,h2]
end
attribute [go_sem] a5e FD
end
section
open Go.RowKit
section
variable {P:Program} {o:Oper} {σ:ASt}
theorem P6 {ty:TypeId}{y q:Operand}{i j:Id}{es:Nat}{e:TypeId}{rows:List (List C)}{r off:Nat}{row:List C}{old:C}{ti:TI}{by':Nat}{z:Option Value}{oj:AO}(ho:o.op=.store ty y q) (hy:σ.ev y=.rptr i es r off) (hq:σ.ev q=.own j) (ht:tin P ty=some ⟨ti,1,by',z⟩) (hne:j≠i)
  (hj:σ.mem.get j=some oj) (hjd:oj≠.dead) (hi:σ.mem.get i=some (.row true es e rows)) (hro:rows[r]? = some row) (hrl:row.length=es) (hold:row[off]? = some old) (hp:old.plain=true):AB P o σ ⟨[j],[(i,.lent es e rows r off j)],.skip⟩:=by
 have hyo:y∈o.op.operands:=by rw[ho];simp[Op.operands]
 have hqo:q∈o.op.operands:=by rw[ho];simp[Op.operands]
 have fin:∀{a:Act} {w w':World} {ad:Addr},a.eval y=.pointer (some ad)→(storeVar ty ad (a.eval q)).run P w=.ok () w'→(execOp a.eval o).run P w=.ok .skip w':=by
  intro a w w' ad h1 h2
  unfold execOp
  rw[ho]
  simp[Instr.storeAt,Instr.sureAddr,h1,h2]
 intro Γ σ' a w ow κ hag hr
 have e2:σ'.mem.get i=some (.row true es e rows):=by rw[hag.2.2 i (by simp),hi]
 have e3:σ'.mem.get j=some oj:=by rw[hag.2.1 j (by simp),hj]
 obtain⟨_,o1,k1,k2⟩:=hag.ev hr hyo hy
 rw[e2]at k1
 cases k1
 obtain⟨b,n,cap,k3,k4⟩:=k2 rfl
 obtain⟨hone,o2,q1,q2⟩:(a.eval q).oneCell'=true∧∃o,σ'.mem.get j=some o∧(o≠.dead→a.eval q=κ j):=hag.ev hr hqo hq
 rw[e3]at q1
 cases q1
 have hvj:=q2 hjd
 have hx:CR w (Γ.sees ow) (.raw (a.eval q)) (a.eval q) []:=⟨rfl,hone,rfl⟩
 have hcells:(a.eval q).cells=List.toArray [a.eval q]:=Value.cells_one hone
 obtain⟨vrows,bs,p1,p2,p3,p4,p5,p6⟩:=hr.objs i _ e2
 obtain⟨vr,u,b1,b2,b3,g0,g1,rfl,g3,g4⟩:=An.resplit p1 hro hold
 have hb2:=CR.plain_nil hp g3
 subst hb2
 have g5:=g4 (.raw (a.eval q)) (a.eval q) [] hx
 have hob:(κ i).ownBlock=some b:=by rw[k3];rfl
 have hlr:r<vrows.length:=(List.getElem?_eq_some_iff.1 g0).1
 have hlo:off<vr.length:=(List.getElem?_eq_some_iff.1 g1).1
 have hvr:vr.length=es:=p3 vr (List.mem_of_getElem? g0)
 have hfl:=BS p3
 have hle:r*es+es≤vrows.length*es:=by
  have:(r+1)*es≤vrows.length*es:=Nat.mul_le_mul_right _ hlr
  rwa [Nat.add_mul,Nat.one_mul]at this
 obtain⟨cur,c1,c2,c3⟩:=EU p4 hob (off:=r*es+off) (us:=[a.eval q]) (by simp only[List.length_singleton];omega)
 have hrun:=DC ht c1 (off:=r*es+off) hcells rfl c2 (by simpa using hone)
 have hmine:ow b=some i:=p6 b (by simp[hob])
 have st:Step σ'.mem [(i,.lent es e rows r off j)] w ow κ (w.setRow b (C4 cur.toList (r*es+off) [a.eval q]).toArray) ow κ :=
  Step.write rfl rfl rfl (by simp) e2 rfl rfl (fun b' hb hne=>setRow_other w b b' _ (fun e=>hne (by rw[e];exact hmine))) (fun b i hb=>(hr.own b i hb).1)
 refine⟨undef,_,ow,κ,.inr ⟨fin k4 hrun,rfl⟩,hr.step (E:=⟨[j],[(i,.lent es e rows r off j)],.skip⟩) st rfl (fun k hk o' ho'=>?_) o.dst⟩
 have hki:k=i:=by simpa using hk
 subst hki
 have:o'=.lent es e rows r off j:=by
  have:(σ'.mem.puts [(k,AO.lent es e rows r off j)]).get k=some o':=ho'
  simp[Mem.puts,Mem.get_put]at this
  exact this.symm
 subst this
 have hown:∀q,q∈b1++[]++b3→ow q=some k:=fun q hq=>p6 q (List.mem_append.2 (.inr hq))
 have hhol:JK rows r off (.raw (a.eval q))=rows.set r (row.set off (.raw (a.eval q))):=by
  unfold JK
  rw[List.getD_eq_getElem?_getD,hro,Option.getD_some]
 refine⟨a.eval q,vrows.set r (vr.set off (a.eval q)),b1++[]++b3,?_,fun x hx=>?_,?_,p5,p6,oj,?_,fun _=>hvj⟩
 ·rw[hhol]
  refine An.keep (by simp) (st.sees (Γ:=Γ)) (fun q hq _=>setRow_other w b q _ (fun e=>?_)) g5
  subst e
  rw[List.nodup_append]at p5
  exact p5.2.2 q (by simp[hob]) q hq rfl
 ·rcases List.mem_or_eq_of_mem_set hx with hx | rfl
  ·exact p3 x hx
  ·rw[List.length_set];exact hvr
 ·have:=EO p3 r vr off [a.eval q] g0 (by simp only[List.length_singleton];omega)
  rw[TE hlo]at this
  rw[this]
  exact c3
 ·show (σ'.mem.puts [(k,AO.lent es e rows r off j)]).get j=some oj
  simp only[Mem.puts,Mem.get_put,if_neg hne]
  exact e3
theorem a2r {d:Option Tmp}{ops:Array Oper}{r':List Oper}{τ:ASt}{fs:List AEff}{K:ASt→List AEff→Prop}{E:AEff}{ty ty':TypeId}{y q:Operand}{pos:String}{af:Array Edge}{gd:Option (Nat×Bool)}{i j:Id}{es es':Nat}{e e':TypeId}{rows inner:List (List C)}{r off:Nat}{row:List C}{old:C}{ti:TI}{by':Nat}{z:Option Value}
  (hg:CJ ops σ ⟨d,.store ty y q,ty',pos,af,gd⟩=some true) (hy:σ.ev y=.rptr i es r off) (hq:σ.ev q=.own j) (ht:tin P ty=some ⟨ti,1,by',z⟩) (hne:(j != i)=true)
  (hj:σ.mem.get j=some (.row false es' e' inner)) (hi:σ.mem.get i=some (.row true es e rows)) (hro:rows[r]? = some row) (hrl:row.length=es) (hold:row[off]? = some old) (hp:old.plain=true)
  (he:(⟨[],[(i,.lent es e rows r off j),(j,.dead),(i,.row true es e (rows.set r (row.set off (.osl inner))))],.skip⟩:AEff)=E) (hτ:σ.upd d E=τ) (h:Ay P ops r' τ (fs++[E]) K):Ay P ops (⟨d,.store ty y q,ty',pos,af,gd⟩::r') σ fs K:=by
 subst he
 have hne':j≠i:=by simpa using hne
 refine Ca hg ?_ ?_ hτ h
 ·simp[eff,Gc,ht,hq,AV.cells,AV.isCell,hy,hi]
 ·intro Γ σ' a w hag hrel K' Q' hK
  have gi:σ'.mem.get i=some (.row true es e rows):=by rw[hag.2.2 i (by simp),hi]
  have gj:σ'.mem.get j=some (.row false es' e' inner):=by rw[hag.2.2 j (by simp),hj]
  have hag1:Gy σ' σ ⟨d,.store ty y q,ty',pos,af,gd⟩ ⟨[j],[(i,.lent es e rows r off j)],.skip⟩ :=
   ⟨hag.1,fun k hk=>by (have hh:k=j:=(by simpa using hk));subst hh;rw[gj,hj],fun k hk=>by (have hh:k=i:=(by simpa using hk));subst hh;rw[gi,hi]⟩
  refine (P6 (o:=⟨d,.store ty y q,ty',pos,af,gd⟩) rfl hy hq ht hne' hj (by simp) hi hro hrl hold hp).sound Γ σ' a w hag1 hrel K' Q' fun a' w' hr1=>hK a' w' ?_
  have g1:(σ'.upd d ⟨[j],[(i,.lent es e rows r off j)],.skip⟩).mem.get i=some (.lent es e rows r off j):=by
   show (σ'.mem.puts [(i,AO.lent es e rows r off j)]).get i=_
   simp[Mem.puts,Mem.get_put]
  have g2:(σ'.upd d ⟨[j],[(i,.lent es e rows r off j)],.skip⟩).mem.get j=some (.row false es' e' inner):=by
   show (σ'.mem.puts [(i,AO.lent es e rows r off j)]).get j=_
   simp only[Mem.puts,Mem.get_put,if_neg hne']
   exact gj
  exact Rel.putback hr1 g1 g2 hro (List.getElem?_eq_some_iff.1 hold).1
theorem AC.says {f:FuncId}{args:List AV}{m n m':Mem}{r res:AV}(ρ:List (Id×Id)) (bw:List Id) (h:AC P f args m r n) (hm:Mat (rn ρ) n bw res r) (hr:res.refs m'=true) (h1:Qs (rn ρ) n bw m') (h2:(m'.all fun p=>p.2.refs m')=true) (h3:(m'.map (·.1)).Nodup)
  (h4:(m'.filterMap fun p=>if p.2.live then rn ρ p.1 else none).Nodup) (h5:∀j,j∈(m'.filterMap fun p=>if p.2.live then rn ρ p.1 else none)→j ∉ bw) (h6:∀p,p∈m→(m'.get p.1).isSome=true→rn ρ p.1=some p.1∧(n.get p.1).isSome=true):AC P f args m res m':=by
 intro Γ vals hE hA
 have hM:=MatM.of h1 h2 h3 h4 h5
 refine (h Γ vals hE hA).mono ?_
 rintro e w ⟨v,ow,κ,rfl,hx⟩
 have hS:∀b,Γ.sees ow b→Γ.sees (CA (rn ρ) m' ow) b:=fun b hb=>⟨Dt hb.1,hb.2⟩
 have hT:∀b j,j∈bw→ow b=some j→Γ.sees (CA (rn ρ) m' ow) b:=fun b j hj hb=>⟨IY hM hj hb,by
  by_cases h1:Γ.w.heap.size≤b
  ·exact .inr (.inl h1)
  ·by_cases h2:Γ.ow b=none
   ·have:=(hx.frame b (by omega) h2).2
    rw[this]at hb
    cases hb
   ·exact .inr (.inr h2)⟩
 refine⟨v,CA (rn ρ) m' ow,Dp (rn ρ) κ,rfl,Mat.rep hM hS hT hx.objs hm hr hx.res,fun i o hi=>En.rep hM hS hT hx.objs hi,fun b i hb=>?_,hx.os,hx.tape,hx.output,hx.size,fun b hb h0=>?_,fun i o o' hi hi'=>?_⟩
 ·obtain⟨⟨o,h1,h2⟩,j,_,h3⟩:=EB hM.nd hb
  exact⟨(hx.own b j h3).1,o,h1,h2⟩
 ·obtain⟨h1,h2⟩:=hx.frame b hb h0
  exact⟨h1,Dt h2⟩
 ·obtain⟨g1,g2⟩:=h6 (i,o) (Mem.mem_of_get hi) (by simp[hi'])
  simp only at g1
  simp only[Dp,g1]
  obtain⟨o2,ho2⟩:=Option.isSome_iff_exists.1 g2
  exact hx.kap i o o2 hi ho2
end
end
section
open Go.RowKit
section
variable {w:World} {S:Nat→Prop}
theorem An.rerow:∀{x:List (List C)}{v:List (List Value)}{bs:List Nat},An w S x v bs→∀{r:Nat}{row:List C},x[r]? = some row→GT row=true→∃vr b1 b3,v[r]? = some vr∧bs=b1++b3∧∀row' vr' b',CRs w S row' vr' b'→An w S (x.set r row') (v.set r vr') (b1++b'++b3)
 | [],_,_,_,r,row,hr,_=>by simp at hr
 |y::x,v,bs,h,r,row,hr,hp=>by
  obtain⟨vr,vs',d1,d2,rfl,rfl,h1,h2⟩:=h
  cases r with
  |zero =>
   simp only[List.getElem?_cons_zero,Option.some.injEq]at hr
   subst hr
   have:=CRs.plain_nil hp h1
   subst this
   exact⟨vr,[],d2,rfl,rfl,fun row' vr' b' h'=>⟨vr',vs',b',d2,rfl,rfl,h',h2⟩⟩
  |succ r =>
   simp only[List.getElem?_cons_succ]at hr
   obtain⟨vr',b1,b3,g0,rfl,g4⟩:=An.rerow h2 hr hp
   exact⟨vr',d1++b1,b3,g0,by simp,fun row' vr2 b' h'=>⟨vr,vs'.set r vr2,d1,b1++b'++b3,rfl,by simp,h1,g4 row' vr2 b' h'⟩⟩
theorem ARs.data {m:Mem}{κ:Id→Value}:∀{cs:List C}{vs:List Value},ARs w S m κ (cs.map .c) vs→CRs w S cs vs []
 | [],vs,h=>⟨h,rfl⟩
 |c::cs,vs,h=>by
  obtain⟨v,vs',rfl,h1,h2⟩:=h
  exact⟨v,vs',[],[],rfl,rfl,h1,ARs.data h2⟩
theorem ARs.split {m:Mem}{κ:Id→Value}:∀{xs ys:List AV}{vs:List Value},ARs w S m κ (xs++ys) vs→∃v1 v2,vs=v1++v2∧ARs w S m κ xs v1∧ARs w S m κ ys v2
 | [],ys,vs,h=>⟨[],vs,rfl,rfl,h⟩
 |x::xs,ys,vs,h=>by
  obtain⟨v,vs',rfl,h1,h2⟩:=h
  obtain⟨v1,v2,rfl,h3,h4⟩:=ARs.split h2
  exact⟨v::v1,v2,rfl,⟨v,v1,rfl,h1,h3⟩,h4⟩
end
section
variable {P:Program} {o:Oper} {σ:ASt}
theorem a0t {α:Type}{l us:List α}(h:us.length=l.length):C4 l 0 us=us:=by
 unfold C4
 rw[List.take_zero,List.nil_append,Nat.zero_add,List.drop_of_length_le (by omega),List.append_nil]
theorem RR {ty:TypeId}{y q:Operand}{i j:Id}{es:Nat}{e:TypeId}{rows:List (List C)}{r:Nat}{row cs1 cs2:List C}{ti:TI}{by':Nat}{z:Option Value}{oj:AO}(ho:o.op=.store ty y q) (hy:σ.ev y=.rptr i es r 0) (hq:σ.ev q=.agg (cs1.map .c++.own j::cs2.map .c)) (ht:tin P ty=some ⟨ti,es,by',z⟩) (hne:j≠i)
  (hj:σ.mem.get j=some oj) (hjd:oj≠.dead) (hi:σ.mem.get i=some (.row true es e rows)) (hro:rows[r]? = some row) (hrl:row.length=es) (hnl:cs1.length+1+cs2.length=es) (hp:GT row=true):AB P o σ ⟨[j],[(i,.lent es e (rows.set r (cs1++.sl []::cs2)) r cs1.length j)],.skip⟩:=by
 have hyo:y∈o.op.operands:=by rw[ho];simp[Op.operands]
 have hqo:q∈o.op.operands:=by rw[ho];simp[Op.operands]
 have fin:∀{a:Act} {w w':World} {ad:Addr},a.eval y=.pointer (some ad)→(storeVar ty ad (a.eval q)).run P w=.ok () w'→(execOp a.eval o).run P w=.ok .skip w':=by
  intro a w w' ad h1 h2
  unfold execOp
  rw[ho]
  simp[Instr.storeAt,Instr.sureAddr,h1,h2]
 intro Γ σ' a w ow κ hag hr
 have e2:σ'.mem.get i=some (.row true es e rows):=by rw[hag.2.2 i (by simp),hi]
 have e3:σ'.mem.get j=some oj:=by rw[hag.2.1 j (by simp),hj]
 obtain⟨_,o1,k1,k2⟩:=hag.ev hr hyo hy
 rw[e2]at k1
 cases k1
 obtain⟨b,n,cap,k3,k4⟩:=k2 rfl
 obtain⟨us,hus,hars,hones⟩:=AV.cells_rep (hag.ev hr hqo hq) (xs:=cs1.map .c++.own j::cs2.map .c) rfl
 obtain⟨u1,u2,rfl,ha1,ha2⟩:=ARs.split hars
 obtain⟨vj,u3,rfl,haj,ha3⟩:=ha2
 obtain⟨hone,o2,q1,q2⟩:vj.oneCell'=true∧∃o,σ'.mem.get j=some o∧(o≠.dead→vj=κ j):=haj
 rw[e3]at q1
 cases q1
 have hvj:=q2 hjd
 have hc1:=ARs.data ha1
 have hc3:=ARs.data ha3
 have hrow:CRs w (Γ.sees ow) (cs1++.raw vj::cs2) (u1++vj::u3) []:=CRs.append hc1 ⟨vj,u3,[],[],rfl,rfl,⟨rfl,hone,rfl⟩,hc3⟩
 obtain⟨vrows,bs,p1,p2,p3,p4,p5,p6⟩:=hr.objs i _ e2
 obtain⟨vr,b1,b3,g0,rfl,g4⟩:=An.rerow p1 hro hp
 have g5:=g4 _ _ _ hrow
 have hob:(κ i).ownBlock=some b:=by rw[k3];rfl
 have hlr:r<vrows.length:=(List.getElem?_eq_some_iff.1 g0).1
 have hvr:vr.length=es:=p3 vr (List.mem_of_getElem? g0)
 have hul:(u1++vj::u3).length=es:=by
  have h1:=CRs.length hrow
  simp only[List.length_append,List.length_cons]at h1 ⊢
  omega
 have hfl:=BS p3
 have hle:r*es+es≤vrows.length*es:=by
  have:(r+1)*es≤vrows.length*es:=Nat.mul_le_mul_right _ hlr
  rwa [Nat.add_mul,Nat.one_mul]at this
 obtain⟨cur,c1,c2,c3⟩:=EU p4 hob (off:=r*es+0) (us:=u1++vj::u3) (by rw[hul];omega)
 have hrun:=DC ht c1 (off:=r*es+0) hus hul c2 hones
 have hmine:ow b=some i:=p6 b (by simp[hob])
 have st:Step σ'.mem [(i,.lent es e (rows.set r (cs1++.sl []::cs2)) r cs1.length j)] w ow κ (w.setRow b (C4 cur.toList (r*es+0) (u1++vj::u3)).toArray) ow κ :=
  Step.write rfl rfl rfl (by simp) e2 rfl rfl (fun b' hb hne=>setRow_other w b b' _ (fun e=>hne (by rw[e];exact hmine))) (fun b i hb=>(hr.own b i hb).1)
 refine⟨undef,_,ow,κ,.inr ⟨fin k4 hrun,rfl⟩,hr.step (E:=⟨[j],[(i,.lent es e (rows.set r (cs1++.sl []::cs2)) r cs1.length j)],.skip⟩) st rfl (fun k hk o' ho'=>?_) o.dst⟩
 have hki:k=i:=by simpa using hk
 subst hki
 have:o'=.lent es e (rows.set r (cs1++.sl []::cs2)) r cs1.length j:=by
  have:(σ'.mem.puts [(k,AO.lent es e (rows.set r (cs1++.sl []::cs2)) r cs1.length j)]).get k=some o':=ho'
  simp[Mem.puts,Mem.get_put]at this
  exact this.symm
 subst this
 have hrr:r<rows.length:=(List.getElem?_eq_some_iff.1 hro).1
 have hhol:JK (rows.set r (cs1++.sl []::cs2)) r cs1.length (.raw vj)=rows.set r (cs1++.raw vj::cs2):=by
  unfold JK
  rw[List.getD_eq_getElem?_getD,List.getElem?_set_self hrr,Option.getD_some,List.set_set,List.set_append_right _ _ (Nat.le_refl _),Nat.sub_self,List.set_cons_zero]
 refine⟨vj,vrows.set r (u1++vj::u3),b1++[]++b3,?_,fun x hx=>?_,?_,by simpa using p5,by simpa using p6,oj,?_,fun _=>hvj⟩
 ·rw[hhol]
  refine An.keep (by simp) (st.sees (Γ:=Γ)) (fun q hq _=>setRow_other w b q _ (fun e=>?_)) g5
  subst e
  rw[List.nodup_append]at p5
  exact p5.2.2 q (by simp[hob]) q (by simpa using hq) rfl
 ·rcases List.mem_or_eq_of_mem_set hx with hx | rfl
  ·exact p3 x hx
  ·exact hul
 ·have:=EO p3 r vr 0 (u1++vj::u3) g0 (by rw[hul];omega)
  rw[a0t (by rw[hul,hvr])]at this
  rw[this,List.length_set]
  exact c3
 ·show (σ'.mem.puts [(k,AO.lent es e (rows.set r (cs1++.sl []::cs2)) r cs1.length j)]).get j=some oj
  simp only[Mem.puts,Mem.get_put,if_neg hne]
  exact e3
theorem VK {d:Option Tmp}{ops:Array Oper}{r':List Oper}{τ:ASt}{fs:List AEff}{K:ASt→List AEff→Prop}{E:AEff}(cs1 cs2:List C) {ty ty':TypeId}{y q:Operand}{pos:String}{af:Array Edge}{gd:Option (Nat×Bool)}{i j:Id}{es es':Nat}{e e':TypeId}{rows inner:List (List C)}{r:Nat}{row:List C}{ti:TI}{by':Nat}{z:Option Value}
  (hg:CJ ops σ ⟨d,.store ty y q,ty',pos,af,gd⟩=some true) (hy:σ.ev y=.rptr i es r 0) (hq:σ.ev q=.agg (cs1.map .c++.own j::cs2.map .c)) (ht:tin P ty=some ⟨ti,es,by',z⟩) (hne:(j != i)=true)
  (hj:σ.mem.get j=some (.row false es' e' inner)) (hi:σ.mem.get i=some (.row true es e rows)) (hro:rows[r]? = some row) (hrl:row.length=es) (hnl:cs1.length+1+cs2.length=es) (hp:GT row=true)
  (he:(⟨[],[(i,.lent es e (rows.set r (cs1++.sl []::cs2)) r cs1.length j),(j,.dead),(i,.row true es e (rows.set r (cs1++.osl inner::cs2)))],.skip⟩:AEff)=E) (hτ:σ.upd d E=τ) (h:Ay P ops r' τ (fs++[E]) K):Ay P ops (⟨d,.store ty y q,ty',pos,af,gd⟩::r') σ fs K:=by
 subst he
 have hne':j≠i:=by simpa using hne
 refine Ca hg ?_ ?_ hτ h
 ·simp only[eff,Gc,ht,hq,AV.cells,hy,hi]
  split<;>rfl
 ·intro Γ σ' a w hag hrel K' Q' hK
  have gi:σ'.mem.get i=some (.row true es e rows):=by rw[hag.2.2 i (by simp),hi]
  have gj:σ'.mem.get j=some (.row false es' e' inner):=by rw[hag.2.2 j (by simp),hj]
  have hag1:Gy σ' σ ⟨d,.store ty y q,ty',pos,af,gd⟩ ⟨[j],[(i,.lent es e (rows.set r (cs1++.sl []::cs2)) r cs1.length j)],.skip⟩ :=
   ⟨hag.1,fun k hk=>by (have hh:k=j:=(by simpa using hk));subst hh;rw[gj,hj],fun k hk=>by (have hh:k=i:=(by simpa using hk));subst hh;rw[gi,hi]⟩
  refine (RR (o:=⟨d,.store ty y q,ty',pos,af,gd⟩) rfl hy hq ht hne' hj (by simp) hi hro hrl hnl hp).sound Γ σ' a w hag1 hrel K' Q' fun a' w' hr1=>hK a' w' ?_
  have g1:(σ'.upd d ⟨[j],[(i,.lent es e (rows.set r (cs1++.sl []::cs2)) r cs1.length j)],.skip⟩).mem.get i=some (.lent es e (rows.set r (cs1++.sl []::cs2)) r cs1.length j):=by
   show (σ'.mem.puts [(i,AO.lent es e (rows.set r (cs1++.sl []::cs2)) r cs1.length j)]).get i=_
   simp[Mem.puts,Mem.get_put]
  have g2:(σ'.upd d ⟨[j],[(i,.lent es e (rows.set r (cs1++.sl []::cs2)) r cs1.length j)],.skip⟩).mem.get j=some (.row false es' e' inner):=by
   show (σ'.mem.puts [(i,AO.lent es e (rows.set r (cs1++.sl []::cs2)) r cs1.length j)]).get j=_
   simp only[Mem.puts,Mem.get_put,if_neg hne']
   exact gj
  have hrr:r<rows.length:=(List.getElem?_eq_some_iff.1 hro).1
  have:=Rel.putback hr1 g1 g2 (r:=r) (off:=cs1.length) (row:=cs1++.sl []::cs2) (by rw[List.getElem?_set_self hrr]) (by simp)
  rw[List.set_set,List.set_append_right _ _ (Nat.le_refl _),Nat.sub_self,List.set_cons_zero]at this
  exact this
end
end
end Go.Proofs.YtcejfdfmgmcinaaGreat
