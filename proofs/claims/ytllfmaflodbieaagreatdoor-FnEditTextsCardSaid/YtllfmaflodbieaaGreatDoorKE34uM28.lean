/- Texts of this proof: E34 M28. -/
import Derived.Test.YtllfmaflodbieaaGreatDoorKG73uG30
set_option linter.all false
namespace Go.Proofs.YtllfmaflodbieaaGreatDoor
section
open Go.RowKit
section
variable {P:Program} {ops:Array Oper} {r:List Oper} {σ τ:ASt} {fs:List AEff} {K:ASt→List AEff→Prop} {E:AEff}
theorem Fits.ofB (bw:List Id) (ρ ρ':List (Id×Id)) {fz:List (Id×AO)}{m:Mem}{res:AV}{m':Mem}(h1:L5 (rn ρ) σ.mem bw m) (h2:(m.all fun p=>p.2.refs m)=true) (hfz:Is σ.mem bw=fz) (hids:fz.map (·.1)=bw) (hndb:bw.Nodup) (h3:(m.map (·.1)).Nodup) (h4:(m.filterMap fun p=>if p.2.live then rn ρ p.1 else none).Nodup)
  (hl:(m.all fun p=>p.2.live)=true) (hl':(m'.all fun p=>p.2.live)=true) (hnd:(m'.map fun p=>rnF ρ' p.1).Nodup) (hnd':(m'.map (·.1)).Nodup)
  (hnew:∀p,p∈m'→((m.get p.1).isSome=true∧rn ρ p.1=some (rnF ρ' p.1))∨(m.get p.1=none∧σ.mem.get (rnF ρ' p.1)=none))
  (hbw:∀j,j∈(m.filterMap fun p=>if p.2.live then rn ρ p.1 else none)→j ∉ bw):Fits σ (rn ρ) bw fz false (rnF ρ') m res m':=by
 subst hfz
 refine⟨MatM.of h1 h2 h3 h4 hbw,fun p hp=>List.all_eq_true.1 hl p hp,hnd,hnd',fun p hp=>List.all_eq_true.1 hl' p hp,fun p hp=>?_,fun p hp=>?_,fun _ j hj=>by rw[hids];exact hj,by rw[hids];exact hndb,fun h=>by cases h⟩
 ·rcases hnew p hp with⟨g1,g2⟩ | g
  ·obtain⟨o,ho⟩:=Option.isSome_iff_exists.1 g1
   exact .inl ⟨o,ho,g2⟩
  ·exact .inr g
 ·unfold Is at hp
  simp only[List.mem_filterMap,Option.map_eq_some_iff]at hp
  obtain⟨j,hj,rows,hr,rfl⟩:=hp
  exact⟨hj,rows,rfl,hr⟩
theorem Fits.ofC (bw:List Id) (ρ ρ':List (Id×Id)) {m:Mem}{res:AV}{m':Mem}(h1:L5 (rn ρ) σ.mem bw m) (h2:(m.all fun p=>p.2.refs m)=true) (hc1:res.closed=true) (hc2:(m'.all fun p=>p.2.closed)=true) (h3:(m.map (·.1)).Nodup) (h4:(m.filterMap fun p=>if p.2.live then rn ρ p.1 else none).Nodup)
  (hl:(m.all fun p=>p.2.live)=true) (hl':(m'.all fun p=>p.2.live)=true) (hnd:(m'.map fun p=>rnF ρ' p.1).Nodup) (hnd':(m'.map (·.1)).Nodup)
  (hnew:∀p,p∈m'→((m.get p.1).isSome=true∧rn ρ p.1=some (rnF ρ' p.1))∨(m.get p.1=none∧σ.mem.get (rnF ρ' p.1)=none))
  (hbw:∀j,j∈(m.filterMap fun p=>if p.2.live then rn ρ p.1 else none)→j ∉ bw):Fits σ (rn ρ) bw [] true (rnF ρ') m res m':=by
 refine⟨MatM.of h1 h2 h3 h4 hbw,fun p hp=>List.all_eq_true.1 hl p hp,hnd,hnd',fun p hp=>List.all_eq_true.1 hl' p hp,fun p hp=>?_,fun p hp=>absurd hp (by simp),fun h=>Bool.noConfusion h,List.nodup_nil,fun _=>⟨hc1,fun p hp=>List.all_eq_true.1 hc2 p hp⟩⟩
 rcases hnew p hp with⟨g1,g2⟩ | g
 ·obtain⟨o,ho⟩:=Option.isSome_iff_exists.1 g1
  exact .inl ⟨o,ho,g2⟩
 ·exact .inr g
theorem TA (bw:List Id) (ρ ρ':List (Id×Id)) {d:Option Tmp}{fv:Operand}{args:Array Operand}{tys:Array TypeId}{ty:TypeId}{pos:String}{af:Array Edge}{gd:Option (Nat×Bool)}{m:Mem}{res:AV}{m':Mem}{f:FuncId}{caps cargs:List AV}
  (hac:AC P f cargs m res m') (hg:BM ops σ ⟨d,.call ⟨.value fv,args,tys⟩,ty,pos,af,gd⟩=some true) (hv:σ.ev fv=.clo f caps) (hc:A4 P f=true)
  (hm:Bw (rn ρ) σ.mem bw cargs (args.toList.map σ.ev++caps)) (hrefs:Cq m cargs=true) (h1:L5 (rn ρ) σ.mem bw m) (h2:(m.all fun p=>p.2.refs m)=true) (hc1:res.closed=true) (hc2:(m'.all fun p=>p.2.closed)=true) (h3:(m.map (·.1)).Nodup) (h4:(m.filterMap fun p=>if p.2.live then rn ρ p.1 else none).Nodup)
  (hl:(m.all fun p=>p.2.live)=true) (hl':(m'.all fun p=>p.2.live)=true) (hnd:(m'.map fun p=>rnF ρ' p.1).Nodup) (hnd':(m'.map (·.1)).Nodup)
  (hnew:∀p,p∈m'→((m.get p.1).isSome=true∧rn ρ p.1=some (rnF ρ' p.1))∨(m.get p.1=none∧σ.mem.get (rnF ρ' p.1)=none))
  (hbw:∀j,j∈(m.filterMap fun p=>if p.2.live then rn ρ p.1 else none)→j ∉ bw)
  (he:(⟨bw,EL (rn ρ) m++[]++m'.map (fun p=>(rnF ρ' p.1,p.2.ren (rnF ρ'))),res.ren (rnF ρ')⟩:AEff)=E) (hτ:σ.upd d E=τ) (h:Ah P ops r τ (fs++[E]) K):Ah P ops (⟨d,.call ⟨.value fv,args,tys⟩,ty,pos,af,gd⟩::r) σ fs K:=by
 subst he
 have:=Gr hac hg hv hc hm hrefs (Fits.ofC bw ρ ρ' h1 h2 hc1 hc2 h3 h4 hl hl' hnd hnd' hnew hbw) (τ:=τ) (r:=r) (fs:=fs) (K:=K)
 unfold Bf at this
 exact this hτ h
theorem Az (bw:List Id) (ρ ρ':List (Id×Id)) {d:Option Tmp}{fv:Operand}{args:Array Operand}{tys:Array TypeId}{ty:TypeId}{pos:String}{af:Array Edge}{gd:Option (Nat×Bool)}{fz:List (Id×AO)}{m:Mem}{res:AV}{m':Mem}{f:FuncId}{caps cargs:List AV}
  (hac:AC P f cargs m res m') (hg:BM ops σ ⟨d,.call ⟨.value fv,args,tys⟩,ty,pos,af,gd⟩=some true) (hv:σ.ev fv=.clo f caps) (hc:A4 P f=true)
  (hm:Bw (rn ρ) σ.mem bw cargs (args.toList.map σ.ev++caps)) (hrefs:Cq m cargs=true) (h1:L5 (rn ρ) σ.mem bw m) (h2:(m.all fun p=>p.2.refs m)=true) (hfz:Is σ.mem bw=fz) (hids:fz.map (·.1)=bw) (hndb:bw.Nodup) (h3:(m.map (·.1)).Nodup) (h4:(m.filterMap fun p=>if p.2.live then rn ρ p.1 else none).Nodup)
  (hl:(m.all fun p=>p.2.live)=true) (hl':(m'.all fun p=>p.2.live)=true) (hnd:(m'.map fun p=>rnF ρ' p.1).Nodup) (hnd':(m'.map (·.1)).Nodup)
  (hnew:∀p,p∈m'→((m.get p.1).isSome=true∧rn ρ p.1=some (rnF ρ' p.1))∨(m.get p.1=none∧σ.mem.get (rnF ρ' p.1)=none))
  (hbw:∀j,j∈(m.filterMap fun p=>if p.2.live then rn ρ p.1 else none)→j ∉ bw)
  (he:(⟨bw,EL (rn ρ) m++fz++m'.map (fun p=>(rnF ρ' p.1,p.2.ren (rnF ρ'))),res.ren (rnF ρ')⟩:AEff)=E) (hτ:σ.upd d E=τ) (h:Ah P ops r τ (fs++[E]) K):Ah P ops (⟨d,.call ⟨.value fv,args,tys⟩,ty,pos,af,gd⟩::r) σ fs K:=by
 subst he
 have:=Gr hac hg hv hc hm hrefs (Fits.ofB bw ρ ρ' h1 h2 hfz hids hndb h3 h4 hl hl' hnd hnd' hnew hbw) (τ:=τ) (r:=r) (fs:=fs) (K:=K)
 unfold Bf at this
 exact this hτ h
end
attribute [go_sem] AO.closed
theorem a0l {A Φ G' G:Prop}(f:A) (F:Φ) (h:G') (e:A→Φ→G'→G:=by intro f F hh;apply f;(iterate 7 (focus (first | (simp only[go_sem,Nat.reduceEqDiff,Nat.reduceAdd,Nat.reduceSub,Nat.reduceLeDiff,Nat.reduceMul,Nat.reduceBEq,Nat.reduceLT,Int.reduceToNat,reduceCtorEq,F];first | done | exact rfl | (and_intros<;>rfl)) | exact rfl | decide)));(iterate 10 (focus (simp[go_sem,F];done)));(iterate 2 (focus (first | (simp only[go_sem,Nat.reduceEqDiff,Nat.reduceAdd,Nat.reduceSub,Nat.reduceLeDiff,Nat.reduceMul,Nat.reduceBEq,Nat.reduceLT,Int.reduceToNat,reduceCtorEq,F];first | done | exact rfl | (and_intros<;>rfl)) | exact rfl | decide)));exact hh):G:=e f F h
theorem AW {A Φ G' G:Prop}(f:A) (F:Φ) (h:G') (e:A→Φ→G'→G:=by intro f F hh;apply f;(iterate 10 (focus (first | (simp only[go_sem,Nat.reduceEqDiff,Nat.reduceAdd,Nat.reduceSub,Nat.reduceLeDiff,Nat.reduceMul,Nat.reduceBEq,Nat.reduceLT,Int.reduceToNat,reduceCtorEq,F];first | done | exact rfl | (and_intros<;>rfl)) | exact rfl | decide)));(iterate 8 (focus (simp[go_sem,F];done)));(iterate 2 (focus (first | (simp only[go_sem,Nat.reduceEqDiff,Nat.reduceAdd,Nat.reduceSub,Nat.reduceLeDiff,Nat.reduceMul,Nat.reduceBEq,Nat.reduceLT,Int.reduceToNat,reduceCtorEq,F];first | done | exact rfl | (and_intros<;>rfl)) | exact rfl | decide)));exact hh):G:=e f F h
end
section
open Go.RowKit
def CO (b:Nat):List C:=[.int .u8 (b:Int)]
def Af (bs:List Nat) (at1 n:Nat):Nat :=
 if n<1 then 0 else if bs=[] then (at1*7) % n
 else if n≤200 then (bs.getD (at1 % bs.length) 0+at1 / bs.length*37) % n
 else ((bs.getD (at1 % bs.length) 0+at1 / bs.length*37)*251+bs.getD ((at1+1) % bs.length) 0*13+at1) % n
theorem AD (bs:List Nat) (at1:Nat) {n:Nat}(h:0<n):Af bs at1 n<n:=by
 unfold Af
 rw[if_neg (by omega)]
 split
 ·exact Nat.mod_lt _ h
 ·split
  ·exact Nat.mod_lt _ h
  ·exact Nat.mod_lt _ h
def D4 (bs:List Nat) (at1:Nat) (l:List Int):Int:=l.getD (Af bs at1 l.length) 0
theorem Q9 (bs:List Nat) (at1:Nat) {l:List Int}(h:l≠[]):D4 bs at1 l∈l:=by
 unfold D4
 have hl:0<l.length:=List.length_pos_iff.2 h
 have:=AD bs at1 hl
 rw[List.getD_eq_getElem?_getD,List.getElem?_eq_getElem this,Option.getD_some]
 exact List.getElem_mem _
def OQ:List ByteArray:=[⟨#[97]⟩,⟨#[98]⟩,⟨#[99]⟩,⟨#[105,100]⟩,ByteArray.empty,⟨#[120,32,121]⟩,⟨#[97,98]⟩,⟨#[34,113,92]⟩]
def Fe:List ByteArray:=[⟨#[97]⟩,⟨#[98]⟩,⟨#[99]⟩,⟨#[105,100]⟩]
def JD (bs:List Nat) (at1:Nat):ByteArray:=OQ.getD (Af bs at1 8) ByteArray.empty
def D5 (bs:List Nat) (at1:Nat):ByteArray:=Fe.getD (Af bs at1 4) ByteArray.empty
theorem a0o:∀w∈OQ,AP w=true∧w.size≤60:=by decide +kernel
theorem Ma:∀w∈Fe,AP w=true∧w.size≤60:=by decide +kernel
theorem Z2 (bs:List Nat) (at1:Nat):JD bs at1∈OQ:=by
 unfold JD
 have:=AD bs at1 (n:=8) (by omega)
 rw[List.getD_eq_getElem?_getD,List.getElem?_eq_getElem (by exact this),Option.getD_some]
 exact List.getElem_mem _
theorem T4 (bs:List Nat) (at1:Nat):D5 bs at1∈Fe:=by
 unfold D5
 have:=AD bs at1 (n:=4) (by omega)
 rw[List.getD_eq_getElem?_getD,List.getElem?_eq_getElem (by exact this),Option.getD_some]
 exact List.getElem_mem _
def DE (f:Nat→V×Nat):Nat→Nat→List V×Nat
 | 0,a=>([],a)
 |n+1,a=>((f a).1::(DE f n (f a).2).1,(DE f n (f a).2).2)
def Ch (bs:List Nat) (f:Nat→V×Nat):Nat→Nat→List ByteArray×List V×Nat
 | 0,a=>([],[],a)
 |n+1,a=>(D5 bs a::(Ch bs f n (f (a+1)).2).1,(f (a+1)).1::(Ch bs f n (f (a+1)).2).2.1,(Ch bs f n (f (a+1)).2).2.2)
def Jw (bs:List Nat) (k a:Nat):V×Nat :=
 if k≤2 then (V.mk k 0 ByteArray.empty [] [],a)
 else if k≤5 then (Ar (D4 bs (a+3) [(Af bs a 9:Int),(Af bs (a+1) 9:Int),-(Af bs (a+2) 40:Int),1000000000000000]),a+4)
 else (C6 (JD bs a),a+1)
def Ju (bs:List Nat) (d a:Nat):Nat:=if d=0∧Af bs a 10>6 then Af bs a 10-5 else Af bs a 10
def BH (bs:List Nat):Nat→Nat→V×Nat
 | 0,a=>Jw bs (Ju bs 0 a) (a+1)
 |d+1,a =>
  if Ju bs (d+1) a≤6 then Jw bs (Ju bs (d+1) a) (a+1)
  else if Ju bs (d+1) a≤8 then (Ba (DE (BH bs d) (Af bs (a+1) 4) (a+2)).1,(DE (BH bs d) (Af bs (a+1) 4) (a+2)).2)
  else (EJ (Ch bs (BH bs d) (Af bs (a+1) 4) (a+2)).1 (Ch bs (BH bs d) (Af bs (a+1) 4) (a+2)).2.1,(Ch bs (BH bs d) (Af bs (a+1) 4) (a+2)).2.2)
theorem KD (bs:List Nat) (d a:Nat):Ju bs d a≤9∧(d=0→Ju bs d a≤6):=by
 unfold Ju
 have:=AD bs a (n:=10) (by omega)
 split<;>omega
def MJ (a:Nat) (C D B:Nat) (r:V×Nat):Prop:=r.1.wf∧r.1.count≤C∧r.1.depth≤D∧a≤r.2∧r.2≤a+B
theorem Tg (bs:List Nat) {k:Nat}(hk:k≤6) (a:Nat):MJ a 1 1 4 (Jw bs k a):=by
 unfold Jw
 split
 ·have:(V.mk (k:Int) 0 ByteArray.empty [] []).right:=by
   rcases (show k=0∨k=1∨k=2 by omega) with rfl | rfl | rfl
   ·exact EU (by decide +kernel) (by decide)
   ·exact EU (by decide +kernel) (by decide)
   ·exact EU (by decide +kernel) (by decide)
  exact⟨this.1,by simp[V.count,Ag],by simp[V.depth,AF],Nat.le_refl _,by omega⟩
 ·split
  ·have h1:=Q9 bs (a+3) (l:=[(Af bs a 9:Int),(Af bs (a+1) 9:Int),-(Af bs (a+2) 40:Int),1000000000000000]) (by simp)
   have n1:=AD bs a (n:=9) (by omega)
   have n2:=AD bs (a+1) (n:=9) (by omega)
   have n3:=AD bs (a+2) (n:=40) (by omega)
   generalize D4 bs (a+3) _=x at *
   have hx:-1000000000000000≤x∧x≤1000000000000000:=by
    simp only[List.mem_cons,List.not_mem_nil,or_false]at h1
    omega
   exact⟨(K2 hx).1,by simp[Ar,V.count,Ag],by simp[Ar,V.depth,AF],by show a≤a+4;omega,by show a+4≤a+4;omega⟩
  ·have hw:=a0o _ (Z2 bs a)
   have:(C6 (JD bs a)).right:=by
    refine EU ?_ (by decide)
    unfold AN
    have h2:inB 0 (-1000000000000000) 1000000000000000=true:=by decide
    simp[cF,cR,cT,B7,C7,h2,inB,hw.1]
   exact⟨this.1,by simp[C6,V.count,Ag],by simp[C6,V.depth,AF],by show a≤a+1;omega,by show a+1≤a+4;omega⟩
def GR:Nat→Nat
 | 0=>1
 |d+1=>1+3*GR d
def EI:Nat→Nat
 | 0=>5
 |d+1=>5+3*(1+EI d)
theorem Nm {f:Nat→V×Nat}{C B D:Nat}(hf:∀a,MJ a C D B (f a)):∀(n a:Nat),(DE f n a).1.length=n∧wfL (DE f n a).1∧Ag (DE f n a).1≤n*C∧AF (DE f n a).1≤D∧a≤(DE f n a).2∧(DE f n a).2≤a+n*B
 | 0,a=>⟨rfl,trivial,Nat.zero_le _,Nat.zero_le _,Nat.le_refl _,by simp[DE]⟩
 |n+1,a=>by
  obtain⟨h1,h2,h3,h4,h5⟩:=hf a
  obtain⟨g1,g2,g3,g4,g5,g6⟩:=Nm hf n (f a).2
  refine⟨by simp[DE,g1],⟨h1,g2⟩,?_,?_,?_,?_⟩
  ·show Ag (_::_)≤_
   simp only[Ag]
   rw[Nat.succ_mul]
   omega
  ·show AF (_::_)≤_
   simp only[AF]
   omega
  ·show a≤(DE f n (f a).2).2
   omega
  ·show (DE f n (f a).2).2≤_
   rw[Nat.succ_mul]
   omega
theorem Nl (bs:List Nat) {f:Nat→V×Nat}{C B D:Nat}(hf:∀a,MJ a C D B (f a)):∀(n a:Nat),(Ch bs f n a).1.length=n∧(∀k∈(Ch bs f n a).1,k∈Fe)∧(Ch bs f n a).2.1.length=n∧wfL (Ch bs f n a).2.1∧Ag (Ch bs f n a).2.1≤n*C∧AF (Ch bs f n a).2.1≤D∧a≤(Ch bs f n a).2.2∧(Ch bs f n a).2.2≤a+n*(B+1)
 | 0,a=>⟨rfl,by simp[Ch],rfl,trivial,Nat.zero_le _,Nat.zero_le _,Nat.le_refl _,by simp[Ch]⟩
 |n+1,a=>by
  obtain⟨h1,h2,h3,h4,h5⟩:=hf (a+1)
  obtain⟨g1,g0,g7,g2,g3,g4,g5,g6⟩:=Nl bs hf n (f (a+1)).2
  refine⟨by simp[Ch,g1],fun k hk=>?_,by simp[Ch,g7],⟨h1,g2⟩,?_,?_,?_,?_⟩
  ·have hk:k∈D5 bs a::(Ch bs f n (f (a+1)).2).1:=hk
   rcases List.mem_cons.1 hk with rfl | hk
   ·exact T4 bs a
   ·exact g0 k hk
  ·show Ag (_::_)≤_
   simp only[Ag]
   rw[Nat.succ_mul]
   omega
  ·show AF (_::_)≤_
   simp only[AF]
   omega
  ·show a≤(Ch bs f n (f (a+1)).2).2.2
   omega
  ·show (Ch bs f n (f (a+1)).2).2.2≤_
   rw[Nat.succ_mul]
   omega
theorem F8 (bs:List Nat):∀(d a:Nat),MJ a (GR d) (d+1) (EI d) (BH bs d a)
 | 0,a=>by
  have hk:=(KD bs 0 a).2 rfl
  obtain⟨h1,h2,h3,h4,h5⟩:=Tg bs hk (a+1)
  unfold BH
  exact⟨h1,h2,h3,by omega,by show _≤a+5;omega⟩
 |d+1,a=>by
  have hk:=(KD bs (d+1) a).1
  have ih:=F8 bs d
  have hn:=AD bs (a+1) (n:=4) (by omega)
  have hc1:GR (d+1)=1+3*GR d:=rfl
  have hb1:EI (d+1)=5+3*(1+EI d):=rfl
  unfold BH
  split
  ·rename_i h6
   obtain⟨h1,h2,h3,h4,h5⟩:=Tg bs h6 (a+1)
   exact⟨h1,by omega,by omega,by omega,by omega⟩
  ·split
   ·obtain⟨g1,g2,g3,g4,g5,g6⟩:=Nm ih (Af bs (a+1) 4) (a+2)
    generalize DE (BH bs d) (Af bs (a+1) 4) (a+2)=q at *
    generalize Af bs (a+1) 4=n at *
    have hm1:n*GR d≤3*GR d:=Nat.mul_le_mul_right _ (by omega)
    have hm2:n*EI d≤3*EI d:=Nat.mul_le_mul_right _ (by omega)
    refine⟨QA g2 (by omega),?_,?_,?_,?_⟩
    ·simp only[Ba,V.count];omega
    ·simp only[Ba,V.depth];omega
    ·show a≤q.2;omega
    ·show q.2≤_;omega
   ·obtain⟨g1,g0,g7,g2,g3,g4,g5,g6⟩:=Nl bs ih (Af bs (a+1) 4) (a+2)
    generalize Ch bs (BH bs d) (Af bs (a+1) 4) (a+2)=q at *
    generalize Af bs (a+1) 4=n at *
    have hm1:n*GR d≤3*GR d:=Nat.mul_le_mul_right _ (by omega)
    have hm2:n*(EI d+1)≤3*(EI d+1):=Nat.mul_le_mul_right _ (by omega)
    have hc:=G4 n q.1 q.2.1 g1 g7
    have hmem:∀v∈(B0 q.1).map (AS q.1 q.2.1),v∈q.2.1:=fun v hv=>by
     obtain⟨x,hx,rfl⟩:=List.mem_map.1 hv
     obtain⟨j,_,_,h3⟩:=Ee (kids:=q.2.1) (by omega) (BP.1 hx)
     exact List.mem_of_getElem? h3
    have hcl:=BL ((B0 q.1).map (AS q.1 q.2.1))
    have hlen:((B0 q.1).map (AS q.1 q.2.1)).length≤200:=by
     have:=Gq q.1
     rw[List.length_map];omega
    refine⟨Vz (by simp) (fun k hk=>(Ma k (g0 k (BP.1 hk))).1) (DL _) (fun v hv=>N0 g2 v (hmem v hv)) hlen,?_,?_,?_,?_⟩
    ·simp only[EJ,V.count];omega
    ·simp only[EJ,V.depth]
     have:=GT (m:=AF q.2.1) (h:=fun v hv=>CP (hmem v hv))
     omega
    ·show a≤q.2.2;omega
    ·show q.2.2≤_;omega
end
end Go.Proofs.YtllfmaflodbieaaGreatDoor
