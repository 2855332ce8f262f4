/- Texts of this proof: M23 M28 M29 M46 E35 G06. -/
import Derived.Test.YtllfmaflodbieaaGreatDoorKG04uM3
import Derived.Test.YtllfmaflodbieaaGreatDoorKM45
import Derived.Laws.IdiomStrings
import Derived.Laws.Strings2
import Derived.Laws.Slices
set_option linter.all false
set_option maxHeartbeats 8000000
namespace Go.Proofs.YtllfmaflodbieaaGreatDoor
section
open Go.RowKit
theorem Mm {k n:Int}{s:ByteArray}(h:Ew k n s ByteArray.empty 0=0) (h6:k≠6):(V.mk k n s [] []).right:=by
 refine⟨⟨h,?_,trivial⟩,by simp[V.count,GR],by simp[V.depth,GU]⟩
 unfold II
 rw[if_neg h6]
theorem Sw {n:Int}(h:-1000000000000000≤n∧n≤1000000000000000):(L2 n).right:=by
 refine Mm ?_ (by decide)
 unfold Ew
 have h1:inB 3 0 6=true:=by decide
 have h2:inB n (-1000000000000000) 1000000000000000=true:=by unfold inB;simp;omega
 simp[h1,cF,cR,cT,Ka,BR,h2,inB]
 omega
def a4s (b:Bool):V:=.mk (bif b then 2 else 1) 0 ByteArray.empty [] []
def Li (b:Nat):List C:=[.int .u8 (b:Int)]
def K0 (bs:List Nat) (at1 n:Nat):Nat :=
 if n<1 then 0 else if bs=[] then (at1*7) % n
 else if n≤200 then (bs.getD (at1 % bs.length) 0+at1 / bs.length*37) % n
 else ((bs.getD (at1 % bs.length) 0+at1 / bs.length*37)*251+bs.getD ((at1+1) % bs.length) 0*13+at1) % n
theorem Kn (bs:List Nat) (at1:Nat) {n:Nat}(h:0<n):K0 bs at1 n<n:=by
 unfold K0
 rw[if_neg (by omega)]
 split
 ·exact Nat.mod_lt _ h
 ·split
  ·exact Nat.mod_lt _ h
  ·exact Nat.mod_lt _ h
def N9 (bs:List Nat) (at1:Nat) (l:List Int):Int:=l.getD (K0 bs at1 l.length) 0
theorem f7 (bs:List Nat) (at1:Nat) {l:List Int}(h:l≠[]):N9 bs at1 l∈l:=by
 unfold N9
 have hl:0<l.length:=List.length_pos_iff.2 h
 have:=Kn bs at1 hl
 rw[List.getD_eq_getElem?_getD,List.getElem?_eq_getElem this,Option.getD_some]
 exact List.getElem_mem _
def JR:List ByteArray:=[⟨#[97]⟩,⟨#[98]⟩,⟨#[99]⟩,⟨#[105,100]⟩,ByteArray.empty,⟨#[120,32,121]⟩,⟨#[97,98]⟩,⟨#[34,113,92]⟩]
def MA:List ByteArray:=[⟨#[97]⟩,⟨#[98]⟩,⟨#[99]⟩,⟨#[105,100]⟩]
def P5 (bs:List Nat) (at1:Nat):ByteArray:=JR.getD (K0 bs at1 8) ByteArray.empty
def UT (bs:List Nat) (at1:Nat):ByteArray:=MA.getD (K0 bs at1 4) ByteArray.empty
theorem a25:∀w∈JR,Fr w=true∧w.size≤60:=by decide +kernel
theorem Wg:∀w∈MA,Fr w=true∧w.size≤60:=by decide +kernel
theorem a7a (bs:List Nat) (at1:Nat):P5 bs at1∈JR:=by
 unfold P5
 have:=Kn bs at1 (n:=8) (by omega)
 rw[List.getD_eq_getElem?_getD,List.getElem?_eq_getElem (by exact this),Option.getD_some]
 exact List.getElem_mem _
theorem a03 (bs:List Nat) (at1:Nat):UT bs at1∈MA:=by
 unfold UT
 have:=Kn bs at1 (n:=4) (by omega)
 rw[List.getD_eq_getElem?_getD,List.getElem?_eq_getElem (by exact this),Option.getD_some]
 exact List.getElem_mem _
def Lp (f:Nat→V×Nat):Nat→Nat→List V×Nat
 | 0,a=>([],a)
 |n+1,a=>((f a).1::(Lp f n (f a).2).1,(Lp f n (f a).2).2)
def KD (bs:List Nat) (f:Nat→V×Nat):Nat→Nat→List ByteArray×List V×Nat
 | 0,a=>([],[],a)
 |n+1,a=>(UT bs a::(KD bs f n (f (a+1)).2).1,(f (a+1)).1::(KD bs f n (f (a+1)).2).2.1,(KD bs f n (f (a+1)).2).2.2)
def OZ (bs:List Nat) (k a:Nat):V×Nat :=
 if k≤2 then (V.mk k 0 ByteArray.empty [] [],a)
 else if k≤5 then (L2 (N9 bs (a+3) [(K0 bs a 9:Int),(K0 bs (a+1) 9:Int),-(K0 bs (a+2) 40:Int),1000000000000000]),a+4)
 else (Jp (P5 bs a),a+1)
def OX (bs:List Nat) (d a:Nat):Nat:=if d=0∧K0 bs a 10>6 then K0 bs a 10-5 else K0 bs a 10
def KY (bs:List Nat):Nat→Nat→V×Nat
 | 0,a=>OZ bs (OX bs 0 a) (a+1)
 |d+1,a =>
  if OX bs (d+1) a≤6 then OZ bs (OX bs (d+1) a) (a+1)
  else if OX bs (d+1) a≤8 then (Ir (Lp (KY bs d) (K0 bs (a+1) 4) (a+2)).1,(Lp (KY bs d) (K0 bs (a+1) 4) (a+2)).2)
  else (Jm (KD bs (KY bs d) (K0 bs (a+1) 4) (a+2)).1 (KD bs (KY bs d) (K0 bs (a+1) 4) (a+2)).2.1,(KD bs (KY bs d) (K0 bs (a+1) 4) (a+2)).2.2)
theorem PL (bs:List Nat) (d a:Nat):OX bs d a≤9∧(d=0→OX bs d a≤6):=by
 unfold OX
 have:=Kn bs a (n:=10) (by omega)
 split<;>omega
def Rb (a:Nat) (C D B:Nat) (r:V×Nat):Prop:=r.1.wf∧r.1.count≤C∧r.1.depth≤D∧a≤r.2∧r.2≤a+B
theorem Wq (bs:List Nat) {k:Nat}(hk:k≤6) (a:Nat):Rb a 1 1 4 (OZ bs k a):=by
 unfold OZ
 split
 ·have:(V.mk (k:Int) 0 ByteArray.empty [] []).right:=by
   rcases (show k=0∨k=1∨k=2 by omega) with rfl | rfl | rfl
   ·exact Mm (by decide +kernel) (by decide)
   ·exact Mm (by decide +kernel) (by decide)
   ·exact Mm (by decide +kernel) (by decide)
  exact⟨this.1,by simp[V.count,GR],by simp[V.depth,GU],Nat.le_refl _,by omega⟩
 ·split
  ·have h1:=f7 bs (a+3) (l:=[(K0 bs a 9:Int),(K0 bs (a+1) 9:Int),-(K0 bs (a+2) 40:Int),1000000000000000]) (by simp)
   have n1:=Kn bs a (n:=9) (by omega)
   have n2:=Kn bs (a+1) (n:=9) (by omega)
   have n3:=Kn bs (a+2) (n:=40) (by omega)
   generalize N9 bs (a+3) _=x at *
   have hx:-1000000000000000≤x∧x≤1000000000000000:=by
    simp only[List.mem_cons,List.not_mem_nil,or_false]at h1
    omega
   exact⟨(Sw hx).1,by simp[L2,V.count,GR],by simp[L2,V.depth,GU],by show a≤a+4;omega,by show a+4≤a+4;omega⟩
  ·have hw:=a25 _ (a7a bs a)
   have:(Jp (P5 bs a)).right:=by
    refine Mm ?_ (by decide)
    unfold Ew
    have h2:inB 0 (-1000000000000000) 1000000000000000=true:=by decide
    simp[cF,cR,cT,Ka,BR,h2,inB,hw.1]
   exact⟨this.1,by simp[Jp,V.count,GR],by simp[Jp,V.depth,GU],by show a≤a+1;omega,by show a+1≤a+4;omega⟩
def P7:Nat→Nat
 | 0=>1
 |d+1=>1+3*P7 d
def MP:Nat→Nat
 | 0=>5
 |d+1=>5+3*(1+MP d)
theorem RR {f:Nat→V×Nat}{C B D:Nat}(hf:∀a,Rb a C D B (f a)):∀(n a:Nat),(Lp f n a).1.length=n∧wfL (Lp f n a).1∧GR (Lp f n a).1≤n*C∧GU (Lp f n a).1≤D∧a≤(Lp f n a).2∧(Lp f n a).2≤a+n*B
 | 0,a=>⟨rfl,trivial,Nat.zero_le _,Nat.zero_le _,Nat.le_refl _,by simp[Lp]⟩
 |n+1,a=>by
  obtain⟨h1,h2,h3,h4,h5⟩:=hf a
  obtain⟨g1,g2,g3,g4,g5,g6⟩:=RR hf n (f a).2
  refine⟨by simp[Lp,g1],⟨h1,g2⟩,?_,?_,?_,?_⟩
  ·show GR (_::_)≤_
   simp only[GR]
   rw[Nat.succ_mul]
   omega
  ·show GU (_::_)≤_
   simp only[GU]
   omega
  ·show a≤(Lp f n (f a).2).2
   omega
  ·show (Lp f n (f a).2).2≤_
   rw[Nat.succ_mul]
   omega
theorem RQ (bs:List Nat) {f:Nat→V×Nat}{C B D:Nat}(hf:∀a,Rb a C D B (f a)):∀(n a:Nat),(KD bs f n a).1.length=n∧(∀k∈(KD bs f n a).1,k∈MA)∧(KD bs f n a).2.1.length=n∧wfL (KD bs f n a).2.1∧GR (KD bs f n a).2.1≤n*C∧GU (KD bs f n a).2.1≤D∧a≤(KD bs f n a).2.2∧(KD bs f n a).2.2≤a+n*(B+1)
 | 0,a=>⟨rfl,by simp[KD],rfl,trivial,Nat.zero_le _,Nat.zero_le _,Nat.le_refl _,by simp[KD]⟩
 |n+1,a=>by
  obtain⟨h1,h2,h3,h4,h5⟩:=hf (a+1)
  obtain⟨g1,g0,g7,g2,g3,g4,g5,g6⟩:=RQ bs hf n (f (a+1)).2
  refine⟨by simp[KD,g1],fun k hk=>?_,by simp[KD,g7],⟨h1,g2⟩,?_,?_,?_,?_⟩
  ·have hk:k∈UT bs a::(KD bs f n (f (a+1)).2).1:=hk
   rcases List.mem_cons.1 hk with rfl | hk
   ·exact a03 bs a
   ·exact g0 k hk
  ·show GR (_::_)≤_
   simp only[GR]
   rw[Nat.succ_mul]
   omega
  ·show GU (_::_)≤_
   simp only[GU]
   omega
  ·show a≤(KD bs f n (f (a+1)).2).2.2
   omega
  ·show (KD bs f n (f (a+1)).2).2.2≤_
   rw[Nat.succ_mul]
   omega
theorem Rr (bs:List Nat):∀(d a:Nat),Rb a (P7 d) (d+1) (MP d) (KY bs d a)
 | 0,a=>by
  have hk:=(PL bs 0 a).2 rfl
  obtain⟨h1,h2,h3,h4,h5⟩:=Wq bs hk (a+1)
  unfold KY
  exact⟨h1,h2,h3,by omega,by show _≤a+5;omega⟩
 |d+1,a=>by
  have hk:=(PL bs (d+1) a).1
  have ih:=Rr bs d
  have hn:=Kn bs (a+1) (n:=4) (by omega)
  have hc1:P7 (d+1)=1+3*P7 d:=rfl
  have hb1:MP (d+1)=5+3*(1+MP d):=rfl
  unfold KY
  split
  ·rename_i h6
   obtain⟨h1,h2,h3,h4,h5⟩:=Wq bs h6 (a+1)
   exact⟨h1,by omega,by omega,by omega,by omega⟩
  ·split
   ·obtain⟨g1,g2,g3,g4,g5,g6⟩:=RR ih (K0 bs (a+1) 4) (a+2)
    generalize Lp (KY bs d) (K0 bs (a+1) 4) (a+2)=q at *
    generalize K0 bs (a+1) 4=n at *
    have hm1:n*P7 d≤3*P7 d:=Nat.mul_le_mul_right _ (by omega)
    have hm2:n*MP d≤3*MP d:=Nat.mul_le_mul_right _ (by omega)
    refine⟨Ux g2 (by omega),?_,?_,?_,?_⟩
    ·simp only[Ir,V.count];omega
    ·simp only[Ir,V.depth];omega
    ·show a≤q.2;omega
    ·show q.2≤_;omega
   ·obtain⟨g1,g0,g7,g2,g3,g4,g5,g6⟩:=RQ bs ih (K0 bs (a+1) 4) (a+2)
    generalize KD bs (KY bs d) (K0 bs (a+1) 4) (a+2)=q at *
    generalize K0 bs (a+1) 4=n at *
    have hm1:n*P7 d≤3*P7 d:=Nat.mul_le_mul_right _ (by omega)
    have hm2:n*(MP d+1)≤3*(MP d+1):=Nat.mul_le_mul_right _ (by omega)
    have hc:=N0 n q.1 q.2.1 g1 g7
    have hmem:∀v∈(FQ q.1).map (FM q.1 q.2.1),v∈q.2.1:=fun v hv=>by
     obtain⟨x,hx,rfl⟩:=List.mem_map.1 hv
     obtain⟨j,_,_,h3⟩:=Ml (kids:=q.2.1) (by omega) (Kv.1 hx)
     exact List.mem_of_getElem? h3
    have hcl:=KA ((FQ q.1).map (FM q.1 q.2.1))
    have hlen:((FQ q.1).map (FM q.1 q.2.1)).length≤200:=by
     have:=Oe q.1
     rw[List.length_map];omega
    refine⟨XQ (by simp) (fun k hk=>(Wg k (g0 k (Kv.1 hk))).1) (LR _) (fun v hv=>Rs g2 v (hmem v hv)) hlen,?_,?_,?_,?_⟩
    ·simp only[Jm,V.count];omega
    ·simp only[Jm,V.depth]
     have:=Me (m:=GU q.2.1) (h:=fun v hv=>Kp (hmem v hv))
     omega
    ·show a≤q.2.2;omega
    ·show q.2.2≤_;omega
def Ni (q:V):Prop:=q.right∧q.count=1∧q.depth=1∧(q.kind=3∨q.kind=4)
theorem a4i {q:V}(h:a1n q):Ni q:=by
 obtain⟨h1,h2,h3⟩:=QS h
 refine⟨h1,h2,h3,?_⟩
 rcases h with⟨s,rfl,_⟩ | ⟨n,rfl,_⟩
 ·exact .inr rfl
 ·exact .inl rfl
theorem Yj {s:ByteArray}(h:Fr s=true):(Jp s).right:=by
 refine Mm ?_ (by decide)
 unfold Ew
 have h2:inB 0 (-1000000000000000) 1000000000000000=true:=by decide
 simp[cF,cR,cT,Ka,BR,h2,inB,h]
mutual
theorem WN:∀(t:V) (ahead:List V),t.right→(∀q∈ahead,Ni q)→∀p∈t.paths ahead,(∀q∈p.1,Ni q)∧p.1.length+p.2.depth≤ahead.length+t.depth
 | .mk kind num text keys kids,ahead,ht,ha=>by
  intro p hp
  simp only[V.paths,List.mem_cons]at hp
  rcases hp with rfl | hp
  ·exact⟨ha,Nat.le_refl _⟩
  ·have hr:∀k∈kids,k.right:=fun k hk=>K1 ht hk
   have:=Uc (V.mk kind num text keys kids).keyV 0 kids ahead hr (fun j hj=>a4i (YM ht (by simpa [V.kids] using hj))) ha p hp
   exact⟨this.1,by simp only[V.depth];omega⟩
theorem Uc:∀(key:Nat→V) (i:Nat) (ks ahead:List V),(∀k∈ks,k.right)→(∀j,j<i+ks.length→Ni (key j))→(∀q∈ahead,Ni q)→∀p∈La key i ks ahead,(∀q∈p.1,Ni q)∧p.1.length+p.2.depth≤ahead.length+1+GU ks
 |_,_,[],_,_,_,_=>by simp[La]
 |key,i,k::ks,ahead,hr,hk,ha=>by
  intro p hp
  simp only[La,List.mem_append]at hp
  rcases hp with hp | hp
  ·have:=WN k (ahead++[key i]) (hr k (by simp)) (fun q hq=>by
    rcases List.mem_append.1 hq with hq | hq
    ·exact ha q hq
    ·rw[List.mem_singleton.1 hq];exact hk i (by simp)) p hp
   refine⟨this.1,?_⟩
   have h2:=this.2
   rw[List.length_append,List.length_singleton]at h2
   simp only[GU]
   omega
  ·have:=Uc key (i+1) ks ahead (fun x hx=>hr x (by simp[hx])) (fun j hj=>hk j (by simp only[List.length_cons];omega)) ha p hp
   exact⟨this.1,by simp only[GU];omega⟩
end
theorem Nn:∀{l:List V},(∀q∈l,Ni q)→GR l=l.length∧GU l≤1∧wfL l
 | [],_=>⟨rfl,Nat.zero_le _,trivial⟩
 |q::l,h=>by
  obtain⟨h1,h2,h3⟩:=Nn (l:=l) fun x hx=>h x (by simp[hx])
  obtain⟨h4,h5,h6,_⟩:=h q (by simp)
  exact⟨by simp only[GR,List.length_cons];omega,by simp only[GU];omega,h4.1,h3⟩
def Po (c:Int):Prop:=c=2∨c=3∨c=5∨c=7
theorem LD {c:Int}(h:Po c):c≠0:=by unfold Po at h;omega
def Rd.fine {α:Type}(s:ByteArray) (i:Nat) (P:α→Nat→Prop):Rd α→Prop
 | .ok v e=>i<e∧e≤s.size∧P v e
 | .bad c p=>Po c∧i≤p∧p≤s.size
theorem rd5:Po 5:=.inr (.inr (.inl rfl))
theorem Vq {s:ByteArray}{i:Nat}(h:i<s.size):bAt s i<256:=by
 obtain⟨b,_,h2⟩:=LO h
 rw[h2];exact b.toNat_lt
theorem Ll {s:ByteArray}{i:Nat}(h:bAt s i≠256):i<s.size:=GM (by have:=a47 s i;omega)
theorem Rn {s:ByteArray}{i:Nat}(h:i<s.size):i≤CA s i∧CA s i≤i+1∧CA s i≤s.size:=by
 unfold CA
 split
 ·exact⟨by omega,Nat.le_refl _,by omega⟩
 ·exact⟨Nat.le_refl _,by omega,by omega⟩
theorem Ro {s:ByteArray}{i:Nat}(h:i<s.size) (hd:G0 (bAt s (CA s i))=true):CA s i<Ee s i∧Ee s i≤s.size∧∀j,CA s i≤j→j<Ee s i→G0 (bAt s j)=true:=by
 have hlt:=GM (s:=s) (i:=CA s i) (by have:=Ix hd;omega)
 unfold Ee
 by_cases h0:bAt s (CA s i)=48
 ·rw[if_pos h0]
  refine⟨by omega,by omega,fun j h1 h2=>?_⟩
  have:j=CA s i:=by omega
  rw[this];exact hd
 ·rw[if_neg h0]
  obtain⟨h1,h2,_,h3⟩:=Rf (s:=s) (i:=CA s i) (by omega)
  refine⟨?_,h2,h3⟩
  rw[RP hd]
  have:=(Rf (s:=s) (i:=CA s i+1) (by omega)).1
  omega
theorem a1l {s:ByteArray}{i:Nat}(h:IX s i=false):-1000000000000000≤Ik s i∧Ik s i≤1000000000000000:=by
 have h2:L7 s (CA s i) (Ee s i-CA s i)≤1000000000000000:=by
  unfold IX at h
  have:=(Bool.or_eq_false_iff.1 h).2
  simpa using this
 unfold Ik
 split<;>omega
theorem ZW {s:ByteArray}{i:Nat}(h:i<s.size):(T9 s i).fine s i fun n _=>-1000000000000000≤n∧n≤1000000000000000:=by
 obtain⟨ha,ha',ha2⟩:=Rn h
 unfold T9
 cases hd:G0 (bAt s (CA s i)) with
 |false=>exact⟨rd5,ha,ha2⟩
 |true =>
  obtain⟨h1,h2,_⟩:=Ro h hd
  simp only[Bool.true_eq_false,if_false]
  cases hb:IX s i with
  |true=>exact⟨.inr (.inl rfl),Nat.le_refl _,by omega⟩
  |false =>
   simp only[Bool.false_eq_true,if_false]
   split
   ·exact⟨.inr (.inl rfl),by omega,h2⟩
   ·exact⟨by omega,h2,a1l hb⟩
theorem Ri {n:Nat}(h:¬Ji n<0):48≤n∧n≤102∧Ji n≤15∧0≤Ji n:=by
 unfold Ji at *
 unfold G0 at *
 by_cases h1:48≤n<;>by_cases h2:n≤57<;>by_cases h3:97≤n<;>by_cases h4:n≤102<;>by_cases h5:65≤n<;>by_cases h6:n≤70<;>simp[h1,h2,h3,h4,h5,h6]at h ⊢<;>omega
theorem Ty {s:ByteArray}{i:Nat}(h:i<s.size):(R8 s i).fine s i fun b _=>32≤b∧b≤126:=by
 unfold R8
 split
 ·rename_i h1
  have hlt:=Ll (s:=s) (i:=i+1) (by omega)
  exact⟨by omega,by omega,by omega,by omega⟩
 split
 ·exact⟨rd5,by omega,by omega⟩
 rename_i h0 h1
 have hlt:=Ll (s:=s) (i:=i+1) (by omega)
 split
 ·exact⟨rd5,by omega,by omega⟩
 rename_i h2
 have hlt2:=Ll (s:=s) (i:=i+2) (by omega)
 split
 ·exact⟨rd5,by omega,by omega⟩
 rename_i h3
 have hlt3:=Ll (s:=s) (i:=i+3) (by omega)
 split
 ·exact⟨rd5,by omega,by omega⟩
 rename_i h4
 have g4:=Ri h4
 have hlt4:=Ll (s:=s) (i:=i+4) (by omega)
 split
 ·exact⟨rd5,by omega,by omega⟩
 rename_i h5
 have g5:=Ri h5
 have hlt5:=Ll (s:=s) (i:=i+5) (by omega)
 split
 ·exact⟨by omega,by omega,by omega,by omega⟩
 ·exact⟨rd5,by omega,by omega⟩
def XR (t:ByteArray):Prop:=t.data.toList.all IZ=true
theorem XS:XR ByteArray.empty:=by unfold XR;rfl
theorem U4 {t:ByteArray}(h:XR t) {n:Nat}(h1:32≤n) (h2:n≤126):XR (t++Je n):=by
 unfold XR at *
 have hb:IZ (UInt8.ofNat n)=true:=by
  have:(UInt8.ofNat n).toNat=n:=by
   rw[UInt8.toNat_ofNat']
   exact Nat.mod_eq_of_lt (by omega)
  unfold IZ
  rw[this]
  simp[h1,h2]
 have hd:(t++Je n).data=t.data++#[UInt8.ofNat n]:=ByteArray.data_append
 rw[hd,Array.toList_append,List.all_append,h]
 simp[hb]
theorem Tl (n:Nat):(Je n).size=1:=rfl
theorem Nz (t:ByteArray) (n:Nat):(t++Je n).size=t.size+1:=by rw[ByteArray.size_append,Tl]
theorem Yi {s:ByteArray}{from_:Nat}:∀(n i:Nat) (out:ByteArray),s.size-i<n→from_<i→i≤s.size→XR out→(N4 s from_ n i out).fine s from_ fun t _=>Fr t=true:=by
 intro n
 induction n with
 |zero=>intro i out hn;omega
 |succ n ih =>
  intro i out hn hf hi ho
  unfold N4
  split
  ·exact⟨rd5,by omega,Nat.le_refl _⟩
  split
  ·split
   ·exact⟨.inl rfl,Nat.le_refl _,by omega⟩
   ·rename_i h60
    refine⟨by omega,by omega,?_⟩
    show Fr out=true
    unfold Fr
    unfold XR at ho
    rw[ho]
    simp
    omega
  split
  ·exact⟨rd5,by omega,hi⟩
  rename_i h1 h2 h3
  split
  ·exact ih (i+1) _ (by omega) (by omega) (by omega) (U4 ho (by omega) (by omega))
  ·have he:=Ty (s:=s) (i:=i) (by omega)
   cases hr:R8 s i with
   |bad c p =>
    rw[hr]at he
    exact⟨he.1,by have:=he.2.1;omega,he.2.2⟩
   |ok b e =>
    rw[hr]at he
    obtain⟨g1,g2,g3,g4⟩:=he
    exact ih e _ (by omega) (by omega) g2 (U4 ho g3 g4)
theorem Qv {s:ByteArray}{i:Nat}(hi:i≤s.size):(Q1 s i).fine s i fun t _=>Fr t=true:=by
 unfold Q1
 split
 ·exact⟨rd5,Nat.le_refl _,hi⟩
 ·rename_i h
  have hlt:=Ll (s:=s) (i:=i) (by omega)
  exact Yi _ _ _ (by omega) (by omega) (by omega) XS
theorem SY {s:ByteArray}{v:V}{i:Nat}:∀(l:List Nat) (k:Nat),(∀b∈l,b<256)→i+k≤s.size→(l≠[]∨0<k)→(N6 s v i l k).fine s i fun x _=>x=v
 | [],k,_,h,hk=>by
  unfold N6
  refine⟨?_,h,rfl⟩
  rcases hk with hk | hk
  ·exact absurd rfl hk
  ·omega
 |b::r,k,hb,h,hk=>by
  unfold N6
  split
  ·rename_i hbe
   have h1:=hb b (by simp)
   have hlt:=GM (s:=s) (i:=i+k) (by omega)
   exact SY r (k+1) (fun x hx=>hb x (by simp[hx])) (by omega) (.inr (by omega))
  ·exact⟨rd5,by omega,h⟩
theorem Qf {s:ByteArray}{i:Nat}(hi:i≤s.size):(O7 s i).fine s i fun t _=>Fr t=true:=by
 unfold O7
 have h:=Qv hi
 cases hr:Q1 s i with
 |bad c p=>rw[hr]at h;exact h
 |ok k e =>
  rw[hr]at h
  obtain⟨h1,h2,h3⟩:=h
  obtain⟨g1,g2,_⟩:=Ks h2
  show (if bAt s (Io s e)≠58 then Rd.bad 5 (Io s e) else .ok k (Io s (Io s e+1))).fine s i _
  split
  ·exact⟨rd5,by omega,g2⟩
  ·rename_i h4
   have hlt:=Ll (s:=s) (i:=Io s e) (by omega)
   obtain⟨g3,g4,_⟩:=Ks (s:=s) (i:=Io s e+1) (by omega)
   exact⟨by omega,g4,h3⟩
def rdV (k i:Nat) (v:V) (e:Nat):Prop:=v.fit∧v.depth≤k∧v.count≤e-i∧(v.count≤200→v.wf)
theorem Wt {s:ByteArray}{k:Nat}{rd:Nat→Rd V}(hrd:∀i,i≤s.size→(rd i).fine s i (rdV k i)) (i0:Nat) (obj:Bool):∀(n i:Nat) (first:Bool) (keys:List ByteArray) (kids:List V),s.size-i<n→i0<i→i≤s.size→(obj=true→keys.length=kids.length)→(∀x∈keys,Fr x=true)→(∀v∈kids,v.fit∧v.depth≤k∧(v.count≤200→v.wf))→GR kids+i0+1≤i→(KM s rd obj n i first keys kids).fine s i0 (rdV (k+1) i0):=by
 intro n
 induction n with
 |zero=>intro i first keys kids hn;omega
 |succ n ih =>
  intro i first keys kids hn h0 hi hl hks hvs hc
  unfold KM
  by_cases hend:bAt s i=(if obj then 125 else 93)
  ·rw[if_pos hend]
   have hlt:=Ll (s:=s) (i:=i) (by rw[hend];cases obj<;>decide)
   refine⟨by omega,by omega,?_⟩
   have hfit:∀v∈kids,v.fit:=fun v hv=>(hvs v hv).1
   have hdep:∀v∈kids,v.depth≤k:=fun v hv=>(hvs v hv).2.1
   cases obj with
   |false =>
    refine⟨Uw hfit,?_,?_,fun h200=>?_⟩
    ·show GU kids+1≤k+1
     have:=Me hdep
     omega
    ·show GR kids+1≤i+1-i0
     omega
    ·have hcc:GR kids+1≤200:=h200
     have hcl:=KA kids
     exact Ux (Nc.2 fun v hv=>(hvs v hv).2.2 (by have:=K7 hv;omega)) (by omega)
   |true =>
    have hl':=hl rfl
    have hmem:∀v∈(FQ keys).map (FM keys kids),v∈kids:=fun v hv=>by
     obtain⟨x,hx,rfl⟩:=List.mem_map.1 hv
     obtain⟨j,_,_,h3⟩:=Ml (kids:=kids) hl' (Kv.1 hx)
     exact List.mem_of_getElem? h3
    have hcl:GR ((FQ keys).map (FM keys kids))≤GR kids:=N0 _ keys kids hl' rfl
    refine⟨YZ hl' (fun x hx=>MJ (hks x hx)) hfit,?_,?_,fun h200=>?_⟩
    ·show GU ((FQ keys).map (FM keys kids))+1≤k+1
     have:=Me fun v hv=>hdep v (hmem v hv)
     omega
    ·show GR ((FQ keys).map (FM keys kids))+1≤i+1-i0
     omega
    ·have hcc:GR ((FQ keys).map (FM keys kids))+1≤200:=h200
     have hln:=KA ((FQ keys).map (FM keys kids))
     refine XQ (List.length_map _).symm (fun x hx=>hks x (Kv.1 hx)) (LR _) (fun v hv=>(hvs v (hmem v hv)).2.2 (by have:=K7 hv;omega)) (by omega)
  rw[if_neg hend]
  by_cases hcomma:first=false∧bAt s i≠44
  ·rw[if_pos hcomma];exact⟨rd5,by omega,hi⟩
  rw[if_neg hcomma]
  have hj:∃j,(if first then i else Io s (i+1))=j∧i≤j∧j≤s.size:=by
   cases first with
   |true=>exact⟨i,rfl,Nat.le_refl _,hi⟩
   |false =>
    have hb:bAt s i=44:=Classical.byContradiction fun h=>hcomma ⟨rfl,h⟩
    have hlt:=Ll (s:=s) (i:=i) (by omega)
    obtain⟨g1,g2,_⟩:=Ks (s:=s) (i:=i+1) (by omega)
    exact⟨Io s (i+1),rfl,by omega,g2⟩
  obtain⟨j,hje,hj1,hj2⟩:=hj
  rw[hje]
  have hk:∃r,(if obj then O7 s j else .ok ByteArray.empty j)=r∧(match r with | .bad c p=>Po c∧i0≤p∧p≤s.size | .ok x e=>j≤e∧e≤s.size∧Fr x=true):=by
   cases obj with
   |false=>exact⟨_,rfl,Nat.le_refl _,hj2,Ka⟩
   |true =>
    refine⟨_,rfl,?_⟩
    have hkf:=Qf hj2
    show (match O7 s j with | .bad c p=>Po c∧i0≤p∧p≤s.size | .ok x e=>j≤e∧e≤s.size∧Fr x=true)
    cases hkr:O7 s j with
    |bad c p=>rw[hkr]at hkf;exact⟨hkf.1,by have:=hkf.2.1;omega,hkf.2.2⟩
    |ok x e=>rw[hkr]at hkf;exact⟨by have:=hkf.1;omega,hkf.2.1,hkf.2.2⟩
  obtain⟨r,hre,hr⟩:=hk
  rw[hre]
  cases r with
  |bad c p=>exact hr
  |ok x e =>
   obtain⟨h1,h2,h3⟩:=hr
   have hv:=hrd e h2
   show (match rd e with | .bad c p=>Rd.bad c p | .ok v e2=>KM s rd obj n (Io s e2) false (if obj then keys++[x] else keys) (kids++[v])).fine s i0 _
   cases hve:rd e with
   |bad c p=>rw[hve]at hv;exact⟨hv.1,by have:=hv.2.1;omega,hv.2.2⟩
   |ok v e2 =>
    rw[hve]at hv
    obtain⟨g1,g2,g3,g4,g5,g6⟩:=hv
    obtain⟨k1,k2,_⟩:=Ks g2
    refine ih (Io s e2) false _ _ (by omega) (by omega) k2 ?_ ?_ ?_ ?_
    ·intro ho
     subst ho
     simp[hl rfl]
    ·intro y hy
     cases obj with
     |false=>exact hks y hy
     |true =>
      rcases List.mem_append.1 hy with hy | hy
      ·exact hks y hy
      ·rw[List.mem_singleton.1 hy];exact h3
    ·intro y hy
     rcases List.mem_append.1 hy with hy | hy
     ·exact hvs y hy
     ·rw[List.mem_singleton.1 hy];exact⟨g3,g4,g6⟩
    ·rw[Lo]
     omega
theorem a05 {k i e:Nat}(m:Int) (h0:m=0∨m=1∨m=2) (h:i<e):rdV (k+1) i (CP m) e:=by
 refine⟨⟨Nat.zero_le _,by simp,fun _=>rfl,fun h=>absurd h (by omega),fun _=>rfl,trivial⟩,?_,?_,fun _=>?_⟩
 ·show GU []+1≤k+1
  simp[GU]
 ·show GR []+1≤e-i
  simp only[GR]
  omega
 ·refine⟨?_,by simp[II];omega,trivial⟩
  rcases h0 with rfl | rfl | rfl<;>decide +kernel
theorem a4l {k i e:Nat}{t:ByteArray}(ht:Fr t=true) (h:i<e):rdV (k+1) i (Jp t) e:=by
 refine⟨⟨by have:=MJ ht;show t.size≤200;omega,by simp,fun _=>rfl,fun h=>absurd h (by decide),fun _=>rfl,trivial⟩,?_,?_,fun _=>(Yj ht).1⟩
 ·show GU []+1≤k+1
  simp[GU]
 ·show GR []+1≤e-i
  simp only[GR]
  omega
theorem a34 {k i e:Nat}{n:Int}(hn:-1000000000000000≤n∧n≤1000000000000000) (h:i<e):rdV (k+1) i (L2 n) e:=by
 refine⟨⟨Nat.zero_le _,by simp,fun _=>rfl,fun h=>absurd h (by decide),fun _=>rfl,trivial⟩,?_,?_,fun _=>(Sw hn).1⟩
 ·show GU []+1≤k+1
  simp[GU]
 ·show GR []+1≤e-i
  simp only[GR]
  omega
theorem Lh {s:ByteArray}:∀(k i:Nat),i≤s.size→(LE k s i).fine s i (rdV k i)
 | 0,i,h=>by
  unfold LE
  split
  ·exact⟨rd5,h,Nat.le_refl _⟩
  ·exact⟨.inr (.inr (.inr rfl)),Nat.le_refl _,by omega⟩
 |k+1,i,h=>by
  have hw:∀(m:Int) (l:List Nat),(m=0∨m=1∨m=2)→(∀b∈l,b<256)→l≠[]→(N6 s (CP m) i l 0).fine s i (rdV (k+1) i):=by
   intro m l hm hb hl
   have hf:=SY (s:=s) (v:=CP m) (i:=i) l 0 hb (by omega) (.inl hl)
   cases hr:N6 s (CP m) i l 0 with
   |bad c p=>rw[hr]at hf;exact hf
   |ok v e =>
    rw[hr]at hf
    obtain⟨h1,h2,rfl⟩:=hf
    exact⟨h1,h2,a05 m hm h1⟩
  have hm:∀obj:Bool,i<s.size→(KM s (LE k s) obj (s.size+1) (Io s (i+1)) true [] []).fine s i (rdV (k+1) i):=by
   intro obj hlt
   obtain⟨g1,g2,_⟩:=Ks (s:=s) (i:=i+1) (by omega)
   exact Wt (fun j hj=>Lh k j hj) i obj _ _ _ _ _ (by omega) (by omega) g2 (fun _=>rfl) (by simp) (by simp) (by simp only[GR];omega)
  unfold LE
  split
  ·exact⟨rd5,h,Nat.le_refl _⟩
  rename_i hlt
  split
  ·exact hw 0 _ (.inl rfl) (by simp) (by simp)
  split
  ·exact hw 1 _ (.inr (.inl rfl)) (by simp) (by simp)
  split
  ·exact hw 2 _ (.inr (.inr rfl)) (by simp) (by simp)
  split
  ·exact hm false (by omega)
  split
  ·exact hm true (by omega)
  split
  ·have hf:=Qv h
   cases hr:Q1 s i with
   |bad c p=>rw[hr]at hf;exact hf
   |ok t e =>
    rw[hr]at hf
    exact⟨hf.1,hf.2.1,a4l hf.2.2 hf.1⟩
  ·have hf:=ZW (s:=s) (i:=i) (by omega)
   cases hr:T9 s i with
   |bad c p=>rw[hr]at hf;exact hf
   |ok t e =>
    rw[hr]at hf
    exact⟨hf.1,hf.2.1,a34 hf.2.2 hf.1⟩
theorem RK {s:ByteArray}{v:V}{c:Int×Nat}(h:Kw s=(c,some v)):c=(0,0)∧v.right∧v.fit:=by
 unfold Kw at h
 split at h
 ·cases h
 have hf:=Lh (s:=s) 20 (Io s 0) (Ks (Nat.zero_le _)).2.1
 cases hr:LE 20 s (Io s 0) with
 |bad c p=>rw[hr]at h;cases h
 |ok u e =>
  rw[hr]at h hf
  simp only at h
  split at h
  ·cases h
  split at h
  ·cases h
  ·rename_i h200
   cases h
   obtain⟨_,_,h1,h2,_,h3⟩:=hf
   exact⟨rfl,⟨h3 (by omega),by omega,h2⟩,h1⟩
theorem VC {s:ByteArray}{c:Int×Nat}(h:Kw s=(c,none)):Po c.1∧c.2≤s.size:=by
 unfold Kw at h
 split at h
 ·cases h;exact⟨.inl rfl,Nat.zero_le _⟩
 have hf:=Lh (s:=s) 20 (Io s 0) (Ks (Nat.zero_le _)).2.1
 cases hr:LE 20 s (Io s 0) with
 |bad c p=>rw[hr]at h hf;cases h;exact⟨hf.1,hf.2.2⟩
 |ok u e =>
  rw[hr]at h hf
  simp only at h
  split at h
  ·rename_i h2
   cases h
   exact⟨rd5,by show Io s e≤s.size;omega⟩
  split at h
  ·cases h;exact⟨.inl rfl,Nat.zero_le _⟩
  ·cases h
end
section
open Go.RowKit
section
variable {P:Program} {o:Oper} {σ:ASt} {src dst e t:TypeId}
def Kb (l:List UInt8):List (List C):=l.map fun b=>[.int .u8 (b.toNat:Int)]
theorem a0b {w:World}{S:Nat→Prop}{b:UInt8}{vr:List Value}{bs:List Nat}(h:CRs w S [.int .u8 (b.toNat:Int)] vr bs):vr=[.int .u8 (b.toNat:Int)]:=by
 simp only[CRs,CR]at h
 obtain⟨v,vs',b1,b2,rfl,_,⟨rfl,_⟩,rfl,_⟩:=h
 rfl
theorem WW {x:Operand}{i:Id}(l:List UInt8) (hl:l≠[]) (ho:o.op=.convert src dst x) (hx:σ.ev x=.own i) (hs:P.underlying src=some (.slice e)) (he:P.underlying e=some (.int .u8)) (hd:P.underlying dst=some .string)
  (hi:σ.mem.get i=some (.row false 1 t (Kb l))):A3 P o σ ⟨[i],[],.c (.str ⟨l.toArray⟩)⟩:=by
 refine A3.pure fun Γ σ' a w ow κ hag hr=>?_
 have hi':σ'.mem.get i=some (.row false 1 t (Kb l)):=by rw[hag.2.1 i (by simp),hi]
 obtain⟨_,o1,k1,k2⟩:=hag.ev hr (by rw[ho];simp[Op.operands]) hx
 rw[hi']at k1
 cases k1
 have e1:=k2 (by simp)
 obtain⟨vrows,bs,h1,h2,h3,h4,h5,h6⟩:=hr.objs i _ hi'
 have hlen:=A0.length h1
 have hrl:(Kb l).length=l.length:=by simp[Kb]
 have hl0:0<l.length:=List.length_pos_iff.2 hl
 obtain⟨A,cap,hA,hc1,hc2,hrow⟩:=Row.of_owns h3 (n:=(Kb l).length) (by omega) (.inl Nat.one_pos) h4 (T:=fun _=>True) (fun _ _=>trivial)
 obtain⟨b,off,rfl,_,_,hcl⟩:=hrow.2 (by omega)
 refine⟨.string ⟨l.toArray⟩,?_,⟨rfl,rfl⟩⟩
 have hc:∀j (hj:j<l.length),w.cell? ((⟨b,off,none⟩:Addr).add j)=some (.int .u8 (l[j].toNat:Int)):=by
  intro j hj
  obtain⟨vr,b',g1,g2,_⟩:=A0.at_ h1 (i:=j) (row:=[.int .u8 (l[j].toNat:Int)]) (by simp[Kb,hj])
  have g3:=a0b g2
  subst g3
  have:=hcl j _ g1 0 _ rfl
  by_cases hj0:j=0
  ·subst hj0
   simpa [Addr.add] using this
  ·simpa [Addr.add,hj0] using this
 have hrun:=run_convert_bytes_back w src dst e ⟨b,off,none⟩ cap l hs he hd hc
 unfold execOp
 rw[ho]
 rw[hrl]at hA
 simp[e1,hA,hrun]
theorem a4h {x lo hi:Operand}{s:ByteArray}{i j:Int}(ho:o.op=.slice t x (some lo) (some hi) none) (hx:σ.ev x=.c (.str s)) (hlo:σ.ev lo=.c (.int .i64 i)) (hhi:σ.ev hi=.c (.int .i64 j)) (ht:P.underlying t=some .string)
  (h0:0≤i) (h1:i≤j) (h2:j≤s.size):A3 P o σ ⟨[],[],.c (.str (s.extract i.toNat j.toNat))⟩:=by
 refine A3.pure fun Γ σ' a w ow κ hag hr=>?_
 have e1:=AR.str (hag.ev hr (by rw[ho];simp[Op.operands]) hx)
 have e2:=(hag.ev hr (by rw[ho];simp[Op.operands]) hlo).1
 have e3:=(hag.ev hr (by rw[ho];simp[Op.operands]) hhi).1
 refine⟨.string (s.extract i.toNat j.toNat),?_,⟨rfl,rfl⟩⟩
 have hrun:=run_slice_string (P:=P) w t s .i64 .i64 i j ht h0 h1 h2
 unfold execOp
 rw[ho]
 simp[e1,e2,e3,hrun,run_sliceAt_string _ t _ _ _ _ ht]
end
section
variable {P:Program} {σ τ:ASt} {ops:Array Oper} {r:List Oper} {fs:List AEff} {K:ASt→List AEff→Prop} {E:AEff} {src dst e t:TypeId} {d:Option Tmp} {ty':TypeId} {pos:String} {af:Array Edge} {gd:Option (Nat×Bool)}
theorem Z1 {x:Operand}{i:Id}{y:ByteArray}(l:List UInt8) (hy:(⟨l.toArray⟩:ByteArray)=y) (hl:l≠[]) (hs:P.underlying src=some (.slice e)) (he:P.underlying e=some (.int .u8)) (hd:P.underlying dst=some .string)
  (hg:AB ops σ ⟨d,.convert src dst x,ty',pos,af,gd⟩=some true) (hn:eff P σ.ev σ.mem.get (σ.fresh ⟨d,.convert src dst x,ty',pos,af,gd⟩) ⟨d,.convert src dst x,ty',pos,af,gd⟩=none) (hx:σ.ev x=.own i) (hi:σ.mem.get i=some (.row false 1 t (Kb l)))
  (hE:(⟨[i],[],.c (.str y)⟩:AEff)=E) (hτ:σ.upd d E=τ) (h:A4 P ops r τ (fs++[E]) K):A4 P ops (⟨d,.convert src dst x,ty',pos,af,gd⟩::r) σ fs K:=by
 subst hE hy
 exact AZ hg hn (WW l hl rfl hx hs he hd hi).sound hτ h
theorem Pi {t:TypeId}{x lo hi:Operand}{s y:ByteArray}{i j:Int}(hy:s.extract i.toNat j.toNat=y) (h0:0≤i) (h1:i≤j) (h2:j≤s.size) (ht:P.underlying t=some .string)
  (hg:AB ops σ ⟨d,.slice t x (some lo) (some hi) none,ty',pos,af,gd⟩=some true) (hn:eff P σ.ev σ.mem.get (σ.fresh ⟨d,.slice t x (some lo) (some hi) none,ty',pos,af,gd⟩) ⟨d,.slice t x (some lo) (some hi) none,ty',pos,af,gd⟩=none) (hx:σ.ev x=.c (.str s)) (hlo:σ.ev lo=.c (.int .i64 i)) (hhi:σ.ev hi=.c (.int .i64 j))
  (hE:(⟨[],[],.c (.str y)⟩:AEff)=E) (hτ:σ.upd d E=τ) (h:A4 P ops r τ (fs++[E]) K):A4 P ops (⟨d,.slice t x (some lo) (some hi) none,ty',pos,af,gd⟩::r) σ fs K:=by
 subst hE hy
 exact AZ hg hn (a4h rfl hx hlo hhi ht h0 h1 h2).sound hτ h
end
end
section
open Go.RowKit
def Dd (n:Int):List C:=[.int .i64 n]
def CH (xs:List CellD):List C:=[.sl (xs.map CellD.cs)]
theorem GK (l:List Int):((l.map Dd).all fun r=>r.length==1)=true:=by simp[Dd]
theorem GJ (l:List (List CellD)):((l.map CH).all fun r=>r.length==1)=true:=by simp[CH]
theorem IE (n:Int):KP (Dd n)=Dd n:=rfl
theorem ID (xs:List CellD):KP (CH xs)=CH xs:=rfl
theorem EF (l:List Int):Ac (l.map Dd)=l.map Dd:=AH _ IE l
theorem EE (l:List (List CellD)):Ac (l.map CH)=l.map CH:=AH _ ID l
attribute [go_sem] GK GJ EF EE Dd CH
theorem a0s (xs:List CellD):AC Tryz.prog 59 [Iw xs] [] (.c (.int .i64 (dec xs).1)) []:=by
 refine AC.of_calls fun S w κ vs hv=>?_
 obtain⟨v,vs',rfl,h1,rfl⟩:=hv
 obtain⟨A,cap,rfl,_,hc⟩:=MS.1 h1
 refine (Tg xs A cap S w hc).mono ?_
 rintro e w' ⟨rfl,hb⟩
 exact⟨hb,_,rfl,fun T _ _=>⟨rfl,rfl⟩⟩
theorem a06 {t:V}(hw:t.wf) (hc:t.count≤200) {i:Nat}(hi:i<t.kids.length):AC Tryz.prog 214 [Iw t.enc,.c (.int .i64 ((kp t.kids i:Nat):Int))] [] (.c (.int .i64 ((kp t.kids (i+1):Nat):Int))) []:=by
 refine AC.of_calls fun S w κ vs hv=>?_
 obtain⟨v,vs',rfl,h1,v2,vs2,rfl,h2,rfl⟩:=hv
 obtain⟨rfl,_⟩:=h2
 obtain⟨A,cap,rfl,_,hcs⟩:=MS.1 h1
 have:=OY t i
 have hlen:=KU t
 have:=Qg t.enc (by omega) (a0m hw) (kp t.kids i:Nat) (by omega) (by omega) A cap S w hcs
 rw[Int.toNat_natCast,UL hw hi (by omega)]at this
 refine this.mono ?_
 rintro e w' ⟨rfl,hb⟩
 exact⟨hb,_,rfl,fun T _ _=>⟨rfl,rfl⟩⟩
theorem Yx {α:Type}{w:World}{S:Nat→Prop}{f:α→List C}:∀{l:List α}{rows:List (List Value)},rows.length=l.length→(∀i (h:i<l.length) row,rows[i]? = some row→CRs w S (f l[i]) row [])→A0 w S (l.map f) rows []
 | [],rows,hl,_=>by
  have:rows=[]:=List.eq_nil_of_length_eq_zero (by simpa using hl)
  subst this
  exact⟨rfl,rfl⟩
 |x::l,[],hl,_=>by simp at hl
 |x::l,r::rows,hl,h=>by
  simp only[List.map_cons,A0]
  exact⟨r,rows,[],[],rfl,rfl,h 0 (by simp) r rfl,Yx (by simpa using hl) fun i hi row hr=>by
   have:=h (i+1) (by simpa using hi) row (by simpa using hr)
   simpa using this⟩
theorem Sn {t:V}(hw:t.wf) (hc:t.count≤200):AC Tryz.prog 113 [Iw t.enc] [] (.c (.sl ((t.kids.map V.enc).map CH))) []:=by
 refine AC.of_calls fun S w κ vs hv=>?_
 obtain⟨v,vs',rfl,h1,rfl⟩:=hv
 obtain⟨A,cap,rfl,hcap,hcs⟩:=MS.1 h1
 refine (Wm t hw hc A cap hcap S w hcs).mono ?_
 rintro e w' ⟨⟨A',c',rfl,hcap',hr⟩,hb⟩
 refine⟨hb,_,rfl,fun T _ hT=>?_⟩
 obtain⟨rows,hl,hrow,hat⟩:=hr
 simp only[AR,CR]
 refine⟨1,A',c',rows,by simp,by simpa using hcap',trivial,hrow.weaken fun b hb _=>hT b hb,Yx hl fun i hi row hri=>?_,trivial⟩
 obtain⟨Ai,ci,rfl,h3,h4⟩:=hat i hi row hri
 exact⟨_,_,[],[],rfl,rfl,MS.2 ⟨Ai,ci,rfl,h3,h4.weaken fun b hb _=>hT b hb⟩,rfl,rfl⟩
set_option maxRecDepth 10000
theorem T7 {t:V}(hw:t.wf) (hc:t.count≤200):AC Tryz.prog 169 [Iw t.enc,.c (.int .i64 0)] [] (.c (.sl ((Ls t t.kids.length).map Dd))) []:=by
 have hw0:IntKind.i64.wrap (0+1)=1:=rfl
 have hk0:((kp t.kids 0:Nat):Int)=1:=by simp[kp,GR]
 have hkl:=Kg hc
 have hr0:B4 (t.enc.map CellD.cs) 5 0=true:=by unfold B4;rw[show (0:Int).toNat=0 from rfl,Lq];rfl
 have hg0:=Lq t
 refine JI Tryz.func169 Tryz.ntmps169 ?_
 refine JV hw0 ?_
 refine Jz (κ:=Nat) (fun k=>⟨mkS 0 28 [(0,Iw t.enc),(1,.c (.int .i64 0)),(5,.own (5,0)),(6,.c (.int .i64 ((kp t.kids k:Nat):Int))),(7,.c (.int .i64 k))],
   [((5,0),.row false 1 2 ((Ls t k).map Dd))]⟩)
  (fun k=>k≤t.kids.length) (fun k=>t.kids.length-k) 0 (Nat.zero_le _) ?_ ?_
 ·(apply (F7.of [((5,0),(8,0))] []);(iterate 2 ((focus (simp only[go_sem,Nat.reduceEqDiff,Nat.reduceAdd,Nat.reduceSub,Nat.reduceLeDiff,Nat.reduceMul,Nat.reduceBEq,Nat.reduceLT,Int.reduceToNat,reduceCtorEq,hk0,Ls];try (and_intros<;>rfl)));(focus exact rfl)));(iterate 4 (focus (simp[go_sem,hk0,Ls];done))))
 ·intro k hk
  by_cases hlt:k<t.kids.length
  ·have hd:decide ((k:Int)<(t.kids.length:Int))=true:=by simpa using hlt
   have hw1:=JX (k:=k) (by omega)
   have h1:(Ls t k).length+1≤1000000:=by rw[Mk];omega
   have he:=a06 hw hc hlt
   have hn:(Ls t k).map Dd++[[.int .i64 ((kp t.kids k:Nat):Int)]]=(Ls t (k+1)).map Dd:=by rw[Sk,List.map_append];rfl
   refine JV (j4 hr0 hg0 hd h1) ?_
   refine w7 (Ju [] he) q9 ?_
   refine JV hw1 ?_
   refine⟨k+1,by omega,by omega,?_⟩
   exact JQ (F7.of [((5,0),(23,0))] []) hn
  ·have hd:decide ((k:Int)<(t.kids.length:Int))=false:=by simpa using hlt
   have hke:k=t.kids.length:=by omega
   refine JV (j3 hr0 hg0 hd) ?_
   subst hke
   exact JJ (JN [] [(5,0)]) Tryz.results169 hd
end
end Go.Proofs.YtllfmaflodbieaaGreatDoor
