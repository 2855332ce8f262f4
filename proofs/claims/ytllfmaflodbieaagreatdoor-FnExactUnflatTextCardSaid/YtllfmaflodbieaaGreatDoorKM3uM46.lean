/- Texts of this proof: M20 M21 M22 M23 M28 M29 M46. -/
import Derived.Test.YtllfmaflodbieaaGreatDoorKG04uG21
set_option linter.all false
namespace Go.Proofs.YtllfmaflodbieaaGreatDoor
open Go.RowKit
theorem Sa {a b:ByteArray}(h:BS a b=true):BS b a=false:=by
 cases h2:BS b a with
 |false=>rfl
 |true =>
  have:=E6 h h2
  rw[C8]at this
  cases this
theorem Mb (x:ByteArray) (r:List ByteArray) (k:ByteArray):Dw (x::r) k=if BS x k then Dw r k+1 else 0:=by
 unfold Dw
 rw[List.findIdx_cons]
 cases BS x k<;>rfl
theorem E1 {l:List ByteArray}{k:ByteArray}:Cn l k=true↔l[Dw l k]? = some k:=by
 unfold Cn
 split
 ·rename_i h
  rw[List.getElem?_eq_getElem h,beq_iff_eq,Option.some.injEq]
  exact⟨AA,fun e=>by rw[e]⟩
 ·rename_i h
  rw[List.getElem?_eq_none (by omega)]
  simp
theorem Wl {l:List ByteArray}{k:ByteArray}(h:Dw l k<l.length):BS l[Dw l k] k=false:=by
 have h2:(fun x=>!BS x k) (l[Dw l k])=true:=List.findIdx_getElem (w:=h)
 simpa using h2
theorem HT:∀{l:List ByteArray}{k:ByteArray},Up l→Bw k l=if Cn l k then l else l.take (Dw l k)++[k]++l.drop (Dw l k)
 | [],k,_=>by simp[Bw,Cn,Dw]
 |x::r,k,h=>by
  have h':=List.pairwise_cons.1 (show List.Pairwise _ (x::r) from h)
  unfold Bw
  split
  ·rename_i hl
   have hx:=Sa hl
   have hp:Dw (x::r) k=0:=by rw[Mb,hx];rfl
   have hf:Cn (x::r) k=false:=by
    cases hf:Cn (x::r) k with
    |false=>rfl
    |true =>
     have:=E1.1 hf
     rw[hp]at this
     have e:x=k:=by simpa using this
     subst e
     rw[C8]at hl
     cases hl
   rw[hf,hp]
   simp
  ·rename_i hl
   split
   ·rename_i he
    have e:k=x:=AA (by simpa using he)
    subst e
    have hp:Dw (k::r) k=0:=by rw[Mb,C8];rfl
    have hf:Cn (k::r) k=true:=E1.2 (by rw[hp];rfl)
    rw[hf]
    rfl
   ·rename_i he
    have hxk:BS x k=true:=by
     rcases Nb x k with g | g | g
     ·exact g
     ·subst g;exact absurd (by simp) he
     ·exact absurd g hl
    have hp:Dw (x::r) k=Dw r k+1:=by rw[Mb,hxk];rfl
    have hf:Cn (x::r) k=Cn r k:=by
     have:Cn (x::r) k=true↔Cn r k=true:=by
      rw[E1,E1,hp,List.getElem?_cons_succ]
     cases h1:Cn (x::r) k<;>cases h2:Cn r k<;>simp_all
    rw[hf,hp,HT h'.2]
    split
    ·rfl
    ·simp
theorem Yk {l:List ByteArray}(h:Up l) {p:Nat}{k:ByteArray}(hp:l[p]? = some k) (g g':ByteArray→V) (v:V) (hk:g' k=v) (hg:∀x∈l,x≠k→g' x=g x):l.map g'=(l.map g).set p v:=by
 refine List.ext_getElem (by simp) fun i h1 h2=>?_
 have hi:i<l.length:=by simpa using h1
 rw[List.getElem_map,List.getElem_set]
 split
 ·rename_i e
  subst e
  rw[List.getElem?_eq_getElem hi]at hp
  rw[Option.some.inj hp,hk]
 ·rename_i e
  rw[List.getElem_map]
  refine hg _ (List.getElem_mem hi) fun hx=>e ?_
  exact Wr h hp (List.getElem?_eq_some_iff.2 ⟨hi,hx⟩)
def Gf (v:V) (key:ByteArray) (x:V):Int×Option V:=if v.kind=0∨v.kind=6 then Js (Gi (v.keys++[key]) (v.kids++[x])) else Zq 6
def Kq (kids:List V) (n:Nat):List V:=kids++List.replicate (n+1-kids.length) P5
def a0k (r:Int×Option V) (g:V→Int×Option V):Int×Option V:=match r with
 | (_,some u)=>g u
 | (c,none)=>(c,none)
def Hj (v:V) (n:Int) (f:V→Int×Option V):Int×Option V :=
 if v.kind=5∨v.kind=0 then
  if C0 n v.kids.length<0 then Zq 3
  else if C0 n v.kids.length≥200 then Zq 2
  else a0k (f ((Kq v.kids (C0 n v.kids.length).toNat).getD (C0 n v.kids.length).toNat P5)) fun r=>Js (DB ((Kq v.kids (C0 n v.kids.length).toNat).set (C0 n v.kids.length).toNat r))
 else Zq 6
def C3 (x:V):List V→V→Int×Option V
 | [],_=>okR x
 |k::p,v=>if k.kind=3 then Hj v k.num (C3 x p)
  else match Ca v k.text with
   | (_,some w)=>match C3 x p w with
    | (_,some r)=>Gf v k.text r
    | (c,none)=>(c,none)
   | (c,none)=>(c,none)
theorem a0v {t:V}(h:t.fit):K4 (Js t):=by
 unfold Js
 split
 ·rename_i h0
  exact⟨rfl,a0u h h0⟩
 ·rename_i h0
  exact h0
theorem i7 (kids:List V) (n:Nat):(Kq kids n).length=max kids.length (n+1):=by
 unfold Kq
 rw[List.length_append,List.length_replicate]
 omega
theorem Lg {kids:List V}(h:∀v∈kids,v.right) (n:Nat):∀v∈Kq kids n,v.right:=fun v hv=>by
 rcases List.mem_append.1 hv with hv | hv
 ·exact h v hv
 ·rw[(List.mem_replicate.1 hv).2]
  exact D9
theorem a2s {kids:List V}{n:Nat}:(Kq kids n).getD n P5=if h:n<kids.length then kids[n] else P5:=by
 unfold Kq
 rw[List.getD_eq_getElem?_getD]
 split
 ·rename_i h
  rw[List.getElem?_append_left h,List.getElem?_eq_getElem h]
  rfl
 ·rename_i h
  rw[List.getElem?_append_right (by omega)]
  cases hg:(List.replicate (n+1-kids.length) P5)[n-kids.length]? with
  |none=>rfl
  |some y=>exact (List.mem_replicate.1 (List.mem_of_getElem? hg)).2
theorem a06 {l:List V}{m:Nat}(h:∀v∈l,v.count≤m):An l≤m*l.length:=by
 induction l with
 |nil=>simp[An]
 |cons x l ih =>
  have h1:=h x (by simp)
  have h2:=ih fun v hv=>h v (by simp[hv])
  simp only[An,List.length_cons,Nat.mul_add]
  omega
theorem Xs {l:List V}(h:∀v∈l,v.fit):(DB l).fit:=⟨Nat.zero_le _,by simp,fun h=>absurd h (by decide),fun h=>absurd h (by decide),fun _=>rfl,LS.2 h⟩
theorem X6 {ks:List ByteArray}{vs:List V}(hl:ks.length=vs.length) (hk:∀k∈ks,k.size≤60) (hv:∀v∈vs,v.fit):(Gi ks vs).fit:=by
 refine⟨Nat.zero_le _,fun k h=>hk k (C7.1 h),fun h=>absurd h (by decide),fun _=>(List.length_map _).symm,fun h=>absurd rfl h,LS.2 fun v h=>?_⟩
 obtain⟨k,hk',rfl⟩:=List.mem_map.1 h
 obtain⟨j,_,_,h3⟩:=EM (kids:=vs) hl (C7.1 hk')
 exact hv _ (List.mem_of_getElem? h3)
theorem a00 {l:List V}{p:V→Prop}(h:∀v∈l,p v) {n:Nat}{r:V}(hr:p r):∀v∈l.set n r,p v:=fun v hv=>by
 rcases List.mem_or_eq_of_mem_set hv with hv | rfl
 ·exact h v hv
 ·exact hr
theorem YP {v:V}(h:v.right):∀k∈v.keys,k.size≤60:=a12 (HI h)
theorem Ey {v:V}(h:v.right) (h0:v.kind=0):v.keys=[]∧v.kids=[]:=by
 have:=EV h.1
 exact⟨this.2.2.2.2.1 (by omega),this.2.2.2.2.2 (by omega) (by omega)⟩
theorem LT {v:V}(h:v.right) (hk:v.kind=0∨v.kind=6):v.keys.length=v.kids.length:=by
 rcases hk with h0 | h6
 ·rw[(Ey h h0).1,(Ey h h0).2];rfl
 ·exact (Gy h h6).2.2
theorem Zx {v x:V}(h:v.right) (hx:x.right) {key:ByteArray}(hk:AN key=true) (h6:v.kind=0∨v.kind=6):(Gi (v.keys++[key]) (v.kids++[x])).fit:=by
 refine X6 (by rw[List.length_append,List.length_append,LT h h6];rfl) (fun k hk'=>?_) fun y hy=>?_
 ·rcases List.mem_append.1 hk' with h1 | h1
  ·exact YP h k h1
  ·rw[List.mem_singleton.1 h1];exact Mk hk
 ·rcases List.mem_append.1 hy with h1 | h1
  ·exact HI (Cg h h1)
  ·rw[List.mem_singleton.1 h1];exact HI hx
theorem Pc {v x:V}(h:v.right) (hx:x.right) (key:ByteArray) (h6:v.kind=0∨v.kind=6):An (v.kids++[x])≤400∧(Gi (v.keys++[key]) (v.kids++[x])).count≤401:=by
 have h1:=Bp v
 have h2:=h.2.1
 have h3:=hx.2.1
 have h4:An (v.kids++[x])≤400:=by
  rw[RH]
  simp only[An]
  omega
 refine⟨h4,?_⟩
 have h5:=Hx _ (v.keys++[key]) (v.kids++[x]) rfl (by rw[List.length_append,List.length_append,LT h h6];rfl)
 have h7:=Bp (Gi (v.keys++[key]) (v.kids++[x]))
 have h8:(Gi (v.keys++[key]) (v.kids++[x])).kids=(AX (v.keys++[key])).map (AH (v.keys++[key]) (v.kids++[x])):=rfl
 rw[h8]at h7
 omega
theorem a1x {v x:V}(h:v.right) (hx:x.right) {key:ByteArray}(hk:AN key=true):K4 (Gf v key x):=by
 unfold Gf
 split
 ·rename_i h6
  exact a0v (Zx h hx hk h6)
 ·exact EX (by decide)
theorem YS {v r:V}(h:v.right) (hr:r.right) (n:Nat):(DB ((Kq v.kids n).set n r)).fit :=
 Xs fun y hy=>HI (a00 (Lg (fun z hz=>Cg h hz) n) hr y hy)
theorem P6 {v r:V}(h:v.right) (hr:r.right) {n:Nat}(hn:n<200):(DB ((Kq v.kids n).set n r)).count≤40001:=by
 have h1:=a06 (l:=(Kq v.kids n).set n r) (m:=200) fun y hy=>(a00 (Lg (fun z hz=>Cg h hz) n) hr y hy).2.1
 have h2:=Cj h.2.1
 rw[List.length_set,i7]at h1
 have h3:=Bp (DB ((Kq v.kids n).set n r))
 rw[show (DB ((Kq v.kids n).set n r)).kids=(Kq v.kids n).set n r from rfl]at h3
 have:200*max v.kids.length (n+1)≤200*200:=Nat.mul_le_mul_left _ (by omega)
 omega
theorem a23 {v:V}(h:v.right) (n:Nat):((Kq v.kids n).getD n P5).right:=by
 rw[a2s]
 split
 ·exact Cg h (List.getElem_mem _)
 ·exact D9
theorem Ie {x:V}(hx:x.right):∀(p:List V),(∀k∈p,k.right∧(k.kind=3∨k.kind=4))→∀(v:V),v.right→K4 (C3 x p v)
 | [],_,v,_=>Ki hx
 |k::p,hp,v,hv=>by
  have ih:=Ie hx p fun y hy=>hp y (by simp[hy])
  unfold C3
  split
  ·unfold Hj
   split
   ·split
    ·exact EX (by decide)
    ·split
     ·exact EX (by decide)
     ·have h1:=ih _ (a23 hv (C0 k.num v.kids.length).toNat)
      generalize C3 x p _=q at *
      rcases q with⟨c,_ | r⟩
      ·exact h1
      ·exact a0v (YS hv h1.2 _)
   ·exact EX (by decide)
  ·rename_i h3
   have hk4:k.kind=4:=(hp k (by simp)).2.resolve_left h3
   have hkt:AN k.text=true:=by
    have:=(hp k (by simp)).1.1
    cases k
    exact (MT (c:=⟨_,_,_,ByteArray.empty,_⟩) this.1).1
   have h1:=L4 hv k.text
   generalize Ca v k.text=q at *
   rcases q with⟨c,_ | w⟩
   ·exact h1
   ·have h2:=ih w h1.2
    dsimp only
    generalize C3 x p w=q at *
    rcases q with⟨c,_ | r⟩
    ·exact h2
    ·exact a1x hv h2.2 hkt
theorem UU:∀{l:List ByteArray}{p:Option ByteArray},Up l→(∀k∈l,∀q,p=some q→BS q k=true)→asc p l
 | [],p,_,_=>by unfold asc;trivial
 |k::l,p,h,hp=>by
  have h':=List.pairwise_cons.1 (show List.Pairwise _ (k::l) from h)
  have ih:asc (some k) l:=UU h'.2 fun x hx q hq=>by cases hq;exact h'.1 x hx
  cases p with
  |none=>exact ih
  |some q=>exact⟨hp k (by simp) q rfl,ih⟩
theorem NK:∀{l:List V},wfL l↔∀v∈l,v.wf
 | []=>by simp[wfL]
 |v::l=>by simp only[wfL,List.mem_cons,forall_eq_or_imp,NK (l:=l)]
theorem Mn {l:List V}{m:Nat}(h:∀v∈l,v.depth≤m):AI l≤m:=by
 induction l with
 |nil=>exact Nat.zero_le _
 |cons x l ih =>
  have h1:=h x (by simp)
  have h2:=ih fun v hv=>h v (by simp[hv])
  simp only[AI]
  omega
theorem XZ {ks:List ByteArray}{vs:List V}(hl:ks.length=vs.length) (hk:∀k∈ks,AN k=true) (hu:Up ks) (hv:∀v∈vs,v.wf) (hn:vs.length≤200):(V.mk 6 0 ByteArray.empty ks vs).wf:=by
 refine⟨?_,?_,NK.2 hv⟩
 ·unfold Az
  have h1:inB 6 0 6=true:=by decide
  have h2:inB (vs.length:Int) 0 200=true:=by unfold inB;simp;omega
  simp[h1,cF,cR,cT,B6,BH,h2,inB]
  omega
 ·unfold Ea
  rw[if_pos rfl]
  exact⟨hl,hk,UU hu (by simp)⟩
theorem L1 {k n:Int}{s:ByteArray}(h:Az k n s ByteArray.empty 0=0) (h6:k≠6):(V.mk k n s [] []).right:=by
 refine⟨⟨h,?_,trivial⟩,by simp[V.count,An],by simp[V.depth,AI]⟩
 unfold Ea
 rw[if_neg h6]
theorem QV {n:Int}(h:-1000000000000000≤n∧n≤1000000000000000):(GN n).right:=by
 refine L1 ?_ (by decide)
 unfold Az
 have h1:inB 3 0 6=true:=by decide
 have h2:inB n (-1000000000000000) 1000000000000000=true:=by unfold inB;simp;omega
 simp[h1,cF,cR,cT,B6,BH,h2,inB]
 omega
def XW (b:Bool):V:=.mk (bif b then 2 else 1) 0 ByteArray.empty [] []
def Zs:List ByteArray:=[⟨#[97]⟩,⟨#[98]⟩,⟨#[99]⟩,⟨#[105,100]⟩,ByteArray.empty,⟨#[120,32,121]⟩,⟨#[97,98]⟩,⟨#[34,113,92]⟩]
def FV (q:V):Prop:=q.right∧q.count=1∧q.depth=1∧(q.kind=3∨q.kind=4)
theorem a2u {q:V}(h:a18 q):FV q:=by
 obtain⟨h1,h2,h3⟩:=R3 h
 refine⟨h1,h2,h3,?_⟩
 rcases h with⟨s,rfl,_⟩ | ⟨n,rfl,_⟩
 ·exact .inr rfl
 ·exact .inl rfl
theorem R8 {s:ByteArray}(h:AN s=true):(K9 s).right:=by
 refine L1 ?_ (by decide)
 unfold Az
 have h2:inB 0 (-1000000000000000) 1000000000000000=true:=by decide
 simp[cF,cR,cT,B6,BH,h2,inB,h]
mutual
theorem v8:∀(t:V) (ahead:List V),t.right→(∀q∈ahead,FV q)→∀p∈t.paths ahead,(∀q∈p.1,FV q)∧p.1.length+p.2.depth≤ahead.length+t.depth
 | .mk kind num text keys kids,ahead,ht,ha=>by
  intro p hp
  simp only[V.paths,List.mem_cons]at hp
  rcases hp with rfl | hp
  ·exact⟨ha,Nat.le_refl _⟩
  ·have hr:∀k∈kids,k.right:=fun k hk=>Cg ht hk
   have:=b8 (V.mk kind num text keys kids).keyV 0 kids ahead hr (fun j hj=>a2u (a0w ht (by simpa [V.kids] using hj))) ha p hp
   exact⟨this.1,by simp only[V.depth];omega⟩
theorem b8:∀(key:Nat→V) (i:Nat) (ks ahead:List V),(∀k∈ks,k.right)→(∀j,j<i+ks.length→FV (key j))→(∀q∈ahead,FV q)→∀p∈Dv key i ks ahead,(∀q∈p.1,FV q)∧p.1.length+p.2.depth≤ahead.length+1+AI ks
 |_,_,[],_,_,_,_=>by simp[Dv]
 |key,i,k::ks,ahead,hr,hk,ha=>by
  intro p hp
  simp only[Dv,List.mem_append]at hp
  rcases hp with hp | hp
  ·have:=v8 k (ahead++[key i]) (hr k (by simp)) (fun q hq=>by
    rcases List.mem_append.1 hq with hq | hq
    ·exact ha q hq
    ·rw[List.mem_singleton.1 hq];exact hk i (by simp)) p hp
   refine⟨this.1,?_⟩
   have h2:=this.2
   rw[List.length_append,List.length_singleton]at h2
   simp only[AI]
   omega
  ·have:=b8 key (i+1) ks ahead (fun x hx=>hr x (by simp[hx])) (fun j hj=>hk j (by simp only[List.length_cons];omega)) ha p hp
   exact⟨this.1,by simp only[AI];omega⟩
end
theorem EH:∀{l:List V},(∀q∈l,FV q)→An l=l.length∧AI l≤1∧wfL l
 | [],_=>⟨rfl,Nat.zero_le _,trivial⟩
 |q::l,h=>by
  obtain⟨h1,h2,h3⟩:=EH (l:=l) fun x hx=>h x (by simp[hx])
  obtain⟨h4,h5,h6,_⟩:=h q (by simp)
  exact⟨by simp only[An,List.length_cons];omega,by simp only[AI];omega,h4.1,h3⟩
theorem XY {P:List V}(h:∀q∈P,FV q) (hl:P.length≤100):(DB P).right:=by
 obtain⟨h1,h2,h3⟩:=EH h
 exact⟨Y4 h3 (by omega),by simp only[DB,V.count];omega,by simp only[DB,V.depth];omega⟩
def Ja (c:Int):Prop:=c=2∨c=3∨c=5∨c=7
theorem Bq {c:Int}(h:Ja c):c≠0:=by unfold Ja at h;omega
def Rd.fine {α:Type}(s:ByteArray) (i:Nat) (P:α→Nat→Prop):Rd α→Prop
 | .ok v e=>i<e∧e≤s.size∧P v e
 | .bad c p=>Ja c∧i≤p∧p≤s.size
theorem rd5:Ja 5:=.inr (.inr (.inl rfl))
theorem G9 {s:ByteArray}{i:Nat}(h:i<s.size):bAt s i<256:=by
 obtain⟨b,_,h2⟩:=Aw h
 rw[h2];exact b.toNat_lt
theorem BW {s:ByteArray}{i:Nat}(h:bAt s i≠256):i<s.size:=CP (by have:=Yn s i;omega)
theorem Iw {s:ByteArray}{i:Nat}(h:i<s.size):i≤AB s i∧AB s i≤i+1∧AB s i≤s.size:=by
 unfold AB
 split
 ·exact⟨by omega,Nat.le_refl _,by omega⟩
 ·exact⟨Nat.le_refl _,by omega,by omega⟩
theorem IM {s:ByteArray}{i:Nat}(h:i<s.size) (hd:AP (bAt s (AB s i))=true):AB s i<AQ s i∧AQ s i≤s.size∧∀j,AB s i≤j→j<AQ s i→AP (bAt s j)=true:=by
 have hlt:=CP (s:=s) (i:=AB s i) (by have:=DM hd;omega)
 unfold AQ
 by_cases h0:bAt s (AB s i)=48
 ·rw[if_pos h0]
  refine⟨by omega,by omega,fun j h1 h2=>?_⟩
  have:j=AB s i:=by omega
  rw[this];exact hd
 ·rw[if_neg h0]
  obtain⟨h1,h2,_,h3⟩:=Kg (s:=s) (i:=AB s i) (by omega)
  refine⟨?_,h2,h3⟩
  rw[IX hd]
  have:=(Kg (s:=s) (i:=AB s i+1) (by omega)).1
  omega
theorem W8 {s:ByteArray}{i:Nat}(h:Dx s i=false):-1000000000000000≤Ef s i∧Ef s i≤1000000000000000:=by
 have h2:Bf s (AB s i) (AQ s i-AB s i)≤1000000000000000:=by
  unfold Dx at h
  have:=(Bool.or_eq_false_iff.1 h).2
  simpa using this
 unfold Ef
 split<;>omega
theorem Ty {s:ByteArray}{i:Nat}(h:i<s.size):(K8 s i).fine s i fun n _=>-1000000000000000≤n∧n≤1000000000000000:=by
 obtain⟨ha,ha',ha2⟩:=Iw h
 unfold K8
 cases hd:AP (bAt s (AB s i)) with
 |false=>exact⟨rd5,ha,ha2⟩
 |true =>
  obtain⟨h1,h2,_⟩:=IM h hd
  simp only[Bool.true_eq_false,if_false]
  cases hb:Dx s i with
  |true=>exact⟨.inr (.inl rfl),Nat.le_refl _,by omega⟩
  |false =>
   simp only[Bool.false_eq_true,if_false]
   split
   ·exact⟨.inr (.inl rfl),by omega,h2⟩
   ·exact⟨by omega,h2,W8 hb⟩
theorem GL {n:Nat}(h:¬B8 n<0):48≤n∧n≤102∧B8 n≤15∧0≤B8 n:=by
 unfold B8 at *
 unfold AP at *
 by_cases h1:48≤n<;>by_cases h2:n≤57<;>by_cases h3:97≤n<;>by_cases h4:n≤102<;>by_cases h5:65≤n<;>by_cases h6:n≤70<;>simp[h1,h2,h3,h4,h5,h6]at h ⊢<;>omega
theorem Ju {s:ByteArray}{i:Nat}(h:i<s.size):(EJ s i).fine s i fun b _=>32≤b∧b≤126:=by
 unfold EJ
 split
 ·rename_i h1
  have hlt:=BW (s:=s) (i:=i+1) (by omega)
  exact⟨by omega,by omega,by omega,by omega⟩
 split
 ·exact⟨rd5,by omega,by omega⟩
 rename_i h0 h1
 have hlt:=BW (s:=s) (i:=i+1) (by omega)
 split
 ·exact⟨rd5,by omega,by omega⟩
 rename_i h2
 have hlt2:=BW (s:=s) (i:=i+2) (by omega)
 split
 ·exact⟨rd5,by omega,by omega⟩
 rename_i h3
 have hlt3:=BW (s:=s) (i:=i+3) (by omega)
 split
 ·exact⟨rd5,by omega,by omega⟩
 rename_i h4
 have g4:=GL h4
 have hlt4:=BW (s:=s) (i:=i+4) (by omega)
 split
 ·exact⟨rd5,by omega,by omega⟩
 rename_i h5
 have g5:=GL h5
 have hlt5:=BW (s:=s) (i:=i+5) (by omega)
 split
 ·exact⟨by omega,by omega,by omega,by omega⟩
 ·exact⟨rd5,by omega,by omega⟩
def Sj (t:ByteArray):Prop:=t.data.toList.all CS=true
theorem Rv:Sj ByteArray.empty:=by unfold Sj;rfl
theorem MS {t:ByteArray}(h:Sj t) {n:Nat}(h1:32≤n) (h2:n≤126):Sj (t++BF n):=by
 unfold Sj at *
 have hb:CS (UInt8.ofNat n)=true:=by
  have:(UInt8.ofNat n).toNat=n:=by
   rw[UInt8.toNat_ofNat']
   exact Nat.mod_eq_of_lt (by omega)
  unfold CS
  rw[this]
  simp[h1,h2]
 have hd:(t++BF n).data=t.data++#[UInt8.ofNat n]:=ByteArray.data_append
 rw[hd,Array.toList_append,List.all_append,h]
 simp[hb]
theorem GC (n:Nat):(BF n).size=1:=rfl
theorem DN (t:ByteArray) (n:Nat):(t++BF n).size=t.size+1:=by rw[ByteArray.size_append,GC]
theorem Sk {s:ByteArray}{from_:Nat}:∀(n i:Nat) (out:ByteArray),s.size-i<n→from_<i→i≤s.size→Sj out→(CU s from_ n i out).fine s from_ fun t _=>AN t=true:=by
 intro n
 induction n with
 |zero=>intro i out hn;omega
 |succ n ih =>
  intro i out hn hf hi ho
  unfold CU
  split
  ·exact⟨rd5,by omega,Nat.le_refl _⟩
  split
  ·split
   ·exact⟨.inl rfl,Nat.le_refl _,by omega⟩
   ·rename_i h60
    refine⟨by omega,by omega,?_⟩
    show AN out=true
    unfold AN
    unfold Sj at ho
    rw[ho]
    simp
    omega
  split
  ·exact⟨rd5,by omega,hi⟩
  rename_i h1 h2 h3
  split
  ·exact ih (i+1) _ (by omega) (by omega) (by omega) (MS ho (by omega) (by omega))
  ·have he:=Ju (s:=s) (i:=i) (by omega)
   cases hr:EJ s i with
   |bad c p =>
    rw[hr]at he
    exact⟨he.1,by have:=he.2.1;omega,he.2.2⟩
   |ok b e =>
    rw[hr]at he
    obtain⟨g1,g2,g3,g4⟩:=he
    exact ih e _ (by omega) (by omega) g2 (MS ho g3 g4)
theorem Ep {s:ByteArray}{i:Nat}(hi:i≤s.size):(E4 s i).fine s i fun t _=>AN t=true:=by
 unfold E4
 split
 ·exact⟨rd5,Nat.le_refl _,hi⟩
 ·rename_i h
  have hlt:=BW (s:=s) (i:=i) (by omega)
  exact Sk _ _ _ (by omega) (by omega) (by omega) Rv
theorem Lf {s:ByteArray}{v:V}{i:Nat}:∀(l:List Nat) (k:Nat),(∀b∈l,b<256)→i+k≤s.size→(l≠[]∨0<k)→(Ck s v i l k).fine s i fun x _=>x=v
 | [],k,_,h,hk=>by
  unfold Ck
  refine⟨?_,h,rfl⟩
  rcases hk with hk | hk
  ·exact absurd rfl hk
  ·omega
 |b::r,k,hb,h,hk=>by
  unfold Ck
  split
  ·rename_i hbe
   have h1:=hb b (by simp)
   have hlt:=CP (s:=s) (i:=i+k) (by omega)
   exact Lf r (k+1) (fun x hx=>hb x (by simp[hx])) (by omega) (.inr (by omega))
  ·exact⟨rd5,by omega,h⟩
theorem Je {s:ByteArray}{i:Nat}(hi:i≤s.size):(Hs s i).fine s i fun t _=>AN t=true:=by
 unfold Hs
 have h:=Ep hi
 cases hr:E4 s i with
 |bad c p=>rw[hr]at h;exact h
 |ok k e =>
  rw[hr]at h
  obtain⟨h1,h2,h3⟩:=h
  obtain⟨g1,g2,_⟩:=AM h2
  show (if bAt s (Af s e)≠58 then Rd.bad 5 (Af s e) else .ok k (Af s (Af s e+1))).fine s i _
  split
  ·exact⟨rd5,by omega,g2⟩
  ·rename_i h4
   have hlt:=BW (s:=s) (i:=Af s e) (by omega)
   obtain⟨g3,g4,_⟩:=AM (s:=s) (i:=Af s e+1) (by omega)
   exact⟨by omega,g4,h3⟩
def rdV (k i:Nat) (v:V) (e:Nat):Prop:=v.fit∧v.depth≤k∧v.count≤e-i∧(v.count≤200→v.wf)
theorem OQ {s:ByteArray}{k:Nat}{rd:Nat→Rd V}(hrd:∀i,i≤s.size→(rd i).fine s i (rdV k i)) (i0:Nat) (obj:Bool):∀(n i:Nat) (first:Bool) (keys:List ByteArray) (kids:List V),s.size-i<n→i0<i→i≤s.size→(obj=true→keys.length=kids.length)→(∀x∈keys,AN x=true)→(∀v∈kids,v.fit∧v.depth≤k∧(v.count≤200→v.wf))→An kids+i0+1≤i→(Bd s rd obj n i first keys kids).fine s i0 (rdV (k+1) i0):=by
 intro n
 induction n with
 |zero=>intro i first keys kids hn;omega
 |succ n ih =>
  intro i first keys kids hn h0 hi hl hks hvs hc
  unfold Bd
  by_cases hend:bAt s i=(if obj then 125 else 93)
  ·rw[if_pos hend]
   have hlt:=BW (s:=s) (i:=i) (by rw[hend];cases obj<;>decide)
   refine⟨by omega,by omega,?_⟩
   have hfit:∀v∈kids,v.fit:=fun v hv=>(hvs v hv).1
   have hdep:∀v∈kids,v.depth≤k:=fun v hv=>(hvs v hv).2.1
   cases obj with
   |false =>
    refine⟨Xs hfit,?_,?_,fun h200=>?_⟩
    ·show AI kids+1≤k+1
     have:=Mn hdep
     omega
    ·show An kids+1≤i+1-i0
     omega
    ·have hcc:An kids+1≤200:=h200
     have hcl:=BR kids
     exact Y4 (NK.2 fun v hv=>(hvs v hv).2.2 (by have:=BC hv;omega)) (by omega)
   |true =>
    have hl':=hl rfl
    have hmem:∀v∈(AX keys).map (AH keys kids),v∈kids:=fun v hv=>by
     obtain⟨x,hx,rfl⟩:=List.mem_map.1 hv
     obtain⟨j,_,_,h3⟩:=EM (kids:=kids) hl' (C7.1 hx)
     exact List.mem_of_getElem? h3
    have hcl:An ((AX keys).map (AH keys kids))≤An kids:=Hx _ keys kids hl' rfl
    refine⟨X6 hl' (fun x hx=>Mk (hks x hx)) hfit,?_,?_,fun h200=>?_⟩
    ·show AI ((AX keys).map (AH keys kids))+1≤k+1
     have:=Mn fun v hv=>hdep v (hmem v hv)
     omega
    ·show An ((AX keys).map (AH keys kids))+1≤i+1-i0
     omega
    ·have hcc:An ((AX keys).map (AH keys kids))+1≤200:=h200
     have hln:=BR ((AX keys).map (AH keys kids))
     refine XZ (List.length_map _).symm (fun x hx=>hks x (C7.1 hx)) (Ex _) (fun v hv=>(hvs v (hmem v hv)).2.2 (by have:=BC hv;omega)) (by omega)
  rw[if_neg hend]
  by_cases hcomma:first=false∧bAt s i≠44
  ·rw[if_pos hcomma];exact⟨rd5,by omega,hi⟩
  rw[if_neg hcomma]
  have hj:∃j,(if first then i else Af s (i+1))=j∧i≤j∧j≤s.size:=by
   cases first with
   |true=>exact⟨i,rfl,Nat.le_refl _,hi⟩
   |false =>
    have hb:bAt s i=44:=Classical.byContradiction fun h=>hcomma ⟨rfl,h⟩
    have hlt:=BW (s:=s) (i:=i) (by omega)
    obtain⟨g1,g2,_⟩:=AM (s:=s) (i:=i+1) (by omega)
    exact⟨Af s (i+1),rfl,by omega,g2⟩
  obtain⟨j,hje,hj1,hj2⟩:=hj
  rw[hje]
  have hk:∃r,(if obj then Hs s j else .ok ByteArray.empty j)=r∧(match r with | .bad c p=>Ja c∧i0≤p∧p≤s.size | .ok x e=>j≤e∧e≤s.size∧AN x=true):=by
   cases obj with
   |false=>exact⟨_,rfl,Nat.le_refl _,hj2,B6⟩
   |true =>
    refine⟨_,rfl,?_⟩
    have hkf:=Je hj2
    show (match Hs s j with | .bad c p=>Ja c∧i0≤p∧p≤s.size | .ok x e=>j≤e∧e≤s.size∧AN x=true)
    cases hkr:Hs s j with
    |bad c p=>rw[hkr]at hkf;exact⟨hkf.1,by have:=hkf.2.1;omega,hkf.2.2⟩
    |ok x e=>rw[hkr]at hkf;exact⟨by have:=hkf.1;omega,hkf.2.1,hkf.2.2⟩
  obtain⟨r,hre,hr⟩:=hk
  rw[hre]
  cases r with
  |bad c p=>exact hr
  |ok x e =>
   obtain⟨h1,h2,h3⟩:=hr
   have hv:=hrd e h2
   show (match rd e with | .bad c p=>Rd.bad c p | .ok v e2=>Bd s rd obj n (Af s e2) false (if obj then keys++[x] else keys) (kids++[v])).fine s i0 _
   cases hve:rd e with
   |bad c p=>rw[hve]at hv;exact⟨hv.1,by have:=hv.2.1;omega,hv.2.2⟩
   |ok v e2 =>
    rw[hve]at hv
    obtain⟨g1,g2,g3,g4,g5,g6⟩:=hv
    obtain⟨k1,k2,_⟩:=AM g2
    refine ih (Af s e2) false _ _ (by omega) (by omega) k2 ?_ ?_ ?_ ?_
    ·intro ho
     subst ho
     simp[hl rfl]
    ·intro y hy
     cases obj with
     |false=>exact hks y hy
     |true =>
      rcases List.mem_append.1 hy with hy | hy
      ·exact hks y hy
      ·rw[List.mem_singleton.1 hy];exact h3
    ·intro y hy
     rcases List.mem_append.1 hy with hy | hy
     ·exact hvs y hy
     ·rw[List.mem_singleton.1 hy];exact⟨g3,g4,g6⟩
    ·rw[Dg]
     omega
theorem W2 {k i e:Nat}(m:Int) (h0:m=0∨m=1∨m=2) (h:i<e):rdV (k+1) i (BZ m) e:=by
 refine⟨⟨Nat.zero_le _,by simp,fun _=>rfl,fun h=>absurd h (by omega),fun _=>rfl,trivial⟩,?_,?_,fun _=>?_⟩
 ·show AI []+1≤k+1
  simp[AI]
 ·show An []+1≤e-i
  simp only[An]
  omega
 ·refine⟨?_,by simp[Ea];omega,trivial⟩
  rcases h0 with rfl | rfl | rfl<;>decide +kernel
theorem X1 {k i e:Nat}{t:ByteArray}(ht:AN t=true) (h:i<e):rdV (k+1) i (K9 t) e:=by
 refine⟨⟨by have:=Mk ht;show t.size≤200;omega,by simp,fun _=>rfl,fun h=>absurd h (by decide),fun _=>rfl,trivial⟩,?_,?_,fun _=>(R8 ht).1⟩
 ·show AI []+1≤k+1
  simp[AI]
 ·show An []+1≤e-i
  simp only[An]
  omega
theorem Xt {k i e:Nat}{n:Int}(hn:-1000000000000000≤n∧n≤1000000000000000) (h:i<e):rdV (k+1) i (GN n) e:=by
 refine⟨⟨Nat.zero_le _,by simp,fun _=>rfl,fun h=>absurd h (by decide),fun _=>rfl,trivial⟩,?_,?_,fun _=>(QV hn).1⟩
 ·show AI []+1≤k+1
  simp[AI]
 ·show An []+1≤e-i
  simp only[An]
  omega
theorem C2 {s:ByteArray}:∀(k i:Nat),i≤s.size→(Cq k s i).fine s i (rdV k i)
 | 0,i,h=>by
  unfold Cq
  split
  ·exact⟨rd5,h,Nat.le_refl _⟩
  ·exact⟨.inr (.inr (.inr rfl)),Nat.le_refl _,by omega⟩
 |k+1,i,h=>by
  have hw:∀(m:Int) (l:List Nat),(m=0∨m=1∨m=2)→(∀b∈l,b<256)→l≠[]→(Ck s (BZ m) i l 0).fine s i (rdV (k+1) i):=by
   intro m l hm hb hl
   have hf:=Lf (s:=s) (v:=BZ m) (i:=i) l 0 hb (by omega) (.inl hl)
   cases hr:Ck s (BZ m) i l 0 with
   |bad c p=>rw[hr]at hf;exact hf
   |ok v e =>
    rw[hr]at hf
    obtain⟨h1,h2,rfl⟩:=hf
    exact⟨h1,h2,W2 m hm h1⟩
  have hm:∀obj:Bool,i<s.size→(Bd s (Cq k s) obj (s.size+1) (Af s (i+1)) true [] []).fine s i (rdV (k+1) i):=by
   intro obj hlt
   obtain⟨g1,g2,_⟩:=AM (s:=s) (i:=i+1) (by omega)
   exact OQ (fun j hj=>C2 k j hj) i obj _ _ _ _ _ (by omega) (by omega) g2 (fun _=>rfl) (by simp) (by simp) (by simp only[An];omega)
  unfold Cq
  split
  ·exact⟨rd5,h,Nat.le_refl _⟩
  rename_i hlt
  split
  ·exact hw 0 _ (.inl rfl) (by simp) (by simp)
  split
  ·exact hw 1 _ (.inr (.inl rfl)) (by simp) (by simp)
  split
  ·exact hw 2 _ (.inr (.inr rfl)) (by simp) (by simp)
  split
  ·exact hm false (by omega)
  split
  ·exact hm true (by omega)
  split
  ·have hf:=Ep h
   cases hr:E4 s i with
   |bad c p=>rw[hr]at hf;exact hf
   |ok t e =>
    rw[hr]at hf
    exact⟨hf.1,hf.2.1,X1 hf.2.2 hf.1⟩
  ·have hf:=Ty (s:=s) (i:=i) (by omega)
   cases hr:K8 s i with
   |bad c p=>rw[hr]at hf;exact hf
   |ok t e =>
    rw[hr]at hf
    exact⟨hf.1,hf.2.1,Xt hf.2.2 hf.1⟩
theorem z7 {s:ByteArray}{v:V}{c:Int×Nat}(h:SB s=(c,some v)):c=(0,0)∧v.right∧v.fit:=by
 unfold SB at h
 split at h
 ·cases h
 have hf:=C2 (s:=s) 20 (Af s 0) (AM (Nat.zero_le _)).2.1
 cases hr:Cq 20 s (Af s 0) with
 |bad c p=>rw[hr]at h;cases h
 |ok u e =>
  rw[hr]at h hf
  simp only at h
  split at h
  ·cases h
  split at h
  ·cases h
  ·rename_i h200
   cases h
   obtain⟨_,_,h1,h2,_,h3⟩:=hf
   exact⟨rfl,⟨h3 (by omega),by omega,h2⟩,h1⟩
end Go.Proofs.YtllfmaflodbieaaGreatDoor
