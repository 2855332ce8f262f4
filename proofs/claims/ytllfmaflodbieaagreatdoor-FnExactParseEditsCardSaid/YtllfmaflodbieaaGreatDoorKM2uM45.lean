/- Texts of this proof: M08 M09 M10 M15 M16 M18 M19 M45. -/
import Derived.Test.YtllfmaflodbieaaGreatDoorKM1
set_option linter.all false
namespace Go.Proofs.YtllfmaflodbieaaGreatDoor
open Go.RowKit
def V.right (t:V):Prop:=t.wf∧t.count≤200∧t.depth≤20
theorem AA {a b:ByteArray}(h:a.toList=b.toList):a=b:=by
 rw[ByteArray.toList_eq,ByteArray.toList_eq]at h
 cases a;cases b
 simp at h
 rw[h]
theorem Cg {t:V}(h:t.right) {k:V}(hk:k∈t.kids):k.right:=by
 obtain⟨h1,h2,h3⟩:=h
 have h4:=BC hk
 have h5:=Bp t
 have h6:=FK hk
 have h7:=KO t
 exact⟨Oz (Td h1) k hk,by omega,by omega⟩
theorem Ls {t:V}(h:t.right):t.neat:=Sz t h.1
theorem J9 {t:V}(h:t.right):dec t.enc=(0,some t):=SQ h.1 h.2.1 h.2.2
def okR (t:V):Int×Option V:=(0,some t)
def Zq (c:Int):Int×Option V:=(c,none)
def BS (a b:ByteArray):Bool:=Op.bytesLess a.toList b.toList
theorem Ch:∀(l:List UInt8),Op.bytesLess l l=false
 | []=>rfl
 |x::l=>by simp[Op.bytesLess,Ch l]
theorem Cu:∀{a b c:List UInt8},Op.bytesLess a b=true→Op.bytesLess b c=true→Op.bytesLess a c=true
 | [],_,c::cs,h1,h2=>rfl
 | [],b,[],h1,h2=>by cases b<;>simp[Op.bytesLess]at h1 h2
 |x::a,[],_,h1,_=>by simp[Op.bytesLess]at h1
 |x::a,y::b,[],_,h2=>by simp[Op.bytesLess]at h2
 |x::a,y::b,z::c,h1,h2=>by
  simp only[Op.bytesLess,Bool.or_eq_true,decide_eq_true_eq,Bool.and_eq_true,beq_iff_eq]at h1 h2 ⊢
  rcases h1 with h1 | ⟨rfl,h1⟩
  ·rcases h2 with h2 | ⟨rfl,h2⟩
   ·exact .inl (UInt8.lt_trans h1 h2)
   ·exact .inl h1
  ·rcases h2 with h2 | ⟨rfl,h2⟩
   ·exact .inl h2
   ·exact .inr ⟨rfl,Cu h1 h2⟩
theorem CX:∀(a b:List UInt8),Op.bytesLess a b=true∨a=b∨Op.bytesLess b a=true
 | [],[]=>.inr (.inl rfl)
 | [],_::_=>.inl rfl
 |_::_,[]=>.inr (.inr rfl)
 |x::a,y::b=>by
  simp only[Op.bytesLess,Bool.or_eq_true,decide_eq_true_eq,Bool.and_eq_true,beq_iff_eq]
  by_cases hxy:x<y
  ·exact .inl (.inl hxy)
  ·by_cases hyx:y<x
   ·exact .inr (.inr (.inl hyx))
   ·have:x=y:=by
     apply UInt8.toNat_inj.1
     have h1:¬x.toNat<y.toNat:=fun h=>hxy (UInt8.lt_iff_toNat_lt.2 h)
     have h2:¬y.toNat<x.toNat:=fun h=>hyx (UInt8.lt_iff_toNat_lt.2 h)
     omega
    subst this
    rcases CX a b with h | rfl | h
    ·exact .inl (.inr ⟨rfl,h⟩)
    ·exact .inr (.inl rfl)
    ·exact .inr (.inr (.inr ⟨rfl,h⟩))
theorem E6 {a b c:ByteArray}(h1:BS a b=true) (h2:BS b c=true):BS a c=true:=Cu h1 h2
theorem C8 (a:ByteArray):BS a a=false:=Ch _
theorem OW:∀{ks:List ByteArray}{p:ByteArray},asc (some p) ks→∀{i:Nat}(hi:i<ks.length),BS p ks[i]=true
 | [],_,_,i,hi=>by simp at hi
 |k::ks,p,h,0,_=>h.1
 |k::ks,p,h,i+1,hi=>by
  have:=OW h.2 (i:=i) (by simpa using hi)
  simp only[List.getElem_cons_succ]
  exact E6 h.1 this
theorem Kz:∀{ks:List ByteArray}{o:Option ByteArray},asc o ks→∀{i j:Nat}(hij:i<j) (hj:j<ks.length),BS (ks[i]'(by omega)) ks[j]=true
 | [],_,_,i,j,_,hj=>by simp at hj
 |k::ks,o,h,0,j+1,_,hj=>by
  have h':asc (some k) ks:=by
   cases o with
   |none=>exact h
   |some p=>exact h.2
  simp only[List.getElem_cons_zero,List.getElem_cons_succ]
  exact OW h' (by simpa using hj)
 |k::ks,o,h,i+1,j+1,hij,hj=>by
  have h':asc (some k) ks:=by
   cases o with
   |none=>exact h
   |some p=>exact h.2
  simp only[List.getElem_cons_succ]
  exact Kz h' (by omega) (by simpa using hj)
theorem Gy {t:V}(h:t.right) (h6:t.kind=6):asc none t.keys∧(∀k∈t.keys,AN k=true)∧t.keys.length=t.kids.length:=by
 obtain⟨hw,_,_⟩:=h
 cases t
 simp only[V.wf,Ea]at hw
 simp only[V.kind]at h6
 rw[if_pos h6]at hw
 exact⟨hw.2.1.2.2,hw.2.1.2.1,hw.2.1.1⟩
theorem Y4 {l:List V}(h:wfL l) (hl:l.length≤200):(DB l).wf:=by
 refine⟨?_,by simp[Ea],h⟩
 unfold Az
 have h1:inB 5 0 6=true:=by decide
 have h2:inB (l.length:Int) 0 200=true:=by unfold inB;simp;omega
 simp[h1,cF,cR,cT,B6,BH,h2,inB]
 omega
theorem EV {t:V}(h:t.wf):0≤t.kind∧t.kind≤6∧(t.kind≠3→t.num=0)∧(t.kind≠4→t.text=ByteArray.empty)∧(t.kind≠6→t.keys=[])∧(t.kind≠5→t.kind≠6→t.kids=[]):=by
 obtain⟨k,n,s,ks,vs⟩:=t
 simp only[V.wf]at h
 obtain⟨h1,h2,_⟩:=h
 simp only[V.kind,V.num,V.text,V.keys,V.kids]
 unfold Az at h1
 split at h1
 ·exact absurd h1 (by decide)
 ·rename_i hk
  split at h1
  ·exact absurd h1 (by decide)
  ·rename_i hf
   unfold cF at hf
   unfold inB at hk
   unfold BH at hf
   simp only[Bool.not_eq_true',Bool.not_eq_false,Bool.and_eq_true,decide_eq_true_eq,Bool.or_eq_true,not_or,not_and,bne_iff_ne,ne_eq,Bool.not_eq_true,beq_eq_false_iff_ne]at hk hf
   obtain⟨⟨f1,f2⟩,f3⟩:=hf
   refine⟨hk.1,hk.2,fun h=>?_,fun h=>?_,fun h=>?_,fun h5 h6=>?_⟩
   ·by_cases hn:n=0
    ·exact hn
    ·exact absurd (f1 hn) (by simpa using h)
   ·by_cases hs:s.toList=[]
    ·exact Ld hs
    ·have:=f2 (by simpa using hs)
     exact absurd this (by simpa using h)
   ·unfold Ea at h2
    rw[if_neg h]at h2
    exact h2
   ·by_cases hn:(vs.length:Int)=0
    ·exact List.eq_nil_of_length_eq_zero (by omega)
    ·have:=f3 hn
     simp[h5,h6]at this
def CT (l:List ByteArray) (k:ByteArray):Bool:=l.any fun x=>x.toList==k.toList
theorem Co {l:List ByteArray}{k:ByteArray}:CT l k=true↔k∈l:=by
 unfold CT
 rw[List.any_eq_true]
 constructor
 ·rintro⟨x,hx,h⟩
  have:x=k:=AA (by simpa using h)
  rw[←this];exact hx
 ·intro h
  exact⟨k,h,by simp⟩
def Bw (k:ByteArray):List ByteArray→List ByteArray
 | []=>[k]
 |x::r=>if BS k x then k::x::r else if k.toList==x.toList then x::r else x::Bw k r
def AX (keys:List ByteArray):List ByteArray:=keys.foldl (fun l k=>Bw k l) []
def Up (l:List ByteArray):Prop:=l.Pairwise fun a b=>BS a b=true
theorem FB (k:ByteArray):∀(l:List ByteArray) (x:ByteArray),x∈Bw k l↔x=k∨x∈l
 | [],x=>by simp[Bw]
 |y::r,x=>by
  unfold Bw
  split
  ·simp
  ·split
   ·rename_i h
    have:k=y:=AA (by simpa using h)
    subst this
    simp
   ·rw[List.mem_cons,FB k r x,List.mem_cons]
    constructor
    ·rintro (h | h | h)
     ·exact .inr (.inl h)
     ·exact .inl h
     ·exact .inr (.inr h)
    ·rintro (h | h | h)
     ·exact .inr (.inl h)
     ·exact .inl h
     ·exact .inr (.inr h)
theorem Nb (a b:ByteArray):BS a b=true∨a=b∨BS b a=true:=by
 rcases CX a.toList b.toList with h | h | h
 ·exact .inl h
 ·exact .inr (.inl (AA h))
 ·exact .inr (.inr h)
theorem N2 (k:ByteArray):∀{l:List ByteArray},Up l→Up (Bw k l)
 | [],_=>by simp[Bw,Up]
 |y::r,h=>by
  unfold Up at h
  rw[List.pairwise_cons]at h
  unfold Bw
  split
  ·rename_i hl
   refine List.pairwise_cons.2 ⟨fun x hx=>?_,List.pairwise_cons.2 h⟩
   rcases List.mem_cons.1 hx with rfl | hx
   ·exact hl
   ·exact E6 hl (h.1 x hx)
  ·rename_i hl
   split
   ·exact List.pairwise_cons.2 h
   ·rename_i he
    refine List.pairwise_cons.2 ⟨fun x hx=>?_,N2 k h.2⟩
    rcases (FB k r x).1 hx with rfl | hx
    ·rcases Nb x y with g | g | g
     ·exact absurd g hl
     ·subst g;exact absurd (by simp) he
     ·exact g
    ·exact h.1 x hx
theorem Vk:∀{a b:List ByteArray},Up a→Up b→(∀x,x∈a↔x∈b)→a=b
 | [],[],_,_,_=>rfl
 | [],y::b,_,_,h=>absurd ((h y).2 (by simp)) (by simp)
 |x::a,[],_,_,h=>absurd ((h x).1 (by simp)) (by simp)
 |x::a,y::b,h1,h2,h=>by
  unfold Up at h1 h2
  rw[List.pairwise_cons]at h1 h2
  have no:∀{u v:ByteArray},BS u v=true→BS v u=true→False:=fun g1 g2=>by
   have:=E6 g1 g2
   rw[C8]at this
   cases this
  have hxy:x=y:=by
   rcases List.mem_cons.1 ((h x).1 (by simp)) with e | hx
   ·exact e
   ·rcases List.mem_cons.1 ((h y).2 (by simp)) with e | hy
    ·exact e.symm
    ·exact (no (h1.1 y hy) (h2.1 x hx)).elim
  subst hxy
  congr 1
  refine Vk h1.2 h2.2 fun z=>?_
  constructor
  ·intro hz
   rcases List.mem_cons.1 ((h z).1 (by simp[hz])) with e | hz'
   ·subst e;exact (no (h1.1 z hz) (h1.1 z hz)).elim
   ·exact hz'
  ·intro hz
   rcases List.mem_cons.1 ((h z).2 (by simp[hz])) with e | hz'
   ·subst e;exact (no (h2.1 z hz) (h2.1 z hz)).elim
   ·exact hz'
theorem SZ (keys:List ByteArray):∀(l:List ByteArray),Up l→Up (keys.foldl (fun l k=>Bw k l) l)∧∀x,x∈keys.foldl (fun l k=>Bw k l) l↔x∈keys∨x∈l:=by
 induction keys with
 |nil=>intro l h;exact⟨h,fun x=>by simp⟩
 |cons k r ih =>
  intro l h
  obtain⟨h1,h2⟩:=ih (Bw k l) (N2 k h)
  refine⟨h1,fun x=>?_⟩
  rw[List.foldl_cons,h2,FB,List.mem_cons]
  constructor
  ·rintro (h | h | h)
   ·exact .inl (.inr h)
   ·exact .inl (.inl h)
   ·exact .inr h
  ·rintro ((h | h) | h)
   ·exact .inr (.inl h)
   ·exact .inl h
   ·exact .inr (.inr h)
theorem Ex (keys:List ByteArray):Up (AX keys):=(SZ keys [] (by simp[Up])).1
theorem C7 {keys:List ByteArray}{x:ByteArray}:x∈AX keys↔x∈keys:=by
 unfold AX
 rw[(SZ keys [] (by simp[Up])).2]
 simp
theorem KQ (k:ByteArray):∀(l:List ByteArray),(Bw k l).length≤l.length+1
 | []=>by simp[Bw]
 |x::r=>by
  unfold Bw
  split
  ·simp
  ·split
   ·simp
   ·have:=KQ k r
    simp only[List.length_cons]
    omega
theorem JA (keys:List ByteArray):(AX keys).length≤keys.length:=by
 have key:∀(keys l:List ByteArray),(keys.foldl (fun l k=>Bw k l) l).length≤keys.length+l.length:=by
  intro keys
  induction keys with
  |nil=>intro l;simp
  |cons k r ih =>
   intro l
   have h1:=ih (Bw k l)
   have h2:=KQ k l
   rw[List.foldl_cons,List.length_cons]
   omega
 have:=key keys []
 unfold AX
 simpa using this
def AH:List ByteArray→List V→ByteArray→V
 |_::ks,v::vs,x=>if CT ks x then AH ks vs x else v
 |_,_,_=>P5
theorem EM:∀{keys:List ByteArray}{kids:List V}{x:ByteArray},keys.length=kids.length→x∈keys→∃j:Nat,keys[j]? = some x∧(∀n:Nat,j<n→keys[n]?≠some x)∧kids[j]? = some (AH keys kids x)
 | [],_,x,_,h=>absurd h (by simp)
 |k::ks,[],x,h,_=>absurd h (by simp)
 |k::ks,v::vs,x,hl,hx=>by
  have hl':ks.length=vs.length:=by simpa using hl
  unfold AH
  cases hk:CT ks x with
  |true =>
   obtain⟨j,h1,h2,h3⟩:=EM hl' (Co.1 hk)
   refine⟨j+1,by simpa using h1,fun n hn=>?_,by simpa using h3⟩
   cases n with
   |zero=>omega
   |succ n=>simpa using h2 n (by omega)
  |false =>
   have hnx:x ∉ ks:=fun h=>by rw[Co.2 h]at hk;cases hk
   have hxk:x=k:=by
    rcases List.mem_cons.1 hx with e | e
    ·exact e
    ·exact absurd e hnx
   subst hxk
   refine⟨0,rfl,fun n hn=>?_,by simp⟩
   cases n with
   |zero=>omega
   |succ n =>
    intro hc
    exact hnx (List.mem_of_getElem? (by simpa using hc))
def Gi (keys:List ByteArray) (kids:List V):V:=.mk 6 0 ByteArray.empty (AX keys) ((AX keys).map (AH keys kids))
def I3 (keys vis:List ByteArray):Nat:=(keys.filter fun k=>!CT vis k).length
theorem QE {keys vis:List ByteArray}{k:ByteArray}(hk:k∈keys) (hv:k ∉ vis):I3 keys (vis++[k])<I3 keys vis:=by
 unfold I3
 have key:∀(l:List ByteArray),(l.filter fun x=>!CT (vis++[k]) x).length≤(l.filter fun x=>!CT vis x).length∧(k∈l→(l.filter fun x=>!CT (vis++[k]) x).length<(l.filter fun x=>!CT vis x).length):=by
  intro l
  induction l with
  |nil=>simp
  |cons x r ih =>
   have himp:CT vis x=true→CT (vis++[k]) x=true:=fun h=>Co.2 (by simp[Co.1 h])
   rw[List.filter_cons,List.filter_cons]
   cases h1:CT vis x with
   |true =>
    rw[himp h1]
    simp only[Bool.not_true,Bool.false_eq_true,if_false]
    refine⟨ih.1,fun hm=>?_⟩
    rcases List.mem_cons.1 hm with e | e
    ·subst e;exact absurd (Co.1 h1) hv
    ·exact ih.2 e
   |false =>
    simp only[Bool.not_false,if_true,List.length_cons]
    cases h2:CT (vis++[k]) x with
    |true =>
     simp only[Bool.not_true,Bool.false_eq_true,if_false]
     exact⟨by omega,fun _=>by omega⟩
    |false =>
     simp only[Bool.not_false,if_true,List.length_cons]
     refine⟨by omega,fun hm=>?_⟩
     rcases List.mem_cons.1 hm with e | e
     ·subst e
      rw[Co.2 (by simp)]at h2
      cases h2
     ·have:=ih.2 e;omega
 exact (key keys).2 hk
theorem RY (keys:List ByteArray):I3 keys []=keys.length:=by
 unfold I3
 congr 1
 exact List.filter_eq_self.2 fun x _=>by simp[CT]
def Fs (l:List ByteArray):List ByteArray:=((l.map fun b=>b.data.toList).mergeSort fun x y=>decide (x≤y)).map fun x=>⟨x.toArray⟩
mutual
def V.fit:V→Prop
 | .mk kind _ text keys kids=>text.size≤200∧(∀k∈keys,k.size≤60)∧(BH kind=false→kids=[])∧(kind=6→keys.length=kids.length)∧(kind≠6→keys=[])∧Wh kids
def Wh:List V→Prop
 | []=>True
 |k::ks=>k.fit∧Wh ks
end
theorem LS:∀{l:List V},Wh l↔∀v∈l,v.fit
 | []=>by simp[Wh]
 |v::l=>by simp only[Wh,List.mem_cons,forall_eq_or_imp,LS (l:=l)]
theorem Mk {s:ByteArray}(h:AN s=true):s.size≤60:=by
 unfold AN at h
 simp only[Bool.and_eq_true,decide_eq_true_eq]at h
 exact h.1
theorem Zf {ks:List ByteArray}(h:asc none ks):Up ks:=by
 unfold Up
 rw[List.pairwise_iff_getElem]
 intro i j hi hj hij
 exact Kz h hij hj
theorem Wr {ks:List ByteArray}(h:Up ks) {i j:Nat}{x:ByteArray}(hi:ks[i]? = some x) (hj:ks[j]? = some x):i=j:=by
 unfold Up at h
 rw[List.pairwise_iff_getElem]at h
 obtain⟨h1,e1⟩:=List.getElem?_eq_some_iff.1 hi
 obtain⟨h2,e2⟩:=List.getElem?_eq_some_iff.1 hj
 rcases Nat.lt_trichotomy i j with g | g | g
 ·have:=h i j h1 h2 g
  rw[e1,e2,C8]at this
  cases this
 ·exact g
 ·have:=h j i h2 h1 g
  rw[e1,e2,C8]at this
  cases this
theorem RH (a b:List V):An (a++b)=An a+An b:=by
 induction a with
 |nil=>simp[An]
 |cons x a ih=>simp only[List.cons_append,An,ih];omega
theorem N1 {g g':ByteArray→V}{k:ByteArray}:∀{l:List ByteArray},Up l→(∀x∈l,x≠k→g' x=g x)→An ((Bw k l).map g')≤An (l.map g)+(g' k).count
 | [],_,_=>by simp[Bw,An]
 |x::r,hu,h=>by
  unfold Up at hu
  rw[List.pairwise_cons]at hu
  have hne:∀{u v:ByteArray},BS u v=true→v≠u:=fun hl e=>by subst e;rw[C8]at hl;cases hl
  unfold Bw
  split
  ·rename_i hl
   have e:(x::r).map g'=(x::r).map g:=List.map_congr_left fun y hy=>h y hy (by
    rcases List.mem_cons.1 hy with rfl | hy
    ·exact hne hl
    ·exact hne (E6 hl (hu.1 y hy)))
   rw[List.map_cons,An,e]
   omega
  ·split
   ·rename_i he
    have hx:k=x:=AA (by simpa using he)
    have e:r.map g'=r.map g:=List.map_congr_left fun y hy=>h y (by simp[hy]) (by rw[hx];exact hne (hu.1 y hy))
    rw[List.map_cons,List.map_cons,An,An,e,←hx]
    omega
   ·rename_i he
    have hx:x≠k:=fun e=>he (by rw[e];simp)
    have:=N1 (g:=g) (g':=g') (k:=k) hu.2 fun y hy=>h y (by simp[hy])
    rw[List.map_cons,List.map_cons,An,An,h x (by simp) hx]
    omega
theorem Du:∀{ks:List ByteArray}{vs:List V}{k:ByteArray}{v:V}{x:ByteArray},ks.length=vs.length→(x=k∨x∈ks)→AH (ks++[k]) (vs++[v]) x=if x=k then v else AH ks vs x
 | [],[],k,v,x,_,hx=>by
  have hxk:x=k:=by simpa using hx
  rw[if_pos hxk]
  simp[AH,CT]
 | [],_::_,_,_,_,h,_=>by simp at h
 |_::_,[],_,_,_,h,_=>by simp at h
 |k0::ks,v0::vs,k,v,x,h,hx=>by
  have hl:ks.length=vs.length:=by simpa using h
  simp only[List.cons_append,AH]
  have hh:CT (ks++[k]) x=true↔x∈ks∨x=k:=by rw[Co];simp
  by_cases hxk:x=k
  ·rw[if_pos hxk,if_pos (hh.2 (.inr hxk)),Du hl (.inl hxk),if_pos hxk]
  ·rw[if_neg hxk]
   by_cases hm:x∈ks
   ·rw[if_pos (hh.2 (.inl hm)),if_pos (Co.2 hm),Du hl (.inr hm),if_neg hxk]
   ·rw[if_neg (fun hc=>(hh.1 hc).elim hm hxk),if_neg (fun hc=>hm (Co.1 hc))]
theorem Iz (ks:List ByteArray) (k:ByteArray):AX (ks++[k])=Bw k (AX ks):=by
 unfold AX
 rw[List.foldl_append]
 rfl
theorem Hx:∀(n:Nat) (ks:List ByteArray) (vs:List V),ks.length=n→vs.length=n→An ((AX ks).map (AH ks vs))≤An vs
 | 0,ks,vs,h1,h2=>by
  rw[List.eq_nil_of_length_eq_zero h1]
  simp[AX,An]
 |n+1,ks,vs,h1,h2=>by
  rcases List.eq_nil_or_concat ks with rfl | ⟨ks',k,rfl⟩
  ·simp at h1
  ·rcases List.eq_nil_or_concat vs with rfl | ⟨vs',v,rfl⟩
   ·simp at h2
   ·simp only[List.concat_eq_append,List.length_append,List.length_singleton]at h1 h2 ⊢
    have hl:ks'.length=vs'.length:=by omega
    have ih:=Hx n ks' vs' (by omega) (by omega)
    rw[Iz,RH]
    have hins:=N1 (g:=AH ks' vs') (g':=AH (ks'++[k]) (vs'++[v])) (k:=k) (Ex ks') fun x hx hne=>by
     rw[Du hl (.inr (C7.1 hx)),if_neg hne]
    rw[Du hl (.inl rfl),if_pos rfl]at hins
    simp only[An]
    omega
def bAt (s:ByteArray) (i:Nat):Nat:=match s[i]? with
 |some b=>b.toNat
 |none=>256
theorem Aw {s:ByteArray}{i:Nat}(h:i<s.size):∃b:UInt8,s[i]? = some b∧bAt s i=b.toNat:=by
 have h1:s[i]? = some s[i]:=getElem?_pos s i h
 exact⟨s[i],h1,by unfold bAt;rw[h1]⟩
theorem BX {s:ByteArray}{i:Nat}(h:s.size≤i):bAt s i=256:=by
 have h1:s[i]? = none:=getElem?_neg s i (by omega)
 unfold bAt
 rw[h1]
theorem CP {s:ByteArray}{i:Nat}(h:bAt s i<256):i<s.size:=by
 rcases Nat.lt_or_ge i s.size with h1 | h1
 ·exact h1
 ·rw[BX h1]at h;omega
theorem Yn (s:ByteArray) (i:Nat):bAt s i≤256:=by
 rcases Nat.lt_or_ge i s.size with h1 | h1
 ·obtain⟨b,_,h2⟩:=Aw h1
  have:=b.toNat_lt
  omega
 ·rw[BX h1];exact Nat.le_refl _
def C9 (n:Nat):Bool:=n==32||n==9||n==10||n==13
def AP (n:Nat):Bool:=decide (48≤n)&&decide (n≤57)
theorem QH {n:Nat}(h:C9 n=true):n<256:=by
 unfold C9 at h
 simp only[Bool.or_eq_true,beq_iff_eq]at h
 omega
theorem DM {n:Nat}(h:AP n=true):48≤n∧n≤57:=by
 unfold AP at h
 simpa using h
def Af (s:ByteArray) (i:Nat):Nat:=if h:C9 (bAt s i)=true then Af s (i+1) else i
termination_by s.size-i
decreasing_by
 have:=CP (QH h)
 omega
theorem FE {s:ByteArray}{i:Nat}(h:C9 (bAt s i)=true):Af s i=Af s (i+1):=by rw[Af,dif_pos h]
theorem Ci {s:ByteArray}{i:Nat}(h:C9 (bAt s i)=false):Af s i=i:=by rw[Af,dif_neg (by simp[h])]
theorem Xc {s:ByteArray}:∀(n i:Nat),s.size-i≤n→i≤s.size→i≤Af s i∧Af s i≤s.size∧C9 (bAt s (Af s i))=false:=by
 intro n
 induction n with
 |zero =>
  intro i hn hi
  have hb:C9 (bAt s i)=false:=by rw[BX (by omega)];rfl
  rw[Ci hb]
  exact⟨Nat.le_refl _,hi,hb⟩
 |succ n ih =>
  intro i hn hi
  cases hb:C9 (bAt s i) with
  |false=>rw[Ci hb];exact⟨Nat.le_refl _,hi,hb⟩
  |true =>
   have hlt:=CP (QH hb)
   rw[FE hb]
   obtain⟨h1,h2,h3⟩:=ih (i+1) (by omega) (by omega)
   exact⟨by omega,h2,h3⟩
theorem AM {s:ByteArray}{i:Nat}(h:i≤s.size):i≤Af s i∧Af s i≤s.size∧C9 (bAt s (Af s i))=false:=Xc _ i (Nat.le_refl _) h
theorem Es {s:ByteArray}{i:Nat}(h:i≤s.size):Af s (Af s i)=Af s i:=Ci (AM h).2.2
def Dm (s:ByteArray) (i:Nat):Nat:=if h:AP (bAt s i)=true then Dm s (i+1) else i
termination_by s.size-i
decreasing_by
 have h1:=DM h
 have:=CP (s:=s) (i:=i) (by omega)
 omega
theorem IX {s:ByteArray}{i:Nat}(h:AP (bAt s i)=true):Dm s i=Dm s (i+1):=by rw[Dm,dif_pos h]
theorem Eo {s:ByteArray}{i:Nat}(h:AP (bAt s i)=false):Dm s i=i:=by rw[Dm,dif_neg (by simp[h])]
theorem XF {s:ByteArray}:∀(n i:Nat),s.size-i≤n→i≤s.size→i≤Dm s i∧Dm s i≤s.size∧AP (bAt s (Dm s i))=false∧∀j,i≤j→j<Dm s i→AP (bAt s j)=true:=by
 intro n
 induction n with
 |zero =>
  intro i hn hi
  have hb:AP (bAt s i)=false:=by rw[BX (by omega)];rfl
  rw[Eo hb]
  exact⟨Nat.le_refl _,hi,hb,fun j h1 h2=>by omega⟩
 |succ n ih =>
  intro i hn hi
  cases hb:AP (bAt s i) with
  |false=>rw[Eo hb];exact⟨Nat.le_refl _,hi,hb,fun j h1 h2=>by omega⟩
  |true =>
   have h0:=DM hb
   have hlt:=CP (s:=s) (i:=i) (by omega)
   rw[IX hb]
   obtain⟨h1,h2,h3,h4⟩:=ih (i+1) (by omega) (by omega)
   refine⟨by omega,h2,h3,fun j g1 g2=>?_⟩
   by_cases hj:j=i
   ·rw[hj];exact hb
   ·exact h4 j (by omega) g2
theorem Kg {s:ByteArray}{i:Nat}(h:i≤s.size):i≤Dm s i∧Dm s i≤s.size∧AP (bAt s (Dm s i))=false∧∀j,i≤j→j<Dm s i→AP (bAt s j)=true:=XF _ i (Nat.le_refl _) h
def Bf (s:ByteArray) (a:Nat):Nat→Nat
 | 0=>0
 |k+1=>Bf s a k*10+(bAt s (a+k)-48)
theorem SC {s:ByteArray}{a:Nat}:∀k,(∀j,a≤j→j<a+k→AP (bAt s j)=true)→Bf s a k<10 ^ k
 | 0,_=>by simp[Bf]
 |k+1,h=>by
  have h1:=SC k fun j g1 g2=>h j g1 (by omega)
  have h2:=DM (h (a+k) (by omega) (by omega))
  simp only[Bf,Nat.pow_succ]
  omega
inductive Rd (α:Type) where
 |ok (v:α) (e:Nat)
 |bad (c:Int) (p:Nat)
def AB (s:ByteArray) (i:Nat):Nat:=if bAt s i=45 then i+1 else i
def AQ (s:ByteArray) (i:Nat):Nat:=if bAt s (AB s i)=48 then AB s i+1 else Dm s (AB s i)
def Ef (s:ByteArray) (i:Nat):Int:=if bAt s i=45 then -((Bf s (AB s i) (AQ s i-AB s i):Nat):Int) else ((Bf s (AB s i) (AQ s i-AB s i):Nat):Int)
def Dx (s:ByteArray) (i:Nat):Bool:=decide (16<AQ s i-AB s i)||decide (1000000000000000<Bf s (AB s i) (AQ s i-AB s i))
def G6 (n:Nat):Bool:=n==46||n==101||n==69
def K8 (s:ByteArray) (i:Nat):Rd Int :=
 if AP (bAt s (AB s i))=false then .bad 5 (AB s i) else if Dx s i then .bad 3 i else if G6 (bAt s (AQ s i)) then .bad 3 (AQ s i) else .ok (Ef s i) (AQ s i)
def BF (n:Nat):ByteArray:=⟨#[UInt8.ofNat n]⟩
def B8 (n:Nat):Int:=if AP n then (n:Int)-48 else if decide (97≤n)&&decide (n≤102) then (n:Int)-87 else if decide (65≤n)&&decide (n≤70) then (n:Int)-55 else -1
def EJ (s:ByteArray) (i:Nat):Rd Nat :=
 if bAt s (i+1)=34∨bAt s (i+1)=92∨bAt s (i+1)=47 then .ok (bAt s (i+1)) (i+2)
 else if bAt s (i+1)≠117 then .bad 5 (i+1) else if bAt s (i+2)≠48 then .bad 5 (i+2) else if bAt s (i+3)≠48 then .bad 5 (i+3)
 else if B8 (bAt s (i+4))<0 then .bad 5 (i+4) else if B8 (bAt s (i+5))<0 then .bad 5 (i+5)
 else if 32≤16*B8 (bAt s (i+4))+B8 (bAt s (i+5))∧16*B8 (bAt s (i+4))+B8 (bAt s (i+5))≤126 then .ok (16*B8 (bAt s (i+4))+B8 (bAt s (i+5))).toNat (i+6) else .bad 5 (i+4)
def CU (s:ByteArray) (from_:Nat):Nat→Nat→ByteArray→Rd ByteArray
 | 0,_,_=>.bad 5 s.size
 |n+1,i,out=>if s.size≤i then .bad 5 s.size else if bAt s i=34 then (if 60<out.size then .bad 2 from_ else .ok out (i+1))
  else if bAt s i<32∨126<bAt s i then .bad 5 i else if bAt s i≠92 then CU s from_ n (i+1) (out++BF (bAt s i))
  else match EJ s i with
   | .bad c p=>.bad c p
   | .ok b e=>CU s from_ n e (out++BF b)
def E4 (s:ByteArray) (i:Nat):Rd ByteArray:=if bAt s i≠34 then .bad 5 i else CU s i (s.size+1) (i+1) ByteArray.empty
def Ck (s:ByteArray) (v:V) (i:Nat):List Nat→Nat→Rd V
 | [],k=>.ok v (i+k)
 |b::r,k=>if bAt s (i+k)=b then Ck s v i r (k+1) else .bad 5 (i+k)
def BZ (k:Int):V:=.mk k 0 ByteArray.empty [] []
def Hs (s:ByteArray) (i:Nat):Rd ByteArray:=match E4 s i with
 | .bad c p=>.bad c p
 | .ok k e=>if bAt s (Af s e)≠58 then .bad 5 (Af s e) else .ok k (Af s (Af s e+1))
def Bd (s:ByteArray) (rd:Nat→Rd V) (obj:Bool):Nat→Nat→Bool→List ByteArray→List V→Rd V
 | 0,_,_,_,_=>.bad 5 s.size
 |n+1,i,first,keys,kids =>
  if bAt s i=(if obj then 125 else 93) then .ok (if obj then Gi keys kids else DB kids) (i+1)
  else if first=false∧bAt s i≠44 then .bad 5 i
  else match (if obj then Hs s (if first then i else Af s (i+1)) else .ok ByteArray.empty (if first then i else Af s (i+1))) with
   | .bad c p=>.bad c p
   | .ok k e=>match rd e with
    | .bad c p=>.bad c p
    | .ok v e2=>Bd s rd obj n (Af s e2) false (if obj then keys++[k] else keys) (kids++[v])
def Cq:Nat→ByteArray→Nat→Rd V
 | 0,s,i=>if s.size≤i then .bad 5 s.size else .bad 7 i
 |k+1,s,i=>if s.size≤i then .bad 5 s.size
  else if bAt s i=110 then Ck s (BZ 0) i [110,117,108,108] 0
  else if bAt s i=102 then Ck s (BZ 1) i [102,97,108,115,101] 0
  else if bAt s i=116 then Ck s (BZ 2) i [116,114,117,101] 0
  else if bAt s i=91 then Bd s (Cq k s) false (s.size+1) (Af s (i+1)) true [] []
  else if bAt s i=123 then Bd s (Cq k s) true (s.size+1) (Af s (i+1)) true [] []
  else if bAt s i=34 then (match E4 s i with
   | .bad c p=>.bad c p
   | .ok t e=>.ok (K9 t) e)
  else match K8 s i with
   | .bad c p=>.bad c p
   | .ok n e=>.ok (GN n) e
def SB (s:ByteArray):(Int×Nat)×Option V :=
 if 4000<s.size then ((2,0),none) else match Cq 20 s (Af s 0) with
  | .bad c p=>((c,p),none)
  | .ok v e=>if Af s e<s.size then ((5,Af s e),none) else if 200<v.count then ((2,0),none) else ((0,0),some v)
end Go.Proofs.YtllfmaflodbieaaGreatDoor
