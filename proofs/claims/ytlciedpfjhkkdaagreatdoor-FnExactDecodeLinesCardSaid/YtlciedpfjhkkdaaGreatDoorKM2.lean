/- Texts of this proof: M08 M09 M10 M15 M16 M18 M19. -/
import Derived.Test.YtlciedpfjhkkdaaGreatDoorKM1
set_option linter.all false
namespace Go.Proofs.YtlciedpfjhkkdaaGreatDoor
open Go.RowKit
def V.right (t:V):Prop:=t.wf∧t.count≤200∧t.depth≤20
theorem Aw {a b:ByteArray}(h:a.toList=b.toList):a=b:=by
 rw[ByteArray.toList_eq,ByteArray.toList_eq]at h
 cases a;cases b
 simp at h
 rw[h]
theorem Mp {t:V}(h:t.right):t.neat:=Ny t h.1
def okR (t:V):Int×Option V:=(0,some t)
def TB (c:Int):Int×Option V:=(c,none)
def Br (a b:ByteArray):Bool:=Op.bytesLess a.toList b.toList
theorem Bw:∀(l:List UInt8),Op.bytesLess l l=false
 | []=>rfl
 |x::l=>by simp[Op.bytesLess,Bw l]
theorem BN:∀{a b c:List UInt8},Op.bytesLess a b=true→Op.bytesLess b c=true→Op.bytesLess a c=true
 | [],_,c::cs,h1,h2=>rfl
 | [],b,[],h1,h2=>by cases b<;>simp[Op.bytesLess]at h1 h2
 |x::a,[],_,h1,_=>by simp[Op.bytesLess]at h1
 |x::a,y::b,[],_,h2=>by simp[Op.bytesLess]at h2
 |x::a,y::b,z::c,h1,h2=>by
  simp only[Op.bytesLess,Bool.or_eq_true,decide_eq_true_eq,Bool.and_eq_true,beq_iff_eq]at h1 h2 ⊢
  rcases h1 with h1 | ⟨rfl,h1⟩
  ·rcases h2 with h2 | ⟨rfl,h2⟩
   ·exact .inl (UInt8.lt_trans h1 h2)
   ·exact .inl h1
  ·rcases h2 with h2 | ⟨rfl,h2⟩
   ·exact .inl h2
   ·exact .inr ⟨rfl,BN h1 h2⟩
theorem C9:∀(a b:List UInt8),Op.bytesLess a b=true∨a=b∨Op.bytesLess b a=true
 | [],[]=>.inr (.inl rfl)
 | [],_::_=>.inl rfl
 |_::_,[]=>.inr (.inr rfl)
 |x::a,y::b=>by
  simp only[Op.bytesLess,Bool.or_eq_true,decide_eq_true_eq,Bool.and_eq_true,beq_iff_eq]
  by_cases hxy:x<y
  ·exact .inl (.inl hxy)
  ·by_cases hyx:y<x
   ·exact .inr (.inr (.inl hyx))
   ·have:x=y:=by
     apply UInt8.toNat_inj.1
     have h1:¬x.toNat<y.toNat:=fun h=>hxy (UInt8.lt_iff_toNat_lt.2 h)
     have h2:¬y.toNat<x.toNat:=fun h=>hyx (UInt8.lt_iff_toNat_lt.2 h)
     omega
    subst this
    rcases C9 a b with h | rfl | h
    ·exact .inl (.inr ⟨rfl,h⟩)
    ·exact .inr (.inl rfl)
    ·exact .inr (.inr (.inr ⟨rfl,h⟩))
theorem DF {a b c:ByteArray}(h1:Br a b=true) (h2:Br b c=true):Br a c=true:=BN h1 h2
theorem Bq (a:ByteArray):Br a a=false:=Bw _
theorem Sz {l:List V}(h:wfL l) (hl:l.length≤200):(CX l).wf:=by
 refine⟨?_,by simp[GD],h⟩
 unfold Ct
 have h1:inB 5 0 6=true:=by decide
 have h2:inB (l.length:Int) 0 200=true:=by unfold inB;simp;omega
 simp[h1,cF,cR,cT,Co,Ci,h2,inB]
 omega
def C7 (l:List ByteArray) (k:ByteArray):Bool:=l.any fun x=>x.toList==k.toList
theorem BJ {l:List ByteArray}{k:ByteArray}:C7 l k=true↔k∈l:=by
 unfold C7
 rw[List.any_eq_true]
 constructor
 ·rintro⟨x,hx,h⟩
  have:x=k:=Aw (by simpa using h)
  rw[←this];exact hx
 ·intro h
  exact⟨k,h,by simp⟩
def B6 (k:ByteArray):List ByteArray→List ByteArray
 | []=>[k]
 |x::r=>if Br k x then k::x::r else if k.toList==x.toList then x::r else x::B6 k r
def AI (keys:List ByteArray):List ByteArray:=keys.foldl (fun l k=>B6 k l) []
def Up (l:List ByteArray):Prop:=l.Pairwise fun a b=>Br a b=true
theorem En (k:ByteArray):∀(l:List ByteArray) (x:ByteArray),x∈B6 k l↔x=k∨x∈l
 | [],x=>by simp[B6]
 |y::r,x=>by
  unfold B6
  split
  ·simp
  ·split
   ·rename_i h
    have:k=y:=Aw (by simpa using h)
    subst this
    simp
   ·rw[List.mem_cons,En k r x,List.mem_cons]
    constructor
    ·rintro (h | h | h)
     ·exact .inr (.inl h)
     ·exact .inl h
     ·exact .inr (.inr h)
    ·rintro (h | h | h)
     ·exact .inr (.inl h)
     ·exact .inl h
     ·exact .inr (.inr h)
theorem JQ (a b:ByteArray):Br a b=true∨a=b∨Br b a=true:=by
 rcases C9 a.toList b.toList with h | h | h
 ·exact .inl h
 ·exact .inr (.inl (Aw h))
 ·exact .inr (.inr h)
theorem JM (k:ByteArray):∀{l:List ByteArray},Up l→Up (B6 k l)
 | [],_=>by simp[B6,Up]
 |y::r,h=>by
  unfold Up at h
  rw[List.pairwise_cons]at h
  unfold B6
  split
  ·rename_i hl
   refine List.pairwise_cons.2 ⟨fun x hx=>?_,List.pairwise_cons.2 h⟩
   rcases List.mem_cons.1 hx with rfl | hx
   ·exact hl
   ·exact DF hl (h.1 x hx)
  ·rename_i hl
   split
   ·exact List.pairwise_cons.2 h
   ·rename_i he
    refine List.pairwise_cons.2 ⟨fun x hx=>?_,JM k h.2⟩
    rcases (En k r x).1 hx with rfl | hx
    ·rcases JQ x y with g | g | g
     ·exact absurd g hl
     ·subst g;exact absurd (by simp) he
     ·exact g
    ·exact h.1 x hx
theorem Sb:∀{a b:List ByteArray},Up a→Up b→(∀x,x∈a↔x∈b)→a=b
 | [],[],_,_,_=>rfl
 | [],y::b,_,_,h=>absurd ((h y).2 (by simp)) (by simp)
 |x::a,[],_,_,h=>absurd ((h x).1 (by simp)) (by simp)
 |x::a,y::b,h1,h2,h=>by
  unfold Up at h1 h2
  rw[List.pairwise_cons]at h1 h2
  have no:∀{u v:ByteArray},Br u v=true→Br v u=true→False:=fun g1 g2=>by
   have:=DF g1 g2
   rw[Bq]at this
   cases this
  have hxy:x=y:=by
   rcases List.mem_cons.1 ((h x).1 (by simp)) with e | hx
   ·exact e
   ·rcases List.mem_cons.1 ((h y).2 (by simp)) with e | hy
    ·exact e.symm
    ·exact (no (h1.1 y hy) (h2.1 x hx)).elim
  subst hxy
  congr 1
  refine Sb h1.2 h2.2 fun z=>?_
  constructor
  ·intro hz
   rcases List.mem_cons.1 ((h z).1 (by simp[hz])) with e | hz'
   ·subst e;exact (no (h1.1 z hz) (h1.1 z hz)).elim
   ·exact hz'
  ·intro hz
   rcases List.mem_cons.1 ((h z).2 (by simp[hz])) with e | hz'
   ·subst e;exact (no (h2.1 z hz) (h2.1 z hz)).elim
   ·exact hz'
theorem O0 (keys:List ByteArray):∀(l:List ByteArray),Up l→Up (keys.foldl (fun l k=>B6 k l) l)∧∀x,x∈keys.foldl (fun l k=>B6 k l) l↔x∈keys∨x∈l:=by
 induction keys with
 |nil=>intro l h;exact⟨h,fun x=>by simp⟩
 |cons k r ih =>
  intro l h
  obtain⟨h1,h2⟩:=ih (B6 k l) (JM k h)
  refine⟨h1,fun x=>?_⟩
  rw[List.foldl_cons,h2,En,List.mem_cons]
  constructor
  ·rintro (h | h | h)
   ·exact .inl (.inr h)
   ·exact .inl (.inl h)
   ·exact .inr h
  ·rintro ((h | h) | h)
   ·exact .inr (.inl h)
   ·exact .inl h
   ·exact .inr (.inr h)
theorem Em (keys:List ByteArray):Up (AI keys):=(O0 keys [] (by simp[Up])).1
theorem BD {keys:List ByteArray}{x:ByteArray}:x∈AI keys↔x∈keys:=by
 unfold AI
 rw[(O0 keys [] (by simp[Up])).2]
 simp
theorem Ii (k:ByteArray):∀(l:List ByteArray),(B6 k l).length≤l.length+1
 | []=>by simp[B6]
 |x::r=>by
  unfold B6
  split
  ·simp
  ·split
   ·simp
   ·have:=Ii k r
    simp only[List.length_cons]
    omega
theorem Ha (keys:List ByteArray):(AI keys).length≤keys.length:=by
 have key:∀(keys l:List ByteArray),(keys.foldl (fun l k=>B6 k l) l).length≤keys.length+l.length:=by
  intro keys
  induction keys with
  |nil=>intro l;simp
  |cons k r ih =>
   intro l
   have h1:=ih (B6 k l)
   have h2:=Ii k l
   rw[List.foldl_cons,List.length_cons]
   omega
 have:=key keys []
 unfold AI
 simpa using this
def AB:List ByteArray→List V→ByteArray→V
 |_::ks,v::vs,x=>if C7 ks x then AB ks vs x else v
 |_,_,_=>Nz
theorem Eh:∀{keys:List ByteArray}{kids:List V}{x:ByteArray},keys.length=kids.length→x∈keys→∃j:Nat,keys[j]? = some x∧(∀n:Nat,j<n→keys[n]?≠some x)∧kids[j]? = some (AB keys kids x)
 | [],_,x,_,h=>absurd h (by simp)
 |k::ks,[],x,h,_=>absurd h (by simp)
 |k::ks,v::vs,x,hl,hx=>by
  have hl':ks.length=vs.length:=by simpa using hl
  unfold AB
  cases hk:C7 ks x with
  |true =>
   obtain⟨j,h1,h2,h3⟩:=Eh hl' (BJ.1 hk)
   refine⟨j+1,by simpa using h1,fun n hn=>?_,by simpa using h3⟩
   cases n with
   |zero=>omega
   |succ n=>simpa using h2 n (by omega)
  |false =>
   have hnx:x ∉ ks:=fun h=>by rw[BJ.2 h]at hk;cases hk
   have hxk:x=k:=by
    rcases List.mem_cons.1 hx with e | e
    ·exact e
    ·exact absurd e hnx
   subst hxk
   refine⟨0,rfl,fun n hn=>?_,by simp⟩
   cases n with
   |zero=>omega
   |succ n =>
    intro hc
    exact hnx (List.mem_of_getElem? (by simpa using hc))
def Gu (keys:List ByteArray) (kids:List V):V:=.mk 6 0 ByteArray.empty (AI keys) ((AI keys).map (AB keys kids))
def FE (keys vis:List ByteArray):Nat:=(keys.filter fun k=>!C7 vis k).length
theorem KT {keys vis:List ByteArray}{k:ByteArray}(hk:k∈keys) (hv:k ∉ vis):FE keys (vis++[k])<FE keys vis:=by
 unfold FE
 have key:∀(l:List ByteArray),(l.filter fun x=>!C7 (vis++[k]) x).length≤(l.filter fun x=>!C7 vis x).length∧(k∈l→(l.filter fun x=>!C7 (vis++[k]) x).length<(l.filter fun x=>!C7 vis x).length):=by
  intro l
  induction l with
  |nil=>simp
  |cons x r ih =>
   have himp:C7 vis x=true→C7 (vis++[k]) x=true:=fun h=>BJ.2 (by simp[BJ.1 h])
   rw[List.filter_cons,List.filter_cons]
   cases h1:C7 vis x with
   |true =>
    rw[himp h1]
    simp only[Bool.not_true,Bool.false_eq_true,if_false]
    refine⟨ih.1,fun hm=>?_⟩
    rcases List.mem_cons.1 hm with e | e
    ·subst e;exact absurd (BJ.1 h1) hv
    ·exact ih.2 e
   |false =>
    simp only[Bool.not_false,if_true,List.length_cons]
    cases h2:C7 (vis++[k]) x with
    |true =>
     simp only[Bool.not_true,Bool.false_eq_true,if_false]
     exact⟨by omega,fun _=>by omega⟩
    |false =>
     simp only[Bool.not_false,if_true,List.length_cons]
     refine⟨by omega,fun hm=>?_⟩
     rcases List.mem_cons.1 hm with e | e
     ·subst e
      rw[BJ.2 (by simp)]at h2
      cases h2
     ·have:=ih.2 e;omega
 exact (key keys).2 hk
theorem N7 (keys:List ByteArray):FE keys []=keys.length:=by
 unfold FE
 congr 1
 exact List.filter_eq_self.2 fun x _=>by simp[C7]
def DV (l:List ByteArray):List ByteArray:=((l.map fun b=>b.data.toList).mergeSort fun x y=>decide (x≤y)).map fun x=>⟨x.toArray⟩
mutual
def V.fit:V→Prop
 | .mk kind _ text keys kids=>text.size≤200∧(∀k∈keys,k.size≤60)∧(Ci kind=false→kids=[])∧(kind=6→keys.length=kids.length)∧(kind≠6→keys=[])∧PS kids
def PS:List V→Prop
 | []=>True
 |k::ks=>k.fit∧PS ks
end
theorem IK:∀{l:List V},PS l↔∀v∈l,v.fit
 | []=>by simp[PS]
 |v::l=>by simp only[PS,List.mem_cons,forall_eq_or_imp,IK (l:=l)]
theorem JD {s:ByteArray}(h:BR s=true):s.size≤60:=by
 unfold BR at h
 simp only[Bool.and_eq_true,decide_eq_true_eq]at h
 exact h.1
theorem SN {ks:List ByteArray}(h:Up ks) {i j:Nat}{x:ByteArray}(hi:ks[i]? = some x) (hj:ks[j]? = some x):i=j:=by
 unfold Up at h
 rw[List.pairwise_iff_getElem]at h
 obtain⟨h1,e1⟩:=List.getElem?_eq_some_iff.1 hi
 obtain⟨h2,e2⟩:=List.getElem?_eq_some_iff.1 hj
 rcases Nat.lt_trichotomy i j with g | g | g
 ·have:=h i j h1 h2 g
  rw[e1,e2,Bq]at this
  cases this
 ·exact g
 ·have:=h j i h2 h1 g
  rw[e1,e2,Bq]at this
  cases this
theorem ME (a b:List V):Am (a++b)=Am a+Am b:=by
 induction a with
 |nil=>simp[Am]
 |cons x a ih=>simp only[List.cons_append,Am,ih];omega
theorem JH {g g':ByteArray→V}{k:ByteArray}:∀{l:List ByteArray},Up l→(∀x∈l,x≠k→g' x=g x)→Am ((B6 k l).map g')≤Am (l.map g)+(g' k).count
 | [],_,_=>by simp[B6,Am]
 |x::r,hu,h=>by
  unfold Up at hu
  rw[List.pairwise_cons]at hu
  have hne:∀{u v:ByteArray},Br u v=true→v≠u:=fun hl e=>by subst e;rw[Bq]at hl;cases hl
  unfold B6
  split
  ·rename_i hl
   have e:(x::r).map g'=(x::r).map g:=List.map_congr_left fun y hy=>h y hy (by
    rcases List.mem_cons.1 hy with rfl | hy
    ·exact hne hl
    ·exact hne (DF hl (hu.1 y hy)))
   rw[List.map_cons,Am,e]
   omega
  ·split
   ·rename_i he
    have hx:k=x:=Aw (by simpa using he)
    have e:r.map g'=r.map g:=List.map_congr_left fun y hy=>h y (by simp[hy]) (by rw[hx];exact hne (hu.1 y hy))
    rw[List.map_cons,List.map_cons,Am,Am,e,←hx]
    omega
   ·rename_i he
    have hx:x≠k:=fun e=>he (by rw[e];simp)
    have:=JH (g:=g) (g':=g') (k:=k) hu.2 fun y hy=>h y (by simp[hy])
    rw[List.map_cons,List.map_cons,Am,Am,h x (by simp) hx]
    omega
theorem Cv:∀{ks:List ByteArray}{vs:List V}{k:ByteArray}{v:V}{x:ByteArray},ks.length=vs.length→(x=k∨x∈ks)→AB (ks++[k]) (vs++[v]) x=if x=k then v else AB ks vs x
 | [],[],k,v,x,_,hx=>by
  have hxk:x=k:=by simpa using hx
  rw[if_pos hxk]
  simp[AB,C7]
 | [],_::_,_,_,_,h,_=>by simp at h
 |_::_,[],_,_,_,h,_=>by simp at h
 |k0::ks,v0::vs,k,v,x,h,hx=>by
  have hl:ks.length=vs.length:=by simpa using h
  simp only[List.cons_append,AB]
  have hh:C7 (ks++[k]) x=true↔x∈ks∨x=k:=by rw[BJ];simp
  by_cases hxk:x=k
  ·rw[if_pos hxk,if_pos (hh.2 (.inr hxk)),Cv hl (.inl hxk),if_pos hxk]
  ·rw[if_neg hxk]
   by_cases hm:x∈ks
   ·rw[if_pos (hh.2 (.inl hm)),if_pos (BJ.2 hm),Cv hl (.inr hm),if_neg hxk]
   ·rw[if_neg (fun hc=>(hh.1 hc).elim hm hxk),if_neg (fun hc=>hm (BJ.1 hc))]
theorem G8 (ks:List ByteArray) (k:ByteArray):AI (ks++[k])=B6 k (AI ks):=by
 unfold AI
 rw[List.foldl_append]
 rfl
theorem FK:∀(n:Nat) (ks:List ByteArray) (vs:List V),ks.length=n→vs.length=n→Am ((AI ks).map (AB ks vs))≤Am vs
 | 0,ks,vs,h1,h2=>by
  rw[List.eq_nil_of_length_eq_zero h1]
  simp[AI,Am]
 |n+1,ks,vs,h1,h2=>by
  rcases List.eq_nil_or_concat ks with rfl | ⟨ks',k,rfl⟩
  ·simp at h1
  ·rcases List.eq_nil_or_concat vs with rfl | ⟨vs',v,rfl⟩
   ·simp at h2
   ·simp only[List.concat_eq_append,List.length_append,List.length_singleton]at h1 h2 ⊢
    have hl:ks'.length=vs'.length:=by omega
    have ih:=FK n ks' vs' (by omega) (by omega)
    rw[G8,ME]
    have hins:=JH (g:=AB ks' vs') (g':=AB (ks'++[k]) (vs'++[v])) (k:=k) (Em ks') fun x hx hne=>by
     rw[Cv hl (.inr (BD.1 hx)),if_neg hne]
    rw[Cv hl (.inl rfl),if_pos rfl]at hins
    simp only[Am]
    omega
end Go.Proofs.YtlciedpfjhkkdaaGreatDoor
