/- Texts of this proof: M08 M09 M10 M15 M16 M18 M19 M45. -/
import Derived.Test.YtllfmaflodbieaaGreatDoorKM1
set_option linter.all false
namespace Go.Proofs.YtllfmaflodbieaaGreatDoor
open Go.RowKit
def V.right (t:V):Prop:=t.wf∧t.count≤200∧t.depth≤20
theorem AA {a b:ByteArray}(h:a.toList=b.toList):a=b:=by
 rw[ByteArray.toList_eq,ByteArray.toList_eq]at h
 cases a;cases b
 simp at h
 rw[h]
theorem Cg {t:V}(h:t.right) {k:V}(hk:k∈t.kids):k.right:=by
 obtain⟨h1,h2,h3⟩:=h
 have h4:=BC hk
 have h5:=Bp t
 have h6:=FK hk
 have h7:=KO t
 exact⟨Oz (Td h1) k hk,by omega,by omega⟩
theorem D9:P5.right:=by
 refine⟨?_,by decide,by decide⟩
 refine⟨?_,?_,trivial⟩
 ·decide +kernel
 ·simp[Ea]
theorem Ls {t:V}(h:t.right):t.neat:=Sz t h.1
theorem J9 {t:V}(h:t.right):dec t.enc=(0,some t):=SQ h.1 h.2.1 h.2.2
def EN (keys:List ByteArray) (key:ByteArray):Option Nat:=keys.findIdx? fun k=>k.toList==key.toList
def V.member (t:V) (key:ByteArray):V:=match EN t.keys key with
 |some i=>t.kids.getD i P5
 |none=>P5
theorem d8 {keys:List ByteArray}{key:ByteArray}{i:Nat}(h:EN keys key=some i):∃hi:i<keys.length,keys[i]=key∧∀j (hj:j<i),keys[j]'(by omega)≠key:=by
 unfold EN at h
 rw[List.findIdx?_eq_some_iff_getElem]at h
 obtain⟨h1,h2,h3⟩:=h
 refine⟨h1,AA (by simpa using h2),fun j hj he=>?_⟩
 have:=h3 j hj
 rw[he]at this
 simp at this
theorem a0i {t:V}(hn:t.neat) (h6:t.kind=6) (key:ByteArray):t.member key=P5∨t.member key∈t.kids:=by
 unfold V.member
 split
 ·rename_i i hi
  obtain⟨h1,_⟩:=d8 hi
  have:=Uk hn h6
  right
  rw[List.getD_eq_getElem?_getD,List.getElem?_eq_getElem (by omega),Option.getD_some]
  exact List.getElem_mem _
 ·exact .inl rfl
theorem Ov {t:V}(h:t.right) (h6:t.kind=6) (key:ByteArray):(t.member key).right:=by
 rcases a0i (Ls h) h6 key with e | e
 ·rw[e];exact D9
 ·exact Cg h e
def okR (t:V):Int×Option V:=(0,some t)
def Zq (c:Int):Int×Option V:=(c,none)
def Ca (t:V) (key:ByteArray):Int×Option V:=if t.kind=0 then okR P5 else if t.kind=6 then okR (t.member key) else Zq 6
def C0 (n:Int) (many:Nat):Int:=if n<0 then n+many else n
def DE (t:V) (n:Int):Int×Option V :=
 if t.kind=0 then okR P5 else if t.kind=5 then okR (if 0≤C0 n t.kids.length∧C0 n t.kids.length<t.kids.length then t.kids.getD (C0 n t.kids.length).toNat P5 else P5) else Zq 6
def EF (t k:V):Int×Option V:=if k.kind=4 then Ca t k.text else if k.kind=3 then DE t k.num else Zq 6
def D8:V→List V→Int×Option V
 |t,[]=>okR t
 |t,k::ks=>match EF t k with
  | (_,some u)=>D8 u ks
  | (c,none)=>(c,none)
def K4 (r:Int×Option V):Prop:=match r.2 with
 |some t=>r.1=0∧t.right
 |none=>r.1≠0
theorem Ki {t:V}(h:t.right):K4 (okR t):=⟨rfl,h⟩
theorem EX {c:Int}(h:c≠0):K4 (Zq c):=h
theorem L4 {t:V}(h:t.right) (key:ByteArray):K4 (Ca t key):=by
 unfold Ca
 split
 ·exact Ki D9
 ·split
  ·rename_i h6
   exact Ki (Ov h h6 key)
  ·exact EX (by decide)
theorem a1b {t:V}(h:t.right) (n:Int):K4 (DE t n):=by
 unfold DE
 split
 ·exact Ki D9
 ·split
  ·refine Ki ?_
   split
   ·rename_i hr
    rw[List.getD_eq_getElem?_getD,List.getElem?_eq_getElem (by omega),Option.getD_some]
    exact Cg h (List.getElem_mem _)
   ·exact D9
  ·exact EX (by decide)
theorem a16 {t:V}(h:t.right) (k:V):K4 (EF t k):=by
 unfold EF
 split
 ·exact L4 h _
 ·split
  ·exact a1b h _
  ·exact EX (by decide)
def BS (a b:ByteArray):Bool:=Op.bytesLess a.toList b.toList
theorem Ch:∀(l:List UInt8),Op.bytesLess l l=false
 | []=>rfl
 |x::l=>by simp[Op.bytesLess,Ch l]
theorem Cu:∀{a b c:List UInt8},Op.bytesLess a b=true→Op.bytesLess b c=true→Op.bytesLess a c=true
 | [],_,c::cs,h1,h2=>rfl
 | [],b,[],h1,h2=>by cases b<;>simp[Op.bytesLess]at h1 h2
 |x::a,[],_,h1,_=>by simp[Op.bytesLess]at h1
 |x::a,y::b,[],_,h2=>by simp[Op.bytesLess]at h2
 |x::a,y::b,z::c,h1,h2=>by
  simp only[Op.bytesLess,Bool.or_eq_true,decide_eq_true_eq,Bool.and_eq_true,beq_iff_eq]at h1 h2 ⊢
  rcases h1 with h1 | ⟨rfl,h1⟩
  ·rcases h2 with h2 | ⟨rfl,h2⟩
   ·exact .inl (UInt8.lt_trans h1 h2)
   ·exact .inl h1
  ·rcases h2 with h2 | ⟨rfl,h2⟩
   ·exact .inl h2
   ·exact .inr ⟨rfl,Cu h1 h2⟩
theorem CX:∀(a b:List UInt8),Op.bytesLess a b=true∨a=b∨Op.bytesLess b a=true
 | [],[]=>.inr (.inl rfl)
 | [],_::_=>.inl rfl
 |_::_,[]=>.inr (.inr rfl)
 |x::a,y::b=>by
  simp only[Op.bytesLess,Bool.or_eq_true,decide_eq_true_eq,Bool.and_eq_true,beq_iff_eq]
  by_cases hxy:x<y
  ·exact .inl (.inl hxy)
  ·by_cases hyx:y<x
   ·exact .inr (.inr (.inl hyx))
   ·have:x=y:=by
     apply UInt8.toNat_inj.1
     have h1:¬x.toNat<y.toNat:=fun h=>hxy (UInt8.lt_iff_toNat_lt.2 h)
     have h2:¬y.toNat<x.toNat:=fun h=>hyx (UInt8.lt_iff_toNat_lt.2 h)
     omega
    subst this
    rcases CX a b with h | rfl | h
    ·exact .inl (.inr ⟨rfl,h⟩)
    ·exact .inr (.inl rfl)
    ·exact .inr (.inr (.inr ⟨rfl,h⟩))
theorem E6 {a b c:ByteArray}(h1:BS a b=true) (h2:BS b c=true):BS a c=true:=Cu h1 h2
theorem C8 (a:ByteArray):BS a a=false:=Ch _
theorem OW:∀{ks:List ByteArray}{p:ByteArray},asc (some p) ks→∀{i:Nat}(hi:i<ks.length),BS p ks[i]=true
 | [],_,_,i,hi=>by simp at hi
 |k::ks,p,h,0,_=>h.1
 |k::ks,p,h,i+1,hi=>by
  have:=OW h.2 (i:=i) (by simpa using hi)
  simp only[List.getElem_cons_succ]
  exact E6 h.1 this
theorem Kz:∀{ks:List ByteArray}{o:Option ByteArray},asc o ks→∀{i j:Nat}(hij:i<j) (hj:j<ks.length),BS (ks[i]'(by omega)) ks[j]=true
 | [],_,_,i,j,_,hj=>by simp at hj
 |k::ks,o,h,0,j+1,_,hj=>by
  have h':asc (some k) ks:=by
   cases o with
   |none=>exact h
   |some p=>exact h.2
  simp only[List.getElem_cons_zero,List.getElem_cons_succ]
  exact OW h' (by simpa using hj)
 |k::ks,o,h,i+1,j+1,hij,hj=>by
  have h':asc (some k) ks:=by
   cases o with
   |none=>exact h
   |some p=>exact h.2
  simp only[List.getElem_cons_succ]
  exact Kz h' (by omega) (by simpa using hj)
theorem Uw {ks:List ByteArray}{key:ByteArray}(hs:asc none ks) {p:Nat}(hp:p≤ks.length) (h1:∀t (h:t<p),BS (ks[t]'(by omega)) key=true) (h2:∀t (h:t<ks.length),p≤t→BS ks[t] key=false) :
  EN ks key=if h:p<ks.length then (if ks[p].toList==key.toList then some p else none) else none:=by
 have none_of:(∀t (h:t<ks.length),ks[t].toList≠key.toList)→EN ks key=none:=by
  intro h
  unfold EN
  rw[List.findIdx?_eq_none_iff]
  intro x hx
  obtain⟨t,ht,rfl⟩:=List.getElem_of_mem hx
  simpa using h t ht
 have low:∀t (h:t<ks.length),t<p→ks[t].toList≠key.toList:=by
  intro t h htp he
  have h3:=h1 t htp
  unfold BS at h3
  rw[he,Ch]at h3
  cases h3
 by_cases hlt:p<ks.length
 ·rw[dif_pos hlt]
  by_cases he:(ks[p].toList==key.toList)=true
  ·rw[if_pos he]
   unfold EN
   rw[List.findIdx?_eq_some_iff_getElem]
   exact⟨hlt,he,fun j hj=>by simpa using low j (by omega) hj⟩
  ·rw[if_neg he]
   refine none_of fun t ht=>?_
   by_cases htp:t<p
   ·exact low t ht htp
   ·by_cases hpt:t=p
    ·subst hpt;simpa using he
    ·intro hk
     have h3:=Kz hs (i:=p) (j:=t) (by omega) ht
     have h4:=h2 p hlt (Nat.le_refl _)
     unfold BS at h3 h4
     rw[hk]at h3
     rw[h3]at h4
     cases h4
 ·rw[dif_neg hlt]
  exact none_of fun t ht=>low t ht (by omega)
theorem Gy {t:V}(h:t.right) (h6:t.kind=6):asc none t.keys∧(∀k∈t.keys,AN k=true)∧t.keys.length=t.kids.length:=by
 obtain⟨hw,_,_⟩:=h
 cases t
 simp only[V.wf,Ea]at hw
 simp only[V.kind]at h6
 rw[if_pos h6]at hw
 exact⟨hw.2.1.2.2,hw.2.1.2.1,hw.2.1.1⟩
abbrev Ev:=List V×Option V
def a18 (q:V):Prop:=(∃s,q=K9 s∧AN s=true)∨∃n:Int,q=GN n∧0≤n∧n≤200
theorem R3 {q:V}(h:a18 q):q.right∧q.count=1∧q.depth=1:=by
 rcases h with⟨s,rfl,hs⟩ | ⟨n,rfl,h1,h2⟩
 ·refine⟨⟨⟨?_,?_,trivial⟩,by simp[K9,V.count,An],by simp[K9,V.depth,AI]⟩,rfl,rfl⟩
  ·unfold Az
   have h1:inB 4 0 6=true:=by decide
   simp[h1,cF,cR,cT,hs,B6,inB]
  ·simp[Ea]
 ·refine⟨⟨⟨?_,?_,trivial⟩,by simp[GN,V.count,An],by simp[GN,V.depth,AI]⟩,rfl,rfl⟩
  ·unfold Az
   have h3:inB 3 0 6=true:=by decide
   have h4:inB n (-1000000000000000) 1000000000000000=true:=by unfold inB;simp;omega
   simp[h3,cF,cR,cT,B6,h4,inB]
   omega
  ·simp[Ea]
theorem a0w {t:V}(h:t.right) {i:Nat}(hi:i<t.kids.length):a18 (t.keyV i):=by
 have hk:=Cj h.2.1
 unfold V.keyV
 split
 ·rename_i h6
  obtain⟨_,h2,h3⟩:=Gy h h6
  refine .inl ⟨_,rfl,?_⟩
  obtain⟨hk',he⟩:=Ml (Ls h) h6 hi
  rw[he]
  exact h2 _ (List.getElem_mem _)
 ·exact .inr ⟨i,rfl,by omega,by omega⟩
def evV (e:Ev):V:=match e.2 with
 |some t=>DB [DB e.1,t]
 |none=>DB [DB e.1]
theorem Y4 {l:List V}(h:wfL l) (hl:l.length≤200):(DB l).wf:=by
 refine⟨?_,by simp[Ea],h⟩
 unfold Az
 have h1:inB 5 0 6=true:=by decide
 have h2:inB (l.length:Int) 0 200=true:=by unfold inB;simp;omega
 simp[h1,cF,cR,cT,B6,BH,h2,inB]
 omega
theorem EV {t:V}(h:t.wf):0≤t.kind∧t.kind≤6∧(t.kind≠3→t.num=0)∧(t.kind≠4→t.text=ByteArray.empty)∧(t.kind≠6→t.keys=[])∧(t.kind≠5→t.kind≠6→t.kids=[]):=by
 obtain⟨k,n,s,ks,vs⟩:=t
 simp only[V.wf]at h
 obtain⟨h1,h2,_⟩:=h
 simp only[V.kind,V.num,V.text,V.keys,V.kids]
 unfold Az at h1
 split at h1
 ·exact absurd h1 (by decide)
 ·rename_i hk
  split at h1
  ·exact absurd h1 (by decide)
  ·rename_i hf
   unfold cF at hf
   unfold inB at hk
   unfold BH at hf
   simp only[Bool.not_eq_true',Bool.not_eq_false,Bool.and_eq_true,decide_eq_true_eq,Bool.or_eq_true,not_or,not_and,bne_iff_ne,ne_eq,Bool.not_eq_true,beq_eq_false_iff_ne]at hk hf
   obtain⟨⟨f1,f2⟩,f3⟩:=hf
   refine⟨hk.1,hk.2,fun h=>?_,fun h=>?_,fun h=>?_,fun h5 h6=>?_⟩
   ·by_cases hn:n=0
    ·exact hn
    ·exact absurd (f1 hn) (by simpa using h)
   ·by_cases hs:s.toList=[]
    ·exact Ld hs
    ·have:=f2 (by simpa using hs)
     exact absurd this (by simpa using h)
   ·unfold Ea at h2
    rw[if_neg h]at h2
    exact h2
   ·by_cases hn:(vs.length:Int)=0
    ·exact List.eq_nil_of_length_eq_zero (by omega)
    ·have:=f3 hn
     simp[h5,h6]at this
theorem p9 {ks:List ByteArray}(hs:asc none ks) {i:Nat}(hi:i<ks.length):EN ks ks[i]=some i:=by
 rw[Uw hs (key:=ks[i]) (Nat.le_of_lt hi) (fun t h=>Kz hs h hi) (fun t h hp=>?_),dif_pos hi,if_pos (by simp)]
 by_cases he:t=i
 ·subst he
  exact C8 _
 ·have h1:BS ks[i] ks[t]=true:=Kz hs (by omega) h
  cases h2:BS ks[t] ks[i] with
  |false=>rfl
  |true =>
   have:=E6 h1 h2
   rw[C8]at this
   cases this
theorem a1a {t:V}(h:t.right) {i:Nat}(hi:i<t.kids.length):EF t (t.keyV i)=okR t.kids[i]:=by
 obtain⟨_,_,_,_,_,hk⟩:=EV h.1
 unfold V.keyV
 split
 ·rename_i h6
  obtain⟨hasc,_,hl⟩:=Gy h h6
  obtain⟨hk',he⟩:=Ml (Ls h) h6 hi
  show EF t (K9 (t.keyAt i))=_
  have e1:EF t (K9 (t.keyAt i))=Ca t (t.keyAt i):=rfl
  rw[e1]
  unfold Ca
  rw[if_neg (by omega),if_pos h6]
  unfold V.member
  rw[he,p9 hasc hk']
  simp only[List.getD_eq_getElem?_getD,List.getElem?_eq_getElem hi,Option.getD_some]
 ·rename_i h6
  have h5:t.kind=5:=by
   by_cases h5:t.kind=5
   ·exact h5
   ·rw[hk h5 h6]at hi
    simp at hi
  have e1:EF t (GN i)=DE t i:=rfl
  rw[e1]
  have e2:C0 (i:Int) t.kids.length=i:=by unfold C0;rw[if_neg (by omega)]
  unfold DE
  rw[if_neg (by omega),if_pos h5,e2,if_pos ⟨by omega,by omega⟩,Int.toNat_natCast,List.getD_eq_getElem?_getD,List.getElem?_eq_getElem hi,Option.getD_some]
theorem Yc (key:Nat→V) (ahead:List V):∀(ks:List V) (i:Nat) (p:List V×V),p∈Dv key i ks ahead→∃(j:Nat) (hj:j<ks.length),p∈ks[j].paths (ahead++[key (i+j)])
 | [],_,p,h=>by simp[Dv]at h
 |k::ks,i,p,h=>by
  simp only[Dv,List.mem_append]at h
  rcases h with h | h
  ·exact⟨0,by simp,by simpa using h⟩
  ·obtain⟨j,hj,hp⟩:=Yc key ahead ks (i+1) p h
   refine⟨j+1,by simpa using hj,?_⟩
   rw[show i+(j+1)=i+1+j by omega]
   simpa using hp
theorem v6:∀(m:Nat) (t:V) (ahead:List V),t.count≤m→t.right→∀p∈t.paths ahead,∃rel,p.1=ahead++rel∧D8 t rel=okR p.2∧(∀k∈rel,k.right)∧rel.length<t.depth∧p.2.right
 | 0,t,_,hm,_=>by have:=Bc t;omega
 |m+1,t,ahead,hm,ht=>by
  intro p hp
  rw[Og]at hp
  rcases List.mem_cons.1 hp with rfl | hp
  ·exact⟨[],by simp,rfl,by simp,by rw[KO];simp,ht⟩
  ·obtain⟨j,hj,hp⟩:=Yc _ _ _ _ _ hp
   rw[Nat.zero_add]at hp
   have hmem:=List.getElem_mem hj
   have hc:=BC hmem
   have hck:=Bp t
   have hd:=FK hmem
   have hdk:=KO t
   obtain⟨rel,h1,h2,h3,h4,h5⟩:=v6 m t.kids[j] (ahead++[t.keyV j]) (by omega) (Cg ht hmem) p hp
   refine⟨t.keyV j::rel,by rw[h1];simp,?_,fun k hk=>?_,by simp only[List.length_cons];omega,h5⟩
   ·unfold D8
    rw[a1a ht hj]
    exact h2
   ·rcases List.mem_cons.1 hk with rfl | hk
    ·exact (R3 (a0w ht hj)).1
    ·exact h3 k hk
theorem a2a {t:V}(ht:t.right) {p:List V×V}(hp:p∈t.paths []):D8 t p.1=okR p.2∧(∀k∈p.1,k.right)∧p.1.length≤20∧p.2.right:=by
 obtain⟨rel,h1,h2,h3,h4,h5⟩:=v6 t.count t [] (Nat.le_refl _) ht p hp
 have h1':p.1=rel:=by simpa using h1
 rw[h1']
 exact⟨h2,h3,by have:=ht.2.2;omega,h5⟩
theorem a0e {t:V}(h:t.right) (h6:t.kind=6):(List.range t.kids.length).map t.keyAt=t.keys:=by
 obtain⟨_,_,hl⟩:=Gy h h6
 apply List.ext_getElem
 ·simp[hl]
 ·intro i h1 h2
  rw[List.getElem_map,List.getElem_range]
  obtain⟨_,he⟩:=Ml (Ls h) h6 (i:=i) (by omega)
  exact he
def CT (l:List ByteArray) (k:ByteArray):Bool:=l.any fun x=>x.toList==k.toList
theorem Co {l:List ByteArray}{k:ByteArray}:CT l k=true↔k∈l:=by
 unfold CT
 rw[List.any_eq_true]
 constructor
 ·rintro⟨x,hx,h⟩
  have:x=k:=AA (by simpa using h)
  rw[←this];exact hx
 ·intro h
  exact⟨k,h,by simp⟩
def Bw (k:ByteArray):List ByteArray→List ByteArray
 | []=>[k]
 |x::r=>if BS k x then k::x::r else if k.toList==x.toList then x::r else x::Bw k r
def AX (keys:List ByteArray):List ByteArray:=keys.foldl (fun l k=>Bw k l) []
def Up (l:List ByteArray):Prop:=l.Pairwise fun a b=>BS a b=true
theorem FB (k:ByteArray):∀(l:List ByteArray) (x:ByteArray),x∈Bw k l↔x=k∨x∈l
 | [],x=>by simp[Bw]
 |y::r,x=>by
  unfold Bw
  split
  ·simp
  ·split
   ·rename_i h
    have:k=y:=AA (by simpa using h)
    subst this
    simp
   ·rw[List.mem_cons,FB k r x,List.mem_cons]
    constructor
    ·rintro (h | h | h)
     ·exact .inr (.inl h)
     ·exact .inl h
     ·exact .inr (.inr h)
    ·rintro (h | h | h)
     ·exact .inr (.inl h)
     ·exact .inl h
     ·exact .inr (.inr h)
theorem Nb (a b:ByteArray):BS a b=true∨a=b∨BS b a=true:=by
 rcases CX a.toList b.toList with h | h | h
 ·exact .inl h
 ·exact .inr (.inl (AA h))
 ·exact .inr (.inr h)
theorem N2 (k:ByteArray):∀{l:List ByteArray},Up l→Up (Bw k l)
 | [],_=>by simp[Bw,Up]
 |y::r,h=>by
  unfold Up at h
  rw[List.pairwise_cons]at h
  unfold Bw
  split
  ·rename_i hl
   refine List.pairwise_cons.2 ⟨fun x hx=>?_,List.pairwise_cons.2 h⟩
   rcases List.mem_cons.1 hx with rfl | hx
   ·exact hl
   ·exact E6 hl (h.1 x hx)
  ·rename_i hl
   split
   ·exact List.pairwise_cons.2 h
   ·rename_i he
    refine List.pairwise_cons.2 ⟨fun x hx=>?_,N2 k h.2⟩
    rcases (FB k r x).1 hx with rfl | hx
    ·rcases Nb x y with g | g | g
     ·exact absurd g hl
     ·subst g;exact absurd (by simp) he
     ·exact g
    ·exact h.1 x hx
theorem Vk:∀{a b:List ByteArray},Up a→Up b→(∀x,x∈a↔x∈b)→a=b
 | [],[],_,_,_=>rfl
 | [],y::b,_,_,h=>absurd ((h y).2 (by simp)) (by simp)
 |x::a,[],_,_,h=>absurd ((h x).1 (by simp)) (by simp)
 |x::a,y::b,h1,h2,h=>by
  unfold Up at h1 h2
  rw[List.pairwise_cons]at h1 h2
  have no:∀{u v:ByteArray},BS u v=true→BS v u=true→False:=fun g1 g2=>by
   have:=E6 g1 g2
   rw[C8]at this
   cases this
  have hxy:x=y:=by
   rcases List.mem_cons.1 ((h x).1 (by simp)) with e | hx
   ·exact e
   ·rcases List.mem_cons.1 ((h y).2 (by simp)) with e | hy
    ·exact e.symm
    ·exact (no (h1.1 y hy) (h2.1 x hx)).elim
  subst hxy
  congr 1
  refine Vk h1.2 h2.2 fun z=>?_
  constructor
  ·intro hz
   rcases List.mem_cons.1 ((h z).1 (by simp[hz])) with e | hz'
   ·subst e;exact (no (h1.1 z hz) (h1.1 z hz)).elim
   ·exact hz'
  ·intro hz
   rcases List.mem_cons.1 ((h z).2 (by simp[hz])) with e | hz'
   ·subst e;exact (no (h2.1 z hz) (h2.1 z hz)).elim
   ·exact hz'
theorem SZ (keys:List ByteArray):∀(l:List ByteArray),Up l→Up (keys.foldl (fun l k=>Bw k l) l)∧∀x,x∈keys.foldl (fun l k=>Bw k l) l↔x∈keys∨x∈l:=by
 induction keys with
 |nil=>intro l h;exact⟨h,fun x=>by simp⟩
 |cons k r ih =>
  intro l h
  obtain⟨h1,h2⟩:=ih (Bw k l) (N2 k h)
  refine⟨h1,fun x=>?_⟩
  rw[List.foldl_cons,h2,FB,List.mem_cons]
  constructor
  ·rintro (h | h | h)
   ·exact .inl (.inr h)
   ·exact .inl (.inl h)
   ·exact .inr h
  ·rintro ((h | h) | h)
   ·exact .inr (.inl h)
   ·exact .inl h
   ·exact .inr (.inr h)
theorem Ex (keys:List ByteArray):Up (AX keys):=(SZ keys [] (by simp[Up])).1
theorem C7 {keys:List ByteArray}{x:ByteArray}:x∈AX keys↔x∈keys:=by
 unfold AX
 rw[(SZ keys [] (by simp[Up])).2]
 simp
theorem KQ (k:ByteArray):∀(l:List ByteArray),(Bw k l).length≤l.length+1
 | []=>by simp[Bw]
 |x::r=>by
  unfold Bw
  split
  ·simp
  ·split
   ·simp
   ·have:=KQ k r
    simp only[List.length_cons]
    omega
theorem JA (keys:List ByteArray):(AX keys).length≤keys.length:=by
 have key:∀(keys l:List ByteArray),(keys.foldl (fun l k=>Bw k l) l).length≤keys.length+l.length:=by
  intro keys
  induction keys with
  |nil=>intro l;simp
  |cons k r ih =>
   intro l
   have h1:=ih (Bw k l)
   have h2:=KQ k l
   rw[List.foldl_cons,List.length_cons]
   omega
 have:=key keys []
 unfold AX
 simpa using this
def AH:List ByteArray→List V→ByteArray→V
 |_::ks,v::vs,x=>if CT ks x then AH ks vs x else v
 |_,_,_=>P5
theorem EM:∀{keys:List ByteArray}{kids:List V}{x:ByteArray},keys.length=kids.length→x∈keys→∃j:Nat,keys[j]? = some x∧(∀n:Nat,j<n→keys[n]?≠some x)∧kids[j]? = some (AH keys kids x)
 | [],_,x,_,h=>absurd h (by simp)
 |k::ks,[],x,h,_=>absurd h (by simp)
 |k::ks,v::vs,x,hl,hx=>by
  have hl':ks.length=vs.length:=by simpa using hl
  unfold AH
  cases hk:CT ks x with
  |true =>
   obtain⟨j,h1,h2,h3⟩:=EM hl' (Co.1 hk)
   refine⟨j+1,by simpa using h1,fun n hn=>?_,by simpa using h3⟩
   cases n with
   |zero=>omega
   |succ n=>simpa using h2 n (by omega)
  |false =>
   have hnx:x ∉ ks:=fun h=>by rw[Co.2 h]at hk;cases hk
   have hxk:x=k:=by
    rcases List.mem_cons.1 hx with e | e
    ·exact e
    ·exact absurd e hnx
   subst hxk
   refine⟨0,rfl,fun n hn=>?_,by simp⟩
   cases n with
   |zero=>omega
   |succ n =>
    intro hc
    exact hnx (List.mem_of_getElem? (by simpa using hc))
def Gi (keys:List ByteArray) (kids:List V):V:=.mk 6 0 ByteArray.empty (AX keys) ((AX keys).map (AH keys kids))
def I3 (keys vis:List ByteArray):Nat:=(keys.filter fun k=>!CT vis k).length
theorem QE {keys vis:List ByteArray}{k:ByteArray}(hk:k∈keys) (hv:k ∉ vis):I3 keys (vis++[k])<I3 keys vis:=by
 unfold I3
 have key:∀(l:List ByteArray),(l.filter fun x=>!CT (vis++[k]) x).length≤(l.filter fun x=>!CT vis x).length∧(k∈l→(l.filter fun x=>!CT (vis++[k]) x).length<(l.filter fun x=>!CT vis x).length):=by
  intro l
  induction l with
  |nil=>simp
  |cons x r ih =>
   have himp:CT vis x=true→CT (vis++[k]) x=true:=fun h=>Co.2 (by simp[Co.1 h])
   rw[List.filter_cons,List.filter_cons]
   cases h1:CT vis x with
   |true =>
    rw[himp h1]
    simp only[Bool.not_true,Bool.false_eq_true,if_false]
    refine⟨ih.1,fun hm=>?_⟩
    rcases List.mem_cons.1 hm with e | e
    ·subst e;exact absurd (Co.1 h1) hv
    ·exact ih.2 e
   |false =>
    simp only[Bool.not_false,if_true,List.length_cons]
    cases h2:CT (vis++[k]) x with
    |true =>
     simp only[Bool.not_true,Bool.false_eq_true,if_false]
     exact⟨by omega,fun _=>by omega⟩
    |false =>
     simp only[Bool.not_false,if_true,List.length_cons]
     refine⟨by omega,fun hm=>?_⟩
     rcases List.mem_cons.1 hm with e | e
     ·subst e
      rw[Co.2 (by simp)]at h2
      cases h2
     ·have:=ih.2 e;omega
 exact (key keys).2 hk
theorem RY (keys:List ByteArray):I3 keys []=keys.length:=by
 unfold I3
 congr 1
 exact List.filter_eq_self.2 fun x _=>by simp[CT]
def Fs (l:List ByteArray):List ByteArray:=((l.map fun b=>b.data.toList).mergeSort fun x y=>decide (x≤y)).map fun x=>⟨x.toArray⟩
mutual
def V.fit:V→Prop
 | .mk kind _ text keys kids=>text.size≤200∧(∀k∈keys,k.size≤60)∧(BH kind=false→kids=[])∧(kind=6→keys.length=kids.length)∧(kind≠6→keys=[])∧Wh kids
def Wh:List V→Prop
 | []=>True
 |k::ks=>k.fit∧Wh ks
end
theorem LS:∀{l:List V},Wh l↔∀v∈l,v.fit
 | []=>by simp[Wh]
 |v::l=>by simp only[Wh,List.mem_cons,forall_eq_or_imp,LS (l:=l)]
theorem Mk {s:ByteArray}(h:AN s=true):s.size≤60:=by
 unfold AN at h
 simp only[Bool.and_eq_true,decide_eq_true_eq]at h
 exact h.1
mutual
theorem a0c:∀(t:V),t.wf→t.fit
 | .mk kind num text keys kids,h=>by
  have hn:=Sz _ h
  obtain⟨h1,h2,h3⟩:=h
  have ht:=(MT (c:=⟨kind,num,text,ByteArray.empty,kids.length⟩) h1).1
  unfold Ea at h2
  refine⟨Nat.le_trans (Mk ht) (by decide),fun k hk=>?_,hn.1,hn.2.1,fun h6=>?_,a0t kids h3⟩
  ·by_cases h6:kind=6
   ·rw[if_pos h6]at h2
    exact Mk (h2.2.1 k hk)
   ·rw[if_neg h6]at h2
    rw[h2]at hk
    simp at hk
  ·rw[if_neg h6]at h2
   exact h2
theorem a0t:∀(l:List V),wfL l→Wh l
 | [],_=>trivial
 |v::l,h=>⟨a0c v h.1,a0t l h.2⟩
end
mutual
theorem q6:∀(t:V),t.fit→t.neat
 | .mk kind num text keys kids,h=>⟨h.2.2.1,h.2.2.2.1,ZR kids h.2.2.2.2.2⟩
theorem ZR:∀(l:List V),Wh l→Pd l
 | [],_=>trivial
 |v::l,h=>⟨q6 v h.1,ZR l h.2⟩
end
mutual
theorem ZS:∀(t:V) (key:ByteArray),t.fit→key.size≤60→∀c∈t.cells key,c.text.size≤200∧c.key.size≤60
 | .mk kind num text keys kids,key,h,hk,c,hc=>by
  rcases List.mem_cons.1 hc with rfl | hc
  ·exact⟨h.1,hk⟩
  ·exact UK kids kind keys h.2.1 h.2.2.2.2.2 c hc
theorem UK:∀(l:List V) (kind:Int) (keys:List ByteArray),(∀k∈keys,k.size≤60)→Wh l→∀c∈BN kind keys l,c.text.size≤200∧c.key.size≤60
 | [],_,_,_,_,c,hc=>by simp[BN]at hc
 |v::l,kind,keys,hk,h,c,hc=>by
  rcases List.mem_append.1 hc with hc | hc
  ·refine ZS v _ h.1 ?_ c hc
   split
   ·cases keys with
    |nil=>exact Nat.zero_le _
    |cons k ks=>exact hk k (by simp)
   ·exact Nat.zero_le _
  ·exact UK l kind keys.tail (fun k hk'=>hk k (List.mem_of_mem_tail hk')) h.2 c hc
end
mutual
theorem ZP:∀(t t':V) (key key':ByteArray) (r r':List CellD),t.fit→t'.fit→t.cells key++r=t'.cells key'++r'→t=t'∧key=key'∧r=r'
 | .mk kind num text keys kids,.mk kind' num' text' keys' kids',key,key',r,r',h,h',he=>by
  simp only[V.cells,List.cons_append,List.cons.injEq,CellD.mk.injEq]at he
  obtain⟨⟨rfl,rfl,rfl,rfl,hl⟩,he⟩:=he
  obtain⟨rfl,rfl,rfl⟩:=Md kids kids' kind keys keys' r r' (by omega) (fun h6=>⟨h.2.2.2.1 h6,h'.2.2.2.1 h6⟩) (fun h6=>⟨h.2.2.2.2.1 h6,h'.2.2.2.2.1 h6⟩) h.2.2.2.2.2 h'.2.2.2.2.2 he
  exact⟨rfl,rfl,rfl⟩
theorem Md:∀(l l':List V) (kind:Int) (keys keys':List ByteArray) (r r':List CellD),l.length=l'.length→(kind=6→keys.length=l.length∧keys'.length=l'.length)→(kind≠6→keys=[]∧keys'=[])→Wh l→Wh l'→BN kind keys l++r=BN kind keys' l'++r'→keys=keys'∧l=l'∧r=r'
 | [],[],kind,keys,keys',r,r',_,h6,hn,_,_,he=>by
  by_cases h:kind=6
  ·have:=h6 h
   exact⟨by rw[List.eq_nil_of_length_eq_zero this.1,List.eq_nil_of_length_eq_zero this.2],rfl,he⟩
  ·exact⟨by rw[(hn h).1,(hn h).2],rfl,he⟩
 | [],_::_,_,_,_,_,_,hl,_,_,_,_,_=>by simp at hl
 |_::_,[],_,_,_,_,_,hl,_,_,_,_,_=>by simp at hl
 |v::l,v'::l',kind,keys,keys',r,r',hl,h6,hn,h,h',he=>by
  simp only[BN,List.append_assoc]at he
  obtain⟨rfl,hk,he⟩:=ZP v v' _ _ _ _ h.1 h'.1 he
  by_cases hk6:kind=6
  ·obtain⟨q1,q2⟩:=h6 hk6
   cases keys with
   |nil=>simp at q1
   |cons k ks=>cases keys' with
    |nil=>simp at q2
    |cons k' ks' =>
     rw[if_pos hk6,if_pos hk6]at hk
     have hk':k=k':=hk
     subst hk'
     obtain⟨rfl,rfl,rfl⟩:=Md l l' kind ks ks' r r' (by simpa using hl) (fun _=>⟨by simpa using q1,by simpa using q2⟩) (fun e=>absurd hk6 e) h.2 h'.2 he
     exact⟨rfl,rfl,rfl⟩
  ·obtain⟨rfl,rfl⟩:=hn hk6
   obtain⟨_,rfl,rfl⟩:=Md l l' kind [] [] r r' (by simpa using hl) (fun e=>absurd e hk6) (fun _=>⟨rfl,rfl⟩) h.2 h'.2 he
   exact⟨rfl,rfl,rfl⟩
end
theorem a0u {t:V}(h:t.fit) (h0:(dec t.enc).1=0):t.right:=by
 rcases Fg t.enc with⟨u,hu⟩ | ⟨c,hc,hd⟩
 ·obtain⟨h1,h2,h3,h4⟩:=Of hu
  obtain⟨rfl,_,_⟩:=ZP t u ByteArray.empty ByteArray.empty [] [] h (a0c u h2) (by rw[List.append_nil,List.append_nil];exact h1)
  exact⟨h2,h3,h4⟩
 ·rw[hd]at h0
  exact absurd h0 hc
theorem ZT {t:V}(h:t.fit):∀c∈t.enc,c.text.size≤9223372036854775807∧c.key.size≤9223372036854775807:=fun c hc=>by
 have:=ZS t ByteArray.empty h (Nat.zero_le _) c hc
 omega
theorem HI {t:V}(h:t.right):t.fit:=a0c t h.1
def Js (t:V):Int×Option V:=if (dec t.enc).1=0 then (0,some t) else ((dec t.enc).1,none)
theorem Zf {ks:List ByteArray}(h:asc none ks):Up ks:=by
 unfold Up
 rw[List.pairwise_iff_getElem]
 intro i j hi hj hij
 exact Kz h hij hj
theorem Wr {ks:List ByteArray}(h:Up ks) {i j:Nat}{x:ByteArray}(hi:ks[i]? = some x) (hj:ks[j]? = some x):i=j:=by
 unfold Up at h
 rw[List.pairwise_iff_getElem]at h
 obtain⟨h1,e1⟩:=List.getElem?_eq_some_iff.1 hi
 obtain⟨h2,e2⟩:=List.getElem?_eq_some_iff.1 hj
 rcases Nat.lt_trichotomy i j with g | g | g
 ·have:=h i j h1 h2 g
  rw[e1,e2,C8]at this
  cases this
 ·exact g
 ·have:=h j i h2 h1 g
  rw[e1,e2,C8]at this
  cases this
theorem a12 {a:V}(h:a.fit):∀k∈a.keys,k.size≤60:=by cases a;exact h.2.1
theorem RH (a b:List V):An (a++b)=An a+An b:=by
 induction a with
 |nil=>simp[An]
 |cons x a ih=>simp only[List.cons_append,An,ih];omega
theorem N1 {g g':ByteArray→V}{k:ByteArray}:∀{l:List ByteArray},Up l→(∀x∈l,x≠k→g' x=g x)→An ((Bw k l).map g')≤An (l.map g)+(g' k).count
 | [],_,_=>by simp[Bw,An]
 |x::r,hu,h=>by
  unfold Up at hu
  rw[List.pairwise_cons]at hu
  have hne:∀{u v:ByteArray},BS u v=true→v≠u:=fun hl e=>by subst e;rw[C8]at hl;cases hl
  unfold Bw
  split
  ·rename_i hl
   have e:(x::r).map g'=(x::r).map g:=List.map_congr_left fun y hy=>h y hy (by
    rcases List.mem_cons.1 hy with rfl | hy
    ·exact hne hl
    ·exact hne (E6 hl (hu.1 y hy)))
   rw[List.map_cons,An,e]
   omega
  ·split
   ·rename_i he
    have hx:k=x:=AA (by simpa using he)
    have e:r.map g'=r.map g:=List.map_congr_left fun y hy=>h y (by simp[hy]) (by rw[hx];exact hne (hu.1 y hy))
    rw[List.map_cons,List.map_cons,An,An,e,←hx]
    omega
   ·rename_i he
    have hx:x≠k:=fun e=>he (by rw[e];simp)
    have:=N1 (g:=g) (g':=g') (k:=k) hu.2 fun y hy=>h y (by simp[hy])
    rw[List.map_cons,List.map_cons,An,An,h x (by simp) hx]
    omega
theorem Du:∀{ks:List ByteArray}{vs:List V}{k:ByteArray}{v:V}{x:ByteArray},ks.length=vs.length→(x=k∨x∈ks)→AH (ks++[k]) (vs++[v]) x=if x=k then v else AH ks vs x
 | [],[],k,v,x,_,hx=>by
  have hxk:x=k:=by simpa using hx
  rw[if_pos hxk]
  simp[AH,CT]
 | [],_::_,_,_,_,h,_=>by simp at h
 |_::_,[],_,_,_,h,_=>by simp at h
 |k0::ks,v0::vs,k,v,x,h,hx=>by
  have hl:ks.length=vs.length:=by simpa using h
  simp only[List.cons_append,AH]
  have hh:CT (ks++[k]) x=true↔x∈ks∨x=k:=by rw[Co];simp
  by_cases hxk:x=k
  ·rw[if_pos hxk,if_pos (hh.2 (.inr hxk)),Du hl (.inl hxk),if_pos hxk]
  ·rw[if_neg hxk]
   by_cases hm:x∈ks
   ·rw[if_pos (hh.2 (.inl hm)),if_pos (Co.2 hm),Du hl (.inr hm),if_neg hxk]
   ·rw[if_neg (fun hc=>(hh.1 hc).elim hm hxk),if_neg (fun hc=>hm (Co.1 hc))]
theorem Iz (ks:List ByteArray) (k:ByteArray):AX (ks++[k])=Bw k (AX ks):=by
 unfold AX
 rw[List.foldl_append]
 rfl
theorem Hx:∀(n:Nat) (ks:List ByteArray) (vs:List V),ks.length=n→vs.length=n→An ((AX ks).map (AH ks vs))≤An vs
 | 0,ks,vs,h1,h2=>by
  rw[List.eq_nil_of_length_eq_zero h1]
  simp[AX,An]
 |n+1,ks,vs,h1,h2=>by
  rcases List.eq_nil_or_concat ks with rfl | ⟨ks',k,rfl⟩
  ·simp at h1
  ·rcases List.eq_nil_or_concat vs with rfl | ⟨vs',v,rfl⟩
   ·simp at h2
   ·simp only[List.concat_eq_append,List.length_append,List.length_singleton]at h1 h2 ⊢
    have hl:ks'.length=vs'.length:=by omega
    have ih:=Hx n ks' vs' (by omega) (by omega)
    rw[Iz,RH]
    have hins:=N1 (g:=AH ks' vs') (g':=AH (ks'++[k]) (vs'++[v])) (k:=k) (Ex ks') fun x hx hne=>by
     rw[Du hl (.inr (C7.1 hx)),if_neg hne]
    rw[Du hl (.inl rfl),if_pos rfl]at hins
    simp only[An]
    omega
def bAt (s:ByteArray) (i:Nat):Nat:=match s[i]? with
 |some b=>b.toNat
 |none=>256
theorem Aw {s:ByteArray}{i:Nat}(h:i<s.size):∃b:UInt8,s[i]? = some b∧bAt s i=b.toNat:=by
 have h1:s[i]? = some s[i]:=getElem?_pos s i h
 exact⟨s[i],h1,by unfold bAt;rw[h1]⟩
theorem BX {s:ByteArray}{i:Nat}(h:s.size≤i):bAt s i=256:=by
 have h1:s[i]? = none:=getElem?_neg s i (by omega)
 unfold bAt
 rw[h1]
theorem CP {s:ByteArray}{i:Nat}(h:bAt s i<256):i<s.size:=by
 rcases Nat.lt_or_ge i s.size with h1 | h1
 ·exact h1
 ·rw[BX h1]at h;omega
theorem Yn (s:ByteArray) (i:Nat):bAt s i≤256:=by
 rcases Nat.lt_or_ge i s.size with h1 | h1
 ·obtain⟨b,_,h2⟩:=Aw h1
  have:=b.toNat_lt
  omega
 ·rw[BX h1];exact Nat.le_refl _
def C9 (n:Nat):Bool:=n==32||n==9||n==10||n==13
def AP (n:Nat):Bool:=decide (48≤n)&&decide (n≤57)
theorem QH {n:Nat}(h:C9 n=true):n<256:=by
 unfold C9 at h
 simp only[Bool.or_eq_true,beq_iff_eq]at h
 omega
theorem DM {n:Nat}(h:AP n=true):48≤n∧n≤57:=by
 unfold AP at h
 simpa using h
def Af (s:ByteArray) (i:Nat):Nat:=if h:C9 (bAt s i)=true then Af s (i+1) else i
termination_by s.size-i
decreasing_by
 have:=CP (QH h)
 omega
theorem FE {s:ByteArray}{i:Nat}(h:C9 (bAt s i)=true):Af s i=Af s (i+1):=by rw[Af,dif_pos h]
theorem Ci {s:ByteArray}{i:Nat}(h:C9 (bAt s i)=false):Af s i=i:=by rw[Af,dif_neg (by simp[h])]
theorem Xc {s:ByteArray}:∀(n i:Nat),s.size-i≤n→i≤s.size→i≤Af s i∧Af s i≤s.size∧C9 (bAt s (Af s i))=false:=by
 intro n
 induction n with
 |zero =>
  intro i hn hi
  have hb:C9 (bAt s i)=false:=by rw[BX (by omega)];rfl
  rw[Ci hb]
  exact⟨Nat.le_refl _,hi,hb⟩
 |succ n ih =>
  intro i hn hi
  cases hb:C9 (bAt s i) with
  |false=>rw[Ci hb];exact⟨Nat.le_refl _,hi,hb⟩
  |true =>
   have hlt:=CP (QH hb)
   rw[FE hb]
   obtain⟨h1,h2,h3⟩:=ih (i+1) (by omega) (by omega)
   exact⟨by omega,h2,h3⟩
theorem AM {s:ByteArray}{i:Nat}(h:i≤s.size):i≤Af s i∧Af s i≤s.size∧C9 (bAt s (Af s i))=false:=Xc _ i (Nat.le_refl _) h
theorem Es {s:ByteArray}{i:Nat}(h:i≤s.size):Af s (Af s i)=Af s i:=Ci (AM h).2.2
def Dm (s:ByteArray) (i:Nat):Nat:=if h:AP (bAt s i)=true then Dm s (i+1) else i
termination_by s.size-i
decreasing_by
 have h1:=DM h
 have:=CP (s:=s) (i:=i) (by omega)
 omega
theorem IX {s:ByteArray}{i:Nat}(h:AP (bAt s i)=true):Dm s i=Dm s (i+1):=by rw[Dm,dif_pos h]
theorem Eo {s:ByteArray}{i:Nat}(h:AP (bAt s i)=false):Dm s i=i:=by rw[Dm,dif_neg (by simp[h])]
theorem XF {s:ByteArray}:∀(n i:Nat),s.size-i≤n→i≤s.size→i≤Dm s i∧Dm s i≤s.size∧AP (bAt s (Dm s i))=false∧∀j,i≤j→j<Dm s i→AP (bAt s j)=true:=by
 intro n
 induction n with
 |zero =>
  intro i hn hi
  have hb:AP (bAt s i)=false:=by rw[BX (by omega)];rfl
  rw[Eo hb]
  exact⟨Nat.le_refl _,hi,hb,fun j h1 h2=>by omega⟩
 |succ n ih =>
  intro i hn hi
  cases hb:AP (bAt s i) with
  |false=>rw[Eo hb];exact⟨Nat.le_refl _,hi,hb,fun j h1 h2=>by omega⟩
  |true =>
   have h0:=DM hb
   have hlt:=CP (s:=s) (i:=i) (by omega)
   rw[IX hb]
   obtain⟨h1,h2,h3,h4⟩:=ih (i+1) (by omega) (by omega)
   refine⟨by omega,h2,h3,fun j g1 g2=>?_⟩
   by_cases hj:j=i
   ·rw[hj];exact hb
   ·exact h4 j (by omega) g2
theorem Kg {s:ByteArray}{i:Nat}(h:i≤s.size):i≤Dm s i∧Dm s i≤s.size∧AP (bAt s (Dm s i))=false∧∀j,i≤j→j<Dm s i→AP (bAt s j)=true:=XF _ i (Nat.le_refl _) h
def Bf (s:ByteArray) (a:Nat):Nat→Nat
 | 0=>0
 |k+1=>Bf s a k*10+(bAt s (a+k)-48)
theorem SC {s:ByteArray}{a:Nat}:∀k,(∀j,a≤j→j<a+k→AP (bAt s j)=true)→Bf s a k<10 ^ k
 | 0,_=>by simp[Bf]
 |k+1,h=>by
  have h1:=SC k fun j g1 g2=>h j g1 (by omega)
  have h2:=DM (h (a+k) (by omega) (by omega))
  simp only[Bf,Nat.pow_succ]
  omega
inductive Rd (α:Type) where
 |ok (v:α) (e:Nat)
 |bad (c:Int) (p:Nat)
def AB (s:ByteArray) (i:Nat):Nat:=if bAt s i=45 then i+1 else i
def AQ (s:ByteArray) (i:Nat):Nat:=if bAt s (AB s i)=48 then AB s i+1 else Dm s (AB s i)
def Ef (s:ByteArray) (i:Nat):Int:=if bAt s i=45 then -((Bf s (AB s i) (AQ s i-AB s i):Nat):Int) else ((Bf s (AB s i) (AQ s i-AB s i):Nat):Int)
def Dx (s:ByteArray) (i:Nat):Bool:=decide (16<AQ s i-AB s i)||decide (1000000000000000<Bf s (AB s i) (AQ s i-AB s i))
def G6 (n:Nat):Bool:=n==46||n==101||n==69
def K8 (s:ByteArray) (i:Nat):Rd Int :=
 if AP (bAt s (AB s i))=false then .bad 5 (AB s i) else if Dx s i then .bad 3 i else if G6 (bAt s (AQ s i)) then .bad 3 (AQ s i) else .ok (Ef s i) (AQ s i)
def BF (n:Nat):ByteArray:=⟨#[UInt8.ofNat n]⟩
def B8 (n:Nat):Int:=if AP n then (n:Int)-48 else if decide (97≤n)&&decide (n≤102) then (n:Int)-87 else if decide (65≤n)&&decide (n≤70) then (n:Int)-55 else -1
def EJ (s:ByteArray) (i:Nat):Rd Nat :=
 if bAt s (i+1)=34∨bAt s (i+1)=92∨bAt s (i+1)=47 then .ok (bAt s (i+1)) (i+2)
 else if bAt s (i+1)≠117 then .bad 5 (i+1) else if bAt s (i+2)≠48 then .bad 5 (i+2) else if bAt s (i+3)≠48 then .bad 5 (i+3)
 else if B8 (bAt s (i+4))<0 then .bad 5 (i+4) else if B8 (bAt s (i+5))<0 then .bad 5 (i+5)
 else if 32≤16*B8 (bAt s (i+4))+B8 (bAt s (i+5))∧16*B8 (bAt s (i+4))+B8 (bAt s (i+5))≤126 then .ok (16*B8 (bAt s (i+4))+B8 (bAt s (i+5))).toNat (i+6) else .bad 5 (i+4)
def CU (s:ByteArray) (from_:Nat):Nat→Nat→ByteArray→Rd ByteArray
 | 0,_,_=>.bad 5 s.size
 |n+1,i,out=>if s.size≤i then .bad 5 s.size else if bAt s i=34 then (if 60<out.size then .bad 2 from_ else .ok out (i+1))
  else if bAt s i<32∨126<bAt s i then .bad 5 i else if bAt s i≠92 then CU s from_ n (i+1) (out++BF (bAt s i))
  else match EJ s i with
   | .bad c p=>.bad c p
   | .ok b e=>CU s from_ n e (out++BF b)
def E4 (s:ByteArray) (i:Nat):Rd ByteArray:=if bAt s i≠34 then .bad 5 i else CU s i (s.size+1) (i+1) ByteArray.empty
def Ck (s:ByteArray) (v:V) (i:Nat):List Nat→Nat→Rd V
 | [],k=>.ok v (i+k)
 |b::r,k=>if bAt s (i+k)=b then Ck s v i r (k+1) else .bad 5 (i+k)
def BZ (k:Int):V:=.mk k 0 ByteArray.empty [] []
def Hs (s:ByteArray) (i:Nat):Rd ByteArray:=match E4 s i with
 | .bad c p=>.bad c p
 | .ok k e=>if bAt s (Af s e)≠58 then .bad 5 (Af s e) else .ok k (Af s (Af s e+1))
def Bd (s:ByteArray) (rd:Nat→Rd V) (obj:Bool):Nat→Nat→Bool→List ByteArray→List V→Rd V
 | 0,_,_,_,_=>.bad 5 s.size
 |n+1,i,first,keys,kids =>
  if bAt s i=(if obj then 125 else 93) then .ok (if obj then Gi keys kids else DB kids) (i+1)
  else if first=false∧bAt s i≠44 then .bad 5 i
  else match (if obj then Hs s (if first then i else Af s (i+1)) else .ok ByteArray.empty (if first then i else Af s (i+1))) with
   | .bad c p=>.bad c p
   | .ok k e=>match rd e with
    | .bad c p=>.bad c p
    | .ok v e2=>Bd s rd obj n (Af s e2) false (if obj then keys++[k] else keys) (kids++[v])
def Cq:Nat→ByteArray→Nat→Rd V
 | 0,s,i=>if s.size≤i then .bad 5 s.size else .bad 7 i
 |k+1,s,i=>if s.size≤i then .bad 5 s.size
  else if bAt s i=110 then Ck s (BZ 0) i [110,117,108,108] 0
  else if bAt s i=102 then Ck s (BZ 1) i [102,97,108,115,101] 0
  else if bAt s i=116 then Ck s (BZ 2) i [116,114,117,101] 0
  else if bAt s i=91 then Bd s (Cq k s) false (s.size+1) (Af s (i+1)) true [] []
  else if bAt s i=123 then Bd s (Cq k s) true (s.size+1) (Af s (i+1)) true [] []
  else if bAt s i=34 then (match E4 s i with
   | .bad c p=>.bad c p
   | .ok t e=>.ok (K9 t) e)
  else match K8 s i with
   | .bad c p=>.bad c p
   | .ok n e=>.ok (GN n) e
def SB (s:ByteArray):(Int×Nat)×Option V :=
 if 4000<s.size then ((2,0),none) else match Cq 20 s (Af s 0) with
  | .bad c p=>((c,p),none)
  | .ok v e=>if Af s e<s.size then ((5,Af s e),none) else if 200<v.count then ((2,0),none) else ((0,0),some v)
end Go.Proofs.YtllfmaflodbieaaGreatDoor
