/- Texts of this proof: M08 M09 M10 M15 M16 M18 M19. -/
import Derived.Test.YtllfmaflodbieaaGreatDoorKM1
set_option linter.all false
namespace Go.Proofs.YtllfmaflodbieaaGreatDoor
open Go.RowKit
def V.right (t:V):Prop:=t.wf∧t.count≤200∧t.depth≤20
theorem K3 {a b:ByteArray}(h:a.toList=b.toList):a=b:=by
 rw[ByteArray.toList_eq,ByteArray.toList_eq]at h
 cases a;cases b
 simp at h
 rw[h]
theorem K1 {t:V}(h:t.right) {k:V}(hk:k∈t.kids):k.right:=by
 obtain⟨h1,h2,h3⟩:=h
 have h4:=K7 hk
 have h5:=K4 t
 have h6:=Kp hk
 have h7:=L8 t
 exact⟨Rs (Zh h1) k hk,by omega,by omega⟩
theorem LT:Dq.right:=by
 refine⟨?_,by decide,by decide⟩
 refine⟨?_,?_,trivial⟩
 ·decide +kernel
 ·simp[II]
theorem Lc {t:V}(h:t.right):t.neat:=V0 t h.1
theorem MK {t:V}(h:t.right):dec t.enc=(0,some t):=a3e h.1 h.2.1 h.2.2
def HM (keys:List ByteArray) (key:ByteArray):Option Nat:=keys.findIdx? fun k=>k.toList==key.toList
def V.member (t:V) (key:ByteArray):V:=match HM t.keys key with
 |some i=>t.kids.getD i Dq
 |none=>Dq
theorem NH {keys:List ByteArray}{key:ByteArray}{i:Nat}(h:HM keys key=some i):∃hi:i<keys.length,keys[i]=key∧∀j (hj:j<i),keys[j]'(by omega)≠key:=by
 unfold HM at h
 rw[List.findIdx?_eq_some_iff_getElem]at h
 obtain⟨h1,h2,h3⟩:=h
 refine⟨h1,K3 (by simpa using h2),fun j hj he=>?_⟩
 have:=h3 j hj
 rw[he]at this
 simp at this
theorem UO {keys:List ByteArray}{key:ByteArray}(h:HM keys key=none):key ∉ keys:=by
 unfold HM at h
 rw[List.findIdx?_eq_none_iff]at h
 intro hm
 have:=h key hm
 simp at this
theorem XL {t:V}(hn:t.neat) (h6:t.kind=6) (key:ByteArray):t.member key=Dq∨t.member key∈t.kids:=by
 unfold V.member
 split
 ·rename_i i hi
  obtain⟨h1,_⟩:=NH hi
  have:=TZ hn h6
  right
  rw[List.getD_eq_getElem?_getD,List.getElem?_eq_getElem (by omega),Option.getD_some]
  exact List.getElem_mem _
 ·exact .inl rfl
theorem PW {t:V}(h:t.right) (h6:t.kind=6) (key:ByteArray):(t.member key).right:=by
 rcases XL (Lc h) h6 key with e | e
 ·rw[e];exact LT
 ·exact K1 h e
def okR (t:V):Int×Option V:=(0,some t)
def FX (c:Int):Int×Option V:=(c,none)
def KG (t:V) (key:ByteArray):Int×Option V:=if t.kind=0 then okR Dq else if t.kind=6 then okR (t.member key) else FX 6
def BY (n:Int) (many:Nat):Int:=if n<0 then n+many else n
def UQ (t:V) (n:Int):Int×Option V :=
 if t.kind=0 then okR Dq else if t.kind=5 then okR (if 0≤BY n t.kids.length∧BY n t.kids.length<t.kids.length then t.kids.getD (BY n t.kids.length).toNat Dq else Dq) else FX 6
def S1 (t k:V):Int×Option V:=if k.kind=4 then KG t k.text else if k.kind=3 then UQ t k.num else FX 6
def O4:V→List V→Int×Option V
 |t,[]=>okR t
 |t,k::ks=>match S1 t k with
  | (_,some u)=>O4 u ks
  | (c,none)=>(c,none)
def QT (r:Int×Option V):Prop:=match r.2 with
 |some t=>r.1=0∧t.right
 |none=>r.1≠0
theorem Sx {t:V}(h:t.right):QT (okR t):=⟨rfl,h⟩
theorem Nv {c:Int}(h:c≠0):QT (FX c):=h
theorem TG {t:V}(h:t.right) (key:ByteArray):QT (KG t key):=by
 unfold KG
 split
 ·exact Sx LT
 ·split
  ·rename_i h6
   exact Sx (PW h h6 key)
  ·exact Nv (by decide)
def Jj (a b:ByteArray):Bool:=Op.bytesLess a.toList b.toList
theorem KJ:∀(l:List UInt8),Op.bytesLess l l=false
 | []=>rfl
 |x::l=>by simp[Op.bytesLess,KJ l]
theorem Lf:∀{a b c:List UInt8},Op.bytesLess a b=true→Op.bytesLess b c=true→Op.bytesLess a c=true
 | [],_,c::cs,h1,h2=>rfl
 | [],b,[],h1,h2=>by cases b<;>simp[Op.bytesLess]at h1 h2
 |x::a,[],_,h1,_=>by simp[Op.bytesLess]at h1
 |x::a,y::b,[],_,h2=>by simp[Op.bytesLess]at h2
 |x::a,y::b,z::c,h1,h2=>by
  simp only[Op.bytesLess,Bool.or_eq_true,decide_eq_true_eq,Bool.and_eq_true,beq_iff_eq]at h1 h2 ⊢
  rcases h1 with h1 | ⟨rfl,h1⟩
  ·rcases h2 with h2 | ⟨rfl,h2⟩
   ·exact .inl (UInt8.lt_trans h1 h2)
   ·exact .inl h1
  ·rcases h2 with h2 | ⟨rfl,h2⟩
   ·exact .inl h2
   ·exact .inr ⟨rfl,Lf h1 h2⟩
theorem LG:∀(a b:List UInt8),Op.bytesLess a b=true∨a=b∨Op.bytesLess b a=true
 | [],[]=>.inr (.inl rfl)
 | [],_::_=>.inl rfl
 |_::_,[]=>.inr (.inr rfl)
 |x::a,y::b=>by
  simp only[Op.bytesLess,Bool.or_eq_true,decide_eq_true_eq,Bool.and_eq_true,beq_iff_eq]
  by_cases hxy:x<y
  ·exact .inl (.inl hxy)
  ·by_cases hyx:y<x
   ·exact .inr (.inr (.inl hyx))
   ·have:x=y:=by
     apply UInt8.toNat_inj.1
     have h1:¬x.toNat<y.toNat:=fun h=>hxy (UInt8.lt_iff_toNat_lt.2 h)
     have h2:¬y.toNat<x.toNat:=fun h=>hyx (UInt8.lt_iff_toNat_lt.2 h)
     omega
    subst this
    rcases LG a b with h | rfl | h
    ·exact .inl (.inr ⟨rfl,h⟩)
    ·exact .inr (.inl rfl)
    ·exact .inr (.inr (.inr ⟨rfl,h⟩))
theorem Lt {a b c:ByteArray}(h1:Jj a b=true) (h2:Jj b c=true):Jj a c=true:=Lf h1 h2
theorem Ko (a:ByteArray):Jj a a=false:=KJ _
theorem Vp:∀{ks:List ByteArray}{p:ByteArray},asc (some p) ks→∀{i:Nat}(hi:i<ks.length),Jj p ks[i]=true
 | [],_,_,i,hi=>by simp at hi
 |k::ks,p,h,0,_=>h.1
 |k::ks,p,h,i+1,hi=>by
  have:=Vp h.2 (i:=i) (by simpa using hi)
  simp only[List.getElem_cons_succ]
  exact Lt h.1 this
theorem Md:∀{ks:List ByteArray}{o:Option ByteArray},asc o ks→∀{i j:Nat}(hij:i<j) (hj:j<ks.length),Jj (ks[i]'(by omega)) ks[j]=true
 | [],_,_,i,j,_,hj=>by simp at hj
 |k::ks,o,h,0,j+1,_,hj=>by
  have h':asc (some k) ks:=by
   cases o with
   |none=>exact h
   |some p=>exact h.2
  simp only[List.getElem_cons_zero,List.getElem_cons_succ]
  exact Vp h' (by simpa using hj)
 |k::ks,o,h,i+1,j+1,hij,hj=>by
  have h':asc (some k) ks:=by
   cases o with
   |none=>exact h
   |some p=>exact h.2
  simp only[List.getElem_cons_succ]
  exact Md h' (by omega) (by simpa using hj)
theorem RW {ks:List ByteArray}{key:ByteArray}(hs:asc none ks) {p:Nat}(hp:p≤ks.length) (h1:∀t (h:t<p),Jj (ks[t]'(by omega)) key=true) (h2:∀t (h:t<ks.length),p≤t→Jj ks[t] key=false) :
  HM ks key=if h:p<ks.length then (if ks[p].toList==key.toList then some p else none) else none:=by
 have none_of:(∀t (h:t<ks.length),ks[t].toList≠key.toList)→HM ks key=none:=by
  intro h
  unfold HM
  rw[List.findIdx?_eq_none_iff]
  intro x hx
  obtain⟨t,ht,rfl⟩:=List.getElem_of_mem hx
  simpa using h t ht
 have low:∀t (h:t<ks.length),t<p→ks[t].toList≠key.toList:=by
  intro t h htp he
  have h3:=h1 t htp
  unfold Jj at h3
  rw[he,KJ]at h3
  cases h3
 by_cases hlt:p<ks.length
 ·rw[dif_pos hlt]
  by_cases he:(ks[p].toList==key.toList)=true
  ·rw[if_pos he]
   unfold HM
   rw[List.findIdx?_eq_some_iff_getElem]
   exact⟨hlt,he,fun j hj=>by simpa using low j (by omega) hj⟩
  ·rw[if_neg he]
   refine none_of fun t ht=>?_
   by_cases htp:t<p
   ·exact low t ht htp
   ·by_cases hpt:t=p
    ·subst hpt;simpa using he
    ·intro hk
     have h3:=Md hs (i:=p) (j:=t) (by omega) ht
     have h4:=h2 p hlt (Nat.le_refl _)
     unfold Jj at h3 h4
     rw[hk]at h3
     rw[h3]at h4
     cases h4
 ·rw[dif_neg hlt]
  exact none_of fun t ht=>low t ht (by omega)
theorem KL {t:V}(h:t.right) (h6:t.kind=6):asc none t.keys∧(∀k∈t.keys,Fr k=true)∧t.keys.length=t.kids.length:=by
 obtain⟨hw,_,_⟩:=h
 cases t
 simp only[V.wf,II]at hw
 simp only[V.kind]at h6
 rw[if_pos h6]at hw
 exact⟨hw.2.1.2.2,hw.2.1.2.1,hw.2.1.1⟩
abbrev Ev:=List V×Option V
def M4 (q:V) (e:Ev):Ev:=(q::e.1,e.2)
mutual
def V.stream:V→List Ev
 | .mk kind num text keys kids=>if kids.isEmpty then [([],some (.mk kind num text keys kids))] else Ma (V.mk kind num text keys kids).keyV 0 kids++[([(V.mk kind num text keys kids).keyV (kids.length-1)],none)]
def Ma (key:Nat→V) (i:Nat):List V→List Ev
 | []=>[]
 |k::ks=>k.stream.map (M4 (key i))++Ma key (i+1) ks
end
theorem R1 {t:V}(h:t.kids.isEmpty=true):t.stream=[([],some t)]:=by
 cases t
 simp only[V.kids]at h
 unfold V.stream
 rw[if_pos h]
theorem R2 {t:V}(h:t.kids.isEmpty=false):t.stream=Ma t.keyV 0 t.kids++[([t.keyV (t.kids.length-1)],none)]:=by
 cases t
 simp only[V.kids]at h ⊢
 unfold V.stream
 rw[if_neg (by simp[h])]
def a1n (q:V):Prop:=(∃s,q=Jp s∧Fr s=true)∨∃n:Int,q=L2 n∧0≤n∧n≤200
theorem QS {q:V}(h:a1n q):q.right∧q.count=1∧q.depth=1:=by
 rcases h with⟨s,rfl,hs⟩ | ⟨n,rfl,h1,h2⟩
 ·refine⟨⟨⟨?_,?_,trivial⟩,by simp[Jp,V.count,GR],by simp[Jp,V.depth,GU]⟩,rfl,rfl⟩
  ·unfold Ew
   have h1:inB 4 0 6=true:=by decide
   simp[h1,cF,cR,cT,hs,Ka,inB]
  ·simp[II]
 ·refine⟨⟨⟨?_,?_,trivial⟩,by simp[L2,V.count,GR],by simp[L2,V.depth,GU]⟩,rfl,rfl⟩
  ·unfold Ew
   have h3:inB 3 0 6=true:=by decide
   have h4:inB n (-1000000000000000) 1000000000000000=true:=by unfold inB;simp;omega
   simp[h3,cF,cR,cT,Ka,h4,inB]
   omega
  ·simp[II]
theorem YM {t:V}(h:t.right) {i:Nat}(hi:i<t.kids.length):a1n (t.keyV i):=by
 have hk:=Kg h.2.1
 unfold V.keyV
 split
 ·rename_i h6
  obtain⟨_,h2,h3⟩:=KL h h6
  refine .inl ⟨_,rfl,?_⟩
  obtain⟨hk',he⟩:=Mj (Lc h) h6 hi
  rw[he]
  exact h2 _ (List.getElem_mem _)
 ·exact .inr ⟨i,rfl,by omega,by omega⟩
def evV (e:Ev):V:=match e.2 with
 |some t=>Ir [Ir e.1,t]
 |none=>Ir [Ir e.1]
theorem Ux {l:List V}(h:wfL l) (hl:l.length≤200):(Ir l).wf:=by
 refine⟨?_,by simp[II],h⟩
 unfold Ew
 have h1:inB 5 0 6=true:=by decide
 have h2:inB (l.length:Int) 0 200=true:=by unfold inB;simp;omega
 simp[h1,cF,cR,cT,Ka,BR,h2,inB]
 omega
def L6 (a b:Int):Int:=if a<b then -1 else if b<a then 1 else 0
def ME (a b:ByteArray):Int:=if Jj a b then -1 else if a.toList==b.toList then 0 else 1
def orI (a b:Int):Int:=if a=0 then b else a
def Kf:List ByteArray→List ByteArray→Int
 | [],[]=>0
 | [],_::_=>-1
 |_::_,[]=>1
 |a::as,b::bs=>orI (ME a b) (Kf as bs)
mutual
def V.cmp:V→V→Int
 | .mk k n t ks vs,b=>if k=b.kind then orI (L6 n b.num) (orI (ME t b.text) (orI (Kf ks b.keys) (LH vs b.kids))) else L6 k b.kind
def LH:List V→List V→Int
 | [],[]=>0
 | [],_::_=>-1
 |_::_,[]=>1
 |a::as,b::bs=>orI (a.cmp b) (LH as bs)
end
theorem UG (a b:V):a.cmp b=if a.kind=b.kind then orI (L6 a.num b.num) (orI (ME a.text b.text) (orI (Kf a.keys b.keys) (LH a.kids b.kids))) else L6 a.kind b.kind:=by cases a;rfl
theorem WE (a:Int):orI 0 a=a:=rfl
theorem U8 (a:Int):orI a 0=a:=by unfold orI;split<;>simp_all
theorem Qk (a b c:Int):orI (orI a b) c=orI a (orI b c):=by
 unfold orI
 by_cases h:a=0<;>simp[h]
theorem XV {a:Int}(h:a≠0) (b:Int):orI a b=a:=if_neg h
theorem Of {a b:Int}:orI a b=0↔a=0∧b=0:=by
 unfold orI
 split
 ·rename_i h;simp[h]
 ·rename_i h;simp[h]
theorem Tq {a b:Int}:L6 a b=0↔a=b:=by
 unfold L6
 repeat' split
 all_goals omega
theorem Tp {a b:ByteArray}:ME a b=0↔a=b:=by
 unfold ME
 constructor
 ·intro h
  split at h
  ·cases h
  ·split at h
   ·rename_i h2
    exact K3 (by simpa using h2)
   ·cases h
 ·rintro rfl
  rw[Ko]
  simp
theorem PC:∀{a b:List ByteArray},Kf a b=0↔a=b
 | [],[]=>by simp[Kf]
 | [],_::_=>by simp[Kf]
 |_::_,[]=>by simp[Kf]
 |a::as,b::bs=>by
  unfold Kf
  rw[Of,Tp,PC]
  simp
mutual
theorem Vw:∀{a b:V},a.cmp b=0↔a=b
 | .mk k n t ks vs,.mk k' n' t' ks' vs'=>by
  have hv:=@RB vs vs'
  by_cases h:k=k'
  ·have e:(V.mk k n t ks vs).cmp (.mk k' n' t' ks' vs')=orI (L6 n n') (orI (ME t t') (orI (Kf ks ks') (LH vs vs'))):=by
    rw[UG]
    exact if_pos h
   rw[e,Of,Of,Of,Tq,Tp,PC,hv]
   simp[h]
  ·have e:(V.mk k n t ks vs).cmp (.mk k' n' t' ks' vs')=L6 k k':=by
    rw[UG]
    exact if_neg h
   rw[e,Tq]
   simp[h]
theorem RB:∀{a b:List V},LH a b=0↔a=b
 | [],[]=>by simp[LH]
 | [],_::_=>by simp[LH]
 |_::_,[]=>by simp[LH]
 |a::as,b::bs=>by
  unfold LH
  rw[Of,Vw,RB]
  simp
end
theorem Xe {a b:List V}{i:Nat}(h1:i<a.length) (h2:i<b.length):LH (a.drop i) (b.drop i)=orI (a[i].cmp b[i]) (LH (a.drop (i+1)) (b.drop (i+1))):=by
 rw[List.drop_eq_getElem_cons h1,List.drop_eq_getElem_cons h2]
 rfl
theorem Zr {a b:List V}{i:Nat}(h1:i≤a.length) (h2:i≤b.length) (h:¬(i<a.length∧i<b.length)):LH (a.drop i) (b.drop i)=L6 a.length b.length:=by
 by_cases ha:i<a.length
 ·have hb:i=b.length:=by omega
  rw[List.drop_eq_getElem_cons ha,List.drop_eq_nil_of_le (as:=b) (by omega)]
  simp only[LH,L6]
  rw[if_neg (by omega),if_pos (by omega)]
 ·rw[List.drop_eq_nil_of_le (as:=a) (by omega)]
  by_cases hb:i<b.length
  ·rw[List.drop_eq_getElem_cons hb]
   simp only[LH,L6]
   rw[if_pos (by omega)]
  ·rw[List.drop_eq_nil_of_le (as:=b) (by omega)]
   simp only[LH,L6]
   rw[if_neg (by omega),if_neg (by omega)]
theorem UF {a b:List ByteArray}{i:Nat}(h1:i<a.length) (h2:i<b.length):Kf (a.drop i) (b.drop i)=orI (ME a[i] b[i]) (Kf (a.drop (i+1)) (b.drop (i+1))):=by
 rw[List.drop_eq_getElem_cons h1,List.drop_eq_getElem_cons h2]
 rfl
theorem QC {a b:List ByteArray}{i:Nat}(h1:i≤a.length) (h2:i≤b.length) (h:¬(i<a.length∧i<b.length)):Kf (a.drop i) (b.drop i)=L6 a.length b.length:=by
 by_cases ha:i<a.length
 ·have hb:i=b.length:=by omega
  rw[List.drop_eq_getElem_cons ha,List.drop_eq_nil_of_le (as:=b) (by omega)]
  simp only[Kf,L6]
  rw[if_neg (by omega),if_pos (by omega)]
 ·rw[List.drop_eq_nil_of_le (as:=a) (by omega)]
  by_cases hb:i<b.length
  ·rw[List.drop_eq_getElem_cons hb]
   simp only[Kf,L6]
   rw[if_pos (by omega)]
  ·rw[List.drop_eq_nil_of_le (as:=b) (by omega)]
   simp only[Kf,L6]
   rw[if_neg (by omega),if_neg (by omega)]
theorem KB {t:V}(h:t.wf):0≤t.kind∧t.kind≤6∧(t.kind≠3→t.num=0)∧(t.kind≠4→t.text=ByteArray.empty)∧(t.kind≠6→t.keys=[])∧(t.kind≠5→t.kind≠6→t.kids=[]):=by
 obtain⟨k,n,s,ks,vs⟩:=t
 simp only[V.wf]at h
 obtain⟨h1,h2,_⟩:=h
 simp only[V.kind,V.num,V.text,V.keys,V.kids]
 unfold Ew at h1
 split at h1
 ·exact absurd h1 (by decide)
 ·rename_i hk
  split at h1
  ·exact absurd h1 (by decide)
  ·rename_i hf
   unfold cF at hf
   unfold inB at hk
   unfold BR at hf
   simp only[Bool.not_eq_true',Bool.not_eq_false,Bool.and_eq_true,decide_eq_true_eq,Bool.or_eq_true,not_or,not_and,bne_iff_ne,ne_eq,Bool.not_eq_true,beq_eq_false_iff_ne]at hk hf
   obtain⟨⟨f1,f2⟩,f3⟩:=hf
   refine⟨hk.1,hk.2,fun h=>?_,fun h=>?_,fun h=>?_,fun h5 h6=>?_⟩
   ·by_cases hn:n=0
    ·exact hn
    ·exact absurd (f1 hn) (by simpa using h)
   ·by_cases hs:s.toList=[]
    ·exact RS hs
    ·have:=f2 (by simpa using hs)
     exact absurd this (by simpa using h)
   ·unfold II at h2
    rw[if_neg h]at h2
    exact h2
   ·by_cases hn:(vs.length:Int)=0
    ·exact List.eq_nil_of_length_eq_zero (by omega)
    ·have:=f3 hn
     simp[h5,h6]at this
theorem MR (a b:Int):-1≤L6 a b∧L6 a b≤1:=by
 unfold L6
 repeat' split
 all_goals omega
theorem P9 (a b:ByteArray):-1≤ME a b∧ME a b≤1:=by
 unfold ME
 repeat' split
 all_goals omega
theorem LW {a b:Int}(h1:-1≤a∧a≤1) (h2:-1≤b∧b≤1):-1≤orI a b∧orI a b≤1:=by unfold orI;split<;>assumption
theorem Nd:∀(a b:List ByteArray),-1≤Kf a b∧Kf a b≤1
 | [],[]=>by simp[Kf]
 | [],_::_=>by simp[Kf]
 |_::_,[]=>by simp[Kf]
 |a::as,b::bs=>LW (P9 a b) (Nd as bs)
mutual
theorem Tr:∀(a b:V),-1≤a.cmp b∧a.cmp b≤1
 | .mk k n t ks vs,b=>by
  unfold V.cmp
  split
  ·exact LW (MR _ _) (LW (P9 _ _) (LW (Nd _ _) (QD _ _)))
  ·exact MR _ _
theorem QD:∀(a b:List V),-1≤LH a b∧LH a b≤1
 | [],[]=>by simp[LH]
 | [],_::_=>by simp[LH]
 |_::_,[]=>by simp[LH]
 |a::as,b::bs=>LW (Tr a b) (QD as bs)
end
theorem VX {ks:List ByteArray}(hs:asc none ks) {i:Nat}(hi:i<ks.length):HM ks ks[i]=some i:=by
 rw[RW hs (key:=ks[i]) (Nat.le_of_lt hi) (fun t h=>Md hs h hi) (fun t h hp=>?_),dif_pos hi,if_pos (by simp)]
 by_cases he:t=i
 ·subst he
  exact Ko _
 ·have h1:Jj ks[i] ks[t]=true:=Md hs (by omega) h
  cases h2:Jj ks[t] ks[i] with
  |false=>rfl
  |true =>
   have:=Lt h1 h2
   rw[Ko]at this
   cases this
theorem ZD {t:V}(h:t.right) {i:Nat}(hi:i<t.kids.length):S1 t (t.keyV i)=okR t.kids[i]:=by
 obtain⟨_,_,_,_,_,hk⟩:=KB h.1
 unfold V.keyV
 split
 ·rename_i h6
  obtain⟨hasc,_,hl⟩:=KL h h6
  obtain⟨hk',he⟩:=Mj (Lc h) h6 hi
  show S1 t (Jp (t.keyAt i))=_
  have e1:S1 t (Jp (t.keyAt i))=KG t (t.keyAt i):=rfl
  rw[e1]
  unfold KG
  rw[if_neg (by omega),if_pos h6]
  unfold V.member
  rw[he,VX hasc hk']
  simp only[List.getD_eq_getElem?_getD,List.getElem?_eq_getElem hi,Option.getD_some]
 ·rename_i h6
  have h5:t.kind=5:=by
   by_cases h5:t.kind=5
   ·exact h5
   ·rw[hk h5 h6]at hi
    simp at hi
  have e1:S1 t (L2 i)=UQ t i:=rfl
  rw[e1]
  have e2:BY (i:Int) t.kids.length=i:=by unfold BY;rw[if_neg (by omega)]
  unfold UQ
  rw[if_neg (by omega),if_pos h5,e2,if_pos ⟨by omega,by omega⟩,Int.toNat_natCast,List.getD_eq_getElem?_getD,List.getElem?_eq_getElem hi,Option.getD_some]
theorem SH (key:Nat→V) (ahead:List V):∀(ks:List V) (i:Nat) (p:List V×V),p∈La key i ks ahead→∃(j:Nat) (hj:j<ks.length),p∈ks[j].paths (ahead++[key (i+j)])
 | [],_,p,h=>by simp[La]at h
 |k::ks,i,p,h=>by
  simp only[La,List.mem_append]at h
  rcases h with h | h
  ·exact⟨0,by simp,by simpa using h⟩
  ·obtain⟨j,hj,hp⟩:=SH key ahead ks (i+1) p h
   refine⟨j+1,by simpa using hj,?_⟩
   rw[show i+(j+1)=i+1+j by omega]
   simpa using hp
theorem WM:∀(m:Nat) (t:V) (ahead:List V),t.count≤m→t.right→∀p∈t.paths ahead,∃rel,p.1=ahead++rel∧O4 t rel=okR p.2∧(∀k∈rel,k.right)∧rel.length<t.depth∧p.2.right
 | 0,t,_,hm,_=>by have:=K8 t;omega
 |m+1,t,ahead,hm,ht=>by
  intro p hp
  rw[PU]at hp
  rcases List.mem_cons.1 hp with rfl | hp
  ·exact⟨[],by simp,rfl,by simp,by rw[L8];simp,ht⟩
  ·obtain⟨j,hj,hp⟩:=SH _ _ _ _ _ hp
   rw[Nat.zero_add]at hp
   have hmem:=List.getElem_mem hj
   have hc:=K7 hmem
   have hck:=K4 t
   have hd:=Kp hmem
   have hdk:=L8 t
   obtain⟨rel,h1,h2,h3,h4,h5⟩:=WM m t.kids[j] (ahead++[t.keyV j]) (by omega) (K1 ht hmem) p hp
   refine⟨t.keyV j::rel,by rw[h1];simp,?_,fun k hk=>?_,by simp only[List.length_cons];omega,h5⟩
   ·unfold O4
    rw[ZD ht hj]
    exact h2
   ·rcases List.mem_cons.1 hk with rfl | hk
    ·exact (QS (YM ht hj)).1
    ·exact h3 k hk
theorem a11 {t:V}(ht:t.right) {p:List V×V}(hp:p∈t.paths []):O4 t p.1=okR p.2∧(∀k∈p.1,k.right)∧p.1.length≤20∧p.2.right:=by
 obtain⟨rel,h1,h2,h3,h4,h5⟩:=WM t.count t [] (Nat.le_refl _) ht p hp
 have h1':p.1=rel:=by simpa using h1
 rw[h1']
 exact⟨h2,h3,by have:=ht.2.2;omega,h5⟩
def IH (l:List ByteArray) (k:ByteArray):Bool:=l.any fun x=>x.toList==k.toList
theorem L9 {l:List ByteArray}{k:ByteArray}:IH l k=true↔k∈l:=by
 unfold IH
 rw[List.any_eq_true]
 constructor
 ·rintro⟨x,hx,h⟩
  have:x=k:=K3 (by simpa using h)
  rw[←this];exact hx
 ·intro h
  exact⟨k,h,by simp⟩
def GZ (k:ByteArray):List ByteArray→List ByteArray
 | []=>[k]
 |x::r=>if Jj k x then k::x::r else if k.toList==x.toList then x::r else x::GZ k r
def FQ (keys:List ByteArray):List ByteArray:=keys.foldl (fun l k=>GZ k l) []
def Up (l:List ByteArray):Prop:=l.Pairwise fun a b=>Jj a b=true
theorem NJ (k:ByteArray):∀(l:List ByteArray) (x:ByteArray),x∈GZ k l↔x=k∨x∈l
 | [],x=>by simp[GZ]
 |y::r,x=>by
  unfold GZ
  split
  ·simp
  ·split
   ·rename_i h
    have:k=y:=K3 (by simpa using h)
    subst this
    simp
   ·rw[List.mem_cons,NJ k r x,List.mem_cons]
    constructor
    ·rintro (h | h | h)
     ·exact .inr (.inl h)
     ·exact .inl h
     ·exact .inr (.inr h)
    ·rintro (h | h | h)
     ·exact .inr (.inl h)
     ·exact .inl h
     ·exact .inr (.inr h)
theorem TS (a b:ByteArray):Jj a b=true∨a=b∨Jj b a=true:=by
 rcases LG a.toList b.toList with h | h | h
 ·exact .inl h
 ·exact .inr (.inl (K3 h))
 ·exact .inr (.inr h)
theorem TL (k:ByteArray):∀{l:List ByteArray},Up l→Up (GZ k l)
 | [],_=>by simp[GZ,Up]
 |y::r,h=>by
  unfold Up at h
  rw[List.pairwise_cons]at h
  unfold GZ
  split
  ·rename_i hl
   refine List.pairwise_cons.2 ⟨fun x hx=>?_,List.pairwise_cons.2 h⟩
   rcases List.mem_cons.1 hx with rfl | hx
   ·exact hl
   ·exact Lt hl (h.1 x hx)
  ·rename_i hl
   split
   ·exact List.pairwise_cons.2 h
   ·rename_i he
    refine List.pairwise_cons.2 ⟨fun x hx=>?_,TL k h.2⟩
    rcases (NJ k r x).1 hx with rfl | hx
    ·rcases TS x y with g | g | g
     ·exact absurd g hl
     ·subst g;exact absurd (by simp) he
     ·exact g
    ·exact h.1 x hx
theorem Zg:∀{a b:List ByteArray},Up a→Up b→(∀x,x∈a↔x∈b)→a=b
 | [],[],_,_,_=>rfl
 | [],y::b,_,_,h=>absurd ((h y).2 (by simp)) (by simp)
 |x::a,[],_,_,h=>absurd ((h x).1 (by simp)) (by simp)
 |x::a,y::b,h1,h2,h=>by
  unfold Up at h1 h2
  rw[List.pairwise_cons]at h1 h2
  have no:∀{u v:ByteArray},Jj u v=true→Jj v u=true→False:=fun g1 g2=>by
   have:=Lt g1 g2
   rw[Ko]at this
   cases this
  have hxy:x=y:=by
   rcases List.mem_cons.1 ((h x).1 (by simp)) with e | hx
   ·exact e
   ·rcases List.mem_cons.1 ((h y).2 (by simp)) with e | hy
    ·exact e.symm
    ·exact (no (h1.1 y hy) (h2.1 x hx)).elim
  subst hxy
  congr 1
  refine Zg h1.2 h2.2 fun z=>?_
  constructor
  ·intro hz
   rcases List.mem_cons.1 ((h z).1 (by simp[hz])) with e | hz'
   ·subst e;exact (no (h1.1 z hz) (h1.1 z hz)).elim
   ·exact hz'
  ·intro hz
   rcases List.mem_cons.1 ((h z).2 (by simp[hz])) with e | hz'
   ·subst e;exact (no (h2.1 z hz) (h2.1 z hz)).elim
   ·exact hz'
theorem YH (keys:List ByteArray):∀(l:List ByteArray),Up l→Up (keys.foldl (fun l k=>GZ k l) l)∧∀x,x∈keys.foldl (fun l k=>GZ k l) l↔x∈keys∨x∈l:=by
 induction keys with
 |nil=>intro l h;exact⟨h,fun x=>by simp⟩
 |cons k r ih =>
  intro l h
  obtain⟨h1,h2⟩:=ih (GZ k l) (TL k h)
  refine⟨h1,fun x=>?_⟩
  rw[List.foldl_cons,h2,NJ,List.mem_cons]
  constructor
  ·rintro (h | h | h)
   ·exact .inl (.inr h)
   ·exact .inl (.inl h)
   ·exact .inr h
  ·rintro ((h | h) | h)
   ·exact .inr (.inl h)
   ·exact .inl h
   ·exact .inr (.inr h)
theorem LR (keys:List ByteArray):Up (FQ keys):=(YH keys [] (by simp[Up])).1
theorem Kv {keys:List ByteArray}{x:ByteArray}:x∈FQ keys↔x∈keys:=by
 unfold FQ
 rw[(YH keys [] (by simp[Up])).2]
 simp
theorem Sc (k:ByteArray):∀(l:List ByteArray),(GZ k l).length≤l.length+1
 | []=>by simp[GZ]
 |x::r=>by
  unfold GZ
  split
  ·simp
  ·split
   ·simp
   ·have:=Sc k r
    simp only[List.length_cons]
    omega
theorem Oe (keys:List ByteArray):(FQ keys).length≤keys.length:=by
 have key:∀(keys l:List ByteArray),(keys.foldl (fun l k=>GZ k l) l).length≤keys.length+l.length:=by
  intro keys
  induction keys with
  |nil=>intro l;simp
  |cons k r ih =>
   intro l
   have h1:=ih (GZ k l)
   have h2:=Sc k l
   rw[List.foldl_cons,List.length_cons]
   omega
 have:=key keys []
 unfold FQ
 simpa using this
def FM:List ByteArray→List V→ByteArray→V
 |_::ks,v::vs,x=>if IH ks x then FM ks vs x else v
 |_,_,_=>Dq
theorem Ml:∀{keys:List ByteArray}{kids:List V}{x:ByteArray},keys.length=kids.length→x∈keys→∃j:Nat,keys[j]? = some x∧(∀n:Nat,j<n→keys[n]?≠some x)∧kids[j]? = some (FM keys kids x)
 | [],_,x,_,h=>absurd h (by simp)
 |k::ks,[],x,h,_=>absurd h (by simp)
 |k::ks,v::vs,x,hl,hx=>by
  have hl':ks.length=vs.length:=by simpa using hl
  unfold FM
  cases hk:IH ks x with
  |true =>
   obtain⟨j,h1,h2,h3⟩:=Ml hl' (L9.1 hk)
   refine⟨j+1,by simpa using h1,fun n hn=>?_,by simpa using h3⟩
   cases n with
   |zero=>omega
   |succ n=>simpa using h2 n (by omega)
  |false =>
   have hnx:x ∉ ks:=fun h=>by rw[L9.2 h]at hk;cases hk
   have hxk:x=k:=by
    rcases List.mem_cons.1 hx with e | e
    ·exact e
    ·exact absurd e hnx
   subst hxk
   refine⟨0,rfl,fun n hn=>?_,by simp⟩
   cases n with
   |zero=>omega
   |succ n =>
    intro hc
    exact hnx (List.mem_of_getElem? (by simpa using hc))
def Jm (keys:List ByteArray) (kids:List V):V:=.mk 6 0 ByteArray.empty (FQ keys) ((FQ keys).map (FM keys kids))
def Pu (keys vis:List ByteArray):Nat:=(keys.filter fun k=>!IH vis k).length
theorem X1 {keys vis:List ByteArray}{k:ByteArray}(hk:k∈keys) (hv:k ∉ vis):Pu keys (vis++[k])<Pu keys vis:=by
 unfold Pu
 have key:∀(l:List ByteArray),(l.filter fun x=>!IH (vis++[k]) x).length≤(l.filter fun x=>!IH vis x).length∧(k∈l→(l.filter fun x=>!IH (vis++[k]) x).length<(l.filter fun x=>!IH vis x).length):=by
  intro l
  induction l with
  |nil=>simp
  |cons x r ih =>
   have himp:IH vis x=true→IH (vis++[k]) x=true:=fun h=>L9.2 (by simp[L9.1 h])
   rw[List.filter_cons,List.filter_cons]
   cases h1:IH vis x with
   |true =>
    rw[himp h1]
    simp only[Bool.not_true,Bool.false_eq_true,if_false]
    refine⟨ih.1,fun hm=>?_⟩
    rcases List.mem_cons.1 hm with e | e
    ·subst e;exact absurd (L9.1 h1) hv
    ·exact ih.2 e
   |false =>
    simp only[Bool.not_false,if_true,List.length_cons]
    cases h2:IH (vis++[k]) x with
    |true =>
     simp only[Bool.not_true,Bool.false_eq_true,if_false]
     exact⟨by omega,fun _=>by omega⟩
    |false =>
     simp only[Bool.not_false,if_true,List.length_cons]
     refine⟨by omega,fun hm=>?_⟩
     rcases List.mem_cons.1 hm with e | e
     ·subst e
      rw[L9.2 (by simp)]at h2
      cases h2
     ·have:=ih.2 e;omega
 exact (key keys).2 hk
theorem Yk (keys:List ByteArray):Pu keys []=keys.length:=by
 unfold Pu
 congr 1
 exact List.filter_eq_self.2 fun x _=>by simp[IH]
def NA (l:List ByteArray):List ByteArray:=((l.map fun b=>b.data.toList).mergeSort fun x y=>decide (x≤y)).map fun x=>⟨x.toArray⟩
mutual
def V.fit:V→Prop
 | .mk kind _ text keys kids=>text.size≤200∧(∀k∈keys,k.size≤60)∧(BR kind=false→kids=[])∧(kind=6→keys.length=kids.length)∧(kind≠6→keys=[])∧Jh kids
def Jh:List V→Prop
 | []=>True
 |k::ks=>k.fit∧Jh ks
end
theorem RX:∀{l:List V},Jh l↔∀v∈l,v.fit
 | []=>by simp[Jh]
 |v::l=>by simp only[Jh,List.mem_cons,forall_eq_or_imp,RX (l:=l)]
theorem MJ {s:ByteArray}(h:Fr s=true):s.size≤60:=by
 unfold Fr at h
 simp only[Bool.and_eq_true,decide_eq_true_eq]at h
 exact h.1
mutual
theorem Xp:∀(t:V),t.wf→t.fit
 | .mk kind num text keys kids,h=>by
  have hn:=V0 _ h
  obtain⟨h1,h2,h3⟩:=h
  have ht:=(Ov (c:=⟨kind,num,text,ByteArray.empty,kids.length⟩) h1).1
  unfold II at h2
  refine⟨Nat.le_trans (MJ ht) (by decide),fun k hk=>?_,hn.1,hn.2.1,fun h6=>?_,YF kids h3⟩
  ·by_cases h6:kind=6
   ·rw[if_pos h6]at h2
    exact MJ (h2.2.1 k hk)
   ·rw[if_neg h6]at h2
    rw[h2]at hk
    simp at hk
  ·rw[if_neg h6]at h2
   exact h2
theorem YF:∀(l:List V),wfL l→Jh l
 | [],_=>trivial
 |v::l,h=>⟨Xp v h.1,YF l h.2⟩
end
mutual
theorem VY:∀(t:V),t.fit→t.neat
 | .mk kind num text keys kids,h=>⟨h.2.2.1,h.2.2.2.1,Tz kids h.2.2.2.2.2⟩
theorem Tz:∀(l:List V),Jh l→TY l
 | [],_=>trivial
 |v::l,h=>⟨VY v h.1,Tz l h.2⟩
end
mutual
theorem TA:∀(t:V) (key:ByteArray),t.fit→key.size≤60→∀c∈t.cells key,c.text.size≤200∧c.key.size≤60
 | .mk kind num text keys kids,key,h,hk,c,hc=>by
  rcases List.mem_cons.1 hc with rfl | hc
  ·exact⟨h.1,hk⟩
  ·exact RY kids kind keys h.2.1 h.2.2.2.2.2 c hc
theorem RY:∀(l:List V) (kind:Int) (keys:List ByteArray),(∀k∈keys,k.size≤60)→Jh l→∀c∈GP kind keys l,c.text.size≤200∧c.key.size≤60
 | [],_,_,_,_,c,hc=>by simp[GP]at hc
 |v::l,kind,keys,hk,h,c,hc=>by
  rcases List.mem_append.1 hc with hc | hc
  ·refine TA v _ h.1 ?_ c hc
   split
   ·cases keys with
    |nil=>exact Nat.zero_le _
    |cons k ks=>exact hk k (by simp)
   ·exact Nat.zero_le _
  ·exact RY l kind keys.tail (fun k hk'=>hk k (List.mem_of_mem_tail hk')) h.2 c hc
end
mutual
theorem Tm:∀(t t':V) (key key':ByteArray) (r r':List CellD),t.fit→t'.fit→t.cells key++r=t'.cells key'++r'→t=t'∧key=key'∧r=r'
 | .mk kind num text keys kids,.mk kind' num' text' keys' kids',key,key',r,r',h,h',he=>by
  simp only[V.cells,List.cons_append,List.cons.injEq,CellD.mk.injEq]at he
  obtain⟨⟨rfl,rfl,rfl,rfl,hl⟩,he⟩:=he
  obtain⟨rfl,rfl,rfl⟩:=P8 kids kids' kind keys keys' r r' (by omega) (fun h6=>⟨h.2.2.2.1 h6,h'.2.2.2.1 h6⟩) (fun h6=>⟨h.2.2.2.2.1 h6,h'.2.2.2.2.1 h6⟩) h.2.2.2.2.2 h'.2.2.2.2.2 he
  exact⟨rfl,rfl,rfl⟩
theorem P8:∀(l l':List V) (kind:Int) (keys keys':List ByteArray) (r r':List CellD),l.length=l'.length→(kind=6→keys.length=l.length∧keys'.length=l'.length)→(kind≠6→keys=[]∧keys'=[])→Jh l→Jh l'→GP kind keys l++r=GP kind keys' l'++r'→keys=keys'∧l=l'∧r=r'
 | [],[],kind,keys,keys',r,r',_,h6,hn,_,_,he=>by
  by_cases h:kind=6
  ·have:=h6 h
   exact⟨by rw[List.eq_nil_of_length_eq_zero this.1,List.eq_nil_of_length_eq_zero this.2],rfl,he⟩
  ·exact⟨by rw[(hn h).1,(hn h).2],rfl,he⟩
 | [],_::_,_,_,_,_,_,hl,_,_,_,_,_=>by simp at hl
 |_::_,[],_,_,_,_,_,hl,_,_,_,_,_=>by simp at hl
 |v::l,v'::l',kind,keys,keys',r,r',hl,h6,hn,h,h',he=>by
  simp only[GP,List.append_assoc]at he
  obtain⟨rfl,hk,he⟩:=Tm v v' _ _ _ _ h.1 h'.1 he
  by_cases hk6:kind=6
  ·obtain⟨q1,q2⟩:=h6 hk6
   cases keys with
   |nil=>simp at q1
   |cons k ks=>cases keys' with
    |nil=>simp at q2
    |cons k' ks' =>
     rw[if_pos hk6,if_pos hk6]at hk
     have hk':k=k':=hk
     subst hk'
     obtain⟨rfl,rfl,rfl⟩:=P8 l l' kind ks ks' r r' (by simpa using hl) (fun _=>⟨by simpa using q1,by simpa using q2⟩) (fun e=>absurd hk6 e) h.2 h'.2 he
     exact⟨rfl,rfl,rfl⟩
  ·obtain⟨rfl,rfl⟩:=hn hk6
   obtain⟨_,rfl,rfl⟩:=P8 l l' kind [] [] r r' (by simpa using hl) (fun e=>absurd e hk6) (fun _=>⟨rfl,rfl⟩) h.2 h'.2 he
   exact⟨rfl,rfl,rfl⟩
end
theorem a3o {t:V}(h:t.fit) (h0:(dec t.enc).1=0):t.right:=by
 rcases Lx t.enc with⟨u,hu⟩ | ⟨c,hc,hd⟩
 ·obtain⟨h1,h2,h3,h4⟩:=Pb hu
  obtain⟨rfl,_,_⟩:=Tm t u ByteArray.empty ByteArray.empty [] [] h (Xp u h2) (by rw[List.append_nil,List.append_nil];exact h1)
  exact⟨h2,h3,h4⟩
 ·rw[hd]at h0
  exact absurd h0 hc
theorem TB {t:V}(h:t.fit):∀c∈t.enc,c.text.size≤9223372036854775807∧c.key.size≤9223372036854775807:=fun c hc=>by
 have:=TA t ByteArray.empty h (Nat.zero_le _) c hc
 omega
theorem Nq {t:V}(h:t.right):t.fit:=Xp t h.1
def Ij (t:V):Int×Option V:=if (dec t.enc).1=0 then (0,some t) else ((dec t.enc).1,none)
def a1g (ks:List ByteArray) (vs:List V) (k:ByteArray):V:=match HM ks k with
 |some i=>vs.getD i Dq
 |none=>Dq
theorem a4z {ks:List ByteArray}(h:asc none ks):Up ks:=by
 unfold Up
 rw[List.pairwise_iff_getElem]
 intro i j hi hj hij
 exact Md h hij hj
theorem Vn {ks:List ByteArray}(h:Up ks) {i j:Nat}{x:ByteArray}(hi:ks[i]? = some x) (hj:ks[j]? = some x):i=j:=by
 unfold Up at h
 rw[List.pairwise_iff_getElem]at h
 obtain⟨h1,e1⟩:=List.getElem?_eq_some_iff.1 hi
 obtain⟨h2,e2⟩:=List.getElem?_eq_some_iff.1 hj
 rcases Nat.lt_trichotomy i j with g | g | g
 ·have:=h i j h1 h2 g
  rw[e1,e2,Ko]at this
  cases this
 ·exact g
 ·have:=h j i h2 h1 g
  rw[e1,e2,Ko]at this
  cases this
theorem a3y {ks:List ByteArray}{vs:List V}(h:Up ks) {i:Nat}{x:ByteArray}{v:V}(hi:ks[i]? = some x) (hv:vs[i]? = some v):a1g ks vs x=v:=by
 unfold a1g
 cases hf:HM ks x with
 |none=>exact absurd (List.mem_of_getElem? hi) (UO hf)
 |some j =>
  obtain⟨h1,h2,_⟩:=NH hf
  have:j=i:=Vn h (List.getElem?_eq_some_iff.2 ⟨h1,h2⟩) hi
  subst this
  simp only
  rw[List.getD_eq_getElem?_getD,hv,Option.getD_some]
theorem ZT {ks:List ByteArray}{vs:List V}{x:ByteArray}(h:x ∉ ks):a1g ks vs x=Dq:=by
 unfold a1g
 cases hf:HM ks x with
 |none=>rfl
 |some j =>
  obtain⟨h1,h2,_⟩:=NH hf
  exact absurd (h2▸List.getElem_mem h1) h
theorem a0t {a:V}(h:a.fit):∀k∈a.keys,k.size≤60:=by cases a;exact h.2.1
theorem Pa (a b:List V):GR (a++b)=GR a+GR b:=by
 induction a with
 |nil=>simp[GR]
 |cons x a ih=>simp only[List.cons_append,GR,ih];omega
theorem TM {g g':ByteArray→V}{k:ByteArray}:∀{l:List ByteArray},Up l→(∀x∈l,x≠k→g' x=g x)→GR ((GZ k l).map g')≤GR (l.map g)+(g' k).count
 | [],_,_=>by simp[GZ,GR]
 |x::r,hu,h=>by
  unfold Up at hu
  rw[List.pairwise_cons]at hu
  have hne:∀{u v:ByteArray},Jj u v=true→v≠u:=fun hl e=>by subst e;rw[Ko]at hl;cases hl
  unfold GZ
  split
  ·rename_i hl
   have e:(x::r).map g'=(x::r).map g:=List.map_congr_left fun y hy=>h y hy (by
    rcases List.mem_cons.1 hy with rfl | hy
    ·exact hne hl
    ·exact hne (Lt hl (hu.1 y hy)))
   rw[List.map_cons,GR,e]
   omega
  ·split
   ·rename_i he
    have hx:k=x:=K3 (by simpa using he)
    have e:r.map g'=r.map g:=List.map_congr_left fun y hy=>h y (by simp[hy]) (by rw[hx];exact hne (hu.1 y hy))
    rw[List.map_cons,List.map_cons,GR,GR,e,←hx]
    omega
   ·rename_i he
    have hx:x≠k:=fun e=>he (by rw[e];simp)
    have:=TM (g:=g) (g':=g') (k:=k) hu.2 fun y hy=>h y (by simp[hy])
    rw[List.map_cons,List.map_cons,GR,GR,h x (by simp) hx]
    omega
theorem Lz:∀{ks:List ByteArray}{vs:List V}{k:ByteArray}{v:V}{x:ByteArray},ks.length=vs.length→(x=k∨x∈ks)→FM (ks++[k]) (vs++[v]) x=if x=k then v else FM ks vs x
 | [],[],k,v,x,_,hx=>by
  have hxk:x=k:=by simpa using hx
  rw[if_pos hxk]
  simp[FM,IH]
 | [],_::_,_,_,_,h,_=>by simp at h
 |_::_,[],_,_,_,h,_=>by simp at h
 |k0::ks,v0::vs,k,v,x,h,hx=>by
  have hl:ks.length=vs.length:=by simpa using h
  simp only[List.cons_append,FM]
  have hh:IH (ks++[k]) x=true↔x∈ks∨x=k:=by rw[L9];simp
  by_cases hxk:x=k
  ·rw[if_pos hxk,if_pos (hh.2 (.inr hxk)),Lz hl (.inl hxk),if_pos hxk]
  ·rw[if_neg hxk]
   by_cases hm:x∈ks
   ·rw[if_pos (hh.2 (.inl hm)),if_pos (L9.2 hm),Lz hl (.inr hm),if_neg hxk]
   ·rw[if_neg (fun hc=>(hh.1 hc).elim hm hxk),if_neg (fun hc=>hm (L9.1 hc))]
theorem PP (ks:List ByteArray) (k:ByteArray):FQ (ks++[k])=GZ k (FQ ks):=by
 unfold FQ
 rw[List.foldl_append]
 rfl
theorem N0:∀(n:Nat) (ks:List ByteArray) (vs:List V),ks.length=n→vs.length=n→GR ((FQ ks).map (FM ks vs))≤GR vs
 | 0,ks,vs,h1,h2=>by
  rw[List.eq_nil_of_length_eq_zero h1]
  simp[FQ,GR]
 |n+1,ks,vs,h1,h2=>by
  rcases List.eq_nil_or_concat ks with rfl | ⟨ks',k,rfl⟩
  ·simp at h1
  ·rcases List.eq_nil_or_concat vs with rfl | ⟨vs',v,rfl⟩
   ·simp at h2
   ·simp only[List.concat_eq_append,List.length_append,List.length_singleton]at h1 h2 ⊢
    have hl:ks'.length=vs'.length:=by omega
    have ih:=N0 n ks' vs' (by omega) (by omega)
    rw[PP,Pa]
    have hins:=TM (g:=FM ks' vs') (g':=FM (ks'++[k]) (vs'++[v])) (k:=k) (LR ks') fun x hx hne=>by
     rw[Lz hl (.inr (Kv.1 hx)),if_neg hne]
    rw[Lz hl (.inl rfl),if_pos rfl]at hins
    simp only[GR]
    omega
theorem QP (a:V) (k:ByteArray):a.member k=a1g a.keys a.kids k:=rfl
end Go.Proofs.YtllfmaflodbieaaGreatDoor
