/- Texts of this proof: M08 M09 M10 M15 M16 M18 M19. -/
import Derived.Test.YtcejfdfmgmcinaaGreatKM1
set_option linter.all false
namespace Go.Proofs.YtcejfdfmgmcinaaGreat
open Go.RowKit
def V.right (t:V):Prop:=t.wf∧t.count≤200∧t.depth≤20
theorem AM {a b:ByteArray}(h:a.toList=b.toList):a=b:=by
 rw[ByteArray.toList_eq,ByteArray.toList_eq]at h
 cases a;cases b
 simp at h
 rw[h]
theorem Bb {t:V}(h:t.right) {k:V}(hk:k∈t.kids):k.right:=by
 obtain⟨h1,h2,h3⟩:=h
 have h4:=CL hk
 have h5:=AP t
 have h6:=K7 hk
 have h7:=K8 t
 exact⟨S7 (Xe h1) k hk,by omega,by omega⟩
theorem CP:BD.right:=by
 refine⟨?_,by decide,by decide⟩
 refine⟨?_,?_,trivial⟩
 ·decide +kernel
 ·simp[EQ]
theorem Kr {t:V}(h:t.right):t.neat:=Rt t h.1
theorem Jo {t:V}(h:t.right):dec t.enc=(0,some t):=WE h.1 h.2.1 h.2.2
def Fh (keys:List ByteArray) (key:ByteArray):Option Nat:=keys.findIdx? fun k=>k.toList==key.toList
def V.member (t:V) (key:ByteArray):V:=match Fh t.keys key with
 |some i=>t.kids.getD i BD
 |none=>BD
theorem R6 {keys:List ByteArray}{key:ByteArray}{i:Nat}(h:Fh keys key=some i):∃hi:i<keys.length,keys[i]=key∧∀j (hj:j<i),keys[j]'(by omega)≠key:=by
 unfold Fh at h
 rw[List.findIdx?_eq_some_iff_getElem]at h
 obtain⟨h1,h2,h3⟩:=h
 refine⟨h1,AM (by simpa using h2),fun j hj he=>?_⟩
 have:=h3 j hj
 rw[he]at this
 simp at this
theorem Vq {t:V}(hn:t.neat) (h6:t.kind=6) (key:ByteArray):t.member key=BD∨t.member key∈t.kids:=by
 unfold V.member
 split
 ·rename_i i hi
  obtain⟨h1,_⟩:=R6 hi
  have:=Q2 hn h6
  right
  rw[List.getD_eq_getElem?_getD,List.getElem?_eq_getElem (by omega),Option.getD_some]
  exact List.getElem_mem _
 ·exact .inl rfl
theorem Lq {t:V}(h:t.right) (h6:t.kind=6) (key:ByteArray):(t.member key).right:=by
 rcases Vq (Kr h) h6 key with e | e
 ·rw[e];exact CP
 ·exact Bb h e
def okR (t:V):Int×Option V:=(0,some t)
def Eo (c:Int):Int×Option V:=(c,none)
def Cg (t:V) (key:ByteArray):Int×Option V:=if t.kind=0 then okR BD else if t.kind=6 then okR (t.member key) else Eo 6
def CZ (n:Int) (many:Nat):Int:=if n<0 then n+many else n
def BN (t:V) (n:Int):Int×Option V :=
 if t.kind=0 then okR BD else if t.kind=5 then okR (if 0≤CZ n t.kids.length∧CZ n t.kids.length<t.kids.length then t.kids.getD (CZ n t.kids.length).toNat BD else BD) else Eo 6
def Cu (t k:V):Int×Option V:=if k.kind=4 then Cg t k.text else if k.kind=3 then BN t k.num else Eo 6
def CH (r:Int×Option V):Prop:=match r.2 with
 |some t=>r.1=0∧t.right
 |none=>r.1≠0
theorem BT {t:V}(h:t.right):CH (okR t):=⟨rfl,h⟩
theorem BJ {c:Int}(h:c≠0):CH (Eo c):=h
theorem XV {t:V}(h:t.right) (key:ByteArray):CH (Cg t key):=by
 unfold Cg
 split
 ·exact BT CP
 ·split
  ·rename_i h6
   exact BT (Lq h h6 key)
  ·exact BJ (by decide)
theorem XT {t:V}(h:t.right) (n:Int):CH (BN t n):=by
 unfold BN
 split
 ·exact BT CP
 ·split
  ·refine BT ?_
   split
   ·rename_i hr
    rw[List.getD_eq_getElem?_getD,List.getElem?_eq_getElem (by omega),Option.getD_some]
    exact Bb h (List.getElem_mem _)
   ·exact CP
  ·exact BJ (by decide)
theorem L4 {t:V}(h:t.right) (k:V):CH (Cu t k):=by
 unfold Cu
 split
 ·exact XV h _
 ·split
  ·exact XT h _
  ·exact BJ (by decide)
def AZ (a b:ByteArray):Bool:=Op.bytesLess a.toList b.toList
theorem Bz:∀(l:List UInt8),Op.bytesLess l l=false
 | []=>rfl
 |x::l=>by simp[Op.bytesLess,Bz l]
theorem Ct:∀{a b c:List UInt8},Op.bytesLess a b=true→Op.bytesLess b c=true→Op.bytesLess a c=true
 | [],_,c::cs,h1,h2=>rfl
 | [],b,[],h1,h2=>by cases b<;>simp[Op.bytesLess]at h1 h2
 |x::a,[],_,h1,_=>by simp[Op.bytesLess]at h1
 |x::a,y::b,[],_,h2=>by simp[Op.bytesLess]at h2
 |x::a,y::b,z::c,h1,h2=>by
  simp only[Op.bytesLess,Bool.or_eq_true,decide_eq_true_eq,Bool.and_eq_true,beq_iff_eq]at h1 h2 ⊢
  rcases h1 with h1 | ⟨rfl,h1⟩
  ·rcases h2 with h2 | ⟨rfl,h2⟩
   ·exact .inl (UInt8.lt_trans h1 h2)
   ·exact .inl h1
  ·rcases h2 with h2 | ⟨rfl,h2⟩
   ·exact .inl h2
   ·exact .inr ⟨rfl,Ct h1 h2⟩
theorem DF:∀(a b:List UInt8),Op.bytesLess a b=true∨a=b∨Op.bytesLess b a=true
 | [],[]=>.inr (.inl rfl)
 | [],_::_=>.inl rfl
 |_::_,[]=>.inr (.inr rfl)
 |x::a,y::b=>by
  simp only[Op.bytesLess,Bool.or_eq_true,decide_eq_true_eq,Bool.and_eq_true,beq_iff_eq]
  by_cases hxy:x<y
  ·exact .inl (.inl hxy)
  ·by_cases hyx:y<x
   ·exact .inr (.inr (.inl hyx))
   ·have:x=y:=by
     apply UInt8.toNat_inj.1
     have h1:¬x.toNat<y.toNat:=fun h=>hxy (UInt8.lt_iff_toNat_lt.2 h)
     have h2:¬y.toNat<x.toNat:=fun h=>hyx (UInt8.lt_iff_toNat_lt.2 h)
     omega
    subst this
    rcases DF a b with h | rfl | h
    ·exact .inl (.inr ⟨rfl,h⟩)
    ·exact .inr (.inl rfl)
    ·exact .inr (.inr (.inr ⟨rfl,h⟩))
theorem Ey {a b c:ByteArray}(h1:AZ a b=true) (h2:AZ b c=true):AZ a c=true:=Ct h1 h2
theorem CC (a:ByteArray):AZ a a=false:=Bz _
theorem Sb:∀{ks:List ByteArray}{p:ByteArray},asc (some p) ks→∀{i:Nat}(hi:i<ks.length),AZ p ks[i]=true
 | [],_,_,i,hi=>by simp at hi
 |k::ks,p,h,0,_=>h.1
 |k::ks,p,h,i+1,hi=>by
  have:=Sb h.2 (i:=i) (by simpa using hi)
  simp only[List.getElem_cons_succ]
  exact Ey h.1 this
theorem JX:∀{ks:List ByteArray}{o:Option ByteArray},asc o ks→∀{i j:Nat}(hij:i<j) (hj:j<ks.length),AZ (ks[i]'(by omega)) ks[j]=true
 | [],_,_,i,j,_,hj=>by simp at hj
 |k::ks,o,h,0,j+1,_,hj=>by
  have h':asc (some k) ks:=by
   cases o with
   |none=>exact h
   |some p=>exact h.2
  simp only[List.getElem_cons_zero,List.getElem_cons_succ]
  exact Sb h' (by simpa using hj)
 |k::ks,o,h,i+1,j+1,hij,hj=>by
  have h':asc (some k) ks:=by
   cases o with
   |none=>exact h
   |some p=>exact h.2
  simp only[List.getElem_cons_succ]
  exact JX h' (by omega) (by simpa using hj)
theorem UI {ks:List ByteArray}{key:ByteArray}(hs:asc none ks) {p:Nat}(hp:p≤ks.length) (h1:∀t (h:t<p),AZ (ks[t]'(by omega)) key=true) (h2:∀t (h:t<ks.length),p≤t→AZ ks[t] key=false) :
  Fh ks key=if h:p<ks.length then (if ks[p].toList==key.toList then some p else none) else none:=by
 have none_of:(∀t (h:t<ks.length),ks[t].toList≠key.toList)→Fh ks key=none:=by
  intro h
  unfold Fh
  rw[List.findIdx?_eq_none_iff]
  intro x hx
  obtain⟨t,ht,rfl⟩:=List.getElem_of_mem hx
  simpa using h t ht
 have low:∀t (h:t<ks.length),t<p→ks[t].toList≠key.toList:=by
  intro t h htp he
  have h3:=h1 t htp
  unfold AZ at h3
  rw[he,Bz]at h3
  cases h3
 by_cases hlt:p<ks.length
 ·rw[dif_pos hlt]
  by_cases he:(ks[p].toList==key.toList)=true
  ·rw[if_pos he]
   unfold Fh
   rw[List.findIdx?_eq_some_iff_getElem]
   exact⟨hlt,he,fun j hj=>by simpa using low j (by omega) hj⟩
  ·rw[if_neg he]
   refine none_of fun t ht=>?_
   by_cases htp:t<p
   ·exact low t ht htp
   ·by_cases hpt:t=p
    ·subst hpt;simpa using he
    ·intro hk
     have h3:=JX hs (i:=p) (j:=t) (by omega) ht
     have h4:=h2 p hlt (Nat.le_refl _)
     unfold AZ at h3 h4
     rw[hk]at h3
     rw[h3]at h4
     cases h4
 ·rw[dif_neg hlt]
  exact none_of fun t ht=>low t ht (by omega)
theorem DI {t:V}(h:t.right) (h6:t.kind=6):asc none t.keys∧(∀k∈t.keys,Bi k=true)∧t.keys.length=t.kids.length:=by
 obtain⟨hw,_,_⟩:=h
 cases t
 simp only[V.wf,EQ]at hw
 simp only[V.kind]at h6
 rw[if_pos h6]at hw
 exact⟨hw.2.1.2.2,hw.2.1.2.1,hw.2.1.1⟩
def a3q (q:V):Prop:=(∃s,q=D9 s∧Bi s=true)∨∃n:Int,q=C6 n∧0≤n∧n≤200
theorem Tx {q:V}(h:a3q q):q.right∧q.count=1∧q.depth=1:=by
 rcases h with⟨s,rfl,hs⟩ | ⟨n,rfl,h1,h2⟩
 ·refine⟨⟨⟨?_,?_,trivial⟩,by simp[D9,V.count,Aw],by simp[D9,V.depth,AW]⟩,rfl,rfl⟩
  ·unfold AS
   have h1:inB 4 0 6=true:=by decide
   simp[h1,cF,cR,cT,hs,BA,inB]
  ·simp[EQ]
 ·refine⟨⟨⟨?_,?_,trivial⟩,by simp[C6,V.count,Aw],by simp[C6,V.depth,AW]⟩,rfl,rfl⟩
  ·unfold AS
   have h3:inB 3 0 6=true:=by decide
   have h4:inB n (-1000000000000000) 1000000000000000=true:=by unfold inB;simp;omega
   simp[h3,cF,cR,cT,BA,h4,inB]
   omega
  ·simp[EQ]
theorem Un {l:List V}(h:wfL l) (hl:l.length≤200):(AY l).wf:=by
 refine⟨?_,by simp[EQ],h⟩
 unfold AS
 have h1:inB 5 0 6=true:=by decide
 have h2:inB (l.length:Int) 0 200=true:=by unfold inB;simp;omega
 simp[h1,cF,cR,cT,BA,CG,h2,inB]
 omega
def Cc (a b:Int):Int:=if a<b then -1 else if b<a then 1 else 0
def CW (a b:ByteArray):Int:=if AZ a b then -1 else if a.toList==b.toList then 0 else 1
def orI (a b:Int):Int:=if a=0 then b else a
def AI:List ByteArray→List ByteArray→Int
 | [],[]=>0
 | [],_::_=>-1
 |_::_,[]=>1
 |a::as,b::bs=>orI (CW a b) (AI as bs)
mutual
def V.cmp:V→V→Int
 | .mk k n t ks vs,b=>if k=b.kind then orI (Cc n b.num) (orI (CW t b.text) (orI (AI ks b.keys) (BQ vs b.kids))) else Cc k b.kind
def BQ:List V→List V→Int
 | [],[]=>0
 | [],_::_=>-1
 |_::_,[]=>1
 |a::as,b::bs=>orI (a.cmp b) (BQ as bs)
end
theorem G7 (a b:V):a.cmp b=if a.kind=b.kind then orI (Cc a.num b.num) (orI (CW a.text b.text) (orI (AI a.keys b.keys) (BQ a.kids b.kids))) else Cc a.kind b.kind:=by cases a;rfl
theorem Hf (a:Int):orI 0 a=a:=rfl
theorem Jn (a:Int):orI a 0=a:=by unfold orI;split<;>simp_all
theorem LU (a b c:Int):orI (orI a b) c=orI a (orI b c):=by
 unfold orI
 by_cases h:a=0<;>simp[h]
theorem Ko {a:Int}(h:a≠0) (b:Int):orI a b=a:=if_neg h
theorem IX {a b:Int}:orI a b=0↔a=0∧b=0:=by
 unfold orI
 split
 ·rename_i h;simp[h]
 ·rename_i h;simp[h]
theorem Ja {a b:Int}:Cc a b=0↔a=b:=by
 unfold Cc
 repeat' split
 all_goals omega
theorem H1 (a:Int):Cc a a=0:=Ja.2 rfl
theorem H0 {a b:ByteArray}:CW a b=0↔a=b:=by
 unfold CW
 constructor
 ·intro h
  split at h
  ·cases h
  ·split at h
   ·rename_i h2
    exact AM (by simpa using h2)
   ·cases h
 ·rintro rfl
  rw[CC]
  simp
theorem J9 (a:ByteArray):CW a a=0:=H0.2 rfl
theorem HJ:∀{a b:List ByteArray},AI a b=0↔a=b
 | [],[]=>by simp[AI]
 | [],_::_=>by simp[AI]
 |_::_,[]=>by simp[AI]
 |a::as,b::bs=>by
  unfold AI
  rw[IX,H0,HJ]
  simp
theorem FI (a:List ByteArray):AI a a=0:=HJ.2 rfl
mutual
theorem IC:∀{a b:V},a.cmp b=0↔a=b
 | .mk k n t ks vs,.mk k' n' t' ks' vs'=>by
  have hv:=@Nf vs vs'
  by_cases h:k=k'
  ·have e:(V.mk k n t ks vs).cmp (.mk k' n' t' ks' vs')=orI (Cc n n') (orI (CW t t') (orI (AI ks ks') (BQ vs vs'))):=by
    rw[G7]
    exact if_pos h
   rw[e,IX,IX,IX,Ja,H0,HJ,hv]
   simp[h]
  ·have e:(V.mk k n t ks vs).cmp (.mk k' n' t' ks' vs')=Cc k k':=by
    rw[G7]
    exact if_neg h
   rw[e,Ja]
   simp[h]
theorem Nf:∀{a b:List V},BQ a b=0↔a=b
 | [],[]=>by simp[BQ]
 | [],_::_=>by simp[BQ]
 |_::_,[]=>by simp[BQ]
 |a::as,b::bs=>by
  unfold BQ
  rw[IX,IC,Nf]
  simp
end
theorem Nc {a b:List V}{i:Nat}(h1:i<a.length) (h2:i<b.length):BQ (a.drop i) (b.drop i)=orI (a[i].cmp b[i]) (BQ (a.drop (i+1)) (b.drop (i+1))):=by
 rw[List.drop_eq_getElem_cons h1,List.drop_eq_getElem_cons h2]
 rfl
theorem Px {a b:List V}{i:Nat}(h1:i≤a.length) (h2:i≤b.length) (h:¬(i<a.length∧i<b.length)):BQ (a.drop i) (b.drop i)=Cc a.length b.length:=by
 by_cases ha:i<a.length
 ·have hb:i=b.length:=by omega
  rw[List.drop_eq_getElem_cons ha,List.drop_eq_nil_of_le (as:=b) (by omega)]
  simp only[BQ,Cc]
  rw[if_neg (by omega),if_pos (by omega)]
 ·rw[List.drop_eq_nil_of_le (as:=a) (by omega)]
  by_cases hb:i<b.length
  ·rw[List.drop_eq_getElem_cons hb]
   simp only[BQ,Cc]
   rw[if_pos (by omega)]
  ·rw[List.drop_eq_nil_of_le (as:=b) (by omega)]
   simp only[BQ,Cc]
   rw[if_neg (by omega),if_neg (by omega)]
theorem KF {a b:List ByteArray}{i:Nat}(h1:i<a.length) (h2:i<b.length):AI (a.drop i) (b.drop i)=orI (CW a[i] b[i]) (AI (a.drop (i+1)) (b.drop (i+1))):=by
 rw[List.drop_eq_getElem_cons h1,List.drop_eq_getElem_cons h2]
 rfl
theorem IA {a b:List ByteArray}{i:Nat}(h1:i≤a.length) (h2:i≤b.length) (h:¬(i<a.length∧i<b.length)):AI (a.drop i) (b.drop i)=Cc a.length b.length:=by
 by_cases ha:i<a.length
 ·have hb:i=b.length:=by omega
  rw[List.drop_eq_getElem_cons ha,List.drop_eq_nil_of_le (as:=b) (by omega)]
  simp only[AI,Cc]
  rw[if_neg (by omega),if_pos (by omega)]
 ·rw[List.drop_eq_nil_of_le (as:=a) (by omega)]
  by_cases hb:i<b.length
  ·rw[List.drop_eq_getElem_cons hb]
   simp only[AI,Cc]
   rw[if_pos (by omega)]
  ·rw[List.drop_eq_nil_of_le (as:=b) (by omega)]
   simp only[AI,Cc]
   rw[if_neg (by omega),if_neg (by omega)]
theorem Ba {t:V}(h:t.wf):0≤t.kind∧t.kind≤6∧(t.kind≠3→t.num=0)∧(t.kind≠4→t.text=ByteArray.empty)∧(t.kind≠6→t.keys=[])∧(t.kind≠5→t.kind≠6→t.kids=[]):=by
 obtain⟨k,n,s,ks,vs⟩:=t
 simp only[V.wf]at h
 obtain⟨h1,h2,_⟩:=h
 simp only[V.kind,V.num,V.text,V.keys,V.kids]
 unfold AS at h1
 split at h1
 ·exact absurd h1 (by decide)
 ·rename_i hk
  split at h1
  ·exact absurd h1 (by decide)
  ·rename_i hf
   unfold cF at hf
   unfold inB at hk
   unfold CG at hf
   simp only[Bool.not_eq_true',Bool.not_eq_false,Bool.and_eq_true,decide_eq_true_eq,Bool.or_eq_true,not_or,not_and,bne_iff_ne,ne_eq,Bool.not_eq_true,beq_eq_false_iff_ne]at hk hf
   obtain⟨⟨f1,f2⟩,f3⟩:=hf
   refine⟨hk.1,hk.2,fun h=>?_,fun h=>?_,fun h=>?_,fun h5 h6=>?_⟩
   ·by_cases hn:n=0
    ·exact hn
    ·exact absurd (f1 hn) (by simpa using h)
   ·by_cases hs:s.toList=[]
    ·exact Nx hs
    ·have:=f2 (by simpa using hs)
     exact absurd this (by simpa using h)
   ·unfold EQ at h2
    rw[if_neg h]at h2
    exact h2
   ·by_cases hn:(vs.length:Int)=0
    ·exact List.eq_nil_of_length_eq_zero (by omega)
    ·have:=f3 hn
     simp[h5,h6]at this
theorem Xv {a b:V}(ha:a.wf) (hb:b.wf) (hk:a.kind=b.kind) (h3:a.kind≠3) (h4:a.kind≠4) (h5:a.kind≠5) (h6:a.kind≠6):a.cmp b=0:=by
 obtain⟨_,_,a1,a2,a3,a4⟩:=Ba ha
 obtain⟨_,_,b1,b2,b3,b4⟩:=Ba hb
 rw[←hk]at b1 b2 b3 b4
 rw[G7,if_pos hk,a1 h3,b1 h3,a2 h4,b2 h4,a3 h6,b3 h6,a4 h5 h6,b4 h5 h6,H1,J9,FI]
 rfl
theorem Uu {a b:V}(ha:a.wf) (hb:b.wf) (hk:a.kind=b.kind) (h3:a.kind=3):a.cmp b=Cc a.num b.num:=by
 obtain⟨_,_,a1,a2,a3,a4⟩:=Ba ha
 obtain⟨_,_,b1,b2,b3,b4⟩:=Ba hb
 rw[←hk]at b1 b2 b3 b4
 rw[G7,if_pos hk,a2 (by omega),b2 (by omega),a3 (by omega),b3 (by omega),a4 (by omega) (by omega),b4 (by omega) (by omega),J9,FI]
 exact Jn _
theorem ZI {a b:V}(ha:a.wf) (hb:b.wf) (hk:a.kind=b.kind) (h4:a.kind=4):a.cmp b=CW a.text b.text:=by
 obtain⟨_,_,a1,a2,a3,a4⟩:=Ba ha
 obtain⟨_,_,b1,b2,b3,b4⟩:=Ba hb
 rw[←hk]at b1 b2 b3 b4
 rw[G7,if_pos hk,a1 (by omega),b1 (by omega),a3 (by omega),b3 (by omega),a4 (by omega) (by omega),b4 (by omega) (by omega),H1,FI]
 exact Jn _
theorem Xu {a b:V}(ha:a.wf) (hb:b.wf) (hk:a.kind=b.kind) (h5:a.kind=5):a.cmp b=BQ a.kids b.kids:=by
 obtain⟨_,_,a1,a2,a3,a4⟩:=Ba ha
 obtain⟨_,_,b1,b2,b3,b4⟩:=Ba hb
 rw[←hk]at b1 b2 b3 b4
 rw[G7,if_pos hk,a1 (by omega),b1 (by omega),a2 (by omega),b2 (by omega),a3 (by omega),b3 (by omega),H1,J9,FI]
 rfl
theorem Uv {a b:V}(ha:a.wf) (hb:b.wf) (hk:a.kind=b.kind) (h6:a.kind=6):a.cmp b=orI (AI a.keys b.keys) (BQ a.kids b.kids):=by
 obtain⟨_,_,a1,a2,a3,a4⟩:=Ba ha
 obtain⟨_,_,b1,b2,b3,b4⟩:=Ba hb
 rw[←hk]at b1 b2 b3 b4
 rw[G7,if_pos hk,a1 (by omega),b1 (by omega),a2 (by omega),b2 (by omega),H1,J9]
 rfl
theorem G6 (a b:Int):-1≤Cc a b∧Cc a b≤1:=by
 unfold Cc
 repeat' split
 all_goals omega
theorem K3 (a b:ByteArray):-1≤CW a b∧CW a b≤1:=by
 unfold CW
 repeat' split
 all_goals omega
theorem EA {a b:Int}(h1:-1≤a∧a≤1) (h2:-1≤b∧b≤1):-1≤orI a b∧orI a b≤1:=by unfold orI;split<;>assumption
theorem GO:∀(a b:List ByteArray),-1≤AI a b∧AI a b≤1
 | [],[]=>by simp[AI]
 | [],_::_=>by simp[AI]
 |_::_,[]=>by simp[AI]
 |a::as,b::bs=>EA (K3 a b) (GO as bs)
mutual
theorem Py:∀(a b:V),-1≤a.cmp b∧a.cmp b≤1
 | .mk k n t ks vs,b=>by
  unfold V.cmp
  split
  ·exact EA (G6 _ _) (EA (K3 _ _) (EA (GO _ _) (Mb _ _)))
  ·exact G6 _ _
theorem Mb:∀(a b:List V),-1≤BQ a b∧BQ a b≤1
 | [],[]=>by simp[BQ]
 | [],_::_=>by simp[BQ]
 |_::_,[]=>by simp[BQ]
 |a::as,b::bs=>EA (Py a b) (Mb as bs)
end
theorem F5 {t:V}(h:t.right) (h6:t.kind=6):(List.range t.kids.length).map t.keyAt=t.keys:=by
 obtain⟨_,_,hl⟩:=DI h h6
 apply List.ext_getElem
 ·simp[hl]
 ·intro i h1 h2
  rw[List.getElem_map,List.getElem_range]
  obtain⟨_,he⟩:=PS (Kr h) h6 (i:=i) (by omega)
  exact he
def Ea (l:List ByteArray) (k:ByteArray):Bool:=l.any fun x=>x.toList==k.toList
theorem Dm {l:List ByteArray}{k:ByteArray}:Ea l k=true↔k∈l:=by
 unfold Ea
 rw[List.any_eq_true]
 constructor
 ·rintro⟨x,hx,h⟩
  have:x=k:=AM (by simpa using h)
  rw[←this];exact hx
 ·intro h
  exact⟨k,h,by simp⟩
def Cj (k:ByteArray):List ByteArray→List ByteArray
 | []=>[k]
 |x::r=>if AZ k x then k::x::r else if k.toList==x.toList then x::r else x::Cj k r
def C3 (keys:List ByteArray):List ByteArray:=keys.foldl (fun l k=>Cj k l) []
def Up (l:List ByteArray):Prop:=l.Pairwise fun a b=>AZ a b=true
theorem I1 (k:ByteArray):∀(l:List ByteArray) (x:ByteArray),x∈Cj k l↔x=k∨x∈l
 | [],x=>by simp[Cj]
 |y::r,x=>by
  unfold Cj
  split
  ·simp
  ·split
   ·rename_i h
    have:k=y:=AM (by simpa using h)
    subst this
    simp
   ·rw[List.mem_cons,I1 k r x,List.mem_cons]
    constructor
    ·rintro (h | h | h)
     ·exact .inr (.inl h)
     ·exact .inl h
     ·exact .inr (.inr h)
    ·rintro (h | h | h)
     ·exact .inr (.inl h)
     ·exact .inl h
     ·exact .inr (.inr h)
theorem PV (a b:ByteArray):AZ a b=true∨a=b∨AZ b a=true:=by
 rcases DF a.toList b.toList with h | h | h
 ·exact .inl h
 ·exact .inr (.inl (AM h))
 ·exact .inr (.inr h)
theorem PM (k:ByteArray):∀{l:List ByteArray},Up l→Up (Cj k l)
 | [],_=>by simp[Cj,Up]
 |y::r,h=>by
  unfold Up at h
  rw[List.pairwise_cons]at h
  unfold Cj
  split
  ·rename_i hl
   refine List.pairwise_cons.2 ⟨fun x hx=>?_,List.pairwise_cons.2 h⟩
   rcases List.mem_cons.1 hx with rfl | hx
   ·exact hl
   ·exact Ey hl (h.1 x hx)
  ·rename_i hl
   split
   ·exact List.pairwise_cons.2 h
   ·rename_i he
    refine List.pairwise_cons.2 ⟨fun x hx=>?_,PM k h.2⟩
    rcases (I1 k r x).1 hx with rfl | hx
    ·rcases PV x y with g | g | g
     ·exact absurd g hl
     ·subst g;exact absurd (by simp) he
     ·exact g
    ·exact h.1 x hx
theorem a3t:∀{a b:List ByteArray},Up a→Up b→(∀x,x∈a↔x∈b)→a=b
 | [],[],_,_,_=>rfl
 | [],y::b,_,_,h=>absurd ((h y).2 (by simp)) (by simp)
 |x::a,[],_,_,h=>absurd ((h x).1 (by simp)) (by simp)
 |x::a,y::b,h1,h2,h=>by
  unfold Up at h1 h2
  rw[List.pairwise_cons]at h1 h2
  have no:∀{u v:ByteArray},AZ u v=true→AZ v u=true→False:=fun g1 g2=>by
   have:=Ey g1 g2
   rw[CC]at this
   cases this
  have hxy:x=y:=by
   rcases List.mem_cons.1 ((h x).1 (by simp)) with e | hx
   ·exact e
   ·rcases List.mem_cons.1 ((h y).2 (by simp)) with e | hy
    ·exact e.symm
    ·exact (no (h1.1 y hy) (h2.1 x hx)).elim
  subst hxy
  congr 1
  refine a3t h1.2 h2.2 fun z=>?_
  constructor
  ·intro hz
   rcases List.mem_cons.1 ((h z).1 (by simp[hz])) with e | hz'
   ·subst e;exact (no (h1.1 z hz) (h1.1 z hz)).elim
   ·exact hz'
  ·intro hz
   rcases List.mem_cons.1 ((h z).2 (by simp[hz])) with e | hz'
   ·subst e;exact (no (h2.1 z hz) (h2.1 z hz)).elim
   ·exact hz'
theorem WJ (keys:List ByteArray):∀(l:List ByteArray),Up l→Up (keys.foldl (fun l k=>Cj k l) l)∧∀x,x∈keys.foldl (fun l k=>Cj k l) l↔x∈keys∨x∈l:=by
 induction keys with
 |nil=>intro l h;exact⟨h,fun x=>by simp⟩
 |cons k r ih =>
  intro l h
  obtain⟨h1,h2⟩:=ih (Cj k l) (PM k h)
  refine⟨h1,fun x=>?_⟩
  rw[List.foldl_cons,h2,I1,List.mem_cons]
  constructor
  ·rintro (h | h | h)
   ·exact .inl (.inr h)
   ·exact .inl (.inl h)
   ·exact .inr h
  ·rintro ((h | h) | h)
   ·exact .inr (.inl h)
   ·exact .inl h
   ·exact .inr (.inr h)
theorem Kn (keys:List ByteArray):Up (C3 keys):=(WJ keys [] (by simp[Up])).1
theorem Ez {keys:List ByteArray}{x:ByteArray}:x∈C3 keys↔x∈keys:=by
 unfold C3
 rw[(WJ keys [] (by simp[Up])).2]
 simp
theorem NJ (k:ByteArray):∀(l:List ByteArray),(Cj k l).length≤l.length+1
 | []=>by simp[Cj]
 |x::r=>by
  unfold Cj
  split
  ·simp
  ·split
   ·simp
   ·have:=NJ k r
    simp only[List.length_cons]
    omega
theorem My (keys:List ByteArray):(C3 keys).length≤keys.length:=by
 have key:∀(keys l:List ByteArray),(keys.foldl (fun l k=>Cj k l) l).length≤keys.length+l.length:=by
  intro keys
  induction keys with
  |nil=>intro l;simp
  |cons k r ih =>
   intro l
   have h1:=ih (Cj k l)
   have h2:=NJ k l
   rw[List.foldl_cons,List.length_cons]
   omega
 have:=key keys []
 unfold C3
 simpa using this
def Bp:List ByteArray→List V→ByteArray→V
 |_::ks,v::vs,x=>if Ea ks x then Bp ks vs x else v
 |_,_,_=>BD
theorem Kg:∀{keys:List ByteArray}{kids:List V}{x:ByteArray},keys.length=kids.length→x∈keys→∃j:Nat,keys[j]? = some x∧(∀n:Nat,j<n→keys[n]?≠some x)∧kids[j]? = some (Bp keys kids x)
 | [],_,x,_,h=>absurd h (by simp)
 |k::ks,[],x,h,_=>absurd h (by simp)
 |k::ks,v::vs,x,hl,hx=>by
  have hl':ks.length=vs.length:=by simpa using hl
  unfold Bp
  cases hk:Ea ks x with
  |true =>
   obtain⟨j,h1,h2,h3⟩:=Kg hl' (Dm.1 hk)
   refine⟨j+1,by simpa using h1,fun n hn=>?_,by simpa using h3⟩
   cases n with
   |zero=>omega
   |succ n=>simpa using h2 n (by omega)
  |false =>
   have hnx:x ∉ ks:=fun h=>by rw[Dm.2 h]at hk;cases hk
   have hxk:x=k:=by
    rcases List.mem_cons.1 hx with e | e
    ·exact e
    ·exact absurd e hnx
   subst hxk
   refine⟨0,rfl,fun n hn=>?_,by simp⟩
   cases n with
   |zero=>omega
   |succ n =>
    intro hc
    exact hnx (List.mem_of_getElem? (by simpa using hc))
def I9 (keys:List ByteArray) (kids:List V):V:=.mk 6 0 ByteArray.empty (C3 keys) ((C3 keys).map (Bp keys kids))
def Kw (keys vis:List ByteArray):Nat:=(keys.filter fun k=>!Ea vis k).length
theorem U7 {keys vis:List ByteArray}{k:ByteArray}(hk:k∈keys) (hv:k ∉ vis):Kw keys (vis++[k])<Kw keys vis:=by
 unfold Kw
 have key:∀(l:List ByteArray),(l.filter fun x=>!Ea (vis++[k]) x).length≤(l.filter fun x=>!Ea vis x).length∧(k∈l→(l.filter fun x=>!Ea (vis++[k]) x).length<(l.filter fun x=>!Ea vis x).length):=by
  intro l
  induction l with
  |nil=>simp
  |cons x r ih =>
   have himp:Ea vis x=true→Ea (vis++[k]) x=true:=fun h=>Dm.2 (by simp[Dm.1 h])
   rw[List.filter_cons,List.filter_cons]
   cases h1:Ea vis x with
   |true =>
    rw[himp h1]
    simp only[Bool.not_true,Bool.false_eq_true,if_false]
    refine⟨ih.1,fun hm=>?_⟩
    rcases List.mem_cons.1 hm with e | e
    ·subst e;exact absurd (Dm.1 h1) hv
    ·exact ih.2 e
   |false =>
    simp only[Bool.not_false,if_true,List.length_cons]
    cases h2:Ea (vis++[k]) x with
    |true =>
     simp only[Bool.not_true,Bool.false_eq_true,if_false]
     exact⟨by omega,fun _=>by omega⟩
    |false =>
     simp only[Bool.not_false,if_true,List.length_cons]
     refine⟨by omega,fun hm=>?_⟩
     rcases List.mem_cons.1 hm with e | e
     ·subst e
      rw[Dm.2 (by simp)]at h2
      cases h2
     ·have:=ih.2 e;omega
 exact (key keys).2 hk
theorem Wm (keys:List ByteArray):Kw keys []=keys.length:=by
 unfold Kw
 congr 1
 exact List.filter_eq_self.2 fun x _=>by simp[Ea]
def Hj (l:List ByteArray):List ByteArray:=((l.map fun b=>b.data.toList).mergeSort fun x y=>decide (x≤y)).map fun x=>⟨x.toArray⟩
mutual
def V.fit:V→Prop
 | .mk kind _ text keys kids=>text.size≤200∧(∀k∈keys,k.size≤60)∧(CG kind=false→kids=[])∧(kind=6→keys.length=kids.length)∧(kind≠6→keys=[])∧OU kids
def OU:List V→Prop
 | []=>True
 |k::ks=>k.fit∧OU ks
end
theorem NC:∀{l:List V},OU l↔∀v∈l,v.fit
 | []=>by simp[OU]
 |v::l=>by simp only[OU,List.mem_cons,forall_eq_or_imp,NC (l:=l)]
theorem Hc {s:ByteArray}(h:Bi s=true):s.size≤60:=by
 unfold Bi at h
 simp only[Bool.and_eq_true,decide_eq_true_eq]at h
 exact h.1
mutual
theorem UK:∀(t:V),t.wf→t.fit
 | .mk kind num text keys kids,h=>by
  have hn:=Rt _ h
  obtain⟨h1,h2,h3⟩:=h
  have ht:=(Jb (c:=⟨kind,num,text,ByteArray.empty,kids.length⟩) h1).1
  unfold EQ at h2
  refine⟨Nat.le_trans (Hc ht) (by decide),fun k hk=>?_,hn.1,hn.2.1,fun h6=>?_,WI kids h3⟩
  ·by_cases h6:kind=6
   ·rw[if_pos h6]at h2
    exact Hc (h2.2.1 k hk)
   ·rw[if_neg h6]at h2
    rw[h2]at hk
    simp at hk
  ·rw[if_neg h6]at h2
   exact h2
theorem WI:∀(l:List V),wfL l→OU l
 | [],_=>trivial
 |v::l,h=>⟨UK v h.1,WI l h.2⟩
end
mutual
theorem NE:∀(t:V),t.fit→t.neat
 | .mk kind num text keys kids,h=>⟨h.2.2.1,h.2.2.2.1,PF kids h.2.2.2.2.2⟩
theorem PF:∀(l:List V),OU l→Q0 l
 | [],_=>trivial
 |v::l,h=>⟨NE v h.1,PF l h.2⟩
end
mutual
theorem PG:∀(t:V) (key:ByteArray),t.fit→key.size≤60→∀c∈t.cells key,c.text.size≤200∧c.key.size≤60
 | .mk kind num text keys kids,key,h,hk,c,hc=>by
  rcases List.mem_cons.1 hc with rfl | hc
  ·exact⟨h.1,hk⟩
  ·exact ND kids kind keys h.2.1 h.2.2.2.2.2 c hc
theorem ND:∀(l:List V) (kind:Int) (keys:List ByteArray),(∀k∈keys,k.size≤60)→OU l→∀c∈C2 kind keys l,c.text.size≤200∧c.key.size≤60
 | [],_,_,_,_,c,hc=>by simp[C2]at hc
 |v::l,kind,keys,hk,h,c,hc=>by
  rcases List.mem_append.1 hc with hc | hc
  ·refine PG v _ h.1 ?_ c hc
   split
   ·cases keys with
    |nil=>exact Nat.zero_le _
    |cons k ks=>exact hk k (by simp)
   ·exact Nat.zero_le _
  ·exact ND l kind keys.tail (fun k hk'=>hk k (List.mem_of_mem_tail hk')) h.2 c hc
end
mutual
theorem Pt:∀(t t':V) (key key':ByteArray) (r r':List CellD),t.fit→t'.fit→t.cells key++r=t'.cells key'++r'→t=t'∧key=key'∧r=r'
 | .mk kind num text keys kids,.mk kind' num' text' keys' kids',key,key',r,r',h,h',he=>by
  simp only[V.cells,List.cons_append,List.cons.injEq,CellD.mk.injEq]at he
  obtain⟨⟨rfl,rfl,rfl,rfl,hl⟩,he⟩:=he
  obtain⟨rfl,rfl,rfl⟩:=K2 kids kids' kind keys keys' r r' (by omega) (fun h6=>⟨h.2.2.2.1 h6,h'.2.2.2.1 h6⟩) (fun h6=>⟨h.2.2.2.2.1 h6,h'.2.2.2.2.1 h6⟩) h.2.2.2.2.2 h'.2.2.2.2.2 he
  exact⟨rfl,rfl,rfl⟩
theorem K2:∀(l l':List V) (kind:Int) (keys keys':List ByteArray) (r r':List CellD),l.length=l'.length→(kind=6→keys.length=l.length∧keys'.length=l'.length)→(kind≠6→keys=[]∧keys'=[])→OU l→OU l'→C2 kind keys l++r=C2 kind keys' l'++r'→keys=keys'∧l=l'∧r=r'
 | [],[],kind,keys,keys',r,r',_,h6,hn,_,_,he=>by
  by_cases h:kind=6
  ·have:=h6 h
   exact⟨by rw[List.eq_nil_of_length_eq_zero this.1,List.eq_nil_of_length_eq_zero this.2],rfl,he⟩
  ·exact⟨by rw[(hn h).1,(hn h).2],rfl,he⟩
 | [],_::_,_,_,_,_,_,hl,_,_,_,_,_=>by simp at hl
 |_::_,[],_,_,_,_,_,hl,_,_,_,_,_=>by simp at hl
 |v::l,v'::l',kind,keys,keys',r,r',hl,h6,hn,h,h',he=>by
  simp only[C2,List.append_assoc]at he
  obtain⟨rfl,hk,he⟩:=Pt v v' _ _ _ _ h.1 h'.1 he
  by_cases hk6:kind=6
  ·obtain⟨q1,q2⟩:=h6 hk6
   cases keys with
   |nil=>simp at q1
   |cons k ks=>cases keys' with
    |nil=>simp at q2
    |cons k' ks' =>
     rw[if_pos hk6,if_pos hk6]at hk
     have hk':k=k':=hk
     subst hk'
     obtain⟨rfl,rfl,rfl⟩:=K2 l l' kind ks ks' r r' (by simpa using hl) (fun _=>⟨by simpa using q1,by simpa using q2⟩) (fun e=>absurd hk6 e) h.2 h'.2 he
     exact⟨rfl,rfl,rfl⟩
  ·obtain⟨rfl,rfl⟩:=hn hk6
   obtain⟨_,rfl,rfl⟩:=K2 l l' kind [] [] r r' (by simpa using hl) (fun e=>absurd e hk6) (fun _=>⟨rfl,rfl⟩) h.2 h'.2 he
   exact⟨rfl,rfl,rfl⟩
end
theorem a18 {t:V}(h:t.fit) (h0:(dec t.enc).1=0):t.right:=by
 rcases H4 t.enc with⟨u,hu⟩ | ⟨c,hc,hd⟩
 ·obtain⟨h1,h2,h3,h4⟩:=Uz hu
  obtain⟨rfl,_,_⟩:=Pt t u ByteArray.empty ByteArray.empty [] [] h (UK u h2) (by rw[List.append_nil,List.append_nil];exact h1)
  exact⟨h2,h3,h4⟩
 ·rw[hd]at h0
  exact absurd h0 hc
theorem Jf {t:V}(h:t.fit):∀c∈t.enc,c.text.size≤9223372036854775807∧c.key.size≤9223372036854775807:=fun c hc=>by
 have:=PG t ByteArray.empty h (Nat.zero_le _) c hc
 omega
theorem Cd {t:V}(h:t.right):t.fit:=UK t h.1
def Co (t:V):Int×Option V:=if (dec t.enc).1=0 then (0,some t) else ((dec t.enc).1,none)
theorem a5m {ks:List ByteArray}(h:Up ks) {i j:Nat}{x:ByteArray}(hi:ks[i]? = some x) (hj:ks[j]? = some x):i=j:=by
 unfold Up at h
 rw[List.pairwise_iff_getElem]at h
 obtain⟨h1,e1⟩:=List.getElem?_eq_some_iff.1 hi
 obtain⟨h2,e2⟩:=List.getElem?_eq_some_iff.1 hj
 rcases Nat.lt_trichotomy i j with g | g | g
 ·have:=h i j h1 h2 g
  rw[e1,e2,CC]at this
  cases this
 ·exact g
 ·have:=h j i h2 h1 g
  rw[e1,e2,CC]at this
  cases this
theorem ZX {a:V}(h:a.fit):∀k∈a.keys,k.size≤60:=by cases a;exact h.2.1
theorem HL (a b:List V):Aw (a++b)=Aw a+Aw b:=by
 induction a with
 |nil=>simp[Aw]
 |cons x a ih=>simp only[List.cons_append,Aw,ih];omega
theorem PN {g g':ByteArray→V}{k:ByteArray}:∀{l:List ByteArray},Up l→(∀x∈l,x≠k→g' x=g x)→Aw ((Cj k l).map g')≤Aw (l.map g)+(g' k).count
 | [],_,_=>by simp[Cj,Aw]
 |x::r,hu,h=>by
  unfold Up at hu
  rw[List.pairwise_cons]at hu
  have hne:∀{u v:ByteArray},AZ u v=true→v≠u:=fun hl e=>by subst e;rw[CC]at hl;cases hl
  unfold Cj
  split
  ·rename_i hl
   have e:(x::r).map g'=(x::r).map g:=List.map_congr_left fun y hy=>h y hy (by
    rcases List.mem_cons.1 hy with rfl | hy
    ·exact hne hl
    ·exact hne (Ey hl (hu.1 y hy)))
   rw[List.map_cons,Aw,e]
   omega
  ·split
   ·rename_i he
    have hx:k=x:=AM (by simpa using he)
    have e:r.map g'=r.map g:=List.map_congr_left fun y hy=>h y (by simp[hy]) (by rw[hx];exact hne (hu.1 y hy))
    rw[List.map_cons,List.map_cons,Aw,Aw,e,←hx]
    omega
   ·rename_i he
    have hx:x≠k:=fun e=>he (by rw[e];simp)
    have:=PN (g:=g) (g':=g') (k:=k) hu.2 fun y hy=>h y (by simp[hy])
    rw[List.map_cons,List.map_cons,Aw,Aw,h x (by simp) hx]
    omega
theorem ES:∀{ks:List ByteArray}{vs:List V}{k:ByteArray}{v:V}{x:ByteArray},ks.length=vs.length→(x=k∨x∈ks)→Bp (ks++[k]) (vs++[v]) x=if x=k then v else Bp ks vs x
 | [],[],k,v,x,_,hx=>by
  have hxk:x=k:=by simpa using hx
  rw[if_pos hxk]
  simp[Bp,Ea]
 | [],_::_,_,_,_,h,_=>by simp at h
 |_::_,[],_,_,_,h,_=>by simp at h
 |k0::ks,v0::vs,k,v,x,h,hx=>by
  have hl:ks.length=vs.length:=by simpa using h
  simp only[List.cons_append,Bp]
  have hh:Ea (ks++[k]) x=true↔x∈ks∨x=k:=by rw[Dm];simp
  by_cases hxk:x=k
  ·rw[if_pos hxk,if_pos (hh.2 (.inr hxk)),ES hl (.inl hxk),if_pos hxk]
  ·rw[if_neg hxk]
   by_cases hm:x∈ks
   ·rw[if_pos (hh.2 (.inl hm)),if_pos (Dm.2 hm),ES hl (.inr hm),if_neg hxk]
   ·rw[if_neg (fun hc=>(hh.1 hc).elim hm hxk),if_neg (fun hc=>hm (Dm.1 hc))]
theorem Lo (ks:List ByteArray) (k:ByteArray):C3 (ks++[k])=Cj k (C3 ks):=by
 unfold C3
 rw[List.foldl_append]
 rfl
theorem Ia:∀(n:Nat) (ks:List ByteArray) (vs:List V),ks.length=n→vs.length=n→Aw ((C3 ks).map (Bp ks vs))≤Aw vs
 | 0,ks,vs,h1,h2=>by
  rw[List.eq_nil_of_length_eq_zero h1]
  simp[C3,Aw]
 |n+1,ks,vs,h1,h2=>by
  rcases List.eq_nil_or_concat ks with rfl | ⟨ks',k,rfl⟩
  ·simp at h1
  ·rcases List.eq_nil_or_concat vs with rfl | ⟨vs',v,rfl⟩
   ·simp at h2
   ·simp only[List.concat_eq_append,List.length_append,List.length_singleton]at h1 h2 ⊢
    have hl:ks'.length=vs'.length:=by omega
    have ih:=Ia n ks' vs' (by omega) (by omega)
    rw[Lo,HL]
    have hins:=PN (g:=Bp ks' vs') (g':=Bp (ks'++[k]) (vs'++[v])) (k:=k) (Kn ks') fun x hx hne=>by
     rw[ES hl (.inr (Ez.1 hx)),if_neg hne]
    rw[ES hl (.inl rfl),if_pos rfl]at hins
    simp only[Aw]
    omega
end Go.Proofs.YtcejfdfmgmcinaaGreat
