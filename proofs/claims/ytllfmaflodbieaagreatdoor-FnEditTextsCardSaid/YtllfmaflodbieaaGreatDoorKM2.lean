/- Texts of this proof: M08 M09 M10 M15 M16 M18 M19. -/
import Derived.Test.YtllfmaflodbieaaGreatDoorKM1
set_option linter.all false
namespace Go.Proofs.YtllfmaflodbieaaGreatDoor
open Go.RowKit
def V.right (t:V):Prop:=t.wf∧t.count≤200∧t.depth≤20
theorem Ay {a b:ByteArray}(h:a.toList=b.toList):a=b:=by
 rw[ByteArray.toList_eq,ByteArray.toList_eq]at h
 cases a;cases b
 simp at h
 rw[h]
theorem AQ {t:V}(h:t.right) {k:V}(hk:k∈t.kids):k.right:=by
 obtain⟨h1,h2,h3⟩:=h
 have h4:=BB hk
 have h5:=AK t
 have h6:=CP hk
 have h7:=FT t
 exact⟨N0 (Xd h1) k hk,by omega,by omega⟩
theorem Dl:BA.right:=by
 refine⟨?_,by decide,by decide⟩
 refine⟨?_,?_,trivial⟩
 ·decide +kernel
 ·simp[E0]
theorem Gc {t:V}(h:t.right):t.neat:=Rn t h.1
theorem Cz {t:V}(h:t.right):dec t.enc=(0,some t):=Wv h.1 h.2.1 h.2.2
def B3 (keys:List ByteArray) (key:ByteArray):Option Nat:=keys.findIdx? fun k=>k.toList==key.toList
def V.member (t:V) (key:ByteArray):V:=match B3 t.keys key with
 |some i=>t.kids.getD i BA
 |none=>BA
theorem Dh {keys:List ByteArray}{key:ByteArray}{i:Nat}(h:B3 keys key=some i):∃hi:i<keys.length,keys[i]=key∧∀j (hj:j<i),keys[j]'(by omega)≠key:=by
 unfold B3 at h
 rw[List.findIdx?_eq_some_iff_getElem]at h
 obtain⟨h1,h2,h3⟩:=h
 refine⟨h1,Ay (by simpa using h2),fun j hj he=>?_⟩
 have:=h3 j hj
 rw[he]at this
 simp at this
theorem Vt {t:V}(hn:t.neat) (h6:t.kind=6) (key:ByteArray):t.member key=BA∨t.member key∈t.kids:=by
 unfold V.member
 split
 ·rename_i i hi
  obtain⟨h1,_⟩:=Dh hi
  have:=Q0 hn h6
  right
  rw[List.getD_eq_getElem?_getD,List.getElem?_eq_getElem (by omega),Option.getD_some]
  exact List.getElem_mem _
 ·exact .inl rfl
theorem Cv {t:V}(h:t.right) (h6:t.kind=6) (key:ByteArray):(t.member key).right:=by
 rcases Vt (Gc h) h6 key with e | e
 ·rw[e];exact Dl
 ·exact AQ h e
def okR (t:V):Int×Option V:=(0,some t)
def JG (c:Int):Int×Option V:=(c,none)
def Di (t:V) (key:ByteArray):Int×Option V:=if t.kind=0 then okR BA else if t.kind=6 then okR (t.member key) else JG 6
def BQ (n:Int) (many:Nat):Int:=if n<0 then n+many else n
def DB (t:V) (n:Int):Int×Option V :=
 if t.kind=0 then okR BA else if t.kind=5 then okR (if 0≤BQ n t.kids.length∧BQ n t.kids.length<t.kids.length then t.kids.getD (BQ n t.kids.length).toNat BA else BA) else JG 6
def Fl (t k:V):Int×Option V:=if k.kind=4 then Di t k.text else if k.kind=3 then DB t k.num else JG 6
def G5 (r:Int×Option V):Prop:=match r.2 with
 |some t=>r.1=0∧t.right
 |none=>r.1≠0
theorem DM {t:V}(h:t.right):G5 (okR t):=⟨rfl,h⟩
theorem DV {c:Int}(h:c≠0):G5 (JG c):=h
theorem Ll {t:V}(h:t.right) (key:ByteArray):G5 (Di t key):=by
 unfold Di
 split
 ·exact DM Dl
 ·split
  ·rename_i h6
   exact DM (Cv h h6 key)
  ·exact DV (by decide)
theorem XM {t:V}(h:t.right) (n:Int):G5 (DB t n):=by
 unfold DB
 split
 ·exact DM Dl
 ·split
  ·refine DM ?_
   split
   ·rename_i hr
    rw[List.getD_eq_getElem?_getD,List.getElem?_eq_getElem (by omega),Option.getD_some]
    exact AQ h (List.getElem_mem _)
   ·exact Dl
  ·exact DV (by decide)
theorem SU {t:V}(h:t.right) (k:V):G5 (Fl t k):=by
 unfold Fl
 split
 ·exact Ll h _
 ·split
  ·exact XM h _
  ·exact DV (by decide)
def Bz (a b:ByteArray):Bool:=Op.bytesLess a.toList b.toList
theorem Cy:∀(l:List UInt8),Op.bytesLess l l=false
 | []=>rfl
 |x::l=>by simp[Op.bytesLess,Cy l]
theorem Dm:∀{a b c:List UInt8},Op.bytesLess a b=true→Op.bytesLess b c=true→Op.bytesLess a c=true
 | [],_,c::cs,h1,h2=>rfl
 | [],b,[],h1,h2=>by cases b<;>simp[Op.bytesLess]at h1 h2
 |x::a,[],_,h1,_=>by simp[Op.bytesLess]at h1
 |x::a,y::b,[],_,h2=>by simp[Op.bytesLess]at h2
 |x::a,y::b,z::c,h1,h2=>by
  simp only[Op.bytesLess,Bool.or_eq_true,decide_eq_true_eq,Bool.and_eq_true,beq_iff_eq]at h1 h2 ⊢
  rcases h1 with h1 | ⟨rfl,h1⟩
  ·rcases h2 with h2 | ⟨rfl,h2⟩
   ·exact .inl (UInt8.lt_trans h1 h2)
   ·exact .inl h1
  ·rcases h2 with h2 | ⟨rfl,h2⟩
   ·exact .inl h2
   ·exact .inr ⟨rfl,Dm h1 h2⟩
theorem E5:∀(a b:List UInt8),Op.bytesLess a b=true∨a=b∨Op.bytesLess b a=true
 | [],[]=>.inr (.inl rfl)
 | [],_::_=>.inl rfl
 |_::_,[]=>.inr (.inr rfl)
 |x::a,y::b=>by
  simp only[Op.bytesLess,Bool.or_eq_true,decide_eq_true_eq,Bool.and_eq_true,beq_iff_eq]
  by_cases hxy:x<y
  ·exact .inl (.inl hxy)
  ·by_cases hyx:y<x
   ·exact .inr (.inr (.inl hyx))
   ·have:x=y:=by
     apply UInt8.toNat_inj.1
     have h1:¬x.toNat<y.toNat:=fun h=>hxy (UInt8.lt_iff_toNat_lt.2 h)
     have h2:¬y.toNat<x.toNat:=fun h=>hyx (UInt8.lt_iff_toNat_lt.2 h)
     omega
    subst this
    rcases E5 a b with h | rfl | h
    ·exact .inl (.inr ⟨rfl,h⟩)
    ·exact .inr (.inl rfl)
    ·exact .inr (.inr (.inr ⟨rfl,h⟩))
theorem Db {a b c:ByteArray}(h1:Bz a b=true) (h2:Bz b c=true):Bz a c=true:=Dm h1 h2
theorem BK (a:ByteArray):Bz a a=false:=Cy _
theorem S3:∀{ks:List ByteArray}{p:ByteArray},asc (some p) ks→∀{i:Nat}(hi:i<ks.length),Bz p ks[i]=true
 | [],_,_,i,hi=>by simp at hi
 |k::ks,p,h,0,_=>h.1
 |k::ks,p,h,i+1,hi=>by
  have:=S3 h.2 (i:=i) (by simpa using hi)
  simp only[List.getElem_cons_succ]
  exact Db h.1 this
theorem FN:∀{ks:List ByteArray}{o:Option ByteArray},asc o ks→∀{i j:Nat}(hij:i<j) (hj:j<ks.length),Bz (ks[i]'(by omega)) ks[j]=true
 | [],_,_,i,j,_,hj=>by simp at hj
 |k::ks,o,h,0,j+1,_,hj=>by
  have h':asc (some k) ks:=by
   cases o with
   |none=>exact h
   |some p=>exact h.2
  simp only[List.getElem_cons_zero,List.getElem_cons_succ]
  exact S3 h' (by simpa using hj)
 |k::ks,o,h,i+1,j+1,hij,hj=>by
  have h':asc (some k) ks:=by
   cases o with
   |none=>exact h
   |some p=>exact h.2
  simp only[List.getElem_cons_succ]
  exact FN h' (by omega) (by simpa using hj)
theorem US {ks:List ByteArray}{key:ByteArray}(hs:asc none ks) {p:Nat}(hp:p≤ks.length) (h1:∀t (h:t<p),Bz (ks[t]'(by omega)) key=true) (h2:∀t (h:t<ks.length),p≤t→Bz ks[t] key=false) :
  B3 ks key=if h:p<ks.length then (if ks[p].toList==key.toList then some p else none) else none:=by
 have none_of:(∀t (h:t<ks.length),ks[t].toList≠key.toList)→B3 ks key=none:=by
  intro h
  unfold B3
  rw[List.findIdx?_eq_none_iff]
  intro x hx
  obtain⟨t,ht,rfl⟩:=List.getElem_of_mem hx
  simpa using h t ht
 have low:∀t (h:t<ks.length),t<p→ks[t].toList≠key.toList:=by
  intro t h htp he
  have h3:=h1 t htp
  unfold Bz at h3
  rw[he,Cy]at h3
  cases h3
 by_cases hlt:p<ks.length
 ·rw[dif_pos hlt]
  by_cases he:(ks[p].toList==key.toList)=true
  ·rw[if_pos he]
   unfold B3
   rw[List.findIdx?_eq_some_iff_getElem]
   exact⟨hlt,he,fun j hj=>by simpa using low j (by omega) hj⟩
  ·rw[if_neg he]
   refine none_of fun t ht=>?_
   by_cases htp:t<p
   ·exact low t ht htp
   ·by_cases hpt:t=p
    ·subst hpt;simpa using he
    ·intro hk
     have h3:=FN hs (i:=p) (j:=t) (by omega) ht
     have h4:=h2 p hlt (Nat.le_refl _)
     unfold Bz at h3 h4
     rw[hk]at h3
     rw[h3]at h4
     cases h4
 ·rw[dif_neg hlt]
  exact none_of fun t ht=>low t ht (by omega)
theorem B9 {t:V}(h:t.right) (h6:t.kind=6):asc none t.keys∧(∀k∈t.keys,AP k=true)∧t.keys.length=t.kids.length:=by
 obtain⟨hw,_,_⟩:=h
 cases t
 simp only[V.wf,E0]at hw
 simp only[V.kind]at h6
 rw[if_pos h6]at hw
 exact⟨hw.2.1.2.2,hw.2.1.2.1,hw.2.1.1⟩
abbrev Ev:=List V×Option V
def l9 (q:V):Prop:=(∃s,q=C6 s∧AP s=true)∨∃n:Int,q=Ar n∧0≤n∧n≤200
theorem Tx {q:V}(h:l9 q):q.right∧q.count=1∧q.depth=1:=by
 rcases h with⟨s,rfl,hs⟩ | ⟨n,rfl,h1,h2⟩
 ·refine⟨⟨⟨?_,?_,trivial⟩,by simp[C6,V.count,Ag],by simp[C6,V.depth,AF]⟩,rfl,rfl⟩
  ·unfold AN
   have h1:inB 4 0 6=true:=by decide
   simp[h1,cF,cR,cT,hs,B7,inB]
  ·simp[E0]
 ·refine⟨⟨⟨?_,?_,trivial⟩,by simp[Ar,V.count,Ag],by simp[Ar,V.depth,AF]⟩,rfl,rfl⟩
  ·unfold AN
   have h3:inB 3 0 6=true:=by decide
   have h4:inB n (-1000000000000000) 1000000000000000=true:=by unfold inB;simp;omega
   simp[h3,cF,cR,cT,B7,h4,inB]
   omega
  ·simp[E0]
theorem a1k {t:V}(h:t.right) {i:Nat}(hi:i<t.kids.length):l9 (t.keyV i):=by
 have hk:=B6 h.2.1
 unfold V.keyV
 split
 ·rename_i h6
  obtain⟨_,h2,h3⟩:=B9 h h6
  refine .inl ⟨_,rfl,?_⟩
  obtain⟨hk',he⟩:=J3 (Gc h) h6 hi
  rw[he]
  exact h2 _ (List.getElem_mem _)
 ·exact .inr ⟨i,rfl,by omega,by omega⟩
def evV (e:Ev):V:=match e.2 with
 |some t=>Ba [Ba e.1,t]
 |none=>Ba [Ba e.1]
theorem QA {l:List V}(h:wfL l) (hl:l.length≤200):(Ba l).wf:=by
 refine⟨?_,by simp[E0],h⟩
 unfold AN
 have h1:inB 5 0 6=true:=by decide
 have h2:inB (l.length:Int) 0 200=true:=by unfold inB;simp;omega
 simp[h1,cF,cR,cT,B7,C7,h2,inB]
 omega
def GA (a b:Int):Int:=if a<b then -1 else if b<a then 1 else 0
def JJ (a b:ByteArray):Int:=if Bz a b then -1 else if a.toList==b.toList then 0 else 1
def orI (a b:Int):Int:=if a=0 then b else a
def C8:List ByteArray→List ByteArray→Int
 | [],[]=>0
 | [],_::_=>-1
 |_::_,[]=>1
 |a::as,b::bs=>orI (JJ a b) (C8 as bs)
mutual
def V.cmp:V→V→Int
 | .mk k n t ks vs,b=>if k=b.kind then orI (GA n b.num) (orI (JJ t b.text) (orI (C8 ks b.keys) (Gk vs b.kids))) else GA k b.kind
def Gk:List V→List V→Int
 | [],[]=>0
 | [],_::_=>-1
 |_::_,[]=>1
 |a::as,b::bs=>orI (a.cmp b) (Gk as bs)
end
theorem L9 (a b:V):a.cmp b=if a.kind=b.kind then orI (GA a.num b.num) (orI (JJ a.text b.text) (orI (C8 a.keys b.keys) (Gk a.kids b.kids))) else GA a.kind b.kind:=by cases a;rfl
theorem Oe (a:Int):orI 0 a=a:=rfl
theorem Q5 (a:Int):orI a 0=a:=by unfold orI;split<;>simp_all
theorem VG {a:Int}(h:a≠0) (b:Int):orI a b=a:=if_neg h
theorem o9 {a b:Int}:orI a b=0↔a=0∧b=0:=by
 unfold orI
 split
 ·rename_i h;simp[h]
 ·rename_i h;simp[h]
theorem Xs {a b:Int}:GA a b=0↔a=b:=by
 unfold GA
 repeat' split
 all_goals omega
theorem IV (a:Int):GA a a=0:=Xs.2 rfl
theorem IT {a b:ByteArray}:JJ a b=0↔a=b:=by
 unfold JJ
 constructor
 ·intro h
  split at h
  ·cases h
  ·split at h
   ·rename_i h2
    exact Ay (by simpa using h2)
   ·cases h
 ·rintro rfl
  rw[BK]
  simp
theorem IU (a:ByteArray):JJ a a=0:=IT.2 rfl
theorem Kl:∀{a b:List ByteArray},C8 a b=0↔a=b
 | [],[]=>by simp[C8]
 | [],_::_=>by simp[C8]
 |_::_,[]=>by simp[C8]
 |a::as,b::bs=>by
  unfold C8
  rw[o9,IT,Kl]
  simp
theorem Ft (a:List ByteArray):C8 a a=0:=Kl.2 rfl
theorem UE {a b:List V}{i:Nat}(h1:i<a.length) (h2:i<b.length):Gk (a.drop i) (b.drop i)=orI (a[i].cmp b[i]) (Gk (a.drop (i+1)) (b.drop (i+1))):=by
 rw[List.drop_eq_getElem_cons h1,List.drop_eq_getElem_cons h2]
 rfl
theorem Xt {a b:List V}{i:Nat}(h1:i≤a.length) (h2:i≤b.length) (h:¬(i<a.length∧i<b.length)):Gk (a.drop i) (b.drop i)=GA a.length b.length:=by
 by_cases ha:i<a.length
 ·have hb:i=b.length:=by omega
  rw[List.drop_eq_getElem_cons ha,List.drop_eq_nil_of_le (as:=b) (by omega)]
  simp only[Gk,GA]
  rw[if_neg (by omega),if_pos (by omega)]
 ·rw[List.drop_eq_nil_of_le (as:=a) (by omega)]
  by_cases hb:i<b.length
  ·rw[List.drop_eq_getElem_cons hb]
   simp only[Gk,GA]
   rw[if_pos (by omega)]
  ·rw[List.drop_eq_nil_of_le (as:=b) (by omega)]
   simp only[Gk,GA]
   rw[if_neg (by omega),if_neg (by omega)]
theorem QG {a b:List ByteArray}{i:Nat}(h1:i<a.length) (h2:i<b.length):C8 (a.drop i) (b.drop i)=orI (JJ a[i] b[i]) (C8 (a.drop (i+1)) (b.drop (i+1))):=by
 rw[List.drop_eq_getElem_cons h1,List.drop_eq_getElem_cons h2]
 rfl
theorem Sf {a b:List ByteArray}{i:Nat}(h1:i≤a.length) (h2:i≤b.length) (h:¬(i<a.length∧i<b.length)):C8 (a.drop i) (b.drop i)=GA a.length b.length:=by
 by_cases ha:i<a.length
 ·have hb:i=b.length:=by omega
  rw[List.drop_eq_getElem_cons ha,List.drop_eq_nil_of_le (as:=b) (by omega)]
  simp only[C8,GA]
  rw[if_neg (by omega),if_pos (by omega)]
 ·rw[List.drop_eq_nil_of_le (as:=a) (by omega)]
  by_cases hb:i<b.length
  ·rw[List.drop_eq_getElem_cons hb]
   simp only[C8,GA]
   rw[if_pos (by omega)]
  ·rw[List.drop_eq_nil_of_le (as:=b) (by omega)]
   simp only[C8,GA]
   rw[if_neg (by omega),if_neg (by omega)]
theorem Bl {t:V}(h:t.wf):0≤t.kind∧t.kind≤6∧(t.kind≠3→t.num=0)∧(t.kind≠4→t.text=ByteArray.empty)∧(t.kind≠6→t.keys=[])∧(t.kind≠5→t.kind≠6→t.kids=[]):=by
 obtain⟨k,n,s,ks,vs⟩:=t
 simp only[V.wf]at h
 obtain⟨h1,h2,_⟩:=h
 simp only[V.kind,V.num,V.text,V.keys,V.kids]
 unfold AN at h1
 split at h1
 ·exact absurd h1 (by decide)
 ·rename_i hk
  split at h1
  ·exact absurd h1 (by decide)
  ·rename_i hf
   unfold cF at hf
   unfold inB at hk
   unfold C7 at hf
   simp only[Bool.not_eq_true',Bool.not_eq_false,Bool.and_eq_true,decide_eq_true_eq,Bool.or_eq_true,not_or,not_and,bne_iff_ne,ne_eq,Bool.not_eq_true,beq_eq_false_iff_ne]at hk hf
   obtain⟨⟨f1,f2⟩,f3⟩:=hf
   refine⟨hk.1,hk.2,fun h=>?_,fun h=>?_,fun h=>?_,fun h5 h6=>?_⟩
   ·by_cases hn:n=0
    ·exact hn
    ·exact absurd (f1 hn) (by simpa using h)
   ·by_cases hs:s.toList=[]
    ·exact Nt hs
    ·have:=f2 (by simpa using hs)
     exact absurd this (by simpa using h)
   ·unfold E0 at h2
    rw[if_neg h]at h2
    exact h2
   ·by_cases hn:(vs.length:Int)=0
    ·exact List.eq_nil_of_length_eq_zero (by omega)
    ·have:=f3 hn
     simp[h5,h6]at this
theorem Xv {a b:V}(ha:a.wf) (hb:b.wf) (hk:a.kind=b.kind) (h3:a.kind≠3) (h4:a.kind≠4) (h5:a.kind≠5) (h6:a.kind≠6):a.cmp b=0:=by
 obtain⟨_,_,a1,a2,a3,a4⟩:=Bl ha
 obtain⟨_,_,b1,b2,b3,b4⟩:=Bl hb
 rw[←hk]at b1 b2 b3 b4
 rw[L9,if_pos hk,a1 h3,b1 h3,a2 h4,b2 h4,a3 h6,b3 h6,a4 h5 h6,b4 h5 h6,IV,IU,Ft]
 rfl
theorem UF {a b:V}(ha:a.wf) (hb:b.wf) (hk:a.kind=b.kind) (h3:a.kind=3):a.cmp b=GA a.num b.num:=by
 obtain⟨_,_,a1,a2,a3,a4⟩:=Bl ha
 obtain⟨_,_,b1,b2,b3,b4⟩:=Bl hb
 rw[←hk]at b1 b2 b3 b4
 rw[L9,if_pos hk,a2 (by omega),b2 (by omega),a3 (by omega),b3 (by omega),a4 (by omega) (by omega),b4 (by omega) (by omega),IU,Ft]
 exact Q5 _
theorem Zl {a b:V}(ha:a.wf) (hb:b.wf) (hk:a.kind=b.kind) (h4:a.kind=4):a.cmp b=JJ a.text b.text:=by
 obtain⟨_,_,a1,a2,a3,a4⟩:=Bl ha
 obtain⟨_,_,b1,b2,b3,b4⟩:=Bl hb
 rw[←hk]at b1 b2 b3 b4
 rw[L9,if_pos hk,a1 (by omega),b1 (by omega),a3 (by omega),b3 (by omega),a4 (by omega) (by omega),b4 (by omega) (by omega),IV,Ft]
 exact Q5 _
theorem Xu {a b:V}(ha:a.wf) (hb:b.wf) (hk:a.kind=b.kind) (h5:a.kind=5):a.cmp b=Gk a.kids b.kids:=by
 obtain⟨_,_,a1,a2,a3,a4⟩:=Bl ha
 obtain⟨_,_,b1,b2,b3,b4⟩:=Bl hb
 rw[←hk]at b1 b2 b3 b4
 rw[L9,if_pos hk,a1 (by omega),b1 (by omega),a2 (by omega),b2 (by omega),a3 (by omega),b3 (by omega),IV,IU,Ft]
 rfl
theorem UG {a b:V}(ha:a.wf) (hb:b.wf) (hk:a.kind=b.kind) (h6:a.kind=6):a.cmp b=orI (C8 a.keys b.keys) (Gk a.kids b.kids):=by
 obtain⟨_,_,a1,a2,a3,a4⟩:=Bl ha
 obtain⟨_,_,b1,b2,b3,b4⟩:=Bl hb
 rw[←hk]at b1 b2 b3 b4
 rw[L9,if_pos hk,a1 (by omega),b1 (by omega),a2 (by omega),b2 (by omega),IV,IU]
 rfl
theorem LY {ks:List ByteArray}(hs:asc none ks) {i:Nat}(hi:i<ks.length):B3 ks ks[i]=some i:=by
 rw[US hs (key:=ks[i]) (Nat.le_of_lt hi) (fun t h=>FN hs h hi) (fun t h hp=>?_),dif_pos hi,if_pos (by simp)]
 by_cases he:t=i
 ·subst he
  exact BK _
 ·have h1:Bz ks[i] ks[t]=true:=FN hs (by omega) h
  cases h2:Bz ks[t] ks[i] with
  |false=>rfl
  |true =>
   have:=Db h1 h2
   rw[BK]at this
   cases this
theorem ES {t:V}(h:t.right) (h6:t.kind=6):(List.range t.kids.length).map t.keyAt=t.keys:=by
 obtain⟨_,_,hl⟩:=B9 h h6
 apply List.ext_getElem
 ·simp[hl]
 ·intro i h1 h2
  rw[List.getElem_map,List.getElem_range]
  obtain⟨_,he⟩:=J3 (Gc h) h6 (i:=i) (by omega)
  exact he
def DZ (l:List ByteArray) (k:ByteArray):Bool:=l.any fun x=>x.toList==k.toList
theorem Dj {l:List ByteArray}{k:ByteArray}:DZ l k=true↔k∈l:=by
 unfold DZ
 rw[List.any_eq_true]
 constructor
 ·rintro⟨x,hx,h⟩
  have:x=k:=Ay (by simpa using h)
  rw[←this];exact hx
 ·intro h
  exact⟨k,h,by simp⟩
def Cb (k:ByteArray):List ByteArray→List ByteArray
 | []=>[k]
 |x::r=>if Bz k x then k::x::r else if k.toList==x.toList then x::r else x::Cb k r
def B0 (keys:List ByteArray):List ByteArray:=keys.foldl (fun l k=>Cb k l) []
def Up (l:List ByteArray):Prop:=l.Pairwise fun a b=>Bz a b=true
theorem Hx (k:ByteArray):∀(l:List ByteArray) (x:ByteArray),x∈Cb k l↔x=k∨x∈l
 | [],x=>by simp[Cb]
 |y::r,x=>by
  unfold Cb
  split
  ·simp
  ·split
   ·rename_i h
    have:k=y:=Ay (by simpa using h)
    subst this
    simp
   ·rw[List.mem_cons,Hx k r x,List.mem_cons]
    constructor
    ·rintro (h | h | h)
     ·exact .inr (.inl h)
     ·exact .inl h
     ·exact .inr (.inr h)
    ·rintro (h | h | h)
     ·exact .inr (.inl h)
     ·exact .inl h
     ·exact .inr (.inr h)
theorem Lx (a b:ByteArray):Bz a b=true∨a=b∨Bz b a=true:=by
 rcases E5 a.toList b.toList with h | h | h
 ·exact .inl h
 ·exact .inr (.inl (Ay h))
 ·exact .inr (.inr h)
theorem PK (k:ByteArray):∀{l:List ByteArray},Up l→Up (Cb k l)
 | [],_=>by simp[Cb,Up]
 |y::r,h=>by
  unfold Up at h
  rw[List.pairwise_cons]at h
  unfold Cb
  split
  ·rename_i hl
   refine List.pairwise_cons.2 ⟨fun x hx=>?_,List.pairwise_cons.2 h⟩
   rcases List.mem_cons.1 hx with rfl | hx
   ·exact hl
   ·exact Db hl (h.1 x hx)
  ·rename_i hl
   split
   ·exact List.pairwise_cons.2 h
   ·rename_i he
    refine List.pairwise_cons.2 ⟨fun x hx=>?_,PK k h.2⟩
    rcases (Hx k r x).1 hx with rfl | hx
    ·rcases Lx x y with g | g | g
     ·exact absurd g hl
     ·subst g;exact absurd (by simp) he
     ·exact g
    ·exact h.1 x hx
theorem Ug:∀{a b:List ByteArray},Up a→Up b→(∀x,x∈a↔x∈b)→a=b
 | [],[],_,_,_=>rfl
 | [],y::b,_,_,h=>absurd ((h y).2 (by simp)) (by simp)
 |x::a,[],_,_,h=>absurd ((h x).1 (by simp)) (by simp)
 |x::a,y::b,h1,h2,h=>by
  unfold Up at h1 h2
  rw[List.pairwise_cons]at h1 h2
  have no:∀{u v:ByteArray},Bz u v=true→Bz v u=true→False:=fun g1 g2=>by
   have:=Db g1 g2
   rw[BK]at this
   cases this
  have hxy:x=y:=by
   rcases List.mem_cons.1 ((h x).1 (by simp)) with e | hx
   ·exact e
   ·rcases List.mem_cons.1 ((h y).2 (by simp)) with e | hy
    ·exact e.symm
    ·exact (no (h1.1 y hy) (h2.1 x hx)).elim
  subst hxy
  congr 1
  refine Ug h1.2 h2.2 fun z=>?_
  constructor
  ·intro hz
   rcases List.mem_cons.1 ((h z).1 (by simp[hz])) with e | hz'
   ·subst e;exact (no (h1.1 z hz) (h1.1 z hz)).elim
   ·exact hz'
  ·intro hz
   rcases List.mem_cons.1 ((h z).2 (by simp[hz])) with e | hz'
   ·subst e;exact (no (h2.1 z hz) (h2.1 z hz)).elim
   ·exact hz'
theorem WG (keys:List ByteArray):∀(l:List ByteArray),Up l→Up (keys.foldl (fun l k=>Cb k l) l)∧∀x,x∈keys.foldl (fun l k=>Cb k l) l↔x∈keys∨x∈l:=by
 induction keys with
 |nil=>intro l h;exact⟨h,fun x=>by simp⟩
 |cons k r ih =>
  intro l h
  obtain⟨h1,h2⟩:=ih (Cb k l) (PK k h)
  refine⟨h1,fun x=>?_⟩
  rw[List.foldl_cons,h2,Hx,List.mem_cons]
  constructor
  ·rintro (h | h | h)
   ·exact .inl (.inr h)
   ·exact .inl (.inl h)
   ·exact .inr h
  ·rintro ((h | h) | h)
   ·exact .inr (.inl h)
   ·exact .inl h
   ·exact .inr (.inr h)
theorem DL (keys:List ByteArray):Up (B0 keys):=(WG keys [] (by simp[Up])).1
theorem BP {keys:List ByteArray}{x:ByteArray}:x∈B0 keys↔x∈keys:=by
 unfold B0
 rw[(WG keys [] (by simp[Up])).2]
 simp
theorem NF (k:ByteArray):∀(l:List ByteArray),(Cb k l).length≤l.length+1
 | []=>by simp[Cb]
 |x::r=>by
  unfold Cb
  split
  ·simp
  ·split
   ·simp
   ·have:=NF k r
    simp only[List.length_cons]
    omega
theorem Gq (keys:List ByteArray):(B0 keys).length≤keys.length:=by
 have key:∀(keys l:List ByteArray),(keys.foldl (fun l k=>Cb k l) l).length≤keys.length+l.length:=by
  intro keys
  induction keys with
  |nil=>intro l;simp
  |cons k r ih =>
   intro l
   have h1:=ih (Cb k l)
   have h2:=NF k l
   rw[List.foldl_cons,List.length_cons]
   omega
 have:=key keys []
 unfold B0
 simpa using this
def AS:List ByteArray→List V→ByteArray→V
 |_::ks,v::vs,x=>if DZ ks x then AS ks vs x else v
 |_,_,_=>BA
theorem Ee:∀{keys:List ByteArray}{kids:List V}{x:ByteArray},keys.length=kids.length→x∈keys→∃j:Nat,keys[j]? = some x∧(∀n:Nat,j<n→keys[n]?≠some x)∧kids[j]? = some (AS keys kids x)
 | [],_,x,_,h=>absurd h (by simp)
 |k::ks,[],x,h,_=>absurd h (by simp)
 |k::ks,v::vs,x,hl,hx=>by
  have hl':ks.length=vs.length:=by simpa using hl
  unfold AS
  cases hk:DZ ks x with
  |true =>
   obtain⟨j,h1,h2,h3⟩:=Ee hl' (Dj.1 hk)
   refine⟨j+1,by simpa using h1,fun n hn=>?_,by simpa using h3⟩
   cases n with
   |zero=>omega
   |succ n=>simpa using h2 n (by omega)
  |false =>
   have hnx:x ∉ ks:=fun h=>by rw[Dj.2 h]at hk;cases hk
   have hxk:x=k:=by
    rcases List.mem_cons.1 hx with e | e
    ·exact e
    ·exact absurd e hnx
   subst hxk
   refine⟨0,rfl,fun n hn=>?_,by simp⟩
   cases n with
   |zero=>omega
   |succ n =>
    intro hc
    exact hnx (List.mem_of_getElem? (by simpa using hc))
def EJ (keys:List ByteArray) (kids:List V):V:=.mk 6 0 ByteArray.empty (B0 keys) ((B0 keys).map (AS keys kids))
def Kd (keys vis:List ByteArray):Nat:=(keys.filter fun k=>!DZ vis k).length
theorem U9 {keys vis:List ByteArray}{k:ByteArray}(hk:k∈keys) (hv:k ∉ vis):Kd keys (vis++[k])<Kd keys vis:=by
 unfold Kd
 have key:∀(l:List ByteArray),(l.filter fun x=>!DZ (vis++[k]) x).length≤(l.filter fun x=>!DZ vis x).length∧(k∈l→(l.filter fun x=>!DZ (vis++[k]) x).length<(l.filter fun x=>!DZ vis x).length):=by
  intro l
  induction l with
  |nil=>simp
  |cons x r ih =>
   have himp:DZ vis x=true→DZ (vis++[k]) x=true:=fun h=>Dj.2 (by simp[Dj.1 h])
   rw[List.filter_cons,List.filter_cons]
   cases h1:DZ vis x with
   |true =>
    rw[himp h1]
    simp only[Bool.not_true,Bool.false_eq_true,if_false]
    refine⟨ih.1,fun hm=>?_⟩
    rcases List.mem_cons.1 hm with e | e
    ·subst e;exact absurd (Dj.1 h1) hv
    ·exact ih.2 e
   |false =>
    simp only[Bool.not_false,if_true,List.length_cons]
    cases h2:DZ (vis++[k]) x with
    |true =>
     simp only[Bool.not_true,Bool.false_eq_true,if_false]
     exact⟨by omega,fun _=>by omega⟩
    |false =>
     simp only[Bool.not_false,if_true,List.length_cons]
     refine⟨by omega,fun hm=>?_⟩
     rcases List.mem_cons.1 hm with e | e
     ·subst e
      rw[Dj.2 (by simp)]at h2
      cases h2
     ·have:=ih.2 e;omega
 exact (key keys).2 hk
theorem Wf (keys:List ByteArray):Kd keys []=keys.length:=by
 unfold Kd
 congr 1
 exact List.filter_eq_self.2 fun x _=>by simp[DZ]
def Ha (l:List ByteArray):List ByteArray:=((l.map fun b=>b.data.toList).mergeSort fun x y=>decide (x≤y)).map fun x=>⟨x.toArray⟩
mutual
def V.fit:V→Prop
 | .mk kind _ text keys kids=>text.size≤200∧(∀k∈keys,k.size≤60)∧(C7 kind=false→kids=[])∧(kind=6→keys.length=kids.length)∧(kind≠6→keys=[])∧SO kids
def SO:List V→Prop
 | []=>True
 |k::ks=>k.fit∧SO ks
end
theorem Nw:∀{l:List V},SO l↔∀v∈l,v.fit
 | []=>by simp[SO]
 |v::l=>by simp only[SO,List.mem_cons,forall_eq_or_imp,Nw (l:=l)]
theorem H4 {s:ByteArray}(h:AP s=true):s.size≤60:=by
 unfold AP at h
 simp only[Bool.and_eq_true,decide_eq_true_eq]at h
 exact h.1
mutual
theorem UT:∀(t:V),t.wf→t.fit
 | .mk kind num text keys kids,h=>by
  have hn:=Rn _ h
  obtain⟨h1,h2,h3⟩:=h
  have ht:=(IW (c:=⟨kind,num,text,ByteArray.empty,kids.length⟩) h1).1
  unfold E0 at h2
  refine⟨Nat.le_trans (H4 ht) (by decide),fun k hk=>?_,hn.1,hn.2.1,fun h6=>?_,WE kids h3⟩
  ·by_cases h6:kind=6
   ·rw[if_pos h6]at h2
    exact H4 (h2.2.1 k hk)
   ·rw[if_neg h6]at h2
    rw[h2]at hk
    simp at hk
  ·rw[if_neg h6]at h2
   exact h2
theorem WE:∀(l:List V),wfL l→SO l
 | [],_=>trivial
 |v::l,h=>⟨UT v h.1,WE l h.2⟩
end
mutual
theorem Ps:∀(t t':V) (key key':ByteArray) (r r':List CellD),t.fit→t'.fit→t.cells key++r=t'.cells key'++r'→t=t'∧key=key'∧r=r'
 | .mk kind num text keys kids,.mk kind' num' text' keys' kids',key,key',r,r',h,h',he=>by
  simp only[V.cells,List.cons_append,List.cons.injEq,CellD.mk.injEq]at he
  obtain⟨⟨rfl,rfl,rfl,rfl,hl⟩,he⟩:=he
  obtain⟨rfl,rfl,rfl⟩:=JI kids kids' kind keys keys' r r' (by omega) (fun h6=>⟨h.2.2.2.1 h6,h'.2.2.2.1 h6⟩) (fun h6=>⟨h.2.2.2.2.1 h6,h'.2.2.2.2.1 h6⟩) h.2.2.2.2.2 h'.2.2.2.2.2 he
  exact⟨rfl,rfl,rfl⟩
theorem JI:∀(l l':List V) (kind:Int) (keys keys':List ByteArray) (r r':List CellD),l.length=l'.length→(kind=6→keys.length=l.length∧keys'.length=l'.length)→(kind≠6→keys=[]∧keys'=[])→SO l→SO l'→C4 kind keys l++r=C4 kind keys' l'++r'→keys=keys'∧l=l'∧r=r'
 | [],[],kind,keys,keys',r,r',_,h6,hn,_,_,he=>by
  by_cases h:kind=6
  ·have:=h6 h
   exact⟨by rw[List.eq_nil_of_length_eq_zero this.1,List.eq_nil_of_length_eq_zero this.2],rfl,he⟩
  ·exact⟨by rw[(hn h).1,(hn h).2],rfl,he⟩
 | [],_::_,_,_,_,_,_,hl,_,_,_,_,_=>by simp at hl
 |_::_,[],_,_,_,_,_,hl,_,_,_,_,_=>by simp at hl
 |v::l,v'::l',kind,keys,keys',r,r',hl,h6,hn,h,h',he=>by
  simp only[C4,List.append_assoc]at he
  obtain⟨rfl,hk,he⟩:=Ps v v' _ _ _ _ h.1 h'.1 he
  by_cases hk6:kind=6
  ·obtain⟨q1,q2⟩:=h6 hk6
   cases keys with
   |nil=>simp at q1
   |cons k ks=>cases keys' with
    |nil=>simp at q2
    |cons k' ks' =>
     rw[if_pos hk6,if_pos hk6]at hk
     have hk':k=k':=hk
     subst hk'
     obtain⟨rfl,rfl,rfl⟩:=JI l l' kind ks ks' r r' (by simpa using hl) (fun _=>⟨by simpa using q1,by simpa using q2⟩) (fun e=>absurd hk6 e) h.2 h'.2 he
     exact⟨rfl,rfl,rfl⟩
  ·obtain⟨rfl,rfl⟩:=hn hk6
   obtain⟨_,rfl,rfl⟩:=JI l l' kind [] [] r r' (by simpa using hl) (fun e=>absurd e hk6) (fun _=>⟨rfl,rfl⟩) h.2 h'.2 he
   exact⟨rfl,rfl,rfl⟩
end
theorem a09 {t:V}(h:t.fit) (h0:(dec t.enc).1=0):t.right:=by
 rcases DR t.enc with⟨u,hu⟩ | ⟨c,hc,hd⟩
 ·obtain⟨h1,h2,h3,h4⟩:=Ih hu
  obtain⟨rfl,_,_⟩:=Ps t u ByteArray.empty ByteArray.empty [] [] h (UT u h2) (by rw[List.append_nil,List.append_nil];exact h1)
  exact⟨h2,h3,h4⟩
 ·rw[hd]at h0
  exact absurd h0 hc
theorem J1 {t:V}(h:t.right):t.fit:=UT t h.1
def M4 (t:V):Int×Option V:=if (dec t.enc).1=0 then (0,some t) else ((dec t.enc).1,none)
theorem OL {ks:List ByteArray}(h:asc none ks):Up ks:=by
 unfold Up
 rw[List.pairwise_iff_getElem]
 intro i j hi hj hij
 exact FN h hij hj
theorem a0f {ks:List ByteArray}(h:Up ks) {i j:Nat}{x:ByteArray}(hi:ks[i]? = some x) (hj:ks[j]? = some x):i=j:=by
 unfold Up at h
 rw[List.pairwise_iff_getElem]at h
 obtain⟨h1,e1⟩:=List.getElem?_eq_some_iff.1 hi
 obtain⟨h2,e2⟩:=List.getElem?_eq_some_iff.1 hj
 rcases Nat.lt_trichotomy i j with g | g | g
 ·have:=h i j h1 h2 g
  rw[e1,e2,BK]at this
  cases this
 ·exact g
 ·have:=h j i h2 h1 g
  rw[e1,e2,BK]at this
  cases this
theorem a0g {ks:List ByteArray}(h:Up ks):ks.Nodup:=by
 unfold Up at h
 refine h.imp fun {a b} hl e=>?_
 subst e
 rw[BK]at hl
 cases hl
theorem Rr {ks:List ByteArray}(h:Up ks):B0 ks=ks:=Ug (DL ks) h fun x=>BP
theorem Qo {ks:List ByteArray}(h:Up ks) (p:ByteArray→Bool):Up (ks.filter p):=List.Pairwise.filter p h
theorem Te {ks:List ByteArray}(h:Up ks) (f:ByteArray→V) {x:ByteArray}(hx:x∈ks):AS ks (ks.map f) x=f x:=by
 obtain⟨j,h1,h2,h3⟩:=Ee (kids:=ks.map f) (by simp) hx
 rw[List.getElem?_map,h1,Option.map_some]at h3
 exact (Option.some.inj h3).symm
theorem a1v {ks:List ByteArray}(h:Up ks) (f:ByteArray→V):EJ ks (ks.map f)=.mk 6 0 ByteArray.empty ks (ks.map f):=by
 unfold EJ
 rw[Rr h]
 congr 1
 exact List.map_congr_left fun x hx=>Te h f hx
theorem ZD {a:V}(h:a.fit):∀k∈a.keys,k.size≤60:=by cases a;exact h.2.1
theorem FQ (a b:List V):Ag (a++b)=Ag a+Ag b:=by
 induction a with
 |nil=>simp[Ag]
 |cons x a ih=>simp only[List.cons_append,Ag,ih];omega
theorem PL {g g':ByteArray→V}{k:ByteArray}:∀{l:List ByteArray},Up l→(∀x∈l,x≠k→g' x=g x)→Ag ((Cb k l).map g')≤Ag (l.map g)+(g' k).count
 | [],_,_=>by simp[Cb,Ag]
 |x::r,hu,h=>by
  unfold Up at hu
  rw[List.pairwise_cons]at hu
  have hne:∀{u v:ByteArray},Bz u v=true→v≠u:=fun hl e=>by subst e;rw[BK]at hl;cases hl
  unfold Cb
  split
  ·rename_i hl
   have e:(x::r).map g'=(x::r).map g:=List.map_congr_left fun y hy=>h y hy (by
    rcases List.mem_cons.1 hy with rfl | hy
    ·exact hne hl
    ·exact hne (Db hl (hu.1 y hy)))
   rw[List.map_cons,Ag,e]
   omega
  ·split
   ·rename_i he
    have hx:k=x:=Ay (by simpa using he)
    have e:r.map g'=r.map g:=List.map_congr_left fun y hy=>h y (by simp[hy]) (by rw[hx];exact hne (hu.1 y hy))
    rw[List.map_cons,List.map_cons,Ag,Ag,e,←hx]
    omega
   ·rename_i he
    have hx:x≠k:=fun e=>he (by rw[e];simp)
    have:=PL (g:=g) (g':=g') (k:=k) hu.2 fun y hy=>h y (by simp[hy])
    rw[List.map_cons,List.map_cons,Ag,Ag,h x (by simp) hx]
    omega
theorem EC:∀{ks:List ByteArray}{vs:List V}{k:ByteArray}{v:V}{x:ByteArray},ks.length=vs.length→(x=k∨x∈ks)→AS (ks++[k]) (vs++[v]) x=if x=k then v else AS ks vs x
 | [],[],k,v,x,_,hx=>by
  have hxk:x=k:=by simpa using hx
  rw[if_pos hxk]
  simp[AS,DZ]
 | [],_::_,_,_,_,h,_=>by simp at h
 |_::_,[],_,_,_,h,_=>by simp at h
 |k0::ks,v0::vs,k,v,x,h,hx=>by
  have hl:ks.length=vs.length:=by simpa using h
  simp only[List.cons_append,AS]
  have hh:DZ (ks++[k]) x=true↔x∈ks∨x=k:=by rw[Dj];simp
  by_cases hxk:x=k
  ·rw[if_pos hxk,if_pos (hh.2 (.inr hxk)),EC hl (.inl hxk),if_pos hxk]
  ·rw[if_neg hxk]
   by_cases hm:x∈ks
   ·rw[if_pos (hh.2 (.inl hm)),if_pos (Dj.2 hm),EC hl (.inr hm),if_neg hxk]
   ·rw[if_neg (fun hc=>(hh.1 hc).elim hm hxk),if_neg (fun hc=>hm (Dj.1 hc))]
theorem KF (ks:List ByteArray) (k:ByteArray):B0 (ks++[k])=Cb k (B0 ks):=by
 unfold B0
 rw[List.foldl_append]
 rfl
theorem G4:∀(n:Nat) (ks:List ByteArray) (vs:List V),ks.length=n→vs.length=n→Ag ((B0 ks).map (AS ks vs))≤Ag vs
 | 0,ks,vs,h1,h2=>by
  rw[List.eq_nil_of_length_eq_zero h1]
  simp[B0,Ag]
 |n+1,ks,vs,h1,h2=>by
  rcases List.eq_nil_or_concat ks with rfl | ⟨ks',k,rfl⟩
  ·simp at h1
  ·rcases List.eq_nil_or_concat vs with rfl | ⟨vs',v,rfl⟩
   ·simp at h2
   ·simp only[List.concat_eq_append,List.length_append,List.length_singleton]at h1 h2 ⊢
    have hl:ks'.length=vs'.length:=by omega
    have ih:=G4 n ks' vs' (by omega) (by omega)
    rw[KF,FQ]
    have hins:=PL (g:=AS ks' vs') (g':=AS (ks'++[k]) (vs'++[v])) (k:=k) (DL ks') fun x hx hne=>by
     rw[EC hl (.inr (BP.1 hx)),if_neg hne]
    rw[EC hl (.inl rfl),if_pos rfl]at hins
    simp only[Ag]
    omega
theorem Hs (p:ByteArray→Bool) (f:ByteArray→V):∀(l:List ByteArray),Ag ((l.filter p).map f)≤Ag (l.map f)
 | []=>Nat.le_refl _
 |x::l=>by
  have:=Hs p f l
  rw[List.filter_cons]
  split
  ·simp only[List.map_cons,Ag];omega
  ·simp only[List.map_cons,Ag];omega
end Go.Proofs.YtllfmaflodbieaaGreatDoor
