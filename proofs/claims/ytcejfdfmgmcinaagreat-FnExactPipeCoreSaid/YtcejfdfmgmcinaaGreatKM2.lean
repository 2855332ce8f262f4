/- Texts of this proof: M08 M09 M10 M15 M16 M18 M19. -/
import Derived.Test.YtcejfdfmgmcinaaGreatKM1
set_option linter.all false
namespace Go.Proofs.YtcejfdfmgmcinaaGreat
open Go.RowKit
def V.right (t:V):Prop:=t.wf∧t.count≤200∧t.depth≤20
theorem AL {a b:ByteArray}(h:a.toList=b.toList):a=b:=by
 rw[ByteArray.toList_eq,ByteArray.toList_eq]at h
 cases a;cases b
 simp at h
 rw[h]
theorem Bf {t:V}(h:t.right) {k:V}(hk:k∈t.kids):k.right:=by
 obtain⟨h1,h2,h3⟩:=h
 have h4:=Ct hk
 have h5:=AN t
 have h6:=Ja hk
 have h7:=Jb t
 exact⟨QE (VB h1) k hk,by omega,by omega⟩
theorem Dr:BG.right:=by
 refine⟨?_,by decide,by decide⟩
 refine⟨?_,?_,trivial⟩
 ·decide +kernel
 ·simp[Ed]
theorem Jv {t:V}(h:t.right):t.neat:=Q0 t h.1
theorem Ix {t:V}(h:t.right):dec t.enc=(0,some t):=V1 h.1 h.2.1 h.2.2
def JX (keys:List ByteArray) (key:ByteArray):Option Nat:=keys.findIdx? fun k=>k.toList==key.toList
def V.member (t:V) (key:ByteArray):V:=match JX t.keys key with
 |some i=>t.kids.getD i BG
 |none=>BG
theorem PH {keys:List ByteArray}{key:ByteArray}{i:Nat}(h:JX keys key=some i):∃hi:i<keys.length,keys[i]=key∧∀j (hj:j<i),keys[j]'(by omega)≠key:=by
 unfold JX at h
 rw[List.findIdx?_eq_some_iff_getElem]at h
 obtain⟨h1,h2,h3⟩:=h
 refine⟨h1,AL (by simpa using h2),fun j hj he=>?_⟩
 have:=h3 j hj
 rw[he]at this
 simp at this
theorem TP {t:V}(hn:t.neat) (h6:t.kind=6) (key:ByteArray):t.member key=BG∨t.member key∈t.kids:=by
 unfold V.member
 split
 ·rename_i i hi
  obtain⟨h1,_⟩:=PH hi
  have:=OL hn h6
  right
  rw[List.getD_eq_getElem?_getD,List.getElem?_eq_getElem (by omega),Option.getD_some]
  exact List.getElem_mem _
 ·exact .inl rfl
theorem Qj {t:V}(h:t.right) (h6:t.kind=6) (key:ByteArray):(t.member key).right:=by
 rcases TP (Jv h) h6 key with e | e
 ·rw[e];exact Dr
 ·exact Bf h e
def okR (t:V):Int×Option V:=(0,some t)
def Ek (c:Int):Int×Option V:=(c,none)
def DN (t:V) (key:ByteArray):Int×Option V:=if t.kind=0 then okR BG else if t.kind=6 then okR (t.member key) else Ek 6
def DM (n:Int) (many:Nat):Int:=if n<0 then n+many else n
def Dh (t:V) (n:Int):Int×Option V :=
 if t.kind=0 then okR BG else if t.kind=5 then okR (if 0≤DM n t.kids.length∧DM n t.kids.length<t.kids.length then t.kids.getD (DM n t.kids.length).toNat BG else BG) else Ek 6
def Es (t k:V):Int×Option V:=if k.kind=4 then DN t k.text else if k.kind=3 then Dh t k.num else Ek 6
def CH (r:Int×Option V):Prop:=match r.2 with
 |some t=>r.1=0∧t.right
 |none=>r.1≠0
theorem BH {t:V}(h:t.right):CH (okR t):=⟨rfl,h⟩
theorem Bv {c:Int}(h:c≠0):CH (Ek c):=h
theorem Wf {t:V}(h:t.right) (key:ByteArray):CH (DN t key):=by
 unfold DN
 split
 ·exact BH Dr
 ·split
  ·rename_i h6
   exact BH (Qj h h6 key)
  ·exact Bv (by decide)
theorem We {t:V}(h:t.right) (n:Int):CH (Dh t n):=by
 unfold Dh
 split
 ·exact BH Dr
 ·split
  ·refine BH ?_
   split
   ·rename_i hr
    rw[List.getD_eq_getElem?_getD,List.getElem?_eq_getElem (by omega),Option.getD_some]
    exact Bf h (List.getElem_mem _)
   ·exact Dr
  ·exact Bv (by decide)
theorem Rl {t:V}(h:t.right) (k:V):CH (Es t k):=by
 unfold Es
 split
 ·exact Wf h _
 ·split
  ·exact We h _
  ·exact Bv (by decide)
def Bh (a b:ByteArray):Bool:=Op.bytesLess a.toList b.toList
theorem BC:∀(l:List UInt8),Op.bytesLess l l=false
 | []=>rfl
 |x::l=>by simp[Op.bytesLess,BC l]
theorem Cg:∀{a b c:List UInt8},Op.bytesLess a b=true→Op.bytesLess b c=true→Op.bytesLess a c=true
 | [],_,c::cs,h1,h2=>rfl
 | [],b,[],h1,h2=>by cases b<;>simp[Op.bytesLess]at h1 h2
 |x::a,[],_,h1,_=>by simp[Op.bytesLess]at h1
 |x::a,y::b,[],_,h2=>by simp[Op.bytesLess]at h2
 |x::a,y::b,z::c,h1,h2=>by
  simp only[Op.bytesLess,Bool.or_eq_true,decide_eq_true_eq,Bool.and_eq_true,beq_iff_eq]at h1 h2 ⊢
  rcases h1 with h1 | ⟨rfl,h1⟩
  ·rcases h2 with h2 | ⟨rfl,h2⟩
   ·exact .inl (UInt8.lt_trans h1 h2)
   ·exact .inl h1
  ·rcases h2 with h2 | ⟨rfl,h2⟩
   ·exact .inl h2
   ·exact .inr ⟨rfl,Cg h1 h2⟩
theorem Dc:∀(a b:List UInt8),Op.bytesLess a b=true∨a=b∨Op.bytesLess b a=true
 | [],[]=>.inr (.inl rfl)
 | [],_::_=>.inl rfl
 |_::_,[]=>.inr (.inr rfl)
 |x::a,y::b=>by
  simp only[Op.bytesLess,Bool.or_eq_true,decide_eq_true_eq,Bool.and_eq_true,beq_iff_eq]
  by_cases hxy:x<y
  ·exact .inl (.inl hxy)
  ·by_cases hyx:y<x
   ·exact .inr (.inr (.inl hyx))
   ·have:x=y:=by
     apply UInt8.toNat_inj.1
     have h1:¬x.toNat<y.toNat:=fun h=>hxy (UInt8.lt_iff_toNat_lt.2 h)
     have h2:¬y.toNat<x.toNat:=fun h=>hyx (UInt8.lt_iff_toNat_lt.2 h)
     omega
    subst this
    rcases Dc a b with h | rfl | h
    ·exact .inl (.inr ⟨rfl,h⟩)
    ·exact .inr (.inl rfl)
    ·exact .inr (.inr (.inr ⟨rfl,h⟩))
theorem G0 {a b c:ByteArray}(h1:Bh a b=true) (h2:Bh b c=true):Bh a c=true:=Cg h1 h2
theorem Cn (a:ByteArray):Bh a a=false:=BC _
theorem DC {t:V}(h:t.right) (h6:t.kind=6):asc none t.keys∧(∀k∈t.keys,Br k=true)∧t.keys.length=t.kids.length:=by
 obtain⟨hw,_,_⟩:=h
 cases t
 simp only[V.wf,Ed]at hw
 simp only[V.kind]at h6
 rw[if_pos h6]at hw
 exact⟨hw.2.1.2.2,hw.2.1.2.1,hw.2.1.1⟩
def y6 (q:V):Prop:=(∃s,q=CG s∧Br s=true)∨∃n:Int,q=C8 n∧0≤n∧n≤200
theorem S4 {q:V}(h:y6 q):q.right∧q.count=1∧q.depth=1:=by
 rcases h with⟨s,rfl,hs⟩ | ⟨n,rfl,h1,h2⟩
 ·refine⟨⟨⟨?_,?_,trivial⟩,by simp[CG,V.count,Am],by simp[CG,V.depth,AS]⟩,rfl,rfl⟩
  ·unfold AP
   have h1:inB 4 0 6=true:=by decide
   simp[h1,cF,cR,cT,hs,Bm,inB]
  ·simp[Ed]
 ·refine⟨⟨⟨?_,?_,trivial⟩,by simp[C8,V.count,Am],by simp[C8,V.depth,AS]⟩,rfl,rfl⟩
  ·unfold AP
   have h3:inB 3 0 6=true:=by decide
   have h4:inB n (-1000000000000000) 1000000000000000=true:=by unfold inB;simp;omega
   simp[h3,cF,cR,cT,Bm,h4,inB]
   omega
  ·simp[Ed]
theorem SP {l:List V}(h:wfL l) (hl:l.length≤200):(B4 l).wf:=by
 refine⟨?_,by simp[Ed],h⟩
 unfold AP
 have h1:inB 5 0 6=true:=by decide
 have h2:inB (l.length:Int) 0 200=true:=by unfold inB;simp;omega
 simp[h1,cF,cR,cT,Bm,Cp,h2,inB]
 omega
def C0 (a b:Int):Int:=if a<b then -1 else if b<a then 1 else 0
def Cy (a b:ByteArray):Int:=if Bh a b then -1 else if a.toList==b.toList then 0 else 1
def orI (a b:Int):Int:=if a=0 then b else a
def AF:List ByteArray→List ByteArray→Int
 | [],[]=>0
 | [],_::_=>-1
 |_::_,[]=>1
 |a::as,b::bs=>orI (Cy a b) (AF as bs)
mutual
def V.cmp:V→V→Int
 | .mk k n t ks vs,b=>if k=b.kind then orI (C0 n b.num) (orI (Cy t b.text) (orI (AF ks b.keys) (BD vs b.kids))) else C0 k b.kind
def BD:List V→List V→Int
 | [],[]=>0
 | [],_::_=>-1
 |_::_,[]=>1
 |a::as,b::bs=>orI (a.cmp b) (BD as bs)
end
theorem Fu (a b:V):a.cmp b=if a.kind=b.kind then orI (C0 a.num b.num) (orI (Cy a.text b.text) (orI (AF a.keys b.keys) (BD a.kids b.kids))) else C0 a.kind b.kind:=by cases a;rfl
theorem GA (a:Int):orI 0 a=a:=rfl
theorem Iw (a:Int):orI a 0=a:=by unfold orI;split<;>simp_all
theorem KF (a b c:Int):orI (orI a b) c=orI a (orI b c):=by
 unfold orI
 by_cases h:a=0<;>simp[h]
theorem Js {a:Int}(h:a≠0) (b:Int):orI a b=a:=if_neg h
theorem I4 {a b:Int}:orI a b=0↔a=0∧b=0:=by
 unfold orI
 split
 ·rename_i h;simp[h]
 ·rename_i h;simp[h]
theorem Ig {a b:Int}:C0 a b=0↔a=b:=by
 unfold C0
 repeat' split
 all_goals omega
theorem Gq (a:Int):C0 a a=0:=Ig.2 rfl
theorem Gp {a b:ByteArray}:Cy a b=0↔a=b:=by
 unfold Cy
 constructor
 ·intro h
  split at h
  ·cases h
  ·split at h
   ·rename_i h2
    exact AL (by simpa using h2)
   ·cases h
 ·rintro rfl
  rw[Cn]
  simp
theorem Ie (a:ByteArray):Cy a a=0:=Gp.2 rfl
theorem GO:∀{a b:List ByteArray},AF a b=0↔a=b
 | [],[]=>by simp[AF]
 | [],_::_=>by simp[AF]
 |_::_,[]=>by simp[AF]
 |a::as,b::bs=>by
  unfold AF
  rw[I4,Gp,GO]
  simp
theorem F2 (a:List ByteArray):AF a a=0:=GO.2 rfl
mutual
theorem Hx:∀{a b:V},a.cmp b=0↔a=b
 | .mk k n t ks vs,.mk k' n' t' ks' vs'=>by
  have hv:=@M3 vs vs'
  by_cases h:k=k'
  ·have e:(V.mk k n t ks vs).cmp (.mk k' n' t' ks' vs')=orI (C0 n n') (orI (Cy t t') (orI (AF ks ks') (BD vs vs'))):=by
    rw[Fu]
    exact if_pos h
   rw[e,I4,I4,I4,Ig,Gp,GO,hv]
   simp[h]
  ·have e:(V.mk k n t ks vs).cmp (.mk k' n' t' ks' vs')=C0 k k':=by
    rw[Fu]
    exact if_neg h
   rw[e,Ig]
   simp[h]
theorem M3:∀{a b:List V},BD a b=0↔a=b
 | [],[]=>by simp[BD]
 | [],_::_=>by simp[BD]
 |_::_,[]=>by simp[BD]
 |a::as,b::bs=>by
  unfold BD
  rw[I4,Hx,M3]
  simp
end
theorem M0 {a b:List V}{i:Nat}(h1:i<a.length) (h2:i<b.length):BD (a.drop i) (b.drop i)=orI (a[i].cmp b[i]) (BD (a.drop (i+1)) (b.drop (i+1))):=by
 rw[List.drop_eq_getElem_cons h1,List.drop_eq_getElem_cons h2]
 rfl
theorem Od {a b:List V}{i:Nat}(h1:i≤a.length) (h2:i≤b.length) (h:¬(i<a.length∧i<b.length)):BD (a.drop i) (b.drop i)=C0 a.length b.length:=by
 by_cases ha:i<a.length
 ·have hb:i=b.length:=by omega
  rw[List.drop_eq_getElem_cons ha,List.drop_eq_nil_of_le (as:=b) (by omega)]
  simp only[BD,C0]
  rw[if_neg (by omega),if_pos (by omega)]
 ·rw[List.drop_eq_nil_of_le (as:=a) (by omega)]
  by_cases hb:i<b.length
  ·rw[List.drop_eq_getElem_cons hb]
   simp only[BD,C0]
   rw[if_pos (by omega)]
  ·rw[List.drop_eq_nil_of_le (as:=b) (by omega)]
   simp only[BD,C0]
   rw[if_neg (by omega),if_neg (by omega)]
theorem JH {a b:List ByteArray}{i:Nat}(h1:i<a.length) (h2:i<b.length):AF (a.drop i) (b.drop i)=orI (Cy a[i] b[i]) (AF (a.drop (i+1)) (b.drop (i+1))):=by
 rw[List.drop_eq_getElem_cons h1,List.drop_eq_getElem_cons h2]
 rfl
theorem Hu {a b:List ByteArray}{i:Nat}(h1:i≤a.length) (h2:i≤b.length) (h:¬(i<a.length∧i<b.length)):AF (a.drop i) (b.drop i)=C0 a.length b.length:=by
 by_cases ha:i<a.length
 ·have hb:i=b.length:=by omega
  rw[List.drop_eq_getElem_cons ha,List.drop_eq_nil_of_le (as:=b) (by omega)]
  simp only[AF,C0]
  rw[if_neg (by omega),if_pos (by omega)]
 ·rw[List.drop_eq_nil_of_le (as:=a) (by omega)]
  by_cases hb:i<b.length
  ·rw[List.drop_eq_getElem_cons hb]
   simp only[AF,C0]
   rw[if_pos (by omega)]
  ·rw[List.drop_eq_nil_of_le (as:=b) (by omega)]
   simp only[AF,C0]
   rw[if_neg (by omega),if_neg (by omega)]
theorem B6 {t:V}(h:t.wf):0≤t.kind∧t.kind≤6∧(t.kind≠3→t.num=0)∧(t.kind≠4→t.text=ByteArray.empty)∧(t.kind≠6→t.keys=[])∧(t.kind≠5→t.kind≠6→t.kids=[]):=by
 obtain⟨k,n,s,ks,vs⟩:=t
 simp only[V.wf]at h
 obtain⟨h1,h2,_⟩:=h
 simp only[V.kind,V.num,V.text,V.keys,V.kids]
 unfold AP at h1
 split at h1
 ·exact absurd h1 (by decide)
 ·rename_i hk
  split at h1
  ·exact absurd h1 (by decide)
  ·rename_i hf
   unfold cF at hf
   unfold inB at hk
   unfold Cp at hf
   simp only[Bool.not_eq_true',Bool.not_eq_false,Bool.and_eq_true,decide_eq_true_eq,Bool.or_eq_true,not_or,not_and,bne_iff_ne,ne_eq,Bool.not_eq_true,beq_eq_false_iff_ne]at hk hf
   obtain⟨⟨f1,f2⟩,f3⟩:=hf
   refine⟨hk.1,hk.2,fun h=>?_,fun h=>?_,fun h=>?_,fun h5 h6=>?_⟩
   ·by_cases hn:n=0
    ·exact hn
    ·exact absurd (f1 hn) (by simpa using h)
   ·by_cases hs:s.toList=[]
    ·exact Ml hs
    ·have:=f2 (by simpa using hs)
     exact absurd this (by simpa using h)
   ·unfold Ed at h2
    rw[if_neg h]at h2
    exact h2
   ·by_cases hn:(vs.length:Int)=0
    ·exact List.eq_nil_of_length_eq_zero (by omega)
    ·have:=f3 hn
     simp[h5,h6]at this
theorem VT {a b:V}(ha:a.wf) (hb:b.wf) (hk:a.kind=b.kind) (h3:a.kind≠3) (h4:a.kind≠4) (h5:a.kind≠5) (h6:a.kind≠6):a.cmp b=0:=by
 obtain⟨_,_,a1,a2,a3,a4⟩:=B6 ha
 obtain⟨_,_,b1,b2,b3,b4⟩:=B6 hb
 rw[←hk]at b1 b2 b3 b4
 rw[Fu,if_pos hk,a1 h3,b1 h3,a2 h4,b2 h4,a3 h6,b3 h6,a4 h5 h6,b4 h5 h6,Gq,Ie,F2]
 rfl
theorem SU {a b:V}(ha:a.wf) (hb:b.wf) (hk:a.kind=b.kind) (h3:a.kind=3):a.cmp b=C0 a.num b.num:=by
 obtain⟨_,_,a1,a2,a3,a4⟩:=B6 ha
 obtain⟨_,_,b1,b2,b3,b4⟩:=B6 hb
 rw[←hk]at b1 b2 b3 b4
 rw[Fu,if_pos hk,a2 (by omega),b2 (by omega),a3 (by omega),b3 (by omega),a4 (by omega) (by omega),b4 (by omega) (by omega),Ie,F2]
 exact Iw _
theorem XV {a b:V}(ha:a.wf) (hb:b.wf) (hk:a.kind=b.kind) (h4:a.kind=4):a.cmp b=Cy a.text b.text:=by
 obtain⟨_,_,a1,a2,a3,a4⟩:=B6 ha
 obtain⟨_,_,b1,b2,b3,b4⟩:=B6 hb
 rw[←hk]at b1 b2 b3 b4
 rw[Fu,if_pos hk,a1 (by omega),b1 (by omega),a3 (by omega),b3 (by omega),a4 (by omega) (by omega),b4 (by omega) (by omega),Gq,F2]
 exact Iw _
theorem VS {a b:V}(ha:a.wf) (hb:b.wf) (hk:a.kind=b.kind) (h5:a.kind=5):a.cmp b=BD a.kids b.kids:=by
 obtain⟨_,_,a1,a2,a3,a4⟩:=B6 ha
 obtain⟨_,_,b1,b2,b3,b4⟩:=B6 hb
 rw[←hk]at b1 b2 b3 b4
 rw[Fu,if_pos hk,a1 (by omega),b1 (by omega),a2 (by omega),b2 (by omega),a3 (by omega),b3 (by omega),Gq,Ie,F2]
 rfl
theorem SV {a b:V}(ha:a.wf) (hb:b.wf) (hk:a.kind=b.kind) (h6:a.kind=6):a.cmp b=orI (AF a.keys b.keys) (BD a.kids b.kids):=by
 obtain⟨_,_,a1,a2,a3,a4⟩:=B6 ha
 obtain⟨_,_,b1,b2,b3,b4⟩:=B6 hb
 rw[←hk]at b1 b2 b3 b4
 rw[Fu,if_pos hk,a1 (by omega),b1 (by omega),a2 (by omega),b2 (by omega),Gq,Ie]
 rfl
theorem Ft (a b:Int):-1≤C0 a b∧C0 a b≤1:=by
 unfold C0
 repeat' split
 all_goals omega
theorem J6 (a b:ByteArray):-1≤Cy a b∧Cy a b≤1:=by
 unfold Cy
 repeat' split
 all_goals omega
theorem DY {a b:Int}(h1:-1≤a∧a≤1) (h2:-1≤b∧b≤1):-1≤orI a b∧orI a b≤1:=by unfold orI;split<;>assumption
theorem Gb:∀(a b:List ByteArray),-1≤AF a b∧AF a b≤1
 | [],[]=>by simp[AF]
 | [],_::_=>by simp[AF]
 |_::_,[]=>by simp[AF]
 |a::as,b::bs=>DY (J6 a b) (Gb as bs)
mutual
theorem Oe:∀(a b:V),-1≤a.cmp b∧a.cmp b≤1
 | .mk k n t ks vs,b=>by
  unfold V.cmp
  split
  ·exact DY (Ft _ _) (DY (J6 _ _) (DY (Gb _ _) (KR _ _)))
  ·exact Ft _ _
theorem KR:∀(a b:List V),-1≤BD a b∧BD a b≤1
 | [],[]=>by simp[BD]
 | [],_::_=>by simp[BD]
 |_::_,[]=>by simp[BD]
 |a::as,b::bs=>DY (Oe a b) (KR as bs)
end
theorem Et {t:V}(h:t.right) (h6:t.kind=6):(List.range t.kids.length).map t.keyAt=t.keys:=by
 obtain⟨_,_,hl⟩:=DC h h6
 apply List.ext_getElem
 ·simp[hl]
 ·intro i h1 h2
  rw[List.getElem_map,List.getElem_range]
  obtain⟨_,he⟩:=OA (Jv h) h6 (i:=i) (by omega)
  exact he
def DE (l:List ByteArray) (k:ByteArray):Bool:=l.any fun x=>x.toList==k.toList
theorem CV {l:List ByteArray}{k:ByteArray}:DE l k=true↔k∈l:=by
 unfold DE
 rw[List.any_eq_true]
 constructor
 ·rintro⟨x,hx,h⟩
  have:x=k:=AL (by simpa using h)
  rw[←this];exact hx
 ·intro h
  exact⟨k,h,by simp⟩
def C5 (k:ByteArray):List ByteArray→List ByteArray
 | []=>[k]
 |x::r=>if Bh k x then k::x::r else if k.toList==x.toList then x::r else x::C5 k r
def BR (keys:List ByteArray):List ByteArray:=keys.foldl (fun l k=>C5 k l) []
def Up (l:List ByteArray):Prop:=l.Pairwise fun a b=>Bh a b=true
theorem GY (k:ByteArray):∀(l:List ByteArray) (x:ByteArray),x∈C5 k l↔x=k∨x∈l
 | [],x=>by simp[C5]
 |y::r,x=>by
  unfold C5
  split
  ·simp
  ·split
   ·rename_i h
    have:k=y:=AL (by simpa using h)
    subst this
    simp
   ·rw[List.mem_cons,GY k r x,List.mem_cons]
    constructor
    ·rintro (h | h | h)
     ·exact .inr (.inl h)
     ·exact .inl h
     ·exact .inr (.inr h)
    ·rintro (h | h | h)
     ·exact .inr (.inl h)
     ·exact .inl h
     ·exact .inr (.inr h)
theorem OC (a b:ByteArray):Bh a b=true∨a=b∨Bh b a=true:=by
 rcases Dc a.toList b.toList with h | h | h
 ·exact .inl h
 ·exact .inr (.inl (AL h))
 ·exact .inr (.inr h)
theorem Ov (k:ByteArray):∀{l:List ByteArray},Up l→Up (C5 k l)
 | [],_=>by simp[C5,Up]
 |y::r,h=>by
  unfold Up at h
  rw[List.pairwise_cons]at h
  unfold C5
  split
  ·rename_i hl
   refine List.pairwise_cons.2 ⟨fun x hx=>?_,List.pairwise_cons.2 h⟩
   rcases List.mem_cons.1 hx with rfl | hx
   ·exact hl
   ·exact G0 hl (h.1 x hx)
  ·rename_i hl
   split
   ·exact List.pairwise_cons.2 h
   ·rename_i he
    refine List.pairwise_cons.2 ⟨fun x hx=>?_,Ov k h.2⟩
    rcases (GY k r x).1 hx with rfl | hx
    ·rcases OC x y with g | g | g
     ·exact absurd g hl
     ·subst g;exact absurd (by simp) he
     ·exact g
    ·exact h.1 x hx
theorem y9:∀{a b:List ByteArray},Up a→Up b→(∀x,x∈a↔x∈b)→a=b
 | [],[],_,_,_=>rfl
 | [],y::b,_,_,h=>absurd ((h y).2 (by simp)) (by simp)
 |x::a,[],_,_,h=>absurd ((h x).1 (by simp)) (by simp)
 |x::a,y::b,h1,h2,h=>by
  unfold Up at h1 h2
  rw[List.pairwise_cons]at h1 h2
  have no:∀{u v:ByteArray},Bh u v=true→Bh v u=true→False:=fun g1 g2=>by
   have:=G0 g1 g2
   rw[Cn]at this
   cases this
  have hxy:x=y:=by
   rcases List.mem_cons.1 ((h x).1 (by simp)) with e | hx
   ·exact e
   ·rcases List.mem_cons.1 ((h y).2 (by simp)) with e | hy
    ·exact e.symm
    ·exact (no (h1.1 y hy) (h2.1 x hx)).elim
  subst hxy
  congr 1
  refine y9 h1.2 h2.2 fun z=>?_
  constructor
  ·intro hz
   rcases List.mem_cons.1 ((h z).1 (by simp[hz])) with e | hz'
   ·subst e;exact (no (h1.1 z hz) (h1.1 z hz)).elim
   ·exact hz'
  ·intro hz
   rcases List.mem_cons.1 ((h z).2 (by simp[hz])) with e | hz'
   ·subst e;exact (no (h2.1 z hz) (h2.1 z hz)).elim
   ·exact hz'
theorem V6 (keys:List ByteArray):∀(l:List ByteArray),Up l→Up (keys.foldl (fun l k=>C5 k l) l)∧∀x,x∈keys.foldl (fun l k=>C5 k l) l↔x∈keys∨x∈l:=by
 induction keys with
 |nil=>intro l h;exact⟨h,fun x=>by simp⟩
 |cons k r ih =>
  intro l h
  obtain⟨h1,h2⟩:=ih (C5 k l) (Ov k h)
  refine⟨h1,fun x=>?_⟩
  rw[List.foldl_cons,h2,GY,List.mem_cons]
  constructor
  ·rintro (h | h | h)
   ·exact .inl (.inr h)
   ·exact .inl (.inl h)
   ·exact .inr h
  ·rintro ((h | h) | h)
   ·exact .inr (.inl h)
   ·exact .inl h
   ·exact .inr (.inr h)
theorem Jr (keys:List ByteArray):Up (BR keys):=(V6 keys [] (by simp[Up])).1
theorem DX {keys:List ByteArray}{x:ByteArray}:x∈BR keys↔x∈keys:=by
 unfold BR
 rw[(V6 keys [] (by simp[Up])).2]
 simp
theorem Mw (k:ByteArray):∀(l:List ByteArray),(C5 k l).length≤l.length+1
 | []=>by simp[C5]
 |x::r=>by
  unfold C5
  split
  ·simp
  ·split
   ·simp
   ·have:=Mw k r
    simp only[List.length_cons]
    omega
theorem Lj (keys:List ByteArray):(BR keys).length≤keys.length:=by
 have key:∀(keys l:List ByteArray),(keys.foldl (fun l k=>C5 k l) l).length≤keys.length+l.length:=by
  intro keys
  induction keys with
  |nil=>intro l;simp
  |cons k r ih =>
   intro l
   have h1:=ih (C5 k l)
   have h2:=Mw k l
   rw[List.foldl_cons,List.length_cons]
   omega
 have:=key keys []
 unfold BR
 simpa using this
def Bg:List ByteArray→List V→ByteArray→V
 |_::ks,v::vs,x=>if DE ks x then Bg ks vs x else v
 |_,_,_=>BG
theorem Jj:∀{keys:List ByteArray}{kids:List V}{x:ByteArray},keys.length=kids.length→x∈keys→∃j:Nat,keys[j]? = some x∧(∀n:Nat,j<n→keys[n]?≠some x)∧kids[j]? = some (Bg keys kids x)
 | [],_,x,_,h=>absurd h (by simp)
 |k::ks,[],x,h,_=>absurd h (by simp)
 |k::ks,v::vs,x,hl,hx=>by
  have hl':ks.length=vs.length:=by simpa using hl
  unfold Bg
  cases hk:DE ks x with
  |true =>
   obtain⟨j,h1,h2,h3⟩:=Jj hl' (CV.1 hk)
   refine⟨j+1,by simpa using h1,fun n hn=>?_,by simpa using h3⟩
   cases n with
   |zero=>omega
   |succ n=>simpa using h2 n (by omega)
  |false =>
   have hnx:x ∉ ks:=fun h=>by rw[CV.2 h]at hk;cases hk
   have hxk:x=k:=by
    rcases List.mem_cons.1 hx with e | e
    ·exact e
    ·exact absurd e hnx
   subst hxk
   refine⟨0,rfl,fun n hn=>?_,by simp⟩
   cases n with
   |zero=>omega
   |succ n =>
    intro hc
    exact hnx (List.mem_of_getElem? (by simpa using hc))
def Ht (keys:List ByteArray) (kids:List V):V:=.mk 6 0 ByteArray.empty (BR keys) ((BR keys).map (Bg keys kids))
def JB (keys vis:List ByteArray):Nat:=(keys.filter fun k=>!DE vis k).length
theorem Sz {keys vis:List ByteArray}{k:ByteArray}(hk:k∈keys) (hv:k ∉ vis):JB keys (vis++[k])<JB keys vis:=by
 unfold JB
 have key:∀(l:List ByteArray),(l.filter fun x=>!DE (vis++[k]) x).length≤(l.filter fun x=>!DE vis x).length∧(k∈l→(l.filter fun x=>!DE (vis++[k]) x).length<(l.filter fun x=>!DE vis x).length):=by
  intro l
  induction l with
  |nil=>simp
  |cons x r ih =>
   have himp:DE vis x=true→DE (vis++[k]) x=true:=fun h=>CV.2 (by simp[CV.1 h])
   rw[List.filter_cons,List.filter_cons]
   cases h1:DE vis x with
   |true =>
    rw[himp h1]
    simp only[Bool.not_true,Bool.false_eq_true,if_false]
    refine⟨ih.1,fun hm=>?_⟩
    rcases List.mem_cons.1 hm with e | e
    ·subst e;exact absurd (CV.1 h1) hv
    ·exact ih.2 e
   |false =>
    simp only[Bool.not_false,if_true,List.length_cons]
    cases h2:DE (vis++[k]) x with
    |true =>
     simp only[Bool.not_true,Bool.false_eq_true,if_false]
     exact⟨by omega,fun _=>by omega⟩
    |false =>
     simp only[Bool.not_false,if_true,List.length_cons]
     refine⟨by omega,fun hm=>?_⟩
     rcases List.mem_cons.1 hm with e | e
     ·subst e
      rw[CV.2 (by simp)]at h2
      cases h2
     ·have:=ih.2 e;omega
 exact (key keys).2 hk
theorem UM (keys:List ByteArray):JB keys []=keys.length:=by
 unfold JB
 congr 1
 exact List.filter_eq_self.2 fun x _=>by simp[DE]
def GD (l:List ByteArray):List ByteArray:=((l.map fun b=>b.data.toList).mergeSort fun x y=>decide (x≤y)).map fun x=>⟨x.toArray⟩
mutual
def V.fit:V→Prop
 | .mk kind _ text keys kids=>text.size≤200∧(∀k∈keys,k.size≤60)∧(Cp kind=false→kids=[])∧(kind=6→keys.length=kids.length)∧(kind≠6→keys=[])∧NH kids
def NH:List V→Prop
 | []=>True
 |k::ks=>k.fit∧NH ks
end
theorem Mp:∀{l:List V},NH l↔∀v∈l,v.fit
 | []=>by simp[NH]
 |v::l=>by simp only[NH,List.mem_cons,forall_eq_or_imp,Mp (l:=l)]
theorem Ir {s:ByteArray}(h:Br s=true):s.size≤60:=by
 unfold Br at h
 simp only[Bool.and_eq_true,decide_eq_true_eq]at h
 exact h.1
mutual
theorem T8:∀(t:V),t.wf→t.fit
 | .mk kind num text keys kids,h=>by
  have hn:=Q0 _ h
  obtain⟨h1,h2,h3⟩:=h
  have ht:=(Ih (c:=⟨kind,num,text,ByteArray.empty,kids.length⟩) h1).1
  unfold Ed at h2
  refine⟨Nat.le_trans (Ir ht) (by decide),fun k hk=>?_,hn.1,hn.2.1,fun h6=>?_,V5 kids h3⟩
  ·by_cases h6:kind=6
   ·rw[if_pos h6]at h2
    exact Ir (h2.2.1 k hk)
   ·rw[if_neg h6]at h2
    rw[h2]at hk
    simp at hk
  ·rw[if_neg h6]at h2
   exact h2
theorem V5:∀(l:List V),wfL l→NH l
 | [],_=>trivial
 |v::l,h=>⟨T8 v h.1,V5 l h.2⟩
end
mutual
theorem Mr:∀(t:V),t.fit→t.neat
 | .mk kind num text keys kids,h=>⟨h.2.2.1,h.2.2.2.1,Ok kids h.2.2.2.2.2⟩
theorem Ok:∀(l:List V),NH l→OJ l
 | [],_=>trivial
 |v::l,h=>⟨Mr v h.1,Ok l h.2⟩
end
mutual
theorem Ol:∀(t:V) (key:ByteArray),t.fit→key.size≤60→∀c∈t.cells key,c.text.size≤200∧c.key.size≤60
 | .mk kind num text keys kids,key,h,hk,c,hc=>by
  rcases List.mem_cons.1 hc with rfl | hc
  ·exact⟨h.1,hk⟩
  ·exact Mq kids kind keys h.2.1 h.2.2.2.2.2 c hc
theorem Mq:∀(l:List V) (kind:Int) (keys:List ByteArray),(∀k∈keys,k.size≤60)→NH l→∀c∈BP kind keys l,c.text.size≤200∧c.key.size≤60
 | [],_,_,_,_,c,hc=>by simp[BP]at hc
 |v::l,kind,keys,hk,h,c,hc=>by
  rcases List.mem_append.1 hc with hc | hc
  ·refine Ol v _ h.1 ?_ c hc
   split
   ·cases keys with
    |nil=>exact Nat.zero_le _
    |cons k ks=>exact hk k (by simp)
   ·exact Nat.zero_le _
  ·exact Mq l kind keys.tail (fun k hk'=>hk k (List.mem_of_mem_tail hk')) h.2 c hc
end
mutual
theorem O9:∀(t t':V) (key key':ByteArray) (r r':List CellD),t.fit→t'.fit→t.cells key++r=t'.cells key'++r'→t=t'∧key=key'∧r=r'
 | .mk kind num text keys kids,.mk kind' num' text' keys' kids',key,key',r,r',h,h',he=>by
  simp only[V.cells,List.cons_append,List.cons.injEq,CellD.mk.injEq]at he
  obtain⟨⟨rfl,rfl,rfl,rfl,hl⟩,he⟩:=he
  obtain⟨rfl,rfl,rfl⟩:=J5 kids kids' kind keys keys' r r' (by omega) (fun h6=>⟨h.2.2.2.1 h6,h'.2.2.2.1 h6⟩) (fun h6=>⟨h.2.2.2.2.1 h6,h'.2.2.2.2.1 h6⟩) h.2.2.2.2.2 h'.2.2.2.2.2 he
  exact⟨rfl,rfl,rfl⟩
theorem J5:∀(l l':List V) (kind:Int) (keys keys':List ByteArray) (r r':List CellD),l.length=l'.length→(kind=6→keys.length=l.length∧keys'.length=l'.length)→(kind≠6→keys=[]∧keys'=[])→NH l→NH l'→BP kind keys l++r=BP kind keys' l'++r'→keys=keys'∧l=l'∧r=r'
 | [],[],kind,keys,keys',r,r',_,h6,hn,_,_,he=>by
  by_cases h:kind=6
  ·have:=h6 h
   exact⟨by rw[List.eq_nil_of_length_eq_zero this.1,List.eq_nil_of_length_eq_zero this.2],rfl,he⟩
  ·exact⟨by rw[(hn h).1,(hn h).2],rfl,he⟩
 | [],_::_,_,_,_,_,_,hl,_,_,_,_,_=>by simp at hl
 |_::_,[],_,_,_,_,_,hl,_,_,_,_,_=>by simp at hl
 |v::l,v'::l',kind,keys,keys',r,r',hl,h6,hn,h,h',he=>by
  simp only[BP,List.append_assoc]at he
  obtain⟨rfl,hk,he⟩:=O9 v v' _ _ _ _ h.1 h'.1 he
  by_cases hk6:kind=6
  ·obtain⟨q1,q2⟩:=h6 hk6
   cases keys with
   |nil=>simp at q1
   |cons k ks=>cases keys' with
    |nil=>simp at q2
    |cons k' ks' =>
     rw[if_pos hk6,if_pos hk6]at hk
     have hk':k=k':=hk
     subst hk'
     obtain⟨rfl,rfl,rfl⟩:=J5 l l' kind ks ks' r r' (by simpa using hl) (fun _=>⟨by simpa using q1,by simpa using q2⟩) (fun e=>absurd hk6 e) h.2 h'.2 he
     exact⟨rfl,rfl,rfl⟩
  ·obtain⟨rfl,rfl⟩:=hn hk6
   obtain⟨_,rfl,rfl⟩:=J5 l l' kind [] [] r r' (by simpa using hl) (fun e=>absurd e hk6) (fun _=>⟨rfl,rfl⟩) h.2 h'.2 he
   exact⟨rfl,rfl,rfl⟩
end
theorem ZK {t:V}(h:t.fit) (h0:(dec t.enc).1=0):t.right:=by
 rcases Gu t.enc with⟨u,hu⟩ | ⟨c,hc,hd⟩
 ·obtain⟨h1,h2,h3,h4⟩:=SX hu
  obtain⟨rfl,_,_⟩:=O9 t u ByteArray.empty ByteArray.empty [] [] h (T8 u h2) (by rw[List.append_nil,List.append_nil];exact h1)
  exact⟨h2,h3,h4⟩
 ·rw[hd]at h0
  exact absurd h0 hc
theorem Kw {t:V}(h:t.fit):∀c∈t.enc,c.text.size≤9223372036854775807∧c.key.size≤9223372036854775807:=fun c hc=>by
 have:=Ol t ByteArray.empty h (Nat.zero_le _) c hc
 omega
theorem Cx {t:V}(h:t.right):t.fit:=T8 t h.1
def CM (t:V):Int×Option V:=if (dec t.enc).1=0 then (0,some t) else ((dec t.enc).1,none)
theorem a1p {ks:List ByteArray}(h:Up ks) {i j:Nat}{x:ByteArray}(hi:ks[i]? = some x) (hj:ks[j]? = some x):i=j:=by
 unfold Up at h
 rw[List.pairwise_iff_getElem]at h
 obtain⟨h1,e1⟩:=List.getElem?_eq_some_iff.1 hi
 obtain⟨h2,e2⟩:=List.getElem?_eq_some_iff.1 hj
 rcases Nat.lt_trichotomy i j with g | g | g
 ·have:=h i j h1 h2 g
  rw[e1,e2,Cn]at this
  cases this
 ·exact g
 ·have:=h j i h2 h1 g
  rw[e1,e2,Cn]at this
  cases this
theorem Yb {a:V}(h:a.fit):∀k∈a.keys,k.size≤60:=by cases a;exact h.2.1
theorem GP (a b:List V):Am (a++b)=Am a+Am b:=by
 induction a with
 |nil=>simp[Am]
 |cons x a ih=>simp only[List.cons_append,Am,ih];omega
theorem Ow {g g':ByteArray→V}{k:ByteArray}:∀{l:List ByteArray},Up l→(∀x∈l,x≠k→g' x=g x)→Am ((C5 k l).map g')≤Am (l.map g)+(g' k).count
 | [],_,_=>by simp[C5,Am]
 |x::r,hu,h=>by
  unfold Up at hu
  rw[List.pairwise_cons]at hu
  have hne:∀{u v:ByteArray},Bh u v=true→v≠u:=fun hl e=>by subst e;rw[Cn]at hl;cases hl
  unfold C5
  split
  ·rename_i hl
   have e:(x::r).map g'=(x::r).map g:=List.map_congr_left fun y hy=>h y hy (by
    rcases List.mem_cons.1 hy with rfl | hy
    ·exact hne hl
    ·exact hne (G0 hl (hu.1 y hy)))
   rw[List.map_cons,Am,e]
   omega
  ·split
   ·rename_i he
    have hx:k=x:=AL (by simpa using he)
    have e:r.map g'=r.map g:=List.map_congr_left fun y hy=>h y (by simp[hy]) (by rw[hx];exact hne (hu.1 y hy))
    rw[List.map_cons,List.map_cons,Am,Am,e,←hx]
    omega
   ·rename_i he
    have hx:x≠k:=fun e=>he (by rw[e];simp)
    have:=Ow (g:=g) (g':=g') (k:=k) hu.2 fun y hy=>h y (by simp[hy])
    rw[List.map_cons,List.map_cons,Am,Am,h x (by simp) hx]
    omega
theorem Ef:∀{ks:List ByteArray}{vs:List V}{k:ByteArray}{v:V}{x:ByteArray},ks.length=vs.length→(x=k∨x∈ks)→Bg (ks++[k]) (vs++[v]) x=if x=k then v else Bg ks vs x
 | [],[],k,v,x,_,hx=>by
  have hxk:x=k:=by simpa using hx
  rw[if_pos hxk]
  simp[Bg,DE]
 | [],_::_,_,_,_,h,_=>by simp at h
 |_::_,[],_,_,_,h,_=>by simp at h
 |k0::ks,v0::vs,k,v,x,h,hx=>by
  have hl:ks.length=vs.length:=by simpa using h
  simp only[List.cons_append,Bg]
  have hh:DE (ks++[k]) x=true↔x∈ks∨x=k:=by rw[CV];simp
  by_cases hxk:x=k
  ·rw[if_pos hxk,if_pos (hh.2 (.inr hxk)),Ef hl (.inl hxk),if_pos hxk]
  ·rw[if_neg hxk]
   by_cases hm:x∈ks
   ·rw[if_pos (hh.2 (.inl hm)),if_pos (CV.2 hm),Ef hl (.inr hm),if_neg hxk]
   ·rw[if_neg (fun hc=>(hh.1 hc).elim hm hxk),if_neg (fun hc=>hm (CV.1 hc))]
theorem Kg (ks:List ByteArray) (k:ByteArray):BR (ks++[k])=C5 k (BR ks):=by
 unfold BR
 rw[List.foldl_append]
 rfl
theorem H6:∀(n:Nat) (ks:List ByteArray) (vs:List V),ks.length=n→vs.length=n→Am ((BR ks).map (Bg ks vs))≤Am vs
 | 0,ks,vs,h1,h2=>by
  rw[List.eq_nil_of_length_eq_zero h1]
  simp[BR,Am]
 |n+1,ks,vs,h1,h2=>by
  rcases List.eq_nil_or_concat ks with rfl | ⟨ks',k,rfl⟩
  ·simp at h1
  ·rcases List.eq_nil_or_concat vs with rfl | ⟨vs',v,rfl⟩
   ·simp at h2
   ·simp only[List.concat_eq_append,List.length_append,List.length_singleton]at h1 h2 ⊢
    have hl:ks'.length=vs'.length:=by omega
    have ih:=H6 n ks' vs' (by omega) (by omega)
    rw[Kg,GP]
    have hins:=Ow (g:=Bg ks' vs') (g':=Bg (ks'++[k]) (vs'++[v])) (k:=k) (Jr ks') fun x hx hne=>by
     rw[Ef hl (.inr (DX.1 hx)),if_neg hne]
    rw[Ef hl (.inl rfl),if_pos rfl]at hins
    simp only[Am]
    omega
end Go.Proofs.YtcejfdfmgmcinaaGreat
