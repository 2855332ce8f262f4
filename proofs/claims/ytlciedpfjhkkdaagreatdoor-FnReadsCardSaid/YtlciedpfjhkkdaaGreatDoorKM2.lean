/- Texts of this proof: M08 M09 M10 M15 M16 M18 M19. -/
import Derived.Test.YtlciedpfjhkkdaaGreatDoorKM1
set_option linter.all false
namespace Go.Proofs.YtlciedpfjhkkdaaGreatDoor
open Go.RowKit
def V.right (t:V):Prop:=t.wf∧t.count≤200∧t.depth≤20
theorem ByteArray_toList_inj {a b:ByteArray}(h:a.toList=b.toList):a=b:=by
 rw[ByteArray.toList_eq,ByteArray.toList_eq]at h
 cases a;cases b
 simp at h
 rw[h]
theorem right_mem {t:V}(h:t.right) {k:V}(hk:k∈t.kids):k.right:=by
 obtain⟨h1,h2,h3⟩:=h
 have h4:=countL_mem hk
 have h5:=count_kids t
 have h6:=depthL_mem hk
 have h7:=depth_kids t
 exact⟨wfL_mem (wf_kids h1) k hk,by omega,by omega⟩
theorem right_neat {t:V}(h:t.right):t.neat:=neat_wf t h.1
theorem right_dec {t:V}(h:t.right):dec t.enc=(0,some t):=dec_enc h.1 h.2.1 h.2.2
def okR (t:V):Int×Option V:=(0,some t)
def badR (c:Int):Int×Option V:=(c,none)
def lessB (a b:ByteArray):Bool:=Op.bytesLess a.toList b.toList
theorem bytesLess_irrefl:∀(l:List UInt8),Op.bytesLess l l=false
 | []=>rfl
 |x::l=>by simp[Op.bytesLess,bytesLess_irrefl l]
theorem bytesLess_trans:∀{a b c:List UInt8},Op.bytesLess a b=true→Op.bytesLess b c=true→Op.bytesLess a c=true
 | [],_,c::cs,h1,h2=>rfl
 | [],b,[],h1,h2=>by cases b<;>simp[Op.bytesLess]at h1 h2
 |x::a,[],_,h1,_=>by simp[Op.bytesLess]at h1
 |x::a,y::b,[],_,h2=>by simp[Op.bytesLess]at h2
 |x::a,y::b,z::c,h1,h2=>by
  simp only[Op.bytesLess,Bool.or_eq_true,decide_eq_true_eq,Bool.and_eq_true,beq_iff_eq]at h1 h2 ⊢
  rcases h1 with h1 | ⟨rfl,h1⟩
  ·rcases h2 with h2 | ⟨rfl,h2⟩
   ·exact .inl (UInt8.lt_trans h1 h2)
   ·exact .inl h1
  ·rcases h2 with h2 | ⟨rfl,h2⟩
   ·exact .inl h2
   ·exact .inr ⟨rfl,bytesLess_trans h1 h2⟩
theorem bytesLess_tri:∀(a b:List UInt8),Op.bytesLess a b=true∨a=b∨Op.bytesLess b a=true
 | [],[]=>.inr (.inl rfl)
 | [],_::_=>.inl rfl
 |_::_,[]=>.inr (.inr rfl)
 |x::a,y::b=>by
  simp only[Op.bytesLess,Bool.or_eq_true,decide_eq_true_eq,Bool.and_eq_true,beq_iff_eq]
  by_cases hxy:x<y
  ·exact .inl (.inl hxy)
  ·by_cases hyx:y<x
   ·exact .inr (.inr (.inl hyx))
   ·have:x=y:=by
     apply UInt8.toNat_inj.1
     have h1:¬x.toNat<y.toNat:=fun h=>hxy (UInt8.lt_iff_toNat_lt.2 h)
     have h2:¬y.toNat<x.toNat:=fun h=>hyx (UInt8.lt_iff_toNat_lt.2 h)
     omega
    subst this
    rcases bytesLess_tri a b with h | rfl | h
    ·exact .inl (.inr ⟨rfl,h⟩)
    ·exact .inr (.inl rfl)
    ·exact .inr (.inr (.inr ⟨rfl,h⟩))
theorem lessB_trans {a b c:ByteArray}(h1:lessB a b=true) (h2:lessB b c=true):lessB a c=true:=bytesLess_trans h1 h2
theorem lessB_irrefl (a:ByteArray):lessB a a=false:=bytesLess_irrefl _
theorem asc_from:∀{ks:List ByteArray}{p:ByteArray},asc (some p) ks→∀{i:Nat}(hi:i<ks.length),lessB p ks[i]=true
 | [],_,_,i,hi=>by simp at hi
 |k::ks,p,h,0,_=>h.1
 |k::ks,p,h,i+1,hi=>by
  have:=asc_from h.2 (i:=i) (by simpa using hi)
  simp only[List.getElem_cons_succ]
  exact lessB_trans h.1 this
theorem asc_sorted:∀{ks:List ByteArray}{o:Option ByteArray},asc o ks→∀{i j:Nat}(hij:i<j) (hj:j<ks.length),lessB (ks[i]'(by omega)) ks[j]=true
 | [],_,_,i,j,_,hj=>by simp at hj
 |k::ks,o,h,0,j+1,_,hj=>by
  have h':asc (some k) ks:=by
   cases o with
   |none=>exact h
   |some p=>exact h.2
  simp only[List.getElem_cons_zero,List.getElem_cons_succ]
  exact asc_from h' (by simpa using hj)
 |k::ks,o,h,i+1,j+1,hij,hj=>by
  have h':asc (some k) ks:=by
   cases o with
   |none=>exact h
   |some p=>exact h.2
  simp only[List.getElem_cons_succ]
  exact asc_sorted h' (by omega) (by simpa using hj)
theorem right_asc {t:V}(h:t.right) (h6:t.kind=6):asc none t.keys∧(∀k∈t.keys,okText k=true)∧t.keys.length=t.kids.length:=by
 obtain⟨hw,_,_⟩:=h
 cases t
 simp only[V.wf,keysOk]at hw
 simp only[V.kind]at h6
 rw[if_pos h6]at hw
 exact⟨hw.2.1.2.2,hw.2.1.2.1,hw.2.1.1⟩
theorem arr_wf {l:List V}(h:wfL l) (hl:l.length≤200):(arrV l).wf:=by
 refine⟨?_,by simp[keysOk],h⟩
 unfold cellCode
 have h1:inB 5 0 6=true:=by decide
 have h2:inB (l.length:Int) 0 200=true:=by unfold inB;simp;omega
 simp[h1,cF,cR,cT,okText_empty,holds,h2,inB]
 omega
def cmpI (a b:Int):Int:=if a<b then -1 else if b<a then 1 else 0
def cmpB (a b:ByteArray):Int:=if lessB a b then -1 else if a.toList==b.toList then 0 else 1
def orI (a b:Int):Int:=if a=0 then b else a
def cmpKeys:List ByteArray→List ByteArray→Int
 | [],[]=>0
 | [],_::_=>-1
 |_::_,[]=>1
 |a::as,b::bs=>orI (cmpB a b) (cmpKeys as bs)
mutual
def V.cmp:V→V→Int
 | .mk k n t ks vs,b=>if k=b.kind then orI (cmpI n b.num) (orI (cmpB t b.text) (orI (cmpKeys ks b.keys) (cmpLV vs b.kids))) else cmpI k b.kind
def cmpLV:List V→List V→Int
 | [],[]=>0
 | [],_::_=>-1
 |_::_,[]=>1
 |a::as,b::bs=>orI (a.cmp b) (cmpLV as bs)
end
theorem cmp_eq (a b:V):a.cmp b=if a.kind=b.kind then orI (cmpI a.num b.num) (orI (cmpB a.text b.text) (orI (cmpKeys a.keys b.keys) (cmpLV a.kids b.kids))) else cmpI a.kind b.kind:=by cases a;rfl
theorem orI_zero (a:Int):orI 0 a=a:=rfl
theorem orI_right (a:Int):orI a 0=a:=by unfold orI;split<;>simp_all
theorem orI_assoc (a b c:Int):orI (orI a b) c=orI a (orI b c):=by
 unfold orI
 by_cases h:a=0<;>simp[h]
theorem orI_ne {a:Int}(h:a≠0) (b:Int):orI a b=a:=if_neg h
theorem orI_null {a b:Int}:orI a b=0↔a=0∧b=0:=by
 unfold orI
 split
 ·rename_i h;simp[h]
 ·rename_i h;simp[h]
theorem cmpI_null {a b:Int}:cmpI a b=0↔a=b:=by
 unfold cmpI
 repeat' split
 all_goals omega
theorem cmpB_null {a b:ByteArray}:cmpB a b=0↔a=b:=by
 unfold cmpB
 constructor
 ·intro h
  split at h
  ·cases h
  ·split at h
   ·rename_i h2
    exact ByteArray_toList_inj (by simpa using h2)
   ·cases h
 ·rintro rfl
  rw[lessB_irrefl]
  simp
theorem cmpKeys_null:∀{a b:List ByteArray},cmpKeys a b=0↔a=b
 | [],[]=>by simp[cmpKeys]
 | [],_::_=>by simp[cmpKeys]
 |_::_,[]=>by simp[cmpKeys]
 |a::as,b::bs=>by
  unfold cmpKeys
  rw[orI_null,cmpB_null,cmpKeys_null]
  simp
mutual
theorem cmp_null:∀{a b:V},a.cmp b=0↔a=b
 | .mk k n t ks vs,.mk k' n' t' ks' vs'=>by
  have hv:=@cmpLV_null vs vs'
  by_cases h:k=k'
  ·have e:(V.mk k n t ks vs).cmp (.mk k' n' t' ks' vs')=orI (cmpI n n') (orI (cmpB t t') (orI (cmpKeys ks ks') (cmpLV vs vs'))):=by
    rw[cmp_eq]
    exact if_pos h
   rw[e,orI_null,orI_null,orI_null,cmpI_null,cmpB_null,cmpKeys_null,hv]
   simp[h]
  ·have e:(V.mk k n t ks vs).cmp (.mk k' n' t' ks' vs')=cmpI k k':=by
    rw[cmp_eq]
    exact if_neg h
   rw[e,cmpI_null]
   simp[h]
theorem cmpLV_null:∀{a b:List V},cmpLV a b=0↔a=b
 | [],[]=>by simp[cmpLV]
 | [],_::_=>by simp[cmpLV]
 |_::_,[]=>by simp[cmpLV]
 |a::as,b::bs=>by
  unfold cmpLV
  rw[orI_null,cmp_null,cmpLV_null]
  simp
end
theorem cmpLV_drop {a b:List V}{i:Nat}(h1:i<a.length) (h2:i<b.length):cmpLV (a.drop i) (b.drop i)=orI (a[i].cmp b[i]) (cmpLV (a.drop (i+1)) (b.drop (i+1))):=by
 rw[List.drop_eq_getElem_cons h1,List.drop_eq_getElem_cons h2]
 rfl
theorem cmpLV_end {a b:List V}{i:Nat}(h1:i≤a.length) (h2:i≤b.length) (h:¬(i<a.length∧i<b.length)):cmpLV (a.drop i) (b.drop i)=cmpI a.length b.length:=by
 by_cases ha:i<a.length
 ·have hb:i=b.length:=by omega
  rw[List.drop_eq_getElem_cons ha,List.drop_eq_nil_of_le (as:=b) (by omega)]
  simp only[cmpLV,cmpI]
  rw[if_neg (by omega),if_pos (by omega)]
 ·rw[List.drop_eq_nil_of_le (as:=a) (by omega)]
  by_cases hb:i<b.length
  ·rw[List.drop_eq_getElem_cons hb]
   simp only[cmpLV,cmpI]
   rw[if_pos (by omega)]
  ·rw[List.drop_eq_nil_of_le (as:=b) (by omega)]
   simp only[cmpLV,cmpI]
   rw[if_neg (by omega),if_neg (by omega)]
theorem cmpKeys_drop {a b:List ByteArray}{i:Nat}(h1:i<a.length) (h2:i<b.length):cmpKeys (a.drop i) (b.drop i)=orI (cmpB a[i] b[i]) (cmpKeys (a.drop (i+1)) (b.drop (i+1))):=by
 rw[List.drop_eq_getElem_cons h1,List.drop_eq_getElem_cons h2]
 rfl
theorem cmpKeys_end {a b:List ByteArray}{i:Nat}(h1:i≤a.length) (h2:i≤b.length) (h:¬(i<a.length∧i<b.length)):cmpKeys (a.drop i) (b.drop i)=cmpI a.length b.length:=by
 by_cases ha:i<a.length
 ·have hb:i=b.length:=by omega
  rw[List.drop_eq_getElem_cons ha,List.drop_eq_nil_of_le (as:=b) (by omega)]
  simp only[cmpKeys,cmpI]
  rw[if_neg (by omega),if_pos (by omega)]
 ·rw[List.drop_eq_nil_of_le (as:=a) (by omega)]
  by_cases hb:i<b.length
  ·rw[List.drop_eq_getElem_cons hb]
   simp only[cmpKeys,cmpI]
   rw[if_pos (by omega)]
  ·rw[List.drop_eq_nil_of_le (as:=b) (by omega)]
   simp only[cmpKeys,cmpI]
   rw[if_neg (by omega),if_neg (by omega)]
theorem right_shape {t:V}(h:t.wf):0≤t.kind∧t.kind≤6∧(t.kind≠3→t.num=0)∧(t.kind≠4→t.text=ByteArray.empty)∧(t.kind≠6→t.keys=[])∧(t.kind≠5→t.kind≠6→t.kids=[]):=by
 obtain⟨k,n,s,ks,vs⟩:=t
 simp only[V.wf]at h
 obtain⟨h1,h2,_⟩:=h
 simp only[V.kind,V.num,V.text,V.keys,V.kids]
 unfold cellCode at h1
 split at h1
 ·exact absurd h1 (by decide)
 ·rename_i hk
  split at h1
  ·exact absurd h1 (by decide)
  ·rename_i hf
   unfold cF at hf
   unfold inB at hk
   unfold holds at hf
   simp only[Bool.not_eq_true',Bool.not_eq_false,Bool.and_eq_true,decide_eq_true_eq,Bool.or_eq_true,not_or,not_and,bne_iff_ne,ne_eq,Bool.not_eq_true,beq_eq_false_iff_ne]at hk hf
   obtain⟨⟨f1,f2⟩,f3⟩:=hf
   refine⟨hk.1,hk.2,fun h=>?_,fun h=>?_,fun h=>?_,fun h5 h6=>?_⟩
   ·by_cases hn:n=0
    ·exact hn
    ·exact absurd (f1 hn) (by simpa using h)
   ·by_cases hs:s.toList=[]
    ·exact empty_of hs
    ·have:=f2 (by simpa using hs)
     exact absurd this (by simpa using h)
   ·unfold keysOk at h2
    rw[if_neg h]at h2
    exact h2
   ·by_cases hn:(vs.length:Int)=0
    ·exact List.eq_nil_of_length_eq_zero (by omega)
    ·have:=f3 hn
     simp[h5,h6]at this
theorem cmpI_range (a b:Int):-1≤cmpI a b∧cmpI a b≤1:=by
 unfold cmpI
 repeat' split
 all_goals omega
theorem cmpB_range (a b:ByteArray):-1≤cmpB a b∧cmpB a b≤1:=by
 unfold cmpB
 repeat' split
 all_goals omega
theorem orI_range {a b:Int}(h1:-1≤a∧a≤1) (h2:-1≤b∧b≤1):-1≤orI a b∧orI a b≤1:=by unfold orI;split<;>assumption
theorem cmpKeys_range:∀(a b:List ByteArray),-1≤cmpKeys a b∧cmpKeys a b≤1
 | [],[]=>by simp[cmpKeys]
 | [],_::_=>by simp[cmpKeys]
 |_::_,[]=>by simp[cmpKeys]
 |a::as,b::bs=>orI_range (cmpB_range a b) (cmpKeys_range as bs)
mutual
theorem cmp_range:∀(a b:V),-1≤a.cmp b∧a.cmp b≤1
 | .mk k n t ks vs,b=>by
  unfold V.cmp
  split
  ·exact orI_range (cmpI_range _ _) (orI_range (cmpB_range _ _) (orI_range (cmpKeys_range _ _) (cmpLV_range _ _)))
  ·exact cmpI_range _ _
theorem cmpLV_range:∀(a b:List V),-1≤cmpLV a b∧cmpLV a b≤1
 | [],[]=>by simp[cmpLV]
 | [],_::_=>by simp[cmpLV]
 |_::_,[]=>by simp[cmpLV]
 |a::as,b::bs=>orI_range (cmp_range a b) (cmpLV_range as bs)
end
def hasKey (l:List ByteArray) (k:ByteArray):Bool:=l.any fun x=>x.toList==k.toList
theorem hasKey_iff {l:List ByteArray}{k:ByteArray}:hasKey l k=true↔k∈l:=by
 unfold hasKey
 rw[List.any_eq_true]
 constructor
 ·rintro⟨x,hx,h⟩
  have:x=k:=ByteArray_toList_inj (by simpa using h)
  rw[←this];exact hx
 ·intro h
  exact⟨k,h,by simp⟩
def insKey (k:ByteArray):List ByteArray→List ByteArray
 | []=>[k]
 |x::r=>if lessB k x then k::x::r else if k.toList==x.toList then x::r else x::insKey k r
def objKeys (keys:List ByteArray):List ByteArray:=keys.foldl (fun l k=>insKey k l) []
def Up (l:List ByteArray):Prop:=l.Pairwise fun a b=>lessB a b=true
theorem insKey_mem (k:ByteArray):∀(l:List ByteArray) (x:ByteArray),x∈insKey k l↔x=k∨x∈l
 | [],x=>by simp[insKey]
 |y::r,x=>by
  unfold insKey
  split
  ·simp
  ·split
   ·rename_i h
    have:k=y:=ByteArray_toList_inj (by simpa using h)
    subst this
    simp
   ·rw[List.mem_cons,insKey_mem k r x,List.mem_cons]
    constructor
    ·rintro (h | h | h)
     ·exact .inr (.inl h)
     ·exact .inl h
     ·exact .inr (.inr h)
    ·rintro (h | h | h)
     ·exact .inr (.inl h)
     ·exact .inl h
     ·exact .inr (.inr h)
theorem lessB_tri (a b:ByteArray):lessB a b=true∨a=b∨lessB b a=true:=by
 rcases bytesLess_tri a.toList b.toList with h | h | h
 ·exact .inl h
 ·exact .inr (.inl (ByteArray_toList_inj h))
 ·exact .inr (.inr h)
theorem insKey_up (k:ByteArray):∀{l:List ByteArray},Up l→Up (insKey k l)
 | [],_=>by simp[insKey,Up]
 |y::r,h=>by
  unfold Up at h
  rw[List.pairwise_cons]at h
  unfold insKey
  split
  ·rename_i hl
   refine List.pairwise_cons.2 ⟨fun x hx=>?_,List.pairwise_cons.2 h⟩
   rcases List.mem_cons.1 hx with rfl | hx
   ·exact hl
   ·exact lessB_trans hl (h.1 x hx)
  ·rename_i hl
   split
   ·exact List.pairwise_cons.2 h
   ·rename_i he
    refine List.pairwise_cons.2 ⟨fun x hx=>?_,insKey_up k h.2⟩
    rcases (insKey_mem k r x).1 hx with rfl | hx
    ·rcases lessB_tri x y with g | g | g
     ·exact absurd g hl
     ·subst g;exact absurd (by simp) he
     ·exact g
    ·exact h.1 x hx
theorem up_eq:∀{a b:List ByteArray},Up a→Up b→(∀x,x∈a↔x∈b)→a=b
 | [],[],_,_,_=>rfl
 | [],y::b,_,_,h=>absurd ((h y).2 (by simp)) (by simp)
 |x::a,[],_,_,h=>absurd ((h x).1 (by simp)) (by simp)
 |x::a,y::b,h1,h2,h=>by
  unfold Up at h1 h2
  rw[List.pairwise_cons]at h1 h2
  have no:∀{u v:ByteArray},lessB u v=true→lessB v u=true→False:=fun g1 g2=>by
   have:=lessB_trans g1 g2
   rw[lessB_irrefl]at this
   cases this
  have hxy:x=y:=by
   rcases List.mem_cons.1 ((h x).1 (by simp)) with e | hx
   ·exact e
   ·rcases List.mem_cons.1 ((h y).2 (by simp)) with e | hy
    ·exact e.symm
    ·exact (no (h1.1 y hy) (h2.1 x hx)).elim
  subst hxy
  congr 1
  refine up_eq h1.2 h2.2 fun z=>?_
  constructor
  ·intro hz
   rcases List.mem_cons.1 ((h z).1 (by simp[hz])) with e | hz'
   ·subst e;exact (no (h1.1 z hz) (h1.1 z hz)).elim
   ·exact hz'
  ·intro hz
   rcases List.mem_cons.1 ((h z).2 (by simp[hz])) with e | hz'
   ·subst e;exact (no (h2.1 z hz) (h2.1 z hz)).elim
   ·exact hz'
theorem foldIns (keys:List ByteArray):∀(l:List ByteArray),Up l→Up (keys.foldl (fun l k=>insKey k l) l)∧∀x,x∈keys.foldl (fun l k=>insKey k l) l↔x∈keys∨x∈l:=by
 induction keys with
 |nil=>intro l h;exact⟨h,fun x=>by simp⟩
 |cons k r ih =>
  intro l h
  obtain⟨h1,h2⟩:=ih (insKey k l) (insKey_up k h)
  refine⟨h1,fun x=>?_⟩
  rw[List.foldl_cons,h2,insKey_mem,List.mem_cons]
  constructor
  ·rintro (h | h | h)
   ·exact .inl (.inr h)
   ·exact .inl (.inl h)
   ·exact .inr h
  ·rintro ((h | h) | h)
   ·exact .inr (.inl h)
   ·exact .inl h
   ·exact .inr (.inr h)
theorem objKeys_up (keys:List ByteArray):Up (objKeys keys):=(foldIns keys [] (by simp[Up])).1
theorem objKeys_mem {keys:List ByteArray}{x:ByteArray}:x∈objKeys keys↔x∈keys:=by
 unfold objKeys
 rw[(foldIns keys [] (by simp[Up])).2]
 simp
theorem insKey_len (k:ByteArray):∀(l:List ByteArray),(insKey k l).length≤l.length+1
 | []=>by simp[insKey]
 |x::r=>by
  unfold insKey
  split
  ·simp
  ·split
   ·simp
   ·have:=insKey_len k r
    simp only[List.length_cons]
    omega
theorem objKeys_len (keys:List ByteArray):(objKeys keys).length≤keys.length:=by
 have key:∀(keys l:List ByteArray),(keys.foldl (fun l k=>insKey k l) l).length≤keys.length+l.length:=by
  intro keys
  induction keys with
  |nil=>intro l;simp
  |cons k r ih =>
   intro l
   have h1:=ih (insKey k l)
   have h2:=insKey_len k l
   rw[List.foldl_cons,List.length_cons]
   omega
 have:=key keys []
 unfold objKeys
 simpa using this
def lastKid:List ByteArray→List V→ByteArray→V
 |_::ks,v::vs,x=>if hasKey ks x then lastKid ks vs x else v
 |_,_,_=>nullV
theorem lastKid_at:∀{keys:List ByteArray}{kids:List V}{x:ByteArray},keys.length=kids.length→x∈keys→∃j:Nat,keys[j]? = some x∧(∀n:Nat,j<n→keys[n]?≠some x)∧kids[j]? = some (lastKid keys kids x)
 | [],_,x,_,h=>absurd h (by simp)
 |k::ks,[],x,h,_=>absurd h (by simp)
 |k::ks,v::vs,x,hl,hx=>by
  have hl':ks.length=vs.length:=by simpa using hl
  unfold lastKid
  cases hk:hasKey ks x with
  |true =>
   obtain⟨j,h1,h2,h3⟩:=lastKid_at hl' (hasKey_iff.1 hk)
   refine⟨j+1,by simpa using h1,fun n hn=>?_,by simpa using h3⟩
   cases n with
   |zero=>omega
   |succ n=>simpa using h2 n (by omega)
  |false =>
   have hnx:x ∉ ks:=fun h=>by rw[hasKey_iff.2 h]at hk;cases hk
   have hxk:x=k:=by
    rcases List.mem_cons.1 hx with e | e
    ·exact e
    ·exact absurd e hnx
   subst hxk
   refine⟨0,rfl,fun n hn=>?_,by simp⟩
   cases n with
   |zero=>omega
   |succ n =>
    intro hc
    exact hnx (List.mem_of_getElem? (by simpa using hc))
def objV (keys:List ByteArray) (kids:List V):V:=.mk 6 0 ByteArray.empty (objKeys keys) ((objKeys keys).map (lastKid keys kids))
def toCome (keys vis:List ByteArray):Nat:=(keys.filter fun k=>!hasKey vis k).length
theorem toCome_less {keys vis:List ByteArray}{k:ByteArray}(hk:k∈keys) (hv:k ∉ vis):toCome keys (vis++[k])<toCome keys vis:=by
 unfold toCome
 have key:∀(l:List ByteArray),(l.filter fun x=>!hasKey (vis++[k]) x).length≤(l.filter fun x=>!hasKey vis x).length∧(k∈l→(l.filter fun x=>!hasKey (vis++[k]) x).length<(l.filter fun x=>!hasKey vis x).length):=by
  intro l
  induction l with
  |nil=>simp
  |cons x r ih =>
   have himp:hasKey vis x=true→hasKey (vis++[k]) x=true:=fun h=>hasKey_iff.2 (by simp[hasKey_iff.1 h])
   rw[List.filter_cons,List.filter_cons]
   cases h1:hasKey vis x with
   |true =>
    rw[himp h1]
    simp only[Bool.not_true,Bool.false_eq_true,if_false]
    refine⟨ih.1,fun hm=>?_⟩
    rcases List.mem_cons.1 hm with e | e
    ·subst e;exact absurd (hasKey_iff.1 h1) hv
    ·exact ih.2 e
   |false =>
    simp only[Bool.not_false,if_true,List.length_cons]
    cases h2:hasKey (vis++[k]) x with
    |true =>
     simp only[Bool.not_true,Bool.false_eq_true,if_false]
     exact⟨by omega,fun _=>by omega⟩
    |false =>
     simp only[Bool.not_false,if_true,List.length_cons]
     refine⟨by omega,fun hm=>?_⟩
     rcases List.mem_cons.1 hm with e | e
     ·subst e
      rw[hasKey_iff.2 (by simp)]at h2
      cases h2
     ·have:=ih.2 e;omega
 exact (key keys).2 hk
theorem toCome_nil (keys:List ByteArray):toCome keys []=keys.length:=by
 unfold toCome
 congr 1
 exact List.filter_eq_self.2 fun x _=>by simp[hasKey]
def sortB (l:List ByteArray):List ByteArray:=((l.map fun b=>b.data.toList).mergeSort fun x y=>decide (x≤y)).map fun x=>⟨x.toArray⟩
mutual
def V.fit:V→Prop
 | .mk kind _ text keys kids=>text.size≤200∧(∀k∈keys,k.size≤60)∧(holds kind=false→kids=[])∧(kind=6→keys.length=kids.length)∧(kind≠6→keys=[])∧fitL kids
def fitL:List V→Prop
 | []=>True
 |k::ks=>k.fit∧fitL ks
end
theorem fitL_iff:∀{l:List V},fitL l↔∀v∈l,v.fit
 | []=>by simp[fitL]
 |v::l=>by simp only[fitL,List.mem_cons,forall_eq_or_imp,fitL_iff (l:=l)]
theorem okText_le {s:ByteArray}(h:okText s=true):s.size≤60:=by
 unfold okText at h
 simp only[Bool.and_eq_true,decide_eq_true_eq]at h
 exact h.1
theorem up_of {ks:List ByteArray}(h:asc none ks):Up ks:=by
 unfold Up
 rw[List.pairwise_iff_getElem]
 intro i j hi hj hij
 exact asc_sorted h hij hj
theorem up_inj {ks:List ByteArray}(h:Up ks) {i j:Nat}{x:ByteArray}(hi:ks[i]? = some x) (hj:ks[j]? = some x):i=j:=by
 unfold Up at h
 rw[List.pairwise_iff_getElem]at h
 obtain⟨h1,e1⟩:=List.getElem?_eq_some_iff.1 hi
 obtain⟨h2,e2⟩:=List.getElem?_eq_some_iff.1 hj
 rcases Nat.lt_trichotomy i j with g | g | g
 ·have:=h i j h1 h2 g
  rw[e1,e2,lessB_irrefl]at this
  cases this
 ·exact g
 ·have:=h j i h2 h1 g
  rw[e1,e2,lessB_irrefl]at this
  cases this
theorem countL_app (a b:List V):countL (a++b)=countL a+countL b:=by
 induction a with
 |nil=>simp[countL]
 |cons x a ih=>simp only[List.cons_append,countL,ih];omega
theorem ins_count {g g':ByteArray→V}{k:ByteArray}:∀{l:List ByteArray},Up l→(∀x∈l,x≠k→g' x=g x)→countL ((insKey k l).map g')≤countL (l.map g)+(g' k).count
 | [],_,_=>by simp[insKey,countL]
 |x::r,hu,h=>by
  unfold Up at hu
  rw[List.pairwise_cons]at hu
  have hne:∀{u v:ByteArray},lessB u v=true→v≠u:=fun hl e=>by subst e;rw[lessB_irrefl]at hl;cases hl
  unfold insKey
  split
  ·rename_i hl
   have e:(x::r).map g'=(x::r).map g:=List.map_congr_left fun y hy=>h y hy (by
    rcases List.mem_cons.1 hy with rfl | hy
    ·exact hne hl
    ·exact hne (lessB_trans hl (hu.1 y hy)))
   rw[List.map_cons,countL,e]
   omega
  ·split
   ·rename_i he
    have hx:k=x:=ByteArray_toList_inj (by simpa using he)
    have e:r.map g'=r.map g:=List.map_congr_left fun y hy=>h y (by simp[hy]) (by rw[hx];exact hne (hu.1 y hy))
    rw[List.map_cons,List.map_cons,countL,countL,e,←hx]
    omega
   ·rename_i he
    have hx:x≠k:=fun e=>he (by rw[e];simp)
    have:=ins_count (g:=g) (g':=g') (k:=k) hu.2 fun y hy=>h y (by simp[hy])
    rw[List.map_cons,List.map_cons,countL,countL,h x (by simp) hx]
    omega
theorem lastKid_snoc:∀{ks:List ByteArray}{vs:List V}{k:ByteArray}{v:V}{x:ByteArray},ks.length=vs.length→(x=k∨x∈ks)→lastKid (ks++[k]) (vs++[v]) x=if x=k then v else lastKid ks vs x
 | [],[],k,v,x,_,hx=>by
  have hxk:x=k:=by simpa using hx
  rw[if_pos hxk]
  simp[lastKid,hasKey]
 | [],_::_,_,_,_,h,_=>by simp at h
 |_::_,[],_,_,_,h,_=>by simp at h
 |k0::ks,v0::vs,k,v,x,h,hx=>by
  have hl:ks.length=vs.length:=by simpa using h
  simp only[List.cons_append,lastKid]
  have hh:hasKey (ks++[k]) x=true↔x∈ks∨x=k:=by rw[hasKey_iff];simp
  by_cases hxk:x=k
  ·rw[if_pos hxk,if_pos (hh.2 (.inr hxk)),lastKid_snoc hl (.inl hxk),if_pos hxk]
  ·rw[if_neg hxk]
   by_cases hm:x∈ks
   ·rw[if_pos (hh.2 (.inl hm)),if_pos (hasKey_iff.2 hm),lastKid_snoc hl (.inr hm),if_neg hxk]
   ·rw[if_neg (fun hc=>(hh.1 hc).elim hm hxk),if_neg (fun hc=>hm (hasKey_iff.1 hc))]
theorem objKeys_snoc (ks:List ByteArray) (k:ByteArray):objKeys (ks++[k])=insKey k (objKeys ks):=by
 unfold objKeys
 rw[List.foldl_append]
 rfl
theorem objV_count:∀(n:Nat) (ks:List ByteArray) (vs:List V),ks.length=n→vs.length=n→countL ((objKeys ks).map (lastKid ks vs))≤countL vs
 | 0,ks,vs,h1,h2=>by
  rw[List.eq_nil_of_length_eq_zero h1]
  simp[objKeys,countL]
 |n+1,ks,vs,h1,h2=>by
  rcases List.eq_nil_or_concat ks with rfl | ⟨ks',k,rfl⟩
  ·simp at h1
  ·rcases List.eq_nil_or_concat vs with rfl | ⟨vs',v,rfl⟩
   ·simp at h2
   ·simp only[List.concat_eq_append,List.length_append,List.length_singleton]at h1 h2 ⊢
    have hl:ks'.length=vs'.length:=by omega
    have ih:=objV_count n ks' vs' (by omega) (by omega)
    rw[objKeys_snoc,countL_app]
    have hins:=ins_count (g:=lastKid ks' vs') (g':=lastKid (ks'++[k]) (vs'++[v])) (k:=k) (objKeys_up ks') fun x hx hne=>by
     rw[lastKid_snoc hl (.inr (objKeys_mem.1 hx)),if_neg hne]
    rw[lastKid_snoc hl (.inl rfl),if_pos rfl]at hins
    simp only[countL]
    omega
end Go.Proofs.YtlciedpfjhkkdaaGreatDoor
