/- Texts of this proof: G43 G69. -/
import Derived.Lib.Bytealg
import Derived.Test.YtcejfdfmgmcinaaGreatKG67
import Derived.Test.YtcejfdfmgmcinaaGreatKG80uG87
set_option linter.all false
set_option maxHeartbeats 8000000
namespace Go.Proofs.YtcejfdfmgmcinaaGreat
open Go.RowKit
set_option maxRecDepth 10000
theorem Mz (x:Int):AC Tryz.prog 332 [.c (.int .i64 x)] [] (.c (.bool false)) []:=by
 have h:(x != x)=false:=by simp
 refine A7 Tryz.func332 Tryz.ntmps332 h ?_
 exact Aj (A5 []) Tryz.results332
theorem Rs (x:Int):AC Tryz.prog 335 [.c (.int .i64 x)] [] (.c (.bool false)) []:=by
 have h:(x != x)=false:=by simp
 refine A7 Tryz.func335 Tryz.ntmps335 h ?_
 exact Aj (A5 []) Tryz.results335
theorem Oy (x:ByteArray):AC Tryz.prog 374 [.c (.str x)] [] (.c (.bool false)) []:=by
 have h:(x.toList==x.toList)=true:=by simp
 refine A7 Tryz.func374 Tryz.ntmps374 h ?_
 exact Aj (A5 []) Tryz.results374
theorem Ps {a b:Int}(h:decide (a<b)=true):C0 a b = -1:=if_pos (by simpa using h)
theorem UU {a b:Int}(h1:decide (a<b)=false) (h:decide (a>b)=true):C0 a b=1:=by
 unfold C0
 rw[if_neg (by simpa using h1),if_pos (by simpa using h)]
theorem Pr {a b:Int}(h1:decide (a<b)=false) (h:decide (a>b)=false):C0 a b=0:=by
 unfold C0
 rw[if_neg (by simpa using h1),if_neg (by simpa using h)]
theorem JL (a b:Int):AC Tryz.prog 263 [.c (.int .i64 a),.c (.int .i64 b)] [] (.c (.int .i64 (C0 a b))) []:=by
 have h1:=Mz a
 have h2:=Mz b
 cases hl:decide (a<b)<;>cases hg:decide (a>b)
 ·rw[Pr hl hg]
  refine A7 Tryz.func263 Tryz.ntmps263 q9 ?_
  refine v7 (A3 [] h1) q9 q9 ?_
  refine v7 (A3 [] h2) q9 (j2 hl hg) ?_
  exact Aj (A5 []) Tryz.results263
 ·rw[UU hl hg]
  refine A7 Tryz.func263 Tryz.ntmps263 q9 ?_
  refine v7 (A3 [] h1) q9 q9 ?_
  refine v7 (A3 [] h2) q9 (j2 hl hg) ?_
  exact Aj (A5 []) Tryz.results263
 all_goals
  rw[Ps hl]
  refine A7 Tryz.func263 Tryz.ntmps263 q9 ?_
  refine v7 (A3 [] h1) q9 q9 ?_
  refine v7 (A3 [] h2) q9 hl ?_
  exact Aj (A5 []) Tryz.results263
theorem IJ (a b:Int):AC Tryz.prog 267 [.c (.int .i64 a),.c (.int .i64 b)] [] (.c (.int .i64 (C0 a b))) []:=by
 have h1:=Rs a
 have h2:=Rs b
 cases hl:decide (a<b)<;>cases hg:decide (a>b)
 ·rw[Pr hl hg]
  refine A7 Tryz.func267 Tryz.ntmps267 q9 ?_
  refine v7 (A3 [] h1) q9 q9 ?_
  refine v7 (A3 [] h2) q9 (j2 hl hg) ?_
  exact Aj (A5 []) Tryz.results267
 ·rw[UU hl hg]
  refine A7 Tryz.func267 Tryz.ntmps267 q9 ?_
  refine v7 (A3 [] h1) q9 q9 ?_
  refine v7 (A3 [] h2) q9 (j2 hl hg) ?_
  exact Aj (A5 []) Tryz.results267
 all_goals
  rw[Ps hl]
  refine A7 Tryz.func267 Tryz.ntmps267 q9 ?_
  refine v7 (A3 [] h1) q9 q9 ?_
  refine v7 (A3 [] h2) q9 hl ?_
  exact Aj (A5 []) Tryz.results267
theorem VQ (a b:ByteArray):(Op.bytesLess a.toList b.toList=true∧Cy a b = -1)∨(Op.bytesLess a.toList b.toList=false∧(a.toList==b.toList)=true∧Cy a b=0)∨(Op.bytesLess a.toList b.toList=false∧(a.toList==b.toList)=false∧Cy a b=1):=by
 unfold Cy Bh
 cases h1:Op.bytesLess a.toList b.toList with
 |true=>exact .inl ⟨rfl,rfl⟩
 |false=>cases h2:(a.toList==b.toList) with
  |true=>exact .inr (.inl ⟨rfl,rfl,rfl⟩)
  |false=>exact .inr (.inr ⟨rfl,rfl,rfl⟩)
theorem NC (a b:ByteArray):AC Tryz.prog 334 [.c (.str a),.c (.str b)] [] (.c (.int .i64 (Cy a b))) []:=by
 have h1:=Oy a
 have h2:=Oy b
 rcases VQ a b with⟨hl,he⟩ | ⟨hl,hg,he⟩ | ⟨hl,hg,he⟩
 ·rw[he]
  refine A7 Tryz.func334 Tryz.ntmps334 q9 ?_
  refine v7 (A3 [] h1) q9 q9 ?_
  refine v7 (A3 [] h2) q9 hl ?_
  exact Aj (A5 []) Tryz.results334
 all_goals
  rw[he]
  refine A7 Tryz.func334 Tryz.ntmps334 q9 ?_
  refine v7 (A3 [] h1) q9 q9 ?_
  refine v7 (A3 [] h2) q9 (j2 hl hg) ?_
  exact Aj (A5 []) Tryz.results334
theorem Hl:∀(a b:List UInt8),Lib.compareBytes a b=if Op.bytesLess a b then -1 else if a==b then 0 else 1
 | [],[]=>rfl
 | [],_::_=>rfl
 |_::_,[]=>by simp[Lib.compareBytes,Op.bytesLess]
 |x::a,y::b=>by
  unfold Lib.compareBytes
  rw[Hl a b]
  simp only[Op.bytesLess]
  by_cases h1:x<y
  ·simp[h1]
  ·by_cases h2:y<x
   ·have:x≠y:=fun e=>by subst e;exact h1 h2
    simp[h1,h2,this]
   ·have:x=y:=by
     apply UInt8.toNat_inj.1
     have h3:¬x.toNat<y.toNat:=fun h=>h1 (UInt8.lt_iff_toNat_lt.2 h)
     have h4:¬y.toNat<x.toNat:=fun h=>h2 (UInt8.lt_iff_toNat_lt.2 h)
     omega
    subst this
    simp[h1]
theorem QM (a b:ByteArray) (w:World):Calls Tryz.prog 333 #[.string a,.string b] w fun e w'=>e=.returned (.int .i64 (Lib.compareBytes a.data.toList b.data.toList))∧w'=w:=by
 go_enter Tryz.func333,Tryz.ntmps333
 go_wp2
 rw[run_callFunc_extern Tryz.func373 (by kernel_rfl) (by kernel_rfl) (by kernel_rfl) (e:=Extern.BytealgCompare.compare) (by kernel_rfl),Lib.run_compareString]
 simp only[Result.andThen]
 rw[Oper.upon_value]
 go_wp2
 go_ret
 exact⟨rfl,rfl⟩
theorem SR (a b:ByteArray):AC Tryz.prog 333 [.c (.str a),.c (.str b)] [] (.c (.int .i64 (Cy a b))) []:=by
 refine AC.of_calls fun S w κ vs hv=>?_
 obtain⟨v,vs',rfl,⟨rfl,_⟩,v2,vs2,rfl,⟨rfl,_⟩,rfl⟩:=hv
 refine (QM a b w).mono ?_
 rintro e w' ⟨rfl,rfl⟩
 refine⟨Below.refl _ _,_,rfl,fun T _ _=>?_⟩
 have:Lib.compareBytes a.data.toList b.data.toList=Cy a b:=by
  rw[Hl,←ByteArray.toList_eq,←ByteArray.toList_eq]
  rfl
 rw[this]
 exact⟨rfl,rfl⟩
theorem Kk (a b:ByteArray):AC Tryz.prog 265 [.c (.str a),.c (.str b)] [] (.c (.int .i64 (Cy a b))) []:=by
 have h:=SR a b
 refine A7 Tryz.func265 Tryz.ntmps265 q9 ?_
 refine v7 (A3 [] h) q9 q9 ?_
 exact Aj (A5 []) Tryz.results265
def orL:List Int→Int
 | []=>0
 |a::r=>orI a (orL r)
theorem YS (l:List Int) {k:Nat}(h:k<l.length):orL (l.drop k)=if l[k]=0 then orL (l.drop (k+1)) else l[k]:=by
 rw[List.drop_eq_getElem_cons h]
 rfl
theorem y8 (l:List Int) (hl:l.length≤1000000):AC Tryz.prog 264 [.c (.sl (l.map Aw))] [] (.c (.int .i64 (orL l))) []:=by
 have hln:(l.map Aw).length=l.length:=by simp
 obtain⟨R,hR⟩:∃R,R=orL l:=⟨_,rfl⟩
 rw[←hR]
 refine A7 Tryz.func264 Tryz.ntmps264 hln ?_
 refine Ar (κ:=Nat) (fun k=>⟨mkS 0 18 [(0,.c (.sl (l.map Aw))),(3,.c (.int .i64 0)),(6,.c (.sl (l.map Aw))),(7,.c (.int .i64 l.length)),(8,.c (.int .i64 k))],[]⟩)
  (fun k=>k≤l.length∧R=orL (l.drop k)) (fun k=>l.length-k) 0 ⟨Nat.zero_le _,hR⟩ ?_ ?_
 ·exact Ab (Ah.of [] []) hln
 ·rintro k ⟨hk,hRk⟩
  by_cases hlt:k<l.length
  ·have hdk:decide ((k:Int)<(l.length:Int))=true:=by simpa using hlt
   have hw:=Af (k:=k) (by omega)
   have hr:Aa (l.map Aw) 1 k=true:=by simp[Aa,hlt,Aw]
   have hg:(l.map Aw)[k]? = some [.int .i64 l[k]]:=by simp[hlt,Aw]
   rw[YS _ hlt]at hRk
   generalize l[k]=x at *
   by_cases hx:x=0
   ·rw[if_pos hx]at hRk
    have hb:(x != 0)=false:=by simpa using hx
    refine Ac (j5 hdk hr hg hb hw) ?_
    refine⟨k+1,by omega,⟨by omega,hRk⟩,?_⟩
    exact Ab (Ah.of [] []) hw
   ·rw[if_neg hx]at hRk
    have hb:(x != 0)=true:=by simpa using hx
    rw[hRk]
    exact FU (j4 hdk hr hg hb) (A5 []) Tryz.results264
  ·have hdk:decide ((k:Int)<(l.length:Int))=false:=by simpa using hlt
   rw[List.drop_eq_nil_of_le (by omega)]at hRk
   have hR0:R=0:=hRk
   rw[hR0]
   exact FU hdk (A5 []) Tryz.results264
theorem a1c (a b c:Int):AC Tryz.prog 264 [.c (.sl [[.int .i64 a],[.int .i64 b],[.int .i64 c]])] [] (.c (.int .i64 (orI a (orI b c)))) []:=by
 have h:=y8 [a,b,c] (by simp)
 simp only[orL,Iw]at h
 exact h
theorem YR (a b:Int):AC Tryz.prog 264 [.c (.sl [[.int .i64 a],[.int .i64 b]])] [] (.c (.int .i64 (orI a b))) []:=by
 have h:=y8 [a,b] (by simp)
 simp only[orL,Iw]at h
 exact h
theorem M4 (a b:List ByteArray) (hl:a.length≤1000000):AC Tryz.prog 266 [.c (.sl (a.map Ad)),.c (.sl (b.map Ad))] [] (.c (.int .i64 (AF a b))) []:=by
 have hla:(a.map Ad).length=a.length:=by simp
 have hlb:(b.map Ad).length=b.length:=by simp
 obtain⟨R,hR⟩:∃R,R=AF a b:=⟨_,rfl⟩
 rw[←hR]
 refine A7 Tryz.func266 Tryz.ntmps266 (j2 hla hlb) ?_
 refine Ar (κ:=Nat) (fun k=>⟨mkS 0 36 [(0,.c (.sl (a.map Ad))),(1,.c (.sl (b.map Ad))),(9,.c (.sl (a.map Ad))),(10,.c (.int .i64 a.length)),(11,.c (.int .i64 k))],[]⟩)
  (fun k=>k≤a.length∧k≤b.length∧R=AF (a.drop k) (b.drop k)) (fun k=>a.length-k) 0 ⟨Nat.zero_le _,Nat.zero_le _,hR⟩ ?_ ?_
 ·exact Ab (Ah.of [] []) hla
 ·rintro k ⟨hk,hk2,hRk⟩
  by_cases hlt:k<a.length
  ·have hdk:decide ((k:Int)<(a.length:Int))=true:=by simpa using hlt
   have hw:=Af (k:=k) (by omega)
   have hr:Aa (a.map Ad) 1 k=true:=by simp[Aa,hlt,Ad]
   have hg:(a.map Ad)[k]? = some [.str a[k]]:=by simp[hlt,Ad]
   by_cases hltb:k<b.length
   ·have hdb:decide ((k:Int)≥(b.length:Int))=false:=by simpa using hltb
    have hrb:Aa (b.map Ad) 1 k=true:=by simp[Aa,hltb,Ad]
    have hgb:(b.map Ad)[k]? = some [.str b[k]]:=by simp[hltb,Ad]
    have hc:=NC a[k] b[k]
    rw[JH hlt hltb]at hRk
    generalize Cy a[k] b[k]=x at *
    generalize a[k]=ak,b[k]=bk at *
    by_cases hx:x=0
    ·subst hx
     rw[GA]at hRk
     have h00:((0:Int) != 0)=false:=rfl
     refine Ac (j7 hdk hr hg hlb hdb hrb hgb) ?_
     refine v7 (A3 [] hc) q9 (j2 h00 hw) ?_
     refine⟨k+1,by omega,⟨by omega,by omega,hRk⟩,?_⟩
     exact Ab (Ah.of [] []) hw
    ·rw[Js hx]at hRk
     have hb:(x != 0)=true:=by simpa using hx
     rw[hRk]
     refine Ac (j7 hdk hr hg hlb hdb hrb hgb) ?_
     refine v7 (A3 [] hc) q9 hb ?_
     exact Aj (A5 []) Tryz.results266
   ·have hdb:decide ((k:Int)≥(b.length:Int))=true:=by simpa using hltb
    rw[Hu hk hk2 (by omega)]at hRk
    have hR1:R=1:=by rw[hRk];unfold C0;rw[if_neg (by omega),if_pos (by omega)]
    rw[hR1]
    exact FU (j5 hdk hr hg hlb hdb) (A5 []) Tryz.results266
  ·have hdk:decide ((k:Int)<(a.length:Int))=false:=by simpa using hlt
   rw[Hu hk hk2 (by omega)]at hRk
   by_cases hll:a.length<b.length
   ·have hd:decide ((a.length:Int)<(b.length:Int))=true:=by simpa using hll
    have hR1:R = -1:=by rw[hRk];exact Ps hd
    rw[hR1]
    exact FU (j4 hdk hla hlb hd) (A5 []) Tryz.results266
   ·have hd:decide ((a.length:Int)<(b.length:Int))=false:=by simpa using hll
    have hR1:R=0:=by rw[hRk];exact Pr hd (by simp;omega)
    rw[hR1]
    exact FU (j4 hdk hla hlb hd) (A5 []) Tryz.results266
theorem Yn {t:V}(h:t.right):t.keys.length≤200:=by
 by_cases h6:t.kind=6
 ·rw[(DC h h6).2.2]
  exact BV h.2.1
 ·obtain⟨_,_,_,_,h3,_⟩:=B6 h.1
  rw[h3 h6]
  simp
theorem M5:∀(m:Nat) (a b:V),a.count≤m→a.right→AC Tryz.prog 194 [a.av,b.av] [] (.c (.int .i64 (a.cmp b))) []:=by
 intro m
 induction m with
 |zero=>intro a _ hm _;have:=Cq a;omega
 |succ m ih =>
  intro a b hm ha
  have hkl:=BV ha.2.1
  by_cases hk:a.kind=b.kind
  ·have hne:(a.kind != b.kind)=false:=by simpa using hk
   obtain⟨R,hR⟩:∃R,R=a.cmp b:=⟨_,rfl⟩
   have hR0:=hR
   rw[Fu,if_pos hk,←KF,←KF,KF (C0 a.num b.num)]at hR0
   rw[←hR]
   have h1:=JL a.num b.num
   have h2:=Kk a.text b.text
   have h3:=M4 a.keys b.keys (by have:=Yn ha;omega)
   have h4:=a1c (C0 a.num b.num) (Cy a.text b.text) (AF a.keys b.keys)
   have hrange:-1≤orI (C0 a.num b.num) (orI (Cy a.text b.text) (AF a.keys b.keys))∧orI (C0 a.num b.num) (orI (Cy a.text b.text) (AF a.keys b.keys))≤1:=DY (Ft _ _) (DY (J6 _ _) (Gb _ _))
   generalize orI (C0 a.num b.num) (orI (Cy a.text b.text) (AF a.keys b.keys))=o1 at *
   generalize C0 a.num b.num=c1,Cy a.text b.text=c2,AF a.keys b.keys=c3 at *
   obtain⟨mn,hmn⟩:∃mn:Int,(if (b.kids.length:Int)<(a.kids.length:Int) then (b.kids.length:Int) else (a.kids.length:Int))=mn:=⟨_,rfl⟩
   have hmn2:∀k:Nat,decide ((k:Int)<mn)=decide (k<a.kids.length∧k<b.kids.length):=by
    intro k
    rw[←hmn]
    split<;>congr 1<;>apply propext<;>omega
   refine A7 Tryz.func194 Tryz.ntmps194 hne ?_
   refine v7 (A3 [] h1) q9 q9 ?_
   refine v7 (A3 [] h2) q9 q9 ?_
   refine v7 (A3 [] h3) q9 q9 ?_
   refine v7 (A3 [(32,0)] h4) q9 q9 ?_
   refine Ar (κ:=Nat×Int) (fun x=>⟨mkS 0 70 [(2,.ptr (2,0) 0),(3,.ptr (3,0) 0),(5,.c (.int .i64 x.2)),(6,.c (.int .i64 x.1))],[((2,0),.box [.c (.int .i64 a.kind),.c (.int .i64 a.num),.c (.str a.text),.c (.sl (a.keys.map Ad)),.c (.sl (a.kids.map V.cs))]),((3,0),.box [.c (.int .i64 b.kind),.c (.int .i64 b.num),.c (.str b.text),.c (.sl (b.keys.map Ad)),.c (.sl (b.kids.map V.cs))])]⟩)
    (fun x=>x.1≤a.kids.length∧x.1≤b.kids.length∧(-1≤x.2∧x.2≤1)∧R=orI x.2 (BD (a.kids.drop x.1) (b.kids.drop x.1))) (fun x=>a.kids.length-x.1) (0,o1) ⟨Nat.zero_le _,Nat.zero_le _,hrange,hR0⟩ ?_ ?_
   ·exact Ab (Ah.of [((2,0),(2,0)),((3,0),(3,0))] []) hne
   ·rintro⟨k,o⟩ ⟨hk1,hk2,ho,hRk⟩
    dsimp only at hk1 hk2 ho hRk ⊢
    have w1:IntKind.i64.wrap o=o:=IntWalk.i64_in _ (by omega)
    by_cases hlt:k<a.kids.length∧k<b.kids.length
    ·have hdk:decide ((k:Int)<mn)=true:=by rw[hmn2];simpa using hlt
     by_cases h0:o=0
     ·subst h0
      have h00:((0:Int)==0)=true:=rfl
      have hw:=Af (k:=k) (by omega)
      rw[GA,M0 hlt.1 hlt.2]at hRk
      have hra:Aa (a.kids.map V.cs) 5 k=true:=by simp[Aa,hlt.1,V.cs_eq]
      have hga:(a.kids.map V.cs)[k]? = some a.kids[k].cs:=by simp[hlt.1]
      have hrb:Aa (b.kids.map V.cs) 5 k=true:=by simp[Aa,hlt.2,V.cs_eq]
      have hgb:(b.kids.map V.cs)[k]? = some b.kids[k].cs:=by simp[hlt.2]
      have hmem:=Ct (List.getElem_mem hlt.1)
      have hck:=AN a
      have hrec:=ih a.kids[k] b.kids[k] (by omega) (Bf ha (List.getElem_mem hlt.1))
      have hrg:=Oe a.kids[k] b.kids[k]
      generalize a.kids[k].cmp b.kids[k]=o2 at *
      generalize a.kids[k]=u,b.kids[k]=v at *
      have w2:IntKind.i64.wrap o2=o2:=IntWalk.i64_in _ (by omega)
      refine Ac (j7 hmn hdk h00 hra hga hrb hgb) ?_
      refine v7 (A3 [] hrec) q9 (j2 @w2 hw) ?_
      refine⟨(k+1,o2),by dsimp only;omega,⟨by dsimp only;omega,by dsimp only;omega,hrg,hRk⟩,?_⟩
      exact Ab (Ah.of [((2,0),(2,0)),((3,0),(3,0))] []) hw
     ·have hb0:(o==0)=false:=by simpa using h0
      rw[Js h0]at hRk
      have hcl:=IJ (a.kids.length:Int) (b.kids.length:Int)
      have hor:=YR o (C0 a.kids.length b.kids.length)
      rw[Js h0]at hor
      generalize C0 a.kids.length b.kids.length=c9 at *
      rw[hRk]
      refine Ac (j3 hmn hdk hb0) ?_
      refine v7 (A3 [] hcl) q9 q9 ?_
      refine v7 (A3 [(68,0)] hor) q9 w1 ?_
      exact Aj (A5 []) Tryz.results194
    ·have hdk:decide ((k:Int)<mn)=false:=by rw[hmn2];simpa using hlt
     rw[Od hk1 hk2 hlt]at hRk
     have hcl:=IJ (a.kids.length:Int) (b.kids.length:Int)
     have hor:=YR o (C0 a.kids.length b.kids.length)
     have hrg:=DY ho (Ft (a.kids.length:Int) (b.kids.length:Int))
     generalize C0 a.kids.length b.kids.length=c9 at *
     rw[←hRk]at hor hrg
     have w2:IntKind.i64.wrap R=R:=IntWalk.i64_in _ (by omega)
     refine Ac (j2 hmn hdk) ?_
     refine v7 (A3 [] hcl) q9 q9 ?_
     refine v7 (A3 [(68,0)] hor) q9 @w2 ?_
     exact Aj (A5 []) Tryz.results194
  ·have hne:(a.kind != b.kind)=true:=by simpa using hk
   have h1:=JL a.kind b.kind
   have hR:a.cmp b=C0 a.kind b.kind:=by rw[Fu,if_neg hk]
   have hrg:=Ft a.kind b.kind
   rw[hR]
   generalize C0 a.kind b.kind=c1 at *
   have w1:IntKind.i64.wrap c1=c1:=IntWalk.i64_in _ (by omega)
   refine A7 Tryz.func194 Tryz.ntmps194 hne ?_
   refine v7 (A3 [] h1) q9 w1 ?_
   exact Aj (A5 []) Tryz.results194
set_option maxRecDepth 10000
theorem Pi (a b:V) (k:Int):AC Tryz.prog 268 [a.av,b.av,.c (.int .i64 k)] [] (.c (.bool (a.kind==k&&b.kind==k))) []:=by
 cases h1:a.kind==k<;>cases h2:b.kind==k
 all_goals
  refine A7 Tryz.func268 Tryz.ntmps268 (j2 h1 h2) ?_
  exact Aj (A5 []) Tryz.results268
theorem Pj {a b:V}{k:Int}(h:¬(a.kind=k∧b.kind=k)):(a.kind==k&&b.kind==k)=false:=by
 by_cases h1:a.kind=k
 ·have:¬b.kind=k:=fun h2=>h ⟨h1,h2⟩
  simp[h1,this]
 ·simp[h1]
theorem LH {a b:V}{k:Int}(h:a.kind=k∧b.kind=k):(a.kind==k&&b.kind==k)=true:=by simp[h.1,h.2]
theorem HG (a b:List V) (h:a.length+b.length≤800000):AC Tryz.prog 271 [.c (.sl [[.sl (a.map V.cs)],[.sl (b.map V.cs)]])] [] (.own (0,0)) [((0,0),.row false 5 127 ((a++b).map V.cs))]:=by
 have h1:=NE [a,b] (by simp) (by simp;omega)
 simpa only[List.map_cons,List.map_nil,D5,List.flatten_cons,List.flatten_nil,List.append_nil] using h1
theorem M6 (a b:List ByteArray) (h:a.length+b.length≤800000):AC Tryz.prog 272 [.c (.sl [[.sl (a.map Ad)],[.sl (b.map Ad)]])] [] (.own (0,0)) [((0,0),.row false 1 9 ((a++b).map Ad))]:=by
 have h1:=ND [a,b] (by simp) (by simp;omega)
 simpa only[List.map_cons,List.map_nil,D4,List.flatten_cons,List.flatten_nil,List.append_nil] using h1
theorem z7 {a b:V}(ha:a.right) (hb:b.right):AC Tryz.prog 195 [a.av,b.av] [] (FM (Pg a b)) []:=by
 have hr3:=Pi a b 3
 have hr4:=Pi a b 4
 have hr5:=Pi a b 5
 have hr6:=Pi a b 6
 obtain⟨hak,hav⟩:=Da ha
 obtain⟨hbk,hbv⟩:=Da hb
 unfold Pg
 by_cases a0:a.kind=0
 ·have ba:(a.kind==0)=true:=by simpa using a0
  rw[if_pos a0,Vn]
  refine A7 Tryz.func195 Tryz.ntmps195 ba ?_
  refine v9 (A4 [] (D8 hb)) q9 q9 ?_
  exact Aj (A5 []) Tryz.results195
 ·have ba:(a.kind==0)=false:=by simpa using a0
  rw[if_neg a0]
  by_cases b0:b.kind=0
  ·have bb:(b.kind==0)=true:=by simpa using b0
   rw[if_pos b0,Vn]
   refine A7 Tryz.func195 Tryz.ntmps195 (j2 ba bb) ?_
   refine v9 (A4 [] (D8 ha)) q9 q9 ?_
   exact Aj (A5 []) Tryz.results195
  ·have bb:(b.kind==0)=false:=by simpa using b0
   rw[if_neg b0]
   by_cases h3:a.kind=3∧b.kind=3
   ·rw[if_pos h3]
    rw[LH h3]at hr3
    have n1:=DD ha
    have n2:=DD hb
    have hw:IntKind.i64.wrap (a.num+b.num)=a.num+b.num:=CD (by omega) (by omega)
    have hn:=Ex (a.num+b.num)
    have hg:=Gx (MW (a.num+b.num)) (by simp[C8,V.count,Am])
    generalize C8 (a.num+b.num)=z at *
    generalize CM z=r at *
    rcases r with⟨c,_ | u⟩
    all_goals
     simp only[Cf,Ce]at hg ⊢
     refine A7 Tryz.func195 Tryz.ntmps195 (j2 ba bb) ?_
     refine v7 (A3 [] hr3) q9 hw ?_
     refine w9 (A4 [] hn) q9 ?_
     refine v9 (A4 [] hg) q9 q9 ?_
     exact Aj (A5 []) Tryz.results195
   ·rw[if_neg h3]
    rw[Pj h3]at hr3
    by_cases h4:a.kind=4∧b.kind=4
    ·rw[if_pos h4]
     rw[LH h4]at hr4
     have t1:=Fk ha
     have t2:=Fk hb
     have hsz:a.text.size+b.text.size≤9223372036854775807:=by omega
     have hn:=Qy (a.text++b.text)
     have hg:=Gx (UT ha hb) (by simp[CG,V.count,Am])
     generalize hst:CG (a.text++b.text)=z at *
     generalize CM z=r at *
     rcases r with⟨c,_ | u⟩
     all_goals
      simp only[Cf,Ce]at hg ⊢
      refine A7 Tryz.func195 Tryz.ntmps195 (j2 ba bb) ?_
      refine v7 (A3 [] hr3) q9 q9 ?_
      refine v7 (A3 [] hr4) q9 hsz ?_
      refine w9 (A4 [] hn) q9 ?_
      refine v9 (A4 [] hg) q9 q9 ?_
      exact Aj (A5 []) Tryz.results195
    ·rw[if_neg h4]
     rw[Pj h4]at hr4
     by_cases h5:a.kind=5∧b.kind=5
     ·rw[if_pos h5]
      rw[LH h5]at hr5
      obtain⟨hf,hc⟩:=LS ha hb
      have hco:=HG a.kids b.kids (by omega)
      have hn:=Gm (a.kids++b.kids)
      have hg:=Gx hf (by omega)
      generalize a.kids++b.kids=K at *
      generalize B4 K=z at *
      generalize CM z=r at *
      rcases r with⟨c,_ | u⟩
      all_goals
       simp only[Cf,Ce]at hg ⊢
       refine A7 Tryz.func195 Tryz.ntmps195 (j2 ba bb) ?_
       refine v7 (A3 [] hr3) q9 q9 ?_
       refine v7 (A3 [] hr4) q9 q9 ?_
       refine v7 (A3 [] hr5) q9 q9 ?_
       refine v12 (AU [(47,0)] hco) q9 q9 ?_
       refine w9 (A4 [(48,0)] hn) q9 ?_
       refine v9 (A4 [] hg) q9 q9 ?_
       exact Aj (A5 []) Tryz.results195
     ·rw[if_neg h5]
      rw[Pj h5]at hr5
      by_cases h6:a.kind=6∧b.kind=6
      ·rw[if_pos h6]
       rw[LH h6]at hr6
       obtain⟨hf,hc1,hc2,hl⟩:=MX ha hb h6.1 h6.2
       have hco1:=M6 a.keys b.keys (by omega)
       have hco2:=HG a.kids b.kids (by omega)
       have hobj:=WT (a.keys++b.keys) (a.kids++b.kids) hl (by rw[List.length_append];omega) (by
        intro k hk
        rcases List.mem_append.1 hk with h1 | h1
        ·have:=FN ha k h1;omega
        ·have:=FN hb k h1;omega)
       rw[WU]at hobj
       have hg:=Gx hf (by omega)
       generalize Ht (a.keys++b.keys) (a.kids++b.kids)=z at *
       generalize a.keys++b.keys=KK,a.kids++b.kids=K,CM z=r at *
       rcases r with⟨c,_ | u⟩
       all_goals
        simp only[Cf,Ce]at hg ⊢
        refine A7 Tryz.func195 Tryz.ntmps195 (j2 ba bb) ?_
        refine v7 (A3 [] hr3) q9 q9 ?_
        refine v7 (A3 [] hr4) q9 q9 ?_
        refine v7 (A3 [] hr5) q9 q9 ?_
        refine v7 (A3 [] hr6) q9 q9 ?_
        refine v12 (AU [(59,0)] hco1) q9 q9 ?_
        refine v12 (AU [(65,0)] hco2) q9 q9 ?_
        refine w9 (A4 [(60,0),(66,0)] hobj) q9 ?_
        refine v9 (A4 [] hg) q9 q9 ?_
        exact Aj (A5 []) Tryz.results195
      ·rw[if_neg h6,Z1]
       rw[Pj h6]at hr6
       refine A7 Tryz.func195 Tryz.ntmps195 (j2 ba bb) ?_
       refine v7 (A3 [] hr3) q9 q9 ?_
       refine v7 (A3 [] hr4) q9 q9 ?_
       refine v7 (A3 [] hr5) q9 q9 ?_
       refine v7 (A3 [] hr6) q9 q9 ?_
       refine v7 (A3 [] (D2 6)) q9 q9 ?_
       exact Aj (A5 []) Tryz.results195
end Go.Proofs.YtcejfdfmgmcinaaGreat
