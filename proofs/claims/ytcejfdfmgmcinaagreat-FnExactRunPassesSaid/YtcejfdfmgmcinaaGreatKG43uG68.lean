/- Texts of this proof: G43 G68. -/
import Derived.Lib.Bytealg
import Derived.Test.YtcejfdfmgmcinaaGreatKG67
set_option linter.all false
set_option maxHeartbeats 8000000
namespace Go.Proofs.YtcejfdfmgmcinaaGreat
open Go.RowKit
set_option maxRecDepth 10000
theorem NM (x:Int):AC Tryz.prog 332 [.c (.int .i64 x)] [] (.c (.bool false)) []:=by
 have h:(x != x)=false:=by simp
 refine A6 Tryz.func332 Tryz.ntmps332 h ?_
 exact Ag (A5 []) Tryz.results332
theorem SY (x:Int):AC Tryz.prog 335 [.c (.int .i64 x)] [] (.c (.bool false)) []:=by
 have h:(x != x)=false:=by simp
 refine A6 Tryz.func335 Tryz.ntmps335 h ?_
 exact Ag (A5 []) Tryz.results335
theorem PQ (x:ByteArray):AC Tryz.prog 374 [.c (.str x)] [] (.c (.bool false)) []:=by
 have h:(x.toList==x.toList)=true:=by simp
 refine A6 Tryz.func374 Tryz.ntmps374 h ?_
 exact Ag (A5 []) Tryz.results374
theorem QF {a b:Int}(h:decide (a<b)=true):Cc a b = -1:=if_pos (by simpa using h)
theorem Wx {a b:Int}(h1:decide (a<b)=false) (h:decide (a>b)=true):Cc a b=1:=by
 unfold Cc
 rw[if_neg (by simpa using h1),if_pos (by simpa using h)]
theorem QE {a b:Int}(h1:decide (a<b)=false) (h:decide (a>b)=false):Cc a b=0:=by
 unfold Cc
 rw[if_neg (by simpa using h1),if_neg (by simpa using h)]
theorem KJ (a b:Int):AC Tryz.prog 263 [.c (.int .i64 a),.c (.int .i64 b)] [] (.c (.int .i64 (Cc a b))) []:=by
 have h1:=NM a
 have h2:=NM b
 cases hl:decide (a<b)<;>cases hg:decide (a>b)
 ·rw[QE hl hg]
  refine A6 Tryz.func263 Tryz.ntmps263 q9 ?_
  refine v7 (A3 [] h1) q9 q9 ?_
  refine v7 (A3 [] h2) q9 (j2 hl hg) ?_
  exact Ag (A5 []) Tryz.results263
 ·rw[Wx hl hg]
  refine A6 Tryz.func263 Tryz.ntmps263 q9 ?_
  refine v7 (A3 [] h1) q9 q9 ?_
  refine v7 (A3 [] h2) q9 (j2 hl hg) ?_
  exact Ag (A5 []) Tryz.results263
 all_goals
  rw[QF hl]
  refine A6 Tryz.func263 Tryz.ntmps263 q9 ?_
  refine v7 (A3 [] h1) q9 q9 ?_
  refine v7 (A3 [] h2) q9 hl ?_
  exact Ag (A5 []) Tryz.results263
theorem JD (a b:Int):AC Tryz.prog 267 [.c (.int .i64 a),.c (.int .i64 b)] [] (.c (.int .i64 (Cc a b))) []:=by
 have h1:=SY a
 have h2:=SY b
 cases hl:decide (a<b)<;>cases hg:decide (a>b)
 ·rw[QE hl hg]
  refine A6 Tryz.func267 Tryz.ntmps267 q9 ?_
  refine v7 (A3 [] h1) q9 q9 ?_
  refine v7 (A3 [] h2) q9 (j2 hl hg) ?_
  exact Ag (A5 []) Tryz.results267
 ·rw[Wx hl hg]
  refine A6 Tryz.func267 Tryz.ntmps267 q9 ?_
  refine v7 (A3 [] h1) q9 q9 ?_
  refine v7 (A3 [] h2) q9 (j2 hl hg) ?_
  exact Ag (A5 []) Tryz.results267
 all_goals
  rw[QF hl]
  refine A6 Tryz.func267 Tryz.ntmps267 q9 ?_
  refine v7 (A3 [] h1) q9 q9 ?_
  refine v7 (A3 [] h2) q9 hl ?_
  exact Ag (A5 []) Tryz.results267
theorem Xt (a b:ByteArray):(Op.bytesLess a.toList b.toList=true∧CW a b = -1)∨(Op.bytesLess a.toList b.toList=false∧(a.toList==b.toList)=true∧CW a b=0)∨(Op.bytesLess a.toList b.toList=false∧(a.toList==b.toList)=false∧CW a b=1):=by
 unfold CW AZ
 cases h1:Op.bytesLess a.toList b.toList with
 |true=>exact .inl ⟨rfl,rfl⟩
 |false=>cases h2:(a.toList==b.toList) with
  |true=>exact .inr (.inl ⟨rfl,rfl,rfl⟩)
  |false=>exact .inr (.inr ⟨rfl,rfl,rfl⟩)
theorem OO (a b:ByteArray):AC Tryz.prog 334 [.c (.str a),.c (.str b)] [] (.c (.int .i64 (CW a b))) []:=by
 have h1:=PQ a
 have h2:=PQ b
 rcases Xt a b with⟨hl,he⟩ | ⟨hl,hg,he⟩ | ⟨hl,hg,he⟩
 ·rw[he]
  refine A6 Tryz.func334 Tryz.ntmps334 q9 ?_
  refine v7 (A3 [] h1) q9 q9 ?_
  refine v7 (A3 [] h2) q9 hl ?_
  exact Ag (A5 []) Tryz.results334
 all_goals
  rw[he]
  refine A6 Tryz.func334 Tryz.ntmps334 q9 ?_
  refine v7 (A3 [] h1) q9 q9 ?_
  refine v7 (A3 [] h2) q9 (j2 hl hg) ?_
  exact Ag (A5 []) Tryz.results334
theorem Iq:∀(a b:List UInt8),Lib.compareBytes a b=if Op.bytesLess a b then -1 else if a==b then 0 else 1
 | [],[]=>rfl
 | [],_::_=>rfl
 |_::_,[]=>by simp[Lib.compareBytes,Op.bytesLess]
 |x::a,y::b=>by
  unfold Lib.compareBytes
  rw[Iq a b]
  simp only[Op.bytesLess]
  by_cases h1:x<y
  ·simp[h1]
  ·by_cases h2:y<x
   ·have:x≠y:=fun e=>by subst e;exact h1 h2
    simp[h1,h2,this]
   ·have:x=y:=by
     apply UInt8.toNat_inj.1
     have h3:¬x.toNat<y.toNat:=fun h=>h1 (UInt8.lt_iff_toNat_lt.2 h)
     have h4:¬y.toNat<x.toNat:=fun h=>h2 (UInt8.lt_iff_toNat_lt.2 h)
     omega
    subst this
    simp[h1]
theorem Sg (a b:ByteArray) (w:World):Calls Tryz.prog 333 #[.string a,.string b] w fun e w'=>e=.returned (.int .i64 (Lib.compareBytes a.data.toList b.data.toList))∧w'=w:=by
 go_enter Tryz.func333,Tryz.ntmps333
 go_wp2
 rw[run_callFunc_extern Tryz.func373 (by kernel_rfl) (by kernel_rfl) (by kernel_rfl) (e:=Extern.BytealgCompare.compare) (by kernel_rfl),Lib.run_compareString]
 simp only[Result.andThen]
 rw[Oper.upon_value]
 go_wp2
 go_ret
 exact⟨rfl,rfl⟩
theorem Uq (a b:ByteArray):AC Tryz.prog 333 [.c (.str a),.c (.str b)] [] (.c (.int .i64 (CW a b))) []:=by
 refine AC.of_calls fun S w κ vs hv=>?_
 obtain⟨v,vs',rfl,⟨rfl,_⟩,v2,vs2,rfl,⟨rfl,_⟩,rfl⟩:=hv
 refine (Sg a b w).mono ?_
 rintro e w' ⟨rfl,rfl⟩
 refine⟨Below.refl _ _,_,rfl,fun T _ _=>?_⟩
 have:Lib.compareBytes a.data.toList b.data.toList=CW a b:=by
  rw[Iq,←ByteArray.toList_eq,←ByteArray.toList_eq]
  rfl
 rw[this]
 exact⟨rfl,rfl⟩
theorem Lt (a b:ByteArray):AC Tryz.prog 265 [.c (.str a),.c (.str b)] [] (.c (.int .i64 (CW a b))) []:=by
 have h:=Uq a b
 refine A6 Tryz.func265 Tryz.ntmps265 q9 ?_
 refine v7 (A3 [] h) q9 q9 ?_
 exact Ag (A5 []) Tryz.results265
def orL:List Int→Int
 | []=>0
 |a::r=>orI a (orL r)
theorem a0n (l:List Int) {k:Nat}(h:k<l.length):orL (l.drop k)=if l[k]=0 then orL (l.drop (k+1)) else l[k]:=by
 rw[List.drop_eq_getElem_cons h]
 rfl
theorem a3s (l:List Int) (hl:l.length≤1000000):AC Tryz.prog 264 [.c (.sl (l.map As))] [] (.c (.int .i64 (orL l))) []:=by
 have hln:(l.map As).length=l.length:=by simp
 obtain⟨R,hR⟩:∃R,R=orL l:=⟨_,rfl⟩
 rw[←hR]
 refine A6 Tryz.func264 Tryz.ntmps264 hln ?_
 refine Ar (κ:=Nat) (fun k=>⟨mkS 0 18 [(0,.c (.sl (l.map As))),(3,.c (.int .i64 0)),(6,.c (.sl (l.map As))),(7,.c (.int .i64 l.length)),(8,.c (.int .i64 k))],[]⟩)
  (fun k=>k≤l.length∧R=orL (l.drop k)) (fun k=>l.length-k) 0 ⟨Nat.zero_le _,hR⟩ ?_ ?_
 ·exact Ac (Aj.of [] []) hln
 ·rintro k ⟨hk,hRk⟩
  by_cases hlt:k<l.length
  ·have hdk:decide ((k:Int)<(l.length:Int))=true:=by simpa using hlt
   have hw:=Ad (k:=k) (by omega)
   have hr:A8 (l.map As) 1 k=true:=by simp[A8,hlt,As]
   have hg:(l.map As)[k]? = some [.int .i64 l[k]]:=by simp[hlt,As]
   rw[a0n _ hlt]at hRk
   generalize l[k]=x at *
   by_cases hx:x=0
   ·rw[if_pos hx]at hRk
    have hb:(x != 0)=false:=by simpa using hx
    refine Ab (j5 hdk hr hg hb hw) ?_
    refine⟨k+1,by omega,⟨by omega,hRk⟩,?_⟩
    exact Ac (Aj.of [] []) hw
   ·rw[if_neg hx]at hRk
    have hb:(x != 0)=true:=by simpa using hx
    rw[hRk]
    exact FC (j4 hdk hr hg hb) (A5 []) Tryz.results264
  ·have hdk:decide ((k:Int)<(l.length:Int))=false:=by simpa using hlt
   rw[List.drop_eq_nil_of_le (by omega)]at hRk
   have hR0:R=0:=hRk
   rw[hR0]
   exact FC hdk (A5 []) Tryz.results264
theorem a47 (a b c:Int):AC Tryz.prog 264 [.c (.sl [[.int .i64 a],[.int .i64 b],[.int .i64 c]])] [] (.c (.int .i64 (orI a (orI b c)))) []:=by
 have h:=a3s [a,b,c] (by simp)
 simp only[orL,Jn]at h
 exact h
theorem a0m (a b:Int):AC Tryz.prog 264 [.c (.sl [[.int .i64 a],[.int .i64 b]])] [] (.c (.int .i64 (orI a b))) []:=by
 have h:=a3s [a,b] (by simp)
 simp only[orL,Jn]at h
 exact h
theorem Ng (a b:List ByteArray) (hl:a.length≤1000000):AC Tryz.prog 266 [.c (.sl (a.map Ae)),.c (.sl (b.map Ae))] [] (.c (.int .i64 (AI a b))) []:=by
 have hla:(a.map Ae).length=a.length:=by simp
 have hlb:(b.map Ae).length=b.length:=by simp
 obtain⟨R,hR⟩:∃R,R=AI a b:=⟨_,rfl⟩
 rw[←hR]
 refine A6 Tryz.func266 Tryz.ntmps266 (j2 hla hlb) ?_
 refine Ar (κ:=Nat) (fun k=>⟨mkS 0 36 [(0,.c (.sl (a.map Ae))),(1,.c (.sl (b.map Ae))),(9,.c (.sl (a.map Ae))),(10,.c (.int .i64 a.length)),(11,.c (.int .i64 k))],[]⟩)
  (fun k=>k≤a.length∧k≤b.length∧R=AI (a.drop k) (b.drop k)) (fun k=>a.length-k) 0 ⟨Nat.zero_le _,Nat.zero_le _,hR⟩ ?_ ?_
 ·exact Ac (Aj.of [] []) hla
 ·rintro k ⟨hk,hk2,hRk⟩
  by_cases hlt:k<a.length
  ·have hdk:decide ((k:Int)<(a.length:Int))=true:=by simpa using hlt
   have hw:=Ad (k:=k) (by omega)
   have hr:A8 (a.map Ae) 1 k=true:=by simp[A8,hlt,Ae]
   have hg:(a.map Ae)[k]? = some [.str a[k]]:=by simp[hlt,Ae]
   by_cases hltb:k<b.length
   ·have hdb:decide ((k:Int)≥(b.length:Int))=false:=by simpa using hltb
    have hrb:A8 (b.map Ae) 1 k=true:=by simp[A8,hltb,Ae]
    have hgb:(b.map Ae)[k]? = some [.str b[k]]:=by simp[hltb,Ae]
    have hc:=OO a[k] b[k]
    rw[KF hlt hltb]at hRk
    generalize CW a[k] b[k]=x at *
    generalize a[k]=ak,b[k]=bk at *
    by_cases hx:x=0
    ·subst hx
     rw[Hf]at hRk
     have h00:((0:Int) != 0)=false:=rfl
     refine Ab (j7 hdk hr hg hlb hdb hrb hgb) ?_
     refine v7 (A3 [] hc) q9 (j2 h00 hw) ?_
     refine⟨k+1,by omega,⟨by omega,by omega,hRk⟩,?_⟩
     exact Ac (Aj.of [] []) hw
    ·rw[Ko hx]at hRk
     have hb:(x != 0)=true:=by simpa using hx
     rw[hRk]
     refine Ab (j7 hdk hr hg hlb hdb hrb hgb) ?_
     refine v7 (A3 [] hc) q9 hb ?_
     exact Ag (A5 []) Tryz.results266
   ·have hdb:decide ((k:Int)≥(b.length:Int))=true:=by simpa using hltb
    rw[IA hk hk2 (by omega)]at hRk
    have hR1:R=1:=by rw[hRk];unfold Cc;rw[if_neg (by omega),if_pos (by omega)]
    rw[hR1]
    exact FC (j5 hdk hr hg hlb hdb) (A5 []) Tryz.results266
  ·have hdk:decide ((k:Int)<(a.length:Int))=false:=by simpa using hlt
   rw[IA hk hk2 (by omega)]at hRk
   by_cases hll:a.length<b.length
   ·have hd:decide ((a.length:Int)<(b.length:Int))=true:=by simpa using hll
    have hR1:R = -1:=by rw[hRk];exact QF hd
    rw[hR1]
    exact FC (j4 hdk hla hlb hd) (A5 []) Tryz.results266
   ·have hd:decide ((a.length:Int)<(b.length:Int))=false:=by simpa using hll
    have hR1:R=0:=by rw[hRk];exact QE hd (by simp;omega)
    rw[hR1]
    exact FC (j4 hdk hla hlb hd) (A5 []) Tryz.results266
theorem p8 {t:V}(h:t.right):t.keys.length≤200:=by
 by_cases h6:t.kind=6
 ·rw[(DI h h6).2.2]
  exact BH h.2.1
 ·obtain⟨_,_,_,_,h3,_⟩:=Ba h.1
  rw[h3 h6]
  simp
theorem G8:∀(m:Nat) (a b:V),a.count≤m→a.right→AC Tryz.prog 194 [a.av,b.av] [] (.c (.int .i64 (a.cmp b))) []:=by
 intro m
 induction m with
 |zero=>intro a _ hm _;have:=CI a;omega
 |succ m ih =>
  intro a b hm ha
  have hkl:=BH ha.2.1
  by_cases hk:a.kind=b.kind
  ·have hne:(a.kind != b.kind)=false:=by simpa using hk
   obtain⟨R,hR⟩:∃R,R=a.cmp b:=⟨_,rfl⟩
   have hR0:=hR
   rw[G7,if_pos hk,←LU,←LU,LU (Cc a.num b.num)]at hR0
   rw[←hR]
   have h1:=KJ a.num b.num
   have h2:=Lt a.text b.text
   have h3:=Ng a.keys b.keys (by have:=p8 ha;omega)
   have h4:=a47 (Cc a.num b.num) (CW a.text b.text) (AI a.keys b.keys)
   have hrange:-1≤orI (Cc a.num b.num) (orI (CW a.text b.text) (AI a.keys b.keys))∧orI (Cc a.num b.num) (orI (CW a.text b.text) (AI a.keys b.keys))≤1:=EA (G6 _ _) (EA (K3 _ _) (GO _ _))
   generalize orI (Cc a.num b.num) (orI (CW a.text b.text) (AI a.keys b.keys))=o1 at *
   generalize Cc a.num b.num=c1,CW a.text b.text=c2,AI a.keys b.keys=c3 at *
   obtain⟨mn,hmn⟩:∃mn:Int,(if (b.kids.length:Int)<(a.kids.length:Int) then (b.kids.length:Int) else (a.kids.length:Int))=mn:=⟨_,rfl⟩
   have hmn2:∀k:Nat,decide ((k:Int)<mn)=decide (k<a.kids.length∧k<b.kids.length):=by
    intro k
    rw[←hmn]
    split<;>congr 1<;>apply propext<;>omega
   refine A6 Tryz.func194 Tryz.ntmps194 hne ?_
   refine v7 (A3 [] h1) q9 q9 ?_
   refine v7 (A3 [] h2) q9 q9 ?_
   refine v7 (A3 [] h3) q9 q9 ?_
   refine v7 (A3 [(32,0)] h4) q9 q9 ?_
   refine Ar (κ:=Nat×Int) (fun x=>⟨mkS 0 70 [(2,.ptr (2,0) 0),(3,.ptr (3,0) 0),(5,.c (.int .i64 x.2)),(6,.c (.int .i64 x.1))],[((2,0),.box [.c (.int .i64 a.kind),.c (.int .i64 a.num),.c (.str a.text),.c (.sl (a.keys.map Ae)),.c (.sl (a.kids.map V.cs))]),((3,0),.box [.c (.int .i64 b.kind),.c (.int .i64 b.num),.c (.str b.text),.c (.sl (b.keys.map Ae)),.c (.sl (b.kids.map V.cs))])]⟩)
    (fun x=>x.1≤a.kids.length∧x.1≤b.kids.length∧(-1≤x.2∧x.2≤1)∧R=orI x.2 (BQ (a.kids.drop x.1) (b.kids.drop x.1))) (fun x=>a.kids.length-x.1) (0,o1) ⟨Nat.zero_le _,Nat.zero_le _,hrange,hR0⟩ ?_ ?_
   ·exact Ac (Aj.of [((2,0),(2,0)),((3,0),(3,0))] []) hne
   ·rintro⟨k,o⟩ ⟨hk1,hk2,ho,hRk⟩
    dsimp only at hk1 hk2 ho hRk ⊢
    have w1:IntKind.i64.wrap o=o:=IntWalk.i64_in _ (by omega)
    by_cases hlt:k<a.kids.length∧k<b.kids.length
    ·have hdk:decide ((k:Int)<mn)=true:=by rw[hmn2];simpa using hlt
     by_cases h0:o=0
     ·subst h0
      have h00:((0:Int)==0)=true:=rfl
      have hw:=Ad (k:=k) (by omega)
      rw[Hf,Nc hlt.1 hlt.2]at hRk
      have hra:A8 (a.kids.map V.cs) 5 k=true:=by simp[A8,hlt.1,V.cs_eq]
      have hga:(a.kids.map V.cs)[k]? = some a.kids[k].cs:=by simp[hlt.1]
      have hrb:A8 (b.kids.map V.cs) 5 k=true:=by simp[A8,hlt.2,V.cs_eq]
      have hgb:(b.kids.map V.cs)[k]? = some b.kids[k].cs:=by simp[hlt.2]
      have hmem:=CL (List.getElem_mem hlt.1)
      have hck:=AP a
      have hrec:=ih a.kids[k] b.kids[k] (by omega) (Bb ha (List.getElem_mem hlt.1))
      have hrg:=Py a.kids[k] b.kids[k]
      generalize a.kids[k].cmp b.kids[k]=o2 at *
      generalize a.kids[k]=u,b.kids[k]=v at *
      have w2:IntKind.i64.wrap o2=o2:=IntWalk.i64_in _ (by omega)
      refine Ab (j7 hmn hdk h00 hra hga hrb hgb) ?_
      refine v7 (A3 [] hrec) q9 (j2 @w2 hw) ?_
      refine⟨(k+1,o2),by dsimp only;omega,⟨by dsimp only;omega,by dsimp only;omega,hrg,hRk⟩,?_⟩
      exact Ac (Aj.of [((2,0),(2,0)),((3,0),(3,0))] []) hw
     ·have hb0:(o==0)=false:=by simpa using h0
      rw[Ko h0]at hRk
      have hcl:=JD (a.kids.length:Int) (b.kids.length:Int)
      have hor:=a0m o (Cc a.kids.length b.kids.length)
      rw[Ko h0]at hor
      generalize Cc a.kids.length b.kids.length=c9 at *
      rw[hRk]
      refine Ab (j3 hmn hdk hb0) ?_
      refine v7 (A3 [] hcl) q9 q9 ?_
      refine v7 (A3 [(68,0)] hor) q9 w1 ?_
      exact Ag (A5 []) Tryz.results194
    ·have hdk:decide ((k:Int)<mn)=false:=by rw[hmn2];simpa using hlt
     rw[Px hk1 hk2 hlt]at hRk
     have hcl:=JD (a.kids.length:Int) (b.kids.length:Int)
     have hor:=a0m o (Cc a.kids.length b.kids.length)
     have hrg:=EA ho (G6 (a.kids.length:Int) (b.kids.length:Int))
     generalize Cc a.kids.length b.kids.length=c9 at *
     rw[←hRk]at hor hrg
     have w2:IntKind.i64.wrap R=R:=IntWalk.i64_in _ (by omega)
     refine Ab (j2 hmn hdk) ?_
     refine v7 (A3 [] hcl) q9 q9 ?_
     refine v7 (A3 [(68,0)] hor) q9 @w2 ?_
     exact Ag (A5 []) Tryz.results194
  ·have hne:(a.kind != b.kind)=true:=by simpa using hk
   have h1:=KJ a.kind b.kind
   have hR:a.cmp b=Cc a.kind b.kind:=by rw[G7,if_neg hk]
   have hrg:=G6 a.kind b.kind
   rw[hR]
   generalize Cc a.kind b.kind=c1 at *
   have w1:IntKind.i64.wrap c1=c1:=IntWalk.i64_in _ (by omega)
   refine A6 Tryz.func194 Tryz.ntmps194 hne ?_
   refine v7 (A3 [] h1) q9 w1 ?_
   exact Ag (A5 []) Tryz.results194
set_option maxRecDepth 10000
def E3 {α:Type}(d:α→Bool) (l:List α):Int:=match l.findIdx? d with
 |some i=>i
 |none=>-1
theorem KY {α:Type}{d:α→Bool}{l:List α}{k:Nat}(h:k<l.length) (hb:d l[k]=true) (hno:∀j (h:j<l.length),j<k→d l[j]=false):E3 d l=k:=by
 unfold E3
 rw[List.findIdx?_eq_some_iff_getElem.2 ⟨h,hb,fun j hj=>by simp[hno j (by omega) hj]⟩]
theorem KX {α:Type}{d:α→Bool}{l:List α}(hno:∀j (h:j<l.length),d l[j]=false):E3 d l = -1:=by
 unfold E3
 rw[List.findIdx?_eq_none_iff.2 fun x hx=>by
  obtain⟨i,hi,rfl⟩:=List.getElem_of_mem hx
  exact hno i hi]
theorem SG {α:Type}(d:α→Bool) (l:List α):decide (E3 d l≥0)=l.any d:=by
 unfold E3
 cases hf:l.findIdx? d with
 |none =>
  have h:=List.findIdx?_eq_none_iff.1 hf
  have:l.any d=false:=by rw[List.any_eq_false];intro x hx;simp[h x hx]
  rw[this]
  rfl
 |some i =>
  obtain⟨h1,h2,_⟩:=List.findIdx?_eq_some_iff_getElem.1 hf
  have:l.any d=true:=List.any_eq_true.2 ⟨_,List.getElem_mem h1,h2⟩
  rw[this]
  simp
abbrev Ix (q:V):Mem:=[((0,0),.box [.c (.int .i64 q.kind),.c (.int .i64 q.num),.c (.str q.text),.c (.sl (q.keys.map Ae)),.c (.sl (q.kids.map V.cs))])]
theorem Rl (f:FuncId) (hcal:A7 Tryz.prog f=true) (q:V) (d:V→Bool) (l:List V) (hl:l.length≤1000000) (hd:∀p∈l,AC Tryz.prog f [p.av,.ptr (0,0) 0] (Ix q) (.c (.bool (d p))) (Ix q)) :
  AC Tryz.prog 338 [.c (.sl (l.map V.cs)),.clo f [.ptr (0,0) 0]] (Ix q) (.c (.int .i64 (E3 d l))) (Ix q):=by
 refine A6 Tryz.func338 Tryz.ntmps338 q9 ?_
 refine Ar (κ:=Nat) (fun k=>⟨mkS 0 19 [(0,.c (.sl (l.map V.cs))),(1,.clo f [.ptr (0,0) 0]),(7,.c (.int .i64 l.length)),(8,.c (.int .i64 k))],Ix q⟩)
  (fun k=>k≤l.length∧∀j (h:j<l.length),j<k→d l[j]=false) (fun k=>l.length-k) 0 ⟨Nat.zero_le _,by intro j h hj;omega⟩ ?_ ?_
 ·exact Ac (Aj.of [((0,0),(0,0))] []) hl
 ·rintro k ⟨hk,hno⟩
  by_cases hlt:k<l.length
  ·have hdk:decide ((k:Int)<(l.length:Int))=true:=by simpa using hlt
   have hw:=Ad (k:=k) (by omega)
   have hr:A8 (l.map V.cs) 5 k=true:=by simp[A8,hlt,V.cs_eq]
   have hg:(l.map V.cs)[k]? = some [.int .i64 l[k].kind,.int .i64 l[k].num,.str l[k].text,.sl (l[k].keys.map Ae),.sl (l[k].kids.map V.cs)]:=by simp[hlt,V.cs_eq]
   have hc:=hd l[k] (List.getElem_mem hlt)
   cases hb:d l[k] with
   |true =>
    rw[hb]at hc
    rw[KY hlt hb hno]
    refine Ab (j3 hdk hr hg) ?_
    refine Bw (Am [((0,0),(0,0))] [((0,0),(0,0))] hc) hcal q9 ?_
    exact Aa (A9 [((0,0),(0,0))] []) Tryz.results338 hl
   |false =>
    rw[hb]at hc
    refine Ab (j3 hdk hr hg) ?_
    refine Bw (Am [((0,0),(0,0))] [((0,0),(0,0))] hc) hcal hw ?_
    refine⟨k+1,by omega,⟨by omega,fun j h hj=>?_⟩,?_⟩
    ·by_cases hjk:j=k
     ·subst hjk;exact hb
     ·exact hno j h (by omega)
    ·exact Ac (Aj.of [((0,0),(0,0))] []) hw
  ·have hdk:decide ((k:Int)<(l.length:Int))=false:=by simpa using hlt
   rw[KX (fun j h=>hno j h (by omega))]
   refine Ab hdk ?_
   exact Aa (A9 [((0,0),(0,0))] []) Tryz.results338 hl
theorem MM (f:FuncId) (hcal:A7 Tryz.prog f=true) (q:V) (d:V→Bool) (l:List V) (hl:l.length≤1000000) (hd:∀p∈l,AC Tryz.prog f [p.av,.ptr (0,0) 0] (Ix q) (.c (.bool (d p))) (Ix q)) :
  AC Tryz.prog 275 [.c (.sl (l.map V.cs)),.clo f [.ptr (0,0) 0]] (Ix q) (.c (.bool (l.any d))) (Ix q):=by
 have h1:=Rl f hcal q d l hl hd
 have h2:=SG d l
 generalize E3 d l=i,l.any d=r at *
 refine A6 Tryz.func275 Tryz.ntmps275 q9 ?_
 refine Bw (Am [((0,0),(0,0))] [((0,0),(0,0))] h1) q9 h2 ?_
 exact Aa (A9 [((0,0),(0,0))] []) Tryz.results275 h2
abbrev ZG (q:V) (rows:List (List C)):Mem:=[((0,0),.box [.c (.int .i64 q.kind),.c (.int .i64 q.num),.c (.str q.text),.c (.sl (q.keys.map Ae)),.c (.sl (q.kids.map V.cs))]),((0,1),.row false 5 127 rows)]
theorem SV (f:FuncId) (hcal:A7 Tryz.prog f=true) (q:V) (d:V→Bool) (l:List V) (hl:l.length≤1000000) (hd:∀p∈l,AC Tryz.prog f [p.av,.ptr (0,0) 0] (Ix q) (.c (.bool (d p))) (Ix q)) :
  AC Tryz.prog 338 [.own (0,1),.clo f [.ptr (0,0) 0]] (ZG q (l.map V.cs)) (.c (.int .i64 (E3 d l))) (ZG q (l.map V.cs)):=by
 have hlm:(l.map V.cs).length=l.length:=by simp
 refine A6 Tryz.func338 Tryz.ntmps338 hlm ?_
 refine Ar (κ:=Nat) (fun k=>⟨mkS 0 19 [(0,.own (0,1)),(1,.clo f [.ptr (0,0) 0]),(7,.c (.int .i64 l.length)),(8,.c (.int .i64 k))],ZG q (l.map V.cs)⟩)
  (fun k=>k≤l.length∧∀j (h:j<l.length),j<k→d l[j]=false) (fun k=>l.length-k) 0 ⟨Nat.zero_le _,by intro j h hj;omega⟩ ?_ ?_
 ·exact Ac (Aj.of [((0,0),(0,0)),((0,1),(0,1))] []) hl
 ·rintro k ⟨hk,hno⟩
  by_cases hlt:k<l.length
  ·have hdk:decide ((k:Int)<(l.length:Int))=true:=by simpa using hlt
   have hw:=Ad (k:=k) (by omega)
   have hr:A8 (l.map V.cs) 5 k=true:=by simp[A8,hlt,V.cs_eq]
   have hg:(l.map V.cs)[k]? = some [.int .i64 l[k].kind,.int .i64 l[k].num,.str l[k].text,.sl (l[k].keys.map Ae),.sl (l[k].kids.map V.cs)]:=by simp[hlt,V.cs_eq]
   have hc:=hd l[k] (List.getElem_mem hlt)
   cases hb:d l[k] with
   |true =>
    rw[hb]at hc
    rw[KY hlt hb hno]
    refine Ab (j3 hdk hr hg) ?_
    refine Bw (Am [((0,0),(0,0))] [((0,0),(0,0))] hc) hcal q9 ?_
    exact Aa (A9 [((0,0),(0,0)),((0,1),(0,1))] []) Tryz.results338 hl
   |false =>
    rw[hb]at hc
    refine Ab (j3 hdk hr hg) ?_
    refine Bw (Am [((0,0),(0,0))] [((0,0),(0,0))] hc) hcal hw ?_
    refine⟨k+1,by omega,⟨by omega,fun j h hj=>?_⟩,?_⟩
    ·by_cases hjk:j=k
     ·subst hjk;exact hb
     ·exact hno j h (by omega)
    ·exact Ac (Aj.of [((0,0),(0,0)),((0,1),(0,1))] []) hw
  ·have hdk:decide ((k:Int)<(l.length:Int))=false:=by simpa using hlt
   rw[KX (fun j h=>hno j h (by omega))]
   refine Ab hdk ?_
   exact Aa (A9 [((0,0),(0,0)),((0,1),(0,1))] []) Tryz.results338 hl
theorem Ql {α:Type}{d:α→Bool}{l:List α}{j:Nat}(h:j<l.length):(l.take (j+1)).filter d=(l.take j).filter d++(if d l[j] then [l[j]] else []):=by
 rw[List.take_succ_eq_append_getElem h,List.filter_append]
 simp[List.filter_cons]
theorem a19 {α:Type}{l:List α}(h:l.length=5):∃a b c d e,l=[a,b,c,d,e]:=by
 match l,h with
 | [a,b,c,d,e],_=>exact⟨a,b,c,d,e,rfl⟩
theorem Sw (f:FuncId) (hcal:A7 Tryz.prog f=true) (q:V) (d:V→Bool) (l:List V) (hl:l.length≤1000000) (hd:∀p∈l,AC Tryz.prog f [p.av,.ptr (0,0) 0] (Ix q) (.c (.bool (d p))) (Ix q)) :
  AC Tryz.prog 273 [.own (0,1),.clo f [.ptr (0,0) 0]] (ZG q (l.map V.cs)) (.own (1,0)) (Ix q++[((1,0),.row false 5 127 ((l.filter fun p=>!d p).map V.cs))]):=by
 have hix:=SV f hcal q d l hl hd
 show AC _ _ _ _ _ [((0,0),.box [.c (.int .i64 q.kind),.c (.int .i64 q.num),.c (.str q.text),.c (.sl (q.keys.map Ae)),.c (.sl (q.kids.map V.cs))]),((1,0),.row false 5 127 ((l.filter fun p=>!d p).map V.cs))]
 cases hfi:l.findIdx? d with
 |none =>
  have h1:E3 d l = -1:=by unfold E3;rw[hfi]
  have hall:(l.filter fun p=>!d p)=l:=List.filter_eq_self.2 fun x hx=>by
   have:=List.findIdx?_eq_none_iff.1 hfi x hx
   simp[this]
  rw[h1]at hix
  rw[hall]
  have hm1:((-1:Int)==-1)=true:=rfl
  refine A6 Tryz.func273 Tryz.ntmps273 q9 ?_
  refine Bw (Am [((0,0),(0,0)),((0,1),(0,1))] [((0,0),(0,0)),((0,1),(0,1))] hix) q9 hm1 ?_
  exact Aa (A9 [((0,0),(0,0)),((1,0),(0,1))] []) Tryz.results273 hall
 |some i0 =>
  obtain⟨hi0,hdi,hno⟩:=List.findIdx?_eq_some_iff_getElem.1 hfi
  have h1:E3 d l=i0:=by unfold E3;rw[hfi]
  rw[h1]at hix
  have hm1:((i0:Int)==-1)=false:=by simp
  have hw0:=Ad (k:=i0) (by omega)
  have hk0:(l.take (i0+1)).filter (fun p=>!d p)=l.take i0:=by
   rw[Ql hi0,hdi]
   simp only[Bool.not_true,Bool.false_eq_true,if_false,List.append_nil]
   refine List.filter_eq_self.2 fun x hx=>?_
   obtain⟨j,hj,rfl⟩:=List.getElem_of_mem hx
   rw[List.length_take]at hj
   rw[List.getElem_take]
   simpa using hno j (by omega)
  have hkl:((l.take (i0+1)).filter (fun p=>!d p)).length=i0:=by rw[hk0,List.length_take];omega
  refine A6 Tryz.func273 Tryz.ntmps273 q9 ?_
  refine Bw (Am [((0,0),(0,0)),((0,1),(0,1))] [((0,0),(0,0)),((0,1),(0,1))] hix) q9 (j2 hm1 hw0) ?_
  refine Ar (κ:=Nat×List (List C)) (fun x=>⟨mkS 0 42 [(0,.own (0,1)),(1,.clo f [.ptr (0,0) 0]),(5,.c (.int .i64 ((l.take x.1).filter (fun p=>!d p)).length)),(6,.c (.int .i64 x.1))],ZG q x.2⟩)
   (fun x=>x.1≤l.length∧x.2.length=l.length∧((l.take x.1).filter (fun p=>!d p)).length<x.1∧x.2.take ((l.take x.1).filter (fun p=>!d p)).length=((l.take x.1).filter (fun p=>!d p)).map V.cs∧x.2.drop x.1=(l.drop x.1).map V.cs∧∀y∈x.2,y.length=5) (fun x=>l.length-x.1) (i0+1,l.map V.cs) ⟨by dsimp only;omega,by simp,by dsimp only;omega,by dsimp only;rw[hkl,hk0,List.map_take],by dsimp only;rw[List.map_drop],by intro y hy;obtain⟨q,_,rfl⟩:=List.mem_map.1 hy;rw[V.cs_eq];rfl⟩ ?_ ?_
  ·exact Ac (Aj.of [((0,0),(0,0)),((0,1),(0,1))] []) hkl
  ·rintro⟨j,L⟩ ⟨hj,hL,hlt0,htk,hdr,h6⟩
   dsimp only at hj hL hlt0 htk hdr h6 ⊢
   by_cases hlt:j<l.length
   ·have hdk:decide ((j:Int)<(l.length:Int))=true:=by simpa using hlt
    have hw:=Ad (k:=j) (by omega)
    have hLj:L[j]? = some (V.cs l[j]):=by
     have:(L.drop j)[0]? = L[j]?:=by rw[List.getElem?_drop];rfl
     rw[←this,hdr,List.drop_eq_getElem_cons hlt]
     rfl
    have hg:L[j]? = some [.int .i64 l[j].kind,.int .i64 l[j].num,.str l[j].text,.sl (l[j].keys.map Ae),.sl (l[j].kids.map V.cs)]:=by rw[hLj,V.cs_eq]
    have hr:A8 L 5 j=true:=by unfold A8;rw[Int.toNat_natCast,hLj];simp[V.cs_eq]
    have hc:=hd l[j] (List.getElem_mem hlt)
    have hnext:=Ql (d:=fun p=>!d p) hlt
    have hdr1:L.drop (j+1)=(l.drop (j+1)).map V.cs:=by
     rw[←List.drop_drop,hdr,←List.map_drop,List.drop_drop]
    cases hb:d l[j] with
    |true =>
     rw[hb]at hc hnext
     simp only[Bool.not_true,Bool.false_eq_true,if_false,List.append_nil]at hnext
     refine Ab (j4 hL hdk hr hg) ?_
     refine Bw (Am [((0,0),(0,0))] [((0,0),(0,0))] hc) hcal hw ?_
     refine⟨(j+1,L),by dsimp only;omega,⟨by dsimp only;omega,hL,?_,?_,hdr1,h6⟩,?_⟩
     ·dsimp only;rw[hnext];omega
     ·dsimp only;rw[hnext];exact htk
     ·exact Ac (Aj.of [((0,0),(0,0)),((0,1),(0,1))] []) hnext
    |false =>
     rw[hb]at hc hnext
     simp only[Bool.not_false,if_true]at hnext
     have hwi:=Ad (k:=((l.take j).filter fun p=>!d p).length) (by omega)
     have hnl:((l.take (j+1)).filter fun p=>!d p).length=((l.take j).filter fun p=>!d p).length+1:=by rw[hnext];simp
     have hcsj:V.cs l[j]=[.int .i64 l[j].kind,.int .i64 l[j].num,.str l[j].text,.sl (l[j].keys.map Ae),.sl (l[j].kids.map V.cs)]:=V.cs_eq _
     generalize hI:((l.take j).filter fun p=>!d p).length=I at *
     have hIL:I<L.length:=by omega
     obtain⟨old,hold⟩:∃old,L[I]? = some old:=⟨L[I],List.getElem?_eq_getElem hIL⟩
     obtain⟨o1,o2,o3,o4,o5,rfl⟩:=a19 (h6 old (List.mem_of_getElem? hold))
     have hri:A8 L 5 I=true:=by unfold A8;rw[Int.toNat_natCast,hold];rfl
     refine Ab (j4 hL hdk hr hg) ?_
     refine Bw (Am [((0,0),(0,0))] [((0,0),(0,0))] hc) hcal (j4 hri hold hwi hw) ?_
     refine⟨(j+1,L.set I (V.cs l[j])),by dsimp only;omega,⟨by dsimp only;omega,by dsimp only;rw[List.length_set];exact hL,?_,?_,?_,?_⟩,?_⟩
     ·dsimp only;omega
     ·dsimp only
      rw[hnl,hnext,List.map_append,←htk,List.set_eq_take_append_cons_drop,if_pos hIL,show L.take I++V.cs l[j]::L.drop (I+1)=(L.take I++[V.cs l[j]])++L.drop (I+1) by simp]
      exact List.take_left' (by simp;omega)
     ·dsimp only
      rw[←hdr1]
      apply List.ext_getElem?
      intro n
      rw[List.getElem?_drop,List.getElem?_drop,List.getElem?_set_ne (by omega)]
     ·intro y hy
      rcases List.mem_or_eq_of_mem_set hy with hy | rfl
      ·exact h6 y hy
      ·rw[V.cs_eq];rfl
     ·exact Ac (Aj.of [((0,0),(0,0)),((0,1),(0,1))] []) (j2 hnl hcsj)
   ·have hdk:decide ((j:Int)<(l.length:Int))=false:=by simpa using hlt
    have hje:l.take j=l:=List.take_of_length_le (by omega)
    rw[hje]at htk hlt0 ⊢
    generalize hF:(l.filter fun p=>!d p)=F at *
    have hFl:F.length≤L.length:=by omega
    have hzz:F.length≤(L.take F.length++List.replicate (L.length-F.length) [C.int .i64 0,.int .i64 0,.str ByteArray.empty,.sl [],.sl []]).length:=by simp;omega
    have hfin:(L.take F.length++List.replicate (L.length-F.length) [C.int .i64 0,.int .i64 0,.str ByteArray.empty,.sl [],.sl []]).take F.length=F.map V.cs:=by
     rw[List.take_append_of_le_length (by rw[List.length_take];omega),List.take_take,Nat.min_self,htk]
    refine Ab (j2 hL hdk) ?_
    ((with_reducible apply a2t);(iterate 9 (focus (first | (simp only[go_sem,Nat.reduceEqDiff,Nat.reduceAdd,Nat.reduceSub,Nat.reduceLeDiff,Nat.reduceMul,Nat.reduceBEq,Nat.reduceLT,Int.reduceToNat,reduceCtorEq,hFl];first | done | exact rfl | (and_intros<;>rfl)) | exact rfl | decide))))
    ((with_reducible apply a0g);(iterate 12 (focus (first | (simp only[go_sem,Nat.reduceEqDiff,Nat.reduceAdd,Nat.reduceSub,Nat.reduceLeDiff,Nat.reduceMul,Nat.reduceBEq,Nat.reduceLT,Int.reduceToNat,reduceCtorEq,hFl];first | done | exact rfl | (and_intros<;>rfl)) | exact rfl | decide))))
    refine Ab q9 ?_
    ((with_reducible apply Q8);(iterate 10 (focus (first | (simp only[go_sem,Nat.reduceEqDiff,Nat.reduceAdd,Nat.reduceSub,Nat.reduceLeDiff,Nat.reduceMul,Nat.reduceBEq,Nat.reduceLT,Int.reduceToNat,reduceCtorEq,hzz];first | done | exact rfl | (and_intros<;>rfl)) | exact rfl | decide))))
    refine Ab q9 ?_
    exact Aa (A9 [((0,0),(0,0)),((1,0),(41,0))] []) Tryz.results273 hfin
theorem a1c (x y:V) (hx:x.right):AC Tryz.prog 276 [y.av,.ptr (0,0) 0] (Ix x) (.c (.bool (x.cmp y==0))) (Ix x):=by
 have hc:=G8 x.count x y (Nat.le_refl _) hx
 refine A6 Tryz.func276 Tryz.ntmps276 q9 ?_
 refine v7 (A3 [] hc) q9 q9 ?_
 exact Aa (A9 [((0,0),(0,0))] []) Tryz.results276 hc
theorem Zi (x b:V) (hx:x.right) (hb:b.right):AC Tryz.prog 274 [x.av,.ptr (0,0) 0] (Ix b) (.c (.bool (b.kids.any fun y=>x.cmp y==0))) (Ix b):=by
 have hkl:=BH hb.2.1
 have hc:=MM 276 (by simp only[go_sem]) x (fun y=>x.cmp y==0) b.kids (by omega) (fun y _=>a1c x y hx)
 generalize (b.kids.any fun y=>x.cmp y==0)=r at *
 refine A6 Tryz.func274 Tryz.ntmps274 q9 ?_
 refine Bw (Am [((0,0),(2,0))] [((0,0),(2,0))] hc) q9 q9 ?_
 exact Aa (A9 [((0,0),(0,0))] []) Tryz.results274 hb
end Go.Proofs.YtcejfdfmgmcinaaGreat
