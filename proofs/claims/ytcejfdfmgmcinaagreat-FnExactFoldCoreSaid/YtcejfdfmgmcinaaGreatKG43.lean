/- cmp.Compare, cmp.Or, strings.Compare, slices.Compare; impl.compareVals, by the engine. -/
import Derived.Test.YtcejfdfmgmcinaaGreatKG04uL1
import Derived.Test.YtcejfdfmgmcinaaGreatKM2
import Derived.Lib.Bytealg
set_option linter.all false
set_option maxHeartbeats 8000000
namespace Go.Proofs.YtcejfdfmgmcinaaGreat
open Go.RowKit
set_option maxRecDepth 10000
theorem NG (x:Int):AC Tryz.prog 332 [.c (.int .i64 x)] [] (.c (.bool false)) []:=by
 have h:(x != x)=false:=by simp
 refine A7 Tryz.func332 Tryz.ntmps332 ?_
 refine A3 h ?_
 exact Ad (A6 []) Tryz.results332
theorem SO (x:Int):AC Tryz.prog 335 [.c (.int .i64 x)] [] (.c (.bool false)) []:=by
 have h:(x != x)=false:=by simp
 refine A7 Tryz.func335 Tryz.ntmps335 ?_
 refine A3 h ?_
 exact Ad (A6 []) Tryz.results335
theorem PL (x:ByteArray):AC Tryz.prog 374 [.c (.str x)] [] (.c (.bool false)) []:=by
 have h:(x.toList==x.toList)=true:=by simp
 refine A7 Tryz.func374 Tryz.ntmps374 ?_
 refine A3 h ?_
 exact Ad (A6 []) Tryz.results374
theorem Qz {a b:Int}(h:decide (a<b)=true):Cj a b = -1:=if_pos (by simpa using h)
theorem Wi {a b:Int}(h1:decide (a<b)=false) (h:decide (a>b)=true):Cj a b=1:=by
 unfold Cj
 rw[if_neg (by simpa using h1),if_pos (by simpa using h)]
theorem Qy {a b:Int}(h1:decide (a<b)=false) (h:decide (a>b)=false):Cj a b=0:=by
 unfold Cj
 rw[if_neg (by simpa using h1),if_neg (by simpa using h)]
theorem KE (a b:Int):AC Tryz.prog 263 [.c (.int .i64 a),.c (.int .i64 b)] [] (.c (.int .i64 (Cj a b))) []:=by
 have h1:=NG a
 have h2:=NG b
 cases hl:decide (a<b)<;>cases hg:decide (a>b)
 ·rw[Qy hl hg]
  refine A7 Tryz.func263 Tryz.ntmps263 ?_
  refine A3 q9 ?_
  refine w7 (A4 [] h1) q9 ?_
  refine A3 q9 ?_
  refine w7 (A4 [] h2) q9 ?_
  refine A3 (j2 hl hg) ?_
  exact Ad (A6 []) Tryz.results263
 ·rw[Wi hl hg]
  refine A7 Tryz.func263 Tryz.ntmps263 ?_
  refine A3 q9 ?_
  refine w7 (A4 [] h1) q9 ?_
  refine A3 q9 ?_
  refine w7 (A4 [] h2) q9 ?_
  refine A3 (j2 hl hg) ?_
  exact Ad (A6 []) Tryz.results263
 all_goals
  rw[Qz hl]
  refine A7 Tryz.func263 Tryz.ntmps263 ?_
  refine A3 q9 ?_
  refine w7 (A4 [] h1) q9 ?_
  refine A3 q9 ?_
  refine w7 (A4 [] h2) q9 ?_
  refine A3 hl ?_
  exact Ad (A6 []) Tryz.results263
theorem Jv (a b:Int):AC Tryz.prog 267 [.c (.int .i64 a),.c (.int .i64 b)] [] (.c (.int .i64 (Cj a b))) []:=by
 have h1:=SO a
 have h2:=SO b
 cases hl:decide (a<b)<;>cases hg:decide (a>b)
 ·rw[Qy hl hg]
  refine A7 Tryz.func267 Tryz.ntmps267 ?_
  refine A3 q9 ?_
  refine w7 (A4 [] h1) q9 ?_
  refine A3 q9 ?_
  refine w7 (A4 [] h2) q9 ?_
  refine A3 (j2 hl hg) ?_
  exact Ad (A6 []) Tryz.results267
 ·rw[Wi hl hg]
  refine A7 Tryz.func267 Tryz.ntmps267 ?_
  refine A3 q9 ?_
  refine w7 (A4 [] h1) q9 ?_
  refine A3 q9 ?_
  refine w7 (A4 [] h2) q9 ?_
  refine A3 (j2 hl hg) ?_
  exact Ad (A6 []) Tryz.results267
 all_goals
  rw[Qz hl]
  refine A7 Tryz.func267 Tryz.ntmps267 ?_
  refine A3 q9 ?_
  refine w7 (A4 [] h1) q9 ?_
  refine A3 q9 ?_
  refine w7 (A4 [] h2) q9 ?_
  refine A3 hl ?_
  exact Ad (A6 []) Tryz.results267
theorem Xf (a b:ByteArray):(Op.bytesLess a.toList b.toList=true∧D9 a b = -1)∨(Op.bytesLess a.toList b.toList=false∧(a.toList==b.toList)=true∧D9 a b=0)∨(Op.bytesLess a.toList b.toList=false∧(a.toList==b.toList)=false∧D9 a b=1):=by
 unfold D9 B1
 cases h1:Op.bytesLess a.toList b.toList with
 |true=>exact .inl ⟨rfl,rfl⟩
 |false=>cases h2:(a.toList==b.toList) with
  |true=>exact .inr (.inl ⟨rfl,rfl,rfl⟩)
  |false=>exact .inr (.inr ⟨rfl,rfl,rfl⟩)
theorem OI (a b:ByteArray):AC Tryz.prog 334 [.c (.str a),.c (.str b)] [] (.c (.int .i64 (D9 a b))) []:=by
 have h1:=PL a
 have h2:=PL b
 rcases Xf a b with⟨hl,he⟩ | ⟨hl,hg,he⟩ | ⟨hl,hg,he⟩
 ·rw[he]
  refine A7 Tryz.func334 Tryz.ntmps334 ?_
  refine A3 q9 ?_
  refine w7 (A4 [] h1) q9 ?_
  refine A3 q9 ?_
  refine w7 (A4 [] h2) q9 ?_
  refine A3 hl ?_
  exact Ad (A6 []) Tryz.results334
 all_goals
  rw[he]
  refine A7 Tryz.func334 Tryz.ntmps334 ?_
  refine A3 q9 ?_
  refine w7 (A4 [] h1) q9 ?_
  refine A3 q9 ?_
  refine w7 (A4 [] h2) q9 ?_
  refine A3 (j2 hl hg) ?_
  exact Ad (A6 []) Tryz.results334
theorem Ik:∀(a b:List UInt8),Lib.compareBytes a b=if Op.bytesLess a b then -1 else if a==b then 0 else 1
 | [],[]=>rfl
 | [],_::_=>rfl
 |_::_,[]=>by simp[Lib.compareBytes,Op.bytesLess]
 |x::a,y::b=>by
  unfold Lib.compareBytes
  rw[Ik a b]
  simp only[Op.bytesLess]
  by_cases h1:x<y
  ·simp[h1]
  ·by_cases h2:y<x
   ·have:x≠y:=fun e=>by subst e;exact h1 h2
    simp[h1,h2,this]
   ·have:x=y:=by
     apply UInt8.toNat_inj.1
     have h3:¬x.toNat<y.toNat:=fun h=>h1 (UInt8.lt_iff_toNat_lt.2 h)
     have h4:¬y.toNat<x.toNat:=fun h=>h2 (UInt8.lt_iff_toNat_lt.2 h)
     omega
    subst this
    simp[h1]
theorem S7 (a b:ByteArray) (w:World):Calls Tryz.prog 333 #[.string a,.string b] w fun e w'=>e=.returned (.int .i64 (Lib.compareBytes a.data.toList b.data.toList))∧w'=w:=by
 go_enter Tryz.func333,Tryz.ntmps333
 go_wp2
 rw[run_callFunc_extern Tryz.func373 (by kernel_rfl) (by kernel_rfl) (by kernel_rfl) (e:=Extern.BytealgCompare.compare) (by kernel_rfl),Lib.run_compareString]
 simp only[Result.andThen]
 rw[Oper.upon_value]
 go_wp2
 go_ret
 exact⟨rfl,rfl⟩
theorem Ud (a b:ByteArray):AC Tryz.prog 333 [.c (.str a),.c (.str b)] [] (.c (.int .i64 (D9 a b))) []:=by
 refine AC.of_calls fun S w κ vs hv=>?_
 obtain⟨v,vs',rfl,⟨rfl,_⟩,v2,vs2,rfl,⟨rfl,_⟩,rfl⟩:=hv
 refine (S7 a b w).mono ?_
 rintro e w' ⟨rfl,rfl⟩
 refine⟨Below.refl _ _,_,rfl,fun T _ _=>?_⟩
 have:Lib.compareBytes a.data.toList b.data.toList=D9 a b:=by
  rw[Ik,←ByteArray.toList_eq,←ByteArray.toList_eq]
  rfl
 rw[this]
 exact⟨rfl,rfl⟩
theorem Ln (a b:ByteArray):AC Tryz.prog 265 [.c (.str a),.c (.str b)] [] (.c (.int .i64 (D9 a b))) []:=by
 have h:=Ud a b
 refine A7 Tryz.func265 Tryz.ntmps265 ?_
 refine A3 q9 ?_
 refine w7 (A4 [] h) q9 ?_
 refine A3 q9 ?_
 exact Ad (A6 []) Tryz.results265
def orL:List Int→Int
 | []=>0
 |a::r=>orI a (orL r)
theorem q6 (l:List Int) {k:Nat}(h:k<l.length):orL (l.drop k)=if l[k]=0 then orL (l.drop (k+1)) else l[k]:=by
 rw[List.drop_eq_getElem_cons h]
 rfl
theorem a2r (l:List Int) (hl:l.length≤1000000):AC Tryz.prog 264 [.c (.sl (l.map AB))] [] (.c (.int .i64 (orL l))) []:=by
 have hln:(l.map AB).length=l.length:=by simp
 obtain⟨R,hR⟩:∃R,R=orL l:=⟨_,rfl⟩
 rw[←hR]
 refine A7 Tryz.func264 Tryz.ntmps264 ?_
 refine A3 hln ?_
 refine Ay (κ:=Nat) (fun k=>⟨mkS 0 18 [(0,.c (.sl (l.map AB))),(3,.c (.int .i64 0)),(6,.c (.sl (l.map AB))),(7,.c (.int .i64 l.length)),(8,.c (.int .i64 k))],[]⟩)
  (fun k=>k≤l.length∧R=orL (l.drop k)) (fun k=>l.length-k) 0 ⟨Nat.zero_le _,hR⟩ ?_ ?_
 ·exact Af (Am.of [] []) hln
 ·rintro k ⟨hk,hRk⟩
  by_cases hlt:k<l.length
  ·have hdk:decide ((k:Int)<(l.length:Int))=true:=by simpa using hlt
   have hw:=Ah (k:=k) (by omega)
   have hr:A9 (l.map AB) 1 k=true:=by simp[A9,hlt,AB]
   have hg:(l.map AB)[k]? = some [.int .i64 l[k]]:=by simp[hlt,AB]
   rw[q6 _ hlt]at hRk
   generalize l[k]=x at *
   by_cases hx:x=0
   ·rw[if_pos hx]at hRk
    have hb:(x != 0)=false:=by simpa using hx
    refine A3 (j5 hdk hr hg hb hw) ?_
    refine⟨k+1,by omega,⟨by omega,hRk⟩,?_⟩
    exact Af (Am.of [] []) hw
   ·rw[if_neg hx]at hRk
    have hb:(x != 0)=true:=by simpa using hx
    rw[hRk]
    refine A3 (j4 hdk hr hg hb) ?_
    exact Ad (A6 []) Tryz.results264
  ·have hdk:decide ((k:Int)<(l.length:Int))=false:=by simpa using hlt
   rw[List.drop_eq_nil_of_le (by omega)]at hRk
   have hR0:R=0:=hRk
   rw[hR0]
   refine A3 hdk ?_
   exact Ad (A6 []) Tryz.results264
theorem a4f (a b c:Int):AC Tryz.prog 264 [.c (.sl [[.int .i64 a],[.int .i64 b],[.int .i64 c]])] [] (.c (.int .i64 (orI a (orI b c)))) []:=by
 have h:=a2r [a,b,c] (by simp)
 simp only[orL,Jg]at h
 exact h
theorem p9 (a b:Int):AC Tryz.prog 264 [.c (.sl [[.int .i64 a],[.int .i64 b]])] [] (.c (.int .i64 (orI a b))) []:=by
 have h:=a2r [a,b] (by simp)
 simp only[orL,Jg]at h
 exact h
theorem N9 (a b:List ByteArray) (hl:a.length≤1000000):AC Tryz.prog 266 [.c (.sl (a.map Ag)),.c (.sl (b.map Ag))] [] (.c (.int .i64 (AI a b))) []:=by
 have hla:(a.map Ag).length=a.length:=by simp
 have hlb:(b.map Ag).length=b.length:=by simp
 obtain⟨R,hR⟩:∃R,R=AI a b:=⟨_,rfl⟩
 rw[←hR]
 refine A7 Tryz.func266 Tryz.ntmps266 ?_
 refine A3 (j2 hla hlb) ?_
 refine Ay (κ:=Nat) (fun k=>⟨mkS 0 36 [(0,.c (.sl (a.map Ag))),(1,.c (.sl (b.map Ag))),(9,.c (.sl (a.map Ag))),(10,.c (.int .i64 a.length)),(11,.c (.int .i64 k))],[]⟩)
  (fun k=>k≤a.length∧k≤b.length∧R=AI (a.drop k) (b.drop k)) (fun k=>a.length-k) 0 ⟨Nat.zero_le _,Nat.zero_le _,hR⟩ ?_ ?_
 ·exact Af (Am.of [] []) hla
 ·rintro k ⟨hk,hk2,hRk⟩
  by_cases hlt:k<a.length
  ·have hdk:decide ((k:Int)<(a.length:Int))=true:=by simpa using hlt
   have hw:=Ah (k:=k) (by omega)
   have hr:A9 (a.map Ag) 1 k=true:=by simp[A9,hlt,Ag]
   have hg:(a.map Ag)[k]? = some [.str a[k]]:=by simp[hlt,Ag]
   by_cases hltb:k<b.length
   ·have hdb:decide ((k:Int)≥(b.length:Int))=false:=by simpa using hltb
    have hrb:A9 (b.map Ag) 1 k=true:=by simp[A9,hltb,Ag]
    have hgb:(b.map Ag)[k]? = some [.str b[k]]:=by simp[hltb,Ag]
    have hc:=OI a[k] b[k]
    rw[Kz hlt hltb]at hRk
    generalize D9 a[k] b[k]=x at *
    generalize a[k]=ak at *
    generalize b[k]=bk at *
    by_cases hx:x=0
    ·subst hx
     rw[H7]at hRk
     have h00:((0:Int) != 0)=false:=rfl
     refine A3 (j7 hdk hr hg hlb hdb hrb hgb) ?_
     refine w7 (A4 [] hc) q9 ?_
     refine A3 (j2 h00 hw) ?_
     refine⟨k+1,by omega,⟨by omega,by omega,hRk⟩,?_⟩
     exact Af (Am.of [] []) hw
    ·rw[Kj hx]at hRk
     have hb:(x != 0)=true:=by simpa using hx
     rw[hRk]
     refine A3 (j7 hdk hr hg hlb hdb hrb hgb) ?_
     refine w7 (A4 [] hc) q9 ?_
     refine A3 hb ?_
     exact Ad (A6 []) Tryz.results266
   ·have hdb:decide ((k:Int)≥(b.length:Int))=true:=by simpa using hltb
    rw[Iv hk hk2 (by omega)]at hRk
    have hR1:R=1:=by rw[hRk];unfold Cj;rw[if_neg (by omega),if_pos (by omega)]
    rw[hR1]
    refine A3 (j5 hdk hr hg hlb hdb) ?_
    exact Ad (A6 []) Tryz.results266
  ·have hdk:decide ((k:Int)<(a.length:Int))=false:=by simpa using hlt
   rw[Iv hk hk2 (by omega)]at hRk
   by_cases hll:a.length<b.length
   ·have hd:decide ((a.length:Int)<(b.length:Int))=true:=by simpa using hll
    have hR1:R = -1:=by rw[hRk];exact Qz hd
    rw[hR1]
    refine A3 (j4 hdk hla hlb hd) ?_
    exact Ad (A6 []) Tryz.results266
   ·have hd:decide ((a.length:Int)<(b.length:Int))=false:=by simpa using hll
    have hR1:R=0:=by rw[hRk];exact Qy hd (by simp;omega)
    rw[hR1]
    refine A3 (j4 hdk hla hlb hd) ?_
    exact Ad (A6 []) Tryz.results266
theorem ZO {t:V}(h:t.right):t.keys.length≤200:=by
 by_cases h6:t.kind=6
 ·rw[(DM h h6).2.2]
  exact BI h.2.1
 ·obtain⟨_,_,_,_,h3,_⟩:=Bc h.1
  rw[h3 h6]
  simp
theorem G7:∀(m:Nat) (a b:V),a.count≤m→a.right→AC Tryz.prog 194 [a.av,b.av] [] (.c (.int .i64 (a.cmp b))) []:=by
 intro m
 induction m with
 |zero=>intro a _ hm _;have:=CQ a;omega
 |succ m ih =>
  intro a b hm ha
  have hkl:=BI ha.2.1
  by_cases hk:a.kind=b.kind
  ·have hne:(a.kind != b.kind)=false:=by simpa using hk
   obtain⟨R,hR⟩:∃R,R=a.cmp b:=⟨_,rfl⟩
   have hR0:=hR
   rw[G6,if_pos hk,←LR,←LR,LR (Cj a.num b.num)]at hR0
   rw[←hR]
   have h1:=KE a.num b.num
   have h2:=Ln a.text b.text
   have h3:=N9 a.keys b.keys (by have:=ZO ha;omega)
   have h4:=a4f (Cj a.num b.num) (D9 a.text b.text) (AI a.keys b.keys)
   have hrange:-1≤orI (Cj a.num b.num) (orI (D9 a.text b.text) (AI a.keys b.keys))∧orI (Cj a.num b.num) (orI (D9 a.text b.text) (AI a.keys b.keys))≤1:=EF (G5 _ _) (EF (JW _ _) (GL _ _))
   generalize orI (Cj a.num b.num) (orI (D9 a.text b.text) (AI a.keys b.keys))=o1 at *
   generalize Cj a.num b.num=c1 at *
   generalize D9 a.text b.text=c2 at *
   generalize AI a.keys b.keys=c3 at *
   obtain⟨mn,hmn⟩:∃mn:Int,(if (b.kids.length:Int)<(a.kids.length:Int) then (b.kids.length:Int) else (a.kids.length:Int))=mn:=⟨_,rfl⟩
   have hmn2:∀k:Nat,decide ((k:Int)<mn)=decide (k<a.kids.length∧k<b.kids.length):=by
    intro k
    rw[←hmn]
    split<;>congr 1<;>apply propext<;>omega
   refine A7 Tryz.func194 Tryz.ntmps194 ?_
   refine A3 hne ?_
   refine w7 (A4 [] h1) q9 ?_
   refine A3 q9 ?_
   refine w7 (A4 [] h2) q9 ?_
   refine A3 q9 ?_
   refine w7 (A4 [] h3) q9 ?_
   refine A3 q9 ?_
   refine w7 (A4 [(32,0)] h4) q9 ?_
   refine A3 q9 ?_
   refine Ay (κ:=Nat×Int) (fun x=>⟨mkS 0 70 [(2,.ptr (2,0) 0),(3,.ptr (3,0) 0),(5,.c (.int .i64 x.2)),(6,.c (.int .i64 x.1))],[((2,0),.box [.c (.int .i64 a.kind),.c (.int .i64 a.num),.c (.str a.text),.c (.sl (a.keys.map Ag)),.c (.sl (a.kids.map V.cs))]),((3,0),.box [.c (.int .i64 b.kind),.c (.int .i64 b.num),.c (.str b.text),.c (.sl (b.keys.map Ag)),.c (.sl (b.kids.map V.cs))])]⟩)
    (fun x=>x.1≤a.kids.length∧x.1≤b.kids.length∧(-1≤x.2∧x.2≤1)∧R=orI x.2 (BT (a.kids.drop x.1) (b.kids.drop x.1))) (fun x=>a.kids.length-x.1) (0,o1) ⟨Nat.zero_le _,Nat.zero_le _,hrange,hR0⟩ ?_ ?_
   ·exact Af (Am.of [((2,0),(2,0)),((3,0),(3,0))] []) hne
   ·rintro⟨k,o⟩ ⟨hk1,hk2,ho,hRk⟩
    dsimp only at hk1 hk2 ho hRk ⊢
    have w1:IntKind.i64.wrap o=o:=IntWalk.i64_in _ (by omega)
    by_cases hlt:k<a.kids.length∧k<b.kids.length
    ·have hdk:decide ((k:Int)<mn)=true:=by rw[hmn2];simpa using hlt
     by_cases h0:o=0
     ·subst h0
      have h00:((0:Int)==0)=true:=rfl
      have hw:=Ah (k:=k) (by omega)
      rw[H7,N6 hlt.1 hlt.2]at hRk
      have hra:A9 (a.kids.map V.cs) 5 k=true:=by simp[A9,hlt.1,V.cs_eq]
      have hga:(a.kids.map V.cs)[k]? = some a.kids[k].cs:=by simp[hlt.1]
      have hrb:A9 (b.kids.map V.cs) 5 k=true:=by simp[A9,hlt.2,V.cs_eq]
      have hgb:(b.kids.map V.cs)[k]? = some b.kids[k].cs:=by simp[hlt.2]
      have hmem:=CV (List.getElem_mem hlt.1)
      have hck:=AP a
      have hrec:=ih a.kids[k] b.kids[k] (by omega) (Bd ha (List.getElem_mem hlt.1))
      have hrg:=Pt a.kids[k] b.kids[k]
      generalize a.kids[k].cmp b.kids[k]=o2 at *
      generalize a.kids[k]=u at *
      generalize b.kids[k]=v at *
      have w2:IntKind.i64.wrap o2=o2:=IntWalk.i64_in _ (by omega)
      refine A3 (j7 hmn hdk h00 hra hga hrb hgb) ?_
      refine w7 (A4 [] hrec) q9 ?_
      refine A3 (j2 @w2 hw) ?_
      refine⟨(k+1,o2),by dsimp only;omega,⟨by dsimp only;omega,by dsimp only;omega,hrg,hRk⟩,?_⟩
      exact Af (Am.of [((2,0),(2,0)),((3,0),(3,0))] []) hw
     ·have hb0:(o==0)=false:=by simpa using h0
      rw[Kj h0]at hRk
      have hcl:=Jv (a.kids.length:Int) (b.kids.length:Int)
      have hor:=p9 o (Cj a.kids.length b.kids.length)
      rw[Kj h0]at hor
      generalize Cj a.kids.length b.kids.length=c9 at *
      rw[hRk]
      refine A3 (j3 hmn hdk hb0) ?_
      refine w7 (A4 [] hcl) q9 ?_
      refine A3 q9 ?_
      refine w7 (A4 [(68,0)] hor) q9 ?_
      refine A3 w1 ?_
      exact Ad (A6 []) Tryz.results194
    ·have hdk:decide ((k:Int)<mn)=false:=by rw[hmn2];simpa using hlt
     rw[Ps hk1 hk2 hlt]at hRk
     have hcl:=Jv (a.kids.length:Int) (b.kids.length:Int)
     have hor:=p9 o (Cj a.kids.length b.kids.length)
     have hrg:=EF ho (G5 (a.kids.length:Int) (b.kids.length:Int))
     generalize Cj a.kids.length b.kids.length=c9 at *
     rw[←hRk]at hor hrg
     have w2:IntKind.i64.wrap R=R:=IntWalk.i64_in _ (by omega)
     refine A3 (j2 hmn hdk) ?_
     refine w7 (A4 [] hcl) q9 ?_
     refine A3 q9 ?_
     refine w7 (A4 [(68,0)] hor) q9 ?_
     refine A3 @w2 ?_
     exact Ad (A6 []) Tryz.results194
  ·have hne:(a.kind != b.kind)=true:=by simpa using hk
   have h1:=KE a.kind b.kind
   have hR:a.cmp b=Cj a.kind b.kind:=by rw[G6,if_neg hk]
   have hrg:=G5 a.kind b.kind
   rw[hR]
   generalize Cj a.kind b.kind=c1 at *
   have w1:IntKind.i64.wrap c1=c1:=IntWalk.i64_in _ (by omega)
   refine A7 Tryz.func194 Tryz.ntmps194 ?_
   refine A3 hne ?_
   refine w7 (A4 [] h1) q9 ?_
   refine A3 w1 ?_
   exact Ad (A6 []) Tryz.results194
end Go.Proofs.YtcejfdfmgmcinaaGreat
