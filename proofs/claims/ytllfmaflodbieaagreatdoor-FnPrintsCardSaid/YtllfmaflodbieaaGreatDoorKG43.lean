/- cmp.Compare, cmp.Or, strings.Compare, slices.Compare; impl.compareVals, by the engine. -/
import Derived.Test.YtllfmaflodbieaaGreatDoorKM23uG06
import Derived.Lib.Bytealg
set_option linter.all false
set_option maxHeartbeats 8000000
namespace Go.Proofs.YtllfmaflodbieaaGreatDoor
open Go.RowKit
set_option maxRecDepth 10000
theorem Sd (x:Int):AC Tryz.prog 222 [.c (.int .i64 x)] [] (.c (.bool false)) []:=by
 have h:(x != x)=false:=by simp
 refine JI Tryz.func222 Tryz.ntmps222 ?_
 refine JV h ?_
 exact JW (Iu []) Tryz.results222
theorem Wd (x:Int):AC Tryz.prog 225 [.c (.int .i64 x)] [] (.c (.bool false)) []:=by
 have h:(x != x)=false:=by simp
 refine JI Tryz.func225 Tryz.ntmps225 ?_
 refine JV h ?_
 exact JW (Iu []) Tryz.results225
theorem TN (x:ByteArray):AC Tryz.prog 259 [.c (.str x)] [] (.c (.bool false)) []:=by
 have h:(x.toList==x.toList)=true:=by simp
 refine JI Tryz.func259 Tryz.ntmps259 ?_
 refine JV h ?_
 exact JW (Iu []) Tryz.results259
theorem UE {a b:Int}(h:decide (a<b)=true):L6 a b = -1:=if_pos (by simpa using h)
theorem Yt {a b:Int}(h1:decide (a<b)=false) (h:decide (a>b)=true):L6 a b=1:=by
 unfold L6
 rw[if_neg (by simpa using h1),if_pos (by simpa using h)]
theorem UD {a b:Int}(h1:decide (a<b)=false) (h:decide (a>b)=false):L6 a b=0:=by
 unfold L6
 rw[if_neg (by simpa using h1),if_neg (by simpa using h)]
theorem PD (a b:Int):AC Tryz.prog 183 [.c (.int .i64 a),.c (.int .i64 b)] [] (.c (.int .i64 (L6 a b))) []:=by
 have h1:=Sd a
 have h2:=Sd b
 cases hl:decide (a<b)<;>cases hg:decide (a>b)
 ·rw[UD hl hg]
  refine JI Tryz.func183 Tryz.ntmps183 ?_
  refine JV q9 ?_
  refine w7 (Ju [] h1) q9 ?_
  refine JV q9 ?_
  refine w7 (Ju [] h2) q9 ?_
  refine JV (j2 hl hg) ?_
  exact JW (Iu []) Tryz.results183
 ·rw[Yt hl hg]
  refine JI Tryz.func183 Tryz.ntmps183 ?_
  refine JV q9 ?_
  refine w7 (Ju [] h1) q9 ?_
  refine JV q9 ?_
  refine w7 (Ju [] h2) q9 ?_
  refine JV (j2 hl hg) ?_
  exact JW (Iu []) Tryz.results183
 all_goals
  rw[UE hl]
  refine JI Tryz.func183 Tryz.ntmps183 ?_
  refine JV q9 ?_
  refine w7 (Ju [] h1) q9 ?_
  refine JV q9 ?_
  refine w7 (Ju [] h2) q9 ?_
  refine JV hl ?_
  exact JW (Iu []) Tryz.results183
theorem OT (a b:Int):AC Tryz.prog 187 [.c (.int .i64 a),.c (.int .i64 b)] [] (.c (.int .i64 (L6 a b))) []:=by
 have h1:=Wd a
 have h2:=Wd b
 cases hl:decide (a<b)<;>cases hg:decide (a>b)
 ·rw[UD hl hg]
  refine JI Tryz.func187 Tryz.ntmps187 ?_
  refine JV q9 ?_
  refine w7 (Ju [] h1) q9 ?_
  refine JV q9 ?_
  refine w7 (Ju [] h2) q9 ?_
  refine JV (j2 hl hg) ?_
  exact JW (Iu []) Tryz.results187
 ·rw[Yt hl hg]
  refine JI Tryz.func187 Tryz.ntmps187 ?_
  refine JV q9 ?_
  refine w7 (Ju [] h1) q9 ?_
  refine JV q9 ?_
  refine w7 (Ju [] h2) q9 ?_
  refine JV (j2 hl hg) ?_
  exact JW (Iu []) Tryz.results187
 all_goals
  rw[UE hl]
  refine JI Tryz.func187 Tryz.ntmps187 ?_
  refine JV q9 ?_
  refine w7 (Ju [] h1) q9 ?_
  refine JV q9 ?_
  refine w7 (Ju [] h2) q9 ?_
  refine JV hl ?_
  exact JW (Iu []) Tryz.results187
theorem Zq (a b:ByteArray):(Op.bytesLess a.toList b.toList=true∧ME a b = -1)∨(Op.bytesLess a.toList b.toList=false∧(a.toList==b.toList)=true∧ME a b=0)∨(Op.bytesLess a.toList b.toList=false∧(a.toList==b.toList)=false∧ME a b=1):=by
 unfold ME Jj
 cases h1:Op.bytesLess a.toList b.toList with
 |true=>exact .inl ⟨rfl,rfl⟩
 |false=>cases h2:(a.toList==b.toList) with
  |true=>exact .inr (.inl ⟨rfl,rfl,rfl⟩)
  |false=>exact .inr (.inr ⟨rfl,rfl,rfl⟩)
theorem T1 (a b:ByteArray):AC Tryz.prog 224 [.c (.str a),.c (.str b)] [] (.c (.int .i64 (ME a b))) []:=by
 have h1:=TN a
 have h2:=TN b
 rcases Zq a b with⟨hl,he⟩ | ⟨hl,hg,he⟩ | ⟨hl,hg,he⟩
 ·rw[he]
  refine JI Tryz.func224 Tryz.ntmps224 ?_
  refine JV q9 ?_
  refine w7 (Ju [] h1) q9 ?_
  refine JV q9 ?_
  refine w7 (Ju [] h2) q9 ?_
  refine JV hl ?_
  exact JW (Iu []) Tryz.results224
 all_goals
  rw[he]
  refine JI Tryz.func224 Tryz.ntmps224 ?_
  refine JV q9 ?_
  refine w7 (Ju [] h1) q9 ?_
  refine JV q9 ?_
  refine w7 (Ju [] h2) q9 ?_
  refine JV (j2 hl hg) ?_
  exact JW (Iu []) Tryz.results224
theorem NV:∀(a b:List UInt8),Lib.compareBytes a b=if Op.bytesLess a b then -1 else if a==b then 0 else 1
 | [],[]=>rfl
 | [],_::_=>rfl
 |_::_,[]=>by simp[Lib.compareBytes,Op.bytesLess]
 |x::a,y::b=>by
  unfold Lib.compareBytes
  rw[NV a b]
  simp only[Op.bytesLess]
  by_cases h1:x<y
  ·simp[h1]
  ·by_cases h2:y<x
   ·have:x≠y:=fun e=>by subst e;exact h1 h2
    simp[h1,h2,this]
   ·have:x=y:=by
     apply UInt8.toNat_inj.1
     have h3:¬x.toNat<y.toNat:=fun h=>h1 (UInt8.lt_iff_toNat_lt.2 h)
     have h4:¬y.toNat<x.toNat:=fun h=>h2 (UInt8.lt_iff_toNat_lt.2 h)
     omega
    subst this
    simp[h1]
theorem Vr (a b:ByteArray) (w:World):Calls Tryz.prog 223 #[.string a,.string b] w fun e w'=>e=.returned (.int .i64 (Lib.compareBytes a.data.toList b.data.toList))∧w'=w:=by
 go_enter Tryz.func223,Tryz.ntmps223
 go_wp2
 rw[run_callFunc_extern Tryz.func258 (by kernel_rfl) (by kernel_rfl) (by kernel_rfl) (e:=Extern.BytealgCompare.compare) (by kernel_rfl),Lib.run_compareString]
 simp only[Result.andThen]
 rw[Oper.upon_value]
 go_wp2
 go_ret
 exact⟨rfl,rfl⟩
theorem Xc (a b:ByteArray):AC Tryz.prog 223 [.c (.str a),.c (.str b)] [] (.c (.int .i64 (ME a b))) []:=by
 refine AC.of_calls fun S w κ vs hv=>?_
 obtain⟨v,vs',rfl,⟨rfl,_⟩,v2,vs2,rfl,⟨rfl,_⟩,rfl⟩:=hv
 refine (Vr a b w).mono ?_
 rintro e w' ⟨rfl,rfl⟩
 refine⟨Below.refl _ _,_,rfl,fun T _ _=>?_⟩
 have:Lib.compareBytes a.data.toList b.data.toList=ME a b:=by
  rw[NV,←ByteArray.toList_eq,←ByteArray.toList_eq]
  rfl
 rw[this]
 exact⟨rfl,rfl⟩
theorem Q3 (a b:ByteArray):AC Tryz.prog 185 [.c (.str a),.c (.str b)] [] (.c (.int .i64 (ME a b))) []:=by
 have h:=Xc a b
 refine JI Tryz.func185 Tryz.ntmps185 ?_
 refine JV q9 ?_
 refine w7 (Ju [] h) q9 ?_
 refine JV q9 ?_
 exact JW (Iu []) Tryz.results185
def orL:List Int→Int
 | []=>0
 |a::r=>orI a (orL r)
theorem a1s (l:List Int) {k:Nat}(h:k<l.length):orL (l.drop k)=if l[k]=0 then orL (l.drop (k+1)) else l[k]:=by
 rw[List.drop_eq_getElem_cons h]
 rfl
theorem a4x (l:List Int) (hl:l.length≤1000000):AC Tryz.prog 184 [.c (.sl (l.map Dd))] [] (.c (.int .i64 (orL l))) []:=by
 have hln:(l.map Dd).length=l.length:=by simp
 obtain⟨R,hR⟩:∃R,R=orL l:=⟨_,rfl⟩
 rw[←hR]
 refine JI Tryz.func184 Tryz.ntmps184 ?_
 refine JV hln ?_
 refine Jz (κ:=Nat) (fun k=>⟨mkS 0 18 [(0,.c (.sl (l.map Dd))),(3,.c (.int .i64 0)),(6,.c (.sl (l.map Dd))),(7,.c (.int .i64 l.length)),(8,.c (.int .i64 k))],[]⟩)
  (fun k=>k≤l.length∧R=orL (l.drop k)) (fun k=>l.length-k) 0 ⟨Nat.zero_le _,hR⟩ ?_ ?_
 ·exact JQ (F7.of [] []) hln
 ·rintro k ⟨hk,hRk⟩
  by_cases hlt:k<l.length
  ·have hdk:decide ((k:Int)<(l.length:Int))=true:=by simpa using hlt
   have hw:=JX (k:=k) (by omega)
   have hr:B4 (l.map Dd) 1 k=true:=by simp[B4,hlt,Dd]
   have hg:(l.map Dd)[k]? = some [.int .i64 l[k]]:=by simp[hlt,Dd]
   rw[a1s _ hlt]at hRk
   generalize l[k]=x at *
   by_cases hx:x=0
   ·rw[if_pos hx]at hRk
    have hb:(x != 0)=false:=by simpa using hx
    refine JV (j5 hdk hr hg hb hw) ?_
    refine⟨k+1,by omega,⟨by omega,hRk⟩,?_⟩
    exact JQ (F7.of [] []) hw
   ·rw[if_neg hx]at hRk
    have hb:(x != 0)=true:=by simpa using hx
    rw[hRk]
    refine JV (j4 hdk hr hg hb) ?_
    exact JW (Iu []) Tryz.results184
  ·have hdk:decide ((k:Int)<(l.length:Int))=false:=by simpa using hlt
   rw[List.drop_eq_nil_of_le (by omega)]at hRk
   have hR0:R=0:=hRk
   rw[hR0]
   refine JV hdk ?_
   exact JW (Iu []) Tryz.results184
theorem a5r (a b c:Int):AC Tryz.prog 184 [.c (.sl [[.int .i64 a],[.int .i64 b],[.int .i64 c]])] [] (.c (.int .i64 (orI a (orI b c)))) []:=by
 have h:=a4x [a,b,c] (by simp)
 simp only[orL,U8]at h
 exact h
theorem a1r (a b:Int):AC Tryz.prog 184 [.c (.sl [[.int .i64 a],[.int .i64 b]])] [] (.c (.int .i64 (orI a b))) []:=by
 have h:=a4x [a,b] (by simp)
 simp only[orL,U8]at h
 exact h
theorem RD (a b:List ByteArray) (hl:a.length≤1000000):AC Tryz.prog 186 [.c (.sl (a.map CX)),.c (.sl (b.map CX))] [] (.c (.int .i64 (Kf a b))) []:=by
 have hla:(a.map CX).length=a.length:=by simp
 have hlb:(b.map CX).length=b.length:=by simp
 obtain⟨R,hR⟩:∃R,R=Kf a b:=⟨_,rfl⟩
 rw[←hR]
 refine JI Tryz.func186 Tryz.ntmps186 ?_
 refine JV (j2 hla hlb) ?_
 refine Jz (κ:=Nat) (fun k=>⟨mkS 0 36 [(0,.c (.sl (a.map CX))),(1,.c (.sl (b.map CX))),(9,.c (.sl (a.map CX))),(10,.c (.int .i64 a.length)),(11,.c (.int .i64 k))],[]⟩)
  (fun k=>k≤a.length∧k≤b.length∧R=Kf (a.drop k) (b.drop k)) (fun k=>a.length-k) 0 ⟨Nat.zero_le _,Nat.zero_le _,hR⟩ ?_ ?_
 ·exact JQ (F7.of [] []) hla
 ·rintro k ⟨hk,hk2,hRk⟩
  by_cases hlt:k<a.length
  ·have hdk:decide ((k:Int)<(a.length:Int))=true:=by simpa using hlt
   have hw:=JX (k:=k) (by omega)
   have hr:B4 (a.map CX) 1 k=true:=by simp[B4,hlt,CX]
   have hg:(a.map CX)[k]? = some [.str a[k]]:=by simp[hlt,CX]
   by_cases hltb:k<b.length
   ·have hdb:decide ((k:Int)≥(b.length:Int))=false:=by simpa using hltb
    have hrb:B4 (b.map CX) 1 k=true:=by simp[B4,hltb,CX]
    have hgb:(b.map CX)[k]? = some [.str b[k]]:=by simp[hltb,CX]
    have hc:=T1 a[k] b[k]
    rw[UF hlt hltb]at hRk
    generalize ME a[k] b[k]=x at *
    generalize a[k]=ak at *
    generalize b[k]=bk at *
    by_cases hx:x=0
    ·subst hx
     rw[WE]at hRk
     have h00:((0:Int) != 0)=false:=rfl
     refine JV (j7 hdk hr hg hlb hdb hrb hgb) ?_
     refine w7 (Ju [] hc) q9 ?_
     refine JV (j2 h00 hw) ?_
     refine⟨k+1,by omega,⟨by omega,by omega,hRk⟩,?_⟩
     exact JQ (F7.of [] []) hw
    ·rw[XV hx]at hRk
     have hb:(x != 0)=true:=by simpa using hx
     rw[hRk]
     refine JV (j7 hdk hr hg hlb hdb hrb hgb) ?_
     refine w7 (Ju [] hc) q9 ?_
     refine JV hb ?_
     exact JW (Iu []) Tryz.results186
   ·have hdb:decide ((k:Int)≥(b.length:Int))=true:=by simpa using hltb
    rw[QC hk hk2 (by omega)]at hRk
    have hR1:R=1:=by rw[hRk];unfold L6;rw[if_neg (by omega),if_pos (by omega)]
    rw[hR1]
    refine JV (j5 hdk hr hg hlb hdb) ?_
    exact JW (Iu []) Tryz.results186
  ·have hdk:decide ((k:Int)<(a.length:Int))=false:=by simpa using hlt
   rw[QC hk hk2 (by omega)]at hRk
   by_cases hll:a.length<b.length
   ·have hd:decide ((a.length:Int)<(b.length:Int))=true:=by simpa using hll
    have hR1:R = -1:=by rw[hRk];exact UE hd
    rw[hR1]
    refine JV (j4 hdk hla hlb hd) ?_
    exact JW (Iu []) Tryz.results186
   ·have hd:decide ((a.length:Int)<(b.length:Int))=false:=by simpa using hll
    have hR1:R=0:=by rw[hRk];exact UD hd (by simp;omega)
    rw[hR1]
    refine JV (j4 hdk hla hlb hd) ?_
    exact JW (Iu []) Tryz.results186
theorem a04 {t:V}(h:t.right):t.keys.length≤200:=by
 by_cases h6:t.kind=6
 ·rw[(KL h h6).2.2]
  exact Kg h.2.1
 ·obtain⟨_,_,_,_,h3,_⟩:=KB h.1
  rw[h3 h6]
  simp
theorem RF:∀(m:Nat) (a b:V),a.count≤m→a.right→AC Tryz.prog 121 [a.av,b.av] [] (.c (.int .i64 (a.cmp b))) []:=by
 intro m
 induction m with
 |zero=>intro a _ hm _;have:=K8 a;omega
 |succ m ih =>
  intro a b hm ha
  have hkl:=Kg ha.2.1
  by_cases hk:a.kind=b.kind
  ·have hne:(a.kind != b.kind)=false:=by simpa using hk
   obtain⟨R,hR⟩:∃R,R=a.cmp b:=⟨_,rfl⟩
   have hR0:=hR
   rw[UG,if_pos hk,←Qk,←Qk,Qk (L6 a.num b.num)]at hR0
   rw[←hR]
   have h1:=PD a.num b.num
   have h2:=Q3 a.text b.text
   have h3:=RD a.keys b.keys (by have:=a04 ha;omega)
   have h4:=a5r (L6 a.num b.num) (ME a.text b.text) (Kf a.keys b.keys)
   have hrange:-1≤orI (L6 a.num b.num) (orI (ME a.text b.text) (Kf a.keys b.keys))∧orI (L6 a.num b.num) (orI (ME a.text b.text) (Kf a.keys b.keys))≤1:=LW (MR _ _) (LW (P9 _ _) (Nd _ _))
   generalize orI (L6 a.num b.num) (orI (ME a.text b.text) (Kf a.keys b.keys))=o1 at *
   generalize L6 a.num b.num=c1 at *
   generalize ME a.text b.text=c2 at *
   generalize Kf a.keys b.keys=c3 at *
   obtain⟨mn,hmn⟩:∃mn:Int,(if (b.kids.length:Int)<(a.kids.length:Int) then (b.kids.length:Int) else (a.kids.length:Int))=mn:=⟨_,rfl⟩
   have hmn2:∀k:Nat,decide ((k:Int)<mn)=decide (k<a.kids.length∧k<b.kids.length):=by
    intro k
    rw[←hmn]
    split<;>congr 1<;>apply propext<;>omega
   refine JI Tryz.func121 Tryz.ntmps121 ?_
   refine JV hne ?_
   refine w7 (Ju [] h1) q9 ?_
   refine JV q9 ?_
   refine w7 (Ju [] h2) q9 ?_
   refine JV q9 ?_
   refine w7 (Ju [] h3) q9 ?_
   refine JV q9 ?_
   refine w7 (Ju [(32,0)] h4) q9 ?_
   refine JV q9 ?_
   refine Jz (κ:=Nat×Int) (fun x=>⟨mkS 0 70 [(2,.ptr (2,0) 0),(3,.ptr (3,0) 0),(5,.c (.int .i64 x.2)),(6,.c (.int .i64 x.1))],[((2,0),.box [.c (.int .i64 a.kind),.c (.int .i64 a.num),.c (.str a.text),.c (.sl (a.keys.map CX)),.c (.sl (a.kids.map V.cs))]),((3,0),.box [.c (.int .i64 b.kind),.c (.int .i64 b.num),.c (.str b.text),.c (.sl (b.keys.map CX)),.c (.sl (b.kids.map V.cs))])]⟩)
    (fun x=>x.1≤a.kids.length∧x.1≤b.kids.length∧(-1≤x.2∧x.2≤1)∧R=orI x.2 (LH (a.kids.drop x.1) (b.kids.drop x.1))) (fun x=>a.kids.length-x.1) (0,o1) ⟨Nat.zero_le _,Nat.zero_le _,hrange,hR0⟩ ?_ ?_
   ·exact JQ (F7.of [((2,0),(2,0)),((3,0),(3,0))] []) hne
   ·rintro⟨k,o⟩ ⟨hk1,hk2,ho,hRk⟩
    dsimp only at hk1 hk2 ho hRk ⊢
    have w1:IntKind.i64.wrap o=o:=IntWalk.i64_in _ (by omega)
    by_cases hlt:k<a.kids.length∧k<b.kids.length
    ·have hdk:decide ((k:Int)<mn)=true:=by rw[hmn2];simpa using hlt
     by_cases h0:o=0
     ·subst h0
      have h00:((0:Int)==0)=true:=rfl
      have hw:=JX (k:=k) (by omega)
      rw[WE,Xe hlt.1 hlt.2]at hRk
      have hra:B4 (a.kids.map V.cs) 5 k=true:=by simp[B4,hlt.1,V.cs_eq]
      have hga:(a.kids.map V.cs)[k]? = some a.kids[k].cs:=by simp[hlt.1]
      have hrb:B4 (b.kids.map V.cs) 5 k=true:=by simp[B4,hlt.2,V.cs_eq]
      have hgb:(b.kids.map V.cs)[k]? = some b.kids[k].cs:=by simp[hlt.2]
      have hmem:=K7 (List.getElem_mem hlt.1)
      have hck:=K4 a
      have hrec:=ih a.kids[k] b.kids[k] (by omega) (K1 ha (List.getElem_mem hlt.1))
      have hrg:=Tr a.kids[k] b.kids[k]
      generalize a.kids[k].cmp b.kids[k]=o2 at *
      generalize a.kids[k]=u at *
      generalize b.kids[k]=v at *
      have w2:IntKind.i64.wrap o2=o2:=IntWalk.i64_in _ (by omega)
      refine JV (j7 hmn hdk h00 hra hga hrb hgb) ?_
      refine w7 (Ju [] hrec) q9 ?_
      refine JV (j2 @w2 hw) ?_
      refine⟨(k+1,o2),by dsimp only;omega,⟨by dsimp only;omega,by dsimp only;omega,hrg,hRk⟩,?_⟩
      exact JQ (F7.of [((2,0),(2,0)),((3,0),(3,0))] []) hw
     ·have hb0:(o==0)=false:=by simpa using h0
      rw[XV h0]at hRk
      have hcl:=OT (a.kids.length:Int) (b.kids.length:Int)
      have hor:=a1r o (L6 a.kids.length b.kids.length)
      rw[XV h0]at hor
      generalize L6 a.kids.length b.kids.length=c9 at *
      rw[hRk]
      refine JV (j3 hmn hdk hb0) ?_
      refine w7 (Ju [] hcl) q9 ?_
      refine JV q9 ?_
      refine w7 (Ju [(68,0)] hor) q9 ?_
      refine JV w1 ?_
      exact JW (Iu []) Tryz.results121
    ·have hdk:decide ((k:Int)<mn)=false:=by rw[hmn2];simpa using hlt
     rw[Zr hk1 hk2 hlt]at hRk
     have hcl:=OT (a.kids.length:Int) (b.kids.length:Int)
     have hor:=a1r o (L6 a.kids.length b.kids.length)
     have hrg:=LW ho (MR (a.kids.length:Int) (b.kids.length:Int))
     generalize L6 a.kids.length b.kids.length=c9 at *
     rw[←hRk]at hor hrg
     have w2:IntKind.i64.wrap R=R:=IntWalk.i64_in _ (by omega)
     refine JV (j2 hmn hdk) ?_
     refine w7 (Ju [] hcl) q9 ?_
     refine JV q9 ?_
     refine w7 (Ju [(68,0)] hor) q9 ?_
     refine JV @w2 ?_
     exact JW (Iu []) Tryz.results121
  ·have hne:(a.kind != b.kind)=true:=by simpa using hk
   have h1:=PD a.kind b.kind
   have hR:a.cmp b=L6 a.kind b.kind:=by rw[UG,if_neg hk]
   have hrg:=MR a.kind b.kind
   rw[hR]
   generalize L6 a.kind b.kind=c1 at *
   have w1:IntKind.i64.wrap c1=c1:=IntWalk.i64_in _ (by omega)
   refine JI Tryz.func121 Tryz.ntmps121 ?_
   refine JV hne ?_
   refine w7 (Ju [] h1) q9 ?_
   refine JV w1 ?_
   exact JW (Iu []) Tryz.results121
end Go.Proofs.YtllfmaflodbieaaGreatDoor
