/- cmp.Compare, cmp.Or, strings.Compare, slices.Compare; impl.compareVals, by the engine. -/
import Derived.Test.YtlciedpfjhkkdaaGreatDoorKG06uS02
import Derived.Lib.Bytealg
set_option linter.all false
set_option maxHeartbeats 8000000
namespace Go.Proofs.YtlciedpfjhkkdaaGreatDoor
open Go.RowKit
set_option maxRecDepth 10000
theorem isNaN64_ac (x:Int):AC Tryz.prog 191 [.c (.int .i64 x)] [] (.c (.bool false)) []:=by
 have h:(x != x)=false:=by simp
 refine wEnter Tryz.func191 Tryz.ntmps191 ?_
 refine wRUN h ?_
 exact wRet (ret_data []) Tryz.results191
theorem isNaN_ac (x:Int):AC Tryz.prog 194 [.c (.int .i64 x)] [] (.c (.bool false)) []:=by
 have h:(x != x)=false:=by simp
 refine wEnter Tryz.func194 Tryz.ntmps194 ?_
 refine wRUN h ?_
 exact wRet (ret_data []) Tryz.results194
theorem isNaNS_ac (x:ByteArray):AC Tryz.prog 218 [.c (.str x)] [] (.c (.bool false)) []:=by
 have h:(x.toList==x.toList)=true:=by simp
 refine wEnter Tryz.func218 Tryz.ntmps218 ?_
 refine wRUN h ?_
 exact wRet (ret_data []) Tryz.results218
theorem cmpI_lt {a b:Int}(h:decide (a<b)=true):cmpI a b = -1:=if_pos (by simpa using h)
theorem cmpI_gt {a b:Int}(h1:decide (a<b)=false) (h:decide (a>b)=true):cmpI a b=1:=by
 unfold cmpI
 rw[if_neg (by simpa using h1),if_pos (by simpa using h)]
theorem cmpI_eq {a b:Int}(h1:decide (a<b)=false) (h:decide (a>b)=false):cmpI a b=0:=by
 unfold cmpI
 rw[if_neg (by simpa using h1),if_neg (by simpa using h)]
theorem compare64_ac (a b:Int):AC Tryz.prog 160 [.c (.int .i64 a),.c (.int .i64 b)] [] (.c (.int .i64 (cmpI a b))) []:=by
 have h1:=isNaN64_ac a
 have h2:=isNaN64_ac b
 cases hl:decide (a<b)<;>cases hg:decide (a>b)
 ·rw[cmpI_eq hl hg]
  refine wEnter Tryz.func160 Tryz.ntmps160 ?_
  refine wRUN trivial ?_
  refine w7 (op_data [] h1) trivial ?_
  refine wRUN trivial ?_
  refine w7 (op_data [] h2) trivial ?_
  refine wRUN (j2 hl hg) ?_
  exact wRet (ret_data []) Tryz.results160
 ·rw[cmpI_gt hl hg]
  refine wEnter Tryz.func160 Tryz.ntmps160 ?_
  refine wRUN trivial ?_
  refine w7 (op_data [] h1) trivial ?_
  refine wRUN trivial ?_
  refine w7 (op_data [] h2) trivial ?_
  refine wRUN (j2 hl hg) ?_
  exact wRet (ret_data []) Tryz.results160
 all_goals
  rw[cmpI_lt hl]
  refine wEnter Tryz.func160 Tryz.ntmps160 ?_
  refine wRUN trivial ?_
  refine w7 (op_data [] h1) trivial ?_
  refine wRUN trivial ?_
  refine w7 (op_data [] h2) trivial ?_
  refine wRUN hl ?_
  exact wRet (ret_data []) Tryz.results160
theorem compareInt_ac (a b:Int):AC Tryz.prog 164 [.c (.int .i64 a),.c (.int .i64 b)] [] (.c (.int .i64 (cmpI a b))) []:=by
 have h1:=isNaN_ac a
 have h2:=isNaN_ac b
 cases hl:decide (a<b)<;>cases hg:decide (a>b)
 ·rw[cmpI_eq hl hg]
  refine wEnter Tryz.func164 Tryz.ntmps164 ?_
  refine wRUN trivial ?_
  refine w7 (op_data [] h1) trivial ?_
  refine wRUN trivial ?_
  refine w7 (op_data [] h2) trivial ?_
  refine wRUN (j2 hl hg) ?_
  exact wRet (ret_data []) Tryz.results164
 ·rw[cmpI_gt hl hg]
  refine wEnter Tryz.func164 Tryz.ntmps164 ?_
  refine wRUN trivial ?_
  refine w7 (op_data [] h1) trivial ?_
  refine wRUN trivial ?_
  refine w7 (op_data [] h2) trivial ?_
  refine wRUN (j2 hl hg) ?_
  exact wRet (ret_data []) Tryz.results164
 all_goals
  rw[cmpI_lt hl]
  refine wEnter Tryz.func164 Tryz.ntmps164 ?_
  refine wRUN trivial ?_
  refine w7 (op_data [] h1) trivial ?_
  refine wRUN trivial ?_
  refine w7 (op_data [] h2) trivial ?_
  refine wRUN hl ?_
  exact wRet (ret_data []) Tryz.results164
theorem cmpB_ways (a b:ByteArray):(Op.bytesLess a.toList b.toList=true∧cmpB a b = -1)∨(Op.bytesLess a.toList b.toList=false∧(a.toList==b.toList)=true∧cmpB a b=0)∨(Op.bytesLess a.toList b.toList=false∧(a.toList==b.toList)=false∧cmpB a b=1):=by
 unfold cmpB lessB
 cases h1:Op.bytesLess a.toList b.toList with
 |true=>exact .inl ⟨rfl,rfl⟩
 |false=>cases h2:(a.toList==b.toList) with
  |true=>exact .inr (.inl ⟨rfl,rfl,rfl⟩)
  |false=>exact .inr (.inr ⟨rfl,rfl,rfl⟩)
theorem compareStr_ac (a b:ByteArray):AC Tryz.prog 193 [.c (.str a),.c (.str b)] [] (.c (.int .i64 (cmpB a b))) []:=by
 have h1:=isNaNS_ac a
 have h2:=isNaNS_ac b
 rcases cmpB_ways a b with⟨hl,he⟩ | ⟨hl,hg,he⟩ | ⟨hl,hg,he⟩
 ·rw[he]
  refine wEnter Tryz.func193 Tryz.ntmps193 ?_
  refine wRUN trivial ?_
  refine w7 (op_data [] h1) trivial ?_
  refine wRUN trivial ?_
  refine w7 (op_data [] h2) trivial ?_
  refine wRUN hl ?_
  exact wRet (ret_data []) Tryz.results193
 all_goals
  rw[he]
  refine wEnter Tryz.func193 Tryz.ntmps193 ?_
  refine wRUN trivial ?_
  refine w7 (op_data [] h1) trivial ?_
  refine wRUN trivial ?_
  refine w7 (op_data [] h2) trivial ?_
  refine wRUN (j2 hl hg) ?_
  exact wRet (ret_data []) Tryz.results193
theorem compareBytes_eq:∀(a b:List UInt8),Lib.compareBytes a b=if Op.bytesLess a b then -1 else if a==b then 0 else 1
 | [],[]=>rfl
 | [],_::_=>rfl
 |_::_,[]=>by simp[Lib.compareBytes,Op.bytesLess]
 |x::a,y::b=>by
  unfold Lib.compareBytes
  rw[compareBytes_eq a b]
  simp only[Op.bytesLess]
  by_cases h1:x<y
  ·simp[h1]
  ·by_cases h2:y<x
   ·have:x≠y:=fun e=>by subst e;exact h1 h2
    simp[h1,h2,this]
   ·have:x=y:=by
     apply UInt8.toNat_inj.1
     have h3:¬x.toNat<y.toNat:=fun h=>h1 (UInt8.lt_iff_toNat_lt.2 h)
     have h4:¬y.toNat<x.toNat:=fun h=>h2 (UInt8.lt_iff_toNat_lt.2 h)
     omega
    subst this
    simp[h1]
theorem bytealg_any (a b:ByteArray) (w:World):Calls Tryz.prog 192 #[.string a,.string b] w fun e w'=>e=.returned (.int .i64 (Lib.compareBytes a.data.toList b.data.toList))∧w'=w:=by
 go_enter Tryz.func192,Tryz.ntmps192
 go_wp2
 rw[run_callFunc_extern Tryz.func217 (by kernel_rfl) (by kernel_rfl) (by kernel_rfl) (e:=Extern.BytealgCompare.compare) (by kernel_rfl),Lib.run_compareString]
 simp only[Result.andThen]
 rw[Oper.upon_value]
 go_wp2
 go_ret
 exact⟨rfl,rfl⟩
theorem bytealg_ac (a b:ByteArray):AC Tryz.prog 192 [.c (.str a),.c (.str b)] [] (.c (.int .i64 (cmpB a b))) []:=by
 refine AC.of_calls fun S w κ vs hv=>?_
 obtain⟨v,vs',rfl,⟨rfl,_⟩,v2,vs2,rfl,⟨rfl,_⟩,rfl⟩:=hv
 refine (bytealg_any a b w).mono ?_
 rintro e w' ⟨rfl,rfl⟩
 refine⟨Below.refl _ _,_,rfl,fun T _ _=>?_⟩
 have:Lib.compareBytes a.data.toList b.data.toList=cmpB a b:=by
  rw[compareBytes_eq,←ByteArray.toList_eq,←ByteArray.toList_eq]
  rfl
 rw[this]
 exact⟨rfl,rfl⟩
theorem stringsCompare_ac (a b:ByteArray):AC Tryz.prog 162 [.c (.str a),.c (.str b)] [] (.c (.int .i64 (cmpB a b))) []:=by
 have h:=bytealg_ac a b
 refine wEnter Tryz.func162 Tryz.ntmps162 ?_
 refine wRUN trivial ?_
 refine w7 (op_data [] h) trivial ?_
 refine wRUN trivial ?_
 exact wRet (ret_data []) Tryz.results162
def orL:List Int→Int
 | []=>0
 |a::r=>orI a (orL r)
theorem orL_drop (l:List Int) {k:Nat}(h:k<l.length):orL (l.drop k)=if l[k]=0 then orL (l.drop (k+1)) else l[k]:=by
 rw[List.drop_eq_getElem_cons h]
 rfl
theorem or_ac (l:List Int) (hl:l.length≤1000000):AC Tryz.prog 161 [.c (.sl (l.map intCs))] [] (.c (.int .i64 (orL l))) []:=by
 have hln:(l.map intCs).length=l.length:=by simp
 obtain⟨R,hR⟩:∃R,R=orL l:=⟨_,rfl⟩
 rw[←hR]
 refine wEnter Tryz.func161 Tryz.ntmps161 ?_
 refine wRUN hln ?_
 refine a_loop (κ:=Nat) (fun k=>⟨mkS 0 18 [(0,.c (.sl (l.map intCs))),(3,.c (.int .i64 0)),(6,.c (.sl (l.map intCs))),(7,.c (.int .i64 l.length)),(8,.c (.int .i64 k))],[]⟩)
  (fun k=>k≤l.length∧R=orL (l.drop k)) (fun k=>l.length-k) 0 ⟨Nat.zero_le _,hR⟩ ?_ ?_
 ·exact wSays (Says.of [] []) hln
 ·rintro k ⟨hk,hRk⟩
  by_cases hlt:k<l.length
  ·have hdk:decide ((k:Int)<(l.length:Int))=true:=by simpa using hlt
   have hw:=wrap_succ (k:=k) (by omega)
   have hr:rowsAt (l.map intCs) 1 k=true:=by simp[rowsAt,hlt,intCs]
   have hg:(l.map intCs)[k]? = some [.int .i64 l[k]]:=by simp[hlt,intCs]
   rw[orL_drop _ hlt]at hRk
   generalize l[k]=x at *
   by_cases hx:x=0
   ·rw[if_pos hx]at hRk
    have hb:(x != 0)=false:=by simpa using hx
    refine wRUN (j5 hdk hr hg hb hw) ?_
    refine⟨k+1,by omega,⟨by omega,hRk⟩,?_⟩
    exact wSays (Says.of [] []) hw
   ·rw[if_neg hx]at hRk
    have hb:(x != 0)=true:=by simpa using hx
    rw[hRk]
    refine wRUN (j4 hdk hr hg hb) ?_
    exact wRet (ret_data []) Tryz.results161
  ·have hdk:decide ((k:Int)<(l.length:Int))=false:=by simpa using hlt
   rw[List.drop_eq_nil_of_le (by omega)]at hRk
   have hR0:R=0:=hRk
   rw[hR0]
   refine wRUN hdk ?_
   exact wRet (ret_data []) Tryz.results161
theorem or3_ac (a b c:Int):AC Tryz.prog 161 [.c (.sl [[.int .i64 a],[.int .i64 b],[.int .i64 c]])] [] (.c (.int .i64 (orI a (orI b c)))) []:=by
 have h:=or_ac [a,b,c] (by simp)
 simp only[orL,orI_right]at h
 exact h
theorem or2_ac (a b:Int):AC Tryz.prog 161 [.c (.sl [[.int .i64 a],[.int .i64 b]])] [] (.c (.int .i64 (orI a b))) []:=by
 have h:=or_ac [a,b] (by simp)
 simp only[orL,orI_right]at h
 exact h
theorem compareKeys_ac (a b:List ByteArray) (hl:a.length≤1000000):AC Tryz.prog 163 [.c (.sl (a.map strCs)),.c (.sl (b.map strCs))] [] (.c (.int .i64 (cmpKeys a b))) []:=by
 have hla:(a.map strCs).length=a.length:=by simp
 have hlb:(b.map strCs).length=b.length:=by simp
 obtain⟨R,hR⟩:∃R,R=cmpKeys a b:=⟨_,rfl⟩
 rw[←hR]
 refine wEnter Tryz.func163 Tryz.ntmps163 ?_
 refine wRUN (j2 hla hlb) ?_
 refine a_loop (κ:=Nat) (fun k=>⟨mkS 0 36 [(0,.c (.sl (a.map strCs))),(1,.c (.sl (b.map strCs))),(9,.c (.sl (a.map strCs))),(10,.c (.int .i64 a.length)),(11,.c (.int .i64 k))],[]⟩)
  (fun k=>k≤a.length∧k≤b.length∧R=cmpKeys (a.drop k) (b.drop k)) (fun k=>a.length-k) 0 ⟨Nat.zero_le _,Nat.zero_le _,hR⟩ ?_ ?_
 ·exact wSays (Says.of [] []) hla
 ·rintro k ⟨hk,hk2,hRk⟩
  by_cases hlt:k<a.length
  ·have hdk:decide ((k:Int)<(a.length:Int))=true:=by simpa using hlt
   have hw:=wrap_succ (k:=k) (by omega)
   have hr:rowsAt (a.map strCs) 1 k=true:=by simp[rowsAt,hlt,strCs]
   have hg:(a.map strCs)[k]? = some [.str a[k]]:=by simp[hlt,strCs]
   by_cases hltb:k<b.length
   ·have hdb:decide ((k:Int)≥(b.length:Int))=false:=by simpa using hltb
    have hrb:rowsAt (b.map strCs) 1 k=true:=by simp[rowsAt,hltb,strCs]
    have hgb:(b.map strCs)[k]? = some [.str b[k]]:=by simp[hltb,strCs]
    have hc:=compareStr_ac a[k] b[k]
    rw[cmpKeys_drop hlt hltb]at hRk
    generalize cmpB a[k] b[k]=x at *
    generalize a[k]=ak at *
    generalize b[k]=bk at *
    by_cases hx:x=0
    ·subst hx
     rw[orI_zero]at hRk
     have h00:((0:Int) != 0)=false:=rfl
     refine wRUN (j7 hdk hr hg hlb hdb hrb hgb) ?_
     refine w7 (op_data [] hc) trivial ?_
     refine wRUN (j2 h00 hw) ?_
     refine⟨k+1,by omega,⟨by omega,by omega,hRk⟩,?_⟩
     exact wSays (Says.of [] []) hw
    ·rw[orI_ne hx]at hRk
     have hb:(x != 0)=true:=by simpa using hx
     rw[hRk]
     refine wRUN (j7 hdk hr hg hlb hdb hrb hgb) ?_
     refine w7 (op_data [] hc) trivial ?_
     refine wRUN hb ?_
     exact wRet (ret_data []) Tryz.results163
   ·have hdb:decide ((k:Int)≥(b.length:Int))=true:=by simpa using hltb
    rw[cmpKeys_end hk hk2 (by omega)]at hRk
    have hR1:R=1:=by rw[hRk];unfold cmpI;rw[if_neg (by omega),if_pos (by omega)]
    rw[hR1]
    refine wRUN (j5 hdk hr hg hlb hdb) ?_
    exact wRet (ret_data []) Tryz.results163
  ·have hdk:decide ((k:Int)<(a.length:Int))=false:=by simpa using hlt
   rw[cmpKeys_end hk hk2 (by omega)]at hRk
   by_cases hll:a.length<b.length
   ·have hd:decide ((a.length:Int)<(b.length:Int))=true:=by simpa using hll
    have hR1:R = -1:=by rw[hRk];exact cmpI_lt hd
    rw[hR1]
    refine wRUN (j4 hdk hla hlb hd) ?_
    exact wRet (ret_data []) Tryz.results163
   ·have hd:decide ((a.length:Int)<(b.length:Int))=false:=by simpa using hll
    have hR1:R=0:=by rw[hRk];exact cmpI_eq hd (by simp;omega)
    rw[hR1]
    refine wRUN (j4 hdk hla hlb hd) ?_
    exact wRet (ret_data []) Tryz.results163
theorem keys_len {t:V}(h:t.right):t.keys.length≤200:=by
 by_cases h6:t.kind=6
 ·rw[(right_asc h h6).2.2]
  exact kids_len_le h.2.1
 ·obtain⟨_,_,_,_,h3,_⟩:=right_shape h.1
  rw[h3 h6]
  simp
theorem compareVals_ac:∀(m:Nat) (a b:V),a.count≤m→a.right→AC Tryz.prog 110 [a.av,b.av] [] (.c (.int .i64 (a.cmp b))) []:=by
 intro m
 induction m with
 |zero=>intro a _ hm _;have:=count_pos a;omega
 |succ m ih =>
  intro a b hm ha
  have hkl:=kids_len_le ha.2.1
  by_cases hk:a.kind=b.kind
  ·have hne:(a.kind != b.kind)=false:=by simpa using hk
   obtain⟨R,hR⟩:∃R,R=a.cmp b:=⟨_,rfl⟩
   have hR0:=hR
   rw[cmp_eq,if_pos hk,←orI_assoc,←orI_assoc,orI_assoc (cmpI a.num b.num)]at hR0
   rw[←hR]
   have h1:=compare64_ac a.num b.num
   have h2:=stringsCompare_ac a.text b.text
   have h3:=compareKeys_ac a.keys b.keys (by have:=keys_len ha;omega)
   have h4:=or3_ac (cmpI a.num b.num) (cmpB a.text b.text) (cmpKeys a.keys b.keys)
   have hrange:-1≤orI (cmpI a.num b.num) (orI (cmpB a.text b.text) (cmpKeys a.keys b.keys))∧orI (cmpI a.num b.num) (orI (cmpB a.text b.text) (cmpKeys a.keys b.keys))≤1:=orI_range (cmpI_range _ _) (orI_range (cmpB_range _ _) (cmpKeys_range _ _))
   generalize orI (cmpI a.num b.num) (orI (cmpB a.text b.text) (cmpKeys a.keys b.keys))=o1 at *
   generalize cmpI a.num b.num=c1 at *
   generalize cmpB a.text b.text=c2 at *
   generalize cmpKeys a.keys b.keys=c3 at *
   obtain⟨mn,hmn⟩:∃mn:Int,(if (b.kids.length:Int)<(a.kids.length:Int) then (b.kids.length:Int) else (a.kids.length:Int))=mn:=⟨_,rfl⟩
   have hmn2:∀k:Nat,decide ((k:Int)<mn)=decide (k<a.kids.length∧k<b.kids.length):=by
    intro k
    rw[←hmn]
    split<;>congr 1<;>apply propext<;>omega
   refine wEnter Tryz.func110 Tryz.ntmps110 ?_
   refine wRUN hne ?_
   refine w7 (op_data [] h1) trivial ?_
   refine wRUN trivial ?_
   refine w7 (op_data [] h2) trivial ?_
   refine wRUN trivial ?_
   refine w7 (op_data [] h3) trivial ?_
   refine wRUN trivial ?_
   refine w7 (op_data [(32,0)] h4) trivial ?_
   refine wRUN trivial ?_
   refine a_loop (κ:=Nat×Int) (fun x=>⟨mkS 0 70 [(2,.ptr (2,0) 0),(3,.ptr (3,0) 0),(5,.c (.int .i64 x.2)),(6,.c (.int .i64 x.1))],[((2,0),.box [.c (.int .i64 a.kind),.c (.int .i64 a.num),.c (.str a.text),.c (.sl (a.keys.map strCs)),.c (.sl (a.kids.map V.cs))]),((3,0),.box [.c (.int .i64 b.kind),.c (.int .i64 b.num),.c (.str b.text),.c (.sl (b.keys.map strCs)),.c (.sl (b.kids.map V.cs))])]⟩)
    (fun x=>x.1≤a.kids.length∧x.1≤b.kids.length∧(-1≤x.2∧x.2≤1)∧R=orI x.2 (cmpLV (a.kids.drop x.1) (b.kids.drop x.1))) (fun x=>a.kids.length-x.1) (0,o1) ⟨Nat.zero_le _,Nat.zero_le _,hrange,hR0⟩ ?_ ?_
   ·exact wSays (Says.of [((2,0),(2,0)),((3,0),(3,0))] []) hne
   ·rintro⟨k,o⟩ ⟨hk1,hk2,ho,hRk⟩
    dsimp only at hk1 hk2 ho hRk ⊢
    have w1:IntKind.i64.wrap o=o:=IntWalk.i64_in _ (by omega)
    by_cases hlt:k<a.kids.length∧k<b.kids.length
    ·have hdk:decide ((k:Int)<mn)=true:=by rw[hmn2];simpa using hlt
     by_cases h0:o=0
     ·subst h0
      have h00:((0:Int)==0)=true:=rfl
      have hw:=wrap_succ (k:=k) (by omega)
      rw[orI_zero,cmpLV_drop hlt.1 hlt.2]at hRk
      have hra:rowsAt (a.kids.map V.cs) 5 k=true:=by simp[rowsAt,hlt.1,V.cs_eq]
      have hga:(a.kids.map V.cs)[k]? = some a.kids[k].cs:=by simp[hlt.1]
      have hrb:rowsAt (b.kids.map V.cs) 5 k=true:=by simp[rowsAt,hlt.2,V.cs_eq]
      have hgb:(b.kids.map V.cs)[k]? = some b.kids[k].cs:=by simp[hlt.2]
      have hmem:=countL_mem (List.getElem_mem hlt.1)
      have hck:=count_kids a
      have hrec:=ih a.kids[k] b.kids[k] (by omega) (right_mem ha (List.getElem_mem hlt.1))
      have hrg:=cmp_range a.kids[k] b.kids[k]
      generalize a.kids[k].cmp b.kids[k]=o2 at *
      generalize a.kids[k]=u at *
      generalize b.kids[k]=v at *
      have w2:IntKind.i64.wrap o2=o2:=IntWalk.i64_in _ (by omega)
      refine wRUN (j7 hmn hdk h00 hra hga hrb hgb) ?_
      refine w7 (op_data [] hrec) trivial ?_
      (repeat (first | (with_reducible first | refine a_seq ?_ | refine a_region ?_ | refine a_block ?_ | refine a_scope ?_) | ((with_reducible apply op_any);(iterate 2 (focus (first | (simp only[go_sem,Nat.reduceEqDiff,Nat.reduceAdd,Nat.reduceSub,Nat.reduceLeDiff,Nat.reduceMul,Nat.reduceBEq,Nat.reduceLT,Int.reduceToNat,reduceCtorEq,w2,hw];first | done | exact rfl | (and_intros<;>rfl)) | exact rfl | decide)))) | ((with_reducible refine o_nil ?_);dsimp only;try ((with_reducible apply o_draw);(focus (simp only[go_sem];exact rfl));(focus decide))) | ((with_reducible first | refine a_ret ?_ | refine a_skip ?_ | refine a_label ?_);dsimp only) | ((with_reducible refine a_exit ?_);dsimp only;simp only[if_true,if_false,Nat.reduceEqDiff]) | ((with_reducible apply a_if);(focus (simp only[go_sem,Nat.reduceBEq,Nat.reduceLT,w2,hw];exact rfl));dsimp only[cond_true,cond_false]) | ((with_reducible refine a_draw ?_ ?_);(focus exact rfl))))
      refine⟨(k+1,o2),by dsimp only;omega,⟨by dsimp only;omega,by dsimp only;omega,hrg,hRk⟩,?_⟩
      exact wSays (Says.of [((2,0),(2,0)),((3,0),(3,0))] []) hw
     ·have hb0:(o==0)=false:=by simpa using h0
      rw[orI_ne h0]at hRk
      have hcl:=compareInt_ac (a.kids.length:Int) (b.kids.length:Int)
      have hor:=or2_ac o (cmpI a.kids.length b.kids.length)
      rw[orI_ne h0]at hor
      generalize cmpI a.kids.length b.kids.length=c9 at *
      rw[hRk]
      refine wRUN (j3 hmn hdk hb0) ?_
      refine w7 (op_data [] hcl) trivial ?_
      refine wRUN trivial ?_
      refine w7 (op_data [(68,0)] hor) trivial ?_
      refine wRUN w1 ?_
      exact wRet (ret_data []) Tryz.results110
    ·have hdk:decide ((k:Int)<mn)=false:=by rw[hmn2];simpa using hlt
     rw[cmpLV_end hk1 hk2 hlt]at hRk
     have hcl:=compareInt_ac (a.kids.length:Int) (b.kids.length:Int)
     have hor:=or2_ac o (cmpI a.kids.length b.kids.length)
     have hrg:=orI_range ho (cmpI_range (a.kids.length:Int) (b.kids.length:Int))
     generalize cmpI a.kids.length b.kids.length=c9 at *
     rw[←hRk]at hor hrg
     have w2:IntKind.i64.wrap R=R:=IntWalk.i64_in _ (by omega)
     refine wRUN (j2 hmn hdk) ?_
     refine w7 (op_data [] hcl) trivial ?_
     refine wRUN trivial ?_
     refine w7 (op_data [(68,0)] hor) trivial ?_
     (repeat (first | (with_reducible first | refine a_seq ?_ | refine a_region ?_ | refine a_block ?_ | refine a_scope ?_) | ((with_reducible apply op_any);(iterate 2 (focus (first | (simp only[go_sem,Nat.reduceEqDiff,Nat.reduceAdd,Nat.reduceSub,Nat.reduceLeDiff,Nat.reduceMul,Nat.reduceBEq,Nat.reduceLT,Int.reduceToNat,reduceCtorEq,w2];first | done | exact rfl | (and_intros<;>rfl)) | exact rfl | decide)))) | ((with_reducible refine o_nil ?_);dsimp only;try ((with_reducible apply o_draw);(focus (simp only[go_sem];exact rfl));(focus decide))) | ((with_reducible first | refine a_ret ?_ | refine a_skip ?_ | refine a_label ?_);dsimp only) | ((with_reducible refine a_exit ?_);dsimp only;simp only[if_true,if_false,Nat.reduceEqDiff]) | ((with_reducible apply a_if);(focus (simp only[go_sem,Nat.reduceBEq,Nat.reduceLT,w2];exact rfl));dsimp only[cond_true,cond_false]) | ((with_reducible refine a_draw ?_ ?_);(focus exact rfl))))
     exact wRet (ret_data []) Tryz.results110
  ·have hne:(a.kind != b.kind)=true:=by simpa using hk
   have h1:=compare64_ac a.kind b.kind
   have hR:a.cmp b=cmpI a.kind b.kind:=by rw[cmp_eq,if_neg hk]
   have hrg:=cmpI_range a.kind b.kind
   rw[hR]
   generalize cmpI a.kind b.kind=c1 at *
   have w1:IntKind.i64.wrap c1=c1:=IntWalk.i64_in _ (by omega)
   refine wEnter Tryz.func110 Tryz.ntmps110 ?_
   refine wRUN hne ?_
   refine w7 (op_data [] h1) trivial ?_
   refine wRUN w1 ?_
   exact wRet (ret_data []) Tryz.results110
end Go.Proofs.YtlciedpfjhkkdaaGreatDoor
