/- Texts of this proof: D13 D14. -/
import Derived.Test.YtllfmaflodbieaaGreatDoorKG81uE40
import Derived.Shelf.Strconv.ParseIntPublic10
import Derived.Shelf.Strings.Prefix
import Derived.Shelf.Strings.Search1
set_option linter.all false
set_option maxHeartbeats 8000000
namespace Go.Proofs.YtllfmaflodbieaaGreatDoor
section
open Go.RowKit
set_option maxRecDepth 10000
def a59 (s:ByteArray) (d:DS):AO:=.box [.c (.str s),.c (.int .i64 d.pl),.c (.int .i64 d.code),.c (.int .i64 d.bad)]
abbrev dsM (s:ByteArray) (d:DS):Mem:=[((0,0),a59 s d)]
theorem K2 (s:ByteArray) (d:DS):dsM s d=[((0,0),.box [.c (.str s),.c (.int .i64 d.pl),.c (.int .i64 d.code),.c (.int .i64 d.bad)])]:=rfl
theorem XA (n:Nat):AC Tryz.prog 221 [.c (.int .u8 n)] [] (.c (.bool (Fb n))) []:=by
 rw[X8]
 generalize (n:Int)=z
 cases h1:z==32
 ·cases h2:z==9
  ·cases h3:z==10
   ·cases h4:z==13
    all_goals
     refine JI Tryz.func221 Tryz.ntmps221 ?_
     refine JV (j4 h1 h2 h3 h4) ?_
     exact JW (Iu []) Tryz.results221
   ·refine JI Tryz.func221 Tryz.ntmps221 ?_
    refine JV (j3 h1 h2 h3) ?_
    exact JW (Iu []) Tryz.results221
  ·refine JI Tryz.func221 Tryz.ntmps221 ?_
   refine JV (j2 h1 h2) ?_
   exact JW (Iu []) Tryz.results221
 ·refine JI Tryz.func221 Tryz.ntmps221 ?_
  refine JV h1 ?_
  exact JW (Iu []) Tryz.results221
theorem Tf (s:ByteArray) (hs:s.size≤1000000) (i:Nat) (hi:i≤s.size):AC Tryz.prog 182 [.c (.str s),.c (.int .i64 i)] [] (.c (.int .i64 (Io s i))) []:=by
 refine JI Tryz.func182 Tryz.ntmps182 ?_
 refine JV q9 ?_
 refine Jz (κ:=Nat) (fun j=>⟨mkS 0 18 [(0,.c (.str s)),(1,.c (.int .i64 j))],[]⟩) (fun j=>j≤s.size∧Io s j=Io s i) (fun j=>s.size-j) i ⟨hi,rfl⟩ ?_ ?_
 ·exact JQ (F7.of [] []) hi
 ·rintro j ⟨hj,hsk⟩
  by_cases hlt:j<s.size
  ·have hdk:decide ((j:Int)<(s.size:Int))=true:=by simpa using hlt
   have hw:=JX (k:=j) (by omega)
   obtain⟨b,hg,hb⟩:=LO hlt
   have hbl:=XA b.toNat
   rw[←hb]at hbl
   have hbn:((b.toNat:Nat):Int)=((bAt s j:Nat):Int):=by rw[hb]
   cases hbk:Fb (bAt s j) with
   |true =>
    rw[hbk]at hbl
    refine JV (j3 hdk hg hbn) ?_
    refine w7 (Ju [] hbl) q9 ?_
    refine JV hw ?_
    refine⟨j+1,by omega,⟨by omega,by rw[←Pr hbk,hsk]⟩,?_⟩
    exact JQ (F7.of [] []) hw
   |false =>
    rw[hbk]at hbl
    have he:=KT hbk
    rw[he]at hsk
    subst hsk
    refine JV (j3 hdk hg hbn) ?_
    refine w7 (Ju [] hbl) q9 ?_
    refine JV q9 ?_
    exact JW (Iu []) Tryz.results182
  ·have hdk:decide ((j:Int)<(s.size:Int))=false:=by simpa using hlt
   have he:=KT (s:=s) (i:=j) (by rw[Lw (by omega)];rfl)
   rw[he]at hsk
   subst hsk
   refine JV hdk ?_
   exact JW (Iu []) Tryz.results182
theorem Pf (n:Nat):AC Tryz.prog 173 [.c (.int .u8 n)] [] (.c (.bool (G0 n))) []:=by
 rw[a0k]
 generalize (n:Int)=z
 cases h1:decide (z≥48)
 ·refine JI Tryz.func173 Tryz.ntmps173 ?_
  refine JV h1 ?_
  exact JW (Iu []) Tryz.results173
 ·cases h2:decide (z≤57)
  all_goals
   refine JI Tryz.func173 Tryz.ntmps173 ?_
   refine JV (j2 h1 h2) ?_
   exact JW (Iu []) Tryz.results173
theorem VJ (s:ByteArray) (hs:s.size≤1000000) (i:Nat) (hi:i≤s.size):AC Tryz.prog 215 [.c (.str s),.c (.int .i64 i)] [] (.c (.int .i64 ((Jf s i-i:Nat):Int))) []:=by
 obtain⟨e1,e2,e3,e4⟩:=Rf hi
 refine JI Tryz.func215 Tryz.ntmps215 ?_
 refine JV q9 ?_
 refine Jz (κ:=Nat) (fun j=>⟨mkS 0 23 [(0,.c (.str s)),(1,.c (.int .i64 i)),(5,.c (.int .i64 j))],[]⟩) (fun j=>i+j≤Jf s i) (fun j=>s.size-(i+j)) 0 e1 ?_ ?_
 ·exact JQ (F7.of [] []) q9
 ·intro j hj
  have hwp:=Ut (a:=i) (b:=j) (by omega)
  have hw:=JX (k:=j) (by omega)
  by_cases hlt:i+j<s.size
  ·have hdk:decide (((i+j:Nat):Int)<(s.size:Int))=true:=decide_eq_true (by omega)
   obtain⟨b,hg,hb⟩:=LO hlt
   have hbl:=Pf b.toNat
   rw[←hb]at hbl
   have hbn:((b.toNat:Nat):Int)=((bAt s (i+j):Nat):Int):=by rw[hb]
   by_cases hend:i+j=Jf s i
   ·have hbk:G0 (bAt s (i+j))=false:=by rw[hend];exact e3
    have hres:Jf s i-i=j:=by omega
    rw[hbk]at hbl
    rw[hres]
    refine JV (j4 hwp hdk hg hbn) ?_
    refine w7 (Ju [] hbl) q9 ?_
    refine JV q9 ?_
    exact JW (Iu []) Tryz.results215
   ·have hbk:G0 (bAt s (i+j))=true:=e4 _ (by omega) (by omega)
    rw[hbk]at hbl
    refine JV (j4 hwp hdk hg hbn) ?_
    refine w7 (Ju [] hbl) q9 ?_
    refine JV hw ?_
    refine⟨j+1,by omega,by omega,?_⟩
    exact JQ (F7.of [] []) hw
  ·have hdk:decide (((i+j:Nat):Int)<(s.size:Int))=false:=decide_eq_false (by omega)
   have hres:Jf s i-i=j:=by omega
   rw[hres]
   refine JV (j2 hwp hdk) ?_
   exact JW (Iu []) Tryz.results215
theorem a3s {n:Nat}(hn:n<256):decide (0≤Ji n)=((G0 n||(decide ((n:Int)≥97)&&decide ((n:Int)≤102)))||(decide ((n:Int)≥65)&&decide ((n:Int)≤70))):=by
 rw[Bool.eq_iff_iff]
 unfold Ji G0
 simp only[Bool.and_eq_true,decide_eq_true_eq,Bool.or_eq_true]
 by_cases h1:48≤n<;>by_cases h2:n≤57<;>by_cases h3:97≤n<;>by_cases h4:n≤102<;>by_cases h5:65≤n<;>by_cases h6:n≤70<;>simp[h1,h2,h3,h4,h5,h6]<;>omega
theorem a02 (n:Nat) (hn:n<256):AC Tryz.prog 292 [.c (.int .u8 n)] [] (.c (.bool (decide (0≤Ji n)))) []:=by
 rw[a3s hn]
 have hd:=Pf n
 cases h0:G0 n with
 |true =>
  rw[h0]at hd
  refine JI Tryz.func292 Tryz.ntmps292 ?_
  refine JV q9 ?_
  refine w7 (Ju [] hd) q9 ?_
  refine JV q9 ?_
  exact JW (Iu []) Tryz.results292
 |false =>
  rw[h0]at hd
  generalize (n:Int)=z at *
  cases h1:decide (z≥97)<;>cases h2:decide (z≤102)<;>cases h3:decide (z≥65)<;>cases h4:decide (z≤70)
  all_goals
   refine JI Tryz.func292 Tryz.ntmps292 ?_
   refine JV q9 ?_
   refine w7 (Ju [] hd) q9 ?_
   refine JV (j4 h1 h2 h3 h4) ?_
   exact JW (Iu []) Tryz.results292
theorem KO (s:ByteArray) (d:DS) (c:Int) (p:Nat):AC Tryz.prog 119 [.ptr (0,0) 0,.c (.int .i64 c),.c (.int .i64 p)] (dsM s d) (.tup []) (dsM s (d.fail c p)):=by
 unfold DS.fail
 obtain⟨pl,code,bad⟩:=d
 by_cases h:code=0
 ·subst h
  simp only[if_true,K2]
  have h00:((0:Int)==0)=true:=rfl
  refine JI Tryz.func119 Tryz.ntmps119 ?_
  refine JV h00 ?_
  exact JJ (JN [((0,0),(0,0))] []) Tryz.results119 q9
 ·have hc:(code==0)=false:=by simpa using h
  simp only[if_neg h,K2]
  refine JI Tryz.func119 Tryz.ntmps119 ?_
  refine JV hc ?_
  exact JJ (JN [((0,0),(0,0))] []) Tryz.results119 hc
theorem a6a (s:ByteArray) (d:DS) (hd:d.pl≤s.size) (b:Nat) (hb:b<256):AC Tryz.prog 220 [.ptr (0,0) 0,.c (.int .u8 b)] (dsM s d) (.c (.bool (d.is s b))) (dsM s d):=by
 unfold DS.is
 obtain⟨pl,code,bad⟩:=d
 simp only at hd ⊢
 simp only[K2]
 by_cases h:code=0
 ·subst h
  simp only[decide_true,Bool.true_and]
  have h00:((0:Int)==0)=true:=rfl
  by_cases hlt:pl<s.size
  ·have hdk:decide ((pl:Int)<(s.size:Int))=true:=by simpa using hlt
   obtain⟨b1,hg,hb1⟩:=LO hlt
   have hq:(((b1.toNat:Nat):Int)==((b:Nat):Int))=(bAt s pl==b):=by rw[hb1];exact a0c _ _
   refine JI Tryz.func220 Tryz.ntmps220 ?_
   refine JV (j4 h00 hdk hg hq) ?_
   exact JJ (JN [((0,0),(0,0))] []) Tryz.results220 hdk
  ·have hdk:decide ((pl:Int)<(s.size:Int))=false:=by simpa using hlt
   have hq:(bAt s pl==b)=false:=by rw[Lw (by omega)];simp;omega
   rw[hq]
   refine JI Tryz.func220 Tryz.ntmps220 ?_
   refine JV (j2 h00 hdk) ?_
   exact JJ (JN [((0,0),(0,0))] []) Tryz.results220 hdk
 ·have hc:(code==0)=false:=by simpa using h
  simp only[h,decide_false,Bool.false_and]
  refine JI Tryz.func220 Tryz.ntmps220 ?_
  refine JV hc ?_
  exact JJ (JN [((0,0),(0,0))] []) Tryz.results220 hc
theorem TO {s:ByteArray}{d:DS}{b:Nat}(hb:b<256) (h:d.is s b=true):d.pl<s.size∧d.code=0∧bAt s d.pl=b:=by
 unfold DS.is at h
 simp only[Bool.and_eq_true,decide_eq_true_eq,beq_iff_eq]at h
 exact⟨GM (by omega),h.1,h.2⟩
theorem Mb (s:ByteArray) (hs:s.size≤1000000) (d:DS) (hd:d.pl≤s.size) (b:Nat) (hb:b<256):AC Tryz.prog 177 [.ptr (0,0) 0,.c (.int .u8 b)] (dsM s d) (.c (.bool (d.is s b))) (dsM s (d.take s b)):=by
 have hi:=a6a s d hd b hb
 unfold DS.take
 cases h:d.is s b with
 |true =>
  rw[h]at hi
  obtain⟨h1,_,_⟩:=TO hb h
  simp only[if_true]
  unfold DS.go
  simp only[K2]at hi ⊢
  generalize d.pl=pl at *
  have hw:=JX (k:=pl) (by omega)
  refine JI Tryz.func177 Tryz.ntmps177 ?_
  refine JV q9 ?_
  refine JO (Im [((0,0),(0,0))] [((0,0),(0,0))] hi) q9 ?_
  refine JV hw ?_
  exact JJ (JN [((0,0),(0,0))] []) Tryz.results177 hw
 |false =>
  rw[h]at hi
  simp only[Bool.false_eq_true,if_false]
  simp only[K2]at hi ⊢
  refine JI Tryz.func177 Tryz.ntmps177 ?_
  refine JV q9 ?_
  refine JO (Im [((0,0),(0,0))] [((0,0),(0,0))] hi) q9 ?_
  refine JV q9 ?_
  exact JJ (JN [((0,0),(0,0))] []) Tryz.results177 h
theorem Q6 (s:ByteArray) (hs:s.size≤1000000) (d:DS) (hd:d.pl≤s.size) (b:Nat) (hb:b<256):AC Tryz.prog 181 [.ptr (0,0) 0,.c (.int .u8 b)] (dsM s d) (.tup []) (dsM s (d.want s b)):=by
 have ht:=Mb s hs d hd b hb
 have hf:=KO s d 5 d.pl
 unfold DS.take at ht
 unfold DS.want
 cases h:d.is s b with
 |true =>
  rw[h]at ht
  simp only[if_true]at ht ⊢
  generalize d.go (d.pl+1)=d2 at *
  simp only[K2]at ht ⊢
  refine JI Tryz.func181 Tryz.ntmps181 ?_
  refine JV q9 ?_
  refine JO (Im [((0,0),(0,0))] [((0,0),(0,0))] ht) q9 ?_
  refine JV q9 ?_
  exact JJ (JN [((0,0),(0,0))] []) Tryz.results181 h
 |false =>
  rw[h]at ht
  simp only[Bool.false_eq_true,if_false]at ht ⊢
  generalize d.fail 5 d.pl=d2 at *
  simp only[K2]at ht hf ⊢
  refine JI Tryz.func181 Tryz.ntmps181 ?_
  refine JV q9 ?_
  refine JO (Im [((0,0),(0,0))] [((0,0),(0,0))] ht) q9 ?_
  refine JV q9 ?_
  refine JO (Im [((0,0),(0,0))] [((0,0),(0,0))] hf) q9 ?_
  refine JV q9 ?_
  exact JJ (JN [((0,0),(0,0))] []) Tryz.results181 h
theorem LN (s:ByteArray) (hs:s.size≤1000000) (d:DS) (hd:d.pl≤s.size):AC Tryz.prog 118 [.ptr (0,0) 0] (dsM s d) (.tup []) (dsM s (d.skip s)):=by
 have hk:=Tf s hs d.pl hd
 unfold DS.skip DS.go
 simp only[K2]
 generalize Io s d.pl=e at *
 generalize d.pl=pl at *
 refine JI Tryz.func118 Tryz.ntmps118 ?_
 refine JV q9 ?_
 refine w7 (Ju [] hk) q9 ?_
 refine JV q9 ?_
 exact JJ (JN [((0,0),(0,0))] []) Tryz.results118 hd
theorem Lm (d:DS) (c:Int) (p:Nat):(d.fail c p).pl=d.pl:=by unfold DS.fail;split<;>rfl
theorem Nb {s:ByteArray}{d:DS}{b:Nat}(hb:b<256) (h:d.pl≤s.size):d.pl≤(d.want s b).pl∧(d.want s b).pl≤s.size∧(d.want s b).pl≤d.pl+1:=by
 unfold DS.want
 cases hi:d.is s b with
 |true =>
  obtain⟨h1,_,_⟩:=TO hb hi
  simp only[if_true]
  unfold DS.go
  exact⟨Nat.le_succ _,h1,Nat.le_refl _⟩
 |false =>
  simp only[Bool.false_eq_true,if_false]
  rw[Lm]
  exact⟨Nat.le_refl _,h,Nat.le_succ _⟩
theorem L0 {s:ByteArray}{d:DS}(h:d.pl≤s.size):d.pl≤(d.skip s).pl∧(d.skip s).pl≤s.size:=⟨(Ks h).1,(Ks h).2.1⟩
theorem Q7 {s:ByteArray}:∀{l:List Nat}{d:DS},(∀b∈l,b<256)→d.pl≤s.size→d.pl≤(d.word s l).pl∧(d.word s l).pl≤s.size
 | [],_,_,h=>⟨Nat.le_refl _,h⟩
 |b::r,d,hb,h=>by
  obtain⟨h1,h2,_⟩:=Nb (hb b (by simp)) h
  obtain⟨g1,g2⟩:=Q7 (l:=r) (fun x hx=>hb x (by simp[hx])) h2
  unfold DS.word
  exact⟨by omega,g2⟩
theorem Us {s:ByteArray}:∀(l:List Nat) (d:DS) (b:Nat),d.word s (l++[b])=(d.word s l).want s b
 | [],_,_=>rfl
 |a::l,d,b=>by
  show (d.want s a).word s (l++[b])=((d.want s a).word s l).want s b
  exact Us l _ b
theorem Rt (s:ByteArray) (hs:s.size≤1000000) (d:DS) (hd:d.pl≤s.size) (w:ByteArray) (hw:w.size≤100):AC Tryz.prog 171 [.ptr (0,0) 0,.c (.str w)] (dsM s d) (.tup []) (dsM s (d.word s (w.data.toList.map UInt8.toNat))):=by
 have hlen:(w.data.toList.map UInt8.toNat).length=w.size:=by simp
 obtain⟨l,hl⟩:∃l,w.data.toList.map UInt8.toNat=l:=⟨_,rfl⟩
 have hlb:∀b∈l,b<256:=fun b hb=>by
  rw[←hl]at hb
  obtain⟨x,_,rfl⟩:=List.mem_map.1 hb
  exact x.toNat_lt
 have hat:∀k (hk:k<w.size),∃b:UInt8,w[k]? = some b∧l[k]? = some b.toNat:=fun k hk=>by
  obtain⟨b,hb,hb2⟩:=LO hk
  refine⟨b,hb,?_⟩
  have:=LF w k
  rw[←hl,List.getElem?_map]
  cases hq:w.data.toList[k]? with
  |none=>rw[List.getElem?_eq_none_iff,JY]at hq;omega
  |some b' =>
   rw[hq,hb2]at this
   simp only at this
   rw[Option.map_some,this]
 rw[hl]at hlen ⊢
 have hz:d.word s (l.take 0)=d:=by rw[List.take_zero];rfl
 simp only[K2]
 refine JI Tryz.func171 Tryz.ntmps171 ?_
 refine JV q9 ?_
 refine Jz (κ:=Nat) (fun k=>⟨mkS 0 16 [(0,.ptr (0,0) 0),(1,.c (.str w)),(6,.c (.int .i64 w.size)),(7,.c (.int .i64 k))],dsM s (d.word s (l.take k))⟩) (fun k=>k≤w.size) (fun k=>w.size-k) 0 (Nat.zero_le _) ?_ ?_
 ·simp only[hz,K2]
  exact JQ (F7.of [((0,0),(0,0))] []) hd
 ·intro k hk
  by_cases hlt:k<w.size
  ·have hdk:decide ((k:Int)<(w.size:Int))=true:=by simpa using hlt
   have hwk:=JX (k:=k) (by omega)
   obtain⟨b,hg,hlk⟩:=hat k hlt
   obtain⟨hkl,hke⟩:=List.getElem?_eq_some_iff.1 hlk
   have hnext:d.word s (l.take (k+1))=(d.word s (l.take k)).want s b.toNat:=by rw[List.take_succ_eq_append_getElem hkl,hke,Us]
   have hp:=(Q7 (s:=s) (l:=l.take k) (d:=d) (fun x hx=>hlb x (List.mem_of_mem_take hx)) hd).2
   have hwa:=Q6 s hs (d.word s (l.take k)) hp b.toNat b.toNat_lt
   rw[←hnext]at hwa
   obtain⟨d2,hd2⟩:∃d2,d.word s (l.take (k+1))=d2:=⟨_,rfl⟩
   rw[hd2]at hwa
   simp only[K2]at hwa ⊢
   refine JV (j2 hdk hg) ?_
   refine JO (Im [((0,0),(0,0))] [((0,0),(0,0))] hwa) q9 ?_
   refine JV hwk ?_
   refine⟨k+1,by omega,by omega,?_⟩
   exact JQ (F7.of [((0,0),(0,0))] []) (j2 hwk hd2)
  ·have hdk:decide ((k:Int)<(w.size:Int))=false:=by simpa using hlt
   have hke:l.take k=l:=List.take_of_length_le (by omega)
   simp only[hke,K2]
   refine JV hdk ?_
   exact JJ (JN [((0,0),(0,0))] []) Tryz.results171 hdk
end
section
open Go.RowKit Go.Shelf
def a2u:Ren where
 f:=fun x=>match x with
  | 101=>86
  | 208=>147
  | 206=>148
  |n=>n
 t:=fun x=>match x with
  | 9=>9
  | 4=>4
  | 3=>3
  |n=>n
 g:=fun x=>match x with
  |n=>n
theorem Qx:Lays.n101 Tryz.prog a2u where
 mixed:=C6
 f101:=by kernel_rfl
 f206:=by kernel_rfl
 f208:=by kernel_rfl
 t3:=Tryz.underlying3
 a3:=Tryz.isAgg3
 z3:=Tryz.sizeOf3
 v3:=Tryz.zeroValue3
 t4:=Tryz.underlying4
 a4:=Tryz.isAgg4
 z4:=Tryz.sizeOf4
 v4:=Tryz.zeroValue4
 t9:=Tryz.underlying9
 a9:=Tryz.isAgg9
 z9:=Tryz.sizeOf9
 v9:=Tryz.zeroValue9
def ZI:Ren where
 f:=fun x=>match x with
  | 217=>232
  | 266=>261
  |n=>n
 t:=fun x=>match x with
  | 9=>9
  | 5=>5
  | 3=>3
  |n=>n
 g:=fun x=>match x with
  |n=>n
theorem Xx:Lays.n217 Tryz.prog ZI where
 mixed:=C6
 f217:=by kernel_rfl
 f266:=by kernel_rfl
 t3:=Tryz.underlying3
 a3:=Tryz.isAgg3
 z3:=Tryz.sizeOf3
 v3:=Tryz.zeroValue3
 t5:=Tryz.underlying5
 a5:=Tryz.isAgg5
 z5:=Tryz.sizeOf5
 v5:=Tryz.zeroValue5
 t9:=Tryz.underlying9
 a9:=Tryz.isAgg9
 z9:=Tryz.sizeOf9
 v9:=Tryz.zeroValue9
def d8:Ren where
 f:=fun x=>match x with
  | 174=>256
  | 247=>290
  | 245=>291
  | 287=>306
  | 279=>307
  | 280=>308
  | 281=>309
  | 282=>310
  | 321=>321
  | 322=>322
  | 316=>323
  | 171=>325
  | 205=>324
  | 243=>333
  | 246=>204
  | 283=>244
  | 284=>245
  | 285=>246
  | 286=>247
  | 129=>271
  | 317=>270
  | 318=>272
  | 319=>273
  | 320=>274
  | 337=>293
  | 338=>294
  |n=>n
 t:=fun x=>match x with
  | 9=>9
  | 3=>3
  | 2=>2
  | 75=>62
  | 85=>279
  | 4=>4
  | 167=>339
  | 5=>5
  | 53=>249
  | 175=>340
  | 46=>194
  | 168=>342
  | 37=>29
  | 0=>0
  | 210=>360
  | 21=>21
  | 127=>113
  | 145=>365
  | 143=>363
  | 171=>269
  | 173=>272
  | 212=>290
  | 51=>233
  | 20=>20
  | 213=>291
  | 232=>345
  | 233=>346
  | 80=>65
  |n=>n
 g:=fun x=>match x with
  | 15=>6
  | 16=>7
  | 17=>1
  | 18=>4
  | 19=>5
  |n=>n
theorem NQ:LaysC.n174 Tryz.prog d8 where
 mixed:=C6
 f129:=by kernel_rfl
 f171:=by kernel_rfl
 f174:=by kernel_rfl
 f205:=by kernel_rfl
 f243:=by kernel_rfl
 f245:=by kernel_rfl
 f246:=by kernel_rfl
 f247:=by kernel_rfl
 f279:=by kernel_rfl
 f280:=by kernel_rfl
 f281:=by kernel_rfl
 f282:=by kernel_rfl
 f283:=by kernel_rfl
 f284:=by kernel_rfl
 f285:=by kernel_rfl
 f286:=by kernel_rfl
 f287:=by kernel_rfl
 f316:=by kernel_rfl
 f317:=by kernel_rfl
 f318:=by kernel_rfl
 f319:=by kernel_rfl
 f320:=by kernel_rfl
 f321:=by kernel_rfl
 f322:=by kernel_rfl
 f337:=by kernel_rfl
 f338:=by kernel_rfl
 t0:=Tryz.underlying0
 a0:=Tryz.isAgg0
 z0:=Tryz.sizeOf0
 v0:=Tryz.zeroValue0
 t2:=Tryz.underlying2
 a2:=Tryz.isAgg2
 z2:=Tryz.sizeOf2
 v2:=Tryz.zeroValue2
 t3:=Tryz.underlying3
 a3:=Tryz.isAgg3
 z3:=Tryz.sizeOf3
 v3:=Tryz.zeroValue3
 t4:=Tryz.underlying4
 a4:=Tryz.isAgg4
 z4:=Tryz.sizeOf4
 v4:=Tryz.zeroValue4
 t5:=Tryz.underlying5
 a5:=Tryz.isAgg5
 z5:=Tryz.sizeOf5
 v5:=Tryz.zeroValue5
 t9:=Tryz.underlying9
 a9:=Tryz.isAgg9
 z9:=Tryz.sizeOf9
 v9:=Tryz.zeroValue9
 t20:=Tryz.underlying20
 a20:=Tryz.isAgg20
 z20:=Tryz.sizeOf20
 v20:=Tryz.zeroValue20
 t21:=Tryz.underlying21
 a21:=Tryz.isAgg21
 z21:=Tryz.sizeOf21
 v21:=Tryz.zeroValue21
 t37:=Tryz.underlying29
 a37:=Tryz.isAgg29
 z37:=Tryz.sizeOf29
 v37:=Tryz.zeroValue29
 t46:=Tryz.underlying194
 a46:=Tryz.isAgg194
 z46:=Tryz.sizeOf194
 v46:=Tryz.zeroValue194
 t51:=Tryz.underlying233
 a51:=Tryz.isAgg233
 z51:=Tryz.sizeOf233
 v51:=Tryz.zeroValue233
 t53:=Tryz.underlying249
 a53:=Tryz.isAgg249
 z53:=Tryz.sizeOf249
 v53:=Tryz.zeroValue249
 t75:=Tryz.underlying62
 a75:=Tryz.isAgg62
 z75:=Tryz.sizeOf62
 v75:=Tryz.zeroValue62
 t85:=Tryz.underlying279
 a85:=Tryz.isAgg279
 z85:=Tryz.sizeOf279
 v85:=Tryz.zeroValue279
 t127:=Tryz.underlying113
 a127:=Tryz.isAgg113
 z127:=Tryz.sizeOf113
 v127:=Tryz.zeroValue113
 t143:=Tryz.underlying363
 a143:=Tryz.isAgg363
 z143:=Tryz.sizeOf363
 v143:=Tryz.zeroValue363
 t145:=Tryz.underlying365
 a145:=Tryz.isAgg365
 z145:=Tryz.sizeOf365
 v145:=Tryz.zeroValue365
 t167:=Tryz.underlying339
 a167:=Tryz.isAgg339
 z167:=Tryz.sizeOf339
 v167:=Tryz.zeroValue339
 t168:=Tryz.underlying342
 a168:=Tryz.isAgg342
 z168:=Tryz.sizeOf342
 v168:=Tryz.zeroValue342
 t171:=Tryz.underlying269
 a171:=Tryz.isAgg269
 z171:=Tryz.sizeOf269
 v171:=Tryz.zeroValue269
 t173:=Tryz.underlying272
 a173:=Tryz.isAgg272
 z173:=Tryz.sizeOf272
 v173:=Tryz.zeroValue272
 t175:=Tryz.underlying340
 a175:=Tryz.isAgg340
 z175:=Tryz.sizeOf340
 v175:=Tryz.zeroValue340
 t210:=Tryz.underlying360
 a210:=Tryz.isAgg360
 z210:=Tryz.sizeOf360
 v210:=Tryz.zeroValue360
 t212:=Tryz.underlying290
 a212:=Tryz.isAgg290
 z212:=Tryz.sizeOf290
 v212:=Tryz.zeroValue290
 t213:=Tryz.underlying291
 a213:=Tryz.isAgg291
 z213:=Tryz.sizeOf291
 t232:=Tryz.underlying345
 a232:=Tryz.isAgg345
 z232:=Tryz.sizeOf345
 v232:=Tryz.zeroValue345
 t233:=Tryz.underlying346
 a233:=Tryz.isAgg346
 z233:=Tryz.sizeOf346
 v233:=Tryz.zeroValue346
 g15:=by kernel_rfl
 g16:=by kernel_rfl
 g17:=by kernel_rfl
 g18:=by kernel_rfl
 g19:=by kernel_rfl
 t80:=Tryz.underlying65
 a80:=Tryz.isAgg65
 z80:=Tryz.sizeOf65
 v80:=Tryz.zeroValue65
 i0:=by kernel_rfl
 i2:=by kernel_rfl
 i3:=by kernel_rfl
 i4:=by kernel_rfl
 i5:=by kernel_rfl
 i9:=by kernel_rfl
 i20:=by kernel_rfl
 i21:=by kernel_rfl
 i37:=by kernel_rfl
 i46:=by kernel_rfl
 i51:=by kernel_rfl
 i53:=by kernel_rfl
 i75:=by kernel_rfl
 i80:=by kernel_rfl
 i85:=by kernel_rfl
 i127:=by kernel_rfl
 i143:=by kernel_rfl
 i145:=by kernel_rfl
 i167:=by kernel_rfl
 i168:=by kernel_rfl
 i171:=by kernel_rfl
 i173:=by kernel_rfl
 i175:=by kernel_rfl
 i210:=by kernel_rfl
 i212:=by kernel_rfl
 i232:=by kernel_rfl
 i233:=by kernel_rfl
 m15:=by kernel_rfl
 m16:=by kernel_rfl
 m17:=by kernel_rfl
 m18:=by kernel_rfl
 m19:=by kernel_rfl
 c0:=by kernel_rfl
 c2:=by kernel_rfl
 c3:=by kernel_rfl
 c4:=by kernel_rfl
 c5:=by kernel_rfl
 c9:=by kernel_rfl
 c20:=by kernel_rfl
 c21:=by kernel_rfl
 c37:=by kernel_rfl
 c46:=by kernel_rfl
 c51:=by kernel_rfl
 c53:=by kernel_rfl
 c75:=by kernel_rfl
 c80:=by kernel_rfl
 c85:=by kernel_rfl
 c127:=by kernel_rfl
 c143:=by kernel_rfl
 c145:=by kernel_rfl
 c167:=by kernel_rfl
 c168:=by kernel_rfl
 c171:=by kernel_rfl
 c173:=by kernel_rfl
 c175:=by kernel_rfl
 c210:=by kernel_rfl
 c212:=by kernel_rfl
 c213:=by kernel_rfl
 c232:=by kernel_rfl
 c233:=by kernel_rfl
theorem t7 (t:ByteArray) (h0:0<t.size) {m:Bool}{u:ByteArray}(hm:(bAt t 0==45)=m) (hu:(if m then t.extract 1 t.size else t)=u):(⟨(Lib.trimPrefix t.data.toList [45]).toArray⟩:ByteArray)=u:=by
 have hz:=LF t 0
 rw[hz]at hm
 have hlen:=JY t
 cases hl:t.data.toList with
 |nil=>rw[hl]at hlen;simp at hlen;omega
 |cons b r =>
  rw[hl]at hm
  simp only[List.getElem?_cons_zero]at hm
  unfold Lib.trimPrefix
  have hp:Lib.hasPrefix (b::r) [45]=m:=by
   rw[←hm,Bool.eq_iff_iff]
   simp[Lib.hasPrefix]
   constructor
   ·intro h;rw[←h];rfl
   ·intro h;exact UInt8.toNat_inj.1 h.symm
  rw[hp]
  apply ByteArray.ext
  apply Array.toList_inj.1
  cases m with
  |true =>
   simp only[if_true]at hu ⊢
   rw[←hu]
   show List.drop 1 (b::r)=(t.extract 1 t.size).data.toList
   rw[L1,hl,List.take_of_length_le (by rw[←hl,hlen];exact Nat.le_refl _)]
  |false =>
   simp only[Bool.false_eq_true,if_false]at hu ⊢
   rw[←hu,hl]
theorem a4p (t:ByteArray) (h0:0<t.size) {m:Bool}{u:ByteArray}(hm:(bAt t 0==45)=m) (hu:(if m then t.extract 1 t.size else t)=u):AC Tryz.prog 86 [.c (.str t),.c (.str ⟨#[45]⟩)] [] (.c (.str u)) []:=by
 refine AC.of_calls fun S w κ vs hv=>?_
 obtain⟨v,vs',rfl,⟨rfl,_⟩,v2,vs2,rfl,⟨rfl,_⟩,rfl⟩:=hv
 refine (Any.strings_TrimPrefix Qx t ⟨#[45]⟩ w).mono ?_
 rintro e w' ⟨rfl,rfl⟩
 refine⟨Below.refl _ _,_,rfl,fun T _ _=>⟨?_,rfl⟩⟩
 rw[←t7 t h0 hm hu]
def Xk (n:Nat):Int:=Lib.indexByte [46,101,69] (UInt8.ofNat n)
theorem a3h {n:Nat}(hn:n<256):decide (Xk n≥0)=JA n:=by
 have:∀k:Fin 256,decide (Xk k.val≥0)=JA k.val:=by decide +kernel
 exact this ⟨n,hn⟩
theorem UZ (n:Nat) (hn:n<256):AC Tryz.prog 232 [.c (.str ⟨#[46,101,69]⟩),.c (.int .u8 n)] [] (.c (.int .i64 (Xk n))) []:=by
 refine AC.of_calls fun S w κ vs hv=>?_
 obtain⟨v,vs',rfl,⟨rfl,_⟩,v2,vs2,rfl,⟨rfl,_⟩,rfl⟩:=hv
 refine (Any.stringslite_IndexByte Xx ⟨#[46,101,69]⟩ (n:Int) w).mono ?_
 rintro e w' ⟨rfl,rfl⟩
 exact⟨Below.refl _ _,_,rfl,fun T _ _=>⟨rfl,rfl⟩⟩
theorem US (n:Nat) (hn:n<256):AC Tryz.prog 217 [.c (.str ⟨#[46,101,69]⟩),.c (.int .u8 n)] [] (.c (.int .i64 (Xk n))) []:=by
 have h:=UZ n hn
 refine JI Tryz.func217 Tryz.ntmps217 ?_
 refine JV q9 ?_
 refine w7 (Ju [] h) q9 ?_
 refine JV q9 ?_
 exact JW (Iu []) Tryz.results217
def W7 (o:Obj):Prop:=∀(w:World) (b:Nat),w.heap[b]? = some o→∃ev,w.cell? ⟨b,0,none⟩=some ev∧(ev=.nilIface∨∃te pe,ev=.iface te pe)
def KV (o1 o2:Obj):Value→List (Nat×Obj)→Prop:=fun _ l=>l=[(6,o1),(7,o2)]∧W7 o1∧W7 o2
abbrev MD (o1 o2:Obj):Mem:=[((8,1),.gen (KV o1 o2))]
theorem VT {o1 o2:Obj}{i:Id}{o:AO}(h:Mem.get (MD o1 o2) i=some o):i=(8,1)∧o=.gen (KV o1 o2):=by
 simp only[Mem.get,List.lookup_cons,List.lookup_nil]at h
 by_cases hq:i=(8,1)
 ·subst hq
  simpa [eq_comm] using h
 ·have:(i==((8,1):Id))=false:=by simpa using hq
  rw[this]at h
  cases h
theorem AC.of_errsG {o1 o2:Obj}{f:FuncId}{args:List AV}{res:AV}(mk:Value→Value) (hres:∀(w:World) (S:Nat→Prop) (m:Mem) (κ:Id→Value),m.get (1,0)=some (.gen Qd)→(κ (1,0)).oneCell'=true→AR w S m κ res (mk (κ (1,0))))
  (h:∀(S:Nat→Prop) (w:World) (m:Mem) (κ:Id→Value) (Bh:List Value),(∃ev,w.cell? ⟨6,0,none⟩=some ev∧(ev=.nilIface∨∃te pe,ev=.iface te pe))→(∃ev,w.cell? ⟨7,0,none⟩=some ev∧(ev=.nilIface∨∃te pe,ev=.iface te pe))→ARs w S m κ args Bh →
   Calls Tryz.prog f Bh.toArray w fun e w'=>Below w.heap.size w w'∧∃t x,e=.returned (mk (.iface t x))) :
  AC Tryz.prog f args (MD o1 o2) res [((8,1),.gen (KV o1 o2)),((1,0),.gen Qd)]:=by
 intro Γ Bh hE hA
 obtain⟨l,h1,h2,h3,h4⟩:=hE.objs (8,1) _ rfl
 subst h2
 have hb1:=h1 _ (List.mem_cons_self ..)
 have hb2:=h1 (7,o2) (by simp)
 refine (h _ _ _ _ _ (h3 _ _ hb1.2) (h4 _ _ hb2.2) hA).mono ?_
 rintro e w' ⟨hb,t,x,rfl⟩
 have hlt:∀b i,Γ.ow b=some i→b < Γ.w.heap.size:=fun b i hbi=>(hE.own b i hbi).1
 have hget:∀i o,Mem.get [((8,1),AO.gen (KV o1 o2)),((1,0),.gen Qd)] i=some o→(i=(8,1)∧o=.gen (KV o1 o2))∨(i=(1,0)∧o=.gen Qd):=by
  intro i o hi
  simp only[Mem.get,List.lookup_cons,List.lookup_nil]at hi
  by_cases hq:i=(8,1)
  ·subst hq
   exact .inl ⟨rfl,by simpa [eq_comm] using hi⟩
  ·have e1:(i==((8,1):Id))=false:=by simpa using hq
   rw[e1]at hi
   by_cases hq2:i=(1,0)
   ·subst hq2
    exact .inr ⟨rfl,by simpa [eq_comm] using hi⟩
   ·have e2:(i==((1,0):Id))=false:=by simpa using hq2
    rw[e2]at hi
    cases hi
 let κ':Id→Value:=fun i=>if i=(1,0) then .iface t x else Γ.κ i
 refine⟨_,Γ.ow,κ',rfl,⟨?_,?_,?_,hb.os,hb.tape,hb.output,hb.size,fun b hl ho=>⟨hb.block b hl,ho⟩,fun i o1' o2' g1 g2=>?_⟩⟩
 ·have h9:=hres w' (Γ.sees Γ.ow) [((8,1),.gen (KV o1 o2)),((1,0),.gen Qd)] κ' rfl
  have h8:κ' (1,0)=.iface t x:=by simp[κ']
  rw[h8]at h9
  have h9:=h9 rfl
  exact h9
 ·intro i o hi
  rcases hget i o hi with⟨rfl,rfl⟩ | ⟨rfl,rfl⟩
  ·exact⟨_,fun p hp=>⟨(h1 p hp).1,(hb.block p.1 (hlt _ _ (h1 p hp).1)).trans (h1 p hp).2⟩,rfl,h3,h4⟩
  ·refine⟨[],fun p hp=>by simp at hp,rfl,?_,t,x,?_⟩
   ·show (κ' (1,0)).oneCell'=true
    simp only[κ',if_true]
    rfl
   ·show κ' (1,0)=_
    simp[κ']
 ·intro b i hbi
  obtain⟨k1,o1',k2,k3⟩:=hE.own b i hbi
  obtain⟨rfl,rfl⟩:=VT k2
  exact⟨Nat.lt_of_lt_of_le k1 hb.size,_,rfl,k3⟩
 ·obtain⟨rfl,_⟩:=VT g1
  show (if ((8,1):Id)=(1,0) then _ else _)=_
  rw[if_neg (by decide)]
theorem AC.of_errs {o1 o2:Obj}{f:FuncId}{args:List AV}{n:Int}
  (h:∀(S:Nat→Prop) (w:World) (m:Mem) (κ:Id→Value) (Bh:List Value),(∃ev,w.cell? ⟨6,0,none⟩=some ev∧(ev=.nilIface∨∃te pe,ev=.iface te pe))→(∃ev,w.cell? ⟨7,0,none⟩=some ev∧(ev=.nilIface∨∃te pe,ev=.iface te pe))→ARs w S m κ args Bh →
   Calls Tryz.prog f Bh.toArray w fun e w'=>Below w.heap.size w w'∧∃t x,e=.returned (.tuple #[.int .i64 n,.iface t x])) :
  AC Tryz.prog f args (MD o1 o2) (.tup [.c (.int .i64 n),.own (1,0)]) [((8,1),.gen (KV o1 o2)),((1,0),.gen Qd)] :=
 AC.of_errsG (fun v=>.tuple #[.int .i64 n,v]) (fun w S m κ hm hk=>⟨[.int .i64 n,κ (1,0)],rfl,_,_,rfl,⟨rfl,rfl⟩,_,_,rfl,⟨hk,_,hm,fun _=>rfl⟩,rfl⟩) h
theorem AC.of_errs1 {o1 o2:Obj}{f:FuncId}{args:List AV}
  (h:∀(S:Nat→Prop) (w:World) (m:Mem) (κ:Id→Value) (Bh:List Value),(∃ev,w.cell? ⟨6,0,none⟩=some ev∧(ev=.nilIface∨∃te pe,ev=.iface te pe))→(∃ev,w.cell? ⟨7,0,none⟩=some ev∧(ev=.nilIface∨∃te pe,ev=.iface te pe))→ARs w S m κ args Bh →
   Calls Tryz.prog f Bh.toArray w fun e w'=>Below w.heap.size w w'∧∃t x,e=.returned (.iface t x)) :
  AC Tryz.prog f args (MD o1 o2) (.own (1,0)) [((8,1),.gen (KV o1 o2)),((1,0),.gen Qd)] :=
 AC.of_errsG id (fun w S m κ hm hk=>⟨hk,_,hm,fun _=>rfl⟩) h
def PE (a:Nat) (l:List UInt8):Nat:=l.foldl (fun a c=>a*10+(c.toNat-48)) a
theorem Yy:∀(l:List UInt8) (a:Nat),a≤PE a l
 | [],a=>Nat.le_refl a
 |c::r,a=>by
  have:=Yy r (a*10+(c.toNat-48))
  show a≤PE (a*10+(c.toNat-48)) r
  omega
theorem Zt (a:Nat) (l:List UInt8) (c:UInt8):PE a (l++[c])=PE a l*10+(c.toNat-48):=by unfold PE;rw[List.foldl_append];rfl
theorem Tu (u:ByteArray):∀k,k≤u.size→L7 u 0 k=PE 0 (u.data.toList.take k)
 | 0,_=>by simp[L7,PE]
 |k+1,h=>by
  have hl:k<u.data.toList.length:=by rw[JY];omega
  rw[List.take_succ_eq_append_getElem hl,Zt,←Tu u k (by omega)]
  simp only[L7,Nat.zero_add]
  rw[LF,List.getElem?_eq_getElem hl]
theorem P3 (M:Nat):∀(l:List UInt8) (a:Nat),(∀c∈l,G0 c.toNat=true)→(Lib.parseUintM M a l=.ok (PE a l))∨(Lib.parseUintM M a l=.range∧(M<PE a l∨1844674407370955162≤PE a l))
 | [],a,_=>.inl rfl
 |c::r,a,h=>by
  have hc:=Ix (h c (by simp))
  have ih:=P3 M r (a*10+(c.toNat-48)) (fun x hx=>h x (by simp[hx]))
  have hle:=Yy r (a*10+(c.toNat-48))
  unfold Lib.parseUintM
  rw[if_pos hc]
  show (_=Lib.NumEnd.ok (PE (a*10+(c.toNat-48)) r))∨(_∧(M<PE (a*10+(c.toNat-48)) r∨1844674407370955162≤PE (a*10+(c.toNat-48)) r))
  by_cases h1:1844674407370955162≤a
  ·rw[if_pos h1];exact .inr ⟨rfl,.inr (by omega)⟩
  ·rw[if_neg h1]
   by_cases h2:M<a*10+(c.toNat-48)
   ·rw[if_pos h2];exact .inr ⟨rfl,.inl (by omega)⟩
   ·rw[if_neg h2];exact ih
theorem WJ (t:ByteArray) (h0:0<t.size) {m:Bool}{u:ByteArray}(hm:(bAt t 0==45)=m) (hu:(if m then t.extract 1 t.size else t)=u) (hu0:0<u.size) (hd:∀j,j<u.size→G0 (bAt u j)=true) :
  (Lib.parseIntB 64 t.data.toList=.ok (if m then -((L7 u 0 u.size:Nat):Int) else ((L7 u 0 u.size:Nat):Int)))∨(Lib.parseIntB 64 t.data.toList=.range∧1000000000000000<L7 u 0 u.size):=by
 have hdl:∀c∈u.data.toList,G0 c.toNat=true:=fun c hc=>by
  obtain⟨j,hj,rfl⟩:=List.getElem_of_mem hc
  have:=hd j (by rw[←JY];exact hj)
  rw[LF,List.getElem?_eq_getElem hj]at this
  exact this
 have hN:L7 u 0 u.size=PE 0 u.data.toList:=by rw[Tu u _ (Nat.le_refl _),List.take_of_length_le (by rw[JY];exact Nat.le_refl _)]
 have hune:u.data.toList≠[]:=fun h=>by have:=JY u;rw[h]at this;simp at this;omega
 have hB:(Lib.parseUintB 64 u.data.toList=.ok (L7 u 0 u.size))∨(Lib.parseUintB 64 u.data.toList=.range∧1000000000000000<L7 u 0 u.size):=by
  unfold Lib.parseUintB
  rw[if_neg hune,hN]
  rcases P3 (2 ^ 64-1) u.data.toList 0 hdl with h | ⟨h1,h2⟩
  ·exact .inl h
  ·exact .inr ⟨h1,by omega⟩
 have hlen:=JY t
 have hz:=LF t 0
 rw[hz]at hm
 cases hl:t.data.toList with
 |nil=>rw[hl]at hlen;simp at hlen;omega
 |cons b r =>
  rw[hl]at hm
  simp only[List.getElem?_cons_zero]at hm
  cases m with
  |true =>
   simp only[if_true]at hu ⊢
   have hb:b=45:=UInt8.toNat_inj.1 (by simpa using hm)
   have hr:u.data.toList=r:=by
    rw[←hu,L1,hl,List.take_of_length_le (by rw[←hl,hlen];exact Nat.le_refl _)]
    rfl
   subst hb
   rw[Lib.parseIntB_minus,←hr]
   rcases hB with h | ⟨h1,h2⟩
   ·rw[h]
    unfold Lib.signedC
    simp only
    by_cases hc:2 ^ (64-1)<L7 u 0 u.size
    ·rw[if_pos hc];exact .inr ⟨rfl,by omega⟩
    ·rw[if_neg hc];exact .inl rfl
   ·rw[h1]
    exact .inr ⟨rfl,h2⟩
  |false =>
   simp only[Bool.false_eq_true,if_false]at hu ⊢
   have hb45:b.toNat≠45:=by simpa using hm
   subst hu
   have hbd:=Ix (hdl b (by rw[hl];simp))
   rw[Lib.parseIntB_plain 64 b r (by omega) hb45,←hl]
   rcases hB with h | ⟨h1,h2⟩
   ·rw[h]
    unfold Lib.signlessC
    simp only
    by_cases hc:2 ^ (64-1)≤L7 t 0 t.size
    ·rw[if_pos hc];exact .inr ⟨rfl,by omega⟩
    ·rw[if_neg hc];exact .inl rfl
   ·rw[h1]
    exact .inr ⟨rfl,h2⟩
theorem WK (t:ByteArray) (hs:t.size≤1000000) (v:Int) (h:Lib.parseIntB 64 t.data.toList=.ok v):AC Tryz.prog 256 [.c (.str t),.c (.int .i64 10),.c (.int .i64 64)] [] (.tup [.c (.int .i64 v),.c (.raw .nilIface)]) []:=by
 refine AC.of_calls fun S w κ vs hv=>?_
 obtain⟨v1,vs',rfl,⟨rfl,_⟩,v2,vs2,rfl,⟨rfl,_⟩,v3,vs3,rfl,⟨rfl,_⟩,rfl⟩:=hv
 refine (Any.strconv_ParseInt_10_at64_ok NQ t (by omega) v h w).mono ?_
 rintro e w' ⟨rfl,hw⟩
 refine⟨?_,_,rfl,fun T _ _=>⟨[.int .i64 v,.nilIface],rfl,_,_,rfl,⟨rfl,rfl⟩,_,_,rfl,⟨rfl,rfl,rfl⟩,rfl⟩⟩
 rcases hw with rfl | ⟨t2,rfl⟩
 ·exact Below.refl _ _
 ·exact⟨rfl,rfl,rfl,by rw[Lib.bytesWorld_size];omega,fun j hj=>Lib.bytesWorld_at_old w _ t2 j hj⟩
theorem SA {o1 o2:Obj}(t:ByteArray) (hs:t.size≤1000000) (h:Lib.parseIntB 64 t.data.toList=.range):AC Tryz.prog 256 [.c (.str t),.c (.int .i64 10),.c (.int .i64 64)] (MD o1 o2) (.tup [.c (.int .i64 (Lib.intSat 64 t.data.toList)),.own (1,0)]) [((8,1),.gen (KV o1 o2)),((1,0),.gen Qd)]:=by
 refine AC.of_errs fun S w m κ vs h1 h2 hv=>?_
 obtain⟨v1,vs',rfl,⟨rfl,_⟩,v2,vs2,rfl,⟨rfl,_⟩,v3,vs3,rfl,⟨rfl,_⟩,rfl⟩:=hv
 obtain⟨ev,hev,hev2⟩:=h2
 refine (Any.strconv_ParseInt_10_at64_range NQ t (by omega) h ev w hev hev2).mono ?_
 rintro e w' ⟨N,rfl,_,_,hb⟩
 exact⟨hb,_,_,rfl⟩
end
end Go.Proofs.YtllfmaflodbieaaGreatDoor
