/- The program's reader: blanks, digits, one byte after the other. -/
import Derived.Test.YtlciedpfjhkkdaaGreatDoorKM53
import Derived.Test.YtlciedpfjhkkdaaGreatDoorKE40
set_option linter.all false
set_option maxHeartbeats 8000000
namespace Go.Proofs.YtlciedpfjhkkdaaGreatDoor
open Go.RowKit
set_option maxRecDepth 10000
def Tc (s:ByteArray) (d:DS):AO:=.box [.c (.str s),.c (.int .i64 d.pl),.c (.int .i64 d.code),.c (.int .i64 d.bad)]
abbrev dsM (s:ByteArray) (d:DS):Mem:=[((0,0),Tc s d)]
theorem Aq (s:ByteArray) (d:DS):dsM s d=[((0,0),.box [.c (.str s),.c (.int .i64 d.pl),.c (.int .i64 d.code),.c (.int .i64 d.bad)])]:=rfl
theorem Ni (n:Nat):AC Tryz.prog 186 [.c (.int .u8 n)] [] (.c (.bool (Ce n))) []:=by
 rw[I9]
 generalize (n:Int)=z
 cases h1:z==32
 ·cases h2:z==9
  ·cases h3:z==10
   ·cases h4:z==13
    all_goals
     refine A7 Tryz.func186 Tryz.ntmps186 ?_
     refine A0 (j4 h1 h2 h3 h4) ?_
     exact Al (A6 []) Tryz.results186
   ·refine A7 Tryz.func186 Tryz.ntmps186 ?_
    refine A0 (j3 h1 h2 h3) ?_
    exact Al (A6 []) Tryz.results186
  ·refine A7 Tryz.func186 Tryz.ntmps186 ?_
   refine A0 (j2 h1 h2) ?_
   exact Al (A6 []) Tryz.results186
 ·refine A7 Tryz.func186 Tryz.ntmps186 ?_
  refine A0 h1 ?_
  exact Al (A6 []) Tryz.results186
theorem Jc (s:ByteArray) (hs:s.size≤1000000) (i:Nat) (hi:i≤s.size):AC Tryz.prog 147 [.c (.str s),.c (.int .i64 i)] [] (.c (.int .i64 (Aa s i))) []:=by
 refine A7 Tryz.func147 Tryz.ntmps147 ?_
 refine A0 trivial ?_
 refine AH (κ:=Nat) (fun j=>⟨mkS 0 18 [(0,.c (.str s)),(1,.c (.int .i64 j))],[]⟩) (fun j=>j≤s.size∧Aa s j=Aa s i) (fun j=>s.size-j) i ⟨hi,rfl⟩ ?_ ?_
 ·exact Ao (Ay.of [] []) hi
 ·rintro j ⟨hj,hsk⟩
  by_cases hlt:j<s.size
  ·have hdk:decide ((j:Int)<(s.size:Int))=true:=by simpa using hlt
   have hw:=Ae (k:=j) (by omega)
   obtain⟨b,hg,hb⟩:=Ar hlt
   have hbl:=Ni b.toNat
   rw[←hb]at hbl
   have hbn:((b.toNat:Nat):Int)=((bAt s j:Nat):Int):=by rw[hb]
   cases hbk:Ce (bAt s j) with
   |true =>
    rw[hbk]at hbl
    refine A0 (j3 hdk hg hbn) ?_
    refine w7 (A4 [] hbl) trivial ?_
    refine A0 hw ?_
    refine⟨j+1,by omega,⟨by omega,by rw[←Fo hbk,hsk]⟩,?_⟩
    exact Ao (Ay.of [] []) hw
   |false =>
    rw[hbk]at hbl
    have he:=CI hbk
    rw[he]at hsk
    subst hsk
    refine A0 (j3 hdk hg hbn) ?_
    refine w7 (A4 [] hbl) trivial ?_
    refine A0 trivial ?_
    exact Al (A6 []) Tryz.results147
  ·have hdk:decide ((j:Int)<(s.size:Int))=false:=by simpa using hlt
   have he:=CI (s:=s) (i:=j) (by rw[Bn (by omega)];rfl)
   rw[he]at hsk
   subst hsk
   refine A0 hdk ?_
   exact Al (A6 []) Tryz.results147
theorem FH (n:Nat):AC Tryz.prog 136 [.c (.int .u8 n)] [] (.c (.bool (AJ n))) []:=by
 rw[Li]
 generalize (n:Int)=z
 cases h1:decide (z≥48)
 ·refine A7 Tryz.func136 Tryz.ntmps136 ?_
  refine A0 h1 ?_
  exact Al (A6 []) Tryz.results136
 ·cases h2:decide (z≤57)
  all_goals
   refine A7 Tryz.func136 Tryz.ntmps136 ?_
   refine A0 (j2 h1 h2) ?_
   exact Al (A6 []) Tryz.results136
theorem L8 (s:ByteArray) (hs:s.size≤1000000) (i:Nat) (hi:i≤s.size):AC Tryz.prog 180 [.c (.str s),.c (.int .i64 i)] [] (.c (.int .i64 ((CA s i-i:Nat):Int))) []:=by
 obtain⟨e1,e2,e3,e4⟩:=Ht hi
 refine A7 Tryz.func180 Tryz.ntmps180 ?_
 refine A0 trivial ?_
 refine AH (κ:=Nat) (fun j=>⟨mkS 0 23 [(0,.c (.str s)),(1,.c (.int .i64 i)),(5,.c (.int .i64 j))],[]⟩) (fun j=>i+j≤CA s i) (fun j=>s.size-(i+j)) 0 e1 ?_ ?_
 ·exact Ao (Ay.of [] []) trivial
 ·intro j hj
  have hwp:=CL (a:=i) (b:=j) (by omega)
  have hw:=Ae (k:=j) (by omega)
  by_cases hlt:i+j<s.size
  ·have hdk:decide (((i+j:Nat):Int)<(s.size:Int))=true:=decide_eq_true (by omega)
   obtain⟨b,hg,hb⟩:=Ar hlt
   have hbl:=FH b.toNat
   rw[←hb]at hbl
   have hbn:((b.toNat:Nat):Int)=((bAt s (i+j):Nat):Int):=by rw[hb]
   by_cases hend:i+j=CA s i
   ·have hbk:AJ (bAt s (i+j))=false:=by rw[hend];exact e3
    have hres:CA s i-i=j:=by omega
    rw[hbk]at hbl
    rw[hres]
    refine A0 (j4 hwp hdk hg hbn) ?_
    refine w7 (A4 [] hbl) trivial ?_
    refine A0 trivial ?_
    exact Al (A6 []) Tryz.results180
   ·have hbk:AJ (bAt s (i+j))=true:=e4 _ (by omega) (by omega)
    rw[hbk]at hbl
    refine A0 (j4 hwp hdk hg hbn) ?_
    refine w7 (A4 [] hbl) trivial ?_
    refine A0 hw ?_
    refine⟨j+1,by omega,by omega,?_⟩
    exact Ao (Ay.of [] []) hw
  ·have hdk:decide (((i+j:Nat):Int)<(s.size:Int))=false:=decide_eq_false (by omega)
   have hres:CA s i-i=j:=by omega
   rw[hres]
   refine A0 (j2 hwp hdk) ?_
   exact Al (A6 []) Tryz.results180
theorem RD {n:Nat}(hn:n<256):decide (0≤AL n)=((AJ n||(decide ((n:Int)≥97)&&decide ((n:Int)≤102)))||(decide ((n:Int)≥65)&&decide ((n:Int)≤70))):=by
 rw[Bool.eq_iff_iff]
 unfold AL AJ
 simp only[Bool.and_eq_true,decide_eq_true_eq,Bool.or_eq_true]
 by_cases h1:48≤n<;>by_cases h2:n≤57<;>by_cases h3:97≤n<;>by_cases h4:n≤102<;>by_cases h5:65≤n<;>by_cases h6:n≤70<;>simp[h1,h2,h3,h4,h5,h6]<;>omega
theorem Q7 (n:Nat) (hn:n<256):AC Tryz.prog 236 [.c (.int .u8 n)] [] (.c (.bool (decide (0≤AL n)))) []:=by
 rw[RD hn]
 have hd:=FH n
 cases h0:AJ n with
 |true =>
  rw[h0]at hd
  refine A7 Tryz.func236 Tryz.ntmps236 ?_
  refine A0 trivial ?_
  refine w7 (A4 [] hd) trivial ?_
  refine A0 trivial ?_
  exact Al (A6 []) Tryz.results236
 |false =>
  rw[h0]at hd
  generalize (n:Int)=z at *
  cases h1:decide (z≥97)<;>cases h2:decide (z≤102)<;>cases h3:decide (z≥65)<;>cases h4:decide (z≤70)
  all_goals
   refine A7 Tryz.func236 Tryz.ntmps236 ?_
   refine A0 trivial ?_
   refine w7 (A4 [] hd) trivial ?_
   refine A0 (j4 h1 h2 h3 h4) ?_
   exact Al (A6 []) Tryz.results236
theorem Bk (s:ByteArray) (d:DS) (c:Int) (p:Nat):AC Tryz.prog 81 [.ptr (0,0) 0,.c (.int .i64 c),.c (.int .i64 p)] (dsM s d) (.tup []) (dsM s (d.fail c p)):=by
 unfold DS.fail
 obtain⟨pl,code,bad⟩:=d
 by_cases h:code=0
 ·subst h
  simp only[if_true,Aq]
  have h00:((0:Int)==0)=true:=rfl
  refine A7 Tryz.func81 Tryz.ntmps81 ?_
  refine A0 h00 ?_
  exact Ad (Ac [((0,0),(0,0))] []) Tryz.results81 trivial
 ·have hc:(code==0)=false:=by simpa using h
  simp only[if_neg h,Aq]
  refine A7 Tryz.func81 Tryz.ntmps81 ?_
  refine A0 hc ?_
  exact Ad (Ac [((0,0),(0,0))] []) Tryz.results81 hc
theorem Td (s:ByteArray) (d:DS) (hd:d.pl≤s.size) (b:Nat) (hb:b<256):AC Tryz.prog 184 [.ptr (0,0) 0,.c (.int .u8 b)] (dsM s d) (.c (.bool (d.is s b))) (dsM s d):=by
 unfold DS.is
 obtain⟨pl,code,bad⟩:=d
 simp only at hd ⊢
 simp only[Aq]
 by_cases h:code=0
 ·subst h
  simp only[decide_true,Bool.true_and]
  have h00:((0:Int)==0)=true:=rfl
  by_cases hlt:pl<s.size
  ·have hdk:decide ((pl:Int)<(s.size:Int))=true:=by simpa using hlt
   obtain⟨b1,hg,hb1⟩:=Ar hlt
   have hq:(((b1.toNat:Nat):Int)==((b:Nat):Int))=(bAt s pl==b):=by rw[hb1];exact M5 _ _
   refine A7 Tryz.func184 Tryz.ntmps184 ?_
   refine A0 (j4 h00 hdk hg hq) ?_
   exact Ad (Ac [((0,0),(0,0))] []) Tryz.results184 hdk
  ·have hdk:decide ((pl:Int)<(s.size:Int))=false:=by simpa using hlt
   have hq:(bAt s pl==b)=false:=by rw[Bn (by omega)];simp;omega
   rw[hq]
   refine A7 Tryz.func184 Tryz.ntmps184 ?_
   refine A0 (j2 h00 hdk) ?_
   exact Ad (Ac [((0,0),(0,0))] []) Tryz.results184 hdk
 ·have hc:(code==0)=false:=by simpa using h
  simp only[h,decide_false,Bool.false_and]
  refine A7 Tryz.func184 Tryz.ntmps184 ?_
  refine A0 hc ?_
  exact Ad (Ac [((0,0),(0,0))] []) Tryz.results184 hc
theorem Ju {s:ByteArray}{d:DS}{b:Nat}(hb:b<256) (h:d.is s b=true):d.pl<s.size∧d.code=0∧bAt s d.pl=b:=by
 unfold DS.is at h
 simp only[Bool.and_eq_true,decide_eq_true_eq,beq_iff_eq]at h
 exact⟨C5 (by omega),h.1,h.2⟩
theorem Cm (s:ByteArray) (hs:s.size≤1000000) (d:DS) (hd:d.pl≤s.size) (b:Nat) (hb:b<256):AC Tryz.prog 140 [.ptr (0,0) 0,.c (.int .u8 b)] (dsM s d) (.c (.bool (d.is s b))) (dsM s (d.take s b)):=by
 have hi:=Td s d hd b hb
 unfold DS.take
 cases h:d.is s b with
 |true =>
  rw[h]at hi
  obtain⟨h1,_,_⟩:=Ju hb h
  simp only[if_true]
  unfold DS.go
  simp only[Aq]at hi ⊢
  generalize d.pl=pl at *
  have hw:=Ae (k:=pl) (by omega)
  refine A7 Tryz.func140 Tryz.ntmps140 ?_
  refine A0 trivial ?_
  refine Af (A3 [((0,0),(0,0))] [((0,0),(0,0))] hi) trivial ?_
  refine A0 hw ?_
  exact Ad (Ac [((0,0),(0,0))] []) Tryz.results140 hw
 |false =>
  rw[h]at hi
  simp only[Bool.false_eq_true,if_false]
  simp only[Aq]at hi ⊢
  refine A7 Tryz.func140 Tryz.ntmps140 ?_
  refine A0 trivial ?_
  refine Af (A3 [((0,0),(0,0))] [((0,0),(0,0))] hi) trivial ?_
  refine A0 trivial ?_
  exact Ad (Ac [((0,0),(0,0))] []) Tryz.results140 h
theorem Gp (s:ByteArray) (hs:s.size≤1000000) (d:DS) (hd:d.pl≤s.size) (b:Nat) (hb:b<256):AC Tryz.prog 145 [.ptr (0,0) 0,.c (.int .u8 b)] (dsM s d) (.tup []) (dsM s (d.want s b)):=by
 have ht:=Cm s hs d hd b hb
 have hf:=Bk s d 5 d.pl
 unfold DS.take at ht
 unfold DS.want
 cases h:d.is s b with
 |true =>
  rw[h]at ht
  simp only[if_true]at ht ⊢
  generalize d.go (d.pl+1)=d2 at *
  simp only[Aq]at ht ⊢
  refine A7 Tryz.func145 Tryz.ntmps145 ?_
  refine A0 trivial ?_
  refine Af (A3 [((0,0),(0,0))] [((0,0),(0,0))] ht) trivial ?_
  refine A0 trivial ?_
  exact Ad (Ac [((0,0),(0,0))] []) Tryz.results145 h
 |false =>
  rw[h]at ht
  simp only[Bool.false_eq_true,if_false]at ht ⊢
  generalize d.fail 5 d.pl=d2 at *
  simp only[Aq]at ht hf ⊢
  refine A7 Tryz.func145 Tryz.ntmps145 ?_
  refine A0 trivial ?_
  refine Af (A3 [((0,0),(0,0))] [((0,0),(0,0))] ht) trivial ?_
  refine A0 trivial ?_
  refine Af (A3 [((0,0),(0,0))] [((0,0),(0,0))] hf) trivial ?_
  refine A0 trivial ?_
  exact Ad (Ac [((0,0),(0,0))] []) Tryz.results145 h
theorem Cc (s:ByteArray) (hs:s.size≤1000000) (d:DS) (hd:d.pl≤s.size):AC Tryz.prog 80 [.ptr (0,0) 0] (dsM s d) (.tup []) (dsM s (d.skip s)):=by
 have hk:=Jc s hs d.pl hd
 unfold DS.skip DS.go
 simp only[Aq]
 generalize Aa s d.pl=e at *
 generalize d.pl=pl at *
 refine A7 Tryz.func80 Tryz.ntmps80 ?_
 refine A0 trivial ?_
 refine w7 (A4 [] hk) trivial ?_
 refine A0 trivial ?_
 exact Ad (Ac [((0,0),(0,0))] []) Tryz.results80 hd
theorem BU (d:DS) (c:Int) (p:Nat):(d.fail c p).pl=d.pl:=by unfold DS.fail;split<;>rfl
theorem Dv {s:ByteArray}{d:DS}{b:Nat}(hb:b<256) (h:d.pl≤s.size):d.pl≤(d.want s b).pl∧(d.want s b).pl≤s.size∧(d.want s b).pl≤d.pl+1:=by
 unfold DS.want
 cases hi:d.is s b with
 |true =>
  obtain⟨h1,_,_⟩:=Ju hb hi
  simp only[if_true]
  unfold DS.go
  exact⟨Nat.le_succ _,h1,Nat.le_refl _⟩
 |false =>
  simp only[Bool.false_eq_true,if_false]
  rw[BU]
  exact⟨Nat.le_refl _,h,Nat.le_succ _⟩
theorem Bv {s:ByteArray}{d:DS}(h:d.pl≤s.size):d.pl≤(d.skip s).pl∧(d.skip s).pl≤s.size:=⟨(AA h).1,(AA h).2.1⟩
theorem FM {s:ByteArray}:∀{l:List Nat}{d:DS},(∀b∈l,b<256)→d.pl≤s.size→d.pl≤(d.word s l).pl∧(d.word s l).pl≤s.size
 | [],_,_,h=>⟨Nat.le_refl _,h⟩
 |b::r,d,hb,h=>by
  obtain⟨h1,h2,_⟩:=Dv (hb b (by simp)) h
  obtain⟨g1,g2⟩:=FM (l:=r) (fun x hx=>hb x (by simp[hx])) h2
  unfold DS.word
  exact⟨by omega,g2⟩
theorem JJ {s:ByteArray}:∀(l:List Nat) (d:DS) (b:Nat),d.word s (l++[b])=(d.word s l).want s b
 | [],_,_=>rfl
 |a::l,d,b=>by
  show (d.want s a).word s (l++[b])=((d.want s a).word s l).want s b
  exact JJ l _ b
theorem Hx (s:ByteArray) (hs:s.size≤1000000) (d:DS) (hd:d.pl≤s.size) (w:ByteArray) (hw:w.size≤100):AC Tryz.prog 134 [.ptr (0,0) 0,.c (.str w)] (dsM s d) (.tup []) (dsM s (d.word s (w.data.toList.map UInt8.toNat))):=by
 have hlen:(w.data.toList.map UInt8.toNat).length=w.size:=by simp
 obtain⟨l,hl⟩:∃l,w.data.toList.map UInt8.toNat=l:=⟨_,rfl⟩
 have hlb:∀b∈l,b<256:=fun b hb=>by
  rw[←hl]at hb
  obtain⟨x,_,rfl⟩:=List.mem_map.1 hb
  exact x.toNat_lt
 have hat:∀k (hk:k<w.size),∃b:UInt8,w[k]? = some b∧l[k]? = some b.toNat:=fun k hk=>by
  obtain⟨b,hb,hb2⟩:=Ar hk
  refine⟨b,hb,?_⟩
  have:=CU w k
  rw[←hl,List.getElem?_map]
  cases hq:w.data.toList[k]? with
  |none=>rw[List.getElem?_eq_none_iff,CZ]at hq;omega
  |some b' =>
   rw[hq,hb2]at this
   simp only at this
   rw[Option.map_some,this]
 rw[hl]at hlen ⊢
 have hz:d.word s (l.take 0)=d:=by rw[List.take_zero];rfl
 simp only[Aq]
 refine A7 Tryz.func134 Tryz.ntmps134 ?_
 refine A0 trivial ?_
 refine AH (κ:=Nat) (fun k=>⟨mkS 0 16 [(0,.ptr (0,0) 0),(1,.c (.str w)),(6,.c (.int .i64 w.size)),(7,.c (.int .i64 k))],dsM s (d.word s (l.take k))⟩) (fun k=>k≤w.size) (fun k=>w.size-k) 0 (Nat.zero_le _) ?_ ?_
 ·simp only[hz,Aq]
  exact Ao (Ay.of [((0,0),(0,0))] []) hd
 ·intro k hk
  by_cases hlt:k<w.size
  ·have hdk:decide ((k:Int)<(w.size:Int))=true:=by simpa using hlt
   have hwk:=Ae (k:=k) (by omega)
   obtain⟨b,hg,hlk⟩:=hat k hlt
   obtain⟨hkl,hke⟩:=List.getElem?_eq_some_iff.1 hlk
   have hnext:d.word s (l.take (k+1))=(d.word s (l.take k)).want s b.toNat:=by rw[List.take_succ_eq_append_getElem hkl,hke,JJ]
   have hp:=(FM (s:=s) (l:=l.take k) (d:=d) (fun x hx=>hlb x (List.mem_of_mem_take hx)) hd).2
   have hwa:=Gp s hs (d.word s (l.take k)) hp b.toNat b.toNat_lt
   rw[←hnext]at hwa
   obtain⟨d2,hd2⟩:∃d2,d.word s (l.take (k+1))=d2:=⟨_,rfl⟩
   rw[hd2]at hwa
   simp only[Aq]at hwa ⊢
   refine A0 (j2 hdk hg) ?_
   refine Af (A3 [((0,0),(0,0))] [((0,0),(0,0))] hwa) trivial ?_
   refine A0 hwk ?_
   refine⟨k+1,by omega,by omega,?_⟩
   exact Ao (Ay.of [((0,0),(0,0))] []) (j2 hwk hd2)
  ·have hdk:decide ((k:Int)<(w.size:Int))=false:=by simpa using hlt
   have hke:l.take k=l:=List.take_of_length_le (by omega)
   simp only[hke,Aq]
   refine A0 hdk ?_
   exact Ad (Ac [((0,0),(0,0))] []) Tryz.results134 hdk
end Go.Proofs.YtlciedpfjhkkdaaGreatDoor
