/- Texts of this proof: D23 D28 M55 D29 D35. -/
import Derived.Test.YtllfmaflodbieaaGreatDoorKD20uD22
import Derived.Lib.SplitLaws
import Derived.Lib.IndexBytes
import Derived.Shelf.Strings.Split
set_option linter.all false
set_option maxHeartbeats 8000000
namespace Go.Proofs.YtllfmaflodbieaaGreatDoor
section
open Go.RowKit Go.Maps
set_option maxRecDepth 10000
variable {o1 o2:Obj}
theorem J2:Tryz.prog.underlying 203=some (.map 5 9):=Tryz.underlying203
def a0n:List (Lit×Value):=[(.int .u8 102,.string ⟨#[102,97,108,115,101]⟩),(.int .u8 116,.string ⟨#[116,114,117,101]⟩)]
theorem Qp (s:ByteArray) (hs:s.size≤10000):∀(k n:Nat),n+k=21→∀d:DS,d.pl≤s.size→AC Tryz.prog 117 [.ptr (0,0) 0,.c (.int .i64 n)] (dsE o1 o2 s d) (DS.value s k d).1.av (dsE o1 o2 s (DS.value s k d).2):=by
 intro k
 have hs':s.size≤1000000:=by omega
 induction k with
 |zero =>
  intro n hnk d hd
  have hsk:=Fz s hs' d hd
  have hp:=(CU (s:=s) hd).2
  have gn:decide ((n:Int)>20)=true:=decide_eq_true (by omega)
  unfold DS.value
  generalize d.skip s=d1 at *
  have hf5:=CT s d1 5 d1.pl
  have hf7:=CT s d1 7 d1.pl
  by_cases hz:s.size≤d1.pl
  ·have e1:((d1.pl:Int)==(s.size:Int))=true:=by simp;omega
   rw[if_pos hz]
   have hff:=CT s (d1.fail 5 d1.pl) 7 (d1.fail 5 d1.pl).pl
   rw[XH _ _ _ _ _ (by decide)]at hff
   have hne:=R6 d1 5 d1.pl (by decide)
   generalize d1.fail 5 d1.pl=d2 at *
   have hc:(d2.code != 0)=true:=by simpa using hne
   simp only[AM,BR]at hsk hf5 hff ⊢
   refine A5 Tryz.func117 Tryz.ntmps117 ?_
   refine A3 q9 ?_
   refine A7 (A0 [((0,0),(0,0))] [((0,0),(0,0))] hsk) q9 ?_
   refine A3 e1 ?_
   refine A7 (A0 [((0,0),(0,0))] [((0,0),(0,0))] hf5) q9 ?_
   refine A3 gn ?_
   refine A7 (A0 [((0,0),(0,0))] [((0,0),(0,0))] hff) q9 ?_
   refine A3 hc ?_
   exact Ab (Aa [((0,0),(0,0)),((8,1),(8,1))] []) Tryz.results117 hc
  ·have e1:((d1.pl:Int)==(s.size:Int))=false:=by simp;omega
   rw[if_neg hz]
   have hne:=R6 d1 7 d1.pl (by decide)
   generalize d1.fail 7 d1.pl=d2 at *
   have hc:(d2.code != 0)=true:=by simpa using hne
   simp only[AM,BR]at hsk hf7 ⊢
   refine A5 Tryz.func117 Tryz.ntmps117 ?_
   refine A3 q9 ?_
   refine A7 (A0 [((0,0),(0,0))] [((0,0),(0,0))] hsk) q9 ?_
   refine A3 (j2 e1 gn) ?_
   refine A7 (A0 [((0,0),(0,0))] [((0,0),(0,0))] hf7) q9 ?_
   refine A3 hc ?_
   exact Ab (Aa [((0,0),(0,0)),((8,1),(8,1))] []) Tryz.results117 hc
 |succ k ih =>
  intro n hnk d hd
  have hsk:=Fz s hs' d hd
  have hp:=(CU (s:=s) hd).2
  have gn:decide ((n:Int)>20)=false:=decide_eq_false (by omega)
  unfold DS.value
  simp only
  generalize d.skip s=d1 at *
  by_cases hz:s.size≤d1.pl
  ·have hf5:=CT s d1 5 d1.pl
   have e1:((d1.pl:Int)==(s.size:Int))=true:=by simp;omega
   rw[if_pos hz]
   have hne:=R6 d1 5 d1.pl (by decide)
   generalize d1.fail 5 d1.pl=d2 at *
   have hc:(d2.code != 0)=true:=by simpa using hne
   simp only[AM,BR]at hsk hf5 ⊢
   refine A5 Tryz.func117 Tryz.ntmps117 ?_
   refine A3 q9 ?_
   refine A7 (A0 [((0,0),(0,0))] [((0,0),(0,0))] hsk) q9 ?_
   refine A3 e1 ?_
   refine A7 (A0 [((0,0),(0,0))] [((0,0),(0,0))] hf5) q9 ?_
   refine A3 (j2 gn hc) ?_
   exact Ab (Aa [((0,0),(0,0)),((8,1),(8,1))] []) Tryz.results117 hc
  have e1:((d1.pl:Int)==(s.size:Int))=false:=by simp;omega
  rw[if_neg hz]
  by_cases hc0:d1.code=0
  case neg =>
   have hc:(d1.code != 0)=true:=by simpa using hc0
   rw[if_pos hc0]
   simp only[AM,BR]at hsk ⊢
   refine A5 Tryz.func117 Tryz.ntmps117 ?_
   refine A3 q9 ?_
   refine A7 (A0 [((0,0),(0,0))] [((0,0),(0,0))] hsk) q9 ?_
   refine A3 (j3 e1 gn hc) ?_
   exact Ab (Aa [((0,0),(0,0)),((8,1),(8,1))] []) Tryz.results117 hc
  rw[if_neg (by simpa using hc0)]
  have hc:(d1.code != 0)=false:=by simp[hc0]
  have hlt:d1.pl<s.size:=by omega
  obtain⟨b,hg,hb⟩:=Ea hlt
  have hbn:((b.toNat:Nat):Int)=((bAt s d1.pl:Nat):Int):=by rw[hb]
  have hdg:=JT b.toNat
  rw[←hb]at hdg
  have his:∀c:Nat,d1.is s c=(bAt s d1.pl==c):=fun c=>by unfold DS.is;simp[hc0]
  have htk91:=EG s hs' d1 hp 91 (by decide)
  have htk123:=EG s hs' d1 hp 123 (by decide)
  unfold DS.take at htk91 htk123
  rw[his]at htk91 htk123
  by_cases h110:bAt s d1.pl=110
  ·have e110:((((bAt s d1.pl:Nat):Int))==110)=true:=by simp[h110]
   have hwd:=N1 s hs' d1 hp ⟨#[110,117,108,108]⟩ (by decide)
   change AC _ _ _ _ _ (dsM s (d1.word s [110,117,108,108]))at hwd
   have hnl:=a1q
   rw[if_pos h110]
   clear htk91 htk123
   generalize d1.word s [110,117,108,108]=d2 at *
   simp only[AM,BR]at hsk hwd ⊢
   refine A5 Tryz.func117 Tryz.ntmps117 ?_
   refine A3 q9 ?_
   refine A7 (A0 [((0,0),(0,0))] [((0,0),(0,0))] hsk) q9 ?_
   refine A3 (j6 e1 gn hc hg hbn e110) ?_
   refine A7 (A0 [((0,0),(0,0))] [((0,0),(0,0))] hwd) q9 ?_
   refine A3 q9 ?_
   refine w9 (A6 [] hnl) q9 ?_
   refine A3 q9 ?_
   exact Ab (Aa [((0,0),(0,0)),((8,1),(8,1))] []) Tryz.results117 hc
  have e110:((((bAt s d1.pl:Nat):Int))==110)=false:=by simp;omega
  rw[if_neg h110]
  by_cases h102:bAt s d1.pl=102
  ·have e102:((((bAt s d1.pl:Nat):Int))==102)=true:=by simp[h102]
   have hwd:=N1 s hs' d1 hp ⟨#[102,97,108,115,101]⟩ (by decide)
   change AC _ _ _ _ _ (dsM s (d1.word s [102,97,108,115,101]))at hwd
   have htr:=Ub false
   have hbc:((b.toNat:Nat):Int)=102:=by rw[←hb,h102];rfl
   have hb116:(((102:Int))==116)=false:=rfl
   have hb102:(((102:Int))==102)=true:=rfl
   have hb110:(((102:Int))==110)=false:=rfl
   rw[if_pos h102]
   clear htk91 htk123
   generalize d1.word s [102,97,108,115,101]=d2 at *
   simp only[AM,BR]at hsk hwd ⊢
   refine A5 Tryz.func117 Tryz.ntmps117 ?_
   refine A3 q9 ?_
   refine A7 (A0 [((0,0),(0,0))] [((0,0),(0,0))] hsk) q9 ?_
   refine A3 (j8 e1 gn hc hg hbc hb110 hb102 hb116) ?_
   refine w4 (TD 5) q9 ?_
   refine w7 (Gs J2 (int_keyed Tryz.underlying5) (l:=[]) (kl:=.int .u8 102) (key:=.int .u8 102) (val:=.string ⟨#[102,97,108,115,101]⟩) (cx:=.int .u8 102) (cy:=.str ⟨#[102,97,108,115,101]⟩) trivial (by simp) rfl rfl (keyOf_int_mk Tryz.underlying5 (by decide))) q9 ?_
   refine w7 (Gs J2 (int_keyed Tryz.underlying5) (l:=[(.int .u8 102,.string ⟨#[102,97,108,115,101]⟩)]) (kl:=.int .u8 116) (key:=.int .u8 116) (val:=.string ⟨#[116,114,117,101]⟩) (cx:=.int .u8 116) (cy:=.str ⟨#[116,114,117,101]⟩) trivial (by simp) rfl rfl (keyOf_int_mk Tryz.underlying5 (by decide))) q9 ?_
   refine A3 hbc ?_
   refine w6 (TC (l:=a0n) J2 (int_keyed Tryz.underlying5) Tryz.zeroValue9 (kl:=.int .u8 102) (key:=.int .u8 102) (cx:=.int .u8 102) (c:=.str ⟨#[102,97,108,115,101]⟩) rfl (keyOf_int_mk Tryz.underlying5 (by decide)) rfl rfl) q9 ?_
   refine A3 q9 ?_
   refine A7 (A0 [((0,0),(0,0))] [((0,0),(0,0))] hwd) q9 ?_
   refine A3 (j2 hbc hb116) ?_
   refine w9 (A6 [] htr) q9 ?_
   refine A3 q9 ?_
   exact Ab (Aa [((0,0),(0,0)),((8,1),(8,1))] []) Tryz.results117 hc
  have e102:((((bAt s d1.pl:Nat):Int))==102)=false:=by simp;omega
  rw[if_neg h102]
  by_cases h116:bAt s d1.pl=116
  ·have e116:((((bAt s d1.pl:Nat):Int))==116)=true:=by simp[h116]
   have hwd:=N1 s hs' d1 hp ⟨#[116,114,117,101]⟩ (by decide)
   change AC _ _ _ _ _ (dsM s (d1.word s [116,114,117,101]))at hwd
   have htr:=Ub true
   have hbc:((b.toNat:Nat):Int)=116:=by rw[←hb,h116];rfl
   have hb116:(((116:Int))==116)=true:=rfl
   have hb102:(((116:Int))==102)=false:=rfl
   have hb110:(((116:Int))==110)=false:=rfl
   rw[if_pos h116]
   clear htk91 htk123
   generalize d1.word s [116,114,117,101]=d2 at *
   simp only[AM,BR]at hsk hwd ⊢
   refine A5 Tryz.func117 Tryz.ntmps117 ?_
   refine A3 q9 ?_
   refine A7 (A0 [((0,0),(0,0))] [((0,0),(0,0))] hsk) q9 ?_
   refine A3 (j8 e1 gn hc hg hbc hb110 hb102 hb116) ?_
   refine w4 (TD 5) q9 ?_
   refine w7 (Gs J2 (int_keyed Tryz.underlying5) (l:=[]) (kl:=.int .u8 102) (key:=.int .u8 102) (val:=.string ⟨#[102,97,108,115,101]⟩) (cx:=.int .u8 102) (cy:=.str ⟨#[102,97,108,115,101]⟩) trivial (by simp) rfl rfl (keyOf_int_mk Tryz.underlying5 (by decide))) q9 ?_
   refine w7 (Gs J2 (int_keyed Tryz.underlying5) (l:=[(.int .u8 102,.string ⟨#[102,97,108,115,101]⟩)]) (kl:=.int .u8 116) (key:=.int .u8 116) (val:=.string ⟨#[116,114,117,101]⟩) (cx:=.int .u8 116) (cy:=.str ⟨#[116,114,117,101]⟩) trivial (by simp) rfl rfl (keyOf_int_mk Tryz.underlying5 (by decide))) q9 ?_
   refine A3 hbc ?_
   refine w6 (TC (l:=a0n) J2 (int_keyed Tryz.underlying5) Tryz.zeroValue9 (kl:=.int .u8 116) (key:=.int .u8 116) (cx:=.int .u8 116) (c:=.str ⟨#[116,114,117,101]⟩) rfl (keyOf_int_mk Tryz.underlying5 (by decide)) rfl rfl) q9 ?_
   refine A3 q9 ?_
   refine A7 (A0 [((0,0),(0,0))] [((0,0),(0,0))] hwd) q9 ?_
   refine A3 (j2 hbc hb116) ?_
   refine w9 (A6 [] htr) q9 ?_
   refine A3 q9 ?_
   exact Ab (Aa [((0,0),(0,0)),((8,1),(8,1))] []) Tryz.results117 hc
  have e116:((((bAt s d1.pl:Nat):Int))==116)=false:=by simp;omega
  rw[if_neg h116]
  by_cases hnum:bAt s d1.pl=45∨Bx (bAt s d1.pl)=true
  ·have hno:=Rq (o1:=o1) (o2:=o2) s hs' d1.pl hlt d1.bad
   have hd1:(⟨d1.pl,0,d1.bad⟩:DS)=d1:=by cases d1;simp only at hc0;subst hc0;rfl
   rw[hd1]at hno
   rw[if_pos hnum]
   clear htk91 htk123
   generalize Oa s d1.pl d1.bad=R at *
   simp only[AM,BR]at hsk hno ⊢
   by_cases h45:bAt s d1.pl=45
   ·have e45:((((bAt s d1.pl:Nat):Int))==45)=true:=by simp[h45]
    refine A5 Tryz.func117 Tryz.ntmps117 ?_
    refine A3 q9 ?_
    refine A7 (A0 [((0,0),(0,0))] [((0,0),(0,0))] hsk) q9 ?_
    refine A3 (j9 e1 gn hc hg hbn e110 e102 e116 e45) ?_
    refine AW (Az [] [((0,0),(0,0)),((8,1),(8,1))] [((0,0),(0,0)),((8,1),(8,1))] hno) q9 ?_
    refine A3 q9 ?_
    exact Ab (Aa [((0,0),(0,0)),((8,1),(8,1))] []) Tryz.results117 hc
   ·have e45:((((bAt s d1.pl:Nat):Int))==45)=false:=by simp;omega
    have hdt:Bx (bAt s d1.pl)=true:=hnum.resolve_left h45
    rw[hdt]at hdg
    refine A5 Tryz.func117 Tryz.ntmps117 ?_
    refine A3 q9 ?_
    refine A7 (A0 [((0,0),(0,0))] [((0,0),(0,0))] hsk) q9 ?_
    refine A3 (j9 e1 gn hc hg hbn e110 e102 e116 e45) ?_
    refine w7 (A8 [] hdg) q9 ?_
    refine A3 q9 ?_
    refine AW (Az [] [((0,0),(0,0)),((8,1),(8,1))] [((0,0),(0,0)),((8,1),(8,1))] hno) q9 ?_
    refine A3 q9 ?_
    exact Ab (Aa [((0,0),(0,0)),((8,1),(8,1))] []) Tryz.results117 hc
  have e45:((((bAt s d1.pl:Nat):Int))==45)=false:=by
   have:bAt s d1.pl≠45:=fun h=>hnum (.inl h)
   simp
   omega
  have hdt:Bx (bAt s d1.pl)=false:=by cases hq:Bx (bAt s d1.pl) with
   |false=>rfl
   |true=>exact absurd (.inr hq) hnum
  rw[hdt]at hdg
  rw[if_neg hnum]
  by_cases h34:bAt s d1.pl=34
  ·have e34:((((bAt s d1.pl:Nat):Int))==34)=true:=by simp[h34]
   have hst:=X9 (o1:=o1) (o2:=o2) s (by omega) d1 hp
   have htx:=a2j (d1.str s).1
   rw[if_pos h34]
   clear htk91 htk123
   generalize (d1.str s).1=t at *
   generalize (d1.str s).2=d2 at *
   simp only[AM,BR]at hsk hst ⊢
   refine A5 Tryz.func117 Tryz.ntmps117 ?_
   refine A3 q9 ?_
   refine A7 (A0 [((0,0),(0,0))] [((0,0),(0,0))] hsk) q9 ?_
   refine A3 (j9 e1 gn hc hg hbn e110 e102 e116 e45) ?_
   refine w7 (A8 [] hdg) q9 ?_
   refine A3 e34 ?_
   refine A7 (A0 [((0,0),(0,0)),((8,1),(8,1))] [((0,0),(0,0)),((8,1),(8,1))] hst) q9 ?_
   refine A3 q9 ?_
   refine w9 (A6 [] htx) q9 ?_
   refine A3 q9 ?_
   exact Ab (Aa [((0,0),(0,0)),((8,1),(8,1))] []) Tryz.results117 hc
  have e34:((((bAt s d1.pl:Nat):Int))==34)=false:=by simp;omega
  rw[if_neg h34]
  by_cases h91:bAt s d1.pl=91
  ·have hla:=ZQ (o1:=o1) (o2:=o2) s (by omega) (DS.value s k) n (by omega) (fun d hd=>L1 k d hd) (fun d hd=>ih (n+1) (by omega) d hd) (d1.go (d1.pl+1)) (by show d1.pl+1≤s.size;omega) (by show 1≤d1.pl+1;omega)
   rw[show (bAt s d1.pl==91)=true by simp[h91]]at htk91
   simp only[if_true]at htk91
   have har:=Zb (DS.list s (El (DS.value s k)) 93 (d1.go (d1.pl+1)) []).2
   rw[if_pos h91]
   clear htk123
   generalize (DS.list s (El (DS.value s k)) 93 (d1.go (d1.pl+1)) []).2=kids at *
   generalize (DS.list s (El (DS.value s k)) 93 (d1.go (d1.pl+1)) []).1=d3 at *
   generalize d1.go (d1.pl+1)=d2 at *
   simp only[AM,BR]at hsk htk91 ⊢
   refine A5 Tryz.func117 Tryz.ntmps117 ?_
   refine A3 q9 ?_
   refine A7 (A0 [((0,0),(0,0))] [((0,0),(0,0))] hsk) q9 ?_
   refine A3 (j9 e1 gn hc hg hbn e110 e102 e116 e45) ?_
   refine w7 (A8 [] hdg) q9 ?_
   refine A3 e34 ?_
   refine A7 (A0 [((0,0),(0,0))] [((0,0),(0,0))] htk91) q9 ?_
   refine A3 q9 ?_
   refine A7 (A0 [((0,0),(0,0)),((8,1),(8,1)),((1,0),(6,0)),((1,1),(90,0)),((2,0),(2,0)),((3,0),(3,0))] [((0,0),(0,0)),((8,1),(8,1)),((1,0),(6,0)),((4,0),(93,0)),((2,0),(2,0)),((3,0),(3,0))] hla) @List.map_nil.{0,0} ?_
   refine A3 q9 ?_
   refine w9 (A6 [(93,0)] har) q9 ?_
   refine A3 q9 ?_
   exact Ab (Aa [((0,0),(0,0)),((8,1),(8,1))] []) Tryz.results117 hc
  rw[show (bAt s d1.pl==91)=false by simp[h91]]at htk91
  simp only[Bool.false_eq_true,if_false]at htk91
  rw[if_neg h91]
  by_cases h123:bAt s d1.pl=123
  ·have hlo:=ZR (o1:=o1) (o2:=o2) s (by omega) (DS.value s k) n (by omega) (fun d hd=>L1 k d hd) (fun d hd=>ih (n+1) (by omega) d hd) (d1.go (d1.pl+1)) (by show d1.pl+1≤s.size;omega) (by show 1≤d1.pl+1;omega)
   rw[show (bAt s d1.pl==123)=true by simp[h123]]at htk123
   simp only[if_true]at htk123
   have hob:=a1u s (by omega) (DS.value s k) (d1.go (d1.pl+1))
   rw[if_pos h123]
   generalize (DS.list s (CB s (DS.value s k)) 125 (d1.go (d1.pl+1)) ([],[])).2.1=keys at *
   generalize (DS.list s (CB s (DS.value s k)) 125 (d1.go (d1.pl+1)) ([],[])).2.2=kids at *
   generalize (DS.list s (CB s (DS.value s k)) 125 (d1.go (d1.pl+1)) ([],[])).1=d3 at *
   generalize d1.go (d1.pl+1)=d2 at *
   simp only[AM,BR]at hsk htk91 htk123 ⊢
   refine A5 Tryz.func117 Tryz.ntmps117 ?_
   refine A3 q9 ?_
   refine A7 (A0 [((0,0),(0,0))] [((0,0),(0,0))] hsk) q9 ?_
   refine A3 (j9 e1 gn hc hg hbn e110 e102 e116 e45) ?_
   refine w7 (A8 [] hdg) q9 ?_
   refine A3 e34 ?_
   refine A7 (A0 [((0,0),(0,0))] [((0,0),(0,0))] htk91) q9 ?_
   refine A3 q9 ?_
   refine A7 (A0 [((0,0),(0,0))] [((0,0),(0,0))] htk123) q9 ?_
   refine A3 q9 ?_
   refine A7 (A0 [((0,0),(0,0)),((8,1),(8,1)),((1,0),(7,0)),((1,1),(99,0)),((5,0),(8,0)),((5,1),(100,0)),((2,0),(2,0)),((3,0),(3,0))] [((0,0),(0,0)),((8,1),(8,1)),((1,0),(7,0)),((4,0),(103,0)),((5,0),(8,0)),((6,0),(103,1)),((2,0),(2,0)),((3,0),(3,0))] hlo) @List.map_nil.{0,0} ?_
   refine A3 q9 ?_
   refine w9 (A6 [(103,0),(103,1)] hob) q9 ?_
   refine A3 q9 ?_
   exact Ab (Aa [((0,0),(0,0)),((8,1),(8,1))] []) Tryz.results117 hc
  rw[show (bAt s d1.pl==123)=false by simp[h123]]at htk123
  simp only[Bool.false_eq_true,if_false]at htk123
  rw[if_neg h123]
  have hf5:=CT s d1 5 d1.pl
  generalize d1.fail 5 d1.pl=d2 at *
  simp only[AM,BR]at hsk htk91 htk123 hf5 ⊢
  refine A5 Tryz.func117 Tryz.ntmps117 ?_
  refine A3 q9 ?_
  refine A7 (A0 [((0,0),(0,0))] [((0,0),(0,0))] hsk) q9 ?_
  refine A3 (j9 e1 gn hc hg hbn e110 e102 e116 e45) ?_
  refine w7 (A8 [] hdg) q9 ?_
  refine A3 e34 ?_
  refine A7 (A0 [((0,0),(0,0))] [((0,0),(0,0))] htk91) q9 ?_
  refine A3 q9 ?_
  refine A7 (A0 [((0,0),(0,0))] [((0,0),(0,0))] htk123) q9 ?_
  refine A3 q9 ?_
  refine A7 (A0 [((0,0),(0,0))] [((0,0),(0,0))] hf5) q9 ?_
  refine A3 q9 ?_
  exact Ab (Aa [((0,0),(0,0)),((8,1),(8,1))] []) Tryz.results117 hc
end
section
open Go.RowKit
set_option maxRecDepth 10000
theorem Iz (s:ByteArray):∀(n f i:Nat),∀x∈Dw s n f i,x.size≤s.size
 | 0,f,i,x,h=>by
  unfold Dw at h
  split at h
  ·simp only[List.mem_singleton]at h
   subst h
   rw[ByteArray.size_extract]
   omega
  ·cases h
 |n+1,f,i,x,h=>by
  unfold Dw at h
  split at h
  ·rcases List.mem_cons.1 h with rfl | h
   ·rw[ByteArray.size_extract];omega
   ·exact Iz s n _ _ x h
  ·exact Iz s n _ _ x h
theorem Wy {s:ByteArray}{f:Nat}(h:f<s.size):∃b:UInt8,s.data.toList.drop f=b::s.data.toList.drop (f+1)∧bAt s f=b.toNat:=by
 obtain⟨b,h1,h2⟩:=Ea h
 rw[getElem?_pos s f h]at h1
 cases h1
 exact⟨s[f],List.drop_eq_getElem_cons (by simpa using h),h2⟩
theorem MX (b:UInt8):(b==10)=true↔b.toNat=10:=by
 rw[beq_iff_eq]
 constructor
 ·rintro rfl;rfl
 ·intro h;exact UInt8.toNat_inj.1 h
theorem Ts (s:ByteArray):∀(n f:Nat),f+n=s.size→Lib.indexByte (s.data.toList.drop f) 10=if nlN s n f=0 then -1 else ((nlB s n f-f:Nat):Int)
 | 0,f,h=>by
  rw[List.drop_eq_nil_of_le (by simp;omega)]
  rfl
 |n+1,f,h=>by
  obtain⟨b,h1,h2⟩:=Wy (s:=s) (f:=f) (by omega)
  have ih:=Ts s n (f+1) (by omega)
  rw[h1,Lib.indexByte,ih,nlN,nlB]
  by_cases h10:bAt s f=10
  ·have hb:(b==10)=true:=(MX b).2 (by omega)
   simp[h10,hb]
  ·have hb:(b==10)=false:=by
    cases hq:(b==10) with
    |false=>rfl
    |true=>exact absurd ((MX b).1 hq) (by omega)
   have hin:=Vx s n (f+1)
   by_cases h0:nlN s n (f+1)=0
   ·simp[h10,hb,h0]
   ·simp only[h10,hb,h0,if_false,Nat.zero_add]
    simp
    omega
theorem Tr (s:ByteArray):∀(n f:Nat),f+n=s.size→(s.data.toList.drop f).count 10=nlN s n f
 | 0,f,h=>by
  rw[List.drop_eq_nil_of_le (by simp;omega)]
  rfl
 |n+1,f,h=>by
  obtain⟨b,h1,h2⟩:=Wy (s:=s) (f:=f) (by omega)
  have ih:=Tr s n (f+1) (by omega)
  rw[h1,List.count_cons,ih,nlN]
  by_cases h10:bAt s f=10
  ·have hb:(b==10)=true:=(MX b).2 (by omega)
   simp[h10,hb]
   omega
  ·have hb:(b==10)=false:=by
    cases hq:(b==10) with
    |false=>rfl
    |true=>exact absurd ((MX b).1 hq) (by omega)
   simp[h10,hb]
theorem WC {s:ByteArray}{f a e:Nat}(hf:f≤s.size) (he:f+e≤s.size):(s.extract f s.size).extract a e=s.extract (f+a) (f+e):=by
 apply ByteArray.ext
 apply Array.toList_inj.1
 have hl:s.data.toList.take s.size=s.data.toList:=List.take_of_length_le (Nat.le_of_eq (by simp))
 rw[Dq,Dq,Dq,hl,List.drop_take,List.drop_take,List.drop_drop]
 congr 1
 omega
theorem KT (s:ByteArray):∀(k f:Nat),f≤s.size→nlN s (s.size-f) f=k→Lib.splitB (bS 10) 0 k (s.extract f s.size)=GL s k f
 | 0,f,hf,h=>rfl
 |k+1,f,hf,h=>by
  obtain⟨h1,h2,h3⟩:=Vw s (s.size-f) f (by omega)
  have hge:=(Vx s (s.size-f) f).1
  have hix:=Ts s (s.size-f) f (by omega)
  have hes:=FW (s:=s) (a:=f) (e:=s.size) (Nat.le_refl _)
  rw[if_neg (by omega)]at hix
  have hl:s.data.toList.take s.size=s.data.toList:=List.take_of_length_le (Nat.le_of_eq (by simp))
  have hi:Lib.indexB (s.extract f s.size) (bS 10)=((nlB s (s.size-f) f-f:Nat):Int):=by
   show Lib.index (s.extract f s.size).data.toList [10]=_
   rw[Lib.index_one,Dq,hl,hix]
  have hb1:(bS 10).size=1:=rfl
  rw[Lib.splitB_hit (bS 10) 0 k _ _ hi,hes,hb1,WC hf (by omega),WC hf (by omega),GL]
  rw[show f+0=f from rfl,show f+(nlB s (s.size-f) f-f+0)=nlB s (s.size-f) f from by omega,show f+(nlB s (s.size-f) f-f+1)=nlB s (s.size-f) f+1 from by omega,show f+(s.size-f)=s.size from by omega]
  rw[show f+(s.size-f)-(nlB s (s.size-f) f+1)=s.size-(nlB s (s.size-f) f+1) from by omega]at h3
  rw[KT s k _ (by omega) (by omega)]
theorem Wc (s:ByteArray):KW (Lib.splitB (bS 10) 0 (Lib.countB s (bS 10)) s)=GH s:=by
 have hc:Lib.countB s (bS 10)=nlN s s.size 0:=by
  have h1:=Tr s s.size 0 (by omega)
  rw[List.drop_zero]at h1
  rw[←h1]
  exact Lib.count_one 10 _
 have h2:=KT s (nlN s s.size 0) 0 (Nat.zero_le _) rfl
 have h3:s.extract 0 s.size=s:=by
  apply ByteArray.ext
  apply Array.toList_inj.1
  rw[Dq,List.drop_zero]
  exact List.take_of_length_le (Nat.le_of_eq (by simp))
 rw[h3]at h2
 rw[hc,h2,y6]
end
section
open Go.RowKit Go.Shelf
set_option maxRecDepth 10000
def YQ:Ren where
 f:=fun x=>match x with
  | 146=>69
  | 221=>129
  | 268=>193
  | 138=>194
  | 143=>195
  | 195=>229
  | 197=>230
  | 218=>231
  | 219=>196
  | 260=>260
  | 217=>232
  | 225=>233
  | 224=>234
  | 267=>235
  | 266=>261
  | 314=>262
  |n=>n
 t:=fun x=>match x with
  | 9=>9
  | 31=>50
  | 3=>3
  | 4=>4
  | 0=>0
  | 105=>263
  | 21=>21
  | 5=>5
  | 46=>194
  | 119=>308
  | 139=>318
  | 138=>317
  | 146=>247
  | 51=>233
  |n=>n
 g:=fun x=>match x with
  | 1=>0
  | 3=>2
  | 4=>3
  |n=>n
theorem OD:Lays.n146 Tryz.prog YQ where
 mixed:=BF
 f138:=by kernel_rfl
 f143:=by kernel_rfl
 f146:=by kernel_rfl
 f195:=by kernel_rfl
 f197:=by kernel_rfl
 f217:=by kernel_rfl
 f218:=by kernel_rfl
 f219:=by kernel_rfl
 f221:=by kernel_rfl
 f224:=by kernel_rfl
 f225:=by kernel_rfl
 f260:=by kernel_rfl
 f266:=by kernel_rfl
 f267:=by kernel_rfl
 f268:=by kernel_rfl
 f314:=by kernel_rfl
 t0:=Tryz.underlying0
 a0:=Tryz.isAgg0
 z0:=Tryz.sizeOf0
 v0:=Tryz.zeroValue0
 t3:=Tryz.underlying3
 a3:=Tryz.isAgg3
 z3:=Tryz.sizeOf3
 v3:=Tryz.zeroValue3
 t4:=Tryz.underlying4
 a4:=Tryz.isAgg4
 z4:=Tryz.sizeOf4
 v4:=Tryz.zeroValue4
 t5:=Tryz.underlying5
 a5:=Tryz.isAgg5
 z5:=Tryz.sizeOf5
 v5:=Tryz.zeroValue5
 t9:=Tryz.underlying9
 a9:=Tryz.isAgg9
 z9:=Tryz.sizeOf9
 v9:=Tryz.zeroValue9
 t21:=Tryz.underlying21
 a21:=Tryz.isAgg21
 z21:=Tryz.sizeOf21
 v21:=Tryz.zeroValue21
 t31:=Tryz.underlying50
 a31:=Tryz.isAgg50
 z31:=Tryz.sizeOf50
 v31:=Tryz.zeroValue50
 t46:=Tryz.underlying194
 a46:=Tryz.isAgg194
 z46:=Tryz.sizeOf194
 v46:=Tryz.zeroValue194
 t51:=Tryz.underlying233
 a51:=Tryz.isAgg233
 z51:=Tryz.sizeOf233
 v51:=Tryz.zeroValue233
 t105:=Tryz.underlying263
 a105:=Tryz.isAgg263
 z105:=Tryz.sizeOf263
 v105:=Tryz.zeroValue263
 t119:=Tryz.underlying308
 a119:=Tryz.isAgg308
 z119:=Tryz.sizeOf308
 t138:=Tryz.underlying317
 a138:=Tryz.isAgg317
 z138:=Tryz.sizeOf317
 v138:=Tryz.zeroValue317
 t139:=Tryz.underlying318
 a139:=Tryz.isAgg318
 z139:=Tryz.sizeOf318
 v139:=Tryz.zeroValue318
 t146:=Tryz.underlying247
 a146:=Tryz.isAgg247
 z146:=Tryz.sizeOf247
 v146:=Tryz.zeroValue247
 g1:=by kernel_rfl
 g3:=by kernel_rfl
 g4:=by kernel_rfl
theorem YP {P:Program}{ρ:Ren}(L:Lays.n146 P ρ) (hi9:(P.info? (ρ.t 9)).map (fun i=>(i.zero,i.size,i.bytes))=some (some (.string ByteArray.empty),1,16)) (s:ByteArray) (c:UInt8) (w:World) (hs:s.size<4294967281) :
  Calls P (ρ.f 146) #[.string s,.string ⟨#[c]⟩] w fun e w' =>
   e=.returned (.slice (some ⟨w.heap.size,0,none⟩) (Lib.countB s ⟨#[c]⟩+1) (Lib.countB s ⟨#[c]⟩+1))∧w'=w.alloc (.cells ((Lib.splitB ⟨#[c]⟩ 0 (Lib.countB s ⟨#[c]⟩) s).map Value.string).toArray (ρ.t 9)):=by
 have h1:1≤(⟨#[c]⟩:ByteArray).size:=Nat.le_refl _
 have hle:=Lib.countB_le ⟨#[c]⟩ h1 s.size s (Nat.le_refl _)
 have hlen:=Lib.splitB_all ⟨#[c]⟩ h1 0 _ s rfl
 have hC:Calls P (ρ.f 138) #[.string s,.string ⟨#[c]⟩] w fun e w'=>e=.returned (.int .i64 (Lib.countB s ⟨#[c]⟩))∧w'=w:=by
  refine (Any.strings_Count_one { L with } s c w).mono fun e w' ⟨he,hw⟩=>⟨?_,hw⟩
  rw[he]
  show _=Ending.returned (Value.int .i64 ((Lib.count s.data.toList [c]:Nat):Int))
  rw[Lib.count_one]
  rfl
 have hI:∀(x:ByteArray) (d:Array Value),x.size≤s.size→Calls P (ρ.f 143) #[.string x,.string ⟨#[c]⟩] (w.alloc (.cells d (ρ.t 9))) fun e w'=>e=.returned (.int .i64 (Lib.indexB x ⟨#[c]⟩))∧w'=w.alloc (.cells d (ρ.t 9)):=by
  intro x d _
  refine (Any.strings_Index_one { L with } x c _).mono fun e w' ⟨he,hw⟩=>⟨?_,hw⟩
  rw[he]
  show _=Ending.returned (Value.int .i64 (Lib.index x.data.toList [c]))
  rw[Lib.index_one]
 have c:=Any.strings_genSplit_core { L with } hi9 s ⟨#[c]⟩ 0 (-1) (Lib.countB s ⟨#[c]⟩+1) w hs h1 (Nat.zero_le _) hI hC (by decide) (by decide) (by rw[if_pos (by decide)];omega)
 rw[Nat.add_sub_cancel,hlen]at c
 have e2:=Lib.cellsOf_full (Lib.splitB ⟨#[‹UInt8›]⟩ 0 (Lib.countB s ⟨#[‹UInt8›]⟩) s)
 rw[hlen]at e2
 rw[e2]at c
 have t3:=L.t3;have t9:=L.t9;have t31:=L.t31
 have a3:=L.a3;have a9:=L.a9;have a31:=L.a31
 have z3:=L.z3;have v3:=L.v3;have z9:=L.z9;have v9:=L.v9;have z31:=L.z31;have v31:=L.v31
 have e221:∀args w,(callFunc (ρ.f 221) args).run P w=.ok (.enter (ρ.f 221) args) w:=enters_of L.f221 (by kernel_rfl) rfl
 go_enter L.f146,Body.n146_ntmps ρ
 go_wp2_with (go_at_fn (ρ.f 221);refine c.mono ?_;rintro e w' ⟨rfl,hw⟩;rw[hw])
 go_ret
 exact⟨rfl,rfl⟩
theorem U7 (w:World) (S:Nat→Prop):∀l:List ByteArray,Aj w S (l.map Ac) (l.map fun x=>[Value.string x]) []
 | []=>by simp[Aj]
 |x::l=>⟨_,_,[],[],rfl,rfl,⟨_,_,[],[],rfl,rfl,⟨rfl,rfl⟩,⟨rfl,rfl⟩⟩,U7 w S l⟩
theorem XI (l:List ByteArray):(l.map fun x=>[Value.string x]).flatten=l.map Value.string:=by
 induction l with
 |nil=>rfl
 |cons x l ih=>simp[ih]
theorem Wb (s:ByteArray) (hs:s.size≤1048576):AC Tryz.prog 69 [.c (.str s),.c (.str ⟨#[10]⟩)] [] (.own (0,0)) [((0,0),.row false 1 9 ((Lib.splitB (bS 10) 0 (Lib.countB s (bS 10)) s).map Ac))]:=by
 refine AC.of_row (Ie _) fun S w κ vs hv=>?_
 obtain⟨v,vs',rfl,⟨rfl,_⟩,v2,vs2,rfl,⟨rfl,_⟩,rfl⟩:=hv
 refine (YP OD (by kernel_rfl) s 10 w (by omega)).mono ?_
 rintro e w' ⟨rfl,rfl⟩
 have hlen:=Lib.splitB_all (bS 10) (Nat.le_refl _) 0 _ s rfl
 have hle:=Lib.countB_le (bS 10) (Nat.le_refl _) s.size s (Nat.le_refl _)
 generalize Lib.splitB (bS 10) 0 (Lib.countB s (bS 10)) s=l at *
 generalize Lib.countB s (bS 10)=n at *
 refine⟨(Below.refl _ _).alloc (Nat.le_refl _) _,_,l.map fun x=>[Value.string x],rfl,U7 _ _ l,by simp,?_⟩
 rw[XI,List.length_map,hlen]
 refine⟨by simp[hlen],.inr ⟨w.heap.size,n+1,(l.map Value.string).toArray,rfl,Nat.le_refl _,heap_alloc_new w _,Nat.le_refl _,?_,?_,?_⟩⟩
 ·simp[maxLen];omega
 ·simp[hlen]
 ·show List.take _ (l.map Value.string)=_
  exact List.take_of_length_le (by simp[hlen])
def LD (s:ByteArray):List ByteArray:=Lib.splitB (bS 10) 0 (Lib.countB s (bS 10)) s
theorem RD (s:ByteArray):KW (LD s)=GH s:=Wc s
theorem VK (s:ByteArray):0<(LD s).length∧(LD s).length≤s.size+1:=by
 have hlen:=Lib.splitB_all (bS 10) (Nat.le_refl _) 0 _ s rfl
 have hle:=Lib.countB_le (bS 10) (Nat.le_refl _) s.size s (Nat.le_refl _)
 unfold LD
 omega
end
section
open Go.RowKit Go.Shelf
set_option maxRecDepth 10000
variable {o1 o2:Obj}
theorem V7 (s:ByteArray):AC Tryz.prog 196 [.c (.str s),.c (.str ⟨#[32]⟩)] [] (.c (.int .i64 (Lib.indexByte s.data.toList 32))) []:=by
 refine AC.of_calls fun S w κ vs hv=>?_
 obtain⟨v,vs',rfl,⟨rfl,_⟩,v2,vs2,rfl,⟨rfl,_⟩,rfl⟩:=hv
 refine (Any.stringslite_Index_one { OD with } s 32 w).mono ?_
 rintro e w' ⟨rfl,rfl⟩
 exact⟨Below.refl _ _,_,rfl,fun T _ _=>⟨rfl,rfl⟩⟩
theorem Vp (s:ByteArray) (hs:s.size≤1000000):∃b,AC Tryz.prog 130 [.c (.str s),.c (.str ⟨#[32]⟩)] [] (.tup [.c (.str (Bn s).1),.c (.str (Bn s).2),.c (.bool b)]) []:=by
 have h:=V7 s
 unfold Bn
 rcases SZ s.data.toList with hi | ⟨i,hi,hlt⟩
 ·rw[hi]at h ⊢
  have c0:decide ((-1:Int)≥0)=false:=rfl
  refine⟨false,?_⟩
  rw[if_pos (by decide)]
  refine A5 Tryz.func130 Tryz.ntmps130 ?_
  refine A3 q9 ?_
  refine w7 (A8 [] h) q9 ?_
  refine A3 c0 ?_
  exact Ab (Aa [] []) Tryz.results130 c0
 ·rw[hi]at h ⊢
  rw[Be]at hlt
  have c0:decide ((i:Int)≥0)=true:=decide_eq_true (by omega)
  have c1:i≤s.size:=by omega
  have c2:i+1≤s.size:=by omega
  have hw:IntKind.i64.wrap ((i:Int)+((1:Nat):Int))=((i+1:Nat):Int):=by rw[Lo (by omega) (by omega)];omega
  refine⟨true,?_⟩
  rw[if_neg (by omega),Int.toNat_natCast]
  dsimp only
  generalize hL:s.extract 0 i=L
  generalize hR:s.extract (i+1) s.size=R
  refine A5 Tryz.func130 Tryz.ntmps130 ?_
  refine A3 q9 ?_
  refine w7 (A8 [] h) q9 ?_
  refine A3 (j6 c0 c1 hw c2 hL hR) ?_
  exact Ab (Aa [] []) Tryz.results130 c0
theorem JL (s:ByteArray) (hs:s.size≤1000000):∃b,AC Tryz.prog 70 [.c (.str s),.c (.str ⟨#[32]⟩)] [] (.tup [.c (.str (Bn s).1),.c (.str (Bn s).2),.c (.bool b)]) []:=by
 obtain⟨b,h⟩:=Vp s hs
 refine⟨b,?_⟩
 generalize (Bn s).1=x at *
 generalize (Bn s).2=y at *
 refine A5 Tryz.func70 Tryz.ntmps70 ?_
 refine A3 q9 ?_
 refine w7 (A8 [] h) q9 ?_
 refine A3 q9 ?_
 exact AL (Ad []) Tryz.results70
theorem EF (s:ByteArray) (hs:s.size≤10000) (h:Ck s=none):AC Tryz.prog 71 [.c (.str s)] (Kv o1 o2) (.tup [.nils,.c (.str ByteArray.empty)]) (Kv o1 o2):=by
 have hv:=Qp (o1:=o1) (o2:=o2) s hs 20 1 rfl ⟨0,0,0⟩ (Nat.zero_le _)
 have hag:=Hf (s:=s) 20 0 (Nat.zero_le _)
 have hf:=F1 (s:=s) 20 (Aw s 0) (C9 (Nat.zero_le _)).2.1
 unfold Ck at h
 cases hR:FA 20 s (Aw s 0) with
 |bad c' p =>
  rw[hR]at hag hf
  obtain⟨a1,a2⟩:=hag
  have hc0:=EZ hf.1
  have hne:((DS.value s 20 ⟨0,0,0⟩).2.code != 0)=true:=by rw[a1];simpa using hc0
  generalize (DS.value s 20 ⟨0,0,0⟩).2=d1 at *
  generalize (DS.value s 20 ⟨0,0,0⟩).1=v at *
  simp only[AM,BR]at hv
  refine A5 Tryz.func71 Tryz.ntmps71 ?_
  refine A3 q9 ?_
  refine AW (Az [] [((0,0),(8,0)),((8,1),(8,1))] [((0,0),(8,0)),((8,1),(8,1))] hv) (j2 @Int.natCast_zero @Int.cast_ofNat_Int) ?_
  refine A3 hne ?_
  exact Ab (Aa [((8,1),(8,1))] []) Tryz.results71 hne
 |ok u e =>
  rw[hR]at h hag hf
  dsimp only at h
  obtain⟨a1,a2⟩:=hag
  obtain⟨_,he,f1,f2,f3,f4⟩:=hf
  rw[a1,a2]at hv
  split at h
  ·rename_i h200
   have g200:decide ((u.count:Int)>200)=true:=decide_eq_true (by omega)
   have hc:=Sh _ u (Nat.le_refl _) (by omega)
   have h00:((0:Int) != 0)=false:=rfl
   simp only[AM,BR]at hv
   refine A5 Tryz.func71 Tryz.ntmps71 ?_
   refine A3 q9 ?_
   refine AW (Az [] [((0,0),(8,0)),((8,1),(8,1))] [((0,0),(8,0)),((8,1),(8,1))] hv) (j2 @Int.natCast_zero @Int.cast_ofNat_Int) ?_
   refine A3 h00 ?_
   refine w7 (A8 [] hc) q9 ?_
   refine A3 g200 ?_
   exact Ab (Aa [((8,1),(8,1))] []) Tryz.results71 g200
  ·cases h
theorem CC (s:ByteArray) (hs:s.size≤10000) {v:V}{r:ByteArray}(h:Ck s=some (v,r)):AC Tryz.prog 71 [.c (.str s)] (Kv o1 o2) (.tup [.own (0,0),.c (.str r)]) [((0,0),.row false 5 115 (v.enc.map CellD.cs)),((8,1),.gen (D8 o1 o2))]:=by
 have hv:=Qp (o1:=o1) (o2:=o2) s hs 20 1 rfl ⟨0,0,0⟩ (Nat.zero_le _)
 have hag:=Hf (s:=s) 20 0 (Nat.zero_le _)
 obtain⟨e,hR,hr,he,hre,hrs⟩:=DI h
 rw[hR]at hag
 obtain⟨a1,a2⟩:=hag
 rw[a1,a2]at hv
 have hc200:=hr.2.1
 have g200:decide ((v.count:Int)>200)=false:=decide_eq_false (by omega)
 have hc:=Sh _ v (Nat.le_refl _) (by omega)
 have hce:=Sj hr
 have h00:((0:Int) != 0)=false:=rfl
 have hre':s.extract e s.size=r:=hre.symm
 simp only[AM,BR]at hv
 refine A5 Tryz.func71 Tryz.ntmps71 ?_
 refine A3 q9 ?_
 refine AW (Az [] [((0,0),(8,0)),((8,1),(8,1))] [((0,0),(8,0)),((8,1),(8,1))] hv) (j2 @Int.natCast_zero @Int.cast_ofNat_Int) ?_
 refine A3 h00 ?_
 refine w7 (A8 [] hc) q9 ?_
 refine A3 g200 ?_
 refine w12 (Au [] hce) q9 ?_
 refine A3 (j2 he hre') ?_
 exact Ab (Aa [((8,1),(8,1)),((0,0),(22,0))] []) Tryz.results71 h00
end
end Go.Proofs.YtllfmaflodbieaaGreatDoor
