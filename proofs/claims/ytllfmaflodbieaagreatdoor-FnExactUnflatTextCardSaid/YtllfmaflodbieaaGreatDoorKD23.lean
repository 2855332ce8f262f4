/- The program's reader: a value. Printed by gen_d23.py. -/
import Derived.Test.YtllfmaflodbieaaGreatDoorKD20uD22
set_option linter.all false
set_option maxHeartbeats 8000000
namespace Go.Proofs.YtllfmaflodbieaaGreatDoor
open Go.RowKit Go.Maps
set_option maxRecDepth 10000
variable {o1 o2:Obj}
theorem GI:Tryz.prog.underlying 203=some (.map 5 9):=Tryz.underlying203
def WA:List (Lit×Value):=[(.int .u8 102,.string ⟨#[102,97,108,115,101]⟩),(.int .u8 116,.string ⟨#[116,114,117,101]⟩)]
theorem Mt (s:ByteArray) (hs:s.size≤10000):∀(k n:Nat),n+k=21→∀d:DS,d.pl≤s.size→AC Tryz.prog 117 [.ptr (0,0) 0,.c (.int .i64 n)] (dsE o1 o2 s d) (DS.value s k d).1.av (dsE o1 o2 s (DS.value s k d).2):=by
 intro k
 have hs':s.size≤1000000:=by omega
 induction k with
 |zero =>
  intro n hnk d hd
  have hsk:=Em s hs' d hd
  have hp:=(Cc (s:=s) hd).2
  have gn:decide ((n:Int)>20)=true:=decide_eq_true (by omega)
  unfold DS.value
  generalize d.skip s=d1 at *
  have hf5:=Cd s d1 5 d1.pl
  have hf7:=Cd s d1 7 d1.pl
  by_cases hz:s.size≤d1.pl
  ·have e1:((d1.pl:Int)==(s.size:Int))=true:=by simp;omega
   rw[if_pos hz]
   have hff:=Cd s (d1.fail 5 d1.pl) 7 (d1.fail 5 d1.pl).pl
   rw[TH _ _ _ _ _ (by decide)]at hff
   have hne:=NS d1 5 d1.pl (by decide)
   generalize d1.fail 5 d1.pl=d2 at *
   have hc:(d2.code != 0)=true:=by simpa using hne
   simp only[Au,Bg]at hsk hf5 hff ⊢
   refine A6 Tryz.func117 Tryz.ntmps117 ?_
   refine A0 trivial ?_
   refine Ah (A4 [((0,0),(0,0))] [((0,0),(0,0))] hsk) trivial ?_
   refine A0 e1 ?_
   refine Ah (A4 [((0,0),(0,0))] [((0,0),(0,0))] hf5) trivial ?_
   refine A0 gn ?_
   refine Ah (A4 [((0,0),(0,0))] [((0,0),(0,0))] hff) trivial ?_
   refine A0 hc ?_
   exact A9 (A8 [((0,0),(0,0)),((8,1),(8,1))] []) Tryz.results117 hc
  ·have e1:((d1.pl:Int)==(s.size:Int))=false:=by simp;omega
   rw[if_neg hz]
   have hne:=NS d1 7 d1.pl (by decide)
   generalize d1.fail 7 d1.pl=d2 at *
   have hc:(d2.code != 0)=true:=by simpa using hne
   simp only[Au,Bg]at hsk hf7 ⊢
   refine A6 Tryz.func117 Tryz.ntmps117 ?_
   refine A0 trivial ?_
   refine Ah (A4 [((0,0),(0,0))] [((0,0),(0,0))] hsk) trivial ?_
   refine A0 (j2 e1 gn) ?_
   refine Ah (A4 [((0,0),(0,0))] [((0,0),(0,0))] hf7) trivial ?_
   refine A0 hc ?_
   exact A9 (A8 [((0,0),(0,0)),((8,1),(8,1))] []) Tryz.results117 hc
 |succ k ih =>
  intro n hnk d hd
  have hsk:=Em s hs' d hd
  have hp:=(Cc (s:=s) hd).2
  have gn:decide ((n:Int)>20)=false:=decide_eq_false (by omega)
  unfold DS.value
  simp only
  generalize d.skip s=d1 at *
  by_cases hz:s.size≤d1.pl
  ·have hf5:=Cd s d1 5 d1.pl
   have e1:((d1.pl:Int)==(s.size:Int))=true:=by simp;omega
   rw[if_pos hz]
   have hne:=NS d1 5 d1.pl (by decide)
   generalize d1.fail 5 d1.pl=d2 at *
   have hc:(d2.code != 0)=true:=by simpa using hne
   simp only[Au,Bg]at hsk hf5 ⊢
   refine A6 Tryz.func117 Tryz.ntmps117 ?_
   refine A0 trivial ?_
   refine Ah (A4 [((0,0),(0,0))] [((0,0),(0,0))] hsk) trivial ?_
   refine A0 e1 ?_
   refine Ah (A4 [((0,0),(0,0))] [((0,0),(0,0))] hf5) trivial ?_
   refine A0 (j2 gn hc) ?_
   exact A9 (A8 [((0,0),(0,0)),((8,1),(8,1))] []) Tryz.results117 hc
  have e1:((d1.pl:Int)==(s.size:Int))=false:=by simp;omega
  rw[if_neg hz]
  by_cases hc0:d1.code=0
  case neg =>
   have hc:(d1.code != 0)=true:=by simpa using hc0
   rw[if_pos hc0]
   simp only[Au,Bg]at hsk ⊢
   refine A6 Tryz.func117 Tryz.ntmps117 ?_
   refine A0 trivial ?_
   refine Ah (A4 [((0,0),(0,0))] [((0,0),(0,0))] hsk) trivial ?_
   refine A0 (j3 e1 gn hc) ?_
   exact A9 (A8 [((0,0),(0,0)),((8,1),(8,1))] []) Tryz.results117 hc
  rw[if_neg (by simpa using hc0)]
  have hc:(d1.code != 0)=false:=by simp[hc0]
  have hlt:d1.pl<s.size:=by omega
  obtain⟨b,hg,hb⟩:=Aw hlt
  have hbn:((b.toNat:Nat):Int)=((bAt s d1.pl:Nat):Int):=by rw[hb]
  have hdg:=HH b.toNat
  rw[←hb]at hdg
  have his:∀c:Nat,d1.is s c=(bAt s d1.pl==c):=fun c=>by unfold DS.is;simp[hc0]
  have htk91:=Dn s hs' d1 hp 91 (by decide)
  have htk123:=Dn s hs' d1 hp 123 (by decide)
  unfold DS.take at htk91 htk123
  rw[his]at htk91 htk123
  by_cases h110:bAt s d1.pl=110
  ·have e110:((((bAt s d1.pl:Nat):Int))==110)=true:=by simp[h110]
   have hwd:=Kf s hs' d1 hp ⟨#[110,117,108,108]⟩ (by decide)
   change AC _ _ _ _ _ (dsM s (d1.word s [110,117,108,108]))at hwd
   have hnl:=Xn
   rw[if_pos h110]
   clear htk91 htk123
   generalize d1.word s [110,117,108,108]=d2 at *
   simp only[Au,Bg]at hsk hwd ⊢
   refine A6 Tryz.func117 Tryz.ntmps117 ?_
   refine A0 trivial ?_
   refine Ah (A4 [((0,0),(0,0))] [((0,0),(0,0))] hsk) trivial ?_
   refine A0 (j6 e1 gn hc hg hbn e110) ?_
   refine Ah (A4 [((0,0),(0,0))] [((0,0),(0,0))] hwd) trivial ?_
   refine A0 trivial ?_
   refine w9 (Aa [] hnl) trivial ?_
   refine A0 trivial ?_
   exact A9 (A8 [((0,0),(0,0)),((8,1),(8,1))] []) Tryz.results117 hc
  have e110:((((bAt s d1.pl:Nat):Int))==110)=false:=by simp;omega
  rw[if_neg h110]
  by_cases h102:bAt s d1.pl=102
  ·have e102:((((bAt s d1.pl:Nat):Int))==102)=true:=by simp[h102]
   have hwd:=Kf s hs' d1 hp ⟨#[102,97,108,115,101]⟩ (by decide)
   change AC _ _ _ _ _ (dsM s (d1.word s [102,97,108,115,101]))at hwd
   have htr:=OY false
   have hbc:((b.toNat:Nat):Int)=102:=by rw[←hb,h102];rfl
   have hb116:(((102:Int))==116)=false:=rfl
   have hb102:(((102:Int))==102)=true:=rfl
   have hb110:(((102:Int))==110)=false:=rfl
   rw[if_pos h102]
   clear htk91 htk123
   generalize d1.word s [102,97,108,115,101]=d2 at *
   simp only[Au,Bg]at hsk hwd ⊢
   refine A6 Tryz.func117 Tryz.ntmps117 ?_
   refine A0 trivial ?_
   refine Ah (A4 [((0,0),(0,0))] [((0,0),(0,0))] hsk) trivial ?_
   refine A0 (j8 e1 gn hc hg hbc hb110 hb102 hb116) ?_
   refine w4 (Qy 5) trivial ?_
   refine w7 (F3 GI (int_keyed Tryz.underlying5) (l:=[]) (kl:=.int .u8 102) (key:=.int .u8 102) (val:=.string ⟨#[102,97,108,115,101]⟩) (cx:=.int .u8 102) (cy:=.str ⟨#[102,97,108,115,101]⟩) trivial (by simp) rfl rfl (keyOf_int_mk Tryz.underlying5 (by decide))) trivial ?_
   refine w7 (F3 GI (int_keyed Tryz.underlying5) (l:=[(.int .u8 102,.string ⟨#[102,97,108,115,101]⟩)]) (kl:=.int .u8 116) (key:=.int .u8 116) (val:=.string ⟨#[116,114,117,101]⟩) (cx:=.int .u8 116) (cy:=.str ⟨#[116,114,117,101]⟩) trivial (by simp) rfl rfl (keyOf_int_mk Tryz.underlying5 (by decide))) trivial ?_
   refine A0 hbc ?_
   refine w6 (Q5 (l:=WA) GI (int_keyed Tryz.underlying5) Tryz.zeroValue9 (kl:=.int .u8 102) (key:=.int .u8 102) (cx:=.int .u8 102) (c:=.str ⟨#[102,97,108,115,101]⟩) rfl (keyOf_int_mk Tryz.underlying5 (by decide)) rfl rfl) trivial ?_
   refine A0 trivial ?_
   refine Ah (A4 [((0,0),(0,0))] [((0,0),(0,0))] hwd) trivial ?_
   refine A0 (j2 hbc hb116) ?_
   refine w9 (Aa [] htr) trivial ?_
   refine A0 trivial ?_
   exact A9 (A8 [((0,0),(0,0)),((8,1),(8,1))] []) Tryz.results117 hc
  have e102:((((bAt s d1.pl:Nat):Int))==102)=false:=by simp;omega
  rw[if_neg h102]
  by_cases h116:bAt s d1.pl=116
  ·have e116:((((bAt s d1.pl:Nat):Int))==116)=true:=by simp[h116]
   have hwd:=Kf s hs' d1 hp ⟨#[116,114,117,101]⟩ (by decide)
   change AC _ _ _ _ _ (dsM s (d1.word s [116,114,117,101]))at hwd
   have htr:=OY true
   have hbc:((b.toNat:Nat):Int)=116:=by rw[←hb,h116];rfl
   have hb116:(((116:Int))==116)=true:=rfl
   have hb102:(((116:Int))==102)=false:=rfl
   have hb110:(((116:Int))==110)=false:=rfl
   rw[if_pos h116]
   clear htk91 htk123
   generalize d1.word s [116,114,117,101]=d2 at *
   simp only[Au,Bg]at hsk hwd ⊢
   refine A6 Tryz.func117 Tryz.ntmps117 ?_
   refine A0 trivial ?_
   refine Ah (A4 [((0,0),(0,0))] [((0,0),(0,0))] hsk) trivial ?_
   refine A0 (j8 e1 gn hc hg hbc hb110 hb102 hb116) ?_
   refine w4 (Qy 5) trivial ?_
   refine w7 (F3 GI (int_keyed Tryz.underlying5) (l:=[]) (kl:=.int .u8 102) (key:=.int .u8 102) (val:=.string ⟨#[102,97,108,115,101]⟩) (cx:=.int .u8 102) (cy:=.str ⟨#[102,97,108,115,101]⟩) trivial (by simp) rfl rfl (keyOf_int_mk Tryz.underlying5 (by decide))) trivial ?_
   refine w7 (F3 GI (int_keyed Tryz.underlying5) (l:=[(.int .u8 102,.string ⟨#[102,97,108,115,101]⟩)]) (kl:=.int .u8 116) (key:=.int .u8 116) (val:=.string ⟨#[116,114,117,101]⟩) (cx:=.int .u8 116) (cy:=.str ⟨#[116,114,117,101]⟩) trivial (by simp) rfl rfl (keyOf_int_mk Tryz.underlying5 (by decide))) trivial ?_
   refine A0 hbc ?_
   refine w6 (Q5 (l:=WA) GI (int_keyed Tryz.underlying5) Tryz.zeroValue9 (kl:=.int .u8 116) (key:=.int .u8 116) (cx:=.int .u8 116) (c:=.str ⟨#[116,114,117,101]⟩) rfl (keyOf_int_mk Tryz.underlying5 (by decide)) rfl rfl) trivial ?_
   refine A0 trivial ?_
   refine Ah (A4 [((0,0),(0,0))] [((0,0),(0,0))] hwd) trivial ?_
   refine A0 (j2 hbc hb116) ?_
   refine w9 (Aa [] htr) trivial ?_
   refine A0 trivial ?_
   exact A9 (A8 [((0,0),(0,0)),((8,1),(8,1))] []) Tryz.results117 hc
  have e116:((((bAt s d1.pl:Nat):Int))==116)=false:=by simp;omega
  rw[if_neg h116]
  by_cases hnum:bAt s d1.pl=45∨AP (bAt s d1.pl)=true
  ·have hno:=NA (o1:=o1) (o2:=o2) s hs' d1.pl hlt d1.bad
   have hd1:(⟨d1.pl,0,d1.bad⟩:DS)=d1:=by cases d1;simp only at hc0;subst hc0;rfl
   rw[hd1]at hno
   rw[if_pos hnum]
   clear htk91 htk123
   generalize KC s d1.pl d1.bad=R at *
   simp only[Au,Bg]at hsk hno ⊢
   by_cases h45:bAt s d1.pl=45
   ·have e45:((((bAt s d1.pl:Nat):Int))==45)=true:=by simp[h45]
    refine A6 Tryz.func117 Tryz.ntmps117 ?_
    refine A0 trivial ?_
    refine Ah (A4 [((0,0),(0,0))] [((0,0),(0,0))] hsk) trivial ?_
    refine A0 (j9 e1 gn hc hg hbn e110 e102 e116 e45) ?_
    refine Jj (Dr [] [((0,0),(0,0)),((8,1),(8,1))] [((0,0),(0,0)),((8,1),(8,1))] hno) trivial ?_
    refine A0 trivial ?_
    exact A9 (A8 [((0,0),(0,0)),((8,1),(8,1))] []) Tryz.results117 hc
   ·have e45:((((bAt s d1.pl:Nat):Int))==45)=false:=by simp;omega
    have hdt:AP (bAt s d1.pl)=true:=hnum.resolve_left h45
    rw[hdt]at hdg
    refine A6 Tryz.func117 Tryz.ntmps117 ?_
    refine A0 trivial ?_
    refine Ah (A4 [((0,0),(0,0))] [((0,0),(0,0))] hsk) trivial ?_
    refine A0 (j9 e1 gn hc hg hbn e110 e102 e116 e45) ?_
    refine w7 (A3 [] hdg) trivial ?_
    refine A0 trivial ?_
    refine Jj (Dr [] [((0,0),(0,0)),((8,1),(8,1))] [((0,0),(0,0)),((8,1),(8,1))] hno) trivial ?_
    refine A0 trivial ?_
    exact A9 (A8 [((0,0),(0,0)),((8,1),(8,1))] []) Tryz.results117 hc
  have e45:((((bAt s d1.pl:Nat):Int))==45)=false:=by
   have:bAt s d1.pl≠45:=fun h=>hnum (.inl h)
   simp
   omega
  have hdt:AP (bAt s d1.pl)=false:=by cases hq:AP (bAt s d1.pl) with
   |false=>rfl
   |true=>exact absurd (.inr hq) hnum
  rw[hdt]at hdg
  rw[if_neg hnum]
  by_cases h34:bAt s d1.pl=34
  ·have e34:((((bAt s d1.pl:Nat):Int))==34)=true:=by simp[h34]
   have hst:=T3 (o1:=o1) (o2:=o2) s (by omega) d1 hp
   have htx:=Xy (d1.str s).1
   rw[if_pos h34]
   clear htk91 htk123
   generalize (d1.str s).1=t at *
   generalize (d1.str s).2=d2 at *
   simp only[Au,Bg]at hsk hst ⊢
   refine A6 Tryz.func117 Tryz.ntmps117 ?_
   refine A0 trivial ?_
   refine Ah (A4 [((0,0),(0,0))] [((0,0),(0,0))] hsk) trivial ?_
   refine A0 (j9 e1 gn hc hg hbn e110 e102 e116 e45) ?_
   refine w7 (A3 [] hdg) trivial ?_
   refine A0 e34 ?_
   refine Ah (A4 [((0,0),(0,0)),((8,1),(8,1))] [((0,0),(0,0)),((8,1),(8,1))] hst) trivial ?_
   refine A0 trivial ?_
   refine w9 (Aa [] htx) trivial ?_
   refine A0 trivial ?_
   exact A9 (A8 [((0,0),(0,0)),((8,1),(8,1))] []) Tryz.results117 hc
  have e34:((((bAt s d1.pl:Nat):Int))==34)=false:=by simp;omega
  rw[if_neg h34]
  by_cases h91:bAt s d1.pl=91
  ·have hla:=V9 (o1:=o1) (o2:=o2) s (by omega) (DS.value s k) n (by omega) (fun d hd=>IR k d hd) (fun d hd=>ih (n+1) (by omega) d hd) (d1.go (d1.pl+1)) (by show d1.pl+1≤s.size;omega) (by show 1≤d1.pl+1;omega)
   rw[show (bAt s d1.pl==91)=true by simp[h91]]at htk91
   simp only[if_true]at htk91
   have har:=Vf (DS.list s (Di (DS.value s k)) 93 (d1.go (d1.pl+1)) []).2
   rw[if_pos h91]
   clear htk123
   generalize (DS.list s (Di (DS.value s k)) 93 (d1.go (d1.pl+1)) []).2=kids at *
   generalize (DS.list s (Di (DS.value s k)) 93 (d1.go (d1.pl+1)) []).1=d3 at *
   generalize d1.go (d1.pl+1)=d2 at *
   simp only[Au,Bg]at hsk htk91 ⊢
   refine A6 Tryz.func117 Tryz.ntmps117 ?_
   refine A0 trivial ?_
   refine Ah (A4 [((0,0),(0,0))] [((0,0),(0,0))] hsk) trivial ?_
   refine A0 (j9 e1 gn hc hg hbn e110 e102 e116 e45) ?_
   refine w7 (A3 [] hdg) trivial ?_
   refine A0 e34 ?_
   refine Ah (A4 [((0,0),(0,0))] [((0,0),(0,0))] htk91) trivial ?_
   refine A0 trivial ?_
   refine Ah (A4 [((0,0),(0,0)),((8,1),(8,1)),((1,0),(6,0)),((1,1),(90,0)),((2,0),(2,0)),((3,0),(3,0))] [((0,0),(0,0)),((8,1),(8,1)),((1,0),(6,0)),((4,0),(93,0)),((2,0),(2,0)),((3,0),(3,0))] hla) @List.map_nil.{0,0} ?_
   refine A0 trivial ?_
   refine w9 (Aa [(93,0)] har) trivial ?_
   refine A0 trivial ?_
   exact A9 (A8 [((0,0),(0,0)),((8,1),(8,1))] []) Tryz.results117 hc
  rw[show (bAt s d1.pl==91)=false by simp[h91]]at htk91
  simp only[Bool.false_eq_true,if_false]at htk91
  rw[if_neg h91]
  by_cases h123:bAt s d1.pl=123
  ·have hlo:=WF (o1:=o1) (o2:=o2) s (by omega) (DS.value s k) n (by omega) (fun d hd=>IR k d hd) (fun d hd=>ih (n+1) (by omega) d hd) (d1.go (d1.pl+1)) (by show d1.pl+1≤s.size;omega) (by show 1≤d1.pl+1;omega)
   rw[show (bAt s d1.pl==123)=true by simp[h123]]at htk123
   simp only[if_true]at htk123
   have hob:=Xm s (by omega) (DS.value s k) (d1.go (d1.pl+1))
   rw[if_pos h123]
   generalize (DS.list s (BT s (DS.value s k)) 125 (d1.go (d1.pl+1)) ([],[])).2.1=keys at *
   generalize (DS.list s (BT s (DS.value s k)) 125 (d1.go (d1.pl+1)) ([],[])).2.2=kids at *
   generalize (DS.list s (BT s (DS.value s k)) 125 (d1.go (d1.pl+1)) ([],[])).1=d3 at *
   generalize d1.go (d1.pl+1)=d2 at *
   simp only[Au,Bg]at hsk htk91 htk123 ⊢
   refine A6 Tryz.func117 Tryz.ntmps117 ?_
   refine A0 trivial ?_
   refine Ah (A4 [((0,0),(0,0))] [((0,0),(0,0))] hsk) trivial ?_
   refine A0 (j9 e1 gn hc hg hbn e110 e102 e116 e45) ?_
   refine w7 (A3 [] hdg) trivial ?_
   refine A0 e34 ?_
   refine Ah (A4 [((0,0),(0,0))] [((0,0),(0,0))] htk91) trivial ?_
   refine A0 trivial ?_
   refine Ah (A4 [((0,0),(0,0))] [((0,0),(0,0))] htk123) trivial ?_
   refine A0 trivial ?_
   refine Ah (A4 [((0,0),(0,0)),((8,1),(8,1)),((1,0),(7,0)),((1,1),(99,0)),((5,0),(8,0)),((5,1),(100,0)),((2,0),(2,0)),((3,0),(3,0))] [((0,0),(0,0)),((8,1),(8,1)),((1,0),(7,0)),((4,0),(103,0)),((5,0),(8,0)),((6,0),(103,1)),((2,0),(2,0)),((3,0),(3,0))] hlo) @List.map_nil.{0,0} ?_
   refine A0 trivial ?_
   refine w9 (Aa [(103,0),(103,1)] hob) trivial ?_
   refine A0 trivial ?_
   exact A9 (A8 [((0,0),(0,0)),((8,1),(8,1))] []) Tryz.results117 hc
  rw[show (bAt s d1.pl==123)=false by simp[h123]]at htk123
  simp only[Bool.false_eq_true,if_false]at htk123
  rw[if_neg h123]
  have hf5:=Cd s d1 5 d1.pl
  generalize d1.fail 5 d1.pl=d2 at *
  simp only[Au,Bg]at hsk htk91 htk123 hf5 ⊢
  refine A6 Tryz.func117 Tryz.ntmps117 ?_
  refine A0 trivial ?_
  refine Ah (A4 [((0,0),(0,0))] [((0,0),(0,0))] hsk) trivial ?_
  refine A0 (j9 e1 gn hc hg hbn e110 e102 e116 e45) ?_
  refine w7 (A3 [] hdg) trivial ?_
  refine A0 e34 ?_
  refine Ah (A4 [((0,0),(0,0))] [((0,0),(0,0))] htk91) trivial ?_
  refine A0 trivial ?_
  refine Ah (A4 [((0,0),(0,0))] [((0,0),(0,0))] htk123) trivial ?_
  refine A0 trivial ?_
  refine Ah (A4 [((0,0),(0,0))] [((0,0),(0,0))] hf5) trivial ?_
  refine A0 trivial ?_
  exact A9 (A8 [((0,0),(0,0)),((8,1),(8,1))] []) Tryz.results117 hc
end Go.Proofs.YtllfmaflodbieaaGreatDoor
