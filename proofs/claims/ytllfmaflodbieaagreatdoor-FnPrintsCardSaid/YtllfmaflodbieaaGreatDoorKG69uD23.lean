/- Texts of this proof: G69 D22 D23. -/
import Derived.Lib.AppendZerosOnto
import Derived.Test.YtllfmaflodbieaaGreatDoorKG43
import Derived.Test.YtllfmaflodbieaaGreatDoorKD20uD21
set_option linter.all false
set_option maxHeartbeats 8000000
namespace Go.Proofs.YtllfmaflodbieaaGreatDoor
section
open Go.RowKit
set_option maxRecDepth 10000
theorem X2 (b:Bool):AC Tryz.prog 172 [.c (.bool b)] [] (a4s b).av []:=by
 cases b
 all_goals
  refine JI Tryz.func172 Tryz.ntmps172 ?_
  refine JV q9 ?_
  exact Iu [] (by simp only[Tryz.results172,go_sem,Nat.reduceBEq,Nat.reduceLT];exact rfl) (by simp only[go_sem,Nat.reduceEqDiff,Nat.reduceAdd,Nat.reduceSub,Nat.reduceLeDiff,Nat.reduceMul,Nat.reduceBEq,Nat.reduceLT,Int.reduceToNat,reduceCtorEq,a4s,cond_true,cond_false,V.kind,V.num,V.text,V.keys,V.kids,List.map_nil]) rfl
end
section
open Go.RowKit Go.Maps
set_option maxRecDepth 10000
variable {o1 o2:Obj}
theorem a33 {s:ByteArray}{i:Nat}(hi:i<s.size) (b:Nat):i≤(JD s i b).2.pl∧(JD s i b).2.pl≤s.size:=by
 obtain⟨a1,_,a2⟩:=Rn hi
 unfold JD
 cases hd:G0 (bAt s (CA s i)) with
 |false=>simp only[if_true];exact⟨a1,a2⟩
 |true =>
  obtain⟨e1,e2,_⟩:=Ro hi hd
  simp only[Bool.true_eq_false,if_false]
  split
  ·exact⟨by show i≤Ee s i;omega,e2⟩
  ·split
   ·exact⟨by show i≤Ee s i;omega,e2⟩
   ·exact⟨by show i≤Ee s i;omega,e2⟩
theorem TT {α:Type}{s:ByteArray}{part:DS→α→DS×α}{e:Nat}(he:e<256) (hp:∀d x,d.pl≤s.size→d.pl≤(part d x).1.pl∧(part d x).1.pl≤s.size):∀(n:Nat) (d:DS) (x:α),d.pl≤s.size→d.pl≤(DS.listGo s part e n d x).1.pl∧(DS.listGo s part e n d x).1.pl≤s.size
 | 0,d,x,h=>⟨Nat.le_refl _,h⟩
 |n+1,d,x,h=>by
  obtain⟨p1,p2⟩:=hp d x h
  obtain⟨k1,k2⟩:=L0 (s:=s) p2
  unfold DS.listGo
  split
  ·exact⟨Nat.le_refl _,h⟩
  split
  ·rename_i hi
   obtain⟨h1,_,_⟩:=TO he hi
   exact⟨by show d.pl≤_+1;omega,h1⟩
  ·obtain⟨w1,w2,_⟩:=Nb (s:=s) (b:=44) (by decide) k2
   obtain⟨j1,j2⟩:=L0 (s:=s) w2
   obtain⟨g1,g2⟩:=TT he hp n _ (part d x).2 j2
   exact⟨by omega,g2⟩
theorem YS {α:Type}{s:ByteArray}{part:DS→α→DS×α}{e:Nat}(he:e<256) (hp:∀d x,d.pl≤s.size→d.pl≤(part d x).1.pl∧(part d x).1.pl≤s.size) (d:DS) (x:α) (h:d.pl≤s.size):d.pl≤(DS.list s part e d x).1.pl∧(DS.list s part e d x).1.pl≤s.size:=by
 obtain⟨k1,k2⟩:=L0 (s:=s) h
 unfold DS.list
 split
 ·rename_i hi
  obtain⟨h1,_,_⟩:=TO he hi
  exact⟨by show d.pl≤_+1;omega,h1⟩
 ·obtain⟨g1,g2⟩:=TT he hp (s.size+1) (d.skip s) x k2
  exact⟨by omega,g2⟩
theorem a3j {s:ByteArray}{rd:DS→V×DS}(h:∀d,d.pl≤s.size→d.pl≤(rd d).2.pl∧(rd d).2.pl≤s.size) (d:DS) (x:List V) (hd:d.pl≤s.size):d.pl≤(Jg rd d x).1.pl∧(Jg rd d x).1.pl≤s.size:=h d hd
theorem a5k {s:ByteArray}{rd:DS→V×DS}(h:∀d,d.pl≤s.size→d.pl≤(rd d).2.pl∧(rd d).2.pl≤s.size) (d:DS) (x:List ByteArray×List V) (hd:d.pl≤s.size):d.pl≤(JC s rd d x).1.pl∧(JC s rd d x).1.pl≤s.size:=by
 obtain⟨s1,s2⟩:=Vj d hd
 obtain⟨a1,a2⟩:=L0 (s:=s) s2
 obtain⟨a3,a4,_⟩:=Nb (s:=s) (b:=58) (by decide) a2
 obtain⟨v1,v2⟩:=h _ a4
 exact⟨by show d.pl≤(rd _).2.pl;omega,v2⟩
theorem Oo {s:ByteArray}:∀(k:Nat) (d:DS),d.pl≤s.size→d.pl≤(DS.value s k d).2.pl∧(DS.value s k d).2.pl≤s.size
 | 0,d,h=>by
  obtain⟨k1,k2⟩:=L0 (s:=s) h
  unfold DS.value
  split<;>exact⟨by rw[Lm];exact k1,by rw[Lm];exact k2⟩
 |k+1,d,h=>by
  obtain⟨k1,k2⟩:=L0 (s:=s) h
  have hw:∀l:List Nat,(∀b∈l,b<256)→d.pl≤((d.skip s).word s l).pl∧((d.skip s).word s l).pl≤s.size:=fun l hl=>by
   obtain⟨g1,g2⟩:=Q7 (l:=l) hl k2
   exact⟨by omega,g2⟩
  unfold DS.value
  simp only
  split
  ·exact⟨by rw[Lm];exact k1,by rw[Lm];exact k2⟩
  rename_i hlt
  split
  ·exact⟨k1,k2⟩
  split
  ·exact hw _ (by decide)
  split
  ·exact hw _ (by decide)
  split
  ·exact hw _ (by decide)
  split
  ·obtain⟨g1,g2⟩:=a33 (s:=s) (i:=(d.skip s).pl) (by omega) (d.skip s).bad
   exact⟨by omega,g2⟩
  split
  ·obtain⟨g1,g2⟩:=Vj (d.skip s) k2
   exact⟨Nat.le_trans k1 g1,g2⟩
  split
  ·obtain⟨g1,g2⟩:=YS (s:=s) (e:=93) (by decide) (a3j fun d hd=>Oo k d hd) ((d.skip s).go ((d.skip s).pl+1)) [] (by show _+1≤_;omega)
   rw[S4]at g1
   exact⟨Nat.le_trans (Nat.le_succ_of_le k1) g1,g2⟩
  split
  ·obtain⟨g1,g2⟩:=YS (s:=s) (e:=125) (by decide) (a5k fun d hd=>Oo k d hd) ((d.skip s).go ((d.skip s).pl+1)) ([],[]) (by show _+1≤_;omega)
   rw[S4]at g1
   exact⟨Nat.le_trans (Nat.le_succ_of_le k1) g1,g2⟩
  ·exact⟨by rw[Lm];exact k1,by rw[Lm];exact k2⟩
theorem ZA (d:DS) (c c':Int) (p p':Nat) (hc:c≠0):(d.fail c p).fail c' p'=d.fail c p:=by
 unfold DS.fail
 by_cases h:d.code=0
 ·simp[h,hc]
 ·simp[h]
theorem UN (d:DS) (c:Int) (p:Nat) (hc:c≠0):(d.fail c p).code≠0:=by
 unfold DS.fail
 split
 ·exact hc
 ·rename_i h;exact h
theorem TU {s:ByteArray}{rd:DS→V×DS}:∀(n:Nat) (d:DS) (x:List ByteArray×List V),x.1.length=x.2.length→(DS.listGo s (JC s rd) 125 n d x).2.1.length=(DS.listGo s (JC s rd) 125 n d x).2.2.length
 | 0,_,_,h=>h
 |n+1,d,x,h=>by
  have hm:(JC s rd d x).2.1.length=(JC s rd d x).2.2.length:=by unfold JC;simp[h]
  unfold DS.listGo
  split
  ·exact h
  split
  ·exact hm
  ·exact TU n _ _ hm
theorem QO {α:Type}{s:ByteArray}{part:DS→α→DS×α}{e:Nat}(he:e<256) (len:α→Nat) (hl:∀d x,len (part d x).2=len x+1):∀(n:Nat) (d:DS) (x:α),len (DS.listGo s part e n d x).2≤len x+n
 | 0,d,x=>Nat.le_refl _
 |n+1,d,x=>by
  unfold DS.listGo
  split
  ·exact Nat.le_add_right _ _
  split
  ·show len (part d x).2≤_
   rw[hl];omega
  ·have:=QO (s:=s) he len hl n ((((part d x).1.skip s).want s 44).skip s) (part d x).2
   rw[hl]at this
   omega
theorem OJ {s:ByteArray}:∀(n:Nat) (d:DS) (out:ByteArray),(d.strGo s n out).1.size≤out.size+n
 | 0,_,_=>Nat.le_refl _
 |n+1,d,out=>by
  unfold DS.strGo
  split
  ·exact Nat.le_add_right _ _
  split
  ·exact Nat.le_add_right _ _
  split
  ·have:=OJ (s:=s) n (d.fail 5 d.pl) out;omega
  split
  ·have:=OJ (s:=s) n ((d.go (d.pl+1)).escape s).2 (out++Je ((d.go (d.pl+1)).escape s).1)
   rw[Nz]at this
   omega
  ·have:=OJ (s:=s) n (d.go (d.pl+1)) (out++Je (bAt s d.pl))
   rw[Nz]at this
   omega
theorem a2p {s:ByteArray}(d:DS):(d.str s).1.size≤s.size+2:=by
 have:=OJ (s:=s) (s.size+2) (d.want s 34) ByteArray.empty
 unfold DS.str
 simpa using this
theorem St {s:ByteArray}{rd:DS→V×DS}:∀(n:Nat) (d:DS) (x:List ByteArray×List V),(∀k∈x.1,k.size≤s.size+2)→∀k∈(DS.listGo s (JC s rd) 125 n d x).2.1,k.size≤s.size+2
 | 0,_,_,h=>h
 |n+1,d,x,h=>by
  have hm:∀k∈(JC s rd d x).2.1,k.size≤s.size+2:=by
   unfold JC
   intro k hk
   rcases List.mem_append.1 hk with hk | hk
   ·exact h k hk
   ·rw[List.mem_singleton.1 hk];exact a2p d
  unfold DS.listGo
  split
  ·exact h
  split
  ·exact hm
  ·exact St n _ _ hm
theorem a38 (s:ByteArray) (hs:s.size≤100000) (rd:DS→V×DS) (d:DS):AC Tryz.prog 155 [.c (.sl ((DS.list s (JC s rd) 125 d ([],[])).2.1.map CX)),.c (.sl ((DS.list s (JC s rd) 125 d ([],[])).2.2.map V.cs))] [] (Jm (DS.list s (JC s rd) 125 d ([],[])).2.1 (DS.list s (JC s rd) 125 d ([],[])).2.2).av []:=by
 have h:(DS.list s (JC s rd) 125 d ([],[])).2.1.length=(DS.list s (JC s rd) 125 d ([],[])).2.2.length∧(DS.list s (JC s rd) 125 d ([],[])).2.1.length≤s.size+1∧∀k∈(DS.list s (JC s rd) 125 d ([],[])).2.1,k.size≤s.size+2:=by
  unfold DS.list
  split
  ·exact⟨rfl,Nat.zero_le _,by simp⟩
  ·refine⟨TU _ _ _ rfl,?_,St _ _ _ (by simp)⟩
   have:=QO (s:=s) (part:=JC s rd) (e:=125) (by decide) (fun x=>x.1.length) (fun d x=>by unfold JC;simp) (s.size+1) (d.skip s) ([],[])
   simpa using this
 have h2:=U2 _ _ h.1 (by omega) (fun k hk=>by have:=h.2.2 k hk;omega)
 rw[U3]at h2
 exact h2
end
section
open Go.RowKit Go.Maps
set_option maxRecDepth 10000
variable {o1 o2:Obj}
theorem Oz:Tryz.prog.underlying 203=some (.map 5 9):=Tryz.underlying203
def a24:List (Lit×Value):=[(.int .u8 102,.string ⟨#[102,97,108,115,101]⟩),(.int .u8 116,.string ⟨#[116,114,117,101]⟩)]
theorem OO (s:ByteArray) (hs:s.size≤10000):∀(k n:Nat),n+k=21→∀d:DS,d.pl≤s.size→AC Tryz.prog 117 [.ptr (0,0) 0,.c (.int .i64 n)] (dsE o1 o2 s d) (DS.value s k d).1.av (dsE o1 o2 s (DS.value s k d).2):=by
 intro k
 have hs':s.size≤1000000:=by omega
 induction k with
 |zero =>
  intro n hnk d hd
  have hsk:=LN s hs' d hd
  have hp:=(L0 (s:=s) hd).2
  have gn:decide ((n:Int)>20)=true:=decide_eq_true (by omega)
  unfold DS.value
  generalize d.skip s=d1 at *
  have hf5:=KO s d1 5 d1.pl
  have hf7:=KO s d1 7 d1.pl
  by_cases hz:s.size≤d1.pl
  ·have e1:((d1.pl:Int)==(s.size:Int))=true:=by simp;omega
   rw[if_pos hz]
   have hff:=KO s (d1.fail 5 d1.pl) 7 (d1.fail 5 d1.pl).pl
   rw[ZA _ _ _ _ _ (by decide)]at hff
   have hne:=UN d1 5 d1.pl (by decide)
   generalize d1.fail 5 d1.pl=d2 at *
   have hc:(d2.code != 0)=true:=by simpa using hne
   simp only[K2,Kh]at hsk hf5 hff ⊢
   refine JI Tryz.func117 Tryz.ntmps117 ?_
   refine JV q9 ?_
   refine JO (Im [((0,0),(0,0))] [((0,0),(0,0))] hsk) q9 ?_
   refine JV e1 ?_
   refine JO (Im [((0,0),(0,0))] [((0,0),(0,0))] hf5) q9 ?_
   refine JV gn ?_
   refine JO (Im [((0,0),(0,0))] [((0,0),(0,0))] hff) q9 ?_
   refine JV hc ?_
   exact JJ (JN [((0,0),(0,0)),((8,1),(8,1))] []) Tryz.results117 hc
  ·have e1:((d1.pl:Int)==(s.size:Int))=false:=by simp;omega
   rw[if_neg hz]
   have hne:=UN d1 7 d1.pl (by decide)
   generalize d1.fail 7 d1.pl=d2 at *
   have hc:(d2.code != 0)=true:=by simpa using hne
   simp only[K2,Kh]at hsk hf7 ⊢
   refine JI Tryz.func117 Tryz.ntmps117 ?_
   refine JV q9 ?_
   refine JO (Im [((0,0),(0,0))] [((0,0),(0,0))] hsk) q9 ?_
   refine JV (j2 e1 gn) ?_
   refine JO (Im [((0,0),(0,0))] [((0,0),(0,0))] hf7) q9 ?_
   refine JV hc ?_
   exact JJ (JN [((0,0),(0,0)),((8,1),(8,1))] []) Tryz.results117 hc
 |succ k ih =>
  intro n hnk d hd
  have hsk:=LN s hs' d hd
  have hp:=(L0 (s:=s) hd).2
  have gn:decide ((n:Int)>20)=false:=decide_eq_false (by omega)
  unfold DS.value
  simp only
  generalize d.skip s=d1 at *
  by_cases hz:s.size≤d1.pl
  ·have hf5:=KO s d1 5 d1.pl
   have e1:((d1.pl:Int)==(s.size:Int))=true:=by simp;omega
   rw[if_pos hz]
   have hne:=UN d1 5 d1.pl (by decide)
   generalize d1.fail 5 d1.pl=d2 at *
   have hc:(d2.code != 0)=true:=by simpa using hne
   simp only[K2,Kh]at hsk hf5 ⊢
   refine JI Tryz.func117 Tryz.ntmps117 ?_
   refine JV q9 ?_
   refine JO (Im [((0,0),(0,0))] [((0,0),(0,0))] hsk) q9 ?_
   refine JV e1 ?_
   refine JO (Im [((0,0),(0,0))] [((0,0),(0,0))] hf5) q9 ?_
   refine JV (j2 gn hc) ?_
   exact JJ (JN [((0,0),(0,0)),((8,1),(8,1))] []) Tryz.results117 hc
  have e1:((d1.pl:Int)==(s.size:Int))=false:=by simp;omega
  rw[if_neg hz]
  by_cases hc0:d1.code=0
  case neg =>
   have hc:(d1.code != 0)=true:=by simpa using hc0
   rw[if_pos hc0]
   simp only[K2,Kh]at hsk ⊢
   refine JI Tryz.func117 Tryz.ntmps117 ?_
   refine JV q9 ?_
   refine JO (Im [((0,0),(0,0))] [((0,0),(0,0))] hsk) q9 ?_
   refine JV (j3 e1 gn hc) ?_
   exact JJ (JN [((0,0),(0,0)),((8,1),(8,1))] []) Tryz.results117 hc
  rw[if_neg (by simpa using hc0)]
  have hc:(d1.code != 0)=false:=by simp[hc0]
  have hlt:d1.pl<s.size:=by omega
  obtain⟨b,hg,hb⟩:=LO hlt
  have hbn:((b.toNat:Nat):Int)=((bAt s d1.pl:Nat):Int):=by rw[hb]
  have hdg:=Pf b.toNat
  rw[←hb]at hdg
  have his:∀c:Nat,d1.is s c=(bAt s d1.pl==c):=fun c=>by unfold DS.is;simp[hc0]
  have htk91:=Mb s hs' d1 hp 91 (by decide)
  have htk123:=Mb s hs' d1 hp 123 (by decide)
  unfold DS.take at htk91 htk123
  rw[his]at htk91 htk123
  by_cases h110:bAt s d1.pl=110
  ·have e110:((((bAt s d1.pl:Nat):Int))==110)=true:=by simp[h110]
   have hwd:=Rt s hs' d1 hp ⟨#[110,117,108,108]⟩ (by decide)
   change AC _ _ _ _ _ (dsM s (d1.word s [110,117,108,108]))at hwd
   have hnl:=PO
   rw[if_pos h110]
   clear htk91 htk123
   generalize d1.word s [110,117,108,108]=d2 at *
   simp only[K2,Kh]at hsk hwd ⊢
   refine JI Tryz.func117 Tryz.ntmps117 ?_
   refine JV q9 ?_
   refine JO (Im [((0,0),(0,0))] [((0,0),(0,0))] hsk) q9 ?_
   refine JV (j6 e1 gn hc hg hbn e110) ?_
   refine JO (Im [((0,0),(0,0))] [((0,0),(0,0))] hwd) q9 ?_
   refine JV q9 ?_
   refine w9 (Ja [] hnl) q9 ?_
   refine JV q9 ?_
   exact JJ (JN [((0,0),(0,0)),((8,1),(8,1))] []) Tryz.results117 hc
  have e110:((((bAt s d1.pl:Nat):Int))==110)=false:=by simp;omega
  rw[if_neg h110]
  by_cases h102:bAt s d1.pl=102
  ·have e102:((((bAt s d1.pl:Nat):Int))==102)=true:=by simp[h102]
   have hwd:=Rt s hs' d1 hp ⟨#[102,97,108,115,101]⟩ (by decide)
   change AC _ _ _ _ _ (dsM s (d1.word s [102,97,108,115,101]))at hwd
   have htr:=X2 false
   have hbc:((b.toNat:Nat):Int)=102:=by rw[←hb,h102];rfl
   have hb116:(((102:Int))==116)=false:=rfl
   have hb102:(((102:Int))==102)=true:=rfl
   have hb110:(((102:Int))==110)=false:=rfl
   rw[if_pos h102]
   clear htk91 htk123
   generalize d1.word s [102,97,108,115,101]=d2 at *
   simp only[K2,Kh]at hsk hwd ⊢
   refine JI Tryz.func117 Tryz.ntmps117 ?_
   refine JV q9 ?_
   refine JO (Im [((0,0),(0,0))] [((0,0),(0,0))] hsk) q9 ?_
   refine JV (j8 e1 gn hc hg hbc hb110 hb102 hb116) ?_
   refine w4 (WC 5) q9 ?_
   refine w7 (N7 Oz (int_keyed Tryz.underlying5) (l:=[]) (kl:=.int .u8 102) (key:=.int .u8 102) (val:=.string ⟨#[102,97,108,115,101]⟩) (cx:=.int .u8 102) (cy:=.str ⟨#[102,97,108,115,101]⟩) trivial (by simp) rfl rfl (keyOf_int_mk Tryz.underlying5 (by decide))) q9 ?_
   refine w7 (N7 Oz (int_keyed Tryz.underlying5) (l:=[(.int .u8 102,.string ⟨#[102,97,108,115,101]⟩)]) (kl:=.int .u8 116) (key:=.int .u8 116) (val:=.string ⟨#[116,114,117,101]⟩) (cx:=.int .u8 116) (cy:=.str ⟨#[116,114,117,101]⟩) trivial (by simp) rfl rfl (keyOf_int_mk Tryz.underlying5 (by decide))) q9 ?_
   refine JV hbc ?_
   refine w6 (WB (l:=a24) Oz (int_keyed Tryz.underlying5) Tryz.zeroValue9 (kl:=.int .u8 102) (key:=.int .u8 102) (cx:=.int .u8 102) (c:=.str ⟨#[102,97,108,115,101]⟩) rfl (keyOf_int_mk Tryz.underlying5 (by decide)) rfl rfl) q9 ?_
   refine JV q9 ?_
   refine JO (Im [((0,0),(0,0))] [((0,0),(0,0))] hwd) q9 ?_
   refine JV (j2 hbc hb116) ?_
   refine w9 (Ja [] htr) q9 ?_
   refine JV q9 ?_
   exact JJ (JN [((0,0),(0,0)),((8,1),(8,1))] []) Tryz.results117 hc
  have e102:((((bAt s d1.pl:Nat):Int))==102)=false:=by simp;omega
  rw[if_neg h102]
  by_cases h116:bAt s d1.pl=116
  ·have e116:((((bAt s d1.pl:Nat):Int))==116)=true:=by simp[h116]
   have hwd:=Rt s hs' d1 hp ⟨#[116,114,117,101]⟩ (by decide)
   change AC _ _ _ _ _ (dsM s (d1.word s [116,114,117,101]))at hwd
   have htr:=X2 true
   have hbc:((b.toNat:Nat):Int)=116:=by rw[←hb,h116];rfl
   have hb116:(((116:Int))==116)=true:=rfl
   have hb102:(((116:Int))==102)=false:=rfl
   have hb110:(((116:Int))==110)=false:=rfl
   rw[if_pos h116]
   clear htk91 htk123
   generalize d1.word s [116,114,117,101]=d2 at *
   simp only[K2,Kh]at hsk hwd ⊢
   refine JI Tryz.func117 Tryz.ntmps117 ?_
   refine JV q9 ?_
   refine JO (Im [((0,0),(0,0))] [((0,0),(0,0))] hsk) q9 ?_
   refine JV (j8 e1 gn hc hg hbc hb110 hb102 hb116) ?_
   refine w4 (WC 5) q9 ?_
   refine w7 (N7 Oz (int_keyed Tryz.underlying5) (l:=[]) (kl:=.int .u8 102) (key:=.int .u8 102) (val:=.string ⟨#[102,97,108,115,101]⟩) (cx:=.int .u8 102) (cy:=.str ⟨#[102,97,108,115,101]⟩) trivial (by simp) rfl rfl (keyOf_int_mk Tryz.underlying5 (by decide))) q9 ?_
   refine w7 (N7 Oz (int_keyed Tryz.underlying5) (l:=[(.int .u8 102,.string ⟨#[102,97,108,115,101]⟩)]) (kl:=.int .u8 116) (key:=.int .u8 116) (val:=.string ⟨#[116,114,117,101]⟩) (cx:=.int .u8 116) (cy:=.str ⟨#[116,114,117,101]⟩) trivial (by simp) rfl rfl (keyOf_int_mk Tryz.underlying5 (by decide))) q9 ?_
   refine JV hbc ?_
   refine w6 (WB (l:=a24) Oz (int_keyed Tryz.underlying5) Tryz.zeroValue9 (kl:=.int .u8 116) (key:=.int .u8 116) (cx:=.int .u8 116) (c:=.str ⟨#[116,114,117,101]⟩) rfl (keyOf_int_mk Tryz.underlying5 (by decide)) rfl rfl) q9 ?_
   refine JV q9 ?_
   refine JO (Im [((0,0),(0,0))] [((0,0),(0,0))] hwd) q9 ?_
   refine JV (j2 hbc hb116) ?_
   refine w9 (Ja [] htr) q9 ?_
   refine JV q9 ?_
   exact JJ (JN [((0,0),(0,0)),((8,1),(8,1))] []) Tryz.results117 hc
  have e116:((((bAt s d1.pl:Nat):Int))==116)=false:=by simp;omega
  rw[if_neg h116]
  by_cases hnum:bAt s d1.pl=45∨G0 (bAt s d1.pl)=true
  ·have hno:=V1 (o1:=o1) (o2:=o2) s hs' d1.pl hlt d1.bad
   have hd1:(⟨d1.pl,0,d1.bad⟩:DS)=d1:=by cases d1;simp only at hc0;subst hc0;rfl
   rw[hd1]at hno
   rw[if_pos hnum]
   clear htk91 htk123
   generalize JD s d1.pl d1.bad=R at *
   simp only[K2,Kh]at hsk hno ⊢
   by_cases h45:bAt s d1.pl=45
   ·have e45:((((bAt s d1.pl:Nat):Int))==45)=true:=by simp[h45]
    refine JI Tryz.func117 Tryz.ntmps117 ?_
    refine JV q9 ?_
    refine JO (Im [((0,0),(0,0))] [((0,0),(0,0))] hsk) q9 ?_
    refine JV (j9 e1 gn hc hg hbn e110 e102 e116 e45) ?_
    refine KC (K6 [] [((0,0),(0,0)),((8,1),(8,1))] [((0,0),(0,0)),((8,1),(8,1))] hno) q9 ?_
    refine JV q9 ?_
    exact JJ (JN [((0,0),(0,0)),((8,1),(8,1))] []) Tryz.results117 hc
   ·have e45:((((bAt s d1.pl:Nat):Int))==45)=false:=by simp;omega
    have hdt:G0 (bAt s d1.pl)=true:=hnum.resolve_left h45
    rw[hdt]at hdg
    refine JI Tryz.func117 Tryz.ntmps117 ?_
    refine JV q9 ?_
    refine JO (Im [((0,0),(0,0))] [((0,0),(0,0))] hsk) q9 ?_
    refine JV (j9 e1 gn hc hg hbn e110 e102 e116 e45) ?_
    refine w7 (Ju [] hdg) q9 ?_
    refine JV q9 ?_
    refine KC (K6 [] [((0,0),(0,0)),((8,1),(8,1))] [((0,0),(0,0)),((8,1),(8,1))] hno) q9 ?_
    refine JV q9 ?_
    exact JJ (JN [((0,0),(0,0)),((8,1),(8,1))] []) Tryz.results117 hc
  have e45:((((bAt s d1.pl:Nat):Int))==45)=false:=by
   have:bAt s d1.pl≠45:=fun h=>hnum (.inl h)
   simp
   omega
  have hdt:G0 (bAt s d1.pl)=false:=by cases hq:G0 (bAt s d1.pl) with
   |false=>rfl
   |true=>exact absurd (.inr hq) hnum
  rw[hdt]at hdg
  rw[if_neg hnum]
  by_cases h34:bAt s d1.pl=34
  ·have e34:((((bAt s d1.pl:Nat):Int))==34)=true:=by simp[h34]
   have hst:=Za (o1:=o1) (o2:=o2) s (by omega) d1 hp
   have htx:=Ze (d1.str s).1
   rw[if_pos h34]
   clear htk91 htk123
   generalize (d1.str s).1=t at *
   generalize (d1.str s).2=d2 at *
   simp only[K2,Kh]at hsk hst ⊢
   refine JI Tryz.func117 Tryz.ntmps117 ?_
   refine JV q9 ?_
   refine JO (Im [((0,0),(0,0))] [((0,0),(0,0))] hsk) q9 ?_
   refine JV (j9 e1 gn hc hg hbn e110 e102 e116 e45) ?_
   refine w7 (Ju [] hdg) q9 ?_
   refine JV e34 ?_
   refine JO (Im [((0,0),(0,0)),((8,1),(8,1))] [((0,0),(0,0)),((8,1),(8,1))] hst) q9 ?_
   refine JV q9 ?_
   refine w9 (Ja [] htx) q9 ?_
   refine JV q9 ?_
   exact JJ (JN [((0,0),(0,0)),((8,1),(8,1))] []) Tryz.results117 hc
  have e34:((((bAt s d1.pl:Nat):Int))==34)=false:=by simp;omega
  rw[if_neg h34]
  by_cases h91:bAt s d1.pl=91
  ·have hla:=a08 (o1:=o1) (o2:=o2) s (by omega) (DS.value s k) n (by omega) (fun d hd=>Oo k d hd) (fun d hd=>ih (n+1) (by omega) d hd) (d1.go (d1.pl+1)) (by show d1.pl+1≤s.size;omega) (by show 1≤d1.pl+1;omega)
   rw[show (bAt s d1.pl==91)=true by simp[h91]]at htk91
   simp only[if_true]at htk91
   have har:=Pw (DS.list s (Jg (DS.value s k)) 93 (d1.go (d1.pl+1)) []).2
   rw[if_pos h91]
   clear htk123
   generalize (DS.list s (Jg (DS.value s k)) 93 (d1.go (d1.pl+1)) []).2=kids at *
   generalize (DS.list s (Jg (DS.value s k)) 93 (d1.go (d1.pl+1)) []).1=d3 at *
   generalize d1.go (d1.pl+1)=d2 at *
   simp only[K2,Kh]at hsk htk91 ⊢
   refine JI Tryz.func117 Tryz.ntmps117 ?_
   refine JV q9 ?_
   refine JO (Im [((0,0),(0,0))] [((0,0),(0,0))] hsk) q9 ?_
   refine JV (j9 e1 gn hc hg hbn e110 e102 e116 e45) ?_
   refine w7 (Ju [] hdg) q9 ?_
   refine JV e34 ?_
   refine JO (Im [((0,0),(0,0))] [((0,0),(0,0))] htk91) q9 ?_
   refine JV q9 ?_
   refine JO (Im [((0,0),(0,0)),((8,1),(8,1)),((1,0),(6,0)),((1,1),(90,0)),((2,0),(2,0)),((3,0),(3,0))] [((0,0),(0,0)),((8,1),(8,1)),((1,0),(6,0)),((4,0),(93,0)),((2,0),(2,0)),((3,0),(3,0))] hla) @List.map_nil.{0,0} ?_
   refine JV q9 ?_
   refine w9 (Ja [(93,0)] har) q9 ?_
   refine JV q9 ?_
   exact JJ (JN [((0,0),(0,0)),((8,1),(8,1))] []) Tryz.results117 hc
  rw[show (bAt s d1.pl==91)=false by simp[h91]]at htk91
  simp only[Bool.false_eq_true,if_false]at htk91
  rw[if_neg h91]
  by_cases h123:bAt s d1.pl=123
  ·have hlo:=a09 (o1:=o1) (o2:=o2) s (by omega) (DS.value s k) n (by omega) (fun d hd=>Oo k d hd) (fun d hd=>ih (n+1) (by omega) d hd) (d1.go (d1.pl+1)) (by show d1.pl+1≤s.size;omega) (by show 1≤d1.pl+1;omega)
   rw[show (bAt s d1.pl==123)=true by simp[h123]]at htk123
   simp only[if_true]at htk123
   have hob:=a38 s (by omega) (DS.value s k) (d1.go (d1.pl+1))
   rw[if_pos h123]
   generalize (DS.list s (JC s (DS.value s k)) 125 (d1.go (d1.pl+1)) ([],[])).2.1=keys at *
   generalize (DS.list s (JC s (DS.value s k)) 125 (d1.go (d1.pl+1)) ([],[])).2.2=kids at *
   generalize (DS.list s (JC s (DS.value s k)) 125 (d1.go (d1.pl+1)) ([],[])).1=d3 at *
   generalize d1.go (d1.pl+1)=d2 at *
   simp only[K2,Kh]at hsk htk91 htk123 ⊢
   refine JI Tryz.func117 Tryz.ntmps117 ?_
   refine JV q9 ?_
   refine JO (Im [((0,0),(0,0))] [((0,0),(0,0))] hsk) q9 ?_
   refine JV (j9 e1 gn hc hg hbn e110 e102 e116 e45) ?_
   refine w7 (Ju [] hdg) q9 ?_
   refine JV e34 ?_
   refine JO (Im [((0,0),(0,0))] [((0,0),(0,0))] htk91) q9 ?_
   refine JV q9 ?_
   refine JO (Im [((0,0),(0,0))] [((0,0),(0,0))] htk123) q9 ?_
   refine JV q9 ?_
   refine JO (Im [((0,0),(0,0)),((8,1),(8,1)),((1,0),(7,0)),((1,1),(99,0)),((5,0),(8,0)),((5,1),(100,0)),((2,0),(2,0)),((3,0),(3,0))] [((0,0),(0,0)),((8,1),(8,1)),((1,0),(7,0)),((4,0),(103,0)),((5,0),(8,0)),((6,0),(103,1)),((2,0),(2,0)),((3,0),(3,0))] hlo) @List.map_nil.{0,0} ?_
   refine JV q9 ?_
   refine w9 (Ja [(103,0),(103,1)] hob) q9 ?_
   refine JV q9 ?_
   exact JJ (JN [((0,0),(0,0)),((8,1),(8,1))] []) Tryz.results117 hc
  rw[show (bAt s d1.pl==123)=false by simp[h123]]at htk123
  simp only[Bool.false_eq_true,if_false]at htk123
  rw[if_neg h123]
  have hf5:=KO s d1 5 d1.pl
  generalize d1.fail 5 d1.pl=d2 at *
  simp only[K2,Kh]at hsk htk91 htk123 hf5 ⊢
  refine JI Tryz.func117 Tryz.ntmps117 ?_
  refine JV q9 ?_
  refine JO (Im [((0,0),(0,0))] [((0,0),(0,0))] hsk) q9 ?_
  refine JV (j9 e1 gn hc hg hbn e110 e102 e116 e45) ?_
  refine w7 (Ju [] hdg) q9 ?_
  refine JV e34 ?_
  refine JO (Im [((0,0),(0,0))] [((0,0),(0,0))] htk91) q9 ?_
  refine JV q9 ?_
  refine JO (Im [((0,0),(0,0))] [((0,0),(0,0))] htk123) q9 ?_
  refine JV q9 ?_
  refine JO (Im [((0,0),(0,0))] [((0,0),(0,0))] hf5) q9 ?_
  refine JV q9 ?_
  exact JJ (JN [((0,0),(0,0)),((8,1),(8,1))] []) Tryz.results117 hc
end
end Go.Proofs.YtllfmaflodbieaaGreatDoor
