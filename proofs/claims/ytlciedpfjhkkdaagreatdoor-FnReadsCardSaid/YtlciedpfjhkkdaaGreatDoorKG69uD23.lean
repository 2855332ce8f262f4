/- Texts of this proof: G69 D22 D23. -/
import Derived.Lib.AppendZerosOnto
import Derived.Test.YtlciedpfjhkkdaaGreatDoorKG43
import Derived.Test.YtlciedpfjhkkdaaGreatDoorKD20uD21
set_option linter.all false
set_option maxHeartbeats 8000000
namespace Go.Proofs.YtlciedpfjhkkdaaGreatDoor
section
open Go.RowKit
set_option maxRecDepth 10000
theorem truth_ac (b:Bool):AC Tryz.prog 135 [.c (.bool b)] [] (boolV b).av []:=by
 cases b
 all_goals
  refine wEnter Tryz.func135 Tryz.ntmps135 ?_
  refine wRUN trivial ?_
  exact ret_data [] (by simp only[Tryz.results135,go_sem,Nat.reduceBEq,Nat.reduceLT];exact rfl) (by simp only[go_sem,Nat.reduceEqDiff,Nat.reduceAdd,Nat.reduceSub,Nat.reduceLeDiff,Nat.reduceMul,Nat.reduceBEq,Nat.reduceLT,Int.reduceToNat,reduceCtorEq,boolV,cond_true,cond_false,V.kind,V.num,V.text,V.keys,V.kids,List.map_nil]) rfl
end
section
open Go.RowKit Go.Maps
set_option maxRecDepth 10000
variable {o1 o2:Obj}
theorem numI_in {s:ByteArray}{i:Nat}(hi:i<s.size) (b:Nat):i≤(numI s i b).2.pl∧(numI s i b).2.pl≤s.size:=by
 obtain⟨a1,_,a2⟩:=numA_le hi
 unfold numI
 cases hd:digB (bAt s (numA s i)) with
 |false=>simp only[if_true];exact⟨a1,a2⟩
 |true =>
  obtain⟨e1,e2,_⟩:=numE_in hi hd
  simp only[Bool.true_eq_false,if_false]
  split
  ·exact⟨by show i≤numE s i;omega,e2⟩
  ·split
   ·exact⟨by show i≤numE s i;omega,e2⟩
   ·exact⟨by show i≤numE s i;omega,e2⟩
theorem listGo_in {α:Type}{s:ByteArray}{part:DS→α→DS×α}{e:Nat}(he:e<256) (hp:∀d x,d.pl≤s.size→d.pl≤(part d x).1.pl∧(part d x).1.pl≤s.size):∀(n:Nat) (d:DS) (x:α),d.pl≤s.size→d.pl≤(DS.listGo s part e n d x).1.pl∧(DS.listGo s part e n d x).1.pl≤s.size
 | 0,d,x,h=>⟨Nat.le_refl _,h⟩
 |n+1,d,x,h=>by
  obtain⟨p1,p2⟩:=hp d x h
  obtain⟨k1,k2⟩:=skip_pl (s:=s) p2
  unfold DS.listGo
  split
  ·exact⟨Nat.le_refl _,h⟩
  split
  ·rename_i hi
   obtain⟨h1,_,_⟩:=is_lt he hi
   exact⟨by show d.pl≤_+1;omega,h1⟩
  ·obtain⟨w1,w2,_⟩:=want_pl (s:=s) (b:=44) (by decide) k2
   obtain⟨j1,j2⟩:=skip_pl (s:=s) w2
   obtain⟨g1,g2⟩:=listGo_in he hp n _ (part d x).2 j2
   exact⟨by omega,g2⟩
theorem list_in {α:Type}{s:ByteArray}{part:DS→α→DS×α}{e:Nat}(he:e<256) (hp:∀d x,d.pl≤s.size→d.pl≤(part d x).1.pl∧(part d x).1.pl≤s.size) (d:DS) (x:α) (h:d.pl≤s.size):d.pl≤(DS.list s part e d x).1.pl∧(DS.list s part e d x).1.pl≤s.size:=by
 obtain⟨k1,k2⟩:=skip_pl (s:=s) h
 unfold DS.list
 split
 ·rename_i hi
  obtain⟨h1,_,_⟩:=is_lt he hi
  exact⟨by show d.pl≤_+1;omega,h1⟩
 ·obtain⟨g1,g2⟩:=listGo_in he hp (s.size+1) (d.skip s) x k2
  exact⟨by omega,g2⟩
theorem elem_in {s:ByteArray}{rd:DS→V×DS}(h:∀d,d.pl≤s.size→d.pl≤(rd d).2.pl∧(rd d).2.pl≤s.size) (d:DS) (x:List V) (hd:d.pl≤s.size):d.pl≤(elemP rd d x).1.pl∧(elemP rd d x).1.pl≤s.size:=h d hd
theorem mem_in {s:ByteArray}{rd:DS→V×DS}(h:∀d,d.pl≤s.size→d.pl≤(rd d).2.pl∧(rd d).2.pl≤s.size) (d:DS) (x:List ByteArray×List V) (hd:d.pl≤s.size):d.pl≤(memP s rd d x).1.pl∧(memP s rd d x).1.pl≤s.size:=by
 obtain⟨s1,s2⟩:=strD_in d hd
 obtain⟨a1,a2⟩:=skip_pl (s:=s) s2
 obtain⟨a3,a4,_⟩:=want_pl (s:=s) (b:=58) (by decide) a2
 obtain⟨v1,v2⟩:=h _ a4
 exact⟨by show d.pl≤(rd _).2.pl;omega,v2⟩
theorem value_in {s:ByteArray}:∀(k:Nat) (d:DS),d.pl≤s.size→d.pl≤(DS.value s k d).2.pl∧(DS.value s k d).2.pl≤s.size
 | 0,d,h=>by
  obtain⟨k1,k2⟩:=skip_pl (s:=s) h
  unfold DS.value
  split<;>exact⟨by rw[fail_pl];exact k1,by rw[fail_pl];exact k2⟩
 |k+1,d,h=>by
  obtain⟨k1,k2⟩:=skip_pl (s:=s) h
  have hw:∀l:List Nat,(∀b∈l,b<256)→d.pl≤((d.skip s).word s l).pl∧((d.skip s).word s l).pl≤s.size:=fun l hl=>by
   obtain⟨g1,g2⟩:=word_pl (l:=l) hl k2
   exact⟨by omega,g2⟩
  unfold DS.value
  simp only
  split
  ·exact⟨by rw[fail_pl];exact k1,by rw[fail_pl];exact k2⟩
  rename_i hlt
  split
  ·exact⟨k1,k2⟩
  split
  ·exact hw _ (by decide)
  split
  ·exact hw _ (by decide)
  split
  ·exact hw _ (by decide)
  split
  ·obtain⟨g1,g2⟩:=numI_in (s:=s) (i:=(d.skip s).pl) (by omega) (d.skip s).bad
   exact⟨by omega,g2⟩
  split
  ·obtain⟨g1,g2⟩:=strD_in (d.skip s) k2
   exact⟨Nat.le_trans k1 g1,g2⟩
  split
  ·obtain⟨g1,g2⟩:=list_in (s:=s) (e:=93) (by decide) (elem_in fun d hd=>value_in k d hd) ((d.skip s).go ((d.skip s).pl+1)) [] (by show _+1≤_;omega)
   rw[go_pl]at g1
   exact⟨Nat.le_trans (Nat.le_succ_of_le k1) g1,g2⟩
  split
  ·obtain⟨g1,g2⟩:=list_in (s:=s) (e:=125) (by decide) (mem_in fun d hd=>value_in k d hd) ((d.skip s).go ((d.skip s).pl+1)) ([],[]) (by show _+1≤_;omega)
   rw[go_pl]at g1
   exact⟨Nat.le_trans (Nat.le_succ_of_le k1) g1,g2⟩
  ·exact⟨by rw[fail_pl];exact k1,by rw[fail_pl];exact k2⟩
theorem fail_fail (d:DS) (c c':Int) (p p':Nat) (hc:c≠0):(d.fail c p).fail c' p'=d.fail c p:=by
 unfold DS.fail
 by_cases h:d.code=0
 ·simp[h,hc]
 ·simp[h]
theorem fail_ne (d:DS) (c:Int) (p:Nat) (hc:c≠0):(d.fail c p).code≠0:=by
 unfold DS.fail
 split
 ·exact hc
 ·rename_i h;exact h
theorem listO_len {s:ByteArray}{rd:DS→V×DS}:∀(n:Nat) (d:DS) (x:List ByteArray×List V),x.1.length=x.2.length→(DS.listGo s (memP s rd) 125 n d x).2.1.length=(DS.listGo s (memP s rd) 125 n d x).2.2.length
 | 0,_,_,h=>h
 |n+1,d,x,h=>by
  have hm:(memP s rd d x).2.1.length=(memP s rd d x).2.2.length:=by unfold memP;simp[h]
  unfold DS.listGo
  split
  ·exact h
  split
  ·exact hm
  ·exact listO_len n _ _ hm
theorem listGo_many {α:Type}{s:ByteArray}{part:DS→α→DS×α}{e:Nat}(he:e<256) (len:α→Nat) (hl:∀d x,len (part d x).2=len x+1):∀(n:Nat) (d:DS) (x:α),len (DS.listGo s part e n d x).2≤len x+n
 | 0,d,x=>Nat.le_refl _
 |n+1,d,x=>by
  unfold DS.listGo
  split
  ·exact Nat.le_add_right _ _
  split
  ·show len (part d x).2≤_
   rw[hl];omega
  ·have:=listGo_many (s:=s) he len hl n ((((part d x).1.skip s).want s 44).skip s) (part d x).2
   rw[hl]at this
   omega
theorem strGo_len {s:ByteArray}:∀(n:Nat) (d:DS) (out:ByteArray),(d.strGo s n out).1.size≤out.size+n
 | 0,_,_=>Nat.le_refl _
 |n+1,d,out=>by
  unfold DS.strGo
  split
  ·exact Nat.le_add_right _ _
  split
  ·exact Nat.le_add_right _ _
  split
  ·have:=strGo_len (s:=s) n (d.fail 5 d.pl) out;omega
  split
  ·have:=strGo_len (s:=s) n ((d.go (d.pl+1)).escape s).2 (out++bOne ((d.go (d.pl+1)).escape s).1)
   rw[snoc_size]at this
   omega
  ·have:=strGo_len (s:=s) n (d.go (d.pl+1)) (out++bOne (bAt s d.pl))
   rw[snoc_size]at this
   omega
theorem strD_len {s:ByteArray}(d:DS):(d.str s).1.size≤s.size+2:=by
 have:=strGo_len (s:=s) (s.size+2) (d.want s 34) ByteArray.empty
 unfold DS.str
 simpa using this
theorem listO_keys {s:ByteArray}{rd:DS→V×DS}:∀(n:Nat) (d:DS) (x:List ByteArray×List V),(∀k∈x.1,k.size≤s.size+2)→∀k∈(DS.listGo s (memP s rd) 125 n d x).2.1,k.size≤s.size+2
 | 0,_,_,h=>h
 |n+1,d,x,h=>by
  have hm:∀k∈(memP s rd d x).2.1,k.size≤s.size+2:=by
   unfold memP
   intro k hk
   rcases List.mem_append.1 hk with hk | hk
   ·exact h k hk
   ·rw[List.mem_singleton.1 hk];exact strD_len d
  unfold DS.listGo
  split
  ·exact h
  split
  ·exact hm
  ·exact listO_keys n _ _ hm
theorem objD_ac (s:ByteArray) (hs:s.size≤100000) (rd:DS→V×DS) (d:DS):AC Tryz.prog 146 [.c (.sl ((DS.list s (memP s rd) 125 d ([],[])).2.1.map strCs)),.c (.sl ((DS.list s (memP s rd) 125 d ([],[])).2.2.map V.cs))] [] (objV (DS.list s (memP s rd) 125 d ([],[])).2.1 (DS.list s (memP s rd) 125 d ([],[])).2.2).av []:=by
 have h:(DS.list s (memP s rd) 125 d ([],[])).2.1.length=(DS.list s (memP s rd) 125 d ([],[])).2.2.length∧(DS.list s (memP s rd) 125 d ([],[])).2.1.length≤s.size+1∧∀k∈(DS.list s (memP s rd) 125 d ([],[])).2.1,k.size≤s.size+2:=by
  unfold DS.list
  split
  ·exact⟨rfl,Nat.zero_le _,by simp⟩
  ·refine⟨listO_len _ _ _ rfl,?_,listO_keys _ _ _ (by simp)⟩
   have:=listGo_many (s:=s) (part:=memP s rd) (e:=125) (by decide) (fun x=>x.1.length) (fun d x=>by unfold memP;simp) (s.size+1) (d.skip s) ([],[])
   simpa using this
 have h2:=object_ac _ _ h.1 (by omega) (fun k hk=>by have:=h.2.2 k hk;omega)
 rw[object_av]at h2
 exact h2
end
section
open Go.RowKit Go.Maps
set_option maxRecDepth 10000
variable {o1 o2:Obj}
theorem fte_map:Tryz.prog.underlying 167=some (.map 5 9):=Tryz.underlying167
def wordsL:List (Lit×Value):=[(.int .u8 102,.string ⟨#[102,97,108,115,101]⟩),(.int .u8 116,.string ⟨#[116,114,117,101]⟩)]
theorem valueD_ac (s:ByteArray) (hs:s.size≤10000):∀(k n:Nat),n+k=21→∀d:DS,d.pl≤s.size→AC Tryz.prog 79 [.ptr (0,0) 0,.c (.int .i64 n)] (dsE o1 o2 s d) (DS.value s k d).1.av (dsE o1 o2 s (DS.value s k d).2):=by
 intro k
 have hs':s.size≤1000000:=by omega
 induction k with
 |zero =>
  intro n hnk d hd
  have hsk:=skip_ac s hs' d hd
  have hp:=(skip_pl (s:=s) hd).2
  have gn:decide ((n:Int)>20)=true:=decide_eq_true (by omega)
  unfold DS.value
  generalize d.skip s=d1 at *
  have hf5:=fail_ac s d1 5 d1.pl
  have hf7:=fail_ac s d1 7 d1.pl
  by_cases hz:s.size≤d1.pl
  ·have e1:((d1.pl:Int)==(s.size:Int))=true:=by simp;omega
   rw[if_pos hz]
   have hff:=fail_ac s (d1.fail 5 d1.pl) 7 (d1.fail 5 d1.pl).pl
   rw[fail_fail _ _ _ _ _ (by decide)]at hff
   have hne:=fail_ne d1 5 d1.pl (by decide)
   generalize d1.fail 5 d1.pl=d2 at *
   have hc:(d2.code != 0)=true:=by simpa using hne
   simp only[dsM_eq,dsE_eq]at hsk hf5 hff ⊢
   refine wEnter Tryz.func79 Tryz.ntmps79 ?_
   refine wRUN trivial ?_
   refine wCall (op_any_call [((0,0),(0,0))] [((0,0),(0,0))] hsk) trivial ?_
   refine wRUN e1 ?_
   refine wCall (op_any_call [((0,0),(0,0))] [((0,0),(0,0))] hf5) trivial ?_
   refine wRUN gn ?_
   refine wCall (op_any_call [((0,0),(0,0))] [((0,0),(0,0))] hff) trivial ?_
   refine wRUN hc ?_
   exact wRetOf (ret_of [((0,0),(0,0)),((8,1),(8,1))] []) Tryz.results79 hc
  ·have e1:((d1.pl:Int)==(s.size:Int))=false:=by simp;omega
   rw[if_neg hz]
   have hne:=fail_ne d1 7 d1.pl (by decide)
   generalize d1.fail 7 d1.pl=d2 at *
   have hc:(d2.code != 0)=true:=by simpa using hne
   simp only[dsM_eq,dsE_eq]at hsk hf7 ⊢
   refine wEnter Tryz.func79 Tryz.ntmps79 ?_
   refine wRUN trivial ?_
   refine wCall (op_any_call [((0,0),(0,0))] [((0,0),(0,0))] hsk) trivial ?_
   refine wRUN (j2 e1 gn) ?_
   refine wCall (op_any_call [((0,0),(0,0))] [((0,0),(0,0))] hf7) trivial ?_
   refine wRUN hc ?_
   exact wRetOf (ret_of [((0,0),(0,0)),((8,1),(8,1))] []) Tryz.results79 hc
 |succ k ih =>
  intro n hnk d hd
  have hsk:=skip_ac s hs' d hd
  have hp:=(skip_pl (s:=s) hd).2
  have gn:decide ((n:Int)>20)=false:=decide_eq_false (by omega)
  unfold DS.value
  simp only
  generalize d.skip s=d1 at *
  by_cases hz:s.size≤d1.pl
  ·have hf5:=fail_ac s d1 5 d1.pl
   have e1:((d1.pl:Int)==(s.size:Int))=true:=by simp;omega
   rw[if_pos hz]
   have hne:=fail_ne d1 5 d1.pl (by decide)
   generalize d1.fail 5 d1.pl=d2 at *
   have hc:(d2.code != 0)=true:=by simpa using hne
   simp only[dsM_eq,dsE_eq]at hsk hf5 ⊢
   refine wEnter Tryz.func79 Tryz.ntmps79 ?_
   refine wRUN trivial ?_
   refine wCall (op_any_call [((0,0),(0,0))] [((0,0),(0,0))] hsk) trivial ?_
   refine wRUN e1 ?_
   refine wCall (op_any_call [((0,0),(0,0))] [((0,0),(0,0))] hf5) trivial ?_
   refine wRUN (j2 gn hc) ?_
   exact wRetOf (ret_of [((0,0),(0,0)),((8,1),(8,1))] []) Tryz.results79 hc
  have e1:((d1.pl:Int)==(s.size:Int))=false:=by simp;omega
  rw[if_neg hz]
  by_cases hc0:d1.code=0
  case neg =>
   have hc:(d1.code != 0)=true:=by simpa using hc0
   rw[if_pos hc0]
   simp only[dsM_eq,dsE_eq]at hsk ⊢
   refine wEnter Tryz.func79 Tryz.ntmps79 ?_
   refine wRUN trivial ?_
   refine wCall (op_any_call [((0,0),(0,0))] [((0,0),(0,0))] hsk) trivial ?_
   refine wRUN (j3 e1 gn hc) ?_
   exact wRetOf (ret_of [((0,0),(0,0)),((8,1),(8,1))] []) Tryz.results79 hc
  rw[if_neg (by simpa using hc0)]
  have hc:(d1.code != 0)=false:=by simp[hc0]
  have hlt:d1.pl<s.size:=by omega
  obtain⟨b,hg,hb⟩:=bAt_in hlt
  have hbn:((b.toNat:Nat):Int)=((bAt s d1.pl:Nat):Int):=by rw[hb]
  have hdg:=isDigit_ac b.toNat
  rw[←hb]at hdg
  have his:∀c:Nat,d1.is s c=(bAt s d1.pl==c):=fun c=>by unfold DS.is;simp[hc0]
  have htk91:=take_ac s hs' d1 hp 91 (by decide)
  have htk123:=take_ac s hs' d1 hp 123 (by decide)
  unfold DS.take at htk91 htk123
  rw[his]at htk91 htk123
  by_cases h110:bAt s d1.pl=110
  ·have e110:((((bAt s d1.pl:Nat):Int))==110)=true:=by simp[h110]
   have hwd:=word_ac s hs' d1 hp ⟨#[110,117,108,108]⟩ (by decide)
   change AC _ _ _ _ _ (dsM s (d1.word s [110,117,108,108]))at hwd
   have hnl:=null_ac
   rw[if_pos h110]
   clear htk91 htk123
   generalize d1.word s [110,117,108,108]=d2 at *
   simp only[dsM_eq,dsE_eq]at hsk hwd ⊢
   refine wEnter Tryz.func79 Tryz.ntmps79 ?_
   refine wRUN trivial ?_
   refine wCall (op_any_call [((0,0),(0,0))] [((0,0),(0,0))] hsk) trivial ?_
   refine wRUN (j6 e1 gn hc hg hbn e110) ?_
   refine wCall (op_any_call [((0,0),(0,0))] [((0,0),(0,0))] hwd) trivial ?_
   refine wRUN trivial ?_
   refine w9 (op_shared [] hnl) trivial ?_
   refine wRUN trivial ?_
   exact wRetOf (ret_of [((0,0),(0,0)),((8,1),(8,1))] []) Tryz.results79 hc
  have e110:((((bAt s d1.pl:Nat):Int))==110)=false:=by simp;omega
  rw[if_neg h110]
  by_cases h102:bAt s d1.pl=102
  ·have e102:((((bAt s d1.pl:Nat):Int))==102)=true:=by simp[h102]
   have hwd:=word_ac s hs' d1 hp ⟨#[102,97,108,115,101]⟩ (by decide)
   change AC _ _ _ _ _ (dsM s (d1.word s [102,97,108,115,101]))at hwd
   have htr:=truth_ac false
   have hbc:((b.toNat:Nat):Int)=102:=by rw[←hb,h102];rfl
   have hb116:(((102:Int))==116)=false:=rfl
   have hb102:(((102:Int))==102)=true:=rfl
   have hb110:(((102:Int))==110)=false:=rfl
   rw[if_pos h102]
   clear htk91 htk123
   generalize d1.word s [102,97,108,115,101]=d2 at *
   simp only[dsM_eq,dsE_eq]at hsk hwd ⊢
   refine wEnter Tryz.func79 Tryz.ntmps79 ?_
   refine wRUN trivial ?_
   refine wCall (op_any_call [((0,0),(0,0))] [((0,0),(0,0))] hsk) trivial ?_
   refine wRUN (j8 e1 gn hc hg hbc hb110 hb102 hb116) ?_
   refine w4 (op_gmNew 5) trivial ?_
   refine w7 (op_gmInsert fte_map (int_keyed Tryz.underlying5) (l:=[]) (kl:=.int .u8 102) (key:=.int .u8 102) (val:=.string ⟨#[102,97,108,115,101]⟩) (cx:=.int .u8 102) (cy:=.str ⟨#[102,97,108,115,101]⟩) trivial (by simp) rfl rfl (keyOf_int_mk Tryz.underlying5 (by decide))) trivial ?_
   refine w7 (op_gmInsert fte_map (int_keyed Tryz.underlying5) (l:=[(.int .u8 102,.string ⟨#[102,97,108,115,101]⟩)]) (kl:=.int .u8 116) (key:=.int .u8 116) (val:=.string ⟨#[116,114,117,101]⟩) (cx:=.int .u8 116) (cy:=.str ⟨#[116,114,117,101]⟩) trivial (by simp) rfl rfl (keyOf_int_mk Tryz.underlying5 (by decide))) trivial ?_
   refine wRUN hbc ?_
   refine w6 (op_gmGet (l:=wordsL) fte_map (int_keyed Tryz.underlying5) Tryz.zeroValue9 (kl:=.int .u8 102) (key:=.int .u8 102) (cx:=.int .u8 102) (c:=.str ⟨#[102,97,108,115,101]⟩) rfl (keyOf_int_mk Tryz.underlying5 (by decide)) rfl rfl) trivial ?_
   refine wRUN trivial ?_
   refine wCall (op_any_call [((0,0),(0,0))] [((0,0),(0,0))] hwd) trivial ?_
   refine wRUN (j2 hbc hb116) ?_
   refine w9 (op_shared [] htr) trivial ?_
   refine wRUN trivial ?_
   exact wRetOf (ret_of [((0,0),(0,0)),((8,1),(8,1))] []) Tryz.results79 hc
  have e102:((((bAt s d1.pl:Nat):Int))==102)=false:=by simp;omega
  rw[if_neg h102]
  by_cases h116:bAt s d1.pl=116
  ·have e116:((((bAt s d1.pl:Nat):Int))==116)=true:=by simp[h116]
   have hwd:=word_ac s hs' d1 hp ⟨#[116,114,117,101]⟩ (by decide)
   change AC _ _ _ _ _ (dsM s (d1.word s [116,114,117,101]))at hwd
   have htr:=truth_ac true
   have hbc:((b.toNat:Nat):Int)=116:=by rw[←hb,h116];rfl
   have hb116:(((116:Int))==116)=true:=rfl
   have hb102:(((116:Int))==102)=false:=rfl
   have hb110:(((116:Int))==110)=false:=rfl
   rw[if_pos h116]
   clear htk91 htk123
   generalize d1.word s [116,114,117,101]=d2 at *
   simp only[dsM_eq,dsE_eq]at hsk hwd ⊢
   refine wEnter Tryz.func79 Tryz.ntmps79 ?_
   refine wRUN trivial ?_
   refine wCall (op_any_call [((0,0),(0,0))] [((0,0),(0,0))] hsk) trivial ?_
   refine wRUN (j8 e1 gn hc hg hbc hb110 hb102 hb116) ?_
   refine w4 (op_gmNew 5) trivial ?_
   refine w7 (op_gmInsert fte_map (int_keyed Tryz.underlying5) (l:=[]) (kl:=.int .u8 102) (key:=.int .u8 102) (val:=.string ⟨#[102,97,108,115,101]⟩) (cx:=.int .u8 102) (cy:=.str ⟨#[102,97,108,115,101]⟩) trivial (by simp) rfl rfl (keyOf_int_mk Tryz.underlying5 (by decide))) trivial ?_
   refine w7 (op_gmInsert fte_map (int_keyed Tryz.underlying5) (l:=[(.int .u8 102,.string ⟨#[102,97,108,115,101]⟩)]) (kl:=.int .u8 116) (key:=.int .u8 116) (val:=.string ⟨#[116,114,117,101]⟩) (cx:=.int .u8 116) (cy:=.str ⟨#[116,114,117,101]⟩) trivial (by simp) rfl rfl (keyOf_int_mk Tryz.underlying5 (by decide))) trivial ?_
   refine wRUN hbc ?_
   refine w6 (op_gmGet (l:=wordsL) fte_map (int_keyed Tryz.underlying5) Tryz.zeroValue9 (kl:=.int .u8 116) (key:=.int .u8 116) (cx:=.int .u8 116) (c:=.str ⟨#[116,114,117,101]⟩) rfl (keyOf_int_mk Tryz.underlying5 (by decide)) rfl rfl) trivial ?_
   refine wRUN trivial ?_
   refine wCall (op_any_call [((0,0),(0,0))] [((0,0),(0,0))] hwd) trivial ?_
   refine wRUN (j2 hbc hb116) ?_
   refine w9 (op_shared [] htr) trivial ?_
   refine wRUN trivial ?_
   exact wRetOf (ret_of [((0,0),(0,0)),((8,1),(8,1))] []) Tryz.results79 hc
  have e116:((((bAt s d1.pl:Nat):Int))==116)=false:=by simp;omega
  rw[if_neg h116]
  by_cases hnum:bAt s d1.pl=45∨digB (bAt s d1.pl)=true
  ·have hno:=number_rd_ac (o1:=o1) (o2:=o2) s hs' d1.pl hlt d1.bad
   have hd1:(⟨d1.pl,0,d1.bad⟩:DS)=d1:=by cases d1;simp only at hc0;subst hc0;rfl
   rw[hd1]at hno
   rw[if_pos hnum]
   clear htk91 htk123
   generalize numI s d1.pl d1.bad=R at *
   simp only[dsM_eq,dsE_eq]at hsk hno ⊢
   by_cases h45:bAt s d1.pl=45
   ·have e45:((((bAt s d1.pl:Nat):Int))==45)=true:=by simp[h45]
    refine wEnter Tryz.func79 Tryz.ntmps79 ?_
    refine wRUN trivial ?_
    refine wCall (op_any_call [((0,0),(0,0))] [((0,0),(0,0))] hsk) trivial ?_
    refine wRUN (j9 e1 gn hc hg hbn e110 e102 e116 e45) ?_
    refine wCallB (op_callB [] [((0,0),(0,0)),((8,1),(8,1))] [((0,0),(0,0)),((8,1),(8,1))] hno) trivial ?_
    refine wRUN trivial ?_
    exact wRetOf (ret_of [((0,0),(0,0)),((8,1),(8,1))] []) Tryz.results79 hc
   ·have e45:((((bAt s d1.pl:Nat):Int))==45)=false:=by simp;omega
    have hdt:digB (bAt s d1.pl)=true:=hnum.resolve_left h45
    rw[hdt]at hdg
    refine wEnter Tryz.func79 Tryz.ntmps79 ?_
    refine wRUN trivial ?_
    refine wCall (op_any_call [((0,0),(0,0))] [((0,0),(0,0))] hsk) trivial ?_
    refine wRUN (j9 e1 gn hc hg hbn e110 e102 e116 e45) ?_
    refine w7 (op_data [] hdg) trivial ?_
    refine wRUN trivial ?_
    refine wCallB (op_callB [] [((0,0),(0,0)),((8,1),(8,1))] [((0,0),(0,0)),((8,1),(8,1))] hno) trivial ?_
    refine wRUN trivial ?_
    exact wRetOf (ret_of [((0,0),(0,0)),((8,1),(8,1))] []) Tryz.results79 hc
  have e45:((((bAt s d1.pl:Nat):Int))==45)=false:=by
   have:bAt s d1.pl≠45:=fun h=>hnum (.inl h)
   simp
   omega
  have hdt:digB (bAt s d1.pl)=false:=by cases hq:digB (bAt s d1.pl) with
   |false=>rfl
   |true=>exact absurd (.inr hq) hnum
  rw[hdt]at hdg
  rw[if_neg hnum]
  by_cases h34:bAt s d1.pl=34
  ·have e34:((((bAt s d1.pl:Nat):Int))==34)=true:=by simp[h34]
   have hst:=strD_ac (o1:=o1) (o2:=o2) s (by omega) d1 hp
   have htx:=text_ac (d1.str s).1
   rw[if_pos h34]
   clear htk91 htk123
   generalize (d1.str s).1=t at *
   generalize (d1.str s).2=d2 at *
   simp only[dsM_eq,dsE_eq]at hsk hst ⊢
   refine wEnter Tryz.func79 Tryz.ntmps79 ?_
   refine wRUN trivial ?_
   refine wCall (op_any_call [((0,0),(0,0))] [((0,0),(0,0))] hsk) trivial ?_
   refine wRUN (j9 e1 gn hc hg hbn e110 e102 e116 e45) ?_
   refine w7 (op_data [] hdg) trivial ?_
   refine wRUN e34 ?_
   refine wCall (op_any_call [((0,0),(0,0)),((8,1),(8,1))] [((0,0),(0,0)),((8,1),(8,1))] hst) trivial ?_
   refine wRUN trivial ?_
   refine w9 (op_shared [] htx) trivial ?_
   refine wRUN trivial ?_
   exact wRetOf (ret_of [((0,0),(0,0)),((8,1),(8,1))] []) Tryz.results79 hc
  have e34:((((bAt s d1.pl:Nat):Int))==34)=false:=by simp;omega
  rw[if_neg h34]
  by_cases h91:bAt s d1.pl=91
  ·have hla:=listA_ac (o1:=o1) (o2:=o2) s (by omega) (DS.value s k) n (by omega) (fun d hd=>value_in k d hd) (fun d hd=>ih (n+1) (by omega) d hd) (d1.go (d1.pl+1)) (by show d1.pl+1≤s.size;omega) (by show 1≤d1.pl+1;omega)
   rw[show (bAt s d1.pl==91)=true by simp[h91]]at htk91
   simp only[if_true]at htk91
   have har:=array_ac (DS.list s (elemP (DS.value s k)) 93 (d1.go (d1.pl+1)) []).2
   rw[if_pos h91]
   clear htk123
   generalize (DS.list s (elemP (DS.value s k)) 93 (d1.go (d1.pl+1)) []).2=kids at *
   generalize (DS.list s (elemP (DS.value s k)) 93 (d1.go (d1.pl+1)) []).1=d3 at *
   generalize d1.go (d1.pl+1)=d2 at *
   simp only[dsM_eq,dsE_eq]at hsk htk91 ⊢
   refine wEnter Tryz.func79 Tryz.ntmps79 ?_
   refine wRUN trivial ?_
   refine wCall (op_any_call [((0,0),(0,0))] [((0,0),(0,0))] hsk) trivial ?_
   refine wRUN (j9 e1 gn hc hg hbn e110 e102 e116 e45) ?_
   refine w7 (op_data [] hdg) trivial ?_
   refine wRUN e34 ?_
   refine wCall (op_any_call [((0,0),(0,0))] [((0,0),(0,0))] htk91) trivial ?_
   refine wRUN trivial ?_
   refine wCall (op_any_call [((0,0),(0,0)),((8,1),(8,1)),((1,0),(6,0)),((1,1),(90,0)),((2,0),(2,0)),((3,0),(3,0))] [((0,0),(0,0)),((8,1),(8,1)),((1,0),(6,0)),((4,0),(93,0)),((2,0),(2,0)),((3,0),(3,0))] hla) @List.map_nil.{0,0} ?_
   refine wRUN trivial ?_
   refine w9 (op_shared [(93,0)] har) trivial ?_
   refine wRUN trivial ?_
   exact wRetOf (ret_of [((0,0),(0,0)),((8,1),(8,1))] []) Tryz.results79 hc
  rw[show (bAt s d1.pl==91)=false by simp[h91]]at htk91
  simp only[Bool.false_eq_true,if_false]at htk91
  rw[if_neg h91]
  by_cases h123:bAt s d1.pl=123
  ·have hlo:=listO_ac (o1:=o1) (o2:=o2) s (by omega) (DS.value s k) n (by omega) (fun d hd=>value_in k d hd) (fun d hd=>ih (n+1) (by omega) d hd) (d1.go (d1.pl+1)) (by show d1.pl+1≤s.size;omega) (by show 1≤d1.pl+1;omega)
   rw[show (bAt s d1.pl==123)=true by simp[h123]]at htk123
   simp only[if_true]at htk123
   have hob:=objD_ac s (by omega) (DS.value s k) (d1.go (d1.pl+1))
   rw[if_pos h123]
   generalize (DS.list s (memP s (DS.value s k)) 125 (d1.go (d1.pl+1)) ([],[])).2.1=keys at *
   generalize (DS.list s (memP s (DS.value s k)) 125 (d1.go (d1.pl+1)) ([],[])).2.2=kids at *
   generalize (DS.list s (memP s (DS.value s k)) 125 (d1.go (d1.pl+1)) ([],[])).1=d3 at *
   generalize d1.go (d1.pl+1)=d2 at *
   simp only[dsM_eq,dsE_eq]at hsk htk91 htk123 ⊢
   refine wEnter Tryz.func79 Tryz.ntmps79 ?_
   refine wRUN trivial ?_
   refine wCall (op_any_call [((0,0),(0,0))] [((0,0),(0,0))] hsk) trivial ?_
   refine wRUN (j9 e1 gn hc hg hbn e110 e102 e116 e45) ?_
   refine w7 (op_data [] hdg) trivial ?_
   refine wRUN e34 ?_
   refine wCall (op_any_call [((0,0),(0,0))] [((0,0),(0,0))] htk91) trivial ?_
   refine wRUN trivial ?_
   refine wCall (op_any_call [((0,0),(0,0))] [((0,0),(0,0))] htk123) trivial ?_
   refine wRUN trivial ?_
   refine wCall (op_any_call [((0,0),(0,0)),((8,1),(8,1)),((1,0),(7,0)),((1,1),(99,0)),((5,0),(8,0)),((5,1),(100,0)),((2,0),(2,0)),((3,0),(3,0))] [((0,0),(0,0)),((8,1),(8,1)),((1,0),(7,0)),((4,0),(103,0)),((5,0),(8,0)),((6,0),(103,1)),((2,0),(2,0)),((3,0),(3,0))] hlo) @List.map_nil.{0,0} ?_
   refine wRUN trivial ?_
   refine w9 (op_shared [(103,0),(103,1)] hob) trivial ?_
   refine wRUN trivial ?_
   exact wRetOf (ret_of [((0,0),(0,0)),((8,1),(8,1))] []) Tryz.results79 hc
  rw[show (bAt s d1.pl==123)=false by simp[h123]]at htk123
  simp only[Bool.false_eq_true,if_false]at htk123
  rw[if_neg h123]
  have hf5:=fail_ac s d1 5 d1.pl
  generalize d1.fail 5 d1.pl=d2 at *
  simp only[dsM_eq,dsE_eq]at hsk htk91 htk123 hf5 ⊢
  refine wEnter Tryz.func79 Tryz.ntmps79 ?_
  refine wRUN trivial ?_
  refine wCall (op_any_call [((0,0),(0,0))] [((0,0),(0,0))] hsk) trivial ?_
  refine wRUN (j9 e1 gn hc hg hbn e110 e102 e116 e45) ?_
  refine w7 (op_data [] hdg) trivial ?_
  refine wRUN e34 ?_
  refine wCall (op_any_call [((0,0),(0,0))] [((0,0),(0,0))] htk91) trivial ?_
  refine wRUN trivial ?_
  refine wCall (op_any_call [((0,0),(0,0))] [((0,0),(0,0))] htk123) trivial ?_
  refine wRUN trivial ?_
  refine wCall (op_any_call [((0,0),(0,0))] [((0,0),(0,0))] hf5) trivial ?_
  refine wRUN trivial ?_
  exact wRetOf (ret_of [((0,0),(0,0)),((8,1),(8,1))] []) Tryz.results79 hc
end
end Go.Proofs.YtlciedpfjhkkdaaGreatDoor
