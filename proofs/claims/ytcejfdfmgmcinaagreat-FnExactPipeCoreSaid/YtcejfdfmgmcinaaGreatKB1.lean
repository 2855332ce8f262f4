/- Texts of this proof: B01 B02 B03 B04. -/
import Derived.Test.YtcejfdfmgmcinaaGreatChecked
import Derived.Test.YtcejfdfmgmcinaaGreatKA1
import Derived.WalkSpells
import Derived.WalkLawsBesides
import Derived.Deep.QuietTactic
import Derived.BigQuiet
set_option linter.all false
set_option maxHeartbeats 8000000
namespace Go.Proofs.YtcejfdfmgmcinaaGreat
open Go.RowKit
theorem WV {s:ByteArray}(h:∀j (hj:j<s.size),FI s[j]=true):s.data.toList.all FI=true:=by
 rw[List.all_eq_true]
 intro c hc
 obtain⟨j,hj,rfl⟩:=List.getElem_of_mem hc
 exact h j (by simpa using hj)
theorem Is {s:ByteArray}{j:Nat}(hj:j<s.size) (h:(s[j].toNat:Int)<32∨126<(s[j].toNat:Int)):Br s=false:=by
 have:s.data.toList.all FI=false:=by
  rw[←Bool.not_eq_true]
  intro hh
  rw[List.all_eq_true]at hh
  have:=hh s[j] (by simp[ByteArray.getElem_eq_getElem_data])
  simp[FI]at this
  omega
 simp[Br,this]
theorem ON {s:ByteArray}(h:∀j (hj:j<s.size),FI s[j]=true):Br s=decide (s.size≤60):=by
 simp[Br,WV h]
theorem Vh {s:ByteArray}{k:Nat}(hk:k<s.size) (h:∀j (hj:j<s.size),j<k→FI s[j]=true) (h1:32≤(s[k].toNat:Int)) (h2:(s[k].toNat:Int)≤126) :
  ∀j (hj:j<s.size),j<k+1→FI s[j]=true:=by
 intro j hj hjk
 by_cases e:j=k
 ·subst e;simp[FI];omega
 ·exact h j hj (by omega)
theorem RH (v lo hi:Int) (w:World) :
  Calls Tryz.prog 67 #[.int .i64 v,.int .i64 lo,.int .i64 hi] w fun e w'=>e=.returned (.bool (inB v lo hi))∧w=w':=by
 go_enter Tryz.func67,Tryz.ntmps67
 cases h1:decide (lo≤v)<;>cases h2:decide (v≤hi)
 all_goals go_wp2
 all_goals go_ret
 all_goals simp[inB, *]
theorem Dv (v lo hi:Int) (w:World) :
  Calls Tryz.prog 72 #[.int .i64 v,.int .i64 lo,.int .i64 hi] w fun e w'=>e=.returned (.bool (inB v lo hi))∧w=w':=by
 go_enter Tryz.func72,Tryz.ntmps72
 cases h1:decide (lo≤v)<;>cases h2:decide (v≤hi)
 all_goals go_wp2
 all_goals go_ret
 all_goals simp[inB, *]
theorem MK (s:ByteArray) (w:World) :
  Calls Tryz.prog 160 #[.string s] w fun e w'=>e=.returned (.bool (Br s))∧w=w':=by
 go_enter Tryz.func160,Tryz.ntmps160
 by_cases hlen:s.size≤60
 ·go_wp2
  go_loop [3] (fun i=>∃k:Nat,k≤s.size∧i=.int .i64 k∧(∀j (hj:j<s.size),j<k→FI s[j]=true)) (fun i=>s.size-(intOf i).toNat)
  case atStart=>exact⟨0,Nat.zero_le _,rfl,fun j hj h=>absurd h (by omega)⟩
  case round =>
   obtain⟨k,hk,rfl,hall⟩:=hrel
   have Hall:=Lib.hid hall
   clear hall
   by_cases hlt:k<s.size
   ·go_wp2
    ·go_ret
     exact⟨by rw[Is hlt (by omega)];rfl,rfl⟩
    ·go_round
     case rel=>exact⟨k+1,by omega,by go_num,Vh hlt Hall.out (by omega) (by omega)⟩
     case measure=>simp[intOf];omega
    ·go_ret
     exact⟨by rw[Is hlt (by omega)];rfl,rfl⟩
   ·go_wp2
    go_ret
    refine⟨?_,rfl⟩
    rw[ON fun j hj=>Hall.out j hj (by omega)]
    simp[hlen]
 ·go_wp2
  go_ret
  simp[Br,hlen]
theorem Ec (s:ByteArray) (hs:s.size≤9223372036854775807) (w:World) :
  Calls Tryz.prog 202 #[.string s] w fun e w'=>e=.returned (.bool (Br s))∧w=w':=by
 go_enter Tryz.func202,Tryz.ntmps202
 go_wp2
 go_loop [6] (fun i=>∃k:Nat,k≤s.size∧i=.int .i64 k∧(∀j (hj:j<s.size),j<k→FI s[j]=true)) (fun i=>s.size-(intOf i).toNat)
 case atStart=>exact⟨0,Nat.zero_le _,rfl,fun j hj h=>absurd h (by omega)⟩
 case round =>
  obtain⟨k,hk,rfl,hall⟩:=hrel
  have Hall:=Lib.hid hall
  clear hall
  by_cases hlt:k<s.size
  ·go_wp2
   ·go_ret
    exact⟨by rw[Is hlt (by omega)];rfl,rfl⟩
   ·go_round
    case rel=>exact⟨k+1,by omega,by go_num,Vh hlt Hall.out (by omega) (by omega)⟩
    case measure=>simp[intOf];omega
   ·go_ret
    exact⟨by rw[Is hlt (by omega)];rfl,rfl⟩
  ·go_wp2
   go_ret
   refine⟨?_,rfl⟩
   rw[ON fun j hj=>Hall.out j hj (by omega)]
   simp
   omega
theorem RG (k m:Int) (t y:ByteArray) (n:Int) (w:World) :
  Calls Tryz.prog 159 #[.agg #[.int .i64 k,.int .i64 m,.string t,.string y,.int .i64 n]] w fun e w'=>e=.returned (.bool (Cp k))∧Below w.heap.size w w':=by
 go_enter Tryz.func159,Tryz.ntmps159
 cases h1:(k==5)<;>cases h2:(k==6)
 all_goals go_wp2
 all_goals go_ret
 all_goals exact⟨by simp[Cp,h1,h2],(Below.refl _ _).alloc (Nat.le_refl _) _⟩
theorem MG (k m:Int) (t y:ByteArray) (n:Int) (w:World) :
  Calls Tryz.prog 96 #[.agg #[.int .i64 k,.int .i64 m,.string t,.string y,.int .i64 n]] w fun e w'=>e=.returned (.int .i64 (AP k m t y n))∧Below w.heap.size w w':=by
 have HB:∀X:Obj,Below w.heap.size w (w.alloc X):=fun X=>(Below.refl _ _).alloc (Nat.le_refl _) _
 have HBB:=Lib.hid HB
 clear HB
 go_enter Tryz.func96,Tryz.ntmps96
 cases h0:inB k 0 6
 ·go_wp2_with (go_at_call 67;refine (RH _ _ _ _).mono ?_;rintro e w' ⟨rfl,rfl⟩)
  go_ret
  exact⟨by simp[AP,h0],HBB.out _⟩
 ·go_wp2_with (first
   | (go_at_call 67;refine (RH _ _ _ _).mono ?_;rintro e w' ⟨rfl,rfl⟩)
   | (go_at_call 160;refine (MK _ _).mono ?_;rintro e w' ⟨rfl,rfl⟩)
   | (go_at_call 159;refine (RG _ _ _ _ _ _).mono ?_;rintro e w1 ⟨rfl,hb1⟩;obtain⟨hc1,hf1⟩:=v8 hb1;have HB1:=Lib.hid hb1;clear hb1))
  all_goals go_ret
  all_goals refine⟨?_,?_⟩
  any_goals (first | exact HBB.out _ | exact (HBB.out _).trans (HB1.out.mono (by simp)))
  all_goals clear HBB
  all_goals (try clear hc1 hf1 HB1)
  all_goals (refine congrArg (fun x:Int=>Ending.returned (.int .i64 x)) ?_)
  all_goals simp_all [AP,cF,cR,cT]
set_option maxRecDepth 100000 in
theorem Lb (xs:List CellD) (hx:xs.length≤200) (hn:∀c∈xs,c.n≤200) :
  ∀(m:Nat) (a d:Int) (A:Option Addr) (cap:Nat) (S:Nat→Prop) (w:World),xs.length-a.toNat≤m→0≤d→d≤a→a≤201→B9 w S A xs →
   Calls Tryz.prog 97 #[.slice A xs.length cap,.int .i64 a,.int .i64 d] w fun e w' =>
    e=.returned (.tuple #[.int .i64 (IN xs.length (AH m (xs.drop a.toNat))),.int .i64 (Kr (AH m (xs.drop a.toNat)))])∧Below w.heap.size w w':=by
 intro m
 induction m with
 |zero =>
  intro a d A cap S w hm hd0 hda ha hcs
  obtain⟨a,rfl⟩:=Int.eq_ofNat_of_zero_le (show 0≤a by omega)
  rw[Int.toNat_natCast]at *
  have hge:decide ((xs.length:Int)≤(a:Int))=true:=by simp;omega
  go_enter Tryz.func97,Tryz.ntmps97
  go_wp2
  go_ret2
  exact⟨rfl,Below.refl _ _⟩
 |succ m ih =>
  intro a d A cap S w hm hd0 hda ha hcs
  obtain⟨a,rfl⟩:=Int.eq_ofNat_of_zero_le (show 0≤a by omega)
  rw[Int.toNat_natCast]at *
  have HIH:=Lib.hid ih
  clear ih
  by_cases hge:xs.length≤a
  ·have hge':decide ((xs.length:Int)≤(a:Int))=true:=by simp;omega
   rw[List.drop_eq_nil_of_le hge]
   go_enter Tryz.func97,Tryz.ntmps97
   go_wp2
   go_ret2
   exact⟨rfl,Below.refl _ _⟩
  ·have hlt:a<xs.length:=by omega
   have hd200:d≤200:=by omega
   obtain⟨b,off,rfl,hSb,hbl,c0,c1,c2,c3,c4⟩:=hcs.at_ hlt
   have hN:=hn xs[a] (List.getElem_mem hlt)
   have HD:=Lib.hid (F9 hlt)
   have HC:=Lib.hid hcs
   clear hcs
   generalize xs[a]=c at *
   obtain⟨ck,cm,ct,cy,cn⟩:=c
   simp only at c0 c1 c2 c3 c4 hN
   have HB0:Hid (∀X:Obj,Below w.heap.size w (w.alloc X)):=fun X=>(Below.refl _ _).alloc (Nat.le_refl _) _
   go_enter Tryz.func97,Tryz.ntmps97
   go_wp2
   go_loopw [9,10,11,12] (fun dp en la ki wr=>∃(k e:Nat) (K:List ByteArray) (Vs:List V) (lst:ByteArray) (last:Option ByteArray),
     ki=.int .i64 k∧en=.int .i64 e∧dp=.int .i64 (AS Vs:Nat)∧la=.string lst∧a<e∧e≤xs.length∧AS Vs≤200 ∧
     (ck=6→0<k→K.getLast? = some lst)∧EU (AH m) ck cn.toNat (xs.drop (a+1)) k K Vs last (xs.drop e) ∧
     Below (w.heap.size+1) (w.alloc (.cells #[.int .i64 ck,.int .i64 cm,.string ct,.string cy,.int .i64 cn] 80)) wr) (fun _ _ _ ki _=>cn.toNat-(intOf ki).toNat)
   case atStart =>
    exact⟨0,a+1,[],[],ByteArray.empty,none,rfl,rfl,rfl,rfl,by omega,by omega,by simp[AS],fun _ h=>absurd h (by omega),EU.start,Below.refl _ _⟩
   case round =>
    obtain⟨k,e,K,Vs,lst,last,rfl,rfl,rfl,rfl,hae,hex,hdv,hlst,hinv,hbw⟩:=hrel
    have hww:Below w.heap.size w wr:=(HB0.out _).trans (hbw.mono (by omega))
    have hcr:=HC.out.below hww
    have f0:wr.cell? ⟨w.heap.size,0,none⟩=some (.int .i64 ck):=(hbw.cell (p:=⟨w.heap.size,0,none⟩) (Nat.lt_succ_self _)).trans (World.cell?_alloc_at _ _ _ _ rfl)
    have f4:wr.cell? ⟨w.heap.size,4,none⟩=some (.int .i64 cn):=(hbw.cell (p:=⟨w.heap.size,4,none⟩) (Nat.lt_succ_self _)).trans (World.cell?_alloc_at _ _ _ _ rfl)
    have Hinv:=Lib.hid hinv
    have Hlst:=Lib.hid hlst
    have Hww:=Lib.hid hww
    have Hbw:=Lib.hid hbw
    clear hinv hlst hww hbw
    have hsz:w.heap.size<wr.heap.size:=by have:=Hbw.out.size;simp at this;omega
    by_cases hk:(k:Int)<cn
    ·by_cases hel:e<xs.length
     ·obtain⟨b1,off1,hA1,_,_,g0,g1,g2,g3,g4⟩:=hcr.at_ hel
      simp only[Option.some.injEq,Addr.mk.injEq,and_true]at hA1
      obtain⟨rfl,rfl⟩:=hA1
      clear hcr g0 g1 g2 g4 c0 c1 c2 c3 c4
      have hbr:=Hbw.out
      rcases hp:AH m (xs.drop e) with _ | ⟨v,r⟩
      ·have IH1:∀W:World,B9 W S (some ⟨b,off,none⟩) xs→Calls Tryz.prog 97 #[.slice (some ⟨b,off,none⟩) xs.length cap,.int .i64 e,.int .i64 (d+1)] W fun e w' =>
         e=.returned (.tuple #[.int .i64 (-1),.int .i64 0])∧Below W.heap.size W w':=by
        intro W hW
        have:=HIH.out e (d+1) _ cap S W (by omega) (by omega) (by omega) (by omega) hW
        rw[Int.toNat_natCast,hp]at this
        exact this
       have HIH1:=Lib.hid IH1
       have Hp:=Lib.hid hp
       have HR:=Lib.hid (HC.out.below Hww.out)
       clear IH1 hp hbr
       go_wp2_with (go_at_call 97;refine (HIH1.out _ HR.out).mono ?_;rintro e w1 ⟨rfl,hb1⟩)
       all_goals go_ret2
       all_goals (refine⟨?_,by first | exact Hww.out | exact Hww.out.trans (hb1.mono (Nat.le_of_lt hsz))⟩)
       all_goals rw[HD.out,E0 (by rw[F9 hel]at Hinv Hp;exact Hinv.out.kid (by omega) Hp.out)]
       all_goals rfl
      ·have IH1:∀W:World,B9 W S (some ⟨b,off,none⟩) xs→Calls Tryz.prog 97 #[.slice (some ⟨b,off,none⟩) xs.length cap,.int .i64 e,.int .i64 (d+1)] W fun e w' =>
         e=.returned (.tuple #[.int .i64 ((xs.length-r.length:Nat):Int),.int .i64 (v.depth:Nat)])∧Below W.heap.size W w':=by
        intro W hW
        have:=HIH.out e (d+1) _ cap S W (by omega) (by omega) (by omega) (by omega) hW
        rw[Int.toNat_natCast,hp]at this
        exact this
       have HIH1:=Lib.hid IH1
       have Hp:=Lib.hid hp
       have HR:=Lib.hid (HC.out.below Hww.out)
       clear IH1 hp hbr
       have hge2:decide ((xs.length:Int)≤(e:Int))=false:=by simp;omega
       have hneg:decide (((xs.length-r.length:Nat):Int)<0)=false:=by simp
       have hrl:=(DK _ _ _ _ Hp.out).2
       have hrd:=Qd _ _ _ _ Hp.out
       have Hrs:=Lib.hid (DK _ _ _ _ Hp.out).1
       simp only[List.length_drop]at hrl hrd
       generalize hkey:xs[e].key=key at *
       have Hdrop:=Lib.hid (F9 hel)
       have Hkey:=Lib.hid hkey
       clear hkey
       have NO:B1 ck last key=true→IN xs.length (AH (m+1) (xs.drop a)) = -1∧Kr (AH (m+1) (xs.drop a))=0:=by
        intro hbad
        rw[HD.out,E0 (by rw[Hdrop.out]at Hinv;exact Hinv.out.bad (by omega) (by rw[Hkey.out];exact hbad))]
        exact⟨rfl,rfl⟩
       have YES:B1 ck last key=false→∀dp:Nat,dp=AS (Vs++[v])→∀W:World,Below wr.heap.size wr W→∃(k' e':Nat) (K':List ByteArray) (Vs':List V) (lst':ByteArray) (last':Option ByteArray),
         Value.int .i64 ((k:Int)+1)=.int .i64 k'∧Value.int .i64 ((xs.length-r.length:Nat):Int)=.int .i64 e'∧Value.int .i64 (dp:Int)=.int .i64 (AS Vs':Nat)∧Value.string key=.string lst'∧a<e'∧e'≤xs.length∧AS Vs'≤200 ∧
         (ck=6→0<k'→K'.getLast? = some lst')∧EU (AH m) ck cn.toNat (xs.drop (a+1)) k' K' Vs' last' (xs.drop e') ∧
         Below (w.heap.size+1) (w.alloc (.cells #[.int .i64 ck,.int .i64 cm,.string ct,.string cy,.int .i64 cn] 80)) W:=by
        intro hok dp hdp W hW
        refine⟨k+1,xs.length-r.length,if ck=6 then K++[key] else K,Vs++[v],key,some key,by go_num,rfl,by rw[hdp],rfl,by omega,by omega,by rw[BM];omega,fun h _=>by simp[h],?_,
         Hbw.out.trans (hW.mono hsz)⟩
        have hs:=Hinv.out
        rw[Hdrop.out]at hs
        have hp2:=Hp.out
        rw[Hdrop.out]at hp2
        have:=hs.step (by omega) (by rw[Hkey.out];exact hok) hp2
        rw[Hkey.out]at this
        rw[←Lr (Hrs.out.trans (List.drop_suffix _ _))]
        exact this
       have HNO:=Lib.hid NO
       have HYES:=Lib.hid YES
       clear NO YES
       cases h5:(ck==5)
       ·cases h6:(ck==6)
        ·have hb:B1 ck last key=false:=by simp[B1,h5,h6]
         have Hb:=Lib.hid hb
         clear hb
         go_wp2_with (go_at_call 97;refine (HIH1.out _ HR.out).mono ?_;rintro e w1 ⟨rfl,hb1⟩)
         ·go_roundw
          case rel=>exact HYES.out Hb.out _ (by rw[BM];omega) _ hb1
          case measure=>simp[intOf];omega
         ·go_roundw
          case rel=>exact HYES.out Hb.out _ (by rw[BM];omega) _ hb1
          case measure=>simp[intOf];omega
        ·rcases Nat.eq_zero_or_pos k with hk0 | hk0
         ·have hb:B1 ck last key=false:=Hinv.out.keyOk Hlst.out (fun h=>by simp[h]at h5) (fun _ h=>absurd h (by omega))
          have Hb:=Lib.hid hb
          have hk1:decide (0<k)=false:=by simp;omega
          have Hk0:=Lib.hid hk0
          clear hb hk0
          go_wp2_with (go_at_call 97;refine (HIH1.out _ HR.out).mono ?_;rintro e w1 ⟨rfl,hb1⟩)
          ·go_roundw
           case rel=>exact HYES.out Hb.out _ (by rw[BM];omega) _ hb1
           case measure=>simp[intOf];omega
          ·go_roundw
           case rel=>exact HYES.out Hb.out _ (by rw[BM];omega) _ hb1
           case measure=>simp[intOf];omega
         ·have hk1:decide (0<k)=true:=by simp;omega
          cases h7:Op.bytesLess key.toList lst.toList
          ·cases h8:(key.toList==lst.toList)
           ·have hb:B1 ck last key=false:=Hinv.out.keyOk Hlst.out (fun h=>by simp[h]at h5) (fun _ _=>⟨h7,h8⟩)
            have Hb:=Lib.hid hb
            clear hb
            go_wp2_with (go_at_call 97;refine (HIH1.out _ HR.out).mono ?_;rintro e w1 ⟨rfl,hb1⟩)
            ·go_roundw
             case rel=>exact HYES.out Hb.out _ (by rw[BM];omega) _ hb1
             case measure=>simp[intOf];omega
            ·go_roundw
             case rel=>exact HYES.out Hb.out _ (by rw[BM];omega) _ hb1
             case measure=>simp[intOf];omega
           ·have hb:B1 ck last key=true:=Hinv.out.keyNo Hlst.out (.inr ⟨by simpa using h6,hk0,.inr h8⟩)
            have Hb:=Lib.hid (HNO.out hb)
            clear hb
            go_wp2_with (go_at_call 97;refine (HIH1.out _ HR.out).mono ?_;rintro e w1 ⟨rfl,hb1⟩)
            go_ret2
            exact⟨by rw[Hb.out.1,Hb.out.2];rfl,Hww.out⟩
          ·have hb:B1 ck last key=true:=Hinv.out.keyNo Hlst.out (.inr ⟨by simpa using h6,hk0,.inl h7⟩)
           have Hb:=Lib.hid (HNO.out hb)
           clear hb
           go_wp2_with (go_at_call 97;refine (HIH1.out _ HR.out).mono ?_;rintro e w1 ⟨rfl,hb1⟩)
           go_ret2
           exact⟨by rw[Hb.out.1,Hb.out.2];rfl,Hww.out⟩
       ·have h6:(ck==6)=false:=by simp at h5 ⊢;omega
        cases h9:key.toList.isEmpty
        ·have hb:B1 ck last key=true:=by simp[B1,h5,h9]
         have Hb:=Lib.hid (HNO.out hb)
         clear hb
         go_wp2_with (go_at_call 97;refine (HIH1.out _ HR.out).mono ?_;rintro e w1 ⟨rfl,hb1⟩)
         go_ret2
         exact⟨by rw[Hb.out.1,Hb.out.2];rfl,Hww.out⟩
        ·have hb:B1 ck last key=false:=by simp[B1,h6,h9]
         have Hb:=Lib.hid hb
         have h10:key.toList=[]:=by simpa using h9
         clear hb
         go_wp2_with (go_at_call 97;refine (HIH1.out _ HR.out).mono ?_;rintro e w1 ⟨rfl,hb1⟩)
         ·go_roundw
          case rel=>exact HYES.out Hb.out _ (by rw[BM];omega) _ hb1
          case measure=>simp[intOf];omega
         ·go_roundw
          case rel=>exact HYES.out Hb.out _ (by rw[BM];omega) _ hb1
          case measure=>simp[intOf];omega
     ·have hge2:decide ((xs.length:Int)≤(e:Int))=true:=by simp;omega
      have hnone:AH (m+1) (xs.drop a)=none:=by
       rw[HD.out,E0 (by rw[List.drop_eq_nil_of_le (show xs.length≤e by omega)]at Hinv;exact Hinv.out.empty (by omega))]
      go_wp2_with fail
      go_ret2
      exact⟨by rw[hnone];rfl,Hww.out⟩
    ·have hlt3:decide ((k:Int)<cn)=false:=by simp;omega
     have hkN:k=cn.toNat:=by have:=Hinv.out.1;omega
     go_wp2_with fail
     go_ret2
     refine⟨?_,Hww.out⟩
     subst hkN
     rw[HD.out,Ln Hinv.out.done,Jd,QZ,List.length_drop,show xs.length-(xs.length-e)=e from by omega]
     simp[V.depth]
theorem II (k m:Int) (t y:ByteArray) (n:Int) (ht:t.size≤9223372036854775807) (hy:y.size≤9223372036854775807) (w:World) :
  Calls Tryz.prog 236 #[.agg #[.int .i64 k,.int .i64 m,.string t,.string y,.int .i64 n]] w fun e w'=>e=.returned (.int .i64 (AP k m t y n))∧Below w.heap.size w w':=by
 have HB:∀X:Obj,Below w.heap.size w (w.alloc X):=fun X=>(Below.refl _ _).alloc (Nat.le_refl _) _
 have HBB:=Lib.hid HB
 clear HB
 go_enter Tryz.func236,Tryz.ntmps236
 have hk:k=5∨k=6∨k=3∨k=4∨((k==5)=false∧(k==6)=false∧(k==3)=false∧(k==4)=false):=by simp;omega
 rcases hk with rfl | rfl | rfl | rfl | ⟨h5,h6,h3,h4⟩
 ·have h0:inB 5 0 6=true:=by decide
  go_wp2_with (first
   | (go_at_call 72;refine (Dv _ _ _ _).mono ?_;rintro e w' ⟨rfl,rfl⟩)
   | (go_at_call 202;refine (Ec _ (by assumption) _).mono ?_;rintro e w' ⟨rfl,rfl⟩))
  all_goals go_ret
  all_goals refine⟨?_,HBB.out _⟩
  all_goals clear HBB
  all_goals (refine congrArg (fun x:Int=>Ending.returned (.int .i64 x)) ?_)
  all_goals simp_all [AP,cF,cR,cT,Cp]
 ·have h0:inB 6 0 6=true:=by decide
  go_wp2_with (first
   | (go_at_call 72;refine (Dv _ _ _ _).mono ?_;rintro e w' ⟨rfl,rfl⟩)
   | (go_at_call 202;refine (Ec _ (by assumption) _).mono ?_;rintro e w' ⟨rfl,rfl⟩))
  all_goals go_ret
  all_goals refine⟨?_,HBB.out _⟩
  all_goals clear HBB
  all_goals (refine congrArg (fun x:Int=>Ending.returned (.int .i64 x)) ?_)
  all_goals simp_all [AP,cF,cR,cT,Cp]
 ·have h0:inB 3 0 6=true:=by decide
  go_wp2_with (first
   | (go_at_call 72;refine (Dv _ _ _ _).mono ?_;rintro e w' ⟨rfl,rfl⟩)
   | (go_at_call 202;refine (Ec _ (by assumption) _).mono ?_;rintro e w' ⟨rfl,rfl⟩))
  all_goals go_ret
  all_goals refine⟨?_,HBB.out _⟩
  all_goals clear HBB
  all_goals (refine congrArg (fun x:Int=>Ending.returned (.int .i64 x)) ?_)
  all_goals simp_all [AP,cF,cR,cT,Cp]
 ·have h0:inB 4 0 6=true:=by decide
  go_wp2_with (first
   | (go_at_call 72;refine (Dv _ _ _ _).mono ?_;rintro e w' ⟨rfl,rfl⟩)
   | (go_at_call 202;refine (Ec _ (by assumption) _).mono ?_;rintro e w' ⟨rfl,rfl⟩))
  all_goals go_ret
  all_goals refine⟨?_,HBB.out _⟩
  all_goals clear HBB
  all_goals (refine congrArg (fun x:Int=>Ending.returned (.int .i64 x)) ?_)
  all_goals simp_all [AP,cF,cR,cT,Cp]
 ·cases h0:inB k 0 6
  ·go_wp2_with (go_at_call 72;refine (Dv _ _ _ _).mono ?_;rintro e w' ⟨rfl,rfl⟩)
   go_ret
   exact⟨by simp[AP,h0],HBB.out _⟩
  ·go_wp2_with (first
    | (go_at_call 72;refine (Dv _ _ _ _).mono ?_;rintro e w' ⟨rfl,rfl⟩)
    | (go_at_call 202;refine (Ec _ (by assumption) _).mono ?_;rintro e w' ⟨rfl,rfl⟩))
   all_goals go_ret
   all_goals refine⟨?_,HBB.out _⟩
   all_goals clear HBB
   all_goals (refine congrArg (fun x:Int=>Ending.returned (.int .i64 x)) ?_)
   all_goals simp_all [AP,cF,cR,cT,Cp]
set_option maxRecDepth 100000 in
theorem NW (xs:List CellD) (A:Option Addr) (cap:Nat) (S:Nat→Prop) (w:World) (hcs:B9 w S A xs) :
  Calls Tryz.prog 47 #[.slice A xs.length cap] w fun e w'=>e=.returned (.int .i64 (dec xs).1)∧Below w.heap.size w w':=by
 by_cases h1:xs.length<1
 ·have hd:=Lib.hid (Md (xs:=xs) (.inl h1))
  go_enter Tryz.func47,Tryz.ntmps47
  go_wp2
  go_ret
  exact⟨by rw[hd.out];rfl,Below.refl _ _⟩
 ·by_cases h2:200<xs.length
  ·have hd:=Lib.hid (Md (xs:=xs) (.inr h2))
   go_enter Tryz.func47,Tryz.ntmps47
   go_wp2
   go_ret
   exact⟨by rw[hd.out];rfl,Below.refl _ _⟩
  ·have HC:=Lib.hid hcs
   clear hcs
   have h1':decide ((xs.length:Int)<1)=false:=by simp;omega
   have h2':decide ((200:Int)<xs.length)=false:=by simp;omega
   go_enter Tryz.func47,Tryz.ntmps47
   go_wp2
   go_loopw [3] (fun i wr=>∃k:Nat,k≤xs.length∧i=.int .i64 k∧(∀i (hi:i<xs.length),i<k→xs[i].code=0)∧Below w.heap.size w wr) (fun i _=>xs.length-(intOf i).toNat)
   case atStart=>exact⟨0,Nat.zero_le _,rfl,fun _ _ h=>absurd h (by omega),Below.refl _ _⟩
   case round =>
    obtain⟨k,hk,rfl,hall,hb⟩:=hrel
    have Hall:=Lib.hid hall
    have Hb:=Lib.hid hb
    clear hall hb
    by_cases hlt:k<xs.length
    ·obtain⟨b,off,rfl,hS,hl,c0,c1,c2,c3,c4⟩:=(HC.out.below Hb.out).at_ hlt
     have Hk:Hid (∃c,xs[k]=c):=⟨_,rfl⟩
     cases hz:(xs[k].code != 0)
     ·have hz':AP xs[k].kind xs[k].num xs[k].text xs[k].key xs[k].n=0:=by simpa [CellD.code] using hz
      have HC1:Hid (∀W:World,Calls Tryz.prog 96 #[.agg #[.int .i64 xs[k].kind,.int .i64 xs[k].num,.string xs[k].text,.string xs[k].key,.int .i64 xs[k].n]] W fun e w'=>e=.returned (.int .i64 0)∧Below W.heap.size W w'):=by
       intro W
       have:=MG xs[k].kind xs[k].num xs[k].text xs[k].key xs[k].n W
       rw[hz']at this
       exact this
      have Hz:=Lib.hid hz'
      clear hz hz'
      go_wp2_with (go_at_call 96;refine (HC1.out _).mono ?_;rintro e w1 ⟨rfl,hb1⟩)
      all_goals go_roundw
      case rel =>
       refine⟨k+1,by omega,by go_num,fun i hi hik=>?_,Hb.out.trans (hb1.mono Hb.out.size)⟩
       by_cases he:i=k
       ·subst he;exact Hz.out
       ·exact Hall.out i hi (by omega)
      case measure=>simp[intOf];omega
     ·have HC1:Hid (∀W:World,Calls Tryz.prog 96 #[.agg #[.int .i64 xs[k].kind,.int .i64 xs[k].num,.string xs[k].text,.string xs[k].key,.int .i64 xs[k].n]] W fun e w'=>e=.returned (.int .i64 xs[k].code)∧Below W.heap.size W w'):=by
       intro W
       exact MG xs[k].kind xs[k].num xs[k].text xs[k].key xs[k].n W
      have hd:=Lib.hid (QY (by omega) (by omega) hlt Hall.out (by simpa using hz))
      generalize xs[k].code=cc at *
      go_wp2_with (go_at_call 96;refine (HC1.out _).mono ?_;rintro e w1 ⟨rfl,hb1⟩)
      all_goals go_ret
      all_goals exact⟨by rw[hd.out];rfl,Hb.out.trans (hb1.mono Hb.out.size)⟩
    ·have hf0:Bu xs=0:=Gd fun i hi=>Hall.out i hi (by omega)
     have hd:=Lib.hid (LJ (by omega) (by omega) hf0)
     have hn:∀c∈xs,c.n≤200:=fun c hc=>(Pt (Fx hf0 c hc)).2
     have HC1:Hid (∀W:World,B9 W S A xs→Calls Tryz.prog 97 #[.slice A xs.length cap,.int .i64 0,.int .i64 0] W fun e w' =>
      e=.returned (.tuple #[.int .i64 (IN xs.length (AH xs.length xs)),.int .i64 (Kr (AH xs.length xs))])∧Below W.heap.size W w'):=fun W hW=>Lb xs (by omega) hn xs.length 0 0 A cap S W (by simp) (by omega) (by omega) (by omega) hW
     have HR:=Lib.hid (HC.out.below Hb.out)
     obtain⟨b,off,rfl,hS,hl,c0,c1,c2,c3,c4⟩:=(HC.out.below Hb.out).at_ (k:=0) (by omega)
     clear hn c0 c1 c2 c4
     simp only[Nat.zero_mul,Nat.add_zero]at c3
     generalize hend:IN xs.length (AH xs.length xs)=en at *
     generalize hdeep:Kr (AH xs.length xs)=dp at *
     have Hend:=Lib.hid hend
     have Hdeep:=Lib.hid hdeep
     clear hend hdeep hf0
     go_wp2_with (go_at_call 97;refine (HC1.out _ HR.out).mono ?_;rintro e w1 ⟨rfl,hb1⟩;obtain⟨hcc,_⟩:=v8 hb1)
     all_goals go_ret
     all_goals refine⟨?_,Hb.out.trans (hb1.mono Hb.out.size)⟩
     all_goals (rw[hd.out,Y4 (by omega),Hend.out,Hdeep.out];simp[*];try omega)
end Go.Proofs.YtcejfdfmgmcinaaGreat
