/- impl.valAt: it makes the tree of the cells. -/
import Derived.Test.YtcejfdfmgmcinaaGreatKG01uB1
set_option linter.all false
set_option maxHeartbeats 8000000
namespace Go.Proofs.YtcejfdfmgmcinaaGreat
open Go.RowKit
theorem L7:(Tryz.prog.info? 127).map (fun i=>(i.zero,i.size,i.bytes))=some (some (.agg BV),5,80):=by kernel_rfl
theorem Mn:(Tryz.prog.info? 9).map (fun i=>(i.zero,i.size,i.bytes))=some (some (.string ⟨#[]⟩),1,16):=by kernel_rfl
def Pj (n:Nat) (p:Option (V×List CellD)) (w:World) (e:Ending) (w':World):Prop :=
 Below w.heap.size w w'∧match p with
  |none=>e=.returned (.tuple #[.agg BV,.int .i64 0,.bool false])
  |some x=>∃vs:List Value,e=.returned (.tuple #[.agg vs.toArray,.int .i64 ((n-x.2.length:Nat):Int),.bool true])∧Cv w' (fun b=>w.heap.size≤b) x.1 vs
set_option maxRecDepth 100000 in
theorem Zu (xs:List CellD) (hx:xs.length≤200) (hn:∀c∈xs,c.n≤200) :
  ∀(m:Nat) (a:Int) (A:Option Addr) (cap:Nat) (S:Nat→Prop) (w:World),xs.length-a.toNat≤m→0≤a→a≤201→Be w S A xs →
   Calls Tryz.prog 237 #[.slice A xs.length cap,.int .i64 a] w (Pj xs.length (AJ m (xs.drop a.toNat)) w):=by
 intro m
 induction m with
 |zero =>
  intro a A cap S w hm ha0 ha hcs
  obtain⟨a,rfl⟩:=Int.eq_ofNat_of_zero_le ha0
  rw[Int.toNat_natCast]at *
  have hge:decide ((xs.length:Int)≤(a:Int))=true:=by simp;omega
  go_enter Tryz.func237,Tryz.ntmps237
  go_wp2
  exact bodyPost_ret (v:=.tuple #[.agg BV,.int .i64 0,.bool false]) (by simp[results,Tryz.results237,go_sem,BV]) rfl ⟨(Below.refl _ _).alloc (Nat.le_refl _) _,rfl⟩
 |succ m ih =>
  intro a A cap S w hm ha0 ha hcs
  obtain⟨a,rfl⟩:=Int.eq_ofNat_of_zero_le ha0
  rw[Int.toNat_natCast]at *
  have HIH:=Lib.hid ih
  clear ih
  by_cases hge:xs.length≤a
  ·have hge':decide ((xs.length:Int)≤(a:Int))=true:=by simp;omega
   rw[List.drop_eq_nil_of_le hge]
   go_enter Tryz.func237,Tryz.ntmps237
   go_wp2
   exact bodyPost_ret (v:=.tuple #[.agg BV,.int .i64 0,.bool false]) (by simp[results,Tryz.results237,go_sem,BV]) rfl ⟨(Below.refl _ _).alloc (Nat.le_refl _) _,rfl⟩
  ·have hlt:a<xs.length:=by omega
   obtain⟨b,off,rfl,hSb,hbl,c0,c1,c2,c3,c4⟩:=hcs.at_ hlt
   have hN:=hn xs[a] (List.getElem_mem hlt)
   have HD:=Lib.hid (FS hlt)
   have HC:=Lib.hid hcs
   have hstart:=VA.start (tC:=80) (tV:=127) (tS:=9) w xs[a]
   clear hcs
   generalize xs[a]=c at *
   obtain⟨ck,cm,ct,cy,cn⟩:=c
   simp only at c0 c1 c2 c3 c4 hN hstart
   have Hst:=Lib.hid hstart
   clear hstart
   go_enter Tryz.func237,Tryz.ntmps237
   go_wp2
   go_loopw [9,35] (fun en ki wr=>∃(k e:Nat) (K:List ByteArray) (Vs:List V) (last:Option ByteArray) (vk vv:Value),
     ki=.int .i64 k∧en=.int .i64 e∧a<e∧e≤xs.length ∧
     Fz (AJ m) ck cn.toNat (xs.drop (a+1)) k K Vs last (xs.drop e) ∧
     VA 80 127 9 w.heap.size w wr ⟨ck,cm,ct,cy,cn⟩ K Vs vk vv) (fun _ ki _=>cn.toNat-(intOf ki).toNat)
   case atStart =>
    exact⟨0,a+1,[],[],none,_,_,rfl,rfl,by omega,by omega,Fz.start,Hst.out⟩
   case round =>
    obtain⟨k,e,K,Vs,last,vk,vv,rfl,rfl,hae,hex,hinv,hva⟩:=hrel
    have hww:Below w.heap.size w wr:=hva.below
    have hcr:=HC.out.below hww
    have f0:wr.cell? ⟨w.heap.size+1,0,none⟩=some (.int .i64 ck):=hva.cpy.cell 0
    have f4:wr.cell? ⟨w.heap.size+1,4,none⟩=some (.int .i64 cn):=hva.cpy.cell 4
    have Hinv:=Lib.hid hinv
    have Hva:=Lib.hid hva
    have Hww:=Lib.hid hww
    clear hinv hva hww
    have hsz:w.heap.size+3≤wr.heap.size:=Hva.out.size
    by_cases hk:(k:Int)<cn
    ·by_cases hel:e<xs.length
     ·obtain⟨b1,off1,hA1,_,_,g0,g1,g2,g3,g4⟩:=hcr.at_ hel
      simp only[Option.some.injEq,Addr.mk.injEq,and_true]at hA1
      obtain⟨rfl,rfl⟩:=hA1
      clear hcr g0 g1 g2 g4 c0 c1 c2 c3 c4
      have HR:=Lib.hid (HC.out.below Hww.out)
      rcases hp:AJ m (xs.drop e) with _ | ⟨v,r⟩
      ·have Hnone:Hid (AJ (m+1) (xs.drop a)=none):=by
        have hs:=Hinv.out
        rw[FS hel]at hs hp
        rw[HD.out]
        exact EC (hs.kid (by omega) hp)
       have HPN:Hid (∀W:World,Be W S (some ⟨b,off,none⟩) xs→Calls Tryz.prog 237 #[.slice (some ⟨b,off,none⟩) xs.length cap,.int .i64 e] W fun e w'=>Below W.heap.size W w'∧e=.returned (.tuple #[.agg BV,.int .i64 0,.bool false])):=by
        intro W hW
        have:=HIH.out e _ cap S W (by omega) (by omega) (by omega) hW
        rw[Int.toNat_natCast,hp]at this
        exact this
       clear hp
       go_wp2_with (go_at_call 237;refine (HPN.out _ HR.out).mono ?_;rintro e w1 ⟨hb1,rfl⟩;unfold BV;have hva1:=Hva.out.call hb1;obtain⟨z0,z1,z2,z3,z4,q⟩:=hva1.res.five;obtain⟨l0,l1,l2⟩:=hva1.lts;have Hva1:=Lib.hid hva1;clear hva1)
       ·refine bodyPost_ret (v:=.tuple #[.agg BV,.int .i64 0,.bool false]) (by simp[results,Tryz.results237,go_sem,BV,z0,z1,z2,z3,z4,l0]) rfl ?_
        rw[Hnone.out]
        exact⟨(((((((Hww.out.trans (hb1.mono (by omega))).setCell (Nat.le_refl _) _).setCell (Nat.le_refl _) _).setCell (Nat.le_refl _) _).setCell (Nat.le_refl _) _).setCell (Nat.le_refl _) _).alloc (by simp[World.setCell];omega) _),rfl⟩
      ·have HPS:Hid (∀W:World,Be W S (some ⟨b,off,none⟩) xs→Calls Tryz.prog 237 #[.slice (some ⟨b,off,none⟩) xs.length cap,.int .i64 e] W fun e w'=>Below W.heap.size W w' ∧
         ∃vs:List Value,e=.returned (.tuple #[.agg vs.toArray,.int .i64 ((xs.length-r.length:Nat):Int),.bool true])∧Cv w' (fun b=>W.heap.size≤b) v vs):=by
        intro W hW
        have:=HIH.out e _ cap S W (by omega) (by omega) (by omega) hW
        rw[Int.toNat_natCast,hp]at this
        exact this
       have Hp:=Lib.hid hp
       clear hp
       have hrl:=(Eh _ _ _ _ Hp.out).2
       have Hrs:=Lib.hid (Eh _ _ _ _ Hp.out).1
       simp only[List.length_drop]at hrl
       have HG3:Hid (∀W:World,Below wr.heap.size wr W→W.cell? ⟨b,off+e*5+3,none⟩=some (.string xs[e].key)∧b<W.heap.size):=by
        intro W hW
        have h0:=hW.size
        exact⟨(hW.cell (p:=⟨b,off+e*5+3,none⟩) (by show b<wr.heap.size;omega)).trans g3,by omega⟩
       generalize hkey:xs[e].key=key at *
       have Hdrop:=Lib.hid (FS hel)
       have Hkey:=Lib.hid hkey
       clear hkey g3
       have NO:B6 ck last key=true→AJ (m+1) (xs.drop a)=none:=by
        intro hbad
        rw[HD.out]
        exact EC (by rw[Hdrop.out]at Hinv;exact Hinv.out.bad (by omega) (by rw[Hkey.out];exact hbad))
       have YES:B6 ck last key=false→∀W vk' vv',VA 80 127 9 w.heap.size w W ⟨ck,cm,ct,cy,cn⟩ (if ck=6 then K++[key] else K) (Vs++[v]) vk' vv' →
         ∃(k' e':Nat) (K':List ByteArray) (Vs':List V) (last':Option ByteArray) (vk vv:Value),
         Value.int .i64 ((k:Int)+1)=.int .i64 k'∧Value.int .i64 ((xs.length-r.length:Nat):Int)=.int .i64 e'∧a<e'∧e'≤xs.length ∧
         Fz (AJ m) ck cn.toNat (xs.drop (a+1)) k' K' Vs' last' (xs.drop e')∧VA 80 127 9 w.heap.size w W ⟨ck,cm,ct,cy,cn⟩ K' Vs' vk vv:=by
        intro hok W vk' vv' hW
        refine⟨k+1,xs.length-r.length,if ck=6 then K++[key] else K,Vs++[v],some key,vk',vv',by go_num,rfl,by omega,by omega,?_,hW⟩
        have hs:=Hinv.out
        rw[Hdrop.out]at hs
        have hp2:=Hp.out
        rw[Hdrop.out]at hp2
        have:=hs.step (by omega) (by rw[Hkey.out];exact hok) hp2
        rw[Hkey.out]at this
        rw[←MG (Hrs.out.trans (List.drop_suffix _ _))]
        exact this
       have HNO:=Lib.hid NO
       have HYES:=Lib.hid YES
       have hVl:Vs.length≤1000000:=by have:=Hinv.out.1;have:=Hinv.out.2.1;omega
       have hKl:K.length≤1000000:=by have:=Hinv.out.1;have:=Hinv.out.len;split at this<;>omega
       clear NO YES
       cases h6:(ck==6)
       ·have hck6:¬ck=6:=by simpa using h6
        have Hck6:=Lib.hid hck6
        clear hck6
        cases h5:(ck==5)
        ·have hb:B6 ck last key=false:=by simp[B6,h5,h6]
         have Hb:=Lib.hid hb
         clear hb
         go_wp2_with (first
          | (go_at_call 237;refine (HPS.out _ HR.out).mono ?_;rintro e w1 ⟨hb1,vs,rfl,hrep⟩;obtain⟨Ak,ck',Av,cv',kvs,rfl,hck',hcv',_,_,_⟩:=hrep.out;have hva1:=Hva.out.call hb1;have hva2:=hva1.alloc (.cells #[.int .i64 v.kind,.int .i64 v.num,.string v.text,.slice Ak v.keys.length ck',.slice Av v.kids.length cv'] 127);obtain⟨kvs1,hov,hl5,hvr⟩:=hva2.ownV;obtain⟨o0,o1,o2,o3,o4,q⟩:=hva1.out.five;obtain⟨i0,i1,i2,i3,i4,q1⟩:=hva1.cpy.five;obtain⟨l0,l1,l2⟩:=hva1.lts;obtain⟨g3,hbl1⟩:=HG3.out _ hb1;have Hva2:=Lib.hid hva2;have Hrep:=Lib.hid (Cv.keep (Same.alloc _ _ (.cells #[.int .i64 v.kind,.int .i64 v.num,.string v.text,.slice Ak v.keys.length ck',.slice Av v.kids.length cv'] 127)) (hrep.weaken (Hva.out.fresh)));have Hov:=Lib.hid hov;have Hl5:=Lib.hid hl5;have Hvr:=Lib.hid hvr;have Hb1:=Lib.hid hb1;clear hva1 hva2 hrep hov hl5 hvr hb1)
          | (at_builtin;(refine C5 rfl _ _ 114 rfl Tryz.underlying114 L7 rfl (by decide) (by decide) Hov.out rfl Hva2.out.size _ rfl (by simp) rfl (by simp[Value.oneCell']) hVl ?_);intro vv' w2 hown2 hg2 hex2;obtain⟨g2,cap2,rfl,_,_,_⟩:=hex2;obtain⟨p0,p1,p2,p3,p4,p⟩:=(Hva2.out.afterV hg2).five;have Hkid:=Lib.hid (Hva2.out.kid (by decide) rfl Hrep.out Hl5.out Hvr.out hown2 hg2);clear hown2 hg2))
         all_goals go_roundw
         case rel=>exact HYES.out Hb.out _ vk _ (by rw[if_neg Hck6.out];exact Hkid.out)
         case measure=>simp[intOf];omega
        ·cases h9:key.toList.isEmpty
         ·have hb:B6 ck last key=true:=by simp[B6,h5,h9]
          have Hb:=Lib.hid (HNO.out hb)
          clear hb
          go_wp2_with (go_at_call 237;refine (HPS.out _ HR.out).mono ?_;rintro e w1 ⟨hb1,vs,rfl,hrep⟩;obtain⟨Ak,ck',Av,cv',kvs,rfl,hck',hcv',_,_,_⟩:=hrep.out;have hva1:=Hva.out.call hb1;have hbz:=hb1;have hva2:=hva1.alloc (.cells #[.int .i64 v.kind,.int .i64 v.num,.string v.text,.slice Ak v.keys.length ck',.slice Av v.kids.length cv'] 127);obtain⟨kvs1,hov,hl5,hvr⟩:=hva2.ownV;obtain⟨o0,o1,o2,o3,o4,q⟩:=hva1.out.five;obtain⟨i0,i1,i2,i3,i4,q1⟩:=hva1.cpy.five;obtain⟨l0,l1,l2⟩:=hva1.lts;obtain⟨g3,hbl1⟩:=HG3.out _ hb1;obtain⟨z0,z1,z2,z3,z4,qz⟩:=hva1.res.five;have Hva2:=Lib.hid hva2;have Hrep:=Lib.hid (Cv.keep (Same.alloc _ _ (.cells #[.int .i64 v.kind,.int .i64 v.num,.string v.text,.slice Ak v.keys.length ck',.slice Av v.kids.length cv'] 127)) (hrep.weaken (Hva.out.fresh)));have Hov:=Lib.hid hov;have Hl5:=Lib.hid hl5;have Hvr:=Lib.hid hvr;have Hb1:=Lib.hid hb1;have Hbz:=Lib.hid hbz;clear hbz hva1 hva2 hrep hov hl5 hvr hb1)
          refine bodyPost_ret (v:=.tuple #[.agg BV,.int .i64 0,.bool false]) (by simp[results,Tryz.results237,go_sem,BV,z0,z1,z2,z3,z4,l0]) rfl ?_
          rw[Hb.out]
          exact⟨(((((((Hww.out.trans (Hbz.out.mono (by omega))).setCell (Nat.le_refl _) _).setCell (Nat.le_refl _) _).setCell (Nat.le_refl _) _).setCell (Nat.le_refl _) _).setCell (Nat.le_refl _) _).alloc (by simp[World.setCell];omega) _),rfl⟩
         ·have hb:B6 ck last key=false:=by simp[B6,h6,h9]
          have Hb:=Lib.hid hb
          have h10:key.toList=[]:=by simpa using h9
          clear hb
          go_wp2_with (first
           | (go_at_call 237;refine (HPS.out _ HR.out).mono ?_;rintro e w1 ⟨hb1,vs,rfl,hrep⟩;obtain⟨Ak,ck',Av,cv',kvs,rfl,hck',hcv',_,_,_⟩:=hrep.out;have hva1:=Hva.out.call hb1;have hva2:=hva1.alloc (.cells #[.int .i64 v.kind,.int .i64 v.num,.string v.text,.slice Ak v.keys.length ck',.slice Av v.kids.length cv'] 127);obtain⟨kvs1,hov,hl5,hvr⟩:=hva2.ownV;obtain⟨o0,o1,o2,o3,o4,q⟩:=hva1.out.five;obtain⟨i0,i1,i2,i3,i4,q1⟩:=hva1.cpy.five;obtain⟨l0,l1,l2⟩:=hva1.lts;obtain⟨g3,hbl1⟩:=HG3.out _ hb1;have Hva2:=Lib.hid hva2;have Hrep:=Lib.hid (Cv.keep (Same.alloc _ _ (.cells #[.int .i64 v.kind,.int .i64 v.num,.string v.text,.slice Ak v.keys.length ck',.slice Av v.kids.length cv'] 127)) (hrep.weaken (Hva.out.fresh)));have Hov:=Lib.hid hov;have Hl5:=Lib.hid hl5;have Hvr:=Lib.hid hvr;have Hb1:=Lib.hid hb1;clear hva1 hva2 hrep hov hl5 hvr hb1)
           | (at_builtin;(refine C5 rfl _ _ 114 rfl Tryz.underlying114 L7 rfl (by decide) (by decide) Hov.out rfl Hva2.out.size _ rfl (by simp) rfl (by simp[Value.oneCell']) hVl ?_);intro vv' w2 hown2 hg2 hex2;obtain⟨g2,cap2,rfl,_,_,_⟩:=hex2;obtain⟨p0,p1,p2,p3,p4,p⟩:=(Hva2.out.afterV hg2).five;have Hkid:=Lib.hid (Hva2.out.kid (by decide) rfl Hrep.out Hl5.out Hvr.out hown2 hg2);clear hown2 hg2))
          all_goals go_roundw
          case rel=>exact HYES.out Hb.out _ vk _ (by rw[if_neg Hck6.out];exact Hkid.out)
          case measure=>simp[intOf];omega
       ·have hck6:ck=6:=by simpa using h6
        have h5:(ck==5)=false:=by simp[hck6]
        have Hck6:=Lib.hid hck6
        clear hck6
        rcases Nat.eq_zero_or_pos k with hk0 | hk0
        ·have hb:B6 ck last key=false:=Hinv.out.keyOk (lst:=key) (fun _ h=>absurd h (by omega)) (fun h=>by simp[h]at h5) (fun _ h=>absurd h (by omega))
         have Hb:=Lib.hid hb
         have hk1:decide (0<k)=false:=by simp;omega
         have Hk0:=Lib.hid hk0
         clear hb hk0
         go_wp2_with (first
          | (go_at_call 237;refine (HPS.out _ HR.out).mono ?_;rintro e w1 ⟨hb1,vs,rfl,hrep⟩;obtain⟨Ak,ck',Av,cv',kvs,rfl,hck',hcv',_,_,_⟩:=hrep.out;have hva1:=Hva.out.call hb1;have hva2:=hva1.alloc (.cells #[.int .i64 v.kind,.int .i64 v.num,.string v.text,.slice Ak v.keys.length ck',.slice Av v.kids.length cv'] 127);obtain⟨o0,o1,o2,o3,o4,q⟩:=hva1.out.five;obtain⟨i0,i1,i2,i3,i4,q1⟩:=hva1.cpy.five;obtain⟨l0,l1,l2⟩:=hva1.lts;obtain⟨g3,hbl1⟩:=HG3.out _ hb1;have Hva2:=Lib.hid hva2;have Hrep:=Lib.hid (Cv.keep (Same.alloc _ _ (.cells #[.int .i64 v.kind,.int .i64 v.num,.string v.text,.slice Ak v.keys.length ck',.slice Av v.kids.length cv'] 127)) (hrep.weaken (Hva.out.fresh)));have Hb1:=Lib.hid hb1;have HNK:=Lib.hid hva1.notOwnK;clear hva1 hva2 hrep hb1)
          | (at_builtin;refine C5 rfl _ _ 125 rfl Tryz.underlying125 Mn rfl (by decide) (by decide) Hva2.out.ownK rfl Hva2.out.size [.string key] rfl (by simp) rfl (by simp[Value.oneCell']) hKl ?_;intro vk' w2 hown2 hg2 hex2;obtain⟨g2,cap2,rfl,_,_,hgl2⟩:=hex2;have hva3:=Hva2.out.key (by decide) hown2 hg2;have hsz3:=hg2.grown.size;obtain⟨kvs1,hov,hl5,hvr⟩:=hva3.ownV;obtain⟨p0,p1,p2,p3,p4,p⟩:=(Hva2.out.afterK hg2).five;obtain⟨t0,t1,t2,t3,t4,_⟩:=(hg2.blk (Blk.new w1 127 #[.int .i64 v.kind,.int .i64 v.num,.string v.text,.slice Ak v.keys.length ck',.slice Av v.kids.length cv']) HNK.out).five;have hne1:¬(w1.heap.size=w.heap.size+2):=(by omega);have hne2:¬(w.heap.size+2=w1.heap.size):=(by omega);simp at hsz3;have Hva3:=Lib.hid hva3;have Hov:=Lib.hid hov;have Hl5:=Lib.hid hl5;have Hvr:=Lib.hid hvr;have Hrep3:=Lib.hid (Hva2.out.keepKid hg2 Hrep.out);clear hva3 hov hl5 hvr hown2 hg2)
          | (at_builtin;(refine C5 rfl _ _ 114 rfl Tryz.underlying114 L7 rfl (by decide) (by decide) Hov.out rfl Hva3.out.size _ rfl (by simp) rfl (by simp[Value.oneCell']) hVl ?_);intro vv' w4 hown4 hg4 hex4;obtain⟨g4,cap4,rfl,_,_,_⟩:=hex4;obtain⟨s0,s1,s2,s3,s4,s⟩:=(Hva3.out.afterV hg4).five;have Hkid:=Lib.hid (Hva3.out.kid (by decide) rfl Hrep3.out Hl5.out Hvr.out hown4 hg4);clear hown4 hg4))
         all_goals go_roundw
         case rel=>exact HYES.out Hb.out _ _ _ (by rw[if_pos Hck6.out];exact Hkid.out)
         case measure=>simp[intOf];omega
        ·have hk1:decide (0<k)=true:=by simp;omega
         have hKl2:K.length=k:=Hinv.out.2.2.1 Hck6.out
         obtain⟨Ak2,ckk,Av2,cvv,kvs0,rfl,rfl,hck2,hcv2,r1,_,_⟩:=Hva.out.slices
         have hlast:last=K.getLast?:=Hinv.out.2.2.2.2.1 Hck6.out
         rw[List.getLast?_eq_getElem?,List.getElem?_eq_getElem (show K.length-1<K.length by omega)]at hlast
         obtain⟨gk,offk,rfl,_,hgl,hcellK⟩:=r1.at_ (k:=K.length-1) (by omega)
         generalize K[K.length-1]=lst at *
         rw[show K.length-1=k-1 from by omega]at hcellK
         have HGK:Hid (∀W:World,Below wr.heap.size wr W→W.cell? ⟨gk,offk+(k-1),none⟩=some (.string lst)∧gk<W.heap.size):=by
          intro W hW
          have h0:=hW.size
          exact⟨(hW.cell (p:=⟨gk,offk+(k-1),none⟩) hgl).trans hcellK,by omega⟩
         have Hlast:=Lib.hid hlast
         have hKk1:(k:Int)≤(K.length:Int):=by omega
         have hKk2:k-1<K.length:=by omega
         have hi1:((k:Int)-1).toNat=k-1:=by omega
         have hi2:(k:Int)-1<(K.length:Int):=by omega
         clear hlast r1 hcellK hKl2
         cases h7:Op.bytesLess lst.toList key.toList
         ·have hb:B6 ck last key=true:=by rw[Hlast.out];simp[B6,h6,h7]
          have Hb:=Lib.hid (HNO.out hb)
          clear hb
          go_wp2_with (go_at_call 237;refine (HPS.out _ HR.out).mono ?_;rintro e w1 ⟨hb1,vs,rfl,hrep⟩;obtain⟨Ak,ck',Av,cv',kvs,rfl,hck',hcv',_,_,_⟩:=hrep.out;have hva1:=Hva.out.call hb1;have hbz:=hb1;have hva2:=hva1.alloc (.cells #[.int .i64 v.kind,.int .i64 v.num,.string v.text,.slice Ak v.keys.length ck',.slice Av v.kids.length cv'] 127);obtain⟨kvs1,hov,hl5,hvr⟩:=hva2.ownV;obtain⟨o0,o1,o2,o3,o4,q⟩:=hva1.out.five;obtain⟨i0,i1,i2,i3,i4,q1⟩:=hva1.cpy.five;obtain⟨l0,l1,l2⟩:=hva1.lts;obtain⟨g3,hbl1⟩:=HG3.out _ hb1;obtain⟨gk3,gkl⟩:=HGK.out _ hb1;obtain⟨z0,z1,z2,z3,z4,qz⟩:=hva1.res.five;have Hva2:=Lib.hid hva2;have Hrep:=Lib.hid (Cv.keep (Same.alloc _ _ (.cells #[.int .i64 v.kind,.int .i64 v.num,.string v.text,.slice Ak v.keys.length ck',.slice Av v.kids.length cv'] 127)) (hrep.weaken (Hva.out.fresh)));have Hov:=Lib.hid hov;have Hl5:=Lib.hid hl5;have Hvr:=Lib.hid hvr;have Hb1:=Lib.hid hb1;have Hbz:=Lib.hid hbz;clear hbz hva1 hva2 hrep hov hl5 hvr hb1)
          refine bodyPost_ret (v:=.tuple #[.agg BV,.int .i64 0,.bool false]) (by simp[results,Tryz.results237,go_sem,BV,z0,z1,z2,z3,z4,l0]) rfl ?_
          rw[Hb.out]
          exact⟨(((((((Hww.out.trans (Hbz.out.mono (by omega))).setCell (Nat.le_refl _) _).setCell (Nat.le_refl _) _).setCell (Nat.le_refl _) _).setCell (Nat.le_refl _) _).setCell (Nat.le_refl _) _).alloc (by simp[World.setCell];omega) _),rfl⟩
         ·have hb:B6 ck last key=false:=by rw[Hlast.out];simp[B6,h5,h7]
          have Hb:=Lib.hid hb
          clear hb
          go_wp2_with (first
           | (go_at_call 237;refine (HPS.out _ HR.out).mono ?_;rintro e w1 ⟨hb1,vs,rfl,hrep⟩;obtain⟨Ak,ck',Av,cv',kvs,rfl,hck',hcv',_,_,_⟩:=hrep.out;have hva1:=Hva.out.call hb1;have hva2:=hva1.alloc (.cells #[.int .i64 v.kind,.int .i64 v.num,.string v.text,.slice Ak v.keys.length ck',.slice Av v.kids.length cv'] 127);obtain⟨o0,o1,o2,o3,o4,q⟩:=hva1.out.five;obtain⟨i0,i1,i2,i3,i4,q1⟩:=hva1.cpy.five;obtain⟨l0,l1,l2⟩:=hva1.lts;obtain⟨g3,hbl1⟩:=HG3.out _ hb1;obtain⟨gk3,gkl⟩:=HGK.out _ hb1;have Hva2:=Lib.hid hva2;have Hrep:=Lib.hid (Cv.keep (Same.alloc _ _ (.cells #[.int .i64 v.kind,.int .i64 v.num,.string v.text,.slice Ak v.keys.length ck',.slice Av v.kids.length cv'] 127)) (hrep.weaken (Hva.out.fresh)));have Hb1:=Lib.hid hb1;have HNK:=Lib.hid hva1.notOwnK;clear hva1 hva2 hrep hb1)
           | (at_builtin;refine C5 rfl _ _ 125 rfl Tryz.underlying125 Mn rfl (by decide) (by decide) Hva2.out.ownK rfl Hva2.out.size [.string key] rfl (by simp) rfl (by simp[Value.oneCell']) hKl ?_;intro vk' w2 hown2 hg2 hex2;obtain⟨g2,cap2,rfl,_,_,hgl2⟩:=hex2;have hva3:=Hva2.out.key (by decide) hown2 hg2;have hsz3:=hg2.grown.size;obtain⟨kvs1,hov,hl5,hvr⟩:=hva3.ownV;obtain⟨p0,p1,p2,p3,p4,p⟩:=(Hva2.out.afterK hg2).five;obtain⟨t0,t1,t2,t3,t4,_⟩:=(hg2.blk (Blk.new w1 127 #[.int .i64 v.kind,.int .i64 v.num,.string v.text,.slice Ak v.keys.length ck',.slice Av v.kids.length cv']) HNK.out).five;have hne1:¬(w1.heap.size=w.heap.size+2):=(by omega);have hne2:¬(w.heap.size+2=w1.heap.size):=(by omega);simp at hsz3;have Hva3:=Lib.hid hva3;have Hov:=Lib.hid hov;have Hl5:=Lib.hid hl5;have Hvr:=Lib.hid hvr;have Hrep3:=Lib.hid (Hva2.out.keepKid hg2 Hrep.out);clear hva3 hov hl5 hvr hown2 hg2)
           | (at_builtin;(refine C5 rfl _ _ 114 rfl Tryz.underlying114 L7 rfl (by decide) (by decide) Hov.out rfl Hva3.out.size _ rfl (by simp) rfl (by simp[Value.oneCell']) hVl ?_);intro vv' w4 hown4 hg4 hex4;obtain⟨g4,cap4,rfl,_,_,_⟩:=hex4;obtain⟨s0,s1,s2,s3,s4,s⟩:=(Hva3.out.afterV hg4).five;have Hkid:=Lib.hid (Hva3.out.kid (by decide) rfl Hrep3.out Hl5.out Hvr.out hown4 hg4);clear hown4 hg4))
          all_goals go_roundw
          case rel=>exact HYES.out Hb.out _ _ _ (by rw[if_pos Hck6.out];exact Hkid.out)
          case measure=>simp[intOf];omega
     ·have hnone:AJ (m+1) (xs.drop a)=none:=by
       rw[HD.out,EC (by rw[List.drop_eq_nil_of_le (show xs.length≤e by omega)]at Hinv;exact Hinv.out.empty (by omega))]
      have Hnone:=Lib.hid hnone
      have HPN:Hid (∀W:World,Be W S (some ⟨b,off,none⟩) xs→Calls Tryz.prog 237 #[.slice (some ⟨b,off,none⟩) xs.length cap,.int .i64 e] W fun e w'=>Below W.heap.size W w'∧e=.returned (.tuple #[.agg BV,.int .i64 0,.bool false])):=by
       intro W hW
       have:=HIH.out e _ cap S W (by omega) (by omega) (by omega) hW
       rw[Int.toNat_natCast,List.drop_eq_nil_of_le (show xs.length≤e by omega),VP]at this
       exact this
      have HR:=Lib.hid (HC.out.below Hww.out)
      clear hnone c0 c1 c2 c3 c4 hcr
      go_wp2_with (go_at_call 237;refine (HPN.out _ HR.out).mono ?_;rintro e w1 ⟨hb1,rfl⟩;unfold BV;have hva1:=Hva.out.call hb1;obtain⟨z0,z1,z2,z3,z4,q⟩:=hva1.res.five;obtain⟨l0,l1,l2⟩:=hva1.lts;have Hva1:=Lib.hid hva1;clear hva1)
      ·refine bodyPost_ret (v:=.tuple #[.agg BV,.int .i64 0,.bool false]) (by simp[results,Tryz.results237,go_sem,BV,z0,z1,z2,z3,z4,l0]) rfl ?_
       rw[Hnone.out]
       exact⟨(((((((Hww.out.trans (hb1.mono (by omega))).setCell (Nat.le_refl _) _).setCell (Nat.le_refl _) _).setCell (Nat.le_refl _) _).setCell (Nat.le_refl _) _).setCell (Nat.le_refl _) _).alloc (by simp[World.setCell];omega) _),rfl⟩
    ·have hlt3:decide ((k:Int)<cn)=false:=by simp;omega
     have hkN:k=cn.toNat:=by have:=Hinv.out.1;omega
     obtain⟨Ak,ck',Av,cv',kvs,rfl,rfl,hck,hcv,r1,r2,r3⟩:=Hva.out.slices
     have o0:=Hva.out.out.cell 0
     have o1:=Hva.out.out.cell 1
     have o2:=Hva.out.out.cell 2
     have o3:=Hva.out.out.cell 3
     have o4:=Hva.out.out.cell 4
     have q0:wr.frozen? ⟨w.heap.size,0,none⟩=false:=Hva.out.res.frozen 0
     have q1:wr.frozen? ⟨w.heap.size,1,none⟩=false:=Hva.out.res.frozen 1
     have q2:wr.frozen? ⟨w.heap.size,2,none⟩=false:=Hva.out.res.frozen 2
     have q3:wr.frozen? ⟨w.heap.size,3,none⟩=false:=Hva.out.res.frozen 3
     have q4:wr.frozen? ⟨w.heap.size,4,none⟩=false:=Hva.out.res.frozen 4
     have z0:=Hva.out.res.cell 0
     have z1:=Hva.out.res.cell 1
     have z2:=Hva.out.res.cell 2
     have z3:=Hva.out.res.cell 3
     have z4:=Hva.out.res.cell 4
     simp only[BV]at z0 z1 z2 z3 z4
     simp at z0 z1 z2 z3 z4 o0 o1 o2 o3 o4
     have HkN:=Lib.hid hkN
     clear c0 c1 c2 c3 c4 hcr hkN
     go_wp2_with fail
     refine bodyPost_ret (v:=.tuple #[.agg #[.int .i64 ck,.int .i64 cm,.string ct,.slice Ak K.length ck',.slice Av Vs.length cv'],.int .i64 e,.bool true]) (by simp[results,Tryz.results237,go_sem,z0,z1,z2,z3,z4]) rfl ?_
     have hdone:=Hinv.out
     rw[HkN.out]at hdone
     rw[HD.out,MC hdone.done]
     have hs5:∀u0 u1 u2 u3 u4:Value,Same (fun b=>w.heap.size+3≤b) wr (((((wr.setCell ⟨w.heap.size,0,none⟩ u0).setCell ⟨w.heap.size,1,none⟩ u1).setCell ⟨w.heap.size,2,none⟩ u2).setCell ⟨w.heap.size,3,none⟩ u3).setCell ⟨w.heap.size,4,none⟩ u4):=fun u0 u1 u2 u3 u4 =>
      ((((Same.setCell _ _ _ (by simp)).trans (Same.setCell _ _ _ (by simp))).trans (Same.setCell _ _ _ (by simp))).trans (Same.setCell _ _ _ (by simp))).trans (Same.setCell _ _ _ (by simp))
     refine⟨((((Hww.out.setCell (Nat.le_refl _) _).setCell (Nat.le_refl _) _).setCell (Nat.le_refl _) _).setCell (Nat.le_refl _) _).setCell (Nat.le_refl _) _,[.int .i64 ck,.int .i64 cm,.string ct,.slice Ak K.length ck',.slice Av Vs.length cv'],?_,?_⟩
     ·simp only[List.length_drop]
      rw[show xs.length-(xs.length-e)=e from by omega]
     ·exact (Cv.mk_ hck hcv (Row.keep r1 (hs5 _ _ _ _ _)) (r2.keep (hs5 _ _ _ _ _)) (r3.keep (hs5 _ _ _ _ _))).weaken fun b hb _=>by omega
end Go.Proofs.YtcejfdfmgmcinaaGreat
