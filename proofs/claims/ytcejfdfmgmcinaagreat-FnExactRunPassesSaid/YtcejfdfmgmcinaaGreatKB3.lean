/- Texts of this proof: B06 B07 B08 B09 B10 B11. -/
import Derived.Test.YtcejfdfmgmcinaaGreatKB05
set_option linter.all false
set_option maxHeartbeats 8000000
namespace Go.Proofs.YtcejfdfmgmcinaaGreat
open Go.RowKit
set_option maxRecDepth 100000 in
theorem XE:∀(m:Nat) (t:V) (vs:List Value) (S:Nat→Prop) (w:World),t.count≤m→t.count≤1000000→Cv w S t vs →
  Calls Tryz.prog 238 #[.agg vs.toArray] w fun e w'=>e=.returned (.int .i64 t.depth)∧Below w.heap.size w w':=by
 intro m
 induction m with
 |zero=>intro t vs S w hm _ _;have:=CI t;omega
 |succ m ih =>
  intro t vs S w hm hM hrep
  have HIH:=Lib.hid ih
  clear ih
  obtain⟨Ak,ck,Av,cv,kvs,rfl,hck,hcv,r1,r2,r3⟩:=hrep.out
  have Hr2:=Lib.hid (r2.keep (Same.alloc _ _ (.cells #[.int .i64 t.kind,.int .i64 t.num,.string t.text,.slice Ak t.keys.length ck,.slice Av t.kids.length cv] 127)))
  have Hr3:=Lib.hid (r3.keep (Same.alloc _ _ (.cells #[.int .i64 t.kind,.int .i64 t.num,.string t.text,.slice Ak t.keys.length ck,.slice Av t.kids.length cv] 127)))
  have hkc:=AP t
  have hkl:=Bq t.kids
  have HB0:Hid (∀X:Obj,Below w.heap.size w (w.alloc X)):=fun X=>(Below.refl _ _).alloc (Nat.le_refl _) _
  have hdk:=Lib.hid (K8 t)
  have hdc:=F1 t.kids
  clear r1 r2 r3 hrep
  go_enter Tryz.func238,Tryz.ntmps238
  go_wp2
  go_loopw [3,9] (fun dp ki wr=>∃k:Nat,ki=.int .i64 k∧k≤t.kids.length∧dp=.int .i64 (AW (t.kids.take k):Nat) ∧
    Below (w.heap.size+1) (w.alloc (.cells #[.int .i64 t.kind,.int .i64 t.num,.string t.text,.slice Ak t.keys.length ck,.slice Av t.kids.length cv] 127)) wr) (fun _ ki _=>t.kids.length-(intOf ki).toNat)
  case atStart=>exact⟨0,rfl,Nat.zero_le _,by simp[AW],Below.refl _ _⟩
  case round =>
   obtain⟨k,rfl,hk,rfl,hb⟩:=hrel
   have Hb:=Lib.hid hb
   have hsz:w.heap.size<wr.heap.size:=by have:=hb.size;simp at this;omega
   have hdt:=Nr t.kids k
   clear hb
   by_cases hlt:k<t.kids.length
   ·have hbb:Below (w.alloc (.cells #[.int .i64 t.kind,.int .i64 t.num,.string t.text,.slice Ak t.keys.length ck,.slice Av t.kids.length cv] 127)).heap.size (w.alloc (.cells #[.int .i64 t.kind,.int .i64 t.num,.string t.text,.slice Ak t.keys.length ck,.slice Av t.kids.length cv] 127)) wr:=Hb.out.mono (by simp)
    obtain⟨b,off,Ak2,ck2,Av2,cv2,kvs2,rfl,_,hbl,c0,c1,c2,c3,c4,hk2,hv2,s1,s2,s3⟩:=(Hr2.out.below hbb).vat (Hr3.out.below hbb) hlt
    have hmem:=CL (List.getElem_mem hlt)
    have Hd:=Lib.hid (Sy hlt)
    have Hrep:=Lib.hid (Cv.keep (Same.alloc _ _ (.cells #[.int .i64 t.kids[k].kind,.int .i64 t.kids[k].num,.string t.kids[k].text,.slice Ak2 t.kids[k].keys.length ck2,.slice Av2 t.kids[k].kids.length cv2] 127)) (Cv.of hk2 hv2 s1 s2 s3))
    have hkd:=K7 (List.getElem_mem hlt)
    generalize t.kids[k]=u at *
    clear s1 s2 s3 hbb
    go_wp2_with (go_at_call 238;refine (HIH.out u _ S _ (by omega) (by omega) Hrep.out).mono ?_;rintro e w1 ⟨rfl,hb1⟩)
    all_goals go_roundw
    case rel =>
     refine⟨k+1,by go_num,by omega,?_,Hb.out.trans ((((Below.refl _ _).alloc (Nat.le_refl _) _).trans (hb1.mono (by simp))).mono (by omega))⟩
     rw[Hd.out]
     congr 1
     split<;>omega
    case measure=>simp[intOf];omega
   ·go_wp2
    go_ret
    refine⟨?_,(HB0.out _).trans (Hb.out.mono (by omega))⟩
    rw[hdk.out,List.take_of_length_le (by omega)]
    simp
def Xf (d:Int×Option V) (w:World) (e:Ending) (w':World):Prop :=
 Below w.heap.size w w'∧match d.2 with
  |none=>e=.returned (.tuple #[.agg BV,.int .i64 d.1])
  |some t=>∃vs:List Value,e=.returned (.tuple #[.agg vs.toArray,.int .i64 0])∧Cv w' (fun b=>w.heap.size≤b) t vs
theorem JQ (A:Option Addr) (n cap:Nat) (w:World):Calls Tryz.prog 235 #[.slice A n cap] w fun e w'=>e=.returned (.int .i64 n)∧w=w':=by
 go_enter Tryz.func235,Tryz.ntmps235
 go_wp2
 go_ret
 exact⟨rfl,rfl⟩
theorem ZT {xs:List CellD}(h:1≤xs.length) (h2:xs.length≤200) (h3:BI xs=0) {k0:ByteArray}(hk:xs[0].key=k0) {t:V}{r:List CellD}(hp:AJ xs.length xs=some (t,r)) :
  dec xs=if r.length≠0∨k0.toList.isEmpty=false then (1,none) else if 20<t.depth then (7,none) else (0,some t):=by
 rw[MT h h2 h3]
 unfold Ss
 rw[hp]
 match xs,h with
 |c::l,_ =>
  simp only[List.getElem_cons_zero]at hk
  subst hk
  cases r with
  |cons y r=>simp
  |nil =>
   show (if (!c.key.toList.isEmpty)=true then ((1,none):Int×Option V) else if 20<t.depth then (7,none) else (0,some t))=_
   by_cases hk:c.key.toList.isEmpty=false
   ·rw[if_pos (by simp[hk]),if_pos (.inr hk)]
   ·rw[if_neg (show ¬((!c.key.toList.isEmpty)=true) by simpa using hk),if_neg (show ¬(([]:List CellD).length≠0∨c.key.toList.isEmpty=false) by simpa using hk)]
set_option maxRecDepth 100000 in
theorem Qq (xs:List CellD) (hz:EG xs) (A:Option Addr) (cap:Nat) (S:Nat→Prop) (w:World) (hcs:Be w S A xs) :
  Calls Tryz.prog 145 #[.slice A xs.length cap] w (Xf (dec xs) w):=by
 have HC:=Lib.hid hcs
 have HZ:=Lib.hid hz
 clear hcs hz
 have R0:=(Blk.new w 127 BV)
 go_enter Tryz.func145,Tryz.ntmps145
 by_cases h12:xs.length<1∨200<xs.length
 ·have hd:=Lib.hid (Nn h12)
  have hin:inB (xs.length:Int) 1 200=false:=by simp[inB];omega
  have Hh:=Lib.hid h12
  clear h12 R0
  go_wp2_with (first
   | (go_at_call 235;refine (JQ _ _ _ _).mono ?_;rintro e w' ⟨rfl,rfl⟩)
   | (go_at_call 72;refine (E0 _ _ _ _).mono ?_;rintro e w' ⟨rfl,rfl⟩))
  refine bodyPost_ret (v:=.tuple #[.agg BV,.int .i64 2]) (by simp[results,Tryz.results145,go_sem,BV]) rfl ?_
  rw[hd.out]
  exact⟨(Below.refl _ _).alloc (Nat.le_refl _) _,rfl⟩
 ·have hin:inB (xs.length:Int) 1 200=true:=by simp[inB];omega
  have h1:1≤xs.length:=by omega
  have h2:xs.length≤200:=by omega
  have HR0:=Lib.hid R0
  clear h12 R0
  go_wp2_with (first
   | (go_at_call 235;refine (JQ _ _ _ _).mono ?_;rintro e w' ⟨rfl,rfl⟩)
   | (go_at_call 72;refine (E0 _ _ _ _).mono ?_;rintro e w' ⟨rfl,rfl⟩))
  go_loopw [17] (fun i wr=>∃k:Nat,k≤xs.length∧i=.int .i64 k∧(∀i (hi:i<xs.length),i<k→xs[i].code=0)∧Below w.heap.size w wr∧Blk wr w.heap.size 127 BV) (fun i _=>xs.length-(intOf i).toNat)
  case atStart=>exact⟨0,Nat.zero_le _,rfl,fun _ _ h=>absurd h (by omega),(Below.refl _ _).alloc (Nat.le_refl _) _,HR0.out⟩
  case round =>
   obtain⟨k,hk,rfl,hall,hb,hR⟩:=hrel
   have Hall:=Lib.hid hall
   have Hb:=Lib.hid hb
   have HR:=Lib.hid hR
   have hl0:=hR.lt
   clear hall hb hR
   by_cases hlt:k<xs.length
   ·obtain⟨b,off,rfl,hS,hl,c0,c1,c2,c3,c4⟩:=(HC.out.below Hb.out).at_ hlt
    obtain⟨hs1,hs2⟩:=HZ.out _ (List.getElem_mem hlt)
    obtain⟨z0,z1,z2,z3,z4,q⟩:=HR.out.five
    cases hzc:(xs[k].code != 0)
    ·have hz':AS xs[k].kind xs[k].num xs[k].text xs[k].key xs[k].n=0:=by simpa [CellD.code] using hzc
     have HC1:Hid (∀W:World,Calls Tryz.prog 236 #[.agg #[.int .i64 xs[k].kind,.int .i64 xs[k].num,.string xs[k].text,.string xs[k].key,.int .i64 xs[k].n]] W fun e w'=>e=.returned (.int .i64 0)∧Below W.heap.size W w'):=by
      intro W
      have:=JC xs[k].kind xs[k].num xs[k].text xs[k].key xs[k].n hs1 hs2 W
      rw[hz']at this
      exact this
     have Hz:=Lib.hid hz'
     clear hzc hz'
     go_wp2_with (go_at_call 236;refine (HC1.out _).mono ?_;rintro e w1 ⟨rfl,hb1⟩)
     all_goals go_roundw
     case rel =>
      refine⟨k+1,by omega,by go_num,fun i hi hik=>?_,(Hb.out.alloc Hb.out.size _).trans (hb1.mono (by simp;omega)),(HR.out.alloc _).below hb1⟩
      by_cases he:i=k
      ·subst he;exact Hz.out
      ·exact Hall.out i hi (by omega)
     case measure=>simp[intOf];omega
    ·have HC1:Hid (∀W:World,Calls Tryz.prog 236 #[.agg #[.int .i64 xs[k].kind,.int .i64 xs[k].num,.string xs[k].text,.string xs[k].key,.int .i64 xs[k].n]] W fun e w'=>e=.returned (.int .i64 xs[k].code)∧Below W.heap.size W w'):=by
      intro W
      exact JC xs[k].kind xs[k].num xs[k].text xs[k].key xs[k].n hs1 hs2 W
     have hd:=Lib.hid (St h1 h2 hlt Hall.out (by simpa using hzc))
     generalize xs[k].code=cc at *
     go_wp2_with (go_at_call 236;refine (HC1.out _).mono ?_;rintro e w1 ⟨rfl,hb1⟩;obtain⟨z0,z1,z2,z3,z4,q⟩:=((HR.out.alloc (.cells #[.int .i64 xs[k].kind,.int .i64 xs[k].num,.string xs[k].text,.string xs[k].key,.int .i64 xs[k].n] 80)).below hb1).five)
     refine bodyPost_ret (v:=.tuple #[.agg BV,.int .i64 cc]) (by simp[results,Tryz.results145,go_sem,BV,z0,z1,z2,z3,z4]) rfl ?_
     rw[hd.out]
     exact⟨(((((((Hb.out.alloc Hb.out.size _).trans (hb1.mono (by simp;omega))).setCell (Nat.le_refl _) _).setCell (Nat.le_refl _) _).setCell (Nat.le_refl _) _).setCell (Nat.le_refl _) _).setCell (Nat.le_refl _) _),rfl⟩
   ·have hf0:BI xs=0:=GQ fun i hi=>Hall.out i hi (by omega)
    have hn:∀c∈xs,c.n≤200:=fun c hc=>(QG (Ge hf0 c hc)).2
    have HV:Hid (∀W:World,Be W S A xs→Calls Tryz.prog 237 #[.slice A xs.length cap,.int .i64 0] W (Pj xs.length (AJ xs.length xs) W)):=fun W hW=>Zu xs h2 hn xs.length 0 A cap S W (by simp) (by omega) (by omega) hW
    have HRR:=Lib.hid (HC.out.below Hb.out)
    clear hn
    rcases hp:AJ xs.length xs with _ | ⟨t,r⟩
    ·rw[hp]at HV
     have hd:Hid (dec xs=(1,none)):=by rw[MT h1 h2 hf0];unfold Ss;rw[hp];rfl
     clear hp hf0
     go_wp2_with (go_at_call 237;refine (HV.out _ HRR.out).mono ?_;rintro e w1 ⟨hb1,rfl⟩;unfold BV;obtain⟨z0,z1,z2,z3,z4,q⟩:=(HR.out.below hb1).five;have hlw:=(HR.out.below hb1).lt;have Hb1:=Lib.hid hb1;clear hb1)
     refine bodyPost_ret (v:=.tuple #[.agg BV,.int .i64 1]) (by simp[results,Tryz.results145,go_sem,BV,z0,z1,z2,z3,z4,hlw]) rfl ?_
     rw[hd.out]
     exact⟨(((((((Hb.out.trans (Hb1.out.mono Hb.out.size)).setCell (Nat.le_refl _) _).setCell (Nat.le_refl _) _).setCell (Nat.le_refl _) _).setCell (Nat.le_refl _) _).setCell (Nat.le_refl _) _).alloc (by simp[World.setCell];omega) _),rfl⟩
    ·rw[hp]at HV
     obtain⟨b,off,rfl,hS,hl,c0,c1,c2,c3,c4⟩:=(HC.out.below Hb.out).at_ (k:=0) (by omega)
     simp only[Nat.zero_mul,Nat.add_zero]at c3
     generalize hk0:xs[0].key=k0 at *
     have Htail:=Lib.hid (ZT h1 h2 hf0 hk0 hp)
     have hrl:=(Eh _ _ _ _ hp).2
     have hcnt:=RD _ _ _ _ hp
     have HG3:Hid (∀W:World,Below wr.heap.size wr W→W.cell? ⟨b,off+3,none⟩=some (.string k0)∧b<W.heap.size):=by
      intro W hW
      have h0:=hW.size
      exact⟨(hW.cell (p:=⟨b,off+3,none⟩) hl).trans c3,by omega⟩
     have hsl:=Lib.hid hl
     clear hp hf0 hk0 c0 c1 c2 c3 c4 hl
     have HV:Hid (∀W:World,Be W S (some ⟨b,off,none⟩) xs→Calls Tryz.prog 237 #[.slice (some ⟨b,off,none⟩) xs.length cap,.int .i64 0] W fun e w'=>Below W.heap.size W w' ∧
      ∃vs:List Value,e=.returned (.tuple #[.agg vs.toArray,.int .i64 ((xs.length-r.length:Nat):Int),.bool true])∧Cv w' (fun b=>W.heap.size≤b) t vs):=HV.out
     by_cases hr0:r.length≠0
     ·have hd:Hid (dec xs=(1,none)):=by
          show dec xs=(1,none)
          rw[Htail.out,if_pos (.inl hr0)]
      have hne:(((xs.length-r.length:Nat):Int)==(xs.length:Int))=false:=by simp;omega
      go_wp2_with (go_at_call 237;refine (HV.out _ HRR.out).mono ?_;rintro e w1 ⟨hb1,vs,rfl,hrep⟩;obtain⟨Ak,ck',Av,cv',kvs,rfl,hck',hcv',_,_,_⟩:=hrep.out;obtain⟨z0,z1,z2,z3,z4,q⟩:=(HR.out.below hb1).five;have hlw:=(HR.out.below hb1).lt;obtain⟨g3,hbl1⟩:=HG3.out _ hb1;have Hrep:=Lib.hid (Cv.keep (Same.alloc _ _ (.cells #[.int .i64 t.kind,.int .i64 t.num,.string t.text,.slice Ak t.keys.length ck',.slice Av t.kids.length cv'] 127)) hrep);have Hb1:=Lib.hid hb1;clear hb1 hrep)
      refine bodyPost_ret (v:=.tuple #[.agg BV,.int .i64 1]) (by simp[results,Tryz.results145,go_sem,BV,z0,z1,z2,z3,z4,hlw]) rfl ?_
      rw[hd.out]
      exact⟨(((((((Hb.out.trans (Hb1.out.mono Hb.out.size)).setCell (Nat.le_refl _) _).setCell (Nat.le_refl _) _).setCell (Nat.le_refl _) _).setCell (Nat.le_refl _) _).setCell (Nat.le_refl _) _).alloc (by simp[World.setCell];omega) _),rfl⟩
     ·have hne:xs.length-r.length=xs.length:=by omega
      rw[hne]at HV
      cases hke:k0.toList.isEmpty
      ·have hd:Hid (dec xs=(1,none)):=by
          show dec xs=(1,none)
          rw[Htail.out,if_pos (.inr hke)]
       have Hne:=Lib.hid hne
       clear hne
       go_wp2_with (go_at_call 237;refine (HV.out _ HRR.out).mono ?_;rintro e w1 ⟨hb1,vs,rfl,hrep⟩;obtain⟨Ak,ck',Av,cv',kvs,rfl,hck',hcv',_,_,_⟩:=hrep.out;obtain⟨z0,z1,z2,z3,z4,q⟩:=(HR.out.below hb1).five;have hlw:=(HR.out.below hb1).lt;obtain⟨g3,hbl1⟩:=HG3.out _ hb1;have Hrep:=Lib.hid (Cv.keep (Same.alloc _ _ (.cells #[.int .i64 t.kind,.int .i64 t.num,.string t.text,.slice Ak t.keys.length ck',.slice Av t.kids.length cv'] 127)) hrep);have Hb1:=Lib.hid hb1;clear hb1 hrep)
       refine bodyPost_ret (v:=.tuple #[.agg BV,.int .i64 1]) (by simp[results,Tryz.results145,go_sem,BV,z0,z1,z2,z3,z4,hlw]) rfl ?_
       rw[hd.out]
       exact⟨(((((((Hb.out.trans (Hb1.out.mono Hb.out.size)).setCell (Nat.le_refl _) _).setCell (Nat.le_refl _) _).setCell (Nat.le_refl _) _).setCell (Nat.le_refl _) _).setCell (Nat.le_refl _) _).alloc (by simp[World.setCell];omega) _),rfl⟩
      ·have Hne:=Lib.hid hne
       have hke2:k0.toList=[]:=by simpa using hke
       have HD:=Lib.hid (XE t.count t)
       have hcc:t.count≤1000000:=by omega
       clear hne
       by_cases hdp:20<t.depth
       ·have hd:Hid (dec xs=(7,none)):=by
          show dec xs=(7,none)
          rw[Htail.out,if_neg (fun h=>h.elim hr0 (by simp[hke])),if_pos hdp]
        go_wp2_with (first
         | (go_at_call 237;refine (HV.out _ HRR.out).mono ?_;rintro e w1 ⟨hb1,vs,rfl,hrep⟩;obtain⟨Ak,ck',Av,cv',kvs,rfl,hck',hcv',_,_,_⟩:=hrep.out;obtain⟨z0,z1,z2,z3,z4,q⟩:=(HR.out.below hb1).five;have hlw:=(HR.out.below hb1).lt;obtain⟨g3,hbl1⟩:=HG3.out _ hb1;have Hrep:=Lib.hid (Cv.keep (Same.alloc _ _ (.cells #[.int .i64 t.kind,.int .i64 t.num,.string t.text,.slice Ak t.keys.length ck',.slice Av t.kids.length cv'] 127)) hrep);have Hb1:=Lib.hid hb1;clear hb1 hrep)
         | (go_at_call 238;refine (HD.out _ _ _ (Nat.le_refl _) hcc Hrep.out).mono ?_;rintro e w2 ⟨rfl,hb2⟩;obtain⟨z0,z1,z2,z3,z4,q⟩:=(((HR.out.below Hb1.out).alloc (.cells #[.int .i64 t.kind,.int .i64 t.num,.string t.text,.slice Ak t.keys.length ck',.slice Av t.kids.length cv'] 127)).below hb2).five;have Hb2:=Lib.hid hb2;clear hb2))
        refine bodyPost_ret (v:=.tuple #[.agg BV,.int .i64 7]) (by simp[results,Tryz.results145,go_sem,BV,z0,z1,z2,z3,z4]) rfl ?_
        rw[hd.out]
        exact⟨((((((((Hb.out.trans (Hb1.out.mono Hb.out.size)).alloc (by omega) _).trans (Hb2.out.mono (by simp;omega))).setCell (Nat.le_refl _) _).setCell (Nat.le_refl _) _).setCell (Nat.le_refl _) _).setCell (Nat.le_refl _) _).setCell (Nat.le_refl _) _),rfl⟩
       ·have hd:Hid (dec xs=(0,some t)):=by
          show dec xs=(0,some t)
          rw[Htail.out,if_neg (fun h=>h.elim hr0 (by simp[hke])),if_neg hdp]
        go_wp2_with (first
         | (go_at_call 237;refine (HV.out _ HRR.out).mono ?_;rintro e w1 ⟨hb1,vs,rfl,hrep⟩;obtain⟨Ak,ck',Av,cv',kvs,rfl,hck',hcv',_,_,_⟩:=hrep.out;obtain⟨z0,z1,z2,z3,z4,q⟩:=(HR.out.below hb1).five;have hlw:=(HR.out.below hb1).lt;obtain⟨g3,hbl1⟩:=HG3.out _ hb1;have Hrep:=Lib.hid (Cv.keep (Same.alloc _ _ (.cells #[.int .i64 t.kind,.int .i64 t.num,.string t.text,.slice Ak t.keys.length ck',.slice Av t.kids.length cv'] 127)) hrep);have Hb1:=Lib.hid hb1;clear hb1 hrep)
         | (go_at_call 238;refine (HD.out _ _ _ (Nat.le_refl _) hcc Hrep.out).mono ?_;rintro e w2 ⟨rfl,hb2⟩;obtain⟨z0,z1,z2,z3,z4,q⟩:=(((HR.out.below Hb1.out).alloc (.cells #[.int .i64 t.kind,.int .i64 t.num,.string t.text,.slice Ak t.keys.length ck',.slice Av t.kids.length cv'] 127)).below hb2).five;obtain⟨y0,y1,y2,y3,y4,y⟩:=((Blk.new w1 127 #[.int .i64 t.kind,.int .i64 t.num,.string t.text,.slice Ak t.keys.length ck',.slice Av t.kids.length cv']).below hb2).five;have Hrep2:=Lib.hid (Cv.below Hrep.out hb2);have Hb2:=Lib.hid hb2;clear hb2))
        refine bodyPost_ret (v:=.tuple #[.agg #[.int .i64 t.kind,.int .i64 t.num,.string t.text,.slice Ak t.keys.length ck',.slice Av t.kids.length cv'],.int .i64 0]) (by simp[results,Tryz.results145,go_sem,z0,z1,z2,z3,z4]) rfl ?_
        rw[hd.out]
        have hs5:∀u0 u1 u2 u3 u4:Value,Same (fun b=>wr.heap.size≤b) w2 (((((w2.setCell ⟨w.heap.size,0,none⟩ u0).setCell ⟨w.heap.size,1,none⟩ u1).setCell ⟨w.heap.size,2,none⟩ u2).setCell ⟨w.heap.size,3,none⟩ u3).setCell ⟨w.heap.size,4,none⟩ u4):=fun u0 u1 u2 u3 u4 =>
         ((((Same.setCell _ _ _ (by simp;omega)).trans (Same.setCell _ _ _ (by simp;omega))).trans (Same.setCell _ _ _ (by simp;omega))).trans (Same.setCell _ _ _ (by simp;omega))).trans (Same.setCell _ _ _ (by simp;omega))
        exact⟨((((((((Hb.out.trans (Hb1.out.mono Hb.out.size)).alloc (by omega) _).trans (Hb2.out.mono (by simp;omega))).setCell (Nat.le_refl _) _).setCell (Nat.le_refl _) _).setCell (Nat.le_refl _) _).setCell (Nat.le_refl _) _).setCell (Nat.le_refl _) _),_,rfl,
         (Cv.keep (hs5 _ _ _ _ _) Hrep2.out).weaken fun b hb _=>by have:=Hb.out.size;omega⟩
theorem UY:(Tryz.prog.info? 2).map (fun i=>(i.zero,i.size,i.bytes))=some (some (.int .i64 0),1,8):=by kernel_rfl
theorem PL:(Tryz.prog.info? 80).map (fun i=>(i.zero,i.size,i.bytes))=some (some (.agg #[.int .i64 0,.int .i64 0,.string ⟨#[]⟩,.string ⟨#[]⟩,.int .i64 0]),5,56):=by kernel_rfl
theorem UX:(Tryz.prog.info? 50).map (fun i=>(i.zero,i.size,i.bytes))=some (some (.slice none 0 0),1,24):=by kernel_rfl
theorem LM (xs:List CellD) (hx:xs.length≤200) (hn:∀c∈xs,c.n≤200) (a:Int) (ha0:0≤a) (ha:a≤201) (A:Option Addr) (cap:Nat) (S:Nat→Prop) (w:World) (hcs:Be w S A xs) :
  Calls Tryz.prog 391 #[.slice A xs.length cap,.int .i64 a] w fun e w'=>e=.returned (.int .i64 (JH xs.length (AJ xs.length (xs.drop a.toNat))))∧Below w.heap.size w w':=by
 have H:=Lib.hid (Mt xs hx hn xs.length a 0 A cap S w (by omega) (by omega) ha0 ha hcs)
 clear hn hcs
 go_enter Tryz.func391,Tryz.ntmps391
 go_wp2_with (go_at_call 97;refine H.out.mono ?_;rintro e w1 ⟨rfl,hb1⟩)
 go_ret
 exact⟨rfl,hb1⟩
def Cz (t:V) (k:Nat):List Int:=(List.range k).map fun i=>((kp t.kids i:Nat):Int)
theorem NS (t:V) (k:Nat):Cz t (k+1)=Cz t k++[((kp t.kids k:Nat):Int)]:=by simp[Cz,List.range_succ]
theorem E7 (t:V) (k:Nat):(Cz t k).length=k:=by simp[Cz]
set_option maxRecDepth 100000 in
theorem NW (t:V) (hw:t.wf) (hc:t.count≤200) (A:Option Addr) (cap:Nat) (S:Nat→Prop) (w:World) (hcs:Be w S A t.enc) :
  Calls Tryz.prog 352 #[.slice A t.enc.length cap,.int .i64 0] w fun e w'=>(∃A' c',e=.returned (.slice A' t.kids.length c')∧Bk RI 1 w' (fun b=>w.heap.size≤b) A' (Cz t t.kids.length))∧Below w.heap.size w w':=by
 have hpos:=CI t
 have hlen:=CY t
 have hkl:=BH hc
 have HC:=Lib.hid hcs
 have HE:Hid (∀i (h:i<t.kids.length) (W:World),Be W S A t.enc→Calls Tryz.prog 391 #[.slice A t.enc.length cap,.int .i64 ((kp t.kids i:Nat):Int)] W fun e w'=>e=.returned (.int .i64 ((kp t.kids (i+1):Nat):Int))∧Below W.heap.size W w'):=by
  intro i hi W hW
  have:=JM t i
  have:=LM t.enc (by omega) (ZU hw) (kp t.kids i:Nat) (by omega) (by omega) A cap S W hW
  rw[Int.toNat_natCast,QU hw hi (by omega)]at this
  exact this
 have Hw:=Lib.hid hw
 have h0:=hcs.at_ (k:=0) (by omega)
 obtain⟨b,off,rfl,hS,hl,-⟩:=h0
 have Hlen:=Lib.hid hlen
 have hl1:t.enc.length≤200:=by omega
 have hl0:0<t.enc.length:=by omega
 clear hcs hw hlen
 go_enter Tryz.func352,Tryz.ntmps352
 go_wp2
 go_loopw [5,6,7] (fun ov nx ki wr=>∃k:Nat,ki=.int .i64 k∧k≤t.kids.length∧nx=.int .i64 (kp t.kids k:Nat)∧B3 RI 1 2 wr (fun b=>w.heap.size≤b) w.heap.size ov (Cz t k)∧Below w.heap.size w wr) (fun _ _ ki _=>t.kids.length-(intOf ki).toNat)
 case atStart =>
  refine⟨0,rfl,Nat.zero_le _,by simp[kp,Aw],?_,(Below.refl _ _).alloc (Nat.le_refl _) _⟩
  exact B3.made _ rfl (Nat.le_refl _)
 case round =>
  obtain⟨k,rfl,hk,rfl,hown,hb⟩:=hrel
  have Hb:=Lib.hid hb
  have HO:=Lib.hid hown
  obtain⟨b1,off1,hA1,_,_,_,_,_,_,c4⟩:=(HC.out.below hb).at_ hl0
  simp only[Option.some.injEq,Addr.mk.injEq,and_true]at hA1
  obtain⟨rfl,rfl⟩:=hA1
  rw[ZV t hl0]at c4
  simp only[Nat.zero_mul,Nat.add_zero]at c4
  have hle:=JM t k
  have hsz:=hb.size
  obtain⟨Ao,co,rfl,hco⟩:=hown.form' (E7 t k)
  clear hb hown
  by_cases hlt:k<t.kids.length
  ·have HE1:=Lib.hid (HE.out k hlt)
   have HR:=Lib.hid (HC.out.below Hb.out)
   go_wp2_with (first
    | (at_builtin;refine Ht rfl _ _ 34 rfl Tryz.underlying34 UY rfl (by decide) (by decide) okI HO.out rfl Hb.out.size ((kp t.kids k:Nat):Int) [.int .i64 ((kp t.kids k:Nat):Int)] rfl rfl rfl (E7 t k) (by omega) ?_;intro v' w2 hown2 hg2 hex2;obtain⟨g2,cap2,rfl,_,_,_⟩:=hex2;have hb2:=hg2.below Hb.out Hb.out.size (fun b hb=>(HO.out.lt b hb).1);have Hb2:=Lib.hid hb2;have HO2:=Lib.hid hown2;have HR2:=Lib.hid (HC.out.below hb2);clear hb2 hown2 hg2)
    | (go_at_call 391;refine (HE1.out _ HR2.out).mono ?_;rintro e w1 ⟨rfl,hb1⟩))
   all_goals go_roundw
   case rel=>exact⟨k+1,by go_num,by omega,rfl,by rw[NS];exact B3.below okI HO2.out hb1,Hb2.out.trans (hb1.mono Hb2.out.size)⟩
   case measure=>simp[intOf];omega
  ·have hke:k=t.kids.length:=by omega
   have Hke:=Lib.hid hke
   clear hke
   go_wp2
   go_ret
   refine⟨⟨Ao,co,?_,?_⟩,Hb.out⟩
   ·rw[←Hke.out]
    rfl
   ·rw[←Hke.out]
    exact B3.row' okI (by omega) HO.out (E7 t k) (fun b h _=>h) (fun b h _=>h)
theorem YK (key':ByteArray) {e:TypeId}{w:World}{E:Nat→Prop}{base g c:Nat}{t:V}{key:ByteArray}(h:B3 RC 5 e w E base (.slice (some ⟨g,0,none⟩) (t.cells key).length c) (t.cells key)) :
  B3 RC 5 e (w.setCell ⟨g,3,none⟩ (.string key')) E base (.slice (some ⟨g,0,none⟩) (t.cells key).length c) (t.cells key')∧w.cell? ⟨g,3,none⟩=some (.string key)∧w.frozen? ⟨g,3,none⟩=false:=by
 obtain⟨rows,h1,h2,h3,h4⟩:=h
 have hrows:rows=(t.cells key).map vals:=by
  apply List.ext_getElem?
  intro i
  by_cases hi:i<(t.cells key).length
  ·have he:rows[i]? = some (rows[i]'(by omega)):=List.getElem?_eq_getElem (by omega)
   rw[he,h4 i hi _ he]
   simp[hi]
  ·rw[List.getElem?_eq_none (by omega),List.getElem?_eq_none (by simp;omega)]
 subst hrows
 have hl:(t.cells key).length=(t.cells key').length:=by rw[Cb,Cb]
 have hpos:0<(t.cells key).length:=by rw[Cb];exact CI t
 refine⟨⟨(t.cells key').map vals,by simp,by simp[vals],?_,fun i hi row hr=>by simp[hi]at hr;exact hr.symm⟩,?_,h3.frozenAt 3⟩
 ·have:=h3.stored 3 (.string key')
  rw[hl]at this ⊢
  have he:((t.cells key).map vals).flatten.set 3 (.string key')=((t.cells key').map vals).flatten:=by
   rw[Dk,Dk]
   simp[vals]
  rw[←he]
  exact this.1
 ·rw[h3.cellAt 3 (by omega),Dk]
  simp[vals]
set_option maxRecDepth 100000 in
theorem NY (t:V) (hw:t.wf) (hc:t.count≤200) (i:Nat) (hi:i<t.kids.length) (A:Option Addr) (cap:Nat) (hcap:t.enc.length≤cap) (S:Nat→Prop) (w:World) (hcs:Be w S A t.enc) :
  Calls Tryz.prog 353 #[.slice A t.enc.length cap,.int .i64 ((kp t.kids i:Nat):Int)] w fun e w'=>(∃A' c',e=.returned (.slice A' t.kids[i].enc.length c')∧t.kids[i].enc.length≤c'∧Be w' (fun b=>w.heap.size≤b) A' t.kids[i].enc)∧Below w.heap.size w w':=by
 have hpos:=CI t
 have hlen:=CY t
 have HC:=Lib.hid hcs
 have HE:Hid (∀(W:World),Be W S A t.enc→Calls Tryz.prog 391 #[.slice A t.enc.length cap,.int .i64 ((kp t.kids i:Nat):Int)] W fun e w'=>e=.returned (.int .i64 ((kp t.kids (i+1):Nat):Int))∧Below W.heap.size W w'):=by
  intro W hW
  have:=JM t i
  have:=LM t.enc (by omega) (ZU hw) (kp t.kids i:Nat) (by omega) (by omega) A cap S W hW
  rw[Int.toNat_natCast,QU hw hi (by omega)]at this
  exact this
 have h0:=hcs.at_ (k:=0) (by omega)
 obtain⟨b,off,rfl,hS,hl,-⟩:=h0
 have hsucc:=WL t.kids hi
 have hkp1:=JM t (i+1)
 have hcp:=CI t.kids[i]
 have Hm:Hid (kp t.kids (i+1)-kp t.kids i=(t.kids[i].cells (t.keyAt i)).length):=by
  show _=_
  rw[Cb];omega
 have hcpos:0<(t.kids[i].cells (t.keyAt i)).length:=by rw[Cb];exact hcp
 have hys:([]:List CellD).length+(t.kids[i].cells (t.keyAt i)).length≤1000000:=by rw[Cb];simp;omega
 have Hlen:=Lib.hid hlen
 have hl2:kp t.kids (i+1)≤t.enc.length:=by omega
 have Hsucc:=Lib.hid hsucc
 have hlt:kp t.kids i<kp t.kids (i+1):=by omega
 have hltc:kp t.kids i<cap:=by omega
 clear hcs hw hlen hsucc
 go_enter Tryz.func353,Tryz.ntmps353
 have HRow:Hid (∀W:World,Below w.heap.size w W→Bk RC 5 W (fun b=>b<w.heap.size) (some ⟨b,off+kp t.kids i*5,none⟩) (t.kids[i].cells (t.keyAt i))):=by
  intro W hW
  rw[←M8 hi]
  exact (Bk.below okC ((RM HC.out).weaken okC fun b _ hl=>hl) hW).sub _ _
 go_wp2_with (first
  | (go_at_call 391;refine (HE.out _ (HC.out.keep (Same.alloc _ _ _))).mono ?_;rintro e w1 ⟨rfl,hb1⟩;have Hb1:=Lib.hid hb1;clear hb1)
  | (at_builtin;(refine Ky rfl _ _ 50 rfl Tryz.underlying50 PL rfl (by decide) (by decide) okC (E:=fun b=>w.heap.size≤b) (S:=fun b=>b<w.heap.size) (xs:=[]) (base:=w.heap.size) (B3.below okC (B3.made #[] rfl (Nat.le_refl _)) Hb1.out) rfl (by have:=Hb1.out.size;simp at this;omega) rfl (ys:=t.kids[i].cells (t.keyAt i)) Hm.out (HRow.out _ (((Below.refl _ _).alloc (Nat.le_refl _) _).trans (Hb1.out.mono (by simp)))) (by simp) (by simp) (.inr fun _ _ _ _ _ h=>h) hys ?_);intro v' w2 hown2 (hg2:Grew w1 w2 (.slice (some ⟨w.heap.size,0,none⟩) 0 0) v');rw[List.nil_append]at hown2;obtain⟨g2,cap2,rfl,hc2,hg0,hgl⟩:=hown2.formPos hcpos;obtain⟨hU,hu3,hu4⟩:=YK ByteArray.empty hown2;have HU:=Lib.hid hU;have Hbw:=Lib.hid (hg2.below (((Below.refl w.heap.size w).alloc (Nat.le_refl _) _).trans (Hb1.out.mono (by simp))) (by have:=Hb1.out.size;simp at this;omega) (by simp[Value.ownBlock]));clear hU hown2 hg2))
 go_ret
 have hl:(t.kids[i].cells (t.keyAt i)).length=t.kids[i].enc.length:=by rw[Cb,CY]
 have hU:=HU.out
 rw[hl]at hU
 refine⟨⟨some ⟨g2,0,none⟩,cap2,?_,by omega,QA (B3.row okC (by omega) hU (fun b h _=>h) (fun b h _=>h))⟩,Hbw.out.setCell hg0 _⟩
 exact congrArg (fun n=>Ending.returned (.slice (some ⟨g2,0,none⟩) n cap2)) hl
set_option maxRecDepth 100000 in
theorem Tc (t:V) (hw:t.wf) (hc:t.count≤200) (A:Option Addr) (cap:Nat) (hcap:t.enc.length≤cap) (S:Nat→Prop) (w:World) (hcs:Be w S A t.enc) :
  Calls Tryz.prog 302 #[.slice A t.enc.length cap] w fun e w'=>(∃A' c',e=.returned (.slice A' t.kids.length c')∧t.kids.length≤c'∧Uk w' (fun b=>w.heap.size≤b) A' (t.kids.map V.enc))∧Below w.heap.size w w':=by
 have hkl:=BH hc
 have HC:=Lib.hid hcs
 have HCh:Hid (∀W:World,Be W S A t.enc→Calls Tryz.prog 352 #[.slice A t.enc.length cap,.int .i64 0] W fun e w'=>(∃A' c',e=.returned (.slice A' t.kids.length c')∧Bk RI 1 w' (fun b=>W.heap.size≤b) A' (Cz t t.kids.length))∧Below W.heap.size W w'):=fun W hW=>NW t hw hc A cap S W hW
 have HP:Hid (∀(i:Nat) (hi:i<t.kids.length) (W:World),Be W S A t.enc→Calls Tryz.prog 353 #[.slice A t.enc.length cap,.int .i64 ((kp t.kids i:Nat):Int)] W fun e w'=>(∃A' c',e=.returned (.slice A' t.kids[i].enc.length c')∧t.kids[i].enc.length≤c'∧Be w' (fun b=>W.heap.size≤b) A' t.kids[i].enc)∧Below W.heap.size W w') :=
  fun i hi W hW=>NY t hw hc i hi A cap hcap S W hW
 clear hcs hw
 go_enter Tryz.func302,Tryz.ntmps302
 go_wp2_with (go_at_call 352;refine (HCh.out _ (HC.out.keep (Same.alloc _ _ _))).mono ?_;rintro e w1 ⟨⟨A',c',rfl,hrow⟩,hb1⟩;have Hb1:=Lib.hid hb1;have Hrow:=Lib.hid hrow;clear hb1 hrow)
 go_loopw [3,5] (fun ov ki wr=>∃k:Nat,ki=.int .i64 k∧k≤t.kids.length∧B3 RSl 1 50 wr (fun b=>w.heap.size≤b) w.heap.size ov ((t.kids.take k).map V.enc)∧Below w.heap.size w wr∧Bk RI 1 wr (fun b=>ov.ownBlock≠some b) A' (Cz t t.kids.length)) (fun _ ki _=>t.kids.length-(intOf ki).toNat)
 case atStart =>
  refine⟨0,rfl,Nat.zero_le _,B3.below a2q (B3.made _ rfl (Nat.le_refl _)) Hb1.out,((Below.refl _ _).alloc (Nat.le_refl _) _).trans (Hb1.out.mono (by simp)),Bk.weaken okI Hrow.out fun b hb _=>by simp at hb;simp[Value.ownBlock];omega⟩
 case round =>
  obtain⟨k,rfl,hk,hown,hb,hpr⟩:=hrel
  have Hb:=Lib.hid hb
  have HO:=Lib.hid hown
  have Hpr:=Lib.hid hpr
  have hsz:=hb.size
  have hlk:((t.kids.take k).map V.enc).length=k:=by simp;omega
  obtain⟨Ao,co,rfl,hco⟩:=hown.form' hlk
  have Hlk:=Lib.hid hlk
  clear hlk
  by_cases hlt:k<t.kids.length
  ·obtain⟨b,off,rfl,_,hbl,c0⟩:=hpr.int_at (i:=k) (by rw[E7];exact hlt)
   have hgk:(Cz t t.kids.length)[k]'(by rw[E7];exact hlt)=((kp t.kids k:Nat):Int):=by simp[Cz]
   rw[hgk]at c0
   have HP1:=Lib.hid (HP.out k hlt)
   have HR:=Lib.hid (HC.out.below Hb.out)
   have Hnew:Hid (∀b:Nat,wr.heap.size≤b→w.heap.size≤b∧(Value.slice Ao k co).ownBlock≠some b):=fun b hb=>⟨by omega,fun e=>by have:=(hown.lt b e).2;omega⟩
   clear hgk hb hown hpr
   go_wp2_with (first
    | (go_at_call 353;refine (HP1.out _ HR.out).mono ?_;rintro e w2 ⟨⟨Ap,cp,rfl,hcp,hcells⟩,hb2⟩;have Hb2:=Lib.hid hb2;have Hy:Hid (RSl w2 (fun b=>w.heap.size≤b∧(Value.slice Ao k co).ownBlock≠some b) t.kids[k].enc [.slice Ap t.kids[k].enc.length cp]):=⟨Ap,cp,rfl,hcp,hcells.weaken fun b hb _=>Hnew.out b hb⟩;clear hb2 hcells)
    | (at_builtin;(refine Ht rfl _ _ 44 rfl Tryz.underlying44 UX rfl (by decide) (by decide) a2q (B3.below a2q HO.out Hb2.out) rfl (Nat.le_trans hsz Hb2.out.size) t.kids[k].enc _ rfl rfl Hy.out Hlk.out (by omega) ?_);intro v' w3 hown3 hg3 hex3;obtain⟨g3,cap3,rfl,_,_,_⟩:=hex3;have Hb3:=Lib.hid (hg3.below (Hb.out.trans (Hb2.out.mono hsz)) (Nat.le_trans hsz Hb2.out.size) (fun b hb=>(HO.out.lt b hb).1));have Hp3:=Lib.hid (hg3.row okI (Bk.below okI Hpr.out Hb2.out));have Hg3:=Lib.hid hg3;have HO3:=Lib.hid hown3;clear hown3 hg3))
   all_goals go_roundw
   case rel=>exact⟨k+1,by go_num,by omega,by rw[Ju hlt,List.map_append];exact HO3.out,Hb3.out,Hp3.out⟩
   case measure=>simp[intOf];omega
  ·have hke:k=t.kids.length:=by omega
   have Hke:=Lib.hid hke
   clear hke hown hb hpr
   go_wp2
   go_ret
   refine⟨⟨Ao,co,by rw[←Hke.out];rfl,by omega,?_⟩,Hb.out⟩
   have:=B3.row' a2q (by omega) HO.out Hlk.out (T:=fun b=>w.heap.size≤b) (fun b h _=>h) (fun b h _=>h)
   rw[Hke.out,List.take_length]at this
   exact this
end Go.Proofs.YtcejfdfmgmcinaaGreat
