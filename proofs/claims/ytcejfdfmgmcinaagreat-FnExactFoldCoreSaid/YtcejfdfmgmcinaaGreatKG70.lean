/- spec.l3Size, l3Bool, l3Among, l3Add, l3Sub, l3Times, l3Binary, by the engine. -/
import Derived.Test.YtcejfdfmgmcinaaGreatKM29uG87
import Derived.Test.YtcejfdfmgmcinaaGreatKG68
set_option linter.all false
set_option maxHeartbeats 8000000
namespace Go.Proofs.YtcejfdfmgmcinaaGreat
open Go.RowKit
set_option maxRecDepth 10000
theorem LK (n:Int) (h:-1000000000000000≤n∧n≤1000000000000000):AC Tryz.prog 350 [.c (.int .i64 n)] [] (.c (.int .i64 (DN n))) []:=by
 by_cases h0:n<0
 ·have hd:decide (n<0)=true:=by simpa using h0
  have hw:IntKind.i64.wrap (0-n) = -n:=by rw[Cf (by omega) (by omega)];omega
  have ha:DN n = -n:=by unfold DN;omega
  rw[ha]
  refine A7 Tryz.func350 Tryz.ntmps350 ?_
  refine A3 (j2 hd hw) ?_
  exact Ad (A6 []) Tryz.results350
 ·have hd:decide (n<0)=false:=by simpa using h0
  have ha:DN n=n:=by unfold DN;omega
  rw[ha]
  refine A7 Tryz.func350 Tryz.ntmps350 ?_
  refine A3 hd ?_
  exact Ad (A6 []) Tryz.results350
theorem FW (b:Bool):AC Tryz.prog 252 [.c (.bool b)] [] (.c (.sl ((DT b).enc.map CellD.cs))) []:=by
 have hb:(DT b).enc.map CellD.cs=[[.int .i64 (bif b then 2 else 1),.int .i64 0,.str ByteArray.empty,.str ByteArray.empty,.int .i64 0]]:=by cases b<;>rfl
 rw[hb]
 cases b
 all_goals
  refine A7 Tryz.func252 Tryz.ntmps252 ?_
  refine A3 q9 ?_
  exact Ab (Aa [] [(5,0),(7,0)]) Tryz.results252 (j2 @cond_true.{1} @cond_false.{1})
theorem Zl (x y:V):(y.cmp x==0)=(x.cmp y==0):=by
 by_cases h:x=y
 ·subst h;rfl
 ·have h1:¬x.cmp y=0:=fun e=>h (Ix.1 e)
  have h2:¬y.cmp x=0:=fun e=>h (Ix.1 e).symm
  rw[beq_eq_false_iff_ne.2 h1,beq_eq_false_iff_ne.2 h2]
theorem V1 (l:List V) (x:V) (hx:x.right) (hr:∀v∈l,v.right) (hl:l.length≤1000000):AC Tryz.prog 390 [.c (.sl ((l.map V.enc).map Al)),AH x.enc] [] (.c (.bool (l.any fun y=>x.cmp y==0))) []:=by
 have hlm:((l.map V.enc).map Al).length=l.length:=by simp
 refine A7 Tryz.func390 Tryz.ntmps390 ?_
 refine A3 q9 ?_
 refine Ay (κ:=Nat) (fun k=>⟨mkS 0 19 [(0,.c (.sl ((l.map V.enc).map Al))),(1,AH x.enc),(5,.c (.int .i64 k))],[]⟩)
  (fun k=>k≤l.length∧(l.any fun y=>x.cmp y==0)=((l.drop k).any fun y=>x.cmp y==0)) (fun k=>l.length-k) 0 ⟨Nat.zero_le _,rfl⟩ ?_ ?_
 ·exact Af (Am.of [] []) hlm
 ·rintro k ⟨hk,hR⟩
  by_cases hlt:k<l.length
  ·have hdk:decide ((k:Int)<(l.length:Int))=true:=by simpa using hlt
   have hw:=Ah (k:=k) (by omega)
   have hr2:A9 ((l.map V.enc).map Al) 1 k=true:=by simp[A9,hlt,Al]
   have hg2:((l.map V.enc).map Al)[k]? = some [.sl (l[k].enc.map CellD.cs)]:=by simp[hlt,Al]
   have hc:=HW l[k].count l[k] x (Nat.le_refl _) (hr _ (List.getElem_mem hlt)) hx
   have ht:=Zl x l[k]
   rw[List.drop_eq_getElem_cons hlt,List.any_cons]at hR
   generalize l[k]=y at *
   cases hb:x.cmp y==0 with
   |true =>
    rw[hb]at ht hR
    rw[hR,Bool.true_or]
    refine A3 (j4 hlm hdk hr2 hg2) ?_
    refine w7 (A4 [] hc) q9 ?_
    refine A3 ht ?_
    exact Ad (A6 []) Tryz.results390
   |false =>
    rw[hb]at ht hR
    rw[Bool.false_or]at hR
    refine A3 (j4 hlm hdk hr2 hg2) ?_
    refine w7 (A4 [] hc) q9 ?_
    refine A3 (j2 ht hw) ?_
    refine⟨k+1,by omega,⟨by omega,hR⟩,?_⟩
    exact Af (Am.of [] []) hw
  ·have hdk:decide ((k:Int)<(l.length:Int))=false:=by simpa using hlt
   rw[hR,List.drop_eq_nil_of_le (by omega),List.any_nil]
   refine A3 (j2 hlm hdk) ?_
   exact Ad (A6 []) Tryz.results390
theorem WB {v:V}(h:v.right):0≤v.kind∧v.kind≤6:=⟨(Bc h.1).1,(Bc h.1).2.1⟩
theorem T4 {a b:V}(ha:a.right) (hb:b.right):AC Tryz.prog 343 [AH a.enc,AH b.enc] [] (vrA (OH a b)) []:=by
 have ra:=CE a
 have ga:=AL a
 have rb:=CE b
 have gb:=AL b
 have la:=Db a
 have lb:=Db b
 have ca:=ha.2.1
 have cb:=hb.2.1
 have alla:=GT a.enc
 have allb:=GT b.enc
 have pa:0+a.enc.length≤1000000:=by omega
 have pb:0+b.enc.length≤1000000:=by omega
 have pOa:=Mk ha.1 ha.2.1
 have pOb:=Dg hb.1 hb.2.1
 obtain⟨hak,hav⟩:=De ha
 obtain⟨hbk,hbv⟩:=De hb
 unfold OH
 by_cases a0:a.kind=0
 ·have ba:(a.kind==0)=true:=by simpa using a0
  rw[if_pos a0,BH]
  refine A7 Tryz.func343 Tryz.ntmps343 ?_
  refine A3 (j5 ra ga ba allb pb) ?_
  exact Ab (Aa [] [(12,0)]) Tryz.results343 lb
 ·have ba:(a.kind==0)=false:=by simpa using a0
  rw[if_neg a0]
  by_cases b0:b.kind=0
  ·have bb:(b.kind==0)=true:=by simpa using b0
   rw[if_pos b0,BH]
   refine A7 Tryz.func343 Tryz.ntmps343 ?_
   refine A3 (j8 ra ga ba rb gb bb alla pa) ?_
   exact Ab (Aa [] [(21,0)]) Tryz.results343 la
  ·have bb:(b.kind==0)=false:=by simpa using b0
   rw[if_neg b0]
   by_cases h3:a.kind=3∧b.kind=3
   ·rw[if_pos h3]
    have hne:(a.kind != b.kind)=false:=by simp[h3.1,h3.2]
    have k3:(a.kind==3)=true:=by simp[h3.1]
    have n1:=Cz ha
    have n2:=Cz hb
    have hw:IntKind.i64.wrap (a.num+b.num)=a.num+b.num:=Cf (by omega) (by omega)
    have hn:=Cd (a.num+b.num)
    have hg:=EB (Cb (a.num+b.num))
    generalize Cb (a.num+b.num)=z at *
    generalize Cw z=r at *
    rcases r with⟨c,_ | u⟩
    all_goals
     simp only[BG,Bv]at hg ⊢
     refine A7 Tryz.func343 Tryz.ntmps343 ?_
     refine A3 (j9 ra ga ba rb gb bb hne k3 hw) ?_
     refine w9 (A5 [] hn) q9 ?_
     refine w9 (A5 [] hg) q9 ?_
     refine A3 q9 ?_
     exact Ad (A6 []) Tryz.results343
   ·rw[if_neg h3]
    by_cases h4:a.kind=4∧b.kind=4
    ·rw[if_pos h4]
     have hne:(a.kind != b.kind)=false:=by simp[h4.1,h4.2]
     have k3:(a.kind==3)=false:=by simp[h4.1]
     have k4:(a.kind==4)=true:=by simp[h4.1]
     have t1:=G1 ha
     have t2:=G1 hb
     have hsz:a.text.size+b.text.size≤9223372036854775807:=by omega
     have hn:=II (a.text++b.text)
     have hg:=EB (Dj (a.text++b.text))
     generalize Dj (a.text++b.text)=z at *
     generalize Cw z=r at *
     rcases r with⟨c,_ | u⟩
     all_goals
      simp only[BG,Bv]at hg ⊢
      refine A7 Tryz.func343 Tryz.ntmps343 ?_
      refine A3 (j10 ra ga ba rb gb bb hne k3 k4 hsz) ?_
      refine w9 (A5 [] hn) q9 ?_
      refine w9 (A5 [] hg) q9 ?_
      refine A3 q9 ?_
      exact Ad (A6 []) Tryz.results343
    ·rw[if_neg h4]
     by_cases h5:a.kind=5∧b.kind=5
     ·rw[if_pos h5]
      have hne:(a.kind != b.kind)=false:=by simp[h5.1,h5.2]
      have k3:(a.kind==3)=false:=by simp[h5.1]
      have k4:(a.kind==4)=false:=by simp[h5.1]
      have k5:(a.kind==5)=true:=by simp[h5.1]
      obtain⟨hf,hc⟩:=MX ha hb
      have hay:=DZ (a.kids++b.kids) (by omega)
      have hall:=GU (b.kids.map V.enc)
      have hla:((a.kids.map V.enc).map Al).length=a.kids.length:=by simp
      have hlb:((b.kids.map V.enc).map Al).length=b.kids.length:=by simp
      have hl1:a.kids.length+b.kids.length≤1000000:=by omega
      have e1:(a.kids.map V.enc).map Al++(b.kids.map V.enc).map Al=((a.kids++b.kids).map V.enc).map Al:=by rw[List.map_append,List.map_append]
      have hg:=EB (AZ (a.kids++b.kids))
      generalize a.kids++b.kids=K at *
      generalize AZ K=z at *
      generalize Cw z=r at *
      rcases r with⟨c,_ | u⟩
      all_goals
       simp only[BG,Bv]at hg ⊢
       refine A7 Tryz.func343 Tryz.ntmps343 ?_
       refine A3 (j10 ra ga ba rb gb bb hne k3 k4 k5) ?_
       refine w12 (AS [] pOa) q9 ?_
       refine A3 q9 ?_
       refine w9 (A5 [] pOb) q9 ?_
       refine A3 (j5 hall hla hlb hl1 e1) ?_
       refine w9 (A5 [(69,0)] hay) e1 ?_
       refine w9 (A5 [] hg) q9 ?_
       refine A3 q9 ?_
       exact Ad (A6 []) Tryz.results343
     ·rw[if_neg h5]
      by_cases h6:a.kind=6∧b.kind=6
      ·rw[if_pos h6]
       have hne:(a.kind != b.kind)=false:=by simp[h6.1,h6.2]
       have k3:(a.kind==3)=false:=by simp[h6.1]
       have k4:(a.kind==4)=false:=by simp[h6.1]
       have k5:(a.kind==5)=false:=by simp[h6.1]
       have k6:(a.kind==6)=true:=by simp[h6.1]
       obtain⟨hf,hc1,hc2,hl⟩:=O5 ha hb h6.1 h6.2
       have kOa:=NQ ha.1 ha.2.1
       rw[show BN a a.kids.length=a.keys from F9 ha h6.1]at kOa
       have kOb:=FU hb.1 hb.2.1
       rw[show BN b b.kids.length=b.keys from F9 hb h6.2]at kOb
       have hobj:=Mj (a.keys++b.keys) (a.kids++b.kids) hl (by omega)
       have hall:=GU (b.kids.map V.enc)
       have halls:=Ft b.keys
       have hla:((a.kids.map V.enc).map Al).length=a.kids.length:=by simp
       have hlb:((b.kids.map V.enc).map Al).length=b.kids.length:=by simp
       have hka:(a.keys.map Ag).length=a.keys.length:=by simp
       have hkb:(b.keys.map Ag).length=b.keys.length:=by simp
       have hl1:a.kids.length+b.kids.length≤1000000:=by omega
       have hl2:a.keys.length+b.keys.length≤1000000:=by omega
       have e1:(a.kids.map V.enc).map Al++(b.kids.map V.enc).map Al=((a.kids++b.kids).map V.enc).map Al:=by rw[List.map_append,List.map_append]
       have e2:a.keys.map Ag++b.keys.map Ag=(a.keys++b.keys).map Ag:=by rw[List.map_append]
       have hg:=EB (I3 (a.keys++b.keys) (a.kids++b.kids))
       generalize I3 (a.keys++b.keys) (a.kids++b.kids)=z at *
       generalize a.keys++b.keys=KK at *
       generalize a.kids++b.kids=K at *
       generalize Cw z=r at *
       rcases r with⟨c,_ | u⟩
       all_goals
        simp only[BG,Bv]at hg ⊢
        refine A7 Tryz.func343 Tryz.ntmps343 ?_
        refine A3 (j11 ra ga ba rb gb bb hne k3 k4 k5 k6) ?_
        refine w12 (AS [] kOa) q9 ?_
        refine A3 q9 ?_
        refine w9 (A5 [] kOb) q9 ?_
        refine A3 (j5 halls hka hkb hl2 e2) ?_
        refine w12 (AS [] pOa) q9 ?_
        refine A3 q9 ?_
        refine w9 (A5 [] pOb) q9 ?_
        refine A3 (j5 hall hla hlb hl1 e1) ?_
        refine w12 (C9 [(78,0),(83,0)] hobj) (j2 e1 e2) ?_
        refine w9 (A5 [(84,0)] hg) q9 ?_
        refine A3 q9 ?_
        exact Ad (A6 []) Tryz.results343
      ·rw[if_neg h6,DS]
       by_cases hk:a.kind=b.kind
       ·have hne:(a.kind != b.kind)=false:=by simpa using hk
        have k3:(a.kind==3)=false:=by simp;omega
        have k4:(a.kind==4)=false:=by simp;omega
        have k5:(a.kind==5)=false:=by simp;omega
        have k6:(a.kind==6)=false:=by simp;omega
        refine A7 Tryz.func343 Tryz.ntmps343 ?_
        refine A3 (j11 ra ga ba rb gb bb hne k3 k4 k5 k6) ?_
        refine w7 (A4 [] (Cq 6)) q9 ?_
        refine A3 q9 ?_
        exact Ad (A6 []) Tryz.results343
       ·have hne:(a.kind != b.kind)=true:=by simpa using hk
        refine A7 Tryz.func343 Tryz.ntmps343 ?_
        refine A3 (j7 ra ga ba rb gb bb hne) ?_
        refine w7 (A4 [] (Cq 6)) q9 ?_
        refine A3 q9 ?_
        exact Ad (A6 []) Tryz.results343
theorem Y0 (a b:List V):∃F:Nat→List V,F 0=[]∧(∀k,(F k).length≤k)∧F a.length=IL a b∧∀k (h:k<a.length),F (k+1)=F k++(if (b.any fun y=>a[k].cmp y==0)=true then [] else [a[k]]):=by
 refine⟨fun k=>(a.take k).filter fun x=>!(b.any fun y=>x.cmp y==0),rfl,fun k=>?_,by dsimp only;rw[List.take_length];rfl,fun k h=>?_⟩
 ·exact Nat.le_trans (List.length_filter_le _ _) (by rw[List.length_take];omega)
 ·dsimp only
  rw[List.take_succ_eq_append_getElem h,List.filter_append]
  congr 1
  rw[List.filter_cons,List.filter_nil]
  cases b.any fun y=>a[k].cmp y==0<;>rfl
theorem ZS {a b : V} (ha : a.right) (hb : b.right) : AC Tryz.prog 344 [AH a.enc, AH b.enc] [] (vrA (RO a b)) [] := by
  have ra := CE a
  have ga := AL a
  have rb := CE b
  have gb := AL b
  have pOa := Dg ha.1 ha.2.1
  have pOb := Dg hb.1 hb.2.1
  obtain ⟨hak, hav⟩ := De ha
  obtain ⟨hbk, hbv⟩ := De hb
  unfold RO
  by_cases h3 : a.kind = 3 ∧ b.kind = 3
  · rw [if_pos h3]
    have k3 : (a.kind == 3) = true := by simp [h3.1]
    have j3 : (b.kind == 3) = true := by simp [h3.2]
    have n1 := Cz ha
    have n2 := Cz hb
    have hw : IntKind.i64.wrap (a.num - b.num) = a.num - b.num := Cf (by omega) (by omega)
    have hn := Cd (a.num - b.num)
    have hg := EB (Cb (a.num - b.num))
    generalize Cb (a.num - b.num) = z at *
    generalize Cw z = r at *
    rcases r with ⟨c, _ | u⟩
    all_goals
      simp only [BG, Bv] at hg ⊢
      refine A7 Tryz.func344 Tryz.ntmps344 ?_
      refine A3 (j7 ra ga rb gb k3 @j3 hw) ?_
      refine w9 (A5 [] hn) q9 ?_
      refine w9 (A5 [] hg) q9 ?_
      refine A3 q9 ?_
      exact Ad (A6 []) Tryz.results344
  · rw [if_neg h3]
    by_cases h5 : a.kind = 5 ∧ b.kind = 5
    · rw [if_pos h5, BH]
      have k3 : (a.kind == 3) = false := by simp [h5.1]
      have k5 : (a.kind != 5) = false := by simp [h5.1]
      have j5 : (b.kind != 5) = false := by simp [h5.2]
      obtain ⟨F, hF0, hFl, hFn, hFs⟩ := Y0 a.kids b.kids
      have hrt := (Kc (b := b) ha).2.1
      have hay := DZ (IL a.kids b.kids) (by omega)
      rw [← hFn] at hay hrt ⊢
      have hlm : ((a.kids.map V.enc).map Al).length = a.kids.length := by simp
      generalize AZ (F a.kids.length) = ar at *
      refine A7 Tryz.func344 Tryz.ntmps344 ?_
      refine A3 (j7 ra ga k3 k5 rb gb @j5) ?_
      refine w9 (A5 [] pOb) q9 ?_
      refine A3 q9 ?_
      refine w9 (A5 [] pOa) q9 ?_
      refine A3 q9 ?_
      refine Ay (κ := Nat) (fun k => ⟨mkS 0 73 [(4, .ptr (4, 0) 0), (5, .c (.sl ((b.kids.map V.enc).map Al))), (6, .c (.sl ((a.kids.map V.enc).map Al))), (7, .own (97, 0)), (8, .c (.int .i64 k))],
          [((4, 0), .box [.c (.int .i64 0), .nils]), ((97, 0), .row false 1 50 (((F k).map V.enc).map Al))]⟩)
        (fun k => k ≤ a.kids.length) (fun k => a.kids.length - k) 0 (Nat.zero_le _) ?_ ?_
      · exact Af (Am.of [((4, 0), (4, 0)), ((97, 0), (49, 0))] []) (j2 hF0 @List.map_nil.{0,0})
      · intro k hk
        by_cases hlt : k < a.kids.length
        · have hdk : decide ((k : Int) < (a.kids.length : Int)) = true := by simpa using hlt
          have hw := Ah (k := k) (by omega)
          have hr2 : A9 ((a.kids.map V.enc).map Al) 1 k = true := by simp [A9, hlt, Al]
          have hg2 : ((a.kids.map V.enc).map Al)[k]? = some [.sl (a.kids[k].enc.map CellD.cs)] := by simp [hlt, Al]
          have hl1 : (F k).length + 1 ≤ 1000000 := by have := hFl k; omega
          have ham := V1 b.kids a.kids[k] (Bd ha (List.getElem_mem hlt)) (fun v hv => Bd hb hv) (by omega)
          have hFk := hFs k hlt
          have e1 : F (k + 1) = F k ++ [a.kids[k]] → ((F k).map V.enc).map Al ++ [[C.sl (a.kids[k].enc.map CellD.cs)]] = ((F (k + 1)).map V.enc).map Al := fun h => by rw [h, List.map_append, List.map_append]; rfl
          generalize a.kids[k] = u at *
          generalize (b.kids.any fun y => u.cmp y == 0) = t at *
          cases t with
          | true =>
            have e := hFk
            simp only [if_true, List.append_nil] at e
            refine A3 (j4 hlm hdk hr2 hg2) ?_
            refine w7 (A4 [] ham) q9 ?_
            refine A3 hw ?_
            refine ⟨k + 1, by omega, by omega, ?_⟩
            exact Af (Am.of [((4, 0), (4, 0)), ((97, 0), (97, 0))] []) e
          | false =>
            have e := hFk
            simp only [Bool.false_eq_true, if_false] at e
            have e1 := e1 e
            refine A3 (j4 hlm hdk hr2 hg2) ?_
            refine w7 (A4 [] ham) q9 ?_
            refine A3 (j4 hr2 hg2 hl1 hw) ?_
            refine ⟨k + 1, by omega, by omega, ?_⟩
            exact Af (Am.of [((4, 0), (4, 0)), ((97, 0), (69, 0))] []) e1
        · have hdk : decide ((k : Int) < (a.kids.length : Int)) = false := by simpa using hlt
          have hke : k = a.kids.length := by omega
          rw [hke]
          rw [hke] at hdk
          refine A3 (j2 hlm hdk) ?_
          refine w9 (A5 [(97, 0)] hay) q9 ?_
          refine A3 q9 ?_
          exact Ad (A6 []) Tryz.results344
    · rw [if_neg h5, DS]
      cases k3 : a.kind == 3 <;> cases j3 : b.kind == 3 <;> cases k5 : a.kind != 5 <;> cases j5 : b.kind != 5
      all_goals first
        | (exfalso; simp at k3 j3 k5 j5; omega)
        | (refine A7 Tryz.func344 Tryz.ntmps344 ?_
           refine A3 (j8 ra ga rb gb k3 @j3 k5 @j5) ?_
           refine w7 (A4 [] (Cq 6)) q9 ?_
           refine A3 q9 ?_
           exact Ad (A6 []) Tryz.results344)
theorem Ph {x:Int}:IntKind.i64.wrap ((1000000000000000:Int).tdiv (DN x))=(1000000000000000:Int).tdiv (DN x):=by
 have h1:((1000000000000000:Int).tdiv (DN x)).natAbs=(1000000000000000:Int).natAbs / (DN x).natAbs:=Int.natAbs_tdiv 1000000000000000 (DN x)
 have h2:=Nat.div_le_self (1000000000000000:Int).natAbs (DN x).natAbs
 exact Cf (by omega) (by omega)
def W7 (op x y:Int):Int×Option V :=
 if op=3 then (if F1 x y=true then Ew 3 else okR (Cb (x*y)))
 else if y=0 then Ew 3 else okR (Cb (if op=10 then x.tdiv y else x.tmod y))
theorem V9 (op x y:Int) (n1:-1000000000000000≤x∧x≤1000000000000000) (n2:-1000000000000000≤y∧y≤1000000000000000):AC Tryz.prog 345 [.c (.int .i64 op),.c (.int .i64 x),.c (.int .i64 y)] [] (vrA (W7 op x y)) []:=by
 have hsx:=LK x n1
 have hsy:=LK y n2
 unfold W7
 by_cases o3:op=3
 ·have ho3:(op==3)=true:=by simpa using o3
  rw[if_pos o3]
  cases hbig:F1 x y with
  |true =>
   have hy0:y≠0:=by intro h;rw[h,MZ,S6]at hbig;cases hbig
   have hyb:(y != 0)=true:=by simpa using hy0
   have hq:=(MS (y:=x) hy0).trans ((MZ y x).trans hbig)
   have ha0:(DN y=0)=False:=by apply eq_false;unfold DN;omega
   have haw:=Ph (x:=y)
   rw[if_pos rfl,DS]
   refine A7 Tryz.func345 Tryz.ntmps345 ?_
   refine A3 (j2 ho3 hyb) ?_
   refine w7 (A4 [] hsx) q9 ?_
   refine A3 hyb ?_
   refine w7 (A4 [] hsy) q9 ?_
   refine A3 (j4 hyb ha0 haw hq) ?_
   refine w7 (A4 [] (Cq 3)) q9 ?_
   refine A3 q9 ?_
   exact Ad (A6 []) Tryz.results345
  |false =>
   have hm:=LN hbig
   have hw:IntKind.i64.wrap (x*y)=x*y:=Cf (by omega) (by omega)
   have hn:=Cd (x*y)
   rw[if_neg (by simp),BH]
   generalize Cb (x*y)=z at *
   by_cases hy0:y=0
   ·have hyb:(y != 0)=false:=by simpa using hy0
    refine A7 Tryz.func345 Tryz.ntmps345 ?_
    refine A3 (j3 ho3 hyb hw) ?_
    refine w9 (A5 [] hn) q9 ?_
    refine A3 q9 ?_
    exact Ad (A6 []) Tryz.results345
   ·have hyb:(y != 0)=true:=by simpa using hy0
    have hq:=(MS (y:=x) hy0).trans ((MZ y x).trans hbig)
    have ha0:(DN y=0)=False:=by apply eq_false;unfold DN;omega
    have haw:=Ph (x:=y)
    refine A7 Tryz.func345 Tryz.ntmps345 ?_
    refine A3 (j2 ho3 hyb) ?_
    refine w7 (A4 [] hsx) q9 ?_
    refine A3 hyb ?_
    refine w7 (A4 [] hsy) q9 ?_
    refine A3 (j5 hyb ha0 haw hq hw) ?_
    refine w9 (A5 [] hn) q9 ?_
    refine A3 q9 ?_
    exact Ad (A6 []) Tryz.results345
 ·have ho3:(op==3)=false:=by simpa using o3
  rw[if_neg o3]
  by_cases hy0:y=0
  ·have hyb:(y==0)=true:=by simpa using hy0
   rw[if_pos hy0,DS]
   refine A7 Tryz.func345 Tryz.ntmps345 ?_
   refine A3 (j2 ho3 hyb) ?_
   refine w7 (A4 [] (Cq 3)) q9 ?_
   refine A3 q9 ?_
   exact Ad (A6 []) Tryz.results345
  ·have hyb:(y==0)=false:=by simpa using hy0
   rw[if_neg hy0,BH]
   by_cases o10:op=10
   ·have ho10:(op==10)=true:=by simpa using o10
    have hm:=Kr (y:=y) n1
    have hw:IntKind.i64.wrap (x.tdiv y)=x.tdiv y:=Cf (by omega) (by omega)
    have hn:=Cd (x.tdiv y)
    rw[if_pos o10]
    generalize Cb (x.tdiv y)=z at *
    refine A7 Tryz.func345 Tryz.ntmps345 ?_
    refine A3 (j5 ho3 hyb ho10 hy0 hw) ?_
    refine w9 (A5 [] hn) q9 ?_
    refine A3 q9 ?_
    exact Ad (A6 []) Tryz.results345
   ·have ho10:(op==10)=false:=by simpa using o10
    have hn:=Cd (x.tmod y)
    rw[if_neg o10]
    generalize Cb (x.tmod y)=z at *
    refine A7 Tryz.func345 Tryz.ntmps345 ?_
    refine A3 (j4 ho3 hyb ho10 hy0) ?_
    refine w9 (A5 [] hn) q9 ?_
    refine A3 q9 ?_
    exact Ad (A6 []) Tryz.results345
theorem T5 (op : Int) {a b : V} (hop : 1 ≤ op ∧ op ≤ 11) (ha : a.right) (hb : b.right) : AC Tryz.prog 287 [.c (.int .i64 op), AH a.enc, AH b.enc] [] (vrA (JS op a b)) [] := by
  have hcmp := HW a.count a b (Nat.le_refl _) ha hb
  have hadd := T4 ha hb
  have hsub := ZS ha hb
  have ra := CE a
  have ga := AL a
  have rb := CE b
  have gb := AL b
  unfold JS
  by_cases o : op = 1
  · rw [if_pos o]
    have o1 : (op == 1) = true := by simp [o]
    generalize OH a b = r at *
    rcases r with ⟨c, _ | u⟩
    all_goals
      simp only [BG, Bv] at hadd ⊢
      refine A7 Tryz.func287 Tryz.ntmps287 ?_
      refine A3 q9 ?_
      refine w7 (A4 [] hcmp) q9 ?_
      refine A3 o1 ?_
      refine w9 (A5 [] hadd) q9 ?_
      refine A3 q9 ?_
      exact Ad (A6 []) Tryz.results287
  · rw [if_neg o]
    have n1 : (op == 1) = false := by simpa using o
    by_cases o : op = 2
    · rw [if_pos o]
      have o1 : (op == 1) = false := by simp [o]
      have o2 : (op == 2) = true := by simp [o]
      generalize RO a b = r at *
      rcases r with ⟨c, _ | u⟩
      all_goals
        simp only [BG, Bv] at hsub ⊢
        refine A7 Tryz.func287 Tryz.ntmps287 ?_
        refine A3 q9 ?_
        refine w7 (A4 [] hcmp) q9 ?_
        refine A3 (j2 o1 o2) ?_
        refine w9 (A5 [] hsub) q9 ?_
        refine A3 q9 ?_
        exact Ad (A6 []) Tryz.results287
    · rw [if_neg o]
      have n2 : (op == 2) = false := by simpa using o
      by_cases o : op = 3 ∨ op = 10 ∨ op = 11
      · rw [if_pos o]
        have n4 : (op == 4) = false := by simp; omega
        have n5 : (op == 5) = false := by simp; omega
        have n6 : (op == 6) = false := by simp; omega
        have n7 : (op == 7) = false := by simp; omega
        have n8 : (op == 8) = false := by simp; omega
        have n9 : (op == 9) = false := by simp; omega
        unfold I9
        by_cases h3 : a.kind = 3 ∧ b.kind = 3
        · rw [if_pos h3]
          have k3 : (a.kind != 3) = false := by simp [h3.1]
          have j3 : (b.kind != 3) = false := by simp [h3.2]
          have htm := V9 op a.num b.num (Cz ha) (Cz hb)
          unfold W7 at htm
          generalize (if op = 3 then (if F1 a.num b.num = true then Ew 3 else okR (Cb (a.num * b.num))) else if b.num = 0 then Ew 3 else okR (Cb (if op = 10 then a.num.tdiv b.num else a.num.tmod b.num))) = r at *
          rcases r with ⟨c, _ | u⟩
          all_goals
            simp only [BG, Bv] at htm ⊢
            refine A7 Tryz.func287 Tryz.ntmps287 ?_
            refine A3 q9 ?_
            refine w7 (A4 [] hcmp) q9 ?_
            refine A3 (j12 n1 n2 n4 n5 n6 n7 n8 n9 ra ga k3 rb) ?_
            refine A3 (j6 ra ga rb gb k3 @j3) ?_
            refine w9 (A5 [] htm) q9 ?_
            refine A3 q9 ?_
            exact Ad (A6 []) Tryz.results287
        · rw [if_neg h3, DS]
          cases k3 : a.kind != 3 <;> cases j3 : b.kind != 3
          all_goals first
            | (exfalso; simp at k3 j3; omega)
            | (refine A7 Tryz.func287 Tryz.ntmps287 ?_
               refine A3 q9 ?_
               refine w7 (A4 [] hcmp) q9 ?_
               refine A3 (j12 n1 n2 n4 n5 n6 n7 n8 n9 ra ga k3 rb) ?_
               refine A3 (j6 ra ga rb gb k3 @j3) ?_
               refine w7 (A4 [] (Cq 6)) q9 ?_
               refine A3 q9 ?_
               exact Ad (A6 []) Tryz.results287)
      · rw [if_neg o]
        by_cases o : op = 4
        · rw [if_pos o, BH]
          have o4 : (op == 4) = true := by simpa using o
          have htr := FW (a.cmp b == 0)
          generalize ht : (a.cmp b == 0) = t at *
          generalize DT t = z at *
          refine A7 Tryz.func287 Tryz.ntmps287 ?_
          refine A3 q9 ?_
          refine w7 (A4 [] hcmp) q9 ?_
          refine A3 (j4 n1 n2 o4 ht) ?_
          refine w9 (A5 [] htr) q9 ?_
          refine A3 q9 ?_
          exact Ad (A6 []) Tryz.results287
        · rw [if_neg o]
          have n4 : (op == 4) = false := by simpa using o
          by_cases o : op = 5
          · rw [if_pos o, BH]
            have o5 : (op == 5) = true := by simpa using o
            have htr := FW (a.cmp b != 0)
            generalize ht : (a.cmp b != 0) = t at *
            generalize DT t = z at *
            refine A7 Tryz.func287 Tryz.ntmps287 ?_
            refine A3 q9 ?_
            refine w7 (A4 [] hcmp) q9 ?_
            refine A3 (j5 n1 n2 n4 o5 ht) ?_
            refine w9 (A5 [] htr) q9 ?_
            refine A3 q9 ?_
            exact Ad (A6 []) Tryz.results287
          · rw [if_neg o]
            have n5 : (op == 5) = false := by simpa using o
            by_cases o : op = 6
            · rw [if_pos o, BH]
              have o6 : (op == 6) = true := by simpa using o
              have htr := FW (decide (a.cmp b < 0))
              generalize ht : (decide (a.cmp b < 0)) = t at *
              generalize DT t = z at *
              refine A7 Tryz.func287 Tryz.ntmps287 ?_
              refine A3 q9 ?_
              refine w7 (A4 [] hcmp) q9 ?_
              refine A3 (j6 n1 n2 n4 n5 o6 ht) ?_
              refine w9 (A5 [] htr) q9 ?_
              refine A3 q9 ?_
              exact Ad (A6 []) Tryz.results287
            · rw [if_neg o]
              have n6 : (op == 6) = false := by simpa using o
              by_cases o : op = 7
              · rw [if_pos o, BH]
                have o7 : (op == 7) = true := by simpa using o
                have htr := FW (decide (a.cmp b ≤ 0))
                generalize ht : (decide (a.cmp b ≤ 0)) = t at *
                generalize DT t = z at *
                refine A7 Tryz.func287 Tryz.ntmps287 ?_
                refine A3 q9 ?_
                refine w7 (A4 [] hcmp) q9 ?_
                refine A3 (j7 n1 n2 n4 n5 n6 o7 ht) ?_
                refine w9 (A5 [] htr) q9 ?_
                refine A3 q9 ?_
                exact Ad (A6 []) Tryz.results287
              · rw [if_neg o]
                have n7 : (op == 7) = false := by simpa using o
                by_cases o : op = 8
                · rw [if_pos o, BH]
                  have o8 : (op == 8) = true := by simpa using o
                  have htr := FW (decide (a.cmp b > 0))
                  generalize ht : (decide (a.cmp b > 0)) = t at *
                  generalize DT t = z at *
                  refine A7 Tryz.func287 Tryz.ntmps287 ?_
                  refine A3 q9 ?_
                  refine w7 (A4 [] hcmp) q9 ?_
                  refine A3 (j8 n1 n2 n4 n5 n6 n7 o8 ht) ?_
                  refine w9 (A5 [] htr) q9 ?_
                  refine A3 q9 ?_
                  exact Ad (A6 []) Tryz.results287
                · rw [if_neg o]
                  have n8 : (op == 8) = false := by simpa using o
                  by_cases o : op = 9
                  · rw [if_pos o, BH]
                    have o9 : (op == 9) = true := by simpa using o
                    have htr := FW (decide (a.cmp b ≥ 0))
                    generalize ht : (decide (a.cmp b ≥ 0)) = t at *
                    generalize DT t = z at *
                    refine A7 Tryz.func287 Tryz.ntmps287 ?_
                    refine A3 q9 ?_
                    refine w7 (A4 [] hcmp) q9 ?_
                    refine A3 (j9 n1 n2 n4 n5 n6 n7 n8 o9 ht) ?_
                    refine w9 (A5 [] htr) q9 ?_
                    refine A3 q9 ?_
                    exact Ad (A6 []) Tryz.results287
                  · rw [if_neg o]
                    have n9 : (op == 9) = false := by simpa using o
                    exfalso
                    simp at n1 n2 n4 n5 n6 n7 n8 n9
                    omega
end Go.Proofs.YtcejfdfmgmcinaaGreat
