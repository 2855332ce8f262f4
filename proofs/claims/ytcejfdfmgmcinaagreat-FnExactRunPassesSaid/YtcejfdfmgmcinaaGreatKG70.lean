/- spec.l3Size, l3Bool, l3Among, l3Add, l3Sub, l3Times, l3Binary, by the engine. -/
import Derived.Test.YtcejfdfmgmcinaaGreatKG80uG87
import Derived.Test.YtcejfdfmgmcinaaGreatKG43uG68
set_option linter.all false
set_option maxHeartbeats 8000000
namespace Go.Proofs.YtcejfdfmgmcinaaGreat
open Go.RowKit
set_option maxRecDepth 10000
theorem LN (n:Int) (h:-1000000000000000≤n∧n≤1000000000000000):AC Tryz.prog 350 [.c (.int .i64 n)] [] (.c (.int .i64 (DJ n))) []:=by
 by_cases h0:n<0
 ·have hd:decide (n<0)=true:=by simpa using h0
  have hw:IntKind.i64.wrap (0-n) = -n:=by rw[C9 (by omega) (by omega)];omega
  have ha:DJ n = -n:=by unfold DJ;omega
  rw[ha]
  refine A6 Tryz.func350 Tryz.ntmps350 (j2 hd hw) ?_
  exact Ag (A5 []) Tryz.results350
 ·have hd:decide (n<0)=false:=by simpa using h0
  have ha:DJ n=n:=by unfold DJ;omega
  rw[ha]
  refine A6 Tryz.func350 Tryz.ntmps350 hd ?_
  exact Ag (A5 []) Tryz.results350
theorem FY (b:Bool):AC Tryz.prog 252 [.c (.bool b)] [] (.c (.sl ((DQ b).enc.map CellD.cs))) []:=by
 have hb:(DQ b).enc.map CellD.cs=[[.int .i64 (bif b then 2 else 1),.int .i64 0,.str ByteArray.empty,.str ByteArray.empty,.int .i64 0]]:=by cases b<;>rfl
 rw[hb]
 cases b
 all_goals
  refine A6 Tryz.func252 Tryz.ntmps252 q9 ?_
  exact Aa (A9 [] [(5,0),(7,0)]) Tryz.results252 (j2 @cond_true.{1} @cond_false.{1})
theorem ZJ (x y:V):(y.cmp x==0)=(x.cmp y==0):=by
 by_cases h:x=y
 ·subst h;rfl
 ·have h1:¬x.cmp y=0:=fun e=>h (IC.1 e)
  have h2:¬y.cmp x=0:=fun e=>h (IC.1 e).symm
  rw[beq_eq_false_iff_ne.2 h1,beq_eq_false_iff_ne.2 h2]
theorem Vc (l:List V) (x:V) (hx:x.right) (hr:∀v∈l,v.right) (hl:l.length≤1000000):AC Tryz.prog 390 [.c (.sl ((l.map V.enc).map Al)),AF x.enc] [] (.c (.bool (l.any fun y=>x.cmp y==0))) []:=by
 have hlm:((l.map V.enc).map Al).length=l.length:=by simp
 refine A6 Tryz.func390 Tryz.ntmps390 q9 ?_
 refine Ar (κ:=Nat) (fun k=>⟨mkS 0 19 [(0,.c (.sl ((l.map V.enc).map Al))),(1,AF x.enc),(5,.c (.int .i64 k))],[]⟩)
  (fun k=>k≤l.length∧(l.any fun y=>x.cmp y==0)=((l.drop k).any fun y=>x.cmp y==0)) (fun k=>l.length-k) 0 ⟨Nat.zero_le _,rfl⟩ ?_ ?_
 ·exact Ac (Aj.of [] []) hlm
 ·rintro k ⟨hk,hR⟩
  by_cases hlt:k<l.length
  ·have hdk:decide ((k:Int)<(l.length:Int))=true:=by simpa using hlt
   have hw:=Ad (k:=k) (by omega)
   have hr2:A8 ((l.map V.enc).map Al) 1 k=true:=by simp[A8,hlt,Al]
   have hg2:((l.map V.enc).map Al)[k]? = some [.sl (l[k].enc.map CellD.cs)]:=by simp[hlt,Al]
   have hc:=I3 l[k].count l[k] x (Nat.le_refl _) (hr _ (List.getElem_mem hlt)) hx
   have ht:=ZJ x l[k]
   rw[List.drop_eq_getElem_cons hlt,List.any_cons]at hR
   generalize l[k]=y at *
   cases hb:x.cmp y==0 with
   |true =>
    rw[hb]at ht hR
    rw[hR,Bool.true_or]
    refine Ab (j4 hlm hdk hr2 hg2) ?_
    refine v7 (A3 [] hc) q9 ht ?_
    exact Ag (A5 []) Tryz.results390
   |false =>
    rw[hb]at ht hR
    rw[Bool.false_or]at hR
    refine Ab (j4 hlm hdk hr2 hg2) ?_
    refine v7 (A3 [] hc) q9 (j2 ht hw) ?_
    refine⟨k+1,by omega,⟨by omega,hR⟩,?_⟩
    exact Ac (Aj.of [] []) hw
  ·have hdk:decide ((k:Int)<(l.length:Int))=false:=by simpa using hlt
   rw[hR,List.drop_eq_nil_of_le (by omega),List.any_nil]
   exact FC (j2 hlm hdk) (A5 []) Tryz.results390
theorem WM {v:V}(h:v.right):0≤v.kind∧v.kind≤6:=⟨(Ba h.1).1,(Ba h.1).2.1⟩
theorem Td {a b:V}(ha:a.right) (hb:b.right):AC Tryz.prog 343 [AF a.enc,AF b.enc] [] (vrA (OM a b)) []:=by
 have ra:=Cx a
 have ga:=AL a
 have rb:=Cx b
 have gb:=AL b
 have la:=CY a
 have lb:=CY b
 have ca:=ha.2.1
 have cb:=hb.2.1
 have alla:=GX a.enc
 have allb:=GX b.enc
 have pa:0+a.enc.length≤1000000:=by omega
 have pb:0+b.enc.length≤1000000:=by omega
 have pOa:=Ms ha.1 ha.2.1
 have pOb:=D6 hb.1 hb.2.1
 obtain⟨hak,hav⟩:=D4 ha
 obtain⟨hbk,hbv⟩:=D4 hb
 unfold OM
 by_cases a0:a.kind=0
 ·have ba:(a.kind==0)=true:=by simpa using a0
  rw[if_pos a0,BG]
  refine A6 Tryz.func343 Tryz.ntmps343 (j5 ra ga ba allb pb) ?_
  exact Aa (A9 [] [(12,0)]) Tryz.results343 lb
 ·have ba:(a.kind==0)=false:=by simpa using a0
  rw[if_neg a0]
  by_cases b0:b.kind=0
  ·have bb:(b.kind==0)=true:=by simpa using b0
   rw[if_pos b0,BG]
   refine A6 Tryz.func343 Tryz.ntmps343 (j8 ra ga ba rb gb bb alla pa) ?_
   exact Aa (A9 [] [(21,0)]) Tryz.results343 la
  ·have bb:(b.kind==0)=false:=by simpa using b0
   rw[if_neg b0]
   by_cases h3:a.kind=3∧b.kind=3
   ·rw[if_pos h3]
    have hne:(a.kind != b.kind)=false:=by simp[h3.1,h3.2]
    have k3:(a.kind==3)=true:=by simp[h3.1]
    have n1:=Cs ha
    have n2:=Cs hb
    have hw:IntKind.i64.wrap (a.num+b.num)=a.num+b.num:=C9 (by omega) (by omega)
    have hn:=C7 (a.num+b.num)
    have hg:=Ew (C6 (a.num+b.num))
    generalize C6 (a.num+b.num)=z at *
    generalize Co z=r at *
    rcases r with⟨c,_ | u⟩
    all_goals
     simp only[BF,Bu]at hg ⊢
     refine A6 Tryz.func343 Tryz.ntmps343 (j9 ra ga ba rb gb bb hne k3 hw) ?_
     refine w9 (A4 [] hn) q9 ?_
     refine v9 (A4 [] hg) q9 q9 ?_
     exact Ag (A5 []) Tryz.results343
   ·rw[if_neg h3]
    by_cases h4:a.kind=4∧b.kind=4
    ·rw[if_pos h4]
     have hne:(a.kind != b.kind)=false:=by simp[h4.1,h4.2]
     have k3:(a.kind==3)=false:=by simp[h4.1]
     have k4:(a.kind==4)=true:=by simp[h4.1]
     have t1:=G2 ha
     have t2:=G2 hb
     have hsz:a.text.size+b.text.size≤9223372036854775807:=by omega
     have hn:=IP (a.text++b.text)
     have hg:=Ew (D9 (a.text++b.text))
     generalize D9 (a.text++b.text)=z at *
     generalize Co z=r at *
     rcases r with⟨c,_ | u⟩
     all_goals
      simp only[BF,Bu]at hg ⊢
      refine A6 Tryz.func343 Tryz.ntmps343 (j10 ra ga ba rb gb bb hne k3 k4 hsz) ?_
      refine w9 (A4 [] hn) q9 ?_
      refine v9 (A4 [] hg) q9 q9 ?_
      exact Ag (A5 []) Tryz.results343
    ·rw[if_neg h4]
     by_cases h5:a.kind=5∧b.kind=5
     ·rw[if_pos h5]
      have hne:(a.kind != b.kind)=false:=by simp[h5.1,h5.2]
      have k3:(a.kind==3)=false:=by simp[h5.1]
      have k4:(a.kind==4)=false:=by simp[h5.1]
      have k5:(a.kind==5)=true:=by simp[h5.1]
      obtain⟨hf,hc⟩:=N3 ha hb
      have hay:=DU (a.kids++b.kids) (by omega)
      have hall:=GY (b.kids.map V.enc)
      have hla:((a.kids.map V.enc).map Al).length=a.kids.length:=by simp
      have hlb:((b.kids.map V.enc).map Al).length=b.kids.length:=by simp
      have hl1:a.kids.length+b.kids.length≤1000000:=by omega
      have e1:(a.kids.map V.enc).map Al++(b.kids.map V.enc).map Al=((a.kids++b.kids).map V.enc).map Al:=by rw[List.map_append,List.map_append]
      have hg:=Ew (AY (a.kids++b.kids))
      generalize a.kids++b.kids=K at *
      generalize AY K=z at *
      generalize Co z=r at *
      rcases r with⟨c,_ | u⟩
      all_goals
       simp only[BF,Bu]at hg ⊢
       refine A6 Tryz.func343 Tryz.ntmps343 (j10 ra ga ba rb gb bb hne k3 k4 k5) ?_
       refine v12 (AU [] pOa) q9 q9 ?_
       refine v9 (A4 [] pOb) q9 (j5 hall hla hlb hl1 e1) ?_
       refine w9 (A4 [(69,0)] hay) e1 ?_
       refine v9 (A4 [] hg) q9 q9 ?_
       exact Ag (A5 []) Tryz.results343
     ·rw[if_neg h5]
      by_cases h6:a.kind=6∧b.kind=6
      ·rw[if_pos h6]
       have hne:(a.kind != b.kind)=false:=by simp[h6.1,h6.2]
       have k3:(a.kind==3)=false:=by simp[h6.1]
       have k4:(a.kind==4)=false:=by simp[h6.1]
       have k5:(a.kind==5)=false:=by simp[h6.1]
       have k6:(a.kind==6)=true:=by simp[h6.1]
       obtain⟨hf,hc1,hc2,hl⟩:=Ob ha hb h6.1 h6.2
       have kOa:=NX ha.1 ha.2.1
       rw[show BK a a.kids.length=a.keys from F5 ha h6.1]at kOa
       have kOb:=FW hb.1 hb.2.1
       rw[show BK b b.kids.length=b.keys from F5 hb h6.2]at kOb
       have hobj:=Mr (a.keys++b.keys) (a.kids++b.kids) hl (by omega)
       have hall:=GY (b.kids.map V.enc)
       have halls:=Fm b.keys
       have hla:((a.kids.map V.enc).map Al).length=a.kids.length:=by simp
       have hlb:((b.kids.map V.enc).map Al).length=b.kids.length:=by simp
       have hka:(a.keys.map Ae).length=a.keys.length:=by simp
       have hkb:(b.keys.map Ae).length=b.keys.length:=by simp
       have hl1:a.kids.length+b.kids.length≤1000000:=by omega
       have hl2:a.keys.length+b.keys.length≤1000000:=by omega
       have e1:(a.kids.map V.enc).map Al++(b.kids.map V.enc).map Al=((a.kids++b.kids).map V.enc).map Al:=by rw[List.map_append,List.map_append]
       have e2:a.keys.map Ae++b.keys.map Ae=(a.keys++b.keys).map Ae:=by rw[List.map_append]
       have hg:=Ew (I9 (a.keys++b.keys) (a.kids++b.kids))
       generalize I9 (a.keys++b.keys) (a.kids++b.kids)=z at *
       generalize a.keys++b.keys=KK,a.kids++b.kids=K,Co z=r at *
       rcases r with⟨c,_ | u⟩
       all_goals
        simp only[BF,Bu]at hg ⊢
        refine A6 Tryz.func343 Tryz.ntmps343 (j11 ra ga ba rb gb bb hne k3 k4 k5 k6) ?_
        refine v12 (AU [] kOa) q9 q9 ?_
        refine v9 (A4 [] kOb) q9 (j5 halls hka hkb hl2 e2) ?_
        refine v12 (AU [] pOa) q9 q9 ?_
        refine v9 (A4 [] pOb) q9 (j5 hall hla hlb hl1 e1) ?_
        refine w12 (BB [(78,0),(83,0)] hobj) (j2 e1 e2) ?_
        refine v9 (A4 [(84,0)] hg) q9 q9 ?_
        exact Ag (A5 []) Tryz.results343
      ·rw[if_neg h6,DP]
       by_cases hk:a.kind=b.kind
       ·have hne:(a.kind != b.kind)=false:=by simpa using hk
        have k3:(a.kind==3)=false:=by simp;omega
        have k4:(a.kind==4)=false:=by simp;omega
        have k5:(a.kind==5)=false:=by simp;omega
        have k6:(a.kind==6)=false:=by simp;omega
        refine A6 Tryz.func343 Tryz.ntmps343 (j11 ra ga ba rb gb bb hne k3 k4 k5 k6) ?_
        refine v7 (A3 [] (Ck 6)) q9 q9 ?_
        exact Ag (A5 []) Tryz.results343
       ·have hne:(a.kind != b.kind)=true:=by simpa using hk
        refine A6 Tryz.func343 Tryz.ntmps343 (j7 ra ga ba rb gb bb hne) ?_
        refine v7 (A3 [] (Ck 6)) q9 q9 ?_
        exact Ag (A5 []) Tryz.results343
theorem Yl (a b:List V):∃F:Nat→List V,F 0=[]∧(∀k,(F k).length≤k)∧F a.length=IR a b∧∀k (h:k<a.length),F (k+1)=F k++(if (b.any fun y=>a[k].cmp y==0)=true then [] else [a[k]]):=by
 refine⟨fun k=>(a.take k).filter fun x=>!(b.any fun y=>x.cmp y==0),rfl,fun k=>?_,by dsimp only;rw[List.take_length];rfl,fun k h=>?_⟩
 ·exact Nat.le_trans (List.length_filter_le _ _) (by rw[List.length_take];omega)
 ·dsimp only
  rw[List.take_succ_eq_append_getElem h,List.filter_append]
  congr 1
  rw[List.filter_cons,List.filter_nil]
  cases b.any fun y=>a[k].cmp y==0<;>rfl
theorem q8 {a b : V} (ha : a.right) (hb : b.right) : AC Tryz.prog 344 [AF a.enc, AF b.enc] [] (vrA (RY a b)) [] := by
  have ra := Cx a
  have ga := AL a
  have rb := Cx b
  have gb := AL b
  have pOa := D6 ha.1 ha.2.1
  have pOb := D6 hb.1 hb.2.1
  obtain ⟨hak, hav⟩ := D4 ha
  obtain ⟨hbk, hbv⟩ := D4 hb
  unfold RY
  by_cases h3 : a.kind = 3 ∧ b.kind = 3
  · rw [if_pos h3]
    have k3 : (a.kind == 3) = true := by simp [h3.1]
    have j3 : (b.kind == 3) = true := by simp [h3.2]
    have n1 := Cs ha
    have n2 := Cs hb
    have hw : IntKind.i64.wrap (a.num - b.num) = a.num - b.num := C9 (by omega) (by omega)
    have hn := C7 (a.num - b.num)
    have hg := Ew (C6 (a.num - b.num))
    generalize C6 (a.num - b.num) = z at *
    generalize Co z = r at *
    rcases r with ⟨c, _ | u⟩
    all_goals
      simp only [BF, Bu] at hg ⊢
      refine A6 Tryz.func344 Tryz.ntmps344 (j7 ra ga rb gb k3 @j3 hw) ?_
      refine w9 (A4 [] hn) q9 ?_
      refine v9 (A4 [] hg) q9 q9 ?_
      exact Ag (A5 []) Tryz.results344
  · rw [if_neg h3]
    by_cases h5 : a.kind = 5 ∧ b.kind = 5
    · rw [if_pos h5, BG]
      have k3 : (a.kind == 3) = false := by simp [h5.1]
      have k5 : (a.kind != 5) = false := by simp [h5.1]
      have j5 : (b.kind != 5) = false := by simp [h5.2]
      obtain ⟨F, hF0, hFl, hFn, hFs⟩ := Yl a.kids b.kids
      have hrt := (Ki (b := b) ha).2.1
      have hay := DU (IR a.kids b.kids) (by omega)
      rw [← hFn] at hay hrt ⊢
      have hlm : ((a.kids.map V.enc).map Al).length = a.kids.length := by simp
      generalize AY (F a.kids.length) = ar at *
      refine A6 Tryz.func344 Tryz.ntmps344 (j7 ra ga k3 k5 rb gb @j5) ?_
      refine v9 (A4 [] pOb) q9 q9 ?_
      refine v9 (A4 [] pOa) q9 q9 ?_
      refine Ar (κ := Nat) (fun k => ⟨mkS 0 73 [(4, .ptr (4, 0) 0), (5, .c (.sl ((b.kids.map V.enc).map Al))), (6, .c (.sl ((a.kids.map V.enc).map Al))), (7, .own (97, 0)), (8, .c (.int .i64 k))],
          [((4, 0), .box [.c (.int .i64 0), .nils]), ((97, 0), .row false 1 50 (((F k).map V.enc).map Al))]⟩)
        (fun k => k ≤ a.kids.length) (fun k => a.kids.length - k) 0 (Nat.zero_le _) ?_ ?_
      · exact Ac (Aj.of [((4, 0), (4, 0)), ((97, 0), (49, 0))] []) (j2 hF0 @List.map_nil.{0,0})
      · intro k hk
        by_cases hlt : k < a.kids.length
        · have hdk : decide ((k : Int) < (a.kids.length : Int)) = true := by simpa using hlt
          have hw := Ad (k := k) (by omega)
          have hr2 : A8 ((a.kids.map V.enc).map Al) 1 k = true := by simp [A8, hlt, Al]
          have hg2 : ((a.kids.map V.enc).map Al)[k]? = some [.sl (a.kids[k].enc.map CellD.cs)] := by simp [hlt, Al]
          have hl1 : (F k).length + 1 ≤ 1000000 := by have := hFl k; omega
          have ham := Vc b.kids a.kids[k] (Bb ha (List.getElem_mem hlt)) (fun v hv => Bb hb hv) (by omega)
          have hFk := hFs k hlt
          have e1 : F (k + 1) = F k ++ [a.kids[k]] → ((F k).map V.enc).map Al ++ [[C.sl (a.kids[k].enc.map CellD.cs)]] = ((F (k + 1)).map V.enc).map Al := fun h => by rw [h, List.map_append, List.map_append]; rfl
          generalize a.kids[k] = u at *
          generalize (b.kids.any fun y => u.cmp y == 0) = t at *
          cases t with
          | true =>
            have e := hFk
            simp only [if_true, List.append_nil] at e
            refine Ab (j4 hlm hdk hr2 hg2) ?_
            refine v7 (A3 [] ham) q9 hw ?_
            refine ⟨k + 1, by omega, by omega, ?_⟩
            exact Ac (Aj.of [((4, 0), (4, 0)), ((97, 0), (97, 0))] []) e
          | false =>
            have e := hFk
            simp only [Bool.false_eq_true, if_false] at e
            have e1 := e1 e
            refine Ab (j4 hlm hdk hr2 hg2) ?_
            refine v7 (A3 [] ham) q9 (j4 hr2 hg2 hl1 hw) ?_
            refine ⟨k + 1, by omega, by omega, ?_⟩
            exact Ac (Aj.of [((4, 0), (4, 0)), ((97, 0), (69, 0))] []) e1
        · have hdk : decide ((k : Int) < (a.kids.length : Int)) = false := by simpa using hlt
          have hke : k = a.kids.length := by omega
          rw [hke]
          rw [hke] at hdk
          refine Ab (j2 hlm hdk) ?_
          refine v9 (A4 [(97, 0)] hay) q9 q9 ?_
          exact Ag (A5 []) Tryz.results344
    · rw [if_neg h5, DP]
      cases k3 : a.kind == 3 <;> cases j3 : b.kind == 3 <;> cases k5 : a.kind != 5 <;> cases j5 : b.kind != 5
      all_goals first
        | (exfalso; simp at k3 j3 k5 j5; omega)
        | (refine AA Tryz.func344 Tryz.ntmps344 ?_
           refine Ab (j8 ra ga rb gb k3 @j3 k5 @j5) ?_
           refine v7 (A3 [] (Ck 6)) q9 q9 ?_
           exact Ag (A5 []) Tryz.results344)
theorem Pn {x:Int}:IntKind.i64.wrap ((1000000000000000:Int).tdiv (DJ x))=(1000000000000000:Int).tdiv (DJ x):=by
 have h1:((1000000000000000:Int).tdiv (DJ x)).natAbs=(1000000000000000:Int).natAbs / (DJ x).natAbs:=Int.natAbs_tdiv 1000000000000000 (DJ x)
 have h2:=Nat.div_le_self (1000000000000000:Int).natAbs (DJ x).natAbs
 exact C9 (by omega) (by omega)
def Wj (op x y:Int):Int×Option V :=
 if op=3 then (if EW x y=true then Eo 3 else okR (C6 (x*y)))
 else if y=0 then Eo 3 else okR (C6 (if op=10 then x.tdiv y else x.tmod y))
theorem Vk (op x y:Int) (n1:-1000000000000000≤x∧x≤1000000000000000) (n2:-1000000000000000≤y∧y≤1000000000000000):AC Tryz.prog 345 [.c (.int .i64 op),.c (.int .i64 x),.c (.int .i64 y)] [] (vrA (Wj op x y)) []:=by
 have hsx:=LN x n1
 have hsy:=LN y n2
 unfold Wj
 by_cases o3:op=3
 ·have ho3:(op==3)=true:=by simpa using o3
  rw[if_pos o3]
  cases hbig:EW x y with
  |true =>
   have hy0:y≠0:=by intro h;rw[h,N5,Sf]at hbig;cases hbig
   have hyb:(y != 0)=true:=by simpa using hy0
   have hq:=(MY (y:=x) hy0).trans ((N5 y x).trans hbig)
   have ha0:(DJ y=0)=False:=by apply eq_false;unfold DJ;omega
   have haw:=Pn (x:=y)
   rw[if_pos rfl,DP]
   refine A6 Tryz.func345 Tryz.ntmps345 (j2 ho3 hyb) ?_
   refine v7 (A3 [] hsx) q9 hyb ?_
   refine v7 (A3 [] hsy) q9 (j4 hyb ha0 haw hq) ?_
   refine v7 (A3 [] (Ck 3)) q9 q9 ?_
   exact Ag (A5 []) Tryz.results345
  |false =>
   have hm:=LR hbig
   have hw:IntKind.i64.wrap (x*y)=x*y:=C9 (by omega) (by omega)
   have hn:=C7 (x*y)
   rw[if_neg (by simp),BG]
   generalize C6 (x*y)=z at *
   by_cases hy0:y=0
   ·have hyb:(y != 0)=false:=by simpa using hy0
    refine A6 Tryz.func345 Tryz.ntmps345 (j3 ho3 hyb hw) ?_
    refine v9 (A4 [] hn) q9 q9 ?_
    exact Ag (A5 []) Tryz.results345
   ·have hyb:(y != 0)=true:=by simpa using hy0
    have hq:=(MY (y:=x) hy0).trans ((N5 y x).trans hbig)
    have ha0:(DJ y=0)=False:=by apply eq_false;unfold DJ;omega
    have haw:=Pn (x:=y)
    refine A6 Tryz.func345 Tryz.ntmps345 (j2 ho3 hyb) ?_
    refine v7 (A3 [] hsx) q9 hyb ?_
    refine v7 (A3 [] hsy) q9 (j5 hyb ha0 haw hq hw) ?_
    refine v9 (A4 [] hn) q9 q9 ?_
    exact Ag (A5 []) Tryz.results345
 ·have ho3:(op==3)=false:=by simpa using o3
  rw[if_neg o3]
  by_cases hy0:y=0
  ·have hyb:(y==0)=true:=by simpa using hy0
   rw[if_pos hy0,DP]
   refine A6 Tryz.func345 Tryz.ntmps345 (j2 ho3 hyb) ?_
   refine v7 (A3 [] (Ck 3)) q9 q9 ?_
   exact Ag (A5 []) Tryz.results345
  ·have hyb:(y==0)=false:=by simpa using hy0
   rw[if_neg hy0,BG]
   by_cases o10:op=10
   ·have ho10:(op==10)=true:=by simpa using o10
    have hm:=Kv (y:=y) n1
    have hw:IntKind.i64.wrap (x.tdiv y)=x.tdiv y:=C9 (by omega) (by omega)
    have hn:=C7 (x.tdiv y)
    rw[if_pos o10]
    generalize C6 (x.tdiv y)=z at *
    refine A6 Tryz.func345 Tryz.ntmps345 (j5 ho3 hyb ho10 hy0 hw) ?_
    refine v9 (A4 [] hn) q9 q9 ?_
    exact Ag (A5 []) Tryz.results345
   ·have ho10:(op==10)=false:=by simpa using o10
    have hn:=C7 (x.tmod y)
    rw[if_neg o10]
    generalize C6 (x.tmod y)=z at *
    refine A6 Tryz.func345 Tryz.ntmps345 (j4 ho3 hyb ho10 hy0) ?_
    refine v9 (A4 [] hn) q9 q9 ?_
    exact Ag (A5 []) Tryz.results345
theorem Te (op : Int) {a b : V} (hop : 1 ≤ op ∧ op ≤ 11) (ha : a.right) (hb : b.right) : AC Tryz.prog 287 [.c (.int .i64 op), AF a.enc, AF b.enc] [] (vrA (JZ op a b)) [] := by
  have hcmp := I3 a.count a b (Nat.le_refl _) ha hb
  have hadd := Td ha hb
  have hsub := q8 ha hb
  have ra := Cx a
  have ga := AL a
  have rb := Cx b
  have gb := AL b
  unfold JZ
  by_cases o : op = 1
  · rw [if_pos o]
    have o1 : (op == 1) = true := by simp [o]
    generalize OM a b = r at *
    rcases r with ⟨c, _ | u⟩
    all_goals
      simp only [BF, Bu] at hadd ⊢
      refine A6 Tryz.func287 Tryz.ntmps287 q9 ?_
      refine v7 (A3 [] hcmp) q9 o1 ?_
      refine v9 (A4 [] hadd) q9 q9 ?_
      exact Ag (A5 []) Tryz.results287
  · rw [if_neg o]
    have n1 : (op == 1) = false := by simpa using o
    by_cases o : op = 2
    · rw [if_pos o]
      have o1 : (op == 1) = false := by simp [o]
      have o2 : (op == 2) = true := by simp [o]
      generalize RY a b = r at *
      rcases r with ⟨c, _ | u⟩
      all_goals
        simp only [BF, Bu] at hsub ⊢
        refine A6 Tryz.func287 Tryz.ntmps287 q9 ?_
        refine v7 (A3 [] hcmp) q9 (j2 o1 o2) ?_
        refine v9 (A4 [] hsub) q9 q9 ?_
        exact Ag (A5 []) Tryz.results287
    · rw [if_neg o]
      have n2 : (op == 2) = false := by simpa using o
      by_cases o : op = 3 ∨ op = 10 ∨ op = 11
      · rw [if_pos o]
        have n4 : (op == 4) = false := by simp; omega
        have n5 : (op == 5) = false := by simp; omega
        have n6 : (op == 6) = false := by simp; omega
        have n7 : (op == 7) = false := by simp; omega
        have n8 : (op == 8) = false := by simp; omega
        have n9 : (op == 9) = false := by simp; omega
        unfold Ig
        by_cases h3 : a.kind = 3 ∧ b.kind = 3
        · rw [if_pos h3]
          have k3 : (a.kind != 3) = false := by simp [h3.1]
          have j3 : (b.kind != 3) = false := by simp [h3.2]
          have htm := Vk op a.num b.num (Cs ha) (Cs hb)
          unfold Wj at htm
          generalize (if op = 3 then (if EW a.num b.num = true then Eo 3 else okR (C6 (a.num * b.num))) else if b.num = 0 then Eo 3 else okR (C6 (if op = 10 then a.num.tdiv b.num else a.num.tmod b.num))) = r at *
          rcases r with ⟨c, _ | u⟩
          all_goals
            simp only [BF, Bu] at htm ⊢
            refine A6 Tryz.func287 Tryz.ntmps287 q9 ?_
            refine v7 (A3 [] hcmp) q9 (j12 n1 n2 n4 n5 n6 n7 n8 n9 ra ga k3 rb) ?_
            refine Ab (j6 ra ga rb gb k3 @j3) ?_
            refine v9 (A4 [] htm) q9 q9 ?_
            exact Ag (A5 []) Tryz.results287
        · rw [if_neg h3, DP]
          cases k3 : a.kind != 3 <;> cases j3 : b.kind != 3
          all_goals first
            | (exfalso; simp at k3 j3; omega)
            | (refine AA Tryz.func287 Tryz.ntmps287 ?_
               refine Ab q9 ?_
               refine v7 (A3 [] hcmp) q9 (j12 n1 n2 n4 n5 n6 n7 n8 n9 ra ga k3 rb) ?_
               refine Ab (j6 ra ga rb gb k3 @j3) ?_
               refine v7 (A3 [] (Ck 6)) q9 q9 ?_
               exact Ag (A5 []) Tryz.results287)
      · rw [if_neg o]
        by_cases o : op = 4
        · rw [if_pos o, BG]
          have o4 : (op == 4) = true := by simpa using o
          have htr := FY (a.cmp b == 0)
          generalize ht : (a.cmp b == 0) = t at *
          generalize DQ t = z at *
          refine A6 Tryz.func287 Tryz.ntmps287 q9 ?_
          refine v7 (A3 [] hcmp) q9 (j4 n1 n2 o4 ht) ?_
          refine v9 (A4 [] htr) q9 q9 ?_
          exact Ag (A5 []) Tryz.results287
        · rw [if_neg o]
          have n4 : (op == 4) = false := by simpa using o
          by_cases o : op = 5
          · rw [if_pos o, BG]
            have o5 : (op == 5) = true := by simpa using o
            have htr := FY (a.cmp b != 0)
            generalize ht : (a.cmp b != 0) = t at *
            generalize DQ t = z at *
            refine A6 Tryz.func287 Tryz.ntmps287 q9 ?_
            refine v7 (A3 [] hcmp) q9 (j5 n1 n2 n4 o5 ht) ?_
            refine v9 (A4 [] htr) q9 q9 ?_
            exact Ag (A5 []) Tryz.results287
          · rw [if_neg o]
            have n5 : (op == 5) = false := by simpa using o
            by_cases o : op = 6
            · rw [if_pos o, BG]
              have o6 : (op == 6) = true := by simpa using o
              have htr := FY (decide (a.cmp b < 0))
              generalize ht : (decide (a.cmp b < 0)) = t at *
              generalize DQ t = z at *
              refine A6 Tryz.func287 Tryz.ntmps287 q9 ?_
              refine v7 (A3 [] hcmp) q9 (j6 n1 n2 n4 n5 o6 ht) ?_
              refine v9 (A4 [] htr) q9 q9 ?_
              exact Ag (A5 []) Tryz.results287
            · rw [if_neg o]
              have n6 : (op == 6) = false := by simpa using o
              by_cases o : op = 7
              · rw [if_pos o, BG]
                have o7 : (op == 7) = true := by simpa using o
                have htr := FY (decide (a.cmp b ≤ 0))
                generalize ht : (decide (a.cmp b ≤ 0)) = t at *
                generalize DQ t = z at *
                refine A6 Tryz.func287 Tryz.ntmps287 q9 ?_
                refine v7 (A3 [] hcmp) q9 (j7 n1 n2 n4 n5 n6 o7 ht) ?_
                refine v9 (A4 [] htr) q9 q9 ?_
                exact Ag (A5 []) Tryz.results287
              · rw [if_neg o]
                have n7 : (op == 7) = false := by simpa using o
                by_cases o : op = 8
                · rw [if_pos o, BG]
                  have o8 : (op == 8) = true := by simpa using o
                  have htr := FY (decide (a.cmp b > 0))
                  generalize ht : (decide (a.cmp b > 0)) = t at *
                  generalize DQ t = z at *
                  refine A6 Tryz.func287 Tryz.ntmps287 q9 ?_
                  refine v7 (A3 [] hcmp) q9 (j8 n1 n2 n4 n5 n6 n7 o8 ht) ?_
                  refine v9 (A4 [] htr) q9 q9 ?_
                  exact Ag (A5 []) Tryz.results287
                · rw [if_neg o]
                  have n8 : (op == 8) = false := by simpa using o
                  by_cases o : op = 9
                  · rw [if_pos o, BG]
                    have o9 : (op == 9) = true := by simpa using o
                    have htr := FY (decide (a.cmp b ≥ 0))
                    generalize ht : (decide (a.cmp b ≥ 0)) = t at *
                    generalize DQ t = z at *
                    refine A6 Tryz.func287 Tryz.ntmps287 q9 ?_
                    refine v7 (A3 [] hcmp) q9 (j9 n1 n2 n4 n5 n6 n7 n8 o9 ht) ?_
                    refine v9 (A4 [] htr) q9 q9 ?_
                    exact Ag (A5 []) Tryz.results287
                  · rw [if_neg o]
                    have n9 : (op == 9) = false := by simpa using o
                    exfalso
                    simp at n1 n2 n4 n5 n6 n7 n8 n9
                    omega
end Go.Proofs.YtcejfdfmgmcinaaGreat
