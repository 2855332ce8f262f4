/- Texts of this proof: K10 K17 K18 K19. -/
import Derived.Test.YtcejfdfmgmcinaaGreatKM64uK09
set_option linter.all false
set_option maxHeartbeats 8000000
namespace Go.Proofs.YtcejfdfmgmcinaaGreat
open Go.RowKit
set_option maxRecDepth 10000
theorem D2 (l:List Int) {k:Nat}(h:k<l.length):A8 (l.map As) 1 k=true∧(l.map As)[k]? = some [.int .i64 l[k]]:=⟨by simp[A8,h,As],by simp[h,As]⟩
theorem WY {L:List CoD}{b:Nat}{op num:Int}{val:List CellD}{kids:List CT}(hs:Seg L b (.mk op num val kids)):∃h:b+Ah kids<L.length,L[b+Ah kids]=B9 op num val (Az b kids):=List.getElem?_eq_some_iff.1 hs.root
theorem T1 {op num:Int}{val:List CellD}{ends:List Nat}{k e:Nat}(h:ends[k]? = some e) (hk:k<3):(B9 op num val ends).kid k=(e:Int):=by
 unfold CoD.kid B9
 have:k=0∨k=1∨k=2:=by omega
 rcases this with rfl | rfl | rfl<;>simp[h]
theorem Gi {op num:Int}{kids:List CT}{slots:List Int}{k:Nat}(h:k<kids.length):Cq op num k (kids.drop k) slots=(kids[k].known (Dn op num k slots)&&Cq op num (k+1) (kids.drop (k+1)) slots):=by
 rw[List.drop_eq_getElem_cons h,Cq]
theorem Gg (op num:Int) (k:Nat) (slots:List Int):(Dn op num k slots).length≤slots.length+1:=by
 unfold Dn
 split
 ·rw[List.length_append];exact Nat.le_refl _
 ·omega
theorem UZ (op:Int) (k:Nat):(((op=14∧k=1)∨(op=13∧k=2))∧(((op==14)=true∧((k:Int)==1)=true∧(op==14)=true∧(op==14)=true)∨((op==14)=false∧(op==14)=false∧(op==13)=true∧((k:Int)==2)=true))) ∨
  (¬((op=14∧k=1)∨(op=13∧k=2))∧(((op==14)=true∧((k:Int)==1)=false∧(op==13)=false∧(op==13)=false)∨((op==14)=false∧(op==14)=false∧(op==13)=true∧((k:Int)==2)=false)∨((op==14)=false∧(op==14)=false∧(op==13)=false∧(op==13)=false))):=by
 simp only[beq_iff_eq,beq_eq_false_iff_ne]
 omega
theorem O0 {L:List CoD}(hz:L.length≤900):∀(n:Nat) (t:CT) (b:Nat) (slots:List Int),t.size≤n→t.ok→Seg L b t→slots.length+n≤1000 →
  AC Tryz.prog 132 [AE L,.c (.int .i64 (b+t.size-1:Nat)),Cr slots] [] (.c (.bool (t.known slots))) []
 | 0,t,b,slots,hn,_,_,_=>by have:=t.size_pos;omega
 |n+1,.mk op num val kids,b,slots,hn,ho,hs,hsl=>by
  have ih:=O0 hz n
  obtain⟨hi,hat⟩:=WY hs
  have hss:=hs.kids
  unfold CT.ok at ho
  obtain⟨hno,hl,hk⟩:=ho
  have hal:=Bx op
  have hK:=G0 op hno.kind.1 hno.kind.2
  obtain⟨hr0,hg0⟩:=EJ L hi
  rw[hat]at hg0
  have hkid:=IQ (B9 op num val (Az b kids))
  have hends:=F2 kids b
  have hke:=fun k e=>@T1 op num val (Az b kids) k e
  rw[CT.size]at hn ⊢
  rw[show b+(Ah kids+1)-1=b+Ah kids by omega]
  obtain⟨i,hi'⟩:∃i,i=b+Ah kids:=⟨_,rfl⟩
  rw[←hi']at hr0 hg0 ⊢
  have e1:(B9 op num val (Az b kids)).op=op:=rfl
  have e2:(B9 op num val (Az b kids)).num=num:=rfl
  have e3:(B9 op num val (Az b kids)).val=val:=rfl
  unfold CoD.av at hkid
  rw[e1,e2,e3]at hkid hg0
  generalize B9 op num val (Az b kids)=d at *
  have hln:(slots.map As).length=slots.length:=by simp
  by_cases h15:op=15
  ·subst h15
   have hkn:(CT.mk 15 num val kids).known slots=slots.contains num:=by rw[CT.known,if_pos rfl]
   rw[hkn]
   obtain⟨R,hR⟩:∃R,(slots.drop 0).contains num=R:=⟨_,rfl⟩
   have hR':slots.contains num=R:=hR
   rw[hR']
   clear hkn hR' hkid hends hke hK
   refine AA Tryz.func132 Tryz.ntmps132 ?_
   refine Aq (j2 hr0 hg0) ?_
   refine Ar (κ:=Nat) (fun k=>⟨mkS 0 69 [(0,AE L),(1,.c (.int .i64 i)),(2,Cr slots),(7,.ptr (7,0) 0),(8,.c (.int .i64 k))],[((7,0),.box [.c (.int .i64 15),.c (.int .i64 d.a),.c (.int .i64 d.b),.c (.int .i64 d.c),.c (.int .i64 num),.c (.sl (val.map CellD.cs))])]⟩)
    (fun k=>k≤slots.length∧(slots.drop k).contains num=R) (fun k=>slots.length-k) 0 ⟨Nat.zero_le _,hR⟩ ?_ ?_
   ·exact Ac (Aj.of [((7,0),(7,0))] []) hln
   ·rintro k ⟨hk1,hk2⟩
    by_cases hlt:k<slots.length
    ·have hdk:decide ((k:Int)<(slots.length:Int))=true:=decide_eq_true (by omega)
     obtain⟨hr1,hg1⟩:=D2 slots hlt
     have hw:=Ad (k:=k) (by omega)
     rw[List.drop_eq_getElem_cons hlt,List.contains_cons]at hk2
     cases hq:(slots[k]==num) with
     |true =>
      have hq2:(num==slots[k])=true:=by rw[beq_iff_eq]at hq ⊢;exact hq.symm
      rw[hq2,Bool.true_or]at hk2
      subst hk2
      generalize slots[k]=x at *
      exact FC (j5 hln hdk hr1 hg1 hq) (A5 []) Tryz.results132
     |false =>
      have hq2:(num==slots[k])=false:=by rw[beq_eq_false_iff_ne]at hq ⊢;exact fun h=>hq h.symm
      rw[hq2,Bool.false_or]at hk2
      generalize slots[k]=x at *
      refine Ab (j6 hln hdk hr1 hg1 hq hw) ?_
      refine⟨k+1,by omega,⟨by omega,hk2⟩,?_⟩
      exact Ac (Aj.of [((7,0),(7,0))] []) hw
    ·have hdk:decide ((k:Int)<(slots.length:Int))=false:=decide_eq_false (by omega)
     rw[List.drop_eq_nil_of_le (by omega)]at hk2
     have hk2:false=R:=hk2
     subst hk2
     exact FC (j2 hln hdk) (A5 []) Tryz.results132
  ·have k15:=Ed h15
   have hkn:(CT.mk op num val kids).known slots=Cq op num 0 (kids.drop 0) slots:=by rw[CT.known,if_neg h15,List.drop_zero]
   rw[hkn]
   obtain⟨R,hR⟩:∃R,Cq op num 0 (kids.drop 0) slots=R:=⟨_,rfl⟩
   rw[hR]
   clear hkn
   refine A6 Tryz.func132 Tryz.ntmps132 (j3 hr0 hg0 k15) ?_
   refine Ar (κ:=Nat) (fun k=>⟨mkS 0 69 [(0,AE L),(1,.c (.int .i64 i)),(2,Cr slots),(7,.ptr (7,0) 0),(9,.c (.int .i64 k))],[((7,0),.box [.c (.int .i64 op),.c (.int .i64 d.a),.c (.int .i64 d.b),.c (.int .i64 d.c),.c (.int .i64 num),.c (.sl (val.map CellD.cs))])]⟩)
    (fun k=>k≤kids.length∧Cq op num k (kids.drop k) slots=R) (fun k=>kids.length-k) 0 ⟨Nat.zero_le _,hR⟩ ?_ ?_
   ·exact Ac (Aj.of [((7,0),(7,0))] []) hln
   ·rintro k ⟨hk1,hk2⟩
    by_cases hlt:k<kids.length
    ·have hdk:decide ((k:Int)<(Au op:Nat))=true:=decide_eq_true (by omega)
     have hw:=Ad (k:=k) (by omega)
     have hkd:=hkid k (by omega)
     rw[hke k _ (hends k hlt) (by omega)]at hkd
     have hsz:=Et (List.getElem_mem hlt)
     have hrec:=ih kids[k] (b+Ah (kids.take k)) (Dn op num k slots) (by omega) (B4.1 hk _ (List.getElem_mem hlt)) (Fw kids b k hlt hss) (Nat.le_trans (Nat.add_le_add_right (Gg op num k slots) n) (by omega))
     rw[Gi hlt]at hk2
     generalize b+Ah (kids.take k)+kids[k].size-1=e at *
     have hol:0+slots.length≤1000000:=by omega
     have hol2:slots.length+1≤1000000:=by omega
     have hnx:kids[k].known (Dn op num k slots)=true→Cq op num (k+1) (kids.drop (k+1)) slots=R:=fun h=>by rw[h,Bool.true_and]at hk2;exact hk2
     have hst:kids[k].known (Dn op num k slots)=false→false=R:=fun h=>by rw[h,Bool.false_and]at hk2;exact hk2
     rcases UZ op k with⟨hin,hq⟩ | ⟨hin,hq⟩
     ·have hinn:Dn op num k slots=slots++[num]:=by unfold Dn;rw[if_pos hin]
      have hrow:slots.map As++[[C.int .i64 num]]=(Dn op num k slots).map As:=by rw[hinn,List.map_append];rfl
      generalize Dn op num k slots=inn at *
      cases hkn:kids[k].known inn with
      |true =>
       rw[hkn]at hrec
       have hnx:=hnx hkn
       rcases hq with⟨q1,q2,q3,q4⟩ | ⟨q1,q2,q3,q4⟩
       all_goals
        refine Ab q9 ?_
        refine v7 (A3 [] hK) q9 (j8 hdk q1 q2 q3 q4 hol hol2 hrow) ?_
        refine v7 (A3 [] hkd) q9 q9 ?_
        refine v7 (A3 [(61,0)] hrec) q9 hw ?_
        refine⟨k+1,by omega,⟨by omega,hnx⟩,?_⟩
        exact Ac (Aj.of [((7,0),(7,0))] []) hw
      |false =>
       rw[hkn]at hrec
       have hst:=hst hkn
       subst hst
       rcases hq with⟨q1,q2,q3,q4⟩ | ⟨q1,q2,q3,q4⟩
       all_goals
        refine Ab q9 ?_
        refine v7 (A3 [] hK) q9 (j8 hdk q1 q2 q3 q4 hol hol2 hrow) ?_
        refine v7 (A3 [] hkd) q9 q9 ?_
        refine v7 (A3 [(61,0)] hrec) q9 q9 ?_
        exact Ag (A5 []) Tryz.results132
     ·have hinn:Dn op num k slots=slots:=by unfold Dn;rw[if_neg hin]
      rw[hinn]at hrec hnx hst
      cases hkn:kids[k].known slots with
      |true =>
       rw[hkn]at hrec
       have hnx:=hnx hkn
       rcases hq with⟨q1,q2,q3,q4⟩ | ⟨q1,q2,q3,q4⟩ | ⟨q1,q2,q3,q4⟩
       all_goals
        refine Ab q9 ?_
        refine v7 (A3 [] hK) q9 (j5 hdk q1 q2 q3 q4) ?_
        refine v7 (A3 [] hkd) q9 q9 ?_
        refine v7 (A3 [] hrec) q9 hw ?_
        refine⟨k+1,by omega,⟨by omega,hnx⟩,?_⟩
        exact Ac (Aj.of [((7,0),(7,0))] []) hw
      |false =>
       rw[hkn]at hrec
       have hst:=hst hkn
       subst hst
       rcases hq with⟨q1,q2,q3,q4⟩ | ⟨q1,q2,q3,q4⟩ | ⟨q1,q2,q3,q4⟩
       all_goals
        refine Ab q9 ?_
        refine v7 (A3 [] hK) q9 (j5 hdk q1 q2 q3 q4) ?_
        refine v7 (A3 [] hkd) q9 q9 ?_
        refine v7 (A3 [] hrec) q9 q9 ?_
        exact Ag (A5 []) Tryz.results132
    ·have hdk:decide ((k:Int)<(Au op:Nat))=false:=decide_eq_false (by omega)
     rw[List.drop_eq_nil_of_le (by omega),Cq]at hk2
     subst hk2
     refine Ab q9 ?_
     refine v7 (A3 [] hK) q9 hdk ?_
     exact Ag (A5 []) Tryz.results132
set_option maxRecDepth 10000
def Ep (d:CoD) (i:Int) (k:Nat):Bool:=if k=0 then Dz d i else if k=1 then Dl (Au d.op) i 1 d.b&&Dl (Au d.op) i 2 d.c else if k=2 then Dl (Au d.op) i 2 d.c else true
theorem MP (d:CoD) (i:Int) {k:Nat}(h:k<3):Ep d i k=(Dl (Au d.op) i k (d.kid k)&&Ep d i (k+1)):=by
 have:k=0∨k=1∨k=2:=by omega
 rcases this with rfl | rfl | rfl
 ·unfold Ep Dz CoD.kid;simp[Bool.and_assoc]
 ·unfold Ep CoD.kid;simp
 ·unfold Ep CoD.kid;simp
theorem a2i (d:CoD) {k:Nat}(h:k<3):A8 (d.all.map As) 1 k=true∧(d.all.map As)[k]? = some [.int .i64 (d.kid k)]:=by
 have:k=0∨k=1∨k=2:=by omega
 rcases this with rfl | rfl | rfl<;>exact⟨rfl,rfl⟩
theorem UO (d : CoD) (h1 : 1 ≤ d.op) (h2 : d.op ≤ 17) {i : Nat} (hi : i ≤ 1000) : AC Tryz.prog 216 [d.av, .c (.int .i64 i)] [] (.c (.bool (Gf d i))) [] := by
  have har := Bx d.op
  have hK := KN d.op h1 h2
  have hN := OS d h1 h2
  have hV := JE d
  have hrow : [[C.int .i64 d.a], [C.int .i64 d.b], [C.int .i64 d.c]] = d.all.map As := rfl
  have hlen : (d.all.map As).length = 3 := rfl
  have hwi : IntKind.i64.wrap ((i : Int) - 1) = (i : Int) - 1 := IntWalk.i64_in _ (by omega)
  obtain ⟨F, hF⟩ : ∃ F, Gf d i = F := ⟨_, rfl⟩
  have hfrom : Ep d i 0 = Dz d i := rfl
  unfold Gf at hF
  rw [show AC Tryz.prog 216 [d.av, .c (.int .i64 i)] [] (.c (.bool (Gf d i))) [] = AC Tryz.prog 216 [d.av, .c (.int .i64 i)] [] (.c (.bool F)) [] by unfold Gf; rw [hF]]
  generalize hA : d.all.map As = rows at *
  obtain ⟨ar, har'⟩ : ∃ ar, Au d.op = ar := ⟨_, rfl⟩
  rw [har'] at hK har
  refine A6 Tryz.func216 Tryz.ntmps216 (j2 hrow hlen) ?_
  refine Ar (κ := Nat) (fun k => ⟨mkS 0 61 [(0, d.av), (1, .c (.int .i64 i)), (2, .ptr (2, 0) 0), (4, .c (.bool false)), (13, .own (13, 0)), (14, .c (.int .i64 3)), (15, .c (.int .i64 k))],
      [((2, 0), .box [.c (.int .i64 d.op), .c (.int .i64 d.a), .c (.int .i64 d.b), .c (.int .i64 d.c), .c (.int .i64 d.num), .c (.sl (d.val.map CellD.cs))]), ((13, 0), .row false 1 2 rows)]⟩)
    (fun k => k ≤ 3 ∧ Ep d i k = Dz d i) (fun k => 3 - k) 0 ⟨Nat.zero_le _, rfl⟩ ?_ ?_
  · exact Ac (Aj.of [((2, 0), (2, 0)), ((13, 0), (13, 0))] []) (j2 hrow hlen)
  · rintro k ⟨hk, hR⟩
    by_cases hlt : k < 3
    · have hd : decide ((k : Int) < 3) = true := decide_eq_true (by omega)
      have hw := Ad (k := k) (by omega)
      obtain ⟨hr, hg⟩ := a2i d hlt
      rw [hA] at hr hg
      rw [MP d i hlt, har'] at hR
      have hB := ED (d.kid k) 0 ((i : Int) - 1)
      unfold Dl C1 at hR
      generalize d.kid k = x at *
      by_cases hka : k < ar
      · have hd1 : decide ((k : Int) < (ar : Int)) = true := decide_eq_true (by omega)
        have hd2 : decide ((k : Int) ≥ (ar : Int)) = false := decide_eq_false (by omega)
        rw [if_pos (by omega)] at hR
        cases hb : (decide (x ≥ 0) && decide (x ≤ (i : Int) - 1)) with
        | true =>
          rw [hb] at hB hR
          rw [Bool.true_and] at hR
          refine Ab (j3 hd hr hg) ?_
          refine v7 (A3 [] hK) q9 (j2 hd1 hwi) ?_
          refine v7 (A3 [] hB) q9 q9 ?_
          refine v7 (A3 [] hK) q9 (j2 hd2 hw) ?_
          refine ⟨k + 1, by omega, ⟨by omega, hR⟩, ?_⟩
          exact Ac (Aj.of [((2, 0), (2, 0)), ((13, 0), (13, 0))] []) hw
        | false =>
          rw [hb] at hB hR
          rw [Bool.false_and] at hR
          have hF0 : F = false := by rw [← hF, ← hR]; rfl
          subst hF0
          refine Ab (j3 hd hr hg) ?_
          refine v7 (A3 [] hK) q9 (j2 hd1 hwi) ?_
          refine v7 (A3 [] hB) q9 q9 ?_
          exact Ag (A5 []) Tryz.results216
      · have hd1 : decide ((k : Int) < (ar : Int)) = false := decide_eq_false (by omega)
        have hd2 : decide ((k : Int) ≥ (ar : Int)) = true := decide_eq_true (by omega)
        rw [if_neg (by omega)] at hR
        cases hb : (x == 0) with
        | true =>
          rw [hb, Bool.true_and] at hR
          have hx : (x != 0) = false := by simpa using hb
          refine Ab (j3 hd hr hg) ?_
          refine v7 (A3 [] hK) q9 hd1 ?_
          refine v7 (A3 [] hK) q9 (j3 hd2 hx hw) ?_
          refine ⟨k + 1, by omega, ⟨by omega, hR⟩, ?_⟩
          exact Ac (Aj.of [((2, 0), (2, 0)), ((13, 0), (13, 0))] []) hw
        | false =>
          rw [hb, Bool.false_and] at hR
          have hx : (x != 0) = true := by simpa using hb
          have hF0 : F = false := by rw [← hF, ← hR]; rfl
          subst hF0
          refine Ab (j3 hd hr hg) ?_
          refine v7 (A3 [] hK) q9 hd1 ?_
          refine v7 (A3 [] hK) q9 (j2 hd2 hx) ?_
          exact Ag (A5 []) Tryz.results216
    · obtain rfl : k = 3 := by omega
      have hd : decide (((3 : Nat) : Int) < 3) = false := rfl
      have hR1 : Dz d i = true := by rw [← hR]; rfl
      rw [hR1, Bool.true_and] at hF
      have hz : (((d.val.map CellD.cs).length : Int) == 0) = (d.val.length == 0) := by rw [List.length_map, Bool.eq_iff_iff]; simp
      have hz2 : ((d.val.length : Int) == 0) = (d.val.length == 0) := by rw [Bool.eq_iff_iff]; simp
      subst hF
      cases q1 : EP d.op <;> cases q2 : (d.num == 0) <;> cases q3 : BX d.op <;> cases q4 : (d.val.length == 0)
      all_goals
        rw [q1] at hN
        rw [q3] at hV
        rw [q4] at hz hz2
      all_goals first
        | (refine Ab hd ?_
           refine v7 (A3 [] hN) q9 q2 ?_
           exact Ag (A5 []) Tryz.results216)
        | (refine Ab hd ?_
           refine v7 (A3 [] hN) q9 q2 ?_
           refine v7 (A3 [] hV) q9 (j2 hz hz2) ?_
           exact Ag (A5 []) Tryz.results216)
set_option maxRecDepth 10000
theorem LD (d:CoD) (hz:EG d.val) {i:Nat}(hi:i≤1000):AC Tryz.prog 136 [d.av,.c (.int .i64 i)] [] (.c (.int .i64 (Dd d i))) []:=by
 have hB:=ED d.op 1 17
 cases hb:C1 d.op 1 17 with
 |false =>
  have hc:Dd d i=6:=by unfold Dd;rw[if_pos hb]
  rw[hc]
  unfold C1 at hb
  rw[hb]at hB
  refine A6 Tryz.func136 Tryz.ntmps136 q9 ?_
  refine v7 (A3 [] hB) q9 q9 ?_
  exact Ag (A5 []) Tryz.results136
 |true =>
  have hb2:=hb
  unfold C1 at hb2
  rw[hb2]at hB
  have h12:1≤d.op∧d.op≤17:=by simpa using hb2
  have hF:=UO d h12.1 h12.2 hi
  have hV:=JE d
  have hN:=Rm d h12.1 h12.2
  have hc0:Dd d i=if Gf d i=false then 1 else if BX d.op&&((dec d.val).1 != 0) then (dec d.val).1 else if d.op==11&&(EX d != 4) then 6 else if FA d then 0 else 3:=by
   conv=>lhs;unfold Dd
   rw[if_neg (by rw[hb];decide)]
  rw[hc0]
  clear hc0
  cases hf:Gf d i with
  |false =>
   rw[hf]at hF
   rw[if_pos rfl]
   refine A6 Tryz.func136 Tryz.ntmps136 q9 ?_
   refine v7 (A3 [] hB) q9 q9 ?_
   refine v7 (A3 [] hF) q9 q9 ?_
   exact Ag (A5 []) Tryz.results136
  |true =>
   rw[hf]at hF
   rw[if_neg (by decide)]
   cases hv:BX d.op with
   |false =>
    rw[hv]at hV
    have h11:(d.op==11)=false:=by
     unfold BX at hv
     simp only[Bool.or_eq_false_iff]at hv
     exact hv.2
    rw[Bool.false_and,if_neg (by decide),h11,Bool.false_and,if_neg (by decide)]
    cases hn:FA d with
    |true =>
     rw[hn]at hN
     rw[if_pos rfl]
     refine A6 Tryz.func136 Tryz.ntmps136 q9 ?_
     refine v7 (A3 [] hB) q9 q9 ?_
     refine v7 (A3 [] hF) q9 q9 ?_
     refine v7 (A3 [] hV) q9 q9 ?_
     refine v7 (A3 [] hN) q9 q9 ?_
     exact Ag (A5 []) Tryz.results136
    |false =>
     rw[hn]at hN
     rw[if_neg (by decide)]
     refine A6 Tryz.func136 Tryz.ntmps136 q9 ?_
     refine v7 (A3 [] hB) q9 q9 ?_
     refine v7 (A3 [] hF) q9 q9 ?_
     refine v7 (A3 [] hV) q9 q9 ?_
     refine v7 (A3 [] hN) q9 q9 ?_
     exact Ag (A5 []) Tryz.results136
   |true =>
    rw[hv]at hV
    rw[Bool.true_and]
    have h00:((0:Int) != 0)=false:=rfl
    rcases H4 d.val with⟨t,ht⟩ | ⟨c,hc,ht⟩
    ·have hO:=Lw d.val hz (t:=t) (by rw[ht])
     have hk:EX d=t.kind:=by unfold EX;rw[ht]
     rw[ht,hk]
     dsimp only
     rw[h00,if_neg (by decide)]
     cases h11:(d.op==11) with
     |true =>
      cases h4:(t.kind != 4) with
      |true =>
       rw[Bool.true_and,if_pos rfl]
       refine A6 Tryz.func136 Tryz.ntmps136 q9 ?_
       refine v7 (A3 [] hB) q9 q9 ?_
       refine v7 (A3 [] hF) q9 q9 ?_
       refine v7 (A3 [] hV) q9 q9 ?_
       refine v9 (A4 [] hO) q9 (j3 h00 h11 h4) ?_
       exact Ag (A5 []) Tryz.results136
      |false =>
       rw[Bool.true_and,if_neg (by decide)]
       cases hn:FA d
       all_goals
        rw[hn]at hN
        first | rw[if_pos rfl] | rw[if_neg (by decide)]
        refine A6 Tryz.func136 Tryz.ntmps136 q9 ?_
        refine v7 (A3 [] hB) q9 q9 ?_
        refine v7 (A3 [] hF) q9 q9 ?_
        refine v7 (A3 [] hV) q9 q9 ?_
        refine v9 (A4 [] hO) q9 (j3 h00 h11 h4) ?_
        refine v7 (A3 [] hN) q9 q9 ?_
        exact Ag (A5 []) Tryz.results136
     |false =>
      rw[Bool.false_and,if_neg (by decide)]
      cases hn:FA d
      all_goals
       rw[hn]at hN
       first | rw[if_pos rfl] | rw[if_neg (by decide)]
       refine A6 Tryz.func136 Tryz.ntmps136 q9 ?_
       refine v7 (A3 [] hB) q9 q9 ?_
       refine v7 (A3 [] hF) q9 q9 ?_
       refine v7 (A3 [] hV) q9 q9 ?_
       refine v9 (A4 [] hO) q9 (j2 h00 h11) ?_
       refine v7 (A3 [] hN) q9 q9 ?_
       exact Ag (A5 []) Tryz.results136
    ·have hO:=Qr d.val hz (by rw[ht])
     rw[ht]at hO ⊢
     dsimp only at hO ⊢
     have hcn:(c != 0)=true:=by simpa using hc
     rw[hcn,if_pos rfl]
     rw[DV]at hO
     refine A6 Tryz.func136 Tryz.ntmps136 q9 ?_
     refine v7 (A3 [] hB) q9 q9 ?_
     refine v7 (A3 [] hF) q9 q9 ?_
     refine v7 (A3 [] hV) q9 q9 ?_
     refine v9 (A4 [] hO) q9 hcn ?_
     exact Ag (A5 []) Tryz.results136
set_option maxRecDepth 10000
theorem XY (x:Int):AC Tryz.prog 222 [.nils,.c (.int .i64 x)] [] (.c (.int .i64 (-1))) []:=by
 refine A6 Tryz.func222 Tryz.ntmps222 q9 ?_
 refine Ar (κ:=Unit) (fun _=>⟨mkS 0 19 [(0,.nils),(1,.c (.int .i64 x)),(7,.c (.int .i64 0)),(8,.c (.int .i64 0))],[]⟩) (fun _=>True) (fun _=>0) () trivial ?_ ?_
 ·exact Ac (Aj.of [] []) q9
 ·intro _ _
  have hd:decide ((0:Int)<0)=false:=rfl
  exact FC hd (A5 []) Tryz.results222
theorem l8 (xs:List Int) (x:Int) (hl:xs.length≤1000000):∃r:Int,(decide (r≥0)=xs.contains x)∧AC Tryz.prog 222 [Cr xs,.c (.int .i64 x)] [] (.c (.int .i64 r)) []:=by
 obtain⟨r,hr⟩:∃r:Int,(match xs.findIdx? (·==x) with | some k=>(k:Int) | none=>-1)=r:=⟨_,rfl⟩
 refine⟨r,?_,?_⟩
 ·subst hr
  cases hf:xs.findIdx? (·==x) with
  |none =>
   rw[List.findIdx?_eq_none_iff]at hf
   have:xs.contains x=false:=by
    rw[Bool.eq_false_iff]
    intro h
    have hm:=List.contains_iff_mem.1 h
    simpa using hf x hm
   rw[this];rfl
  |some k =>
   obtain⟨h1,h2,_⟩:=List.findIdx?_eq_some_iff_getElem.1 hf
   have:xs.contains x=true:=by
    rw[List.contains_iff_mem]
    have e:xs[k]=x:=by simpa using h2
    rw[←e]
    exact List.getElem_mem h1
   rw[this]
   simp
 have hln:(xs.map As).length=xs.length:=by simp
 refine A6 Tryz.func222 Tryz.ntmps222 q9 ?_
 refine Ar (κ:=Nat) (fun k=>⟨mkS 0 19 [(0,Cr xs),(1,.c (.int .i64 x)),(7,.c (.int .i64 xs.length)),(8,.c (.int .i64 k))],[]⟩)
  (fun k=>k≤xs.length∧∀j (h:j<xs.length),j<k→xs[j]≠x) (fun k=>xs.length-k) 0 ⟨Nat.zero_le _,fun j _ h=>absurd h (Nat.not_lt_zero _)⟩ ?_ ?_
 ·exact Ac (Aj.of [] []) hln
 ·rintro k ⟨hk,hn⟩
  by_cases hlt:k<xs.length
  ·have hd:decide ((k:Int)<(xs.length:Int))=true:=decide_eq_true (by omega)
   have hw:=Ad (k:=k) (by omega)
   obtain⟨hr0,hg0⟩:=D2 xs hlt
   by_cases he:xs[k]=x
   ·have hq:(x==xs[k])=true:=by simp[he]
    have hk':xs.findIdx? (·==x)=some k:=List.findIdx?_eq_some_iff_getElem.2 ⟨hlt,by simp[he],fun j hj=>by simpa using hn j (by omega) hj⟩
    rw[hk']at hr
    dsimp only at hr
    subst hr
    generalize xs[k]=y at *
    exact FC (j4 hd hr0 hg0 hq) (A5 []) Tryz.results222
   ·have hq:(x==xs[k])=false:=Ed (fun h=>he h.symm)
    refine Ab (j5 hd hr0 hg0 hq hw) ?_
    refine⟨k+1,by omega,⟨by omega,fun j h hj=>?_⟩,?_⟩
    ·by_cases hjk:j=k
     ·subst hjk;exact he
     ·exact hn j h (by omega)
    exact Ac (Aj.of [] []) hw
  ·have hd:decide ((k:Int)<(xs.length:Int))=false:=decide_eq_false (by omega)
   have hnone:xs.findIdx? (·==x)=none:=by
    rw[List.findIdx?_eq_none_iff]
    intro y hy
    obtain⟨j,h1,rfl⟩:=List.mem_iff_getElem.1 hy
    simpa using hn j h1 (by omega)
   rw[hnone]at hr
   dsimp only at hr
   subst hr
   exact FC hd (A5 []) Tryz.results222
theorem QH (x:Int):AC Tryz.prog 140 [.nils,.c (.int .i64 x)] [] (.c (.bool false)) []:=by
 have h:=XY x
 have hd:decide ((-1:Int)≥0)=false:=rfl
 refine A6 Tryz.func140 Tryz.ntmps140 q9 ?_
 refine v7 (A3 [] h) q9 hd ?_
 exact Ag (A5 []) Tryz.results140
theorem IF (xs:List Int) (x:Int) (hl:xs.length≤1000000):AC Tryz.prog 140 [Cr xs,.c (.int .i64 x)] [] (.c (.bool (xs.contains x))) []:=by
 obtain⟨r,hd,h⟩:=l8 xs x hl
 generalize xs.contains x=q at *
 refine A6 Tryz.func140 Tryz.ntmps140 q9 ?_
 refine v7 (A3 [] h) q9 hd ?_
 exact Ag (A5 []) Tryz.results140
theorem HH:AC Tryz.prog 221 [.nils] [] .nils []:=by
 refine A6 Tryz.func221 Tryz.ntmps221 q9 ?_
 exact Ag (A5 []) Tryz.results221
theorem J8 (xs:List Int) (h0:xs≠[]) (hl:xs.length≤1000000):AC Tryz.prog 221 [Cr xs] [] (.own (0,0)) [((0,0),.row false 1 2 (xs.map As))]:=by
 have he:(xs.map As).isEmpty=false:=by cases xs<;>simp at h0 ⊢
 have hn:0+xs.length≤1000000:=by omega
 have hf:AT (xs.map As)=xs.map As:=CM _ (fun _=>rfl) xs
 refine A6 Tryz.func221 Tryz.ntmps221 (j3 he hn hf) ?_
 exact Aa (A9 [((0,0),(7,0))] []) Tryz.results221 (j2 he hf)
end Go.Proofs.YtcejfdfmgmcinaaGreat
