/- Texts of this proof: K32 K33. -/
import Derived.Test.YtcejfdfmgmcinaaGreatKE43uK30
set_option linter.all false
set_option maxHeartbeats 8000000
namespace Go.Proofs.YtcejfdfmgmcinaaGreat
open Go.RowKit
set_option maxRecDepth 10000
theorem Ef:MC none CX false:=.inr ⟨rfl,rfl⟩
theorem DJ {q:PT}(h:q.fine):MC (some q.ct) q true:=.inl ⟨rfl,h,rfl⟩
theorem Wz {p:PT}(h:p.fine) (ha:Au p.d.op=1):∃a,p.kids=[a]∧a.fine:=by
 have hl:=PT.fine_len h
 rw[ha]at hl
 obtain⟨a,hk⟩:=List.length_eq_one_iff.1 hl
 exact⟨a,hk,PT.fine_kid h (by rw[hk];simp)⟩
theorem L4 {p:PT}(h:p.fine) (ha:Au p.d.op=2):∃a b,p.kids=[a,b]∧a.fine∧b.fine:=by
 have hl:=PT.fine_len h
 rw[ha]at hl
 match hk:p.kids,hl with
 | [a,b],_=>exact⟨a,b,rfl,PT.fine_kid h (by rw[hk];simp),PT.fine_kid h (by rw[hk];simp)⟩
theorem ZP {p:PT}(h:p.fine) (ha:Au p.d.op=3):∃a b c,p.kids=[a,b,c]∧a.fine∧b.fine∧c.fine:=by
 have hl:=PT.fine_len h
 rw[ha]at hl
 match hk:p.kids,hl with
 | [a,b,c],_=>exact⟨a,b,c,rfl,PT.fine_kid h (by rw[hk];simp),PT.fine_kid h (by rw[hk];simp),PT.fine_kid h (by rw[hk];simp)⟩
theorem ZB {op num:Int}{val:List CellD}{l:List CT}(n6:op≠6) (n7:op≠7) (n12:op≠12) (n11:op≠11) (n10:op≠10):C6 op num val l=none:=by
 unfold C6
 split
 ·rw[if_neg n10]
 ·split
  ·first | rfl | rw[if_neg n6,if_neg n7,if_neg n11]
  ·rfl
 ·rw[if_neg (fun h=>n12 h.1)]
 ·rfl
theorem UA {p:PT}(h:p.fine):∃q b,MC (C6 p.d.op p.d.num p.d.val (ctL p.kids)) q b∧AC Tryz.prog 62 [p.av] [] (Is (q,b)) []:=by
 have hl3:=LF h
 by_cases h2:p.d.op=6∨p.d.op=7∨p.d.op=11
 ·have har:Au p.d.op=2:=by rcases h2 with e | e | e<;>rw[e]<;>rfl
  obtain⟨a,b,hk,ha,hb⟩:=L4 h har
  have hT:C6 p.d.op p.d.num p.d.val (ctL p.kids)=if a.d.op=2∧b.d.op=2 then (if p.d.op=6 then EX (JS p.d.num (vOf a.ct.val) (vOf b.ct.val)) else if p.d.op=7 then EX (CB (vOf a.ct.val) (vOf b.ct.val)) else if p.d.op=11 then EX (DD (vOf a.ct.val) (vOf p.d.val).text (vOf b.ct.val)) else none) else none:=by
   rw[hk,ctL,ctL,ctL]
   unfold C6
   dsimp only
   rw[EP,EP]
  rw[hT]
  by_cases hc:a.d.op=2∧b.d.op=2
  ·rw[if_pos hc]
   obtain⟨v,hv,ev,ev'⟩:=Ff ha hc.1
   obtain⟨u,hu,eu,eu'⟩:=Ff hb hc.2
   rw[ev',eu']
   rcases h2 with e | e | e
   ·rw[if_pos e]
    exact⟨_,_,Fw (Qt _ hv hu),ZC e hk hc.1 hc.2 hv hu ev eu⟩
   ·rw[if_neg (by omega),if_pos e]
    exact⟨_,_,Fw (KU hv _),ZD e hk hc.1 hc.2 hv hu ev eu⟩
   ·rw[if_neg (by omega),if_neg (by omega),if_pos e]
    obtain⟨t,ht,e3,_⟩:=(PT.fine_node h).hasVal (by rw[e];rfl)
    rw[e3,MW ht]
    exact⟨_,_,Fw (Jk hv hu (DB ht)),Xy e hk hc.1 hc.2 hv hu ev eu ht e3 (DB ht)⟩
  ·rw[if_neg hc]
   have hn:((p.kids.take 2).all fun x=>x.d.op==2)=false:=by
    rw[hk]
    cases hb:([a,b].take 2).all fun x=>x.d.op==2 with
    |false=>rfl
    |true =>
     simp at hb
     exact absurd hb hc
   have hk2:2≤p.kids.length:=by rw[hk];simp
   refine⟨CX,false,Ef,?_⟩
   rcases h2 with e | e | e
   ·exact Zz e hl3 hk2 hn
   ·exact ZA e hl3 hk2 hn
   ·exact Xw e hl3 hk2 hn
 by_cases h12:p.d.op=12
 ·obtain⟨a,b,c,hk,ha,hb,hcf⟩:=ZP h (by rw[h12];rfl)
  have hT:C6 p.d.op p.d.num p.d.val (ctL p.kids)=if a.d.op=2 then some (if CM (vOf a.ct.val) then b.ct else c.ct) else none:=by
   rw[hk,ctL,ctL,ctL,ctL,h12]
   unfold C6
   dsimp only
   rw[EP]
   simp only[true_and]
  rw[hT]
  by_cases hc:a.d.op=2
  ·rw[if_pos hc]
   obtain⟨v,hv,ev,ev'⟩:=Ff ha hc
   rw[ev']
   cases ht:CM v with
   |true=>exact⟨b,true,DJ hb,Sy h12 hk hc hv ev ht⟩
   |false=>exact⟨c,true,DJ hcf,QU h12 hk hc hv ev ht⟩
  ·rw[if_neg hc]
   exact⟨CX,false,Ef,Xx h12 hl3 (by rw[hk];simp) (by rw[hk];simp[hc])⟩
 by_cases h10:p.d.op=10
 ·obtain⟨a,hk,ha⟩:=Wz h (by rw[h10];rfl)
  have hT:C6 p.d.op p.d.num p.d.val (ctL p.kids)=if a.d.op=17 then some (AE (AZ [])) else if a.d.op=2 then EX (Cw (AZ [vOf a.ct.val])) else none:=by
   rw[hk,ctL,ctL,h10]
   unfold C6
   dsimp only
   rw[EP,if_pos rfl]
  rw[hT]
  by_cases hc:a.d.op=17
  ·rw[if_pos hc,←JY]
   exact⟨_,true,DJ (KF LU),Xu h10 hk hc⟩
  ·rw[if_neg hc]
   by_cases hc2:a.d.op=2
   ·rw[if_pos hc2]
    obtain⟨v,hv,ev,ev'⟩:=Ff ha hc2
    rw[ev']
    exact⟨_,_,Fw (Et (J3 fun x hx=>by rw[List.mem_singleton.1 hx];exact Cu hv)),Zy h10 hk hc2 hv ev⟩
   ·rw[if_neg hc2]
    exact⟨CX,false,Ef,Xv h10 hk hc2 hc⟩
 ·exact⟨CX,false,by rw[ZB (by omega) (by omega) (by omega) (by omega) (by omega)];exact Ef,a3s (by omega) (by omega) (by omega) (by omega) (by omega)⟩
set_option maxRecDepth 10000
theorem O4 {op num:Int}{val:List CellD}(h:NodeOk op num val):val.length≤1000000:=by
 cases hv:C7 op with
 |false=>rw[h.noVal hv];simp
 |true =>
  obtain⟨t,ht,rfl,_⟩:=h.hasVal hv
  rw[Db]
  have:=ht.2.1
  omega
def Dk (d:CoD) (ends:List Nat) (k j:Nat):Int:=if j<k then ((ends[j]?.getD 0:Nat):Int) else d.kid j
theorem D7 {d:CoD}{ends:List Nat}{k j:Nat}(h:j≠k):Dk d ends (k+1) j=Dk d ends k j:=by
 unfold Dk
 by_cases h1:j<k
 ·rw[if_pos h1,if_pos (by omega)]
 ·rw[if_neg h1,if_neg (by omega)]
theorem Sx {d:CoD}{ends:List Nat}{k e:Nat}(h:ends[k]? = some e):Dk d ends (k+1) k=(e:Int):=by
 unfold Dk
 rw[if_pos (by omega),h]
 rfl
theorem PD (d:CoD) (ends:List Nat):Dk d ends 0 0=d.a∧Dk d ends 0 1=d.b∧Dk d ends 0 2=d.c:=by
 unfold Dk CoD.kid
 simp
theorem PY {d:CoD}{kids:List PT}(h:(PT.mk d kids).zero) {ends:List Nat}(he:ends.length=kids.length) (hl:kids.length≤3) :
  B8 d.op d.num d.val ends=⟨d.op,Dk d ends kids.length 0,Dk d ends kids.length 1,Dk d ends kids.length 2,d.num,d.val⟩:=by
 rw[i8 h he hl]
 rfl
def BO (L:List CoD) (kids:List PT) (k:Nat):List CoD:=L++B3 L.length (ctL (kids.take k))
theorem Ng (l:List PT) (k:Nat):ctL (l.take k)=(ctL l).take k:=by rw[Gy,Gy,List.map_take]
theorem Hx {l:List PT}{k:Nat}(h:k<l.length):(ctL l)[k]'(by rw[Es];exact h)=l[k].ct:=by
 have:(ctL l)[k]? = some l[k].ct:=by rw[Gy,List.getElem?_map,List.getElem?_eq_getElem h];rfl
 exact (List.getElem?_eq_some_iff.1 this).2
theorem FZ (L:List CoD) (kids:List PT) (k:Nat):(BO L kids k).length=L.length+Aj ((ctL kids).take k):=by
 unfold BO
 rw[List.length_append,F8,Ng]
theorem Fc (L:List CoD) {kids:List PT}{k:Nat}(h:k<kids.length):BO L kids k++kids[k].ct.flat (BO L kids k).length=BO L kids (k+1):=by
 rw[FZ]
 unfold BO
 rw[List.append_assoc,Ng,Ng,List.take_succ_eq_append_getElem (by rw[Es];exact h),HL,Hx h,B3,B3,List.append_nil]
theorem T8 (L:List CoD) {kids:List PT}{k:Nat}(h:k<kids.length):(As L.length (ctL kids))[k]? = some ((BO L kids (k+1)).length-1):=by
 rw[F7 _ _ _ (by rw[Es];exact h),Hx h,FZ,CP _ (by rw[Es];exact h),Hx h,Nat.add_assoc]
theorem Wo (d:CoD) (kids:List PT):(PT.mk d kids).ct.size=Aj (ctL kids)+1:=by rw[PT.ct,CT.size]
theorem Nx (L:List CoD) (d:CoD) (kids:List PT):L++(PT.mk d kids).ct.flat L.length=BO L kids kids.length++[B8 d.op d.num d.val (As L.length (ctL kids))]:=by
 unfold BO
 rw[PT.ct,CT.flat,List.take_length,List.append_assoc]
theorem PZ : ∀ (n : Nat) (p : PT), p.ct.size ≤ n → p.fine → ∀ L : List CoD, L.length + p.ct.size ≤ 900000 → AC Tryz.prog 117 [p.av, .own (0, 0)] [((0, 0), .row true 6 87 (L.map CoD.os))] (.own (1, 0)) [((1, 0), .row true 6 87 ((L ++ p.ct.flat L.length).map CoD.os))]
  | 0, p, hn, _, _, _ => by have := p.ct.size_pos; omega
  | n + 1, .mk d kids, hn, h, L, hL => by
    have hl3 : kids.length ≤ 3 := LF h
    have hcl := Ju d.val (O4 (PT.fine_node h))
    have hln : (kids.map PT.cs).length = kids.length := by simp
    have hsz := Wo d kids
    have hnode := PY h.2 (ends := As L.length (ctL kids)) (by rw [D6, Es]) hl3
    have hlast : (BO L kids kids.length).map CoD.os ++ [[.int .i64 d.op, .int .i64 (Dk d (As L.length (ctL kids)) kids.length 0), .int .i64 (Dk d (As L.length (ctL kids)) kids.length 1), .int .i64 (Dk d (As L.length (ctL kids)) kids.length 2), .int .i64 d.num, .osl (d.val.map CellD.cs)]] = (L ++ (PT.mk d kids).ct.flat L.length).map CoD.os := by
      have hfn : L ++ (PT.mk d kids).ct.flat L.length = BO L kids kids.length ++ [B8 d.op d.num d.val (As L.length (ctL kids))] := Nx L d kids
      rw [hfn, hnode, List.map_append]
      rfl
    obtain ⟨z0, z1, z2⟩ := PD d (As L.length (ctL kids))
    have hz0 : (BO L kids 0).map CoD.os = L.map CoD.os := by unfold BO; rw [List.take_zero, ctL, B3, List.append_nil]
    have hll : (BO L kids kids.length).length + 1 ≤ 1000000 := by
      rw [FZ, List.take_of_length_le (by rw [Es]; exact Nat.le_refl _)]
      omega
    show AC _ _ [.agg [.c (.int .i64 d.op), .c (.int .i64 d.a), .c (.int .i64 d.b), .c (.int .i64 d.c), .c (.int .i64 d.num), .c (.sl (d.val.map CellD.cs)), .c (.sl (kids.map PT.cs))], .own (0, 0)] _ _ _
    (refine AC.intro_spx [] Df Tryz.func117 rfl Tryz.ntmps117 (Nat.le_of_ble_eq_true rfl) rfl rfl ?_; simp only [go_sem, Nat.reduceAdd])
    refine A3 q9 ?_
    refine w12 (AS [] hcl) q9 ?_
    refine A3 hln ?_
    refine Ay (κ := Nat) (fun k => ⟨mkS 0 41 [(1, .own (99, 0)), (2, .ptr (2, 0) 0), (4, .nils), (5, .ptr (5, 0) 0), (15, .c (.sl (kids.map PT.cs))), (16, .c (.int .i64 kids.length)), (17, .c (.int .i64 k))],
        [((2, 0), .box [.c (.int .i64 d.op), .c (.int .i64 d.a), .c (.int .i64 d.b), .c (.int .i64 d.c), .c (.int .i64 d.num), .c (.sl (d.val.map CellD.cs)), .c (.sl (kids.map PT.cs))]),
         ((5, 0), .box [.c (.int .i64 d.op), .c (.int .i64 (Dk d (As L.length (ctL kids)) k 0)), .c (.int .i64 (Dk d (As L.length (ctL kids)) k 1)), .c (.int .i64 (Dk d (As L.length (ctL kids)) k 2)), .c (.int .i64 d.num), .own (12, 0)]),
         ((12, 0), .row false 5 80 (d.val.map CellD.cs)), ((99, 0), .row true 6 87 ((BO L kids k).map CoD.os))]⟩)
      (fun k => k ≤ kids.length) (fun k => kids.length - k) 0 (Nat.zero_le _) ?_ ?_
    · exact Af (Am.of [((2, 0), (2, 0)), ((5, 0), (5, 0)), ((12, 0), (12, 0)), ((99, 0), (0, 0))] []) (j4 z0 z1 z2 hz0)
    intro k hk
    by_cases hlt : k < kids.length
    · have hdk : decide ((k : Int) < (kids.length : Int)) = true := decide_eq_true (by omega)
      have hw := Ah (k := k) (by omega)
      obtain ⟨hr0, hg0⟩ := Rz kids hlt
      have hkz : kids[k].ct.size ≤ Aj (ctL kids) := by
        rw [← Hx hlt]
        exact E2 (List.getElem_mem _)
      have hps : (BO L kids k).length + kids[k].ct.size ≤ 900000 := by
        have h1 := CP (ctL kids) (k := k) (by rw [Es]; exact hlt)
        have h2 := D2 (ctL kids) (k + 1)
        rw [Hx hlt] at h1
        rw [FZ]
        omega
      have ih := PZ n kids[k] (by omega) (PT.fine_kid h (by exact List.getElem_mem hlt)) (BO L kids k) hps
      rw [Fc _ hlt] at ih
      have hsc := Gw (BO L kids (k + 1))
      have he : (As L.length (ctL kids))[k]? = some ((BO L kids (k + 1)).length - 1) := T8 L hlt
      have hpl : 1 ≤ (BO L kids (k + 1)).length := by
        rw [← Fc _ hlt, List.length_append, CT.flat_len]
        have := kids[k].ct.size_pos
        omega
      have hpu : (BO L kids (k + 1)).length ≤ 1000000 := by
        rw [← Fc _ hlt, List.length_append, CT.flat_len]
        omega
      have hwl : IntKind.i64.wrap (((BO L kids (k + 1)).length : Int) - 1) = (((BO L kids (k + 1)).length - 1 : Nat) : Int) := by rw [IntWalk.i64_in _ (by omega)]; omega
      have hnew := Sx (d := d) he
      have h0k : (0 : Int) ≤ (k : Int) := by omega
      have hc3 : k = 0 ∨ k = 1 ∨ k = 2 := by omega
      unfold PT.av at ih
      generalize kids[k].d = e at *
      generalize kids[k].kids.map PT.cs = Pe at *
      clear hnode hlast hz0 hsz hps he hll z0 z1 z2
      rcases hc3 with hc | hc | hc
      · have hkt : ((k : Nat) : Int).toNat = 0 := by omega
        have q1 := D7 (d := d) (ends := As L.length (ctL kids)) (k := k) (j := 1) (by omega)
        have q2 := D7 (d := d) (ends := As L.length (ctL kids)) (k := k) (j := 2) (by omega)
        have qn : Dk d (As L.length (ctL kids)) (k + 1) 0 = (((BO L kids (k + 1)).length - 1 : Nat) : Int) := by
          have := hnew
          rwa [show Dk d (As L.length (ctL kids)) (k + 1) k = Dk d (As L.length (ctL kids)) (k + 1) 0 from by rw [hc]] at this
        clear hnew hc
        refine A3 (j3 hdk hr0 hg0) ?_
        refine w10 (I5 (99, 0) ih) q9 ?_
        refine A3 q9 ?_
        ((with_reducible apply LQ); (iterate 9 (focus (first | (simp only [go_sem, Nat.reduceEqDiff, Nat.reduceAdd, Nat.reduceSub, Nat.reduceLeDiff, Nat.reduceMul, Nat.reduceBEq, Nat.reduceLT, Int.reduceToNat, reduceCtorEq]; first | done | exact rfl | (and_intros <;> rfl)) | exact rfl | decide))))
        refine A3 q9 ?_
        ((with_reducible apply H5); (iterate 9 (focus (first | (simp only [go_sem, Nat.reduceEqDiff, Nat.reduceAdd, Nat.reduceSub, Nat.reduceLeDiff, Nat.reduceMul, Nat.reduceBEq, Nat.reduceLT, Int.reduceToNat, reduceCtorEq, h0k, hkt]; first | done | exact rfl | (and_intros <;> rfl)) | exact rfl | decide))))
        refine A3 hkt ?_
        refine w7 (A4 [(24, 0)] hsc) q9 ?_
        refine A3 (j2 hwl hw) ?_
        refine ⟨k + 1, by omega, by omega, ?_⟩
        exact Af (Am.of [((2, 0), (2, 0)), ((5, 0), (5, 0)), ((12, 0), (12, 0)), ((99, 0), (24, 0))] []) (j3 q1 q2 qn)
      · have hkt : ((k : Nat) : Int).toNat = 1 := by omega
        have q0 := D7 (d := d) (ends := As L.length (ctL kids)) (k := k) (j := 0) (by omega)
        have q2 := D7 (d := d) (ends := As L.length (ctL kids)) (k := k) (j := 2) (by omega)
        have qn : Dk d (As L.length (ctL kids)) (k + 1) 1 = (((BO L kids (k + 1)).length - 1 : Nat) : Int) := by
          have := hnew
          rwa [show Dk d (As L.length (ctL kids)) (k + 1) k = Dk d (As L.length (ctL kids)) (k + 1) 1 from by rw [hc]] at this
        clear hnew hc
        refine A3 (j3 hdk hr0 hg0) ?_
        refine w10 (I5 (99, 0) ih) q9 ?_
        refine A3 q9 ?_
        ((with_reducible apply LQ); (iterate 9 (focus (first | (simp only [go_sem, Nat.reduceEqDiff, Nat.reduceAdd, Nat.reduceSub, Nat.reduceLeDiff, Nat.reduceMul, Nat.reduceBEq, Nat.reduceLT, Int.reduceToNat, reduceCtorEq]; first | done | exact rfl | (and_intros <;> rfl)) | exact rfl | decide))))
        refine A3 q9 ?_
        ((with_reducible apply H5); (iterate 9 (focus (first | (simp only [go_sem, Nat.reduceEqDiff, Nat.reduceAdd, Nat.reduceSub, Nat.reduceLeDiff, Nat.reduceMul, Nat.reduceBEq, Nat.reduceLT, Int.reduceToNat, reduceCtorEq, h0k, hkt]; first | done | exact rfl | (and_intros <;> rfl)) | exact rfl | decide))))
        refine A3 hkt ?_
        refine w7 (A4 [(24, 0)] hsc) q9 ?_
        refine A3 (j2 hwl hw) ?_
        refine ⟨k + 1, by omega, by omega, ?_⟩
        exact Af (Am.of [((2, 0), (2, 0)), ((5, 0), (5, 0)), ((12, 0), (12, 0)), ((99, 0), (24, 0))] []) (j3 q0 q2 qn)
      · have hkt : ((k : Nat) : Int).toNat = 2 := by omega
        have q0 := D7 (d := d) (ends := As L.length (ctL kids)) (k := k) (j := 0) (by omega)
        have q1 := D7 (d := d) (ends := As L.length (ctL kids)) (k := k) (j := 1) (by omega)
        have qn : Dk d (As L.length (ctL kids)) (k + 1) 2 = (((BO L kids (k + 1)).length - 1 : Nat) : Int) := by
          have := hnew
          rwa [show Dk d (As L.length (ctL kids)) (k + 1) k = Dk d (As L.length (ctL kids)) (k + 1) 2 from by rw [hc]] at this
        clear hnew hc
        refine A3 (j3 hdk hr0 hg0) ?_
        refine w10 (I5 (99, 0) ih) q9 ?_
        refine A3 q9 ?_
        ((with_reducible apply LQ); (iterate 9 (focus (first | (simp only [go_sem, Nat.reduceEqDiff, Nat.reduceAdd, Nat.reduceSub, Nat.reduceLeDiff, Nat.reduceMul, Nat.reduceBEq, Nat.reduceLT, Int.reduceToNat, reduceCtorEq]; first | done | exact rfl | (and_intros <;> rfl)) | exact rfl | decide))))
        refine A3 q9 ?_
        ((with_reducible apply H5); (iterate 9 (focus (first | (simp only [go_sem, Nat.reduceEqDiff, Nat.reduceAdd, Nat.reduceSub, Nat.reduceLeDiff, Nat.reduceMul, Nat.reduceBEq, Nat.reduceLT, Int.reduceToNat, reduceCtorEq, h0k, hkt]; first | done | exact rfl | (and_intros <;> rfl)) | exact rfl | decide))))
        refine A3 hkt ?_
        refine w7 (A4 [(24, 0)] hsc) q9 ?_
        refine A3 (j2 hwl hw) ?_
        refine ⟨k + 1, by omega, by omega, ?_⟩
        exact Af (Am.of [((2, 0), (2, 0)), ((5, 0), (5, 0)), ((12, 0), (12, 0)), ((99, 0), (24, 0))] []) (j3 q0 q1 qn)
    · have hdk : decide ((k : Int) < (kids.length : Int)) = false := decide_eq_false (by omega)
      have hke : k = kids.length := by omega
      subst hke
      refine A3 (j2 hdk hll) ?_
      exact Ab (Aa [((1, 0), (40, 0))] []) Tryz.results117 hlast
theorem Yj : ∀ (n : Nat) (p : PT), p.ct.size ≤ n → p.fine → p.ct.size ≤ 900000 → AC Tryz.prog 117 [p.av, .nils] [] (.own (0, 0)) [((0, 0), .row true 6 87 ((([] : List CoD) ++ p.ct.flat 0).map CoD.os))]
  | 0, p, hn, _, _ => by have := p.ct.size_pos; omega
  | n + 1, .mk d kids, hn, h, hL => by
    have hl3 : kids.length ≤ 3 := LF h
    have hcl := Ju d.val (O4 (PT.fine_node h))
    have hln : (kids.map PT.cs).length = kids.length := by simp
    have hsz := Wo d kids
    have hnode := PY h.2 (ends := As 0 (ctL kids)) (by rw [D6, Es]) hl3
    have hlast : (BO ([] : List CoD) kids kids.length).map CoD.os ++ [[.int .i64 d.op, .int .i64 (Dk d (As 0 (ctL kids)) kids.length 0), .int .i64 (Dk d (As 0 (ctL kids)) kids.length 1), .int .i64 (Dk d (As 0 (ctL kids)) kids.length 2), .int .i64 d.num, .osl (d.val.map CellD.cs)]] = (([] : List CoD) ++ (PT.mk d kids).ct.flat 0).map CoD.os := by
      have hfn : ([] : List CoD) ++ (PT.mk d kids).ct.flat 0 = BO ([] : List CoD) kids kids.length ++ [B8 d.op d.num d.val (As 0 (ctL kids))] := Nx ([] : List CoD) d kids
      rw [hfn, hnode, List.map_append]
      rfl
    obtain ⟨z0, z1, z2⟩ := PD d (As 0 (ctL kids))
    have hz0 : (BO ([] : List CoD) kids 0).map CoD.os = ([] : List CoD).map CoD.os := by unfold BO; rw [List.take_zero, ctL, B3, List.append_nil]
    have hll : (BO ([] : List CoD) kids kids.length).length + 1 ≤ 1000000 := by
      rw [FZ, List.take_of_length_le (by rw [Es]; exact Nat.le_refl _)]
      simp only [List.length_nil]
      omega
    show AC _ _ [.agg [.c (.int .i64 d.op), .c (.int .i64 d.a), .c (.int .i64 d.b), .c (.int .i64 d.c), .c (.int .i64 d.num), .c (.sl (d.val.map CellD.cs)), .c (.sl (kids.map PT.cs))], .nils] _ _ _
    (refine AC.intro_spx [] Df Tryz.func117 rfl Tryz.ntmps117 (Nat.le_of_ble_eq_true rfl) rfl rfl ?_; simp only [go_sem, Nat.reduceAdd])
    refine A3 q9 ?_
    refine w12 (AS [] hcl) q9 ?_
    refine A3 hln ?_
    refine Ay (κ := Nat) (fun k => ⟨mkS 0 41 [(1, .own (99, 0)), (2, .ptr (2, 0) 0), (4, .nils), (5, .ptr (5, 0) 0), (15, .c (.sl (kids.map PT.cs))), (16, .c (.int .i64 kids.length)), (17, .c (.int .i64 k))],
        [((2, 0), .box [.c (.int .i64 d.op), .c (.int .i64 d.a), .c (.int .i64 d.b), .c (.int .i64 d.c), .c (.int .i64 d.num), .c (.sl (d.val.map CellD.cs)), .c (.sl (kids.map PT.cs))]),
         ((5, 0), .box [.c (.int .i64 d.op), .c (.int .i64 (Dk d (As 0 (ctL kids)) k 0)), .c (.int .i64 (Dk d (As 0 (ctL kids)) k 1)), .c (.int .i64 (Dk d (As 0 (ctL kids)) k 2)), .c (.int .i64 d.num), .own (12, 0)]),
         ((12, 0), .row false 5 80 (d.val.map CellD.cs)), ((99, 0), .row true 6 87 ((BO ([] : List CoD) kids k).map CoD.os))]⟩)
      (fun k => k ≤ kids.length) (fun k => kids.length - k) 0 (Nat.zero_le _) ?_ ?_
    · exact Af (Am.of [((2, 0), (2, 0)), ((5, 0), (5, 0)), ((12, 0), (12, 0))] []) (j5 z0 z1 z2 hz0 @List.map_nil.{0,0})
    intro k hk
    by_cases hlt : k < kids.length
    · have hdk : decide ((k : Int) < (kids.length : Int)) = true := decide_eq_true (by omega)
      have hw := Ah (k := k) (by omega)
      obtain ⟨hr0, hg0⟩ := Rz kids hlt
      have hkz : kids[k].ct.size ≤ Aj (ctL kids) := by
        rw [← Hx hlt]
        exact E2 (List.getElem_mem _)
      have hps : (BO ([] : List CoD) kids k).length + kids[k].ct.size ≤ 900000 := by
        have h1 := CP (ctL kids) (k := k) (by rw [Es]; exact hlt)
        have h2 := D2 (ctL kids) (k + 1)
        rw [Hx hlt] at h1
        rw [FZ]
        simp only [List.length_nil] at *
        omega
      have ih := PZ n kids[k] (by omega) (PT.fine_kid h (by exact List.getElem_mem hlt)) (BO ([] : List CoD) kids k) hps
      rw [Fc _ hlt] at ih
      have hsc := Gw (BO ([] : List CoD) kids (k + 1))
      have he : (As 0 (ctL kids))[k]? = some ((BO ([] : List CoD) kids (k + 1)).length - 1) := T8 ([] : List CoD) hlt
      have hpl : 1 ≤ (BO ([] : List CoD) kids (k + 1)).length := by
        rw [← Fc _ hlt, List.length_append, CT.flat_len]
        have := kids[k].ct.size_pos
        omega
      have hpu : (BO ([] : List CoD) kids (k + 1)).length ≤ 1000000 := by
        rw [← Fc _ hlt, List.length_append, CT.flat_len]
        omega
      have hwl : IntKind.i64.wrap (((BO ([] : List CoD) kids (k + 1)).length : Int) - 1) = (((BO ([] : List CoD) kids (k + 1)).length - 1 : Nat) : Int) := by rw [IntWalk.i64_in _ (by omega)]; omega
      have hnew := Sx (d := d) he
      have h0k : (0 : Int) ≤ (k : Int) := by omega
      have hc3 : k = 0 ∨ k = 1 ∨ k = 2 := by omega
      unfold PT.av at ih
      generalize kids[k].d = e at *
      generalize kids[k].kids.map PT.cs = Pe at *
      clear hnode hlast hz0 hsz hps he hll z0 z1 z2
      rcases hc3 with hc | hc | hc
      · have hkt : ((k : Nat) : Int).toNat = 0 := by omega
        have q1 := D7 (d := d) (ends := As 0 (ctL kids)) (k := k) (j := 1) (by omega)
        have q2 := D7 (d := d) (ends := As 0 (ctL kids)) (k := k) (j := 2) (by omega)
        have qn : Dk d (As 0 (ctL kids)) (k + 1) 0 = (((BO ([] : List CoD) kids (k + 1)).length - 1 : Nat) : Int) := by
          have := hnew
          rwa [show Dk d (As 0 (ctL kids)) (k + 1) k = Dk d (As 0 (ctL kids)) (k + 1) 0 from by rw [hc]] at this
        clear hnew hc
        refine A3 (j3 hdk hr0 hg0) ?_
        refine w10 (I5 (99, 0) ih) q9 ?_
        refine A3 q9 ?_
        ((with_reducible apply LQ); (iterate 9 (focus (first | (simp only [go_sem, Nat.reduceEqDiff, Nat.reduceAdd, Nat.reduceSub, Nat.reduceLeDiff, Nat.reduceMul, Nat.reduceBEq, Nat.reduceLT, Int.reduceToNat, reduceCtorEq]; first | done | exact rfl | (and_intros <;> rfl)) | exact rfl | decide))))
        refine A3 q9 ?_
        ((with_reducible apply H5); (iterate 9 (focus (first | (simp only [go_sem, Nat.reduceEqDiff, Nat.reduceAdd, Nat.reduceSub, Nat.reduceLeDiff, Nat.reduceMul, Nat.reduceBEq, Nat.reduceLT, Int.reduceToNat, reduceCtorEq, h0k, hkt]; first | done | exact rfl | (and_intros <;> rfl)) | exact rfl | decide))))
        refine A3 hkt ?_
        refine w7 (A4 [(24, 0)] hsc) q9 ?_
        refine A3 (j2 hwl hw) ?_
        refine ⟨k + 1, by omega, by omega, ?_⟩
        exact Af (Am.of [((2, 0), (2, 0)), ((5, 0), (5, 0)), ((12, 0), (12, 0)), ((99, 0), (24, 0))] []) (j3 q1 q2 qn)
      · have hkt : ((k : Nat) : Int).toNat = 1 := by omega
        have q0 := D7 (d := d) (ends := As 0 (ctL kids)) (k := k) (j := 0) (by omega)
        have q2 := D7 (d := d) (ends := As 0 (ctL kids)) (k := k) (j := 2) (by omega)
        have qn : Dk d (As 0 (ctL kids)) (k + 1) 1 = (((BO ([] : List CoD) kids (k + 1)).length - 1 : Nat) : Int) := by
          have := hnew
          rwa [show Dk d (As 0 (ctL kids)) (k + 1) k = Dk d (As 0 (ctL kids)) (k + 1) 1 from by rw [hc]] at this
        clear hnew hc
        refine A3 (j3 hdk hr0 hg0) ?_
        refine w10 (I5 (99, 0) ih) q9 ?_
        refine A3 q9 ?_
        ((with_reducible apply LQ); (iterate 9 (focus (first | (simp only [go_sem, Nat.reduceEqDiff, Nat.reduceAdd, Nat.reduceSub, Nat.reduceLeDiff, Nat.reduceMul, Nat.reduceBEq, Nat.reduceLT, Int.reduceToNat, reduceCtorEq]; first | done | exact rfl | (and_intros <;> rfl)) | exact rfl | decide))))
        refine A3 q9 ?_
        ((with_reducible apply H5); (iterate 9 (focus (first | (simp only [go_sem, Nat.reduceEqDiff, Nat.reduceAdd, Nat.reduceSub, Nat.reduceLeDiff, Nat.reduceMul, Nat.reduceBEq, Nat.reduceLT, Int.reduceToNat, reduceCtorEq, h0k, hkt]; first | done | exact rfl | (and_intros <;> rfl)) | exact rfl | decide))))
        refine A3 hkt ?_
        refine w7 (A4 [(24, 0)] hsc) q9 ?_
        refine A3 (j2 hwl hw) ?_
        refine ⟨k + 1, by omega, by omega, ?_⟩
        exact Af (Am.of [((2, 0), (2, 0)), ((5, 0), (5, 0)), ((12, 0), (12, 0)), ((99, 0), (24, 0))] []) (j3 q0 q2 qn)
      · have hkt : ((k : Nat) : Int).toNat = 2 := by omega
        have q0 := D7 (d := d) (ends := As 0 (ctL kids)) (k := k) (j := 0) (by omega)
        have q1 := D7 (d := d) (ends := As 0 (ctL kids)) (k := k) (j := 1) (by omega)
        have qn : Dk d (As 0 (ctL kids)) (k + 1) 2 = (((BO ([] : List CoD) kids (k + 1)).length - 1 : Nat) : Int) := by
          have := hnew
          rwa [show Dk d (As 0 (ctL kids)) (k + 1) k = Dk d (As 0 (ctL kids)) (k + 1) 2 from by rw [hc]] at this
        clear hnew hc
        refine A3 (j3 hdk hr0 hg0) ?_
        refine w10 (I5 (99, 0) ih) q9 ?_
        refine A3 q9 ?_
        ((with_reducible apply LQ); (iterate 9 (focus (first | (simp only [go_sem, Nat.reduceEqDiff, Nat.reduceAdd, Nat.reduceSub, Nat.reduceLeDiff, Nat.reduceMul, Nat.reduceBEq, Nat.reduceLT, Int.reduceToNat, reduceCtorEq]; first | done | exact rfl | (and_intros <;> rfl)) | exact rfl | decide))))
        refine A3 q9 ?_
        ((with_reducible apply H5); (iterate 9 (focus (first | (simp only [go_sem, Nat.reduceEqDiff, Nat.reduceAdd, Nat.reduceSub, Nat.reduceLeDiff, Nat.reduceMul, Nat.reduceBEq, Nat.reduceLT, Int.reduceToNat, reduceCtorEq, h0k, hkt]; first | done | exact rfl | (and_intros <;> rfl)) | exact rfl | decide))))
        refine A3 hkt ?_
        refine w7 (A4 [(24, 0)] hsc) q9 ?_
        refine A3 (j2 hwl hw) ?_
        refine ⟨k + 1, by omega, by omega, ?_⟩
        exact Af (Am.of [((2, 0), (2, 0)), ((5, 0), (5, 0)), ((12, 0), (12, 0)), ((99, 0), (24, 0))] []) (j3 q0 q1 qn)
    · have hdk : decide ((k : Int) < (kids.length : Int)) = false := decide_eq_false (by omega)
      have hke : k = kids.length := by omega
      subst hke
      refine A3 (j2 hdk hll) ?_
      exact Ab (Aa [((0, 0), (40, 0))] []) Tryz.results117 hlast
end Go.Proofs.YtcejfdfmgmcinaaGreat
