/- Texts of this proof: K33 K34. -/
import Derived.Test.YtcejfdfmgmcinaaGreatKK25uK32
set_option linter.all false
set_option maxHeartbeats 8000000
namespace Go.Proofs.YtcejfdfmgmcinaaGreat
open Go.RowKit
set_option maxRecDepth 10000
theorem S1 {op num:Int}{val:List CellD}(h:NodeOk op num val):val.length≤1000000:=by
 cases hv:BQ op with
 |false=>rw[h.noVal hv];simp
 |true =>
  obtain⟨t,ht,rfl,_⟩:=h.hasVal hv
  rw[CA]
  have:=ht.2.1
  omega
def Er (d:CoD) (ends:List Nat) (k j:Nat):Int:=if j<k then ((ends[j]?.getD 0:Nat):Int) else d.kid j
theorem Fc {d:CoD}{ends:List Nat}{k j:Nat}(h:j≠k):Er d ends (k+1) j=Er d ends k j:=by
 unfold Er
 by_cases h1:j<k
 ·rw[if_pos h1,if_pos (by omega)]
 ·rw[if_neg h1,if_neg (by omega)]
theorem Yc {d:CoD}{ends:List Nat}{k e:Nat}(h:ends[k]? = some e):Er d ends (k+1) k=(e:Int):=by
 unfold Er
 rw[if_pos (by omega),h]
 rfl
theorem W9 (d:CoD) (ends:List Nat):Er d ends 0 0=d.a∧Er d ends 0 1=d.b∧Er d ends 0 2=d.c:=by
 unfold Er CoD.kid
 simp
theorem WR {d:CoD}{kids:List PT}(h:(PT.mk d kids).zero) {ends:List Nat}(he:ends.length=kids.length) (hl:kids.length≤3) :
  B3 d.op d.num d.val ends=⟨d.op,Er d ends kids.length 0,Er d ends kids.length 1,Er d ends kids.length 2,d.num,d.val⟩:=by
 rw[YI h he hl]
 rfl
def CP (L:List CoD) (kids:List PT) (k:Nat):List CoD:=L++AZ L.length (ctL (kids.take k))
theorem Mc (l:List PT) (k:Nat):ctL (l.take k)=(ctL l).take k:=by rw[FY,FY,List.map_take]
theorem JP {l:List PT}{k:Nat}(h:k<l.length):(ctL l)[k]'(by rw[F4];exact h)=l[k].ct:=by
 have:(ctL l)[k]? = some l[k].ct:=by rw[FY,List.getElem?_map,List.getElem?_eq_getElem h];rfl
 exact (List.getElem?_eq_some_iff.1 this).2
theorem Ip (L:List CoD) (kids:List PT) (k:Nat):(CP L kids k).length=L.length+Ae ((ctL kids).take k):=by
 unfold CP
 rw[List.length_append,Ep,Mc]
theorem Ji (L:List CoD) {kids:List PT}{k:Nat}(h:k<kids.length):CP L kids k++kids[k].ct.flat (CP L kids k).length=CP L kids (k+1):=by
 rw[Ip]
 unfold CP
 rw[List.append_assoc,Mc,Mc,List.take_succ_eq_append_getElem (by rw[F4];exact h),GW,JP h,AZ,AZ,List.append_nil]
theorem Yt (L:List CoD) {kids:List PT}{k:Nat}(h:k<kids.length):(Au L.length (ctL kids))[k]? = some ((CP L kids (k+1)).length-1):=by
 rw[Eo _ _ _ (by rw[F4];exact h),JP h,Ip,CC _ (by rw[F4];exact h),JP h,Nat.add_assoc]
theorem ZC (d:CoD) (kids:List PT):(PT.mk d kids).ct.size=Ae (ctL kids)+1:=by rw[PT.ct,CT.size]
theorem T9 (L:List CoD) (d:CoD) (kids:List PT):L++(PT.mk d kids).ct.flat L.length=CP L kids kids.length++[B3 d.op d.num d.val (Au L.length (ctL kids))]:=by
 unfold CP
 rw[PT.ct,CT.flat,List.take_length,List.append_assoc]
theorem OM : ∀ (n : Nat) (p : PT), p.ct.size ≤ n → p.fine → ∀ L : List CoD, L.length + p.ct.size ≤ 900000 → AC Tryz.prog 117 [p.av, .own (0, 0)] [((0, 0), .row true 6 87 (L.map CoD.os))] (.own (1, 0)) [((1, 0), .row true 6 87 ((L ++ p.ct.flat L.length).map CoD.os))]
  | 0, p, hn, _, _, _ => by have := p.ct.size_pos; omega
  | n + 1, .mk d kids, hn, h, L, hL => by
    have hl3 : kids.length ≤ 3 := W6 h
    have hcl := NB d.val (S1 (PT.fine_node h))
    have hln : (kids.map PT.cs).length = kids.length := by simp
    have hsz := ZC d kids
    have hnode := WR h.2 (ends := Au L.length (ctL kids)) (by rw [CL, F4]) hl3
    have hlast : (CP L kids kids.length).map CoD.os ++ [[.int .i64 d.op, .int .i64 (Er d (Au L.length (ctL kids)) kids.length 0), .int .i64 (Er d (Au L.length (ctL kids)) kids.length 1), .int .i64 (Er d (Au L.length (ctL kids)) kids.length 2), .int .i64 d.num, .osl (d.val.map CellD.cs)]] = (L ++ (PT.mk d kids).ct.flat L.length).map CoD.os := by
      have hfn : L ++ (PT.mk d kids).ct.flat L.length = CP L kids kids.length ++ [B3 d.op d.num d.val (Au L.length (ctL kids))] := T9 L d kids
      rw [hfn, hnode, List.map_append]
      rfl
    obtain ⟨z0, z1, z2⟩ := W9 d (Au L.length (ctL kids))
    have hz0 : (CP L kids 0).map CoD.os = L.map CoD.os := by unfold CP; rw [List.take_zero, ctL, AZ, List.append_nil]
    have hll : (CP L kids kids.length).length + 1 ≤ 1000000 := by
      rw [Ip, List.take_of_length_le (by rw [F4]; exact Nat.le_refl _)]
      omega
    show AC _ _ [.agg [.c (.int .i64 d.op), .c (.int .i64 d.a), .c (.int .i64 d.b), .c (.int .i64 d.c), .c (.int .i64 d.num), .c (.sl (d.val.map CellD.cs)), .c (.sl (kids.map PT.cs))], .own (0, 0)] _ _ _
    (refine AC.intro_spx [] Dd Tryz.func117 rfl Tryz.ntmps117 (Nat.le_of_ble_eq_true rfl) rfl rfl ?_; simp only [go_sem, Nat.reduceAdd])
    refine Ac q9 ?_
    refine v12 (AU [] hcl) q9 hln ?_
    refine Ar (κ := Nat) (fun k => ⟨mkS 0 41 [(1, .own (99, 0)), (2, .ptr (2, 0) 0), (4, .nils), (5, .ptr (5, 0) 0), (15, .c (.sl (kids.map PT.cs))), (16, .c (.int .i64 kids.length)), (17, .c (.int .i64 k))],
        [((2, 0), .box [.c (.int .i64 d.op), .c (.int .i64 d.a), .c (.int .i64 d.b), .c (.int .i64 d.c), .c (.int .i64 d.num), .c (.sl (d.val.map CellD.cs)), .c (.sl (kids.map PT.cs))]),
         ((5, 0), .box [.c (.int .i64 d.op), .c (.int .i64 (Er d (Au L.length (ctL kids)) k 0)), .c (.int .i64 (Er d (Au L.length (ctL kids)) k 1)), .c (.int .i64 (Er d (Au L.length (ctL kids)) k 2)), .c (.int .i64 d.num), .own (12, 0)]),
         ((12, 0), .row false 5 80 (d.val.map CellD.cs)), ((99, 0), .row true 6 87 ((CP L kids k).map CoD.os))]⟩)
      (fun k => k ≤ kids.length) (fun k => kids.length - k) 0 (Nat.zero_le _) ?_ ?_
    · exact Ab (Ah.of [((2, 0), (2, 0)), ((5, 0), (5, 0)), ((12, 0), (12, 0)), ((99, 0), (0, 0))] []) (j4 z0 z1 z2 hz0)
    intro k hk
    by_cases hlt : k < kids.length
    · have hdk : decide ((k : Int) < (kids.length : Int)) = true := decide_eq_true (by omega)
      have hw := Af (k := k) (by omega)
      obtain ⟨hr0, hg0⟩ := YX kids hlt
      have hkz : kids[k].ct.size ≤ Ae (ctL kids) := by
        rw [← JP hlt]
        exact DR (List.getElem_mem _)
      have hps : (CP L kids k).length + kids[k].ct.size ≤ 900000 := by
        have h1 := CC (ctL kids) (k := k) (by rw [F4]; exact hlt)
        have h2 := CO (ctL kids) (k + 1)
        rw [JP hlt] at h1
        rw [Ip]
        omega
      have ih := OM n kids[k] (by omega) (PT.fine_kid h (by exact List.getElem_mem hlt)) (CP L kids k) hps
      rw [Ji _ hlt] at ih
      have hsc := HH (CP L kids (k + 1))
      have he : (Au L.length (ctL kids))[k]? = some ((CP L kids (k + 1)).length - 1) := Yt L hlt
      have hpl : 1 ≤ (CP L kids (k + 1)).length := by
        rw [← Ji _ hlt, List.length_append, CT.flat_len]
        have := kids[k].ct.size_pos
        omega
      have hpu : (CP L kids (k + 1)).length ≤ 1000000 := by
        rw [← Ji _ hlt, List.length_append, CT.flat_len]
        omega
      have hwl : IntKind.i64.wrap (((CP L kids (k + 1)).length : Int) - 1) = (((CP L kids (k + 1)).length - 1 : Nat) : Int) := by rw [IntWalk.i64_in _ (by omega)]; omega
      have hnew := Yc (d := d) he
      have h0k : (0 : Int) ≤ (k : Int) := by omega
      have hc3 : k = 0 ∨ k = 1 ∨ k = 2 := by omega
      unfold PT.av at ih
      generalize kids[k].d = e at *
      generalize kids[k].kids.map PT.cs = Pe at *
      clear hnode hlast hz0 hsz hps he hll z0 z1 z2
      rcases hc3 with hc | hc | hc
      · have hkt : ((k : Nat) : Int).toNat = 0 := by omega
        have q1 := Fc (d := d) (ends := Au L.length (ctL kids)) (k := k) (j := 1) (by omega)
        have q2 := Fc (d := d) (ends := Au L.length (ctL kids)) (k := k) (j := 2) (by omega)
        have qn : Er d (Au L.length (ctL kids)) (k + 1) 0 = (((CP L kids (k + 1)).length - 1 : Nat) : Int) := by
          have := hnew
          rwa [show Er d (Au L.length (ctL kids)) (k + 1) k = Er d (Au L.length (ctL kids)) (k + 1) 0 from by rw [hc]] at this
        clear hnew hc
        refine Ac (j3 hdk hr0 hg0) ?_
        refine v10 (LN (99, 0) ih) q9 q9 ?_
        ((with_reducible apply U9); (iterate 9 (focus (first | (simp only [go_sem, Nat.reduceEqDiff, Nat.reduceAdd, Nat.reduceSub, Nat.reduceLeDiff, Nat.reduceMul, Nat.reduceBEq, Nat.reduceLT, Int.reduceToNat, reduceCtorEq]; first | done | exact rfl | (and_intros <;> rfl)) | exact rfl | decide))))
        refine Ac q9 ?_
        ((with_reducible apply MY); (iterate 9 (focus (first | (simp only [go_sem, Nat.reduceEqDiff, Nat.reduceAdd, Nat.reduceSub, Nat.reduceLeDiff, Nat.reduceMul, Nat.reduceBEq, Nat.reduceLT, Int.reduceToNat, reduceCtorEq, h0k, hkt]; first | done | exact rfl | (and_intros <;> rfl)) | exact rfl | decide))))
        refine Ac hkt ?_
        refine v7 (A3 [(24, 0)] hsc) q9 (j2 hwl hw) ?_
        refine ⟨k + 1, by omega, by omega, ?_⟩
        exact Ab (Ah.of [((2, 0), (2, 0)), ((5, 0), (5, 0)), ((12, 0), (12, 0)), ((99, 0), (24, 0))] []) (j3 q1 q2 qn)
      · have hkt : ((k : Nat) : Int).toNat = 1 := by omega
        have q0 := Fc (d := d) (ends := Au L.length (ctL kids)) (k := k) (j := 0) (by omega)
        have q2 := Fc (d := d) (ends := Au L.length (ctL kids)) (k := k) (j := 2) (by omega)
        have qn : Er d (Au L.length (ctL kids)) (k + 1) 1 = (((CP L kids (k + 1)).length - 1 : Nat) : Int) := by
          have := hnew
          rwa [show Er d (Au L.length (ctL kids)) (k + 1) k = Er d (Au L.length (ctL kids)) (k + 1) 1 from by rw [hc]] at this
        clear hnew hc
        refine Ac (j3 hdk hr0 hg0) ?_
        refine v10 (LN (99, 0) ih) q9 q9 ?_
        ((with_reducible apply U9); (iterate 9 (focus (first | (simp only [go_sem, Nat.reduceEqDiff, Nat.reduceAdd, Nat.reduceSub, Nat.reduceLeDiff, Nat.reduceMul, Nat.reduceBEq, Nat.reduceLT, Int.reduceToNat, reduceCtorEq]; first | done | exact rfl | (and_intros <;> rfl)) | exact rfl | decide))))
        refine Ac q9 ?_
        ((with_reducible apply MY); (iterate 9 (focus (first | (simp only [go_sem, Nat.reduceEqDiff, Nat.reduceAdd, Nat.reduceSub, Nat.reduceLeDiff, Nat.reduceMul, Nat.reduceBEq, Nat.reduceLT, Int.reduceToNat, reduceCtorEq, h0k, hkt]; first | done | exact rfl | (and_intros <;> rfl)) | exact rfl | decide))))
        refine Ac hkt ?_
        refine v7 (A3 [(24, 0)] hsc) q9 (j2 hwl hw) ?_
        refine ⟨k + 1, by omega, by omega, ?_⟩
        exact Ab (Ah.of [((2, 0), (2, 0)), ((5, 0), (5, 0)), ((12, 0), (12, 0)), ((99, 0), (24, 0))] []) (j3 q0 q2 qn)
      · have hkt : ((k : Nat) : Int).toNat = 2 := by omega
        have q0 := Fc (d := d) (ends := Au L.length (ctL kids)) (k := k) (j := 0) (by omega)
        have q1 := Fc (d := d) (ends := Au L.length (ctL kids)) (k := k) (j := 1) (by omega)
        have qn : Er d (Au L.length (ctL kids)) (k + 1) 2 = (((CP L kids (k + 1)).length - 1 : Nat) : Int) := by
          have := hnew
          rwa [show Er d (Au L.length (ctL kids)) (k + 1) k = Er d (Au L.length (ctL kids)) (k + 1) 2 from by rw [hc]] at this
        clear hnew hc
        refine Ac (j3 hdk hr0 hg0) ?_
        refine v10 (LN (99, 0) ih) q9 q9 ?_
        ((with_reducible apply U9); (iterate 9 (focus (first | (simp only [go_sem, Nat.reduceEqDiff, Nat.reduceAdd, Nat.reduceSub, Nat.reduceLeDiff, Nat.reduceMul, Nat.reduceBEq, Nat.reduceLT, Int.reduceToNat, reduceCtorEq]; first | done | exact rfl | (and_intros <;> rfl)) | exact rfl | decide))))
        refine Ac q9 ?_
        ((with_reducible apply MY); (iterate 9 (focus (first | (simp only [go_sem, Nat.reduceEqDiff, Nat.reduceAdd, Nat.reduceSub, Nat.reduceLeDiff, Nat.reduceMul, Nat.reduceBEq, Nat.reduceLT, Int.reduceToNat, reduceCtorEq, h0k, hkt]; first | done | exact rfl | (and_intros <;> rfl)) | exact rfl | decide))))
        refine Ac hkt ?_
        refine v7 (A3 [(24, 0)] hsc) q9 (j2 hwl hw) ?_
        refine ⟨k + 1, by omega, by omega, ?_⟩
        exact Ab (Ah.of [((2, 0), (2, 0)), ((5, 0), (5, 0)), ((12, 0), (12, 0)), ((99, 0), (24, 0))] []) (j3 q0 q1 qn)
    · have hdk : decide ((k : Int) < (kids.length : Int)) = false := decide_eq_false (by omega)
      have hke : k = kids.length := by omega
      subst hke
      refine Ac (j2 hdk hll) ?_
      exact A9 (A8 [((1, 0), (40, 0))] []) Tryz.results117 hlast
theorem AC.of_nil {P:Program}{f:FuncId}{args args':List AV}{ex:Bool}{es:Nat}{e:TypeId}{res:AV}{m':Mem}(h:AC P f args [((0,0),.row ex es e [])] res m')
  (ha:∀(w:World) (S:Nat→Prop) (κ κ':Id→Value) (vs:List Value),κ' (0,0)=.slice none 0 0→ARs w S [] κ args' vs→ARs w S [((0,0),.row ex es e [])] κ' args vs):AC P f args' [] res m':=by
 intro Γ vals hE hA
 let κ':Id→Value:=fun i=>if i=(0,0) then .slice none 0 0 else Γ.κ i
 have hk:κ' (0,0)=.slice none 0 0:=if_pos rfl
 have hE':Entry { Γ with κ:=κ',ext:=[(0,0)] } [((0,0),.row ex es e [])]:=by
  refine⟨fun i o hi=>?_,fun b i hb=>?_,rfl⟩
  ·by_cases h0:i=(0,0)
   ·subst h0
    have:o=.row ex es e []:=(Option.some.inj hi).symm
    subst this
    refine⟨[],[],⟨rfl,rfl⟩,fun _=>rfl,by simp,?_,?_,?_⟩
    ·show World.ownsRow _ _ _ _ (κ' (0,0)) _ _
     rw[hk]
     exact World.ownsRow_nil _ _ _ _
    ·show ((κ' (0,0)).ownBlock.toList++[]).Nodup
     rw[hk]
     simp[Value.ownBlock]
    ·intro b hb
     have hb':b∈(κ' (0,0)).ownBlock.toList++[]:=hb
     rw[hk]at hb'
     simp[Value.ownBlock]at hb'
   ·have hb:(i==(0,0))=false:=by simpa using h0
    simp[Mem.get,List.lookup_cons,hb]at hi
  ·obtain⟨_,o,h1,_⟩:=hE.own b i hb
   simp[Mem.get]at h1
 refine (h _ vals hE' (ha _ _ _ _ _ hk hA)).mono ?_
 rintro e1 w' ⟨v,ow,κ,rfl,hx⟩
 exact⟨v,ow,κ,rfl,hx.res,hx.objs,hx.own,hx.os,hx.tape,hx.output,hx.size,hx.frame,fun i o o' hi=>by simp[Mem.get]at hi⟩
theorem WS (n:Nat) (p:PT) (hn:p.ct.size≤n) (hf:p.fine) (hs:p.ct.size≤900000):AC Tryz.prog 117 [p.av,.nils] [] (.own (0,0)) [((0,0),.row true 6 87 (([]++p.ct.flat 0).map CoD.os))]:=by
 have h:=AC.of_nil (args':=[p.av,.nils]) (OM n p hn hf [] (by simpa using hs)) fun w S κ κ' vs hk hv=>by
  obtain⟨v,vs',rfl,⟨us,h1,h2,h3⟩,u,us',rfl,h4,h5⟩:=hv
  exact⟨v,_,rfl,⟨us,h1,ARs.of_CRs (ARs.data (cs:=[_,_,_,_,_,_,_]) h2),h3⟩,u,us',rfl,⟨by rw[show u=.slice none 0 0 from h4];rfl,_,rfl,fun _=>by rw[hk];exact h4⟩,h5⟩
 exact wAS (AC.says [((0,0),(1,0))] [] h ) q9
set_option maxRecDepth 10000
theorem Vt (F:Int→Int→List CellD→List CT→Option CT):∀l:List CT,(rwL F l).1=l.map fun t=>(t.rw F).1
 | []=>by rw[rwL];rfl
 |t::l=>by rw[rwL,Vt F l];rfl
theorem U6 {op num:Int}{val:List CellD}{ends:List Nat}{qs:List PT}(hl:ends.length=qs.length) (hz:Ny qs):(PT.mk (B3 op num val ends) qs).zero:=by
 unfold PT.zero
 refine⟨fun h=>?_,fun h=>?_,fun h=>?_,hz⟩
 ·show ((ends[0]?.getD 0:Nat):Int)=0
  rw[List.getElem?_eq_none (by omega)];rfl
 ·show ((ends[1]?.getD 0:Nat):Int)=0
  rw[List.getElem?_eq_none (by omega)];rfl
 ·show ((ends[2]?.getD 0:Nat):Int)=0
  rw[List.getElem?_eq_none (by omega)];rfl
theorem PL (l:List PT):AQ (l.map PT.cs)=l.map PT.cs:=Cu _ (fun p=>by rw[PT.cs_eq];rfl) l
attribute [go_sem] PL
def Hr (L:List CoD) (m:Nat) (f:FuncId):AO:=.box [AA L,.c (.int .i64 m),.clo f []]
def SL (f:FuncId) (F:Int→Int→List CellD→List CT→Option CT):Prop:=∀p:PT,p.fine→∃q b,SM (F p.d.op p.d.num p.d.val (ctL p.kids)) q b∧AC Tryz.prog f [p.av] [] (T7 (q,b)) []
theorem KP {α β:Type}{R:α→β→Prop}:∀(l:List α),(∀x∈l,∃y,R x y)→∃ys:List β,ys.length=l.length∧∀(k:Nat) (h:k<l.length) (h':k<ys.length),R l[k] ys[k]
 | [],_=>⟨[],rfl,fun k h=>absurd h (by simp)⟩
 |x::l,h=>by
  obtain⟨y,hy⟩:=h x (by simp)
  obtain⟨ys,h1,h2⟩:=KP l fun z hz=>h z (by simp[hz])
  refine⟨y::ys,by simp[h1],fun k hk hk'=>?_⟩
  cases k with
  |zero=>exact hy
  |succ k=>exact h2 k (by simpa using hk) (by simpa using hk')
theorem Vl {f : FuncId} (hcal : A6 Tryz.prog f = true) {F : Int → Int → List CellD → List CT → Option CT} (hf : SL f F) {L : List CoD} (hL : L.length ≤ 900) :
    ∀ (n : Nat) (t : CT) (b : Nat), t.size ≤ n → t.ok → Seg L b t → ∃ q : PT, q.fine ∧ q.ct = (t.rw F).1 ∧ (t.rw F).2 ≤ t.size ∧ ∀ m : Nat, m + t.size ≤ 900000 →
      AC Tryz.prog 116 [.ptr (0, 0) 0, .c (.int .i64 ((b + t.size - 1 : Nat) : Int))] [((0, 0), Hr L m f)] q.av [((0, 0), Hr L (m + (t.rw F).2) f)]
  | 0, t, b, hn, _, _ => by have := t.size_pos; omega
  | n + 1, .mk op num val kids, b, hn, ho, hs => by
    have ho' := ho
    unfold CT.ok at ho'
    obtain ⟨hnode, hal, hok⟩ := ho'
    have hszE : (CT.mk op num val kids).size = Ae kids + 1 := by rw [CT.size]
    have hroot := hs.root
    have hsk := hs.kids
    have hend : (Au b kids).length = kids.length := CL _ _
    have h3 := Bl op
    -- the parts that become of those that are named
    obtain ⟨qs, hql, hq⟩ : ∃ qs : List PT, qs.length = kids.length ∧ ∀ (k : Nat) (h : k < kids.length) (h' : k < qs.length), qs[k].fine ∧ qs[k].ct = (kids[k].rw F).1 ∧ (kids[k].rw F).2 ≤ kids[k].size ∧ ∀ m : Nat, m + kids[k].size ≤ 900000 →
        AC Tryz.prog 116 [.ptr (0, 0) 0, .c (.int .i64 ((b + Ae (kids.take k) + kids[k].size - 1 : Nat) : Int))] [((0, 0), Hr L m f)] qs[k].av [((0, 0), Hr L (m + (kids[k].rw F).2) f)] := by
      have hall : ∀ x ∈ List.finRange kids.length, ∃ q : PT, q.fine ∧ q.ct = ((kids[x.1]'x.2).rw F).1 ∧ ((kids[x.1]'x.2).rw F).2 ≤ (kids[x.1]'x.2).size ∧ ∀ m : Nat, m + (kids[x.1]'x.2).size ≤ 900000 →
          AC Tryz.prog 116 [.ptr (0, 0) 0, .c (.int .i64 ((b + Ae (kids.take x.1) + (kids[x.1]'x.2).size - 1 : Nat) : Int))] [((0, 0), Hr L m f)] q.av [((0, 0), Hr L (m + ((kids[x.1]'x.2).rw F).2) f)] := fun x _ => by
        have hx := DR (List.getElem_mem x.2)
        exact Vl hcal hf hL n _ (b + Ae (kids.take x.1)) (by omega) (AY.1 hok _ (List.getElem_mem x.2)) (ER kids b x.1 x.2 hsk)
      obtain ⟨qs, h1, h2⟩ := KP _ hall
      rw [List.length_finRange] at h1
      refine ⟨qs, h1, fun k h h' => ?_⟩
      have := h2 k (by rw [List.length_finRange]; exact h) h'
      simpa using this
    have hct : ctL qs = (rwL F kids).1 := by
      rw [FY, Vt]
      refine List.ext_getElem (by simp [hql]) fun k h1 h2 => ?_
      simp only [List.getElem_map]
      exact (hq k (by simpa using h2) (by simpa using h1)).2.1
    have hfq : ∀ q ∈ qs, q.fine := fun q h => by
      obtain ⟨k, hk, rfl⟩ := List.mem_iff_getElem.1 h
      exact (hq k (by omega) hk).1
    have hcnt : ∀ k, k ≤ kids.length → (rwL F (kids.take k)).2 ≤ Ae (kids.take k) := by
      intro k
      induction k with
      | zero => intro _; rw [List.take_zero, rwL]; exact Nat.zero_le _
      | succ k ih =>
        intro hk
        obtain ⟨_, e⟩ := Nj F kids (k := k) (by omega)
        have e2 := CC kids (k := k) (by omega)
        have := ih (by omega)
        have := (hq k (by omega) (by omega)).2.2.1
        omega
    have hpf : (PT.mk (B3 op num val (Au b kids)) qs).fine := by
      refine ⟨?_, U6 (by rw [hend, hql]) (KJ.2 fun q h => (hfq q h).2)⟩
      rw [PT.ct, CT.ok]
      exact ⟨hnode, by rw [F4, hql, hal]; rfl, AY.2 fun t ht => by
        rw [FY] at ht
        obtain ⟨q, hq1, rfl⟩ := List.mem_map.1 ht
        exact (hfq q hq1).1⟩
    obtain ⟨q, c, hfr, hfa⟩ := hf _ hpf
    have hfr' : SM (F op num val (rwL F kids).1) q c := by
      have : SM (F op num val (ctL qs)) q c := hfr
      rwa [hct] at this
    have hD : ∃ d, B3 op num val (Au b kids) = d := ⟨_, rfl⟩
    obtain ⟨d, hd⟩ := hD
    have hdop : d.op = op := by rw [← hd]; rfl
    have hnm : d.named = (Au b kids).map fun (x : Nat) => (x : Int) := by rw [← hd]; exact G1 (by rw [hend, hal])
    rw [hd] at hroot hpf hfa
    have hplace : b + (CT.mk op num val kids).size - 1 = b + Ae kids := by omega
    have hin : b + Ae kids < L.length := (List.getElem?_eq_some_iff.1 hroot).1
    have hge := (List.getElem?_eq_some_iff.1 hroot).2
    obtain ⟨hr0, hg0⟩ := E5 L hin
    rw [hge] at hg0
    have hnmd := MU d (by rw [hdop]; exact hnode.kind.1) (by rw [hdop]; exact hnode.kind.2)
    have hnl : (d.named.map Aw).length = kids.length := by rw [List.length_map, hnm, List.length_map, hend]
    have hp7 : ([] : List PT).map PT.cs = [] := rfl
    have hsk0 : (rwL F (kids.take 0)).2 = 0 := by rw [List.take_zero, rwL]
    have walk : ∀ (m : Nat), m + (Ae kids + 1) ≤ 900000 → ∀ (q' : PT) (m' : Nat), (q' = if c then q else PT.mk d qs) → m' = m + (rwL F kids).2 + (if c then 1 else 0) →
        AC Tryz.prog 116 [.ptr (0, 0) 0, .c (.int .i64 ((b + Ae kids : Nat) : Int))] [((0, 0), Hr L m f)] q'.av [((0, 0), Hr L m' f)] := by
      intro m hm q' m' hq' hm'
      have hc0 := hcnt kids.length (Nat.le_refl _)
      rw [List.take_length] at hc0
      have hfin : Hr L (m + (rwL F (kids.take kids.length)).2) f = Hr L (m + (rwL F kids).2) f := by rw [List.take_length]
      have hqs : (qs.take kids.length).map PT.cs = qs.map PT.cs := by rw [← hql, List.take_length]
      generalize b + Ae kids = place at *
      unfold Hr
      refine A7 Tryz.func116 Tryz.ntmps116 (j2 hr0 hg0) ?_
      refine v12 (AU [] hnmd) q9 hnl ?_
      refine Ar (κ := Nat) (fun k => ⟨mkS 0 54 [(0, .ptr (0, 0) 0), (4, .ptr (4, 0) 0), (5, .ptr (5, 0) 0), (20, .own (20, 0)), (21, .c (.int .i64 kids.length)), (22, .c (.int .i64 k))],
          [((0, 0), .box [AA L, .c (.int .i64 ((m + (rwL F (kids.take k)).2 : Nat) : Int)), .clo f []]), ((4, 0), .box [.c (.int .i64 0), .c (.int .i64 0), .c (.int .i64 0), .c (.int .i64 0), .c (.int .i64 0), .nils, .nils]),
           ((5, 0), .box [.c (.int .i64 d.op), .c (.int .i64 d.a), .c (.int .i64 d.b), .c (.int .i64 d.c), .c (.int .i64 d.num), .c (.sl (d.val.map CellD.cs)), .own (96, 0)]),
           ((20, 0), .row false 1 2 (d.named.map Aw)), ((96, 0), .row false 7 98 ((qs.take k).map PT.cs))]⟩)
        (fun k => k ≤ kids.length) (fun k => kids.length - k) 0 (Nat.zero_le _) ?_ ?_
      · (apply (Ah.of [((0, 0), (0, 0)), ((4, 0), (4, 0)), ((5, 0), (5, 0)), ((20, 0), (20, 0))] []); (iterate 2 ((focus (simp only [go_sem, Nat.reduceEqDiff, Nat.reduceAdd, Nat.reduceSub, Nat.reduceLeDiff, Nat.reduceMul, Nat.reduceBEq, Nat.reduceLT, Int.reduceToNat, reduceCtorEq, hp7, hsk0, List.take_zero, Nat.add_zero]; try (and_intros <;> rfl))); (focus exact rfl))); (iterate 4 (focus (simp [go_sem, hp7, hsk0, List.take_zero, Nat.add_zero]; done))))
      intro k hk
      by_cases hlt : k < kids.length
      · have hdk : decide ((k : Int) < (kids.length : Int)) = true := decide_eq_true (by omega)
        have hw := Af (k := k) (by omega)
        obtain ⟨hri, hgi⟩ := EN d.named (k := k) (by rw [hnm, List.length_map, hend]; exact hlt)
        have hgi2 : d.named[k]'(by rw [hnm, List.length_map, hend]; exact hlt) = ((b + Ae (kids.take k) + kids[k].size - 1 : Nat) : Int) := by
          have h1 : d.named[k]? = some ((b + Ae (kids.take k) + kids[k].size - 1 : Nat) : Int) := by rw [hnm, List.getElem?_map, Eo _ _ _ hlt]; rfl
          exact (List.getElem?_eq_some_iff.1 h1).2
        rw [hgi2] at hgi
        have hck := hcnt k hk
        have hkz := CC kids hlt
        have hkz2 := CO kids (k + 1)
        obtain ⟨q1, q2, q3, q4⟩ := hq k hlt (by omega)
        have ih := q4 (m + (rwL F (kids.take k)).2) (by omega)
        obtain ⟨_, e⟩ := Nj F kids hlt
        have hsum : m + (rwL F (kids.take k)).2 + (kids[k].rw F).2 = m + (rwL F (kids.take (k + 1))).2 := by omega
        rw [hsum] at ih
        have hrow : (qs.take k).map PT.cs ++ [[.int .i64 qs[k].d.op, .int .i64 qs[k].d.a, .int .i64 qs[k].d.b, .int .i64 qs[k].d.c, .int .i64 qs[k].d.num, .sl (qs[k].d.val.map CellD.cs), .sl (qs[k].kids.map PT.cs)]] = (qs.take (k + 1)).map PT.cs := by
          rw [List.take_succ_eq_append_getElem (by omega), List.map_append, List.map_cons, List.map_nil, ← PT.cs_eq]
        have hln : (qs.take k).length + 1 ≤ 1000000 := by rw [List.length_take]; omega
        unfold Hr PT.av at ih
        generalize qs.take k = Q at *
        clear hfin hqs hq hct hfq hpf hfr hfr' hfa hgi2 q1 q2 q3 q4 e hsum hq' hm'
        generalize qs[k].d = e at *
        generalize qs[k].kids.map PT.cs = Pe at *
        generalize hm2 : m + (rwL F (kids.take (k + 1))).2 = m2 at *
        generalize m + (rwL F (kids.take k)).2 = m1 at *
        refine Ac (j3 hdk hri hgi) ?_
        refine Ca (As [((0, 0), (0, 0))] [((0, 0), (0, 0))] ih) q9 (j2 hln hw) ?_
        refine ⟨k + 1, by omega, by omega, ?_⟩
        exact Ab (Ah.of [((0, 0), (0, 0)), ((4, 0), (4, 0)), ((5, 0), (5, 0)), ((20, 0), (20, 0)), ((96, 0), (32, 0))] []) (j2 hrow hm2)
      · have hdk : decide ((k : Int) < (kids.length : Int)) = false := decide_eq_false (by omega)
        have hke : k = kids.length := by omega
        subst hke
        have hwm : IntKind.i64.wrap (((m + (rwL F kids).2 : Nat) : Int) + 1) = ((m + (rwL F kids).2 + 1 : Nat) : Int) := by rw [IntWalk.i64_in _ (by omega)]; omega
        rw [List.take_length, hqs]
        have hfa' : AC Tryz.prog f [.agg [.c (.int .i64 d.op), .c (.int .i64 d.a), .c (.int .i64 d.b), .c (.int .i64 d.c), .c (.int .i64 d.num), .c (.sl (d.val.map CellD.cs)), .c (.sl (qs.map PT.cs))]] [] (.tup [q.av, .c (.bool c)]) [] := hfa
        clear hfin hqs hq hct hfq hpf hfr hfr' hfa
        cases c with
        | true =>
          rw [if_pos rfl] at hq' hm'
          subst hq'
          subst hm'
          unfold PT.av at *
          generalize q'.d = e at *
          generalize q'.kids.map PT.cs = Pe at *
          generalize m + (rwL F kids).2 = m1 at *
          refine Ac hdk ?_
          refine v9 (A4 [(96, 0)] hfa') hcal hwm ?_
          exact A9 (A8 [((0, 0), (0, 0))] []) Tryz.results116 hwm
        | false =>
          rw [if_neg (by decide)] at hq' hm'
          rw [Nat.add_zero] at hm'
          subst hq'
          subst hm'
          unfold PT.av at *
          generalize q.d = e at *
          generalize q.kids.map PT.cs = Pe at *
          generalize m + (rwL F kids).2 = m1 at *
          refine Ac hdk ?_
          refine v9 (A4 [(96, 0)] hfa') hcal q9 ?_
          exact A9 (A8 [((0, 0), (0, 0))] [(96, 0)]) Tryz.results116 hwm
    have hcN := hcnt kids.length (Nat.le_refl _)
    rw [List.take_length] at hcN
    rcases hfr' with ⟨hc, hqf, hF⟩ | ⟨hc, hF⟩
    · have hrw : (CT.mk op num val kids).rw F = (q.ct, (rwL F kids).2 + 1) := by rw [CT.rw, hF]
      refine ⟨q, hqf, by rw [hrw], by rw [hrw, hszE]; show (rwL F kids).2 + 1 ≤ _; omega, fun m hm => ?_⟩
      rw [hplace, hrw]
      exact walk m (by omega) q _ (by rw [hc]; rfl) (by rw [hc]; rfl)
    · have hrw : (CT.mk op num val kids).rw F = (CT.mk op num val (rwL F kids).1, (rwL F kids).2) := by rw [CT.rw, hF]
      refine ⟨PT.mk d qs, hpf, ?_, by rw [hrw, hszE]; show (rwL F kids).2 ≤ _; omega, fun m hm => ?_⟩
      · rw [hrw, PT.ct, hct, ← hd]; rfl
      · rw [hplace, hrw]
        exact walk m (by omega) _ _ (by rw [hc]; rfl) (by rw [hc]; rfl)
end Go.Proofs.YtcejfdfmgmcinaaGreat
