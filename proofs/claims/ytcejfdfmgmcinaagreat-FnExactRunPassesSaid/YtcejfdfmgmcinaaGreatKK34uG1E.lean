/- Texts of this proof: K34 K35 G1D G1E. -/
import Derived.Test.YtcejfdfmgmcinaaGreatKK32uK33
set_option linter.all false
set_option maxHeartbeats 8000000
namespace Go.Proofs.YtcejfdfmgmcinaaGreat
open Go.RowKit
set_option maxRecDepth 10000
theorem X4 (F:Int→Int→List CellD→List CT→Option CT):∀l:List CT,(rwL F l).1=l.map fun t=>(t.rw F).1
 | []=>by rw[rwL];rfl
 |t::l=>by rw[rwL,X4 F l];rfl
theorem VH {op num:Int}{val:List CellD}{ends:List Nat}{qs:List PT}(hl:ends.length=qs.length) (hz:MJ qs):(PT.mk (B9 op num val ends) qs).zero:=by
 unfold PT.zero
 refine⟨fun h=>?_,fun h=>?_,fun h=>?_,hz⟩
 ·show ((ends[0]?.getD 0:Nat):Int)=0
  rw[List.getElem?_eq_none (by omega)];rfl
 ·show ((ends[1]?.getD 0:Nat):Int)=0
  rw[List.getElem?_eq_none (by omega)];rfl
 ·show ((ends[2]?.getD 0:Nat):Int)=0
  rw[List.getElem?_eq_none (by omega)];rfl
theorem Rc (l:List PT):AT (l.map PT.cs)=l.map PT.cs:=CM _ (fun p=>by rw[PT.cs_eq];rfl) l
attribute [go_sem] Rc
def Iv (L:List CoD) (m:Nat) (f:FuncId):AO:=.box [AE L,.c (.int .i64 m),.clo f []]
def Iz (f:FuncId) (F:Int→Int→List CellD→List CT→Option CT):Prop:=∀p:PT,p.fine→∃q b,MK (F p.d.op p.d.num p.d.val (ctL p.kids)) q b∧AC Tryz.prog f [p.av] [] (Iy (q,b)) []
theorem M9 {α β:Type}{R:α→β→Prop}:∀(l:List α),(∀x∈l,∃y,R x y)→∃ys:List β,ys.length=l.length∧∀(k:Nat) (h:k<l.length) (h':k<ys.length),R l[k] ys[k]
 | [],_=>⟨[],rfl,fun k h=>absurd h (by simp)⟩
 |x::l,h=>by
  obtain⟨y,hy⟩:=h x (by simp)
  obtain⟨ys,h1,h2⟩:=M9 l fun z hz=>h z (by simp[hz])
  refine⟨y::ys,by simp[h1],fun k hk hk'=>?_⟩
  cases k with
  |zero=>exact hy
  |succ k=>exact h2 k (by simpa using hk) (by simpa using hk')
theorem WW {f : FuncId} (hcal : A7 Tryz.prog f = true) {F : Int → Int → List CellD → List CT → Option CT} (hf : Iz f F) {L : List CoD} (hL : L.length ≤ 900) :
    ∀ (n : Nat) (t : CT) (b : Nat), t.size ≤ n → t.ok → Seg L b t → ∃ q : PT, q.fine ∧ q.ct = (t.rw F).1 ∧ (t.rw F).2 ≤ t.size ∧ ∀ m : Nat, m + t.size ≤ 900000 →
      AC Tryz.prog 116 [.ptr (0, 0) 0, .c (.int .i64 ((b + t.size - 1 : Nat) : Int))] [((0, 0), Iv L m f)] q.av [((0, 0), Iv L (m + (t.rw F).2) f)]
  | 0, t, b, hn, _, _ => by have := t.size_pos; omega
  | n + 1, .mk op num val kids, b, hn, ho, hs => by
    have ho' := ho
    unfold CT.ok at ho'
    obtain ⟨hnode, hal, hok⟩ := ho'
    have hszE : (CT.mk op num val kids).size = Ah kids + 1 := by rw [CT.size]
    have hroot := hs.root
    have hsk := hs.kids
    have hend : (Az b kids).length = kids.length := Df _ _
    have h3 := Bx op
    -- the parts that become of those that are named
    obtain ⟨qs, hql, hq⟩ : ∃ qs : List PT, qs.length = kids.length ∧ ∀ (k : Nat) (h : k < kids.length) (h' : k < qs.length), qs[k].fine ∧ qs[k].ct = (kids[k].rw F).1 ∧ (kids[k].rw F).2 ≤ kids[k].size ∧ ∀ m : Nat, m + kids[k].size ≤ 900000 →
        AC Tryz.prog 116 [.ptr (0, 0) 0, .c (.int .i64 ((b + Ah (kids.take k) + kids[k].size - 1 : Nat) : Int))] [((0, 0), Iv L m f)] qs[k].av [((0, 0), Iv L (m + (kids[k].rw F).2) f)] := by
      have hall : ∀ x ∈ List.finRange kids.length, ∃ q : PT, q.fine ∧ q.ct = ((kids[x.1]'x.2).rw F).1 ∧ ((kids[x.1]'x.2).rw F).2 ≤ (kids[x.1]'x.2).size ∧ ∀ m : Nat, m + (kids[x.1]'x.2).size ≤ 900000 →
          AC Tryz.prog 116 [.ptr (0, 0) 0, .c (.int .i64 ((b + Ah (kids.take x.1) + (kids[x.1]'x.2).size - 1 : Nat) : Int))] [((0, 0), Iv L m f)] q.av [((0, 0), Iv L (m + ((kids[x.1]'x.2).rw F).2) f)] := fun x _ => by
        have hx := Et (List.getElem_mem x.2)
        exact WW hcal hf hL n _ (b + Ah (kids.take x.1)) (by omega) (B4.1 hok _ (List.getElem_mem x.2)) (Fw kids b x.1 x.2 hsk)
      obtain ⟨qs, h1, h2⟩ := M9 _ hall
      rw [List.length_finRange] at h1
      refine ⟨qs, h1, fun k h h' => ?_⟩
      have := h2 k (by rw [List.length_finRange]; exact h) h'
      simpa using this
    have hct : ctL qs = (rwL F kids).1 := by
      rw [GB, X4]
      refine List.ext_getElem (by simp [hql]) fun k h1 h2 => ?_
      simp only [List.getElem_map]
      exact (hq k (by simpa using h2) (by simpa using h1)).2.1
    have hfq : ∀ q ∈ qs, q.fine := fun q h => by
      obtain ⟨k, hk, rfl⟩ := List.mem_iff_getElem.1 h
      exact (hq k (by omega) hk).1
    have hcnt : ∀ k, k ≤ kids.length → (rwL F (kids.take k)).2 ≤ Ah (kids.take k) := by
      intro k
      induction k with
      | zero => intro _; rw [List.take_zero, rwL]; exact Nat.zero_le _
      | succ k ih =>
        intro hk
        obtain ⟨_, e⟩ := Ox F kids (k := k) (by omega)
        have e2 := D5 kids (k := k) (by omega)
        have := ih (by omega)
        have := (hq k (by omega) (by omega)).2.2.1
        omega
    have hpf : (PT.mk (B9 op num val (Az b kids)) qs).fine := by
      refine ⟨?_, VH (by rw [hend, hql]) (M4.2 fun q h => (hfq q h).2)⟩
      rw [PT.ct, CT.ok]
      exact ⟨hnode, by rw [FJ, hql, hal]; rfl, B4.2 fun t ht => by
        rw [GB] at ht
        obtain ⟨q, hq1, rfl⟩ := List.mem_map.1 ht
        exact (hfq q hq1).1⟩
    obtain ⟨q, c, hfr, hfa⟩ := hf _ hpf
    have hfr' : MK (F op num val (rwL F kids).1) q c := by
      have : MK (F op num val (ctL qs)) q c := hfr
      rwa [hct] at this
    have hD : ∃ d, B9 op num val (Az b kids) = d := ⟨_, rfl⟩
    obtain ⟨d, hd⟩ := hD
    have hdop : d.op = op := by rw [← hd]; rfl
    have hnm : d.named = (Az b kids).map fun (x : Nat) => (x : Int) := by rw [← hd]; exact GD (by rw [hend, hal])
    rw [hd] at hroot hpf hfa
    have hplace : b + (CT.mk op num val kids).size - 1 = b + Ah kids := by omega
    have hin : b + Ah kids < L.length := (List.getElem?_eq_some_iff.1 hroot).1
    have hge := (List.getElem?_eq_some_iff.1 hroot).2
    obtain ⟨hr0, hg0⟩ := EJ L hin
    rw [hge] at hg0
    have hnmd := O8 d (by rw [hdop]; exact hnode.kind.1) (by rw [hdop]; exact hnode.kind.2)
    have hnl : (d.named.map As).length = kids.length := by rw [List.length_map, hnm, List.length_map, hend]
    have hp7 : ([] : List PT).map PT.cs = [] := rfl
    have hsk0 : (rwL F (kids.take 0)).2 = 0 := by rw [List.take_zero, rwL]
    have walk : ∀ (m : Nat), m + (Ah kids + 1) ≤ 900000 → ∀ (q' : PT) (m' : Nat), (q' = if c then q else PT.mk d qs) → m' = m + (rwL F kids).2 + (if c then 1 else 0) →
        AC Tryz.prog 116 [.ptr (0, 0) 0, .c (.int .i64 ((b + Ah kids : Nat) : Int))] [((0, 0), Iv L m f)] q'.av [((0, 0), Iv L m' f)] := by
      intro m hm q' m' hq' hm'
      have hc0 := hcnt kids.length (Nat.le_refl _)
      rw [List.take_length] at hc0
      have hfin : Iv L (m + (rwL F (kids.take kids.length)).2) f = Iv L (m + (rwL F kids).2) f := by rw [List.take_length]
      have hqs : (qs.take kids.length).map PT.cs = qs.map PT.cs := by rw [← hql, List.take_length]
      generalize b + Ah kids = place at *
      unfold Iv
      refine A6 Tryz.func116 Tryz.ntmps116 (j2 hr0 hg0) ?_
      refine v12 (AU [] hnmd) q9 hnl ?_
      refine Ar (κ := Nat) (fun k => ⟨mkS 0 54 [(0, .ptr (0, 0) 0), (4, .ptr (4, 0) 0), (5, .ptr (5, 0) 0), (20, .own (20, 0)), (21, .c (.int .i64 kids.length)), (22, .c (.int .i64 k))],
          [((0, 0), .box [AE L, .c (.int .i64 ((m + (rwL F (kids.take k)).2 : Nat) : Int)), .clo f []]), ((4, 0), .box [.c (.int .i64 0), .c (.int .i64 0), .c (.int .i64 0), .c (.int .i64 0), .c (.int .i64 0), .nils, .nils]),
           ((5, 0), .box [.c (.int .i64 d.op), .c (.int .i64 d.a), .c (.int .i64 d.b), .c (.int .i64 d.c), .c (.int .i64 d.num), .c (.sl (d.val.map CellD.cs)), .own (96, 0)]),
           ((20, 0), .row false 1 2 (d.named.map As)), ((96, 0), .row false 7 98 ((qs.take k).map PT.cs))]⟩)
        (fun k => k ≤ kids.length) (fun k => kids.length - k) 0 (Nat.zero_le _) ?_ ?_
      · (apply (Aj.of [((0, 0), (0, 0)), ((4, 0), (4, 0)), ((5, 0), (5, 0)), ((20, 0), (20, 0))] []); (iterate 2 ((focus (simp only [go_sem, Nat.reduceEqDiff, Nat.reduceAdd, Nat.reduceSub, Nat.reduceLeDiff, Nat.reduceMul, Nat.reduceBEq, Nat.reduceLT, Int.reduceToNat, reduceCtorEq, hp7, hsk0, List.take_zero, Nat.add_zero]; try (and_intros <;> rfl))); (focus exact rfl))); (iterate 4 (focus (simp [go_sem, hp7, hsk0, List.take_zero, Nat.add_zero]; done))))
      intro k hk
      by_cases hlt : k < kids.length
      · have hdk : decide ((k : Int) < (kids.length : Int)) = true := decide_eq_true (by omega)
        have hw := Ad (k := k) (by omega)
        obtain ⟨hri, hgi⟩ := D2 d.named (k := k) (by rw [hnm, List.length_map, hend]; exact hlt)
        have hgi2 : d.named[k]'(by rw [hnm, List.length_map, hend]; exact hlt) = ((b + Ah (kids.take k) + kids[k].size - 1 : Nat) : Int) := by
          have h1 : d.named[k]? = some ((b + Ah (kids.take k) + kids[k].size - 1 : Nat) : Int) := by rw [hnm, List.getElem?_map, F2 _ _ _ hlt]; rfl
          exact (List.getElem?_eq_some_iff.1 h1).2
        rw [hgi2] at hgi
        have hck := hcnt k hk
        have hkz := D5 kids hlt
        have hkz2 := Di kids (k + 1)
        obtain ⟨q1, q2, q3, q4⟩ := hq k hlt (by omega)
        have ih := q4 (m + (rwL F (kids.take k)).2) (by omega)
        obtain ⟨_, e⟩ := Ox F kids hlt
        have hsum : m + (rwL F (kids.take k)).2 + (kids[k].rw F).2 = m + (rwL F (kids.take (k + 1))).2 := by omega
        rw [hsum] at ih
        have hrow : (qs.take k).map PT.cs ++ [[.int .i64 qs[k].d.op, .int .i64 qs[k].d.a, .int .i64 qs[k].d.b, .int .i64 qs[k].d.c, .int .i64 qs[k].d.num, .sl (qs[k].d.val.map CellD.cs), .sl (qs[k].kids.map PT.cs)]] = (qs.take (k + 1)).map PT.cs := by
          rw [List.take_succ_eq_append_getElem (by omega), List.map_append, List.map_cons, List.map_nil, ← PT.cs_eq]
        have hln : (qs.take k).length + 1 ≤ 1000000 := by rw [List.length_take]; omega
        unfold Iv PT.av at ih
        generalize qs.take k = Q at *
        clear hfin hqs hq hct hfq hpf hfr hfr' hfa hgi2 q1 q2 q3 q4 e hsum hq' hm'
        generalize qs[k].d = e at *
        generalize qs[k].kids.map PT.cs = Pe at *
        generalize hm2 : m + (rwL F (kids.take (k + 1))).2 = m2 at *
        generalize m + (rwL F (kids.take k)).2 = m1 at *
        refine Ab (j3 hdk hri hgi) ?_
        refine Bw (Am [((0, 0), (0, 0))] [((0, 0), (0, 0))] ih) q9 (j2 hln hw) ?_
        refine ⟨k + 1, by omega, by omega, ?_⟩
        exact Ac (Aj.of [((0, 0), (0, 0)), ((4, 0), (4, 0)), ((5, 0), (5, 0)), ((20, 0), (20, 0)), ((96, 0), (32, 0))] []) (j2 hrow hm2)
      · have hdk : decide ((k : Int) < (kids.length : Int)) = false := decide_eq_false (by omega)
        have hke : k = kids.length := by omega
        subst hke
        have hwm : IntKind.i64.wrap (((m + (rwL F kids).2 : Nat) : Int) + 1) = ((m + (rwL F kids).2 + 1 : Nat) : Int) := by rw [IntWalk.i64_in _ (by omega)]; omega
        rw [List.take_length, hqs]
        have hfa' : AC Tryz.prog f [.agg [.c (.int .i64 d.op), .c (.int .i64 d.a), .c (.int .i64 d.b), .c (.int .i64 d.c), .c (.int .i64 d.num), .c (.sl (d.val.map CellD.cs)), .c (.sl (qs.map PT.cs))]] [] (.tup [q.av, .c (.bool c)]) [] := hfa
        clear hfin hqs hq hct hfq hpf hfr hfr' hfa
        cases c with
        | true =>
          rw [if_pos rfl] at hq' hm'
          subst hq'
          subst hm'
          unfold PT.av at *
          generalize q'.d = e at *
          generalize q'.kids.map PT.cs = Pe at *
          generalize m + (rwL F kids).2 = m1 at *
          refine Ab hdk ?_
          refine v9 (A4 [(96, 0)] hfa') hcal hwm ?_
          exact Aa (A9 [((0, 0), (0, 0))] []) Tryz.results116 hwm
        | false =>
          rw [if_neg (by decide)] at hq' hm'
          rw [Nat.add_zero] at hm'
          subst hq'
          subst hm'
          unfold PT.av at *
          generalize q.d = e at *
          generalize q.kids.map PT.cs = Pe at *
          generalize m + (rwL F kids).2 = m1 at *
          refine Ab hdk ?_
          refine v9 (A4 [(96, 0)] hfa') hcal q9 ?_
          exact Aa (A9 [((0, 0), (0, 0))] [(96, 0)]) Tryz.results116 hwm
    have hcN := hcnt kids.length (Nat.le_refl _)
    rw [List.take_length] at hcN
    rcases hfr' with ⟨hc, hqf, hF⟩ | ⟨hc, hF⟩
    · have hrw : (CT.mk op num val kids).rw F = (q.ct, (rwL F kids).2 + 1) := by rw [CT.rw, hF]
      refine ⟨q, hqf, by rw [hrw], by rw [hrw, hszE]; show (rwL F kids).2 + 1 ≤ _; omega, fun m hm => ?_⟩
      rw [hplace, hrw]
      exact walk m (by omega) q _ (by rw [hc]; rfl) (by rw [hc]; rfl)
    · have hrw : (CT.mk op num val kids).rw F = (CT.mk op num val (rwL F kids).1, (rwL F kids).2) := by rw [CT.rw, hF]
      refine ⟨PT.mk d qs, hpf, ?_, by rw [hrw, hszE]; show (rwL F kids).2 ≤ _; omega, fun m hm => ?_⟩
      · rw [hrw, PT.ct, hct, ← hd]; rfl
      · rw [hplace, hrw]
        exact walk m (by omega) _ _ (by rw [hc]; rfl) (by rw [hc]; rfl)
set_option maxRecDepth 10000
noncomputable def Ek (L:List CoD):CT:=by
 classical
 exact if h:Ft L=0 then Classical.choose (Kd h).2.2.2 else .mk 0 0 [] []
theorem DE {L:List CoD}(h:Ft L=0):1≤L.length∧L.length≤900∧(Ek L).ok∧Seg L 0 (Ek L)∧(Ek L).size=L.length∧L=(Ek L).flat 0:=by
 obtain⟨h1,h2,_,_⟩:=Kd h
 unfold Ek
 rw[dif_pos h]
 obtain⟨c1,c2,c3,c4⟩:=Classical.choose_spec (Kd h).2.2.2
 exact⟨h1,h2,c1,c2,c3,c4⟩
noncomputable def Cw (L:List CoD):Int:=Ci L (Ek L)
theorem F0 {L:List CoD}(h:Cw L=0):Ft L=0:=by
 unfold Cw Ci at h
 split at h
 ·rename_i h1;exact absurd h h1
 ·rename_i h1;simpa using h1
theorem FM {L:List CoD}(hl:L.length≤1048576) (hz:∀d∈L,EG d.val):AC Tryz.prog 69 [AE L] [] (.c (.int .i64 (Cw L))) [] :=
 ST L hl hz (Ek L) fun h=>⟨(DE h).2.2.1,(DE h).2.2.2.1,(DE h).2.2.2.2.1⟩
theorem FQ {L:List CoD}(hl:L.length≤1048576):AC Tryz.prog 66 [AE L] [] (.c (.int .i64 (Cw L))) [] :=
 TV L hl (Ek L) fun h=>⟨(DE h).2.2.1,(DE h).2.2.2.1,(DE h).2.2.2.2.1⟩
noncomputable def Gb (F:Int→Int→List CellD→List CT→Option CT) (L:List CoD):Nat:=((Ek L).rw F).2
noncomputable def Fq (F:Int→Int→List CellD→List CT→Option CT) (L:List CoD):List CoD:=((Ek L).rw F).1.flat 0
theorem a0p {f:FuncId}{L:List CoD}(hl:L.length≤1048576) (hz:∀d∈L,EG d.val) (h:Cw L≠0):AC Tryz.prog 61 [AE L,.clo f []] [] (.agg [.c (.int .i64 (Cw L)),.c (.int .i64 0),.nils]) []:=by
 have hc:=FM hl hz
 have hb:(Cw L != 0)=true:=E9 h
 generalize Cw L=c at *
 refine A6 Tryz.func61 Tryz.ntmps61 q9 ?_
 refine v7 (A3 [] hc) q9 hb ?_
 exact Ag (A5 []) Tryz.results61
theorem WT {f:FuncId}(hcal:A7 Tryz.prog f=true) {F:Int→Int→List CellD→List CT→Option CT}(hF:JA F) (hf:Iz f F) {L:List CoD}(hz:∀d∈L,EG d.val) (h:Cw L=0) :
  AC Tryz.prog 61 [AE L,.clo f []] [] (.agg [.c (.int .i64 0),.c (.int .i64 (Gb F L)),.own (0,0)]) [((0,0),.row true 6 87 ((Fq F L).map CoD.os))]:=by
 obtain⟨h1,h2,t1,t2,t3,t4⟩:=DE (F0 h)
 have hc:=FM (L:=L) (by omega) hz
 rw[h]at hc
 have h00:((0:Int) != 0)=false:=rfl
 obtain⟨q,q1,q2,q3,q4⟩:=WW hcal hf h2 (Ek L).size (Ek L) 0 (Nat.le_refl _) t1 t2
 have hrd:=q4 0 (by omega)
 have hsz:=IG L
 have hqs:q.ct.size≤900000:=by
  rw[q2]
  have:=(X5 hF (Ek L) t1).2.1
  omega
 have hn:=YE q.ct.size q (Nat.le_refl _) q1 hqs
 have hres:([]++q.ct.flat 0).map CoD.os=(Fq F L).map CoD.os:=by rw[q2];rfl
 rw[hres]at hn
 have hwl:IntKind.i64.wrap ((L.length:Int)-1)=((L.length-1:Nat):Int):=by rw[IntWalk.i64_in _ (by omega)];omega
 rw[show 0+(Ek L).size-1=L.length-1 by omega,show 0+((Ek L).rw F).2=Gb F L by unfold Gb;omega]at hrd
 replace hrd:AC Tryz.prog 116 [.ptr (0,0) 0,.c (.int .i64 ((L.length-1:Nat):Int))] [((0,0),.box [AE L,.c (.int .i64 0),.clo f []])] q.av [((0,0),.box [AE L,.c (.int .i64 (Gb F L:Nat)),.clo f []])]:=hrd
 clear q4 q3 q2 q1 hres hqs
 unfold PT.av at *
 generalize q.d=d,q.kids.map PT.cs=P,Gb F L=m,(Fq F L).map CoD.os=R at *
 refine A6 Tryz.func61 Tryz.ntmps61 q9 ?_
 refine v7 (A3 [] hc) q9 h00 ?_
 refine v7 (A3 [] hsz) q9 hwl ?_
 refine Bw (Am [((0,0),(17,0))] [((0,0),(17,0))] hrd) q9 q9 ?_
 refine v12 (AU [] hn) q9 q9 ?_
 exact Aa (A9 [((0,0),(28,0))] []) Tryz.results61 hwl
theorem R9:Iz 62 CS:=fun _ h=>UM h
theorem RH:Iz 65 fun op _ _ kids=>GH op kids:=fun _ h=>VT h
theorem QN:Iz 74 fun op _ _ kids=>Ee op kids:=fun _ h=>Ux h
theorem Uc:Iz 75 fun op _ _ kids=>Lv op kids:=fun _ h=>Zq h
set_option maxRecDepth 10000
theorem I4 (k m:Int) (t y:ByteArray) (n:Int):AC Tryz.prog 159 [.agg [.c (.int .i64 k),.c (.int .i64 m),.c (.str t),.c (.str y),.c (.int .i64 n)]] [] (.c (.bool (k==5||k==6))) []:=by
 cases h5:k==5 with
 |true =>
  rw[Bool.true_or]
  refine A6 Tryz.func159 Tryz.ntmps159 h5 ?_
  exact Aa (A9 [] []) Tryz.results159 h5
 |false =>
  rw[Bool.false_or]
  refine A6 Tryz.func159 Tryz.ntmps159 h5 ?_
  exact Aa (A9 [] []) Tryz.results159 h5
theorem Tf {t:V}(ht:t.right):AC Tryz.prog 294 [AF t.enc] [] (vrA (Fj t)) []:=by
 have ra:=Cx t
 have ga:=AL t
 have hn:=Gs ht
 have hs:=DW (Du ht)
 unfold Fj
 by_cases k0:t.kind=0
 ·have b0:(t.kind==0)=true:=by simpa using k0
  have h1:=C7 0
  rw[if_pos k0,BG]
  refine A6 Tryz.func294 Tryz.ntmps294 (j3 ra ga b0) ?_
  refine v9 (A4 [] h1) q9 q9 ?_
  exact Aa (A9 [] []) Tryz.results294 b0
 ·have b0:(t.kind==0)=false:=by simpa using k0
  rw[if_neg k0]
  by_cases k3:t.kind=3
  ·have b3:(t.kind==3)=true:=by simpa using k3
   have h1:=C7 (DJ t.num)
   have h2:=LN t.num (by omega)
   have ha:max t.num (-t.num)=DJ t.num:=by unfold DJ;omega
   rw[if_pos k3,BG,ha]
   refine A6 Tryz.func294 Tryz.ntmps294 (j4 ra ga b0 b3) ?_
   refine w7 (A3 [] h2) q9 ?_
   refine v9 (A4 [] h1) q9 q9 ?_
   exact Aa (A9 [] []) Tryz.results294 b0
  ·have b3:(t.kind==3)=false:=by simpa using k3
   rw[if_neg k3]
   by_cases k4:t.kind=4
   ·have b4:(t.kind==4)=true:=by simpa using k4
    have h1:=C7 (t.text.size:Int)
    rw[if_pos k4,BG]
    refine A6 Tryz.func294 Tryz.ntmps294 (j5 ra ga b0 b3 b4) ?_
    refine v9 (A4 [] h1) q9 q9 ?_
    exact Aa (A9 [] []) Tryz.results294 b0
   ·have b4:(t.kind==4)=false:=by simpa using k4
    rw[if_neg k4]
    by_cases k5:t.kind=5
    ·have b5:(t.kind==5)=true:=by simpa using k5
     have h1:=C7 (t.kids.length:Int)
     rw[if_pos (.inl k5),BG]
     refine A6 Tryz.func294 Tryz.ntmps294 (j6 ra ga b0 b3 b4 b5) ?_
     refine v9 (A4 [] h1) q9 q9 ?_
     exact Aa (A9 [] []) Tryz.results294 b0
    ·have b5:(t.kind==5)=false:=by simpa using k5
     by_cases k6:t.kind=6
     ·have b6:(t.kind==6)=true:=by simpa using k6
      have h1:=C7 (t.kids.length:Int)
      rw[if_pos (.inr k6),BG]
      refine A6 Tryz.func294 Tryz.ntmps294 (j7 ra ga b0 b3 b4 b5 b6) ?_
      refine v9 (A4 [] h1) q9 q9 ?_
      exact Aa (A9 [] []) Tryz.results294 b0
     ·have b6:(t.kind==6)=false:=by simpa using k6
      have h1:=Ck 6
      rw[if_neg (fun h=>h.elim k5 k6),DP]
      refine A6 Tryz.func294 Tryz.ntmps294 (j7 ra ga b0 b3 b4 b5 b6) ?_
      refine v9 (A4 [] h1) DV DV ?_
      exact Aa (A9 [] []) Tryz.results294 b0
theorem Yg {t:V}(ht:t.right):AC Tryz.prog 296 [AF t.enc] [] (vrA (MI t)) []:=by
 have ra:=Cx t
 have ga:=AL t
 obtain⟨k0,k6⟩:=WM ht
 have hk:=IP (NR t.kind)
 unfold MI
 rw[BG]
 generalize hd:t.kind=k at *
 have hcase:k=0∨k=1∨k=2∨k=3∨k=4∨k=5∨k=6:=by omega
 rcases hcase with rfl | rfl | rfl | rfl | rfl | rfl | rfl
 all_goals
  refine A6 Tryz.func296 Tryz.ntmps296 (j2 ra ga) ?_
  refine v9 (A4 [] hk) q9 q9 ?_
  exact Aa (A9 [] []) Tryz.results296 ra
theorem Vi (n:Int):AC Tryz.prog 299 [.c (.int .i64 n)] [] (vrA (IZ n)) []:=by
 unfold IZ
 by_cases hb:n>199
 ·have hd:decide (n>199)=true:=decide_eq_true hb
  have h1:=Ck 3
  rw[if_pos hb,DP]
  refine A6 Tryz.func299 Tryz.ntmps299 hd ?_
  refine v9 (A4 [] h1) DV DV ?_
  exact Aa (A9 [] []) Tryz.results299 hd
 ·have hd:decide (n>199)=false:=decide_eq_false hb
  have hnn:n.toNat≤199:=by omega
  have h3:=DU (BP n.toNat) (by have:=(Dq (Ha (n:=n.toNat) (by omega)) (by rw[DH];omega)).2.1;omega)
  rw[if_neg hb,BG]
  generalize hA:(AY (BP n.toNat)).enc=d at *
  refine A6 Tryz.func299 Tryz.ntmps299 hd ?_
  refine Ar (κ:=Nat) (fun k=>⟨mkS 0 22 [(0,.c (.int .i64 n)),(2,.ptr (2,0) 0),(3,.own (99,0)),(4,.c (.int .i64 k))],[((2,0),.box [.c (.int .i64 0),.nils]),((99,0),.row false 1 50 (((BP k).map V.enc).map Al))]⟩)
   (fun k=>k≤n.toNat) (fun k=>n.toNat-k) 0 (Nat.zero_le _) ?_ ?_
  ·exact Ac (Aj.of [((2,0),(2,0)),((99,0),(8,0))] []) hd
  ·intro k hk
   by_cases hlt:k<n.toNat
   ·have hd1:decide ((k:Int)<n)=true:=decide_eq_true (by omega)
    have hw:=Ad (k:=k) (by omega)
    have hi:=C7 (k:Int)
    have hs:=I8 k
    have hl:(BP k).length=k:=DH k
    have hrow:((BP k).map V.enc).map Al++[[.sl ((C6 (k:Int)).enc.map CellD.cs)]]=((BP (k+1)).map V.enc).map Al:=by rw[hs];simp[Al]
    have hol:(((BP k).map V.enc).map Al).length+1≤1000000:=by simp only[List.length_map];omega
    clear hs hl
    generalize ((BP k).map V.enc).map Al=R0 at *
    generalize (C6 (k:Int)).enc.map CellD.cs=U0 at *
    refine Ab hd1 ?_
    refine v9 (A4 [] hi) q9 (j2 hol hw) ?_
    refine⟨k+1,by omega,by omega,?_⟩
    exact Ac (Aj.of [((2,0),(2,0)),((99,0),(18,0))] []) hrow
   ·have hd1:decide ((k:Int)<n)=false:=decide_eq_false (by omega)
    have hke:k=n.toNat:=by omega
    subst hke
    refine Ab hd1 ?_
    refine v9 (A4 [(99,0)] h3) q9 q9 ?_
    exact Aa (A9 [] []) Tryz.results299 hd1
set_option maxRecDepth 10000
theorem PU {t:V}(h:¬(t.kind=5∨t.kind=6)):(t.kind==5||t.kind==6)=false:=by
 cases hb:(t.kind==5||t.kind==6) with
 |false=>rfl
 |true=>exact absurd (by simpa using hb) h
theorem Vf {t:V}(h:¬(t.kind=5∨t.kind=6)):AC Tryz.prog 295 [AF t.enc] [] (.agg [.c (.int .i64 6),.c (.sl [])]) []:=by
 have ra:=Cx t
 have ga:=AL t
 have hh:=I4 t.kind t.num t.text ByteArray.empty t.kids.length
 rw[PU h]at hh
 have h1:=Ck 6
 refine A6 Tryz.func295 Tryz.ntmps295 (j2 ra ga) ?_
 refine v7 (A3 [] hh) q9 q9 ?_
 refine v9 (A4 [] h1) DV DV ?_
 exact Aa (A9 [] []) Tryz.results295 ra
theorem Vg {t:V}(ht:t.right) (h6:t.kind=6):AC Tryz.prog 295 [AF t.enc] [] (vrA (okR (AY (t.keys.map D9)))) []:=by
 have ra:=Cx t
 have ga:=AL t
 have hh:=I4 t.kind t.num t.text ByteArray.empty t.kids.length
 have b6:(t.kind==6)=true:=by simpa using h6
 have b56:(t.kind==5||t.kind==6)=true:=by simp[h6]
 rw[b56]at hh
 have hks:=FW ht.1 ht.2.1
 have hM:=ht.2.1
 have hkc:=AP t
 have hkl:=Bq t.kids
 obtain⟨_,hko,hke⟩:=DI ht h6
 have ho:=F5 ht h6
 have hko2:BK t t.kids.length=t.keys:=ho
 rw[hko2]at hks
 have h3:=DU (t.keys.map D9) (by have:=(Dq (RX hko) (by rw[List.length_map];omega)).2.1;omega)
 have hll:t.keys.length≤200:=by omega
 rw[BG]
 generalize hA:(AY (t.keys.map D9)).enc=d at *
 refine A6 Tryz.func295 Tryz.ntmps295 (j2 ra ga) ?_
 refine v7 (A3 [] hh) q9 q9 ?_
 refine v9 (A4 [] hks) q9 q9 ?_
 generalize hl:t.keys=l at *
 have hlm:(l.map Ae).length=l.length:=by simp
 refine Ar (κ:=Nat) (fun k=>⟨mkS 0 42 [(0,AF t.enc),(2,.ptr (2,0) 0),(3,.own (99,0)),(4,.c (.sl (l.map Ae))),(5,.c (.int .i64 k))],[((2,0),.box [.c (.int .i64 0),.nils]),((99,0),.row false 1 50 ((((l.take k).map D9).map V.enc).map Al))]⟩)
  (fun k=>k≤l.length) (fun k=>l.length-k) 0 (Nat.zero_le _) ?_ ?_
 ·exact Ac (Aj.of [((2,0),(2,0)),((99,0),(12,0))] []) hM
 ·intro k hk
  by_cases hlt:k<l.length
  ·have hd1:decide ((k:Int)<(l.length:Int))=true:=decide_eq_true (by omega)
   have hr:A8 (l.map Ae) 1 (k:Int)=true:=by simp[A8,hlt,Ae]
   have hg:(l.map Ae)[k]? = some [.str l[k]]:=by simp[hlt,Ae]
   have hw:=Ad (k:=k) (by omega)
   have hi:=IP l[k]
   have hol2:(l.take k).length+1≤1000000:=by rw[List.length_take];omega
   have hrow:((((l.take k).map D9).map V.enc).map Al)++[[.sl ((D9 l[k]).enc.map CellD.cs)]]=((((l.take (k+1)).map D9).map V.enc).map Al):=by rw[List.take_succ_eq_append_getElem hlt];simp only[List.map_append,List.map_cons,List.map_nil,Al]
   have hol:((((l.take k).map D9).map V.enc).map Al).length+1≤1000000:=by simp only[List.length_map];exact hol2
   generalize (((l.take k).map D9).map V.enc).map Al=R0,l[k]=s at *
   generalize (D9 s).enc.map CellD.cs=U0 at *
   refine Ab (j7 hlm hd1 ra ga b6 hr hg) ?_
   refine v9 (A4 [] hi) q9 (j2 hol hw) ?_
   refine⟨k+1,by omega,by omega,?_⟩
   exact Ac (Aj.of [((2,0),(2,0)),((99,0),(33,0))] []) hrow
  ·have hd1:decide ((k:Int)<(l.length:Int))=false:=decide_eq_false (by omega)
   have hke:l.take k=l:=List.take_of_length_le (by omega)
   rw[hke]
   refine Ab (j2 hlm hd1) ?_
   refine v9 (A4 [(99,0)] h3) q9 q9 ?_
   exact Aa (A9 [] []) Tryz.results295 hd1
theorem Ve {t:V}(ht:t.right) (h5:t.kind=5):AC Tryz.prog 295 [AF t.enc] [] (vrA (okR (AY (BP t.kids.length)))) []:=by
 have ra:=Cx t
 have ga:=AL t
 have hh:=I4 t.kind t.num t.text ByteArray.empty t.kids.length
 have b6:(t.kind==6)=false:=by simp[h5]
 have b56:(t.kind==5||t.kind==6)=true:=by simp[h5]
 rw[b56]at hh
 have hks:=FW ht.1 ht.2.1
 have hM:=ht.2.1
 have hkc:=AP t
 have hkl:=Bq t.kids
 have hlen:=I2 t t.kids.length
 have h3:=DU (BP t.kids.length) (by have:=(Dq (Ha (n:=t.kids.length) (by omega)) (by rw[DH];omega)).2.1;omega)
 rw[BG]
 generalize hA:(AY (BP t.kids.length)).enc=d at *
 generalize BK t t.kids.length=ks at *
 have hlm:(ks.map Ae).length=t.kids.length:=by rw[List.length_map];exact hlen
 have hnn:t.kids.length≤200:=by omega
 refine A6 Tryz.func295 Tryz.ntmps295 (j2 ra ga) ?_
 refine v7 (A3 [] hh) q9 q9 ?_
 refine v9 (A4 [] hks) q9 q9 ?_
 generalize hn:t.kids.length=n at *
 refine Ar (κ:=Nat) (fun k=>⟨mkS 0 42 [(0,AF t.enc),(2,.ptr (2,0) 0),(3,.own (99,0)),(4,.c (.sl (ks.map Ae))),(5,.c (.int .i64 k))],[((2,0),.box [.c (.int .i64 0),.nils]),((99,0),.row false 1 50 (((BP k).map V.enc).map Al))]⟩)
  (fun k=>k≤n) (fun k=>n-k) 0 (Nat.zero_le _) ?_ ?_
 ·exact Ac (Aj.of [((2,0),(2,0)),((99,0),(12,0))] []) hM
 ·intro k hk
  by_cases hlt:k<n
  ·have hd1:decide ((k:Int)<(n:Int))=true:=decide_eq_true (by omega)
   have hw:=Ad (k:=k) (by omega)
   have hi:=C7 (k:Int)
   have hs:=I8 k
   have hl:(BP k).length=k:=DH k
   have hrow:((BP k).map V.enc).map Al++[[.sl ((C6 (k:Int)).enc.map CellD.cs)]]=((BP (k+1)).map V.enc).map Al:=by rw[hs];simp[Al]
   have hol:(((BP k).map V.enc).map Al).length+1≤1000000:=by simp only[List.length_map];omega
   clear hs hl
   generalize ((BP k).map V.enc).map Al=R0 at *
   generalize (C6 (k:Int)).enc.map CellD.cs=U0 at *
   refine Ab (j5 hlm hd1 ra ga b6) ?_
   refine v9 (A4 [] hi) q9 (j2 hol hw) ?_
   refine⟨k+1,by omega,by omega,?_⟩
   exact Ac (Aj.of [((2,0),(2,0)),((99,0),(38,0))] []) hrow
  ·have hd1:decide ((k:Int)<(n:Int))=false:=decide_eq_false (by omega)
   have hke:k=n:=by omega
   subst hke
   refine Ab (j2 hlm hd1) ?_
   refine v9 (A4 [(99,0)] h3) q9 q9 ?_
   exact Aa (A9 [] []) Tryz.results295 hd1
theorem Yd {t:V}(ht:t.right):AC Tryz.prog 295 [AF t.enc] [] (vrA (JL t)) []:=by
 unfold JL
 by_cases h6:t.kind=6
 ·rw[if_pos h6];exact Vg ht h6
 ·rw[if_neg h6]
  by_cases h5:t.kind=5
  ·rw[if_pos h5];exact Ve ht h5
  ·rw[if_neg h5];exact Vf fun h=>h.elim h5 h6
theorem r7 {t:V}(ht:t.right):AC Tryz.prog 298 [AF t.enc] [] (vrA (Pd t)) []:=by
 have ra:=Cx t
 have ga:=AL t
 have hh:=I4 t.kind t.num t.text ByteArray.empty t.kids.length
 unfold Pd
 by_cases h56:t.kind=5∨t.kind=6
 ·have b56:(t.kind==5||t.kind==6)=true:=by simpa using h56
  rw[b56]at hh
  rw[if_pos h56]
  have hps:=D6 ht.1 ht.2.1
  have hnl:=Vh
  have hr:∀x∈t.kids,x.right:=fun x hx=>Bb ht hx
  have hM:=(D4 ht).2
  obtain⟨r,hS⟩:∃r,JS BD t.kids=r:=⟨_,rfl⟩
  rw[hS]
  refine A6 Tryz.func298 Tryz.ntmps298 (j2 ra ga) ?_
  refine v7 (A3 [] hh) q9 q9 ?_
  refine v9 (A4 [] hnl) q9 q9 ?_
  refine v9 (A4 [] hps) q9 q9 ?_
  generalize t.kids=l at *
  have hlm:((l.map V.enc).map Al).length=l.length:=by simp
  refine Ar (κ:=Nat×V) (fun q=>⟨mkS 0 34 [(2,.ptr (2,0) 0),(3,.ptr (3,0) 0),(4,.c (.sl ((l.map V.enc).map Al))),(5,.c (.int .i64 q.1))],[((2,0),.box [.c (.int .i64 0),.nils]),((3,0),.box [.c (.int .i64 0),AF q.2.enc])]⟩)
   (fun q=>q.1≤l.length∧q.2.right∧JS q.2 (l.drop q.1)=r) (fun q=>l.length-q.1) (0,BD) ⟨Nat.zero_le _,CP,hS⟩ ?_ ?_
  ·exact Ac (Aj.of [((2,0),(2,0)),((3,0),(3,0))] []) hM
  ·rintro⟨k,a⟩ ⟨hk,ha,hs⟩
   dsimp only at hk ha hs ⊢
   by_cases hlt:k<l.length
   ·have hd:decide ((k:Int)<(l.length:Int))=true:=by simpa using hlt
    have hrw:A8 ((l.map V.enc).map Al) 1 k=true:=by simp[A8,hlt,Al]
    have hgt:((l.map V.enc).map Al)[k]? = some [.sl (l[k].enc.map CellD.cs)]:=by simp[hlt,Al]
    have hw:=Ad (k:=k) (by omega)
    have hur:=hr _ (List.getElem_mem hlt)
    rw[List.drop_eq_getElem_cons hlt]at hs
    have hadd:=Td ha hur
    have hao:=Qv ha hur
    simp only[JS]at hs
    generalize l[k]=u at *
    rcases Bc hao with⟨v,e,hv⟩ | ⟨c,hc,e⟩
    ·rw[e]at hs
     have h00:((0:Int) != 0)=false:=rfl
     rw[e,BF]at hadd
     refine Ab (j4 hlm hd hrw hgt) ?_
     refine v9 (A4 [] hadd) q9 (j2 h00 hw) ?_
     refine⟨(k+1,v),by dsimp only;omega,⟨by dsimp only;omega,hv,hs⟩,?_⟩
     exact Ac (Aj.of [((2,0),(2,0)),((3,0),(3,0))] []) hw
    ·rw[e]at hs
     have hs':r=(c,none):=hs.symm
     subst hs'
     have hcb:(c != 0)=true:=by simpa using hc
     rw[e,Bu]at hadd
     rw[Bu]
     refine Ab (j4 hlm hd hrw hgt) ?_
     refine v9 (A4 [] hadd) q9 hcb ?_
     exact Aa (A9 [] []) Tryz.results298 hcb
   ·have hd:decide ((k:Int)<(l.length:Int))=false:=by simpa using hlt
    rw[List.drop_eq_nil_of_le (by omega)]at hs
    have hs':r=okR a:=hs.symm
    subst hs'
    rw[BG]
    refine Ab (j2 hlm hd) ?_
    exact Aa (A9 [] []) Tryz.results298 hd
 ·rw[PU h56]at hh
  rw[if_neg h56,DP]
  have h1:=Ck 6
  refine A6 Tryz.func298 Tryz.ntmps298 (j2 ra ga) ?_
  refine v7 (A3 [] hh) q9 q9 ?_
  refine v9 (A4 [] h1) DV DV ?_
  exact Aa (A9 [] []) Tryz.results298 ra
end Go.Proofs.YtcejfdfmgmcinaaGreat
