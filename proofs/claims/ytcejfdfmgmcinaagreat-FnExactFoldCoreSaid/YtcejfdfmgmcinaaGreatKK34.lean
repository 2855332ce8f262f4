/- (*impl.rewriter).read: what becomes of a node. -/
import Derived.Test.YtcejfdfmgmcinaaGreatKK32uK33
set_option linter.all false
set_option maxHeartbeats 8000000
namespace Go.Proofs.YtcejfdfmgmcinaaGreat
open Go.RowKit
set_option maxRecDepth 10000
theorem WR (F:Int→Int→List CellD→List CT→Option CT):∀l:List CT,(rwL F l).1=l.map fun t=>(t.rw F).1
 | []=>by rw[rwL];rfl
 |t::l=>by rw[rwL,WR F l];rfl
theorem Vu {op num:Int}{val:List CellD}{ends:List Nat}{qs:List PT}(hl:ends.length=qs.length) (hz:MB qs):(PT.mk (B8 op num val ends) qs).zero:=by
 unfold PT.zero
 refine⟨fun h=>?_,fun h=>?_,fun h=>?_,hz⟩
 ·show ((ends[0]?.getD 0:Nat):Int)=0
  rw[List.getElem?_eq_none (by omega)];rfl
 ·show ((ends[1]?.getD 0:Nat):Int)=0
  rw[List.getElem?_eq_none (by omega)];rfl
 ·show ((ends[2]?.getD 0:Nat):Int)=0
  rw[List.getElem?_eq_none (by omega)];rfl
theorem QY (l:List PT):AU (l.map PT.cs)=l.map PT.cs:=CW _ (fun p=>by rw[PT.cs_eq];rfl) l
attribute [go_sem] QY
def Ip (L:List CoD) (m:Nat) (f:FuncId):AO:=.box [AD L,.c (.int .i64 m),.clo f []]
def Ls (f:FuncId) (F:Int→Int→List CellD→List CT→Option CT):Prop:=∀p:PT,p.fine→∃q b,MC (F p.d.op p.d.num p.d.val (ctL p.kids)) q b∧AC Tryz.prog f [p.av] [] (Is (q,b)) []
theorem M2 {α β:Type}{R:α→β→Prop}:∀(l:List α),(∀x∈l,∃y,R x y)→∃ys:List β,ys.length=l.length∧∀(k:Nat) (h:k<l.length) (h':k<ys.length),R l[k] ys[k]
 | [],_=>⟨[],rfl,fun k h=>absurd h (by simp)⟩
 |x::l,h=>by
  obtain⟨y,hy⟩:=h x (by simp)
  obtain⟨ys,h1,h2⟩:=M2 l fun z hz=>h z (by simp[hz])
  refine⟨y::ys,by simp[h1],fun k hk hk'=>?_⟩
  cases k with
  |zero=>exact hy
  |succ k=>exact h2 k (by simpa using hk) (by simpa using hk')
theorem WL {f : FuncId} (hcal : A8 Tryz.prog f = true) {F : Int → Int → List CellD → List CT → Option CT} (hf : Ls f F) {L : List CoD} (hL : L.length ≤ 900) :
    ∀ (n : Nat) (t : CT) (b : Nat), t.size ≤ n → t.ok → Seg L b t → ∃ q : PT, q.fine ∧ q.ct = (t.rw F).1 ∧ (t.rw F).2 ≤ t.size ∧ ∀ m : Nat, m + t.size ≤ 900000 →
      AC Tryz.prog 116 [.ptr (0, 0) 0, .c (.int .i64 ((b + t.size - 1 : Nat) : Int))] [((0, 0), Ip L m f)] q.av [((0, 0), Ip L (m + (t.rw F).2) f)]
  | 0, t, b, hn, _, _ => by have := t.size_pos; omega
  | n + 1, .mk op num val kids, b, hn, ho, hs => by
    have ho' := ho
    unfold CT.ok at ho'
    obtain ⟨hnode, hal, hok⟩ := ho'
    have hszE : (CT.mk op num val kids).size = Aj kids + 1 := by rw [CT.size]
    have hroot := hs.root
    have hsk := hs.kids
    have hend : (As b kids).length = kids.length := D6 _ _
    have h3 := Bz op
    -- the parts that become of those that are named
    obtain ⟨qs, hql, hq⟩ : ∃ qs : List PT, qs.length = kids.length ∧ ∀ (k : Nat) (h : k < kids.length) (h' : k < qs.length), qs[k].fine ∧ qs[k].ct = (kids[k].rw F).1 ∧ (kids[k].rw F).2 ≤ kids[k].size ∧ ∀ m : Nat, m + kids[k].size ≤ 900000 →
        AC Tryz.prog 116 [.ptr (0, 0) 0, .c (.int .i64 ((b + Aj (kids.take k) + kids[k].size - 1 : Nat) : Int))] [((0, 0), Ip L m f)] qs[k].av [((0, 0), Ip L (m + (kids[k].rw F).2) f)] := by
      have hall : ∀ x ∈ List.finRange kids.length, ∃ q : PT, q.fine ∧ q.ct = ((kids[x.1]'x.2).rw F).1 ∧ ((kids[x.1]'x.2).rw F).2 ≤ (kids[x.1]'x.2).size ∧ ∀ m : Nat, m + (kids[x.1]'x.2).size ≤ 900000 →
          AC Tryz.prog 116 [.ptr (0, 0) 0, .c (.int .i64 ((b + Aj (kids.take x.1) + (kids[x.1]'x.2).size - 1 : Nat) : Int))] [((0, 0), Ip L m f)] q.av [((0, 0), Ip L (m + ((kids[x.1]'x.2).rw F).2) f)] := fun x _ => by
        have hx := E2 (List.getElem_mem x.2)
        exact WL hcal hf hL n _ (b + Aj (kids.take x.1)) (by omega) (B6.1 hok _ (List.getElem_mem x.2)) (FA kids b x.1 x.2 hsk)
      obtain ⟨qs, h1, h2⟩ := M2 _ hall
      rw [List.length_finRange] at h1
      refine ⟨qs, h1, fun k h h' => ?_⟩
      have := h2 k (by rw [List.length_finRange]; exact h) h'
      simpa using this
    have hct : ctL qs = (rwL F kids).1 := by
      rw [Gy, WR]
      refine List.ext_getElem (by simp [hql]) fun k h1 h2 => ?_
      simp only [List.getElem_map]
      exact (hq k (by simpa using h2) (by simpa using h1)).2.1
    have hfq : ∀ q ∈ qs, q.fine := fun q h => by
      obtain ⟨k, hk, rfl⟩ := List.mem_iff_getElem.1 h
      exact (hq k (by omega) hk).1
    have hcnt : ∀ k, k ≤ kids.length → (rwL F (kids.take k)).2 ≤ Aj (kids.take k) := by
      intro k
      induction k with
      | zero => intro _; rw [List.take_zero, rwL]; exact Nat.zero_le _
      | succ k ih =>
        intro hk
        obtain ⟨_, e⟩ := Oo F kids (k := k) (by omega)
        have e2 := CP kids (k := k) (by omega)
        have := ih (by omega)
        have := (hq k (by omega) (by omega)).2.2.1
        omega
    have hpf : (PT.mk (B8 op num val (As b kids)) qs).fine := by
      refine ⟨?_, Vu (by rw [hend, hql]) (LW.2 fun q h => (hfq q h).2)⟩
      rw [PT.ct, CT.ok]
      exact ⟨hnode, by rw [Es, hql, hal]; rfl, B6.2 fun t ht => by
        rw [Gy] at ht
        obtain ⟨q, hq1, rfl⟩ := List.mem_map.1 ht
        exact (hfq q hq1).1⟩
    obtain ⟨q, c, hfr, hfa⟩ := hf _ hpf
    have hfr' : MC (F op num val (rwL F kids).1) q c := by
      have : MC (F op num val (ctL qs)) q c := hfr
      rwa [hct] at this
    have hD : ∃ d, B8 op num val (As b kids) = d := ⟨_, rfl⟩
    obtain ⟨d, hd⟩ := hD
    have hdop : d.op = op := by rw [← hd]; rfl
    have hnm : d.named = (As b kids).map fun (x : Nat) => (x : Int) := by rw [← hd]; exact GB (by rw [hend, hal])
    rw [hd] at hroot hpf hfa
    have hplace : b + (CT.mk op num val kids).size - 1 = b + Aj kids := by omega
    have hin : b + Aj kids < L.length := (List.getElem?_eq_some_iff.1 hroot).1
    have hge := (List.getElem?_eq_some_iff.1 hroot).2
    obtain ⟨hr0, hg0⟩ := Ex L hin
    rw [hge] at hg0
    have hnmd := O2 d (by rw [hdop]; exact hnode.kind.1) (by rw [hdop]; exact hnode.kind.2)
    have hnl : (d.named.map AB).length = kids.length := by rw [List.length_map, hnm, List.length_map, hend]
    have hp7 : ([] : List PT).map PT.cs = [] := rfl
    have hsk0 : (rwL F (kids.take 0)).2 = 0 := by rw [List.take_zero, rwL]
    have walk : ∀ (m : Nat), m + (Aj kids + 1) ≤ 900000 → ∀ (q' : PT) (m' : Nat), (q' = if c then q else PT.mk d qs) → m' = m + (rwL F kids).2 + (if c then 1 else 0) →
        AC Tryz.prog 116 [.ptr (0, 0) 0, .c (.int .i64 ((b + Aj kids : Nat) : Int))] [((0, 0), Ip L m f)] q'.av [((0, 0), Ip L m' f)] := by
      intro m hm q' m' hq' hm'
      have hc0 := hcnt kids.length (Nat.le_refl _)
      rw [List.take_length] at hc0
      have hfin : Ip L (m + (rwL F (kids.take kids.length)).2) f = Ip L (m + (rwL F kids).2) f := by rw [List.take_length]
      have hqs : (qs.take kids.length).map PT.cs = qs.map PT.cs := by rw [← hql, List.take_length]
      generalize b + Aj kids = place at *
      unfold Ip
      refine A7 Tryz.func116 Tryz.ntmps116 ?_
      refine A3 (j2 hr0 hg0) ?_
      refine w12 (AS [] hnmd) q9 ?_
      refine A3 hnl ?_
      refine Ay (κ := Nat) (fun k => ⟨mkS 0 54 [(0, .ptr (0, 0) 0), (4, .ptr (4, 0) 0), (5, .ptr (5, 0) 0), (20, .own (20, 0)), (21, .c (.int .i64 kids.length)), (22, .c (.int .i64 k))],
          [((0, 0), .box [AD L, .c (.int .i64 ((m + (rwL F (kids.take k)).2 : Nat) : Int)), .clo f []]), ((4, 0), .box [.c (.int .i64 0), .c (.int .i64 0), .c (.int .i64 0), .c (.int .i64 0), .c (.int .i64 0), .nils, .nils]),
           ((5, 0), .box [.c (.int .i64 d.op), .c (.int .i64 d.a), .c (.int .i64 d.b), .c (.int .i64 d.c), .c (.int .i64 d.num), .c (.sl (d.val.map CellD.cs)), .own (96, 0)]),
           ((20, 0), .row false 1 2 (d.named.map AB)), ((96, 0), .row false 7 98 ((qs.take k).map PT.cs))]⟩)
        (fun k => k ≤ kids.length) (fun k => kids.length - k) 0 (Nat.zero_le _) ?_ ?_
      · (apply (Am.of [((0, 0), (0, 0)), ((4, 0), (4, 0)), ((5, 0), (5, 0)), ((20, 0), (20, 0))] []); (iterate 2 ((focus (simp only [go_sem, Nat.reduceEqDiff, Nat.reduceAdd, Nat.reduceSub, Nat.reduceLeDiff, Nat.reduceMul, Nat.reduceBEq, Nat.reduceLT, Int.reduceToNat, reduceCtorEq, hp7, hsk0, List.take_zero, Nat.add_zero]; try (and_intros <;> rfl))); (focus exact rfl))); (iterate 4 (focus (simp [go_sem, hp7, hsk0, List.take_zero, Nat.add_zero]; done))))
      intro k hk
      by_cases hlt : k < kids.length
      · have hdk : decide ((k : Int) < (kids.length : Int)) = true := decide_eq_true (by omega)
        have hw := Ah (k := k) (by omega)
        obtain ⟨hri, hgi⟩ := Fy d.named (k := k) (by rw [hnm, List.length_map, hend]; exact hlt)
        have hgi2 : d.named[k]'(by rw [hnm, List.length_map, hend]; exact hlt) = ((b + Aj (kids.take k) + kids[k].size - 1 : Nat) : Int) := by
          have h1 : d.named[k]? = some ((b + Aj (kids.take k) + kids[k].size - 1 : Nat) : Int) := by rw [hnm, List.getElem?_map, F7 _ _ _ hlt]; rfl
          exact (List.getElem?_eq_some_iff.1 h1).2
        rw [hgi2] at hgi
        have hck := hcnt k hk
        have hkz := CP kids hlt
        have hkz2 := D2 kids (k + 1)
        obtain ⟨q1, q2, q3, q4⟩ := hq k hlt (by omega)
        have ih := q4 (m + (rwL F (kids.take k)).2) (by omega)
        obtain ⟨_, e⟩ := Oo F kids hlt
        have hsum : m + (rwL F (kids.take k)).2 + (kids[k].rw F).2 = m + (rwL F (kids.take (k + 1))).2 := by omega
        rw [hsum] at ih
        have hrow : (qs.take k).map PT.cs ++ [[.int .i64 qs[k].d.op, .int .i64 qs[k].d.a, .int .i64 qs[k].d.b, .int .i64 qs[k].d.c, .int .i64 qs[k].d.num, .sl (qs[k].d.val.map CellD.cs), .sl (qs[k].kids.map PT.cs)]] = (qs.take (k + 1)).map PT.cs := by
          rw [List.take_succ_eq_append_getElem (by omega), List.map_append, List.map_cons, List.map_nil, ← PT.cs_eq]
        have hln : (qs.take k).length + 1 ≤ 1000000 := by rw [List.length_take]; omega
        unfold Ip PT.av at ih
        generalize qs.take k = Q at *
        clear hfin hqs hq hct hfq hpf hfr hfr' hfa hgi2 q1 q2 q3 q4 e hsum hq' hm'
        generalize qs[k].d = e at *
        generalize qs[k].kids.map PT.cs = Pe at *
        generalize hm2 : m + (rwL F (kids.take (k + 1))).2 = m2 at *
        generalize m + (rwL F (kids.take k)).2 = m1 at *
        refine A3 (j3 hdk hri hgi) ?_
        refine Bx (An [((0, 0), (0, 0))] [((0, 0), (0, 0))] ih) q9 ?_
        refine A3 (j2 hln hw) ?_
        refine ⟨k + 1, by omega, by omega, ?_⟩
        exact Af (Am.of [((0, 0), (0, 0)), ((4, 0), (4, 0)), ((5, 0), (5, 0)), ((20, 0), (20, 0)), ((96, 0), (32, 0))] []) (j2 hrow hm2)
      · have hdk : decide ((k : Int) < (kids.length : Int)) = false := decide_eq_false (by omega)
        have hke : k = kids.length := by omega
        subst hke
        have hwm : IntKind.i64.wrap (((m + (rwL F kids).2 : Nat) : Int) + 1) = ((m + (rwL F kids).2 + 1 : Nat) : Int) := by rw [IntWalk.i64_in _ (by omega)]; omega
        rw [List.take_length, hqs]
        have hfa' : AC Tryz.prog f [.agg [.c (.int .i64 d.op), .c (.int .i64 d.a), .c (.int .i64 d.b), .c (.int .i64 d.c), .c (.int .i64 d.num), .c (.sl (d.val.map CellD.cs)), .c (.sl (qs.map PT.cs))]] [] (.tup [q.av, .c (.bool c)]) [] := hfa
        clear hfin hqs hq hct hfq hpf hfr hfr' hfa
        cases c with
        | true =>
          rw [if_pos rfl] at hq' hm'
          subst hq'
          subst hm'
          unfold PT.av at *
          generalize q'.d = e at *
          generalize q'.kids.map PT.cs = Pe at *
          generalize m + (rwL F kids).2 = m1 at *
          refine A3 hdk ?_
          refine w9 (A5 [(96, 0)] hfa') hcal ?_
          refine A3 hwm ?_
          exact Ab (Aa [((0, 0), (0, 0))] []) Tryz.results116 hwm
        | false =>
          rw [if_neg (by decide)] at hq' hm'
          rw [Nat.add_zero] at hm'
          subst hq'
          subst hm'
          unfold PT.av at *
          generalize q.d = e at *
          generalize q.kids.map PT.cs = Pe at *
          generalize m + (rwL F kids).2 = m1 at *
          refine A3 hdk ?_
          refine w9 (A5 [(96, 0)] hfa') hcal ?_
          refine A3 q9 ?_
          exact Ab (Aa [((0, 0), (0, 0))] [(96, 0)]) Tryz.results116 hwm
    have hcN := hcnt kids.length (Nat.le_refl _)
    rw [List.take_length] at hcN
    rcases hfr' with ⟨hc, hqf, hF⟩ | ⟨hc, hF⟩
    · have hrw : (CT.mk op num val kids).rw F = (q.ct, (rwL F kids).2 + 1) := by rw [CT.rw, hF]
      refine ⟨q, hqf, by rw [hrw], by rw [hrw, hszE]; show (rwL F kids).2 + 1 ≤ _; omega, fun m hm => ?_⟩
      rw [hplace, hrw]
      exact walk m (by omega) q _ (by rw [hc]; rfl) (by rw [hc]; rfl)
    · have hrw : (CT.mk op num val kids).rw F = (CT.mk op num val (rwL F kids).1, (rwL F kids).2) := by rw [CT.rw, hF]
      refine ⟨PT.mk d qs, hpf, ?_, by rw [hrw, hszE]; show (rwL F kids).2 ≤ _; omega, fun m hm => ?_⟩
      · rw [hrw, PT.ct, hct, ← hd]; rfl
      · rw [hplace, hrw]
        exact walk m (by omega) _ _ (by rw [hc]; rfl) (by rw [hc]; rfl)
end Go.Proofs.YtcejfdfmgmcinaaGreat
