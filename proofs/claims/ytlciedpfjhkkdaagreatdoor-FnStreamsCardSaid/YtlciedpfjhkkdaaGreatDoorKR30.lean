/- FromStream on both sides. -/
import Derived.Test.YtlciedpfjhkkdaaGreatDoorKG32uE38
import Derived.Test.YtlciedpfjhkkdaaGreatDoorKGX
import Derived.Test.YtlciedpfjhkkdaaGreatDoorKG21uM3
import Derived.Test.YtlciedpfjhkkdaaGreatDoorKG06uS02
import Derived.Test.YtlciedpfjhkkdaaGreatDoorKG49uG52
import Derived.Deep.RegionLaw
import Derived.Shelf.RegionOpenPlain
import Derived.Laws.CopyRow
import Derived.Test.YtlciedpfjhkkdaaGreatDoorKM29uG26
import Derived.Test.YtlciedpfjhkkdaaGreatDoorKM13uM43
import Derived.Test.YtlciedpfjhkkdaaGreatDoorKG30uH08
import Derived.Test.YtlciedpfjhkkdaaGreatDoorKH09
set_option linter.unusedSimpArgs false
set_option linter.unusedVariables false
set_option linter.unnecessarySimpa false
set_option maxHeartbeats 8000000
namespace Go.Proofs.YtlciedpfjhkkdaaGreatDoor
open Go.RowKit
set_option maxRecDepth 10000
variable {o : Obj}
theorem textR_eq (a b : Int) (s u : ByteArray) (w : World) : (Op.equalIn 10000 45 (.agg #[.int .i64 a, .string s]) (.agg #[.int .i64 b, .string u])).run Tryz.prog w = .ok (a == b && s.toList == u.toList) w := by
 have ht := Tryz.underlying45
 have t1 := Tryz.underlying2
 have t2 := Tryz.underlying9
 have hf : Tryz.prog.fieldsOf 45 = Tryz.prog.fieldsOf 45 := rfl
 cases hq : a == b
 ·simp [go_sem, ht, t1, t2, hq]
 ·simp [go_sem, ht, t1, t2, hq]
  split <;> simp_all
theorem textR_guard : Tryz.prog.eqGuardType Tryz.prog.depth 45 = false := by kernel_rfl
theorem evs_at {l : List Ev} {k : Nat} {p : List V} {x : Option V} (h : l[k]? = some (p, x)) : rowsAt (l.map evCs) 2 k = true ∧ (l.map evCs)[k]? = some [.sl (p.map V.cs), leafC x] := by
 obtain ⟨hk, he⟩ := List.getElem?_eq_some_iff.1 h
 exact ⟨by simp [rowsAt, hk, evCs], by simp [hk, he, evCs]⟩
theorem fromGo_at {l : List Ev} {k : Nat} {p : List V} {x : Option V} (h : l[k]? = some (p, x)) (v : V) : fromGo (l.drop k) k v = fromGo ((p, x) :: l.drop (k + 1)) k v := by
 obtain ⟨hk, he⟩ := List.getElem?_eq_some_iff.1 h
 rw [List.drop_eq_getElem_cons hk, he]
theorem evs_plen {l : List (List CellD)} (hok : EvsOk l) {k : Nat} {p : List V} {x : Option V} (hx : (evsOf l)[k]? = some (p, x)) : p.length ≤ 1000000 := by
 have hk : k < l.length := by
  rw [← hok.all]
  exact (List.getElem?_eq_some_iff.1 hx).1
 obtain ⟨e', g1, g2⟩ := hok.one k hk
 rw [hx] at g2
 cases g2
 obtain ⟨t, q, _, _, hq, _, h4, _⟩ := ev_parts g1
 have h5 := kids_len_le hq.2.1
 have h6 : p = q.kids := h4
 rw [h6]
 omega
theorem eventsS_ac {t : V} (ht : t.right) : AC Tryz.prog 47 [.c (.sl (t.stream.map evCs))] [] (.agg [.c (.int .i64 0), .c (.sl (((t.stream.map evV).map V.enc).map encCs))]) [] := by
 have hl := stream_len t
 have hc := ht.2.1
 have h := eventsResult_ac t.stream (by omega) (fun e he => (stream_right ht e he).1)
 have e : (t.stream.map fun e => (evV e).enc) = (t.stream.map evV).map V.enc := by rw [List.map_map]; rfl
 rw [e] at h
 have hf := forget_osl ((t.stream.map evV).map V.enc)
 (apply (AC.says [] [(0, 0)] h); (focus (simp only [go_sem, Nat.reduceEqDiff, Nat.reduceAdd, Nat.reduceSub, Nat.reduceLeDiff, Nat.reduceMul, Nat.reduceBEq, Nat.reduceLT, Int.reduceToNat, reduceCtorEq, hf]; try (and_intros <;> rfl))); (focus exact rfl); (focus (simp only [go_sem, Nat.reduceEqDiff, Nat.reduceAdd, Nat.reduceSub, Nat.reduceLeDiff, Nat.reduceMul, Nat.reduceBEq, Nat.reduceLT, Int.reduceToNat, reduceCtorEq, hf]; try (and_intros <;> rfl))); (focus exact rfl); (iterate 4 (focus (simp [go_sem, hf]; done))))
theorem stream_vals {t : V} (ht : t.right) : (∀ v ∈ t.stream.map evV, v.right) ∧ (t.stream.map evV).length ≤ 200 := by
 have hl := stream_len t
 have hc := ht.2.1
 refine ⟨fun v hv => ?_, by rw [List.length_map]; omega⟩
 obtain ⟨e, he, rfl⟩ := List.mem_map.1 hv
 exact (stream_right ht e he).1
theorem implFrom_bad (l : List (List CellD)) (hz : ∀ x ∈ l, Sized x) {c a : Int} (h : fromR l = ((c, a), none)) : AC Tryz.prog 18 [listA l] (tabM o) (.agg [.c (.int .i64 c), .c (.int .i64 a), .nils]) (tabM o) := by
 have h00 : ((0 : Int) != 0) = false := rfl
 have h11 : ((1 : Int) != 0) = true := rfl
 unfold fromR at h
 by_cases h0 : (evsFault l).1 ≠ 0
 ·rw [if_pos h0] at h
  have hc := eventsOf_bad l hz h0
  have hb : ((evsFault l).1 != 0) = true := by simpa using h0
  have he : evsFault l = (c, a) := (Prod.mk.inj h).1
  rw [he] at hc hb
  simp only at hb
  refine wEnter Tryz.func18 Tryz.ntmps18 ?_
  refine wRUN trivial ?_
  refine w7 (op_data [] hc) trivial ?_
  refine wRUN hb ?_
  exact wRetOf (ret_of [((8, 0), (8, 0))] []) Tryz.results18 hb
 ·rw [if_neg h0] at h
  have hok := evs_ok (l := l) (by omega)
  have hkey := evs_keyed hok
  have hev := eventsOf_ac l hz (by omega)
  obtain ⟨R, hR⟩ : ∃ R, fromGo (evsOf l) 0 nullV = R := ⟨_, rfl⟩
  rw [hR] at h
  have hrr := fromGo_right (evsOf l) 0 nullV hkey right_null
  rw [hR] at hrr
  have hle := hok.all
  have hlen : ((evsOf l).map evCs).length = (evsOf l).length := by simp
  have hnl := null_ac
  rw [nullV_av] at hnl
  have hl200 := hok.len.2
  refine wEnter Tryz.func18 Tryz.ntmps18 ?_
  refine wRUN trivial ?_
  refine w9 (op_shared [] hev) trivial ?_
  refine wRUN h00 ?_
  refine w7 (op_data [] hnl) trivial ?_
  refine wRUN hlen ?_
  refine a_loop (κ := Nat × V) (fun x => ⟨mkS 0 69 [(0, listA l), (2, .ptr (2, 0) 0), (6, .ptr (6, 0) 0), (23, .c (.sl ((evsOf l).map evCs))), (24, .c (.int .i64 (evsOf l).length)), (25, .c (.int .i64 x.1))],
    [((2, 0), .box [.c (.int .i64 0), .c (.int .i64 0), .nils]), ((6, 0), .box [.c (.int .i64 x.2.kind), .c (.int .i64 x.2.num), .c (.str x.2.text), .c (.sl (x.2.keys.map strCs)), .c (.sl (x.2.kids.map V.cs))]), ((8, 0), .blk (tabR o) [])]⟩)
   (fun x => x.1 ≤ (evsOf l).length ∧ x.2.right ∧ fromGo ((evsOf l).drop x.1) x.1 x.2 = R) (fun x => (evsOf l).length - x.1) (0, nullV) ⟨Nat.zero_le _, right_null, hR⟩ ?_ ?_
  ·(apply (Says.of [((2, 0), (2, 0)), ((6, 0), (6, 0)), ((8, 0), (8, 0))] []); (iterate 2 ((focus (simp only [go_sem, Nat.reduceEqDiff, Nat.reduceAdd, Nat.reduceSub, Nat.reduceLeDiff, Nat.reduceMul, Nat.reduceBEq, Nat.reduceLT, Int.reduceToNat, reduceCtorEq, nullV, V.kind, V.num, V.text, V.keys, V.kids, List.map_nil]; try (and_intros <;> rfl))); (focus exact rfl))); (iterate 4 (focus (simp [go_sem, nullV, V.kind, V.num, V.text, V.keys, V.kids, List.map_nil]; done))))
  ·rintro ⟨k, v⟩ ⟨hk, hv, hgo⟩
   dsimp only at hk hv hgo ⊢
   by_cases hlt : k < (evsOf l).length
   ·have hdk : decide ((k : Int) < ((evsOf l).length : Int)) = true := by simpa using hlt
    have hw := wrap_succ (k := k) (by omega)
    obtain ⟨⟨p, x⟩, hx⟩ : ∃ e, (evsOf l)[k]? = some e := ⟨_, List.getElem?_eq_getElem hlt⟩
    obtain ⟨hr0, hg0⟩ := evs_at hx
    rw [fromGo_at hx] at hgo
    obtain ⟨hk1, hk2⟩ := hkey (p, x) (List.mem_of_getElem? hx)
    have hplen := evs_plen hok hx
    cases x with
    | none =>
     rw [fromGo_end] at hgo
     simp only [leafC] at hg0
     generalize (evsOf l).map evCs = EV at *
     refine wRUN (j4 hdk hr0 hg0 hw) ?_
     refine ⟨(k + 1, v), by dsimp only; omega, ⟨by dsimp only; omega, hv, hgo⟩, ?_⟩
     exact wSays (Says.of [((2, 0), (2, 0)), ((6, 0), (6, 0)), ((8, 0), (8, 0))] []) hw
    | some t =>
     have hsp := setPath_ac (hk2 t rfl) p hplen hk1 v hv
     have hso := setPath_ok (hk2 t rfl) p hk1 v hv
     simp only [leafC, V.cs_eq] at hg0
     cases hs : setPathV t p v with
     | mk c2 x2 =>
      rw [hs] at hsp hso
      cases x2 with
      | none =>
       rw [fromGo_bad hs] at hgo
       subst hgo
       simp only [Prod.mk.injEq, and_true] at h
       obtain ⟨rfl, rfl⟩ := h
       have hcb : (c2 != 0) = true := by simpa using (show c2 ≠ 0 from hso)
       simp only [resA_none] at hsp
       generalize (evsOf l).map evCs = EV at *
       refine wRUN (j3 hdk hr0 hg0) ?_
       refine w9 (op_shared [] hsp) trivial ?_
       refine wRUN hcb ?_
       exact wRetOf (ret_of [((8, 0), (8, 0))] []) Tryz.results18 hcb
      | some u =>
       rw [fromGo_ok hs] at hgo
       simp only [resA_some] at hsp
       generalize (evsOf l).map evCs = EV at *
       refine wRUN (j3 hdk hr0 hg0) ?_
       refine w9 (op_shared [] hsp) trivial ?_
       refine wRUN (j2 h00 hw) ?_
       refine ⟨(k + 1, u), by dsimp only; omega, ⟨by dsimp only; omega, hso.2, hgo⟩, ?_⟩
       exact wSays (Says.of [((2, 0), (2, 0)), ((6, 0), (6, 0)), ((8, 0), (8, 0))] []) hw
   ·have hdk : decide ((k : Int) < ((evsOf l).length : Int)) = false := by simpa using hlt
    rw [List.drop_eq_nil_of_le (by omega)] at hgo
    have hgo' : R = ((0, 0), some v) := hgo.symm
    subst hgo'
    simp only at h
    obtain ⟨ht1, ht2⟩ := evs_trees hok
    obtain ⟨hs1, hs2⟩ := stream_vals hv
    have htl : (treesOf l).length ≤ 200 := by have := treesOf_len l; omega
    have hst := stream_ac v.count v (Nat.le_refl _) hv
    have her := eventsS_ac hv
    have he1 := implEncodeAll_ac (o := o) (v.stream.map evV) hs1 hs2
    have he2 := implEncodeAll_ac (o := o) (treesOf l) ht1 htl
    rw [← ht2] at he2
    by_cases heq : vlinesS (v.stream.map evV) = vlinesS (treesOf l)
    ·rw [if_pos heq] at h; simp at h
    ·rw [if_neg heq] at h
     obtain ⟨rfl, rfl⟩ : (1 : Int) = c ∧ (0 : Int) = a := by simpa using h
     have hq : ((0 : Int) == 0 && (vlinesS (v.stream.map evV)).toList == (vlinesS (treesOf l)).toList) = false := by
      simp only [Bool.and_eq_false_iff]
      refine .inr ?_
      rw [beq_eq_false_iff_ne]
      exact fun h => heq (ByteArray_toList_inj h)
     have hqe := fun w => textR_eq 0 0 (vlinesS (v.stream.map evV)) (vlinesS (treesOf l)) w
     simp only [hq] at hqe
     generalize vlinesS (v.stream.map evV) = u1 at *
     generalize vlinesS (treesOf l) = u2 at *
     generalize (((v.stream.map evV).map V.enc).map encCs) = O at *
     refine wRUN hdk ?_
     refine w9 (op_shared [] hst) trivial ?_
     refine wRUN trivial ?_
     refine w9 (op_shared [] her) trivial ?_
     refine wRUN h00 ?_
     refine wCall (op_any_call [((8, 0), (8, 0))] [((8, 0), (8, 0))] he1) trivial ?_
     refine wRUN trivial ?_
     refine wCall (op_any_call [((8, 0), (8, 0))] [((8, 0), (8, 0))] he2) trivial ?_
     (apply (op_neqS textR_guard hqe); (focus (first | (simp only [go_sem, Nat.reduceEqDiff, Nat.reduceAdd, Nat.reduceSub, Nat.reduceLeDiff, Nat.reduceMul, Nat.reduceBEq, Nat.reduceLT, Int.reduceToNat, reduceCtorEq]; first | done | exact rfl | (and_intros <;> rfl)) | exact rfl | decide)); (focus (first | (simp only [go_sem, Nat.reduceEqDiff, Nat.reduceAdd, Nat.reduceSub, Nat.reduceLeDiff, Nat.reduceMul, Nat.reduceBEq, Nat.reduceLT, Int.reduceToNat, reduceCtorEq]; first | done | exact rfl | (and_intros <;> rfl)) | exact rfl | decide)); (focus (first | (simp only [go_sem, Nat.reduceEqDiff, Nat.reduceAdd, Nat.reduceSub, Nat.reduceLeDiff, Nat.reduceMul, Nat.reduceBEq, Nat.reduceLT, Int.reduceToNat, reduceCtorEq]; first | done | exact rfl | (and_intros <;> rfl)) | exact rfl | decide)); (focus (first | (simp only [go_sem, Nat.reduceEqDiff, Nat.reduceAdd, Nat.reduceSub, Nat.reduceLeDiff, Nat.reduceMul, Nat.reduceBEq, Nat.reduceLT, Int.reduceToNat, reduceCtorEq]; first | done | exact rfl | (and_intros <;> rfl)) | exact rfl | decide)); (focus (first | (simp only [go_sem, Nat.reduceEqDiff, Nat.reduceAdd, Nat.reduceSub, Nat.reduceLeDiff, Nat.reduceMul, Nat.reduceBEq, Nat.reduceLT, Int.reduceToNat, reduceCtorEq]; first | done | exact rfl | (and_intros <;> rfl)) | exact rfl | decide)))
     refine wRUN trivial ?_
     exact wRetOf (ret_of [((8, 0), (8, 0))] []) Tryz.results18 h00
theorem implFrom_ok (l : List (List CellD)) (hz : ∀ x ∈ l, Sized x) {c : Int × Int} {y : V} (h : fromR l = (c, some y)) : AC Tryz.prog 18 [listA l] (tabM o) (.agg [.c (.int .i64 0), .c (.int .i64 0), .own (0, 0)]) [((0, 0), .row false 5 94 (y.enc.map CellD.cs)), ((8, 0), .blk (tabR o) [])] := by
 have h00 : ((0 : Int) != 0) = false := rfl
 have h11 : ((1 : Int) != 0) = true := rfl
 unfold fromR at h
 by_cases h0 : (evsFault l).1 ≠ 0
 ·rw [if_pos h0] at h; simp at h
 ·rw [if_neg h0] at h
  have hok := evs_ok (l := l) (by omega)
  have hkey := evs_keyed hok
  have hev := eventsOf_ac l hz (by omega)
  obtain ⟨R, hR⟩ : ∃ R, fromGo (evsOf l) 0 nullV = R := ⟨_, rfl⟩
  rw [hR] at h
  have hrr := fromGo_right (evsOf l) 0 nullV hkey right_null
  rw [hR] at hrr
  have hle := hok.all
  have hlen : ((evsOf l).map evCs).length = (evsOf l).length := by simp
  have hnl := null_ac
  rw [nullV_av] at hnl
  have hl200 := hok.len.2
  refine wEnter Tryz.func18 Tryz.ntmps18 ?_
  refine wRUN trivial ?_
  refine w9 (op_shared [] hev) trivial ?_
  refine wRUN h00 ?_
  refine w7 (op_data [] hnl) trivial ?_
  refine wRUN hlen ?_
  refine a_loop (κ := Nat × V) (fun x => ⟨mkS 0 69 [(0, listA l), (2, .ptr (2, 0) 0), (6, .ptr (6, 0) 0), (23, .c (.sl ((evsOf l).map evCs))), (24, .c (.int .i64 (evsOf l).length)), (25, .c (.int .i64 x.1))],
    [((2, 0), .box [.c (.int .i64 0), .c (.int .i64 0), .nils]), ((6, 0), .box [.c (.int .i64 x.2.kind), .c (.int .i64 x.2.num), .c (.str x.2.text), .c (.sl (x.2.keys.map strCs)), .c (.sl (x.2.kids.map V.cs))]), ((8, 0), .blk (tabR o) [])]⟩)
   (fun x => x.1 ≤ (evsOf l).length ∧ x.2.right ∧ fromGo ((evsOf l).drop x.1) x.1 x.2 = R) (fun x => (evsOf l).length - x.1) (0, nullV) ⟨Nat.zero_le _, right_null, hR⟩ ?_ ?_
  ·(apply (Says.of [((2, 0), (2, 0)), ((6, 0), (6, 0)), ((8, 0), (8, 0))] []); (iterate 2 ((focus (simp only [go_sem, Nat.reduceEqDiff, Nat.reduceAdd, Nat.reduceSub, Nat.reduceLeDiff, Nat.reduceMul, Nat.reduceBEq, Nat.reduceLT, Int.reduceToNat, reduceCtorEq, nullV, V.kind, V.num, V.text, V.keys, V.kids, List.map_nil]; try (and_intros <;> rfl))); (focus exact rfl))); (iterate 4 (focus (simp [go_sem, nullV, V.kind, V.num, V.text, V.keys, V.kids, List.map_nil]; done))))
  ·rintro ⟨k, v⟩ ⟨hk, hv, hgo⟩
   dsimp only at hk hv hgo ⊢
   by_cases hlt : k < (evsOf l).length
   ·have hdk : decide ((k : Int) < ((evsOf l).length : Int)) = true := by simpa using hlt
    have hw := wrap_succ (k := k) (by omega)
    obtain ⟨⟨p, x⟩, hx⟩ : ∃ e, (evsOf l)[k]? = some e := ⟨_, List.getElem?_eq_getElem hlt⟩
    obtain ⟨hr0, hg0⟩ := evs_at hx
    rw [fromGo_at hx] at hgo
    obtain ⟨hk1, hk2⟩ := hkey (p, x) (List.mem_of_getElem? hx)
    have hplen := evs_plen hok hx
    cases x with
    | none =>
     rw [fromGo_end] at hgo
     simp only [leafC] at hg0
     generalize (evsOf l).map evCs = EV at *
     refine wRUN (j4 hdk hr0 hg0 hw) ?_
     refine ⟨(k + 1, v), by dsimp only; omega, ⟨by dsimp only; omega, hv, hgo⟩, ?_⟩
     exact wSays (Says.of [((2, 0), (2, 0)), ((6, 0), (6, 0)), ((8, 0), (8, 0))] []) hw
    | some t =>
     have hsp := setPath_ac (hk2 t rfl) p hplen hk1 v hv
     have hso := setPath_ok (hk2 t rfl) p hk1 v hv
     simp only [leafC, V.cs_eq] at hg0
     cases hs : setPathV t p v with
     | mk c2 x2 =>
      rw [hs] at hsp hso
      cases x2 with
      | none =>
       rw [fromGo_bad hs] at hgo
       subst hgo
       simp at h
      | some u =>
       rw [fromGo_ok hs] at hgo
       simp only [resA_some] at hsp
       generalize (evsOf l).map evCs = EV at *
       refine wRUN (j3 hdk hr0 hg0) ?_
       refine w9 (op_shared [] hsp) trivial ?_
       refine wRUN (j2 h00 hw) ?_
       refine ⟨(k + 1, u), by dsimp only; omega, ⟨by dsimp only; omega, hso.2, hgo⟩, ?_⟩
       exact wSays (Says.of [((2, 0), (2, 0)), ((6, 0), (6, 0)), ((8, 0), (8, 0))] []) hw
   ·have hdk : decide ((k : Int) < ((evsOf l).length : Int)) = false := by simpa using hlt
    rw [List.drop_eq_nil_of_le (by omega)] at hgo
    have hgo' : R = ((0, 0), some v) := hgo.symm
    subst hgo'
    simp only at h
    obtain ⟨ht1, ht2⟩ := evs_trees hok
    obtain ⟨hs1, hs2⟩ := stream_vals hv
    have htl : (treesOf l).length ≤ 200 := by have := treesOf_len l; omega
    have hst := stream_ac v.count v (Nat.le_refl _) hv
    have her := eventsS_ac hv
    have he1 := implEncodeAll_ac (o := o) (v.stream.map evV) hs1 hs2
    have he2 := implEncodeAll_ac (o := o) (treesOf l) ht1 htl
    rw [← ht2] at he2
    by_cases heq : vlinesS (v.stream.map evV) = vlinesS (treesOf l)
    ·rw [if_pos heq] at h
     obtain rfl : v = y := by simpa using (Prod.mk.inj h).2
     have hq : ((0 : Int) == 0 && (vlinesS (v.stream.map evV)).toList == (vlinesS (treesOf l)).toList) = true := by
      rw [heq]
      simp
     have hqe := fun w => textR_eq 0 0 (vlinesS (v.stream.map evV)) (vlinesS (treesOf l)) w
     simp only [hq] at hqe
     have hcs := count_right hv
     generalize vlinesS (v.stream.map evV) = u1 at *
     generalize vlinesS (treesOf l) = u2 at *
     generalize (((v.stream.map evV).map V.enc).map encCs) = O at *
     refine wRUN hdk ?_
     refine w9 (op_shared [] hst) trivial ?_
     refine wRUN trivial ?_
     refine w9 (op_shared [] her) trivial ?_
     refine wRUN h00 ?_
     refine wCall (op_any_call [((8, 0), (8, 0))] [((8, 0), (8, 0))] he1) trivial ?_
     refine wRUN trivial ?_
     refine wCall (op_any_call [((8, 0), (8, 0))] [((8, 0), (8, 0))] he2) trivial ?_
     (apply (op_neqS textR_guard hqe); (focus (first | (simp only [go_sem, Nat.reduceEqDiff, Nat.reduceAdd, Nat.reduceSub, Nat.reduceLeDiff, Nat.reduceMul, Nat.reduceBEq, Nat.reduceLT, Int.reduceToNat, reduceCtorEq]; first | done | exact rfl | (and_intros <;> rfl)) | exact rfl | decide)); (focus (first | (simp only [go_sem, Nat.reduceEqDiff, Nat.reduceAdd, Nat.reduceSub, Nat.reduceLeDiff, Nat.reduceMul, Nat.reduceBEq, Nat.reduceLT, Int.reduceToNat, reduceCtorEq]; first | done | exact rfl | (and_intros <;> rfl)) | exact rfl | decide)); (focus (first | (simp only [go_sem, Nat.reduceEqDiff, Nat.reduceAdd, Nat.reduceSub, Nat.reduceLeDiff, Nat.reduceMul, Nat.reduceBEq, Nat.reduceLT, Int.reduceToNat, reduceCtorEq]; first | done | exact rfl | (and_intros <;> rfl)) | exact rfl | decide)); (focus (first | (simp only [go_sem, Nat.reduceEqDiff, Nat.reduceAdd, Nat.reduceSub, Nat.reduceLeDiff, Nat.reduceMul, Nat.reduceBEq, Nat.reduceLT, Int.reduceToNat, reduceCtorEq]; first | done | exact rfl | (and_intros <;> rfl)) | exact rfl | decide)); (focus (first | (simp only [go_sem, Nat.reduceEqDiff, Nat.reduceAdd, Nat.reduceSub, Nat.reduceLeDiff, Nat.reduceMul, Nat.reduceBEq, Nat.reduceLT, Int.reduceToNat, reduceCtorEq]; first | done | exact rfl | (and_intros <;> rfl)) | exact rfl | decide)))
     refine wRUN trivial ?_
     refine w12 (op_rowF [] hcs) trivial ?_
     refine wRUN trivial ?_
     exact wRetOf (ret_of [((0, 0), (67, 0)), ((8, 0), (8, 0))] []) Tryz.results18 h00
    ·rw [if_neg heq] at h; simp at h
theorem specFrom_ac (l : List (List CellD)) (hl : l.length ≤ 9223372036854775807) : AC Tryz.prog 31 [listA l] [] (rrA (fromR l)) [] := by
 have h00 : ((0 : Int) != 0) = false := rfl
 have q1 : (((1 : Nat) : Int) == 1) = true := rfl
 have q2 : (((2 : Nat) : Int) == 1) = false := rfl
 have q3 : (((1 + 1 : Nat) : Int) == 1) = false := rfl
 have hsf := specStreamFault_ac l hl
 have hnl := l3NullS_ac
 have hln : (l.map encCs).length = l.length := by simp
 unfold fromR
 by_cases h0 : (evsFault l).1 ≠ 0
 ·rw [if_pos h0]
  have hb : ((evsFault l).1 != 0) = true := by simpa using h0
  generalize evsFault l = r at *
  obtain ⟨c, a⟩ := r
  rw [rrA_none]
  simp only at hb hsf
  refine wEnter Tryz.func31 Tryz.ntmps31 ?_
  refine wRUN trivial ?_
  refine w7 (op_data [] hsf) trivial ?_
  refine wRUN hb ?_
  exact wRet (ret_data []) Tryz.results31
 ·rw [if_neg h0]
  have hok := evs_ok (l := l) (by omega)
  have h0' : (evsFault l).1 = 0 := by omega
  have hkey := evs_keyed hok
  obtain ⟨R, hR⟩ : ∃ R, fromGo (evsOf l) 0 nullV = R := ⟨_, rfl⟩
  rw [hR]
  have hrr := fromGo_right (evsOf l) 0 nullV hkey right_null
  rw [hR] at hrr
  have hle := hok.all
  have hl200 := hok.len.2
  have hb : ((evsFault l).1 != 0) = false := by simp [h0']
  generalize evsFault l = r0 at *
  obtain ⟨c0, a0⟩ := r0
  simp only at hb hsf
  refine wEnter Tryz.func31 Tryz.ntmps31 ?_
  refine wRUN trivial ?_
  refine w7 (op_data [] hsf) trivial ?_
  refine wRUN hb ?_
  refine w9 (op_shared [] hnl) trivial ?_
  refine wRUN trivial ?_
  refine a_loop (κ := Nat × V) (fun x => ⟨mkS 0 64 [(0, listA l), (2, .ptr (2, 0) 0), (4, .c (.sl (x.2.enc.map CellD.cs))), (5, .c (.int .i64 x.1))], [((2, 0), .box [.c (.int .i64 0), .c (.int .i64 0), .nils])]⟩)
   (fun x => x.1 ≤ (evsOf l).length ∧ x.2.right ∧ fromGo ((evsOf l).drop x.1) x.1 x.2 = R) (fun x => (evsOf l).length - x.1) (0, nullV) ⟨Nat.zero_le _, right_null, hR⟩ ?_ ?_
  ·exact wSays (Says.of [((2, 0), (2, 0))] []) h00
  ·rintro ⟨k, v⟩ ⟨hk, hv, hgo⟩
   dsimp only at hk hv hgo ⊢
   by_cases hlt : k < (evsOf l).length
   ·have hkl : k < l.length := by omega
    have hdk : decide ((k : Int) < (l.length : Int)) = true := by simpa using hkl
    have hw := wrap_succ (k := k) (by omega)
    obtain ⟨⟨p, x⟩, he, hx⟩ := hok.one k hkl
    obtain ⟨t, q, hq1, hq2, hq3, hq4, hq5, hq6⟩ := ev_parts he
    have hrw : rowsAt (l.map encCs) 1 k = true := by simp [rowsAt, hkl, encCs]
    have hg : (l.map encCs)[k]? = some [.sl (t.enc.map CellD.cs)] := by simp [hkl, encCs, hq1]
    rw [fromGo_at hx] at hgo
    obtain ⟨hk1, hk2⟩ := hkey (p, x) (List.mem_of_getElem? hx)
    have hplen := evs_plen hok hx
    have hpt := l1Parts_ac hq2.1 hq2.2.1
    rw [hq6] at hpt
    have hpq := l1Parts_ac hq3.1 hq3.2.1
    have hpe : q.kids = p := hq5.symm
    rw [hpe] at hpq
    cases x with
    | none =>
     rw [fromGo_end] at hgo
     simp only [Option.toList, List.map_cons, List.map_nil, encCs] at hpt
     refine wRUN (j4 hln hdk hrw hg) ?_
     refine w9 (op_shared [] hpt) trivial ?_
     refine wRUN (j2 q1 hw) ?_
     refine ⟨(k + 1, v), by dsimp only; omega, ⟨by dsimp only; omega, hv, hgo⟩, ?_⟩
     exact wSays (Says.of [((2, 0), (2, 0))] []) hw
    | some u0 =>
     have hsp := l13Set_ac (hk2 u0 rfl) p hplen hk1 v hv
     have hso := setPath_ok (hk2 u0 rfl) p hk1 v hv
     simp only [Option.toList, List.map_cons, List.map_nil, encCs] at hpt
     cases hs : setPathV u0 p v with
     | mk c2 x2 =>
      rw [hs] at hsp hso
      cases x2 with
      | none =>
       rw [fromGo_bad hs] at hgo
       subst hgo
       have hcb : (c2 != 0) = true := by simpa using (show c2 ≠ 0 from hso)
       simp only [vrA_none] at hsp
       simp only [rrA_none]
       generalize (p.map V.enc).map encCs = PE at *
       refine wRUN (j4 hln hdk hrw hg) ?_
       refine w9 (op_shared [] hpt) trivial ?_
       refine wRUN (j2 q2 q3) ?_
       refine w9 (op_shared [] hpq) trivial ?_
       refine wRUN trivial ?_
       refine w9 (op_shared [] hsp) trivial ?_
       refine wRUN hcb ?_
       exact wRet (ret_data []) Tryz.results31
      | some u =>
       rw [fromGo_ok hs] at hgo
       simp only [vrA_some] at hsp
       generalize (p.map V.enc).map encCs = PE at *
       refine wRUN (j4 hln hdk hrw hg) ?_
       refine w9 (op_shared [] hpt) trivial ?_
       refine wRUN (j2 q2 q3) ?_
       refine w9 (op_shared [] hpq) trivial ?_
       refine wRUN trivial ?_
       refine w9 (op_shared [] hsp) trivial ?_
       refine wRUN (j2 h00 hw) ?_
       refine ⟨(k + 1, u), by dsimp only; omega, ⟨by dsimp only; omega, hso.2, hgo⟩, ?_⟩
       exact wSays (Says.of [((2, 0), (2, 0))] []) hw
   ·have hdk : decide ((k : Int) < (l.length : Int)) = false := by simp; omega
    rw [List.drop_eq_nil_of_le (by omega)] at hgo
    have hgo' : R = ((0, 0), some v) := hgo.symm
    subst hgo'
    obtain ⟨ht1, ht2⟩ := evs_trees hok
    obtain ⟨hs1, hs2⟩ := stream_vals hv
    have htl : (treesOf l).length ≤ 200 := by have := treesOf_len l; omega
    have hst := specStreamOf_ac hv
    have e : (v.stream.map fun e => (evV e).enc) = (v.stream.map evV).map V.enc := by rw [List.map_map]; rfl
    rw [e] at hst
    have he1 := l15Text_ac (v.stream.map evV) hs1 hs2
    have he2 := l15Text_ac (treesOf l) ht1 htl
    rw [← ht2] at he2
    by_cases heq : vlinesS (v.stream.map evV) = vlinesS (treesOf l)
    ·simp only [if_pos heq, rrA_some]
     have hq : ((vlinesS (v.stream.map evV)).toList == (vlinesS (treesOf l)).toList) = true := by rw [heq]; simp
     generalize vlinesS (v.stream.map evV) = u1 at *
     generalize vlinesS (treesOf l) = u2 at *
     generalize (((v.stream.map evV).map V.enc).map encCs) = O at *
     refine wRUN (j2 hln hdk) ?_
     refine w9 (op_shared [] hst) trivial ?_
     refine wRUN h00 ?_
     refine w7 (op_data [] he1) trivial ?_
     refine wRUN trivial ?_
     refine w7 (op_data [] he2) trivial ?_
     refine wRUN hq ?_
     exact wRet (ret_data []) Tryz.results31
    ·simp only [if_neg heq, rrA_none]
     have hq : ((vlinesS (v.stream.map evV)).toList == (vlinesS (treesOf l)).toList) = false := by
      rw [beq_eq_false_iff_ne]
      exact fun h => heq (ByteArray_toList_inj h)
     generalize vlinesS (v.stream.map evV) = u1 at *
     generalize vlinesS (treesOf l) = u2 at *
     generalize (((v.stream.map evV).map V.enc).map encCs) = O at *
     refine wRUN (j2 hln hdk) ?_
     refine w9 (op_shared [] hst) trivial ?_
     refine wRUN h00 ?_
     refine w7 (op_data [] he1) trivial ?_
     refine wRUN trivial ?_
     refine w7 (op_data [] he2) trivial ?_
     refine wRUN hq ?_
     exact wRet (ret_data []) Tryz.results31
end Go.Proofs.YtlciedpfjhkkdaaGreatDoor
