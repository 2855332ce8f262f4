/- impl.setKey and spec.SetKey on right values, by the engine. -/
import Derived.Test.YtpaooephkpjkfaaGreatKG45uG34
import Derived.Test.YtpaooephkpjkfaaGreatKG24uG52
set_option linter.unusedSimpArgs false
set_option linter.unusedVariables false
set_option linter.unnecessarySimpa false
namespace Go.Proofs.YtpaooephkpjkfaaGreat
open Go.RowKit
set_option maxRecDepth 10000
set_option maxHeartbeats 1000000 in
theorem l1KeysO_ac {t : V} (hw : t.wf) (hc : t.count ≤ 200) : AC Tryz.prog 137 [cellsA t.enc] [] (.own (0, 0)) [((0, 0), .row false 1 9 ((keysOf t t.kids.length).map strCs))] := by
  have hkl := kids_len_le hc
  have hkn := kposL_len t t.kids.length
  have hch := l1Children_ac hw hc
  refine wEnter Tryz.func137 Tryz.ntmps137 ?_
  refine wRUN trivial ?_
  refine w9 (op_shared [] hch) trivial ?_
  refine wRUN trivial ?_
  refine a_loop (κ := Nat) (fun k => ⟨mkS 0 27 [(0, cellsA t.enc), (3, .own (3, 0)), (4, .c (.sl ((kposL t t.kids.length).map intCs))), (5, .c (.int .i64 k))],
      [((3, 0), .row false 1 9 ((keysOf t k).map strCs))]⟩)
    (fun k => k ≤ t.kids.length) (fun k => t.kids.length - k) 0 (Nat.zero_le _) ?_ ?_
  · (apply (Says.of [((3, 0), (6, 0))] []); (iterate 2 ((focus (simp only [go_sem, Nat.reduceEqDiff, Nat.reduceAdd, Nat.reduceSub, Nat.reduceLeDiff, Nat.reduceMul, Nat.reduceBEq, Nat.reduceLT, Int.reduceToNat, reduceCtorEq, keysOf]; try (and_intros <;> rfl))); (focus exact rfl))); (iterate 4 (focus (simp [go_sem, keysOf]; done))))
  · intro k hk
    by_cases hlt : k < t.kids.length
    · have hd : decide ((k : Int) < (t.kids.length : Int)) = true := by simpa using hlt
      have hw1 := wrap_succ (k := k) (by omega)
      have h1 : (keysOf t k).length + 1 ≤ 1000000 := by rw [keysOf_len]; omega
      have hr1 : rowsAt ((kposL t t.kids.length).map intCs) 1 k = true := by simp [rowsAt, kposL, hlt, intCs]
      have hg1 : ((kposL t t.kids.length).map intCs)[k]? = some [.int .i64 ((kp t.kids k : Nat) : Int)] := by simp [kposL, hlt, intCs]
      have hg2 := enc_at_kid t hlt
      have hr2 : rowsAt (t.enc.map CellD.cs) 5 ((kp t.kids k : Nat) : Int) = true := by unfold rowsAt; rw [Int.toNat_natCast, hg2]; simp
      have hn : (keysOf t k).map strCs ++ [[.str (t.keyAt k)]] = (keysOf t (k + 1)).map strCs := by rw [keysOf_succ, List.map_append]; rfl
      refine wRUN (j8 hd hkn hr1 hg1 hr2 hg2 h1 hw1) ?_
      refine ⟨k + 1, by omega, by omega, ?_⟩
      exact wSays (Says.of [((3, 0), (25, 0))] []) hn
    · have hd : decide ((k : Int) < (t.kids.length : Int)) = false := by simpa using hlt
      have hke : k = t.kids.length := by omega
      refine wRUN (j2 hkn hd) ?_
      subst hke
      exact wRetOf (ret_of [((0, 0), (3, 0))] []) Tryz.results137 hd
theorem l1Text_ac (s : ByteArray) : AC Tryz.prog 179 [.c (.str s)] [] (.c (.bool (okText s))) [] := by
  refine AC.of_calls fun S w κ vs hv => ?_
  obtain ⟨v, vs', rfl, ⟨rfl, _⟩, rfl⟩ := hv
  refine (l1Text_any s w).mono ?_
  rintro e w' ⟨rfl, rfl⟩
  exact ⟨Below.refl _ _, _, rfl, fun T _ _ => ⟨rfl, rfl⟩⟩
set_option maxHeartbeats 4000000 in
theorem specSetKey_ac {v x : V} (h : v.right) (hx : x.right) (key : ByteArray) (hk : okText key = true) : AC Tryz.prog 149 [cellsA v.enc, .c (.str key), cellsA x.enc] [] (vrA (setKeyV v key x)) [] := by
  have hv := l3Both_ac v.enc x.enc
  have hb0 : bothCode v.enc x.enc = 0 := by unfold bothCode; rw [right_dec h, right_dec hx]; rfl
  rw [hb0] at hv
  have h00 : ((0 : Int) != 0) = false := rfl
  have ht := l1Text_ac key
  rw [hk] at ht
  have hr0 := enc_rows v
  have hg0 := enc_head v
  unfold setKeyV
  by_cases h6 : v.kind = 0 ∨ v.kind = 6
  · rw [if_pos h6]
    obtain ⟨hc1, hc2⟩ := setKey_count h hx key h6
    have hobj := l1Object_ac (v.keys ++ [key]) (v.kids ++ [x]) (by rw [List.length_append, List.length_append, right_kl6 h h6]; rfl) (by omega)
    have htold := l1Told_ac (objV (v.keys ++ [key]) (v.kids ++ [x]))
    generalize objV (v.keys ++ [key]) (v.kids ++ [x]) = ob at *
    generalize giveR ob = r at *
    rcases h6 with hz | h6
    · have hbz : (v.kind == 0) = true := by simpa using hz
      rw [(right_kids0 h hz).1, (right_kids0 h hz).2] at hobj
      simp only [List.nil_append, List.map_cons, List.map_nil, strCs, encCs] at hobj
      rcases r with ⟨c, _ | u⟩
      all_goals
        simp only [vrA_some, vrA_none] at htold ⊢
        refine wEnter Tryz.func149 Tryz.ntmps149 ?_
        refine wRUN trivial ?_
        refine w7 (op_data [] hv) trivial ?_
        refine wRUN h00 ?_
        refine w7 (op_data [] ht) trivial ?_
        refine wRUN (j3 hr0 hg0 hbz) ?_
        refine w12 (op_rowT [(26, 0), (28, 0)] hobj) trivial ?_
        refine w9 (op_shared [(29, 0)] htold) trivial ?_
        refine wRUN trivial ?_
        exact wRet (ret_data []) Tryz.results149
    · have hbz : (v.kind == 0) = false := by simp [h6]
      have hb6 : (v.kind == 6) = true := by simpa using h6
      have hkO := l1KeysO_ac h.1 h.2.1
      rw [show keysOf v v.kids.length = v.keys from keysOf_own h h6] at hkO
      have hpO := l1PartsO_ac h.1 h.2.1
      have hkl := right_kl h
      have hl1 : v.keys.length + 1 ≤ 1000000 := by omega
      have hl2 : v.kids.length + 1 ≤ 1000000 := by omega
      obtain ⟨K, hK⟩ : ∃ K, v.keys ++ [key] = K := ⟨_, rfl⟩
      obtain ⟨L, hL⟩ : ∃ L, v.kids ++ [x] = L := ⟨_, rfl⟩
      have e1 : v.keys.map strCs ++ [[C.str key]] = K.map strCs := by rw [← hK, List.map_append]; rfl
      have e2 : (v.kids.map V.enc).map encCs ++ [[C.sl (x.enc.map CellD.cs)]] = (L.map V.enc).map encCs := by rw [← hL, List.map_append, List.map_append]; rfl
      rw [hK, hL] at hobj
      rcases r with ⟨c, _ | u⟩
      all_goals
        simp only [vrA_some, vrA_none] at htold ⊢
        refine wEnter Tryz.func149 Tryz.ntmps149 ?_
        refine wRUN trivial ?_
        refine w7 (op_data [] hv) trivial ?_
        refine wRUN h00 ?_
        refine w7 (op_data [] ht) trivial ?_
        refine wRUN (j4 hr0 hg0 hbz hb6) ?_
        refine w12 (op_rowF [] hkO) trivial ?_
        refine wRUN (j2 hl1 e1) ?_
        refine w12 (op_rowF [] hpO) trivial ?_
        refine wRUN (j2 hl2 e2) ?_
        refine w12 (op_rowT [(37, 0), (42, 0)] hobj) (j2 e1 e2) ?_
        refine w9 (op_shared [(43, 0)] htold) trivial ?_
        refine wRUN trivial ?_
        exact wRet (ret_data []) Tryz.results149
  · rw [if_neg h6]
    have hbz : (v.kind == 0) = false := by simp; omega
    have hb6 : (v.kind == 6) = false := by simp; omega
    rw [vrA_bad]
    refine wEnter Tryz.func149 Tryz.ntmps149 ?_
    refine wRUN trivial ?_
    refine w7 (op_data [] hv) trivial ?_
    refine wRUN h00 ?_
    refine w7 (op_data [] ht) trivial ?_
    refine wRUN (j4 hr0 hg0 hbz hb6) ?_
    refine w7 (op_data [] (l3Bad_ac 6)) trivial ?_
    refine wRUN trivial ?_
    exact wRet (ret_data []) Tryz.results149
set_option maxHeartbeats 4000000 in
theorem setKey_ac {v x : V} (h : v.right) (hx : x.right) (key : ByteArray) (hk : okText key = true) : AC Tryz.prog 145 [v.av, .c (.str key), x.av] [] (resA (setKeyV v key x)) [] := by
  have hs := isString_ac key (by have := okText_size hk; omega)
  rw [hk] at hs
  unfold setKeyV
  by_cases h6 : v.kind = 0 ∨ v.kind = 6
  · rw [if_pos h6]
    obtain ⟨hc1, hc2⟩ := setKey_count h hx key h6
    have hkl := right_kl h
    have hgv := gives_any (setKey_fit h hx hk h6) (by omega)
    have hobj := object_ac (v.keys ++ [key]) (v.kids ++ [x]) (by rw [List.length_append, List.length_append, right_kl6 h h6]; rfl) (by rw [List.length_append, List.length_singleton]; omega) (by
      intro k hk'
      rcases List.mem_append.1 hk' with h1 | h1
      · have := right_keys h k h1; omega
      · rw [List.mem_singleton.1 h1]; have := okText_le hk; omega)
    rw [object_av] at hobj
    have hcs := cloneStrs_ac v.keys (by omega)
    have hcv := cloneVals_ac v.kids (by omega)
    have hl1 : v.keys.length + 1 ≤ 1000000 := by omega
    have hl2 : v.kids.length + 1 ≤ 1000000 := by omega
    generalize objV (v.keys ++ [key]) (v.kids ++ [x]) = ob at *
    obtain ⟨K, hK⟩ : ∃ K, v.keys ++ [key] = K := ⟨_, rfl⟩
    obtain ⟨L, hL⟩ : ∃ L, v.kids ++ [x] = L := ⟨_, rfl⟩
    have e1 : v.keys.map strCs ++ [[C.str key]] = K.map strCs := by rw [← hK, List.map_append]; rfl
    have e2 : v.kids.map V.cs ++ [[.int .i64 x.kind, .int .i64 x.num, .str x.text, .sl (x.keys.map strCs), .sl (x.kids.map V.cs)]] = L.map V.cs := by rw [← hL, List.map_append, List.map_cons, List.map_nil, V.cs_eq]
    rw [hK, hL] at hobj
    generalize giveR ob = r at *
    rcases h6 with hz | h6
    case' inl =>
      have hb0 : (v.kind != 0) = false := by simpa using hz
      have hb6 : (v.kind != 6) = true := by simp [hz]
    case' inr =>
      have hb0 : (v.kind != 0) = true := by simp [h6]
      have hb6 : (v.kind != 6) = false := by simpa using h6
    all_goals
      rcases r with ⟨c, _ | u⟩
      all_goals
        simp only [resA_some, resA_none] at hgv ⊢
        refine wEnter Tryz.func145 Tryz.ntmps145 ?_
        refine wRUN trivial ?_
        refine w7 (op_data [] hs) trivial ?_
        refine wRUN (j2 hb0 hb6) ?_
        refine w12 (op_rowF [] hcs) trivial ?_
        refine wRUN (j2 hl1 e1) ?_
        refine w12 (op_rowF [] hcv) trivial ?_
        refine wRUN (j2 hl2 e2) ?_
        refine w9 (op_shared [(27, 0), (33, 0)] hobj) (j2 e1 e2) ?_
        refine w9 (op_shared [] hgv) trivial ?_
        refine wRUN trivial ?_
        exact wRet (ret_data []) Tryz.results145
  · rw [if_neg h6]
    have hb0 : (v.kind != 0) = true := by simp; omega
    have hb6 : (v.kind != 6) = true := by simp; omega
    rw [resA_bad]
    refine wEnter Tryz.func145 Tryz.ntmps145 ?_
    refine wRUN trivial ?_
    refine w7 (op_data [] hs) trivial ?_
    refine wRUN (j2 hb0 hb6) ?_
    refine w7 (op_data [] (refuses_ac 6)) trivial ?_
    refine wRUN trivial ?_
    exact wRet (ret_data []) Tryz.results145
end Go.Proofs.YtpaooephkpjkfaaGreat
