/- spec.l1Told, l14Merge, MergeValues; impl.MergeValues, by the engine. -/
import Derived.Test.YtpaooephkpjkfaaGreatKG9
import Derived.Test.YtpaooephkpjkfaaGreatKM3
import Derived.Test.YtpaooephkpjkfaaGreatKG45uG25
set_option linter.unusedSimpArgs false
set_option linter.unusedVariables false
set_option linter.unnecessarySimpa false
namespace Go.Proofs.YtpaooephkpjkfaaGreat
open Go.RowKit
set_option maxRecDepth 10000
theorem l1Told_ok (xs : List CellD) (h : (dec xs).1 = 0) : AC Tryz.prog 74 [cellsA xs] [] (.agg [.c (.int .i64 0), cellsA xs]) [] := by
  have hf := fault_ac xs
  rw [h] at hf
  have h00 : ((0 : Int) != 0) = false := rfl
  refine wEnter Tryz.func74 Tryz.ntmps74 ?_
  refine wRUN trivial ?_
  refine w7 (op_data [] hf) trivial ?_
  refine wRUN h00 ?_
  exact wRet (ret_data []) Tryz.results74
theorem l1Told_bad (xs : List CellD) (h : (dec xs).1 ≠ 0) : AC Tryz.prog 74 [cellsA xs] [] (.agg [.c (.int .i64 (dec xs).1), .c (.sl [])]) [] := by
  have hf := fault_ac xs
  have hb : ((dec xs).1 != 0) = true := by simpa using h
  refine wEnter Tryz.func74 Tryz.ntmps74 ?_
  refine wRUN trivial ?_
  refine w7 (op_data [] hf) trivial ?_
  refine wRUN hb ?_
  exact wRet (ret_data []) Tryz.results74
theorem l1Told_ac (t : V) : AC Tryz.prog 74 [cellsA t.enc] [] (vrA (giveR t)) [] := by
  unfold giveR
  split
  · rename_i h
    exact l1Told_ok t.enc h
  · rename_i h
    exact l1Told_bad t.enc h
theorem enc_rows (t : V) : rowsAt (t.enc.map CellD.cs) 5 0 = true := by unfold rowsAt; rw [show (0 : Int).toNat = 0 from rfl, enc_head]; rfl
theorem l3NullS_ac : AC Tryz.prog 140 [] [] (.c (.sl (nullV.enc.map CellD.cs))) [] := by
  have h := l3Null_ac
  (apply (AC.says [] [(0, 0)] h); (focus (simp only [go_sem, Nat.reduceEqDiff, Nat.reduceAdd, Nat.reduceSub, Nat.reduceLeDiff, Nat.reduceMul, Nat.reduceBEq, Nat.reduceLT, Int.reduceToNat, reduceCtorEq]; try (and_intros <;> rfl))); (focus exact rfl); (focus (simp only [go_sem, Nat.reduceEqDiff, Nat.reduceAdd, Nat.reduceSub, Nat.reduceLeDiff, Nat.reduceMul, Nat.reduceBEq, Nat.reduceLT, Int.reduceToNat, reduceCtorEq]; try (and_intros <;> rfl))); (focus exact rfl); (iterate 4 (focus (simp [go_sem]; done))))
theorem l14KeysS_ac (a b : List ByteArray) (hla : a.length ≤ 400000) (hlb : b.length ≤ 400000) : AC Tryz.prog 138 [.c (.sl (a.map strCs)), .c (.sl (b.map strCs))] [] (.c (.sl ((mergeU a b).map strCs))) [] := by
  have h := l14Keys_ac a b hla hlb
  (apply (AC.says [] [(0, 0)] h); (focus (simp only [go_sem, Nat.reduceEqDiff, Nat.reduceAdd, Nat.reduceSub, Nat.reduceLeDiff, Nat.reduceMul, Nat.reduceBEq, Nat.reduceLT, Int.reduceToNat, reduceCtorEq]; try (and_intros <;> rfl))); (focus exact rfl); (focus (simp only [go_sem, Nat.reduceEqDiff, Nat.reduceAdd, Nat.reduceSub, Nat.reduceLeDiff, Nat.reduceMul, Nat.reduceBEq, Nat.reduceLT, Int.reduceToNat, reduceCtorEq]; try (and_intros <;> rfl))); (focus exact rfl); (iterate 4 (focus (simp [go_sem]; done))))
set_option maxHeartbeats 16000000 in
theorem l14Merge_ac : ∀ (n : Nat) (a b : V), b.count ≤ n → a.right → b.right → AC Tryz.prog 75 [cellsA a.enc, cellsA b.enc] [] (.own (0, 0)) [((0, 0), .row false 5 42 ((mergeV a b).enc.map CellD.cs))] := by
  intro n
  induction n with
  | zero => intro a b hn; have := count_pos b; omega
  | succ n ih =>
    intro a b hn ha hb
    have hra := enc_rows a
    have hga := enc_head a
    have hrb := enc_rows b
    have hgb := enc_head b
    by_cases hb6 : b.kind = 6
    · have hbb : (b.kind != 6) = false := by simpa using hb6
      obtain ⟨o, hoe⟩ : ∃ o, asObj a = o := ⟨_, rfl⟩
      have ho : o.right := by rw [← hoe]; exact right_obj ha
      have ho6 : o.kind = 6 := by rw [← hoe]; exact obj_six a
      obtain ⟨hbs, hbt, hbl⟩ := right_asc hb hb6
      obtain ⟨hos, hot, hol⟩ := right_asc ho ho6
      obtain ⟨hb1, hb2⟩ := right_kl hb
      obtain ⟨ho1, ho2⟩ := right_kl ho
      have hown : ∀ s j, findKey o.keys s = some j → ∃ v, a.kids[j]? = some v ∧ o.member s = v := by
        intro s j h
        by_cases ha6 : a.kind = 6
        · have e : o = a := by rw [← hoe]; exact asObj_obj ha6
          rw [e] at h hol ⊢
          obtain ⟨h1, _⟩ := findKey_some h
          have h2 : j < a.kids.length := by omega
          exact ⟨_, List.getElem?_eq_getElem h2, member_at h (List.getElem?_eq_getElem h2)⟩
        · have e : o = emptyO := by rw [← hoe]; exact asObj_no ha6
          rw [e] at h
          cases h
      obtain ⟨all, hall⟩ : ∃ all, mergeU o.keys b.keys = all := ⟨_, rfl⟩
      have hallk : objKeys (o.keys ++ b.keys) = all := by rw [← hall]; exact (mergeU_keys (up_of hos) (up_of hbs)).symm
      have hup : Up all := by rw [← hallk]; exact objKeys_up _
      have hal : all.length ≤ 400 := by
        rw [← hallk]
        have := objKeys_len (o.keys ++ b.keys)
        rw [List.length_append] at this
        omega
      obtain ⟨g, hgg⟩ : ∃ g, pickV o b.keys (mergeL o b.keys b.kids) = g := ⟨_, rfl⟩
      obtain ⟨K, hK⟩ : ∃ K, keepK b.keys b.kids = K := ⟨_, rfl⟩
      have hres : mergeV a b = .mk 6 0 ByteArray.empty (all.filter K) ((all.filter K).map g) := by
        rw [merge_obj hb6, hoe]
        unfold mergeO
        rw [hallk, hgg, hK]
      have hsm := merge_small ha hb
      obtain ⟨F, hF⟩ : ∃ F : Nat → List ByteArray, ∀ k, F k = (all.take k).filter K := ⟨_, fun _ => rfl⟩
      have hF0 : F 0 = [] := by rw [hF]; rfl
      have hFn : F all.length = all.filter K := by rw [hF, List.take_length]
      have hobj := l1Object_ac (all.filter K) ((all.filter K).map g) (by rw [List.length_map]) (by
        rw [hres] at hsm
        have := count_kids (V.mk 6 0 ByteArray.empty (all.filter K) ((all.filter K).map g))
        simp only [V.kids] at this
        omega)
      rw [objV_up (up_filter hup K) g, ← hres] at hobj
      have hkb := l1Keys_ac hb.1 hb.2.1
      rw [show keysOf b b.kids.length = b.keys from keysOf_own hb hb6] at hkb
      have hkk := l14KeysS_ac o.keys b.keys (by omega) (by omega)
      rw [hall] at hkk
      have hpa := l1Parts_ac ha.1 ha.2.1
      have hpb := l1Parts_ac hb.1 hb.2.1
      have hkc := count_kids b
      have hlal : (all.map strCs).length = all.length := by simp
      generalize hmab : mergeV a b = mab at *
      rcases hA : (a.kind == 6) with _ | _
      case' false =>
        have ek : o.keys = [] := by
          have ha6 : a.kind ≠ 6 := by simpa using hA
          rw [← hoe, asObj_no ha6]; rfl
        rw [ek] at hkk
        simp only [List.map_nil] at hkk
        refine wEnter Tryz.func75 Tryz.ntmps75 ?_
        refine wRUN (j6 hra hga hrb hgb hbb hA) ?_
        refine w9 (op_shared [] hkb) trivial ?_
        refine wRUN trivial ?_
        refine w9 (op_shared [(25, 0)] hkk) trivial ?_
        refine wRUN trivial ?_
      case' true =>
        have ha6 : a.kind = 6 := by simpa using hA
        have hka := l1Keys_ac ha.1 ha.2.1
        rw [show keysOf a a.kids.length = a.keys from keysOf_own ha ha6] at hka
        have ek : o.keys = a.keys := by rw [← hoe, asObj_obj ha6]
        rw [← ek] at hka
        refine wEnter Tryz.func75 Tryz.ntmps75 ?_
        refine wRUN (j6 hra hga hrb hgb hbb hA) ?_
        refine w9 (op_shared [] hka) trivial ?_
        refine wRUN trivial ?_
        refine w9 (op_shared [] hkb) trivial ?_
        refine wRUN trivial ?_
        refine w9 (op_shared [] hkk) trivial ?_
        refine wRUN trivial ?_
      all_goals
        refine a_loop (κ := Nat) (fun k => ⟨mkS 0 103 [(0, cellsA a.enc), (1, cellsA b.enc), (5, .own (95, 0)), (6, .own (96, 0)), (7, .c (.sl (o.keys.map strCs))), (8, .c (.sl (b.keys.map strCs))), (9, .c (.sl (all.map strCs))), (10, .c (.int .i64 k))],
            [((95, 0), .row false 1 9 ((F k).map strCs)), ((96, 0), .row false 1 24 ((((F k).map g).map V.enc).map encCs))]⟩)
          (fun k => k ≤ all.length) (fun k => all.length - k) 0 (Nat.zero_le _) ?_ ?_
        · first
          | (apply (Says.of [((95, 0), (23, 0)), ((96, 0), (24, 0))] []); (iterate 2 ((focus (simp only [go_sem, Nat.reduceEqDiff, Nat.reduceAdd, Nat.reduceSub, Nat.reduceLeDiff, Nat.reduceMul, Nat.reduceBEq, Nat.reduceLT, Int.reduceToNat, reduceCtorEq, hF0, List.map_nil]; try (and_intros <;> rfl))); (focus exact rfl))); (iterate 4 (focus (simp [go_sem, hF0, List.map_nil]; done))))
          | (apply (Says.of [((95, 0), (23, 0)), ((96, 0), (24, 0))] [(25, 0)]); (iterate 2 ((focus (simp only [go_sem, Nat.reduceEqDiff, Nat.reduceAdd, Nat.reduceSub, Nat.reduceLeDiff, Nat.reduceMul, Nat.reduceBEq, Nat.reduceLT, Int.reduceToNat, reduceCtorEq, hF0, List.map_nil, ek]; try (and_intros <;> rfl))); (focus exact rfl))); (iterate 4 (focus (simp [go_sem, hF0, List.map_nil, ek]; done))))
        · intro i hi
          by_cases hlt : i < all.length
          · have hdk : decide ((i : Int) < (all.length : Int)) = true := by simpa using hlt
            have hw := wrap_succ (k := i) (by omega)
            have hr : rowsAt (all.map strCs) 1 i = true := by simp [rowsAt, hlt, strCs]
            have hg : (all.map strCs)[i]? = some [.str all[i]] := by simp [hlt, strCs]
            have hFk : F (i + 1) = F i ++ (if K all[i] then [all[i]] else []) := by
              rw [hF, hF, List.take_succ_eq_append_getElem hlt, List.filter_append]
              congr 1
              rw [List.filter_cons, List.filter_nil]
            have hFl : (F i).length + 1 ≤ 1000000 := by
              have : (F i).length ≤ (all.take i).length := by rw [hF]; exact List.length_filter_le _ _
              rw [List.length_take] at this
              omega
            have e1 : F (i + 1) = F i ++ [all[i]] → (F i).map strCs ++ [[C.str all[i]]] = (F (i + 1)).map strCs := fun h => by rw [h, List.map_append]; rfl
            have e2 : F (i + 1) = F i ++ [all[i]] → (((F i).map g).map V.enc).map encCs ++ [[C.sl ((g all[i]).enc.map CellD.cs)]] = (((F (i + 1)).map g).map V.enc).map encCs := fun h => by rw [h]; simp only [List.map_append, List.map_cons, List.map_nil]; rfl
            have hp1 := l14Place_ac o.keys all[i] (by omega)
            have hp2 := l14Place_ac b.keys all[i] (by omega)
            have hmr := right_member ho ho6 all[i]
            have hKs : K all[i] = keepK b.keys b.kids all[i] := by rw [hK]
            have hgs : g all[i] = pickV o b.keys (mergeL o b.keys b.kids) all[i] := by rw [hgg]
            have hown' := hown all[i]
            have hno' := fun (h : findKey o.keys all[i] = none) => member_no (a := o) (s := all[i]) h
            have hdm1 : decide ((-1 : Int) ≥ 0) = false := by decide
            have hdm2 : decide ((-1 : Int) < 0) = true := by decide
            have hn0 := enc_rows nullV
            generalize hs : all[i] = s at *
            obtain ⟨was, hwas⟩ : ∃ was, o.member s = was := ⟨_, rfl⟩
            rw [hwas] at hown' hno' hmr
            cases hk : findKey b.keys s with
            | none =>
              rw [hk] at hp2
              rw [keep_none hk] at hKs
              rw [hKs, if_pos rfl] at hFk
              rw [pick_none hk, hwas] at hgs
              rw [hgs] at e2
              have e1 := e1 hFk
              have e2 := e2 hFk
              cases hj : findKey o.keys s with
              | none =>
                rw [hj] at hp1
                have hl3 := l3NullS_ac
                rw [← hno' hj] at hl3
                refine wRUN (j4 hlal hdk hr hg) ?_
                refine w7 (op_data [] hp1) trivial ?_
                refine wRUN (j2 hr hg) ?_
                refine w7 (op_data [] hp2) trivial ?_
                refine wRUN trivial ?_
                refine w9 (op_shared [] hl3) trivial ?_
                refine wRUN (j6 hdm1 hdm2 hr hg hFl hw) ?_
                refine ⟨i + 1, by omega, by omega, ?_⟩
                exact wSays (Says.of [((95, 0), (72, 0)), ((96, 0), (76, 0))] []) (j2 e1 e2)
              | some j =>
                rw [hj] at hp1
                obtain ⟨v, hv, rfl⟩ := hown' j hj
                have hdj : decide ((j : Int) ≥ 0) = true := by simp
                have hjl := (List.getElem?_eq_some_iff.1 hv).1
                have hr2 : rowsAt ((a.kids.map V.enc).map encCs) 1 j = true := by simp [rowsAt, hjl, encCs]
                have hg2 : ((a.kids.map V.enc).map encCs)[j]? = some [.sl (was.enc.map CellD.cs)] := by rw [List.getElem?_map, List.getElem?_map, hv]; rfl
                refine wRUN (j4 hlal hdk hr hg) ?_
                refine w7 (op_data [] hp1) trivial ?_
                refine wRUN (j2 hr hg) ?_
                refine w7 (op_data [] hp2) trivial ?_
                refine wRUN trivial ?_
                refine w9 (op_shared [] l3NullS_ac) trivial ?_
                refine wRUN (j6 hdj hdm2 hr hg hFl hw) ?_
                refine w9 (op_shared [] hpa) trivial ?_
                refine wRUN (j8 hr2 hg2 hdj hdm2 hr hg hFl hw) ?_
                refine ⟨i + 1, by omega, by omega, ?_⟩
                exact wSays (Says.of [((95, 0), (72, 0)), ((96, 0), (76, 0))] []) (j2 e1 e2)
            | some k =>
              rw [hk] at hp2
              obtain ⟨hkl, _, _⟩ := findKey_some hk
              have hkl2 : k < b.kids.length := by omega
              have hkv : b.kids[k]? = some b.kids[k] := List.getElem?_eq_getElem hkl2
              have hkm := List.getElem_mem hkl2
              have hkr := right_mem hb hkm
              have hcm := countL_mem hkm
              have hih' := ih was b.kids[k] (by omega) hmr hkr
              have hih : AC Tryz.prog 75 [cellsA was.enc, cellsA b.kids[k].enc] [] (.c (.sl ((mergeV was b.kids[k]).enc.map CellD.cs))) [] := by
                (apply (AC.says [] [(0, 0)] hih'); (focus (simp only [go_sem, Nat.reduceEqDiff, Nat.reduceAdd, Nat.reduceSub, Nat.reduceLeDiff, Nat.reduceMul, Nat.reduceBEq, Nat.reduceLT, Int.reduceToNat, reduceCtorEq]; try (and_intros <;> rfl))); (focus exact rfl); (focus (simp only [go_sem, Nat.reduceEqDiff, Nat.reduceAdd, Nat.reduceSub, Nat.reduceLeDiff, Nat.reduceMul, Nat.reduceBEq, Nat.reduceLT, Int.reduceToNat, reduceCtorEq]; try (and_intros <;> rfl))); (focus exact rfl); (iterate 4 (focus (simp [go_sem]; done))))
              clear hih'
              rw [keep_some hk hkv] at hKs
              rw [pick_some hk hkv, hwas] at hgs
              have hdk2 : decide ((k : Int) < 0) = false := by simp
              have hr3 : rowsAt ((b.kids.map V.enc).map encCs) 1 k = true := by simp [rowsAt, hkl2, encCs]
              have hg3 : ((b.kids.map V.enc).map encCs)[k]? = some [.sl (b.kids[k].enc.map CellD.cs)] := by rw [List.getElem?_map, List.getElem?_map, hkv]; rfl
              have hrx := enc_rows b.kids[k]
              have hgx := enc_head b.kids[k]
              generalize b.kids[k] = x at *
              generalize mergeV was x = m at *
              rw [hgs] at e2
              cases hz : (x.kind != 0) with
              | true =>
                have hz' : (x.kind == 0) = false := by simpa using hz
                rw [hKs, hz'] at hFk
                simp only [Bool.not_false, if_true] at hFk
                have e1 := e1 hFk
                have e2 := e2 hFk
                cases hj : findKey o.keys s with
                | none =>
                  rw [hj] at hp1
                  have hl3 := l3NullS_ac
                  rw [← hno' hj] at hl3
                  refine wRUN (j4 hlal hdk hr hg) ?_
                  refine w7 (op_data [] hp1) trivial ?_
                  refine wRUN (j2 hr hg) ?_
                  refine w7 (op_data [] hp2) trivial ?_
                  refine wRUN trivial ?_
                  refine w9 (op_shared [] hl3) trivial ?_
                  refine wRUN (j2 hdm1 hdk2) ?_
                  refine w9 (op_shared [] hpb) trivial ?_
                  refine wRUN (j8 hr3 hg3 hrx hgx hz hr hg hFl) ?_
                  refine w9 (op_shared [] hih) trivial ?_
                  refine wRUN (j2 hFl hw) ?_
                  refine ⟨i + 1, by omega, by omega, ?_⟩
                  exact wSays (Says.of [((95, 0), (93, 0)), ((96, 0), (99, 0))] []) (j2 e1 e2)
                | some j =>
                  rw [hj] at hp1
                  obtain ⟨v, hv, rfl⟩ := hown' j hj
                  have hdj : decide ((j : Int) ≥ 0) = true := by simp
                  have hjl := (List.getElem?_eq_some_iff.1 hv).1
                  have hr2 : rowsAt ((a.kids.map V.enc).map encCs) 1 j = true := by simp [rowsAt, hjl, encCs]
                  have hg2 : ((a.kids.map V.enc).map encCs)[j]? = some [.sl (was.enc.map CellD.cs)] := by rw [List.getElem?_map, List.getElem?_map, hv]; rfl
                  refine wRUN (j4 hlal hdk hr hg) ?_
                  refine w7 (op_data [] hp1) trivial ?_
                  refine wRUN (j2 hr hg) ?_
                  refine w7 (op_data [] hp2) trivial ?_
                  refine wRUN trivial ?_
                  refine w9 (op_shared [] l3NullS_ac) trivial ?_
                  refine wRUN hdj ?_
                  refine w9 (op_shared [] hpa) trivial ?_
                  refine wRUN (j3 hr2 hg2 hdk2) ?_
                  refine w9 (op_shared [] hpb) trivial ?_
                  refine wRUN (j8 hr3 hg3 hrx hgx hz hr hg hFl) ?_
                  refine w9 (op_shared [] hih) trivial ?_
                  refine wRUN (j2 hFl hw) ?_
                  refine ⟨i + 1, by omega, by omega, ?_⟩
                  exact wSays (Says.of [((95, 0), (93, 0)), ((96, 0), (99, 0))] []) (j2 e1 e2)
              | false =>
                have hz' : (x.kind == 0) = true := by simpa using hz
                rw [hKs, hz'] at hFk
                simp only [Bool.not_true, Bool.false_eq_true, if_false, List.append_nil] at hFk
                cases hj : findKey o.keys s with
                | none =>
                  rw [hj] at hp1
                  refine wRUN (j4 hlal hdk hr hg) ?_
                  refine w7 (op_data [] hp1) trivial ?_
                  refine wRUN (j2 hr hg) ?_
                  refine w7 (op_data [] hp2) trivial ?_
                  refine wRUN trivial ?_
                  refine w9 (op_shared [] l3NullS_ac) trivial ?_
                  refine wRUN (j2 hdm1 hdk2) ?_
                  refine w9 (op_shared [] hpb) trivial ?_
                  refine wRUN (j9 hr3 hg3 hrx hgx hz hr hg hFl hw) ?_
                  refine ⟨i + 1, by omega, by omega, ?_⟩
                  exact wSays (Says.of [((95, 0), (95, 0)), ((96, 0), (96, 0))] []) hFk
                | some j =>
                  rw [hj] at hp1
                  obtain ⟨v, hv, rfl⟩ := hown' j hj
                  have hdj : decide ((j : Int) ≥ 0) = true := by simp
                  have hjl := (List.getElem?_eq_some_iff.1 hv).1
                  have hr2 : rowsAt ((a.kids.map V.enc).map encCs) 1 j = true := by simp [rowsAt, hjl, encCs]
                  have hg2 : ((a.kids.map V.enc).map encCs)[j]? = some [.sl (was.enc.map CellD.cs)] := by rw [List.getElem?_map, List.getElem?_map, hv]; rfl
                  refine wRUN (j4 hlal hdk hr hg) ?_
                  refine w7 (op_data [] hp1) trivial ?_
                  refine wRUN (j2 hr hg) ?_
                  refine w7 (op_data [] hp2) trivial ?_
                  refine wRUN trivial ?_
                  refine w9 (op_shared [] l3NullS_ac) trivial ?_
                  refine wRUN hdj ?_
                  refine w9 (op_shared [] hpa) trivial ?_
                  refine wRUN (j3 hr2 hg2 hdk2) ?_
                  refine w9 (op_shared [] hpb) trivial ?_
                  refine wRUN (j9 hr3 hg3 hrx hgx hz hr hg hFl hw) ?_
                  refine ⟨i + 1, by omega, by omega, ?_⟩
                  exact wSays (Says.of [((95, 0), (95, 0)), ((96, 0), (96, 0))] []) hFk
          · have hdk : decide ((i : Int) < (all.length : Int)) = false := by simpa using hlt
            have hie : i = all.length := by omega
            subst hie
            rw [hFn]
            refine wRUN (j2 hlal hdk) ?_
            refine w12 (op_rowF [(95, 0), (96, 0)] hobj) trivial ?_
            refine wRUN trivial ?_
            exact wRetOf (ret_of [((0, 0), (102, 0))] []) Tryz.results75 hdk
    · have hbb : (b.kind != 6) = true := by simpa using hb6
      have hres : mergeV a b = b := merge_plain hb6
      have hel := enc_len b
      have hbc := hb.2.1
      have hall := all_cells b.enc
      have hb0 : 0 + b.enc.length ≤ 1000000 := by omega
      rw [hres]
      refine wEnter Tryz.func75 Tryz.ntmps75 ?_
      refine wRUN (j7 hra hga hrb hgb hbb hall hb0) ?_
      exact wRetOf (ret_of [((0, 0), (22, 0))] []) Tryz.results75 hbb
end Go.Proofs.YtpaooephkpjkfaaGreat
