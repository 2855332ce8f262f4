/- impl.merge, by the engine. -/
import Derived.Test.YtpaooephkpjkfaaGreatKG5
set_option linter.unusedSimpArgs false
set_option linter.unusedVariables false
set_option linter.unnecessarySimpa false
namespace Go.Proofs.YtpaooephkpjkfaaGreat
open Go.RowKit
set_option maxRecDepth 10000
theorem right_emptyO : emptyO.right := ⟨wf_obj (a := nullV) right_null.1, by decide, by decide⟩
theorem right_kl {t : V} (h : t.right) : t.keys.length ≤ 200 ∧ t.kids.length ≤ 200 := by
  have h1 := kids_len_le h.2.1
  refine ⟨?_, h1⟩
  by_cases h6 : t.kind = 6
  · have := (right_asc h h6).2.2
    omega
  · have := (right_shape h.1).2.2.2.2.1 h6
    rw [this]
    exact Nat.zero_le _
set_option maxHeartbeats 16000000 in
theorem merge_ac : ∀ (n : Nat) (a b : V), b.count ≤ n → a.right → b.right → AC Tryz.prog 73 [a.av, b.av] [] (mergeV a b).av [] := by
  intro n
  induction n with
  | zero => intro a b hn; have := count_pos b; omega
  | succ n ih =>
    intro a b hn ha hb
    by_cases hb6 : b.kind = 6
    · have hbb : (b.kind != 6) = false := by simpa using hb6
      obtain ⟨o, hoe⟩ : ∃ o, asObj a = o := ⟨_, rfl⟩
      have ho : o.right := by rw [← hoe]; unfold asObj; split; exact ha; exact right_emptyO
      have ho6 : o.kind = 6 := by rw [← hoe]; unfold asObj; split; assumption; rfl
      obtain ⟨hbs, hbt, hbl⟩ := right_asc hb hb6
      obtain ⟨hos, hot, hol⟩ := right_asc ho ho6
      obtain ⟨hb1, hb2⟩ := right_kl hb
      obtain ⟨ho1, ho2⟩ := right_kl ho
      have hmll := mergeL_len o b.keys b.kids hbl
      have hck := cloneStrs_ac o.keys (by omega)
      have hcv := cloneVals_ac o.kids (by omega)
      have hkc := count_kids b
      have hlbk : (b.keys.map strCs).length = b.keys.length := by simp
      obtain ⟨K1, hK1⟩ : ∃ K1 : Nat → List ByteArray, ∀ k, K1 k = o.keys ++ b.keys.take k := ⟨_, fun _ => rfl⟩
      obtain ⟨K2, hK2⟩ : ∃ K2 : Nat → List V, ∀ k, K2 k = o.kids ++ (mergeL o b.keys b.kids).take k := ⟨_, fun _ => rfl⟩
      have hK10 : K1 0 = o.keys := by rw [hK1]; simp
      have hK20 : K2 0 = o.kids := by rw [hK2]; simp
      have hK1n : K1 b.keys.length = o.keys ++ b.keys := by rw [hK1, List.take_length]
      have hK2n : K2 b.keys.length = o.kids ++ mergeL o b.keys b.kids := by rw [hK2, ← hmll, List.take_length]
      obtain ⟨g, hgg⟩ : ∃ g, g = lastKid (o.keys ++ b.keys) (o.kids ++ mergeL o b.keys b.kids) := ⟨_, rfl⟩
      obtain ⟨Ka, hKa⟩ : ∃ Ka, Ka = objKeys (o.keys ++ b.keys) := ⟨_, rfl⟩
      have hlKa : (Ka.map strCs).length = Ka.length := by simp
      have hKl : Ka.length ≤ 400 := by
        rw [hKa]
        have := objKeys_len (o.keys ++ b.keys)
        rw [List.length_append] at this
        omega
      have hobj := object_ac (o.keys ++ b.keys) (o.kids ++ mergeL o b.keys b.kids) (by rw [List.length_append, List.length_append]; omega) (by rw [List.length_append]; omega) (by
        intro k hk
        rcases List.mem_append.1 hk with hk | hk
        · have := okText_le (hot k hk); omega
        · have := okText_le (hbt k hk); omega)
      unfold objA at hobj
      rw [← hgg, ← hKa] at hobj
      have hoo := object_own [] [] rfl (by simp) (by simp)
      have hok0 : objKeys [] = [] := rfl
      rw [hok0] at hoo
      simp only [List.map_nil] at hoo
      have hoo2 := object_ac [] [] rfl (by simp) (by simp)
      unfold objA at hoo2
      rw [hok0] at hoo2
      simp only [List.map_nil] at hoo2
      obtain ⟨F, hF⟩ : ∃ F : Nat → List ByteArray, ∀ k, F k = (Ka.take k).filter (keepK b.keys b.kids) := ⟨_, fun _ => rfl⟩
      have hF0 : F 0 = [] := by rw [hF]; rfl
      have hres : mergeV a b = .mk 6 0 ByteArray.empty (Ka.filter (keepK b.keys b.kids)) ((Ka.filter (keepK b.keys b.kids)).map g) := by
        have h1 : mergeV a b = mergeO (asObj a) b.keys b.kids (mergeL (asObj a) b.keys b.kids) := by
          cases b
          simp only [V.kind] at hb6
          unfold mergeV
          rw [if_pos hb6]
          rfl
        rw [h1, hoe, merge_pick ho.1 (up_of hbs) hmll.symm hol (up_of hos), hKa, hgg]
        rfl
      rw [hres]
      show AC _ _ _ _ (.agg [.c (.int .i64 6), .c (.int .i64 0), .c (.str ByteArray.empty), .c (.sl ((Ka.filter (keepK b.keys b.kids)).map strCs)), .c (.sl (((Ka.filter (keepK b.keys b.kids)).map g).map V.cs))]) []
      clear hgg hKa hres hos hot hbs hbt
      by_cases ha6 : a.kind = 6
      · have hba : (a.kind != 6) = false := by simpa using ha6
        have hoa : o = a := by rw [← hoe]; unfold asObj; rw [if_pos ha6]
        clear hoe
        subst hoa
        refine wEnter Tryz.func73 Tryz.ntmps73 ?_
        refine wRUN (j2 hbb hba) ?_
        refine w12 (op_rowF [] hck) trivial ?_
        refine wRUN trivial ?_
        refine w12 (op_rowF [] hcv) trivial ?_
        refine wRUN hlbk ?_
        refine a_loop (κ := Nat) (fun k => ⟨mkS 0 93 [(2, .ptr (2, 0) 0), (3, .ptr (3, 0) 0), (4, .ptr (4, 0) 0), (5, .own (95, 0)), (6, .own (96, 0)), (28, .c (.sl (b.keys.map strCs))), (29, .c (.int .i64 b.keys.length)), (30, .c (.int .i64 k))],
            [((2, 0), .box [.c (.int .i64 o.kind), .c (.int .i64 o.num), .c (.str o.text), .c (.sl (o.keys.map strCs)), .c (.sl (o.kids.map V.cs))]), ((3, 0), .box [.c (.int .i64 b.kind), .c (.int .i64 b.num), .c (.str b.text), .c (.sl (b.keys.map strCs)), .c (.sl (b.kids.map V.cs))]), ((4, 0), .box [.c (.int .i64 0), .c (.int .i64 0), .c (.str ByteArray.empty), .nils, .nils]),
             ((95, 0), .row false 1 9 ((K1 k).map strCs)), ((96, 0), .row false 5 73 ((K2 k).map V.cs))]⟩)
          (fun k => k ≤ b.keys.length) (fun k => b.keys.length - k) 0 (Nat.zero_le _) ?_ ?_
        · exact wSays (Says.of [((2, 0), (2, 0)), ((3, 0), (3, 0)), ((4, 0), (4, 0)), ((95, 0), (23, 0)), ((96, 0), (26, 0))] []) (j2 hK10 hK20)
        · intro k hk
          by_cases hlt : k < b.keys.length
          · have hdk : decide ((k : Int) < (b.keys.length : Int)) = true := by simpa using hlt
            have hw := wrap_succ (k := k) (by omega)
            have hlt2 : k < b.kids.length := by omega
            have hr : rowsAt (b.keys.map strCs) 1 k = true := by simp [rowsAt, hlt, strCs]
            have hg : (b.keys.map strCs)[k]? = some [.str b.keys[k]] := by simp [hlt, strCs]
            have hr2 : rowsAt (b.kids.map V.cs) 5 k = true := by simp [rowsAt, hlt2, V.cs_eq]
            have hg2 : (b.kids.map V.cs)[k]? = some [.int .i64 b.kids[k].kind, .int .i64 b.kids[k].num, .str b.kids[k].text, .sl (b.kids[k].keys.map strCs), .sl (b.kids[k].kids.map V.cs)] := by simp [hlt2, V.cs_eq]
            have hmem := member_ac ho ho6 b.keys[k]
            have hmr := right_member ho ho6 b.keys[k]
            have hkm := List.getElem_mem hlt2
            have hkr := right_mem hb hkm
            have hcm := countL_mem hkm
            have hih := ih (o.member b.keys[k]) b.kids[k] (by omega) hmr hkr
            have hl1 : (K1 k).length + 1 ≤ 1000000 := by rw [hK1, List.length_append, List.length_take]; omega
            have hl2 : (K2 k).length + 1 ≤ 1000000 := by rw [hK2, List.length_append, List.length_take]; omega
            have e1 : (K1 k).map strCs ++ [[C.str b.keys[k]]] = (K1 (k + 1)).map strCs := by
              rw [hK1, hK1, List.take_succ_eq_append_getElem hlt, ← List.append_assoc, List.map_append (l₂ := [b.keys[k]])]
              rfl
            have e2 : ∀ m, m = mergeV (o.member b.keys[k]) b.kids[k] → (K2 k).map V.cs ++ [[.int .i64 m.kind, .int .i64 m.num, .str m.text, .sl (m.keys.map strCs), .sl (m.kids.map V.cs)]] = (K2 (k + 1)).map V.cs := by
              rintro m rfl
              rw [hK2, hK2, mergeL_take o b.keys b.kids hlt hlt2, ← List.append_assoc, List.map_append (l₂ := [mergeV (o.member b.keys[k]) b.kids[k]]), List.map_cons, List.map_nil, V.cs_eq]
            have e3 := e2 _ rfl
            clear e2 hcm hkr hkm
            generalize mergeV (o.member b.keys[k]) b.kids[k] = m at *
            generalize o.member b.keys[k] = q at *
            generalize b.kids[k] = u at *
            generalize b.keys[k] = s at *
            refine wRUN (j7 hdk hr hg hr2 hg2 hl1 hl2) ?_
            refine w9 (op_shared [] hmem) trivial ?_
            refine wRUN (j7 hdk hr hg hr2 hg2 hl1 hl2) ?_
            refine w9 (op_shared [] hih) trivial ?_
            refine wRUN (j8 hdk hr hg hr2 hg2 hl1 hl2 hw) ?_
            refine ⟨k + 1, by omega, by omega, ?_⟩
            exact wSays (Says.of [((2, 0), (2, 0)), ((3, 0), (3, 0)), ((4, 0), (4, 0)), ((95, 0), (38, 0)), ((96, 0), (50, 0))] []) (j2 e1 e3)
          · have hdk : decide ((k : Int) < (b.keys.length : Int)) = false := by simpa using hlt
            have hke : k = b.keys.length := by omega
            rw [hke, hK1n, hK2n]
            rw [hke] at hdk
            refine wRUN hdk ?_
            refine w9 (op_shared [(95, 0), (96, 0)] hobj) trivial ?_
            refine wRUN hdk ?_
            refine wCall (op_any_call [] [((0, 0), (97, 0)), ((0, 1), (98, 0))] hoo) trivial ?_
            refine wRUN hlKa ?_
            refine a_loop (κ := Nat) (fun k => ⟨mkS 0 93 [(3, .ptr (3, 0) 0), (4, .ptr (4, 0) 0), (9, .ptr (9, 0) 0), (10, .ptr (10, 0) 0), (57, .c (.sl (Ka.map strCs))), (58, .c (.int .i64 Ka.length)), (59, .c (.int .i64 k))],
                [((3, 0), .box [.c (.int .i64 b.kind), .c (.int .i64 b.num), .c (.str b.text), .c (.sl (b.keys.map strCs)), .c (.sl (b.kids.map V.cs))]), ((4, 0), .box [.c (.int .i64 0), .c (.int .i64 0), .c (.str ByteArray.empty), .nils, .nils]),
                 ((9, 0), .box [.c (.int .i64 6), .c (.int .i64 0), .c (.str ByteArray.empty), .c (.sl (Ka.map strCs)), .c (.sl ((Ka.map g).map V.cs))]), ((10, 0), .box [.c (.int .i64 6), .c (.int .i64 0), .c (.str ByteArray.empty), .own (97, 0), .own (98, 0)]),
                 ((97, 0), .row false 1 9 ((F k).map strCs)), ((98, 0), .row false 5 73 (((F k).map g).map V.cs))]⟩)
              (fun k => k ≤ Ka.length) (fun k => Ka.length - k) 0 (Nat.zero_le _) ?_ ?_
            · (apply (Says.of [((3, 0), (3, 0)), ((4, 0), (4, 0)), ((9, 0), (9, 0)), ((10, 0), (10, 0)), ((97, 0), (97, 0)), ((98, 0), (98, 0))] []); (iterate 2 ((focus (simp only [go_sem, Nat.reduceEqDiff, Nat.reduceAdd, Nat.reduceSub, Nat.reduceLeDiff, Nat.reduceMul, Nat.reduceBEq, Nat.reduceLT, Int.reduceToNat, reduceCtorEq, hF0, List.map_nil]; try (and_intros <;> rfl))); (focus exact rfl))); (iterate 4 (focus (simp [go_sem, hF0, List.map_nil]; done))))
            · intro k hk
              by_cases hlt : k < Ka.length
              · have hdk : decide ((k : Int) < (Ka.length : Int)) = true := by simpa using hlt
                have hw := wrap_succ (k := k) (by omega)
                have hr : rowsAt (Ka.map strCs) 1 k = true := by simp [rowsAt, hlt, strCs]
                have hg : (Ka.map strCs)[k]? = some [.str Ka[k]] := by simp [hlt, strCs]
                have hr2 : rowsAt ((Ka.map g).map V.cs) 5 k = true := by simp [rowsAt, hlt, V.cs_eq]
                have hg2 : ((Ka.map g).map V.cs)[k]? = some [.int .i64 (g Ka[k]).kind, .int .i64 (g Ka[k]).num, .str (g Ka[k]).text, .sl ((g Ka[k]).keys.map strCs), .sl ((g Ka[k]).kids.map V.cs)] := by simp [hlt, V.cs_eq]
                have hcon := containsStr_ac b.keys Ka[k] (by omega)
                have hmem := member_ac hb hb6 Ka[k]
                have hFk : F (k + 1) = F k ++ (if keepK b.keys b.kids Ka[k] then [Ka[k]] else []) := by
                  rw [hF, hF, List.take_succ_eq_append_getElem hlt, List.filter_append]
                  congr 1
                  rw [List.filter_cons, List.filter_nil]
                have hFl : (F k).length + 1 ≤ 1000000 := by
                  have : (F k).length ≤ (Ka.take k).length := by rw [hF]; exact List.length_filter_le _ _
                  rw [List.length_take] at this
                  omega
                have hkp : keepK b.keys b.kids Ka[k] = !((findKey b.keys Ka[k]).isSome && (b.member Ka[k]).kind == 0) := rfl
                rw [hkp] at hFk
                have e1 : F (k + 1) = F k ++ [Ka[k]] → (F k).map strCs ++ [[C.str Ka[k]]] = (F (k + 1)).map strCs := fun h => by rw [h, List.map_append]; rfl
                have e2 : F (k + 1) = F k ++ [Ka[k]] → ((F k).map g).map V.cs ++ [[.int .i64 (g Ka[k]).kind, .int .i64 (g Ka[k]).num, .str (g Ka[k]).text, .sl ((g Ka[k]).keys.map strCs), .sl ((g Ka[k]).kids.map V.cs)]] = ((F (k + 1)).map g).map V.cs := fun h => by rw [h, List.map_append, List.map_append, List.map_cons, List.map_cons, List.map_nil, List.map_nil, V.cs_eq]
                generalize g Ka[k] = gv at *
                generalize Ka[k] = s at *
                cases hc : (findKey b.keys s).isSome with
                | false =>
                  rw [hc] at hcon hFk
                  have e := hFk
                  simp only [Bool.false_and, Bool.not_false, if_true] at e
                  have e1 := e1 e
                  have e2 := e2 e
                  refine wRUN (j6 hdk hr hg hr2 hg2 hFl) ?_
                  refine w7 (op_data [] hcon) trivial ?_
                  refine wRUN (j7 hdk hr hg hr2 hg2 hFl hw) ?_
                  refine ⟨k + 1, by omega, by omega, ?_⟩
                  exact wSays (Says.of [((3, 0), (3, 0)), ((4, 0), (4, 0)), ((9, 0), (9, 0)), ((10, 0), (10, 0)), ((97, 0), (79, 0)), ((98, 0), (88, 0))] []) (j2 e1 e2)
                | true =>
                  rw [hc] at hcon hFk
                  generalize b.member s = bm at *
                  cases hz : bm.kind == 0 with
                  | false =>
                    have e := hFk
                    simp only [hz, Bool.and_false, Bool.not_false, if_true] at e
                    have e1 := e1 e
                    have e2 := e2 e
                    refine wRUN (j6 hdk hr hg hr2 hg2 hFl) ?_
                    refine w7 (op_data [] hcon) trivial ?_
                    refine wRUN (j6 hdk hr hg hr2 hg2 hFl) ?_
                    refine w9 (op_shared [] hmem) trivial ?_
                    refine wRUN (j8 hz hdk hr hg hr2 hg2 hFl hw) ?_
                    refine ⟨k + 1, by omega, by omega, ?_⟩
                    exact wSays (Says.of [((3, 0), (3, 0)), ((4, 0), (4, 0)), ((9, 0), (9, 0)), ((10, 0), (10, 0)), ((97, 0), (79, 0)), ((98, 0), (88, 0))] []) (j2 e1 e2)
                  | true =>
                    have e := hFk
                    simp only [hz, Bool.and_true, Bool.not_true, Bool.false_eq_true, if_false, List.append_nil] at e
                    refine wRUN (j6 hdk hr hg hr2 hg2 hFl) ?_
                    refine w7 (op_data [] hcon) trivial ?_
                    refine wRUN (j6 hdk hr hg hr2 hg2 hFl) ?_
                    refine w9 (op_shared [] hmem) trivial ?_
                    refine wRUN (j8 hz hdk hr hg hr2 hg2 hFl hw) ?_
                    refine ⟨k + 1, by omega, by omega, ?_⟩
                    exact wSays (Says.of [((3, 0), (3, 0)), ((4, 0), (4, 0)), ((9, 0), (9, 0)), ((10, 0), (10, 0)), ((97, 0), (97, 0)), ((98, 0), (98, 0))] []) e
              · have hdk : decide ((k : Int) < (Ka.length : Int)) = false := by simpa using hlt
                have hke : F k = Ka.filter (keepK b.keys b.kids) := by rw [hF, List.take_of_length_le (by omega)]
                rw [hke]
                refine wRUN hdk ?_
                exact wRetOf (ret_of [] [(97, 0), (98, 0)]) Tryz.results73 hdk
      · have hba : (a.kind != 6) = true := by simpa using ha6
        have hoa : emptyO = o := by rw [← hoe]; unfold asObj; rw [if_neg ha6]
        clear hoe
        have ek : o.kind = 6 := ho6
        have en : o.num = 0 := by rw [← hoa]; rfl
        have et : o.text = ByteArray.empty := by rw [← hoa]; rfl
        have eks : o.keys = [] := by rw [← hoa]; rfl
        have evs : o.kids = [] := by rw [← hoa]; rfl
        have hoo3 : AC Tryz.prog 132 [.c (.sl []), .c (.sl [])] [] (.agg [.c (.int .i64 o.kind), .c (.int .i64 o.num), .c (.str o.text), .c (.sl (o.keys.map strCs)), .c (.sl (o.kids.map V.cs))]) [] := by
          rw [ek, en, et, eks, evs]
          exact hoo2
        clear hoa hoo2
        refine wEnter Tryz.func73 Tryz.ntmps73 ?_
        refine wRUN (j2 hbb hba) ?_
        refine w9 (op_shared [] hoo3) trivial ?_
        refine wRUN trivial ?_
        refine w12 (op_rowF [] hck) trivial ?_
        refine wRUN trivial ?_
        refine w12 (op_rowF [] hcv) trivial ?_
        refine wRUN hlbk ?_
        refine a_loop (κ := Nat) (fun k => ⟨mkS 0 93 [(2, .ptr (2, 0) 0), (3, .ptr (3, 0) 0), (4, .ptr (4, 0) 0), (5, .own (95, 0)), (6, .own (96, 0)), (28, .c (.sl (b.keys.map strCs))), (29, .c (.int .i64 b.keys.length)), (30, .c (.int .i64 k))],
            [((2, 0), .box [.c (.int .i64 o.kind), .c (.int .i64 o.num), .c (.str o.text), .c (.sl (o.keys.map strCs)), .c (.sl (o.kids.map V.cs))]), ((3, 0), .box [.c (.int .i64 b.kind), .c (.int .i64 b.num), .c (.str b.text), .c (.sl (b.keys.map strCs)), .c (.sl (b.kids.map V.cs))]), ((4, 0), .box [.c (.int .i64 0), .c (.int .i64 0), .c (.str ByteArray.empty), .nils, .nils]),
             ((95, 0), .row false 1 9 ((K1 k).map strCs)), ((96, 0), .row false 5 73 ((K2 k).map V.cs))]⟩)
          (fun k => k ≤ b.keys.length) (fun k => b.keys.length - k) 0 (Nat.zero_le _) ?_ ?_
        · exact wSays (Says.of [((2, 0), (2, 0)), ((3, 0), (3, 0)), ((4, 0), (4, 0)), ((95, 0), (23, 0)), ((96, 0), (26, 0))] []) (j2 hK10 hK20)
        · intro k hk
          by_cases hlt : k < b.keys.length
          · have hdk : decide ((k : Int) < (b.keys.length : Int)) = true := by simpa using hlt
            have hw := wrap_succ (k := k) (by omega)
            have hlt2 : k < b.kids.length := by omega
            have hr : rowsAt (b.keys.map strCs) 1 k = true := by simp [rowsAt, hlt, strCs]
            have hg : (b.keys.map strCs)[k]? = some [.str b.keys[k]] := by simp [hlt, strCs]
            have hr2 : rowsAt (b.kids.map V.cs) 5 k = true := by simp [rowsAt, hlt2, V.cs_eq]
            have hg2 : (b.kids.map V.cs)[k]? = some [.int .i64 b.kids[k].kind, .int .i64 b.kids[k].num, .str b.kids[k].text, .sl (b.kids[k].keys.map strCs), .sl (b.kids[k].kids.map V.cs)] := by simp [hlt2, V.cs_eq]
            have hmem := member_ac ho ho6 b.keys[k]
            have hmr := right_member ho ho6 b.keys[k]
            have hkm := List.getElem_mem hlt2
            have hkr := right_mem hb hkm
            have hcm := countL_mem hkm
            have hih := ih (o.member b.keys[k]) b.kids[k] (by omega) hmr hkr
            have hl1 : (K1 k).length + 1 ≤ 1000000 := by rw [hK1, List.length_append, List.length_take]; omega
            have hl2 : (K2 k).length + 1 ≤ 1000000 := by rw [hK2, List.length_append, List.length_take]; omega
            have e1 : (K1 k).map strCs ++ [[C.str b.keys[k]]] = (K1 (k + 1)).map strCs := by
              rw [hK1, hK1, List.take_succ_eq_append_getElem hlt, ← List.append_assoc, List.map_append (l₂ := [b.keys[k]])]
              rfl
            have e2 : ∀ m, m = mergeV (o.member b.keys[k]) b.kids[k] → (K2 k).map V.cs ++ [[.int .i64 m.kind, .int .i64 m.num, .str m.text, .sl (m.keys.map strCs), .sl (m.kids.map V.cs)]] = (K2 (k + 1)).map V.cs := by
              rintro m rfl
              rw [hK2, hK2, mergeL_take o b.keys b.kids hlt hlt2, ← List.append_assoc, List.map_append (l₂ := [mergeV (o.member b.keys[k]) b.kids[k]]), List.map_cons, List.map_nil, V.cs_eq]
            have e3 := e2 _ rfl
            clear e2 hcm hkr hkm
            generalize mergeV (o.member b.keys[k]) b.kids[k] = m at *
            generalize o.member b.keys[k] = q at *
            generalize b.kids[k] = u at *
            generalize b.keys[k] = s at *
            refine wRUN (j7 hdk hr hg hr2 hg2 hl1 hl2) ?_
            refine w9 (op_shared [] hmem) trivial ?_
            refine wRUN (j7 hdk hr hg hr2 hg2 hl1 hl2) ?_
            refine w9 (op_shared [] hih) trivial ?_
            refine wRUN (j8 hdk hr hg hr2 hg2 hl1 hl2 hw) ?_
            refine ⟨k + 1, by omega, by omega, ?_⟩
            exact wSays (Says.of [((2, 0), (2, 0)), ((3, 0), (3, 0)), ((4, 0), (4, 0)), ((95, 0), (38, 0)), ((96, 0), (50, 0))] []) (j2 e1 e3)
          · have hdk : decide ((k : Int) < (b.keys.length : Int)) = false := by simpa using hlt
            have hke : k = b.keys.length := by omega
            rw [hke, hK1n, hK2n]
            rw [hke] at hdk
            refine wRUN hdk ?_
            refine w9 (op_shared [(95, 0), (96, 0)] hobj) trivial ?_
            refine wRUN hdk ?_
            refine wCall (op_any_call [] [((0, 0), (97, 0)), ((0, 1), (98, 0))] hoo) trivial ?_
            refine wRUN hlKa ?_
            refine a_loop (κ := Nat) (fun k => ⟨mkS 0 93 [(3, .ptr (3, 0) 0), (4, .ptr (4, 0) 0), (9, .ptr (9, 0) 0), (10, .ptr (10, 0) 0), (57, .c (.sl (Ka.map strCs))), (58, .c (.int .i64 Ka.length)), (59, .c (.int .i64 k))],
                [((3, 0), .box [.c (.int .i64 b.kind), .c (.int .i64 b.num), .c (.str b.text), .c (.sl (b.keys.map strCs)), .c (.sl (b.kids.map V.cs))]), ((4, 0), .box [.c (.int .i64 0), .c (.int .i64 0), .c (.str ByteArray.empty), .nils, .nils]),
                 ((9, 0), .box [.c (.int .i64 6), .c (.int .i64 0), .c (.str ByteArray.empty), .c (.sl (Ka.map strCs)), .c (.sl ((Ka.map g).map V.cs))]), ((10, 0), .box [.c (.int .i64 6), .c (.int .i64 0), .c (.str ByteArray.empty), .own (97, 0), .own (98, 0)]),
                 ((97, 0), .row false 1 9 ((F k).map strCs)), ((98, 0), .row false 5 73 (((F k).map g).map V.cs))]⟩)
              (fun k => k ≤ Ka.length) (fun k => Ka.length - k) 0 (Nat.zero_le _) ?_ ?_
            · (apply (Says.of [((3, 0), (3, 0)), ((4, 0), (4, 0)), ((9, 0), (9, 0)), ((10, 0), (10, 0)), ((97, 0), (97, 0)), ((98, 0), (98, 0))] []); (iterate 2 ((focus (simp only [go_sem, Nat.reduceEqDiff, Nat.reduceAdd, Nat.reduceSub, Nat.reduceLeDiff, Nat.reduceMul, Nat.reduceBEq, Nat.reduceLT, Int.reduceToNat, reduceCtorEq, hF0, List.map_nil]; try (and_intros <;> rfl))); (focus exact rfl))); (iterate 4 (focus (simp [go_sem, hF0, List.map_nil]; done))))
            · intro k hk
              by_cases hlt : k < Ka.length
              · have hdk : decide ((k : Int) < (Ka.length : Int)) = true := by simpa using hlt
                have hw := wrap_succ (k := k) (by omega)
                have hr : rowsAt (Ka.map strCs) 1 k = true := by simp [rowsAt, hlt, strCs]
                have hg : (Ka.map strCs)[k]? = some [.str Ka[k]] := by simp [hlt, strCs]
                have hr2 : rowsAt ((Ka.map g).map V.cs) 5 k = true := by simp [rowsAt, hlt, V.cs_eq]
                have hg2 : ((Ka.map g).map V.cs)[k]? = some [.int .i64 (g Ka[k]).kind, .int .i64 (g Ka[k]).num, .str (g Ka[k]).text, .sl ((g Ka[k]).keys.map strCs), .sl ((g Ka[k]).kids.map V.cs)] := by simp [hlt, V.cs_eq]
                have hcon := containsStr_ac b.keys Ka[k] (by omega)
                have hmem := member_ac hb hb6 Ka[k]
                have hFk : F (k + 1) = F k ++ (if keepK b.keys b.kids Ka[k] then [Ka[k]] else []) := by
                  rw [hF, hF, List.take_succ_eq_append_getElem hlt, List.filter_append]
                  congr 1
                  rw [List.filter_cons, List.filter_nil]
                have hFl : (F k).length + 1 ≤ 1000000 := by
                  have : (F k).length ≤ (Ka.take k).length := by rw [hF]; exact List.length_filter_le _ _
                  rw [List.length_take] at this
                  omega
                have hkp : keepK b.keys b.kids Ka[k] = !((findKey b.keys Ka[k]).isSome && (b.member Ka[k]).kind == 0) := rfl
                rw [hkp] at hFk
                have e1 : F (k + 1) = F k ++ [Ka[k]] → (F k).map strCs ++ [[C.str Ka[k]]] = (F (k + 1)).map strCs := fun h => by rw [h, List.map_append]; rfl
                have e2 : F (k + 1) = F k ++ [Ka[k]] → ((F k).map g).map V.cs ++ [[.int .i64 (g Ka[k]).kind, .int .i64 (g Ka[k]).num, .str (g Ka[k]).text, .sl ((g Ka[k]).keys.map strCs), .sl ((g Ka[k]).kids.map V.cs)]] = ((F (k + 1)).map g).map V.cs := fun h => by rw [h, List.map_append, List.map_append, List.map_cons, List.map_cons, List.map_nil, List.map_nil, V.cs_eq]
                generalize g Ka[k] = gv at *
                generalize Ka[k] = s at *
                cases hc : (findKey b.keys s).isSome with
                | false =>
                  rw [hc] at hcon hFk
                  have e := hFk
                  simp only [Bool.false_and, Bool.not_false, if_true] at e
                  have e1 := e1 e
                  have e2 := e2 e
                  refine wRUN (j6 hdk hr hg hr2 hg2 hFl) ?_
                  refine w7 (op_data [] hcon) trivial ?_
                  refine wRUN (j7 hdk hr hg hr2 hg2 hFl hw) ?_
                  refine ⟨k + 1, by omega, by omega, ?_⟩
                  exact wSays (Says.of [((3, 0), (3, 0)), ((4, 0), (4, 0)), ((9, 0), (9, 0)), ((10, 0), (10, 0)), ((97, 0), (79, 0)), ((98, 0), (88, 0))] []) (j2 e1 e2)
                | true =>
                  rw [hc] at hcon hFk
                  generalize b.member s = bm at *
                  cases hz : bm.kind == 0 with
                  | false =>
                    have e := hFk
                    simp only [hz, Bool.and_false, Bool.not_false, if_true] at e
                    have e1 := e1 e
                    have e2 := e2 e
                    refine wRUN (j6 hdk hr hg hr2 hg2 hFl) ?_
                    refine w7 (op_data [] hcon) trivial ?_
                    refine wRUN (j6 hdk hr hg hr2 hg2 hFl) ?_
                    refine w9 (op_shared [] hmem) trivial ?_
                    refine wRUN (j8 hz hdk hr hg hr2 hg2 hFl hw) ?_
                    refine ⟨k + 1, by omega, by omega, ?_⟩
                    exact wSays (Says.of [((3, 0), (3, 0)), ((4, 0), (4, 0)), ((9, 0), (9, 0)), ((10, 0), (10, 0)), ((97, 0), (79, 0)), ((98, 0), (88, 0))] []) (j2 e1 e2)
                  | true =>
                    have e := hFk
                    simp only [hz, Bool.and_true, Bool.not_true, Bool.false_eq_true, if_false, List.append_nil] at e
                    refine wRUN (j6 hdk hr hg hr2 hg2 hFl) ?_
                    refine w7 (op_data [] hcon) trivial ?_
                    refine wRUN (j6 hdk hr hg hr2 hg2 hFl) ?_
                    refine w9 (op_shared [] hmem) trivial ?_
                    refine wRUN (j8 hz hdk hr hg hr2 hg2 hFl hw) ?_
                    refine ⟨k + 1, by omega, by omega, ?_⟩
                    exact wSays (Says.of [((3, 0), (3, 0)), ((4, 0), (4, 0)), ((9, 0), (9, 0)), ((10, 0), (10, 0)), ((97, 0), (97, 0)), ((98, 0), (98, 0))] []) e
              · have hdk : decide ((k : Int) < (Ka.length : Int)) = false := by simpa using hlt
                have hke : F k = Ka.filter (keepK b.keys b.kids) := by rw [hF, List.take_of_length_le (by omega)]
                rw [hke]
                refine wRUN hdk ?_
                exact wRetOf (ret_of [] [(97, 0), (98, 0)]) Tryz.results73 hdk
    · have hbb : (b.kind != 6) = true := by simpa using hb6
      have hres : mergeV a b = b := by
        cases b
        simp only [V.kind] at hb6
        unfold mergeV
        rw [if_neg hb6]
      rw [hres]
      refine wEnter Tryz.func73 Tryz.ntmps73 ?_
      refine wRUN hbb ?_
      exact wRet (ret_data []) Tryz.results73
end Go.Proofs.YtpaooephkpjkfaaGreat
