/- (*impl.differ).values, objects, arrays, by the engine. -/
import Derived.Test.YtamgeodhpglgkaaGreatKM44uG72
import Derived.Test.YtamgeodhpglgkaaGreatKE32uE34
import Derived.Test.YtamgeodhpglgkaaGreatKG67
import Derived.Test.YtamgeodhpglgkaaGreatKG69
set_option linter.unusedSimpArgs false
set_option maxHeartbeats 8000000
namespace Go.Proofs.YtamgeodhpglgkaaGreat
open Go.RowKit
set_option maxRecDepth 10000
def leafy (p : List V) : Prop := ∀ q ∈ p, q.count = 1 ∧ q.neat
theorem leafy_str {p : List V} (h : leafy p) (k : ByteArray) : leafy (p ++ [strV k]) := fun q hq => by
 rcases List.mem_append.1 hq with hq | hq
 ·exact h q hq
 ·rw [List.mem_singleton.1 hq]; exact ⟨by simp [strV, V.count, countL], by simp [strV, V.neat, neatL]⟩
theorem leafy_num {p : List V} (h : leafy p) (n : Int) : leafy (p ++ [numV n]) := fun q hq => by
 rcases List.mem_append.1 hq with hq | hq
 ·exact h q hq
 ·rw [List.mem_singleton.1 hq]; exact ⟨by simp [numV, V.count, countL], by simp [numV, V.neat, neatL]⟩
theorem leafy_count : ∀ {p : List V}, leafy p → countL p = p.length
 | [], _ => rfl
 | x :: p, h => by
  have h1 := leafy_count (p := p) fun q hq => h q (List.mem_cons_of_mem _ hq)
  have h2 := (h x (by simp)).1
  simp only [countL, List.length_cons]
  omega
theorem leafy_arr {p : List V} (h : leafy p) : (arrV p).count = p.length + 1 := by
 have := leafy_count h
 rw [count_kids]
 show countL p + 1 = _
 omega
theorem leafy_neatL : ∀ {p : List V}, leafy p → neatL p
 | [], _ => trivial
 | x :: p, h => ⟨(h x (by simp)).2, leafy_neatL fun q hq => h q (List.mem_cons_of_mem _ hq)⟩
theorem leafy_neat {p : List V} (h : leafy p) : (arrV p).neat := by
 have := leafy_neatL h
 exact ⟨fun h => absurd h (by decide), fun h => absurd h (by decide), this⟩
abbrev dM (es : List EditD) (a b : V) (r : Mem) : Mem := ((0, 0), .box [.own (99, 0)]) :: ((99, 0), .row true 3 122 (es.map EditD.ox)) ::
 ((6, 0), .box [.c (.int .i64 a.kind), .c (.int .i64 a.num), .c (.str a.text), .c (.sl (a.keys.map strCs)), .c (.sl (a.kids.map V.cs))]) ::
 ((7, 0), .box [.c (.int .i64 b.kind), .c (.int .i64 b.num), .c (.str b.text), .c (.sl (b.keys.map strCs)), .c (.sl (b.kids.map V.cs))]) :: r
attribute [go_sem] dM
def ValuesAC (n : Nat) : Prop := ∀ (a b : V) (p : List V) (es : List EditD), a.right → b.right → leafy p → p.length + n ≤ 10000 → es.length + (diffV n a b p).length ≤ 800000 → a.count ≤ n →
 AC Tryz.prog 76 [.ptr (0, 0) 0, valsA p, a.av, b.av] (dP es) (.tup []) (dQ (es ++ diffV n a b p))
theorem objects_ac {n : Nat} (ih : ValuesAC n) {a b : V} {p : List V} {es : List EditD} (ha : a.right) (hb : b.right) (ha6 : a.kind = 6) (hb6 : b.kind = 6) (hp : leafy p) (hpn : p.length + n ≤ 9999)
  (hl : es.length + ((mergeU a.keys b.keys).flatMap (objAt (diffV n) a b p)).length ≤ 800000) (hn : a.count ≤ n + 1) :
  AC Tryz.prog 149 [.ptr (0, 0) 0, valsA p, a.av, b.av] (dP es) (.tup []) (dQ (es ++ (mergeU a.keys b.keys).flatMap (objAt (diffV n) a b p))) := by
 have hak := right_kl ha
 have hbk := right_kl hb
 have hca := count_kids a
 have hcb := count_kids b
 have hac := ha.2.1
 have hbc := hb.2.1
 have hfl : ([a.keys, b.keys] : List (List ByteArray)).flatten = a.keys ++ b.keys := by simp
 have hco := concatStrs_ac [a.keys, b.keys] (by simp) (by rw [hfl, List.length_append]; omega)
 have hso := sortStrs_ac (a.keys ++ b.keys) (by rw [List.length_append]; omega)
 have hcp := compactStrs_ac (sortB (a.keys ++ b.keys)) (by rw [sortB_len, List.length_append]; omega)
 rw [hfl, show ([a.keys, b.keys].map slStrs) = ([[.sl (a.keys.map strCs)], [.sl (b.keys.map strCs)]] : List (List C)) from rfl] at hco
 rw [compB_sort, ← mergeU_keys (up_of (right_asc ha ha6).1) (up_of (right_asc hb hb6).1)] at hcp
 have hKl : (mergeU a.keys b.keys).length ≤ a.keys.length + b.keys.length := by
  rw [mergeU_keys (up_of (right_asc ha ha6).1) (up_of (right_asc hb hb6).1)]
  have := objKeys_len (a.keys ++ b.keys)
  rwa [List.length_append] at this
 have hKm := mergeU_mem _ a.keys b.keys (Nat.le_refl _)
 generalize mergeU a.keys b.keys = K at *
 generalize sortB (a.keys ++ b.keys) = srt at *
 obtain ⟨F, hF0, hFs, hFe, hFl⟩ : ∃ F : Nat → List EditD, F 0 = [] ∧ (∀ k (h : k < K.length), F (k + 1) = F k ++ objAt (diffV n) a b p K[k]) ∧ F K.length = K.flatMap (objAt (diffV n) a b p) ∧ ∀ k, k ≤ K.length → (F k).length ≤ (K.flatMap (objAt (diffV n) a b p)).length := by
  refine ⟨fun k => (K.take k).flatMap (objAt (diffV n) a b p), by simp, fun k h => ?_, by simp, fun k h => ?_⟩
  ·dsimp only; rw [List.take_succ_eq_append_getElem h, List.flatMap_append]; simp
  ·have e : K.flatMap (objAt (diffV n) a b p) = (K.take k).flatMap (objAt (diffV n) a b p) ++ (K.drop k).flatMap (objAt (diffV n) a b p) := by rw [← List.flatMap_append, List.take_append_drop]
   rw [e, List.length_append]
   exact Nat.le_add_right _ _
 rw [← hFe] at hl ⊢
 rw [← hFe] at hFl
 have h0 : (es ++ F 0).map EditD.ox = es.map EditD.ox := by rw [hF0, List.append_nil]
 have hKc : (K.map strCs).length = K.length := by simp
 (refine AC.intro_spx [(0, 0)] follows_mixed Tryz.func149 rfl Tryz.ntmps149 (Nat.le_of_ble_eq_true rfl) rfl rfl ?_; simp only [go_sem, Nat.reduceAdd])
 refine wRUN trivial ?_
 refine w12 (op_rowF [(18, 0)] hco) trivial ?_
 refine wRUN trivial ?_
 refine w9 (op_own (19, 0) hso) trivial ?_
 refine wRUN trivial ?_
 refine w10 (op_cons (19, 0) hcp) trivial ?_
 refine wRUN hKc ?_
 refine a_loop (κ := Nat) (fun k => ⟨mkS 0 66 [(0, .ptr (0, 0) 0), (1, valsA p), (6, .ptr (6, 0) 0), (7, .ptr (7, 0) 0), (23, .own (98, 0)), (24, .c (.int .i64 K.length)), (25, .c (.int .i64 k))],
   dM (es ++ F k) a b [((98, 0), .row false 1 9 (K.map strCs))]⟩)
  (fun k => k ≤ K.length) (fun k => K.length - k) 0 (Nat.zero_le _) ?_ ?_
 ·exact wSays (Says.of [((0, 0), (0, 0)), ((99, 0), (0, 1)), ((6, 0), (6, 0)), ((7, 0), (7, 0)), ((98, 0), (23, 0))] []) h0
 ·intro k hk
  by_cases hlt : k < K.length
  ·have hdk : decide ((k : Int) < (K.length : Int)) = true := by simpa using hlt
   have hw := wrap_succ (k := k) (by omega)
   have hr : rowsAt (K.map strCs) 1 k = true := by simp [rowsAt, hlt, strCs]
   have hg : (K.map strCs)[k]? = some [.str K[k]] := by simp [hlt, strCs]
   have hFk := hFl k (by omega)
   have hFk1 := hFl (k + 1) (by omega)
   rw [hFs k hlt, List.length_append] at hFk1
   have hnext := hFs k hlt
   have hmem := (hKm K[k]).1 (List.getElem_mem hlt)
   have hca' := containsStr_ac a.keys K[k] (by omega)
   have hcb' := containsStr_ac b.keys K[k] (by omega)
   have hma := member_ac ha ha6 K[k]
   have hmb := member_ac hb hb6 K[k]
   have hbe := behindV_ac p (strV K[k]) (by omega)
   have htx := text_ac K[k]
   have hlf := leafy_str hp K[k]
   have har := leafy_arr hlf
   have hne := leafy_neat hlf
   have hpl : (p ++ [strV K[k]]).length = p.length + 1 := by simp
   have hmr := right_member ha ha6 K[k]
   have hmr2 := right_member hb hb6 K[k]
   have hmc : (findKey a.keys K[k]).isSome = true → (a.member K[k]).count ≤ n := fun h => by
    obtain ⟨i, hi⟩ := Option.isSome_iff_exists.1 h
    obtain ⟨h1, _⟩ := findKey_some hi
    have hll := (right_asc ha ha6).2.2
    rw [member_at hi (List.getElem?_eq_getElem (by omega))]
    have := countL_mem (List.getElem_mem (l := a.kids) (n := i) (by omega))
    omega
   generalize K[k] = key at *
   unfold objAt at hnext hFk1
   cases hB : (findKey b.keys key).isSome with
   | false =>
    rw [hB] at hnext hFk1 hcb'
    simp only [if_true] at hnext hFk1
    have hdr := dropD_ac (es ++ F k) (p ++ [strV key]) (by omega) hne (by rw [List.length_append]; omega)
    rw [List.append_assoc, ← hnext] at hdr
    generalize (findKey a.keys key).isSome = inA at *
    refine wRUN (j3 hdk hr hg) ?_
    refine w9 (op_shared [] htx) trivial ?_
    refine w9 (op_shared [] hbe) trivial ?_
    refine wRUN trivial ?_
    refine w7 (op_data [] hca') trivial ?_
    refine wRUN trivial ?_
    refine w7 (op_data [] hcb') trivial ?_
    refine wRUN trivial ?_
    refine wCall (op_any_call [((0, 0), (0, 0)), ((0, 1), (99, 0))] [((0, 0), (0, 0)), ((1, 0), (97, 0))] hdr) trivial ?_
    refine wRUN hw ?_
    refine ⟨k + 1, by omega, by omega, ?_⟩
    exact wSays (Says.of [((0, 0), (0, 0)), ((99, 0), (97, 0)), ((6, 0), (6, 0)), ((7, 0), (7, 0)), ((98, 0), (98, 0))] []) hw
   | true =>
    rw [hB] at hnext hFk1 hcb'
    simp only [Bool.true_eq_false, if_false] at hnext hFk1
    cases hA : (findKey a.keys key).isSome with
    | false =>
     rw [hA] at hnext hFk1 hca'
     simp only [if_true] at hnext hFk1
     have hst := setD_ac (es ++ F k) (p ++ [strV key]) (b.member key) (by omega) hne (by have := hmr2.2.1; omega) (right_neat hmr2) (by rw [List.length_append]; omega)
     rw [List.append_assoc, ← hnext] at hst
     refine wRUN (j3 hdk hr hg) ?_
     refine w9 (op_shared [] htx) trivial ?_
     refine w9 (op_shared [] hbe) trivial ?_
     refine wRUN trivial ?_
     refine w7 (op_data [] hca') trivial ?_
     refine wRUN trivial ?_
     refine w7 (op_data [] hcb') trivial ?_
     refine wRUN trivial ?_
     refine w9 (op_shared [] hmb) trivial ?_
     refine wCall (op_any_call [((0, 0), (0, 0)), ((0, 1), (99, 0))] [((0, 0), (0, 0)), ((1, 0), (97, 0))] hst) trivial ?_
     refine wRUN hw ?_
     refine ⟨k + 1, by omega, by omega, ?_⟩
     exact wSays (Says.of [((0, 0), (0, 0)), ((99, 0), (97, 0)), ((6, 0), (6, 0)), ((7, 0), (7, 0)), ((98, 0), (98, 0))] []) hw
    | true =>
     rw [hA] at hnext hFk1 hca'
     simp only [Bool.true_eq_false, if_false] at hnext hFk1
     have hst := ih (a.member key) (b.member key) (p ++ [strV key]) (es ++ F k) hmr hmr2 hlf (by omega) (by rw [List.length_append]; omega) (hmc hA)
     rw [List.append_assoc, ← hnext] at hst
     refine wRUN (j3 hdk hr hg) ?_
     refine w9 (op_shared [] htx) trivial ?_
     refine w9 (op_shared [] hbe) trivial ?_
     refine wRUN trivial ?_
     refine w7 (op_data [] hca') trivial ?_
     refine wRUN trivial ?_
     refine w7 (op_data [] hcb') trivial ?_
     refine wRUN trivial ?_
     refine w9 (op_shared [] hma) trivial ?_
     refine wRUN trivial ?_
     refine w9 (op_shared [] hmb) trivial ?_
     refine wCall (op_any_call [((0, 0), (0, 0)), ((0, 1), (99, 0))] [((0, 0), (0, 0)), ((1, 0), (97, 0))] hst) trivial ?_
     refine wRUN hw ?_
     refine ⟨k + 1, by omega, by omega, ?_⟩
     exact wSays (Says.of [((0, 0), (0, 0)), ((99, 0), (97, 0)), ((6, 0), (6, 0)), ((7, 0), (7, 0)), ((98, 0), (98, 0))] []) hw
  ·have hdk : decide ((k : Int) < (K.length : Int)) = false := by simpa using hlt
   have hke : k = K.length := by omega
   subst hke
   refine wRUN hdk ?_
   exact wRetOf (ret_of [((0, 0), (0, 0)), ((1, 0), (99, 0))] []) Tryz.results149 hdk
theorem arrays_ac {n : Nat} (ih : ValuesAC n) {a b : V} {p : List V} {es : List EditD} (ha : a.right) (hb : b.right) (ha5 : a.kind = 5) (hb5 : b.kind = 5) (hp : leafy p) (hpn : p.length + n ≤ 9999)
  (hl : es.length + (arrD (diffV n) a b p).length ≤ 800000) (hn : a.count ≤ n + 1) :
  AC Tryz.prog 150 [.ptr (0, 0) 0, valsA p, a.av, b.av] (dP es) (.tup []) (dQ (es ++ arrD (diffV n) a b p)) := by
 have hak := right_kl ha
 have hbk := right_kl hb
 have hca := count_kids a
 have hcb := count_kids b
 have hac := ha.2.1
 have hbc := hb.2.1
 have hkm : (a.kids.map V.cs).length = a.kids.length := by simp
 have hkm2 : (b.kids.map V.cs).length = b.kids.length := by simp
 obtain ⟨m, hm⟩ : ∃ m, min a.kids.length b.kids.length = m := ⟨_, rfl⟩
 have hmin : (if (b.kids.length : Int) < (a.kids.length : Int) then (b.kids.length : Int) else (a.kids.length : Int)) = (m : Int) := by split <;> omega
 unfold arrD at hl ⊢
 rw [hm] at hl ⊢
 have hma : m ≤ a.kids.length := by omega
 have hmb : m ≤ b.kids.length := by omega
 have hmw : a.kids.length = m ∨ b.kids.length = m := by omega
 obtain ⟨F, hF0, hFs, hFe, hFl⟩ : ∃ F : Nat → List EditD, F 0 = [] ∧ (∀ k, F (k + 1) = F k ++ bothAt (diffV n) a b p k) ∧ F m = (List.range m).flatMap (bothAt (diffV n) a b p) ∧ ∀ k, k ≤ m → (F k).length ≤ (F m).length := by
  refine ⟨fun k => (List.range k).flatMap (bothAt (diffV n) a b p), by simp, fun k => ?_, rfl, fun k h => ?_⟩
  ·dsimp only; rw [List.range_succ, List.flatMap_append]; simp
  ·dsimp only
   obtain ⟨d, rfl⟩ : ∃ d, m = k + d := ⟨m - k, by omega⟩
   rw [List.range_add, List.flatMap_append, List.length_append]
   exact Nat.le_add_right _ _
 obtain ⟨D, hD0, hDs, hDe, hDl⟩ : ∃ D : Nat → List EditD, D 0 = [] ∧ (∀ j, D (j + 1) = D j ++ [dropsAt a p j]) ∧ D (a.kids.length - m) = (List.range (a.kids.length - m)).map (dropsAt a p) ∧ ∀ j, (D j).length = j := by
  refine ⟨fun j => (List.range j).map (dropsAt a p), by simp, fun j => ?_, rfl, fun j => by simp⟩
  dsimp only; rw [List.range_succ, List.map_append]; simp
 obtain ⟨S, hS0, hSs, hSe, hSl⟩ : ∃ S : Nat → List EditD, S 0 = [] ∧ (∀ j, S (j + 1) = S j ++ [setsAt b p (m + j)]) ∧ S (b.kids.length - m) = (List.range (b.kids.length - m)).map (fun j => setsAt b p (m + j)) ∧ ∀ j, (S j).length = j := by
  refine ⟨fun j => (List.range j).map (fun j => setsAt b p (m + j)), by simp, fun j => ?_, rfl, fun j => by simp⟩
  dsimp only; rw [List.range_succ, List.map_append]; simp
 rw [← hFe, ← hDe, ← hSe] at hl ⊢
 simp only [List.length_append, hDl, hSl] at hl
 have hkeyA : ∀ i, i < a.kids.length → AC Tryz.prog 256 [a.av, .c (.int .i64 i)] [] (numV i).av [] := fun i h => by
  have := keyAt_ac a (right_neat ha) i h
  have e : a.keyV i = numV i := by unfold V.keyV; rw [if_neg (by omega)]
  rwa [e] at this
 have hkeyB : ∀ i, i < b.kids.length → AC Tryz.prog 256 [b.av, .c (.int .i64 i)] [] (numV i).av [] := fun i h => by
  have := keyAt_ac b (right_neat hb) i h
  have e : b.keyV i = numV i := by unfold V.keyV; rw [if_neg (by omega)]
  rwa [e] at this
 have h0 : (es ++ F 0).map EditD.ox = es.map EditD.ox := by rw [hF0, List.append_nil]
 have hpl : ∀ q : V, (p ++ [q]).length = p.length + 1 := fun q => by simp
 (refine AC.intro_spx [(0, 0)] follows_mixed Tryz.func150 rfl Tryz.ntmps150 (Nat.le_of_ble_eq_true rfl) rfl rfl ?_; simp only [go_sem, Nat.reduceAdd])
 refine wRUN (j3 hkm hkm2 hmin) ?_
 refine a_loop (κ := Nat) (fun k => ⟨mkS 0 77 [(0, .ptr (0, 0) 0), (1, valsA p), (6, .ptr (6, 0) 0), (7, .ptr (7, 0) 0), (8, .c (.int .i64 m)), (19, .c (.int .i64 m)), (20, .c (.int .i64 k))],
   dM (es ++ F k) a b []⟩)
  (fun k => k ≤ m) (fun k => m - k) 0 (Nat.zero_le _) ?_ ?_
 ·exact wSays (Says.of [((0, 0), (0, 0)), ((99, 0), (0, 1)), ((6, 0), (6, 0)), ((7, 0), (7, 0))] []) h0
 ·intro k hk
  by_cases hlt : k < m
  ·have hdk : decide ((k : Int) < (m : Int)) = true := by simpa using hlt
   have hw := wrap_succ (k := k) (by omega)
   have hka : k < a.kids.length := by omega
   have hkb : k < b.kids.length := by omega
   have hr : rowsAt (a.kids.map V.cs) 5 k = true := by simp [rowsAt, hka, V.cs_eq]
   have hg : (a.kids.map V.cs)[k]? = some [.int .i64 a.kids[k].kind, .int .i64 a.kids[k].num, .str a.kids[k].text, .sl (a.kids[k].keys.map strCs), .sl (a.kids[k].kids.map V.cs)] := by simp [hka, V.cs_eq]
   have hr2 : rowsAt (b.kids.map V.cs) 5 k = true := by simp [rowsAt, hkb, V.cs_eq]
   have hg2 : (b.kids.map V.cs)[k]? = some [.int .i64 b.kids[k].kind, .int .i64 b.kids[k].num, .str b.kids[k].text, .sl (b.kids[k].keys.map strCs), .sl (b.kids[k].kids.map V.cs)] := by simp [hkb, V.cs_eq]
   have hFk1 := hFl (k + 1) (by omega)
   have hnext := hFs k
   rw [hnext, List.length_append] at hFk1
   have hkey := hkeyA k hka
   have hbe := behindV_ac p (numV k) (by omega)
   have hlf := leafy_num hp k
   have hmemA := countL_mem (List.getElem_mem hka)
   have hra := right_mem ha (List.getElem_mem hka)
   have hrb := right_mem hb (List.getElem_mem hkb)
   unfold bothAt at hnext hFk1
   rw [List.getD_eq_getElem?_getD, List.getElem?_eq_getElem hka, Option.getD_some, List.getD_eq_getElem?_getD, List.getElem?_eq_getElem hkb, Option.getD_some] at hnext hFk1
   have hst := ih a.kids[k] b.kids[k] (p ++ [numV k]) (es ++ F k) hra hrb hlf (by rw [hpl]; omega) (by rw [List.length_append]; omega) (by omega)
   rw [List.append_assoc, ← hnext] at hst
   generalize a.kids[k] = x at *
   generalize b.kids[k] = y at *
   generalize numV k = q at *
   refine wRUN hdk ?_
   refine w9 (op_shared [] hkey) trivial ?_
   refine w9 (op_shared [] hbe) trivial ?_
   refine wRUN (j4 hr hg hr2 hg2) ?_
   refine wCall (op_any_call [((0, 0), (0, 0)), ((0, 1), (99, 0))] [((0, 0), (0, 0)), ((1, 0), (97, 0))] hst) trivial ?_
   refine wRUN hw ?_
   refine ⟨k + 1, by omega, by omega, ?_⟩
   exact wSays (Says.of [((0, 0), (0, 0)), ((99, 0), (97, 0)), ((6, 0), (6, 0)), ((7, 0), (7, 0))] []) hw
  ·have hdk : decide ((k : Int) < (m : Int)) = false := by simpa using hlt
   have hke : k = m := by omega
   subst hke
   have hws : IntKind.i64.wrap ((a.kids.length : Int) - 1) = (a.kids.length : Int) - 1 - (0 : Nat) := by rw [IntWalk.i64_in _ (by omega)]; omega
   have h1 : (es ++ F k ++ D 0).map EditD.ox = (es ++ F k).map EditD.ox := by rw [hD0, List.append_nil]
   refine wRUN (j3 hdk hkm hws) ?_
   refine a_loop (κ := Nat) (fun j => ⟨mkS 0 77 [(0, .ptr (0, 0) 0), (1, valsA p), (6, .ptr (6, 0) 0), (7, .ptr (7, 0) 0), (8, .c (.int .i64 k)), (10, .c (.int .i64 ((a.kids.length : Int) - 1 - (j : Nat))))],
     dM (es ++ F k ++ D j) a b []⟩)
    (fun j => j ≤ a.kids.length - k) (fun j => a.kids.length - k - j) 0 (Nat.zero_le _) ?_ ?_
   ·exact wSays (Says.of [((0, 0), (0, 0)), ((99, 0), (99, 0)), ((6, 0), (6, 0)), ((7, 0), (7, 0))] []) h1
   ·intro j hj
    by_cases hjl : j < a.kids.length - k
    ·obtain ⟨i, hi⟩ : ∃ i : Nat, (a.kids.length : Int) - 1 - (j : Nat) = (i : Int) := ⟨a.kids.length - 1 - j, by omega⟩
     have hge : decide ((i : Int) ≥ (k : Int)) = true := by simp; omega
     have hw : IntKind.i64.wrap ((i : Int) - 1) = (a.kids.length : Int) - 1 - (j + 1 : Nat) := by rw [IntWalk.i64_in _ (by omega)]; omega
     have hnext := hDs j
     have hei : a.kids.length - 1 - j = i := by omega
     unfold dropsAt at hnext
     rw [hei] at hnext
     have hlf := leafy_num hp i
     have har := leafy_arr hlf
     rw [hpl] at har
     have hDj := hDl j
     have hdr := dropD_ac (es ++ F k ++ D j) (p ++ [numV i]) (by omega) (leafy_neat hlf) (by simp only [List.length_append]; omega)
     rw [List.append_assoc (es ++ F k), ← hnext] at hdr
     have hkey := hkeyA i (by omega)
     have hbe := behindV_ac p (numV i) (by omega)
     rw [hi]
     generalize numV i = q at *
     refine wRUN hge ?_
     refine w9 (op_shared [] hkey) trivial ?_
     refine w9 (op_shared [] hbe) trivial ?_
     refine wCall (op_any_call [((0, 0), (0, 0)), ((0, 1), (99, 0))] [((0, 0), (0, 0)), ((1, 0), (97, 0))] hdr) trivial ?_
     refine wRUN hw ?_
     refine ⟨j + 1, by omega, by omega, ?_⟩
     exact wSays (Says.of [((0, 0), (0, 0)), ((99, 0), (97, 0)), ((6, 0), (6, 0)), ((7, 0), (7, 0))] []) hw
    ·have hje : j = a.kids.length - k := by omega
     have hge : decide ((a.kids.length : Int) - 1 - (j : Nat) ≥ (k : Int)) = false := by simp; omega
     subst hje
     have h2 : (es ++ F k ++ D (a.kids.length - k) ++ S 0).map EditD.ox = (es ++ F k ++ D (a.kids.length - k)).map EditD.ox := by rw [hS0, List.append_nil]
     have hk0 : ((k + 0 : Nat) : Int) = (k : Int) := rfl
     refine wRUN hge ?_
     refine a_loop (κ := Nat) (fun j => ⟨mkS 0 77 [(0, .ptr (0, 0) 0), (1, valsA p), (6, .ptr (6, 0) 0), (7, .ptr (7, 0) 0), (8, .c (.int .i64 k)), (11, .c (.int .i64 (k + j : Nat)))],
       dM (es ++ F k ++ D (a.kids.length - k) ++ S j) a b []⟩)
      (fun j => j ≤ b.kids.length - k) (fun j => b.kids.length - k - j) 0 (Nat.zero_le _) ?_ ?_
     ·exact wSays (Says.of [((0, 0), (0, 0)), ((99, 0), (99, 0)), ((6, 0), (6, 0)), ((7, 0), (7, 0))] []) (j2 h2 hk0)
     ·intro j hj
      obtain ⟨i, hi⟩ : ∃ i, k + j = i := ⟨_, rfl⟩
      have hnext := hSs j
      rw [hi] at hnext ⊢
      by_cases hjl : j < b.kids.length - k
      ·have hkb : i < b.kids.length := by omega
       have hd3 : decide ((i : Int) < (b.kids.length : Int)) = true := by simpa using hkb
       have hw := wrap_succ (k := i) (by omega)
       have hr2 : rowsAt (b.kids.map V.cs) 5 i = true := by simp [rowsAt, hkb, V.cs_eq]
       have hg2 : (b.kids.map V.cs)[i]? = some [.int .i64 b.kids[i].kind, .int .i64 b.kids[i].num, .str b.kids[i].text, .sl (b.kids[i].keys.map strCs), .sl (b.kids[i].kids.map V.cs)] := by simp [hkb, V.cs_eq]
       unfold setsAt at hnext
       rw [List.getD_eq_getElem?_getD, List.getElem?_eq_getElem hkb, Option.getD_some] at hnext
       have hlf := leafy_num hp i
       have har := leafy_arr hlf
       rw [hpl] at har
       have hSj := hSl j
       have hDj := hDl (a.kids.length - k)
       have hrb := right_mem hb (List.getElem_mem hkb)
       have hdr := setD_ac (es ++ F k ++ D (a.kids.length - k) ++ S j) (p ++ [numV i]) b.kids[i] (by omega) (leafy_neat hlf) (by have := hrb.2.1; omega) (right_neat hrb) (by simp only [List.length_append]; omega)
       rw [List.append_assoc (es ++ F k ++ D (a.kids.length - k)), ← hnext] at hdr
       have hkey := hkeyB (i) (by omega)
       have hbe := behindV_ac p (numV i) (by omega)
       generalize b.kids[i] = y at *
       generalize numV i = q at *
       refine wRUN hd3 ?_
       refine w9 (op_shared [] hkey) trivial ?_
       refine w9 (op_shared [] hbe) trivial ?_
       refine wRUN (j2 hr2 hg2) ?_
       refine wCall (op_any_call [((0, 0), (0, 0)), ((0, 1), (99, 0))] [((0, 0), (0, 0)), ((1, 0), (97, 0))] hdr) trivial ?_
       refine wRUN hw ?_
       have hi1 : k + (j + 1) = i + 1 := by omega
       refine ⟨j + 1, by omega, by omega, ?_⟩
       exact wSays (Says.of [((0, 0), (0, 0)), ((99, 0), (97, 0)), ((6, 0), (6, 0)), ((7, 0), (7, 0))] []) hi1
      ·have hje : j = b.kids.length - k := by omega
       have hd3 : decide ((i : Int) < (b.kids.length : Int)) = false := by simp; omega
       subst hje
       have hass : es ++ F k ++ D (a.kids.length - k) ++ S (b.kids.length - k) = es ++ (F k ++ D (a.kids.length - k) ++ S (b.kids.length - k)) := by simp only [List.append_assoc]
       rw [hass]
       refine wRUN hd3 ?_
       exact wRetOf (ret_of [((0, 0), (0, 0)), ((1, 0), (99, 0))] []) Tryz.results150 hd3
end Go.Proofs.YtamgeodhpglgkaaGreat
