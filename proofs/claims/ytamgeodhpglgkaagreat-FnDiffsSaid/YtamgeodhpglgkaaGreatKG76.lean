/- spec.l14Set, l14Drop, l14Objects, l14Arrays, l14Diff, by the engine. -/
import Derived.Test.YtamgeodhpglgkaaGreatKG74
import Derived.Test.YtamgeodhpglgkaaGreatKG45uG34
import Derived.Test.YtamgeodhpglgkaaGreatKG75uG30
set_option linter.unusedSimpArgs false
set_option maxHeartbeats 8000000
namespace Go.Proofs.YtamgeodhpglgkaaGreat
open Go.RowKit
set_option maxRecDepth 10000
theorem all_editsC (l : List EditD) : ((l.map EditD.cs).all fun r => r.length == 3) = true := by simp [EditD.cs]
theorem forget_editsC (l : List EditD) : forgetLL (l.map EditD.cs) = l.map EditD.cs := by
 induction l with
 | nil => rfl
 | cons d l ih => simp only [List.map_cons, forgetLL, ih, EditD.cs, forgetL, C.forget]
attribute [go_sem] all_editsC forget_editsC
theorem l14Drop_ac (p : List V) (hp : (arrV p).count ≤ 500000) : AC Tryz.prog 263 [.c (.sl ((p.map V.enc).map encCs))] [] (dropE p).av [] := by
 have hl := l1ArrayS_ac p hp
 have hn : (([] : List CellD).map CellD.cs) = [] := rfl
 unfold dropE EditD.av
 refine wEnter Tryz.func263 Tryz.ntmps263 ?_
 refine wRUN trivial ?_
 refine w9 (op_shared [] hl) trivial ?_
 refine wRUN trivial ?_
 exact wRetOf (ret_of [] []) Tryz.results263 hn
theorem l14Set_ac (p : List V) (x : V) (hp : (arrV p).count ≤ 500000) (hx : x.count ≤ 500000) : AC Tryz.prog 155 [.c (.sl ((p.map V.enc).map encCs)), cellsA x.enc] [] (setE p x).av [] := by
 have hl := l1ArrayS_ac p hp
 have hel := enc_len x
 have hbl : 0 + x.enc.length ≤ 1000000 := by omega
 unfold setE EditD.av
 refine wEnter Tryz.func155 Tryz.ntmps155 ?_
 refine wRUN trivial ?_
 refine w9 (op_shared [] hl) trivial ?_
 refine wRUN hbl ?_
 exact wRetOf (ret_of [] [(9, 0)]) Tryz.results155 hbl
def DiffAC (n : Nat) : Prop := ∀ (a b : V) (p : List V), a.right → b.right → leafy p → p.length + n ≤ 10000 → (diffV n a b p).length ≤ 800000 → a.count ≤ n →
 AC Tryz.prog 78 [cellsA a.enc, cellsA b.enc, .c (.sl ((p.map V.enc).map encCs))] [] (.c (.sl ((diffV n a b p).map EditD.cs))) []
theorem objectsS_ac {n : Nat} (ih : DiffAC n) {a b : V} {p : List V} (ha : a.right) (hb : b.right) (ha6 : a.kind = 6) (hb6 : b.kind = 6) (hp : leafy p) (hpn : p.length + n ≤ 9999)
  (hl : ((mergeU a.keys b.keys).flatMap (objAt (diffV n) a b p)).length ≤ 800000) (hn : a.count ≤ n + 1) :
  AC Tryz.prog 153 [cellsA a.enc, cellsA b.enc, .c (.sl ((p.map V.enc).map encCs))] [] (.c (.sl (((mergeU a.keys b.keys).flatMap (objAt (diffV n) a b p)).map EditD.cs))) [] := by
 have hak := right_kl ha
 have hbk := right_kl hb
 have hca := count_kids a
 have hac := ha.2.1
 have hbc := hb.2.1
 have hkeyA := l1Keys_ac ha.1 hac
 rw [show keysOf a a.kids.length = a.keys from keysOf_own ha ha6] at hkeyA
 have hkeyB := l1Keys_ac hb.1 hbc
 rw [show keysOf b b.kids.length = b.keys from keysOf_own hb hb6] at hkeyB
 have hmg := l14KeysS_ac a.keys b.keys (by omega) (by omega)
 have hKm := mergeU_mem _ a.keys b.keys (Nat.le_refl _)
 have hpa := l1Parts_ac ha.1 hac
 have hpb := l1Parts_ac hb.1 hbc
 have hllA := (right_asc ha ha6).2.2
 have hllB := (right_asc hb hb6).2.2
 have hKl : (mergeU a.keys b.keys).length ≤ a.keys.length + b.keys.length := by
  rw [mergeU_keys (up_of (right_asc ha ha6).1) (up_of (right_asc hb hb6).1)]
  have := objKeys_len (a.keys ++ b.keys)
  rwa [List.length_append] at this
 generalize mergeU a.keys b.keys = K at *
 obtain ⟨F, hF0, hFs, hFe, hFl⟩ : ∃ F : Nat → List EditD, F 0 = [] ∧ (∀ k (h : k < K.length), F (k + 1) = F k ++ objAt (diffV n) a b p K[k]) ∧ F K.length = K.flatMap (objAt (diffV n) a b p) ∧ ∀ k, k ≤ K.length → (F k).length ≤ (K.flatMap (objAt (diffV n) a b p)).length := by
  refine ⟨fun k => (K.take k).flatMap (objAt (diffV n) a b p), by simp, fun k h => ?_, by simp, fun k h => ?_⟩
  ·dsimp only; rw [List.take_succ_eq_append_getElem h, List.flatMap_append]; simp
  ·have e : K.flatMap (objAt (diffV n) a b p) = (K.take k).flatMap (objAt (diffV n) a b p) ++ (K.drop k).flatMap (objAt (diffV n) a b p) := by rw [← List.flatMap_append, List.take_append_drop]
   rw [e, List.length_append]
   exact Nat.le_add_right _ _
 rw [← hFe] at hl ⊢
 rw [← hFe] at hFl
 have h0 : (F 0).map EditD.cs = [] := by rw [hF0]; rfl
 have hKc : (K.map strCs).length = K.length := by simp
 refine wEnter Tryz.func153 Tryz.ntmps153 ?_
 refine wRUN trivial ?_
 refine w9 (op_shared [] hkeyA) trivial ?_
 refine wRUN trivial ?_
 refine w9 (op_shared [] hkeyB) trivial ?_
 refine wRUN trivial ?_
 refine w9 (op_shared [] hmg) trivial ?_
 refine wRUN trivial ?_
 refine a_loop (κ := Nat) (fun k => ⟨mkS 0 84 [(0, cellsA a.enc), (1, cellsA b.enc), (2, .c (.sl ((p.map V.enc).map encCs))), (7, .own (99, 0)), (8, .c (.sl (a.keys.map strCs))), (9, .c (.sl (b.keys.map strCs))), (10, .c (.sl (K.map strCs))), (11, .c (.int .i64 k))],
   [((99, 0), .row false 3 122 ((F k).map EditD.cs))]⟩)
  (fun k => k ≤ K.length) (fun k => K.length - k) 0 (Nat.zero_le _) ?_ ?_
 ·exact wSays (Says.of [((99, 0), (15, 0))] []) h0
 ·intro k hk
  by_cases hlt : k < K.length
  ·have hdk : decide ((k : Int) < (K.length : Int)) = true := by simpa using hlt
   have hw := wrap_succ (k := k) (by omega)
   have hr : rowsAt (K.map strCs) 1 k = true := by simp [rowsAt, hlt, strCs]
   have hg : (K.map strCs)[k]? = some [.str K[k]] := by simp [hlt, strCs]
   have hFk := hFl k (by omega)
   have hFk1 := hFl (k + 1) (by omega)
   rw [hFs k hlt, List.length_append] at hFk1
   have hnext := hFs k hlt
   have hbe := l14Behind_ac p (strV K[k]) (by omega)
   have htx := l1String_ac K[k]
   have hlf := leafy_str hp K[k]
   have har := leafy_arr hlf
   have hpl : (p ++ [strV K[k]]).length = p.length + 1 := by simp
   have hpA := l14Place_ac a.keys K[k] (by omega)
   have hpB := l14Place_ac b.keys K[k] (by omega)
   have hmr := right_member ha ha6 K[k]
   have hmr2 := right_member hb hb6 K[k]
   generalize K[k] = key at *
   unfold objAt at hnext hFk1
   generalize strV key = q at *
   cases hB : findKey b.keys key with
   | none =>
    rw [hB] at hnext hFk1 hpB
    simp only [Option.isSome_none, if_true] at hnext hFk1
    dsimp only at hpB
    have hdr := l14Drop_ac (p ++ [q]) (by omega)
    generalize (match findKey a.keys key with | some i => (i : Int) | none => -1) = inA at *
    have hm1 : decide ((-1 : Int) < 0) = true := rfl
    have hol : (F k).length + 1 ≤ 1000000 := by omega
    have hrow : (F k).map EditD.cs ++ [[.int .i64 (dropE (p ++ [q])).op, .sl ((dropE (p ++ [q])).path.map CellD.cs), .sl ((dropE (p ++ [q])).x.map CellD.cs)]] = (F (k + 1)).map EditD.cs := by rw [hnext, List.map_append]; rfl
    refine wRUN (j4 hdk hr hg hKc) ?_
    refine w9 (op_shared [] htx) trivial ?_
    refine w9 (op_shared [] hbe) trivial ?_
    refine wRUN (j2 hr hg) ?_
    refine w7 (op_data [] hpA) trivial ?_
    refine wRUN (j2 hr hg) ?_
    refine w7 (op_data [] hpB) trivial ?_
    refine wRUN hm1 ?_
    refine w9 (op_shared [] hdr) trivial ?_
    refine wRUN (j2 hw hol) ?_
    refine ⟨k + 1, by omega, by omega, ?_⟩
    exact wSays (Says.of [((99, 0), (69, 0))] []) hrow
   | some j =>
    obtain ⟨hj1, hj2, _⟩ := findKey_some hB
    have hjk : j < b.kids.length := by omega
    rw [hB] at hnext hFk1 hpB
    simp only [Option.isSome_some, Bool.true_eq_false, if_false] at hnext hFk1
    dsimp only at hpB
    have hm1 : decide ((j : Int) < 0) = false := by simp
    have hrj : rowsAt ((b.kids.map V.enc).map encCs) 1 j = true := by simp [rowsAt, hjk, encCs]
    have hgj : ((b.kids.map V.enc).map encCs)[j]? = some [.sl ((b.member key).enc.map CellD.cs)] := by
     rw [member_at hB (List.getElem?_eq_getElem hjk)]
     simp [hjk, encCs]
    cases hA : findKey a.keys key with
    | none =>
     rw [hA] at hnext hFk1 hpA
     simp only [Option.isSome_none, if_true] at hnext hFk1
     dsimp only at hpA
     have hm2 : decide ((-1 : Int) < 0) = true := rfl
     have hdr := l14Set_ac (p ++ [q]) (b.member key) (by omega) (by have := hmr2.2.1; omega)
     have hol : (F k).length + 1 ≤ 1000000 := by omega
     have hrow : (F k).map EditD.cs ++ [[.int .i64 (setE (p ++ [q]) (b.member key)).op, .sl ((setE (p ++ [q]) (b.member key)).path.map CellD.cs), .sl ((setE (p ++ [q]) (b.member key)).x.map CellD.cs)]] = (F (k + 1)).map EditD.cs := by rw [hnext, List.map_append]; rfl
     refine wRUN (j4 hdk hr hg hKc) ?_
     refine w9 (op_shared [] htx) trivial ?_
     refine w9 (op_shared [] hbe) trivial ?_
     refine wRUN (j2 hr hg) ?_
     refine w7 (op_data [] hpA) trivial ?_
     refine wRUN (j2 hr hg) ?_
     refine w7 (op_data [] hpB) trivial ?_
     refine wRUN (j2 hm1 hm2) ?_
     refine w9 (op_shared [] hpb) trivial ?_
     refine wRUN (j2 hrj hgj) ?_
     refine w9 (op_shared [] hdr) trivial ?_
     refine wRUN (j2 hw hol) ?_
     refine ⟨k + 1, by omega, by omega, ?_⟩
     exact wSays (Says.of [((99, 0), (82, 0))] []) hrow
    | some i =>
     obtain ⟨hi1, hi2, _⟩ := findKey_some hA
     have hik : i < a.kids.length := by omega
     rw [hA] at hnext hFk1 hpA
     simp only [Option.isSome_some, Bool.true_eq_false, if_false] at hnext hFk1
     dsimp only at hpA
     have hm2 : decide ((i : Int) < 0) = false := by simp
     have hmc : (a.member key).count ≤ n := by
      rw [member_at hA (List.getElem?_eq_getElem hik)]
      have := countL_mem (List.getElem_mem hik)
      omega
     have hri : rowsAt ((a.kids.map V.enc).map encCs) 1 i = true := by simp [rowsAt, hik, encCs]
     have hgi : ((a.kids.map V.enc).map encCs)[i]? = some [.sl ((a.member key).enc.map CellD.cs)] := by
      rw [member_at hA (List.getElem?_eq_getElem hik)]
      simp [hik, encCs]
     have hst := ih (a.member key) (b.member key) (p ++ [q]) hmr hmr2 hlf (by omega) (by omega) hmc
     generalize diffV n (a.member key) (b.member key) (p ++ [q]) = R at *
     have hol : (F k).length + R.length ≤ 1000000 := by omega
     have hrow : (F k).map EditD.cs ++ R.map EditD.cs = (F (k + 1)).map EditD.cs := by rw [hnext, List.map_append]
     refine wRUN (j4 hdk hr hg hKc) ?_
     refine w9 (op_shared [] htx) trivial ?_
     refine w9 (op_shared [] hbe) trivial ?_
     refine wRUN (j2 hr hg) ?_
     refine w7 (op_data [] hpA) trivial ?_
     refine wRUN (j2 hr hg) ?_
     refine w7 (op_data [] hpB) trivial ?_
     refine wRUN (j2 hm1 hm2) ?_
     refine w9 (op_shared [] hpa) trivial ?_
     refine wRUN (j2 hri hgi) ?_
     refine w9 (op_shared [] hpb) trivial ?_
     refine wRUN (j2 hrj hgj) ?_
     refine w9 (op_shared [] hst) trivial ?_
     refine wRUN (j2 hw hol) ?_
     refine ⟨k + 1, by omega, by omega, ?_⟩
     exact wSays (Says.of [((99, 0), (61, 0))] []) hrow
  ·have hdk : decide ((k : Int) < (K.length : Int)) = false := by simpa using hlt
   have hke : k = K.length := by omega
   subst hke
   refine wRUN (j2 hdk hKc) ?_
   exact wRetOf (ret_of [] [(99, 0)]) Tryz.results153 hdk
theorem arraysS_ac {n : Nat} (ih : DiffAC n) {a b : V} {p : List V} (ha : a.right) (hb : b.right) (hp : leafy p) (hpn : p.length + n ≤ 9999)
  (hl : (arrD (diffV n) a b p).length ≤ 800000) (hn : a.count ≤ n + 1) :
  AC Tryz.prog 154 [cellsA a.enc, cellsA b.enc, .c (.sl ((p.map V.enc).map encCs))] [] (.c (.sl ((arrD (diffV n) a b p).map EditD.cs))) [] := by
 have hak := right_kl ha
 have hbk := right_kl hb
 have hca := count_kids a
 have hac := ha.2.1
 have hbc := hb.2.1
 have hpa := l1Parts_ac ha.1 hac
 have hpb := l1Parts_ac hb.1 hbc
 have hkm : ((a.kids.map V.enc).map encCs).length = a.kids.length := by simp
 have hkm2 : ((b.kids.map V.enc).map encCs).length = b.kids.length := by simp
 obtain ⟨m, hm⟩ : ∃ m, min a.kids.length b.kids.length = m := ⟨_, rfl⟩
 unfold arrD at hl ⊢
 rw [hm] at hl ⊢
 have hma : m ≤ a.kids.length := by omega
 have hmb : m ≤ b.kids.length := by omega
 have hmw : a.kids.length = m ∨ b.kids.length = m := by omega
 obtain ⟨F, hF0, hFs, hFe, hFl⟩ : ∃ F : Nat → List EditD, F 0 = [] ∧ (∀ k, F (k + 1) = F k ++ bothAt (diffV n) a b p k) ∧ F m = (List.range m).flatMap (bothAt (diffV n) a b p) ∧ ∀ k, k ≤ m → (F k).length ≤ (F m).length := by
  refine ⟨fun k => (List.range k).flatMap (bothAt (diffV n) a b p), by simp, fun k => ?_, rfl, fun k h => ?_⟩
  ·dsimp only; rw [List.range_succ, List.flatMap_append]; simp
  ·dsimp only
   obtain ⟨d, rfl⟩ : ∃ d, m = k + d := ⟨m - k, by omega⟩
   rw [List.range_add, List.flatMap_append, List.length_append]
   exact Nat.le_add_right _ _
 obtain ⟨D, hD0, hDs, hDe, hDl⟩ : ∃ D : Nat → List EditD, D 0 = [] ∧ (∀ j, D (j + 1) = D j ++ [dropsAt a p j]) ∧ D (a.kids.length - m) = (List.range (a.kids.length - m)).map (dropsAt a p) ∧ ∀ j, (D j).length = j := by
  refine ⟨fun j => (List.range j).map (dropsAt a p), by simp, fun j => ?_, rfl, fun j => by simp⟩
  dsimp only; rw [List.range_succ, List.map_append]; simp
 obtain ⟨S, hS0, hSs, hSe, hSl⟩ : ∃ S : Nat → List EditD, S 0 = [] ∧ (∀ j, S (j + 1) = S j ++ [setsAt b p (m + j)]) ∧ S (b.kids.length - m) = (List.range (b.kids.length - m)).map (fun j => setsAt b p (m + j)) ∧ ∀ j, (S j).length = j := by
  refine ⟨fun j => (List.range j).map (fun j => setsAt b p (m + j)), by simp, fun j => ?_, rfl, fun j => by simp⟩
  dsimp only; rw [List.range_succ, List.map_append]; simp
 rw [← hFe, ← hDe, ← hSe] at hl ⊢
 simp only [List.length_append, hDl, hSl] at hl
 have h0 : (F 0).map EditD.cs = [] := by rw [hF0]; rfl
 have hpl : ∀ q : V, (p ++ [q]).length = p.length + 1 := fun q => by simp
 refine wEnter Tryz.func154 Tryz.ntmps154 ?_
 refine wRUN trivial ?_
 refine w9 (op_shared [] hpa) trivial ?_
 refine wRUN trivial ?_
 refine w9 (op_shared [] hpb) trivial ?_
 refine wRUN trivial ?_
 refine a_loop (κ := Nat) (fun k => ⟨mkS 0 83 [(2, .c (.sl ((p.map V.enc).map encCs))), (7, .own (99, 0)), (8, .c (.sl ((a.kids.map V.enc).map encCs))), (9, .c (.sl ((b.kids.map V.enc).map encCs))), (10, .c (.int .i64 k))],
   [((99, 0), .row false 3 122 ((F k).map EditD.cs))]⟩)
  (fun k => k ≤ m) (fun k => m - k) 0 (Nat.zero_le _) ?_ ?_
 ·exact wSays (Says.of [((99, 0), (13, 0))] []) h0
 ·intro k hk
  by_cases hlt : k < m
  ·have hd1 : decide ((k : Int) < (a.kids.length : Int)) = true := by simp; omega
   have hd2 : decide ((k : Int) < (b.kids.length : Int)) = true := by simp; omega
   have hw := wrap_succ (k := k) (by omega)
   have hka : k < a.kids.length := by omega
   have hkb : k < b.kids.length := by omega
   have hr : rowsAt ((a.kids.map V.enc).map encCs) 1 k = true := by simp [rowsAt, hka, encCs]
   have hg : ((a.kids.map V.enc).map encCs)[k]? = some [.sl (a.kids[k].enc.map CellD.cs)] := by simp [hka, encCs]
   have hr2 : rowsAt ((b.kids.map V.enc).map encCs) 1 k = true := by simp [rowsAt, hkb, encCs]
   have hg2 : ((b.kids.map V.enc).map encCs)[k]? = some [.sl (b.kids[k].enc.map CellD.cs)] := by simp [hkb, encCs]
   have hFk1 := hFl (k + 1) (by omega)
   have hnext := hFs k
   rw [hnext, List.length_append] at hFk1
   have hnb := l1Number_ac k
   have hbe := l14Behind_ac p (numV k) (by omega)
   have hlf := leafy_num hp k
   have hmemA := countL_mem (List.getElem_mem hka)
   have hra := right_mem ha (List.getElem_mem hka)
   have hrb := right_mem hb (List.getElem_mem hkb)
   unfold bothAt at hnext hFk1
   rw [List.getD_eq_getElem?_getD, List.getElem?_eq_getElem hka, Option.getD_some, List.getD_eq_getElem?_getD, List.getElem?_eq_getElem hkb, Option.getD_some] at hnext hFk1
   have hst := ih a.kids[k] b.kids[k] (p ++ [numV k]) hra hrb hlf (by rw [hpl]; omega) (by omega) (by omega)
   generalize diffV n a.kids[k] b.kids[k] (p ++ [numV k]) = R at *
   generalize a.kids[k] = x at *
   generalize b.kids[k] = y at *
   generalize numV k = q at *
   have hol : (F k).length + R.length ≤ 1000000 := by omega
   have hrow : (F k).map EditD.cs ++ R.map EditD.cs = (F (k + 1)).map EditD.cs := by rw [hnext, List.map_append]
   refine wRUN (j8 hd1 hd2 hkm hkm2 hr hg hr2 hg2) ?_
   refine w9 (op_shared [] hnb) trivial ?_
   refine w9 (op_shared [] hbe) trivial ?_
   refine w9 (op_shared [] hst) trivial ?_
   refine wRUN (j2 hw hol) ?_
   refine ⟨k + 1, by omega, by omega, ?_⟩
   exact wSays (Says.of [((99, 0), (44, 0))] []) hrow
  ·have hke : k = m := by omega
   subst hke
   have hws : IntKind.i64.wrap ((a.kids.length : Int) - 1) = (a.kids.length : Int) - 1 - (0 : Nat) := by rw [IntWalk.i64_in _ (by omega)]; omega
   have h1 : (F k ++ D 0).map EditD.cs = (F k).map EditD.cs := by rw [hD0, List.append_nil]
   by_cases hka : k < a.kids.length
   case' pos =>
    have hd1 : decide ((k : Int) < (a.kids.length : Int)) = true := by simpa using hka
    have hd2 : decide ((k : Int) < (b.kids.length : Int)) = false := by simp; omega
   case' neg =>
    have hd1 : decide ((k : Int) < (a.kids.length : Int)) = false := by simpa using hka
    have hd2 : True := trivial
   all_goals
    refine wRUN (j5 hd1 hd2 hkm hkm2 hws) ?_
    refine a_loop (κ := Nat) (fun j => ⟨mkS 0 83 [(2, .c (.sl ((p.map V.enc).map encCs))), (7, .own (99, 0)), (8, .c (.sl ((a.kids.map V.enc).map encCs))), (9, .c (.sl ((b.kids.map V.enc).map encCs))), (11, .c (.int .i64 ((a.kids.length : Int) - 1 - (j : Nat))))],
      [((99, 0), .row false 3 122 ((F k ++ D j).map EditD.cs))]⟩)
     (fun j => j ≤ a.kids.length - k) (fun j => a.kids.length - k - j) 0 (Nat.zero_le _) ?_ ?_
    ·exact wSays (Says.of [((99, 0), (99, 0))] []) h1
    ·intro j hj
     by_cases hjl : j < a.kids.length - k
     ·obtain ⟨i, hi⟩ : ∃ i : Nat, (a.kids.length : Int) - 1 - (j : Nat) = (i : Int) := ⟨a.kids.length - 1 - j, by omega⟩
      have hge : decide ((i : Int) ≥ (b.kids.length : Int)) = true := by simp; omega
      have hw : IntKind.i64.wrap ((i : Int) - 1) = (a.kids.length : Int) - 1 - (j + 1 : Nat) := by rw [IntWalk.i64_in _ (by omega)]; omega
      have hnext := hDs j
      have hei : a.kids.length - 1 - j = i := by omega
      unfold dropsAt at hnext
      rw [hei] at hnext
      have hlf := leafy_num hp i
      have har := leafy_arr hlf
      rw [hpl] at har
      have hDj := hDl j
      have hdr := l14Drop_ac (p ++ [numV i]) (by omega)
      have hnb := l1Number_ac i
      have hbe := l14Behind_ac p (numV i) (by omega)
      have hol : (F k ++ D j).length + 1 ≤ 1000000 := by rw [List.length_append]; omega
      have hrow : (F k ++ D j).map EditD.cs ++ [[.int .i64 (dropE (p ++ [numV i])).op, .sl ((dropE (p ++ [numV i])).path.map CellD.cs), .sl ((dropE (p ++ [numV i])).x.map CellD.cs)]] = (F k ++ D (j + 1)).map EditD.cs := by rw [hnext, ← List.append_assoc, List.map_append (l₁ := F k ++ D j)]; rfl
      rw [hi]
      generalize numV i = q at *
      refine wRUN (j2 hge hkm2) ?_
      refine w9 (op_shared [] hnb) trivial ?_
      refine w9 (op_shared [] hbe) trivial ?_
      refine w9 (op_shared [] hdr) trivial ?_
      refine wRUN (j2 hw hol) ?_
      refine ⟨j + 1, by omega, by omega, ?_⟩
      exact wSays (Says.of [((99, 0), (61, 0))] []) hrow
     ·have hje : j = a.kids.length - k := by omega
      have hge : decide ((a.kids.length : Int) - 1 - (j : Nat) ≥ (b.kids.length : Int)) = false := by simp; omega
      subst hje
      have h2 : (F k ++ D (a.kids.length - k) ++ S 0).map EditD.cs = (F k ++ D (a.kids.length - k)).map EditD.cs := by rw [hS0, List.append_nil]
      have hk0 : ((a.kids.length + 0 : Nat) : Int) = (a.kids.length : Int) := rfl
      refine wRUN (j3 hge hkm2 hkm) ?_
      refine a_loop (κ := Nat) (fun j => ⟨mkS 0 83 [(2, .c (.sl ((p.map V.enc).map encCs))), (7, .own (99, 0)), (9, .c (.sl ((b.kids.map V.enc).map encCs))), (12, .c (.int .i64 (a.kids.length + j : Nat)))],
        [((99, 0), .row false 3 122 ((F k ++ D (a.kids.length - k) ++ S j).map EditD.cs))]⟩)
       (fun j => j ≤ b.kids.length - k) (fun j => b.kids.length - k - j) 0 (Nat.zero_le _) ?_ ?_
      ·exact wSays (Says.of [((99, 0), (99, 0))] []) (j2 h2 hk0)
      ·intro j hj
       obtain ⟨i, hi⟩ : ∃ i, a.kids.length + j = i := ⟨_, rfl⟩
       have hnext := hSs j
       rw [hi]
       by_cases hjl : j < b.kids.length - k
       ·have hki : k + j = i := by omega
        rw [hki] at hnext
        have hkb : i < b.kids.length := by omega
        have hd3 : decide ((i : Int) < (b.kids.length : Int)) = true := by simpa using hkb
        have hw := wrap_succ (k := i) (by omega)
        have hr2 : rowsAt ((b.kids.map V.enc).map encCs) 1 i = true := by simp [rowsAt, hkb, encCs]
        have hg2 : ((b.kids.map V.enc).map encCs)[i]? = some [.sl (b.kids[i].enc.map CellD.cs)] := by simp [hkb, encCs]
        unfold setsAt at hnext
        rw [List.getD_eq_getElem?_getD, List.getElem?_eq_getElem hkb, Option.getD_some] at hnext
        have hlf := leafy_num hp i
        have har := leafy_arr hlf
        rw [hpl] at har
        have hSj := hSl j
        have hDj := hDl (a.kids.length - k)
        have hrb := right_mem hb (List.getElem_mem hkb)
        have hdr := l14Set_ac (p ++ [numV i]) b.kids[i] (by omega) (by have := hrb.2.1; omega)
        have hnb := l1Number_ac i
        have hbe := l14Behind_ac p (numV i) (by omega)
        generalize b.kids[i] = y at *
        have hol : (F k ++ D (a.kids.length - k) ++ S j).length + 1 ≤ 1000000 := by simp only [List.length_append]; omega
        have hrow : (F k ++ D (a.kids.length - k) ++ S j).map EditD.cs ++ [[.int .i64 (setE (p ++ [numV i]) y).op, .sl ((setE (p ++ [numV i]) y).path.map CellD.cs), .sl ((setE (p ++ [numV i]) y).x.map CellD.cs)]] = (F k ++ D (a.kids.length - k) ++ S (j + 1)).map EditD.cs := by rw [hnext, ← List.append_assoc (F k ++ D (a.kids.length - k)), List.map_append (l₁ := F k ++ D (a.kids.length - k) ++ S j)]; rfl
        generalize numV i = q at *
        refine wRUN (j2 hd3 hkm2) ?_
        refine w9 (op_shared [] hnb) trivial ?_
        refine w9 (op_shared [] hbe) trivial ?_
        refine wRUN (j2 hr2 hg2) ?_
        refine w9 (op_shared [] hdr) trivial ?_
        refine wRUN (j2 hw hol) ?_
        have hi1 : a.kids.length + (j + 1) = i + 1 := by omega
        refine ⟨j + 1, by omega, by omega, ?_⟩
        exact wSays (Says.of [((99, 0), (81, 0))] []) (j2 hi1 hrow)
       ·have hje : j = b.kids.length - k := by omega
        have hd3 : decide ((i : Int) < (b.kids.length : Int)) = false := by simp; omega
        subst hje
        refine wRUN (j2 hd3 hkm2) ?_
        exact wRetOf (ret_of [] [(99, 0)]) Tryz.results154 hd3
theorem diffS_ac : ∀ n, DiffAC n := by
 intro n
 induction n with
 | zero => intro a b p ha _ _ _ _ hc; have := count_pos a; omega
 | succ n ih =>
  intro a b p ha hb hp hpn hl hc
  have hcm := l1Compare_ac a.count a b (Nat.le_refl _) ha hb
  have hr0 : rowsAt (a.enc.map CellD.cs) 5 0 = true := by unfold rowsAt; rw [show (0 : Int).toNat = 0 from rfl, enc_head]; rfl
  have hg0 := enc_head a
  have hr1 : rowsAt (b.enc.map CellD.cs) 5 0 = true := by unfold rowsAt; rw [show (0 : Int).toNat = 0 from rfl, enc_head]; rfl
  have hg1 := enc_head b
  have hnil : ([] : List EditD).map EditD.cs = [] := rfl
  unfold diffV at hl ⊢
  by_cases h0 : a.cmp b = 0
  ·rw [if_pos h0]
   have hb0 : (a.cmp b == 0) = true := by simpa using h0
   refine wEnter Tryz.func78 Tryz.ntmps78 ?_
   refine wRUN trivial ?_
   refine w7 (op_data [] hcm) trivial ?_
   refine wRUN hb0 ?_
   exact wRetOf (ret_of [] []) Tryz.results78 hnil
  ·rw [if_neg h0] at hl ⊢
   have hb0 : (a.cmp b == 0) = false := by simpa using h0
   by_cases h6 : a.kind = 6 ∧ b.kind = 6
   ·rw [if_pos h6] at hl ⊢
    have hob := objectsS_ac ih ha hb h6.1 h6.2 hp (by omega) hl (by omega)
    have e1 : (a.kind == 6) = true := by simp [h6.1]
    have e2 : (b.kind == 6) = true := by simp [h6.2]
    generalize (mergeU a.keys b.keys).flatMap _ = R at *
    refine wEnter Tryz.func78 Tryz.ntmps78 ?_
    refine wRUN trivial ?_
    refine w7 (op_data [] hcm) trivial ?_
    refine wRUN (j7 hb0 hr0 hg0 hr1 hg1 e1 e2) ?_
    refine w9 (op_shared [] hob) trivial ?_
    refine wRUN trivial ?_
    exact wRetOf (ret_of [] []) Tryz.results78 hb0
   ·rw [if_neg h6] at hl ⊢
    have hk6 : (a.kind == 6) = false ∨ (a.kind == 6) = true ∧ (b.kind == 6) = false := by
     cases e1 : a.kind == 6 with
     | false => exact .inl rfl
     | true => exact .inr ⟨rfl, by cases e2 : b.kind == 6 with
      | false => rfl
      | true => exact absurd ⟨by simpa using e1, by simpa using e2⟩ h6⟩
    have hk5 : (a.kind == 5 && b.kind == 5) = true ∨ (a.kind == 5) = false ∨ (a.kind == 5) = true ∧ (b.kind == 5) = false := by
     cases e1 : a.kind == 5 with
     | false => exact .inr (.inl rfl)
     | true => cases e2 : b.kind == 5 with
      | false => exact .inr (.inr ⟨rfl, rfl⟩)
      | true => exact .inl rfl
    by_cases h5 : a.kind = 5 ∧ b.kind = 5
    ·rw [if_pos h5] at hl ⊢
     have hob := arraysS_ac ih ha hb hp (by omega) hl (by omega)
     have e1 : (a.kind == 5) = true := by simp [h5.1]
     have e2 : (b.kind == 5) = true := by simp [h5.2]
     have e3 : (a.kind == 6) = false := by simp [h5.1]
     generalize arrD (diffV n) a b p = R at *
     refine wEnter Tryz.func78 Tryz.ntmps78 ?_
     refine wRUN trivial ?_
     refine w7 (op_data [] hcm) trivial ?_
     refine wRUN (j8 hb0 hr0 hg0 hr1 hg1 e1 e2 e3) ?_
     refine w9 (op_shared [] hob) trivial ?_
     refine wRUN trivial ?_
     exact wRetOf (ret_of [] []) Tryz.results78 hb0
    ·rw [if_neg h5] at hl ⊢
     have hpc := leafy_arr hp
     have hdr := l14Set_ac p b (by omega) (by have := hb.2.1; omega)
     have hrow : [setE p b].map EditD.cs = [[.int .i64 (setE p b).op, .sl ((setE p b).path.map CellD.cs), .sl ((setE p b).x.map CellD.cs)]] := rfl
     have hk5 : (a.kind == 5) = false ∨ (a.kind == 5) = true ∧ (b.kind == 5) = false := hk5.resolve_left fun h => h5 (by simpa using h)
     rw [hrow]
     generalize setE p b = d at *
     rcases hk6 with e1 | ⟨e1, e2⟩
     case' inl => have e2 : True := trivial
     all_goals
      rcases hk5 with e3 | ⟨e3, e4⟩
      case' inl => have e4 : True := trivial
      all_goals
       refine wEnter Tryz.func78 Tryz.ntmps78 ?_
       refine wRUN trivial ?_
       refine w7 (op_data [] hcm) trivial ?_
       refine wRUN (j9 hb0 hr0 hg0 hr1 hg1 e1 e2 e3 e4) ?_
       refine w9 (op_shared [] hdr) trivial ?_
       refine wRUN trivial ?_
       exact wRetOf (ret_of [] [(49, 0)]) Tryz.results78 hb0
end Go.Proofs.YtamgeodhpglgkaaGreat
