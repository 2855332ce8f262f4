/- Texts of this proof: G43 G69 D22. -/
import Derived.Test.YtlciedpfjhkkdaaGreatDoorKG06uS02
import Derived.Test.YtlciedpfjhkkdaaGreatDoorKM2
import Derived.Lib.Bytealg
import Derived.Test.YtlciedpfjhkkdaaGreatDoorKE6
import Derived.Test.YtlciedpfjhkkdaaGreatDoorKG8
import Derived.Lib.AppendZerosOnto
import Derived.Shelf.RegionOpenPlain
import Derived.Test.YtlciedpfjhkkdaaGreatDoorKG22uG9
import Derived.Test.YtlciedpfjhkkdaaGreatDoorKE5
import Derived.Test.YtlciedpfjhkkdaaGreatDoorKG04uM23
import Derived.Test.YtlciedpfjhkkdaaGreatDoorKD20uD21
set_option linter.unusedSimpArgs false
set_option linter.unusedVariables false
set_option linter.unnecessarySimpa false
set_option maxHeartbeats 8000000
namespace Go.Proofs.YtlciedpfjhkkdaaGreatDoor
open Go.RowKit
set_option maxRecDepth 10000
theorem isNaN64_ac (x : Int) : AC Tryz.prog 191 [.c (.int .i64 x)] [] (.c (.bool false)) [] := by
 have h : (x != x) = false := by simp
 refine wEnter Tryz.func191 Tryz.ntmps191 ?_
 refine wRUN h ?_
 exact wRet (ret_data []) Tryz.results191
theorem isNaN_ac (x : Int) : AC Tryz.prog 194 [.c (.int .i64 x)] [] (.c (.bool false)) [] := by
 have h : (x != x) = false := by simp
 refine wEnter Tryz.func194 Tryz.ntmps194 ?_
 refine wRUN h ?_
 exact wRet (ret_data []) Tryz.results194
theorem isNaNS_ac (x : ByteArray) : AC Tryz.prog 218 [.c (.str x)] [] (.c (.bool false)) [] := by
 have h : (x.toList == x.toList) = true := by simp
 refine wEnter Tryz.func218 Tryz.ntmps218 ?_
 refine wRUN h ?_
 exact wRet (ret_data []) Tryz.results218
theorem cmpI_lt {a b : Int} (h : decide (a < b) = true) : cmpI a b = -1 := if_pos (by simpa using h)
theorem cmpI_gt {a b : Int} (h1 : decide (a < b) = false) (h : decide (a > b) = true) : cmpI a b = 1 := by
 unfold cmpI
 rw [if_neg (by simpa using h1), if_pos (by simpa using h)]
theorem cmpI_eq {a b : Int} (h1 : decide (a < b) = false) (h : decide (a > b) = false) : cmpI a b = 0 := by
 unfold cmpI
 rw [if_neg (by simpa using h1), if_neg (by simpa using h)]
theorem compare64_ac (a b : Int) : AC Tryz.prog 160 [.c (.int .i64 a), .c (.int .i64 b)] [] (.c (.int .i64 (cmpI a b))) [] := by
 have h1 := isNaN64_ac a
 have h2 := isNaN64_ac b
 cases hl : decide (a < b) <;> cases hg : decide (a > b)
 ·rw [cmpI_eq hl hg]
  refine wEnter Tryz.func160 Tryz.ntmps160 ?_
  refine wRUN trivial ?_
  refine w7 (op_data [] h1) trivial ?_
  refine wRUN trivial ?_
  refine w7 (op_data [] h2) trivial ?_
  refine wRUN (j2 hl hg) ?_
  exact wRet (ret_data []) Tryz.results160
 ·rw [cmpI_gt hl hg]
  refine wEnter Tryz.func160 Tryz.ntmps160 ?_
  refine wRUN trivial ?_
  refine w7 (op_data [] h1) trivial ?_
  refine wRUN trivial ?_
  refine w7 (op_data [] h2) trivial ?_
  refine wRUN (j2 hl hg) ?_
  exact wRet (ret_data []) Tryz.results160
 all_goals
  rw [cmpI_lt hl]
  refine wEnter Tryz.func160 Tryz.ntmps160 ?_
  refine wRUN trivial ?_
  refine w7 (op_data [] h1) trivial ?_
  refine wRUN trivial ?_
  refine w7 (op_data [] h2) trivial ?_
  refine wRUN hl ?_
  exact wRet (ret_data []) Tryz.results160
theorem compareInt_ac (a b : Int) : AC Tryz.prog 164 [.c (.int .i64 a), .c (.int .i64 b)] [] (.c (.int .i64 (cmpI a b))) [] := by
 have h1 := isNaN_ac a
 have h2 := isNaN_ac b
 cases hl : decide (a < b) <;> cases hg : decide (a > b)
 ·rw [cmpI_eq hl hg]
  refine wEnter Tryz.func164 Tryz.ntmps164 ?_
  refine wRUN trivial ?_
  refine w7 (op_data [] h1) trivial ?_
  refine wRUN trivial ?_
  refine w7 (op_data [] h2) trivial ?_
  refine wRUN (j2 hl hg) ?_
  exact wRet (ret_data []) Tryz.results164
 ·rw [cmpI_gt hl hg]
  refine wEnter Tryz.func164 Tryz.ntmps164 ?_
  refine wRUN trivial ?_
  refine w7 (op_data [] h1) trivial ?_
  refine wRUN trivial ?_
  refine w7 (op_data [] h2) trivial ?_
  refine wRUN (j2 hl hg) ?_
  exact wRet (ret_data []) Tryz.results164
 all_goals
  rw [cmpI_lt hl]
  refine wEnter Tryz.func164 Tryz.ntmps164 ?_
  refine wRUN trivial ?_
  refine w7 (op_data [] h1) trivial ?_
  refine wRUN trivial ?_
  refine w7 (op_data [] h2) trivial ?_
  refine wRUN hl ?_
  exact wRet (ret_data []) Tryz.results164
theorem cmpB_ways (a b : ByteArray) : (Op.bytesLess a.toList b.toList = true ∧ cmpB a b = -1) ∨ (Op.bytesLess a.toList b.toList = false ∧ (a.toList == b.toList) = true ∧ cmpB a b = 0) ∨ (Op.bytesLess a.toList b.toList = false ∧ (a.toList == b.toList) = false ∧ cmpB a b = 1) := by
 unfold cmpB lessB
 cases h1 : Op.bytesLess a.toList b.toList with
 | true => exact .inl ⟨rfl, rfl⟩
 | false => cases h2 : (a.toList == b.toList) with
  | true => exact .inr (.inl ⟨rfl, rfl, rfl⟩)
  | false => exact .inr (.inr ⟨rfl, rfl, rfl⟩)
theorem compareStr_ac (a b : ByteArray) : AC Tryz.prog 193 [.c (.str a), .c (.str b)] [] (.c (.int .i64 (cmpB a b))) [] := by
 have h1 := isNaNS_ac a
 have h2 := isNaNS_ac b
 rcases cmpB_ways a b with ⟨hl, he⟩ | ⟨hl, hg, he⟩ | ⟨hl, hg, he⟩
 ·rw [he]
  refine wEnter Tryz.func193 Tryz.ntmps193 ?_
  refine wRUN trivial ?_
  refine w7 (op_data [] h1) trivial ?_
  refine wRUN trivial ?_
  refine w7 (op_data [] h2) trivial ?_
  refine wRUN hl ?_
  exact wRet (ret_data []) Tryz.results193
 all_goals
  rw [he]
  refine wEnter Tryz.func193 Tryz.ntmps193 ?_
  refine wRUN trivial ?_
  refine w7 (op_data [] h1) trivial ?_
  refine wRUN trivial ?_
  refine w7 (op_data [] h2) trivial ?_
  refine wRUN (j2 hl hg) ?_
  exact wRet (ret_data []) Tryz.results193
theorem compareBytes_eq : ∀ (a b : List UInt8), Lib.compareBytes a b = if Op.bytesLess a b then -1 else if a == b then 0 else 1
 | [], [] => rfl
 | [], _ :: _ => rfl
 | _ :: _, [] => by simp [Lib.compareBytes, Op.bytesLess]
 | x :: a, y :: b => by
  unfold Lib.compareBytes
  rw [compareBytes_eq a b]
  simp only [Op.bytesLess]
  by_cases h1 : x < y
  ·simp [h1]
  ·by_cases h2 : y < x
   ·have : x ≠ y := fun e => by subst e; exact h1 h2
    simp [h1, h2, this]
   ·have : x = y := by
     apply UInt8.toNat_inj.1
     have h3 : ¬ x.toNat < y.toNat := fun h => h1 (UInt8.lt_iff_toNat_lt.2 h)
     have h4 : ¬ y.toNat < x.toNat := fun h => h2 (UInt8.lt_iff_toNat_lt.2 h)
     omega
    subst this
    simp [h1]
theorem bytealg_any (a b : ByteArray) (w : World) : Calls Tryz.prog 192 #[.string a, .string b] w fun e w' => e = .returned (.int .i64 (Lib.compareBytes a.data.toList b.data.toList)) ∧ w' = w := by
 go_enter Tryz.func192, Tryz.ntmps192
 go_wp2
 rw [run_callFunc_extern Tryz.func217 (by kernel_rfl) (by kernel_rfl) (by kernel_rfl) (e := Extern.BytealgCompare.compare) (by kernel_rfl), Lib.run_compareString]
 simp only [Result.andThen]
 rw [Oper.upon_value]
 go_wp2
 go_ret
 exact ⟨rfl, rfl⟩
theorem bytealg_ac (a b : ByteArray) : AC Tryz.prog 192 [.c (.str a), .c (.str b)] [] (.c (.int .i64 (cmpB a b))) [] := by
 refine AC.of_calls fun S w κ vs hv => ?_
 obtain ⟨v, vs', rfl, ⟨rfl, _⟩, v2, vs2, rfl, ⟨rfl, _⟩, rfl⟩ := hv
 refine (bytealg_any a b w).mono ?_
 rintro e w' ⟨rfl, rfl⟩
 refine ⟨Below.refl _ _, _, rfl, fun T _ _ => ?_⟩
 have : Lib.compareBytes a.data.toList b.data.toList = cmpB a b := by
  rw [compareBytes_eq, ← ByteArray.toList_eq, ← ByteArray.toList_eq]
  rfl
 rw [this]
 exact ⟨rfl, rfl⟩
theorem stringsCompare_ac (a b : ByteArray) : AC Tryz.prog 162 [.c (.str a), .c (.str b)] [] (.c (.int .i64 (cmpB a b))) [] := by
 have h := bytealg_ac a b
 refine wEnter Tryz.func162 Tryz.ntmps162 ?_
 refine wRUN trivial ?_
 refine w7 (op_data [] h) trivial ?_
 refine wRUN trivial ?_
 exact wRet (ret_data []) Tryz.results162
def orL : List Int → Int
 | [] => 0
 | a :: r => orI a (orL r)
theorem orL_drop (l : List Int) {k : Nat} (h : k < l.length) : orL (l.drop k) = if l[k] = 0 then orL (l.drop (k + 1)) else l[k] := by
 rw [List.drop_eq_getElem_cons h]
 rfl
theorem or_ac (l : List Int) (hl : l.length ≤ 1000000) : AC Tryz.prog 161 [.c (.sl (l.map intCs))] [] (.c (.int .i64 (orL l))) [] := by
 have hln : (l.map intCs).length = l.length := by simp
 obtain ⟨R, hR⟩ : ∃ R, R = orL l := ⟨_, rfl⟩
 rw [← hR]
 refine wEnter Tryz.func161 Tryz.ntmps161 ?_
 refine wRUN hln ?_
 refine a_loop (κ := Nat) (fun k => ⟨mkS 0 18 [(0, .c (.sl (l.map intCs))), (3, .c (.int .i64 0)), (6, .c (.sl (l.map intCs))), (7, .c (.int .i64 l.length)), (8, .c (.int .i64 k))], []⟩)
  (fun k => k ≤ l.length ∧ R = orL (l.drop k)) (fun k => l.length - k) 0 ⟨Nat.zero_le _, hR⟩ ?_ ?_
 ·exact wSays (Says.of [] []) hln
 ·rintro k ⟨hk, hRk⟩
  by_cases hlt : k < l.length
  ·have hdk : decide ((k : Int) < (l.length : Int)) = true := by simpa using hlt
   have hw := wrap_succ (k := k) (by omega)
   have hr : rowsAt (l.map intCs) 1 k = true := by simp [rowsAt, hlt, intCs]
   have hg : (l.map intCs)[k]? = some [.int .i64 l[k]] := by simp [hlt, intCs]
   rw [orL_drop _ hlt] at hRk
   generalize l[k] = x at *
   by_cases hx : x = 0
   ·rw [if_pos hx] at hRk
    have hb : (x != 0) = false := by simpa using hx
    refine wRUN (j5 hdk hr hg hb hw) ?_
    refine ⟨k + 1, by omega, ⟨by omega, hRk⟩, ?_⟩
    exact wSays (Says.of [] []) hw
   ·rw [if_neg hx] at hRk
    have hb : (x != 0) = true := by simpa using hx
    rw [hRk]
    refine wRUN (j4 hdk hr hg hb) ?_
    exact wRet (ret_data []) Tryz.results161
  ·have hdk : decide ((k : Int) < (l.length : Int)) = false := by simpa using hlt
   rw [List.drop_eq_nil_of_le (by omega)] at hRk
   have hR0 : R = 0 := hRk
   rw [hR0]
   refine wRUN hdk ?_
   exact wRet (ret_data []) Tryz.results161
theorem or3_ac (a b c : Int) : AC Tryz.prog 161 [.c (.sl [[.int .i64 a], [.int .i64 b], [.int .i64 c]])] [] (.c (.int .i64 (orI a (orI b c)))) [] := by
 have h := or_ac [a, b, c] (by simp)
 simp only [orL, orI_right] at h
 exact h
theorem or2_ac (a b : Int) : AC Tryz.prog 161 [.c (.sl [[.int .i64 a], [.int .i64 b]])] [] (.c (.int .i64 (orI a b))) [] := by
 have h := or_ac [a, b] (by simp)
 simp only [orL, orI_right] at h
 exact h
theorem compareKeys_ac (a b : List ByteArray) (hl : a.length ≤ 1000000) : AC Tryz.prog 163 [.c (.sl (a.map strCs)), .c (.sl (b.map strCs))] [] (.c (.int .i64 (cmpKeys a b))) [] := by
 have hla : (a.map strCs).length = a.length := by simp
 have hlb : (b.map strCs).length = b.length := by simp
 obtain ⟨R, hR⟩ : ∃ R, R = cmpKeys a b := ⟨_, rfl⟩
 rw [← hR]
 refine wEnter Tryz.func163 Tryz.ntmps163 ?_
 refine wRUN (j2 hla hlb) ?_
 refine a_loop (κ := Nat) (fun k => ⟨mkS 0 36 [(0, .c (.sl (a.map strCs))), (1, .c (.sl (b.map strCs))), (9, .c (.sl (a.map strCs))), (10, .c (.int .i64 a.length)), (11, .c (.int .i64 k))], []⟩)
  (fun k => k ≤ a.length ∧ k ≤ b.length ∧ R = cmpKeys (a.drop k) (b.drop k)) (fun k => a.length - k) 0 ⟨Nat.zero_le _, Nat.zero_le _, hR⟩ ?_ ?_
 ·exact wSays (Says.of [] []) hla
 ·rintro k ⟨hk, hk2, hRk⟩
  by_cases hlt : k < a.length
  ·have hdk : decide ((k : Int) < (a.length : Int)) = true := by simpa using hlt
   have hw := wrap_succ (k := k) (by omega)
   have hr : rowsAt (a.map strCs) 1 k = true := by simp [rowsAt, hlt, strCs]
   have hg : (a.map strCs)[k]? = some [.str a[k]] := by simp [hlt, strCs]
   by_cases hltb : k < b.length
   ·have hdb : decide ((k : Int) ≥ (b.length : Int)) = false := by simpa using hltb
    have hrb : rowsAt (b.map strCs) 1 k = true := by simp [rowsAt, hltb, strCs]
    have hgb : (b.map strCs)[k]? = some [.str b[k]] := by simp [hltb, strCs]
    have hc := compareStr_ac a[k] b[k]
    rw [cmpKeys_drop hlt hltb] at hRk
    generalize cmpB a[k] b[k] = x at *
    generalize a[k] = ak at *
    generalize b[k] = bk at *
    by_cases hx : x = 0
    ·subst hx
     rw [orI_zero] at hRk
     have h00 : ((0 : Int) != 0) = false := rfl
     refine wRUN (j7 hdk hr hg hlb hdb hrb hgb) ?_
     refine w7 (op_data [] hc) trivial ?_
     refine wRUN (j2 h00 hw) ?_
     refine ⟨k + 1, by omega, ⟨by omega, by omega, hRk⟩, ?_⟩
     exact wSays (Says.of [] []) hw
    ·rw [orI_ne hx] at hRk
     have hb : (x != 0) = true := by simpa using hx
     rw [hRk]
     refine wRUN (j7 hdk hr hg hlb hdb hrb hgb) ?_
     refine w7 (op_data [] hc) trivial ?_
     refine wRUN hb ?_
     exact wRet (ret_data []) Tryz.results163
   ·have hdb : decide ((k : Int) ≥ (b.length : Int)) = true := by simpa using hltb
    rw [cmpKeys_end hk hk2 (by omega)] at hRk
    have hR1 : R = 1 := by rw [hRk]; unfold cmpI; rw [if_neg (by omega), if_pos (by omega)]
    rw [hR1]
    refine wRUN (j5 hdk hr hg hlb hdb) ?_
    exact wRet (ret_data []) Tryz.results163
  ·have hdk : decide ((k : Int) < (a.length : Int)) = false := by simpa using hlt
   rw [cmpKeys_end hk hk2 (by omega)] at hRk
   by_cases hll : a.length < b.length
   ·have hd : decide ((a.length : Int) < (b.length : Int)) = true := by simpa using hll
    have hR1 : R = -1 := by rw [hRk]; exact cmpI_lt hd
    rw [hR1]
    refine wRUN (j4 hdk hla hlb hd) ?_
    exact wRet (ret_data []) Tryz.results163
   ·have hd : decide ((a.length : Int) < (b.length : Int)) = false := by simpa using hll
    have hR1 : R = 0 := by rw [hRk]; exact cmpI_eq hd (by simp; omega)
    rw [hR1]
    refine wRUN (j4 hdk hla hlb hd) ?_
    exact wRet (ret_data []) Tryz.results163
theorem keys_len {t : V} (h : t.right) : t.keys.length ≤ 200 := by
 by_cases h6 : t.kind = 6
 ·rw [(right_asc h h6).2.2]
  exact kids_len_le h.2.1
 ·obtain ⟨_, _, _, _, h3, _⟩ := right_shape h.1
  rw [h3 h6]
  simp
theorem compareVals_ac : ∀ (m : Nat) (a b : V), a.count ≤ m → a.right → AC Tryz.prog 110 [a.av, b.av] [] (.c (.int .i64 (a.cmp b))) [] := by
 intro m
 induction m with
 | zero => intro a _ hm _; have := count_pos a; omega
 | succ m ih =>
  intro a b hm ha
  have hkl := kids_len_le ha.2.1
  by_cases hk : a.kind = b.kind
  ·have hne : (a.kind != b.kind) = false := by simpa using hk
   obtain ⟨R, hR⟩ : ∃ R, R = a.cmp b := ⟨_, rfl⟩
   have hR0 := hR
   rw [cmp_eq, if_pos hk, ← orI_assoc, ← orI_assoc, orI_assoc (cmpI a.num b.num)] at hR0
   rw [← hR]
   have h1 := compare64_ac a.num b.num
   have h2 := stringsCompare_ac a.text b.text
   have h3 := compareKeys_ac a.keys b.keys (by have := keys_len ha; omega)
   have h4 := or3_ac (cmpI a.num b.num) (cmpB a.text b.text) (cmpKeys a.keys b.keys)
   have hrange : -1 ≤ orI (cmpI a.num b.num) (orI (cmpB a.text b.text) (cmpKeys a.keys b.keys)) ∧ orI (cmpI a.num b.num) (orI (cmpB a.text b.text) (cmpKeys a.keys b.keys)) ≤ 1 := orI_range (cmpI_range _ _) (orI_range (cmpB_range _ _) (cmpKeys_range _ _))
   generalize orI (cmpI a.num b.num) (orI (cmpB a.text b.text) (cmpKeys a.keys b.keys)) = o1 at *
   generalize cmpI a.num b.num = c1 at *
   generalize cmpB a.text b.text = c2 at *
   generalize cmpKeys a.keys b.keys = c3 at *
   obtain ⟨mn, hmn⟩ : ∃ mn : Int, (if (b.kids.length : Int) < (a.kids.length : Int) then (b.kids.length : Int) else (a.kids.length : Int)) = mn := ⟨_, rfl⟩
   have hmn2 : ∀ k : Nat, decide ((k : Int) < mn) = decide (k < a.kids.length ∧ k < b.kids.length) := by
    intro k
    rw [← hmn]
    split <;> congr 1 <;> apply propext <;> omega
   refine wEnter Tryz.func110 Tryz.ntmps110 ?_
   refine wRUN hne ?_
   refine w7 (op_data [] h1) trivial ?_
   refine wRUN trivial ?_
   refine w7 (op_data [] h2) trivial ?_
   refine wRUN trivial ?_
   refine w7 (op_data [] h3) trivial ?_
   refine wRUN trivial ?_
   refine w7 (op_data [(32, 0)] h4) trivial ?_
   refine wRUN trivial ?_
   refine a_loop (κ := Nat × Int) (fun x => ⟨mkS 0 70 [(2, .ptr (2, 0) 0), (3, .ptr (3, 0) 0), (5, .c (.int .i64 x.2)), (6, .c (.int .i64 x.1))], [((2, 0), .box [.c (.int .i64 a.kind), .c (.int .i64 a.num), .c (.str a.text), .c (.sl (a.keys.map strCs)), .c (.sl (a.kids.map V.cs))]), ((3, 0), .box [.c (.int .i64 b.kind), .c (.int .i64 b.num), .c (.str b.text), .c (.sl (b.keys.map strCs)), .c (.sl (b.kids.map V.cs))])]⟩)
    (fun x => x.1 ≤ a.kids.length ∧ x.1 ≤ b.kids.length ∧ (-1 ≤ x.2 ∧ x.2 ≤ 1) ∧ R = orI x.2 (cmpLV (a.kids.drop x.1) (b.kids.drop x.1))) (fun x => a.kids.length - x.1) (0, o1) ⟨Nat.zero_le _, Nat.zero_le _, hrange, hR0⟩ ?_ ?_
   ·exact wSays (Says.of [((2, 0), (2, 0)), ((3, 0), (3, 0))] []) hne
   ·rintro ⟨k, o⟩ ⟨hk1, hk2, ho, hRk⟩
    dsimp only at hk1 hk2 ho hRk ⊢
    have w1 : IntKind.i64.wrap o = o := IntWalk.i64_in _ (by omega)
    by_cases hlt : k < a.kids.length ∧ k < b.kids.length
    ·have hdk : decide ((k : Int) < mn) = true := by rw [hmn2]; simpa using hlt
     by_cases h0 : o = 0
     ·subst h0
      have h00 : ((0 : Int) == 0) = true := rfl
      have hw := wrap_succ (k := k) (by omega)
      rw [orI_zero, cmpLV_drop hlt.1 hlt.2] at hRk
      have hra : rowsAt (a.kids.map V.cs) 5 k = true := by simp [rowsAt, hlt.1, V.cs_eq]
      have hga : (a.kids.map V.cs)[k]? = some a.kids[k].cs := by simp [hlt.1]
      have hrb : rowsAt (b.kids.map V.cs) 5 k = true := by simp [rowsAt, hlt.2, V.cs_eq]
      have hgb : (b.kids.map V.cs)[k]? = some b.kids[k].cs := by simp [hlt.2]
      have hmem := countL_mem (List.getElem_mem hlt.1)
      have hck := count_kids a
      have hrec := ih a.kids[k] b.kids[k] (by omega) (right_mem ha (List.getElem_mem hlt.1))
      have hrg := cmp_range a.kids[k] b.kids[k]
      generalize a.kids[k].cmp b.kids[k] = o2 at *
      generalize a.kids[k] = u at *
      generalize b.kids[k] = v at *
      have w2 : IntKind.i64.wrap o2 = o2 := IntWalk.i64_in _ (by omega)
      refine wRUN (j7 hmn hdk h00 hra hga hrb hgb) ?_
      refine w7 (op_data [] hrec) trivial ?_
      refine wRUN (j2 w2 hw) ?_
      refine ⟨(k + 1, o2), by dsimp only; omega, ⟨by dsimp only; omega, by dsimp only; omega, hrg, hRk⟩, ?_⟩
      exact wSays (Says.of [((2, 0), (2, 0)), ((3, 0), (3, 0))] []) hw
     ·have hb0 : (o == 0) = false := by simpa using h0
      rw [orI_ne h0] at hRk
      have hcl := compareInt_ac (a.kids.length : Int) (b.kids.length : Int)
      have hor := or2_ac o (cmpI a.kids.length b.kids.length)
      rw [orI_ne h0] at hor
      generalize cmpI a.kids.length b.kids.length = c9 at *
      rw [hRk]
      refine wRUN (j3 hmn hdk hb0) ?_
      refine w7 (op_data [] hcl) trivial ?_
      refine wRUN trivial ?_
      refine w7 (op_data [(68, 0)] hor) trivial ?_
      refine wRUN w1 ?_
      exact wRet (ret_data []) Tryz.results110
    ·have hdk : decide ((k : Int) < mn) = false := by rw [hmn2]; simpa using hlt
     rw [cmpLV_end hk1 hk2 hlt] at hRk
     have hcl := compareInt_ac (a.kids.length : Int) (b.kids.length : Int)
     have hor := or2_ac o (cmpI a.kids.length b.kids.length)
     have hrg := orI_range ho (cmpI_range (a.kids.length : Int) (b.kids.length : Int))
     generalize cmpI a.kids.length b.kids.length = c9 at *
     rw [← hRk] at hor hrg
     have w2 : IntKind.i64.wrap R = R := IntWalk.i64_in _ (by omega)
     refine wRUN (j2 hmn hdk) ?_
     refine w7 (op_data [] hcl) trivial ?_
     refine wRUN trivial ?_
     refine w7 (op_data [(68, 0)] hor) trivial ?_
     refine wRUN w2 ?_
     exact wRet (ret_data []) Tryz.results110
  ·have hne : (a.kind != b.kind) = true := by simpa using hk
   have h1 := compare64_ac a.kind b.kind
   have hR : a.cmp b = cmpI a.kind b.kind := by rw [cmp_eq, if_neg hk]
   have hrg := cmpI_range a.kind b.kind
   rw [hR]
   generalize cmpI a.kind b.kind = c1 at *
   have w1 : IntKind.i64.wrap c1 = c1 := IntWalk.i64_in _ (by omega)
   refine wEnter Tryz.func110 Tryz.ntmps110 ?_
   refine wRUN hne ?_
   refine w7 (op_data [] h1) trivial ?_
   refine wRUN w1 ?_
   exact wRet (ret_data []) Tryz.results110
set_option maxRecDepth 10000
theorem truth_ac (b : Bool) : AC Tryz.prog 135 [.c (.bool b)] [] (boolV b).av [] := by
 cases b
 all_goals
  refine wEnter Tryz.func135 Tryz.ntmps135 ?_
  refine wRUN trivial ?_
  exact ret_data [] (by simp only [Tryz.results135, go_sem, Nat.reduceBEq, Nat.reduceLT]; exact rfl) (by simp only [go_sem, Nat.reduceEqDiff, Nat.reduceAdd, Nat.reduceSub, Nat.reduceLeDiff, Nat.reduceMul, Nat.reduceBEq, Nat.reduceLT, Int.reduceToNat, reduceCtorEq, boolV, cond_true, cond_false, V.kind, V.num, V.text, V.keys, V.kids, List.map_nil]) rfl
end Go.Proofs.YtlciedpfjhkkdaaGreatDoor
namespace Go.Proofs.YtlciedpfjhkkdaaGreatDoor
open Go.RowKit Go.Maps
set_option maxRecDepth 10000
variable {o1 o2 : Obj}
theorem numI_in {s : ByteArray} {i : Nat} (hi : i < s.size) (b : Nat) : i ≤ (numI s i b).2.pl ∧ (numI s i b).2.pl ≤ s.size := by
 obtain ⟨a1, _, a2⟩ := numA_le hi
 unfold numI
 cases hd : digB (bAt s (numA s i)) with
 | false => simp only [if_true]; exact ⟨a1, a2⟩
 | true =>
  obtain ⟨e1, e2, _⟩ := numE_in hi hd
  simp only [Bool.true_eq_false, if_false]
  split
  ·exact ⟨by show i ≤ numE s i; omega, e2⟩
  ·split
   ·exact ⟨by show i ≤ numE s i; omega, e2⟩
   ·exact ⟨by show i ≤ numE s i; omega, e2⟩
theorem listGo_in {α : Type} {s : ByteArray} {part : DS → α → DS × α} {e : Nat} (he : e < 256) (hp : ∀ d x, d.pl ≤ s.size → d.pl ≤ (part d x).1.pl ∧ (part d x).1.pl ≤ s.size) : ∀ (n : Nat) (d : DS) (x : α), d.pl ≤ s.size → d.pl ≤ (DS.listGo s part e n d x).1.pl ∧ (DS.listGo s part e n d x).1.pl ≤ s.size
 | 0, d, x, h => ⟨Nat.le_refl _, h⟩
 | n + 1, d, x, h => by
  obtain ⟨p1, p2⟩ := hp d x h
  obtain ⟨k1, k2⟩ := skip_pl (s := s) p2
  unfold DS.listGo
  split
  ·exact ⟨Nat.le_refl _, h⟩
  split
  ·rename_i hi
   obtain ⟨h1, _, _⟩ := is_lt he hi
   exact ⟨by show d.pl ≤ _ + 1; omega, h1⟩
  ·obtain ⟨w1, w2, _⟩ := want_pl (s := s) (b := 44) (by decide) k2
   obtain ⟨j1, j2⟩ := skip_pl (s := s) w2
   obtain ⟨g1, g2⟩ := listGo_in he hp n _ (part d x).2 j2
   exact ⟨by omega, g2⟩
theorem list_in {α : Type} {s : ByteArray} {part : DS → α → DS × α} {e : Nat} (he : e < 256) (hp : ∀ d x, d.pl ≤ s.size → d.pl ≤ (part d x).1.pl ∧ (part d x).1.pl ≤ s.size) (d : DS) (x : α) (h : d.pl ≤ s.size) : d.pl ≤ (DS.list s part e d x).1.pl ∧ (DS.list s part e d x).1.pl ≤ s.size := by
 obtain ⟨k1, k2⟩ := skip_pl (s := s) h
 unfold DS.list
 split
 ·rename_i hi
  obtain ⟨h1, _, _⟩ := is_lt he hi
  exact ⟨by show d.pl ≤ _ + 1; omega, h1⟩
 ·obtain ⟨g1, g2⟩ := listGo_in he hp (s.size + 1) (d.skip s) x k2
  exact ⟨by omega, g2⟩
theorem elem_in {s : ByteArray} {rd : DS → V × DS} (h : ∀ d, d.pl ≤ s.size → d.pl ≤ (rd d).2.pl ∧ (rd d).2.pl ≤ s.size) (d : DS) (x : List V) (hd : d.pl ≤ s.size) : d.pl ≤ (elemP rd d x).1.pl ∧ (elemP rd d x).1.pl ≤ s.size := h d hd
theorem mem_in {s : ByteArray} {rd : DS → V × DS} (h : ∀ d, d.pl ≤ s.size → d.pl ≤ (rd d).2.pl ∧ (rd d).2.pl ≤ s.size) (d : DS) (x : List ByteArray × List V) (hd : d.pl ≤ s.size) : d.pl ≤ (memP s rd d x).1.pl ∧ (memP s rd d x).1.pl ≤ s.size := by
 obtain ⟨s1, s2⟩ := strD_in d hd
 obtain ⟨a1, a2⟩ := skip_pl (s := s) s2
 obtain ⟨a3, a4, _⟩ := want_pl (s := s) (b := 58) (by decide) a2
 obtain ⟨v1, v2⟩ := h _ a4
 exact ⟨by show d.pl ≤ (rd _).2.pl; omega, v2⟩
theorem value_in {s : ByteArray} : ∀ (k : Nat) (d : DS), d.pl ≤ s.size → d.pl ≤ (DS.value s k d).2.pl ∧ (DS.value s k d).2.pl ≤ s.size
 | 0, d, h => by
  obtain ⟨k1, k2⟩ := skip_pl (s := s) h
  unfold DS.value
  split <;> exact ⟨by rw [fail_pl]; exact k1, by rw [fail_pl]; exact k2⟩
 | k + 1, d, h => by
  obtain ⟨k1, k2⟩ := skip_pl (s := s) h
  have hw : ∀ l : List Nat, (∀ b ∈ l, b < 256) → d.pl ≤ ((d.skip s).word s l).pl ∧ ((d.skip s).word s l).pl ≤ s.size := fun l hl => by
   obtain ⟨g1, g2⟩ := word_pl (l := l) hl k2
   exact ⟨by omega, g2⟩
  unfold DS.value
  simp only
  split
  ·exact ⟨by rw [fail_pl]; exact k1, by rw [fail_pl]; exact k2⟩
  rename_i hlt
  split
  ·exact ⟨k1, k2⟩
  split
  ·exact hw _ (by decide)
  split
  ·exact hw _ (by decide)
  split
  ·exact hw _ (by decide)
  split
  ·obtain ⟨g1, g2⟩ := numI_in (s := s) (i := (d.skip s).pl) (by omega) (d.skip s).bad
   exact ⟨by omega, g2⟩
  split
  ·obtain ⟨g1, g2⟩ := strD_in (d.skip s) k2
   exact ⟨Nat.le_trans k1 g1, g2⟩
  split
  ·obtain ⟨g1, g2⟩ := list_in (s := s) (e := 93) (by decide) (elem_in fun d hd => value_in k d hd) ((d.skip s).go ((d.skip s).pl + 1)) [] (by show _ + 1 ≤ _; omega)
   rw [go_pl] at g1
   exact ⟨Nat.le_trans (Nat.le_succ_of_le k1) g1, g2⟩
  split
  ·obtain ⟨g1, g2⟩ := list_in (s := s) (e := 125) (by decide) (mem_in fun d hd => value_in k d hd) ((d.skip s).go ((d.skip s).pl + 1)) ([], []) (by show _ + 1 ≤ _; omega)
   rw [go_pl] at g1
   exact ⟨Nat.le_trans (Nat.le_succ_of_le k1) g1, g2⟩
  ·exact ⟨by rw [fail_pl]; exact k1, by rw [fail_pl]; exact k2⟩
theorem fail_fail (d : DS) (c c' : Int) (p p' : Nat) (hc : c ≠ 0) : (d.fail c p).fail c' p' = d.fail c p := by
 unfold DS.fail
 by_cases h : d.code = 0
 ·simp [h, hc]
 ·simp [h]
theorem fail_ne (d : DS) (c : Int) (p : Nat) (hc : c ≠ 0) : (d.fail c p).code ≠ 0 := by
 unfold DS.fail
 split
 ·exact hc
 ·rename_i h; exact h
theorem listO_len {s : ByteArray} {rd : DS → V × DS} : ∀ (n : Nat) (d : DS) (x : List ByteArray × List V), x.1.length = x.2.length → (DS.listGo s (memP s rd) 125 n d x).2.1.length = (DS.listGo s (memP s rd) 125 n d x).2.2.length
 | 0, _, _, h => h
 | n + 1, d, x, h => by
  have hm : (memP s rd d x).2.1.length = (memP s rd d x).2.2.length := by unfold memP; simp [h]
  unfold DS.listGo
  split
  ·exact h
  split
  ·exact hm
  ·exact listO_len n _ _ hm
theorem listGo_many {α : Type} {s : ByteArray} {part : DS → α → DS × α} {e : Nat} (he : e < 256) (len : α → Nat) (hl : ∀ d x, len (part d x).2 = len x + 1) : ∀ (n : Nat) (d : DS) (x : α), len (DS.listGo s part e n d x).2 ≤ len x + n
 | 0, d, x => Nat.le_refl _
 | n + 1, d, x => by
  unfold DS.listGo
  split
  ·exact Nat.le_add_right _ _
  split
  ·show len (part d x).2 ≤ _
   rw [hl]; omega
  ·have := listGo_many (s := s) he len hl n ((((part d x).1.skip s).want s 44).skip s) (part d x).2
   rw [hl] at this
   omega
theorem strGo_len {s : ByteArray} : ∀ (n : Nat) (d : DS) (out : ByteArray), (d.strGo s n out).1.size ≤ out.size + n
 | 0, _, _ => Nat.le_refl _
 | n + 1, d, out => by
  unfold DS.strGo
  split
  ·exact Nat.le_add_right _ _
  split
  ·exact Nat.le_add_right _ _
  split
  ·have := strGo_len (s := s) n (d.fail 5 d.pl) out; omega
  split
  ·have := strGo_len (s := s) n ((d.go (d.pl + 1)).escape s).2 (out ++ bOne ((d.go (d.pl + 1)).escape s).1)
   rw [snoc_size] at this
   omega
  ·have := strGo_len (s := s) n (d.go (d.pl + 1)) (out ++ bOne (bAt s d.pl))
   rw [snoc_size] at this
   omega
theorem strD_len {s : ByteArray} (d : DS) : (d.str s).1.size ≤ s.size + 2 := by
 have := strGo_len (s := s) (s.size + 2) (d.want s 34) ByteArray.empty
 unfold DS.str
 simpa using this
theorem listO_keys {s : ByteArray} {rd : DS → V × DS} : ∀ (n : Nat) (d : DS) (x : List ByteArray × List V), (∀ k ∈ x.1, k.size ≤ s.size + 2) → ∀ k ∈ (DS.listGo s (memP s rd) 125 n d x).2.1, k.size ≤ s.size + 2
 | 0, _, _, h => h
 | n + 1, d, x, h => by
  have hm : ∀ k ∈ (memP s rd d x).2.1, k.size ≤ s.size + 2 := by
   unfold memP
   intro k hk
   rcases List.mem_append.1 hk with hk | hk
   ·exact h k hk
   ·rw [List.mem_singleton.1 hk]; exact strD_len d
  unfold DS.listGo
  split
  ·exact h
  split
  ·exact hm
  ·exact listO_keys n _ _ hm
theorem objD_ac (s : ByteArray) (hs : s.size ≤ 100000) (rd : DS → V × DS) (d : DS) : AC Tryz.prog 146 [.c (.sl ((DS.list s (memP s rd) 125 d ([], [])).2.1.map strCs)), .c (.sl ((DS.list s (memP s rd) 125 d ([], [])).2.2.map V.cs))] [] (objV (DS.list s (memP s rd) 125 d ([], [])).2.1 (DS.list s (memP s rd) 125 d ([], [])).2.2).av [] := by
 have h : (DS.list s (memP s rd) 125 d ([], [])).2.1.length = (DS.list s (memP s rd) 125 d ([], [])).2.2.length ∧ (DS.list s (memP s rd) 125 d ([], [])).2.1.length ≤ s.size + 1 ∧ ∀ k ∈ (DS.list s (memP s rd) 125 d ([], [])).2.1, k.size ≤ s.size + 2 := by
  unfold DS.list
  split
  ·exact ⟨rfl, Nat.zero_le _, by simp⟩
  ·refine ⟨listO_len _ _ _ rfl, ?_, listO_keys _ _ _ (by simp)⟩
   have := listGo_many (s := s) (part := memP s rd) (e := 125) (by decide) (fun x => x.1.length) (fun d x => by unfold memP; simp) (s.size + 1) (d.skip s) ([], [])
   simpa using this
 have h2 := object_ac _ _ h.1 (by omega) (fun k hk => by have := h.2.2 k hk; omega)
 rw [object_av] at h2
 exact h2
end Go.Proofs.YtlciedpfjhkkdaaGreatDoor
