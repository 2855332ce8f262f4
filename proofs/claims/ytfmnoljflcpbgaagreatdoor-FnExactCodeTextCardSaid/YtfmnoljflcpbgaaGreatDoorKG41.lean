/- slices.Repeat at one number. -/
import Derived.Test.YtfmnoljflcpbgaaGreatDoorKG14uR09
import Derived.Laws.CopyOwn
set_option linter.unusedSimpArgs false
set_option linter.unusedVariables false
set_option linter.unnecessarySimpa false
namespace Go.Proofs.YtfmnoljflcpbgaaGreatDoor
open Go.RowKit
set_option maxRecDepth 10000
set_option maxHeartbeats 1000000 in
theorem mul64_one (n : Nat) (h : n ≤ 1000000) (w : World) : Calls Tryz.prog 194 #[.int .u64 1, .int .u64 n] w fun e w' => e = .returned (.tuple #[.int .u64 0, .int .u64 n]) ∧ w' = w := by
  have k1 : bits .and .u64 (1 : Int) 4294967295 = 1 := by decide +kernel
  have k2 : bits .and .u64 (n : Int) 4294967295 = n := by
    have h := bits_and_u64_nat n 4294967295 (by omega) (by omega)
    have e : n &&& 4294967295 = n % 4294967296 := Nat.and_two_pow_sub_one_eq_mod n 32
    rw [e, Nat.mod_eq_of_lt (by omega)] at h
    exact h
  have k3 : bits .and .u64 (0 : Int) 4294967295 = 0 := by decide +kernel
  have d1 : (1 : Int) / 4294967296 = 0 := by decide
  have d2 : (n : Int) / 4294967296 = 0 := by omega
  have d3 : (0 : Int) / 4294967296 = 0 := by decide
  have w1 : IntKind.u64.wrap (n : Int) = n := by rw [IntKind.wrap_u64]; omega
  have w0 : IntKind.u64.wrap (0 : Int) = 0 := by decide
  go_enter Tryz.func194, Tryz.ntmps194
  go_wp2
  go_ret2
  exact ⟨rfl, rfl⟩
set_option maxHeartbeats 1000000 in
theorem mul_one (n : Nat) (h : n ≤ 1000000) (w : World) : Calls Tryz.prog 158 #[.int .u64 1, .int .u64 n] w fun e w' => e = .returned (.tuple #[.int .u64 0, .int .u64 n]) ∧ w' = w := by
  have HT := Lib.hid (mul64_one n h)
  go_enter Tryz.func158, Tryz.ntmps158
  go_wp2_with (go_at_call 194; refine (HT.out _).mono ?_; rintro e w' ⟨rfl, rfl⟩)
  go_ret2
  exact ⟨rfl, rfl⟩
def curR (x : Int) (n m : Nat) : List Value := List.replicate m (.int .i64 x) ++ List.replicate (n - m) (.int .i64 0)
theorem curR_len {x : Int} {n m : Nat} (h : m ≤ n) : (curR x n m).length = n := by simp [curR]; omega
theorem curR_splice {x : Int} {n m c : Nat} (h : m + c ≤ n) : splice (curR x n m) m (List.replicate c (.int .i64 x)) = curR x n (m + c) := by
  unfold splice curR
  have h1 : (List.replicate m (Value.int .i64 x) ++ List.replicate (n - m) (Value.int .i64 0)).take m = List.replicate m (Value.int .i64 x) := List.take_left' (by simp)
  have h2 : (List.replicate m (Value.int .i64 x) ++ List.replicate (n - m) (Value.int .i64 0)).drop (m + (List.replicate c (Value.int .i64 x)).length) = List.replicate (n - (m + c)) (Value.int .i64 0) := by
    rw [List.drop_append, List.drop_eq_nil_of_le (by simp), List.nil_append, List.drop_replicate]
    simp only [List.length_replicate]
    congr 1
    omega
  rw [h1, h2, ← List.append_assoc, List.replicate_append_replicate]
/-- A row of the call's own, whole. -/
theorem whole_row {w : World} {base g n : Nat} {e : TypeId} {cs : List Value} (h : w.ownsRow base e 1 (.slice (some ⟨g, 0, none⟩) n n) n cs) : w.heap[g]? = some (.cells cs.toArray e (0, 0)) := by
  obtain ⟨h1, h⟩ := h
  rcases h with ⟨h, _⟩ | ⟨g', cap', cur, h, _, hh, _, _, hs, ht⟩
  · simp at h
  · simp only [Value.slice.injEq, Option.some.injEq, Addr.mk.injEq, and_true] at h
    obtain ⟨rfl, _, rfl⟩ := h
    rw [hh]
    have : cur = cs.toArray := by
      rw [← ht, List.take_of_length_le (by simp [hs])]
    rw [this]
theorem made_whole (x : Int) {w : World} {base g n : Nat} {e : TypeId} (h : w.ownsRow base e 1 (.slice (some ⟨g, 0, none⟩) n n) n (madeCells (Value.int .i64 0).cells (n * 1)).toList) : w.heap[g]? = some (.cells (curR x n 0).toArray e (0, 0)) := by
  rw [whole_row h]
  have e1 : (madeCells (Value.int .i64 0).cells (n * 1)).toList = curR x n 0 := by
    have h2 := made_flatten [Value.int .i64 0] (by decide) n
    simp only [curR, List.replicate_zero, List.nil_append, Nat.sub_zero]
    exact h2.trans List.flatten_replicate_singleton
  rw [e1]
theorem made_below {w w' : World} (h : w.grownBy w' none) : Below w.heap.size w w' := (Below.refl _ _).grown h (Nat.le_refl _) (by simp)
theorem made_cell {w w' : World} (h : w.grownBy w' none) {b off : Nat} {v : Value} (hb : b < w.heap.size) (hc : w.cell? ⟨b, off, none⟩ = some v) : w'.cell? ⟨b, off, none⟩ = some v := by rw [World.cell?_of_block (h.block b hb (by simp))]; exact hc
theorem one_src {w : World} {b off : Nat} {v : Value} (hc : w.cell? ⟨b, off, none⟩ = some v) : ∀ (j : Nat) (u : Value), [v][j]? = some u → w.cell? ((⟨b, off, none⟩ : Addr).add j) = some u := by
  intro j u h
  match j, h with
  | 0, h =>
    have : v = u := by simpa using h
    subst this
    exact hc
  | j + 1, h => simp at h
theorem cur_src {x : Int} {n m g : Nat} {e : TypeId} {w : World} (h : w.heap[g]? = some (.cells (curR x n m).toArray e (0, 0))) : ∀ (j : Nat) (u : Value), (List.replicate (min m (n - m)) (Value.int .i64 x))[j]? = some u → w.cell? ((⟨g, 0, none⟩ : Addr).add j) = some u := by
  intro j u hu
  have hj : j < min m (n - m) := by
    rw [List.getElem?_replicate] at hu
    by_cases hj : j < min m (n - m)
    · exact hj
    · rw [if_neg hj] at hu; cases hu
  rw [List.getElem?_replicate, if_pos hj] at hu
  cases hu
  have ha : (⟨g, 0, none⟩ : Addr).add j = ⟨g, j, none⟩ := by
    unfold Addr.add
    split
    · rename_i h0; simp [h0]
    · simp
  rw [ha]
  simp only [World.cell?, h, Option.isSome_none, Bool.false_eq_true, if_false]
  have : (curR x n m)[j]? = some (.int .i64 x) := by
    unfold curR
    rw [List.getElem?_append_left (by simp; omega), List.getElem?_replicate, if_pos (by omega)]
  simpa using this
set_option maxHeartbeats 4000000 in
theorem repeat_any (x : Int) (n : Nat) (h1 : 1 ≤ n) (h : n ≤ 1000000) (b off cap : Nat) (w : World) (hc : w.cell? ⟨b, off, none⟩ = some (.int .i64 x)) (hbl : b < w.heap.size) :
    Calls Tryz.prog 165 #[.slice (some ⟨b, off, none⟩) 1 cap, .int .i64 n] w fun e w' => Below w.heap.size w w' ∧ ∃ v, e = .returned v ∧ w'.ownsRow w.heap.size 2 1 v n (curR x n n) := by
  have HT := Lib.hid (mul_one n h)
  have w1 : IntKind.u64.wrap (n : Int) = n := by rw [IntKind.wrap_u64]; omega
  have w2 : IntKind.i64.wrap (n : Int) = n := wrap_in (by omega) (by omega)
  have g0 : decide ((n : Int) < 0) = false := by simp
  have g1 : decide ((n : Int) > 9223372036854775807) = false := by simp; omega
  have HC := Lib.hid hc
  have ii : (Tryz.prog.info? 2).map (fun i => (i.zero, i.size, i.bytes)) = some (some (.int .i64 0), 1, 8) := by kernel_rfl
  obtain ⟨i0, hi, hz0, hz1, hz2⟩ := info_parts ii
  have hby : i0.bytes * n ≤ 281474976710656 := by rw [hz2]; omega
  have hsz : (Tryz.prog.info? 2).map (·.size) = some 1 := by kernel_rfl
  have hn1 := Lib.hid (show [Value.int .i64 x].length = Nat.min 1 n by show 1 = min 1 n; omega)
  have hf1 := Lib.hid (show 0 + [Value.int .i64 x].length ≤ (curR x n 0).length by rw [curR_len (Nat.zero_le _)]; simpa using h1)
  have ho1 := Lib.hid (show ∀ v ∈ [Value.int .i64 x], v.oneCell' = true by simp [Value.oneCell'])
  clear hc ii
  go_enter Tryz.func165, Tryz.ntmps165
  go_wp2_with (first
    | (go_at_call 158; refine (HT.out _).mono ?_; rintro e w' ⟨rfl, hww⟩; rw [hww])
    | (at_make; refine wpList_make_full _ rfl _ _ 135 rfl w.heap.size 2 i0 _ 1 Tryz.underlying135 hi hz0 hz1 .i64 .i64 _ _ n rfl rfl rfl rfl hby (by simp only [maxLen]; omega) (Nat.le_refl _) ?_; intro w1 hown1 hg1; have HW0 := Lib.hid (made_whole x hown1); have HB1 := Lib.hid (made_below hg1); have HC1 := Lib.hid (made_cell hg1 hbl HC.out); clear hown1 hg1)
    | (with_reducible refine wpList_copy_splice (o := ⟨some 33, _, _, _, _, _⟩) rfl (.tmp 31) (.tmp 32) 135 135 rfl 2 Tryz.underlying135 hsz (some ⟨w.heap.size, 0, none⟩) (some ⟨b, off, none⟩) n n 1 cap rfl rfl w.heap.size 0 (curR x n 0) 2 HW0.out [.int .i64 x] hn1.out (fun _ => ⟨rfl, _, rfl, one_src HC1.out⟩) hf1.out ho1.out w.heap.size w HB1.out (Nat.le_refl _) ?_; intro w2 HW2 hb2; have HB2 := Lib.hid hb2; clear hb2 HW0 HB1 HC1))
  have hst : splice (curR x n 0) 0 [Value.int .i64 x] = curR x n 1 := curR_splice (x := x) (n := n) (m := 0) (c := 1) (by omega)
  rw [hst] at HW2
  have HW2' := Lib.hid HW2.out
  clear HW2 hst
  go_loopw [8] (fun mi wr => ∃ m : Nat, mi = .int .i64 m ∧ 1 ≤ m ∧ m ≤ n ∧ wr.heap[w.heap.size]? = some (.cells (curR x n m).toArray 2 (0, 0)) ∧ Below w.heap.size w wr) (fun mi _ => n - (intOf mi).toNat)
  case atStart => exact ⟨1, rfl, Nat.le_refl _, h1, HW2'.out, HB2.out⟩
  case round =>
    obtain ⟨m, rfl, hm1, hm, hw, hb⟩ := hrel
    by_cases hlt : m < n
    · have hcl : (List.replicate (min m (n - m)) (Value.int .i64 x)).length = Nat.min m (n - m) := by simp
      have hp0 : (0 : Int) ≤ (m : Int) := by omega
      have hp1 : (m : Int) ≤ (n : Int) := by omega
      have hmt : decide ((m : Int) < (n : Int)) = true := by simpa using hlt
      have HL := Lib.hid hcl
      have HF := Lib.hid (show m + (List.replicate (min m (n - m)) (Value.int .i64 x)).length ≤ (curR x n m).length by rw [curR_len hm, List.length_replicate]; omega)
      have HO := Lib.hid (show ∀ v ∈ List.replicate (min m (n - m)) (Value.int .i64 x), v.oneCell' = true by intro v hv; rw [List.mem_replicate] at hv; rw [hv.2]; rfl)
      have HB := Lib.hid hb
      have HW := Lib.hid hw
      have HS := Lib.hid (cur_src (x := x) (n := n) (m := m) hw)
      clear hcl hb hw
      go_wp2_with fail
      go_region_law (refine step_copy_splice rfl (.tmp 41) (.tmp 44) 135 135 rfl 2 Tryz.underlying135 hsz (some ⟨w.heap.size, m, none⟩) (some ⟨w.heap.size, 0, none⟩) (n - m) (n - m) m n (by simp [Act.eval, Act.put]; omega) (by simp [Act.eval, Act.put]) w.heap.size m (curR x n m) 2 HW.out (List.replicate (min m (n - m)) (.int .i64 x)) HL.out (fun _ => ⟨rfl, _, rfl, HS.out⟩) HF.out HO.out w.heap.size w HB.out.drew (Nat.le_refl _) ?_; intro w4 hg4 hb4)
      have HB4 := Lib.hid hb4
      clear hb4
      have hwm : IntKind.i64.wrap ((m : Int) + ((min m (n - m) : Nat) : Int)) = ((m + min m (n - m) : Nat) : Int) := by rw [← Int.natCast_add]; exact wrap_in (by omega) (by omega)
      go_wp2
      all_goals go_roundw
      case rel =>
        have h4 := hg4.out
        rw [curR_splice (by omega)] at h4
        exact ⟨m + min m (n - m), by go_num, by omega, by omega, h4, HB4.out⟩
      case measure => simp [intOf]; omega
    · have hmn : m = n := by omega
      subst hmn
      have HB := Lib.hid hb
      have HW := Lib.hid hw
      clear hb hw
      go_wp2
      go_ret
      refine ⟨HB.out, _, rfl, by rw [curR_len (Nat.le_refl _)]; omega, .inr ⟨w.heap.size, m, _, rfl, Nat.le_refl _, HW.out, Nat.le_refl _, by simp only [maxLen]; omega, by simp [curR_len], ?_⟩⟩
      simp only [List.toList_toArray, Nat.mul_one]
      exact List.take_of_length_le (by rw [curR_len (Nat.le_refl _)]; exact Nat.le_refl _)
theorem curR_full (x : Int) (n : Nat) : curR x n n = (List.replicate n [Value.int .i64 x]).flatten := by
  rw [List.flatten_replicate_singleton]
  simp [curR]
theorem closed_rep (x : Int) : ∀ (n : Nat), closedLL (List.replicate n [C.int .i64 x]) = true
  | 0 => rfl
  | n + 1 => by rw [List.replicate_succ, closedLL, closed_rep x n]; rfl
theorem crss_rep {w : World} {S : Nat → Prop} (x : Int) : ∀ (n : Nat), CRss w S (List.replicate n [C.int .i64 x]) (List.replicate n [Value.int .i64 x]) []
  | 0 => ⟨rfl, rfl⟩
  | n + 1 => by
    rw [List.replicate_succ, List.replicate_succ]
    exact ⟨_, _, [], [], rfl, rfl, ⟨_, _, [], [], rfl, rfl, ⟨rfl, rfl⟩, rfl, rfl⟩, crss_rep x n⟩
theorem repeat_ac (x : Int) (n : Nat) (h : 1 ≤ n ∧ n ≤ 1000000) : AC Tryz.prog 165 [.c (.sl [[.int .i64 x]]), .c (.int .i64 n)] [] (.own (0, 0)) [((0, 0), .row false 1 2 (List.replicate n [.int .i64 x]))] := by
  refine AC.of_row (closed_rep x n) fun S w κ vs hv => ?_
  obtain ⟨v, vs', rfl, h1, v2, vs2, rfl, ⟨rfl, _⟩, rfl⟩ := hv
  obtain ⟨es, A, cap, vrows, rfl, h2, _, h4, h5, _⟩ := h1
  have hx : vrows = [[Value.int .i64 x]] := by
    simp only [CRss, CRs, CR] at h5
    obtain ⟨_, _, _, _, rfl, _, ⟨_, _, _, _, rfl, _, ⟨rfl, _⟩, rfl, _⟩, rfl, _⟩ := h5
    rfl
  subst hx
  have h6 := h4.1 [Value.int .i64 x] (by simp)
  obtain ⟨b, off, rfl, _, hb, hc⟩ := h4.2 (by simp)
  have hc0 := hc 0 _ rfl 0 _ rfl
  rw [Nat.zero_mul, Nat.add_zero] at hc0
  refine (repeat_any x n h.1 h.2 b off cap w hc0 hb).mono ?_
  rintro e1 w' ⟨hbw, u, rfl, hu⟩
  rw [curR_full] at hu
  refine ⟨hbw, u, List.replicate n [Value.int .i64 x], rfl, crss_rep x n, fun r hr => by rw [List.mem_replicate] at hr; rw [hr.2]; rfl, ?_⟩
  rw [List.length_replicate]
  exact hu
end Go.Proofs.YtfmnoljflcpbgaaGreatDoor
