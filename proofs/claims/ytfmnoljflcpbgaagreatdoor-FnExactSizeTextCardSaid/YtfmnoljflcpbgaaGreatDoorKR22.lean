/- spec.l15Pretty at every right value. -/
import Derived.Test.YtfmnoljflcpbgaaGreatDoorKR21
import Derived.Test.YtfmnoljflcpbgaaGreatDoorKG15uG30
set_option linter.unusedSimpArgs false
set_option linter.unusedVariables false
set_option linter.unnecessarySimpa false
namespace Go.Proofs.YtfmnoljflcpbgaaGreatDoor
open Go.RowKit
set_option maxRecDepth 10000
/-- What stands behind the first k parts, as the reference writes it. -/
def outP (t : V) (d a k : Nat) : ByteArray := if k = 0 then ByteArray.empty else lnB a ++ joinS (bS 44 ++ lnB a) ((t.pparts d a).take k)
theorem outP_next {t : V} {d a k : Nat} (hk : k < t.kids.length) : outP t d a (k + 1) = if k = 0 then lnB a ++ t.ppart d a k t.kids[k] else outP t d a k ++ bS 44 ++ lnB a ++ t.ppart d a k t.kids[k] := by
  unfold outP
  rw [if_neg (by omega), joinS_next _ (by rw [pparts_len]; exact hk), pparts_at t d a hk]
  split
  · rfl
  · simp only [ByteArray.append_assoc]
theorem pre_size' {d : Nat} (hd : d ≤ 8) {t : V} {a : Nat} (hr : t.right) (h : a + d * t.depth ≤ 168) : (t.pre d a).size ≤ 140000 := by
  have h1 := pre_size hd _ t a (Nat.le_refl _) hr h
  have := hr.2.1
  omega
theorem kid_deep {d a : Nat} {t x : V} (hx : x ∈ t.kids) (h : a + d * t.depth ≤ 168) : a + d + d * x.depth ≤ 168 := by
  have h0 := depth_kids t
  have h1 := depthL_mem hx
  have h2 : d * (x.depth + 1) ≤ d * t.depth := Nat.mul_le_mul_left _ (by omega)
  rw [Nat.mul_add] at h2
  omega
theorem outP_size {d : Nat} (hd : d ≤ 8) {t : V} {a : Nat} (hr : t.right) (h : a + d * t.depth ≤ 168) {k : Nat} (hk : k ≤ t.kids.length) : (outP t d (a + d) k).size ≤ 141000 := by
  have hdk := depth_kids t
  have hda' : a + d ≤ 168 := by
    have : d * 1 ≤ d * t.depth := Nat.mul_le_mul_left _ (by omega)
    omega
  have h1 := pparts_sum (d := d) hda' hr (fun x hx => pre_size hd _ x (a + d) (Nat.le_refl _) (right_mem hr hx) (kid_deep hx h)) k hk
  have h2 := count_kids t
  have := hr.2.1
  unfold outP
  split
  · simp
  · rw [ByteArray.size_append, lnB_size]; omega
theorem leaf_of {t : V} (h : t.kids.isEmpty = true) : t.kids = [] := by simpa using h
set_option maxHeartbeats 8000000 in
theorem specPre_ac (d : Nat) (hd : d ≤ 8) : ∀ (n : Nat) (t : V) (deep : Nat), t.count ≤ n → t.right → deep + t.depth ≤ 20 → AC Tryz.prog 51 [cellsA t.enc, .c (.int .i64 d), .c (.int .i64 deep)] [] (.c (.str (t.pre d (d * deep)))) [] := by
  intro n
  induction n with
  | zero => intro t deep hn _; have := count_pos t; omega
  | succ n ih =>
    intro t deep hn ht hdp
    have hda : d * deep + d * t.depth ≤ 168 := by
      have h1 : d * (deep + t.depth) ≤ 8 * 20 := Nat.mul_le_mul hd hdp
      rw [Nat.mul_add] at h1
      omega
    have hlf := l15Leaf_ac t
    have he := encode_ac _ t (Nat.le_refl _) ht
    cases hle : t.kids.isEmpty with
    | true =>
      rw [hle] at hlf
      have hk := leaf_of hle
      rw [pre_leaf d (d * deep) hk]
      refine wEnter Tryz.func51 Tryz.ntmps51 ?_
      refine wRUN trivial ?_
      refine w7 (op_data [] hlf) trivial ?_
      refine wRUN hle ?_
      refine w7 (op_data [] he) trivial ?_
      refine wRUN trivial ?_
      exact wRet (ret_data []) Tryz.results51
    | false =>
      rw [hle] at hlf
      have hk : t.kids ≠ [] := by intro e; rw [e] at hle; simp at hle
      have hkp : 0 < t.kids.length := List.length_pos_iff.2 hk
      have ra := enc_rows t
      have ga := enc_head t
      have hp := l1Parts_ac ht.1 ht.2.1
      have hq := l1Keys_ac ht.1 ht.2.1
      have hkl := kids_len_le ht.2.1
      have hlp : ((t.kids.map V.enc).map encCs).length = t.kids.length := by simp
      have h0 : outP t d (d * deep + d) 0 = ByteArray.empty := rfl
      have hdd : d * (deep + 1) = d * deep + d := Nat.mul_succ d deep
      have hdk := depth_kids t
      have hda' : d * deep + d ≤ 168 := by
        have : d * 1 ≤ d * t.depth := Nat.mul_le_mul_left _ (by omega)
        omega
      have hw1 : IntKind.i64.wrap ((deep : Int) + 1) = ((deep + 1 : Nat) : Int) := by rw [IntWalk.i64_in _ (by omega)]; simp
      have hw2 : IntKind.i64.wrap ((d : Int) * ((deep + 1 : Nat) : Int)) = ((d * deep + d : Nat) : Int) := by
        have e : (d : Int) * ((deep + 1 : Nat) : Int) = ((d * (deep + 1) : Nat) : Int) := by simp
        rw [e, hdd, IntWalk.i64_in _ (by omega)]
      have hw3 : IntKind.i64.wrap ((d : Int) * (deep : Int)) = ((d * deep : Nat) : Int) := by
        have e : (d : Int) * (deep : Int) = ((d * deep : Nat) : Int) := by simp
        rw [e, IntWalk.i64_in _ (by omega)]
      have hli := line_ac (d * deep + d) (by omega)
      have hli2 := line_ac (d * deep) (by omega)
      have hls := lnB_size (d * deep + d)
      have hls2 := lnB_size (d * deep)
      refine wEnter Tryz.func51 Tryz.ntmps51 ?_
      refine wRUN trivial ?_
      refine w7 (op_data [] hlf) trivial ?_
      refine wRUN hle ?_
      refine w9 (op_shared [] hp) trivial ?_
      refine wRUN trivial ?_
      refine w9 (op_shared [] hq) trivial ?_
      refine wRUN trivial ?_
      refine a_loop (κ := Nat) (fun k => ⟨mkS 0 76 [(0, cellsA t.enc), (1, .c (.int .i64 d)), (2, .c (.int .i64 deep)), (7, .c (.sl ((t.kids.map V.enc).map encCs))), (8, .c (.sl ((keysOf t t.kids.length).map strCs))), (9, .c (.str (outP t d (d * deep + d) k))), (10, .c (.int .i64 k))], []⟩)
        (fun k => k ≤ t.kids.length) (fun k => t.kids.length - k) 0 (Nat.zero_le _) ?_ ?_
      · exact wSays (Says.of [] []) h0
      · intro k hk1
        have hz := outP_size hd ht hda hk1
        by_cases hlt : k < t.kids.length
        · have hdk1 : decide ((k : Int) < (t.kids.length : Int)) = true := by simpa using hlt
          have hw := wrap_succ (k := k) (by omega)
          have hg : ((t.kids.map V.enc).map encCs)[k]? = some [.sl (t.kids[k].enc.map CellD.cs)] := by simp [hlt, encCs]
          have hra : rowsAt ((t.kids.map V.enc).map encCs) 1 k = true := by simp [rowsAt, hlt, encCs]
          have hgk : ((keysOf t t.kids.length).map strCs)[k]? = some [.str (t.keyAt k)] := by simp [keysOf, hlt, strCs]
          have hrk : rowsAt ((keysOf t t.kids.length).map strCs) 1 k = true := by simp [rowsAt, keysOf, hlt, strCs]
          have hks := right_keyAt ht k
          have hes := encS_size hks
          have hqk := quote_ac (t.keyAt k) (by omega)
          have hmem : t.kids[k] ∈ t.kids := List.getElem_mem hlt
          have hcm := countL_mem hmem
          have hck := count_kids t
          have hkd := kid_deep hmem hda
          have hxs := pre_size' hd (right_mem ht hmem) hkd
          have hrec := ih t.kids[k] (deep + 1) (by omega) (right_mem ht hmem) (by have h9 := depthL_mem hmem; omega)
          rw [hdd] at hrec
          have hnx := outP_next (d := d) (a := d * deep + d) hlt
          unfold V.ppart at hnx
          generalize t.kids[k] = x at *
          generalize t.keyAt k = key at *
          generalize hu0 : outP t d (d * deep + d) k = u0 at *
          have key1 : ∀ u1 : ByteArray, u1.size ≤ 142000 → u1.size + (lnB (d * deep + d)).size ≤ 9223372036854775807 ∧ (u1 ++ lnB (d * deep + d)).size + (encS key).size ≤ 9223372036854775807 ∧ (u1 ++ lnB (d * deep + d) ++ encS key).size + 2 ≤ 9223372036854775807 ∧ (u1 ++ lnB (d * deep + d) ++ encS key ++ ⟨#[58, 32]⟩).size + (x.pre d (d * deep + d)).size ≤ 9223372036854775807 ∧ (u1 ++ lnB (d * deep + d)).size + (x.pre d (d * deep + d)).size ≤ 9223372036854775807 := by
            intro u1 h1
            simp only [ByteArray.size_append, two_size]
            omega
          rcases Nat.eq_zero_or_pos k with hk0 | hk0
          · subst hk0
            have hgt : decide (((0 : Nat) : Int) > 0) = false := by simp
            rw [if_pos rfl] at hnx
            have hu00 : u0 = ByteArray.empty := by rw [← hu0]; rfl
            subst hu00
            obtain ⟨x0, x1, x2, x3, x4⟩ := key1 ByteArray.empty (by simp)
            by_cases h6 : t.kind = 6
            · have b6 : (t.kind == 6) = true := by simp [h6]
              rw [if_pos h6] at hnx
              have hy : ByteArray.empty ++ lnB (d * deep + d) ++ encS key ++ ⟨#[58, 32]⟩ ++ x.pre d (d * deep + d) = outP t d (d * deep + d) (0 + 1) := by rw [hnx] <;> simp only [ByteArray.append_assoc, ByteArray.empty_append]
              generalize hv0 : ByteArray.empty ++ lnB (d * deep + d) = v0 at *
              generalize hv1 : v0 ++ encS key = v1 at *
              generalize hv2 : v1 ++ ⟨#[58, 32]⟩ = v2 at *
              refine wRUN (j5 hlp hdk1 hgt hw1 hw2) ?_
              refine w7 (op_data [] hli) trivial ?_
              refine wRUN (j7 x0 hv0 ra ga b6 hrk hgk) ?_
              refine w7 (op_data [] hqk) trivial ?_
              refine wRUN (j7 x1 hv1 x2 hv2 hra hg hw1) ?_
              refine w7 (op_data [] hrec) trivial ?_
              refine wRUN (j3 x3 hy hw) ?_
              refine ⟨0 + 1, by omega, by omega, ?_⟩
              exact wSays (Says.of [] []) trivial
            · have b6 : (t.kind == 6) = false := by simp [h6]
              rw [if_neg h6] at hnx
              have hy : ByteArray.empty ++ lnB (d * deep + d) ++ x.pre d (d * deep + d) = outP t d (d * deep + d) (0 + 1) := by rw [hnx] <;> simp only [ByteArray.append_assoc, ByteArray.empty_append]
              generalize hv0 : ByteArray.empty ++ lnB (d * deep + d) = v0 at *
              refine wRUN (j5 hlp hdk1 hgt hw1 hw2) ?_
              refine w7 (op_data [] hli) trivial ?_
              refine wRUN (j8 x0 hv0 ra ga b6 hra hg hw1) ?_
              refine w7 (op_data [] hrec) trivial ?_
              refine wRUN (j3 x4 hy hw) ?_
              refine ⟨0 + 1, by omega, by omega, ?_⟩
              exact wSays (Says.of [] []) trivial
          · have hgt : decide ((k : Int) > 0) = true := by simp; omega
            rw [if_neg (by omega)] at hnx
            have y0 : u0.size + 1 ≤ 9223372036854775807 := by omega
            have hu1s : (u0 ++ bS 44).size ≤ 142000 := by rw [ByteArray.size_append, one_size]; omega
            obtain ⟨x0, x1, x2, x3, x4⟩ := key1 (u0 ++ bS 44) hu1s
            generalize hu1 : u0 ++ bS 44 = u1 at *
            by_cases h6 : t.kind = 6
            · have b6 : (t.kind == 6) = true := by simp [h6]
              rw [if_pos h6] at hnx
              have hy : u1 ++ lnB (d * deep + d) ++ encS key ++ ⟨#[58, 32]⟩ ++ x.pre d (d * deep + d) = outP t d (d * deep + d) (k + 1) := by rw [hnx] <;> simp only [ByteArray.append_assoc]
              generalize hv0 : u1 ++ lnB (d * deep + d) = v0 at *
              generalize hv1 : v0 ++ encS key = v1 at *
              generalize hv2 : v1 ++ ⟨#[58, 32]⟩ = v2 at *
              refine wRUN (j7 hlp hdk1 hgt y0 hu1 hw1 hw2) ?_
              refine w7 (op_data [] hli) trivial ?_
              refine wRUN (j7 x0 hv0 ra ga b6 hrk hgk) ?_
              refine w7 (op_data [] hqk) trivial ?_
              refine wRUN (j7 x1 hv1 x2 hv2 hra hg hw1) ?_
              refine w7 (op_data [] hrec) trivial ?_
              refine wRUN (j3 x3 hy hw) ?_
              refine ⟨k + 1, by omega, by omega, ?_⟩
              exact wSays (Says.of [] []) trivial
            · have b6 : (t.kind == 6) = false := by simp [h6]
              rw [if_neg h6] at hnx
              have hy : u1 ++ lnB (d * deep + d) ++ x.pre d (d * deep + d) = outP t d (d * deep + d) (k + 1) := by rw [hnx] <;> simp only [ByteArray.append_assoc]
              generalize hv0 : u1 ++ lnB (d * deep + d) = v0 at *
              refine wRUN (j7 hlp hdk1 hgt y0 hu1 hw1 hw2) ?_
              refine w7 (op_data [] hli) trivial ?_
              refine wRUN (j8 x0 hv0 ra ga b6 hra hg hw1) ?_
              refine w7 (op_data [] hrec) trivial ?_
              refine wRUN (j3 x4 hy hw) ?_
              refine ⟨k + 1, by omega, by omega, ?_⟩
              exact wSays (Says.of [] []) trivial
        · have hdk1 : decide ((k : Int) < (t.kids.length : Int)) = false := by simpa using hlt
          obtain rfl : k = t.kids.length := by omega
          have hall : (t.pparts d (d * deep + d)).take t.kids.length = t.pparts d (d * deep + d) := List.take_of_length_le (Nat.le_of_eq (pparts_len _ _ _))
          have hoe : outP t d (d * deep + d) t.kids.length = lnB (d * deep + d) ++ joinS (bS 44 ++ lnB (d * deep + d)) (t.pparts d (d * deep + d)) := by unfold outP; rw [if_neg (by omega), hall]
          have hpn := pre_node d (d * deep) hk
          rw [← hoe] at hpn
          generalize outP t d (d * deep + d) t.kids.length = u0 at *
          have x0 : u0.size + (lnB (d * deep)).size ≤ 9223372036854775807 := by omega
          have x1 : 1 + (u0 ++ lnB (d * deep)).size ≤ 9223372036854775807 := by rw [ByteArray.size_append]; omega
          by_cases h5 : t.kind = 5
          · have b5 : (t.kind == 5) = true := by simp [h5]
            rw [if_pos h5, if_pos h5] at hpn
            have x2 : (bS 91 ++ (u0 ++ lnB (d * deep))).size + 1 ≤ 9223372036854775807 := by simp only [ByteArray.size_append, one_size]; omega
            generalize hv0 : u0 ++ lnB (d * deep) = v0 at *
            generalize hv1 : bS 91 ++ v0 = v1 at *
            have hpe := hpn.symm
            refine wRUN (j3 hlp hdk1 hw3) ?_
            refine w7 (op_data [] hli2) trivial ?_
            refine wRUN (j9 x0 hv0 ra ga b5 x1 hv1 x2 hpe) ?_
            exact wRetOf (ret_of [] []) Tryz.results51 hpe
          · have b5 : (t.kind == 5) = false := by simp [h5]
            rw [if_neg h5, if_neg h5] at hpn
            have x2 : (bS 123 ++ (u0 ++ lnB (d * deep))).size + 1 ≤ 9223372036854775807 := by simp only [ByteArray.size_append, one_size]; omega
            generalize hv0 : u0 ++ lnB (d * deep) = v0 at *
            generalize hv1 : bS 123 ++ v0 = v1 at *
            have hpe := hpn.symm
            refine wRUN (j3 hlp hdk1 hw3) ?_
            refine w7 (op_data [] hli2) trivial ?_
            refine wRUN (j9 x0 hv0 ra ga b5 x1 hv1 x2 hpe) ?_
            exact wRetOf (ret_of [] []) Tryz.results51 hpe
end Go.Proofs.YtfmnoljflcpbgaaGreatDoor
