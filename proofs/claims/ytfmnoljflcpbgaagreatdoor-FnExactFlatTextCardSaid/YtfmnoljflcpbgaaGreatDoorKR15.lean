/- spec.l2Encode at every right value. -/
import Derived.Test.YtfmnoljflcpbgaaGreatDoorKR14
import Derived.Test.YtfmnoljflcpbgaaGreatDoorKG07
set_option linter.unusedSimpArgs false
set_option linter.unusedVariables false
set_option linter.unnecessarySimpa false
namespace Go.Proofs.YtfmnoljflcpbgaaGreatDoor
open Go.RowKit
set_option maxRecDepth 10000
/-- What stands behind the first k parts, as the reference writes it. -/
theorem out_next {t : V} {k : Nat} (hk : k < t.kids.length) : joinS (bS 44) (t.parts.take (k + 1)) = if k = 0 then t.part k t.kids[k] else joinS (bS 44) (t.parts.take k) ++ bS 44 ++ t.part k t.kids[k] := by
  rw [joinS_next (bS 44) (by rw [parts_len]; exact hk), parts_at t hk]
theorem out_zero (t : V) : joinS (bS 44) (t.parts.take 0) = ByteArray.empty := by simp [joinS]
set_option maxHeartbeats 8000000 in
theorem encode_ac : ∀ (n : Nat) (t : V), t.count ≤ n → t.right → AC Tryz.prog 44 [cellsA t.enc] [] (.c (.str t.txt)) [] := by
  intro n
  induction n with
  | zero => intro t hn _; have := count_pos t; omega
  | succ n ih =>
    intro t hn ht
    have ra := enc_rows t
    have ga := enc_head t
    have hk := right_kind ht
    have hnum := right_num ht
    have hs := okText_size (right_text ht)
    have hcase : t.kind = 0 ∨ t.kind = 1 ∨ t.kind = 2 ∨ t.kind = 3 ∨ t.kind = 4 ∨ (t.kind = 5 ∨ t.kind = 6) := by omega
    rcases hcase with h | h | h | h | h | h
    · have b0 : (t.kind == 0) = true := by simp [h]
      rw [txt_null h]; unfold nullS
      refine wEnter Tryz.func44 Tryz.ntmps44 ?_
      refine wRUN (j3 ra ga b0) ?_
      exact wRet (ret_data []) Tryz.results44
    · have b0 : (t.kind == 0) = false := by simp [h]
      have b1 : (t.kind == 1) = true := by simp [h]
      rw [txt_false h]; unfold falseS
      refine wEnter Tryz.func44 Tryz.ntmps44 ?_
      refine wRUN (j4 ra ga b0 b1) ?_
      exact wRet (ret_data []) Tryz.results44
    · have b0 : (t.kind == 0) = false := by simp [h]
      have b1 : (t.kind == 1) = false := by simp [h]
      have b2 : (t.kind == 2) = true := by simp [h]
      rw [txt_true h]; unfold trueS
      refine wEnter Tryz.func44 Tryz.ntmps44 ?_
      refine wRUN (j5 ra ga b0 b1 b2) ?_
      exact wRet (ret_data []) Tryz.results44
    · have b0 : (t.kind == 0) = false := by simp [h]
      have b1 : (t.kind == 1) = false := by simp [h]
      have b2 : (t.kind == 2) = false := by simp [h]
      have b3 : (t.kind == 3) = true := by simp [h]
      have h1 := decimal_ac t.num (by omega) (by omega)
      rw [txt_num h]
      refine wEnter Tryz.func44 Tryz.ntmps44 ?_
      refine wRUN (j6 ra ga b0 b1 b2 b3) ?_
      refine w7 (op_data [] h1) trivial ?_
      refine wRUN trivial ?_
      exact wRet (ret_data []) Tryz.results44
    · have b0 : (t.kind == 0) = false := by simp [h]
      have b1 : (t.kind == 1) = false := by simp [h]
      have b2 : (t.kind == 2) = false := by simp [h]
      have b3 : (t.kind == 3) = false := by simp [h]
      have b4 : (t.kind == 4) = true := by simp [h]
      have h1 := quote_ac t.text (by omega)
      rw [txt_str h]
      refine wEnter Tryz.func44 Tryz.ntmps44 ?_
      refine wRUN (j7 ra ga b0 b1 b2 b3 b4) ?_
      refine w7 (op_data [] h1) trivial ?_
      refine wRUN trivial ?_
      exact wRet (ret_data []) Tryz.results44
    · have b0 : (t.kind == 0) = false := by simp; omega
      have b1 : (t.kind == 1) = false := by simp; omega
      have b2 : (t.kind == 2) = false := by simp; omega
      have b3 : (t.kind == 3) = false := by simp; omega
      have b4 : (t.kind == 4) = false := by simp; omega
      have hp := l1Parts_ac ht.1 ht.2.1
      have hq := l1Keys_ac ht.1 ht.2.1
      have hkl := kids_len_le ht.2.1
      have hlp : ((t.kids.map V.enc).map encCs).length = t.kids.length := by simp
      have h0 := out_zero t
      refine wEnter Tryz.func44 Tryz.ntmps44 ?_
      refine wRUN (j7 ra ga b0 b1 b2 b3 b4) ?_
      refine w9 (op_shared [] hp) trivial ?_
      refine wRUN trivial ?_
      refine w9 (op_shared [] hq) trivial ?_
      refine wRUN trivial ?_
      refine a_loop (κ := Nat) (fun k => ⟨mkS 0 76 [(0, cellsA t.enc), (3, .c (.sl ((t.kids.map V.enc).map encCs))), (4, .c (.sl ((keysOf t t.kids.length).map strCs))), (5, .c (.str (joinS (bS 44) (t.parts.take k)))), (6, .c (.int .i64 k))], []⟩)
        (fun k => k ≤ t.kids.length) (fun k => t.kids.length - k) 0 (Nat.zero_le _) ?_ ?_
      · exact wSays (Says.of [] []) h0
      · intro k hk1
        have hz := join_size ht hk1
        by_cases hlt : k < t.kids.length
        · have hdk : decide ((k : Int) < (t.kids.length : Int)) = true := by simpa using hlt
          have hw := wrap_succ (k := k) (by omega)
          have hg : ((t.kids.map V.enc).map encCs)[k]? = some [.sl (t.kids[k].enc.map CellD.cs)] := by simp [hlt, encCs]
          have hra : rowsAt ((t.kids.map V.enc).map encCs) 1 k = true := by simp [rowsAt, hlt, encCs]
          have hgk : ((keysOf t t.kids.length).map strCs)[k]? = some [.str (t.keyAt k)] := by simp [keysOf, hlt, strCs]
          have hrk : rowsAt ((keysOf t t.kids.length).map strCs) 1 k = true := by simp [rowsAt, keysOf, hlt, strCs]
          have hks := right_keyAt ht k
          have hes := encS_size hks
          have hqk := quote_ac (t.keyAt k) (by omega)
          have hmem : t.kids[k] ∈ t.kids := List.getElem_mem hlt
          have hcm := countL_mem hmem
          have hck := count_kids t
          have hxs := txt_size' (right_mem ht hmem)
          have he := ih t.kids[k] (by omega) (right_mem ht hmem)
          have hnx := out_next hlt
          unfold V.part at hnx
          generalize t.kids[k] = x at *
          generalize t.keyAt k = key at *
          generalize hu0 : joinS (bS 44) (t.parts.take k) = u0 at *
          have key1 : ∀ u1 : ByteArray, u1.size ≤ 60000 → u1.size + (encS key).size ≤ 9223372036854775807 ∧ (u1 ++ encS key).size + 1 ≤ 9223372036854775807 ∧ (u1 ++ encS key ++ bS 58).size + x.txt.size ≤ 9223372036854775807 ∧ u1.size + x.txt.size ≤ 9223372036854775807 := by
            intro u1 h1
            simp only [ByteArray.size_append, one_size]
            omega
          rcases Nat.eq_zero_or_pos k with hk0 | hk0
          · subst hk0
            have hgt : decide (((0 : Nat) : Int) > 0) = false := by simp
            rw [if_pos rfl] at hnx
            rw [out_zero] at hu0
            subst hu0
            obtain ⟨x1, x2, x3, x4⟩ := key1 ByteArray.empty (by simp)
            rcases h with h | h
            · have b6 : (t.kind == 6) = false := by simp [h]
              rw [if_neg (by omega)] at hnx
              have hy : ByteArray.empty ++ x.txt = joinS (bS 44) (t.parts.take (0 + 1)) := by rw [hnx, ByteArray.empty_append]
              refine wRUN (j8 hlp hdk hgt ra ga b6 hra hg) ?_
              refine w7 (op_data [] he) trivial ?_
              refine wRUN (j3 x4 hy hw) ?_
              refine ⟨0 + 1, by omega, by omega, ?_⟩
              exact wSays (Says.of [] []) trivial
            · have b6 : (t.kind == 6) = true := by simp [h]
              rw [if_pos h] at hnx
              have hy : ByteArray.empty ++ encS key ++ bS 58 ++ x.txt = joinS (bS 44) (t.parts.take (0 + 1)) := by rw [hnx, ByteArray.empty_append]
              generalize hv1 : ByteArray.empty ++ encS key = v1 at *
              generalize hv2 : v1 ++ bS 58 = v2 at *
              refine wRUN (j8 hlp hdk hgt ra ga b6 hrk hgk) ?_
              refine w7 (op_data [] hqk) trivial ?_
              refine wRUN (j6 x1 hv1 x2 hv2 hra hg) ?_
              refine w7 (op_data [] he) trivial ?_
              refine wRUN (j3 x3 hy hw) ?_
              refine ⟨0 + 1, by omega, by omega, ?_⟩
              exact wSays (Says.of [] []) trivial
          · have hgt : decide ((k : Int) > 0) = true := by simp; omega
            rw [if_neg (by omega)] at hnx
            have x0 : u0.size + 1 ≤ 9223372036854775807 := by omega
            have hu1s : (u0 ++ bS 44).size ≤ 60000 := by rw [ByteArray.size_append, one_size]; omega
            obtain ⟨x1, x2, x3, x4⟩ := key1 (u0 ++ bS 44) hu1s
            generalize hu1 : u0 ++ bS 44 = u1 at *
            rcases h with h | h
            · have b6 : (t.kind == 6) = false := by simp [h]
              rw [if_neg (by omega)] at hnx
              refine wRUN (j10 hlp hdk hgt x0 hu1 ra ga b6 hra hg) ?_
              refine w7 (op_data [] he) trivial ?_
              have hy := hnx.symm
              refine wRUN (j3 x4 hy hw) ?_
              refine ⟨k + 1, by omega, by omega, ?_⟩
              exact wSays (Says.of [] []) trivial
            · have b6 : (t.kind == 6) = true := by simp [h]
              rw [if_pos h] at hnx
              have hy : u1 ++ encS key ++ bS 58 ++ x.txt = joinS (bS 44) (t.parts.take (k + 1)) := by rw [hnx]; simp only [ByteArray.append_assoc]
              generalize hv1 : u1 ++ encS key = v1 at *
              generalize hv2 : v1 ++ bS 58 = v2 at *
              refine wRUN (j10 hlp hdk hgt x0 hu1 ra ga b6 hrk hgk) ?_
              refine w7 (op_data [] hqk) trivial ?_
              refine wRUN (j6 x1 hv1 x2 hv2 hra hg) ?_
              refine w7 (op_data [] he) trivial ?_
              refine wRUN (j3 x3 hy hw) ?_
              refine ⟨k + 1, by omega, by omega, ?_⟩
              exact wSays (Says.of [] []) trivial
        · have hdk : decide ((k : Int) < (t.kids.length : Int)) = false := by simpa using hlt
          obtain rfl : k = t.kids.length := by omega
          have hall : t.parts.take t.kids.length = t.parts := List.take_of_length_le (by rw [parts_len]; exact Nat.le_refl _)
          rw [hall] at hz
          have hx1 : 1 + (joinS (bS 44) t.parts).size ≤ 9223372036854775807 := by omega
          rcases h with h | h
          · have b5 : (t.kind == 5) = true := by simp [h]
            have hx2 : (bS 91 ++ joinS (bS 44) t.parts).size + 1 ≤ 9223372036854775807 := by rw [ByteArray.size_append, one_size]; omega
            have ht5 := (txt_arr h).symm
            generalize hv1 : bS 91 ++ joinS (bS 44) t.parts = v1 at *
            refine wRUN (j10 hlp hdk ra ga b5 hall hx1 hv1 hx2 ht5) ?_
            exact wRetOf (ret_of [] []) Tryz.results44 ht5
          · have b5 : (t.kind == 5) = false := by simp [h]
            have hx2 : (bS 123 ++ joinS (bS 44) t.parts).size + 1 ≤ 9223372036854775807 := by rw [ByteArray.size_append, one_size]; omega
            have ht5 := (txt_obj h).symm
            generalize hv1 : bS 123 ++ joinS (bS 44) t.parts = v1 at *
            refine wRUN (j10 hlp hdk ra ga b5 hall hx1 hv1 hx2 ht5) ?_
            exact wRetOf (ret_of [] []) Tryz.results44 ht5
end Go.Proofs.YtfmnoljflcpbgaaGreatDoor
