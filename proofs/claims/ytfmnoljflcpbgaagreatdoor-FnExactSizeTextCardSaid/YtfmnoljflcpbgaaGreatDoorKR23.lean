/- (impl.val).pretty at every right value. -/
import Derived.Test.YtfmnoljflcpbgaaGreatDoorKR22
set_option linter.unusedSimpArgs false
set_option linter.unusedVariables false
set_option linter.unnecessarySimpa false
namespace Go.Proofs.YtfmnoljflcpbgaaGreatDoor
open Go.RowKit
set_option maxRecDepth 10000
variable {o : Obj}
set_option maxHeartbeats 8000000 in
theorem implPre_ac {d : Nat} (hd : d ≤ 8) : ∀ (n : Nat) (t : V) (a : Nat), t.count ≤ n → t.right → a + d * t.depth ≤ 168 → AC Tryz.prog 54 [t.av, .c (.int .i64 d), .c (.int .i64 a)] (tabM o) (.c (.str (t.pre d a))) (tabM o) := by
  intro n
  induction n with
  | zero => intro t a hn _; have := count_pos t; omega
  | succ n ih =>
    intro t a hn ht hda
    have hlf := isLeaf_ac t
    have he := encodeR_ac (o := o) ht
    cases hle : t.kids.isEmpty with
    | true =>
      rw [hle] at hlf
      have hk := leaf_of hle
      rw [pre_leaf d a hk]
      refine wEnter Tryz.func54 Tryz.ntmps54 ?_
      refine wRUN trivial ?_
      refine w7 (op_data [] hlf) trivial ?_
      refine wRUN hle ?_
      refine w10 (op_reads tab_pin tab_any (8, 0) [] he) trivial ?_
      refine wRUN trivial ?_
      exact wRetOf (ret_of [((8, 0), (8, 0))] []) Tryz.results54 hle
    | false =>
      rw [hle] at hlf
      have hk : t.kids ≠ [] := by intro e; rw [e] at hle; simp at hle
      have hkp : 0 < t.kids.length := List.length_pos_iff.2 hk
      have hkl := kids_len_le ht.2.1
      have hlk : (t.kids.map V.cs).length = t.kids.length := by simp
      have h0 : ((t.pparts d (a + d)).take 0).map strCs = [] := rfl
      have hdk := depth_kids t
      have hda' : a + d ≤ 168 := by
        have : d * 1 ≤ d * t.depth := Nat.mul_le_mul_left _ (by omega)
        omega
      have hw1 : IntKind.i64.wrap ((a : Int) + (d : Int)) = ((a + d : Nat) : Int) := by rw [IntWalk.i64_in _ (by omega)]; simp
      refine wEnter Tryz.func54 Tryz.ntmps54 ?_
      refine wRUN trivial ?_
      refine w7 (op_data [] hlf) trivial ?_
      refine wRUN (j2 hle hlk) ?_
      refine a_loop (κ := Nat) (fun k => ⟨mkS 0 73 [(1, .c (.int .i64 d)), (2, .c (.int .i64 a)), (3, .ptr (3, 0) 0), (7, .own (98, 0)), (19, .c (.sl (t.kids.map V.cs))), (20, .c (.int .i64 t.kids.length)), (21, .c (.int .i64 k))],
          [((3, 0), .box [.c (.int .i64 t.kind), .c (.int .i64 t.num), .c (.str t.text), .c (.sl (t.keys.map strCs)), .c (.sl (t.kids.map V.cs))]), ((98, 0), .row false 1 9 (((t.pparts d (a + d)).take k).map strCs)), ((8, 0), .blk (tabR o) [])]⟩)
        (fun k => k ≤ t.kids.length) (fun k => t.kids.length - k) 0 (Nat.zero_le _) ?_ ?_
      · exact wSays (Says.of [((3, 0), (3, 0)), ((98, 0), (17, 0)), ((8, 0), (8, 0))] []) h0
      · intro k hk1
        by_cases hlt : k < t.kids.length
        · have hdk1 : decide ((k : Int) < (t.kids.length : Int)) = true := by simpa using hlt
          have hw := wrap_succ (k := k) (by omega)
          have hr : rowsAt (t.kids.map V.cs) 5 k = true := by simp [rowsAt, hlt, V.cs_eq]
          have hg : (t.kids.map V.cs)[k]? = some [.int .i64 t.kids[k].kind, .int .i64 t.kids[k].num, .str t.kids[k].text, .sl (t.kids[k].keys.map strCs), .sl (t.kids[k].kids.map V.cs)] := by simp [hlt, V.cs_eq]
          have hks := right_keyAt ht k
          have hes := encS_size hks
          have hqk := encodeString_ac (t.keyAt k) (by omega)
          have hmem : t.kids[k] ∈ t.kids := List.getElem_mem hlt
          have hcm := countL_mem hmem
          have hck := count_kids t
          have hkd := kid_deep hmem hda
          have hxs := pre_size' hd (right_mem ht hmem) hkd
          have hrec := ih t.kids[k] (a + d) (by omega) (right_mem ht hmem) hkd
          have hpl : ((t.pparts d (a + d)).take k).length + 1 ≤ 1000000 := by rw [List.length_take]; omega
          have hnext : ((t.pparts d (a + d)).take k).map strCs ++ [[.str (t.ppart d (a + d) k t.kids[k])]] = ((t.pparts d (a + d)).take (k + 1)).map strCs := by
            rw [List.take_succ_eq_append_getElem (by rw [pparts_len]; exact hlt), pparts_at t d (a + d) hlt, List.map_append]; rfl
          unfold V.ppart at hnext
          by_cases h6 : t.kind = 6
          · have b6 : (t.kind == 6) = true := by simp [h6]
            rw [if_pos h6] at hnext
            obtain ⟨hkk, hkey⟩ := keyAt_get (right_neat ht) h6 hlt
            have hrk : rowsAt (t.keys.map strCs) 1 k = true := by simp [rowsAt, hkk, strCs]
            have hgk : (t.keys.map strCs)[k]? = some [.str (t.keyAt k)] := by simp [hkk, strCs, hkey]
            generalize t.kids[k] = x at *
            generalize t.keyAt k = key at *
            have x1 : (encS key).size + 2 ≤ 9223372036854775807 := by omega
            have x2 : (encS key ++ ⟨#[58, 32]⟩).size + (x.pre d (a + d)).size ≤ 9223372036854775807 := by simp only [ByteArray.size_append, two_size]; omega
            generalize hv1 : encS key ++ ⟨#[58, 32]⟩ = v1 at *
            refine wRUN (j4 hdk1 hr hg hw1) ?_
            refine w10 (op_reads tab_pin tab_any (8, 0) [] hrec) trivial ?_
            refine wRUN (j3 b6 hrk hgk) ?_
            refine w7 (op_data [] hqk) trivial ?_
            refine wRUN (j5 x1 hv1 x2 hpl hw) ?_
            refine ⟨k + 1, by omega, by omega, ?_⟩
            exact wSays (Says.of [((3, 0), (3, 0)), ((98, 0), (47, 0)), ((8, 0), (8, 0))] []) hnext
          · have b6 : (t.kind == 6) = false := by simp [h6]
            rw [if_neg h6] at hnext
            generalize t.kids[k] = x at *
            refine wRUN (j4 hdk1 hr hg hw1) ?_
            refine w10 (op_reads tab_pin tab_any (8, 0) [] hrec) trivial ?_
            refine wRUN (j3 b6 hpl hw) ?_
            refine ⟨k + 1, by omega, by omega, ?_⟩
            exact wSays (Says.of [((3, 0), (3, 0)), ((98, 0), (47, 0)), ((8, 0), (8, 0))] []) hnext
        · have hdk1 : decide ((k : Int) < (t.kids.length : Int)) = false := by simpa using hlt
          obtain rfl : k = t.kids.length := by omega
          have hall : (t.pparts d (a + d)).take t.kids.length = t.pparts d (a + d) := List.take_of_length_le (Nat.le_of_eq (pparts_len _ _ _))
          have hjs := pparts_sum (d := d) hda' ht (fun x hx => pre_size hd _ x (a + d) (Nat.le_refl _) (right_mem ht hx) (kid_deep hx hda)) t.kids.length (Nat.le_refl _)
          rw [hall] at hjs
          have hck := count_kids t
          have hc := ht.2.1
          have hlB : bS 10 ++ blnk (a + d) = lnB (a + d) := rfl
          have hj := join_ac (t.pparts d (a + d)) (bS 44 ++ lnB (a + d)) (by rw [pparts_len]; omega) (by omega)
          have hr1 := repeat_ac (a + d) (by omega)
          have hr2 := repeat_ac a (by omega)
          have z1 := blnk_size (a + d)
          have z2 := blnk_size a
          have z3 := lnB_size (a + d)
          have hpn := pre_node d a hk
          have y1 : 1 + (blnk (a + d)).size ≤ 9223372036854775807 := by omega
          have y2 : 1 + (lnB (a + d)).size ≤ 9223372036854775807 := by omega
          have y3 : (lnB (a + d)).size + (joinS (bS 44 ++ lnB (a + d)) (t.pparts d (a + d))).size ≤ 9223372036854775807 := by omega
          have y4 : (lnB (a + d) ++ joinS (bS 44 ++ lnB (a + d)) (t.pparts d (a + d))).size + 1 ≤ 9223372036854775807 := by simp only [ByteArray.size_append]; omega
          have y5 : (lnB (a + d) ++ joinS (bS 44 ++ lnB (a + d)) (t.pparts d (a + d)) ++ bS 10).size + (blnk a).size ≤ 9223372036854775807 := by simp only [ByteArray.size_append, one_size]; omega
          have y6 : 1 + (lnB (a + d) ++ joinS (bS 44 ++ lnB (a + d)) (t.pparts d (a + d)) ++ bS 10 ++ blnk a).size ≤ 9223372036854775807 := by simp only [ByteArray.size_append, one_size]; omega
          have y7 : ∀ b : UInt8, (bS b ++ (lnB (a + d) ++ joinS (bS 44 ++ lnB (a + d)) (t.pparts d (a + d)) ++ bS 10 ++ blnk a)).size + 1 ≤ 9223372036854775807 := fun b => by simp only [ByteArray.size_append, one_size]; omega
          have hin : lnB (a + d) ++ joinS (bS 44 ++ lnB (a + d)) (t.pparts d (a + d)) ++ bS 10 ++ blnk a = lnB (a + d) ++ joinS (bS 44 ++ lnB (a + d)) (t.pparts d (a + d)) ++ lnB a := by unfold lnB; simp only [ByteArray.append_assoc]
          rw [← hin] at hpn
          generalize hu0 : bS 44 ++ lnB (a + d) = u0 at *
          generalize joinS u0 (t.pparts d (a + d)) = J at *
          generalize hu1 : lnB (a + d) ++ J = u1 at *
          generalize hu2 : u1 ++ bS 10 = u2 at *
          generalize hu3 : u2 ++ blnk a = u3 at *
          by_cases h5 : t.kind = 5
          · have b5 : (t.kind == 5) = true := by simp [h5]
            rw [if_pos h5, if_pos h5] at hpn
            have y8 := y7 91
            generalize hv1 : bS 91 ++ u3 = v1 at *
            have hpe := hpn.symm
            refine wRUN (j3 hdk1 hall hw1) ?_
            refine w7 (op_data [] hr1) trivial ?_
            refine wRUN (j4 y1 hlB y2 hu0) ?_
            refine w7 (op_data [(98, 0)] hj) trivial ?_
            refine wRUN (j4 y3 hu1 y4 hu2) ?_
            refine w7 (op_data [] hr2) trivial ?_
            refine wRUN (j7 y5 hu3 b5 y6 hv1 y8 hpe) ?_
            exact wRetOf (ret_of [((8, 0), (8, 0))] []) Tryz.results54 hpe
          · have b5 : (t.kind == 5) = false := by simp [h5]
            rw [if_neg h5, if_neg h5] at hpn
            have y8 := y7 123
            generalize hv1 : bS 123 ++ u3 = v1 at *
            have hpe := hpn.symm
            refine wRUN (j3 hdk1 hall hw1) ?_
            refine w7 (op_data [] hr1) trivial ?_
            refine wRUN (j4 y1 hlB y2 hu0) ?_
            refine w7 (op_data [(98, 0)] hj) trivial ?_
            refine wRUN (j4 y3 hu1 y4 hu2) ?_
            refine w7 (op_data [] hr2) trivial ?_
            refine wRUN (j7 y5 hu3 b5 y6 hv1 y8 hpe) ?_
            exact wRetOf (ret_of [((8, 0), (8, 0))] []) Tryz.results54 hpe
end Go.Proofs.YtfmnoljflcpbgaaGreatDoor
