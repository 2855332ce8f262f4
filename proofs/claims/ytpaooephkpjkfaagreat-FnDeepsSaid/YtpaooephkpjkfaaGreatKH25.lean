/- laws.FnDeeps: the walk of the law, by the engine. -/
import Derived.Test.YtpaooephkpjkfaaGreatKG90
set_option linter.unusedSimpArgs false
set_option linter.unusedVariables false
set_option linter.unnecessarySimpa false
namespace Go.Proofs.YtpaooephkpjkfaaGreat
open Go.RowKit
set_option maxRecDepth 10000
theorem deep_ways (xs : List CellD) : (∃ (t d : V), xs = t.enc ∧ t.right ∧ d.right ∧ d = arrV t.deep ∧ oneR deepV xs = okR d) ∨ ∃ c, c ≠ 0 ∧ oneR deepV xs = (c, none) := by
  unfold oneR
  rcases dec_cases xs with ⟨t, hd⟩ | ⟨c, hc, hd⟩
  · obtain ⟨hx, ht⟩ := right_of_dec hd
    rw [hd]
    show (∃ (t' d : V), xs = t'.enc ∧ t'.right ∧ d.right ∧ d = arrV t'.deep ∧ deepV t = okR d) ∨ ∃ c, c ≠ 0 ∧ deepV t = (c, none)
    rcases okRes_ways (deepV_ok ht) with ⟨v, h, hv⟩ | ⟨c, hc, h⟩
    · obtain ⟨_, g2, _⟩ := give_some (show giveR (arrV t.deep) = (0, some v) from h)
      exact .inl ⟨t, v, hx, ht, hv, g2, h⟩
    · exact .inr ⟨c, hc, h⟩
  · rw [hd]
    exact .inr ⟨c, hc, rfl⟩
set_option maxHeartbeats 8000000 in
theorem lawDeeps_ac (bs : List Nat) (hbb : ∀ b ∈ bs, b < 256) : AC Tryz.prog 3 [.c (.sl (bs.map byteCs))] [] (.c (.bool true)) [] := by
  have hbig := lwBig_ac bs
  by_cases hl : bs.length ≤ 1048576
  · have hd : decide ((bs.length : Int) > 1048576) = false := decide_eq_false (by omega)
    rw [hd] at hbig
    have hb : BytesOk bs := ⟨hl, hbb⟩
    obtain ⟨xs, zx, _, hdraw⟩ := drawDeep_ac bs hb
    have hB := implDeepOf_ac xs zx
    have hS := specDeepOf_ac xs
    have hN := implDoNative7_ac xs zx
    rcases deep_ways xs with ⟨t, d, rfl, ht, hdr, hde, h⟩ | ⟨c, hc, h⟩
    · rw [h] at hB hN
      replace hB : AC Tryz.prog 10 [cellsA t.enc] [] (.agg [.c (.int .i64 0), .c (.sl (d.enc.map CellD.cs))]) [] := hB
      replace hN : AC Tryz.prog 15 [.c (.int .i64 7), cellsA t.enc] [] (.agg [.c (.int .i64 0), .c (.sl (d.enc.map CellD.cs))]) [] := hN
      have hea := eachOf_ac hdr (.inl (by rw [hde]; rfl))
      have hk : d.kids = t.deep := by rw [hde]; rfl
      rw [hk] at hea
      have hdl := deep_len t
      have hel := enc_len t
      have hcp := count_pos t
      have hce := ht.2.1
      have hlr : ((t.deep.map V.enc).map encCs).length = t.deep.length := by simp
      have hle : (t.enc.map CellD.cs).length = t.deep.length := by rw [List.length_map]; omega
      have hne : (((t.deep.length : Nat) : Int) != ((t.deep.length : Nat) : Int)) = false := by simp
      have h00 : ((0 : Int) != 0) = false := rfl
      have h01 : ((0 : Int) == 0) = true := rfl
      have hd0 : t.deep[0]'(by omega) = t := by
        have := deep_eq t
        simp [this]
      obtain ⟨hr0, hg0⟩ := row_encsV (L := t.deep) (i := 0) (by omega)
      rw [hd0] at hg0
      have hr0' : rowsAt ((t.deep.map V.enc).map encCs) 1 0 = true := hr0
      have e1 := sameS ht
      have hpart := fun (i : Nat) (hi : i < t.deep.length) => partAt_ac ht hi
      have hsame := fun (i : Nat) (hi : i < t.deep.length) => sameS (deep_right t ht _ (List.getElem_mem hi)).1
      have hrow := fun (i : Nat) (hi : i < t.deep.length) => row_encsV (L := t.deep) hi
      clear hd0
      generalize d.enc = de at *
      generalize t.enc = te at *
      generalize hPR : (t.deep.map V.enc).map encCs = PR at *
      refine wEnter Tryz.func3 Tryz.ntmps3 ?_
      refine wRUN trivial ?_
      refine w7 (op_data [] hbig) trivial ?_
      refine wRUN trivial ?_
      refine w9 (op_shared [] hdraw) trivial ?_
      refine wRUN trivial ?_
      refine w9 (op_shared [] hB) trivial ?_
      refine wRUN h00 ?_
      refine w9 (op_shared [] hea) trivial ?_
      refine wRUN (j6 h00 hlr hle hne hr0' hg0) ?_
      refine w7 (op_data [] e1) trivial ?_
      refine wRUN h00 ?_
      refine a_loop (κ := Nat) (fun k => ⟨mkS 0 73 [(3, cellsA te), (5, .ptr (5, 0) 0), (6, .c (.int .i64 k))], [((5, 0), .box [.c (.int .i64 0), .c (.sl PR)])]⟩)
        (fun k => k ≤ t.deep.length) (fun k => t.deep.length - k) 0 (Nat.zero_le _) ?_ ?_
      · exact wSays (Says.of [((5, 0), (5, 0))] []) h00
      · intro k hk
        by_cases hlt : k < t.deep.length
        · have hdk : decide ((k : Int) < (t.deep.length : Int)) = true := by simpa using hlt
          have hw := wrap_succ (k := k) (by omega)
          have hp := hpart k hlt
          have hs := hsame k hlt
          obtain ⟨hr1, hg1⟩ := hrow k hlt
          generalize (t.deep[k]).enc = se at *
          refine wRUN (j2 hle hdk) ?_
          refine w9 (op_shared [] hp) trivial ?_
          refine wRUN (j3 h00 hr1 hg1) ?_
          refine w7 (op_data [] hs) trivial ?_
          refine wRUN hw ?_
          refine ⟨k + 1, by omega, by omega, ?_⟩
          exact wSays (Says.of [((5, 0), (5, 0))] []) hw
        · have hdk : decide ((k : Int) < (t.deep.length : Int)) = false := by simpa using hlt
          refine wRUN (j2 hle hdk) ?_
          refine w9 (op_shared [] hN) trivial ?_
          refine wRUN h01 ?_
          exact wRet (ret_data []) Tryz.results3
    · rw [h] at hB hS
      replace hB : AC Tryz.prog 10 [cellsA xs] [] (.agg [.c (.int .i64 c), .c (.sl [])]) [] := hB
      replace hS : AC Tryz.prog 11 [cellsA xs] [] (.agg [.c (.int .i64 c), .c (.sl [])]) [] := hS
      have h0 : (c != 0) = true := by simpa using hc
      have h1 : (c == c) = true := by simp
      refine wEnter Tryz.func3 Tryz.ntmps3 ?_
      refine wRUN trivial ?_
      refine w7 (op_data [] hbig) trivial ?_
      refine wRUN trivial ?_
      refine w9 (op_shared [] hdraw) trivial ?_
      refine wRUN trivial ?_
      refine w9 (op_shared [] hB) trivial ?_
      refine wRUN h0 ?_
      refine w9 (op_shared [] hS) trivial ?_
      refine wRUN (j2 h0 h1) ?_
      exact wRet (ret_data []) Tryz.results3
  · have hd : decide ((bs.length : Int) > 1048576) = true := decide_eq_true (by omega)
    rw [hd] at hbig
    refine wEnter Tryz.func3 Tryz.ntmps3 ?_
    refine wRUN trivial ?_
    refine w7 (op_data [] hbig) trivial ?_
    refine wRUN trivial ?_
    exact wRet (ret_data []) Tryz.results3
end Go.Proofs.YtpaooephkpjkfaaGreat
