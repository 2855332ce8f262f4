/- laws.FnPaths: the walk of the law, by the engine. Printed by gen_h24.py. -/
import Derived.Test.YtpaooephkpjkfaaGreatKG88
set_option linter.unusedSimpArgs false
set_option linter.unusedVariables false
set_option linter.unnecessarySimpa false
namespace Go.Proofs.YtpaooephkpjkfaaGreat
open Go.RowKit
set_option maxRecDepth 10000
theorem last_cases (l : List V) : l = [] ∨ ∃ k, l.getLast? = some k ∧ 0 < l.length ∧ l[l.length - 1]? = some k := by
  cases l with
  | nil => exact .inl rfl
  | cons x l =>
    refine .inr ⟨(x :: l).getLast (by simp), List.getLast?_eq_some_getLast (by simp), by simp, ?_⟩
    rw [← List.getLast?_eq_getElem?, List.getLast?_eq_some_getLast (by simp)]
theorem set_ways (xs ps ys : List CellD) : (∃ (t s x r : V), t.right ∧ s.right ∧ x.right ∧ r.right ∧ s.kind = 5 ∧ ys = x.enc ∧ ps = s.enc ∧ keyed s.kids ∧ pathDec ps = (0, some s.kids) ∧ s.kids.any badKid = false ∧ setPathV x s.kids t = okR r ∧ askPath xs ps (putV ys) = okR r)
    ∨ ∃ c, c ≠ 0 ∧ askPath xs ps (putV ys) = (c, none) := by
  rcases okRes_ways (setR_ok xs ps ys) with ⟨v, h, hv⟩ | ⟨c, hc, h⟩
  · rcases ask_way xs ps (putV ys) with ⟨_, _, h3⟩ | ⟨t, hd, hx, ht, ⟨c, _, _, h3⟩ | ⟨s, hs, hps, h5, hbk, hp, h3⟩⟩
    · rw [h3] at h; simp at h
    · rw [h3] at h; simp at h
    · have hput : putV ys t s.kids = (0, some v) := by rw [← h3, h]
      unfold putV at hput
      rcases dec_cases ys with ⟨x, hx⟩ | ⟨c, hc, hx⟩
      · rw [hx] at hput
        obtain ⟨e1, e2⟩ := right_of_dec hx
        exact .inl ⟨t, s, x, v, ht, hs, e2, hv, h5, e1, hps, kid_kinds hs hbk, hp, hbk, hput, h⟩
      · rw [hx] at hput; simp at hput
  · exact .inr ⟨c, hc, h⟩
theorem ask_right (F : V → List V → Int × Option V) {r s : V} (hr : r.right) {ps : List CellD} (hp : pathDec ps = (0, some s.kids)) : askPath r.enc ps F = F r s.kids := by
  unfold askPath
  rw [right_dec hr, hp]
set_option maxHeartbeats 16000000 in
theorem lawPaths_ac (bs : List Nat) (hbb : ∀ b ∈ bs, b < 256) : AC Tryz.prog 6 [.c (.sl (bs.map byteCs))] [] (.c (.bool true)) [] := by
  have hbig := lwBig_ac bs
  by_cases hl : bs.length ≤ 1048576
  · have hd : decide ((bs.length : Int) > 1048576) = false := decide_eq_false (by omega)
    rw [hd] at hbig
    have hb : BytesOk bs := ⟨hl, hbb⟩
    obtain ⟨xs, ps, ys, zx, zp, zy, hdraw⟩ := drawSetPath_ac bs hb
    have hB := implSetPathS_ac xs ps ys zx zp zy
    have hS := specSetPath_ac xs ps ys
    rcases set_ways xs ps ys with ⟨t, s, x, r, ht, hs, hx, hr, hk5, rfl, rfl, hky, hpd, hbk, hset, h⟩ | ⟨c, hc, h⟩
    · rw [h] at hB
      replace hB : AC Tryz.prog 27 [cellsA xs, cellsA s.enc, cellsA x.enc] [] (.agg [.c (.int .i64 0), .c (.sl (r.enc.map CellD.cs))]) [] := hB
      have hG := implGetPathS_ac r.enc s.enc (right_sized hr) (right_sized hs)
      rw [ask_right getPathV hr hpd, set_get s.kids hky t r 0 ht hset] at hG
      replace hG : AC Tryz.prog 29 [cellsA r.enc, cellsA s.enc] [] (.agg [.c (.int .i64 0), .c (.sl (x.enc.map CellD.cs))]) [] := hG
      have hD := implDropPathS_ac r.enc s.enc (right_sized hr) (right_sized hs)
      rw [ask_right outV hr hpd] at hD
      have f1 := faultS hr
      have e1 := sameS hx
      have hea := eachOf_ac hs (.inl hk5)
      have hpf := implPathFault_ok (right_sized hs) hpd
      have h00 : ((0 : Int) != 0) = false := rfl
      have h01 : ((0 : Int) == 0) = true := rfl
      have hlp : ((s.kids.map V.enc).map encCs).length = s.kids.length := by simp
      rcases last_cases s.kids with hnil | ⟨k, hlast, hpos, hat⟩
      · have hDn : AC Tryz.prog 30 [cellsA r.enc, cellsA s.enc] [] (.agg [.c (.int .i64 0), .c (.sl (nullV.enc.map CellD.cs))]) [] := by
          rw [hnil] at hD
          exact hD
        have hl0 : ((s.kids.length : Int) == 0) = true := by rw [hnil]; rfl
        generalize nullV.enc = ne at *
        generalize r.enc = re at *
        generalize s.enc = se at *
        generalize x.enc = xe at *
        refine wEnter Tryz.func6 Tryz.ntmps6 ?_
        refine wRUN trivial ?_
        refine w7 (op_data [] hbig) trivial ?_
        refine wRUN trivial ?_
        refine w9 (op_shared [] hdraw) trivial ?_
        refine wRUN trivial ?_
        refine w9 (op_shared [] hB) trivial ?_
        refine wRUN h00 ?_
        refine w9 (op_shared [] hG) trivial ?_
        refine wRUN h00 ?_
        refine w9 (op_shared [] hDn) trivial ?_
        refine wRUN h00 ?_
        refine w7 (op_data [] f1) trivial ?_
        refine wRUN h00 ?_
        refine w7 (op_data [] e1) trivial ?_
        refine wRUN h00 ?_
        refine w9 (op_shared [] hea) trivial ?_
        refine wRUN (j3 h00 hlp hl0) ?_
        refine w7 (op_data [] hpf) trivial ?_
        refine wRUN h01 ?_
        exact wRet (ret_data []) Tryz.results6
      · obtain ⟨d, d1, d2, _, _, _, d6⟩ := set_drop hx s.kids hky (fun e => by rw [e] at hpos; simp at hpos) t r 0 ht hset
        have hDn : AC Tryz.prog 30 [cellsA r.enc, cellsA s.enc] [] (.agg [.c (.int .i64 0), .c (.sl (d.enc.map CellD.cs))]) [] := by
          rw [show outV r s.kids = okR d from d1] at hD
          exact hD
        have hl0 : ((s.kids.length : Int) == 0) = false := by simp; intro e; rw [e] at hpos; simp at hpos
        have hkl := kids_len_le hs.2.1
        have hw1 : IntKind.i64.wrap ((s.kids.length : Int) - 1) = ((s.kids.length - 1 : Nat) : Int) := wrapN (by omega) (by omega)
        have hil : s.kids.length - 1 < s.kids.length := by omega
        obtain ⟨hr0, hg0⟩ := row_encsV hil
        have hel : s.kids[s.kids.length - 1] = k := by
          rw [List.getElem?_eq_getElem hil] at hat
          exact Option.some.inj hat
        rw [hel] at hg0
        have hr1 : rowsAt (k.enc.map CellD.cs) 5 0 = true := by unfold rowsAt; rw [show (0 : Int).toNat = 0 from rfl, enc_head]; rfl
        have hg1 := enc_head k
        by_cases h4 : k.kind = 4
        · have hk4 : (k.kind != 4) = false := by simp [h4]
          have hE := implGetPathS_ac d.enc s.enc (right_sized d2) (right_sized hs)
          rw [ask_right getPathV d2 hpd, d6 k hlast h4] at hE
          replace hE : AC Tryz.prog 29 [cellsA d.enc, cellsA s.enc] [] (.agg [.c (.int .i64 0), .c (.sl (nullV.enc.map CellD.cs))]) [] := hE
          have hr2 : rowsAt (nullV.enc.map CellD.cs) 5 0 = true := by unfold rowsAt; rw [show (0 : Int).toNat = 0 from rfl, enc_head]; rfl
          have hg2 : (nullV.enc.map CellD.cs)[0]? = some [.int .i64 0, .int .i64 0, .str ByteArray.empty, .str ByteArray.empty, .int .i64 0] := rfl
          generalize nullV.enc = ne at *
          generalize d.enc = de at *
          generalize r.enc = re at *
          generalize s.enc = se at *
          generalize x.enc = xe at *
          generalize s.kids.length - 1 = i at *
          generalize (s.kids.map V.enc).map encCs = KR at *
          refine wEnter Tryz.func6 Tryz.ntmps6 ?_
          refine wRUN trivial ?_
          refine w7 (op_data [] hbig) trivial ?_
          refine wRUN trivial ?_
          refine w9 (op_shared [] hdraw) trivial ?_
          refine wRUN trivial ?_
          refine w9 (op_shared [] hB) trivial ?_
          refine wRUN h00 ?_
          refine w9 (op_shared [] hG) trivial ?_
          refine wRUN h00 ?_
          refine w9 (op_shared [] hDn) trivial ?_
          refine wRUN h00 ?_
          refine w7 (op_data [] f1) trivial ?_
          refine wRUN h00 ?_
          refine w7 (op_data [] e1) trivial ?_
          refine wRUN h00 ?_
          refine w9 (op_shared [] hea) trivial ?_
          refine wRUN (j9 h00 hlp hl0 hw1 hr0 hg0 hr1 hg1 hk4) ?_
          refine w9 (op_shared [] hE) trivial ?_
          refine wRUN (j3 h01 hr2 hg2) ?_
          exact wRet (ret_data []) Tryz.results6
        · have hk4 : (k.kind != 4) = true := by simpa using h4
          generalize d.enc = de at *
          generalize r.enc = re at *
          generalize s.enc = se at *
          generalize x.enc = xe at *
          generalize s.kids.length - 1 = i at *
          generalize (s.kids.map V.enc).map encCs = KR at *
          refine wEnter Tryz.func6 Tryz.ntmps6 ?_
          refine wRUN trivial ?_
          refine w7 (op_data [] hbig) trivial ?_
          refine wRUN trivial ?_
          refine w9 (op_shared [] hdraw) trivial ?_
          refine wRUN trivial ?_
          refine w9 (op_shared [] hB) trivial ?_
          refine wRUN h00 ?_
          refine w9 (op_shared [] hG) trivial ?_
          refine wRUN h00 ?_
          refine w9 (op_shared [] hDn) trivial ?_
          refine wRUN h00 ?_
          refine w7 (op_data [] f1) trivial ?_
          refine wRUN h00 ?_
          refine w7 (op_data [] e1) trivial ?_
          refine wRUN h00 ?_
          refine w9 (op_shared [] hea) trivial ?_
          refine wRUN (j9 h00 hlp hl0 hw1 hr0 hg0 hr1 hg1 hk4) ?_
          refine w7 (op_data [] hpf) trivial ?_
          refine wRUN h01 ?_
          exact wRet (ret_data []) Tryz.results6
    · rw [h] at hB hS
      replace hB : AC Tryz.prog 27 [cellsA xs, cellsA ps, cellsA ys] [] (.agg [.c (.int .i64 c), .c (.sl [])]) [] := hB
      replace hS : AC Tryz.prog 28 [cellsA xs, cellsA ps, cellsA ys] [] (.agg [.c (.int .i64 c), .c (.sl [])]) [] := hS
      have h0 : (c != 0) = true := by simpa using hc
      have h1 : (c == c) = true := by simp
      refine wEnter Tryz.func6 Tryz.ntmps6 ?_
      refine wRUN trivial ?_
      refine w7 (op_data [] hbig) trivial ?_
      refine wRUN trivial ?_
      refine w9 (op_shared [] hdraw) trivial ?_
      refine wRUN trivial ?_
      refine w9 (op_shared [] hB) trivial ?_
      refine wRUN h0 ?_
      refine w9 (op_shared [] hS) trivial ?_
      refine wRUN (j2 h0 h1) ?_
      exact wRet (ret_data []) Tryz.results6
  · have hd : decide ((bs.length : Int) > 1048576) = true := decide_eq_true (by omega)
    rw [hd] at hbig
    refine wEnter Tryz.func6 Tryz.ntmps6 ?_
    refine wRUN trivial ?_
    refine w7 (op_data [] hbig) trivial ?_
    refine wRUN trivial ?_
    exact wRet (ret_data []) Tryz.results6
end Go.Proofs.YtpaooephkpjkfaaGreat
