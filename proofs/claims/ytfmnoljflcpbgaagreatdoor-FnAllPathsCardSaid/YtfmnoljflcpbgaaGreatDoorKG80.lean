/- The draws' source: l1Source, l1Next, l1Chance, l1Pick, l1Word, l1Key, by the engine. -/
import Derived.Test.YtfmnoljflcpbgaaGreatDoorKE34
import Derived.Test.YtfmnoljflcpbgaaGreatDoorKM3uM28
import Derived.Test.YtfmnoljflcpbgaaGreatDoorKG9
set_option linter.unusedSimpArgs false
set_option linter.unusedVariables false
set_option linter.unnecessarySimpa false
namespace Go.Proofs.YtfmnoljflcpbgaaGreatDoor
open Go.RowKit
set_option maxRecDepth 10000
/-- The source: its bytes, and how many numbers were drawn. -/
abbrev srcO (bs : List Nat) (a : Nat) : AO := .box [.c (.sl (bs.map byteCs)), .c (.int .i64 (a : Int))]
abbrev srcM (bs : List Nat) (a : Nat) : Mem := [((0, 0), srcO bs a)]
/-- Bytes, and not too many. -/
def BytesOk (bs : List Nat) : Prop := bs.length ≤ 1048576 ∧ ∀ b ∈ bs, b < 256
theorem l1Source_ac (bs : List Nat) : AC Tryz.prog 84 [.c (.sl (bs.map byteCs))] [] (.ptr (0, 0) 0) (srcM bs 0) := by
  have h0 : ((0 : Nat) : Int) = 0 := rfl
  refine wEnter Tryz.func84 Tryz.ntmps84 ?_
  refine wRUN trivial ?_
  exact wRetOf (ret_of [((0, 0), (5, 0))] []) Tryz.results84 h0
theorem wrapN {x : Int} {n : Nat} (h : x = (n : Int)) (hn : n < 9000000000000000000) : IntKind.i64.wrap x = (n : Int) := by
  rw [IntWalk.i64_in _ (by omega)]; exact h
theorem tmodN (a b : Nat) : Int.tmod (a : Int) (b : Int) = ((a % b : Nat) : Int) := rfl
theorem tdivN (a b : Nat) : Int.tdiv (a : Int) (b : Int) = ((a / b : Nat) : Int) := rfl
theorem bytes_at {bs : List Nat} (h : BytesOk bs) {i : Nat} (hi : i < bs.length) : ∃ u : Nat, rowsAt (bs.map byteCs) 1 ((i : Nat) : Int) = true ∧ (bs.map byteCs)[i]? = some [.int .u8 (u : Int)] ∧ bs.getD i 0 = u ∧ u < 256 := by
  refine ⟨bs[i], by simp [rowsAt, hi, byteCs], by simp [hi, byteCs], by rw [List.getD_eq_getElem?_getD, List.getElem?_eq_getElem hi, Option.getD_some], h.2 _ (List.getElem_mem hi)⟩
theorem l1Next_ac (bs : List Nat) (hb : BytesOk bs) (a n : Nat) (ha : a ≤ 1000000) (hn : n ≤ 1000000) : AC Tryz.prog 134 [.ptr (0, 0) 0, .c (.int .i64 (n : Int))] (srcM bs a) (.c (.int .i64 (nextN bs a n))) (srcM bs (a + 1)) := by
  have hw1 := wrap_succ (k := a) (by omega)
  have hs1 : IntKind.i64.wrap (((a + 1 : Nat) : Int) - 1) = (a : Int) := wrapN (by omega) (by omega)
  have hln : (bs.map byteCs).length = bs.length := by simp
  unfold nextN
  by_cases h1 : n < 1
  · rw [if_pos h1]
    have hd : decide ((n : Int) < 1) = true := decide_eq_true (by omega)
    have h0 : ((0 : Nat) : Int) = 0 := rfl
    refine wEnter Tryz.func134 Tryz.ntmps134 ?_
    refine wRUN (j2 hw1 hd) ?_
    exact wRetOf (ret_of [((0, 0), (0, 0))] []) Tryz.results134 h0
  · rw [if_neg h1]
    have hd : decide ((n : Int) < 1) = false := decide_eq_false (by omega)
    have hn0 : ((n : Int) = 0) = False := by simp; omega
    by_cases h2 : bs = []
    · rw [if_pos h2]
      have hk : ((bs.length : Int) == 0) = true := by rw [h2]; rfl
      have hm : IntKind.i64.wrap ((a : Int) * 7) = ((a * 7 : Nat) : Int) := wrapN (by omega) (by omega)
      have ht := tmodN (a * 7) n
      generalize hx : a * 7 % n = x at *
      refine wEnter Tryz.func134 Tryz.ntmps134 ?_
      refine wRUN (j8 hw1 hd hs1 hln hk hm hn0 ht) ?_
      exact wRetOf (ret_of [((0, 0), (0, 0))] []) Tryz.results134 hx
    · rw [if_neg h2]
      have hlp : 0 < bs.length := List.length_pos_iff.2 h2
      have hk : ((bs.length : Int) == 0) = false := by simp; exact h2
      have hk0 : ((bs.length : Int) = 0) = False := by simp; exact h2
      obtain ⟨u, r1, g1, d1, b1⟩ := bytes_at hb (Nat.mod_lt a hlp)
      obtain ⟨v, r2, g2, d2, b2⟩ := bytes_at hb (Nat.mod_lt (a + 1) hlp)
      have t1 := tmodN a bs.length
      have t2 := tmodN (a + 1) bs.length
      have q1 := tdivN a bs.length
      have q2 : IntKind.i64.wrap (((a / bs.length : Nat) : Int)) = ((a / bs.length : Nat) : Int) := wrapN rfl (by have := Nat.div_le_self a bs.length; omega)
      have hq := Nat.div_le_self a bs.length
      rw [d1, d2]
      generalize a / bs.length = e at *
      generalize a % bs.length = i1 at *
      generalize (a + 1) % bs.length = i2 at *
      have c1 : IntKind.i64.wrap (u : Int) = (u : Int) := wrapN rfl (by omega)
      have c2 : IntKind.i64.wrap (v : Int) = (v : Int) := wrapN rfl (by omega)
      have m1 : IntKind.i64.wrap ((e : Int) * 37) = ((e * 37 : Nat) : Int) := wrapN (by omega) (by omega)
      have p1 : IntKind.i64.wrap ((u : Int) + ((e * 37 : Nat) : Int)) = ((u + e * 37 : Nat) : Int) := wrapN (by omega) (by omega)
      by_cases h3 : n ≤ 200
      · rw [if_pos h3]
        have hg : decide ((n : Int) > 200) = false := decide_eq_false (by omega)
        have ht := tmodN (u + e * 37) n
        generalize u + e * 37 = y at *
        generalize hx : y % n = x at *
        refine wEnter Tryz.func134 Tryz.ntmps134 ?_
        refine wRUN (j2 (j12 hw1 hd hs1 hln hk hk0 t1 r1 g1 c1 q1 q2) (j5 m1 p1 hg hn0 ht)) ?_
        exact wRetOf (ret_of [((0, 0), (0, 0))] []) Tryz.results134 hx
      · rw [if_neg h3]
        have hg : decide ((n : Int) > 200) = true := decide_eq_true (by omega)
        have m2 : IntKind.i64.wrap (((u + e * 37 : Nat) : Int) * 251) = (((u + e * 37) * 251 : Nat) : Int) := wrapN (by omega) (by omega)
        have m3 : IntKind.i64.wrap ((v : Int) * 13) = ((v * 13 : Nat) : Int) := wrapN (by omega) (by omega)
        have p2 : IntKind.i64.wrap ((((u + e * 37) * 251 : Nat) : Int) + ((v * 13 : Nat) : Int)) = (((u + e * 37) * 251 + v * 13 : Nat) : Int) := wrapN (by omega) (by omega)
        have p3 : IntKind.i64.wrap ((((u + e * 37) * 251 + v * 13 : Nat) : Int) + (a : Int)) = (((u + e * 37) * 251 + v * 13 + a : Nat) : Int) := wrapN (by omega) (by omega)
        have ht := tmodN ((u + e * 37) * 251 + v * 13 + a) n
        generalize hx : ((u + e * 37) * 251 + v * 13 + a) % n = x at *
        refine wEnter Tryz.func134 Tryz.ntmps134 ?_
        refine wRUN (j2 (j12 hw1 hd hs1 hln hk hk0 t1 r1 g1 c1 q1 q2) (j2 (j12 m1 p1 hg t2 r2 g2 c2 m2 m3 p2 p3 hn0) ht)) ?_
        exact wRetOf (ret_of [((0, 0), (0, 0))] []) Tryz.results134 hx
theorem row_nums {l : List Int} {i : Nat} (h : i < l.length) : rowsAt (l.map intCs) 1 ((i : Nat) : Int) = true ∧ (l.map intCs)[i]? = some [.int .i64 l[i]] := ⟨by simp [rowsAt, h, intCs], by simp [h, intCs]⟩
theorem l1Pick_ac (bs : List Nat) (hb : BytesOk bs) (a : Nat) (l : List Int) (hl : l ≠ []) (hll : l.length ≤ 1000) (ha : a ≤ 1000000) : AC Tryz.prog 135 [.ptr (0, 0) 0, .c (.sl (l.map intCs))] (srcM bs a) (.c (.int .i64 (pickN bs a l))) (srcM bs (a + 1)) := by
  have hc := l1Next_ac bs hb a l.length ha (by omega)
  have hln : (l.map intCs).length = l.length := by simp
  have hlt := nextN_lt bs a (List.length_pos_iff.2 hl)
  have hp : pickN bs a l = l[nextN bs a l.length] := by
    unfold pickN
    rw [List.getD_eq_getElem?_getD, List.getElem?_eq_getElem hlt, Option.getD_some]
  rw [hp]
  obtain ⟨hr0, hg0⟩ := row_nums hlt
  generalize hx : l[nextN bs a l.length] = x at *
  generalize nextN bs a l.length = i at *
  refine wEnter Tryz.func135 Tryz.ntmps135 ?_
  refine wRUN hln ?_
  refine wCall (op_any_call [((0, 0), (0, 0))] [((0, 0), (0, 0))] hc) trivial ?_
  refine wRUN (j2 hr0 hg0) ?_
  exact wRetOf (ret_of [((0, 0), (0, 0))] []) Tryz.results135 hx
theorem row_strs8 {L : List ByteArray} {i : Nat} (h : i < L.length) : rowsAt (L.map strCs) 1 ((i : Nat) : Int) = true ∧ (L.map strCs)[i]? = some [.str L[i]] := by
  exact ⟨by simp [rowsAt, h, strCs], by simp [h, strCs]⟩
theorem l1Word_ac (bs : List Nat) (hb : BytesOk bs) (a : Nat) (ha : a ≤ 1000000) : AC Tryz.prog 175 [.ptr (0, 0) 0] (srcM bs a) (.c (.str (wordN bs a))) (srcM bs (a + 1)) := by
  have hc := l1Next_ac bs hb a 8 ha (by omega)
  have hlt := nextN_lt bs a (n := 8) (by omega)
  obtain ⟨hr0, hg0⟩ := row_strs8 (L := words) hlt
  have hp : wordN bs a = words[nextN bs a 8] := by
    unfold wordN
    rw [List.getD_eq_getElem?_getD, List.getElem?_eq_getElem (by exact hlt), Option.getD_some]
  rw [hp]
  generalize hx : words[nextN bs a 8] = x at *
  generalize nextN bs a 8 = i at *
  unfold words at hr0 hg0
  simp only [List.map_cons, List.map_nil, strCs] at hr0 hg0
  refine wEnter Tryz.func175 Tryz.ntmps175 ?_
  refine wRUN trivial ?_
  refine wCall (op_any_call [((0, 0), (0, 0))] [((0, 0), (0, 0))] hc) trivial ?_
  refine wRUN (j2 hr0 hg0) ?_
  exact wRetOf (ret_of [((0, 0), (0, 0))] []) Tryz.results175 hx
theorem l1Key_ac (bs : List Nat) (hb : BytesOk bs) (a : Nat) (ha : a ≤ 1000000) : AC Tryz.prog 176 [.ptr (0, 0) 0] (srcM bs a) (.c (.str (keyN bs a))) (srcM bs (a + 1)) := by
  have hc := l1Next_ac bs hb a 4 ha (by omega)
  have hlt := nextN_lt bs a (n := 4) (by omega)
  obtain ⟨hr0, hg0⟩ := row_strs8 (L := keyWords) hlt
  have hp : keyN bs a = keyWords[nextN bs a 4] := by
    unfold keyN
    rw [List.getD_eq_getElem?_getD, List.getElem?_eq_getElem (by exact hlt), Option.getD_some]
  rw [hp]
  generalize hx : keyWords[nextN bs a 4] = x at *
  generalize nextN bs a 4 = i at *
  unfold keyWords at hr0 hg0
  simp only [List.map_cons, List.map_nil, strCs] at hr0 hg0
  refine wEnter Tryz.func176 Tryz.ntmps176 ?_
  refine wRUN trivial ?_
  refine wCall (op_any_call [((0, 0), (0, 0))] [((0, 0), (0, 0))] hc) trivial ?_
  refine wRUN (j2 hr0 hg0) ?_
  exact wRetOf (ret_of [((0, 0), (0, 0))] []) Tryz.results176 hx
end Go.Proofs.YtfmnoljflcpbgaaGreatDoor
