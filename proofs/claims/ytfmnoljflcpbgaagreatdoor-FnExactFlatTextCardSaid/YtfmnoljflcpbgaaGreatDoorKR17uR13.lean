/- Texts of this proof: R17 R13. -/
import Derived.Test.YtfmnoljflcpbgaaGreatDoorKR16
import Derived.Test.YtfmnoljflcpbgaaGreatDoorKR14
import Derived.Test.YtfmnoljflcpbgaaGreatDoorKG27uR12
import Derived.Test.YtfmnoljflcpbgaaGreatDoorKG20uG24
set_option linter.unusedSimpArgs false
set_option linter.unusedVariables false
set_option linter.unnecessarySimpa false
namespace Go.Proofs.YtfmnoljflcpbgaaGreatDoor
open Go.RowKit Go.Shelf
theorem joinS_eq (sep : ByteArray) : ∀ l : List ByteArray, (⟨(Lib.join (l.map (·.data.toList)) sep.data.toList).toArray⟩ : ByteArray) = joinS sep l
  | [] => rfl
  | [x] => by rw [List.map_cons, List.map_nil, Lib.join_one]; rfl
  | x :: y :: r => by
    have ih := joinS_eq sep (y :: r)
    rw [joinS_cons sep x (by simp), ← ih]
    have e : Lib.join (List.map (fun x : ByteArray => x.data.toList) (x :: y :: r)) sep.data.toList = x.data.toList ++ sep.data.toList ++ Lib.join (List.map (fun x : ByteArray => x.data.toList) (y :: r)) sep.data.toList := by
      simp [Lib.join, List.intercalate]
    rw [e, ← str_mk_append, ← str_mk_append]
theorem join_ac (l : List ByteArray) (sep : ByteArray) (hl : l.length ≤ 1000000) (hsz : (joinS sep l).size ≤ 1000000000) : AC Tryz.prog 81 [.c (.sl (l.map strCs)), .c (.str sep)] [] (.c (.str (joinS sep l))) [] := by
  refine AC.of_calls fun S w κ vs hv => ?_
  obtain ⟨v, vs', rfl, h1, v2, vs2, rfl, ⟨rfl, _⟩, rfl⟩ := hv
  obtain ⟨A, cap, rfl, hcap, hc⟩ := cr_strs.1 h1
  by_cases h0 : l = []
  · subst h0
    refine (Any.strings_Join_none join_lays join_extra A cap sep w).mono ?_
    rintro e w' ⟨rfl, rfl⟩
    exact ⟨Below.refl _ _, _, rfl, fun T _ _ => ⟨rfl, rfl⟩⟩
  · have hp : 0 < l.length := List.length_pos_iff.2 h0
    obtain ⟨b, o, rfl, hb⟩ : ∃ b o, A = some ⟨b, o, none⟩ ∧ (b < w.heap.size ∧ ∀ (j : Nat) x, l[j]? = some x → w.cell? ⟨b, o + j, none⟩ = some (.string x)) := by
      obtain ⟨b, off, rfl, _, hbl, hcl⟩ := hc.2 (by simpa using hp)
      refine ⟨b, off, rfl, hbl, fun j x hx => ?_⟩
      have := hcl j [.string x] (by simp [hx]) 0 _ rfl
      simpa using this
    refine (Any.strings_Join join_lays join_extra b o cap l sep w hb.2 hb.1 (by omega) hcap ?_).mono ?_
    · have := joinS_eq sep l
      rw [← this] at hsz
      have h2 : (⟨(Lib.join (l.map (·.data.toList)) sep.data.toList).toArray⟩ : ByteArray).size = (Lib.join (l.map (·.data.toList)) sep.data.toList).length := by show (List.toArray _).size = _; simp
      omega
    · rintro e w' ⟨rfl, hbw⟩
      exact ⟨hbw, _, rfl, fun T _ _ => ⟨joinS_eq sep l ▸ rfl, rfl⟩⟩
end Go.Proofs.YtfmnoljflcpbgaaGreatDoor

/- impl.pathText, impl.PathText. -/
namespace Go.Proofs.YtfmnoljflcpbgaaGreatDoor
open Go.RowKit
set_option maxRecDepth 10000
variable {o : Obj}
set_option maxHeartbeats 8000000 in
theorem pathText_ac {ks : List V} (hr : ∀ v ∈ ks, v.right) (hl : ks.length ≤ 200) : AC Tryz.prog 47 [valsA ks] (tabM o) (.c (.str (pathS ks))) (tabM o) := by
  have h0 : pathS (ks.take 0) = ⟨#[46]⟩ := rfl
  have hlk : (ks.map V.cs).length = ks.length := by simp
  refine wEnter Tryz.func47 Tryz.ntmps47 ?_
  refine wRUN trivial ?_
  refine a_loop (κ := Nat) (fun k => ⟨mkS 0 31 [(0, valsA ks), (3, .c (.str (pathS (ks.take k)))), (6, valsA ks), (7, .c (.int .i64 ks.length)), (8, .c (.int .i64 k))], (tabM o)⟩) (fun k => k ≤ ks.length) (fun k => ks.length - k) 0 (Nat.zero_le _) ?_ ?_
  · exact wSays (Says.of [((8, 0), (8, 0))] []) (j2 h0 hlk)
  · intro k hk1
    have hz := pathS_size hr k hk1
    by_cases hlt : k < ks.length
    · have hdk : decide ((k : Int) < (ks.length : Int)) = true := by simpa using hlt
      have hw := wrap_succ (k := k) (by omega)
      have hv : ks[k]? = some ks[k] := List.getElem?_eq_getElem hlt
      have hrk := hr _ (List.getElem_mem hlt)
      have hg : (ks.map V.cs)[k]? = some [.int .i64 ks[k].kind, .int .i64 ks[k].num, .str ks[k].text, .sl (ks[k].keys.map strCs), .sl (ks[k].kids.map V.cs)] := by simp [hlt, V.cs_eq]
      have hra : rowsAt (ks.map V.cs) 5 k = true := by simp [rowsAt, hlt, V.cs_eq]
      have hnx := pathS_next hv
      have hes := elS_size hrk
      have hn := right_num hrk
      have hs := okText_size (right_text hrk)
      generalize ks[k] = v at *
      have hnx2 : pathS (ks.take k) ++ (⟨#[91]⟩ ++ elS v ++ ⟨#[93]⟩) = pathS (ks.take (k + 1)) := by rw [hnx]; rfl
      have hx1 : 1 + (elS v).size ≤ 9223372036854775807 := by omega
      have hy2 : (⟨#[91]⟩ ++ elS v).size = 1 + (elS v).size := by rw [ByteArray.size_append, one_size]
      have hy3 : (⟨#[91]⟩ ++ elS v ++ ⟨#[93]⟩).size = 1 + (elS v).size + 1 := by rw [ByteArray.size_append, hy2, one_size]
      generalize hu1 : ⟨#[91]⟩ ++ elS v = u1 at *
      generalize hu2 : u1 ++ ⟨#[93]⟩ = u2 at *
      have hx2 : u1.size + 1 ≤ 9223372036854775807 := by omega
      have hx3 : (pathS (ks.take k)).size + u2.size ≤ 9223372036854775807 := by omega
      by_cases k4 : v.kind = 4
      · have b4 : (v.kind == 4) = true := by simp [k4]
        have he : elS v = encS v.text := by unfold elS; rw [if_pos k4]
        rw [he] at hu1 hx1
        have hc := encodeString_ac v.text (by omega)
        refine wRUN (j5 hlk hdk hg hra b4) ?_
        refine w7 (op_data [] hc) trivial ?_
        refine wRUN (j7 hx1 hu1 hx2 hu2 hx3 hnx2 hw) ?_
        refine ⟨k + 1, by omega, by omega, ?_⟩
        exact wSays (Says.of [((8, 0), (8, 0))] []) trivial
      · have b4 : (v.kind == 4) = false := by simp [k4]
        have he : elS v = numS v.num := by unfold elS; rw [if_neg k4]
        rw [he] at hu1 hx1
        have hc := formatInt_ac (o := o) v.num (by omega) (by omega)
        refine wRUN (j5 hlk hdk hg hra b4) ?_
        refine wCall (op_any_call [((8, 0), (8, 0))] [((8, 0), (8, 0))] hc) trivial ?_
        refine wRUN (j7 hx1 hu1 hx2 hu2 hx3 hnx2 hw) ?_
        refine ⟨k + 1, by omega, by omega, ?_⟩
        exact wSays (Says.of [((8, 0), (8, 0))] []) trivial
    · have hdk : decide ((k : Int) < (ks.length : Int)) = false := by simpa using hlt
      obtain rfl : k = ks.length := by omega
      have ha : ks.take ks.length = ks := List.take_length
      refine wRUN (j2 hdk ha) ?_
      exact wRetOf (ret_of [((8, 0), (8, 0))] []) Tryz.results47 ha
set_option maxHeartbeats 8000000 in
theorem implPathText_bad (ps : List CellD) (hz : Sized ps) {c : Int} (hc : c ≠ 0) (h : pathDec ps = (c, none)) : AC Tryz.prog 13 [cellsA ps] (tabM o) (.agg [.c (.int .i64 c), .c (.str ByteArray.empty)]) (tabM o) := by
  have h1 := pathOf_bad ps hz h
  have hb : (c != 0) = true := by simpa using hc
  refine wEnter Tryz.func13 Tryz.ntmps13 ?_
  refine wRUN trivial ?_
  refine w7 (op_data [] h1) trivial ?_
  refine wRUN hb ?_
  exact wRetOf (ret_of [((8, 0), (8, 0))] []) Tryz.results13 hb
set_option maxHeartbeats 8000000 in
theorem implPathText_ac (ps : List CellD) (hz : Sized ps) {ks : List V} (h : pathDec ps = (0, some ks)) (hr : ∀ v ∈ ks, v.right) (hl : ks.length ≤ 200) : AC Tryz.prog 13 [cellsA ps] (tabM o) (.agg [.c (.int .i64 0), .c (.str (pathS ks))]) (tabM o) := by
  have h1 := pathOf_ac ps hz h
  have h2 := pathText_ac (o := o) hr hl
  have hne : ((0 : Int) != 0) = false := rfl
  refine wEnter Tryz.func13 Tryz.ntmps13 ?_
  refine wRUN trivial ?_
  refine w9 (op_shared [] h1) trivial ?_
  refine wRUN hne ?_
  refine wCall (op_any_call [((8, 0), (8, 0))] [((8, 0), (8, 0))] h2) trivial ?_
  refine wRUN hne ?_
  exact wRetOf (ret_of [((8, 0), (8, 0))] []) Tryz.results13 hne
end Go.Proofs.YtfmnoljflcpbgaaGreatDoor
