/- Texts of this proof: G27 S02 G55 R12. -/
import Derived.Test.YtfmnoljflcpbgaaGreatDoorKG26
import Derived.Test.YtfmnoljflcpbgaaGreatDoorKT01
import Derived.Shelf.SlGeneric
import Derived.Shelf.SlLaysM
import Derived.Test.YtfmnoljflcpbgaaGreatDoorKM2
import Derived.Test.YtfmnoljflcpbgaaGreatDoorKG20uG24
import Derived.Test.YtfmnoljflcpbgaaGreatDoorKE6
import Derived.Test.YtfmnoljflcpbgaaGreatDoorKG14
import Derived.Shelf.SortM.Plain
import Derived.Shelf.SortM.SortNone
import Derived.Test.YtfmnoljflcpbgaaGreatDoorKG04
import Derived.Sort.OwnSorted
import Derived.Test.YtfmnoljflcpbgaaGreatDoorKE35uG02
import Derived.Test.YtfmnoljflcpbgaaGreatDoorKG07
import Derived.Test.YtfmnoljflcpbgaaGreatDoorKG25
import Derived.Test.YtfmnoljflcpbgaaGreatDoorKR11
import Derived.Test.YtfmnoljflcpbgaaGreatDoorKG05uG06
set_option linter.unusedSimpArgs false
set_option linter.unusedVariables false
set_option linter.unnecessarySimpa false
namespace Go.Proofs.YtfmnoljflcpbgaaGreatDoor
open Go.RowKit
set_option maxRecDepth 10000
theorem specPath_ac (ps : List CellD) : AC Tryz.prog 42 [cellsA ps] [] (.c (.int .i64 (pathDec ps).1)) [] := by
  refine AC.of_calls fun S w κ vs hv => ?_
  obtain ⟨v, vs', rfl, h1, rfl⟩ := hv
  obtain ⟨A, cap, rfl, hcap, hc⟩ := cr_cells.1 h1
  refine (specPathFault_any ps A cap hcap S w hc).mono ?_
  rintro e w' ⟨rfl, hb⟩
  exact ⟨hb, _, rfl, fun T _ _ => ⟨rfl, rfl⟩⟩
theorem l13Asked_one (xs ps : List CellD) (h0 : (dec xs).1 ≠ 0) : AC Tryz.prog 119 [cellsA xs, cellsA ps] [] (.c (.int .i64 (dec xs).1)) [] := by
  have hb : ((dec xs).1 != 0) = true := by simpa using h0
  have hv := fault_ac xs
  refine wEnter Tryz.func119 Tryz.ntmps119 ?_
  refine wRUN trivial ?_
  refine w7 (op_data [] hv) trivial ?_
  refine wRUN hb ?_
  exact wRet (ret_data []) Tryz.results119
theorem l13Asked_two (xs ps : List CellD) (h0 : (dec xs).1 = 0) : AC Tryz.prog 119 [cellsA xs, cellsA ps] [] (.c (.int .i64 (pathDec ps).1)) [] := by
  have hb : ((0 : Int) != 0) = false := rfl
  have hv := fault_ac xs
  rw [h0] at hv
  have hp := specPath_ac ps
  refine wEnter Tryz.func119 Tryz.ntmps119 ?_
  refine wRUN trivial ?_
  refine w7 (op_data [] hv) trivial ?_
  refine wRUN hb ?_
  refine w7 (op_data [] hp) trivial ?_
  refine wRUN trivial ?_
  exact wRet (ret_data []) Tryz.results119
end Go.Proofs.YtfmnoljflcpbgaaGreatDoor

/- slices.Sort at []string: that the program bears its closure (printed by gen_lay.py out of the kit's own laying). -/
namespace Go.Proofs.YtfmnoljflcpbgaaGreatDoor
open Go.RowKit Go.Shelf
end Go.Proofs.YtfmnoljflcpbgaaGreatDoor

/- spec.l1Told, l14Merge, MergeValues; impl.MergeValues, by the engine. -/
namespace Go.Proofs.YtfmnoljflcpbgaaGreatDoor
open Go.RowKit
set_option maxRecDepth 10000
theorem enc_rows (t : V) : rowsAt (t.enc.map CellD.cs) 5 0 = true := by unfold rowsAt; rw [show (0 : Int).toNat = 0 from rfl, enc_head]; rfl
end Go.Proofs.YtfmnoljflcpbgaaGreatDoor

/- The text of a path: what it is; spec.l2Encode at a path's keys; spec.PathText. -/
namespace Go.Proofs.YtfmnoljflcpbgaaGreatDoor
open Go.RowKit
set_option maxRecDepth 10000
/-- A path's key as a text. -/
def elS (v : V) : ByteArray := if v.kind = 4 then encS v.text else numS v.num
def elS' (v : V) : ByteArray := ⟨#[91]⟩ ++ elS v ++ ⟨#[93]⟩
/-- A path as a text. -/
def pathS (ks : List V) : ByteArray := ks.foldl (fun a v => a ++ elS' v) ⟨#[46]⟩
theorem one_size (b : UInt8) : (⟨#[b]⟩ : ByteArray).size = 1 := rfl
theorem numS_size {n : Int} (h : -1000000000000000 ≤ n ∧ n ≤ 1000000000000000) : (numS n).size ≤ 21 := by
  have h1 := Lib.itoa_length_le n (by omega) (by omega)
  show (Lib.itoa n).toArray.size ≤ 21
  simpa using h1
theorem encS_size {s : ByteArray} (h : s.size ≤ 60) : (encS s).size ≤ 122 := by
  have h1 := escL_len s.data.toList
  have h2 : cz s.data.toList ≤ s.data.toList.length := List.length_filter_le _ _
  have h3 : s.data.toList.length = s.size := Array.length_toList
  unfold encS
  rw [ByteArray.size_append, ByteArray.size_append, one_size]
  have : (⟨(escL s.data.toList).toArray⟩ : ByteArray).size = (escL s.data.toList).length := by show (escL s.data.toList).toArray.size = _; simp
  omega
theorem elS_size {v : V} (hv : v.right) : (elS v).size ≤ 122 := by
  unfold elS
  split
  · exact encS_size (okText_size (right_text hv))
  · have := numS_size (right_num hv); omega
theorem pathS_next {ks : List V} {k : Nat} {v : V} (h : ks[k]? = some v) : pathS (ks.take (k + 1)) = pathS (ks.take k) ++ elS' v := by
  obtain ⟨hk, rfl⟩ := List.getElem?_eq_some_iff.1 h
  unfold pathS
  rw [List.take_succ_eq_append_getElem hk, List.foldl_append]
  rfl
theorem pathS_size {ks : List V} (hr : ∀ v ∈ ks, v.right) : ∀ k, k ≤ ks.length → (pathS (ks.take k)).size ≤ 1 + 124 * k := by
  intro k
  induction k with
  | zero => intro _; simp [pathS]; exact Nat.le_of_eq (one_size 46)
  | succ k ih =>
    intro hk
    have h1 := ih (by omega)
    have hv : ks[k]? = some ks[k] := List.getElem?_eq_getElem (by omega)
    have h2 := elS_size (hr _ (List.getElem_mem (by omega : k < ks.length)))
    rw [pathS_next hv, ByteArray.size_append]
    unfold elS'
    rw [ByteArray.size_append, ByteArray.size_append, one_size, one_size]
    omega
set_option maxHeartbeats 8000000 in
theorem encLeaf_ac {t : V} (ht : t.right) (hb : badKid t = false) : AC Tryz.prog 44 [cellsA t.enc] [] (.c (.str (elS t))) [] := by
  have ra := enc_rows t
  have ga := enc_head t
  have hn := right_num ht
  have hs := okText_size (right_text ht)
  unfold elS
  by_cases k4 : t.kind = 4
  · have b0 : (t.kind == 0) = false := by simp [k4]
    have b1 : (t.kind == 1) = false := by simp [k4]
    have b2 : (t.kind == 2) = false := by simp [k4]
    have b3 : (t.kind == 3) = false := by simp [k4]
    have b4 : (t.kind == 4) = true := by simp [k4]
    have h1 := quote_ac t.text (by omega)
    rw [if_pos k4]
    refine wEnter Tryz.func44 Tryz.ntmps44 ?_
    refine wRUN (j7 ra ga b0 b1 b2 b3 b4) ?_
    refine w7 (op_data [] h1) trivial ?_
    refine wRUN trivial ?_
    exact wRet (ret_data []) Tryz.results44
  · have k3 : t.kind = 3 := by
      unfold badKid at hb
      simpa [k4] using hb
    have b0 : (t.kind == 0) = false := by simp [k3]
    have b1 : (t.kind == 1) = false := by simp [k3]
    have b2 : (t.kind == 2) = false := by simp [k3]
    have b3 : (t.kind == 3) = true := by simp [k3]
    have h1 := decimal_ac t.num (by omega) (by omega)
    rw [if_neg k4]
    refine wEnter Tryz.func44 Tryz.ntmps44 ?_
    refine wRUN (j6 ra ga b0 b1 b2 b3) ?_
    refine w7 (op_data [] h1) trivial ?_
    refine wRUN trivial ?_
    exact wRet (ret_data []) Tryz.results44
theorem specPathText_bad (ps : List CellD) {c : Int} (hc : c ≠ 0) (h : pathDec ps = (c, none)) : AC Tryz.prog 11 [cellsA ps] [] (.agg [.c (.int .i64 c), .c (.str ByteArray.empty)]) [] := by
  have h1 := specPath_ac ps
  rw [h] at h1
  have hb : (c != 0) = true := by simpa using hc
  refine wEnter Tryz.func11 Tryz.ntmps11 ?_
  refine wRUN trivial ?_
  refine w7 (op_data [] h1) trivial ?_
  refine wRUN hb ?_
  exact wRetOf (ret_of [] []) Tryz.results11 hb
set_option maxHeartbeats 8000000 in
theorem specPathText_ac {q : V} (hq : q.right) (hp : pathDec q.enc = (0, some q.kids)) (hbk : q.kids.any badKid = false) : AC Tryz.prog 11 [cellsA q.enc] [] (.agg [.c (.int .i64 0), .c (.str (pathS q.kids))]) [] := by
  have h1 := specPath_ac q.enc
  rw [hp] at h1
  have hc : q.kids.length ≤ 200 := by have := count_kids q; have := hq.2.1; have := countL_len q.kids; omega
  have h2 := l1Parts_ac hq.1 hq.2.1
  have hlk : ((q.kids.map V.enc).map encCs).length = q.kids.length := by simp
  have h0 : pathS (q.kids.take 0) = ⟨#[46]⟩ := rfl
  have hr : ∀ v ∈ q.kids, v.right := fun v hv => right_mem hq hv
  have hne : ((0 : Int) != 0) = false := rfl
  refine wEnter Tryz.func11 Tryz.ntmps11 ?_
  refine wRUN trivial ?_
  refine w7 (op_data [] h1) trivial ?_
  refine wRUN hne ?_
  refine w9 (op_shared [] h2) trivial ?_
  refine wRUN hne ?_
  refine a_loop (κ := Nat) (fun k => ⟨mkS 0 32 [(0, cellsA q.enc), (2, .ptr (2, 0) 0), (3, .c (.int .i64 0)), (4, .c (.str (pathS (q.kids.take k)))), (5, .c (.sl ((q.kids.map V.enc).map encCs))), (6, .c (.int .i64 k))], [((2, 0), .box [.c (.int .i64 0), .c (.str ByteArray.empty)])]⟩) (fun k => k ≤ q.kids.length) (fun k => q.kids.length - k) 0 (Nat.zero_le _) ?_ ?_
  · exact wSays (Says.of [((2, 0), (2, 0))] []) h0
  · intro k hk1
    have hz := pathS_size hr k hk1
    by_cases hlt : k < q.kids.length
    · have hdk : decide ((k : Int) < (q.kids.length : Int)) = true := by simpa using hlt
      have hw := wrap_succ (k := k) (by omega)
      have hv : q.kids[k]? = some q.kids[k] := List.getElem?_eq_getElem hlt
      have hmem : q.kids[k] ∈ q.kids := List.getElem_mem hlt
      have hrk := hr _ hmem
      have hbk1 : badKid q.kids[k] = false := by
        have := List.any_eq_false.1 hbk _ hmem
        simpa using this
      have hg : ((q.kids.map V.enc).map encCs)[k]? = some [.sl (q.kids[k].enc.map CellD.cs)] := by simp [hlt, encCs]
      have hra : rowsAt ((q.kids.map V.enc).map encCs) 1 k = true := by simp [rowsAt, hlt, encCs]
      have hnx := pathS_next hv
      have hes := elS_size hrk
      have he := encLeaf_ac hrk hbk1
      unfold elS' at hnx
      generalize q.kids[k] = v at *
      have hx1 : (pathS (q.kids.take k)).size + 1 ≤ 9223372036854775807 := by omega
      have hy2 : (pathS (q.kids.take k) ++ ⟨#[91]⟩).size = (pathS (q.kids.take k)).size + 1 := by rw [ByteArray.size_append, one_size]
      have hy3 : (pathS (q.kids.take k) ++ ⟨#[91]⟩ ++ elS v).size = (pathS (q.kids.take k)).size + 1 + (elS v).size := by rw [ByteArray.size_append, hy2]
      have hnx2 : pathS (q.kids.take k) ++ ⟨#[91]⟩ ++ elS v ++ ⟨#[93]⟩ = pathS (q.kids.take (k + 1)) := by rw [hnx]; simp only [ByteArray.append_assoc]
      generalize hu1 : pathS (q.kids.take k) ++ ⟨#[91]⟩ = u1 at *
      generalize hu2 : u1 ++ elS v = u2 at *
      have hx2 : u1.size + (elS v).size ≤ 9223372036854775807 := by omega
      have hx3 : u2.size + 1 ≤ 9223372036854775807 := by omega
      refine wRUN (j6 hlk hdk hg hra hx1 hu1) ?_
      refine w7 (op_data [] he) trivial ?_
      refine wRUN (j5 hx2 hu2 hx3 hnx2 hw) ?_
      refine ⟨k + 1, by omega, by omega, ?_⟩
      exact wSays (Says.of [((2, 0), (2, 0))] []) trivial
    · have hdk : decide ((k : Int) < (q.kids.length : Int)) = false := by simpa using hlt
      obtain rfl : k = q.kids.length := by omega
      have ha : q.kids.take q.kids.length = q.kids := List.take_length
      refine wRUN (j3 hlk hdk ha) ?_
      exact wRetOf (ret_of [] []) Tryz.results11 ha
end Go.Proofs.YtfmnoljflcpbgaaGreatDoor
