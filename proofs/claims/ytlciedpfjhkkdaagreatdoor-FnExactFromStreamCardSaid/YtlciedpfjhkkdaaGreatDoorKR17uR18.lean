/- Texts of this proof: R17 R13 R18. -/
import Derived.Test.YtlciedpfjhkkdaaGreatDoorKR16
import Derived.Test.YtlciedpfjhkkdaaGreatDoorKR11uR14
import Derived.Test.YtlciedpfjhkkdaaGreatDoorKG22uG27
set_option linter.unusedSimpArgs false
set_option linter.unusedVariables false
set_option linter.unnecessarySimpa false
set_option maxHeartbeats 8000000
namespace Go.Proofs.YtlciedpfjhkkdaaGreatDoor
open Go.RowKit Go.Shelf
theorem joinS_eq (sep : ByteArray) : ∀ l : List ByteArray, (⟨(Lib.join (l.map (·.data.toList)) sep.data.toList).toArray⟩ : ByteArray) = joinS sep l
 | [] => rfl
 | [x] => by rw [List.map_cons, List.map_nil, Lib.join_one]; rfl
 | x :: y :: r => by
  have ih := joinS_eq sep (y :: r)
  rw [joinS_cons sep x (by simp), ← ih]
  have e : Lib.join (List.map (fun x : ByteArray => x.data.toList) (x :: y :: r)) sep.data.toList = x.data.toList ++ sep.data.toList ++ Lib.join (List.map (fun x : ByteArray => x.data.toList) (y :: r)) sep.data.toList := by
   simp [Lib.join, List.intercalate]
  rw [e, ← str_mk_append, ← str_mk_append]
theorem join_ac (l : List ByteArray) (sep : ByteArray) (hl : l.length ≤ 1000000) (hsz : (joinS sep l).size ≤ 1000000000) : AC Tryz.prog 114 [.c (.sl (l.map strCs)), .c (.str sep)] [] (.c (.str (joinS sep l))) [] := by
 refine AC.of_calls fun S w κ vs hv => ?_
 obtain ⟨v, vs', rfl, h1, v2, vs2, rfl, ⟨rfl, _⟩, rfl⟩ := hv
 obtain ⟨A, cap, rfl, hcap, hc⟩ := cr_strs.1 h1
 by_cases h0 : l = []
 ·subst h0
  refine (Any.strings_Join_none join_lays join_extra A cap sep w).mono ?_
  rintro e w' ⟨rfl, rfl⟩
  exact ⟨Below.refl _ _, _, rfl, fun T _ _ => ⟨rfl, rfl⟩⟩
 ·have hp : 0 < l.length := List.length_pos_iff.2 h0
  obtain ⟨b, o, rfl, hb⟩ : ∃ b o, A = some ⟨b, o, none⟩ ∧ (b < w.heap.size ∧ ∀ (j : Nat) x, l[j]? = some x → w.cell? ⟨b, o + j, none⟩ = some (.string x)) := by
   obtain ⟨b, off, rfl, _, hbl, hcl⟩ := hc.2 (by simpa using hp)
   refine ⟨b, off, rfl, hbl, fun j x hx => ?_⟩
   have := hcl j [.string x] (by simp [hx]) 0 _ rfl
   simpa using this
  refine (Any.strings_Join join_lays join_extra b o cap l sep w hb.2 hb.1 (by omega) hcap ?_).mono ?_
  ·have := joinS_eq sep l
   rw [← this] at hsz
   have h2 : (⟨(Lib.join (l.map (·.data.toList)) sep.data.toList).toArray⟩ : ByteArray).size = (Lib.join (l.map (·.data.toList)) sep.data.toList).length := by show (List.toArray _).size = _; simp
   omega
  ·rintro e w' ⟨rfl, hbw⟩
   exact ⟨hbw, _, rfl, fun T _ _ => ⟨joinS_eq sep l ▸ rfl, rfl⟩⟩
end Go.Proofs.YtlciedpfjhkkdaaGreatDoor
namespace Go.Proofs.YtlciedpfjhkkdaaGreatDoor
open Go.RowKit
set_option maxRecDepth 10000
variable {o : Obj}
end Go.Proofs.YtlciedpfjhkkdaaGreatDoor
namespace Go.Proofs.YtlciedpfjhkkdaaGreatDoor
open Go.RowKit
set_option maxRecDepth 10000
variable {o : Obj}
theorem encodeV_ac : ∀ (n : Nat) (t : V), t.count ≤ n → t.right → AC Tryz.prog 61 [t.av] (tabM o) (.c (.str t.txt)) (tabM o) := by
 intro n
 induction n with
 | zero => intro t hn _; have := count_pos t; omega
 | succ n ih =>
  intro t hn ht
  have hk := right_kind ht
  have hnum := right_num ht
  have hs := okText_size (right_text ht)
  have hcase : t.kind = 0 ∨ t.kind = 1 ∨ t.kind = 2 ∨ t.kind = 3 ∨ t.kind = 4 ∨ (t.kind = 5 ∨ t.kind = 6) := by omega
  rcases hcase with h | h | h | h | h | h
  ·have b0 : (t.kind == 0) = true := by simp [h]
   have hr : nullS = ⟨#[110, 117, 108, 108]⟩ := rfl
   rw [txt_null h]
   refine wEnter Tryz.func61 Tryz.ntmps61 ?_
   refine wRUN b0 ?_
   exact wRetOf (ret_of [((8, 0), (8, 0))] []) Tryz.results61 hr
  ·have b0 : (t.kind == 0) = false := by simp [h]
   have b1 : (t.kind == 1) = true := by simp [h]
   have hr : falseS = ⟨#[102, 97, 108, 115, 101]⟩ := rfl
   rw [txt_false h]
   refine wEnter Tryz.func61 Tryz.ntmps61 ?_
   refine wRUN (j2 b0 b1) ?_
   exact wRetOf (ret_of [((8, 0), (8, 0))] []) Tryz.results61 hr
  ·have b0 : (t.kind == 0) = false := by simp [h]
   have b1 : (t.kind == 1) = false := by simp [h]
   have b2 : (t.kind == 2) = true := by simp [h]
   have hr : trueS = ⟨#[116, 114, 117, 101]⟩ := rfl
   rw [txt_true h]
   refine wEnter Tryz.func61 Tryz.ntmps61 ?_
   refine wRUN (j3 b0 b1 b2) ?_
   exact wRetOf (ret_of [((8, 0), (8, 0))] []) Tryz.results61 hr
  ·have b0 : (t.kind == 0) = false := by simp [h]
   have b1 : (t.kind == 1) = false := by simp [h]
   have b2 : (t.kind == 2) = false := by simp [h]
   have b3 : (t.kind == 3) = true := by simp [h]
   have h1 := formatInt_ac (o := o) t.num (by omega) (by omega)
   rw [txt_num h]
   refine wEnter Tryz.func61 Tryz.ntmps61 ?_
   refine wRUN (j4 b0 b1 b2 b3) ?_
   refine wCall (op_any_call [((8, 0), (8, 0))] [((8, 0), (8, 0))] h1) trivial ?_
   refine wRUN trivial ?_
   exact wRetOf (ret_of [((8, 0), (8, 0))] []) Tryz.results61 b0
  ·have b0 : (t.kind == 0) = false := by simp [h]
   have b1 : (t.kind == 1) = false := by simp [h]
   have b2 : (t.kind == 2) = false := by simp [h]
   have b3 : (t.kind == 3) = false := by simp [h]
   have b4 : (t.kind == 4) = true := by simp [h]
   have h1 := encodeString_ac t.text (by omega)
   rw [txt_str h]
   refine wEnter Tryz.func61 Tryz.ntmps61 ?_
   refine wRUN (j5 b0 b1 b2 b3 b4) ?_
   refine w7 (op_data [] h1) trivial ?_
   refine wRUN trivial ?_
   exact wRetOf (ret_of [((8, 0), (8, 0))] []) Tryz.results61 b0
  ·have b0 : (t.kind == 0) = false := by simp; omega
   have b1 : (t.kind == 1) = false := by simp; omega
   have b2 : (t.kind == 2) = false := by simp; omega
   have b3 : (t.kind == 3) = false := by simp; omega
   have b4 : (t.kind == 4) = false := by simp; omega
   have hkl := kids_len_le ht.2.1
   have hlk : (t.kids.map V.cs).length = t.kids.length := by simp
   have h0 : (t.parts.take 0).map strCs = [] := rfl
   refine wEnter Tryz.func61 Tryz.ntmps61 ?_
   refine wRUN (j6 b0 b1 b2 b3 b4 hlk) ?_
   refine a_loop (κ := Nat) (fun k => ⟨mkS 0 64 [(1, .ptr (1, 0) 0), (3, .own (98, 0)), (27, .c (.sl (t.kids.map V.cs))), (28, .c (.int .i64 t.kids.length)), (29, .c (.int .i64 k))],
     [((1, 0), .box [.c (.int .i64 t.kind), .c (.int .i64 t.num), .c (.str t.text), .c (.sl (t.keys.map strCs)), .c (.sl (t.kids.map V.cs))]), ((98, 0), .row false 1 9 ((t.parts.take k).map strCs)), ((8, 0), .blk (tabR o) [])]⟩)
    (fun k => k ≤ t.kids.length) (fun k => t.kids.length - k) 0 (Nat.zero_le _) ?_ ?_
   ·exact wSays (Says.of [((1, 0), (1, 0)), ((98, 0), (25, 0)), ((8, 0), (8, 0))] []) h0
   ·intro k hk1
    have hz := join_size ht hk1
    by_cases hlt : k < t.kids.length
    ·have hdk : decide ((k : Int) < (t.kids.length : Int)) = true := by simpa using hlt
     have hw := wrap_succ (k := k) (by omega)
     have hr : rowsAt (t.kids.map V.cs) 5 k = true := by simp [rowsAt, hlt, V.cs_eq]
     have hg : (t.kids.map V.cs)[k]? = some [.int .i64 t.kids[k].kind, .int .i64 t.kids[k].num, .str t.kids[k].text, .sl (t.kids[k].keys.map strCs), .sl (t.kids[k].kids.map V.cs)] := by simp [hlt, V.cs_eq]
     have hks := right_keyAt ht k
     have hes := encS_size hks
     have hqk := encodeString_ac (t.keyAt k) (by omega)
     have hmem : t.kids[k] ∈ t.kids := List.getElem_mem hlt
     have hcm := countL_mem hmem
     have hck := count_kids t
     have hxs := txt_size' (right_mem ht hmem)
     have he := ih t.kids[k] (by omega) (right_mem ht hmem)
     have hpl : (t.parts.take k).length + 1 ≤ 1000000 := by rw [List.length_take]; omega
     have hnext : (t.parts.take k).map strCs ++ [[.str (t.part k t.kids[k])]] = (t.parts.take (k + 1)).map strCs := by
      rw [List.take_succ_eq_append_getElem (by rw [parts_len]; exact hlt), parts_at t hlt, List.map_append]; rfl
     unfold V.part at hnext
     rcases h with h | h
     ·have b6 : (t.kind == 6) = false := by simp [h]
      rw [if_neg (by omega)] at hnext
      generalize t.kids[k] = x at *
      refine wRUN (j3 hdk hr hg) ?_
      refine wCall (op_any_call [((8, 0), (8, 0))] [((8, 0), (8, 0))] he) trivial ?_
      refine wRUN (j3 b6 hpl hw) ?_
      refine ⟨k + 1, by omega, by omega, ?_⟩
      exact wSays (Says.of [((1, 0), (1, 0)), ((98, 0), (51, 0)), ((8, 0), (8, 0))] []) hnext
     ·have b6 : (t.kind == 6) = true := by simp [h]
      rw [if_pos h] at hnext
      obtain ⟨hkk, hkey⟩ := keyAt_get (right_neat ht) h hlt
      have hrk : rowsAt (t.keys.map strCs) 1 k = true := by simp [rowsAt, hkk, strCs]
      have hgk : (t.keys.map strCs)[k]? = some [.str (t.keyAt k)] := by simp [hkk, strCs, hkey]
      generalize t.kids[k] = x at *
      generalize t.keyAt k = key at *
      have x1 : (encS key).size + 1 ≤ 9223372036854775807 := by omega
      have x2 : (encS key ++ bS 58).size + x.txt.size ≤ 9223372036854775807 := by simp only [ByteArray.size_append, one_size]; omega
      generalize hv1 : encS key ++ bS 58 = v1 at *
      refine wRUN (j3 hdk hr hg) ?_
      refine wCall (op_any_call [((8, 0), (8, 0))] [((8, 0), (8, 0))] he) trivial ?_
      refine wRUN (j3 b6 hrk hgk) ?_
      refine w7 (op_data [] hqk) trivial ?_
      refine wRUN (j5 x1 hv1 x2 hpl hw) ?_
      refine ⟨k + 1, by omega, by omega, ?_⟩
      exact wSays (Says.of [((1, 0), (1, 0)), ((98, 0), (51, 0)), ((8, 0), (8, 0))] []) hnext
    ·have hdk : decide ((k : Int) < (t.kids.length : Int)) = false := by simpa using hlt
     obtain rfl : k = t.kids.length := by omega
     have hall : t.parts.take t.kids.length = t.parts := List.take_of_length_le (by rw [parts_len]; exact Nat.le_refl _)
     rw [hall] at hz
     have hj := join_ac t.parts (bS 44) (by rw [parts_len]; omega) (by omega)
     have hx1 : 1 + (joinS (bS 44) t.parts).size ≤ 9223372036854775807 := by omega
     rcases h with h | h
     ·have b5 : (t.kind == 5) = true := by simp [h]
      have hx2 : (bS 91 ++ joinS (bS 44) t.parts).size + 1 ≤ 9223372036854775807 := by rw [ByteArray.size_append, one_size]; omega
      have ht5 := (txt_arr h).symm
      generalize hv1 : bS 91 ++ joinS (bS 44) t.parts = v1 at *
      refine wRUN (j3 hdk b5 hall) ?_
      refine w7 (op_data [(98, 0)] hj) trivial ?_
      refine wRUN (j4 hx1 hv1 hx2 ht5) ?_
      exact wRetOf (ret_of [((8, 0), (8, 0))] []) Tryz.results61 ht5
     ·have b5 : (t.kind == 5) = false := by simp [h]
      have hx2 : (bS 123 ++ joinS (bS 44) t.parts).size + 1 ≤ 9223372036854775807 := by rw [ByteArray.size_append, one_size]; omega
      have ht5 := (txt_obj h).symm
      generalize hv1 : bS 123 ++ joinS (bS 44) t.parts = v1 at *
      refine wRUN (j3 hdk b5 hall) ?_
      refine w7 (op_data [(98, 0)] hj) trivial ?_
      refine wRUN (j4 hx1 hv1 hx2 ht5) ?_
      exact wRetOf (ret_of [((8, 0), (8, 0))] []) Tryz.results61 ht5
theorem encodeR_ac {t : V} (h : t.right) : AC Tryz.prog 61 [t.av] (tabM o) (.c (.str t.txt)) (tabM o) := encodeV_ac _ t (Nat.le_refl _) h
end Go.Proofs.YtlciedpfjhkkdaaGreatDoor
