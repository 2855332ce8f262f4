/- Texts of this proof: D21 G69 D22. -/
import Derived.Test.YtlciedpfjhkkdaaGreatDoorKE41uD20
import Derived.Test.YtlciedpfjhkkdaaGreatDoorKE6
import Derived.Test.YtlciedpfjhkkdaaGreatDoorKG8
import Derived.Lib.AppendZerosOnto
import Derived.Shelf.RegionOpenPlain
import Derived.Test.YtlciedpfjhkkdaaGreatDoorKD02uG08
import Derived.Test.YtlciedpfjhkkdaaGreatDoorKM2
import Derived.Lib.Bytealg
import Derived.Test.YtlciedpfjhkkdaaGreatDoorKG22uG9
import Derived.Test.YtlciedpfjhkkdaaGreatDoorKE5
import Derived.Test.YtlciedpfjhkkdaaGreatDoorKG04uM29
import Derived.Test.YtlciedpfjhkkdaaGreatDoorKR11uR14
import Derived.Test.YtlciedpfjhkkdaaGreatDoorKG16uD05
set_option linter.unusedSimpArgs false
set_option linter.unusedVariables false
set_option linter.unnecessarySimpa false
set_option maxHeartbeats 8000000
namespace Go.Proofs.YtlciedpfjhkkdaaGreatDoor
open Go.RowKit
set_option maxRecDepth 10000
variable {o1 o2 : Obj}
theorem strGo_in {s : ByteArray} : ∀ (n : Nat) (d : DS) (out : ByteArray), d.pl ≤ s.size → d.pl ≤ (d.strGo s n out).2.pl ∧ (d.strGo s n out).2.pl ≤ s.size
 | 0, d, out, h => ⟨Nat.le_refl _, h⟩
 | n + 1, d, out, h => by
  unfold DS.strGo
  split
  ·exact ⟨Nat.le_refl _, h⟩
  split
  ·rename_i hi
   obtain ⟨h1, _, _⟩ := is_lt (by decide) hi
   exact ⟨Nat.le_succ _, h1⟩
  split
  ·obtain ⟨g1, g2⟩ := strGo_in n (d.fail 5 d.pl) out (by rw [fail_pl]; exact h)
   rw [fail_pl] at g1
   exact ⟨g1, g2⟩
  rename_i hlt
  have hlt : d.pl < s.size := by omega
  split
  ·obtain ⟨_, e2, e3⟩ := escD_in (s := s) (d.go (d.pl + 1)) hlt
   obtain ⟨g1, g2⟩ := strGo_in n ((d.go (d.pl + 1)).escape s).2 (out ++ bOne ((d.go (d.pl + 1)).escape s).1) e3
   rw [go_pl] at e2
   exact ⟨by omega, g2⟩
  ·obtain ⟨g1, g2⟩ := strGo_in n (d.go (d.pl + 1)) (out ++ bOne (bAt s d.pl)) hlt
   rw [go_pl] at g1
   exact ⟨by omega, g2⟩
theorem strD_in {s : ByteArray} (d : DS) (h : d.pl ≤ s.size) : d.pl ≤ (d.str s).2.pl ∧ (d.str s).2.pl ≤ s.size := by
 obtain ⟨w1, w2, _⟩ := want_pl (s := s) (d := d) (b := 34) (by decide) h
 obtain ⟨g1, g2⟩ := strGo_in (s.size + 2) (d.want s 34) ByteArray.empty w2
 unfold DS.str
 simp only
 split
 ·rw [fail_pl]; exact ⟨by omega, g2⟩
 ·exact ⟨by omega, g2⟩
theorem listO_ac (s : ByteArray) (hs : s.size ≤ 100000) (rd : DS → V × DS) (n : Nat) (hn : n ≤ 100) (hpl : ∀ d, d.pl ≤ s.size → d.pl ≤ (rd d).2.pl ∧ (rd d).2.pl ≤ s.size)
  (hv : ∀ d, d.pl ≤ s.size → AC Tryz.prog 79 [.ptr (0, 0) 0, .c (.int .i64 ((n + 1 : Nat) : Int))] (dsE o1 o2 s d) (rd d).1.av (dsE o1 o2 s (rd d).2)) (d : DS) (hd : d.pl ≤ s.size) (hd1 : 1 ≤ d.pl) :
  AC Tryz.prog 141 [.ptr (0, 0) 0, .c (.int .u8 125), .clo 144 [.ptr (1, 0) 0, .ptr (2, 0) 0, .ptr (5, 0) 0, .ptr (3, 0) 0]] (memO o1 o2 s d [] [] n) (.tup []) (memO' o1 o2 s (DS.list s (memP s rd) 125 d ([], [])).1 (DS.list s (memP s rd) 125 d ([], [])).2.1 (DS.list s (memP s rd) 125 d ([], [])).2.2 n) := by
 have hs' : s.size ≤ 1000000 := by omega
 have hsk := skip_ac s hs' d hd
 obtain ⟨p1, p2⟩ := skip_pl (s := s) hd
 have htk := take_ac s hs' (d.skip s) p2 125 (by decide)
 unfold DS.list
 cases hi : (d.skip s).is s 125 with
 | true =>
  unfold DS.take at htk
  rw [hi] at htk
  simp only [if_true] at htk ⊢
  generalize (d.skip s).go ((d.skip s).pl + 1) = d2 at *
  generalize d.skip s = d1 at *
  simp only [dsM_eq] at htk hsk
  refine wEnter Tryz.func141 Tryz.ntmps141 ?_
  refine wRUN trivial ?_
  refine wCall (op_any_call [((0, 0), (0, 0))] [((0, 0), (0, 0))] hsk) trivial ?_
  refine wRUN trivial ?_
  refine wCall (op_any_call [((0, 0), (0, 0))] [((0, 0), (0, 0))] htk) trivial ?_
  refine wRUN trivial ?_
  exact wRetOf (ret_of [((0, 0), (0, 0)), ((8, 1), (8, 1)), ((1, 0), (1, 0)), ((4, 0), (1, 1)), ((5, 0), (5, 0)), ((6, 0), (5, 1)), ((2, 0), (2, 0)), ((3, 0), (3, 0))] []) Tryz.results141 hn
 | false =>
  unfold DS.take at htk
  rw [hi] at htk
  simp only [Bool.false_eq_true, if_false] at htk ⊢
  obtain ⟨R, hR⟩ : ∃ R, DS.listGo s (memP s rd) 125 (s.size + 1) (d.skip s) ([], []) = R := ⟨_, rfl⟩
  rw [hR]
  generalize d.skip s = d1 at *
  simp only [dsM_eq] at htk hsk
  (refine AC.intro_spx [(0, 0), (8, 1), (1, 0), (5, 0), (2, 0), (3, 0)] follows_mixed Tryz.func141 rfl Tryz.ntmps141 (Nat.le_of_ble_eq_true rfl) rfl rfl ?_; simp only [go_sem, Nat.reduceAdd])
  refine wRUN trivial ?_
  refine wCall (op_any_call [((0, 0), (0, 0))] [((0, 0), (0, 0))] hsk) trivial ?_
  refine wRUN trivial ?_
  refine wCall (op_any_call [((0, 0), (0, 0))] [((0, 0), (0, 0))] htk) trivial ?_
  refine wRUN trivial ?_
  refine a_loop (κ := DS × List ByteArray × List V) (fun k => ⟨mkS 0 27 [(0, .ptr (0, 0) 0), (1, .c (.int .u8 125)), (2, .clo 144 [.ptr (1, 0) 0, .ptr (2, 0) 0, .ptr (5, 0) 0, .ptr (3, 0) 0])],
    [((0, 0), .box [.c (.str s), .c (.int .i64 k.1.pl), .c (.int .i64 k.1.code), .c (.int .i64 k.1.bad)]), ((8, 1), .gen (errsR o1 o2)), ((1, 0), .box [.own (99, 0)]), ((99, 0), .row false 1 9 (k.2.1.map strCs)), ((5, 0), .box [.own (99, 1)]), ((99, 1), .row false 5 62 (k.2.2.map V.cs)), ((2, 0), .box [.ptr (0, 0) 0]), ((3, 0), .box [.c (.int .i64 n)])]⟩)
   (fun k => k.1.pl ≤ s.size ∧ k.2.1.length = k.2.2.length ∧ k.2.2.length + flagC k.1 ≤ k.1.pl + 1 ∧ ∃ m, s.size - k.1.pl + flagC k.1 < m + 1 ∧ DS.listGo s (memP s rd) 125 m k.1 k.2 = R) (fun k => s.size - k.1.pl + flagC k.1) (d1, [], []) ⟨p2, rfl, by dsimp only; unfold flagC; split <;> simp, s.size + 1, by dsimp only; unfold flagC; split <;> omega, hR⟩ ?_ ?_
  ·exact wSays (Says.of [((0, 0), (0, 0)), ((8, 1), (8, 1)), ((1, 0), (1, 0)), ((99, 0), (1, 1)), ((5, 0), (5, 0)), ((99, 1), (5, 1)), ((2, 0), (2, 0)), ((3, 0), (3, 0))] []) @List.map_nil.{0,0}
  ·rintro ⟨q, keys, kids⟩ ⟨hq, hkk, hkl, m, hm, hgo⟩
   dsimp only at hq hkk hkl hm hgo ⊢
   by_cases hc : q.code = 0
   ·have hcc : (q.code == 0) = true := by simpa using hc
    have hf1 : flagC q = 1 := by unfold flagC; rw [if_pos hc]
    rw [hf1] at hkl hm
    obtain ⟨m, rfl⟩ : ∃ m', m = m' + 1 := ⟨m - 1, by omega⟩
    unfold DS.listGo memP at hgo
    rw [if_neg (by simpa using hc)] at hgo
    simp only at hgo
    obtain ⟨s1, s2⟩ := strD_in q hq
    obtain ⟨a1, a2⟩ := skip_pl (s := s) s2
    obtain ⟨a3, a4, _⟩ := want_pl (s := s) (d := (q.str s).2.skip s) (b := 58) (by decide) a2
    obtain ⟨q5, hq5⟩ : ∃ q5, ((q.str s).2.skip s).want s 58 = q5 := ⟨_, rfl⟩
    have hvq := hv q5 (by rw [← hq5]; exact a4)
    obtain ⟨v1, v2⟩ := hpl q5 (by rw [← hq5]; exact a4)
    have hpl5 : q.pl ≤ q5.pl := by rw [← hq5]; omega
    have hp := part2_ac s hs q (rd q5).2 hq s2 keys kids (rd q5).1 n hn (by omega) (by omega) (by rw [hq5]; exact hvq)
    rw [hq5] at hgo
    generalize (q.str s).1 = key at *
    have hsk2 := skip_ac s hs' (rd q5).2 v2
    obtain ⟨k1, k2⟩ := skip_pl (s := s) v2
    have htk2 := take_ac s hs' ((rd q5).2.skip s) k2 125 (by decide)
    unfold DS.take at htk2
    cases hi2 : ((rd q5).2.skip s).is s 125 with
    | true =>
     rw [hi2] at hgo htk2
     simp only [if_true] at hgo htk2
     subst hgo
     simp only [dsM_eq] at htk2 hsk2
     generalize ((rd q5).2.skip s).go (((rd q5).2.skip s).pl + 1) = q3 at *
     generalize (rd q5).2.skip s = q2 at *
     refine wRUN hcc ?_
     refine wCall (op_any_call [((0, 0), (0, 0)), ((8, 1), (8, 1)), ((1, 0), (1, 0)), ((1, 1), (99, 0)), ((5, 0), (5, 0)), ((5, 1), (99, 1)), ((2, 0), (2, 0)), ((3, 0), (3, 0))] [((0, 0), (0, 0)), ((8, 1), (8, 1)), ((1, 0), (1, 0)), ((4, 0), (17, 0)), ((5, 0), (5, 0)), ((6, 0), (17, 1)), ((2, 0), (2, 0)), ((3, 0), (3, 0))] hp) trivial ?_
     refine wRUN trivial ?_
     refine wCall (op_any_call [((0, 0), (0, 0))] [((0, 0), (0, 0))] hsk2) trivial ?_
     refine wRUN trivial ?_
     refine wCall (op_any_call [((0, 0), (0, 0))] [((0, 0), (0, 0))] htk2) trivial ?_
     refine wRUN trivial ?_
     exact wRetOf (ret_of [((0, 0), (0, 0)), ((8, 1), (8, 1)), ((1, 0), (1, 0)), ((4, 0), (17, 0)), ((5, 0), (5, 0)), ((6, 0), (17, 1)), ((2, 0), (2, 0)), ((3, 0), (3, 0))] []) Tryz.results141 hn
    | false =>
     rw [hi2] at hgo htk2
     simp only [Bool.false_eq_true, if_false] at hgo htk2
     have hwa := want_ac s hs' ((rd q5).2.skip s) k2 44 (by decide)
     obtain ⟨w1, w2, w3⟩ := want_pl (s := s) (d := (rd q5).2.skip s) (b := 44) (by decide) k2
     have hwn := want_next (s := s) (d := (rd q5).2.skip s) (b := 44) (by decide)
     have hsk3 := skip_ac s hs' (((rd q5).2.skip s).want s 44) w2
     obtain ⟨j1, j2⟩ := skip_pl (s := s) w2
     have hcd := skip_code (s := s) (((rd q5).2.skip s).want s 44)
     obtain ⟨q4, hq4⟩ : ∃ q4, (((rd q5).2.skip s).want s 44).skip s = q4 := ⟨_, rfl⟩
     rw [hq4] at hgo hsk3 j1 j2 hcd
     obtain ⟨q3, hq3⟩ : ∃ q3, ((rd q5).2.skip s).want s 44 = q3 := ⟨_, rfl⟩
     rw [hq3] at hwa w1 w2 w3 hwn hsk3 j1 hcd
     simp only [dsM_eq] at htk2 hsk2 hwa hsk3
     have hmm : (q4.code = 0 → q.pl + 1 ≤ q4.pl) := fun h => by
      have := hwn (by rw [← hcd]; exact h)
      omega
     have hfl : flagC q4 = 1 ∧ q4.code = 0 ∨ flagC q4 = 0 := by
      unfold flagC
      by_cases h : q4.code = 0
      ·exact .inl ⟨if_pos h, h⟩
      ·exact .inr (if_neg h)
     have hmes : s.size - q4.pl + flagC q4 < s.size - q.pl + 1 ∧ s.size - q4.pl + flagC q4 < m + 1 ∧ kids.length + 1 + flagC q4 ≤ q4.pl + 1 := by
      rcases hfl with ⟨h1, h2⟩ | h1
      ·have := hmm h2; omega
      ·omega
     refine wRUN hcc ?_
     refine wCall (op_any_call [((0, 0), (0, 0)), ((8, 1), (8, 1)), ((1, 0), (1, 0)), ((1, 1), (99, 0)), ((5, 0), (5, 0)), ((5, 1), (99, 1)), ((2, 0), (2, 0)), ((3, 0), (3, 0))] [((0, 0), (0, 0)), ((8, 1), (8, 1)), ((1, 0), (1, 0)), ((4, 0), (17, 0)), ((5, 0), (5, 0)), ((6, 0), (17, 1)), ((2, 0), (2, 0)), ((3, 0), (3, 0))] hp) trivial ?_
     refine wRUN trivial ?_
     refine wCall (op_any_call [((0, 0), (0, 0))] [((0, 0), (0, 0))] hsk2) trivial ?_
     refine wRUN trivial ?_
     refine wCall (op_any_call [((0, 0), (0, 0))] [((0, 0), (0, 0))] htk2) trivial ?_
     refine wRUN trivial ?_
     refine wCall (op_any_call [((0, 0), (0, 0))] [((0, 0), (0, 0))] hwa) trivial ?_
     refine wRUN trivial ?_
     refine wCall (op_any_call [((0, 0), (0, 0))] [((0, 0), (0, 0))] hsk3) trivial ?_
     refine wRUN trivial ?_
     refine ⟨(q4, keys ++ [key], kids ++ [(rd q5).1]), by dsimp only; rw [hf1]; exact hmes.1, ⟨j2, by simp [hkk], by dsimp only; rw [List.length_append]; exact hmes.2.2, m, hmes.2.1, hgo⟩, ?_⟩
     exact wSays (Says.of [((0, 0), (0, 0)), ((8, 1), (8, 1)), ((1, 0), (1, 0)), ((99, 0), (17, 0)), ((5, 0), (5, 0)), ((99, 1), (17, 1)), ((2, 0), (2, 0)), ((3, 0), (3, 0))] []) hn
   ·have hcc : (q.code == 0) = false := by simpa using hc
    rw [listGo_err hc] at hgo
    subst hgo
    refine wRUN hcc ?_
    exact wRetOf (ret_of [((0, 0), (0, 0)), ((8, 1), (8, 1)), ((1, 0), (1, 0)), ((4, 0), (99, 0)), ((5, 0), (5, 0)), ((6, 0), (99, 1)), ((2, 0), (2, 0)), ((3, 0), (3, 0))] []) Tryz.results141 hn
end Go.Proofs.YtlciedpfjhkkdaaGreatDoor
namespace Go.Proofs.YtlciedpfjhkkdaaGreatDoor
open Go.RowKit
set_option maxRecDepth 10000
theorem truth_ac (b : Bool) : AC Tryz.prog 135 [.c (.bool b)] [] (boolV b).av [] := by
 cases b
 all_goals
  refine wEnter Tryz.func135 Tryz.ntmps135 ?_
  refine wRUN trivial ?_
  exact ret_data [] (by simp only [Tryz.results135, go_sem, Nat.reduceBEq, Nat.reduceLT]; exact rfl) (by simp only [go_sem, Nat.reduceEqDiff, Nat.reduceAdd, Nat.reduceSub, Nat.reduceLeDiff, Nat.reduceMul, Nat.reduceBEq, Nat.reduceLT, Int.reduceToNat, reduceCtorEq, boolV, cond_true, cond_false, V.kind, V.num, V.text, V.keys, V.kids, List.map_nil]) rfl
end Go.Proofs.YtlciedpfjhkkdaaGreatDoor
namespace Go.Proofs.YtlciedpfjhkkdaaGreatDoor
open Go.RowKit Go.Maps
set_option maxRecDepth 10000
variable {o1 o2 : Obj}
theorem numI_in {s : ByteArray} {i : Nat} (hi : i < s.size) (b : Nat) : i ≤ (numI s i b).2.pl ∧ (numI s i b).2.pl ≤ s.size := by
 obtain ⟨a1, _, a2⟩ := numA_le hi
 unfold numI
 cases hd : digB (bAt s (numA s i)) with
 | false => simp only [if_true]; exact ⟨a1, a2⟩
 | true =>
  obtain ⟨e1, e2, _⟩ := numE_in hi hd
  simp only [Bool.true_eq_false, if_false]
  split
  ·exact ⟨by show i ≤ numE s i; omega, e2⟩
  ·split
   ·exact ⟨by show i ≤ numE s i; omega, e2⟩
   ·exact ⟨by show i ≤ numE s i; omega, e2⟩
theorem listGo_in {α : Type} {s : ByteArray} {part : DS → α → DS × α} {e : Nat} (he : e < 256) (hp : ∀ d x, d.pl ≤ s.size → d.pl ≤ (part d x).1.pl ∧ (part d x).1.pl ≤ s.size) : ∀ (n : Nat) (d : DS) (x : α), d.pl ≤ s.size → d.pl ≤ (DS.listGo s part e n d x).1.pl ∧ (DS.listGo s part e n d x).1.pl ≤ s.size
 | 0, d, x, h => ⟨Nat.le_refl _, h⟩
 | n + 1, d, x, h => by
  obtain ⟨p1, p2⟩ := hp d x h
  obtain ⟨k1, k2⟩ := skip_pl (s := s) p2
  unfold DS.listGo
  split
  ·exact ⟨Nat.le_refl _, h⟩
  split
  ·rename_i hi
   obtain ⟨h1, _, _⟩ := is_lt he hi
   exact ⟨by show d.pl ≤ _ + 1; omega, h1⟩
  ·obtain ⟨w1, w2, _⟩ := want_pl (s := s) (b := 44) (by decide) k2
   obtain ⟨j1, j2⟩ := skip_pl (s := s) w2
   obtain ⟨g1, g2⟩ := listGo_in he hp n _ (part d x).2 j2
   exact ⟨by omega, g2⟩
theorem list_in {α : Type} {s : ByteArray} {part : DS → α → DS × α} {e : Nat} (he : e < 256) (hp : ∀ d x, d.pl ≤ s.size → d.pl ≤ (part d x).1.pl ∧ (part d x).1.pl ≤ s.size) (d : DS) (x : α) (h : d.pl ≤ s.size) : d.pl ≤ (DS.list s part e d x).1.pl ∧ (DS.list s part e d x).1.pl ≤ s.size := by
 obtain ⟨k1, k2⟩ := skip_pl (s := s) h
 unfold DS.list
 split
 ·rename_i hi
  obtain ⟨h1, _, _⟩ := is_lt he hi
  exact ⟨by show d.pl ≤ _ + 1; omega, h1⟩
 ·obtain ⟨g1, g2⟩ := listGo_in he hp (s.size + 1) (d.skip s) x k2
  exact ⟨by omega, g2⟩
theorem elem_in {s : ByteArray} {rd : DS → V × DS} (h : ∀ d, d.pl ≤ s.size → d.pl ≤ (rd d).2.pl ∧ (rd d).2.pl ≤ s.size) (d : DS) (x : List V) (hd : d.pl ≤ s.size) : d.pl ≤ (elemP rd d x).1.pl ∧ (elemP rd d x).1.pl ≤ s.size := h d hd
theorem mem_in {s : ByteArray} {rd : DS → V × DS} (h : ∀ d, d.pl ≤ s.size → d.pl ≤ (rd d).2.pl ∧ (rd d).2.pl ≤ s.size) (d : DS) (x : List ByteArray × List V) (hd : d.pl ≤ s.size) : d.pl ≤ (memP s rd d x).1.pl ∧ (memP s rd d x).1.pl ≤ s.size := by
 obtain ⟨s1, s2⟩ := strD_in d hd
 obtain ⟨a1, a2⟩ := skip_pl (s := s) s2
 obtain ⟨a3, a4, _⟩ := want_pl (s := s) (b := 58) (by decide) a2
 obtain ⟨v1, v2⟩ := h _ a4
 exact ⟨by show d.pl ≤ (rd _).2.pl; omega, v2⟩
theorem value_in {s : ByteArray} : ∀ (k : Nat) (d : DS), d.pl ≤ s.size → d.pl ≤ (DS.value s k d).2.pl ∧ (DS.value s k d).2.pl ≤ s.size
 | 0, d, h => by
  obtain ⟨k1, k2⟩ := skip_pl (s := s) h
  unfold DS.value
  split <;> exact ⟨by rw [fail_pl]; exact k1, by rw [fail_pl]; exact k2⟩
 | k + 1, d, h => by
  obtain ⟨k1, k2⟩ := skip_pl (s := s) h
  have hw : ∀ l : List Nat, (∀ b ∈ l, b < 256) → d.pl ≤ ((d.skip s).word s l).pl ∧ ((d.skip s).word s l).pl ≤ s.size := fun l hl => by
   obtain ⟨g1, g2⟩ := word_pl (l := l) hl k2
   exact ⟨by omega, g2⟩
  unfold DS.value
  simp only
  split
  ·exact ⟨by rw [fail_pl]; exact k1, by rw [fail_pl]; exact k2⟩
  rename_i hlt
  split
  ·exact ⟨k1, k2⟩
  split
  ·exact hw _ (by decide)
  split
  ·exact hw _ (by decide)
  split
  ·exact hw _ (by decide)
  split
  ·obtain ⟨g1, g2⟩ := numI_in (s := s) (i := (d.skip s).pl) (by omega) (d.skip s).bad
   exact ⟨by omega, g2⟩
  split
  ·obtain ⟨g1, g2⟩ := strD_in (d.skip s) k2
   exact ⟨Nat.le_trans k1 g1, g2⟩
  split
  ·obtain ⟨g1, g2⟩ := list_in (s := s) (e := 93) (by decide) (elem_in fun d hd => value_in k d hd) ((d.skip s).go ((d.skip s).pl + 1)) [] (by show _ + 1 ≤ _; omega)
   rw [go_pl] at g1
   exact ⟨Nat.le_trans (Nat.le_succ_of_le k1) g1, g2⟩
  split
  ·obtain ⟨g1, g2⟩ := list_in (s := s) (e := 125) (by decide) (mem_in fun d hd => value_in k d hd) ((d.skip s).go ((d.skip s).pl + 1)) ([], []) (by show _ + 1 ≤ _; omega)
   rw [go_pl] at g1
   exact ⟨Nat.le_trans (Nat.le_succ_of_le k1) g1, g2⟩
  ·exact ⟨by rw [fail_pl]; exact k1, by rw [fail_pl]; exact k2⟩
theorem fail_fail (d : DS) (c c' : Int) (p p' : Nat) (hc : c ≠ 0) : (d.fail c p).fail c' p' = d.fail c p := by
 unfold DS.fail
 by_cases h : d.code = 0
 ·simp [h, hc]
 ·simp [h]
theorem fail_ne (d : DS) (c : Int) (p : Nat) (hc : c ≠ 0) : (d.fail c p).code ≠ 0 := by
 unfold DS.fail
 split
 ·exact hc
 ·rename_i h; exact h
theorem listO_len {s : ByteArray} {rd : DS → V × DS} : ∀ (n : Nat) (d : DS) (x : List ByteArray × List V), x.1.length = x.2.length → (DS.listGo s (memP s rd) 125 n d x).2.1.length = (DS.listGo s (memP s rd) 125 n d x).2.2.length
 | 0, _, _, h => h
 | n + 1, d, x, h => by
  have hm : (memP s rd d x).2.1.length = (memP s rd d x).2.2.length := by unfold memP; simp [h]
  unfold DS.listGo
  split
  ·exact h
  split
  ·exact hm
  ·exact listO_len n _ _ hm
theorem listGo_many {α : Type} {s : ByteArray} {part : DS → α → DS × α} {e : Nat} (he : e < 256) (len : α → Nat) (hl : ∀ d x, len (part d x).2 = len x + 1) : ∀ (n : Nat) (d : DS) (x : α), len (DS.listGo s part e n d x).2 ≤ len x + n
 | 0, d, x => Nat.le_refl _
 | n + 1, d, x => by
  unfold DS.listGo
  split
  ·exact Nat.le_add_right _ _
  split
  ·show len (part d x).2 ≤ _
   rw [hl]; omega
  ·have := listGo_many (s := s) he len hl n ((((part d x).1.skip s).want s 44).skip s) (part d x).2
   rw [hl] at this
   omega
theorem strGo_len {s : ByteArray} : ∀ (n : Nat) (d : DS) (out : ByteArray), (d.strGo s n out).1.size ≤ out.size + n
 | 0, _, _ => Nat.le_refl _
 | n + 1, d, out => by
  unfold DS.strGo
  split
  ·exact Nat.le_add_right _ _
  split
  ·exact Nat.le_add_right _ _
  split
  ·have := strGo_len (s := s) n (d.fail 5 d.pl) out; omega
  split
  ·have := strGo_len (s := s) n ((d.go (d.pl + 1)).escape s).2 (out ++ bOne ((d.go (d.pl + 1)).escape s).1)
   rw [snoc_size] at this
   omega
  ·have := strGo_len (s := s) n (d.go (d.pl + 1)) (out ++ bOne (bAt s d.pl))
   rw [snoc_size] at this
   omega
theorem strD_len {s : ByteArray} (d : DS) : (d.str s).1.size ≤ s.size + 2 := by
 have := strGo_len (s := s) (s.size + 2) (d.want s 34) ByteArray.empty
 unfold DS.str
 simpa using this
theorem listO_keys {s : ByteArray} {rd : DS → V × DS} : ∀ (n : Nat) (d : DS) (x : List ByteArray × List V), (∀ k ∈ x.1, k.size ≤ s.size + 2) → ∀ k ∈ (DS.listGo s (memP s rd) 125 n d x).2.1, k.size ≤ s.size + 2
 | 0, _, _, h => h
 | n + 1, d, x, h => by
  have hm : ∀ k ∈ (memP s rd d x).2.1, k.size ≤ s.size + 2 := by
   unfold memP
   intro k hk
   rcases List.mem_append.1 hk with hk | hk
   ·exact h k hk
   ·rw [List.mem_singleton.1 hk]; exact strD_len d
  unfold DS.listGo
  split
  ·exact h
  split
  ·exact hm
  ·exact listO_keys n _ _ hm
theorem objD_ac (s : ByteArray) (hs : s.size ≤ 100000) (rd : DS → V × DS) (d : DS) : AC Tryz.prog 146 [.c (.sl ((DS.list s (memP s rd) 125 d ([], [])).2.1.map strCs)), .c (.sl ((DS.list s (memP s rd) 125 d ([], [])).2.2.map V.cs))] [] (objV (DS.list s (memP s rd) 125 d ([], [])).2.1 (DS.list s (memP s rd) 125 d ([], [])).2.2).av [] := by
 have h : (DS.list s (memP s rd) 125 d ([], [])).2.1.length = (DS.list s (memP s rd) 125 d ([], [])).2.2.length ∧ (DS.list s (memP s rd) 125 d ([], [])).2.1.length ≤ s.size + 1 ∧ ∀ k ∈ (DS.list s (memP s rd) 125 d ([], [])).2.1, k.size ≤ s.size + 2 := by
  unfold DS.list
  split
  ·exact ⟨rfl, Nat.zero_le _, by simp⟩
  ·refine ⟨listO_len _ _ _ rfl, ?_, listO_keys _ _ _ (by simp)⟩
   have := listGo_many (s := s) (part := memP s rd) (e := 125) (by decide) (fun x => x.1.length) (fun d x => by unfold memP; simp) (s.size + 1) (d.skip s) ([], [])
   simpa using this
 have h2 := object_ac _ _ h.1 (by omega) (fun k hk => by have := h.2.2 k hk; omega)
 rw [object_av] at h2
 exact h2
end Go.Proofs.YtlciedpfjhkkdaaGreatDoor
