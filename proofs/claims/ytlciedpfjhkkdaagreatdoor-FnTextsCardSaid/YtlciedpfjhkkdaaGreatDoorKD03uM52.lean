/- Texts of this proof: D03 M51 D06 D08 D09 M52. -/
import Derived.Test.YtlciedpfjhkkdaaGreatDoorKE35uE34
import Derived.Test.YtlciedpfjhkkdaaGreatDoorKG80uG81
import Derived.Test.YtlciedpfjhkkdaaGreatDoorKM50
import Derived.Test.YtlciedpfjhkkdaaGreatDoorKM49
import Derived.Laws.Strings3
import Derived.Test.YtlciedpfjhkkdaaGreatDoorKG06uS02
import Derived.Test.YtlciedpfjhkkdaaGreatDoorKE5
import Derived.Test.YtlciedpfjhkkdaaGreatDoorKM2
import Derived.Test.YtlciedpfjhkkdaaGreatDoorKG22uG9
import Derived.Test.YtlciedpfjhkkdaaGreatDoorKM28uM46
set_option linter.unusedSimpArgs false
set_option linter.unusedVariables false
set_option linter.unnecessarySimpa false
namespace Go.Proofs.YtlciedpfjhkkdaaGreatDoor
open Go.RowKit
set_option maxRecDepth 10000
theorem wrap_plus {a b : Nat} (h : a + b < 9000000000000000000) : IntKind.i64.wrap ((a : Int) + (b : Int)) = ((a + b : Nat) : Int) := by
 rw [i64_in (by omega) (by omega)]; omega
theorem ext_size {s : ByteArray} {a e : Nat} (h : e ≤ s.size) : (s.extract a e).size = e - a := by
 rw [ByteArray.size_extract]
 omega
theorem ext_list (s : ByteArray) (a e : Nat) : (s.extract a e).data.toList = (s.data.toList.take e).drop a := by
 rw [Lib.extract_data, List.drop_take]
theorem ext_at {s : ByteArray} {a e k : Nat} (h : e ≤ s.size) (hk : a + k < e) : bAt (s.extract a e) k = bAt s (a + k) := by
 rw [bAt_list, bAt_list, ext_list, List.getElem?_drop, List.getElem?_take]
 rw [if_pos hk]
set_option maxRecDepth 10000
theorem decN_ext {s t : ByteArray} {a c : Nat} : ∀ k, (∀ j, j < k → bAt s (a + j) = bAt t (c + j)) → decN s a k = decN t c k
 | 0, _ => rfl
 | k + 1, h => by
  simp only [decN]
  rw [decN_ext k fun j hj => h j (by omega), h k (by omega)]
theorem numText_parts (s : ByteArray) (i : Nat) (hi : i < s.size) (hd : digB (bAt s (numA s i)) = true) : ∃ (m : Bool) (u : ByteArray), 0 < (s.extract i (numE s i)).size ∧ (s.extract i (numE s i)).size ≤ s.size ∧ (bAt (s.extract i (numE s i)) 0 == 45) = m ∧ (if m then (s.extract i (numE s i)).extract 1 (s.extract i (numE s i)).size else s.extract i (numE s i)) = u ∧ 0 < u.size ∧ (∀ j, j < u.size → digB (bAt u j) = true) ∧
  numBig s i = decide (16 < u.size ∨ 1000000000000000 < decN u 0 u.size) ∧ numV' s i = (if m then -((decN u 0 u.size : Nat) : Int) else ((decN u 0 u.size : Nat) : Int)) := by
 obtain ⟨h1, h2, h3⟩ := numE_in hi hd
 obtain ⟨g1, g2, g3⟩ := numA_le hi
 have hts := ext_size (s := s) (a := i) h2
 have hat : ∀ k, i + k < numE s i → bAt (s.extract i (numE s i)) k = bAt s (i + k) := fun k hk => ext_at h2 hk
 have hA : (bAt s i = 45 ∧ numA s i = i + 1) ∨ (bAt s i ≠ 45 ∧ numA s i = i) := by
  unfold numA
  by_cases h : bAt s i = 45
  ·exact .inl ⟨h, if_pos h⟩
  ·exact .inr ⟨h, if_neg h⟩
 obtain ⟨m, hm⟩ : ∃ m, (bAt (s.extract i (numE s i)) 0 == 45) = m := ⟨_, rfl⟩
 obtain ⟨u, hu⟩ : ∃ u, (if m then (s.extract i (numE s i)).extract 1 (s.extract i (numE s i)).size else s.extract i (numE s i)) = u := ⟨_, rfl⟩
 have hm0 := hm
 rw [hat 0 (by omega)] at hm0
 rw [Nat.add_zero] at hm0
 have hus : u.size = numE s i - numA s i ∧ ∀ j, j < u.size → bAt u j = bAt s (numA s i + j) := by
  rcases hA with ⟨h45, hA⟩ | ⟨h45, hA⟩
  ·have hmt : m = true := by rw [← hm0]; simpa using h45
   subst hmt
   simp only [if_true] at hu
   have hsz : u.size = numE s i - numA s i := by rw [← hu, ext_size (Nat.le_refl _), hts]; omega
   refine ⟨hsz, fun j hj => ?_⟩
   rw [← hu, ext_at (Nat.le_refl _) (by omega), hat (1 + j) (by omega)]
   congr 1
   omega
  ·have hmt : m = false := by rw [← hm0]; simpa using h45
   subst hmt
   simp only [Bool.false_eq_true, if_false] at hu
   subst hu
   refine ⟨by rw [hts, hA], fun j hj => ?_⟩
   rw [hat j (by omega), hA]
 obtain ⟨hus, hub⟩ := hus
 have hdec : decN u 0 u.size = decN s (numA s i) (numE s i - numA s i) := by
  rw [hus]
  exact decN_ext _ fun j hj => by rw [Nat.zero_add]; exact hub j (by omega)
 refine ⟨m, u, by omega, by omega, hm, hu, by omega, fun j hj => by rw [hub j hj]; exact h3 _ (by omega) (by omega), ?_, ?_⟩
 ·unfold numBig
  rw [hdec, hus]
  simp
 ·unfold numV'
  rw [hdec]
  have e2 : (m = true) = (bAt s i = 45) := by rw [← hm0]; simp
  simp only [e2]
set_option maxRecDepth 10000
theorem hexB_end {s : ByteArray} {j : Nat} (h : s.size ≤ j) : hexB (bAt s j) = -1 := by rw [bAt_end h]; rfl
set_option maxRecDepth 10000
theorem sub_one {s : ByteArray} {i : Nat} (h : i < s.size) : s.extract i (i + 1) = bOne (bAt s i) := by
 obtain ⟨b, h1, h2⟩ := bAt_in h
 rw [h2]
 unfold bOne
 have h3 := h1
 rw [getElem?_pos s i h] at h3
 cases h3
 apply ByteArray.ext
 apply Array.toList_inj.1
 rw [show (⟨#[UInt8.ofNat s[i].toNat]⟩ : ByteArray).data = #[UInt8.ofNat s[i].toNat] from rfl, UInt8.ofNat_toNat]
 show (s.extract i (i + 1)).data.toList = [s[i]]
 rw [ext_list, List.take_succ_eq_append_getElem (by simpa using h), List.drop_append_of_le_length (by simp; omega), List.drop_eq_nil_of_le (by rw [List.length_take]; exact Nat.min_le_left _ _)]
 rfl
structure DS where
 pl : Nat
 code : Int
 bad : Nat
def DS.fail (d : DS) (c : Int) (p : Nat) : DS := if d.code = 0 then ⟨d.pl, c, p⟩ else d
def DS.go (d : DS) (p : Nat) : DS := ⟨p, d.code, d.bad⟩
def DS.skip (s : ByteArray) (d : DS) : DS := d.go (skipB s d.pl)
def DS.is (s : ByteArray) (d : DS) (b : Nat) : Bool := decide (d.code = 0) && (bAt s d.pl == b)
def DS.take (s : ByteArray) (d : DS) (b : Nat) : DS := if d.is s b then d.go (d.pl + 1) else d
def DS.want (s : ByteArray) (d : DS) (b : Nat) : DS := if d.is s b then d.go (d.pl + 1) else d.fail 5 d.pl
def DS.word (s : ByteArray) : DS → List Nat → DS
 | d, [] => d
 | d, b :: r => DS.word s (d.want s b) r
def numI (s : ByteArray) (i b : Nat) : V × DS :=
 if digB (bAt s (numA s i)) = false then (kindV 0, ⟨numA s i, 5, numA s i⟩) else if numBig s i then (numV 0, ⟨numE s i, 3, i⟩) else if dotB (bAt s (numE s i)) then (numV (numV' s i), ⟨numE s i, 3, numE s i⟩) else (numV (numV' s i), ⟨numE s i, 0, b⟩)
def DS.hex (s : ByteArray) (d : DS) : Int × DS := if d.code = 0 ∧ 0 ≤ hexB (bAt s d.pl) then (hexB (bAt s d.pl), d.go (d.pl + 1)) else (0, d.fail 5 d.pl)
def DS.escape (s : ByteArray) (d : DS) : Nat × DS :=
 if d.is s 34 then (34, d.go (d.pl + 1)) else if d.is s 92 then (92, d.go (d.pl + 1)) else if d.is s 47 then (47, d.go (d.pl + 1))
 else
  let d1 := d.word s [117, 48, 48]
  let h1 := d1.hex s
  let h2 := h1.2.hex s
  let n := 16 * h1.1 + h2.1
  (n.toNat, if 32 ≤ n ∧ n ≤ 126 then h2.2 else h2.2.fail 5 d1.pl)
def DS.strGo (s : ByteArray) : Nat → DS → ByteArray → ByteArray × DS
 | 0, d, out => (out, d)
 | n + 1, d, out => if d.code ≠ 0 then (out, d) else if d.is s 34 then (out, d.go (d.pl + 1))
  else if s.size ≤ d.pl ∨ bAt s d.pl < 32 ∨ 126 < bAt s d.pl then DS.strGo s n (d.fail 5 d.pl) out
  else if d.is s 92 then DS.strGo s n ((d.go (d.pl + 1)).escape s).2 (out ++ bOne ((d.go (d.pl + 1)).escape s).1)
  else DS.strGo s n (d.go (d.pl + 1)) (out ++ bOne (bAt s d.pl))
def DS.str (s : ByteArray) (d : DS) : ByteArray × DS :=
 let r := DS.strGo s (s.size + 2) (d.want s 34) ByteArray.empty
 (r.1, if 60 < r.1.size then r.2.fail 2 d.pl else r.2)
def DS.listGo {α : Type} (s : ByteArray) (part : DS → α → DS × α) (e : Nat) : Nat → DS → α → DS × α
 | 0, d, x => (d, x)
 | n + 1, d, x => if d.code ≠ 0 then (d, x) else
  if ((part d x).1.skip s).is s e then (((part d x).1.skip s).go (((part d x).1.skip s).pl + 1), (part d x).2)
  else DS.listGo s part e n ((((part d x).1.skip s).want s 44).skip s) (part d x).2
def DS.list {α : Type} (s : ByteArray) (part : DS → α → DS × α) (e : Nat) (d : DS) (x : α) : DS × α :=
 if (d.skip s).is s e then ((d.skip s).go ((d.skip s).pl + 1), x) else DS.listGo s part e (s.size + 1) (d.skip s) x
def elemP (rd : DS → V × DS) (d : DS) (x : List V) : DS × List V := ((rd d).2, x ++ [(rd d).1])
def memP (s : ByteArray) (rd : DS → V × DS) (d : DS) (x : List ByteArray × List V) : DS × (List ByteArray × List V) :=
 let k := d.str s
 let r := rd ((k.2.skip s).want s 58)
 (r.2, (x.1 ++ [k.1], x.2 ++ [r.1]))
def DS.value (s : ByteArray) : Nat → DS → V × DS
 | 0, d => (kindV 0, if s.size ≤ (d.skip s).pl then (d.skip s).fail 5 (d.skip s).pl else (d.skip s).fail 7 (d.skip s).pl)
 | k + 1, d =>
  let d := d.skip s
  let b := bAt s d.pl
  if s.size ≤ d.pl then (kindV 0, d.fail 5 d.pl) else if d.code ≠ 0 then (kindV 0, d)
  else if b = 110 then (kindV 0, d.word s [110, 117, 108, 108])
  else if b = 102 then (kindV 1, d.word s [102, 97, 108, 115, 101])
  else if b = 116 then (kindV 2, d.word s [116, 114, 117, 101])
  else if b = 45 ∨ digB b = true then numI s d.pl d.bad
  else if b = 34 then (strV (d.str s).1, (d.str s).2)
  else if b = 91 then
   let r := DS.list s (elemP (DS.value s k)) 93 (d.go (d.pl + 1)) []
   (arrV r.2, r.1)
  else if b = 123 then
   let r := DS.list s (memP s (DS.value s k)) 125 (d.go (d.pl + 1)) ([], [])
   (objV r.2.1 r.2.2, r.1)
  else (kindV 0, d.fail 5 d.pl)
def decodeI (s : ByteArray) : (Int × Nat) × Option V :=
 if 4000 < s.size then ((2, 0), none) else
  let r := DS.value s 20 ⟨0, 0, 0⟩
  let d := r.2.skip s
  let d2 := if d.pl < s.size then d.fail 5 d.pl else d
  if d2.code ≠ 0 then ((d2.code, d2.bad), none) else if 200 < r.1.count then ((2, 0), none) else ((0, 0), some r.1)
end Go.Proofs.YtlciedpfjhkkdaaGreatDoor
