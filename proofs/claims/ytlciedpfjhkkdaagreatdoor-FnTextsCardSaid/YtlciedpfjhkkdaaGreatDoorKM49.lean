/- The text of a value is read as the value. -/
import Derived.Test.YtlciedpfjhkkdaaGreatDoorKM28uM46
import Derived.Test.YtlciedpfjhkkdaaGreatDoorKR09uM43
set_option linter.unusedSimpArgs false
set_option linter.unusedVariables false
set_option linter.unnecessarySimpa false
namespace Go.Proofs.YtlciedpfjhkkdaaGreatDoor
open Go.RowKit
def Sub (s : ByteArray) (i : Nat) (l : List UInt8) : Prop := ∃ r, s.data.toList.drop i = l ++ r
theorem bAt_list (s : ByteArray) (i : Nat) : bAt s i = match s.data.toList[i]? with | some b => b.toNat | none => 256 := by
 rcases Nat.lt_or_ge i s.size with h | h
 ·obtain ⟨b, h1, h2⟩ := bAt_in h
  have h3 : s.data.toList[i]? = some b := by
   have : s[i]? = some s[i] := getElem?_pos s i h
   rw [this] at h1
   have hl : i < s.data.toList.length := by rw [Array.length_toList]; exact h
   rw [List.getElem?_eq_getElem hl, Array.getElem_toList]
   exact h1
  rw [h3, h2]
 ·have hl : s.data.toList[i]? = none := List.getElem?_eq_none (by rw [Array.length_toList]; exact h)
  rw [hl, bAt_end h]
theorem Sub.left {s : ByteArray} {i : Nat} {a b : List UInt8} (h : Sub s i (a ++ b)) : Sub s i a := by
 obtain ⟨r, h⟩ := h
 exact ⟨b ++ r, by rw [h, List.append_assoc]⟩
theorem Sub.right {s : ByteArray} {i : Nat} {a b : List UInt8} (h : Sub s i (a ++ b)) : Sub s (i + a.length) b := by
 obtain ⟨r, h⟩ := h
 refine ⟨r, ?_⟩
 rw [← List.drop_drop, h, List.append_assoc, List.drop_left]
theorem Sub.tail {s : ByteArray} {i : Nat} {b : UInt8} {l : List UInt8} (h : Sub s i (b :: l)) : Sub s (i + 1) l := Sub.right (a := [b]) h
theorem Sub.head {s : ByteArray} {i : Nat} {b : UInt8} {l : List UInt8} (h : Sub s i (b :: l)) : bAt s i = b.toNat := by
 obtain ⟨r, h⟩ := h
 have : s.data.toList[i]? = some b := by
  have h1 : (s.data.toList.drop i)[0]? = some b := by rw [h]; rfl
  rw [List.getElem?_drop] at h1
  simpa using h1
 rw [bAt_list, this]
theorem Sub.size {s : ByteArray} {i : Nat} {l : List UInt8} (h : Sub s i l) (hl : l ≠ []) : i + l.length ≤ s.size := by
 obtain ⟨r, h⟩ := h
 have h1 := congrArg List.length h
 rw [List.length_drop, List.length_append, Array.length_toList] at h1
 have h2 : s.data.size = s.size := rfl
 have h3 := List.length_pos_iff.2 hl
 omega
theorem sub_all (s : ByteArray) : Sub s 0 s.data.toList := ⟨[], by simp⟩
theorem app_list (a b : ByteArray) : (a ++ b).data.toList = a.data.toList ++ b.data.toList := by
 rw [show (a ++ b).data = a.data ++ b.data from ByteArray.data_append, Array.toList_append]
theorem len_list (a : ByteArray) : a.data.toList.length = a.size := Array.length_toList
theorem word_read {s : ByteArray} {v : V} {i : Nat} : ∀ (l : List UInt8) (k : Nat), Sub s (i + k) l → wordR s v i (l.map UInt8.toNat) k = .ok v (i + k + l.length)
 | [], k, _ => by simp [wordR]
 | b :: l, k, h => by
  have h1 := word_read (v := v) l (k + 1) (by rw [← Nat.add_assoc]; exact h.tail)
  simp only [List.map_cons, wordR]
  rw [if_pos h.head, h1]
  simp only [List.length_cons]
  congr 1
  omega
theorem bOne_byte (b : UInt8) : bOne b.toNat = ⟨#[b]⟩ := by unfold bOne; rw [UInt8.ofNat_toNat]
theorem snoc_list (out : ByteArray) (b : UInt8) (l : List UInt8) : out ++ ⟨(b :: l).toArray⟩ = out ++ bOne b.toNat ++ ⟨l.toArray⟩ := by
 have e : (⟨(b :: l).toArray⟩ : ByteArray) = ⟨#[b]⟩ ++ ⟨l.toArray⟩ := by
  apply ByteArray.ext
  rw [show ((⟨#[b]⟩ : ByteArray) ++ ⟨l.toArray⟩).data = #[b] ++ l.toArray from ByteArray.data_append]
  simp
 rw [bOne_byte, ByteArray.append_assoc, e]
theorem str_read {s : ByteArray} {f : Nat} : ∀ (l : List UInt8) (n i : Nat) (out : ByteArray), Sub s i (escL l ++ [34]) → l.all okByte = true → out.size + l.length ≤ 60 → s.size - i < n → strGo s f n i out = .ok (out ++ ⟨l.toArray⟩) (i + (escL l).length + 1)
 | l, 0, i, out, _, _, _, hn => by omega
 | [], n + 1, i, out, h, _, hz, hn => by
  have hb : bAt s i = 34 := Sub.head (l := []) h
  have hs := bAt_in' (s := s) (i := i) (by omega)
  unfold strGo
  rw [if_neg (by omega), if_pos hb, if_neg (by simp at hz; omega)]
  have : out ++ (⟨([] : List UInt8).toArray⟩ : ByteArray) = out := ByteArray.append_empty
  rw [this]
  rfl
 | b :: l, n + 1, i, out, h, ha, hz, hn => by
  simp only [List.all_cons, Bool.and_eq_true] at ha
  obtain ⟨hb, ha⟩ := ha
  simp only [List.length_cons] at hz
  have hok : 32 ≤ b.toNat ∧ b.toNat ≤ 126 := by unfold okByte at hb; simpa using hb
  have he : escL (b :: l) = escB b ++ escL l := rfl
  rw [he] at h
  have hsz : ∀ x : Nat, (out ++ bOne x).size + l.length ≤ 60 := fun x => by rw [snoc_size]; omega
  rw [snoc_list]
  by_cases h34 : b = 34
  ·have e : escB b = [92, 34] := by unfold escB; rw [if_pos h34]
   rw [e] at h
   rw [List.append_assoc] at h
   have a0 : bAt s i = 92 := Sub.head h
   have a1 : bAt s (i + 1) = 34 := Sub.head (Sub.tail h)
   have hs := bAt_in' (s := s) (i := i) (by omega)
   unfold strGo
   rw [if_neg (by omega), if_neg (by omega), if_neg (by omega), if_neg (by omega)]
   have hx : escR s i = .ok 34 (i + 2) := by unfold escR; rw [if_pos (.inl a1), a1]
   rw [hx]
   have := str_read (f := f) l n (i + 2) (out ++ bOne 34) (Sub.tail (Sub.tail h)) ha (hsz _) (by omega)
   show strGo s f n (i + 2) (out ++ bOne 34) = _
   rw [this, he, e, h34]
   simp only [List.length_append, List.length_cons, List.length_nil]
   congr 1
   omega
  by_cases h92 : b = 92
  ·have e : escB b = [92, 92] := by unfold escB; rw [if_neg h34, if_pos h92]
   rw [e] at h
   rw [List.append_assoc] at h
   have a0 : bAt s i = 92 := Sub.head h
   have a1 : bAt s (i + 1) = 92 := Sub.head (Sub.tail h)
   have hs := bAt_in' (s := s) (i := i) (by omega)
   unfold strGo
   rw [if_neg (by omega), if_neg (by omega), if_neg (by omega), if_neg (by omega)]
   have hx : escR s i = .ok 92 (i + 2) := by unfold escR; rw [if_pos (.inr (.inl a1)), a1]
   rw [hx]
   have := str_read (f := f) l n (i + 2) (out ++ bOne 92) (Sub.tail (Sub.tail h)) ha (hsz _) (by omega)
   show strGo s f n (i + 2) (out ++ bOne 92) = _
   rw [this, he, e, h92]
   simp only [List.length_append, List.length_cons, List.length_nil]
   congr 1
   omega
  ·have e : escB b = [b] := by unfold escB; rw [if_neg h34, if_neg h92]
   rw [e] at h
   rw [List.append_assoc] at h
   have a0 : bAt s i = b.toNat := Sub.head h
   have hs := bAt_in' (s := s) (i := i) (by omega)
   have n34 : b.toNat ≠ 34 := fun h => h34 (UInt8.toNat_inj.1 h)
   have n92 : b.toNat ≠ 92 := fun h => h92 (UInt8.toNat_inj.1 h)
   unfold strGo
   rw [if_neg (by omega), if_neg (by omega), if_neg (by omega), if_pos (by omega), a0]
   rw [str_read (f := f) l n (i + 1) (out ++ bOne b.toNat) (Sub.tail h) ha (hsz _) (by omega), he, e]
   simp only [List.length_append, List.length_cons, List.length_nil]
   congr 1
   omega
theorem encS_list (t : ByteArray) : (encS t).data.toList = 34 :: (escL t.data.toList ++ [34]) := by
 unfold encS
 rw [app_list, app_list]
 simp
theorem encS_read {s : ByteArray} {i : Nat} {t : ByteArray} (h : Sub s i (encS t).data.toList) (ht : okText t = true) : strR s i = .ok t (i + (encS t).size) := by
 have hl : (encS t).size = (escL t.data.toList).length + 2 := by rw [← len_list, encS_list]; simp
 rw [encS_list] at h
 unfold okText at ht
 simp only [Bool.and_eq_true, decide_eq_true_eq] at ht
 have hh := Sub.head h
 unfold strR
 rw [if_neg (by rw [hh]; decide)]
 rw [str_read (f := i) t.data.toList (s.size + 1) (i + 1) ByteArray.empty (Sub.tail h) ht.2 (by rw [len_list]; simpa using ht.1) (by omega), hl]
 have : ByteArray.empty ++ (⟨t.data.toList.toArray⟩ : ByteArray) = t := by rw [ByteArray.empty_append]
 rw [this]
 congr 1
 omega
theorem dig_byte {d : Nat} (h : d < 10) : (UInt8.ofNat (48 + d)).toNat = 48 + d := by
 rw [UInt8.toNat_ofNat']
 exact Nat.mod_eq_of_lt (by omega)
theorem decN_read {s : ByteArray} {a : Nat} : ∀ (m u : Nat), u ≤ m → Sub s a (Lib.decDigits u) → decN s a (Lib.decDigits u).length = u ∧ (∀ j, a ≤ j → j < a + (Lib.decDigits u).length → digB (bAt s j) = true) ∧ (u ≠ 0 → bAt s a ≠ 48)
 | m, u, hm, h => by
  by_cases hu : u < 10
  ·rw [Lib.decDigits_one hu] at h ⊢
   have hb := Sub.head h
   rw [dig_byte hu] at hb
   refine ⟨?_, fun j h1 h2 => ?_, fun h0 => by omega⟩
   ·simp only [List.length_cons, List.length_nil, decN, Nat.add_zero, hb]
    omega
   ·have : j = a := by simp at h2; omega
    rw [this, hb]
    unfold digB
    simp
    omega
  ·cases m with
   | zero => omega
   | succ m =>
    have e : Lib.decDigits u = Lib.decDigits (u / 10) ++ [UInt8.ofNat (48 + u % 10)] := by rw [Lib.decDigits, dif_neg hu]
    rw [e] at h ⊢
    obtain ⟨h1, h2, h3⟩ := decN_read m (u / 10) (by omega) (Sub.left h)
    have hb := Sub.head (Sub.right h)
    rw [dig_byte (by omega)] at hb
    refine ⟨?_, fun j g1 g2 => ?_, fun _ => h3 (by omega)⟩
    ·simp only [List.length_append, List.length_cons, List.length_nil, decN, h1, hb]
     omega
    ·simp only [List.length_append, List.length_cons, List.length_nil] at g2
     by_cases hj : j < a + (Lib.decDigits (u / 10)).length
     ·exact h2 j g1 hj
     ·have : j = a + (Lib.decDigits (u / 10)).length := by omega
      rw [this, hb]
      unfold digB
      simp
      omega
theorem digE_run {s : ByteArray} : ∀ (n i : Nat), (∀ j, i ≤ j → j < i + n → digB (bAt s j) = true) → digB (bAt s (i + n)) = false → digE s i = i + n
 | 0, i, _, h => digE_stop h
 | n + 1, i, h1, h2 => by
  rw [digE_dig (h1 i (Nat.le_refl _) (by omega)), digE_run n (i + 1) (fun j g1 g2 => h1 j (by omega) (by omega)) (by rw [show i + 1 + n = i + (n + 1) by omega]; exact h2)]
  omega
theorem nDigits_le {u : Nat} (h : u ≤ 1000000000000000) : Lib.nDigits u ≤ 16 := by
 rcases Nat.lt_or_ge (Lib.nDigits u) 17 with h1 | h1
 ·omega
 ·exfalso
  have key : ∀ (n v : Nat), n + 1 ≤ Lib.nDigits v → 10 ^ n ≤ v ∨ (n = 0) := by
   intro n
   induction n with
   | zero => intro v _; exact .inr rfl
   | succ n ih =>
    intro v hv
    by_cases hv10 : v < 10
    ·rw [Lib.nDigits_small hv10] at hv; omega
    ·rw [Lib.nDigits_big hv10] at hv
     rcases ih (v / 10) (by omega) with h | h
     ·refine .inl ?_
      rw [Nat.pow_succ]
      omega
     ·refine .inl ?_
      rw [h]
      omega
  rcases key 16 u h1 with h | h
  ·have : (10 : Nat) ^ 16 = 10000000000000000 := by decide
   omega
  ·omega
def stopB (s : ByteArray) (e : Nat) : Prop := digB (bAt s e) = false ∧ dotB (bAt s e) = false
theorem nat_read {s : ByteArray} {a u : Nat} (h : Sub s a (Lib.decDigits u)) (hs : digB (bAt s (a + (Lib.decDigits u).length)) = false) : digB (bAt s a) = true ∧ (if bAt s a = 48 then a + 1 else digE s a) = a + (Lib.decDigits u).length ∧ decN s a (Lib.decDigits u).length = u := by
 obtain ⟨h1, h2, h3⟩ := decN_read u u (Nat.le_refl _) h
 have hp : 1 ≤ (Lib.decDigits u).length := by rw [Lib.decDigits_length]; exact Lib.nDigits_pos u
 refine ⟨h2 a (Nat.le_refl _) (by omega), ?_, h1⟩
 by_cases hu : u = 0
 ·subst hu
  have e : Lib.decDigits 0 = [48] := by rw [Lib.decDigits_one (by decide)]; rfl
  rw [e] at h ⊢
  rw [if_pos (show bAt s a = 48 from Sub.head h)]
  rfl
 ·rw [if_neg (h3 hu)]
  exact digE_run _ _ h2 hs
theorem num_read {s : ByteArray} {i : Nat} {n : Int} (hn : -1000000000000000 ≤ n ∧ n ≤ 1000000000000000) (h : Sub s i (numS n).data.toList) (hs : stopB s (i + (numS n).size)) : numR s i = .ok n (i + (numS n).size) := by
 have hl : (numS n).size = (Lib.itoa n).length := by rw [← len_list]; simp [numS]
 have hd : (numS n).data.toList = Lib.itoa n := by simp [numS]
 rw [hd] at h
 rw [hl] at hs ⊢
 have fin : ∀ (a u : Nat), numA s i = a → Sub s a (Lib.decDigits u) → u ≤ 1000000000000000 → a + (Lib.decDigits u).length = i + (Lib.itoa n).length → numV' s i = n ∨ True → (bAt s i = 45 → -((u : Nat) : Int) = n) → (bAt s i ≠ 45 → ((u : Nat) : Int) = n) → numR s i = .ok n (i + (Lib.itoa n).length) := by
  intro a u ha hsub hu hal _ hm hp
  obtain ⟨g1, g2, g3⟩ := nat_read hsub (by rw [hal]; exact hs.1)
  have hE : numE s i = a + (Lib.decDigits u).length := by unfold numE; rw [ha]; exact g2
  have hlen := nDigits_le hu
  rw [← Lib.decDigits_length] at hlen
  have hsub' : numE s i - numA s i = (Lib.decDigits u).length := by rw [hE, ha]; omega
  unfold numR
  rw [if_neg (by rw [ha, g1]; decide)]
  have hbig : numBig s i = false := by
   unfold numBig
   rw [hsub', ha, g3]
   simp
   omega
  rw [if_neg (by rw [hbig]; decide), if_neg (by rw [hE, hal, hs.2]; decide), hE, hal]
  congr 1
  unfold numV'
  rw [hsub', ha, g3]
  by_cases h45 : bAt s i = 45
  ·rw [if_pos h45]; exact hm h45
  ·rw [if_neg h45]; exact hp h45
 unfold Lib.itoa at h
 by_cases h0 : n < 0
 ·rw [if_pos h0] at h
  have hb : bAt s i = 45 := Sub.head h
  refine fin (i + 1) n.natAbs (by unfold numA; rw [if_pos hb]) (Sub.tail h) (by omega) ?_ (.inr trivial) (fun _ => by omega) (fun h => absurd hb h)
  unfold Lib.itoa
  rw [if_pos h0, List.length_cons]
  omega
 ·rw [if_neg h0] at h
  obtain ⟨_, h2, _⟩ := decN_read n.toNat n.toNat (Nat.le_refl _) h
  have hp : 1 ≤ (Lib.decDigits n.toNat).length := by rw [Lib.decDigits_length]; exact Lib.nDigits_pos _
  have hd0 := dig_lt (h2 i (Nat.le_refl _) (by omega))
  have hb : bAt s i ≠ 45 := by omega
  refine fin i n.toNat (by unfold numA; rw [if_neg hb]) h (by omega) ?_ (.inr trivial) (fun h => absurd h hb) (fun _ => by omega)
  unfold Lib.itoa
  rw [if_neg h0]
end Go.Proofs.YtlciedpfjhkkdaaGreatDoor
