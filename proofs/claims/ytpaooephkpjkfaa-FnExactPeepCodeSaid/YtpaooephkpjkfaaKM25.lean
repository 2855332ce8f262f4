/- The plain mathematics of PeepCode: what is left out, and where the others come to lie. -/
import Derived.Test.YtpaooephkpjkfaaKM17
set_option linter.unusedSimpArgs false
set_option linter.unusedVariables false
set_option linter.unnecessarySimpa false
namespace Go.Proofs.Ytpaooephkpjkfaa
open Go.RowKit
/-- An instruction and the pop behind it are left out. -/
def leftOut (l : List InD) (i : Nat) : Bool := match l[i]?, l[i + 1]? with
  | some d, some e => e.op == 2 && !(isT l ((i + 1 : Nat) : Int)) && (d.op == 1 || d.op == 3 || d.op == 17)
  | _, _ => false
/-- The places, and what is left. -/
def peepGo (l : List InD) : Nat → Nat → List Int → List InD → List Int × List InD
  | 0, _, ps, out => (ps, out)
  | n + 1, i, ps, out => match l[i]? with
    | none => (ps, out)
    | some d => if leftOut l i then peepGo l n (i + 2) (ps ++ [(out.length : Int), (out.length : Int)]) out else peepGo l n (i + 1) (ps ++ [(out.length : Int)]) (out ++ [d])
def newArg (ps : List Int) (d : InD) : InD := if inPlace d.op then { d with arg := ps.getD d.arg.toNat 0 } else d
def peepV (l : List InD) : List InD := (peepGo l l.length 0 [] []).2.map (newArg (peepGo l l.length 0 [] []).1)
theorem peepGo_end (l : List InD) (i : Nat) (h : l.length ≤ i) (ps : List Int) (out : List InD) : ∀ n, peepGo l n i ps out = (ps, out)
  | 0 => rfl
  | n + 1 => by
    unfold peepGo
    rw [List.getElem?_eq_none h]
theorem leftOut_at {l : List InD} {i : Nat} (h : i < l.length) : leftOut l i = if h2 : i + 1 < l.length then l[i + 1].op == 2 && !(isT l ((i + 1 : Nat) : Int)) && (l[i].op == 1 || l[i].op == 3 || l[i].op == 17) else false := by
  unfold leftOut
  rw [List.getElem?_eq_getElem h]
  split
  · rename_i h1 h3
    obtain ⟨h4, h5⟩ := List.getElem?_eq_some_iff.1 h3
    cases h1
    rw [dif_pos h4, h5]
  · rename_i hno
    by_cases h2 : i + 1 < l.length
    · exact absurd (List.getElem?_eq_getElem h2) fun e => hno _ _ rfl e
    · rw [dif_neg h2]
theorem peepGo_left {l : List InD} {i : Nat} (h : i < l.length) (hb : leftOut l i = true) (ps : List Int) (out : List InD) (n : Nat) : peepGo l (n + 1) i ps out = peepGo l n (i + 2) (ps ++ [(out.length : Int), (out.length : Int)]) out := by
  conv => lhs; unfold peepGo
  rw [List.getElem?_eq_getElem h]
  dsimp only
  rw [hb, if_pos rfl]
theorem peepGo_kept {l : List InD} {i : Nat} (h : i < l.length) (hb : leftOut l i = false) (ps : List Int) (out : List InD) (n : Nat) : peepGo l (n + 1) i ps out = peepGo l n (i + 1) (ps ++ [(out.length : Int)]) (out ++ [l[i]]) := by
  conv => lhs; unfold peepGo
  rw [List.getElem?_eq_getElem h]
  dsimp only
  rw [hb]
  rfl
/-- More steps than there are instructions ahead change nothing. -/
theorem peepGo_more (l : List InD) : ∀ (n i : Nat) (ps : List Int) (out : List InD), l.length ≤ i + n → peepGo l (n + 1) i ps out = peepGo l n i ps out
  | 0, i, ps, out, h => peepGo_end l i (by omega) ps out 1
  | n + 1, i, ps, out, h => by
    by_cases hi : i < l.length
    · cases hb : leftOut l i with
      | true => rw [peepGo_left hi hb, peepGo_left hi hb]; exact peepGo_more l n (i + 2) _ _ (by omega)
      | false => rw [peepGo_kept hi hb, peepGo_kept hi hb]; exact peepGo_more l n (i + 1) _ _ (by omega)
    · rw [peepGo_end l i (by omega), peepGo_end l i (by omega)]
theorem leftOut_next {l : List InD} {i : Nat} (h : leftOut l i = true) : i + 1 < l.length := by
  unfold leftOut at h
  split at h
  · rename_i h1 h2
    exact (List.getElem?_eq_some_iff.1 h2).1
  · cases h
theorem inCode_val {d : InD} {i n regs : Int} (h : inCode d i n regs = 0) : d.val.length ≤ 200 := by
  unfold inCode at h
  split at h
  · exact absurd h (by decide)
  · split at h
    · exact absurd h (by decide)
    · rename_i hf
      split at h
      · rename_i hv
        simp at hv
        exact absurd h hv.2
      · rename_i hv
        cases hiv : inVal d.op with
        | false =>
          unfold inForm at hf
          simp [hiv] at hf
          rw [hf.2]; simp
        | true =>
          rw [hiv] at hv
          simp at hv
          rcases dec_cases d.val with ⟨t, ht⟩ | ⟨c, hc, hd⟩
          · obtain ⟨h1, h2, h3, h4⟩ := dec_ok ht
            rw [h1, enc_len]; exact h3
          · rw [hd] at hv; exact absurd hv hc
theorem codeFault_vals {l : List InD} {regs : Int} (h : (codeFault l regs).1 = 0) : ∀ d ∈ l, d.val.length ≤ 200 := by
  unfold codeFault at h
  split at h
  · exact absurd h (by decide)
  · split at h
    · exact absurd h (by decide)
    · split at h
      · rename_i h3; exact absurd h h3
      · rename_i h3
        have h4 : (insGo l.length regs 0 l).1 = 0 := Decidable.not_not.1 h3
        intro d hd
        obtain ⟨k, hk, rfl⟩ := List.mem_iff_getElem.1 hd
        exact inCode_val (insGo_all _ _ l 0 h4 k hk)
end Go.Proofs.Ytpaooephkpjkfaa
