/- Texts of this proof: M13 G35. -/
import Derived.Test.YtfmnoljflcpbgaaGreatDoorKM2uR12
import Derived.Test.YtfmnoljflcpbgaaGreatDoorKA1
import Derived.Test.YtfmnoljflcpbgaaGreatDoorKG06uG08
set_option linter.unusedSimpArgs false
set_option linter.unusedVariables false
set_option linter.unnecessarySimpa false
namespace Go.Proofs.YtfmnoljflcpbgaaGreatDoor
open Go.RowKit
/-- An instruction as data. -/
structure InD where
  op : Int
  arg : Int
  val : List CellD
def inPlace (op : Int) : Bool := decide (op ≥ 10) && decide (op ≤ 14)
def inReg (op : Int) : Bool := decide (op ≥ 16) && decide (op ≤ 18)
def inArg (op : Int) : Bool := inPlace op || inReg op || op == 5 || op == 8
def inVal (op : Int) : Bool := op == 3 || op == 9
def between (n lo hi : Int) : Bool := decide (n ≥ lo) && decide (n ≤ hi)
def argOk (d : InD) (i n regs : Int) : Bool :=
  if d.op = 5 then between d.arg 1 11 else if d.op = 8 then between d.arg 1 8 else if inPlace d.op then between d.arg (i + 1) (n - 1) else if inReg d.op then between d.arg 0 (regs - 1) else true
def valKind (d : InD) : Int := match (dec d.val).2 with
  | some t => t.kind
  | none => 4
def inForm (d : InD) : Bool := (!inArg d.op && d.arg != 0) || (!inVal d.op && decide ((d.val.length : Int) > 0))
/-- The code of an instruction. -/
def inCode (d : InD) (i n regs : Int) : Int :=
  if between d.op 1 19 = false then 6 else if inForm d then 1 else if inVal d.op && ((dec d.val).1 != 0) then (dec d.val).1 else if d.op == 9 && (valKind d != 4) then 6 else if argOk d i n regs then 0 else 3
/-- The first code that is not 0. -/
def insGo (n regs : Int) (i : Nat) : List InD → Int × Int
  | [] => (0, 0)
  | d :: r => if inCode d i n regs = 0 then insGo n regs (i + 1) r else (inCode d i n regs, i)
theorem insGo_drop (n regs : Int) (l : List InD) {k : Nat} (h : k < l.length) : insGo n regs k (l.drop k) = if inCode l[k] k n regs = 0 then insGo n regs (k + 1) (l.drop (k + 1)) else (inCode l[k] k n regs, (k : Int)) := by
  rw [List.drop_eq_getElem_cons h]
  rfl
def takesOf (op : Int) : Int :=
  if op = 1 then 1 else if op = 2 ∨ op = 16 ∨ op = 18 ∨ op = 11 ∨ op = 19 then 1 else if op = 3 ∨ op = 17 then 0 else if op = 4 then 2 else if op = 5 ∨ op = 6 ∨ op = 9 then 2 else if op = 7 ∨ op = 8 then 1 else 0
def laysOf (op : Int) : Int :=
  if op = 1 then 2 else if op = 2 ∨ op = 16 ∨ op = 18 ∨ op = 11 ∨ op = 19 then 0 else if op = 3 ∨ op = 17 then 1 else if op = 4 then 2 else if op = 5 ∨ op = 6 ∨ op = 9 then 1 else if op = 7 ∨ op = 8 then 1 else 0
/-- Where an instruction lays a height. -/
def nexts (d : InD) (i : Int) : List Int :=
  if d.op = 15 ∨ d.op = 19 then [] else if d.op = 10 then [d.arg] else if inPlace d.op then [i + 1, d.arg] else [i + 1]
def layAll (n : Nat) (h : Int) : List Int → List Int → List Int × Bool
  | [], out => (out, true)
  | to :: r, out => if (n : Int) ≤ to ∨ (0 ≤ out.getD to.toNat 0 ∧ out.getD to.toNat 0 ≠ h) then (out, false) else layAll n h r (out.set to.toNat h)
def hGo (n : Nat) (i : Nat) : List InD → List Int → List Int × Int
  | [], out => (out, -1)
  | d :: r, out => if out.getD i 0 < 0 then hGo n (i + 1) r out else if out.getD i 0 < takesOf d.op then (out, i)
    else match layAll n (out.getD i 0 - takesOf d.op + laysOf d.op) (nexts d i) out with
      | (out', true) => hGo n (i + 1) r out'
      | (out', false) => (out', i)
theorem hGo_drop (n : Nat) (l : List InD) {k : Nat} (h : k < l.length) (out : List Int) : hGo n k (l.drop k) out = if out.getD k 0 < 0 then hGo n (k + 1) (l.drop (k + 1)) out else if out.getD k 0 < takesOf l[k].op then (out, (k : Int))
    else match layAll n (out.getD k 0 - takesOf l[k].op + laysOf l[k].op) (nexts l[k] k) out with
      | (out', true) => hGo n (k + 1) (l.drop (k + 1)) out'
      | (out', false) => (out', k) := by
  rw [List.drop_eq_getElem_cons h]
  rfl
def heightsOf (l : List InD) : List Int × Int := hGo l.length 0 l ((List.replicate l.length (-1)).set 0 1)
/-- The code and the place of instructions. -/
def codeFault (l : List InD) (regs : Int) : Int × Int :=
  if between regs 0 1000 = false then (3, 0) else if l.length < 1 ∨ 6000 < l.length then (2, 0) else
  if (insGo l.length regs 0 l).1 ≠ 0 then insGo l.length regs 0 l else if 0 ≤ (heightsOf l).2 then (9, (heightsOf l).2) else (0, 0)
/-- What holds of instructions without a code: each jump leads on, and not out. -/
def jumpsOn (l : List InD) : Prop := ∀ (k : Nat) (h : k < l.length), 1 ≤ l[k].op ∧ l[k].op ≤ 19 ∧ (inPlace l[k].op = true → (k : Int) + 1 ≤ l[k].arg ∧ l[k].arg ≤ (l.length : Int) - 1)
theorem inCode_zero {d : InD} {i n regs : Int} (h : inCode d i n regs = 0) : 1 ≤ d.op ∧ d.op ≤ 19 ∧ (inPlace d.op = true → i + 1 ≤ d.arg ∧ d.arg ≤ n - 1) := by
  unfold inCode at h
  split at h
  · exact absurd h (by decide)
  · rename_i h1
    have hb : between d.op 1 19 = true := by simpa using h1
    unfold between at hb
    simp at hb
    refine ⟨hb.1, hb.2, fun hp => ?_⟩
    split at h
    · exact absurd h (by decide)
    · split at h
      · rename_i h3
        simp at h3
        exact absurd h h3.2
      · split at h
        · exact absurd h (by decide)
        · split at h
          · rename_i h5
            unfold argOk at h5
            have hp' := hp
            unfold inPlace at hp'
            simp at hp'
            rw [if_neg (by omega), if_neg (by omega), if_pos hp] at h5
            unfold between at h5
            simpa using h5
          · exact absurd h (by decide)
theorem insGo_all (n regs : Int) : ∀ (l : List InD) (i : Nat), (insGo n regs i l).1 = 0 → ∀ (k : Nat) (h : k < l.length), inCode l[k] ((i + k : Nat) : Int) n regs = 0
  | [], _, _, k, h => absurd h (by simp)
  | d :: r, i, hh, k, h => by
    unfold insGo at hh
    split at hh
    · rename_i h0
      cases k with
      | zero => simpa using h0
      | succ k =>
        have := insGo_all n regs r (i + 1) hh k (by simpa using h)
        have e : i + 1 + k = i + (k + 1) := by omega
        rw [e] at this
        simpa using this
    · rename_i h0
      exact absurd hh h0
theorem insGo_jumps {l : List InD} {regs : Int} (h : (insGo l.length regs 0 l).1 = 0) : jumpsOn l := by
  intro k hk
  have := insGo_all _ _ l 0 h k hk
  rw [Nat.zero_add] at this
  exact inCode_zero this
theorem nexts_on {l : List InD} (hj : jumpsOn l) {k : Nat} (h : k < l.length) : ∀ to ∈ nexts l[k] k, (k : Int) < to ∧ (to ≤ (l.length : Int)) := by
  intro to ht
  obtain ⟨_, _, h3⟩ := hj k h
  unfold nexts at ht
  split at ht
  · simp at ht
  · split at ht
    · rename_i h10
      have : to = l[k].arg := by simpa using ht
      have hp : inPlace l[k].op = true := by rw [h10]; rfl
      have := h3 hp
      omega
    · split at ht
      · rename_i hp
        have := h3 hp
        have h6 : to = k + 1 ∨ to = l[k].arg := by simpa using ht
        omega
      · have : to = k + 1 := by simpa using ht
        omega
end Go.Proofs.YtfmnoljflcpbgaaGreatDoor

/- impl's functions of one instruction: hasPlace, hasReg, hasVal, hasArg, argOk, inFault, effect, behind, by the engine. -/
namespace Go.Proofs.YtfmnoljflcpbgaaGreatDoor
open Go.RowKit
set_option maxRecDepth 10000
def InD.cs (d : InD) : List C := [.int .i64 d.op, .int .i64 d.arg, .sl (d.val.map CellD.cs)]
def InD.av (d : InD) : AV := .agg [.c (.int .i64 d.op), .c (.int .i64 d.arg), .c (.sl (d.val.map CellD.cs))]
abbrev insA (l : List InD) : AV := .c (.sl (l.map InD.cs))
attribute [go_sem] InD.av
theorem hasPlace_ac (d : InD) : AC Tryz.prog 129 [d.av] [] (.c (.bool (inPlace d.op))) [] := by
  have hw := within_ac d.op 10 14
  refine wEnter Tryz.func129 Tryz.ntmps129 ?_
  refine wRUN trivial ?_
  refine w7 (op_data [] hw) trivial ?_
  refine wRUN trivial ?_
  exact ret_data [] (by simp only [Tryz.results129, go_sem, Nat.reduceBEq, Nat.reduceLT]; exact rfl) (by simp only [go_sem, Nat.reduceEqDiff, Nat.reduceAdd, Nat.reduceSub, Nat.reduceLeDiff, Nat.reduceMul, Nat.reduceBEq, Nat.reduceLT, Int.reduceToNat, reduceCtorEq, inPlace]) rfl
theorem hasReg_ac (d : InD) : AC Tryz.prog 130 [d.av] [] (.c (.bool (inReg d.op))) [] := by
  have hw := within_ac d.op 16 18
  refine wEnter Tryz.func130 Tryz.ntmps130 ?_
  refine wRUN trivial ?_
  refine w7 (op_data [] hw) trivial ?_
  refine wRUN trivial ?_
  exact ret_data [] (by simp only [Tryz.results130, go_sem, Nat.reduceBEq, Nat.reduceLT]; exact rfl) (by simp only [go_sem, Nat.reduceEqDiff, Nat.reduceAdd, Nat.reduceSub, Nat.reduceLeDiff, Nat.reduceMul, Nat.reduceBEq, Nat.reduceLT, Int.reduceToNat, reduceCtorEq, inReg]) rfl
theorem hasVal_ac (d : InD) : AC Tryz.prog 79 [d.av] [] (.c (.bool (inVal d.op))) [] := by
  unfold inVal
  cases h1 : (d.op == 3) <;> cases h2 : (d.op == 9)
  all_goals
    refine wEnter Tryz.func79 Tryz.ntmps79 ?_
    refine wRUN (j2 h1 h2) ?_
    exact wRet (ret_data []) Tryz.results79
theorem hasArg_ac (d : InD) : AC Tryz.prog 77 [d.av] [] (.c (.bool (inArg d.op))) [] := by
  have hp := hasPlace_ac d
  have hr := hasReg_ac d
  unfold inArg
  cases h1 : inPlace d.op with
  | true =>
    rw [h1] at hp
    refine wEnter Tryz.func77 Tryz.ntmps77 ?_
    refine wRUN trivial ?_
    refine w7 (op_data [] hp) trivial ?_
    refine wRUN trivial ?_
    exact wRet (ret_data []) Tryz.results77
  | false =>
    rw [h1] at hp
    cases h2 : inReg d.op <;> cases h3 : (d.op == 5) <;> cases h4 : (d.op == 8)
    all_goals
      rw [h2] at hr
      refine wEnter Tryz.func77 Tryz.ntmps77 ?_
      refine wRUN trivial ?_
      refine w7 (op_data [] hp) trivial ?_
      refine wRUN trivial ?_
      refine w7 (op_data [] hr) trivial ?_
      refine wRUN (j2 h3 h4) ?_
      exact wRet (ret_data []) Tryz.results77
theorem argOk_ac (d : InD) (i n regs : Int) (hi : 0 ≤ i ∧ i ≤ 6000) (hn : 0 ≤ n ∧ n ≤ 6000) (hr : 0 ≤ regs ∧ regs ≤ 1000) : AC Tryz.prog 164 [d.av, .c (.int .i64 i), .c (.int .i64 n), .c (.int .i64 regs)] [] (.c (.bool (argOk d i n regs))) [] := by
  have w1 : IntKind.i64.wrap (i + 1) = i + 1 := IntWalk.i64_in _ (by omega)
  have w2 : IntKind.i64.wrap (n - 1) = n - 1 := IntWalk.i64_in _ (by omega)
  have w3 : IntKind.i64.wrap (regs - 1) = regs - 1 := IntWalk.i64_in _ (by omega)
  have hp := hasPlace_ac d
  have hg := hasReg_ac d
  unfold argOk
  by_cases h5 : d.op = 5
  · rw [if_pos h5]
    have hb : (d.op == 5) = true := by simpa using h5
    have hw := within_ac d.arg 1 11
    refine wEnter Tryz.func164 Tryz.ntmps164 ?_
    refine wRUN hb ?_
    refine w7 (op_data [] hw) trivial ?_
    refine wRUN trivial ?_
    exact ret_data [] (by simp only [Tryz.results164, go_sem, Nat.reduceBEq, Nat.reduceLT]; exact rfl) (by simp only [go_sem, Nat.reduceEqDiff, Nat.reduceAdd, Nat.reduceSub, Nat.reduceLeDiff, Nat.reduceMul, Nat.reduceBEq, Nat.reduceLT, Int.reduceToNat, reduceCtorEq, between]) rfl
  rw [if_neg h5]
  have hb5 : (d.op == 5) = false := by simpa using h5
  by_cases h8 : d.op = 8
  · rw [if_pos h8]
    have hb : (d.op == 8) = true := by simpa using h8
    have hw := within_ac d.arg 1 8
    refine wEnter Tryz.func164 Tryz.ntmps164 ?_
    refine wRUN (j2 hb5 hb) ?_
    refine w7 (op_data [] hw) trivial ?_
    refine wRUN trivial ?_
    exact ret_data [] (by simp only [Tryz.results164, go_sem, Nat.reduceBEq, Nat.reduceLT]; exact rfl) (by simp only [go_sem, Nat.reduceEqDiff, Nat.reduceAdd, Nat.reduceSub, Nat.reduceLeDiff, Nat.reduceMul, Nat.reduceBEq, Nat.reduceLT, Int.reduceToNat, reduceCtorEq, between]) rfl
  rw [if_neg h8]
  have hb8 : (d.op == 8) = false := by simpa using h8
  cases h1 : inPlace d.op with
  | true =>
    rw [h1] at hp
    have hw := within_ac d.arg (i + 1) (n - 1)
    rw [if_pos rfl]
    refine wEnter Tryz.func164 Tryz.ntmps164 ?_
    refine wRUN (j2 hb5 hb8) ?_
    refine w7 (op_data [] hp) trivial ?_
    refine wRUN (j2 w1 w2) ?_
    refine w7 (op_data [] hw) trivial ?_
    refine wRUN trivial ?_
    exact ret_data [] (by simp only [Tryz.results164, go_sem, Nat.reduceBEq, Nat.reduceLT]; exact rfl) (by simp only [go_sem, Nat.reduceEqDiff, Nat.reduceAdd, Nat.reduceSub, Nat.reduceLeDiff, Nat.reduceMul, Nat.reduceBEq, Nat.reduceLT, Int.reduceToNat, reduceCtorEq, between]) rfl
  | false =>
    rw [h1] at hp
    rw [if_neg (by simp)]
    cases h2 : inReg d.op with
    | true =>
      rw [h2] at hg
      have hw := within_ac d.arg 0 (regs - 1)
      rw [if_pos rfl]
      refine wEnter Tryz.func164 Tryz.ntmps164 ?_
      refine wRUN (j2 hb5 hb8) ?_
      refine w7 (op_data [] hp) trivial ?_
      refine wRUN trivial ?_
      refine w7 (op_data [] hg) trivial ?_
      refine wRUN w3 ?_
      refine w7 (op_data [] hw) trivial ?_
      refine wRUN trivial ?_
      exact ret_data [] (by simp only [Tryz.results164, go_sem, Nat.reduceBEq, Nat.reduceLT]; exact rfl) (by simp only [go_sem, Nat.reduceEqDiff, Nat.reduceAdd, Nat.reduceSub, Nat.reduceLeDiff, Nat.reduceMul, Nat.reduceBEq, Nat.reduceLT, Int.reduceToNat, reduceCtorEq, between]) rfl
    | false =>
      rw [h2] at hg
      rw [if_neg (by simp)]
      refine wEnter Tryz.func164 Tryz.ntmps164 ?_
      refine wRUN (j2 hb5 hb8) ?_
      refine w7 (op_data [] hp) trivial ?_
      refine wRUN trivial ?_
      refine w7 (op_data [] hg) trivial ?_
      refine wRUN trivial ?_
      exact wRet (ret_data []) Tryz.results164
end Go.Proofs.YtfmnoljflcpbgaaGreatDoor
