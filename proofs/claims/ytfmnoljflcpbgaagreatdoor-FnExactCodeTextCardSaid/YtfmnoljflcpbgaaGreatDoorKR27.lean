/- spec.CodeText. -/
import Derived.Test.YtfmnoljflcpbgaaGreatDoorKR26
set_option linter.unusedSimpArgs false
set_option linter.unusedVariables false
set_option linter.unnecessarySimpa false
namespace Go.Proofs.YtfmnoljflcpbgaaGreatDoor
open Go.RowKit
set_option maxRecDepth 10000
set_option maxHeartbeats 8000000 in
theorem specCode_ac (l : List InD) (regs : Int) (h : (codeFault l regs).1 = 0) : AC Tryz.prog 29 [insA l, .c (.int .i64 regs)] [] (.agg [.c (.int .i64 0), .c (.str (codeS l l.length))]) [] := by
  obtain ⟨hcf, hr0, hr1, hl1, hl, hin⟩ := code_zero h
  have h1 := specCodeFault_ac l regs
  unfold codeR at h1
  rw [hcf] at h1
  have hln : (l.map InD.cs).length = l.length := by simp
  have h0 : codeS l 0 = ByteArray.empty := rfl
  have hne : ((0 : Int) != 0) = false := rfl
  have hwl : wordL.map strCs = [[.str ⟨#[]⟩], [.str ⟨#[100, 117, 112]⟩], [.str ⟨#[112, 111, 112]⟩], [.str ⟨#[112, 117, 115, 104]⟩], [.str ⟨#[115, 119, 97, 112]⟩], [.str ⟨#[98, 105, 110]⟩], [.str ⟨#[97, 116]⟩], [.str ⟨#[101, 97, 99, 104]⟩], [.str ⟨#[100, 111]⟩], [.str ⟨#[109, 101, 109, 98, 101, 114]⟩], [.str ⟨#[106, 117, 109, 112]⟩], [.str ⟨#[117, 110, 108, 101, 115, 115]⟩], [.str ⟨#[102, 111, 114, 107]⟩], [.str ⟨#[116, 114, 121]⟩], [.str ⟨#[97, 108, 116]⟩], [.str ⟨#[98, 97, 99, 107]⟩], [.str ⟨#[115, 116, 111, 114, 101]⟩], [.str ⟨#[108, 111, 97, 100]⟩], [.str ⟨#[97, 112, 112, 101, 110, 100]⟩], [.str ⟨#[101, 109, 105, 116]⟩]] := rfl
  refine wEnter Tryz.func29 Tryz.ntmps29 ?_
  refine wRUN trivial ?_
  refine w7 (op_data [] h1) trivial ?_
  refine wRUN hne ?_
  refine a_loop (κ := Nat) (fun k => ⟨mkS 0 78 [(0, insA l), (1, .c (.int .i64 regs)), (4, .ptr (4, 0) 0), (6, .own (96, 0)), (7, .c (.str (codeS l k))), (8, .c (.int .i64 k))],
      [((4, 0), .box [.c (.int .i64 0), .c (.str ByteArray.empty)]), ((96, 0), .row false 1 9 (wordL.map strCs))]⟩)
    (fun k => k ≤ l.length) (fun k => l.length - k) 0 (Nat.zero_le _) ?_ ?_
  · exact wSays (Says.of [((4, 0), (4, 0)), ((96, 0), (20, 0))] []) (j2 h0 hwl)
  · intro k hk
    have hz1 := codeS_size hl (by omega) hr1 hin k hk
    by_cases hlt : k < l.length
    · have hdk : decide ((k : Int) < (l.length : Int)) = true := by simpa using hlt
      have hw := wrap_succ (k := k) (by omega)
      have hr : rowsAt (l.map InD.cs) 3 k = true := by simp [rowsAt, hlt, InD.cs]
      have hg : (l.map InD.cs)[k]? = some [.int .i64 l[k].op, .int .i64 l[k].arg, .sl (l[k].val.map CellD.cs)] := by simp [hlt, InD.cs]
      have hc := hin k hlt
      obtain ⟨o1, o2, _⟩ := inCode_zero hc
      obtain ⟨hwa, hwg⟩ := word_at ⟨o1, o2⟩
      have hws := word_size ⟨o1, o2⟩
      have hks := numS_size' (n := (k : Int)) (by omega) (by omega)
      have hdg := digitsS_ac k (by omega) (by omega)
      have hho := l8Holds_ac l[k].op
      have har := l8Args_ac l k hlt regs hl ⟨hr0, hr1⟩
      have hnx := codeS_next hlt
      unfold insS at hnx
      have x1 : (codeS l k).size + (numS k).size ≤ 9223372036854775807 := by omega
      have x2 : (codeS l k ++ numS k).size + 1 ≤ 9223372036854775807 := by rw [ByteArray.size_append]; omega
      have x3 : (codeS l k ++ numS k ++ bS 32).size + (wordS l[k].op).size ≤ 9223372036854775807 := by simp only [ByteArray.size_append, one_size]; omega
      have x4 : (codeS l k ++ numS k ++ bS 32 ++ wordS l[k].op).size ≤ 400000000 := by simp only [ByteArray.size_append, one_size]; omega
      cases ha : inArg l[k].op with
      | true =>
        obtain ⟨a1, a2⟩ := in_arg hc (by omega) (by omega) hr1 ha
        have has := numS_size' a1 a2
        have hvf := val_not_arg ha
        rw [hvf] at hho
        rw [ha] at har
        have hda := digitsS_ac l[k].arg a1 a2
        rw [ha, if_pos rfl] at hnx
        have hy : codeS l k ++ numS k ++ bS 32 ++ wordS l[k].op ++ bS 32 ++ numS l[k].arg ++ bS 10 = codeS l (k + 1) := by rw [hnx]; simp only [ByteArray.append_assoc]
        have x5 : (codeS l k ++ numS k ++ bS 32 ++ wordS l[k].op).size + 1 ≤ 9223372036854775807 := by omega
        have x6 : (codeS l k ++ numS k ++ bS 32 ++ wordS l[k].op ++ bS 32).size + (numS l[k].arg).size ≤ 9223372036854775807 := by rw [ByteArray.size_append, one_size]; omega
        have x7 : (codeS l k ++ numS k ++ bS 32 ++ wordS l[k].op ++ bS 32 ++ numS l[k].arg).size + 1 ≤ 9223372036854775807 := by rw [ByteArray.size_append, ByteArray.size_append, one_size]; omega
        generalize hu1 : codeS l k ++ numS k = u1 at *
        generalize hu2 : u1 ++ bS 32 = u2 at *
        generalize l[k] = d at *
        generalize hu3 : u2 ++ wordS d.op = u3 at *
        generalize hu4 : u3 ++ bS 32 = u4 at *
        generalize hu5 : u4 ++ numS d.arg = u5 at *
        generalize (boundsOf d k l.length regs).1 = q1 at *
        generalize (boundsOf d k l.length regs).2 = q2 at *
        refine wRUN (j2 hln hdk) ?_
        refine w7 (op_data [] hdg) trivial ?_
        refine wRUN (j10 x1 hu1 x2 hu2 hr hg hwa hwg x3 hu3) ?_
        refine w7 (op_data [] hho) trivial ?_
        refine wRUN trivial ?_
        refine w7 (op_data [] har) trivial ?_
        refine wRUN (j4 x5 hu4 hr hg) ?_
        refine w7 (op_data [] hda) trivial ?_
        refine wRUN (j5 x6 hu5 x7 hy hw) ?_
        refine ⟨k + 1, by omega, by omega, ?_⟩
        exact wSays (Says.of [((4, 0), (4, 0)), ((96, 0), (96, 0))] []) trivial
      | false =>
        rw [ha] at har
        cases hv : inVal l[k].op with
        | true =>
          obtain ⟨u, hu, hue, hur⟩ := in_val hc hv
          have hus := txt_size' hur
          have hen := encode_ac _ u (Nat.le_refl _) hur
          rw [← hue] at hen
          rw [hv] at hho
          rw [ha, if_neg (by simp), hv, if_pos rfl, tree_is hu] at hnx
          have hy : codeS l k ++ numS k ++ bS 32 ++ wordS l[k].op ++ bS 32 ++ u.txt ++ bS 10 = codeS l (k + 1) := by rw [hnx]; simp only [ByteArray.append_assoc]
          have x5 : (codeS l k ++ numS k ++ bS 32 ++ wordS l[k].op).size + 1 ≤ 9223372036854775807 := by omega
          have x6 : (codeS l k ++ numS k ++ bS 32 ++ wordS l[k].op ++ bS 32).size + u.txt.size ≤ 9223372036854775807 := by rw [ByteArray.size_append, one_size]; omega
          have x7 : (codeS l k ++ numS k ++ bS 32 ++ wordS l[k].op ++ bS 32 ++ u.txt).size + 1 ≤ 9223372036854775807 := by rw [ByteArray.size_append, ByteArray.size_append, one_size]; omega
          generalize hu1 : codeS l k ++ numS k = u1 at *
          generalize hu2 : u1 ++ bS 32 = u2 at *
          generalize l[k] = d at *
          generalize hu3 : u2 ++ wordS d.op = u3 at *
          generalize hu4 : u3 ++ bS 32 = u4 at *
          generalize hu5 : u4 ++ u.txt = u5 at *
          generalize (boundsOf d k l.length regs).1 = q1 at *
          generalize (boundsOf d k l.length regs).2 = q2 at *
          refine wRUN (j2 hln hdk) ?_
          refine w7 (op_data [] hdg) trivial ?_
          refine wRUN (j10 x1 hu1 x2 hu2 hr hg hwa hwg x3 hu3) ?_
          refine w7 (op_data [] hho) trivial ?_
          refine wRUN (j4 x5 hu4 hr hg) ?_
          refine w7 (op_data [] hen) trivial ?_
          refine wRUN (j2 x6 hu5) ?_
          refine w7 (op_data [] har) trivial ?_
          refine wRUN (j3 x7 hy hw) ?_
          refine ⟨k + 1, by omega, by omega, ?_⟩
          exact wSays (Says.of [((4, 0), (4, 0)), ((96, 0), (96, 0))] []) trivial
        | false =>
          rw [hv] at hho
          rw [ha, if_neg (by simp), hv, if_neg (by simp), ByteArray.append_empty] at hnx
          have hy : codeS l k ++ numS k ++ bS 32 ++ wordS l[k].op ++ bS 10 = codeS l (k + 1) := by rw [hnx]; simp only [ByteArray.append_assoc]
          have x5 : (codeS l k ++ numS k ++ bS 32 ++ wordS l[k].op).size + 1 ≤ 9223372036854775807 := by omega
          generalize hu1 : codeS l k ++ numS k = u1 at *
          generalize hu2 : u1 ++ bS 32 = u2 at *
          generalize l[k] = d at *
          generalize hu3 : u2 ++ wordS d.op = u3 at *
          generalize (boundsOf d k l.length regs).1 = q1 at *
          generalize (boundsOf d k l.length regs).2 = q2 at *
          refine wRUN (j2 hln hdk) ?_
          refine w7 (op_data [] hdg) trivial ?_
          refine wRUN (j10 x1 hu1 x2 hu2 hr hg hwa hwg x3 hu3) ?_
          refine w7 (op_data [] hho) trivial ?_
          refine wRUN trivial ?_
          refine w7 (op_data [] har) trivial ?_
          refine wRUN (j3 x5 hy hw) ?_
          refine ⟨k + 1, by omega, by omega, ?_⟩
          exact wSays (Says.of [((4, 0), (4, 0)), ((96, 0), (96, 0))] []) trivial
    · have hdk : decide ((k : Int) < (l.length : Int)) = false := by simpa using hlt
      obtain rfl : k = l.length := by omega
      refine wRUN (j2 hln hdk) ?_
      exact wRetOf (ret_of [] []) Tryz.results29 hdk
end Go.Proofs.YtfmnoljflcpbgaaGreatDoor
