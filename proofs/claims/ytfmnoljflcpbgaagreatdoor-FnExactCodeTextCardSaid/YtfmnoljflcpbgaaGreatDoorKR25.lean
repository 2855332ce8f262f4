/- Code as text: strconv.Itoa at base ten; the words; what the text is. -/
import Derived.Test.YtfmnoljflcpbgaaGreatDoorKR19
import Derived.Test.YtfmnoljflcpbgaaGreatDoorKH11
import Derived.Test.YtfmnoljflcpbgaaGreatDoorKM14
import Derived.Lib.SlicesCompact
set_option linter.unusedSimpArgs false
set_option linter.unusedVariables false
set_option linter.unnecessarySimpa false
namespace Go.Proofs.YtfmnoljflcpbgaaGreatDoor
open Go.RowKit Go.Shelf
def itoa_ren : Ren where
  f := fun x => match x with
    | 171 => 75
    | 243 => 128
    | 246 => 131
    | 283 => 168
    | 284 => 169
    | 285 => 170
    | 286 => 171
    | 129 => 199
    | 317 => 198
    | 318 => 200
    | 319 => 201
    | 320 => 202
    | 337 => 215
    | 338 => 216
    | n => n
  t := fun x => match x with
    | 3 => 3
    | 9 => 9
    | 2 => 2
    | 4 => 4
    | 171 => 200
    | 0 => 0
    | 53 => 201
    | 37 => 52
    | 5 => 5
    | 173 => 204
    | 212 => 245
    | 51 => 224
    | 20 => 20
    | 213 => 246
    | 46 => 188
    | 232 => 272
    | 233 => 273
    | n => n
  g := fun x => match x with
    | 17 => 0
    | 18 => 2
    | 19 => 3
    | n => n
theorem itoa_lays : LaysM.n171 Tryz.prog itoa_ren where
  mixed := follows_mixed
  f129 := by kernel_rfl
  f171 := by kernel_rfl
  f243 := by kernel_rfl
  f246 := by kernel_rfl
  f283 := by kernel_rfl
  f284 := by kernel_rfl
  f285 := by kernel_rfl
  f286 := by kernel_rfl
  f317 := by kernel_rfl
  f318 := by kernel_rfl
  f319 := by kernel_rfl
  f320 := by kernel_rfl
  f337 := by kernel_rfl
  f338 := by kernel_rfl
  t0 := Tryz.underlying0
  a0 := Tryz.isAgg0
  z0 := Tryz.sizeOf0
  v0 := Tryz.zeroValue0
  t2 := Tryz.underlying2
  a2 := Tryz.isAgg2
  z2 := Tryz.sizeOf2
  v2 := Tryz.zeroValue2
  t3 := Tryz.underlying3
  a3 := Tryz.isAgg3
  z3 := Tryz.sizeOf3
  v3 := Tryz.zeroValue3
  t4 := Tryz.underlying4
  a4 := Tryz.isAgg4
  z4 := Tryz.sizeOf4
  v4 := Tryz.zeroValue4
  t5 := Tryz.underlying5
  a5 := Tryz.isAgg5
  z5 := Tryz.sizeOf5
  v5 := Tryz.zeroValue5
  t9 := Tryz.underlying9
  a9 := Tryz.isAgg9
  z9 := Tryz.sizeOf9
  v9 := Tryz.zeroValue9
  t20 := Tryz.underlying20
  a20 := Tryz.isAgg20
  z20 := Tryz.sizeOf20
  v20 := Tryz.zeroValue20
  t37 := Tryz.underlying52
  a37 := Tryz.isAgg52
  z37 := Tryz.sizeOf52
  v37 := Tryz.zeroValue52
  t46 := Tryz.underlying188
  a46 := Tryz.isAgg188
  z46 := Tryz.sizeOf188
  v46 := Tryz.zeroValue188
  t51 := Tryz.underlying224
  a51 := Tryz.isAgg224
  z51 := Tryz.sizeOf224
  v51 := Tryz.zeroValue224
  t53 := Tryz.underlying201
  a53 := Tryz.isAgg201
  z53 := Tryz.sizeOf201
  v53 := Tryz.zeroValue201
  t171 := Tryz.underlying200
  a171 := Tryz.isAgg200
  z171 := Tryz.sizeOf200
  v171 := Tryz.zeroValue200
  t173 := Tryz.underlying204
  a173 := Tryz.isAgg204
  z173 := Tryz.sizeOf204
  v173 := Tryz.zeroValue204
  t212 := Tryz.underlying245
  a212 := Tryz.isAgg245
  z212 := Tryz.sizeOf245
  v212 := Tryz.zeroValue245
  t213 := Tryz.underlying246
  a213 := Tryz.isAgg246
  z213 := Tryz.sizeOf246
  t232 := Tryz.underlying272
  a232 := Tryz.isAgg272
  z232 := Tryz.sizeOf272
  v232 := Tryz.zeroValue272
  t233 := Tryz.underlying273
  a233 := Tryz.isAgg273
  z233 := Tryz.sizeOf273
  v233 := Tryz.zeroValue273
  g17 := by kernel_rfl
  g18 := by kernel_rfl
  g19 := by kernel_rfl
  i0 := by kernel_rfl
  i2 := by kernel_rfl
  i3 := by kernel_rfl
  i4 := by kernel_rfl
  i5 := by kernel_rfl
  i9 := by kernel_rfl
  i20 := by kernel_rfl
  i37 := by kernel_rfl
  i46 := by kernel_rfl
  i51 := by kernel_rfl
  i53 := by kernel_rfl
  i171 := by kernel_rfl
  i173 := by kernel_rfl
  i212 := by kernel_rfl
  i232 := by kernel_rfl
  i233 := by kernel_rfl
  m17 := by kernel_rfl
  m18 := by kernel_rfl
  m19 := by kernel_rfl
variable {o : Obj}
theorem itoa_ac (n : Int) (h0 : -9223372036854775808 ≤ n) (h1 : n ≤ 9223372036854775807) : AC Tryz.prog 75 [.c (.int .i64 n)] (tabM o) (.c (.str (numS n))) (tabM o) := by
  refine AC.of_tab fun S w m κ vals ht hv => ?_
  obtain ⟨v, vs, rfl, ⟨rfl, _⟩, rfl⟩ := hv
  refine (Any.strconv_Itoa itoa_lays n h0 h1 w ht).mono ?_
  rintro e w' ⟨rfl, k, os, rfl⟩
  exact ⟨⟨rfl, rfl, rfl, by simp [Sort.grow], fun b hb => Sort.heap_grow_old (w.drewN k) os hb⟩, _, rfl, fun T _ _ => ⟨rfl, rfl⟩⟩
set_option maxRecDepth 10000
/-- The words of the instructions. -/
def wordL : List ByteArray := [⟨#[]⟩, ⟨#[100, 117, 112]⟩, ⟨#[112, 111, 112]⟩, ⟨#[112, 117, 115, 104]⟩, ⟨#[115, 119, 97, 112]⟩, ⟨#[98, 105, 110]⟩, ⟨#[97, 116]⟩, ⟨#[101, 97, 99, 104]⟩, ⟨#[100, 111]⟩, ⟨#[109, 101, 109, 98, 101, 114]⟩, ⟨#[106, 117, 109, 112]⟩, ⟨#[117, 110, 108, 101, 115, 115]⟩, ⟨#[102, 111, 114, 107]⟩, ⟨#[116, 114, 121]⟩, ⟨#[97, 108, 116]⟩, ⟨#[98, 97, 99, 107]⟩, ⟨#[115, 116, 111, 114, 101]⟩, ⟨#[108, 111, 97, 100]⟩, ⟨#[97, 112, 112, 101, 110, 100]⟩, ⟨#[101, 109, 105, 116]⟩]
def wordS (op : Int) : ByteArray := wordL.getD op.toNat ByteArray.empty
theorem word_at {op : Int} (h : 1 ≤ op ∧ op ≤ 19) : rowsAt (wordL.map strCs) 1 op = true ∧ (wordL.map strCs)[op.toNat]? = some [.str (wordS op)] := by
  obtain ⟨n, rfl⟩ : ∃ n : Nat, op = n := ⟨op.toNat, by omega⟩
  have hn : n < wordL.length := by show n < 20; omega
  have hg : (wordL.map strCs)[n]? = some [.str (wordS n)] := by
    unfold wordS
    rw [Int.toNat_natCast, List.getElem?_map, List.getElem?_eq_getElem hn, List.getD_eq_getElem?_getD, List.getElem?_eq_getElem hn]
    rfl
  refine ⟨?_, by rw [Int.toNat_natCast]; exact hg⟩
  unfold rowsAt
  rw [Int.toNat_natCast, hg]
  simp
theorem word_size {op : Int} (h : 1 ≤ op ∧ op ≤ 19) : (wordS op).size ≤ 6 := by
  obtain ⟨n, rfl⟩ : ∃ n : Nat, op = n := ⟨op.toNat, by omega⟩
  have hn : n < wordL.length := by show n < 20; omega
  have hall : ∀ x ∈ wordL, x.size ≤ 6 := by decide +kernel
  unfold wordS
  rw [Int.toNat_natCast, List.getD_eq_getElem?_getD, List.getElem?_eq_getElem hn]
  exact hall _ (List.getElem_mem hn)
theorem inWords_ac : AC Tryz.prog 76 [] [] (.c (.sl (wordL.map strCs))) [] := by
  have hw : wordL.map strCs = [[.str ⟨#[]⟩], [.str ⟨#[100, 117, 112]⟩], [.str ⟨#[112, 111, 112]⟩], [.str ⟨#[112, 117, 115, 104]⟩], [.str ⟨#[115, 119, 97, 112]⟩], [.str ⟨#[98, 105, 110]⟩], [.str ⟨#[97, 116]⟩], [.str ⟨#[101, 97, 99, 104]⟩], [.str ⟨#[100, 111]⟩], [.str ⟨#[109, 101, 109, 98, 101, 114]⟩], [.str ⟨#[106, 117, 109, 112]⟩], [.str ⟨#[117, 110, 108, 101, 115, 115]⟩], [.str ⟨#[102, 111, 114, 107]⟩], [.str ⟨#[116, 114, 121]⟩], [.str ⟨#[97, 108, 116]⟩], [.str ⟨#[98, 97, 99, 107]⟩], [.str ⟨#[115, 116, 111, 114, 101]⟩], [.str ⟨#[108, 111, 97, 100]⟩], [.str ⟨#[97, 112, 112, 101, 110, 100]⟩], [.str ⟨#[101, 109, 105, 116]⟩]] := rfl
  refine wEnter Tryz.func76 Tryz.ntmps76 ?_
  refine wRUN trivial ?_
  exact wRetOf (ret_of [] [(1, 0)]) Tryz.results76 hw
/-- An instruction as a line. -/
def insS (d : InD) (k : Nat) : ByteArray :=
  numS k ++ bS 32 ++ wordS d.op ++ (if inArg d.op then bS 32 ++ numS d.arg else if inVal d.op then bS 32 ++ (treeOf d.val).txt else ByteArray.empty) ++ bS 10
def codeS (l : List InD) (k : Nat) : ByteArray := ((l.take k).foldl (fun a d => (a.1 ++ insS d a.2, a.2 + 1)) (ByteArray.empty, 0)).1
theorem codeS_pair (l : List InD) : ∀ k, k ≤ l.length → (l.take k).foldl (fun a d => (a.1 ++ insS d a.2, a.2 + 1)) (ByteArray.empty, 0) = (codeS l k, k) := by
  intro k
  induction k with
  | zero => intro _; rfl
  | succ k ih =>
    intro hk
    have h1 := ih (by omega)
    unfold codeS at h1 ⊢
    rw [List.take_succ_eq_append_getElem (by omega : k < l.length), List.foldl_append, h1]
    rfl
theorem codeS_next {l : List InD} {k : Nat} (h : k < l.length) : codeS l (k + 1) = codeS l k ++ insS l[k] k := by
  have h1 := codeS_pair l k (by omega)
  conv => lhs; unfold codeS
  rw [List.take_succ_eq_append_getElem h, List.foldl_append, h1]
  rfl
theorem in_arg {d : InD} {i n regs : Int} (h : inCode d i n regs = 0) (hi : 0 ≤ i) (hn : n ≤ 6000) (hr : regs ≤ 1000) (ha : inArg d.op = true) : 0 ≤ d.arg ∧ d.arg ≤ 6000 := by
  have hok : argOk d i n regs = true := by
    unfold inCode at h
    split at h
    · omega
    · split at h
      · omega
      · split at h
        · rename_i h1
          simp only [Bool.and_eq_true, bne_iff_ne] at h1
          exact absurd h h1.2
        · split at h
          · omega
          · split at h
            · assumption
            · omega
  unfold argOk between at hok
  split at hok
  · simp at hok; omega
  · split at hok
    · simp at hok; omega
    · split at hok
      · simp at hok; omega
      · split at hok
        · simp at hok; omega
        · rename_i g1 g2 g3 g4
          exfalso
          unfold inArg at ha
          simp only [Bool.or_eq_true, beq_iff_eq] at ha
          rcases ha with ((ha | ha) | ha) | ha
          · exact g3 ha
          · exact g4 ha
          · exact g1 ha
          · exact g2 ha
theorem in_val {d : InD} {i n regs : Int} (h : inCode d i n regs = 0) (hv : inVal d.op = true) : ∃ u, dec d.val = (0, some u) ∧ d.val = u.enc ∧ u.right := by
  have h0 : (dec d.val).1 = 0 := by
    unfold inCode at h
    split at h
    · omega
    · split at h
      · omega
      · rw [hv] at h
        by_cases h0 : (dec d.val).1 = 0
        · exact h0
        · exfalso
          rw [if_pos (by simp [h0])] at h
          exact h0 h
  rcases dec_cases d.val with ⟨u, hu⟩ | ⟨c, hc, hd⟩
  · obtain ⟨e1, w1, w2, w3⟩ := dec_ok hu
    exact ⟨u, hu, e1, w1, w2, w3⟩
  · rw [hd] at h0; exact absurd h0 hc
theorem val_not_arg {op : Int} (h : inArg op = true) : inVal op = false := by
  unfold inArg inPlace inReg at h
  unfold inVal
  simp only [Bool.or_eq_true, Bool.and_eq_true, decide_eq_true_eq, beq_iff_eq] at h
  simp only [Bool.or_eq_false_iff, beq_eq_false_iff_ne]
  omega
theorem numS_size' {n : Int} (h0 : 0 ≤ n) (h1 : n ≤ 6000) : (numS n).size ≤ 21 := numS_size (by omega)
theorem insS_size {d : InD} {n regs : Int} {k : Nat} (h : inCode d k n regs = 0) (hk : k < 6000) (hn : n ≤ 6000) (hr : regs ≤ 1000) : (insS d k).size ≤ 50100 := by
  obtain ⟨h1, h2, _⟩ := inCode_zero h
  have e1 := numS_size' (n := (k : Int)) (by omega) (by omega)
  have e2 := word_size ⟨h1, h2⟩
  unfold insS
  cases ha : inArg d.op with
  | true =>
    obtain ⟨a1, a2⟩ := in_arg h (by omega) hn hr ha
    have e3 := numS_size' a1 a2
    rw [if_pos rfl]
    simp only [ByteArray.size_append, one_size]
    omega
  | false =>
    rw [if_neg (by simp)]
    cases hv : inVal d.op with
    | true =>
      obtain ⟨u, hu, _, hur⟩ := in_val h hv
      have e3 := txt_size' hur
      rw [if_pos rfl, tree_is hu]
      simp only [ByteArray.size_append, one_size]
      omega
    | false =>
      rw [if_neg (by simp)]
      simp only [ByteArray.size_append, one_size, ByteArray.size_empty]
      omega
theorem codeS_size {l : List InD} {n regs : Int} (hl : l.length ≤ 6000) (hn : n ≤ 6000) (hr : regs ≤ 1000) (h : ∀ (k : Nat) (hk : k < l.length), inCode l[k] k n regs = 0) : ∀ k, k ≤ l.length → (codeS l k).size ≤ 50100 * k := by
  intro k
  induction k with
  | zero => intro _; simp [codeS]
  | succ k ih =>
    intro hk
    have h1 := ih (by omega)
    have h2 := insS_size (h k (by omega)) (by omega) hn hr
    rw [codeS_next (by omega), ByteArray.size_append]
    omega
/-- What code without a fault is. -/
theorem code_zero {l : List InD} {regs : Int} (h : (codeFault l regs).1 = 0) : codeFault l regs = (0, 0) ∧ 0 ≤ regs ∧ regs ≤ 1000 ∧ 1 ≤ l.length ∧ l.length ≤ 6000 ∧ ∀ (k : Nat) (hk : k < l.length), inCode l[k] k l.length regs = 0 := by
  unfold codeFault at h ⊢
  split at h
  · simp at h
  · rename_i h1
    split at h
    · simp at h
    · rename_i h2
      split at h
      · rename_i h3; exact absurd h h3
      · rename_i h3
        split at h
        · simp at h
        · rename_i h4
          rw [if_neg h1, if_neg h2, if_neg h3, if_neg h4]
          have hb : between regs 0 1000 = true := by simpa using h1
          unfold between at hb
          simp only [Bool.and_eq_true, decide_eq_true_eq] at hb
          refine ⟨rfl, by omega, by omega, by omega, by omega, fun k hk => ?_⟩
          have := insGo_all l.length regs l 0 (by simpa using h3) k hk
          simpa using this
end Go.Proofs.YtfmnoljflcpbgaaGreatDoor
