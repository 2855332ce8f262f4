/- Texts for people: what they are; strings.Repeat at a blank; the reference's lines. -/
import Derived.Test.YtfmnoljflcpbgaaGreatDoorKR19
import Derived.Shelf.Strings.Repeat
set_option linter.unusedSimpArgs false
set_option linter.unusedVariables false
set_option linter.unnecessarySimpa false
namespace Go.Proofs.YtfmnoljflcpbgaaGreatDoor
open Go.RowKit Go.Shelf
def rep_ren : Ren where
  f := fun x => match x with
    | 105 => 115
    | 212 => 158
    | 99 => 159
    | 165 => 132
    | 166 => 61
    | 170 => 160
    | 169 => 63
    | 263 => 193
    | 264 => 194
    | 206 => 195
    | 240 => 118
    | 241 => 172
    | 276 => 161
    | 277 => 203
    | n => n
  t := fun x => match x with
    | 9 => 9
    | 3 => 3
    | 4 => 4
    | 20 => 20
    | 0 => 0
    | 46 => 188
    | 109 => 189
    | 5 => 5
    | 72 => 95
    | 76 => 98
    | 51 => 224
    | 146 => 238
    | 53 => 201
    | 148 => 240
    | 70 => 93
    | 37 => 52
    | 75 => 97
    | 127 => 150
    | 164 => 193
    | 80 => 100
    | n => n
  g := fun x => match x with
    | n => n
theorem rep_lays : Lays.n105 Tryz.prog rep_ren where
  mixed := follows_mixed
  f99 := by kernel_rfl
  f105 := by kernel_rfl
  f165 := by kernel_rfl
  f166 := by kernel_rfl
  f169 := by kernel_rfl
  f170 := by kernel_rfl
  f206 := by kernel_rfl
  f212 := by kernel_rfl
  f240 := by kernel_rfl
  f241 := by kernel_rfl
  f263 := by kernel_rfl
  f264 := by kernel_rfl
  f276 := by kernel_rfl
  f277 := by kernel_rfl
  t0 := Tryz.underlying0
  a0 := Tryz.isAgg0
  z0 := Tryz.sizeOf0
  v0 := Tryz.zeroValue0
  t3 := Tryz.underlying3
  a3 := Tryz.isAgg3
  z3 := Tryz.sizeOf3
  v3 := Tryz.zeroValue3
  t4 := Tryz.underlying4
  a4 := Tryz.isAgg4
  z4 := Tryz.sizeOf4
  v4 := Tryz.zeroValue4
  t5 := Tryz.underlying5
  a5 := Tryz.isAgg5
  z5 := Tryz.sizeOf5
  v5 := Tryz.zeroValue5
  t9 := Tryz.underlying9
  a9 := Tryz.isAgg9
  z9 := Tryz.sizeOf9
  v9 := Tryz.zeroValue9
  t20 := Tryz.underlying20
  a20 := Tryz.isAgg20
  z20 := Tryz.sizeOf20
  v20 := Tryz.zeroValue20
  t37 := Tryz.underlying52
  a37 := Tryz.isAgg52
  z37 := Tryz.sizeOf52
  v37 := Tryz.zeroValue52
  t46 := Tryz.underlying188
  a46 := Tryz.isAgg188
  z46 := Tryz.sizeOf188
  v46 := Tryz.zeroValue188
  t51 := Tryz.underlying224
  a51 := Tryz.isAgg224
  z51 := Tryz.sizeOf224
  v51 := Tryz.zeroValue224
  t53 := Tryz.underlying201
  a53 := Tryz.isAgg201
  z53 := Tryz.sizeOf201
  v53 := Tryz.zeroValue201
  t70 := Tryz.underlying93
  a70 := Tryz.isAgg93
  z70 := Tryz.sizeOf93
  v70 := Tryz.zeroValue93
  t72 := Tryz.underlying95
  a72 := Tryz.isAgg95
  z72 := Tryz.sizeOf95
  v72 := Tryz.zeroValue95
  t75 := Tryz.underlying97
  a75 := Tryz.isAgg97
  z75 := Tryz.sizeOf97
  v75 := Tryz.zeroValue97
  t76 := Tryz.underlying98
  a76 := Tryz.isAgg98
  z76 := Tryz.sizeOf98
  v76 := Tryz.zeroValue98
  t109 := Tryz.underlying189
  a109 := Tryz.isAgg189
  z109 := Tryz.sizeOf189
  v109 := Tryz.zeroValue189
  t127 := Tryz.underlying150
  a127 := Tryz.isAgg150
  z127 := Tryz.sizeOf150
  v127 := Tryz.zeroValue150
  t146 := Tryz.underlying238
  a146 := Tryz.isAgg238
  z146 := Tryz.sizeOf238
  v146 := Tryz.zeroValue238
  t148 := Tryz.underlying240
  a148 := Tryz.isAgg240
  z148 := Tryz.sizeOf240
  v148 := Tryz.zeroValue240
  t164 := Tryz.underlying193
  a164 := Tryz.isAgg193
  z164 := Tryz.sizeOf193
  v164 := Tryz.zeroValue193
theorem rep_extra : Builder.Extra Tryz.prog rep_ren where
  sizeBuilder := by kernel_rfl
  liesBuilder := by kernel_rfl
  t5 := Tryz.underlying5
  a5 := Tryz.isAgg5
  z5 := Tryz.sizeOf5
  v5 := Tryz.zeroValue5
  infoByte := by kernel_rfl
  cellsByte := by kernel_rfl
  sizeByte := by kernel_rfl
  neB5 := by decide
/-- So many blanks; a line feed and so many blanks. -/
def blnk (n : Nat) : ByteArray := ⟨(List.replicate n (32 : UInt8)).toArray⟩
def lnB (n : Nat) : ByteArray := bS 10 ++ blnk n
theorem blnk_size (n : Nat) : (blnk n).size = n := by
  show (List.replicate n (32 : UInt8)).toArray.size = n
  simp
theorem lnB_size (n : Nat) : (lnB n).size = n + 1 := by unfold lnB; rw [ByteArray.size_append, blnk_size, one_size]; omega
theorem blnk_next (n : Nat) : blnk n ++ bS 32 = blnk (n + 1) := by
  unfold blnk
  rw [show (bS 32 : ByteArray) = ⟨[32].toArray⟩ from rfl, str_mk_append, ← List.replicate_succ']
theorem lnB_next (n : Nat) : lnB n ++ bS 32 = lnB (n + 1) := by unfold lnB; rw [ByteArray.append_assoc, blnk_next]
theorem repeat_ac (n : Nat) (hn : n ≤ 1000000) : AC Tryz.prog 115 [.c (.str (bS 32)), .c (.int .i64 n)] [] (.c (.str (blnk n))) [] := by
  refine AC.of_calls fun S w κ vs hv => ?_
  obtain ⟨v, vs', rfl, ⟨rfl, _⟩, v2, vs2, rfl, ⟨rfl, _⟩, rfl⟩ := hv
  refine (Any.strings_Repeat rep_lays rep_extra (bS 32) n w (by omega) (by rw [one_size]; omega)).mono ?_
  rintro e w' ⟨rfl, hb⟩
  have e1 : ∀ n, Lib.repeatL (bS 32).data.toList n = List.replicate n 32 := by
    intro n
    induction n with
    | zero => rfl
    | succ n ih => rw [Lib.repeatL, ih]; rfl
  exact ⟨hb, _, rfl, fun T _ _ => ⟨by rw [e1]; rfl, rfl⟩⟩
set_option maxRecDepth 10000
theorem line_ac (n : Nat) (hn : n ≤ 1000000) : AC Tryz.prog 108 [.c (.int .i64 n)] [] (.c (.str (lnB n))) [] := by
  have h0 : lnB 0 = ⟨#[10]⟩ := rfl
  have h00 : n - 0 = n := by omega
  refine wEnter Tryz.func108 Tryz.ntmps108 ?_
  refine wRUN trivial ?_
  refine a_loop (κ := Nat) (fun k => ⟨mkS 0 11 [(0, .c (.int .i64 ((n - k : Nat) : Int))), (3, .c (.str (lnB k)))], []⟩) (fun k => k ≤ n) (fun k => n - k) 0 (Nat.zero_le _) ?_ ?_
  · exact wSays (Says.of [] []) (j2 h0 h00)
  · intro k hk
    by_cases hlt : k < n
    · have hd : decide (((n - k : Nat) : Int) > 0) = true := by simp; omega
      have hw : IntKind.i64.wrap (((n - k : Nat) : Int) - 1) = ((n - (k + 1) : Nat) : Int) := by rw [IntWalk.i64_in _ (by omega)]; omega
      have hs : (lnB k).size + 1 ≤ 9223372036854775807 := by rw [lnB_size]; omega
      have hn2 := lnB_next k
      refine wRUN (j4 hd hs hn2 hw) ?_
      refine ⟨k + 1, by omega, by omega, ?_⟩
      exact wSays (Says.of [] []) trivial
    · have hd : decide (((n - k : Nat) : Int) > 0) = false := by simp; omega
      obtain rfl : k = n := by omega
      refine wRUN hd ?_
      exact wRetOf (ret_of [] []) Tryz.results108 hd
mutual
/-- The text of a value as people read it: d blanks more a level, a blanks ahead. -/
def V.pre (d a : Nat) : V → ByteArray
  | .mk kind num text keys kids => match kids with
    | [] => V.txt (.mk kind num text keys [])
    | x :: r => (if kind = 5 then bS 91 else bS 123) ++ (lnB (a + d) ++ joinS (bS 44 ++ lnB (a + d)) (preL d (a + d) kind keys (x :: r)) ++ lnB a) ++ (if kind = 5 then bS 93 else bS 125)
def preL (d a : Nat) (kind : Int) (keys : List ByteArray) : List V → List ByteArray
  | [] => []
  | x :: r => (if kind = 6 then encS (keys.headD ByteArray.empty) ++ ⟨#[58, 32]⟩ ++ x.pre d a else x.pre d a) :: preL d a kind keys.tail r
end
def V.ppart (t : V) (d a i : Nat) (x : V) : ByteArray := if t.kind = 6 then encS (t.keyAt i) ++ ⟨#[58, 32]⟩ ++ x.pre d a else x.pre d a
def V.pparts (t : V) (d a : Nat) : List ByteArray := preL d a t.kind t.keys t.kids
theorem preL_len (d a : Nat) (kind : Int) : ∀ (kids : List V) (keys : List ByteArray), (preL d a kind keys kids).length = kids.length
  | [], _ => by simp [preL]
  | x :: r, keys => by simp [preL, preL_len d a kind r]
theorem pparts_len (t : V) (d a : Nat) : (t.pparts d a).length = t.kids.length := preL_len _ _ _ _ _
theorem preL_get (d a : Nat) (kind : Int) : ∀ (kids : List V) (keys : List ByteArray) (i : Nat) (h : i < kids.length), (preL d a kind keys kids)[i]? = some (if kind = 6 then encS ((keys.drop i).headD ByteArray.empty) ++ ⟨#[58, 32]⟩ ++ kids[i].pre d a else kids[i].pre d a)
  | [], _, i, h => by simp at h
  | x :: r, keys, 0, _ => by simp [preL]
  | x :: r, keys, i + 1, h => by
    have h1 := preL_get d a kind r keys.tail i (by simpa using h)
    simp only [preL, List.getElem?_cons_succ, h1, List.getElem_cons_succ]
    rw [show keys.tail.drop i = keys.drop (i + 1) by cases keys <;> simp]
theorem pparts_at (t : V) (d a : Nat) {i : Nat} (h : i < t.kids.length) : (t.pparts d a)[i]'(by rw [pparts_len]; exact h) = t.ppart d a i t.kids[i] := by
  have h1 : (t.pparts d a)[i]? = some (t.ppart d a i t.kids[i]) := by
    unfold V.pparts V.ppart
    rw [preL_get d a t.kind t.kids t.keys i h]
    unfold V.keyAt
    split <;> rfl
  rw [List.getElem?_eq_getElem (by rw [pparts_len]; exact h)] at h1
  exact Option.some.inj h1
theorem pre_leaf {t : V} (d a : Nat) (h : t.kids = []) : t.pre d a = t.txt := by
  cases t with
  | mk k n s ks vs =>
    simp only [kids_mk] at h
    subst h
    simp [V.pre]
theorem pre_node {t : V} (d a : Nat) (h : t.kids ≠ []) : t.pre d a = (if t.kind = 5 then bS 91 else bS 123) ++ (lnB (a + d) ++ joinS (bS 44 ++ lnB (a + d)) (t.pparts d (a + d)) ++ lnB a) ++ (if t.kind = 5 then bS 93 else bS 125) := by
  cases t with
  | mk k n s ks vs =>
    cases vs with
    | nil => exact absurd rfl h
    | cons x r => rfl
theorem two_size (a b : UInt8) : (⟨#[a, b]⟩ : ByteArray).size = 2 := rfl
/-- How long such a text may be. -/
theorem pparts_sum {t : V} {d a : Nat} (ha : a ≤ 168) (hr : t.right) (ih : ∀ x ∈ t.kids, (x.pre d a).size + 300 ≤ 700 * x.count) : ∀ m, m ≤ t.kids.length → (joinS (bS 44 ++ lnB a) ((t.pparts d a).take m)).size ≤ 700 * countL t.kids := by
  intro m hm
  refine Nat.le_trans (joinS_size _ _) ?_
  have h5 : (bS 44 ++ lnB a).size = a + 2 := by rw [ByteArray.size_append, lnB_size, one_size]; omega
  simp only [h5]
  have key : ∀ m, m ≤ t.kids.length → (((t.pparts d a).take m).map fun x => x.size + (a + 2)).sum ≤ 700 * countL (t.kids.take m) := by
    intro m
    induction m with
    | zero => intro _; simp
    | succ m ihm =>
      intro hm
      have h1 := ihm (by omega)
      have hm' : m < t.kids.length := by omega
      have hmem : t.kids[m] ∈ t.kids := List.getElem_mem hm'
      have h2 := ih _ hmem
      have h3 := encS_size (right_keyAt hr m)
      rw [List.take_succ_eq_append_getElem (by rw [pparts_len]; omega), List.take_succ_eq_append_getElem hm', pparts_at t d a hm', List.map_append, List.sum_append, countL_snoc]
      have h4 : (t.ppart d a m t.kids[m]).size + (a + 2) ≤ 700 * t.kids[m].count := by
        unfold V.ppart
        split
        · rw [ByteArray.size_append, ByteArray.size_append, two_size]; omega
        · omega
      simp only [List.map_cons, List.map_nil, List.sum_cons, List.sum_nil]
      omega
  have h1 := key m hm
  have h2 := countL_take_le t.kids m
  omega
theorem pre_size {d : Nat} (hd : d ≤ 8) : ∀ (n : Nat) (t : V) (a : Nat), t.count ≤ n → t.right → a + d * t.depth ≤ 168 → (t.pre d a).size + 300 ≤ 700 * t.count := by
  intro n
  induction n with
  | zero => intro t a hn _ _; have := count_pos t; omega
  | succ n ih =>
    intro t a hn hr hda
    have hp := count_pos t
    have hcc := count_kids t
    by_cases hk : t.kids = []
    · rw [pre_leaf d a hk]
      have := txt_size _ t (Nat.le_refl _) hr
      have h1 : countL t.kids = 0 := by rw [hk]; rfl
      omega
    · have hdk := depth_kids t
      have hda' : a + d ≤ 168 := by
        have : d * 1 ≤ d * t.depth := Nat.mul_le_mul_left _ (by omega)
        omega
      have hparts := pparts_sum (d := d) hda' hr (fun x hx => ih x (a + d) (by have := countL_mem hx; omega) (right_mem hr hx) (by
        have h1 := depthL_mem hx
        have h2 : d * (x.depth + 1) ≤ d * t.depth := Nat.mul_le_mul_left _ (by omega)
        rw [Nat.mul_add] at h2
        omega)) t.kids.length (Nat.le_refl _)
      rw [List.take_of_length_le (by rw [pparts_len]; exact Nat.le_refl _)] at hparts
      rw [pre_node d a hk]
      have e1 : (if t.kind = 5 then bS 91 else bS 123 : ByteArray).size = 1 := by split <;> rfl
      have e2 : (if t.kind = 5 then bS 93 else bS 125 : ByteArray).size = 1 := by split <;> rfl
      simp only [ByteArray.size_append, e1, e2, lnB_size]
      omega
end Go.Proofs.YtfmnoljflcpbgaaGreatDoor
