/- Texts of this proof: R09 R10 R11 R12 R14 H99 G64 G65 G66 G31 M38 M12 M41 M43. -/
import Derived.Test.YtlciedpfjhkkdaaGreatDoorKG06uS02
import Derived.Shelf.Strconv.Itoa4
import Derived.Test.YtlciedpfjhkkdaaGreatDoorKE35uE34
import Derived.Test.YtlciedpfjhkkdaaGreatDoorKE6
import Derived.Test.YtlciedpfjhkkdaaGreatDoorKG04uM23
import Derived.Lib.ItoaLen
import Derived.Lib.ItoaMem
import Derived.Test.YtlciedpfjhkkdaaGreatDoorKR07uR08
import Derived.Test.YtlciedpfjhkkdaaGreatDoorKE5
import Derived.Test.YtlciedpfjhkkdaaGreatDoorKM2
import Derived.Test.YtlciedpfjhkkdaaGreatDoorKG22uG9
import Derived.Test.YtlciedpfjhkkdaaGreatDoorKA1
import Derived.Test.YtlciedpfjhkkdaaGreatDoorKG8
import Derived.Deep.RegionLaw
import Derived.Shelf.RegionOpenPlain
import Derived.Laws.CopyRow
import Derived.Test.YtlciedpfjhkkdaaGreatDoorKM28uM46
set_option linter.unusedSimpArgs false
set_option linter.unusedVariables false
set_option linter.unnecessarySimpa false
namespace Go.Proofs.YtlciedpfjhkkdaaGreatDoor
open Go.RowKit Go.Shelf
def fmtInt_ren : Ren where
 f := fun x => match x with
  | 173 => 112
  | 246 => 166
  | 283 => 198
  | 284 => 199
  | 285 => 200
  | 286 => 201
  | 129 => 224
  | 317 => 223
  | 318 => 225
  | 319 => 226
  | 320 => 227
  | 337 => 250
  | 338 => 251
  | n => n
 t := fun x => match x with
  | 2 => 2
  | 3 => 3
  | 9 => 9
  | 4 => 4
  | 171 => 215
  | 0 => 0
  | 53 => 216
  | 37 => 29
  | 5 => 5
  | 173 => 219
  | 212 => 253
  | 51 => 224
  | 20 => 20
  | 213 => 254
  | 46 => 243
  | 232 => 299
  | 233 => 300
  | n => n
 g := fun x => match x with
  | 17 => 1
  | 18 => 4
  | 19 => 5
  | n => n
theorem fmtInt_lays : LaysM.n173 Tryz.prog fmtInt_ren where
 mixed := follows_mixed
 f129 := by kernel_rfl
 f173 := by kernel_rfl
 f246 := by kernel_rfl
 f283 := by kernel_rfl
 f284 := by kernel_rfl
 f285 := by kernel_rfl
 f286 := by kernel_rfl
 f317 := by kernel_rfl
 f318 := by kernel_rfl
 f319 := by kernel_rfl
 f320 := by kernel_rfl
 f337 := by kernel_rfl
 f338 := by kernel_rfl
 t0 := Tryz.underlying0
 a0 := Tryz.isAgg0
 z0 := Tryz.sizeOf0
 v0 := Tryz.zeroValue0
 t2 := Tryz.underlying2
 a2 := Tryz.isAgg2
 z2 := Tryz.sizeOf2
 v2 := Tryz.zeroValue2
 t3 := Tryz.underlying3
 a3 := Tryz.isAgg3
 z3 := Tryz.sizeOf3
 v3 := Tryz.zeroValue3
 t4 := Tryz.underlying4
 a4 := Tryz.isAgg4
 z4 := Tryz.sizeOf4
 v4 := Tryz.zeroValue4
 t5 := Tryz.underlying5
 a5 := Tryz.isAgg5
 z5 := Tryz.sizeOf5
 v5 := Tryz.zeroValue5
 t9 := Tryz.underlying9
 a9 := Tryz.isAgg9
 z9 := Tryz.sizeOf9
 v9 := Tryz.zeroValue9
 t20 := Tryz.underlying20
 a20 := Tryz.isAgg20
 z20 := Tryz.sizeOf20
 v20 := Tryz.zeroValue20
 t37 := Tryz.underlying29
 a37 := Tryz.isAgg29
 z37 := Tryz.sizeOf29
 v37 := Tryz.zeroValue29
 t46 := Tryz.underlying243
 a46 := Tryz.isAgg243
 z46 := Tryz.sizeOf243
 v46 := Tryz.zeroValue243
 t51 := Tryz.underlying224
 a51 := Tryz.isAgg224
 z51 := Tryz.sizeOf224
 v51 := Tryz.zeroValue224
 t53 := Tryz.underlying216
 a53 := Tryz.isAgg216
 z53 := Tryz.sizeOf216
 v53 := Tryz.zeroValue216
 t171 := Tryz.underlying215
 a171 := Tryz.isAgg215
 z171 := Tryz.sizeOf215
 v171 := Tryz.zeroValue215
 t173 := Tryz.underlying219
 a173 := Tryz.isAgg219
 z173 := Tryz.sizeOf219
 v173 := Tryz.zeroValue219
 t212 := Tryz.underlying253
 a212 := Tryz.isAgg253
 z212 := Tryz.sizeOf253
 v212 := Tryz.zeroValue253
 t213 := Tryz.underlying254
 a213 := Tryz.isAgg254
 z213 := Tryz.sizeOf254
 t232 := Tryz.underlying299
 a232 := Tryz.isAgg299
 z232 := Tryz.sizeOf299
 v232 := Tryz.zeroValue299
 t233 := Tryz.underlying300
 a233 := Tryz.isAgg300
 z233 := Tryz.sizeOf300
 v233 := Tryz.zeroValue300
 g17 := by kernel_rfl
 g18 := by kernel_rfl
 g19 := by kernel_rfl
 i0 := by kernel_rfl
 i2 := by kernel_rfl
 i3 := by kernel_rfl
 i4 := by kernel_rfl
 i5 := by kernel_rfl
 i9 := by kernel_rfl
 i20 := by kernel_rfl
 i37 := by kernel_rfl
 i46 := by kernel_rfl
 i51 := by kernel_rfl
 i53 := by kernel_rfl
 i171 := by kernel_rfl
 i173 := by kernel_rfl
 i212 := by kernel_rfl
 i232 := by kernel_rfl
 i233 := by kernel_rfl
 m17 := by kernel_rfl
 m18 := by kernel_rfl
 m19 := by kernel_rfl
def tabR (o : Obj) (b : Nat) (_ : Value) (_ : List (List Value)) (obj : Obj) : Prop := obj = o ∧ Tryz.prog.globalNamed "internal/strconv.uint64pow10" = some b ∧ ∀ w : World, w.heap[b]? = some obj → Lib.TabIs Tryz.prog w "internal/strconv.uint64pow10" .u64 Lib.pow10Tab
abbrev tabM (o : Obj) : Mem := [((8, 0), .blk (tabR o) [])]
theorem AC.of_tab {o : Obj} {f : FuncId} {args : List AV} {res : AV}
  (h : ∀ (S : Nat → Prop) (w : World) (m : Mem) (κ : Id → Value) (vals : List Value), Lib.TabIs Tryz.prog w "internal/strconv.uint64pow10" .u64 Lib.pow10Tab → ARs w S m κ args vals → Calls Tryz.prog f vals.toArray w fun e w' => Below w.heap.size w w' ∧ ∃ v, e = .returned v ∧ ∀ T : Nat → Prop, (∀ b, S b → T b) → (∀ b, w.heap.size ≤ b → T b) → AR w' T m κ res v) : AC Tryz.prog f args (tabM o) res (tabM o) := by
 intro Γ vals hE hA
 obtain ⟨b, obj, vrows, h1, h2, h3, h4⟩ := hE.objs (8, 0) _ rfl
 refine (h _ _ _ _ _ (h4.2.2 _ h2) hA).mono ?_
 rintro e w' ⟨hb, v, rfl, hv⟩
 have hlt : ∀ b i, Γ.ow b = some i → b < Γ.w.heap.size := fun b i hbi => (hE.own b i hbi).1
 have hnone : ∀ b, Γ.w.heap.size ≤ b → Γ.ow b = none := by
  intro b hb
  cases hbi : Γ.ow b with
  | none => rfl
  | some i => have := hlt b i hbi; omega
 refine ⟨v, Γ.ow, Γ.κ, rfl, ⟨hv _ (fun _ h => h) (fun b hb => ⟨hnone b hb, .inr (.inl hb)⟩), ?_, ?_, hb.os, hb.tape, hb.output, hb.size, fun b hl ho => ⟨hb.block b hl, ho⟩, fun i o1 o2 _ _ => rfl⟩⟩
 ·intro i o' hi
  obtain ⟨rfl, rfl⟩ : i = (8, 0) ∧ o' = .blk (tabR o) [] := by
   simp only [Mem.get, List.lookup_cons, List.lookup_nil] at hi
   by_cases hq : i = (8, 0)
   ·subst hq
    simpa [eq_comm] using hi
   ·have : (i == ((8, 0) : Id)) = false := by simpa using hq
    rw [this] at hi
    cases hi
  refine ⟨b, obj, vrows, h1, (hb.block b (hlt b _ h1)).trans h2, ?_, h4⟩
  simp only [CRss] at h3 ⊢
  exact h3
 ·intro b i hbi
  obtain ⟨k1, o1, k2, k3⟩ := hE.own b i hbi
  exact ⟨Nat.lt_of_lt_of_le k1 hb.size, o1, k2, k3⟩
def numS (n : Int) : ByteArray := ⟨(Lib.itoa n).toArray⟩
theorem formatInt_ac {o : Obj} (n : Int) (h0 : -9223372036854775808 ≤ n) (h1 : n ≤ 9223372036854775807) : AC Tryz.prog 112 [.c (.int .i64 n), .c (.int .i64 10)] (tabM o) (.c (.str (numS n))) (tabM o) := by
 refine AC.of_tab fun S w m κ vals ht hv => ?_
 obtain ⟨v, vs, rfl, ⟨rfl, _⟩, u, us, rfl, ⟨rfl, _⟩, rfl⟩ := hv
 refine (Any.strconv_FormatInt_10 fmtInt_lays n h0 h1 w ht).mono ?_
 rintro e w' ⟨rfl, k, os, rfl⟩
 exact ⟨⟨rfl, rfl, rfl, by simp [Sort.grow], fun b hb => Sort.heap_grow_old (w.drewN k) os hb⟩, _, rfl, fun T _ _ => ⟨rfl, rfl⟩⟩
end Go.Proofs.YtlciedpfjhkkdaaGreatDoor
namespace Go.Proofs.YtlciedpfjhkkdaaGreatDoor
open Go.RowKit
set_option maxRecDepth 10000
theorem str_mk_append (a b : List UInt8) : (⟨a.toArray⟩ : ByteArray) ++ ⟨b.toArray⟩ = ⟨(a ++ b).toArray⟩ := by
 apply ByteArray.ext
 simp
set_option maxRecDepth 10000
theorem encodeString_ac (s : ByteArray) (hs : s.size ≤ 1000000) : AC Tryz.prog 113 [.c (.str s)] [] (.c (.str (encS s))) [] := by
 refine AC.of_calls fun S w κ vs hv => ?_
 obtain ⟨v, vs', rfl, ⟨rfl, _⟩, rfl⟩ := hv
 refine (encodeString_walk s hs w).mono ?_
 rintro e w' ⟨rfl, hb⟩
 exact ⟨hb, _, rfl, fun T _ _ => ⟨rfl, rfl⟩⟩
set_option maxRecDepth 10000
theorem one_size (b : UInt8) : (⟨#[b]⟩ : ByteArray).size = 1 := rfl
theorem numS_size {n : Int} (h : -1000000000000000 ≤ n ∧ n ≤ 1000000000000000) : (numS n).size ≤ 21 := by
 have h1 := Lib.itoa_length_le n (by omega) (by omega)
 show (Lib.itoa n).toArray.size ≤ 21
 simpa using h1
theorem encS_size {s : ByteArray} (h : s.size ≤ 60) : (encS s).size ≤ 122 := by
 have h1 := escL_len s.data.toList
 have h2 : cz s.data.toList ≤ s.data.toList.length := List.length_filter_le _ _
 have h3 : s.data.toList.length = s.size := Array.length_toList
 unfold encS
 rw [ByteArray.size_append, ByteArray.size_append, one_size]
 have : (⟨(escL s.data.toList).toArray⟩ : ByteArray).size = (escL s.data.toList).length := by show (escL s.data.toList).toArray.size = _; simp
 omega
def joinS (sep : ByteArray) : List ByteArray → ByteArray
 | [] => ByteArray.empty
 | x :: r => match r with
  | [] => x
  | _ => x ++ sep ++ joinS sep r
theorem joinS_cons (sep x : ByteArray) {r : List ByteArray} (h : r ≠ []) : joinS sep (x :: r) = x ++ sep ++ joinS sep r := by
 cases r with
 | nil => exact absurd rfl h
 | cons y r => rfl
theorem joinS_size (sep : ByteArray) : ∀ l : List ByteArray, (joinS sep l).size ≤ (l.map fun x => x.size + sep.size).sum
 | [] => Nat.zero_le _
 | [y] => by simp [joinS]
 | y :: z :: r => by
  have h1 := joinS_size sep (z :: r)
  rw [joinS_cons sep y (by simp), ByteArray.size_append, ByteArray.size_append, List.map_cons, List.sum_cons]
  omega
def nullS : ByteArray := ⟨#[110, 117, 108, 108]⟩
def falseS : ByteArray := ⟨#[102, 97, 108, 115, 101]⟩
def trueS : ByteArray := ⟨#[116, 114, 117, 101]⟩
abbrev bS (b : UInt8) : ByteArray := ⟨#[b]⟩
mutual
def V.txt : V → ByteArray
 | .mk kind num text keys kids => if kind = 0 then nullS else if kind = 1 then falseS else if kind = 2 then trueS else if kind = 3 then numS num else if kind = 4 then encS text
  else if kind = 5 then bS 91 ++ joinS (bS 44) (partsT kind keys kids) ++ bS 93 else bS 123 ++ joinS (bS 44) (partsT kind keys kids) ++ bS 125
def partsT (kind : Int) (keys : List ByteArray) : List V → List ByteArray
 | [] => []
 | x :: r => (if kind = 6 then encS (keys.headD ByteArray.empty) ++ bS 58 ++ x.txt else x.txt) :: partsT kind keys.tail r
end
def V.part (t : V) (i : Nat) (x : V) : ByteArray := if t.kind = 6 then encS (t.keyAt i) ++ bS 58 ++ x.txt else x.txt
def V.parts (t : V) : List ByteArray := partsT t.kind t.keys t.kids
theorem partsT_len (kind : Int) : ∀ (kids : List V) (keys : List ByteArray), (partsT kind keys kids).length = kids.length
 | [], _ => by simp [partsT]
 | x :: r, keys => by simp [partsT, partsT_len kind r]
theorem parts_len (t : V) : t.parts.length = t.kids.length := partsT_len _ _ _
theorem partsT_get (kind : Int) : ∀ (kids : List V) (keys : List ByteArray) (i : Nat) (h : i < kids.length), (partsT kind keys kids)[i]? = some (if kind = 6 then encS ((keys.drop i).headD ByteArray.empty) ++ bS 58 ++ kids[i].txt else kids[i].txt)
 | [], _, i, h => by simp at h
 | x :: r, keys, 0, _ => by simp [partsT]
 | x :: r, keys, i + 1, h => by
  have h1 := partsT_get kind r keys.tail i (by simpa using h)
  simp only [partsT, List.getElem?_cons_succ, h1, List.getElem_cons_succ]
  rw [show keys.tail.drop i = keys.drop (i + 1) by cases keys <;> simp]
theorem parts_get (t : V) {i : Nat} (h : i < t.kids.length) : t.parts[i]? = some (t.part i t.kids[i]) := by
 have h1 := partsT_get t.kind t.kids t.keys i h
 unfold V.parts V.part
 rw [h1]
 unfold V.keyAt
 split <;> rfl
theorem parts_at (t : V) {i : Nat} (h : i < t.kids.length) : t.parts[i]'(by rw [parts_len]; exact h) = t.part i t.kids[i] := by
 have h1 := parts_get t h
 rw [List.getElem?_eq_getElem (by rw [parts_len]; exact h)] at h1
 exact Option.some.inj h1
theorem txt_arr {t : V} (h : t.kind = 5) : t.txt = bS 91 ++ joinS (bS 44) t.parts ++ bS 93 := by
 cases t; simp only [kind_mk] at h; subst h; rfl
theorem txt_obj {t : V} (h : t.kind = 6) : t.txt = bS 123 ++ joinS (bS 44) t.parts ++ bS 125 := by
 cases t; simp only [kind_mk] at h; subst h; rfl
theorem txt_null {t : V} (h : t.kind = 0) : t.txt = nullS := by cases t; simp only [kind_mk] at h; subst h; rfl
theorem txt_false {t : V} (h : t.kind = 1) : t.txt = falseS := by cases t; simp only [kind_mk] at h; subst h; rfl
theorem txt_true {t : V} (h : t.kind = 2) : t.txt = trueS := by cases t; simp only [kind_mk] at h; subst h; rfl
theorem txt_num {t : V} (h : t.kind = 3) : t.txt = numS t.num := by cases t; simp only [kind_mk] at h; subst h; rfl
theorem txt_str {t : V} (h : t.kind = 4) : t.txt = encS t.text := by cases t; simp only [kind_mk] at h; subst h; rfl
theorem right_kind {t : V} (h : t.right) : 0 ≤ t.kind ∧ t.kind ≤ 6 := by
 have hc := right_head h
 unfold CellD.code cellCode at hc
 cases hh : inB t.kind 0 6
 ·simp [hh] at hc
 ·simp [inB] at hh
  omega
theorem right_keyAt {t : V} (h : t.right) (i : Nat) : (t.keyAt i).size ≤ 60 := by
 unfold V.keyAt
 split
 ·rename_i h6
  rcases Nat.lt_or_ge i t.keys.length with hi | hi
  ·rw [List.drop_eq_getElem_cons hi]
   exact okText_size ((right_asc h h6).2.1 _ (List.getElem_mem hi))
  ·rw [List.drop_eq_nil_of_le hi]; exact Nat.zero_le _
 ·exact Nat.zero_le _
theorem parts_sum {t : V} (hr : t.right) (ih : ∀ x ∈ t.kids, x.txt.size + 124 ≤ 250 * x.count) : ∀ m, m ≤ t.kids.length → (joinS (bS 44) (t.parts.take m)).size ≤ 250 * countL t.kids := by
 intro m hm
 refine Nat.le_trans (joinS_size _ _) ?_
 have key : ∀ m, m ≤ t.kids.length → ((t.parts.take m).map fun x => x.size + (bS 44).size).sum ≤ 250 * countL (t.kids.take m) := by
  intro m
  induction m with
  | zero => intro _; simp
  | succ m ihm =>
   intro hm
   have h1 := ihm (by omega)
   have hm' : m < t.kids.length := by omega
   have hmem : t.kids[m] ∈ t.kids := List.getElem_mem hm'
   have h2 := ih _ hmem
   have h3 := encS_size (right_keyAt hr m)
   rw [List.take_succ_eq_append_getElem (by rw [parts_len]; omega), List.take_succ_eq_append_getElem hm', parts_at t hm', List.map_append, List.sum_append, countL_snoc]
   have h4 : (t.part m t.kids[m]).size + 1 ≤ 250 * t.kids[m].count := by
    unfold V.part
    split
    ·rw [ByteArray.size_append, ByteArray.size_append, one_size]; omega
    ·omega
   have h5 : (bS 44).size = 1 := rfl
   simp only [h5] at h1
   simp only [List.map_cons, List.map_nil, List.sum_cons, List.sum_nil, h5]
   omega
 have h1 := key m hm
 have h2 := countL_take_le t.kids m
 omega
theorem txt_size : ∀ (n : Nat) (t : V), t.count ≤ n → t.right → t.txt.size + 124 ≤ 250 * t.count := by
 intro n
 induction n with
 | zero => intro t hn _; have := count_pos t; omega
 | succ n ih =>
  intro t hn hr
  have hp := count_pos t
  have hk := right_kind hr
  have hcc := count_kids t
  have hparts := parts_sum hr (fun x hx => ih x (by have := countL_mem hx; omega) (right_mem hr hx)) t.kids.length (Nat.le_refl _)
  rw [List.take_of_length_le (by rw [parts_len]; exact Nat.le_refl _)] at hparts
  have hcase : t.kind = 0 ∨ t.kind = 1 ∨ t.kind = 2 ∨ t.kind = 3 ∨ t.kind = 4 ∨ t.kind = 5 ∨ t.kind = 6 := by omega
  rcases hcase with h | h | h | h | h | h | h
  ·rw [txt_null h]; have : nullS.size = 4 := rfl; omega
  ·rw [txt_false h]; have : falseS.size = 5 := rfl; omega
  ·rw [txt_true h]; have : trueS.size = 4 := rfl; omega
  ·rw [txt_num h]; have := numS_size (right_num hr); omega
  ·rw [txt_str h]; have := encS_size (okText_size (right_text hr)); omega
  ·rw [txt_arr h, ByteArray.size_append, ByteArray.size_append, one_size, one_size]; omega
  ·rw [txt_obj h, ByteArray.size_append, ByteArray.size_append, one_size, one_size]; omega
theorem txt_size' {t : V} (h : t.right) : t.txt.size ≤ 50000 := by
 have h1 := txt_size _ t (Nat.le_refl _) h
 have := h.2.1
 omega
theorem join_size {t : V} (h : t.right) {k : Nat} (hk : k ≤ t.kids.length) : (joinS (bS 44) (t.parts.take k)).size ≤ 50000 := by
 have h1 := parts_sum h (fun x hx => txt_size _ x (Nat.le_refl _) (right_mem h hx)) k hk
 have h2 := count_kids t
 have := h.2.1
 omega
theorem closed_osl (l : List (List CellD)) : closedLL (l.map oslCs) = true := by
 induction l with
 | nil => rfl
 | cons c l ih => simp only [List.map_cons, closedLL, ih, Bool.and_true, oslCs, closedL, C.closed, closed_cells]
theorem forget_osl (l : List (List CellD)) : forgetLL (l.map oslCs) = l.map encCs := by
 induction l with
 | nil => rfl
 | cons c l ih => simp only [List.map_cons, forgetLL, ih, oslCs, forgetL, C.forget, forget_cells, encCs]
attribute [go_sem] closed_osl forget_osl
theorem dec_way (xs : List CellD) : ((dec xs).2 = none ∧ (dec xs).1 ≠ 0) ∨ ∃ t, dec xs = (0, some t) ∧ xs = t.enc ∧ t.wf ∧ t.count ≤ 200 ∧ t.depth ≤ 20 := by
 rcases dec_cases xs with ⟨t, ht⟩ | ⟨c, hc, hd⟩
 ·exact .inr ⟨t, ht, dec_ok ht⟩
 ·exact .inl ⟨by rw [hd], by rw [hd]; exact hc⟩
set_option maxRecDepth 10000
def EditD.cs (d : EditD) : List C := [.int .i64 d.op, .sl (d.path.map CellD.cs), .sl (d.x.map CellD.cs)]
def EditD.os (d : EditD) : List C := [.int .i64 d.op, .osl (d.path.map CellD.cs), .osl (d.x.map CellD.cs)]
def EditD.av (d : EditD) : AV := .agg [.c (.int .i64 d.op), .c (.sl (d.path.map CellD.cs)), .c (.sl (d.x.map CellD.cs))]
theorem forget_edits (l : List EditD) : forgetLL (l.map EditD.os) = l.map EditD.cs := by
 induction l with
 | nil => rfl
 | cons d l ih => simp only [List.map_cons, forgetLL, ih, EditD.os, EditD.cs, forgetL, C.forget, forget_cells]
theorem closed_edits (l : List EditD) : closedLL (l.map EditD.os) = true := by
 induction l with
 | nil => rfl
 | cons d l ih => simp only [List.map_cons, closedLL, ih, Bool.and_true, EditD.os, closedL, C.closed, closed_cells]
theorem all_edits (l : List EditD) : ((l.map EditD.os).all fun r => r.length == 3) = true := by simp [EditD.os]
attribute [go_sem] forget_edits closed_edits all_edits EditD.av
set_option maxRecDepth 10000
theorem implFault_ac (xs : List CellD) (hz : Sized xs) : AC Tryz.prog 36 [cellsA xs] [] (.c (.int .i64 (dec xs).1)) [] := by
 rcases dec_cases xs with ⟨t, ht⟩ | ⟨c, _, ht⟩
 ·have hv := valOf_ac xs hz (t := t) (by rw [ht])
  rw [ht]
  refine wEnter Tryz.func36 Tryz.ntmps36 ?_
  refine wRUN trivial ?_
  refine w9 (op_shared [] hv) trivial ?_
  refine wRUN trivial ?_
  exact wRet (ret_data []) Tryz.results36
 ·have hv := valOf_bad xs hz (by rw [ht])
  refine wEnter Tryz.func36 Tryz.ntmps36 ?_
  refine wRUN trivial ?_
  refine w9 (op_shared [] hv) noV_eq ?_
  refine wRUN noV_eq ?_
  exact wRet (ret_data []) Tryz.results36
set_option maxRecDepth 10000
theorem count_right {q : V} (h : q.right) : AC Tryz.prog 40 [q.av] [] (.own (0, 0)) [((0, 0), .row false 5 94 (q.enc.map CellD.cs))] :=
 cells_ac q.count q (Nat.le_refl _) (by have := h.2.1; omega) (right_neat h)
def small (t : V) : Int × Option V := if t.count ≤ 200 then okR t else badR 2
theorem depth_node (t : V) : t.depth = 1 + depthL t.kids := by
 cases t
 simp only [V.depth, V.kids]
 omega
abbrev Mem1 := ByteArray × V
def fsts (l : List Mem1) : List ByteArray := l.map Prod.fst
def snds (l : List Mem1) : List V := l.map Prod.snd
def ovV (l : List Mem1) : V := .mk 6 0 ByteArray.empty (fsts l) (snds l)
theorem fs_len (l : List Mem1) : (fsts l).length = (snds l).length := by unfold fsts snds; rw [List.length_map, List.length_map]
theorem lastKid_mem {l : List Mem1} (h : Up (fsts l)) {k : ByteArray} {u : V} (h1 : (k, u) ∈ l) : lastKid (fsts l) (snds l) k = u := by
 have hk : k ∈ fsts l := List.mem_map.2 ⟨(k, u), h1, rfl⟩
 obtain ⟨j, g1, _, g3⟩ := lastKid_at (fs_len l) hk
 obtain ⟨i, hi, e1⟩ := List.mem_iff_getElem.1 h1
 have q1 : (fsts l)[i]? = some k := by unfold fsts; rw [List.getElem?_map, List.getElem?_eq_getElem hi, e1]; rfl
 have := up_inj h g1 q1
 subst this
 have q2 : (snds l)[j]? = some u := by unfold snds; rw [List.getElem?_map, List.getElem?_eq_getElem hi, e1]; rfl
 rw [q2] at g3
 exact (Option.some.inj g3).symm
theorem arr_eta {t : V} (h : t.wf) (h5 : t.kind = 5) : t = arrV t.kids := by
 obtain ⟨_, _, h3, h4, h6, _⟩ := right_shape h
 cases t with
 | mk kind num text keys kids =>
  simp only [V.kind, V.num, V.text, V.keys] at h5 h3 h4 h6
  rw [h3 (by omega), h4 (by omega), h6 (by omega), h5]
  rfl
def pairsV (t : V) : List Mem1 := t.keys.zip t.kids
theorem pairs_f {t : V} (h : t.keys.length = t.kids.length) : fsts (pairsV t) = t.keys := by
 unfold fsts pairsV
 exact List.map_fst_zip (by omega)
theorem pairs_s {t : V} (h : t.keys.length = t.kids.length) : snds (pairsV t) = t.kids := by
 unfold snds pairsV
 exact List.map_snd_zip (by omega)
theorem obj_eta {t : V} (h : t.right) (h6 : t.kind = 6) : t = ovV (pairsV t) := by
 obtain ⟨_, _, hl⟩ := right_asc h h6
 obtain ⟨_, _, h3, h4, _, _⟩ := right_shape h.1
 unfold ovV
 rw [pairs_f hl, pairs_s hl]
 cases t with
 | mk kind num text keys kids =>
  simp only [V.kind, V.num, V.text] at h6 h3 h4
  rw [h3 (by omega), h4 (by omega), h6]
  rfl
end Go.Proofs.YtlciedpfjhkkdaaGreatDoor
