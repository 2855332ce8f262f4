/- Texts of this proof: M44 G73 S03 G72. -/
import Derived.Test.YtamgeodhpglgkaaGreatKM42uM43
import Derived.Test.YtamgeodhpglgkaaGreatKH12
import Derived.Test.YtamgeodhpglgkaaGreatKM30uM12
import Derived.Test.YtamgeodhpglgkaaGreatKG27uGE
import Derived.Test.YtamgeodhpglgkaaGreatKG49uG52
import Derived.Test.YtamgeodhpglgkaaGreatKT01
import Derived.Shelf.SlGeneric
import Derived.Shelf.SlLaysN
import Derived.Test.YtamgeodhpglgkaaGreatKG8
import Derived.Test.YtamgeodhpglgkaaGreatKM3
import Derived.Shelf.SlicesG.CompactS
import Derived.Lib.RowBridge
set_option linter.unusedSimpArgs false
set_option maxHeartbeats 8000000
namespace Go.Proofs.YtamgeodhpglgkaaGreat
open Go.RowKit
def EdTold (d : EditD) : Prop := ∃ q : List V, (∀ k ∈ q, sKey k) ∧ q.length ≤ 50 ∧ ((∃ x : V, x.right ∧ d = setE q x) ∨ (q ≠ [] ∧ d = dropE q))
theorem diff_told : ∀ (n : Nat) (a b : V) (p : List V) (D : Nat), a.right → b.right → a.depth ≤ D → b.depth ≤ D → (∀ q ∈ p, sKey q) → p.length + D ≤ 50 → ∀ d ∈ diffV n a b p, EdTold d
 | 0, a, b, p, D, _, _, _, _, _, _, d, hd => by unfold diffV at hd; cases hd
 | n + 1, a, b, p, D, ha, hb, da, db, hp, hpl, d, hd => by
  unfold diffV at hd
  have hda := depth_node a
  have hdb := depth_node b
  obtain ⟨E, rfl⟩ : ∃ E, D = E + 1 := ⟨D - 1, by omega⟩
  split at hd
  ·cases hd
  ·split at hd
   ·rename_i h6
    obtain ⟨ua, ta, la⟩ := right_asc ha h6.1
    obtain ⟨ub, tb, lb⟩ := right_asc hb h6.2
    obtain ⟨k, hk, hdk⟩ := List.mem_flatMap.1 hd
    have hkm := (mergeU_mem _ a.keys b.keys (Nat.le_refl _) k).1 hk
    have hkt : okText k = true := hkm.elim (ta k) (tb k)
    have hsk : ∀ q ∈ p ++ [strV k], sKey q := sk_snoc hp (sKey_str hkt)
    have hlen : (p ++ [strV k]).length + E ≤ 50 := by rw [List.length_append, List.length_singleton]; omega
    have mdep : ∀ {t : V}, t.right → t.kind = 6 → t.depth ≤ E + 1 → (findKey t.keys k).isSome = true → (t.member k).depth ≤ E := fun {t} ht h6 hd hs => by
     obtain ⟨i, hi⟩ := Option.isSome_iff_exists.1 hs
     obtain ⟨h1, _⟩ := findKey_some hi
     obtain ⟨_, _, hl⟩ := right_asc ht h6
     rw [member_at hi (List.getElem?_eq_getElem (by omega))]
     have := depthL_mem (List.getElem_mem (show i < t.kids.length by omega))
     have := depth_node t
     omega
    unfold objAt at hdk
    cases hB : (findKey b.keys k).isSome with
    | false =>
     rw [hB] at hdk
     simp only [if_true, List.mem_singleton] at hdk
     exact ⟨_, hsk, by omega, .inr ⟨by simp, hdk⟩⟩
    | true =>
     rw [hB] at hdk
     cases hA : (findKey a.keys k).isSome with
     | false =>
      rw [hA] at hdk
      simp only [Bool.true_eq_false, if_true, if_false, List.mem_singleton] at hdk
      exact ⟨_, hsk, by omega, .inl ⟨_, right_member hb h6.2 k, hdk⟩⟩
     | true =>
      rw [hA] at hdk
      simp only [Bool.true_eq_false, if_false] at hdk
      exact diff_told n _ _ _ E (right_member ha h6.1 k) (right_member hb h6.2 k) (mdep ha h6.1 da hA) (mdep hb h6.2 db hB) hsk hlen d hdk
   ·split at hd
    ·have hla := countL_len a.kids
     have hlb := countL_len b.kids
     have hca := count_node a
     have hcb := count_node b
     have q1 := ha.2.1
     have q2 := hb.2.1
     have hsk : ∀ i : Nat, i ≤ 400 → ∀ q ∈ p ++ [numV (i : Int)], sKey q := fun i hi => sk_snoc hp (sKey_num (by omega))
     have hlen : ∀ i : Nat, (p ++ [numV (i : Int)]).length + E ≤ 50 := fun i => by rw [List.length_append, List.length_singleton]; omega
     unfold arrD at hd
     rcases List.mem_append.1 hd with hd | hd
     ·rcases List.mem_append.1 hd with hd | hd
      ·obtain ⟨i, hi, hdi⟩ := List.mem_flatMap.1 hd
       rw [List.mem_range] at hi
       have i1 : i < a.kids.length := by omega
       have i2 : i < b.kids.length := by omega
       unfold bothAt at hdi
       rw [show a.kids.getD i nullV = a.kids[i] by simp [List.getD_eq_getElem?_getD, List.getElem?_eq_getElem i1], show b.kids.getD i nullV = b.kids[i] by simp [List.getD_eq_getElem?_getD, List.getElem?_eq_getElem i2]] at hdi
       have d1 := depthL_mem (List.getElem_mem i1)
       have d2 := depthL_mem (List.getElem_mem i2)
       exact diff_told n _ _ _ E (right_mem ha (List.getElem_mem i1)) (right_mem hb (List.getElem_mem i2)) (by omega) (by omega) (hsk i (by omega)) (hlen i) d hdi
      ·obtain ⟨j, hj, rfl⟩ := List.mem_map.1 hd
       have := hlen (a.kids.length - 1 - j)
       exact ⟨_, hsk (a.kids.length - 1 - j) (by omega), by omega, .inr ⟨by simp, rfl⟩⟩
     ·obtain ⟨j, hj, rfl⟩ := List.mem_map.1 hd
      rw [List.mem_range] at hj
      have i2 : min a.kids.length b.kids.length + j < b.kids.length := by omega
      have := hlen (min a.kids.length b.kids.length + j)
      refine ⟨_, hsk (min a.kids.length b.kids.length + j) (by omega), by omega, .inl ⟨b.kids.getD (min a.kids.length b.kids.length + j) nullV, ?_, rfl⟩⟩
      rw [show b.kids.getD (min a.kids.length b.kids.length + j) nullV = b.kids[min a.kids.length b.kids.length + j] by simp [List.getD_eq_getElem?_getD, List.getElem?_eq_getElem i2]]
      exact right_mem hb (List.getElem_mem i2)
    ·rw [List.mem_singleton] at hd
     exact ⟨p, hp, by omega, .inl ⟨b, hb, hd⟩⟩
theorem told_code {d : EditD} (h : EdTold d) : editCode d = 0 := by
 obtain ⟨q, hq, hl, ⟨x, hx, rfl⟩ | ⟨hn, rfl⟩⟩ := h
 ·have hp := path_told hq (by omega : q.length ≤ 100)
  unfold editCode setE
  dsimp only
  rw [hp, right_dec hx]
  rfl
 ·have hp := path_told hq (by omega : q.length ≤ 100)
  have h0 : ¬ q.length = 0 := fun h => hn (List.eq_nil_of_length_eq_zero h)
  unfold editCode dropE
  dsimp only
  rw [hp]
  simp [h0]
theorem told_okE {d : EditD} (h : EdTold d) : EditOk d := by
 obtain ⟨q, hq, hl, ⟨x, hx, rfl⟩ | ⟨hn, rfl⟩⟩ := h
 ·have hp := path_right hq (by omega : q.length ≤ 100)
  have h1 := hp.2.1
  have h2 := hx.2.1
  refine ⟨right_sized hp, right_sized hx, ?_, ?_⟩
  ·show (arrV q).enc.length ≤ _
   rw [enc_len]; omega
  ·show x.enc.length ≤ _
   rw [enc_len]; omega
 ·have hp := path_right hq (by omega : q.length ≤ 100)
  have h1 := hp.2.1
  refine ⟨right_sized hp, by show Sized []; unfold Sized; simp, ?_, ?_⟩
  ·show (arrV q).enc.length ≤ _
   rw [enc_len]; omega
  ·show ([] : List CellD).length ≤ _
   exact Nat.zero_le _
theorem first_zero : ∀ {l : List EditD}, (∀ d ∈ l, editCode d = 0) → firstEdit l = 0
 | [], _ => rfl
 | d :: l, h => by
  unfold firstEdit
  rw [h d (by simp)]
  exact first_zero fun e he => h e (List.mem_cons_of_mem _ he)
theorem diff_right {a b : V} (ha : a.right) (hb : b.right) (hl : ¬ (diffV a.count a b []).length > 100) : editsCode (diffV a.count a b []) = 0 ∧ ∀ d ∈ diffV a.count a b [], EditOk d := by
 have h := diff_told a.count a b [] 20 ha hb ha.2.2 hb.2.2 (by simp) (by simp)
 refine ⟨?_, fun d hd => told_okE (h d hd)⟩
 unfold editsCode
 rw [if_neg (by omega)]
 exact first_zero fun d hd => told_code (h d hd)
theorem sames_self {t : V} (ht : t.right) : sames t t = (leavesOf t).length := by
 unfold sames
 rw [List.filter_eq_self.2]
 intro p hp
 unfold leavesOf at hp
 obtain ⟨h1, _⟩ := path_own ht (List.mem_filter.1 hp).1
 rw [(sameAt_some (c := 0) h1).1, cmp_null.2 rfl]
 rfl
set_option maxRecDepth 10000
def ownC (l : List CellD) : C := match l with
 | [] => .sl []
 | x :: r => .osl ((x :: r).map CellD.cs)
def EditD.ox (d : EditD) : List C := [.int .i64 d.op, .osl (d.path.map CellD.cs), ownC d.x]
abbrev dP (es : List EditD) : Mem := [((0, 0), .box [.own (0, 1)]), ((0, 1), .row true 3 122 (es.map EditD.ox))]
abbrev dQ (es : List EditD) : Mem := [((0, 0), .box [.own (1, 0)]), ((1, 0), .row true 3 122 (es.map EditD.ox))]
theorem ownC_forget (l : List CellD) : (ownC l).forget = .sl (l.map CellD.cs) := by
 unfold ownC
 cases l with
 | nil => rfl
 | cons x r => simp only [C.forget, forget_cells]
theorem forget_ox (l : List EditD) : forgetLL (l.map EditD.ox) = l.map EditD.cs := by
 induction l with
 | nil => rfl
 | cons d l ih => simp only [List.map_cons, forgetLL, ih, EditD.ox, EditD.cs, forgetL, ownC_forget, C.forget, forget_cells]
theorem all_ox (l : List EditD) : ((l.map EditD.ox).all fun r => r.length == 3) = true := by simp [EditD.ox]
attribute [go_sem] forget_ox all_ox
theorem behindV_ac (p : List V) (k : V) (hp : p.length ≤ 900000) : AC Tryz.prog 252 [valsA p, k.av] [] (valsA (p ++ [k])) [] := by
 have hcl := cloneVals_ac p (by omega)
 have hol : p.length + 1 ≤ 1000000 := by omega
 have hrow : p.map V.cs ++ [[.int .i64 k.kind, .int .i64 k.num, .str k.text, .sl (k.keys.map strCs), .sl (k.kids.map V.cs)]] = (p ++ [k]).map V.cs := by rw [List.map_append, List.map_cons, List.map_nil, V.cs_eq]
 refine wEnter Tryz.func252 Tryz.ntmps252 ?_
 refine wRUN trivial ?_
 refine w12 (op_rowF [] hcl) trivial ?_
 refine wRUN hol ?_
 exact wRetOf (ret_of [] [(9, 0)]) Tryz.results252 hrow
theorem enc_cons (t : V) : ∃ x r, t.enc = x :: r := by
 cases h : t.enc with
 | nil => have h1 := enc_len t; have := count_pos t; rw [h, List.length_nil] at h1; omega
 | cons x r => exact ⟨x, r, rfl⟩
theorem dropD_ac (es : List EditD) (p : List V) (hp : (arrV p).count ≤ 500000) (hn : (arrV p).neat) (hl : es.length ≤ 900000) : AC Tryz.prog 254 [.ptr (0, 0) 0, valsA p] (dP es) (.tup []) (dQ (es ++ [dropE p])) := by
 have hce := cells_ac _ (arrV p) (Nat.le_refl _) hp hn
 have hol : es.length + 1 ≤ 1000000 := by omega
 have hrow : (es ++ [dropE p]).map EditD.ox = es.map EditD.ox ++ [[.int .i64 2, .osl ((arrV p).enc.map CellD.cs), .sl []]] := by rw [List.map_append]; rfl
 refine wEnter Tryz.func254 Tryz.ntmps254 ?_
 refine wRUN trivial ?_
 refine w9 (op_shared [] (array_ac p)) trivial ?_
 refine w12 (op_rowF [] hce) trivial ?_
 refine wRUN hol ?_
 exact wRetOf (ret_of [((0, 0), (0, 0)), ((1, 0), (14, 0))] []) Tryz.results254 hrow
theorem setD_ac (es : List EditD) (p : List V) (x : V) (hp : (arrV p).count ≤ 500000) (hn : (arrV p).neat) (hx : x.count ≤ 500000) (hxn : x.neat) (hl : es.length ≤ 900000) : AC Tryz.prog 151 [.ptr (0, 0) 0, valsA p, x.av] (dP es) (.tup []) (dQ (es ++ [setE p x])) := by
 have hce := cells_ac _ (arrV p) (Nat.le_refl _) hp hn
 have hcx := cells_ac _ x (Nat.le_refl _) hx hxn
 have hol : es.length + 1 ≤ 1000000 := by omega
 obtain ⟨y, r, hyr⟩ := enc_cons x
 have hrow : (es ++ [setE p x]).map EditD.ox = es.map EditD.ox ++ [[.int .i64 1, .osl ((arrV p).enc.map CellD.cs), .osl (x.enc.map CellD.cs)]] := by
  rw [List.map_append, List.map_cons, List.map_nil]
  unfold EditD.ox setE ownC
  rw [hyr]
 refine wEnter Tryz.func151 Tryz.ntmps151 ?_
 refine wRUN trivial ?_
 refine w9 (op_shared [] (array_ac p)) trivial ?_
 refine w12 (op_rowF [] hce) trivial ?_
 refine wRUN trivial ?_
 refine w12 (op_rowF [] hcx) trivial ?_
 refine wRUN hol ?_
 exact wRetOf (ret_of [((0, 0), (0, 0)), ((1, 0), (18, 0))] []) Tryz.results151 hrow
end Go.Proofs.YtamgeodhpglgkaaGreat
namespace Go.Proofs.YtamgeodhpglgkaaGreat
open Go.RowKit Go.Shelf
def compS_ren : Ren where
 f := fun x => match x with
  | 44 => 251
  | n => n
 t := fun x => match x with
  | 0 => 0
  | 3 => 3
  | 4 => 4
  | 25 => 98
  | 26 => 9
  | n => n
 g := fun n => n
theorem compS_lays : SlLaysN.n44 Tryz.prog compS_ren where
 mixed := follows_mixed
 f44 := ⟨Tryz.f251.name, by kernel_rfl, by kernel_rfl⟩
 t0 := Tryz.underlying0
 a0 := Tryz.isAgg0
 z0 := Tryz.sizeOf0
 v0 := Tryz.zeroValue0
 t3 := Tryz.underlying3
 a3 := Tryz.isAgg3
 z3 := Tryz.sizeOf3
 v3 := Tryz.zeroValue3
 t4 := Tryz.underlying4
 a4 := Tryz.isAgg4
 z4 := Tryz.sizeOf4
 v4 := Tryz.zeroValue4
 t25 := Tryz.underlying98
 a25 := Tryz.isAgg98
 z25 := Tryz.sizeOf98
 v25 := Tryz.zeroValue98
 t26 := Tryz.underlying9
 a26 := Tryz.isAgg9
 z26 := Tryz.sizeOf9
 v26 := Tryz.zeroValue9
 i26 := by kernel_rfl
end Go.Proofs.YtamgeodhpglgkaaGreat
namespace Go.Proofs.YtamgeodhpglgkaaGreat
open Go.RowKit Go.Sort Go.Shelf
set_option maxRecDepth 10000
theorem compactG {α : Type} [Inhabited α] [DecidableEq α] {lt : α → α → Prop} (htr : ∀ a b c, lt a b → lt b c → lt a c) {d : List α} (hs : d.Pairwise fun a b => a = b ∨ lt a b) : ∀ (m : Nat), m ≤ d.length → (Lib.compactUpTo d.toArray m).Pairwise lt ∧ (∀ x, x ∈ Lib.compactUpTo d.toArray m ↔ ∃ (j : Nat) (hj : j < d.length), j < m ∧ d[j] = x)
 | 0, _ => by simp [Lib.compactUpTo]
 | m + 1, hm => by
  obtain ⟨h1, h2⟩ := compactG htr hs m (by omega)
  have hlt : m < d.length := by omega
  have hg : d.toArray[m]! = d[m] := by simp [hlt]
  rw [Lib.compactUpTo_succ, hg]
  have hle : ∀ (i j : Nat) (hi : i < d.length) (hj : j < d.length), i ≤ j → d[i] = d[j] ∨ lt d[i] d[j] := by
   intro i j hi hj hij
   by_cases he : i = j
   ·subst he; exact .inl rfl
   ·exact List.pairwise_iff_getElem.1 hs i j hi hj (by omega)
  cases hk : Lib.keeps d.toArray m with
  | true =>
   rw [if_pos rfl]
   refine ⟨List.pairwise_append.2 ⟨h1, by simp, fun a ha b hb => ?_⟩, fun x => ?_⟩
   ·have hb' : b = d[m] := by simpa using hb
    subst hb'
    obtain ⟨j, hj, hjm, rfl⟩ := (h2 a).1 ha
    unfold Lib.keeps at hk
    have hne : d[m] ≠ d[m - 1]'(by omega) := by
     have := of_decide_eq_true hk
     rcases this with h | h
     ·omega
     ·have e1 : d.toArray[m - 1]! = d[m - 1]'(by omega) := by simp [show m - 1 < d.length by omega]
      rw [hg, e1] at h
      exact h
    have l2 : lt d[m - 1] d[m] := (hle (m - 1) m (by omega) hlt (by omega)).resolve_left fun e => hne e.symm
    rcases hle j (m - 1) hj (by omega) (by omega) with l1 | l1
    ·rw [l1]; exact l2
    ·exact htr _ _ _ l1 l2
   ·rw [List.mem_append, h2]
    constructor
    ·rintro (⟨j, hj, hjm, e⟩ | h)
     ·exact ⟨j, hj, by omega, e⟩
     ·exact ⟨m, hlt, by omega, (List.mem_singleton.1 h).symm⟩
    ·rintro ⟨j, hj, hjm, e⟩
     by_cases hjm' : j < m
     ·exact .inl ⟨j, hj, hjm', e⟩
     ·have : j = m := by omega
      subst this
      exact .inr (by simp [e])
  | false =>
   rw [if_neg (by simp), List.append_nil]
   refine ⟨h1, fun x => ?_⟩
   rw [h2]
   constructor
   ·rintro ⟨j, hj, hjm, e⟩
    exact ⟨j, hj, by omega, e⟩
   ·rintro ⟨j, hj, hjm, e⟩
    by_cases hjm' : j < m
    ·exact ⟨j, hj, hjm', e⟩
    ·have hjm2 : j = m := by omega
     subst hjm2
     unfold Lib.keeps at hk
     have := of_decide_eq_false hk
     have h0 : ¬ j = 0 := fun h => this (.inl h)
     have h3 : d.toArray[j]! = d.toArray[j - 1]! := Classical.not_not.1 fun h => this (.inr h)
     have e1 : d.toArray[j - 1]! = d[j - 1]'(by omega) := by simp [show j - 1 < d.length by omega]
     rw [hg, e1] at h3
     exact ⟨j - 1, by omega, by omega, by rw [← h3]; exact e⟩
def compB (l : List ByteArray) : List ByteArray := (Lib.compact (l.map fun b => b.data.toList)).map fun x => ⟨x.toArray⟩
theorem sorted_pair (l : List (List UInt8)) : (l.mergeSort fun x y => decide (x ≤ y)).Pairwise fun a b => a = b ∨ Op.bytesLess a b = true := by
 have hs := List.pairwise_mergeSort (le := fun x y : List UInt8 => decide (x ≤ y)) (fun a b c h1 h2 => by
  rw [le_less] at h1 h2 ⊢
  cases h3 : Op.bytesLess c a with
  | false => rfl
  | true =>
   rcases bytesLess_tri a b with h | h | h
   ·rw [bytesLess_trans h3 h] at h2; exact h2
   ·subst h; rw [h3] at h2; exact h2
   ·rw [h] at h1; exact h1) (fun a b => by
  rw [le_less, le_less]
  rcases bytesLess_tri a b with h | h | h
  ·have : Op.bytesLess b a = false := by
    cases h2 : Op.bytesLess b a with
    | false => rfl
    | true => have := bytesLess_trans h h2; rw [bytesLess_irrefl] at this; cases this
   simp [this]
  ·subst h; simp [bytesLess_irrefl]
  ·have : Op.bytesLess a b = false := by
    cases h2 : Op.bytesLess a b with
    | false => rfl
    | true => have := bytesLess_trans h h2; rw [bytesLess_irrefl] at this; cases this
   simp [this]) l
 refine hs.imp fun {a b} h => ?_
 rw [le_less] at h
 rcases bytesLess_tri a b with g | g | g
 ·exact .inr g
 ·exact .inl g
 ·rw [g] at h; exact absurd h (by simp)
theorem compB_sort (l : List ByteArray) : compB (sortB l) = objKeys l := by
 have hmap : ((sortB l).map fun b => b.data.toList) = (l.map fun b => b.data.toList).mergeSort fun x y => decide (x ≤ y) := by
  unfold sortB
  rw [List.map_map]
  exact List.map_id'' (fun x => rfl) _
 unfold compB
 rw [hmap]
 obtain ⟨h1, h2⟩ := compactG (lt := fun a b => Op.bytesLess a b = true) (fun a b c => bytesLess_trans) (sorted_pair (l.map fun b => b.data.toList)) _ (Nat.le_refl _)
 refine up_eq ?_ (objKeys_up l) fun x => ?_
 ·unfold Up
  rw [List.pairwise_map]
  refine h1.imp fun {a b} h => ?_
  unfold lessB
  rw [ByteArray.toList_eq, ByteArray.toList_eq]
  exact h
 ·rw [objKeys_mem, List.mem_map]
  constructor
  ·rintro ⟨y, hy, rfl⟩
   obtain ⟨j, hj, _, rfl⟩ := (h2 y).1 hy
   have := (List.mergeSort_perm (l.map fun b => b.data.toList) fun x y => decide (x ≤ y)).mem_iff.1 (List.getElem_mem hj)
   obtain ⟨b, hb, he⟩ := List.mem_map.1 this
   rw [← he]
   exact hb
  ·intro h
   refine ⟨x.data.toList, (h2 _).2 ?_, rfl⟩
   have := (List.mergeSort_perm (l.map fun b => b.data.toList) fun x y => decide (x ≤ y)).mem_iff.2 (List.mem_map.2 ⟨x, h, rfl⟩)
   obtain ⟨j, hj, he⟩ := List.mem_iff_getElem.1 this
   exact ⟨j, hj, hj, he⟩
theorem compactStrs_ac (l : List ByteArray) (hl : l.length ≤ 1000000) : AC Tryz.prog 251 [.own (0, 0)] [((0, 0), .row false 1 9 (l.map strCs))] (.own (1, 0)) [((1, 0), .row false 1 9 ((compB l).map strCs))] := by
 refine AC.of_cons (closed_strs _) fun S w v vrows h1 h2 h3 => ?_
 obtain ⟨rfl, _⟩ := crss_strs.1 h1
 rw [flat_strs, List.length_map] at h3
 have hll : (l.map fun b => b.data.toList).length = l.length := by simp
 have hcl := Lib.compact_length_le (l.map fun b => b.data.toList)
 rcases h3.2 with ⟨rfl, h0⟩ | ⟨g, cap, cur, rfl, hb, hg, hc, hm, hs, ht⟩
 ·have hl0 : l = [] := List.eq_nil_of_length_eq_zero h0
  subst hl0
  have e0 : compB [] = [] := by simp [compB, Lib.compact, Lib.compactUpTo]
  rw [e0]
  refine (AnyG.slices_Compact_string_empty compS_lays none 0 w).mono ?_
  rintro e1 w' ⟨rfl, rfl⟩
  exact ⟨⟨rfl, rfl, rfl, Nat.le_refl _, fun _ _ _ => rfl⟩, _, [], rfl, rfl, ⟨rfl, rfl⟩, by simp, World.ownsRow_nil _ _ _ _⟩
 ·rw [Nat.mul_one, ← hll] at ht
  have hH := holds_of_block hg ht
  have hcall := AnyG.slices_Compact_string compS_lays g 0 cap (l.map fun b => b.data.toList) w hH (by rw [hll]; omega) (by rw [hll]; exact hc)
  rw [hll] at hcall
  refine hcall.mono ?_
  rintro e1 w' ⟨rfl, q, rfl⟩
  rw [hll] at hcl
  generalize hD : Lib.compact (l.map fun b => b.data.toList) = D at *
  have hown := ownsRow_sorted (w := w) (n := q) (os := #[]) (ss := l.map fun b => b.data.toList) (ts := D ++ List.replicate (l.length - D.length) []) (by simp; omega) hb hg (by rw [hll]; exact hc) hm hs
  have hgb := grownBy_sorted (w := w) (g := g) (n := q) (os := #[]) (D ++ List.replicate (l.length - D.length) []).toArray
  rw [grow_empty] at hown hgb
  have hmap : (((compB l) ++ List.replicate (l.length - D.length) (⟨#[]⟩ : ByteArray)).map fun b => b.data.toList) = D ++ List.replicate (l.length - D.length) [] := by
   unfold compB
   rw [List.map_append, List.map_map, List.map_replicate, hD]
   refine congrArg (· ++ _) ?_
   exact List.map_id'' (fun x => rfl) _
  have hcb : (compB l).length = D.length := by unfold compB; rw [List.length_map, hD]
  rw [← hmap, ← flat_strs] at hown
  refine ⟨hgb, _, (compB l).map (fun x => [Value.string x]), rfl, rfl, crss_strs.2 ⟨rfl, rfl⟩, rows_oneS _, ?_⟩
  rcases ownsRow_pre hown (fun x hx => by obtain ⟨y, _, rfl⟩ := List.mem_map.1 hx; rfl) (by simp [hcb]; omega) (m := D.length) (by simp; omega) with ⟨hn, _⟩ | ⟨g', cap', he, _, hown'⟩
  ·simp at hn
  ·simp only [Value.slice.injEq, Option.some.injEq, Addr.mk.injEq, and_true] at he
   obtain ⟨rfl, _, rfl⟩ := he
   rw [← List.map_take, List.take_left' hcb, hmap] at hown'
   rw [List.length_map, hcb]
   exact hown'
end Go.Proofs.YtamgeodhpglgkaaGreat
