/- Texts of this proof: G14 G48 S02. -/
import Derived.Test.YtamgeodhpglgkaaGreatKG13
import Derived.Test.YtamgeodhpglgkaaGreatKL1
import Derived.Test.YtamgeodhpglgkaaGreatKT01
import Derived.Shelf.SlGeneric
import Derived.Shelf.SlLaysM
set_option linter.unusedSimpArgs false
namespace Go.Proofs.YtamgeodhpglgkaaGreat
open Go.RowKit
theorem ownsRow_lt {w : World} {base : Nat} {e : TypeId} {es n : Nat} {v : Value} {cs : List Value} (h : w.ownsRow base e es v n cs) {b : Nat} (hb : v.ownBlock = some b) : base ≤ b ∧ b < w.heap.size := by
 rcases h.2 with ⟨rfl, _⟩ | ⟨g, cap, cur, rfl, hg, hh, _⟩
 ·cases hb
 ·have : g = b := by simpa [Value.ownBlock] using hb
  subst this
  exact ⟨hg, (Array.getElem?_eq_some_iff.1 hh).1⟩
theorem ownsRow_zero {w : World} {base : Nat} {e : TypeId} {es n : Nat} {v : Value} {cs : List Value} (h : w.ownsRow base e es v n cs) : w.ownsRow 0 e es v n cs := by
 refine ⟨h.1, ?_⟩
 rcases h.2 with h | ⟨g, cap, cur, e1, hg, r⟩
 ·exact .inl h
 ·exact .inr ⟨g, cap, cur, e1, Nat.zero_le _, r⟩
theorem AC.of_row {P : Program} {f : FuncId} {args : List AV} {es : Nat} {e : TypeId} {rows : List (List C)} (hc : closedLL rows = true)
  (h : ∀ (S : Nat → Prop) (w : World) (κ : Id → Value) (vals : List Value), ARs w S [] κ args vals → Calls P f vals.toArray w fun e1 w' => Below w.heap.size w w' ∧ ∃ v vrows, e1 = .returned v ∧ CRss w' (fun _ => False) rows vrows [] ∧ (∀ x ∈ vrows, x.length = es) ∧ w'.ownsRow w.heap.size e es v rows.length vrows.flatten) :
  AC P f args [] (.own (0, 0)) [((0, 0), .row false es e rows)] := by
 intro Γ vals hE hA
 have how : ∀ b, Γ.ow b = none := by
  intro b
  cases hb : Γ.ow b with
  | none => rfl
  | some i => obtain ⟨_, o, h1, _⟩ := hE.own b i hb; simp [Mem.get] at h1
 refine (h _ _ _ _ hA).mono ?_
 rintro e1 w' ⟨hb, v, vrows, rfl, h1, h2, h3⟩
 refine ⟨v, fun b => if v.ownBlock = some b then some (0, 0) else none, fun _ => v, rfl, ⟨⟨ownsRow_one h3, _, rfl, fun _ => rfl⟩, ?_, ?_, hb.os, hb.tape, hb.output, hb.size, ?_, fun i o o' h => (by simp [Mem.get] at h)⟩⟩
 ·intro i o hi
  obtain ⟨rfl, rfl⟩ := get_one hi
  refine ⟨vrows, [], CRss.closed hc h1, fun _ => rfl, h2, ownsRow_zero h3, ?_, fun b hb => ?_⟩
  ·show (v.ownBlock.toList ++ []).Nodup
   cases v.ownBlock <;> simp
  ·have hb' : b ∈ v.ownBlock.toList ++ [] := hb
   have : v.ownBlock = some b := by simpa using hb'
   exact if_pos this
 ·intro b i hbi
  split at hbi
  ·rename_i hv
   refine ⟨(ownsRow_lt h3 hv).2, .row false es e rows, ?_, rfl⟩
   rw [← Option.some.inj hbi]
   rfl
  ·cases hbi
 ·intro b hl _
  refine ⟨hb.block b hl, ?_⟩
  refine if_neg fun hv => ?_
  have := (ownsRow_lt h3 hv).1
  omega
theorem closed_cells (l : List CellD) : closedLL (l.map CellD.cs) = true := by
 induction l with
 | nil => rfl
 | cons c l ih => simp only [List.map_cons, closedLL, ih, Bool.and_true]; rfl
attribute [go_sem] closed_cells AO.closed
theorem toCellS_ac (xs : List CellD) (hl : xs.length ≤ 1048576) : AC Tryz.prog 13 [cellsA xs] [] (.own (0, 0)) [((0, 0), .row false 5 95 (xs.map CellD.cs))] := by
 refine AC.of_row (closed_cells xs) fun S w κ vs hv => ?_
 obtain ⟨v, vs', rfl, h1, rfl⟩ := hv
 obtain ⟨A, cap, rfl, _, hc⟩ := cr_cells.1 h1
 refine (toCellS_any xs hl A cap S w hc).mono ?_
 rintro e w' ⟨⟨g, rfl, rows, q1, q2, q3, q4⟩, hb⟩
 have : rows = xs.map vals := by
  apply List.ext_getElem?
  intro i
  by_cases hi : i < xs.length
  ·rw [List.getElem?_eq_getElem (by omega)]
   have := q4 i hi _ (List.getElem?_eq_getElem (by omega))
   rw [List.getElem?_map, List.getElem?_eq_getElem hi]
   exact congrArg some this
  ·rw [List.getElem?_eq_none (by omega), List.getElem?_eq_none (by simp; omega)]
 subst this
 refine ⟨hb, _, xs.map vals, rfl, (crss_map crs_cell).2 ⟨rfl, rfl⟩, q2, ?_⟩
 rw [List.length_map]
 exact q3
theorem AC.calls {P : Program} {f : FuncId} {args : List AV} {b : Bool} (h : AC P f args [] (.c (.bool b)) []) {w : World} {S : Nat → Prop} {vals : List Value}
  (hv : ∀ (T : Nat → Prop), (∀ b, S b → T b) → ∀ κ, ARs w T [] κ args vals) : Calls P f vals.toArray w fun e w' => e = .returned (.bool b) ∧ Below w.heap.size w w' := by
 let Γ : Ctx := ⟨w, S, fun _ => none, fun _ => .bool false, []⟩
 have hE : Entry Γ [] := ⟨fun i o hi => (by simp [Mem.get] at hi), fun b i hb => (by cases hb), rfl⟩
 refine (h Γ vals hE (hv _ (fun b hb => ⟨rfl, .inl hb⟩) _)).mono ?_
 rintro e w' ⟨v, ow, κ, rfl, hx⟩
 obtain ⟨rfl, _⟩ := hx.res
 exact ⟨rfl, hx.os, hx.tape, hx.output, hx.size, fun b hb => (hx.frame b hb rfl).1⟩
theorem AC.of_mut {P : Program} {f : FuncId} {es : Nat} {e : TypeId} {rows rows' : List (List C)} (hc : closedLL rows' = true)
  (h : ∀ (S : Nat → Prop) (w : World) (v : Value) (vrows : List (List Value)), CRss w S rows vrows [] → (∀ x ∈ vrows, x.length = es) → w.ownsRow 0 e es v rows.length vrows.flatten → Calls P f #[v] w fun e1 w' => e1 = .returned (.tuple #[]) ∧ w.grownBy w' v.ownBlock ∧ ∃ vrows', CRss w' (fun _ => False) rows' vrows' [] ∧ (∀ x ∈ vrows', x.length = es) ∧ w'.ownsRow 0 e es v rows'.length vrows'.flatten) :
  AC P f [.own (0, 0)] [((0, 0), .row false es e rows)] (.tup []) [((0, 0), .row false es e rows')] := by
 intro Γ vals hE hA
 obtain ⟨v, vs, rfl, hv, rfl⟩ := hA
 obtain ⟨_, o, ho, hk⟩ := hv
 obtain ⟨_, rfl⟩ := get_one ho
 obtain ⟨vrows, bs, h1, h2, h3, h4, h5, h6⟩ := hE.objs (0, 0) _ rfl
 have hbs := h2 rfl
 subst hbs
 have hkv := hk (by simp)
 rw [← hkv] at h4 h5 h6
 refine (h _ _ _ _ h1 h3 h4).mono ?_
 rintro e1 w' ⟨rfl, hg, vrows', g1, g2, g3⟩
 have hob : ∀ b, b < Γ.w.heap.size → Γ.ow b = none → some b ≠ v.ownBlock := by
  intro b _ hb hv
  have := h6 b (by simp [← hv])
  rw [hb] at this
  cases this
 refine ⟨.tuple #[], Γ.ow, Γ.κ, rfl, ⟨⟨[], rfl, rfl⟩, ?_, ?_, hg.os, hg.tape, hg.output, hg.size, ?_, fun i o o' _ _ => rfl⟩⟩
 ·intro i o hi
  obtain ⟨rfl, rfl⟩ := get_one hi
  refine ⟨vrows', [], CRss.closed hc g1, fun _ => rfl, g2, by rw [← hkv]; exact g3, by rw [← hkv]; exact h5, fun b hb => h6 b (by rw [hkv]; exact hb)⟩
 ·intro b i hbi
  obtain ⟨k1, o, k2, k3⟩ := hE.own b i hbi
  obtain ⟨rfl, _⟩ := get_one k2
  exact ⟨Nat.lt_of_lt_of_le k1 hg.size, _, rfl, rfl⟩
 ·intro b hl hb
  exact ⟨hg.block b hl (hob b hl hb), hb⟩
end Go.Proofs.YtamgeodhpglgkaaGreat
namespace Go.Proofs.YtamgeodhpglgkaaGreat
open Go.RowKit Go.Shelf
def sortS_ren : Ren where
 f := fun x => match x with
  | 6 => 250
  | 8 => 318
  | 9 => 317
  | 19 => 371
  | 20 => 372
  | 21 => 362
  | 22 => 363
  | 23 => 364
  | 24 => 365
  | 25 => 366
  | 26 => 367
  | 27 => 368
  | 28 => 369
  | 29 => 370
  | 36 => 386
  | 31 => 387
  | 32 => 388
  | 37 => 389
  | 38 => 390
  | 39 => 327
  | 41 => 395
  | n => n
 t := fun x => match x with
  | 27 => 98
  | 29 => 9
  | 3 => 3
  | 32 => 330
  | 26 => 98
  | 0 => 0
  | 44 => 367
  | 46 => 369
  | 4 => 4
  | 36 => 360
  | 35 => 359
  | 41 => 331
  | 5 => 5
  | 9 => 9
  | 53 => 380
  | 57 => 384
  | 63 => 388
  | 64 => 180
  | n => n
 g := fun n => n
theorem sortS_lays : SlLaysM.n6 Tryz.prog sortS_ren where
 mixed := follows_mixed
 f6 := ⟨Tryz.f250.name, by kernel_rfl, by kernel_rfl⟩
 f8 := by kernel_rfl
 f9 := ⟨Tryz.f317.name, by kernel_rfl, by kernel_rfl⟩
 f19 := by kernel_rfl
 f20 := by kernel_rfl
 f21 := ⟨Tryz.f362.name, by kernel_rfl, by kernel_rfl⟩
 f22 := ⟨Tryz.f363.name, by kernel_rfl, by kernel_rfl⟩
 f23 := ⟨Tryz.f364.name, by kernel_rfl, by kernel_rfl⟩
 f24 := ⟨Tryz.f365.name, by kernel_rfl, by kernel_rfl⟩
 f25 := ⟨Tryz.f366.name, by kernel_rfl, by kernel_rfl⟩
 f26 := ⟨Tryz.f367.name, by kernel_rfl, by kernel_rfl⟩
 f27 := ⟨Tryz.f368.name, by kernel_rfl, by kernel_rfl⟩
 f28 := ⟨Tryz.f369.name, by kernel_rfl, by kernel_rfl⟩
 f29 := ⟨Tryz.f370.name, by kernel_rfl, by kernel_rfl⟩
 f31 := by kernel_rfl
 f32 := by kernel_rfl
 f36 := ⟨Tryz.f386.name, by kernel_rfl, by kernel_rfl⟩
 f37 := ⟨Tryz.f389.name, by kernel_rfl, by kernel_rfl⟩
 f38 := ⟨Tryz.f390.name, by kernel_rfl, by kernel_rfl⟩
 f39 := ⟨Tryz.f327.name, by kernel_rfl, by kernel_rfl⟩
 f41 := ⟨Tryz.f395.name, by kernel_rfl, by kernel_rfl⟩
 t0 := Tryz.underlying0
 a0 := Tryz.isAgg0
 z0 := Tryz.sizeOf0
 v0 := Tryz.zeroValue0
 t3 := Tryz.underlying3
 a3 := Tryz.isAgg3
 z3 := Tryz.sizeOf3
 v3 := Tryz.zeroValue3
 t4 := Tryz.underlying4
 a4 := Tryz.isAgg4
 z4 := Tryz.sizeOf4
 v4 := Tryz.zeroValue4
 t5 := Tryz.underlying5
 a5 := Tryz.isAgg5
 z5 := Tryz.sizeOf5
 v5 := Tryz.zeroValue5
 t9 := Tryz.underlying9
 a9 := Tryz.isAgg9
 z9 := Tryz.sizeOf9
 v9 := Tryz.zeroValue9
 t26 := Tryz.underlying98
 a26 := Tryz.isAgg98
 z26 := Tryz.sizeOf98
 v26 := Tryz.zeroValue98
 t27 := Tryz.underlying98
 a27 := Tryz.isAgg98
 z27 := Tryz.sizeOf98
 v27 := Tryz.zeroValue98
 t29 := Tryz.underlying9
 a29 := Tryz.isAgg9
 z29 := Tryz.sizeOf9
 v29 := Tryz.zeroValue9
 t32 := Tryz.underlying330
 a32 := Tryz.isAgg330
 z32 := Tryz.sizeOf330
 v32 := Tryz.zeroValue330
 t35 := Tryz.underlying359
 a35 := Tryz.isAgg359
 z35 := Tryz.sizeOf359
 v35 := Tryz.zeroValue359
 t36 := Tryz.underlying360
 a36 := Tryz.isAgg360
 z36 := Tryz.sizeOf360
 v36 := Tryz.zeroValue360
 t41 := Tryz.underlying331
 a41 := Tryz.isAgg331
 z41 := Tryz.sizeOf331
 v41 := Tryz.zeroValue331
 t44 := Tryz.underlying367
 a44 := Tryz.isAgg367
 z44 := Tryz.sizeOf367
 v44 := Tryz.zeroValue367
 t46 := Tryz.underlying369
 a46 := Tryz.isAgg369
 z46 := Tryz.sizeOf369
 v46 := Tryz.zeroValue369
 t53 := Tryz.underlying380
 a53 := Tryz.isAgg380
 z53 := Tryz.sizeOf380
 v53 := Tryz.zeroValue380
 t57 := Tryz.underlying384
 a57 := Tryz.isAgg384
 z57 := Tryz.sizeOf384
 v57 := Tryz.zeroValue384
 t63 := Tryz.underlying388
 a63 := Tryz.isAgg388
 z63 := Tryz.sizeOf388
 v63 := Tryz.zeroValue388
 t64 := Tryz.underlying180
 a64 := Tryz.isAgg180
 z64 := Tryz.sizeOf180
 v64 := Tryz.zeroValue180
end Go.Proofs.YtamgeodhpglgkaaGreat
