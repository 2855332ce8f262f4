/- Edits as data, and in memory. -/
import Derived.Test.YtfmkejgdooammaaA06
import Derived.Test.YtfmkejgdooammaaM05
namespace Go.Proofs.Ytfmkejgdooammaa
open Go.RowKit

structure EditD where
  op : Int
  path : List CellD
  x : List CellD
def badKid (k : V) : Bool := k.kind != 4 && k.kind != 3
def pathDec (xs : List CellD) : Int × Option (List V) :=
  match dec xs with
  | (c, none) => (c, none)
  | (_, some t) => if t.kind != 5 || t.kids.any badKid then (6, none) else (0, some t.kids)
theorem pathDec_enc {t : V} (hw : t.wf) (hc : t.count ≤ 200) (hd : t.depth ≤ 20) : pathDec t.enc = if t.kind != 5 || t.kids.any badKid then (6, none) else (0, some t.kids) := by
  unfold pathDec; rw [dec_enc hw hc hd]
theorem pathDec_cases (xs : List CellD) : (∃ t : V, xs = t.enc ∧ t.wf ∧ t.count ≤ 200 ∧ t.depth ≤ 20 ∧ t.kind = 5 ∧ t.kids.any badKid = false ∧ pathDec xs = (0, some t.kids)) ∨ (∃ c, c ≠ 0 ∧ pathDec xs = (c, none)) := by
  rcases dec_cases xs with ⟨t, ht⟩ | ⟨c, hc, hd⟩
  · obtain ⟨rfl, h1, h2, h3⟩ := dec_ok ht
    rw [pathDec_enc h1 h2 h3]
    cases hb : (t.kind != 5 || t.kids.any badKid)
    · simp at hb
      exact .inl ⟨t, rfl, h1, h2, h3, hb.1, by simpa using hb.2, rfl⟩
    · exact .inr ⟨6, by omega, rfl⟩
  · exact .inr ⟨c, hc, by unfold pathDec; rw [hd]⟩
def Sized (xs : List CellD) : Prop := ∀ c ∈ xs, c.text.size ≤ 9223372036854775807 ∧ c.key.size ≤ 9223372036854775807

/-- The code of one edit; the first code that is not 0; the code of edits. -/
def editCode (d : EditD) : Int :=
  if d.op != 1 && d.op != 2 then 1 else
  match pathDec d.path with
  | (c, none) => c
  | (_, some ks) => if d.op == 1 then (dec d.x).1 else if d.x.length ≠ 0 ∨ ks.length = 0 then 1 else 0
def firstEdit : List EditD → Int
  | [] => 0
  | d :: l => if editCode d ≠ 0 then editCode d else firstEdit l
def editsCode (l : List EditD) : Int := if 100 < l.length then 2 else firstEdit l
theorem firstEdit_at {xs : List EditD} : ∀ {k : Nat} (hk : k < xs.length), (∀ i (hi : i < xs.length), i < k → editCode xs[i] = 0) → editCode xs[k] ≠ 0 → firstEdit xs = editCode xs[k] := by
  induction xs with
  | nil => intro k hk; simp at hk
  | cons c l ih =>
    intro k hk h h0
    cases k with
    | zero => simp only [List.getElem_cons_zero] at h0 ⊢; simp [firstEdit, h0]
    | succ k =>
      have h1 : editCode c = 0 := h 0 (by simp) (by omega)
      simp only [List.getElem_cons_succ] at h0 ⊢
      simp only [firstEdit, h1]
      exact ih (by simpa using hk) (fun i hi hik => h (i + 1) (by simpa using hi) (by omega)) h0
theorem firstEdit_all {xs : List EditD} : (∀ i (hi : i < xs.length), editCode xs[i] = 0) → firstEdit xs = 0 := by
  induction xs with
  | nil => intro _; rfl
  | cons c l ih =>
    intro h
    have h1 : editCode c = 0 := h 0 (by simp)
    simp only [firstEdit, h1]
    exact ih fun i hi => h (i + 1) (by simpa using hi)

/-- An edit's three cells. -/
def RE (w : World) (S : Nat → Prop) (d : EditD) (vs : List Value) : Prop :=
  ∃ Ap cp Ax cx, vs = [.int .i64 d.op, .slice Ap d.path.length cp, .slice Ax d.x.length cx] ∧ d.path.length ≤ cp ∧ d.x.length ≤ cx ∧ Cells w S Ap d.path ∧ Cells w S Ax d.x
theorem okE : RepOk RE 3 := by
  refine ⟨fun h => ?_, fun h u hu => ?_, fun hs h => ?_, fun hs h => ?_⟩
  · obtain ⟨_, _, _, _, rfl, _⟩ := h; rfl
  · obtain ⟨_, _, _, _, rfl, _⟩ := h; simp at hu; rcases hu with rfl | rfl | rfl <;> rfl
  · obtain ⟨Ap, cp, Ax, cx, rfl, h1, h2, h3, h4⟩ := h; exact ⟨Ap, cp, Ax, cx, rfl, h1, h2, h3.keep hs, h4.keep hs⟩
  · obtain ⟨Ap, cp, Ax, cx, rfl, h1, h2, h3, h4⟩ := h; exact ⟨Ap, cp, Ax, cx, rfl, h1, h2, h3.weaken hs, h4.weaken hs⟩
def Edits (w : World) (S : Nat → Prop) (A : Option Addr) (l : List EditD) : Prop := RowOf RE 3 w S A l
theorem Edits.at_ {w : World} {S : Nat → Prop} {A : Option Addr} {l : List EditD} (h : Edits w S A l) {i : Nat} (hi : i < l.length) :
    ∃ b off Ap cp Ax cx, A = some ⟨b, off, none⟩ ∧ b < w.heap.size ∧ w.cell? ⟨b, off + i * 3, none⟩ = some (.int .i64 l[i].op) ∧ w.cell? ⟨b, off + i * 3 + 1, none⟩ = some (.slice Ap l[i].path.length cp) ∧
      w.cell? ⟨b, off + i * 3 + 2, none⟩ = some (.slice Ax l[i].x.length cx) ∧ l[i].path.length ≤ cp ∧ l[i].x.length ≤ cx ∧ Cells w S Ap l[i].path ∧ Cells w S Ax l[i].x := by
  obtain ⟨b, off, row, hA, hb, hl, ⟨Ap, cp, Ax, cx, rfl, h1, h2, h3, h4⟩, hc⟩ := RowOf.at_ h hi
  exact ⟨b, off, Ap, cp, Ax, cx, hA, hl, hc 0 _ rfl, hc 1 _ rfl, hc 2 _ rfl, h1, h2, h3, h4⟩
theorem Edits.below {w w' : World} {S : Nat → Prop} {A : Option Addr} {l : List EditD} (h : Edits w S A l) (hb : Below w.heap.size w w') : Edits w' S A l := RowOf.below okE h hb
def EditOk (d : EditD) : Prop := Sized d.path ∧ Sized d.x ∧ d.path.length ≤ 9223372036854775807 ∧ d.x.length ≤ 9223372036854775807
end Go.Proofs.Ytfmkejgdooammaa
