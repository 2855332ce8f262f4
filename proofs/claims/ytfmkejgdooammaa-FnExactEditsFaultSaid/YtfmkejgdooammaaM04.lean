/- The plain mathematics of trees: trees without a fault are just what is read off cells. -/
import Derived.Test.YtfmkejgdooammaaM03
namespace Go.Proofs.Ytfmkejgdooammaa
open Go.RowKit

def asc : Option ByteArray → List ByteArray → Prop
  | _, [] => True
  | none, k :: ks => asc (some k) ks
  | some p, k :: ks => Op.bytesLess p.toList k.toList = true ∧ asc (some k) ks
def keysOk (kind : Int) (keys : List ByteArray) (n : Nat) : Prop :=
  if kind = 6 then keys.length = n ∧ (∀ k ∈ keys, okText k = true) ∧ asc none keys else keys = []
mutual
/-- A tree of which each part is right by itself. -/
def V.wf : V → Prop
  | .mk kind num text keys kids => cellCode kind num text ByteArray.empty kids.length = 0 ∧ keysOk kind keys kids.length ∧ wfL kids
def wfL : List V → Prop
  | [] => True
  | k :: ks => k.wf ∧ wfL ks
end
/-- The cells of a value. -/
def V.enc (t : V) : List CellD := t.cells ByteArray.empty

theorem empty_of {a : ByteArray} (h : a.toList = []) : a = ByteArray.empty := by
  rw [ByteArray.toList_eq] at h
  cases a with
  | mk d =>
    cases d with
    | mk l => simp at h; subst h; rfl
theorem empty_toList : ByteArray.empty.toList = [] := by rw [ByteArray.toList_eq]; rfl
theorem okText_empty : okText ByteArray.empty = true := by decide +kernel
theorem cellCode_key {k m : Int} {t y : ByteArray} {n : Int} (h : cellCode k m t y n = 0) : cellCode k m t ByteArray.empty n = 0 ∧ okText y = true := by
  unfold cellCode at h ⊢
  split at h
  · omega
  · split at h
    · omega
    · split at h
      · omega
      · split at h
        · omega
        · rename_i h1 h2 h3 h4
          rw [if_neg h1, if_neg h2, if_neg h3]
          simp only [cT, Bool.not_eq_true, Bool.or_eq_false_iff, Bool.not_eq_eq_eq_not] at h4
          simp at h4
          simp [cT, h4.1, okText_empty, h4.2]
theorem cellCode_holds {k m : Int} {t y : ByteArray} {n : Int} (h : cellCode k m t y n = 0) (hh : holds k = false) : n = 0 := by
  unfold cellCode at h
  split at h
  · omega
  · split at h
    · omega
    · rename_i h1 h2
      simp only [cF, hh] at h2
      simp at h2
      exact h2.2
theorem cellCode_of {k m : Int} {t y : ByteArray} {n : Int} (h : cellCode k m t ByteArray.empty n = 0) (hy : okText y = true) : cellCode k m t y n = 0 := by
  unfold cellCode at h ⊢
  split at h
  · omega
  · split at h
    · omega
    · split at h
      · omega
      · split at h
        · omega
        · rename_i h1 h2 h3 h4
          rw [if_neg h1, if_neg h2, if_neg h3]
          simp [cT, okText_empty] at h4
          simp [cT, h4, hy]

/-! ### reading is sound -/
theorem parseK_sound {m : Nat} (ih : ∀ l t r, (∀ c ∈ l, c.code = 0) → parseV m l = some (t, r) → t.wf ∧ ∃ c l', l = c :: l' ∧ l = t.cells c.key ++ r) (kind : Int) :
    ∀ cnt last l x, (∀ c ∈ l, c.code = 0) → (holds kind = false → cnt = 0) → parseK (parseV m) kind cnt last l = some x →
      x.2.1.length = cnt ∧ wfL x.2.1 ∧ l = cellsL kind x.1 x.2.1 ++ x.2.2 ∧ (kind = 6 → x.1.length = cnt ∧ (∀ k ∈ x.1, okText k = true) ∧ asc last x.1) ∧ (kind ≠ 6 → x.1 = []) := by
  intro cnt
  induction cnt with
  | zero =>
    intro last l x hc hh h
    simp only [parseK, Option.some.injEq] at h
    subst h
    exact ⟨rfl, trivial, by simp [cellsL], fun _ => ⟨rfl, by simp, by cases last <;> trivial⟩, fun _ => rfl⟩
  | succ cnt ihc =>
    intro last l x hc hh h
    cases l with
    | nil => simp [parseK] at h
    | cons c l =>
      simp only [parseK] at h
      split at h
      · simp at h
      · rename_i hbad
        split at h
        · simp at h
        · rename_i v r hv
          simp only [Option.map_eq_some_iff] at h
          obtain ⟨y, hy, rfl⟩ := h
          obtain ⟨hw, c', l', hcl, hl⟩ := ih _ _ _ hc hv
          simp only [List.cons.injEq] at hcl
          obtain ⟨rfl, rfl⟩ := hcl
          have hcr : ∀ d ∈ r, d.code = 0 := fun d hd => hc d (by rw [hl]; simp [hd])
          obtain ⟨g1, g2, g3, g4, g5⟩ := ihc (some c.key) r y hcr (fun h => by have := hh h; omega) hy
          have hck : okText c.key = true := (cellCode_key (hc c (by simp))).2
          by_cases h6 : kind = 6
          · subst h6
            obtain ⟨g6, g7, g8⟩ := g4 rfl
            refine ⟨by simp [g1], ⟨hw, g2⟩, ?_, fun _ => ⟨by simp [g6], ?_, ?_⟩, fun h => absurd rfl h⟩
            · simp only [if_true, cellsL, List.headD_cons, List.tail_cons]
              rw [hl]
              conv => lhs; rw [g3]
              simp
            · intro k hk
              simp only [if_true, List.mem_cons] at hk
              rcases hk with rfl | hk
              · exact hck
              · exact g7 k hk
            · simp only [if_true]
              cases last with
              | none => exact g8
              | some p =>
                refine ⟨?_, g8⟩
                simp [keyBad] at hbad
                exact hbad
          · have hk5 : kind = 5 := by
              cases hh' : holds kind
              · have := hh hh'; omega
              · simp [holds] at hh'; omega
            subst hk5
            have hk0 : c.key = ByteArray.empty := empty_of (by simpa [keyBad] using hbad)
            have g9 := g5 (by omega)
            refine ⟨by simp [g1], ⟨hw, g2⟩, ?_, fun h => absurd h h6, fun _ => by simp [g9]⟩
            simp only [h6, if_false, cellsL]
            rw [hl, hk0]
            conv => lhs; rw [g3]
            simp [g9]
theorem parseV_sound : ∀ m l t r, (∀ c ∈ l, c.code = 0) → parseV m l = some (t, r) → t.wf ∧ ∃ c l', l = c :: l' ∧ l = t.cells c.key ++ r := by
  intro m
  induction m with
  | zero => intro l t r _ h; simp [parseV] at h
  | succ m ih =>
    intro l t r hc h
    cases l with
    | nil => simp [parseV] at h
    | cons c l =>
      simp only [parseV, Option.map_eq_some_iff] at h
      obtain ⟨x, hx, he⟩ := h
      simp only [Prod.mk.injEq] at he
      obtain ⟨rfl, rfl⟩ := he
      have hcode : c.code = 0 := hc c (by simp)
      obtain ⟨hn0, hn2⟩ := code_n hcode
      obtain ⟨g1, g2, g3, g4, g5⟩ := parseK_sound ih c.kind c.n.toNat none l x (fun d hd => hc d (by simp [hd])) (fun h => by rw [cellCode_holds hcode h]; rfl) hx
      have hnn : ((x.2.1.length : Nat) : Int) = c.n := by rw [g1]; omega
      refine ⟨⟨?_, ?_, g2⟩, c, l, rfl, ?_⟩
      · rw [hnn]; exact (cellCode_key hcode).1
      · unfold keysOk
        split
        · rename_i h6
          have := g4 h6
          exact ⟨by rw [this.1, g1], this.2⟩
        · rename_i h6
          exact g5 h6
      · simp only [V.cells, List.cons_append, hnn]
        rw [← g3]

/-! ### reading is complete -/
mutual
theorem parseV_cells : ∀ (t : V) (key : ByteArray) (r : List CellD) (m : Nat), t.wf → t.count ≤ m → parseV m (t.cells key ++ r) = some (t, r)
  | .mk kind num text keys kids, key, r, m, hw, hm => by
    simp only [V.wf] at hw
    obtain ⟨h1, h2, h3⟩ := hw
    simp only [V.count] at hm
    obtain ⟨m, rfl⟩ : ∃ m', m = m' + 1 := ⟨m - 1, by omega⟩
    have hkk : holds kind = false → kids = [] := fun h => by
      have := cellCode_holds h1 h
      exact List.eq_nil_of_length_eq_zero (by omega)
    simp only [V.cells, List.cons_append, parseV, Int.toNat_natCast]
    rw [parseK_cells kids kind keys none r m h3 (by omega) ?_ ?_ hkk]
    · rfl
    · intro h6
      simp only [keysOk, h6, if_true] at h2
      exact ⟨h2.1, h2.2.2⟩
    · intro h6
      simp only [keysOk, h6, if_false] at h2
      exact h2
theorem parseK_cells : ∀ (kids : List V) (kind : Int) (keys : List ByteArray) (last : Option ByteArray) (r : List CellD) (m : Nat), wfL kids → countL kids ≤ m → (kind = 6 → keys.length = kids.length ∧ asc last keys) → (kind ≠ 6 → keys = []) →
    (holds kind = false → kids = []) → parseK (parseV m) kind kids.length last (cellsL kind keys kids ++ r) = some (keys, kids, r)
  | [], kind, keys, last, r, m, hw, hm, h6, h5, hh => by
    have : keys = [] := by
      by_cases h : kind = 6
      · exact List.eq_nil_of_length_eq_zero (by simpa using (h6 h).1)
      · exact h5 h
    subst this
    simp [parseK, cellsL]
  | k :: ks, kind, keys, last, r, m, hw, hm, h6, h5, hh => by
    simp only [wfL] at hw
    simp only [countL] at hm
    have hp := parseV_cells k (if kind = 6 then keys.headD ByteArray.empty else ByteArray.empty) (cellsL kind keys.tail ks ++ r) m hw.1 (by omega)
    have hk := parseK_cells ks kind keys.tail (some (if kind = 6 then keys.headD ByteArray.empty else ByteArray.empty)) r m hw.2 (by omega) ?_ ?_ (fun h => absurd (hh h) (by simp))
    · obtain ⟨kk, kn, kt, kks, kkids⟩ := k
      simp only [V.cells, List.cons_append] at hp
      simp only [List.length_cons, cellsL, V.cells, List.cons_append, List.append_assoc, parseK]
      have hb : keyBad kind last (if kind = 6 then keys.headD ByteArray.empty else ByteArray.empty) = false := by
        by_cases h : kind = 6
        · obtain ⟨g1, g2⟩ := h6 h
          cases keys with
          | nil => simp at g1
          | cons y ys =>
            cases last with
            | none => simp [keyBad, h]
            | some p => simp only [asc] at g2; simp [keyBad, h, g2.1]
        · simp [keyBad, h]
      rw [if_neg (by rw [hb]; simp), hp]
      simp only [hk, Option.map_some]
      by_cases h : kind = 6
      · obtain ⟨g1, g2⟩ := h6 h
        cases keys with
        | nil => simp at g1
        | cons y ys => simp [h]
      · simp [h, h5 h]
    · intro h
      obtain ⟨g1, g2⟩ := h6 h
      cases keys with
      | nil => simp at g1
      | cons y ys =>
        refine ⟨by simpa using g1, ?_⟩
        simp only [h, if_true, List.headD_cons, List.tail_cons]
        cases last with
        | none => exact g2
        | some p => exact g2.2
    · intro h
      simp [h5 h]
end
mutual
theorem cells_len : ∀ (t : V) (key : ByteArray), (t.cells key).length = t.count
  | .mk kind num text keys kids, key => by simp only [V.cells, V.count, List.length_cons]; rw [cellsL_len kids]
theorem cellsL_len : ∀ (kids : List V) (kind : Int) (keys : List ByteArray), (cellsL kind keys kids).length = countL kids
  | [], _, _ => rfl
  | k :: ks, kind, keys => by simp only [cellsL, countL, List.length_append]; rw [cells_len k, cellsL_len ks]
end
theorem enc_len (t : V) : t.enc.length = t.count := cells_len t _
theorem cells_head (t : V) (key : ByteArray) : t.cells key = ⟨t.kind, t.num, t.text, key, t.kids.length⟩ :: cellsL t.kind t.keys t.kids := by cases t; rfl
mutual
theorem cells_codes : ∀ (t : V) (key : ByteArray), t.wf → okText key = true → ∀ c ∈ t.cells key, c.code = 0
  | .mk kind num text keys kids, key, hw, hk => by
    simp only [V.wf] at hw
    obtain ⟨h1, h2, h3⟩ := hw
    intro c hc
    simp only [V.cells, List.mem_cons] at hc
    rcases hc with rfl | hc
    · exact cellCode_of h1 hk
    · refine cellsL_codes kids kind keys h3 ?_ c hc
      intro k hkk
      unfold keysOk at h2
      split at h2
      · exact h2.2.1 k hkk
      · subst h2; simp at hkk
theorem cellsL_codes : ∀ (kids : List V) (kind : Int) (keys : List ByteArray), wfL kids → (∀ k ∈ keys, okText k = true) → ∀ c ∈ cellsL kind keys kids, c.code = 0
  | [], _, _, _, _ => by simp [cellsL]
  | k :: ks, kind, keys, hw, hk => by
    simp only [wfL] at hw
    intro c hc
    simp only [cellsL, List.mem_append] at hc
    rcases hc with hc | hc
    · refine cells_codes k _ hw.1 ?_ c hc
      split
      · cases keys with
        | nil => exact okText_empty
        | cons y ys => exact hk y (by simp)
      · exact okText_empty
    · exact cellsL_codes ks kind keys.tail hw.2 (fun k hkk => hk k (List.mem_of_mem_tail hkk)) c hc
end
/-- A value without a fault is the cells of a right tree. -/
theorem dec_ok {xs : List CellD} {t : V} (h : dec xs = (0, some t)) : xs = t.enc ∧ t.wf ∧ t.count ≤ 200 ∧ t.depth ≤ 20 := by
  have hs := dec_some (xs := xs) (t := t) (by rw [h])
  obtain ⟨_, h1, h2, h3, h4, h5, h6⟩ := hs
  obtain ⟨hw, c, l', rfl, hl⟩ := parseV_sound _ _ _ _ (firstCode_zero h3) h4
  simp only [List.append_nil] at hl
  have hk : c.key = ByteArray.empty := empty_of (by simpa using h5)
  rw [hk] at hl
  refine ⟨hl, hw, ?_, h6⟩
  have := cells_len t ByteArray.empty
  rw [← hl] at this
  omega
theorem dec_enc {t : V} (hw : t.wf) (hc : t.count ≤ 200) (hd : t.depth ≤ 20) : dec t.enc = (0, some t) := by
  have hl := enc_len t
  have hp := count_pos t
  have hpar := parseV_cells t ByteArray.empty [] t.enc.length hw (by omega)
  rw [List.append_nil] at hpar
  have hf : firstCode t.enc = 0 := by
    refine firstCode_all fun i hi => ?_
    exact cells_codes t _ hw okText_empty _ (List.getElem_mem hi)
  rw [dec_two (by omega) (by omega) hf]
  unfold dec2
  rw [show parseV t.enc.length t.enc = some (t, []) from hpar]
  have : (t.enc.headD ⟨0, 0, ByteArray.empty, ByteArray.empty, 0⟩).key = ByteArray.empty := by
    unfold V.enc; rw [cells_head]; rfl
  show (if (!((t.enc.headD ⟨0, 0, ByteArray.empty, ByteArray.empty, 0⟩).key.toList.isEmpty)) = true then ((1, none) : Int × Option V) else if 20 < t.depth then (7, none) else (0, some t)) = _
  rw [this, if_neg (by simp), if_neg (by omega)]
end Go.Proofs.Ytfmkejgdooammaa
