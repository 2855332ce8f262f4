/- spec.EditsFault, impl.EditsFault. -/
import Derived.Test.YtfmkejgdooammaaB11
namespace Go.Proofs.Ytfmkejgdooammaa
open Go.RowKit

theorem editCode_op {d : EditD} (h : (d.op != 1 && d.op != 2) = true) : editCode d = 1 := by unfold editCode; rw [if_pos h]
theorem editCode_path {d : EditD} (h : (d.op != 1 && d.op != 2) = false) {c : Int} (hp : pathDec d.path = (c, none)) : editCode d = c := by
  unfold editCode; rw [if_neg (by rw [h]; simp), hp]
theorem editCode_set {d : EditD} (h : d.op = 1) {c : Int} {ks : List V} (hp : pathDec d.path = (c, some ks)) : editCode d = (dec d.x).1 := by
  unfold editCode; rw [if_neg (by simp [h]), hp]; simp [h]
theorem editCode_drop {d : EditD} (h : d.op = 2) {c : Int} {ks : List V} (hp : pathDec d.path = (c, some ks)) : editCode d = if d.x.length ≠ 0 ∨ ks.length = 0 then 1 else 0 := by
  unfold editCode; rw [if_neg (by simp [h]), hp]; simp [h]

set_option maxRecDepth 100000 in
set_option maxHeartbeats 4000000 in
theorem l14Edit_any (d : EditD) (hl : d.x.length ≤ 9223372036854775807) (Ap Ax : Option Addr) (cp cx : Nat) (h1 : d.path.length ≤ cp) (S : Nat → Prop) (w : World) (hp : Cells w S Ap d.path) (hx : Cells w S Ax d.x) :
    Calls Try.prog 29 #[.agg #[.int .i64 d.op, .slice Ap d.path.length cp, .slice Ax d.x.length cx]] w fun e w' => e = .returned (.int .i64 (editCode d)) ∧ Below w.heap.size w w' := by
  have hlx := hl
  have HP : Hid (∀ W : World, Cells W S Ap d.path → Calls Try.prog 7 #[.slice Ap d.path.length cp] W fun e w' => e = .returned (.int .i64 (pathDec d.path).1) ∧ Below W.heap.size W w') := fun W hW => specPathFault_any d.path Ap cp h1 S W hW
  have HX : Hid (∀ W : World, Cells W S Ax d.x → Calls Try.prog 23 #[.slice Ax d.x.length cx] W fun e w' => e = .returned (.int .i64 (dec d.x).1) ∧ Below W.heap.size W w') := fun W hW => specFault_any d.x Ax cx S W hW
  have HCp := Lib.hid (Cells.keep hp (Same.alloc _ _ (.cells #[.int .i64 d.op, .slice Ap d.path.length cp, .slice Ax d.x.length cx] 58)))
  have HCx := Lib.hid (Cells.keep hx (Same.alloc _ _ (.cells #[.int .i64 d.op, .slice Ap d.path.length cp, .slice Ax d.x.length cx] 58)))
  have HB0 : Hid (∀ X : Obj, Below w.heap.size w (w.alloc X)) := fun X => (Below.refl _ _).alloc (Nat.le_refl _) _
  have Hp := Lib.hid hp
  clear hp hx
  cases ho : (d.op != 1 && d.op != 2)
  · have hop : d.op = 1 ∨ d.op = 2 := by simp at ho; omega
    rcases pathDec_cases d.path with ⟨t, ht, hw, hc, hdp, hk5, hkb, hpd⟩ | ⟨c, hc0, hpd⟩
    · rw [hpd] at HP
      have hpos : 0 < d.path.length := by rw [ht, enc_len]; exact count_pos t
      have hN : d.path[0].n = (t.kids.length : Int) := by
        have := enc_zero t (by rw [← ht]; exact hpos)
        simp only [ht, this]
      obtain ⟨b, off, rfl, -, hbl, -, -, -, -, c4⟩ := Hp.out.at_ hpos
      rw [hN] at c4
      simp only [Nat.zero_mul, Nat.add_zero] at c4
      have HG4 : Hid (∀ W : World, Below (w.alloc (.cells #[.int .i64 d.op, .slice (some ⟨b, off, none⟩) d.path.length cp, .slice Ax d.x.length cx] 58)).heap.size (w.alloc (.cells #[.int .i64 d.op, .slice (some ⟨b, off, none⟩) d.path.length cp, .slice Ax d.x.length cx] 58)) W → W.cell? ⟨b, off + 4, none⟩ = some (.int .i64 (t.kids.length : Nat)) ∧ b < W.heap.size) := by
        intro W hW
        have h0 := hW.size
        simp at h0
        exact ⟨(hW.cell (p := ⟨b, off + 4, none⟩) (by simp; omega)).trans ((World.cell?_alloc_past _ _ _ hbl).trans c4), by omega⟩
      clear hN c4
      rcases hop with hop | hop
      · have he := Lib.hid (editCode_set hop hpd)
        generalize (dec d.x).1 = cx2 at *
        have h11 : (d.op != 1) = false := by simp [hop]
        have h12 : (d.op == 1) = true := by simp [hop]
        clear ht hw hc hdp hk5 hkb hpd ho hop
        go_enter Try.func29, Try.ntmps29
        go_wp2_with (first
          | (go_at_call 7; refine (HP.out _ HCp.out).mono ?_; rintro e w1 ⟨rfl, hb1⟩; obtain ⟨y0, y1, y2, yq⟩ := ((Blk.new w 58 #[.int .i64 d.op, .slice (some ⟨b, off, none⟩) d.path.length cp, .slice Ax d.x.length cx]).below hb1).three; obtain ⟨g4, hgl⟩ := HG4.out _ hb1; have HX1 := Lib.hid (HCx.out.below hb1); have Hb1 := Lib.hid hb1; clear hb1)
          | (go_at_call 23; refine (HX.out _ HX1.out).mono ?_; rintro e w2 ⟨rfl, hb2⟩))
        go_ret
        exact ⟨by rw [he.out]; rfl, ((HB0.out _).trans (Hb1.out.mono (by simp))).trans (hb2.mono (by have := Hb1.out.size; simp at this; omega))⟩
      · have he := Lib.hid (editCode_drop hop hpd)
        have h11 : (d.op != 1) = true := by simp [hop]
        have h12 : (d.op == 1) = false := by simp [hop]
        have h13 : (d.op != 2) = false := by simp [hop]
        clear ht hw hc hdp hk5 hkb hpd ho hop
        by_cases hx0 : d.x.length = 0
        · have hx1 : decide (0 < d.x.length) = false := by rw [decide_eq_false_iff_not]; omega
          by_cases hk0 : t.kids.length = 0
          · have hk1 : (t.kids.length == 0) = true := by simp; exact List.eq_nil_of_length_eq_zero hk0
            have hk2 : ((t.kids.length : Int) == 0) = true := by simp; exact List.eq_nil_of_length_eq_zero hk0
            have He : Hid (editCode d = 1) := by
              show editCode d = 1
              rw [he.out, if_pos (.inr hk0)]
            have Hx0 := Lib.hid hx0
            have Hk0 := Lib.hid hk0
            clear hx0 hk0
            go_enter Try.func29, Try.ntmps29
            go_wp2_with (go_at_call 7; refine (HP.out _ HCp.out).mono ?_; rintro e w1 ⟨rfl, hb1⟩; obtain ⟨y0, y1, y2, yq⟩ := ((Blk.new w 58 #[.int .i64 d.op, .slice (some ⟨b, off, none⟩) d.path.length cp, .slice Ax d.x.length cx]).below hb1).three; obtain ⟨g4, hgl⟩ := HG4.out _ hb1; have HX1 := Lib.hid (HCx.out.below hb1); have Hb1 := Lib.hid hb1; clear hb1)
            go_ret
            exact ⟨by rw [He.out]; rfl, (HB0.out _).trans (Hb1.out.mono (by simp))⟩
          · have hk1 : (t.kids.length == 0) = false := by simpa using hk0
            have hk2 : ((t.kids.length : Int) == 0) = false := by simpa using hk0
            have He : Hid (editCode d = 0) := by
              show editCode d = 0
              rw [he.out, if_neg (by omega)]
            have Hx0 := Lib.hid hx0
            have Hk0 := Lib.hid hk0
            clear hx0 hk0
            go_enter Try.func29, Try.ntmps29
            go_wp2_with (go_at_call 7; refine (HP.out _ HCp.out).mono ?_; rintro e w1 ⟨rfl, hb1⟩; obtain ⟨y0, y1, y2, yq⟩ := ((Blk.new w 58 #[.int .i64 d.op, .slice (some ⟨b, off, none⟩) d.path.length cp, .slice Ax d.x.length cx]).below hb1).three; obtain ⟨g4, hgl⟩ := HG4.out _ hb1; have HX1 := Lib.hid (HCx.out.below hb1); have Hb1 := Lib.hid hb1; clear hb1)
            go_ret
            exact ⟨by rw [He.out]; rfl, (HB0.out _).trans (Hb1.out.mono (by simp))⟩
        · have hx1 : decide (0 < d.x.length) = true := by rw [decide_eq_true_iff]; omega
          have hx2 : 0 < d.x.length := by omega
          have He : Hid (editCode d = 1) := by
            show editCode d = 1
            rw [he.out, if_pos (.inl hx0)]
          clear hx0
          go_enter Try.func29, Try.ntmps29
          go_wp2_with (go_at_call 7; refine (HP.out _ HCp.out).mono ?_; rintro e w1 ⟨rfl, hb1⟩; obtain ⟨y0, y1, y2, yq⟩ := ((Blk.new w 58 #[.int .i64 d.op, .slice (some ⟨b, off, none⟩) d.path.length cp, .slice Ax d.x.length cx]).below hb1).three; obtain ⟨g4, hgl⟩ := HG4.out _ hb1; have HX1 := Lib.hid (HCx.out.below hb1); have Hb1 := Lib.hid hb1; clear hb1)
          go_ret
          exact ⟨by rw [He.out]; rfl, (HB0.out _).trans (Hb1.out.mono (by simp))⟩
    · rw [hpd] at HP
      have He := Lib.hid (editCode_path ho hpd)
      have hc1 : (c != 0) = true := by simpa using hc0
      rcases hop with hop | hop
      · have h11 : (d.op != 1) = false := by simp [hop]
        clear hpd ho hop hc0
        go_enter Try.func29, Try.ntmps29
        go_wp2_with (go_at_call 7; refine (HP.out _ HCp.out).mono ?_; rintro e w1 ⟨rfl, hb1⟩; have Hb1 := Lib.hid hb1; clear hb1)
        go_ret
        exact ⟨by rw [He.out]; rfl, (HB0.out _).trans (Hb1.out.mono (by simp))⟩
      · have h11 : (d.op != 1) = true := by simp [hop]
        have h13 : (d.op != 2) = false := by simp [hop]
        clear hpd ho hop hc0
        go_enter Try.func29, Try.ntmps29
        go_wp2_with (go_at_call 7; refine (HP.out _ HCp.out).mono ?_; rintro e w1 ⟨rfl, hb1⟩; have Hb1 := Lib.hid hb1; clear hb1)
        go_ret
        exact ⟨by rw [He.out]; rfl, (HB0.out _).trans (Hb1.out.mono (by simp))⟩
  · have He := Lib.hid (editCode_op ho)
    have h11 : (d.op != 1) = true := by simp at ho ⊢; omega
    have h13 : (d.op != 2) = true := by simp at ho ⊢; omega
    clear ho
    go_enter Try.func29, Try.ntmps29
    go_wp2
    go_ret
    exact ⟨by rw [He.out]; rfl, HB0.out _⟩

set_option maxRecDepth 100000 in
set_option maxHeartbeats 4000000 in
theorem editFault_any (d : EditD) (hz : EditOk d) (Ap Ax : Option Addr) (cp cx : Nat) (S : Nat → Prop) (w : World) (hp : Cells w S Ap d.path) (hx : Cells w S Ax d.x) :
    Calls Try.prog 31 #[.agg #[.int .i64 d.op, .slice Ap d.path.length cp, .slice Ax d.x.length cx]] w fun e w' => e = .returned (.int .i64 (editCode d)) ∧ Below w.heap.size w w' := by
  have hlx := hz.2.2.2
  have HP : Hid (∀ W : World, Cells W S Ap d.path → Calls Try.prog 26 #[.slice Ap d.path.length cp] W (PathOfPost (pathDec d.path) W)) := fun W hW => pathOf_any d.path hz.1 Ap cp S W hW
  have HX : Hid (∀ W : World, Cells W S Ax d.x → Calls Try.prog 46 #[.slice Ax d.x.length cx] W fun e w' => e = .returned (.int .i64 (dec d.x).1) ∧ Below W.heap.size W w') := fun W hW => implFault_any d.x hz.2.1 Ax cx S W hW
  have HCp := Lib.hid (Cells.keep hp (Same.alloc _ _ (.cells #[.int .i64 d.op, .slice Ap d.path.length cp, .slice Ax d.x.length cx] 58)))
  have HCx := Lib.hid (Cells.keep hx (Same.alloc _ _ (.cells #[.int .i64 d.op, .slice Ap d.path.length cp, .slice Ax d.x.length cx] 58)))
  have HB0 : Hid (∀ X : Obj, Below w.heap.size w (w.alloc X)) := fun X => (Below.refl _ _).alloc (Nat.le_refl _) _
  have Hp := Lib.hid hp
  clear hp hx hz
  cases ho : (d.op != 1 && d.op != 2)
  · have hop : d.op = 1 ∨ d.op = 2 := by simp at ho; omega
    rcases pathDec_cases d.path with ⟨t, ht, hw, hc, hdp, hk5, hkb, hpd⟩ | ⟨c, hc0, hpd⟩
    · rw [hpd] at HP
      have hpos : 0 < d.path.length := by rw [ht, enc_len]; exact count_pos t
      have HP : Hid (∀ W : World, Cells W S Ap d.path → Calls Try.prog 26 #[.slice Ap d.path.length cp] W fun e w' => Below W.heap.size W w' ∧ ∃ (Av : Option Addr) (cv : Nat) (kvs : List (List Value)), e = .returned (.tuple #[.slice Av t.kids.length cv, .int .i64 0]) ∧ t.kids.length ≤ cv ∧ Row w' (fun b => W.heap.size ≤ b) 5 Av kvs ∧ VReps w' (fun b => W.heap.size ≤ b) t.kids kvs) := HP.out
      rcases hop with hop | hop
      · have he := Lib.hid (editCode_set hop hpd)
        generalize (dec d.x).1 = cx2 at *
        have h11 : (d.op != 1) = false := by simp [hop]
        have h12 : (d.op == 1) = true := by simp [hop]
        clear ht hw hc hdp hk5 hkb hpd ho hop
        go_enter Try.func31, Try.ntmps31
        go_wp2_with (first
          | (go_at_call 26; refine (HP.out _ HCp.out).mono ?_; rintro e w1 ⟨hb1, Av, cv, kvs, rfl, -, -, -⟩; obtain ⟨y0, y1, y2, yq⟩ := ((Blk.new w 58 #[.int .i64 d.op, .slice Ap d.path.length cp, .slice Ax d.x.length cx]).below hb1).three; have HX1 := Lib.hid (HCx.out.below hb1); have Hb1 := Lib.hid hb1; clear hb1)
          | (go_at_call 46; refine (HX.out _ HX1.out).mono ?_; rintro e w2 ⟨rfl, hb2⟩))
        go_ret
        exact ⟨by rw [he.out]; rfl, ((HB0.out _).trans (Hb1.out.mono (by simp))).trans (hb2.mono (by have := Hb1.out.size; simp at this; omega))⟩
      · have he := Lib.hid (editCode_drop hop hpd)
        have h11 : (d.op != 1) = true := by simp [hop]
        have h12 : (d.op == 1) = false := by simp [hop]
        have h13 : (d.op != 2) = false := by simp [hop]
        clear ht hw hc hdp hk5 hkb hpd ho hop
        by_cases hx0 : d.x.length = 0
        · have hx1 : decide (0 < d.x.length) = false := by rw [decide_eq_false_iff_not]; omega
          by_cases hk0 : t.kids.length = 0
          · have hk1 : (t.kids.length == 0) = true := by simp; exact List.eq_nil_of_length_eq_zero hk0
            have hk2 : ((t.kids.length : Int) == 0) = true := by simp; exact List.eq_nil_of_length_eq_zero hk0
            have He : Hid (editCode d = 1) := by
              show editCode d = 1
              rw [he.out, if_pos (.inr hk0)]
            have Hx0 := Lib.hid hx0
            have Hk0 := Lib.hid hk0
            clear hx0 hk0
            go_enter Try.func31, Try.ntmps31
            go_wp2_with (go_at_call 26; refine (HP.out _ HCp.out).mono ?_; rintro e w1 ⟨hb1, Av, cv, kvs, rfl, -, -, -⟩; obtain ⟨y0, y1, y2, yq⟩ := ((Blk.new w 58 #[.int .i64 d.op, .slice Ap d.path.length cp, .slice Ax d.x.length cx]).below hb1).three; have HX1 := Lib.hid (HCx.out.below hb1); have Hb1 := Lib.hid hb1; clear hb1)
            go_ret
            exact ⟨by rw [He.out]; rfl, (HB0.out _).trans (Hb1.out.mono (by simp))⟩
          · have hk1 : (t.kids.length == 0) = false := by simpa using hk0
            have hk2 : ((t.kids.length : Int) == 0) = false := by simpa using hk0
            have He : Hid (editCode d = 0) := by
              show editCode d = 0
              rw [he.out, if_neg (by omega)]
            have Hx0 := Lib.hid hx0
            have Hk0 := Lib.hid hk0
            clear hx0 hk0
            go_enter Try.func31, Try.ntmps31
            go_wp2_with (go_at_call 26; refine (HP.out _ HCp.out).mono ?_; rintro e w1 ⟨hb1, Av, cv, kvs, rfl, -, -, -⟩; obtain ⟨y0, y1, y2, yq⟩ := ((Blk.new w 58 #[.int .i64 d.op, .slice Ap d.path.length cp, .slice Ax d.x.length cx]).below hb1).three; have HX1 := Lib.hid (HCx.out.below hb1); have Hb1 := Lib.hid hb1; clear hb1)
            go_ret
            exact ⟨by rw [He.out]; rfl, (HB0.out _).trans (Hb1.out.mono (by simp))⟩
        · have hx1 : decide (0 < d.x.length) = true := by rw [decide_eq_true_iff]; omega
          have hx2 : 0 < d.x.length := by omega
          have He : Hid (editCode d = 1) := by
            show editCode d = 1
            rw [he.out, if_pos (.inl hx0)]
          clear hx0
          go_enter Try.func31, Try.ntmps31
          go_wp2_with (go_at_call 26; refine (HP.out _ HCp.out).mono ?_; rintro e w1 ⟨hb1, Av, cv, kvs, rfl, -, -, -⟩; obtain ⟨y0, y1, y2, yq⟩ := ((Blk.new w 58 #[.int .i64 d.op, .slice Ap d.path.length cp, .slice Ax d.x.length cx]).below hb1).three; have HX1 := Lib.hid (HCx.out.below hb1); have Hb1 := Lib.hid hb1; clear hb1)
          go_ret
          exact ⟨by rw [He.out]; rfl, (HB0.out _).trans (Hb1.out.mono (by simp))⟩
    · rw [hpd] at HP
      have HP : Hid (∀ W : World, Cells W S Ap d.path → Calls Try.prog 26 #[.slice Ap d.path.length cp] W fun e w' => Below W.heap.size W w' ∧ e = .returned (.tuple #[.slice none 0 0, .int .i64 c])) := HP.out
      have He := Lib.hid (editCode_path ho hpd)
      have hc1 : (c != 0) = true := by simpa using hc0
      rcases hop with hop | hop
      · have h11 : (d.op != 1) = false := by simp [hop]
        clear hpd ho hop hc0
        go_enter Try.func31, Try.ntmps31
        go_wp2_with (go_at_call 26; refine (HP.out _ HCp.out).mono ?_; rintro e w1 ⟨hb1, rfl⟩; have Hb1 := Lib.hid hb1; clear hb1)
        go_ret
        exact ⟨by rw [He.out]; rfl, (HB0.out _).trans (Hb1.out.mono (by simp))⟩
      · have h11 : (d.op != 1) = true := by simp [hop]
        have h13 : (d.op != 2) = false := by simp [hop]
        clear hpd ho hop hc0
        go_enter Try.func31, Try.ntmps31
        go_wp2_with (go_at_call 26; refine (HP.out _ HCp.out).mono ?_; rintro e w1 ⟨hb1, rfl⟩; have Hb1 := Lib.hid hb1; clear hb1)
        go_ret
        exact ⟨by rw [He.out]; rfl, (HB0.out _).trans (Hb1.out.mono (by simp))⟩
  · have He := Lib.hid (editCode_op ho)
    have h11 : (d.op != 1) = true := by simp at ho ⊢; omega
    have h13 : (d.op != 2) = true := by simp at ho ⊢; omega
    clear ho
    go_enter Try.func31, Try.ntmps31
    go_wp2
    go_ret
    exact ⟨by rw [He.out]; rfl, HB0.out _⟩

set_option maxRecDepth 100000 in
set_option maxHeartbeats 4000000 in
theorem specEditsFault_any (l : List EditD) (hz : ∀ d ∈ l, EditOk d) (A : Option Addr) (cap : Nat) (S : Nat → Prop) (w : World) (hcs : Edits w S A l) :
    Calls Try.prog 12 #[.slice A l.length cap] w fun e w' => e = .returned (.int .i64 (editsCode l)) ∧ Below w.heap.size w w' := by
  have HC := Lib.hid hcs
  have HZ := Lib.hid hz
  clear hcs hz
  by_cases hm : 100 < l.length
  · have hm1 : decide ((100 : Int) < l.length) = true := by simp; omega
    have He : Hid (editsCode l = 2) := if_pos hm
    clear hm
    go_enter Try.func12, Try.ntmps12
    go_wp2
    go_ret
    exact ⟨by rw [He.out]; rfl, Below.refl _ _⟩
  · have hm1 : decide ((100 : Int) < l.length) = false := by simp; omega
    have hl : l.length ≤ 100 := by omega
    have He : Hid (editsCode l = firstEdit l) := if_neg hm
    clear hm
    go_enter Try.func12, Try.ntmps12
    go_wp2
    go_loopw [3] (fun ki wr => ∃ k : Nat, ki = .int .i64 k ∧ k ≤ l.length ∧ (∀ i (hi : i < l.length), i < k → editCode l[i] = 0) ∧ Below w.heap.size w wr) (fun ki _ => l.length - (intOf ki).toNat)
    case atStart => exact ⟨0, rfl, Nat.zero_le _, fun _ _ h => absurd h (by omega), Below.refl _ _⟩
    case round =>
      obtain ⟨k, rfl, hk, hall, hb⟩ := hrel
      have Hall := Lib.hid hall
      have Hb := Lib.hid hb
      clear hall hb
      by_cases hlt : k < l.length
      · obtain ⟨b, off, Ap, cp, Ax, cx, rfl, hbl, c0, c1, c2, h1, h2, hp, hx⟩ := (HC.out.below Hb.out).at_ hlt
        have HE : Hid (∀ W : World, Cells W S Ap l[k].path → Cells W S Ax l[k].x → Calls Try.prog 29 #[.agg #[.int .i64 l[k].op, .slice Ap l[k].path.length cp, .slice Ax l[k].x.length cx]] W fun e w' => e = .returned (.int .i64 (editCode l[k])) ∧ Below W.heap.size W w') :=
          fun W hp hx => l14Edit_any l[k] (HZ.out _ (List.getElem_mem hlt)).2.2.2 Ap Ax cp cx h1 S W hp hx
        have Hp := Lib.hid (Cells.keep hp (Same.refl _ _))
        have Hx := Lib.hid (Cells.keep hx (Same.refl _ _))
        have Hpa := Lib.hid (fun o : Obj => Cells.keep hp (Same.alloc _ _ o))
        have Hxa := Lib.hid (fun o : Obj => Cells.keep hx (Same.alloc _ _ o))
        clear hp hx
        cases hz0 : (editCode l[k] != 0)
        · have hz1 : editCode l[k] = 0 := by simpa using hz0
          rw [hz1] at HE
          have Hz := Lib.hid hz1
          clear hz0 hz1
          go_wp2_with (go_at_call 29; refine (HE.out _ Hp.out Hx.out).mono ?_; rintro e w1 ⟨rfl, hb1⟩)
          all_goals go_roundw
          case rel =>
            refine ⟨k + 1, by go_num, by omega, fun i hi hik => ?_, Hb.out.trans (hb1.mono Hb.out.size)⟩
            by_cases he : i = k
            · subst he; exact Hz.out
            · exact Hall.out i hi (by omega)
          case measure => simp [intOf]; omega
        · have Hf := Lib.hid (firstEdit_at hlt Hall.out (by simpa using hz0))
          generalize editCode l[k] = cc at *
          go_wp2_with (go_at_call 29; refine (HE.out _ Hp.out Hx.out).mono ?_; rintro e w1 ⟨rfl, hb1⟩)
          go_ret
          exact ⟨by rw [He.out, Hf.out]; rfl, Hb.out.trans (hb1.mono Hb.out.size)⟩
      · have Hf := Lib.hid (firstEdit_all fun i hi => Hall.out i hi (by omega))
        go_wp2
        go_ret
        exact ⟨by rw [He.out, Hf.out]; rfl, Hb.out⟩

set_option maxRecDepth 100000 in
set_option maxHeartbeats 4000000 in
theorem implEditsFault_any (l : List EditD) (hz : ∀ d ∈ l, EditOk d) (A : Option Addr) (cap : Nat) (S : Nat → Prop) (w : World) (hcs : Edits w S A l) :
    Calls Try.prog 14 #[.slice A l.length cap] w fun e w' => e = .returned (.int .i64 (editsCode l)) ∧ Below w.heap.size w w' := by
  have HC := Lib.hid hcs
  have HZ := Lib.hid hz
  clear hcs hz
  by_cases hm : 100 < l.length
  · have hm1 : decide ((100 : Int) < l.length) = true := by simp; omega
    have He : Hid (editsCode l = 2) := if_pos hm
    clear hm
    go_enter Try.func14, Try.ntmps14
    go_wp2
    go_ret
    exact ⟨by rw [He.out]; rfl, Below.refl _ _⟩
  · have hm1 : decide ((100 : Int) < l.length) = false := by simp; omega
    have hl : l.length ≤ 100 := by omega
    have He : Hid (editsCode l = firstEdit l) := if_neg hm
    clear hm
    go_enter Try.func14, Try.ntmps14
    go_wp2
    go_loopw [11] (fun ki wr => ∃ k : Nat, ki = .int .i64 k ∧ k ≤ l.length ∧ (∀ i (hi : i < l.length), i < k → editCode l[i] = 0) ∧ Below w.heap.size w wr) (fun ki _ => l.length - (intOf ki).toNat)
    case atStart => exact ⟨0, rfl, Nat.zero_le _, fun _ _ h => absurd h (by omega), Below.refl _ _⟩
    case round =>
      obtain ⟨k, rfl, hk, hall, hb⟩ := hrel
      have Hall := Lib.hid hall
      have Hb := Lib.hid hb
      clear hall hb
      by_cases hlt : k < l.length
      · obtain ⟨b, off, Ap, cp, Ax, cx, rfl, hbl, c0, c1, c2, h1, h2, hp, hx⟩ := (HC.out.below Hb.out).at_ hlt
        have HE : Hid (∀ W : World, Cells W S Ap l[k].path → Cells W S Ax l[k].x → Calls Try.prog 31 #[.agg #[.int .i64 l[k].op, .slice Ap l[k].path.length cp, .slice Ax l[k].x.length cx]] W fun e w' => e = .returned (.int .i64 (editCode l[k])) ∧ Below W.heap.size W w') :=
          fun W hp hx => editFault_any l[k] (HZ.out _ (List.getElem_mem hlt)) Ap Ax cp cx S W hp hx
        have Hp := Lib.hid (Cells.keep hp (Same.refl _ _))
        have Hx := Lib.hid (Cells.keep hx (Same.refl _ _))
        have Hpa := Lib.hid (fun o : Obj => Cells.keep hp (Same.alloc _ _ o))
        have Hxa := Lib.hid (fun o : Obj => Cells.keep hx (Same.alloc _ _ o))
        clear hp hx
        cases hz0 : (editCode l[k] != 0)
        · have hz1 : editCode l[k] = 0 := by simpa using hz0
          rw [hz1] at HE
          have Hz := Lib.hid hz1
          clear hz0 hz1
          go_wp2_with (go_at_call 31; refine (HE.out _ (Hpa.out _) (Hxa.out _)).mono ?_; rintro e w1 ⟨rfl, hb1⟩)
          all_goals go_roundw
          case rel =>
            refine ⟨k + 1, by go_num, by omega, fun i hi hik => ?_, Hb.out.trans (((((Below.refl wr.heap.size wr).alloc (Nat.le_refl _) _).trans (hb1.mono (by simp))).mono Hb.out.size))⟩
            by_cases he : i = k
            · subst he; exact Hz.out
            · exact Hall.out i hi (by omega)
          case measure => simp [intOf]; omega
        · have Hf := Lib.hid (firstEdit_at hlt Hall.out (by simpa using hz0))
          generalize editCode l[k] = cc at *
          go_wp2_with (go_at_call 31; refine (HE.out _ (Hpa.out _) (Hxa.out _)).mono ?_; rintro e w1 ⟨rfl, hb1⟩)
          go_ret
          exact ⟨by rw [He.out, Hf.out]; rfl, Hb.out.trans (((((Below.refl wr.heap.size wr).alloc (Nat.le_refl _) _).trans (hb1.mono (by simp))).mono Hb.out.size))⟩
      · have Hf := Lib.hid (firstEdit_all fun i hi => Hall.out i hi (by omega))
        go_wp2
        go_ret
        exact ⟨by rw [He.out, Hf.out]; rfl, Hb.out⟩
end Go.Proofs.Ytfmkejgdooammaa
