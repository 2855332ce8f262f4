/- Texts of this proof: B06 B07 B08 B09 B10 B11. -/
import Derived.Test.YtlciedpfjhkkdaaGreatDoorKB05
import Derived.Test.YtlciedpfjhkkdaaGreatDoorKM1
import Derived.Test.YtlciedpfjhkkdaaGreatDoorKA1
import Derived.Test.YtlciedpfjhkkdaaGreatDoorKB1
set_option linter.unusedSimpArgs false
set_option linter.unusedVariables false
set_option linter.unnecessarySimpa false
set_option maxHeartbeats 8000000
namespace Go.Proofs.YtlciedpfjhkkdaaGreatDoor
open Go.RowKit
set_option maxRecDepth 100000 in
theorem depth_any : ∀ (m : Nat) (t : V) (vs : List Value) (S : Nat → Prop) (w : World), t.count ≤ m → t.count ≤ 1000000 → VRep w S t vs →
  Calls Tryz.prog 92 #[.agg vs.toArray] w fun e w' => e = .returned (.int .i64 t.depth) ∧ Below w.heap.size w w' := by
 intro m
 induction m with
 | zero => intro t vs S w hm _ _; have := count_pos t; omega
 | succ m ih =>
  intro t vs S w hm hM hrep
  have HIH := Lib.hid ih
  clear ih
  obtain ⟨Ak, ck, Av, cv, kvs, rfl, hck, hcv, r1, r2, r3⟩ := hrep.out
  have Hr2 := Lib.hid (r2.keep (Same.alloc _ _ (.cells #[.int .i64 t.kind, .int .i64 t.num, .string t.text, .slice Ak t.keys.length ck, .slice Av t.kids.length cv] 62)))
  have Hr3 := Lib.hid (r3.keep (Same.alloc _ _ (.cells #[.int .i64 t.kind, .int .i64 t.num, .string t.text, .slice Ak t.keys.length ck, .slice Av t.kids.length cv] 62)))
  have hkc := count_kids t
  have hkl := countL_len t.kids
  have HB0 : Hid (∀ X : Obj, Below w.heap.size w (w.alloc X)) := fun X => (Below.refl _ _).alloc (Nat.le_refl _) _
  have hdk := Lib.hid (depth_kids t)
  have hdc := depthL_le_countL t.kids
  clear r1 r2 r3 hrep
  go_enter Tryz.func92, Tryz.ntmps92
  go_wp2
  go_loopw [3, 9] (fun dp ki wr => ∃ k : Nat, ki = .int .i64 k ∧ k ≤ t.kids.length ∧ dp = .int .i64 (depthL (t.kids.take k) : Nat) ∧
    Below (w.heap.size + 1) (w.alloc (.cells #[.int .i64 t.kind, .int .i64 t.num, .string t.text, .slice Ak t.keys.length ck, .slice Av t.kids.length cv] 62)) wr) (fun _ ki _ => t.kids.length - (intOf ki).toNat)
  case atStart => exact ⟨0, rfl, Nat.zero_le _, by simp [depthL], Below.refl _ _⟩
  case round =>
   obtain ⟨k, rfl, hk, rfl, hb⟩ := hrel
   have Hb := Lib.hid hb
   have hsz : w.heap.size < wr.heap.size := by have := hb.size; simp at this; omega
   have hdt := depthL_take_le t.kids k
   clear hb
   by_cases hlt : k < t.kids.length
   ·have hbb : Below (w.alloc (.cells #[.int .i64 t.kind, .int .i64 t.num, .string t.text, .slice Ak t.keys.length ck, .slice Av t.kids.length cv] 62)).heap.size (w.alloc (.cells #[.int .i64 t.kind, .int .i64 t.num, .string t.text, .slice Ak t.keys.length ck, .slice Av t.kids.length cv] 62)) wr := Hb.out.mono (by simp)
    obtain ⟨b, off, Ak2, ck2, Av2, cv2, kvs2, rfl, _, hbl, c0, c1, c2, c3, c4, hk2, hv2, s1, s2, s3⟩ := (Hr2.out.below hbb).vat (Hr3.out.below hbb) hlt
    have hmem := countL_mem (List.getElem_mem hlt)
    have Hd := Lib.hid (depthL_take hlt)
    have Hrep := Lib.hid (VRep.keep (Same.alloc _ _ (.cells #[.int .i64 t.kids[k].kind, .int .i64 t.kids[k].num, .string t.kids[k].text, .slice Ak2 t.kids[k].keys.length ck2, .slice Av2 t.kids[k].kids.length cv2] 62)) (VRep.of hk2 hv2 s1 s2 s3))
    have hkd := depthL_mem (List.getElem_mem hlt)
    generalize t.kids[k] = u at *
    clear s1 s2 s3 hbb
    go_wp2_with (go_at_call 92; refine (HIH.out u _ S _ (by omega) (by omega) Hrep.out).mono ?_; rintro e w1 ⟨rfl, hb1⟩)
    all_goals go_roundw
    case rel =>
     refine ⟨k + 1, by go_num, by omega, ?_, Hb.out.trans ((((Below.refl _ _).alloc (Nat.le_refl _) _).trans (hb1.mono (by simp))).mono (by omega))⟩
     rw [Hd.out]
     congr 1
     split <;> omega
    case measure => simp [intOf]; omega
   ·go_wp2
    go_ret
    refine ⟨?_, (HB0.out _).trans (Hb.out.mono (by omega))⟩
    rw [hdk.out, List.take_of_length_le (by omega)]
    simp
def ValOfPost (d : Int × Option V) (w : World) (e : Ending) (w' : World) : Prop :=
 Below w.heap.size w w' ∧ match d.2 with
  | none => e = .returned (.tuple #[.agg zero5, .int .i64 d.1])
  | some t => ∃ vs : List Value, e = .returned (.tuple #[.agg vs.toArray, .int .i64 0]) ∧ VRep w' (fun b => w.heap.size ≤ b) t vs
theorem sizeCells_any (A : Option Addr) (n cap : Nat) (w : World) : Calls Tryz.prog 89 #[.slice A n cap] w fun e w' => e = .returned (.int .i64 n) ∧ w = w' := by
 go_enter Tryz.func89, Tryz.ntmps89
 go_wp2
 go_ret
 exact ⟨rfl, rfl⟩
theorem dec_tail {xs : List CellD} (h : 1 ≤ xs.length) (h2 : xs.length ≤ 200) (h3 : firstCode xs = 0) {k0 : ByteArray} (hk : xs[0].key = k0) {t : V} {r : List CellD} (hp : parseV xs.length xs = some (t, r)) :
  dec xs = if r.length ≠ 0 ∨ k0.toList.isEmpty = false then (1, none) else if 20 < t.depth then (7, none) else (0, some t) := by
 rw [dec_two h h2 h3]
 unfold dec2
 rw [hp]
 match xs, h with
 | c :: l, _ =>
  simp only [List.getElem_cons_zero] at hk
  subst hk
  cases r with
  | cons y r => simp
  | nil =>
   show (if (!c.key.toList.isEmpty) = true then ((1, none) : Int × Option V) else if 20 < t.depth then (7, none) else (0, some t)) = _
   by_cases hk : c.key.toList.isEmpty = false
   ·rw [if_pos (by simp [hk]), if_pos (.inr hk)]
   ·rw [if_neg (show ¬ ((!c.key.toList.isEmpty) = true) by simpa using hk), if_neg (show ¬ (([] : List CellD).length ≠ 0 ∨ c.key.toList.isEmpty = false) by simpa using hk)]
set_option maxRecDepth 100000 in
theorem valOf_any (xs : List CellD) (hz : Sized xs) (A : Option Addr) (cap : Nat) (S : Nat → Prop) (w : World) (hcs : Cells w S A xs) :
  Calls Tryz.prog 46 #[.slice A xs.length cap] w (ValOfPost (dec xs) w) := by
 have HC := Lib.hid hcs
 have HZ := Lib.hid hz
 clear hcs hz
 have R0 := (Blk.new w 62 zero5)
 go_enter Tryz.func46, Tryz.ntmps46
 by_cases h12 : xs.length < 1 ∨ 200 < xs.length
 ·have hd := Lib.hid (dec_many h12)
  have hin : inB (xs.length : Int) 1 200 = false := by simp [inB]; omega
  have Hh := Lib.hid h12
  clear h12 R0
  go_wp2_with (first
   | (go_at_call 89; refine (sizeCells_any _ _ _ _).mono ?_; rintro e w' ⟨rfl, rfl⟩)
   | (go_at_call 54; refine (within_any _ _ _ _).mono ?_; rintro e w' ⟨rfl, rfl⟩))
  refine bodyPost_ret (v := .tuple #[.agg zero5, .int .i64 2]) (by simp [results, Tryz.results46, go_sem, zero5]) rfl ?_
  rw [hd.out]
  exact ⟨(Below.refl _ _).alloc (Nat.le_refl _) _, rfl⟩
 ·have hin : inB (xs.length : Int) 1 200 = true := by simp [inB]; omega
  have h1 : 1 ≤ xs.length := by omega
  have h2 : xs.length ≤ 200 := by omega
  have HR0 := Lib.hid R0
  clear h12 R0
  go_wp2_with (first
   | (go_at_call 89; refine (sizeCells_any _ _ _ _).mono ?_; rintro e w' ⟨rfl, rfl⟩)
   | (go_at_call 54; refine (within_any _ _ _ _).mono ?_; rintro e w' ⟨rfl, rfl⟩))
  go_loopw [17] (fun i wr => ∃ k : Nat, k ≤ xs.length ∧ i = .int .i64 k ∧ (∀ i (hi : i < xs.length), i < k → xs[i].code = 0) ∧ Below w.heap.size w wr ∧ Blk wr w.heap.size 62 zero5) (fun i _ => xs.length - (intOf i).toNat)
  case atStart => exact ⟨0, Nat.zero_le _, rfl, fun _ _ h => absurd h (by omega), (Below.refl _ _).alloc (Nat.le_refl _) _, HR0.out⟩
  case round =>
   obtain ⟨k, hk, rfl, hall, hb, hR⟩ := hrel
   have Hall := Lib.hid hall
   have Hb := Lib.hid hb
   have HR := Lib.hid hR
   have hl0 := hR.lt
   clear hall hb hR
   by_cases hlt : k < xs.length
   ·obtain ⟨b, off, rfl, hS, hl, c0, c1, c2, c3, c4⟩ := (HC.out.below Hb.out).at_ hlt
    obtain ⟨hs1, hs2⟩ := HZ.out _ (List.getElem_mem hlt)
    obtain ⟨z0, z1, z2, z3, z4, q⟩ := HR.out.five
    cases hzc : (xs[k].code != 0)
    ·have hz' : cellCode xs[k].kind xs[k].num xs[k].text xs[k].key xs[k].n = 0 := by simpa [CellD.code] using hzc
     have HC1 : Hid (∀ W : World, Calls Tryz.prog 90 #[.agg #[.int .i64 xs[k].kind, .int .i64 xs[k].num, .string xs[k].text, .string xs[k].key, .int .i64 xs[k].n]] W fun e w' => e = .returned (.int .i64 0) ∧ Below W.heap.size W w') := by
      intro W
      have := cellFault_any xs[k].kind xs[k].num xs[k].text xs[k].key xs[k].n hs1 hs2 W
      rw [hz'] at this
      exact this
     have Hz := Lib.hid hz'
     clear hzc hz'
     go_wp2_with (go_at_call 90; refine (HC1.out _).mono ?_; rintro e w1 ⟨rfl, hb1⟩)
     all_goals go_roundw
     case rel =>
      refine ⟨k + 1, by omega, by go_num, fun i hi hik => ?_, (Hb.out.alloc Hb.out.size _).trans (hb1.mono (by simp; omega)), (HR.out.alloc _).below hb1⟩
      by_cases he : i = k
      ·subst he; exact Hz.out
      ·exact Hall.out i hi (by omega)
     case measure => simp [intOf]; omega
    ·have HC1 : Hid (∀ W : World, Calls Tryz.prog 90 #[.agg #[.int .i64 xs[k].kind, .int .i64 xs[k].num, .string xs[k].text, .string xs[k].key, .int .i64 xs[k].n]] W fun e w' => e = .returned (.int .i64 xs[k].code) ∧ Below W.heap.size W w') := by
      intro W
      exact cellFault_any xs[k].kind xs[k].num xs[k].text xs[k].key xs[k].n hs1 hs2 W
     have hd := Lib.hid (dec_code h1 h2 hlt Hall.out (by simpa using hzc))
     generalize xs[k].code = cc at *
     go_wp2_with (go_at_call 90; refine (HC1.out _).mono ?_; rintro e w1 ⟨rfl, hb1⟩; obtain ⟨z0, z1, z2, z3, z4, q⟩ := ((HR.out.alloc (.cells #[.int .i64 xs[k].kind, .int .i64 xs[k].num, .string xs[k].text, .string xs[k].key, .int .i64 xs[k].n] 94)).below hb1).five)
     refine bodyPost_ret (v := .tuple #[.agg zero5, .int .i64 cc]) (by simp [results, Tryz.results46, go_sem, zero5, z0, z1, z2, z3, z4]) rfl ?_
     rw [hd.out]
     exact ⟨(((((((Hb.out.alloc Hb.out.size _).trans (hb1.mono (by simp; omega))).setCell (Nat.le_refl _) _).setCell (Nat.le_refl _) _).setCell (Nat.le_refl _) _).setCell (Nat.le_refl _) _).setCell (Nat.le_refl _) _), rfl⟩
   ·have hf0 : firstCode xs = 0 := firstCode_all fun i hi => Hall.out i hi (by omega)
    have hn : ∀ c ∈ xs, c.n ≤ 200 := fun c hc => (code_n (firstCode_zero hf0 c hc)).2
    have HV : Hid (∀ W : World, Cells W S A xs → Calls Tryz.prog 91 #[.slice A xs.length cap, .int .i64 0] W (ValAtPost xs.length (parseV xs.length xs) W)) := fun W hW => valAt_any xs h2 hn xs.length 0 A cap S W (by simp) (by omega) (by omega) hW
    have HRR := Lib.hid (HC.out.below Hb.out)
    clear hn
    rcases hp : parseV xs.length xs with _ | ⟨t, r⟩
    ·rw [hp] at HV
     have hd : Hid (dec xs = (1, none)) := by rw [dec_two h1 h2 hf0]; unfold dec2; rw [hp]; rfl
     clear hp hf0
     go_wp2_with (go_at_call 91; refine (HV.out _ HRR.out).mono ?_; rintro e w1 ⟨hb1, rfl⟩; unfold zero5; obtain ⟨z0, z1, z2, z3, z4, q⟩ := (HR.out.below hb1).five; have hlw := (HR.out.below hb1).lt; have Hb1 := Lib.hid hb1; clear hb1)
     refine bodyPost_ret (v := .tuple #[.agg zero5, .int .i64 1]) (by simp [results, Tryz.results46, go_sem, zero5, z0, z1, z2, z3, z4, hlw]) rfl ?_
     rw [hd.out]
     exact ⟨(((((((Hb.out.trans (Hb1.out.mono Hb.out.size)).setCell (Nat.le_refl _) _).setCell (Nat.le_refl _) _).setCell (Nat.le_refl _) _).setCell (Nat.le_refl _) _).setCell (Nat.le_refl _) _).alloc (by simp [World.setCell]; omega) _), rfl⟩
    ·rw [hp] at HV
     obtain ⟨b, off, rfl, hS, hl, c0, c1, c2, c3, c4⟩ := (HC.out.below Hb.out).at_ (k := 0) (by omega)
     simp only [Nat.zero_mul, Nat.add_zero] at c3
     generalize hk0 : xs[0].key = k0 at *
     have Htail := Lib.hid (dec_tail h1 h2 hf0 hk0 hp)
     have hrl := (parseV_suffix _ _ _ _ hp).2
     have hcnt := parseV_count _ _ _ _ hp
     have HG3 : Hid (∀ W : World, Below wr.heap.size wr W → W.cell? ⟨b, off + 3, none⟩ = some (.string k0) ∧ b < W.heap.size) := by
      intro W hW
      have h0 := hW.size
      exact ⟨(hW.cell (p := ⟨b, off + 3, none⟩) hl).trans c3, by omega⟩
     have hsl := Lib.hid hl
     clear hp hf0 hk0 c0 c1 c2 c3 c4 hl
     have HV : Hid (∀ W : World, Cells W S (some ⟨b, off, none⟩) xs → Calls Tryz.prog 91 #[.slice (some ⟨b, off, none⟩) xs.length cap, .int .i64 0] W fun e w' => Below W.heap.size W w' ∧
      ∃ vs : List Value, e = .returned (.tuple #[.agg vs.toArray, .int .i64 ((xs.length - r.length : Nat) : Int), .bool true]) ∧ VRep w' (fun b => W.heap.size ≤ b) t vs) := HV.out
     by_cases hr0 : r.length ≠ 0
     ·have hd : Hid (dec xs = (1, none)) := by
          show dec xs = (1, none)
          rw [Htail.out, if_pos (.inl hr0)]
      have hne : (((xs.length - r.length : Nat) : Int) == (xs.length : Int)) = false := by simp; omega
      go_wp2_with (go_at_call 91; refine (HV.out _ HRR.out).mono ?_; rintro e w1 ⟨hb1, vs, rfl, hrep⟩; obtain ⟨Ak, ck', Av, cv', kvs, rfl, hck', hcv', _, _, _⟩ := hrep.out; obtain ⟨z0, z1, z2, z3, z4, q⟩ := (HR.out.below hb1).five; have hlw := (HR.out.below hb1).lt; obtain ⟨g3, hbl1⟩ := HG3.out _ hb1; have Hrep := Lib.hid (VRep.keep (Same.alloc _ _ (.cells #[.int .i64 t.kind, .int .i64 t.num, .string t.text, .slice Ak t.keys.length ck', .slice Av t.kids.length cv'] 62)) hrep); have Hb1 := Lib.hid hb1; clear hb1 hrep)
      refine bodyPost_ret (v := .tuple #[.agg zero5, .int .i64 1]) (by simp [results, Tryz.results46, go_sem, zero5, z0, z1, z2, z3, z4, hlw]) rfl ?_
      rw [hd.out]
      exact ⟨(((((((Hb.out.trans (Hb1.out.mono Hb.out.size)).setCell (Nat.le_refl _) _).setCell (Nat.le_refl _) _).setCell (Nat.le_refl _) _).setCell (Nat.le_refl _) _).setCell (Nat.le_refl _) _).alloc (by simp [World.setCell]; omega) _), rfl⟩
     ·have hne : xs.length - r.length = xs.length := by omega
      rw [hne] at HV
      cases hke : k0.toList.isEmpty
      ·have hd : Hid (dec xs = (1, none)) := by
          show dec xs = (1, none)
          rw [Htail.out, if_pos (.inr hke)]
       have Hne := Lib.hid hne
       clear hne
       go_wp2_with (go_at_call 91; refine (HV.out _ HRR.out).mono ?_; rintro e w1 ⟨hb1, vs, rfl, hrep⟩; obtain ⟨Ak, ck', Av, cv', kvs, rfl, hck', hcv', _, _, _⟩ := hrep.out; obtain ⟨z0, z1, z2, z3, z4, q⟩ := (HR.out.below hb1).five; have hlw := (HR.out.below hb1).lt; obtain ⟨g3, hbl1⟩ := HG3.out _ hb1; have Hrep := Lib.hid (VRep.keep (Same.alloc _ _ (.cells #[.int .i64 t.kind, .int .i64 t.num, .string t.text, .slice Ak t.keys.length ck', .slice Av t.kids.length cv'] 62)) hrep); have Hb1 := Lib.hid hb1; clear hb1 hrep)
       refine bodyPost_ret (v := .tuple #[.agg zero5, .int .i64 1]) (by simp [results, Tryz.results46, go_sem, zero5, z0, z1, z2, z3, z4, hlw]) rfl ?_
       rw [hd.out]
       exact ⟨(((((((Hb.out.trans (Hb1.out.mono Hb.out.size)).setCell (Nat.le_refl _) _).setCell (Nat.le_refl _) _).setCell (Nat.le_refl _) _).setCell (Nat.le_refl _) _).setCell (Nat.le_refl _) _).alloc (by simp [World.setCell]; omega) _), rfl⟩
      ·have Hne := Lib.hid hne
       have hke2 : k0.toList = [] := by simpa using hke
       have HD := Lib.hid (depth_any t.count t)
       have hcc : t.count ≤ 1000000 := by omega
       clear hne
       by_cases hdp : 20 < t.depth
       ·have hd : Hid (dec xs = (7, none)) := by
          show dec xs = (7, none)
          rw [Htail.out, if_neg (fun h => h.elim hr0 (by simp [hke])), if_pos hdp]
        go_wp2_with (first
         | (go_at_call 91; refine (HV.out _ HRR.out).mono ?_; rintro e w1 ⟨hb1, vs, rfl, hrep⟩; obtain ⟨Ak, ck', Av, cv', kvs, rfl, hck', hcv', _, _, _⟩ := hrep.out; obtain ⟨z0, z1, z2, z3, z4, q⟩ := (HR.out.below hb1).five; have hlw := (HR.out.below hb1).lt; obtain ⟨g3, hbl1⟩ := HG3.out _ hb1; have Hrep := Lib.hid (VRep.keep (Same.alloc _ _ (.cells #[.int .i64 t.kind, .int .i64 t.num, .string t.text, .slice Ak t.keys.length ck', .slice Av t.kids.length cv'] 62)) hrep); have Hb1 := Lib.hid hb1; clear hb1 hrep)
         | (go_at_call 92; refine (HD.out _ _ _ (Nat.le_refl _) hcc Hrep.out).mono ?_; rintro e w2 ⟨rfl, hb2⟩; obtain ⟨z0, z1, z2, z3, z4, q⟩ := (((HR.out.below Hb1.out).alloc (.cells #[.int .i64 t.kind, .int .i64 t.num, .string t.text, .slice Ak t.keys.length ck', .slice Av t.kids.length cv'] 62)).below hb2).five; have Hb2 := Lib.hid hb2; clear hb2))
        refine bodyPost_ret (v := .tuple #[.agg zero5, .int .i64 7]) (by simp [results, Tryz.results46, go_sem, zero5, z0, z1, z2, z3, z4]) rfl ?_
        rw [hd.out]
        exact ⟨((((((((Hb.out.trans (Hb1.out.mono Hb.out.size)).alloc (by omega) _).trans (Hb2.out.mono (by simp; omega))).setCell (Nat.le_refl _) _).setCell (Nat.le_refl _) _).setCell (Nat.le_refl _) _).setCell (Nat.le_refl _) _).setCell (Nat.le_refl _) _), rfl⟩
       ·have hd : Hid (dec xs = (0, some t)) := by
          show dec xs = (0, some t)
          rw [Htail.out, if_neg (fun h => h.elim hr0 (by simp [hke])), if_neg hdp]
        go_wp2_with (first
         | (go_at_call 91; refine (HV.out _ HRR.out).mono ?_; rintro e w1 ⟨hb1, vs, rfl, hrep⟩; obtain ⟨Ak, ck', Av, cv', kvs, rfl, hck', hcv', _, _, _⟩ := hrep.out; obtain ⟨z0, z1, z2, z3, z4, q⟩ := (HR.out.below hb1).five; have hlw := (HR.out.below hb1).lt; obtain ⟨g3, hbl1⟩ := HG3.out _ hb1; have Hrep := Lib.hid (VRep.keep (Same.alloc _ _ (.cells #[.int .i64 t.kind, .int .i64 t.num, .string t.text, .slice Ak t.keys.length ck', .slice Av t.kids.length cv'] 62)) hrep); have Hb1 := Lib.hid hb1; clear hb1 hrep)
         | (go_at_call 92; refine (HD.out _ _ _ (Nat.le_refl _) hcc Hrep.out).mono ?_; rintro e w2 ⟨rfl, hb2⟩; obtain ⟨z0, z1, z2, z3, z4, q⟩ := (((HR.out.below Hb1.out).alloc (.cells #[.int .i64 t.kind, .int .i64 t.num, .string t.text, .slice Ak t.keys.length ck', .slice Av t.kids.length cv'] 62)).below hb2).five; obtain ⟨y0, y1, y2, y3, y4, y⟩ := ((Blk.new w1 62 #[.int .i64 t.kind, .int .i64 t.num, .string t.text, .slice Ak t.keys.length ck', .slice Av t.kids.length cv']).below hb2).five; have Hrep2 := Lib.hid (VRep.below Hrep.out hb2); have Hb2 := Lib.hid hb2; clear hb2))
        refine bodyPost_ret (v := .tuple #[.agg #[.int .i64 t.kind, .int .i64 t.num, .string t.text, .slice Ak t.keys.length ck', .slice Av t.kids.length cv'], .int .i64 0]) (by simp [results, Tryz.results46, go_sem, z0, z1, z2, z3, z4]) rfl ?_
        rw [hd.out]
        have hs5 : ∀ u0 u1 u2 u3 u4 : Value, Same (fun b => wr.heap.size ≤ b) w2 (((((w2.setCell ⟨w.heap.size, 0, none⟩ u0).setCell ⟨w.heap.size, 1, none⟩ u1).setCell ⟨w.heap.size, 2, none⟩ u2).setCell ⟨w.heap.size, 3, none⟩ u3).setCell ⟨w.heap.size, 4, none⟩ u4) := fun u0 u1 u2 u3 u4 =>
         ((((Same.setCell _ _ _ (by simp; omega)).trans (Same.setCell _ _ _ (by simp; omega))).trans (Same.setCell _ _ _ (by simp; omega))).trans (Same.setCell _ _ _ (by simp; omega))).trans (Same.setCell _ _ _ (by simp; omega))
        exact ⟨((((((((Hb.out.trans (Hb1.out.mono Hb.out.size)).alloc (by omega) _).trans (Hb2.out.mono (by simp; omega))).setCell (Nat.le_refl _) _).setCell (Nat.le_refl _) _).setCell (Nat.le_refl _) _).setCell (Nat.le_refl _) _).setCell (Nat.le_refl _) _), _, rfl,
         (VRep.keep (hs5 _ _ _ _ _) Hrep2.out).weaken fun b hb _ => by have := Hb.out.size; omega⟩
end Go.Proofs.YtlciedpfjhkkdaaGreatDoor
