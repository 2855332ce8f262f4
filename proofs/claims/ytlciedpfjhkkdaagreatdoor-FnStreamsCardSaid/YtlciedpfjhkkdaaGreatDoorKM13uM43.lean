/- Texts of this proof: M13 M14 G35 H17 M38 M39 M12 M41 M43. -/
import Derived.Test.YtlciedpfjhkkdaaGreatDoorKM2
import Derived.Test.YtlciedpfjhkkdaaGreatDoorKA1
import Derived.Test.YtlciedpfjhkkdaaGreatDoorKG49uG52
import Derived.Test.YtlciedpfjhkkdaaGreatDoorKG06uS02
import Derived.Test.YtlciedpfjhkkdaaGreatDoorKG27uM30
import Derived.Test.YtlciedpfjhkkdaaGreatDoorKGX
import Derived.Test.YtlciedpfjhkkdaaGreatDoorKG21uM3
import Derived.Deep.RegionLaw
import Derived.Shelf.RegionOpenPlain
import Derived.Laws.CopyRow
import Derived.Test.YtlciedpfjhkkdaaGreatDoorKM29uG26
import Derived.Test.YtlciedpfjhkkdaaGreatDoorKM11uG31
set_option linter.unusedSimpArgs false
set_option linter.unusedVariables false
set_option linter.unnecessarySimpa false
namespace Go.Proofs.YtlciedpfjhkkdaaGreatDoor
open Go.RowKit
structure InD where
 op : Int
 arg : Int
 val : List CellD
def between (n lo hi : Int) : Bool := decide (n ≥ lo) && decide (n ≤ hi)
def HInv (n : Nat) (b : Int) (out : List Int) : Prop := out.length = n ∧ ∀ v ∈ out, -1 ≤ v ∧ v ≤ b
theorem HInv.get {n : Nat} {b : Int} {out : List Int} (h : HInv n b out) (hb : 0 ≤ b) (m : Nat) : -1 ≤ out.getD m 0 ∧ out.getD m 0 ≤ b := by
 rw [List.getD_eq_getElem?_getD]
 by_cases hm : m < out.length
 ·rw [List.getElem?_eq_getElem hm, Option.getD_some]
  exact h.2 _ (List.getElem_mem hm)
 ·rw [List.getElem?_eq_none (by omega), Option.getD_none]
  omega
theorem HInv.set {n : Nat} {b : Int} {out : List Int} (h : HInv n b out) {m : Nat} {x : Int} (hx : -1 ≤ x ∧ x ≤ b) : HInv n b (out.set m x) := by
 refine ⟨by rw [List.length_set]; exact h.1, fun v hv => ?_⟩
 rcases List.mem_or_eq_of_mem_set hv with hv | rfl
 ·exact h.2 v hv
 ·exact hx
theorem HInv.up {n : Nat} {b c : Int} {out : List Int} (h : HInv n b out) (hc : b ≤ c) : HInv n c out := ⟨h.1, fun v hv => by have := h.2 v hv; omega⟩
theorem getD_set_ne {out : List Int} {m k : Nat} {x : Int} (h : m ≠ k) : (out.set m x).getD k 0 = out.getD k 0 := by
 rw [List.getD_eq_getElem?_getD, List.getD_eq_getElem?_getD, List.getElem?_set_ne h]
set_option maxRecDepth 10000
def InD.cs (d : InD) : List C := [.int .i64 d.op, .int .i64 d.arg, .sl (d.val.map CellD.cs)]
def InD.av (d : InD) : AV := .agg [.c (.int .i64 d.op), .c (.int .i64 d.arg), .c (.sl (d.val.map CellD.cs))]
attribute [go_sem] InD.av
set_option maxRecDepth 10000
def rrA (r : (Int × Int) × Option V) : AV := match r.2 with
 | some t => .agg [.c (.int .i64 0), .c (.int .i64 0), .c (.sl (t.enc.map CellD.cs))]
 | none => .agg [.c (.int .i64 r.1.1), .c (.int .i64 r.1.2), .c (.sl [])]
theorem rrA_some (c : Int × Int) (t : V) : rrA (c, some t) = .agg [.c (.int .i64 0), .c (.int .i64 0), .c (.sl (t.enc.map CellD.cs))] := rfl
theorem rrA_none (c a : Int) : rrA ((c, a), none) = .agg [.c (.int .i64 c), .c (.int .i64 a), .c (.sl [])] := rfl
def small (t : V) : Int × Option V := if t.count ≤ 200 then okR t else badR 2
theorem give_small {t : V} (hw : t.wf) (hd : t.depth ≤ 20) : giveR t = small t := by
 unfold small
 split
 ·exact give_right' ⟨hw, ‹_›, hd⟩
 ·unfold giveR
  rw [dec_many (.inr (by rw [enc_len]; omega))]
  rfl
theorem put_idx {q : List V} {x u v' : V} {kids : List V} {i : Nat} (hi : i < kids.length) (hl : kids.length ≤ 200) (hput : setPathV x q u = small v') (hw : (arrV (kids.set i v')).wf) (hd : (arrV (kids.set i v')).depth ≤ 20) :
  setPathV x (numV (i : Int) :: q) (arrV (kids.set i u)) = small (arrV (kids.set i v')) := by
 have hf : fromEnd (numV (i : Int)).num (arrV (kids.set i u)).kids.length = (i : Int) := by
  unfold fromEnd
  rw [show (numV (i : Int)).num = (i : Int) from rfl, if_neg (show ¬ ((i : Int) < 0) by omega)]
 have hp : padV (kids.set i u) i = kids.set i u := by
  unfold padV
  rw [List.length_set, show i + 1 - kids.length = 0 by omega]
  simp
 have hg : (kids.set i u).getD i nullV = u := by simp [hi]
 have e : setPathV x (numV (i : Int) :: q) (arrV (kids.set i u)) = setIdxV (arrV (kids.set i u)) (numV (i : Int)).num (setPathV x q) := by
  conv => lhs; unfold setPathV
  rw [if_pos (show (numV (i : Int)).kind = 3 from rfl)]
 rw [e]
 unfold setIdxV
 rw [if_pos (.inl (show (arrV (kids.set i u)).kind = 5 from rfl)), hf, if_neg (by omega), if_neg (by omega), Int.toNat_natCast]
 show onSome (setPathV x q ((padV (kids.set i u) i).getD i nullV)) (fun r => giveR (arrV ((padV (kids.set i u) i).set i r))) = _
 rw [hp, hg, hput]
 by_cases hc : v'.count ≤ 200
 ·have : small v' = (0, some v') := by unfold small; rw [if_pos hc]; rfl
  rw [this]
  show giveR (arrV ((kids.set i u).set i v')) = _
  rw [List.set_set]
  exact give_small hw hd
 ·have h1 : small v' = (2, none) := by unfold small; rw [if_neg hc]; rfl
  have h2 := countL_mem (t := v') (ks := kids.set i v') (List.mem_iff_getElem.2 ⟨i, by simpa using hi, by simp⟩)
  have h3 : ¬ (arrV (kids.set i v')).count ≤ 200 := by simp only [arrV, V.count]; omega
  have h4 : small (arrV (kids.set i v')) = (2, none) := by unfold small; rw [if_neg h3]; rfl
  rw [h1, h4]
  rfl
theorem path_told {p : List V} (hp : ∀ q ∈ p, sKey q) (hl : p.length ≤ 100) : pathDec (arrV p).enc = (0, some p) := by
 obtain ⟨h1, h2, h3⟩ := path_right hp hl
 have hb : (arrV p).kids.any badKid = false := by
  rw [List.any_eq_false]
  intro q hq
  obtain ⟨_, _, _, h⟩ := hp q hq
  unfold badKid
  rcases h with h | h <;> simp [h]
 rw [pathDec_enc h1 h2 h3, hb]
 rfl
def cutEv (d : Nat) (e : Ev) : Option Ev := if e.1.length ≤ d then none else some (e.1.drop d, e.2)
def cutEvs (d : Nat) (l : List Ev) : List Ev := l.filterMap (cutEv d)
theorem cutEvs_take {d : Nat} {l : List Ev} {k : Nat} (h : k < l.length) : cutEvs d (l.take (k + 1)) = cutEvs d (l.take k) ++ (cutEv d l[k]).toList := by
 unfold cutEvs
 rw [List.take_succ_eq_append_getElem h, List.filterMap_append]
 cases hc : cutEv d l[k] <;> simp [hc]
theorem cutEvs_len (d : Nat) (l : List Ev) : (cutEvs d l).length ≤ l.length := List.length_filterMap_le _ _
theorem wfL_drop : ∀ (d : Nat) {l : List V}, wfL l → wfL (l.drop d)
 | 0, _, h => h
 | _ + 1, [], _ => trivial
 | d + 1, _ :: l, h => wfL_drop d (l := l) h.2
theorem countL_drop : ∀ (d : Nat) (l : List V), countL (l.drop d) ≤ countL l
 | 0, _ => Nat.le_refl _
 | _ + 1, [] => Nat.le_refl _
 | d + 1, x :: l => by
  have := countL_drop d l
  simp only [List.drop_succ_cons, countL]
  omega
theorem depthL_drop : ∀ (d : Nat) (l : List V), depthL (l.drop d) ≤ depthL l
 | 0, _ => Nat.le_refl _
 | _ + 1, [] => Nat.le_refl _
 | d + 1, x :: l => by
  have := depthL_drop d l
  simp only [List.drop_succ_cons, depthL]
  omega
theorem count_node (t : V) : t.count = 1 + countL t.kids := by
 cases t
 simp only [V.count, V.kids]
 omega
theorem depth_node (t : V) : t.depth = 1 + depthL t.kids := by
 cases t
 simp only [V.depth, V.kids]
 omega
theorem wfL_kids {t : V} (h : t.wf) : wfL t.kids := by cases t; exact h.2.2
theorem ev_parts {xs : List CellD} {e : Ev} (h : evDec xs = (0, some e)) : ∃ (t q : V), xs = t.enc ∧ t.right ∧ q.right ∧ pathDec q.enc = (0, some q.kids) ∧ e.1 = q.kids ∧ t.kids = q :: e.2.toList := by
 rcases ev_way xs with ⟨hn, h0, he⟩ | ⟨t, hd, hx, ht, ⟨h5, he⟩ | ⟨h5, hl, he⟩ | ⟨q, r, h5, hk, hr, hq, ⟨c, h0, hp, he⟩ | ⟨hp, _, _, ⟨rfl, hqe, he⟩ | ⟨rfl, hqe, he⟩ | ⟨u, rfl, hu, hue, he⟩ | ⟨u, rfl, hu, hue, he⟩⟩⟩⟩
 all_goals rw [h] at he
 all_goals try (have hee := (Prod.mk.inj he).2; cases hee; done)
 ·have hee : e = _ := Option.some.inj (Prod.mk.inj he).2
  subst hee
  exact ⟨t, q, hx, ht, hq, hp, rfl, hk⟩
 ·have hee : e = _ := Option.some.inj (Prod.mk.inj he).2
  subst hee
  exact ⟨t, q, hx, ht, hq, hp, rfl, hk⟩
theorem evV_eq (e : Ev) : evV e = arrV (arrV e.1 :: e.2.toList) := by obtain ⟨p, o⟩ := e; cases o <;> rfl
theorem cut_right {xs : List CellD} {e : Ev} (h : evDec xs = (0, some e)) (d : Nat) : (evV (e.1.drop d, e.2)).right := by
 obtain ⟨t, q, _, ht, hq, _, he, hk⟩ := ev_parts h
 have hc := count_node t
 have hdp := depth_node t
 have hw := wfL_kids ht.1
 have hqc := count_node q
 have hqd := depth_node q
 have hqw := wfL_kids hq.1
 obtain ⟨_, h2, h3⟩ := ht
 obtain ⟨_, hq2, hq3⟩ := hq
 rw [hk] at hc hdp hw
 simp only [countL, depthL] at hc hdp
 have c1 := countL_drop d q.kids
 have d1 := depthL_drop d q.kids
 have w1 : wfL (q.kids.drop d) := wfL_drop d hqw
 have hl1 := countL_len (q.kids.drop d)
 rw [evV_eq]
 simp only [he]
 have hlo : e.2.toList.length ≤ countL e.2.toList := countL_len _
 refine ⟨arr_wf ⟨arr_wf w1 (by omega), hw.2⟩ (by simp; omega), ?_, ?_⟩
 ·rw [count_node]
  show 1 + countL (arrV (q.kids.drop d) :: e.2.toList) ≤ 200
  simp only [countL]
  rw [count_node (arrV _)]
  show 1 + ((1 + countL (q.kids.drop d)) + _) ≤ 200
  omega
 ·rw [depth_node]
  show 1 + depthL (arrV (q.kids.drop d) :: e.2.toList) ≤ 20
  simp only [depthL]
  rw [depth_node (arrV _)]
  show 1 + max (1 + depthL (q.kids.drop d)) _ ≤ 20
  omega
abbrev Mem1 := ByteArray × V
def fsts (l : List Mem1) : List ByteArray := l.map Prod.fst
def snds (l : List Mem1) : List V := l.map Prod.snd
def ovV (l : List Mem1) : V := .mk 6 0 ByteArray.empty (fsts l) (snds l)
theorem fsts_app (a b : List Mem1) : fsts (a ++ b) = fsts a ++ fsts b := List.map_append
theorem snds_app (a b : List Mem1) : snds (a ++ b) = snds a ++ snds b := List.map_append
theorem fsts_cons (k : ByteArray) (v : V) (b : List Mem1) : fsts ((k, v) :: b) = k :: fsts b := rfl
theorem snds_cons (k : ByteArray) (v : V) (b : List Mem1) : snds ((k, v) :: b) = v :: snds b := rfl
theorem fs_len (l : List Mem1) : (fsts l).length = (snds l).length := by unfold fsts snds; rw [List.length_map, List.length_map]
theorem up_one {l : List Mem1} (h : Up (fsts l)) {k : ByteArray} {u v : V} (h1 : (k, u) ∈ l) (h2 : (k, v) ∈ l) : u = v := by
 obtain ⟨i, hi, e1⟩ := List.mem_iff_getElem.1 h1
 obtain ⟨j, hj, e2⟩ := List.mem_iff_getElem.1 h2
 have g1 : (fsts l)[i]? = some k := by unfold fsts; rw [List.getElem?_map, List.getElem?_eq_getElem hi, e1]; rfl
 have g2 : (fsts l)[j]? = some k := by unfold fsts; rw [List.getElem?_map, List.getElem?_eq_getElem hj, e2]; rfl
 have := up_inj h g1 g2
 subst this
 rw [e1] at e2
 exact (Prod.mk.inj e2).2
theorem ov_member {l : List Mem1} (h : Up (fsts l)) {k : ByteArray} {u : V} (h1 : (k, u) ∈ l) : (ovV l).member k = u := by
 obtain ⟨i, hi, e1⟩ := List.mem_iff_getElem.1 h1
 rw [member_memL]
 refine memL_at (i := i) h ?_ ?_
 ·show (fsts l)[i]? = some k
  unfold fsts; rw [List.getElem?_map, List.getElem?_eq_getElem hi, e1]; rfl
 ·show (snds l)[i]? = some u
  unfold snds; rw [List.getElem?_map, List.getElem?_eq_getElem hi, e1]; rfl
theorem ov_none {l : List Mem1} {k : ByteArray} (h : k ∉ fsts l) : (ovV l).member k = nullV := by
 rw [member_memL]
 exact memL_none h
theorem lastKid_mem {l : List Mem1} (h : Up (fsts l)) {k : ByteArray} {u : V} (h1 : (k, u) ∈ l) : lastKid (fsts l) (snds l) k = u := by
 have hk : k ∈ fsts l := List.mem_map.2 ⟨(k, u), h1, rfl⟩
 obtain ⟨j, g1, _, g3⟩ := lastKid_at (fs_len l) hk
 obtain ⟨i, hi, e1⟩ := List.mem_iff_getElem.1 h1
 have q1 : (fsts l)[i]? = some k := by unfold fsts; rw [List.getElem?_map, List.getElem?_eq_getElem hi, e1]; rfl
 have := up_inj h g1 q1
 subst this
 have q2 : (snds l)[j]? = some u := by unfold snds; rw [List.getElem?_map, List.getElem?_eq_getElem hi, e1]; rfl
 rw [q2] at g3
 exact (Option.some.inj g3).symm
theorem ov_set {l r : List Mem1} (hl : Up (fsts l)) (hr : Up (fsts r)) {k : ByteArray} {x : V} (hx : (k, x) ∈ r) (hk : ∀ y, (y ∈ fsts l ∨ y = k) ↔ y ∈ fsts r) (hm : ∀ e ∈ r, e.1 ≠ k → e ∈ l) :
  objV ((ovV l).keys ++ [k]) ((ovV l).kids ++ [x]) = ovV r := by
 show objV (fsts l ++ [k]) (snds l ++ [x]) = _
 unfold objV
 have e : objKeys (fsts l ++ [k]) = fsts r := up_eq (objKeys_up _) hr fun y => by
  rw [objKeys_mem, List.mem_append, List.mem_singleton]
  exact hk y
 rw [e]
 unfold ovV
 congr 1
 unfold snds
 rw [show fsts r = r.map Prod.fst from rfl, List.map_map]
 refine List.map_congr_left fun q hq => ?_
 obtain ⟨y, v⟩ := q
 show lastKid (fsts l ++ [k]) (snds l ++ [x]) y = v
 rw [lastKid_snoc (fs_len l) (by
  rcases (hk y).2 (List.mem_map.2 ⟨(y, v), hq, rfl⟩) with h | h
  ·exact .inr h
  ·exact .inl h)]
 split
 ·rename_i he
  subst he
  exact up_one hr hx hq
 ·rename_i he
  exact lastKid_mem hl (hm _ hq he)
theorem ov_put {L R : List Mem1} {k : ByteArray} {u x : V} (h : Up (fsts (L ++ (k, u) :: R))) : objV ((ovV (L ++ (k, u) :: R)).keys ++ [k]) ((ovV (L ++ (k, u) :: R)).kids ++ [x]) = ovV (L ++ (k, x) :: R) := by
 have e : ∀ v, fsts (L ++ (k, v) :: R) = fsts L ++ k :: fsts R := fun v => by rw [fsts_app, fsts_cons]
 refine ov_set h (by rw [e] at h ⊢; exact h) (List.mem_append.2 (.inr (by simp))) (fun y => ?_) (fun q hq hne => ?_)
 ·rw [e, e]
  exact ⟨fun h => h.elim id fun e => by rw [e]; simp, .inl⟩
 ·rcases List.mem_append.1 hq with hq | hq
  ·exact List.mem_append.2 (.inl hq)
  ·rcases List.mem_cons.1 hq with rfl | hq
   ·exact absurd rfl hne
   ·exact List.mem_append.2 (.inr (List.mem_cons_of_mem _ hq))
theorem ov_new {L R : List Mem1} {k : ByteArray} {x : V} (h : Up (fsts (L ++ (k, x) :: R))) : objV ((ovV (L ++ R)).keys ++ [k]) ((ovV (L ++ R)).kids ++ [x]) = ovV (L ++ (k, x) :: R) := by
 have e : fsts (L ++ (k, x) :: R) = fsts L ++ k :: fsts R := by rw [fsts_app, fsts_cons]
 have hs : Up (fsts (L ++ R)) := by
  rw [e] at h
  rw [fsts_app]
  exact List.Pairwise.sublist (List.Sublist.append (List.Sublist.refl _) (List.sublist_cons_self _ _)) h
 refine ov_set hs h (List.mem_append.2 (.inr (by simp))) (fun y => ?_) (fun q hq hne => ?_)
 ·rw [e, fsts_app]
  simp only [List.mem_append, List.mem_cons]
  constructor
  ·rintro ((h | h) | h)
   ·exact .inl h
   ·exact .inr (.inr h)
   ·exact .inr (.inl h)
  ·rintro (h | h | h)
   ·exact .inl (.inl h)
   ·exact .inr h
   ·exact .inl (.inr h)
 ·rcases List.mem_append.1 hq with hq | hq
  ·exact List.mem_append.2 (.inl hq)
  ·rcases List.mem_cons.1 hq with rfl | hq
   ·exact absurd rfl hne
   ·exact List.mem_append.2 (.inr hq)
theorem up_apart {L R : List Mem1} {k : ByteArray} {u : V} (h : Up (fsts (L ++ (k, u) :: R))) : (∀ e ∈ L, lessB e.1 k = true) ∧ (∀ e ∈ R, lessB k e.1 = true) := by
 rw [fsts_app, fsts_cons] at h
 obtain ⟨_, h2, h3⟩ := List.pairwise_append.1 (show List.Pairwise _ _ from h)
 refine ⟨fun e he => h3 _ (List.mem_map.2 ⟨e, he, rfl⟩) _ (by simp), fun e he => (List.pairwise_cons.1 h2).1 _ (List.mem_map.2 ⟨e, he, rfl⟩)⟩
theorem less_ne {a b : ByteArray} (h : lessB a b = true) : a ≠ b := fun e => by subst e; rw [lessB_irrefl] at h; cases h
theorem ov_in {L R : List Mem1} {k : ByteArray} {u : V} (h : Up (fsts (L ++ (k, u) :: R))) : (ovV (L ++ (k, u) :: R)).member k = u := ov_member h (List.mem_append.2 (.inr (by simp)))
def cntL (l : List Mem1) : Nat := countL (snds l)
theorem cnt_app (a b : List Mem1) : cntL (a ++ b) = cntL a + cntL b := by unfold cntL; rw [snds_app, countL_app]
theorem cnt_cons (k : ByteArray) (v : V) (b : List Mem1) : cntL ((k, v) :: b) = v.count + cntL b := rfl
theorem ov_count (l : List Mem1) : (ovV l).count = 1 + cntL l := by unfold ovV cntL; rw [V.count]; omega
def FitL (D : Nat) (l : List Mem1) : Prop := ∀ e ∈ l, okText e.1 = true ∧ e.2.wf ∧ e.2.depth ≤ D
theorem ov_fit {D : Nat} {l : List Mem1} (h : Up (fsts l)) (hf : FitL D l) (hl : l.length ≤ 200) : (ovV l).wf ∧ (ovV l).depth ≤ D + 1 := by
 refine ⟨obj_wf (fs_len l) (fun k hk => ?_) h (fun v hv => ?_) (by unfold snds; rw [List.length_map]; exact hl), ?_⟩
 ·obtain ⟨e, he, rfl⟩ := List.mem_map.1 hk
  exact (hf e he).1
 ·obtain ⟨e, he, rfl⟩ := List.mem_map.1 hv
  exact (hf e he).2.1
 ·have : depthL (snds l) ≤ D := depthL_le fun v hv => by
   obtain ⟨e, he, rfl⟩ := List.mem_map.1 hv
   exact (hf e he).2.2
  unfold ovV
  rw [V.depth]
  omega
theorem str_ne3 (k : ByteArray) : ¬ (strV k).kind = 3 := show ¬ (4 : Int) = 3 by decide
theorem put_key {q : List V} {x u v' : V} {L R : List Mem1} {k : ByteArray} (h : Up (fsts (L ++ (k, u) :: R))) (hput : setPathV x q u = small v') (hw : (ovV (L ++ (k, v') :: R)).wf) (hd : (ovV (L ++ (k, v') :: R)).depth ≤ 20) :
  setPathV x (strV k :: q) (ovV (L ++ (k, u) :: R)) = small (ovV (L ++ (k, v') :: R)) := by
 have hg : getKeyV (ovV (L ++ (k, u) :: R)) (strV k).text = okR u := by
  rw [getKey_obj rfl]
  exact congrArg okR (ov_in h)
 unfold setPathV
 rw [if_neg (str_ne3 k), hg]
 show (match setPathV x q u with
  | (_, some r) => setKeyV _ _ r
  | (c, none) => (c, none)) = _
 rw [hput]
 by_cases hc : v'.count ≤ 200
 ·have : small v' = (0, some v') := by unfold small; rw [if_pos hc]; rfl
  rw [this]
  show setKeyV _ _ v' = _
  unfold setKeyV
  rw [if_pos (.inr rfl), show (strV k).text = k from rfl, ov_put h]
  exact give_small hw hd
 ·have h1 : small v' = (2, none) := by unfold small; rw [if_neg hc]; rfl
  have h3 : ¬ (ovV (L ++ (k, v') :: R)).count ≤ 200 := by rw [ov_count, cnt_app, cnt_cons]; omega
  have h4 : small (ovV (L ++ (k, v') :: R)) = (2, none) := by unfold small; rw [if_neg h3]; rfl
  rw [h1, h4]
theorem arr_eta {t : V} (h : t.wf) (h5 : t.kind = 5) : t = arrV t.kids := by
 obtain ⟨_, _, h3, h4, h6, _⟩ := right_shape h
 cases t with
 | mk kind num text keys kids =>
  simp only [V.kind, V.num, V.text, V.keys] at h5 h3 h4 h6
  rw [h3 (by omega), h4 (by omega), h6 (by omega), h5]
  rfl
def pairsV (t : V) : List Mem1 := t.keys.zip t.kids
theorem pairs_f {t : V} (h : t.keys.length = t.kids.length) : fsts (pairsV t) = t.keys := by
 unfold fsts pairsV
 exact List.map_fst_zip (by omega)
theorem pairs_s {t : V} (h : t.keys.length = t.kids.length) : snds (pairsV t) = t.kids := by
 unfold snds pairsV
 exact List.map_snd_zip (by omega)
theorem obj_eta {t : V} (h : t.right) (h6 : t.kind = 6) : t = ovV (pairsV t) := by
 obtain ⟨_, _, hl⟩ := right_asc h h6
 obtain ⟨_, _, h3, h4, _, _⟩ := right_shape h.1
 unfold ovV
 rw [pairs_f hl, pairs_s hl]
 cases t with
 | mk kind num text keys kids =>
  simp only [V.kind, V.num, V.text] at h6 h3 h4
  rw [h3 (by omega), h4 (by omega), h6]
  rfl
theorem pairs_mem {t : V} (h : t.right) (h6 : t.kind = 6) {e : Mem1} (he : e ∈ pairsV t) : e.1 ∈ t.keys ∧ e.2 ∈ t.kids := List.of_mem_zip he
end Go.Proofs.YtlciedpfjhkkdaaGreatDoor
