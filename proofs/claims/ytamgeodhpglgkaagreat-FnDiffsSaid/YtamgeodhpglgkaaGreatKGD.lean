/- Texts of this proof: G60 G61 G62 G63. -/
import Derived.Test.YtamgeodhpglgkaaGreatKGX
import Derived.Test.YtamgeodhpglgkaaGreatKM3
import Derived.Test.YtamgeodhpglgkaaGreatKG11uS02
import Derived.Test.YtamgeodhpglgkaaGreatKG49uG52
import Derived.Deep.RegionLaw
import Derived.Shelf.RegionOpenPlain
import Derived.Laws.CopyRow
import Derived.Test.YtamgeodhpglgkaaGreatKG56uG26
set_option linter.unusedSimpArgs false
set_option maxHeartbeats 8000000
namespace Go.Proofs.YtamgeodhpglgkaaGreat
open Go.RowKit
set_option maxRecDepth 10000
theorem drop_grow (v : V) (key : ByteArray) : ∃ F : Nat → List ByteArray, F 0 = [] ∧ (∀ k, (F k).length ≤ k) ∧ F v.keys.length = v.keys.filter (fun s => !(s.toList == key.toList)) ∧ ∀ k (h : k < v.keys.length), F (k + 1) = F k ++ (if (v.keys[k].toList == key.toList) = true then [] else [v.keys[k]]) := by
 refine ⟨fun k => (v.keys.take k).filter fun s => !(s.toList == key.toList), rfl, fun k => ?_, by dsimp only; rw [List.take_length], fun k h => ?_⟩
 ·exact Nat.le_trans (List.length_filter_le _ _) (by rw [List.length_take]; omega)
 ·dsimp only
  rw [List.take_succ_eq_append_getElem h, List.filter_append]
  congr 1
  rw [List.filter_cons, List.filter_nil]
  cases v.keys[k].toList == key.toList <;> rfl
theorem dropKey_ac {v : V} (h : v.right) (key : ByteArray) (hk : okText key = true) : AC Tryz.prog 267 [v.av, .c (.str key)] [] (resA (dropKeyV v key)) [] := by
  have hs := isString_ac key (by have := okText_size hk; omega)
  rw [hk] at hs
  unfold dropKeyV
  by_cases h0 : v.kind = 0
  · have hb : (v.kind == 0) = true := by simpa using h0
    rw [if_pos h0, resA_ok]
    refine wEnter Tryz.func267 Tryz.ntmps267 ?_
    refine wRUN trivial ?_
    refine w7 (op_data [] hs) trivial ?_
    refine wRUN hb ?_
    refine w7 (op_data [] null_ac) trivial ?_
    refine w7 (op_data [] (gives_ac right_null)) trivial ?_
    refine wRUN trivial ?_
    exact wRet (ret_data []) Tryz.results267
  · have hb : (v.kind == 0) = false := by simpa using h0
    rw [if_neg h0]
    by_cases h6 : v.kind = 6
    · have hb6 : (v.kind != 6) = false := by simpa using h6
      rw [if_pos h6, resA_ok]
      obtain ⟨hasc, hok, hlen⟩ := right_asc h h6
      have hkl := (right_kl h).1
      have hlm : (v.keys.map strCs).length = v.keys.length := by simp
      obtain ⟨F, hF0, hFl, hFn, hFs⟩ := drop_grow v key
      have hg : AC Tryz.prog 178 [.agg [.c (.int .i64 6), .c (.int .i64 0), .c (.str ByteArray.empty), .c (.sl ((F v.keys.length).map strCs)), .c (.sl (((F v.keys.length).map v.member).map V.cs))]] [] (outA 0 (dropK v key)) [] := by
        rw [hFn]
        exact gives_ac (dropK_right h h6 key)
      generalize dropK v key = d at *
      refine wEnter Tryz.func267 Tryz.ntmps267 ?_
      refine wRUN trivial ?_
      refine w7 (op_data [] hs) trivial ?_
      refine wRUN (j3 hb hb6 hlm) ?_
      refine a_loop (κ := Nat) (fun k => ⟨mkS 0 55 [(1, .c (.str key)), (2, .ptr (2, 0) 0), (4, .ptr (4, 0) 0), (5, .ptr (5, 0) 0), (26, .c (.sl (v.keys.map strCs))), (27, .c (.int .i64 v.keys.length)), (28, .c (.int .i64 k))],
          [((2, 0), .box [.c (.int .i64 v.kind), .c (.int .i64 v.num), .c (.str v.text), .c (.sl (v.keys.map strCs)), .c (.sl (v.kids.map V.cs))]), ((4, 0), .box [.c (.int .i64 0), .c (.int .i64 0), .c (.int .i64 0), .c (.str ByteArray.empty), .nils, .nils]),
           ((5, 0), .box [.c (.int .i64 6), .c (.int .i64 0), .c (.str ByteArray.empty), .own (97, 0), .own (98, 0)]), ((97, 0), .row false 1 9 ((F k).map strCs)), ((98, 0), .row false 5 101 (((F k).map v.member).map V.cs))]⟩)
        (fun k => k ≤ v.keys.length) (fun k => v.keys.length - k) 0 (Nat.zero_le _) ?_ ?_
      · exact wSays (Says.of [((2, 0), (2, 0)), ((4, 0), (4, 0)), ((5, 0), (5, 0))] []) (j2 hF0 @List.map_nil.{0,0})
      · intro k hk
        by_cases hlt : k < v.keys.length
        · have hdk : decide ((k : Int) < (v.keys.length : Int)) = true := by simpa using hlt
          have hw := wrap_succ (k := k) (by omega)
          have hlt2 : k < v.kids.length := by omega
          have hmem : v.kids[k] = v.member v.keys[k] := (member_at (findKey_own hasc hlt) (List.getElem?_eq_getElem hlt2)).symm
          have hr : rowsAt (v.keys.map strCs) 1 k = true := by simp [rowsAt, hlt, strCs]
          have hg1 : (v.keys.map strCs)[k]? = some [.str v.keys[k]] := by simp [hlt, strCs]
          have hr2 : rowsAt (v.kids.map V.cs) 5 k = true := by simp [rowsAt, hlt2, V.cs_eq]
          have hg2 : (v.kids.map V.cs)[k]? = some [.int .i64 v.kids[k].kind, .int .i64 v.kids[k].num, .str v.kids[k].text, .sl (v.kids[k].keys.map strCs), .sl (v.kids[k].kids.map V.cs)] := by simp [hlt2, V.cs_eq]
          have hl1 : (F k).length + 1 ≤ 1000000 := by have := hFl k; omega
          have hFk := hFs k hlt
          have e1 : F (k + 1) = F k ++ [v.keys[k]] → (F k).map strCs ++ [[C.str v.keys[k]]] = (F (k + 1)).map strCs := fun h => by rw [h, List.map_append]; rfl
          have e2 : F (k + 1) = F k ++ [v.keys[k]] → ((F k).map v.member).map V.cs ++ [[.int .i64 v.kids[k].kind, .int .i64 v.kids[k].num, .str v.kids[k].text, .sl (v.kids[k].keys.map strCs), .sl (v.kids[k].kids.map V.cs)]] = ((F (k + 1)).map v.member).map V.cs := fun h => by rw [h, hmem, List.map_append, List.map_append, List.map_cons, List.map_cons, List.map_nil, List.map_nil, V.cs_eq]
          clear hmem hg
          generalize v.kids[k] = u at *
          generalize v.keys[k] = s at *
          cases hc : s.toList == key.toList with
          | true =>
            rw [hc] at hFk
            have e := hFk
            simp only [if_true, List.append_nil] at e
            refine wRUN (j5 hdk hr hg1 hc hw) ?_
            refine ⟨k + 1, by omega, by omega, ?_⟩
            exact wSays (Says.of [((2, 0), (2, 0)), ((4, 0), (4, 0)), ((5, 0), (5, 0)), ((97, 0), (97, 0)), ((98, 0), (98, 0))] []) e
          | false =>
            rw [hc] at hFk
            have e := hFk
            simp only [Bool.false_eq_true, if_false] at e
            have e1 := e1 e
            have e2 := e2 e
            refine wRUN (j8 hdk hr hg1 hr2 hg2 hc hl1 hw) ?_
            refine ⟨k + 1, by omega, by omega, ?_⟩
            exact wSays (Says.of [((2, 0), (2, 0)), ((4, 0), (4, 0)), ((5, 0), (5, 0)), ((97, 0), (40, 0)), ((98, 0), (49, 0))] []) (j2 e1 e2)
        · have hdk : decide ((k : Int) < (v.keys.length : Int)) = false := by simpa using hlt
          have hke : k = v.keys.length := by omega
          rw [hke]
          rw [hke] at hdk
          refine wRUN hdk ?_
          refine w9 (op_shared [(97, 0), (98, 0)] hg) trivial ?_
          refine wRUN trivial ?_
          exact wRet (ret_data []) Tryz.results267
    · have hb6 : (v.kind != 6) = true := by simpa using h6
      rw [if_neg h6, resA_bad]
      refine wEnter Tryz.func267 Tryz.ntmps267 ?_
      refine wRUN trivial ?_
      refine w7 (op_data [] hs) trivial ?_
      refine wRUN (j2 hb hb6) ?_
      refine w7 (op_data [] (refuses_ac 6)) trivial ?_
      refine wRUN trivial ?_
      exact wRet (ret_data []) Tryz.results267
theorem specDropKey_ac {v : V} (h : v.right) (key : ByteArray) (hk : okText key = true) : AC Tryz.prog 172 [cellsA v.enc, .c (.str key)] [] (vrA (dropKeyV v key)) [] := by
 have hv := fault_ac v.enc
 rw [right_dec h] at hv
 have h00 : ((0 : Int) != 0) = false := rfl
 have ht := l1Text_ac key
 rw [hk] at ht
 have hr0 := enc_rows v
 have hg0 := enc_head v
 unfold dropKeyV
 by_cases h0 : v.kind = 0
 ·have hb : (v.kind == 0) = true := by simpa using h0
  have hl3 := l3NullS_ac
  rw [if_pos h0, vrA_ok]
  generalize nullV.enc.map CellD.cs = nc at *
  refine wEnter Tryz.func172 Tryz.ntmps172 ?_
  refine wRUN trivial ?_
  refine w7 (op_data [] hv) trivial ?_
  refine wRUN h00 ?_
  refine w7 (op_data [] ht) trivial ?_
  refine wRUN (j3 hr0 hg0 hb) ?_
  refine w9 (op_shared [] hl3) trivial ?_
  refine wRUN trivial ?_
  exact wRet (ret_data []) Tryz.results172
 ·have hb : (v.kind == 0) = false := by simpa using h0
  rw [if_neg h0]
  by_cases h6 : v.kind = 6
  ·have hb6 : (v.kind != 6) = false := by simpa using h6
   rw [if_pos h6, vrA_ok]
   obtain ⟨hasc, hok, hlen⟩ := right_asc h h6
   have hkl := (right_kl h).1
   have hlm : (v.keys.map strCs).length = v.keys.length := by simp
   have hkO := l1Keys_ac h.1 h.2.1
   rw [show keysOf v v.kids.length = v.keys from keysOf_own h h6] at hkO
   have hpO := l1Parts_ac h.1 h.2.1
   have hfc := filter_count (fun s => !(s.toList == key.toList)) v.member v.keys
   rw [obj_members h h6] at hfc
   have hck := count_kids v
   have hvc := h.2.1
   obtain ⟨F, hF0, hFl, hFn, hFs⟩ := drop_grow v key
   have hob := l1Object_ac (F v.keys.length) ((F v.keys.length).map v.member) (by rw [List.length_map]) (by rw [hFn]; omega)
   rw [objV_up (by rw [hFn]; exact up_filter (up_of hasc) _)] at hob
   rw [show V.mk 6 0 ByteArray.empty (F v.keys.length) ((F v.keys.length).map v.member) = dropK v key by rw [hFn]; rfl] at hob
   have hel := enc_len (dropK v key)
   clear hFn
   generalize dropK v key = d at *
   refine wEnter Tryz.func172 Tryz.ntmps172 ?_
   refine wRUN trivial ?_
   refine w7 (op_data [] hv) trivial ?_
   refine wRUN h00 ?_
   refine w7 (op_data [] ht) trivial ?_
   refine wRUN (j4 hr0 hg0 hb hb6) ?_
   refine w9 (op_shared [] hkO) trivial ?_
   refine wRUN trivial ?_
   refine w9 (op_shared [] hpO) trivial ?_
   refine wRUN trivial ?_
   refine a_loop (κ := Nat) (fun k => ⟨mkS 0 70 [(1, .c (.str key)), (4, .ptr (4, 0) 0), (6, .own (97, 0)), (7, .own (98, 0)), (8, .c (.sl (v.keys.map strCs))), (9, .c (.sl ((v.kids.map V.enc).map encCs))), (10, .c (.int .i64 k))],
     [((4, 0), .box [.c (.int .i64 0), .nils]), ((97, 0), .row false 1 9 ((F k).map strCs)), ((98, 0), .row false 1 24 ((((F k).map v.member).map V.enc).map encCs))]⟩)
    (fun k => k ≤ v.keys.length) (fun k => v.keys.length - k) 0 (Nat.zero_le _) ?_ ?_
   ·exact wSays (Says.of [((4, 0), (4, 0)), ((97, 0), (34, 0)), ((98, 0), (35, 0))] []) (j2 hF0 @List.map_nil.{0,0})
   ·intro k hk
    by_cases hlt : k < v.keys.length
    ·have hdk : decide ((k : Int) < (v.keys.length : Int)) = true := by simpa using hlt
     have hw := wrap_succ (k := k) (by omega)
     have hlt2 : k < v.kids.length := by omega
     have hmem : v.kids[k] = v.member v.keys[k] := (member_at (findKey_own hasc hlt) (List.getElem?_eq_getElem hlt2)).symm
     have hr : rowsAt (v.keys.map strCs) 1 k = true := by simp [rowsAt, hlt, strCs]
     have hg1 : (v.keys.map strCs)[k]? = some [.str v.keys[k]] := by simp [hlt, strCs]
     have hr2 : rowsAt ((v.kids.map V.enc).map encCs) 1 k = true := by simp [rowsAt, hlt2, encCs]
     have hg2 : ((v.kids.map V.enc).map encCs)[k]? = some [.sl (v.kids[k].enc.map CellD.cs)] := by simp [hlt2, encCs]
     have hl1 : (F k).length + 1 ≤ 1000000 := by have := hFl k; omega
     have hFk := hFs k hlt
     have e1 : F (k + 1) = F k ++ [v.keys[k]] → (F k).map strCs ++ [[C.str v.keys[k]]] = (F (k + 1)).map strCs := fun h => by rw [h, List.map_append]; rfl
     have e2 : F (k + 1) = F k ++ [v.keys[k]] → (((F k).map v.member).map V.enc).map encCs ++ [[C.sl (v.kids[k].enc.map CellD.cs)]] = (((F (k + 1)).map v.member).map V.enc).map encCs := fun h => by rw [h, hmem, List.map_append, List.map_append, List.map_append]; rfl
     clear hmem hob
     generalize v.kids[k] = u at *
     generalize v.keys[k] = s at *
     cases hc : s.toList == key.toList with
     | true =>
      rw [hc] at hFk
      have e := hFk
      simp only [if_true, List.append_nil] at e
      refine wRUN (j6 hlm hdk hr hg1 hc hw) ?_
      refine ⟨k + 1, by omega, by omega, ?_⟩
      exact wSays (Says.of [((4, 0), (4, 0)), ((97, 0), (97, 0)), ((98, 0), (98, 0))] []) e
     | false =>
      rw [hc] at hFk
      have e := hFk
      simp only [Bool.false_eq_true, if_false] at e
      have e1 := e1 e
      have e2 := e2 e
      refine wRUN (j9 hlm hdk hr hg1 hr2 hg2 hc hl1 hw) ?_
      refine ⟨k + 1, by omega, by omega, ?_⟩
      exact wSays (Says.of [((4, 0), (4, 0)), ((97, 0), (58, 0)), ((98, 0), (65, 0))] []) (j2 e1 e2)
    ·have hdk : decide ((k : Int) < (v.keys.length : Int)) = false := by simpa using hlt
     have hke : k = v.keys.length := by omega
     rw [hke]
     rw [hke] at hdk
     refine wRUN (j2 hlm hdk) ?_
     refine w12 (op_rowF [(97, 0), (98, 0)] hob) trivial ?_
     refine wRUN trivial ?_
     exact wRetOf (ret_of [] [(68, 0)]) Tryz.results172 hel
  ·have hb6 : (v.kind != 6) = true := by simpa using h6
   rw [if_neg h6, vrA_bad]
   refine wEnter Tryz.func172 Tryz.ntmps172 ?_
   refine wRUN trivial ?_
   refine w7 (op_data [] hv) trivial ?_
   refine wRUN h00 ?_
   refine w7 (op_data [] ht) trivial ?_
   refine wRUN (j4 hr0 hg0 hb hb6) ?_
   refine w7 (op_data [] (l3Bad_ac 6)) trivial ?_
   refine wRUN trivial ?_
   exact wRet (ret_data []) Tryz.results172
set_option maxRecDepth 10000
theorem setCells_row {w : World} {g off : Nat} {e : TypeId} {cur : Array Value} {vs : List Value} (h : w.heap[g]? = some (.cells cur e (0, 0))) (hl : off + vs.length ≤ cur.size) (h1 : ∀ v ∈ vs, v.oneCell' = true) : w.setCells g off vs = w.setRow g (putL cur.toList off vs).toArray := by
 have a := run_storeCells_at (P := Tryz.prog) g off e vs 0 cur w h (by omega) h1
 have b := run_storeCells_cells (P := Tryz.prog) g off vs 0 w (fun j hj => by
  rw [cell_of_row w g _ cur e (0, 0) h, Array.getElem?_eq_getElem (by omega)]
  rfl) (fun j hj => by simp [World.frozen?, h]) h1
 rw [a] at b
 simp only [Nat.add_zero, Result.ok.injEq, true_and] at b
 exact b.symm
def zeroVs : List Value := [.int .i64 0, .int .i64 0, .string ByteArray.empty, .slice none 0 0, .slice none 0 0]
theorem deleteVals_wp (g i j n cap : Nat) (cur : Array Value) (news : List Value) (w : World) (hh : w.heap[g]? = some (.cells cur 101 (0, 0))) (hsz : cur.size = cap * 5) (hnews : news.length = (n - j) * 5) (hget : ∀ t u, news[t]? = some u → cur[j * 5 + t]? = some u) (hone : ∀ u ∈ news, u.oneCell' = true)
  (hcap : n ≤ cap) (hm : cap ≤ 9223372036854775807) (hlt : i < j) (hj : j ≤ n) :
  Calls Tryz.prog 323 #[.slice (some ⟨g, 0, none⟩) n cap, .int .i64 i, .int .i64 j] w fun e w' => e = .returned (.slice (some ⟨g, 0, none⟩) (i + (n - j)) cap) ∧ w' = (w.drew.setRow g (putL cur.toList (i * 5) news).toArray).setRow g (putL (putL cur.toList (i * 5) news) ((i + (n - j)) * 5) (List.replicate (j - i) zeroVs).flatten).toArray := by
 have mixed := follows_mixed
 have heq : ¬ i = j := by omega
 have hic : i ≤ cap := by omega
 have hjc : j ≤ cap := by omega
 have ii : (Tryz.prog.info? 101).map (fun i => (i.zero, i.size, i.bytes)) = some (some (.agg #[.int .i64 0, .int .i64 0, .string ByteArray.empty, .slice none 0 0, .slice none 0 0]), 5, 80) := by kernel_rfl
 obtain ⟨i0, hi0, hz0, hz1, hz2⟩ := info_parts ii
 have hnews' : Hid (news.length = (n - j) * 5) := hnews
 have hone' : Hid (∀ u ∈ news, u.oneCell' = true) := hone
 obtain ⟨A, hA, hsrc⟩ : ∃ A : Addr, (if cap = j then (some ⟨g, 0, none⟩ : Option Addr) else some ⟨g, j * 5, none⟩) = some A ∧ Hid (∀ t u, news[t]? = some u → w.drew.cell? (A.add t) = some u) := by
  by_cases hcj : cap = j
  ·refine ⟨⟨g, 0, none⟩, by simp [hcj], fun t u hu => ?_⟩
   have h0 : news.length = 0 := by rw [hnews]; omega
   rw [List.length_eq_zero_iff.1 h0] at hu
   simp at hu
  ·refine ⟨⟨g, j * 5, none⟩, by simp [hcj], fun t u hu => ?_⟩
   rw [Addr.add_lit, cell_of_row w.drew g _ cur _ (0, 0) hh]
   exact hget t u hu
 have hspare : Hid (∀ t, t < news.length → (w.drew.cell? ⟨g, 0 + i * 5 + t, none⟩).isSome = true ∧ w.drew.frozen? ⟨g, 0 + i * 5 + t, none⟩ = false) := fun t ht => by
  rw [hnews] at ht
  refine ⟨?_, ?_⟩
  ·rw [cell_of_row w.drew g _ cur _ (0, 0) hh, Array.getElem?_eq_getElem (by omega)]
   rfl
  ·have hh' : w.drew.heap[g]? = some (.cells cur 101 (0, 0)) := hh
   simp [World.frozen?, hh']
 obtain ⟨W1, hW1⟩ : ∃ W1, W1 = w.drew.setCells g (0 + i * 5) news := ⟨_, rfl⟩
 have hW : Hid (W1 = w.drew.setCells g (0 + i * 5) news) := hW1
 have hput : putL cur.toList (0 + i * 5) news = putL cur.toList (i * 5) news := by rw [Nat.zero_add]
 have hWr : W1 = w.drew.setRow g (putL cur.toList (i * 5) news).toArray := by
  rw [hW1, setCells_row (w := w.drew) hh (by omega) hone, hput]
 have hpl : (putL cur.toList (i * 5) news).length = cur.size := by
  unfold putL
  simp only [List.length_append, List.length_take, List.length_drop, Array.length_toList]
  omega
 have hcl : ∀ ty, (Builtin.clear_ #[99] ty #[.slice (some ⟨g, (i + (n - j)) * 5, none⟩) (n - (i + (n - j))) (cap - (i + (n - j)))]).run Tryz.prog W1 = .ok (.tuple #[]) (W1.setRow g (putL (putL cur.toList (i * 5) news) ((i + (n - j)) * 5) (List.replicate (j - i) zeroVs).flatten).toArray) := by
  intro ty
  have hh1 : W1.heap[g]? = some (.cells (putL cur.toList (i * 5) news).toArray 101 (0, 0)) := by rw [hWr]; exact setRow_heap _ _ _ _ _ _ hh
  have hlen : ((List.replicate (j - i) zeroVs).flatten).length = (j - i) * 5 := by rw [flatten_len (size := 5) (by intro x hx; rw [List.mem_replicate] at hx; rw [hx.2]; rfl), List.length_replicate]
  have hrun := run_storeCells_at (P := Tryz.prog) g ((i + (n - j)) * 5) 101 (List.replicate (j - i) zeroVs).flatten 0 _ W1 hh1 (by rw [hlen, List.size_toArray, hpl]; omega) (by
   intro v hv
   rw [List.mem_flatten] at hv
   obtain ⟨l, hl, hv⟩ := hv
   rw [List.mem_replicate] at hl
   rw [hl.2] at hv
   simp only [zeroVs, List.mem_cons, List.not_mem_nil, or_false] at hv
   rcases hv with rfl | rfl | rfl | rfl | rfl <;> rfl)
  have hzc : (Builtin.zeroCells (Value.agg #[.int .i64 0, .int .i64 0, .string ByteArray.empty, .slice none 0 0, .slice none 0 0]).cells (n - (i + (n - j)))).toList = (List.replicate (j - i) zeroVs).flatten := by
   rw [show n - (i + (n - j)) = j - i by omega, ← made_flatten zeroVs (by decide)]
   simp [Builtin.zeroCells, madeCells, zeroVs, Value.cells]
  obtain ⟨m, hm⟩ : ∃ m, n - (i + (n - j)) = m + 1 := ⟨n - (i + (n - j)) - 1, by omega⟩
  have hrun' : (storeCells ⟨g, (i + (n - j)) * 5, none⟩ (List.replicate (j - i) zeroVs).flatten).run Tryz.prog W1 = .ok () (W1.setRow g (putL (putL cur.toList (i * 5) news) ((i + (n - j)) * 5) (List.replicate (j - i) zeroVs).flatten).toArray) := hrun
  have hz : ∀ w, (zeroValue 101).run Tryz.prog w = .ok (Value.agg #[.int .i64 0, .int .i64 0, .string ByteArray.empty, .slice none 0 0, .slice none 0 0]) w := Tryz.zeroValue101
  rw [← hzc, hm] at hrun'
  rw [← hzc, hm]
  simp [Builtin.clear_, run_underlying Tryz.underlying99, hz, hrun']
 rw [← hWr]
 clear hh hget hW1 hWr hnews hone hpl hput
 go_enter Tryz.func323, Tryz.ntmps323
 go_wp2_with fail
 go_region_law_o (refine step_append_room rfl (.tmp 22) (.tmp 25) 99 rfl 101 i0 5 Tryz.underlying99 hi0 hz1 g 0 i cap (by simp [Act.eval, Act.put]) A (n - j) (cap - j) news (by simp [Act.eval, Act.put]) hnews'.out hsrc.out hone'.out (by omega) hspare.out ?_; rw [← hW.out])
 go_wp2
 go_ret
 exact ⟨rfl, by simp [putL]⟩
theorem AC.of_cons2 {P : Program} {f : FuncId} {es : Nat} {e : TypeId} {rows rows' : List (List C)} {x y : Int} (g : List (List Value) → List (List Value)) (hg : ∀ (w : World) (T : Nat → Prop) (vrows : List (List Value)), CRss w T rows vrows [] → CRss w T rows' (g vrows) [])
  (h : ∀ (w : World) (v : Value) (vrows : List (List Value)), vrows.length = rows.length → (∀ x ∈ vrows, x.length = es) → (∀ x ∈ vrows, ∀ u ∈ x, u.oneCell' = true) → w.ownsRow 0 e es v rows.length vrows.flatten → Calls P f #[v, .int .i64 x, .int .i64 y] w fun e1 w' => w.grownBy w' v.ownBlock ∧ ∃ u, e1 = .returned u ∧ u.ownBlock = v.ownBlock ∧ (∀ x ∈ g vrows, x.length = es) ∧ w'.ownsRow 0 e es u rows'.length (g vrows).flatten) :
  AC P f [.own (0, 0), .c (.int .i64 x), .c (.int .i64 y)] [((0, 0), .row false es e rows)] (.own (1, 0)) [((1, 0), .row false es e rows')] := by
 intro Γ vals hE hA
 obtain ⟨v, vs, rfl, hv, v2, vs2, rfl, ⟨rfl, _⟩, v3, vs3, rfl, ⟨rfl, _⟩, rfl⟩ := hA
 obtain ⟨_, o, ho, hk⟩ := hv
 obtain ⟨_, rfl⟩ := get_one ho
 obtain ⟨vrows, bs, h1, h2, h3, h4, h5, h6⟩ := hE.objs (0, 0) _ rfl
 have hbs := h2 rfl
 subst hbs
 have hkv := hk (by simp)
 rw [← hkv] at h4 h5 h6
 refine (h _ _ _ (CRss.length h1) h3 (fun x hx u hu => CRss.one h1 u (List.mem_flatten.2 ⟨x, hx, hu⟩)) h4).mono ?_
 rintro e1 w' ⟨hgr, u, rfl, hu, g2, g3⟩
 have hob : ∀ b, b < Γ.w.heap.size → Γ.ow b = none → some b ≠ v.ownBlock := by
  intro b _ hb hv
  have := h6 b (by simp [← hv])
  rw [hb] at this
  cases this
 refine ⟨u, fun b => if v.ownBlock = some b then some (1, 0) else none, fun _ => u, rfl, ⟨⟨ownsRow_one g3, _, rfl, fun _ => rfl⟩, ?_, ?_, hgr.os, hgr.tape, hgr.output, hgr.size, ?_, fun i o o' h1 h2 => ?_⟩⟩
 ·intro i o hi
  obtain ⟨rfl, rfl⟩ := get_one hi
  refine ⟨g vrows, [], CRss.keep hgr.size (fun b hb hl => ⟨hgr.block b hl (hob b hl hb.1), ?_⟩) (by simp) (hg _ _ _ h1), fun _ => rfl, g2, g3, ?_, fun b hb => ?_⟩
  ·exact ⟨if_neg fun hv => hob b hl hb.1 hv.symm, hb.2⟩
  ·show (u.ownBlock.toList ++ []).Nodup
   cases u.ownBlock <;> simp
  ·have hb' : b ∈ u.ownBlock.toList ++ [] := hb
   have : v.ownBlock = some b := by rw [← hu]; simpa using hb'
   exact if_pos this
 ·intro b i hbi
  split at hbi
  ·rename_i hv
   refine ⟨Nat.lt_of_lt_of_le (ownsRow_lt h4 hv).2 hgr.size, .row false es e rows', ?_, rfl⟩
   rw [← Option.some.inj hbi]
   rfl
  ·cases hbi
 ·intro b hl hb
  exact ⟨hgr.block b hl (hob b hl hb), if_neg fun hv => hob b hl hb hv.symm⟩
 ·obtain ⟨rfl, _⟩ := get_one h1
  obtain ⟨h3, _⟩ := get_one h2
  cases h3
theorem CRss.erase {w : World} {T : Nat → Prop} : ∀ {rows : List (List C)} {v : List (List Value)} (i : Nat), CRss w T rows v [] → CRss w T (rows.eraseIdx i) (v.eraseIdx i) []
 | [], v, i, h => by simp only [CRss] at h; rw [h.1]; exact ⟨rfl, rfl⟩
 | c :: cs, v, i, h => by
  obtain ⟨u, vs', b1, b2, rfl, hb, h3, h4⟩ := h
  obtain ⟨rfl, rfl⟩ : b1 = [] ∧ b2 = [] := by simpa using hb.symm
  cases i with
  | zero => exact h4
  | succ i => exact ⟨u, vs'.eraseIdx i, [], [], rfl, rfl, h3, CRss.erase i h4⟩
theorem erase_flat {rows : List (List Value)} (i : Nat) : (rows.eraseIdx i).flatten = (rows.take i).flatten ++ (rows.drop (i + 1)).flatten := by
 rw [List.eraseIdx_eq_take_drop_succ, List.flatten_append]
theorem flat_take {rows : List (List Value)} {es : Nat} (hl : ∀ x ∈ rows, x.length = es) {m : Nat} (hm : m ≤ rows.length) : rows.flatten.take (m * es) = (rows.take m).flatten := take_flatten hl hm
theorem flat_drop {rows : List (List Value)} {es : Nat} (hl : ∀ x ∈ rows, x.length = es) {m : Nat} (hm : m ≤ rows.length) : rows.flatten.drop (m * es) = (rows.drop m).flatten := by
 have h := take_flatten hl hm
 have hq : rows.flatten = (rows.take m).flatten ++ (rows.drop m).flatten := by rw [← List.flatten_append, List.take_append_drop]
 rw [hq, List.drop_left']
 rw [flatten_len (fun x hx => hl x (List.mem_of_mem_take hx)), List.length_take, show min m rows.length = m by omega]
theorem deleteVals_ac (l : List V) (i : Nat) (hi : i < l.length) : AC Tryz.prog 323 [.own (0, 0), .c (.int .i64 i), .c (.int .i64 ((i + 1 : Nat) : Int))] [((0, 0), .row false 5 101 (l.map V.cs))] (.own (1, 0)) [((1, 0), .row false 5 101 ((l.eraseIdx i).map V.cs))] := by
 have hmap : (l.eraseIdx i).map V.cs = (l.map V.cs).eraseIdx i := by rw [List.eraseIdx_eq_take_drop_succ, List.eraseIdx_eq_take_drop_succ, List.map_append, List.map_take, List.map_drop]
 rw [hmap]
 refine AC.of_cons2 (fun r => r.eraseIdx i) (fun w T vrows h => h.erase i) fun w v vrows hvl h5 h1 ho => ?_
 have hlm : (l.map V.cs).length = l.length := by simp
 rw [hlm] at ho hvl
 rcases ho.2 with ⟨_, h0⟩ | ⟨g, cap, cur, rfl, hb, hh, hc, hm, hs, ht⟩
 ·omega
 ·have hfl := flatten_len h5
  have hdl : ((vrows.drop (i + 1)).flatten).length = (l.length - (i + 1)) * 5 := by rw [flatten_len (fun x hx => h5 x (List.mem_of_mem_drop hx)), List.length_drop, hvl]
  refine (deleteVals_wp g i (i + 1) l.length cap cur (vrows.drop (i + 1)).flatten w hh hs hdl (fun t u hu => ?_) (fun u hu => ?_) hc (by simp only [maxLen] at hm; omega) (by omega) (by omega)).mono ?_
  ·have hcur : cur.toList.take (l.length * 5) = vrows.flatten := ht
   rw [← flat_drop h5 (by omega), ← hcur, List.getElem?_drop, List.getElem?_take] at hu
   split at hu
   ·simpa using hu
   ·cases hu
  ·obtain ⟨x, hx, hu⟩ := List.mem_flatten.1 hu
   exact h1 x (List.mem_of_mem_drop hx) u hu
  ·rintro e1 w' ⟨rfl, rfl⟩
   have hel : ((l.map V.cs).eraseIdx i).length = l.length - 1 := by rw [List.length_eraseIdx, hlm, if_pos hi]
   have herl : (vrows.eraseIdx i).length = l.length - 1 := by rw [List.length_eraseIdx, hvl, if_pos hi]
   have h5' : ∀ x ∈ vrows.eraseIdx i, x.length = 5 := fun x hx => h5 x (List.mem_of_mem_eraseIdx hx)
   have hn1 : i + (l.length - (i + 1)) = l.length - 1 := by omega
   have hdr : w.drew.heap[g]? = some (.cells cur 101 (0, 0)) := hh
   have hlen1 : (putL cur.toList (i * 5) (vrows.drop (i + 1)).flatten).length = cur.size := by
    unfold putL
    simp only [List.length_append, List.length_take, List.length_drop, Array.length_toList]
    omega
   have hzl : ((List.replicate (i + 1 - i) zeroVs).flatten).length = 5 := by rw [show i + 1 - i = 1 by omega]; rfl
   have hlen2 : (putL (putL cur.toList (i * 5) (vrows.drop (i + 1)).flatten) ((i + (l.length - (i + 1))) * 5) (List.replicate (i + 1 - i) zeroVs).flatten).length = cur.size := by
    unfold putL at hlen1 ⊢
    simp only [List.length_append, List.length_take, List.length_drop] at hlen1 ⊢
    omega
   refine ⟨⟨by simp; rfl, by simp, by simp; rfl, by simp, fun b hb hne => ?_⟩, _, rfl, rfl, h5', by rw [flatten_len h5', herl, hel], .inr ⟨g, cap, _, by rw [hel, hn1], hb, setRow_heap _ _ _ _ _ _ (setRow_heap _ _ _ _ _ _ hdr), by omega, hm, by rw [List.size_toArray, hlen2, hs], ?_⟩⟩
   ·have hne' : b ≠ g := fun e => hne (by rw [e]; rfl)
    rw [setRow_other _ _ _ _ hne', setRow_other _ _ _ _ hne']
    rfl
   ·have htk : (cur.toList.take (i * 5)).length = i * 5 := by rw [List.length_take, Array.length_toList]; omega
    have hq : cur.toList.take (i * 5) = (vrows.take i).flatten := by
     rw [← flat_take h5 (by omega), ← ht, List.take_take, show min (i * 5) (l.length * 5) = i * 5 by omega]
    rw [erase_flat, hel, ← hn1]
    dsimp only
    unfold putL
    have hlA : ((cur.toList.take (i * 5) ++ (vrows.drop (i + 1)).flatten)).length = (i + (l.length - (i + 1))) * 5 := by rw [List.length_append, htk, hdl]; omega
    rw [List.take_left' hlA, List.append_assoc, List.take_left' hlA, hq]
set_option maxRecDepth 10000
theorem fromEnd_bounds {n : Int} {m : Nat} (hn : -1000000000000000 ≤ n ∧ n ≤ 1000000000000000) (hm : m ≤ 1000000) : -1000000000000000 ≤ fromEnd n m ∧ fromEnd n m ≤ 1000001000000000 := by
 unfold fromEnd
 split <;> omega
theorem dropElement_ac {v : V} (hv : v.right) (n : Int) (hn : -1000000000000000 ≤ n ∧ n ≤ 1000000000000000) : AC Tryz.prog 268 [v.av, .c (.int .i64 n)] [] (resA (dropIdxV v n)) [] := by
 have hkl := kids_len_le hv.2.1
 have hcv := cloneVals_ac v.kids (by omega)
 have hsz := sizeVals_ac v.kids
 have hcn := counted_ac n v.kids.length hn (by omega)
 unfold dropIdxV
 by_cases h0 : v.kind = 0
 ·have hb : (v.kind == 0) = true := by simpa using h0
  rw [if_pos h0, resA_ok]
  refine wEnter Tryz.func268 Tryz.ntmps268 ?_
  refine wRUN hb ?_
  refine w7 (op_data [] null_ac) trivial ?_
  refine w7 (op_data [] (gives_ac right_null)) trivial ?_
  refine wRUN trivial ?_
  exact wRet (ret_data []) Tryz.results268
 ·have hb : (v.kind == 0) = false := by simpa using h0
  rw [if_neg h0]
  by_cases h5 : v.kind = 5
  ·have hb5 : (v.kind == 5) = true := by simpa using h5
   rw [if_pos h5, resA_ok]
   have hfb := fromEnd_bounds hn (show v.kids.length ≤ 1000000 by omega)
   have hright := dropIdx_right hv (fromEnd n v.kids.length)
   obtain ⟨m, hm⟩ : ∃ m, fromEnd n v.kids.length = m := ⟨_, rfl⟩
   rw [hm] at hcn hfb hright ⊢
   have hws : IntKind.i64.wrap ((v.kids.length : Int) - 1) = (v.kids.length : Int) - 1 := IntWalk.i64_in _ (by omega)
   have hwi := within_ac m 0 ((v.kids.length : Int) - 1)
   have hg := gives_ac hright
   have hay := array_ac (dropAt v.kids m)
   by_cases hin : 0 ≤ m ∧ m < v.kids.length
   ·have hbt : (decide (m ≥ 0) && decide (m ≤ (v.kids.length : Int) - 1)) = true := by simp; omega
    rw [hbt] at hwi
    obtain ⟨i, rfl⟩ : ∃ i : Nat, m = i := ⟨m.toNat, by omega⟩
    have hi : i < v.kids.length := by omega
    have hda : dropAt v.kids (i : Int) = v.kids.eraseIdx i := by unfold dropAt; rw [if_pos hin, Int.toNat_natCast]
    rw [hda] at hg hay ⊢
    have hdel := deleteVals_ac v.kids i hi
    have hw := wrap_succ (k := i) (by omega)
    generalize v.kids.eraseIdx i = R at *
    generalize arrV R = ar at *
    refine wEnter Tryz.func268 Tryz.ntmps268 ?_
    refine wRUN (j2 hb hb5) ?_
    refine w12 (op_rowF [] hcv) trivial ?_
    refine wRUN trivial ?_
    refine w7 (op_data [(17, 0)] hsz) trivial ?_
    refine w7 (op_data [] hcn) trivial ?_
    refine wRUN trivial ?_
    refine w7 (op_data [(17, 0)] hsz) trivial ?_
    refine wRUN hws ?_
    refine w7 (op_data [] hwi) trivial ?_
    refine wRUN hw ?_
    refine w10 (op_cons (17, 0) hdel) trivial ?_
    refine wRUN trivial ?_
    refine w9 (op_shared [(31, 0)] hay) trivial ?_
    refine w9 (op_shared [] hg) trivial ?_
    refine wRUN trivial ?_
    exact wRet (ret_data []) Tryz.results268
   ·have hbt : (decide (m ≥ 0) && decide (m ≤ (v.kids.length : Int) - 1)) = false := by simp; omega
    rw [hbt] at hwi
    have hda : dropAt v.kids m = v.kids := by unfold dropAt; rw [if_neg hin]
    rw [hda] at hg hay ⊢
    generalize arrV v.kids = ar at *
    refine wEnter Tryz.func268 Tryz.ntmps268 ?_
    refine wRUN (j2 hb hb5) ?_
    refine w12 (op_rowF [] hcv) trivial ?_
    refine wRUN trivial ?_
    refine w7 (op_data [(17, 0)] hsz) trivial ?_
    refine w7 (op_data [] hcn) trivial ?_
    refine wRUN trivial ?_
    refine w7 (op_data [(17, 0)] hsz) trivial ?_
    refine wRUN hws ?_
    refine w7 (op_data [] hwi) trivial ?_
    refine wRUN trivial ?_
    refine w9 (op_shared [(17, 0)] hay) trivial ?_
    refine w9 (op_shared [] hg) trivial ?_
    refine wRUN trivial ?_
    exact wRet (ret_data []) Tryz.results268
  ·have hb5 : (v.kind == 5) = false := by simpa using h5
   rw [if_neg h5, resA_bad]
   refine wEnter Tryz.func268 Tryz.ntmps268 ?_
   refine wRUN (j2 hb hb5) ?_
   refine w7 (op_data [] (refuses_ac 6)) trivial ?_
   refine wRUN trivial ?_
   exact wRet (ret_data []) Tryz.results268
theorem dropPath_ac : ∀ (P : List V), P.length ≤ 1000000 → (∀ k ∈ P, k.right ∧ (k.kind = 3 ∨ k.kind = 4)) → ∀ (v : V), v.right → AC Tryz.prog 161 [v.av, valsA P] [] (resA (dropPathV P v)) []
 | [], _, _, v, hv => by
  have hz0 : ((0 : Int) == 0) = true := rfl
  have hz1 : (((0 : Nat) : Int) == 0) = true := rfl
  show AC _ _ _ _ (resA (okR nullV)) _
  rw [resA_ok]
  refine wEnter Tryz.func161 Tryz.ntmps161 ?_
  refine wRUN (j2 hz0 hz1) ?_
  refine w7 (op_data [] null_ac) trivial ?_
  refine w7 (op_data [] (gives_ac right_null)) trivial ?_
  refine wRUN trivial ?_
  exact wRet (ret_data []) Tryz.results161
 | [k], _, hp, v, hv => by
  obtain ⟨hk, hkk⟩ := hp k (by simp)
  have h10 : ((1 : Int) == 0) = false := rfl
  have h11 : ((1 : Int) == 1) = true := rfl
  have h20 : (((1 : Nat) : Int) == 0) = false := rfl
  have h21 : (((1 : Nat) : Int) == 1) = true := rfl
  have hP1 : rowsAt ([k].map V.cs) 5 0 = true := by simp [rowsAt, V.cs_eq]
  have hP2 : ([k].map V.cs)[0]? = some [.int .i64 k.kind, .int .i64 k.num, .str k.text, .sl (k.keys.map strCs), .sl (k.kids.map V.cs)] := by simp [V.cs_eq]
  have hPl : ([k].map V.cs).length = 1 := rfl
  unfold dropPathV
  generalize [k].map V.cs = P at *
  by_cases h4 : k.kind = 4
  ·have hb4 : (k.kind == 4) = true := by simpa using h4
   have hd := dropKey_ac hv k.text (right_text hk)
   rw [if_pos h4]
   generalize dropKeyV v k.text = r at *
   rcases r with ⟨c, _ | u⟩
   all_goals
    simp only [resA_some, resA_none] at hd ⊢
    refine wEnter Tryz.func161 Tryz.ntmps161 ?_
    refine wRUN (j8 hPl h10 h11 h20 h21 hP1 hP2 hb4) ?_
    refine w9 (op_shared [] hd) trivial ?_
    refine wRUN trivial ?_
    exact wRet (ret_data []) Tryz.results161
  ·have hb4 : (k.kind == 4) = false := by simpa using h4
   have hd := dropElement_ac hv k.num (right_num hk)
   rw [if_neg h4]
   generalize dropIdxV v k.num = r at *
   rcases r with ⟨c, _ | u⟩
   all_goals
    simp only [resA_some, resA_none] at hd ⊢
    refine wEnter Tryz.func161 Tryz.ntmps161 ?_
    refine wRUN (j8 hPl h10 h11 h20 h21 hP1 hP2 hb4) ?_
    refine w9 (op_shared [] hd) trivial ?_
    refine wRUN trivial ?_
    exact wRet (ret_data []) Tryz.results161
 | k :: k' :: p, hl, hp, v, hv => by
  have hpl : (k' :: p).length ≤ 1000000 := by simp only [List.length_cons] at hl ⊢; omega
  have hpp : ∀ y ∈ k' :: p, y.right ∧ (y.kind = 3 ∨ y.kind = 4) := fun y hy => hp y (by simp only [List.mem_cons] at hy ⊢; exact .inr hy)
  obtain ⟨hk, hkk⟩ := hp k (by simp)
  have ih := dropPath_ac (k' :: p) hpl hpp
  have ok := dropPath_ok (k' :: p) hpp
  have hP1 : rowsAt ((k :: k' :: p).map V.cs) 5 0 = true := by simp [rowsAt, V.cs_eq]
  have hP2 : ((k :: k' :: p).map V.cs)[0]? = some [.int .i64 k.kind, .int .i64 k.num, .str k.text, .sl (k.keys.map strCs), .sl (k.kids.map V.cs)] := by simp [V.cs_eq]
  have hP3 : 1 ≤ (k :: k' :: p).length := by simp
  have hP4 : (((k :: k' :: p).map V.cs).take (k :: k' :: p).length).drop 1 = (k' :: p).map V.cs := by
   rw [List.take_of_length_le (by rw [List.length_map]; exact Nat.le_refl _)]
   rfl
  have hP7 : ((k :: k' :: p).map V.cs).take 1 = [k].map V.cs := rfl
  have hP5 : (((k :: k' :: p).length : Int) == 0) = false := by simp; omega
  have hP6 : (((k :: k' :: p).length : Int) == 1) = false := by simp; omega
  have hga := getAt_ac hv hk
  have hgo := getAt_ok hv k
  have hsp := fun {r : V} (hr : r.right) => setPath_ac (x := r) hr [k] (by simp) (fun y hy => by rw [List.mem_singleton] at hy; rw [hy]; exact ⟨hk, hkk⟩) v hv
  have hgv := gives_ac hv
  unfold dropPathV
  generalize k' :: p = p' at *
  generalize [k] = kk at *
  generalize hPP : k :: p' = P at *
  have hPl : (P.map V.cs).length = P.length := by simp
  have hPa := all_trees P
  have h01 : cutB 0 (some (AV.c (C.int IntKind.i64 1))) = some 1 := rfl
  have h02 : cutB P.length (some (AV.c (C.int IntKind.i64 1))) = some 1 := rfl
  have h00 : ((0 : Int) != 0) = false := rfl
  generalize getAtV v k = g at *
  rcases g with ⟨c, _ | w⟩
  ·have hc : (c != 0) = true := by simpa using (show c ≠ 0 from hgo)
   simp only [resA_none] at hga ⊢
   refine wEnter Tryz.func161 Tryz.ntmps161 ?_
   refine wRUN (j5 hPl hP5 hP6 hP1 hP2) ?_
   refine w9 (op_shared [] hga) trivial ?_
   refine wRUN hc ?_
   exact wRet (ret_data []) Tryz.results161
  ·have hw : w.right := hgo.2
   have hih := ih w hw
   have hok2 := ok w hw
   dsimp only
   simp only [resA_some] at hga
   by_cases hw0 : w.kind = 0
   ·have hbw : (w.kind == 0) = true := by simpa using hw0
    rw [if_pos hw0, resA_ok]
    refine wEnter Tryz.func161 Tryz.ntmps161 ?_
    refine wRUN (j5 hPl hP5 hP6 hP1 hP2) ?_
    refine w9 (op_shared [] hga) trivial ?_
    refine wRUN (j2 h00 hbw) ?_
    refine w9 (op_shared [] hgv) trivial ?_
    refine wRUN trivial ?_
    exact wRet (ret_data []) Tryz.results161
   ·have hbw : (w.kind == 0) = false := by simpa using hw0
    rw [if_neg hw0]
    generalize dropPathV p' w = q at *
    rcases q with ⟨c, _ | u⟩
    ·have hc : (c != 0) = true := by simpa using (show c ≠ 0 from hok2)
     simp only [resA_none] at hih ⊢
     refine wEnter Tryz.func161 Tryz.ntmps161 ?_
     refine wRUN (j5 hPl hP5 hP6 hP1 hP2) ?_
     refine w9 (op_shared [] hga) trivial ?_
     refine wRUN (j8 h00 hbw hPl hP3 hP4 h01 hPa @Nat.le_refl) ?_
     refine w9 (op_shared [] hih) trivial ?_
     refine wRUN hc ?_
     exact wRet (ret_data []) Tryz.results161
    ·have hsk := hsp hok2.2
     dsimp only
     simp only [resA_some] at hih
     generalize setPathV u kk v = z at *
     rcases z with ⟨c, _ | y⟩
     all_goals
      simp only [resA_some, resA_none] at hsk ⊢
      refine wEnter Tryz.func161 Tryz.ntmps161 ?_
      refine wRUN (j5 hPl hP5 hP6 hP1 hP2) ?_
      refine w9 (op_shared [] hga) trivial ?_
      refine wRUN (j8 h00 hbw hPl hP3 hP4 h01 hPa @Nat.le_refl) ?_
      refine w9 (op_shared [] hih) trivial ?_
      refine wRUN (j6 h00 hPl hP3 hP7 h02 hPa) ?_
      refine w9 (op_shared [] hsk) trivial ?_
      refine wRUN trivial ?_
      exact wRet (ret_data []) Tryz.results161
set_option maxRecDepth 10000
theorem erase_grow (l : List V) (m : Int) : ∃ F : Nat → List V, F 0 = [] ∧ (∀ k, (F k).length ≤ k) ∧ F l.length = dropAt l m ∧ ∀ k (h : k < l.length), F (k + 1) = F k ++ (if ((k : Int) != m) = true then [l[k]] else []) := by
 obtain ⟨F, hF⟩ : ∃ F : Nat → List V, ∀ k, F k = (List.range k).filterMap fun (i : Nat) => if ((i : Int) != m) = true then l[i]? else none := ⟨_, fun _ => rfl⟩
 have hs : ∀ k (h : k < l.length), F (k + 1) = F k ++ (if ((k : Int) != m) = true then [l[k]] else []) := fun k h => by
  rw [hF, hF, List.range_succ, List.filterMap_append]
  congr 1
  rw [List.filterMap_cons, List.filterMap_nil, List.getElem?_eq_getElem h]
  cases (k : Int) != m <;> rfl
 have hn : ∀ k, k ≤ l.length → F k = (if 0 ≤ m ∧ m < (k : Int) then (l.take k).eraseIdx m.toNat else l.take k) := by
  intro k
  induction k with
  | zero => intro _; rw [hF]; split <;> simp
  | succ k ih =>
   intro hk
   rw [hs k (by omega), ih (by omega), List.take_succ_eq_append_getElem (show k < l.length by omega)]
   have htl : (l.take k).length = k := by rw [List.length_take]; omega
   by_cases hm : (k : Int) = m
   ·have hb : ((k : Int) != m) = false := by simpa using hm
    rw [hb]
    simp only [if_neg (show ¬ (0 ≤ m ∧ m < (k : Int)) by omega), if_pos (show 0 ≤ m ∧ m < ((k + 1 : Nat) : Int) by omega), Bool.false_eq_true, if_false]
    rw [← hm, Int.toNat_natCast, List.eraseIdx_append_of_length_le (by omega), htl, Nat.sub_self]
    simp
   ·have hb : ((k : Int) != m) = true := by simpa using hm
    rw [hb]
    by_cases hm2 : 0 ≤ m ∧ m < (k : Int)
    ·simp only [if_pos hm2, if_pos (show 0 ≤ m ∧ m < ((k + 1 : Nat) : Int) by omega), if_true]
     rw [List.eraseIdx_append_of_lt_length (by omega)]
    ·simp only [if_neg hm2, if_neg (show ¬ (0 ≤ m ∧ m < ((k + 1 : Nat) : Int)) by omega), if_true]
 refine ⟨F, by rw [hF]; rfl, fun k => ?_, ?_, hs⟩
 ·rw [hF]
  exact Nat.le_trans (List.length_filterMap_le _ _) (by rw [List.length_range]; exact Nat.le_refl _)
 ·rw [hn _ (Nat.le_refl _), List.take_length]
  rfl
theorem arrDrop_count {v : V} (h : v.right) (m : Int) : (arrV (dropAt v.kids m)).count ≤ 200 := (dropIdx_right h m).2.1
theorem l13DropIndex_ac {v : V} (hv : v.right) (n : Int) (hn : -1000000000000000 ≤ n ∧ n ≤ 1000000000000000) : AC Tryz.prog 171 [cellsA v.enc, .c (.int .i64 n)] [] (vrA (dropIdxV v n)) [] := by
 have hkl := kids_len_le hv.2.1
 have hcn := l13Index_ac n v.kids.length hn (by omega)
 have hr0 := enc_rows v
 have hg0 := enc_head v
 unfold dropIdxV
 by_cases h0 : v.kind = 0
 ·have hb : (v.kind == 0) = true := by simpa using h0
  have hl3 := l3NullS_ac
  rw [if_pos h0, vrA_ok]
  generalize nullV.enc.map CellD.cs = nc at *
  refine wEnter Tryz.func171 Tryz.ntmps171 ?_
  refine wRUN (j3 hr0 hg0 hb) ?_
  refine w9 (op_shared [] hl3) trivial ?_
  refine wRUN trivial ?_
  exact wRet (ret_data []) Tryz.results171
 ·have hb : (v.kind == 0) = false := by simpa using h0
  rw [if_neg h0]
  by_cases h5 : v.kind = 5
  ·have hb5 : (v.kind != 5) = false := by simpa using h5
   rw [if_pos h5, vrA_ok]
   have hpO := l1Parts_ac hv.1 hv.2.1
   obtain ⟨m, hm⟩ : ∃ m, fromEnd n v.kids.length = m := ⟨_, rfl⟩
   rw [hm] at hcn ⊢
   have hac := arrDrop_count hv m
   obtain ⟨F, hF0, hFl, hFn, hFs⟩ := erase_grow v.kids m
   have hay := l1ArrayS_ac (dropAt v.kids m) (by omega)
   rw [← hFn] at hay hac ⊢
   have hlm : ((v.kids.map V.enc).map encCs).length = v.kids.length := by simp
   generalize arrV (F v.kids.length) = ar at *
   refine wEnter Tryz.func171 Tryz.ntmps171 ?_
   refine wRUN (j4 hr0 hg0 hb hb5) ?_
   refine w9 (op_shared [] hpO) trivial ?_
   refine wRUN hlm ?_
   refine w7 (op_data [] hcn) trivial ?_
   refine wRUN trivial ?_
   refine a_loop (κ := Nat) (fun k => ⟨mkS 0 47 [(1, .c (.int .i64 m)), (4, .ptr (4, 0) 0), (5, .c (.sl ((v.kids.map V.enc).map encCs))), (6, .own (97, 0)), (7, .c (.int .i64 k))],
     [((4, 0), .box [.c (.int .i64 0), .nils]), ((97, 0), .row false 1 24 (((F k).map V.enc).map encCs))]⟩)
    (fun k => k ≤ v.kids.length) (fun k => v.kids.length - k) 0 (Nat.zero_le _) ?_ ?_
   ·exact wSays (Says.of [((4, 0), (4, 0)), ((97, 0), (27, 0))] []) (j2 hF0 @List.map_nil.{0,0})
   ·intro k hk
    by_cases hlt : k < v.kids.length
    ·have hdk : decide ((k : Int) < (v.kids.length : Int)) = true := by simpa using hlt
     have hw := wrap_succ (k := k) (by omega)
     have hr2 : rowsAt ((v.kids.map V.enc).map encCs) 1 k = true := by simp [rowsAt, hlt, encCs]
     have hg2 : ((v.kids.map V.enc).map encCs)[k]? = some [.sl (v.kids[k].enc.map CellD.cs)] := by simp [hlt, encCs]
     have hl1 : (F k).length + 1 ≤ 1000000 := by have := hFl k; omega
     have hFk := hFs k hlt
     have e1 : F (k + 1) = F k ++ [v.kids[k]] → ((F k).map V.enc).map encCs ++ [[C.sl (v.kids[k].enc.map CellD.cs)]] = ((F (k + 1)).map V.enc).map encCs := fun h => by rw [h, List.map_append, List.map_append]; rfl
     generalize v.kids[k] = u at *
     cases hc : (k : Int) != m with
     | false =>
      rw [hc] at hFk
      have e := hFk
      simp only [Bool.false_eq_true, if_false, List.append_nil] at e
      refine wRUN (j4 hlm hdk hc hw) ?_
      refine ⟨k + 1, by omega, by omega, ?_⟩
      exact wSays (Says.of [((4, 0), (4, 0)), ((97, 0), (97, 0))] []) e
     | true =>
      rw [hc] at hFk
      have e := hFk
      simp only [if_true] at e
      have e1 := e1 e
      refine wRUN (j7 hlm hdk hr2 hg2 hc hl1 hw) ?_
      refine ⟨k + 1, by omega, by omega, ?_⟩
      exact wSays (Says.of [((4, 0), (4, 0)), ((97, 0), (43, 0))] []) e1
    ·have hdk : decide ((k : Int) < (v.kids.length : Int)) = false := by simpa using hlt
     have hke : k = v.kids.length := by omega
     rw [hke]
     rw [hke] at hdk
     refine wRUN (j2 hlm hdk) ?_
     refine w9 (op_shared [(97, 0)] hay) trivial ?_
     refine wRUN trivial ?_
     exact wRet (ret_data []) Tryz.results171
  ·have hb5 : (v.kind != 5) = true := by simpa using h5
   rw [if_neg h5, vrA_bad]
   refine wEnter Tryz.func171 Tryz.ntmps171 ?_
   refine wRUN (j4 hr0 hg0 hb hb5) ?_
   refine w7 (op_data [] (l3Bad_ac 6)) trivial ?_
   refine wRUN trivial ?_
   exact wRet (ret_data []) Tryz.results171
theorem l13Drop_ac : ∀ (P : List V), P.length ≤ 1000000 → (∀ k ∈ P, k.right ∧ (k.kind = 3 ∨ k.kind = 4)) → ∀ (v : V), v.right → AC Tryz.prog 85 [cellsA v.enc, .c (.sl ((P.map V.enc).map encCs))] [] (vrA (dropPathV P v)) []
 | [], _, _, v, hv => by
  have hz0 : ((0 : Int) == 0) = true := rfl
  have hz1 : (((0 : Nat) : Int) == 0) = true := rfl
  have hl3 := l3NullS_ac
  show AC _ _ _ _ (vrA (okR nullV)) _
  rw [vrA_ok]
  generalize nullV.enc.map CellD.cs = nc at *
  refine wEnter Tryz.func85 Tryz.ntmps85 ?_
  refine wRUN (j2 hz0 hz1) ?_
  refine w9 (op_shared [] hl3) trivial ?_
  refine wRUN trivial ?_
  exact wRet (ret_data []) Tryz.results85
 | [k], _, hp, v, hv => by
  obtain ⟨hk, hkk⟩ := hp k (by simp)
  have h10 : ((1 : Int) == 0) = false := rfl
  have h11 : ((1 : Int) == 1) = true := rfl
  have h20 : (((1 : Nat) : Int) == 0) = false := rfl
  have h21 : (((1 : Nat) : Int) == 1) = true := rfl
  have hP1 : rowsAt (([k].map V.enc).map encCs) 1 0 = true := by simp [rowsAt, encCs]
  have hP2 : (([k].map V.enc).map encCs)[0]? = some [.sl (k.enc.map CellD.cs)] := rfl
  have hPl : (([k].map V.enc).map encCs).length = 1 := rfl
  have hkr := enc_rows k
  have hkg := enc_head k
  unfold dropPathV
  generalize ([k].map V.enc).map encCs = P at *
  by_cases h4 : k.kind = 4
  ·have hb3 : (k.kind == 3) = false := by simp [h4]
   have hd := specDropKey_ac hv k.text (right_text hk)
   rw [if_pos h4]
   generalize dropKeyV v k.text = r at *
   rcases r with ⟨c, _ | u⟩
   all_goals
    simp only [vrA_some, vrA_none] at hd ⊢
    refine wEnter Tryz.func85 Tryz.ntmps85 ?_
    refine wRUN (j10 hPl h10 h11 h20 h21 hP1 hP2 hkr hkg hb3) ?_
    refine w9 (op_shared [] hd) trivial ?_
    refine wRUN trivial ?_
    exact wRet (ret_data []) Tryz.results85
  ·have hb3 : (k.kind == 3) = true := by simp; omega
   have hd := l13DropIndex_ac hv k.num (right_num hk)
   rw [if_neg h4]
   generalize dropIdxV v k.num = r at *
   rcases r with ⟨c, _ | u⟩
   all_goals
    simp only [vrA_some, vrA_none] at hd ⊢
    refine wEnter Tryz.func85 Tryz.ntmps85 ?_
    refine wRUN (j10 hPl h10 h11 h20 h21 hP1 hP2 hkr hkg hb3) ?_
    refine w9 (op_shared [] hd) trivial ?_
    refine wRUN trivial ?_
    exact wRet (ret_data []) Tryz.results85
 | k :: k' :: p, hl, hp, v, hv => by
  have hpl : (k' :: p).length ≤ 1000000 := by simp only [List.length_cons] at hl ⊢; omega
  have hpp : ∀ y ∈ k' :: p, y.right ∧ (y.kind = 3 ∨ y.kind = 4) := fun y hy => hp y (by simp only [List.mem_cons] at hy ⊢; exact .inr hy)
  obtain ⟨hk, hkk⟩ := hp k (by simp)
  have ih := l13Drop_ac (k' :: p) hpl hpp
  have ok := dropPath_ok (k' :: p) hpp
  have hP1 : rowsAt (((k :: k' :: p).map V.enc).map encCs) 1 0 = true := by simp [rowsAt, encCs]
  have hP2 : (((k :: k' :: p).map V.enc).map encCs)[0]? = some [.sl (k.enc.map CellD.cs)] := rfl
  have hP3 : 1 ≤ (k :: k' :: p).length := by simp
  have hP4 : ((((k :: k' :: p).map V.enc).map encCs).take (k :: k' :: p).length).drop 1 = ((k' :: p).map V.enc).map encCs := by
   rw [List.take_of_length_le (by rw [List.length_map, List.length_map]; exact Nat.le_refl _)]
   rfl
  have hP7 : (((k :: k' :: p).map V.enc).map encCs).take 1 = ([k].map V.enc).map encCs := rfl
  have hP5 : (((k :: k' :: p).length : Int) == 0) = false := by simp; omega
  have hP6 : (((k :: k' :: p).length : Int) == 1) = false := by simp; omega
  have hga := l3At_ac hv hk
  have hgo := getAt_ok hv k
  have hsp := fun {r : V} (hr : r.right) => l13Set_ac (x := r) hr [k] (by simp) (fun y hy => by rw [List.mem_singleton] at hy; rw [hy]; exact ⟨hk, hkk⟩) v hv
  have hkr := enc_rows k
  have hkg := enc_head k
  have hel := enc_len v
  have hvc := hv.2.1
  have hall := all_cells v.enc
  have hb0 : 0 + v.enc.length ≤ 1000000 := by omega
  unfold dropPathV
  generalize k' :: p = p' at *
  generalize [k] = kk at *
  generalize hPP : k :: p' = P at *
  have hPl : ((P.map V.enc).map encCs).length = P.length := by simp
  have hPa := all_encs (P.map V.enc)
  have h01 : cutB 0 (some (AV.c (C.int IntKind.i64 1))) = some 1 := rfl
  have h02 : cutB P.length (some (AV.c (C.int IntKind.i64 1))) = some 1 := rfl
  have h00 : ((0 : Int) != 0) = false := rfl
  generalize getAtV v k = g at *
  rcases g with ⟨c, _ | w⟩
  ·have hc : (c != 0) = true := by simpa using (show c ≠ 0 from hgo)
   simp only [vrA_none] at hga ⊢
   refine wEnter Tryz.func85 Tryz.ntmps85 ?_
   refine wRUN (j7 hPl hP5 hP6 hP1 hP2 hkr hkg) ?_
   refine w9 (op_shared [] hga) trivial ?_
   refine wRUN hc ?_
   exact wRet (ret_data []) Tryz.results85
  ·have hw : w.right := hgo.2
   have hih := ih w hw
   have hok2 := ok w hw
   have hwr := enc_rows w
   have hwg := enc_head w
   dsimp only
   simp only [vrA_some] at hga
   by_cases hw0 : w.kind = 0
   ·have hbw : (w.kind == 0) = true := by simpa using hw0
    rw [if_pos hw0, vrA_ok]
    refine wEnter Tryz.func85 Tryz.ntmps85 ?_
    refine wRUN (j7 hPl hP5 hP6 hP1 hP2 hkr hkg) ?_
    refine w9 (op_shared [] hga) trivial ?_
    refine wRUN (j6 h00 hwr hwg hbw hall hb0) ?_
    exact wRetOf (ret_of [] [(49, 0)]) Tryz.results85 hel
   ·have hbw : (w.kind == 0) = false := by simpa using hw0
    rw [if_neg hw0]
    generalize dropPathV p' w = q at *
    rcases q with ⟨c, _ | u⟩
    ·have hc : (c != 0) = true := by simpa using (show c ≠ 0 from hok2)
     simp only [vrA_none] at hih ⊢
     refine wEnter Tryz.func85 Tryz.ntmps85 ?_
     refine wRUN (j7 hPl hP5 hP6 hP1 hP2 hkr hkg) ?_
     refine w9 (op_shared [] hga) trivial ?_
     refine wRUN (j10 h00 hwr hwg hbw hPl hP3 hP4 h01 hPa @Nat.le_refl) ?_
     refine w9 (op_shared [] hih) trivial ?_
     refine wRUN hc ?_
     exact wRet (ret_data []) Tryz.results85
    ·have hsk := hsp hok2.2
     dsimp only
     simp only [vrA_some] at hih
     generalize setPathV u kk v = z at *
     rcases z with ⟨c, _ | y⟩
     all_goals
      simp only [vrA_some, vrA_none] at hsk ⊢
      refine wEnter Tryz.func85 Tryz.ntmps85 ?_
      refine wRUN (j7 hPl hP5 hP6 hP1 hP2 hkr hkg) ?_
      refine w9 (op_shared [] hga) trivial ?_
      refine wRUN (j10 h00 hwr hwg hbw hPl hP3 hP4 h01 hPa @Nat.le_refl) ?_
      refine w9 (op_shared [] hih) trivial ?_
      refine wRUN (j6 h00 hPl hP3 hP7 h02 hPa) ?_
      refine w9 (op_shared [] hsk) trivial ?_
      refine wRUN trivial ?_
      exact wRet (ret_data []) Tryz.results85
end Go.Proofs.YtamgeodhpglgkaaGreat
