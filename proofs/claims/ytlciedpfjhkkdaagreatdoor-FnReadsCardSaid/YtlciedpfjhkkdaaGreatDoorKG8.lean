/- Texts of this proof: G46 G47. -/
import Derived.Test.YtlciedpfjhkkdaaGreatDoorKG06uS02
import Derived.Shelf.SortM.Plain
import Derived.Shelf.SortM.SortNone
import Derived.Sort.OwnSorted
set_option linter.all false
set_option maxHeartbeats 8000000
namespace Go.Proofs.YtlciedpfjhkkdaaGreatDoor
section
open Go.RowKit Go.Sort
set_option maxRecDepth 10000
theorem le_less (x y:List UInt8):decide (x≤y) = !Op.bytesLess y x:=by
 rw[bytesLess_eq]
 by_cases h:y<x
 ·have:¬x≤y:=fun h2=>h2 h
  simp[h,this]
 ·have:x≤y:=h
  simp[h,this]
theorem sortB_mem (l:List ByteArray) (x:ByteArray):x∈sortB l↔x∈l:=by
 unfold sortB
 rw[List.mem_map]
 constructor
 ·rintro⟨y,hy,rfl⟩
  obtain⟨b,hb,rfl⟩:=List.mem_map.1 ((List.mergeSort_perm _ _).mem_iff.1 hy)
  exact hb
 ·intro h
  exact⟨x.data.toList,(List.mergeSort_perm _ _).mem_iff.2 (List.mem_map.2 ⟨x,h,rfl⟩),rfl⟩
theorem sortB_len (l:List ByteArray):(sortB l).length=l.length:=by
 unfold sortB
 rw[List.length_map,(List.mergeSort_perm _ _).length_eq,List.length_map]
theorem sortB_up {l:List ByteArray}(hn:l.Nodup):Up (sortB l):=by
 unfold Up sortB
 rw[List.pairwise_map]
 have hs:=List.pairwise_mergeSort (le:=fun x y:List UInt8=>decide (x≤y)) (fun a b c h1 h2=>by
  rw[le_less]at h1 h2 ⊢
  cases h3:Op.bytesLess c a with
  |false=>rfl
  |true =>
   rcases bytesLess_tri a b with h | h | h
   ·rw[bytesLess_trans h3 h]at h2;exact h2
   ·subst h;rw[h3]at h2;exact h2
   ·rw[h]at h1;exact h1) (fun a b=>by
  rw[le_less,le_less]
  rcases bytesLess_tri a b with h | h | h
  ·have:Op.bytesLess b a=false:=by
    cases h2:Op.bytesLess b a with
    |false=>rfl
    |true=>have:=bytesLess_trans h h2;rw[bytesLess_irrefl]at this;cases this
   simp[this]
  ·subst h;simp[bytesLess_irrefl]
  ·have:Op.bytesLess a b=false:=by
    cases h2:Op.bytesLess a b with
    |false=>rfl
    |true=>have:=bytesLess_trans h h2;rw[bytesLess_irrefl]at this;cases this
   simp[this]) (l.map fun b=>b.data.toList)
 have hnd:((l.map fun b=>b.data.toList).mergeSort fun x y=>decide (x≤y)).Nodup:=by
  refine (List.mergeSort_perm _ _).nodup_iff.2 ?_
  refine List.pairwise_map.2 (hn.imp fun {a b} h e=>h ?_)
  exact ByteArray_toList_inj (by rw[ByteArray.toList_eq,ByteArray.toList_eq];exact e)
 refine (hs.and hnd).imp fun {a b} h=>?_
 rw[le_less]at h
 unfold lessB
 rw[ByteArray.toList_eq,ByteArray.toList_eq]
 rcases bytesLess_tri a b with g | g | g
 ·exact g
 ·exact absurd g h.2
 ·rw[g]at h;exact absurd h.1 (by simp)
theorem sortB_keys {vis keys:List ByteArray}(hn:vis.Nodup) (h:∀x,x∈vis↔x∈keys):sortB vis=objKeys keys:=up_eq (sortB_up hn) (objKeys_up keys) fun x=>by rw[sortB_mem,objKeys_mem];exact h x
theorem crss_strs {w:World}{S:Nat→Prop}{l:List ByteArray}{vs:List (List Value)}{bs:List Nat}:CRss w S (l.map strCs) vs bs↔vs=l.map (fun x=>[Value.string x])∧bs=[]:=crss_map crs_str
theorem rows_oneS (l:List ByteArray):∀x∈l.map (fun x=>[Value.string x]),x.length=1:=fun x hx=>by
 obtain⟨y,_,rfl⟩:=List.mem_map.1 hx
 rfl
theorem flat_strs (l:List ByteArray):(l.map fun x=>[Value.string x]).flatten=(l.map fun b=>b.data.toList).map encStr:=by
 induction l with
 |nil=>rfl
 |cons x l ih=>simp only[List.map_cons,List.flatten_cons,ih,List.singleton_append]
theorem closed_strs (l:List ByteArray):closedLL (l.map strCs)=true:=by
 induction l with
 |nil=>rfl
 |cons x l ih=>simp only[List.map_cons,closedLL,ih,Bool.and_true];rfl
attribute [go_sem] closed_strs
theorem sortStrs_ac (l:List ByteArray) (hl:l.length≤1000000):AC Tryz.prog 185 [.own (0,0)] [((0,0),.row false 1 9 (l.map strCs))] (.tup []) [((0,0),.row false 1 9 ((sortB l).map strCs))]:=by
 refine AC.of_mut (closed_strs _) fun S w v vrows h1 h2 h3=>?_
 obtain⟨rfl,_⟩:=crss_strs.1 h1
 rw[flat_strs,List.length_map]at h3
 have hsl:=sortB_len l
 have hll:(l.map fun b=>b.data.toList).length=l.length:=by simp
 rcases h3.2 with⟨rfl,h0⟩ | ⟨g,cap,cur,rfl,hb,hg,hc,hm,hs,ht⟩
 ·have hl0:l=[]:=List.eq_nil_of_length_eq_zero h0
  subst hl0
  have e0:sortB []=[]:=by simp[sortB]
  rw[e0]
  refine (AnyM.slices_Sort_string_none sortS_lays none 0 w).mono ?_
  rintro e1 w' ⟨rfl,rfl⟩
  exact⟨rfl,⟨rfl,rfl,rfl,Nat.le_refl _,fun _ _ _=>rfl⟩,[],⟨rfl,rfl⟩,by simp,World.ownsRow_nil _ _ _ _⟩
 ·rw[Nat.mul_one,←hll]at ht
  have hH:=holds_of_block hg ht
  have hcall:=AnyM.slices_Sort_string sortS_lays g 0 cap (l.map fun b=>b.data.toList) w hH (Array.getElem?_eq_some_iff.1 hg).1 (by rw[hll];omega)
  rw[hll]at hcall
  refine hcall.mono ?_
  rintro e1 w' ⟨rfl,n,os,rfl⟩
  refine⟨rfl,grownBy_sorted _,(sortB l).map (fun x=>[Value.string x]),crss_strs.2 ⟨rfl,rfl⟩,rows_oneS _,?_⟩
  have hmap:((sortB l).map fun b=>b.data.toList)=(l.map fun b=>b.data.toList).mergeSort fun x y=>decide (x≤y):=by
   unfold sortB
   rw[List.map_map]
   exact List.map_id'' (fun x=>rfl) _
  rw[flat_strs,hmap,List.length_map,hsl]
  have hts:((l.map fun b=>b.data.toList).mergeSort fun x y=>decide (x≤y)).length=(l.map fun b=>b.data.toList).length:=(List.mergeSort_perm _ _).length_eq
  generalize ((l.map fun b=>b.data.toList).mergeSort fun x y=>decide (x≤y))=ts at *
  generalize (l.map fun b=>b.data.toList)=ss at *
  have:=ownsRow_sorted (w:=w) (os:=os) (n:=n) (base:=0) hts hb hg (by rw[hll];exact hc) hm hs
  rw[hll]at this
  exact this
end
section
open Go.RowKit
set_option maxRecDepth 10000
def objA (keys:List ByteArray) (kids:List V):AV:=.agg [.c (.int .i64 6),.c (.int .i64 0),.c (.str ByteArray.empty),.c (.sl ((objKeys keys).map strCs)),.c (.sl (((objKeys keys).map (lastKid keys kids)).map V.cs))]
theorem object_ac (keys : List ByteArray) (kids : List V) (hl : keys.length = kids.length) (hb : keys.length ≤ 900000) (hs : ∀ k ∈ keys, k.size ≤ 9223372036854775807) : AC Tryz.prog 146 [.c (.sl (keys.map strCs)), .c (.sl (kids.map V.cs))] [] (objA keys kids) [] := by
  have hlk : (keys.map strCs).length = keys.length := by simp
  have ht := Tryz.underlying204
  have hk := Tryz.underlying9
  have hz : ∃ z, ∀ w, (zeroValue 62).run Tryz.prog w = .ok z w := ⟨_, Tryz.zeroValue62⟩
  unfold objA
  refine wEnter Tryz.func146 Tryz.ntmps146 ?_
  refine wRUN1 trivial ?_
  refine a_region ?_
  refine wRUN1 trivial ?_
  refine a_region ?_
  (apply (op_newMap hk); (iterate 4 (focus (first | (simp only [go_sem, Nat.reduceEqDiff, Nat.reduceAdd, Nat.reduceSub, Nat.reduceLeDiff, Nat.reduceMul, Nat.reduceBEq, Nat.reduceLT, Int.reduceToNat, reduceCtorEq]; first | done | exact rfl | (and_intros <;> rfl)) | exact rfl | decide))))
  refine wRUN1 trivial ?_
  refine a_region ?_
  refine wRUN1 hlk ?_
  refine a_loop (κ := Nat) (fun k => ⟨mkS 0 60 [(1, .c (.sl (kids.map V.cs))), (4, .ptr (4, 0) 0), (5, .own (99, 0)), (13, .c (.sl (keys.map strCs))), (14, .c (.int .i64 keys.length)), (15, .c (.int .i64 k))],
      [((4, 0), .box [.c (.int .i64 0), .c (.int .i64 0), .c (.str ByteArray.empty), .nils, .nils]), ((99, 0), .blk (mapR Tryz.prog 9 (keys.take k)) ((kids.take k).map V.cs))]⟩)
    (fun k => k ≤ keys.length) (fun k => keys.length - k) 0 (Nat.zero_le _) ?_ ?_
  · (apply (Says.of [((4, 0), (4, 0)), ((99, 0), (12, 0))] []); (iterate 2 ((focus (simp only [go_sem, Nat.reduceEqDiff, Nat.reduceAdd, Nat.reduceSub, Nat.reduceLeDiff, Nat.reduceMul, Nat.reduceBEq, Nat.reduceLT, Int.reduceToNat, reduceCtorEq, List.take_zero]; try (and_intros <;> rfl))); (focus exact rfl))); (iterate 4 (focus (simp [go_sem, List.take_zero]; done))))
  · intro k hk1
    by_cases hlt : k < keys.length
    · have hdk : decide ((k : Int) < (keys.length : Int)) = true := by simpa using hlt
      have hlt2 : k < kids.length := by omega
      have hw := wrap_succ (k := k) (by omega)
      have hr : rowsAt (keys.map strCs) 1 k = true := by simp [rowsAt, hlt, strCs]
      have hg : (keys.map strCs)[k]? = some [.str keys[k]] := by simp [hlt, strCs]
      have hr2 : rowsAt (kids.map V.cs) 5 k = true := by simp [rowsAt, hlt2, V.cs_eq]
      have hg2 : (kids.map V.cs)[k]? = some [.int .i64 kids[k].kind, .int .i64 kids[k].num, .str kids[k].text, .sl (kids[k].keys.map strCs), .sl (kids[k].kids.map V.cs)] := by simp [hlt2, V.cs_eq]
      have hsk := hs keys[k] (List.getElem_mem hlt)
      have hkn : (keys.take k).length < 9223372036854775807 := by rw [List.length_take]; omega
      have e1 : keys.take k ++ [keys[k]] = keys.take (k + 1) := by rw [List.take_succ_eq_append_getElem hlt]
      have e2 : (kids.take k).map V.cs ++ [[.int .i64 kids[k].kind, .int .i64 kids[k].num, .str kids[k].text, .sl (kids[k].keys.map strCs), .sl (kids[k].kids.map V.cs)]] = (kids.take (k + 1)).map V.cs := by rw [List.take_succ_eq_append_getElem hlt2, List.map_append, List.map_cons, List.map_nil, V.cs_eq]
      generalize keys[k] = s at *
      generalize kids[k] = v at *
      refine wRUN (j5 hdk hr hg hr2 hg2) ?_
      (apply (op_mapPut ht hk hkn hsk); (iterate 8 (focus (first | (simp only [go_sem, Nat.reduceEqDiff, Nat.reduceAdd, Nat.reduceSub, Nat.reduceLeDiff, Nat.reduceMul, Nat.reduceBEq, Nat.reduceLT, Int.reduceToNat, reduceCtorEq]; first | done | exact rfl | (and_intros <;> rfl)) | exact rfl | decide))))
      refine wRUN hw ?_
      refine ⟨k + 1, by omega, by omega, ?_⟩
      exact wSays (Says.of [((4, 0), (4, 0)), ((99, 0), (99, 0))] []) (j2 e1 e2)
    · have hdk : decide ((k : Int) < (keys.length : Int)) = false := by simpa using hlt
      have hke : k = keys.length := by omega
      have e1 : keys.take k = keys := by rw [hke, List.take_length]
      have e2 : kids.take k = kids := by rw [hke, hl, List.take_length]
      rw [e1, e2]
      refine wRUN1 trivial ?_
      refine a_region ?_
      refine wRUN1 hdk ?_
      refine a_region ?_
      refine wRUN1 trivial ?_
      refine a_regionN ?_
      (repeat ((with_reducible apply n_eff); (iterate 2 (focus (first | (simp only [go_sem, Nat.reduceEqDiff, Nat.reduceAdd, Nat.reduceSub, Nat.reduceLeDiff, Nat.reduceMul, Nat.reduceBEq, Nat.reduceLT, Int.reduceToNat, reduceCtorEq]; first | done | exact rfl | (and_intros <;> rfl)) | exact rfl | decide)))))
      (apply (n_range ht hk); (focus (first | (simp only [go_sem, Nat.reduceEqDiff, Nat.reduceAdd, Nat.reduceSub, Nat.reduceLeDiff, Nat.reduceMul, Nat.reduceBEq, Nat.reduceLT, Int.reduceToNat, reduceCtorEq]; first | done | exact rfl | (and_intros <;> rfl)) | exact rfl | decide)); (focus (first | (simp only [go_sem, Nat.reduceEqDiff, Nat.reduceAdd, Nat.reduceSub, Nat.reduceLeDiff, Nat.reduceMul, Nat.reduceBEq, Nat.reduceLT, Int.reduceToNat, reduceCtorEq]; first | done | exact rfl | (and_intros <;> rfl)) | exact rfl | decide)); (focus (first | (simp only [go_sem, Nat.reduceEqDiff, Nat.reduceAdd, Nat.reduceSub, Nat.reduceLeDiff, Nat.reduceMul, Nat.reduceBEq, Nat.reduceLT, Int.reduceToNat, reduceCtorEq]; first | done | exact rfl | (and_intros <;> rfl)) | exact rfl | decide)); (focus (intro es clock b; (focus (first | (simp only [go_sem, Nat.reduceEqDiff, Nat.reduceAdd, Nat.reduceSub, Nat.reduceLeDiff, Nat.reduceMul, Nat.reduceBEq, Nat.reduceLT, Int.reduceToNat, reduceCtorEq]; first | done | exact rfl | (and_intros <;> rfl)) | exact rfl | decide)))))
      intro es clock b G
      refine n_nil ?_
      dsimp only
      have hz0 : ([] : List ByteArray).map strCs = [] := rfl
      refine a_loop (κ := List ByteArray) (fun vis => ⟨mkS 0 60 [(4, .ptr (4, 0) 0), (5, .own (99, 0)), (8, .ptr (8, 0) 0), (29, .own (97, 0))],
          [((4, 0), .box [.c (.int .i64 0), .c (.int .i64 0), .c (.str ByteArray.empty), .nils, .nils]), ((99, 0), .blk (mapG Tryz.prog 9 keys es clock b) (kids.map V.cs)), ((8, 0), .box [.c (.int .i64 6), .c (.int .i64 0), .c (.str ByteArray.empty), .own (98, 0), .nils]), ((98, 0), .row false 1 9 (vis.map strCs)), ((97, 0), .blk (iterG es clock b vis) [])]⟩)
        (fun vis => vis.Nodup ∧ (∀ k ∈ vis, k ∈ keys) ∧ vis.length + toCome keys vis ≤ keys.length) (fun vis => toCome keys vis) [] ⟨by simp, by simp, by rw [toCome_nil]; simp⟩ ?_ ?_
      · exact wSays (Says.of [((4, 0), (4, 0)), ((99, 0), (99, 0)), ((8, 0), (8, 0)), ((97, 0), (29, 0))] []) hz0
      · rintro vis ⟨hnd, hsub, hcnt⟩
        refine wRUN1 trivial ?_
        refine a_regionN ?_
        (apply (n_next (99, 0) hk G); (focus (first | (simp only [go_sem, Nat.reduceEqDiff, Nat.reduceAdd, Nat.reduceSub, Nat.reduceLeDiff, Nat.reduceMul, Nat.reduceBEq, Nat.reduceLT, Int.reduceToNat, reduceCtorEq]; first | done | exact rfl | (and_intros <;> rfl)) | exact rfl | decide)); (focus (first | (simp only [go_sem, Nat.reduceEqDiff, Nat.reduceAdd, Nat.reduceSub, Nat.reduceLeDiff, Nat.reduceMul, Nat.reduceBEq, Nat.reduceLT, Int.reduceToNat, reduceCtorEq]; first | done | exact rfl | (and_intros <;> rfl)) | exact rfl | decide)); (focus (first | (simp only [go_sem, Nat.reduceEqDiff, Nat.reduceAdd, Nat.reduceSub, Nat.reduceLeDiff, Nat.reduceMul, Nat.reduceBEq, Nat.reduceLT, Int.reduceToNat, reduceCtorEq]; first | done | exact rfl | (and_intros <;> rfl)) | exact rfl | decide)); (focus (first | (simp only [go_sem, Nat.reduceEqDiff, Nat.reduceAdd, Nat.reduceSub, Nat.reduceLeDiff, Nat.reduceMul, Nat.reduceBEq, Nat.reduceLT, Int.reduceToNat, reduceCtorEq]; first | done | exact rfl | (and_intros <;> rfl)) | exact rfl | decide)); (focus (intro k; (focus (first | (simp only [go_sem, Nat.reduceEqDiff, Nat.reduceAdd, Nat.reduceSub, Nat.reduceLeDiff, Nat.reduceMul, Nat.reduceBEq, Nat.reduceLT, Int.reduceToNat, reduceCtorEq]; first | done | exact rfl | (and_intros <;> rfl)) | exact rfl | decide)))))
        · intro hall
          (repeat ((with_reducible apply n_eff); (iterate 2 (focus (first | (simp only [go_sem, Nat.reduceEqDiff, Nat.reduceAdd, Nat.reduceSub, Nat.reduceLeDiff, Nat.reduceMul, Nat.reduceBEq, Nat.reduceLT, Int.reduceToNat, reduceCtorEq]; first | done | exact rfl | (and_intros <;> rfl)) | exact rfl | decide)))))
          refine n_nil ?_
          dsimp only
          have hsv := sortB_keys hnd fun x => ⟨hsub x, hall x⟩
          have hso := sortStrs_ac vis (by omega)
          rw [hsv] at hso
          have hkl := objKeys_len keys
          have hkm := fun x => objKeys_mem (keys := keys) (x := x)
          obtain ⟨ks, hks⟩ : ∃ ks, objKeys keys = ks := ⟨_, rfl⟩
          rw [hks] at hso hkl hkm ⊢
          have hlks : (ks.map strCs).length = ks.length := by simp
          have hz1 : ((ks.take 0).map (lastKid keys kids)).map V.cs = [] := rfl
          refine wRUN1 trivial ?_
          refine a_region ?_
          refine wRUN trivial ?_
          refine w9 (op_own (98, 0) hso) trivial ?_
          refine wRUN hlks ?_
          refine a_loop (κ := Nat) (fun k => ⟨mkS 0 60 [(4, .ptr (4, 0) 0), (5, .own (99, 0)), (8, .ptr (8, 0) 0), (44, .own (98, 0)), (45, .c (.int .i64 ks.length)), (46, .c (.int .i64 k))],
              [((4, 0), .box [.c (.int .i64 0), .c (.int .i64 0), .c (.str ByteArray.empty), .nils, .nils]), ((99, 0), .blk (mapG Tryz.prog 9 keys es clock b) (kids.map V.cs)), ((8, 0), .box [.c (.int .i64 6), .c (.int .i64 0), .c (.str ByteArray.empty), .own (98, 0), .own (96, 0)]), ((98, 0), .row false 1 9 (ks.map strCs)), ((96, 0), .row false 5 62 (((ks.take k).map (lastKid keys kids)).map V.cs))]⟩)
            (fun k => k ≤ ks.length) (fun k => ks.length - k) 0 (Nat.zero_le _) ?_ ?_
          · exact wSays (Says.of [((4, 0), (4, 0)), ((99, 0), (99, 0)), ((8, 0), (8, 0)), ((98, 0), (98, 0))] []) hz1
          · intro k hk1
            by_cases hlt : k < ks.length
            · have hdk : decide ((k : Int) < (ks.length : Int)) = true := by simpa using hlt
              have hw := wrap_succ (k := k) (by omega)
              have hr : rowsAt (ks.map strCs) 1 k = true := by simp [rowsAt, hlt, strCs]
              have hg : (ks.map strCs)[k]? = some [.str ks[k]] := by simp [hlt, strCs]
              have hmem := (hkm ks[k]).1 (List.getElem_mem hlt)
              have hsk := hs _ hmem
              obtain ⟨j, hj1, hj2, hj3⟩ := lastKid_at hl hmem
              have hol : (ks.take k).length + 1 ≤ 1000000 := by rw [List.length_take]; omega
              have e2 : ((ks.take k).map (lastKid keys kids)).map V.cs ++ [[.int .i64 (lastKid keys kids ks[k]).kind, .int .i64 (lastKid keys kids ks[k]).num, .str (lastKid keys kids ks[k]).text, .sl ((lastKid keys kids ks[k]).keys.map strCs), .sl ((lastKid keys kids ks[k]).kids.map V.cs)]] = ((ks.take (k + 1)).map (lastKid keys kids)).map V.cs := by
                rw [List.take_succ_eq_append_getElem hlt, List.map_append, List.map_append, List.map_cons, List.map_cons, List.map_nil, List.map_nil, V.cs_eq]
              generalize lastKid keys kids ks[k] = v at *
              have hg2 : (kids.map V.cs)[j]? = some [.int .i64 v.kind, .int .i64 v.num, .str v.text, .sl (v.keys.map strCs), .sl (v.kids.map V.cs)] := by rw [List.getElem?_map, hj3, Option.map_some, V.cs_eq]
              generalize ks[k] = s at *
              refine wRUN (j3 hdk hr hg) ?_
              (apply (op_mapGet j (mapG_mapR G) ht hk hz hsk hj1 hj2 hg2); (iterate 6 (focus (first | (simp only [go_sem, Nat.reduceEqDiff, Nat.reduceAdd, Nat.reduceSub, Nat.reduceLeDiff, Nat.reduceMul, Nat.reduceBEq, Nat.reduceLT, Int.reduceToNat, reduceCtorEq]; first | done | exact rfl | (and_intros <;> rfl)) | exact rfl | decide))))
              refine wRUN (j2 hol hw) ?_
              refine ⟨k + 1, by omega, by omega, ?_⟩
              exact wSays (Says.of [((4, 0), (4, 0)), ((99, 0), (99, 0)), ((8, 0), (8, 0)), ((98, 0), (98, 0)), ((96, 0), (56, 0))] []) e2
            · have hdk : decide ((k : Int) < (ks.length : Int)) = false := by simpa using hlt
              have hke : ks.take k = ks := List.take_of_length_le (by omega)
              rw [hke]
              refine wRUN hdk ?_
              exact wRetOf (ret_of [] [(98, 0), (96, 0)]) Tryz.results146 hdk
        · intro k hkk hnv
          (repeat ((with_reducible apply n_eff); (iterate 2 (focus (first | (simp only [go_sem, Nat.reduceEqDiff, Nat.reduceAdd, Nat.reduceSub, Nat.reduceLeDiff, Nat.reduceMul, Nat.reduceBEq, Nat.reduceLT, Int.reduceToNat, reduceCtorEq]; first | done | exact rfl | (and_intros <;> rfl)) | exact rfl | decide)))))
          refine n_nil ?_
          dsimp only
          have hlen : vis.length + 1 ≤ 1000000 := by omega
          have hless := toCome_less hkk hnv
          refine wRUN1 trivial ?_
          refine a_regionN ?_
          refine w4 (n_entry (99, 0) G) trivial ?_
          (repeat ((with_reducible apply n_eff); (iterate 2 (focus (first | (simp only [go_sem, Nat.reduceEqDiff, Nat.reduceAdd, Nat.reduceSub, Nat.reduceLeDiff, Nat.reduceMul, Nat.reduceBEq, Nat.reduceLT, Int.reduceToNat, reduceCtorEq]; first | done | exact rfl | (and_intros <;> rfl)) | exact rfl | decide)))))
          refine n_nil ?_
          dsimp only
          refine wRUN hlen ?_
          refine ⟨vis ++ [k], hless, ⟨?_, ?_, ?_⟩, ?_⟩
          · rw [List.nodup_append]
            exact ⟨hnd, by simp, fun a ha b hb' => by have : b = k := by simpa using hb'
                                                      subst this
                                                      exact fun e => hnv (e ▸ ha)⟩
          · intro x hx
            rcases List.mem_append.1 hx with hx | hx
            · exact hsub x hx
            · have : x = k := by simpa using hx
              subst this
              exact hkk
          · rw [List.length_append, List.length_singleton]
            omega
          · (apply (Says.of [((4, 0), (4, 0)), ((99, 0), (99, 0)), ((8, 0), (8, 0)), ((98, 0), (38, 0)), ((97, 0), (97, 0))] []); (iterate 2 ((focus (simp only [go_sem, Nat.reduceEqDiff, Nat.reduceAdd, Nat.reduceSub, Nat.reduceLeDiff, Nat.reduceMul, Nat.reduceBEq, Nat.reduceLT, Int.reduceToNat, reduceCtorEq, List.map_append, strCs]; try (and_intros <;> rfl))); (focus exact rfl))); (iterate 4 (focus (simp [go_sem, List.map_append, strCs]; done))))
theorem object_av (keys:List ByteArray) (kids:List V):objA keys kids=(objV keys kids).av:=rfl
end
end Go.Proofs.YtlciedpfjhkkdaaGreatDoor
