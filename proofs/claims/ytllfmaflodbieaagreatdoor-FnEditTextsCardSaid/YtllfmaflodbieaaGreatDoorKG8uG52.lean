/- Texts of this proof: G46 G47 G52. -/
import Derived.Test.YtllfmaflodbieaaGreatDoorKG08uS02
import Derived.Shelf.SortM.Plain
import Derived.Shelf.SortM.SortNone
import Derived.Sort.OwnSorted
set_option linter.all false
set_option maxHeartbeats 8000000
namespace Go.Proofs.YtllfmaflodbieaaGreatDoor
section
open Go.RowKit Go.Sort
set_option maxRecDepth 10000
theorem MR (x y:List UInt8):decide (x≤y) = !Op.bytesLess y x:=by
 rw[bytesLess_eq]
 by_cases h:y<x
 ·have:¬x≤y:=fun h2=>h2 h
  simp[h,this]
 ·have:x≤y:=h
  simp[h,this]
theorem YN (l:List ByteArray) (x:ByteArray):x∈Ha l↔x∈l:=by
 unfold Ha
 rw[List.mem_map]
 constructor
 ·rintro⟨y,hy,rfl⟩
  obtain⟨b,hb,rfl⟩:=List.mem_map.1 ((List.mergeSort_perm _ _).mem_iff.1 hy)
  exact hb
 ·intro h
  exact⟨x.data.toList,(List.mergeSort_perm _ _).mem_iff.2 (List.mem_map.2 ⟨x,h,rfl⟩),rfl⟩
theorem YM (l:List ByteArray):(Ha l).length=l.length:=by
 unfold Ha
 rw[List.length_map,(List.mergeSort_perm _ _).length_eq,List.length_map]
theorem x8 {l:List ByteArray}(hn:l.Nodup):Up (Ha l):=by
 unfold Up Ha
 rw[List.pairwise_map]
 have hs:=List.pairwise_mergeSort (le:=fun x y:List UInt8=>decide (x≤y)) (fun a b c h1 h2=>by
  rw[MR]at h1 h2 ⊢
  cases h3:Op.bytesLess c a with
  |false=>rfl
  |true =>
   rcases E5 a b with h | h | h
   ·rw[Dm h3 h]at h2;exact h2
   ·subst h;rw[h3]at h2;exact h2
   ·rw[h]at h1;exact h1) (fun a b=>by
  rw[MR,MR]
  rcases E5 a b with h | h | h
  ·have:Op.bytesLess b a=false:=by
    cases h2:Op.bytesLess b a with
    |false=>rfl
    |true=>have:=Dm h h2;rw[Cy]at this;cases this
   simp[this]
  ·subst h;simp[Cy]
  ·have:Op.bytesLess a b=false:=by
    cases h2:Op.bytesLess a b with
    |false=>rfl
    |true=>have:=Dm h h2;rw[Cy]at this;cases this
   simp[this]) (l.map fun b=>b.data.toList)
 have hnd:((l.map fun b=>b.data.toList).mergeSort fun x y=>decide (x≤y)).Nodup:=by
  refine (List.mergeSort_perm _ _).nodup_iff.2 ?_
  refine List.pairwise_map.2 (hn.imp fun {a b} h e=>h ?_)
  exact Ay (by rw[ByteArray.toList_eq,ByteArray.toList_eq];exact e)
 refine (hs.and hnd).imp fun {a b} h=>?_
 rw[MR]at h
 unfold Bz
 rw[ByteArray.toList_eq,ByteArray.toList_eq]
 rcases E5 a b with g | g | g
 ·exact g
 ·exact absurd g h.2
 ·rw[g]at h;exact absurd h.1 (by simp)
theorem Wa {vis keys:List ByteArray}(hn:vis.Nodup) (h:∀x,x∈vis↔x∈keys):Ha vis=B0 keys:=Ug (x8 hn) (DL keys) fun x=>by rw[YN,BP];exact h x
theorem Pw {w:World}{S:Nat→Prop}{l:List ByteArray}{vs:List (List Value)}{bs:List Nat}:Aj w S (l.map Ac) vs bs↔vs=l.map (fun x=>[Value.string x])∧bs=[]:=Ig Wr
theorem Yq (l:List ByteArray):∀x∈l.map (fun x=>[Value.string x]),x.length=1:=fun x hx=>by
 obtain⟨y,_,rfl⟩:=List.mem_map.1 hx
 rfl
theorem PC (l:List ByteArray):(l.map fun x=>[Value.string x]).flatten=(l.map fun b=>b.data.toList).map encStr:=by
 induction l with
 |nil=>rfl
 |cons x l ih=>simp only[List.map_cons,List.flatten_cons,ih,List.singleton_append]
theorem Ie (l:List ByteArray):BN (l.map Ac)=true:=by
 induction l with
 |nil=>rfl
 |cons x l ih=>simp only[List.map_cons,BN,ih,Bool.and_true];rfl
attribute [go_sem] Ie
theorem U4 (l:List ByteArray) (hl:l.length≤1000000):AC Tryz.prog 206 [.own (0,0)] [((0,0),.row false 1 9 (l.map Ac))] (.tup []) [((0,0),.row false 1 9 ((Ha l).map Ac))]:=by
 refine AC.of_mut (Ie _) fun S w v vrows h1 h2 h3=>?_
 obtain⟨rfl,_⟩:=Pw.1 h1
 rw[PC,List.length_map]at h3
 have hsl:=YM l
 have hll:(l.map fun b=>b.data.toList).length=l.length:=by simp
 rcases h3.2 with⟨rfl,h0⟩ | ⟨g,cap,cur,rfl,hb,hg,hc,hm,hs,ht⟩
 ·have hl0:l=[]:=List.eq_nil_of_length_eq_zero h0
  subst hl0
  have e0:Ha []=[]:=by simp[Ha]
  rw[e0]
  refine (AnyM.slices_Sort_string_none Oy none 0 w).mono ?_
  rintro e1 w' ⟨rfl,rfl⟩
  exact⟨rfl,⟨rfl,rfl,rfl,Nat.le_refl _,fun _ _ _=>rfl⟩,[],⟨rfl,rfl⟩,by simp,World.ownsRow_nil _ _ _ _⟩
 ·rw[Nat.mul_one,←hll]at ht
  have hH:=holds_of_block hg ht
  have hcall:=AnyM.slices_Sort_string Oy g 0 cap (l.map fun b=>b.data.toList) w hH (Array.getElem?_eq_some_iff.1 hg).1 (by rw[hll];omega)
  rw[hll]at hcall
  refine hcall.mono ?_
  rintro e1 w' ⟨rfl,n,os,rfl⟩
  refine⟨rfl,grownBy_sorted _,(Ha l).map (fun x=>[Value.string x]),Pw.2 ⟨rfl,rfl⟩,Yq _,?_⟩
  have hmap:((Ha l).map fun b=>b.data.toList)=(l.map fun b=>b.data.toList).mergeSort fun x y=>decide (x≤y):=by
   unfold Ha
   rw[List.map_map]
   exact List.map_id'' (fun x=>rfl) _
  rw[PC,hmap,List.length_map,hsl]
  have hts:((l.map fun b=>b.data.toList).mergeSort fun x y=>decide (x≤y)).length=(l.map fun b=>b.data.toList).length:=(List.mergeSort_perm _ _).length_eq
  generalize ((l.map fun b=>b.data.toList).mergeSort fun x y=>decide (x≤y))=ts at *
  generalize (l.map fun b=>b.data.toList)=ss at *
  have:=ownsRow_sorted (w:=w) (os:=os) (n:=n) (base:=0) hts hb hg (by rw[hll];exact hc) hm hs
  rw[hll]at this
  exact this
end
section
open Go.RowKit
set_option maxRecDepth 10000
def a4i (keys:List ByteArray) (kids:List V):AV:=.agg [.c (.int .i64 6),.c (.int .i64 0),.c (.str ByteArray.empty),.c (.sl ((B0 keys).map Ac)),.c (.sl (((B0 keys).map (AS keys kids)).map V.cs))]
theorem Y8 (keys : List ByteArray) (kids : List V) (hl : keys.length = kids.length) (hb : keys.length ≤ 900000) (hs : ∀ k ∈ keys, k.size ≤ 9223372036854775807) : AC Tryz.prog 155 [.c (.sl (keys.map Ac)), .c (.sl (kids.map V.cs))] [] (a4i keys kids) [] := by
  have hlk : (keys.map Ac).length = keys.length := by simp
  have ht := Tryz.underlying227
  have hk := Tryz.underlying9
  have hz : ∃ z, ∀ w, (zeroValue 76).run Tryz.prog w = .ok z w := ⟨_, Tryz.zeroValue76⟩
  unfold a4i
  refine A5 Tryz.func155 Tryz.ntmps155 ?_
  refine I7 q9 ?_
  refine B8 ?_
  refine I7 q9 ?_
  refine B8 ?_
  (apply (Yf hk); (iterate 4 (focus (first | (simp only [go_sem, Nat.reduceEqDiff, Nat.reduceAdd, Nat.reduceSub, Nat.reduceLeDiff, Nat.reduceMul, Nat.reduceBEq, Nat.reduceLT, Int.reduceToNat, reduceCtorEq]; first | done | exact rfl | (and_intros <;> rfl)) | exact rfl | decide))))
  refine I7 q9 ?_
  refine B8 ?_
  refine I7 hlk ?_
  refine AZ (κ := Nat) (fun k => ⟨mkS 0 60 [(1, .c (.sl (kids.map V.cs))), (4, .ptr (4, 0) 0), (5, .own (99, 0)), (13, .c (.sl (keys.map Ac))), (14, .c (.int .i64 keys.length)), (15, .c (.int .i64 k))],
      [((4, 0), .box [.c (.int .i64 0), .c (.int .i64 0), .c (.str ByteArray.empty), .nils, .nils]), ((99, 0), .blk (G2 Tryz.prog 9 (keys.take k)) ((kids.take k).map V.cs))]⟩)
    (fun k => k ≤ keys.length) (fun k => keys.length - k) 0 (Nat.zero_le _) ?_ ?_
  · (apply (AH.of [((4, 0), (4, 0)), ((99, 0), (12, 0))] []); (iterate 2 ((focus (simp only [go_sem, Nat.reduceEqDiff, Nat.reduceAdd, Nat.reduceSub, Nat.reduceLeDiff, Nat.reduceMul, Nat.reduceBEq, Nat.reduceLT, Int.reduceToNat, reduceCtorEq, List.take_zero]; try (and_intros <;> rfl))); (focus exact rfl))); (iterate 4 (focus (simp [go_sem, List.take_zero]; done))))
  · intro k hk1
    by_cases hlt : k < keys.length
    · have hdk : decide ((k : Int) < (keys.length : Int)) = true := by simpa using hlt
      have hlt2 : k < kids.length := by omega
      have hw := AA (k := k) (by omega)
      have hr : Ae (keys.map Ac) 1 k = true := by simp [Ae, hlt, Ac]
      have hg : (keys.map Ac)[k]? = some [.str keys[k]] := by simp [hlt, Ac]
      have hr2 : Ae (kids.map V.cs) 5 k = true := by simp [Ae, hlt2, V.cs_eq]
      have hg2 : (kids.map V.cs)[k]? = some [.int .i64 kids[k].kind, .int .i64 kids[k].num, .str kids[k].text, .sl (kids[k].keys.map Ac), .sl (kids[k].kids.map V.cs)] := by simp [hlt2, V.cs_eq]
      have hsk := hs keys[k] (List.getElem_mem hlt)
      have hkn : (keys.take k).length < 9223372036854775807 := by rw [List.length_take]; omega
      have e1 : keys.take k ++ [keys[k]] = keys.take (k + 1) := by rw [List.take_succ_eq_append_getElem hlt]
      have e2 : (kids.take k).map V.cs ++ [[.int .i64 kids[k].kind, .int .i64 kids[k].num, .str kids[k].text, .sl (kids[k].keys.map Ac), .sl (kids[k].kids.map V.cs)]] = (kids.take (k + 1)).map V.cs := by rw [List.take_succ_eq_append_getElem hlt2, List.map_append, List.map_cons, List.map_nil, V.cs_eq]
      generalize keys[k] = s at *
      generalize kids[k] = v at *
      refine A3 (j5 hdk hr hg hr2 hg2) ?_
      (apply (Yd ht hk hkn hsk); (iterate 8 (focus (first | (simp only [go_sem, Nat.reduceEqDiff, Nat.reduceAdd, Nat.reduceSub, Nat.reduceLeDiff, Nat.reduceMul, Nat.reduceBEq, Nat.reduceLT, Int.reduceToNat, reduceCtorEq]; first | done | exact rfl | (and_intros <;> rfl)) | exact rfl | decide))))
      refine A3 hw ?_
      refine ⟨k + 1, by omega, by omega, ?_⟩
      exact As (AH.of [((4, 0), (4, 0)), ((99, 0), (99, 0))] []) (j2 e1 e2)
    · have hdk : decide ((k : Int) < (keys.length : Int)) = false := by simpa using hlt
      have hke : k = keys.length := by omega
      have e1 : keys.take k = keys := by rw [hke, List.take_length]
      have e2 : kids.take k = kids := by rw [hke, hl, List.take_length]
      rw [e1, e2]
      refine I7 q9 ?_
      refine B8 ?_
      refine I7 hdk ?_
      refine B8 ?_
      refine I7 q9 ?_
      refine L7 ?_
      (repeat ((with_reducible apply WU); (iterate 2 (focus (first | (simp only [go_sem, Nat.reduceEqDiff, Nat.reduceAdd, Nat.reduceSub, Nat.reduceLeDiff, Nat.reduceMul, Nat.reduceBEq, Nat.reduceLT, Int.reduceToNat, reduceCtorEq]; first | done | exact rfl | (and_intros <;> rfl)) | exact rfl | decide)))))
      (apply (a1p ht hk); (focus (first | (simp only [go_sem, Nat.reduceEqDiff, Nat.reduceAdd, Nat.reduceSub, Nat.reduceLeDiff, Nat.reduceMul, Nat.reduceBEq, Nat.reduceLT, Int.reduceToNat, reduceCtorEq]; first | done | exact rfl | (and_intros <;> rfl)) | exact rfl | decide)); (focus (first | (simp only [go_sem, Nat.reduceEqDiff, Nat.reduceAdd, Nat.reduceSub, Nat.reduceLeDiff, Nat.reduceMul, Nat.reduceBEq, Nat.reduceLT, Int.reduceToNat, reduceCtorEq]; first | done | exact rfl | (and_intros <;> rfl)) | exact rfl | decide)); (focus (first | (simp only [go_sem, Nat.reduceEqDiff, Nat.reduceAdd, Nat.reduceSub, Nat.reduceLeDiff, Nat.reduceMul, Nat.reduceBEq, Nat.reduceLT, Int.reduceToNat, reduceCtorEq]; first | done | exact rfl | (and_intros <;> rfl)) | exact rfl | decide)); (focus (intro es clock b; (focus (first | (simp only [go_sem, Nat.reduceEqDiff, Nat.reduceAdd, Nat.reduceSub, Nat.reduceLeDiff, Nat.reduceMul, Nat.reduceBEq, Nat.reduceLT, Int.reduceToNat, reduceCtorEq]; first | done | exact rfl | (and_intros <;> rfl)) | exact rfl | decide)))))
      intro es clock b G
      refine WV ?_
      dsimp only
      have hz0 : ([] : List ByteArray).map Ac = [] := rfl
      refine AZ (κ := List ByteArray) (fun vis => ⟨mkS 0 60 [(4, .ptr (4, 0) 0), (5, .own (99, 0)), (8, .ptr (8, 0) 0), (29, .own (97, 0))],
          [((4, 0), .box [.c (.int .i64 0), .c (.int .i64 0), .c (.str ByteArray.empty), .nils, .nils]), ((99, 0), .blk (JZ Tryz.prog 9 keys es clock b) (kids.map V.cs)), ((8, 0), .box [.c (.int .i64 6), .c (.int .i64 0), .c (.str ByteArray.empty), .own (98, 0), .nils]), ((98, 0), .row false 1 9 (vis.map Ac)), ((97, 0), .blk (FY es clock b vis) [])]⟩)
        (fun vis => vis.Nodup ∧ (∀ k ∈ vis, k ∈ keys) ∧ vis.length + Kd keys vis ≤ keys.length) (fun vis => Kd keys vis) [] ⟨by simp, by simp, by rw [Wf]; simp⟩ ?_ ?_
      · exact As (AH.of [((4, 0), (4, 0)), ((99, 0), (99, 0)), ((8, 0), (8, 0)), ((97, 0), (29, 0))] []) hz0
      · rintro vis ⟨hnd, hsub, hcnt⟩
        refine I7 q9 ?_
        refine L7 ?_
        (apply (a4g (99, 0) hk G); (focus (first | (simp only [go_sem, Nat.reduceEqDiff, Nat.reduceAdd, Nat.reduceSub, Nat.reduceLeDiff, Nat.reduceMul, Nat.reduceBEq, Nat.reduceLT, Int.reduceToNat, reduceCtorEq]; first | done | exact rfl | (and_intros <;> rfl)) | exact rfl | decide)); (focus (first | (simp only [go_sem, Nat.reduceEqDiff, Nat.reduceAdd, Nat.reduceSub, Nat.reduceLeDiff, Nat.reduceMul, Nat.reduceBEq, Nat.reduceLT, Int.reduceToNat, reduceCtorEq]; first | done | exact rfl | (and_intros <;> rfl)) | exact rfl | decide)); (focus (first | (simp only [go_sem, Nat.reduceEqDiff, Nat.reduceAdd, Nat.reduceSub, Nat.reduceLeDiff, Nat.reduceMul, Nat.reduceBEq, Nat.reduceLT, Int.reduceToNat, reduceCtorEq]; first | done | exact rfl | (and_intros <;> rfl)) | exact rfl | decide)); (focus (first | (simp only [go_sem, Nat.reduceEqDiff, Nat.reduceAdd, Nat.reduceSub, Nat.reduceLeDiff, Nat.reduceMul, Nat.reduceBEq, Nat.reduceLT, Int.reduceToNat, reduceCtorEq]; first | done | exact rfl | (and_intros <;> rfl)) | exact rfl | decide)); (focus (intro k; (focus (first | (simp only [go_sem, Nat.reduceEqDiff, Nat.reduceAdd, Nat.reduceSub, Nat.reduceLeDiff, Nat.reduceMul, Nat.reduceBEq, Nat.reduceLT, Int.reduceToNat, reduceCtorEq]; first | done | exact rfl | (and_intros <;> rfl)) | exact rfl | decide)))))
        · intro hall
          (repeat ((with_reducible apply WU); (iterate 2 (focus (first | (simp only [go_sem, Nat.reduceEqDiff, Nat.reduceAdd, Nat.reduceSub, Nat.reduceLeDiff, Nat.reduceMul, Nat.reduceBEq, Nat.reduceLT, Int.reduceToNat, reduceCtorEq]; first | done | exact rfl | (and_intros <;> rfl)) | exact rfl | decide)))))
          refine WV ?_
          dsimp only
          have hsv := Wa hnd fun x => ⟨hsub x, hall x⟩
          have hso := U4 vis (by omega)
          rw [hsv] at hso
          have hkl := Gq keys
          have hkm := fun x => BP (keys := keys) (x := x)
          obtain ⟨ks, hks⟩ : ∃ ks, B0 keys = ks := ⟨_, rfl⟩
          rw [hks] at hso hkl hkm ⊢
          have hlks : (ks.map Ac).length = ks.length := by simp
          have hz1 : ((ks.take 0).map (AS keys kids)).map V.cs = [] := rfl
          refine I7 q9 ?_
          refine B8 ?_
          refine A3 q9 ?_
          refine w9 (a4l (98, 0) hso) q9 ?_
          refine A3 hlks ?_
          refine AZ (κ := Nat) (fun k => ⟨mkS 0 60 [(4, .ptr (4, 0) 0), (5, .own (99, 0)), (8, .ptr (8, 0) 0), (44, .own (98, 0)), (45, .c (.int .i64 ks.length)), (46, .c (.int .i64 k))],
              [((4, 0), .box [.c (.int .i64 0), .c (.int .i64 0), .c (.str ByteArray.empty), .nils, .nils]), ((99, 0), .blk (JZ Tryz.prog 9 keys es clock b) (kids.map V.cs)), ((8, 0), .box [.c (.int .i64 6), .c (.int .i64 0), .c (.str ByteArray.empty), .own (98, 0), .own (96, 0)]), ((98, 0), .row false 1 9 (ks.map Ac)), ((96, 0), .row false 5 76 (((ks.take k).map (AS keys kids)).map V.cs))]⟩)
            (fun k => k ≤ ks.length) (fun k => ks.length - k) 0 (Nat.zero_le _) ?_ ?_
          · exact As (AH.of [((4, 0), (4, 0)), ((99, 0), (99, 0)), ((8, 0), (8, 0)), ((98, 0), (98, 0))] []) hz1
          · intro k hk1
            by_cases hlt : k < ks.length
            · have hdk : decide ((k : Int) < (ks.length : Int)) = true := by simpa using hlt
              have hw := AA (k := k) (by omega)
              have hr : Ae (ks.map Ac) 1 k = true := by simp [Ae, hlt, Ac]
              have hg : (ks.map Ac)[k]? = some [.str ks[k]] := by simp [hlt, Ac]
              have hmem := (hkm ks[k]).1 (List.getElem_mem hlt)
              have hsk := hs _ hmem
              obtain ⟨j, hj1, hj2, hj3⟩ := Ee hl hmem
              have hol : (ks.take k).length + 1 ≤ 1000000 := by rw [List.length_take]; omega
              have e2 : ((ks.take k).map (AS keys kids)).map V.cs ++ [[.int .i64 (AS keys kids ks[k]).kind, .int .i64 (AS keys kids ks[k]).num, .str (AS keys kids ks[k]).text, .sl ((AS keys kids ks[k]).keys.map Ac), .sl ((AS keys kids ks[k]).kids.map V.cs)]] = ((ks.take (k + 1)).map (AS keys kids)).map V.cs := by
                rw [List.take_succ_eq_append_getElem hlt, List.map_append, List.map_append, List.map_cons, List.map_cons, List.map_nil, List.map_nil, V.cs_eq]
              generalize AS keys kids ks[k] = v at *
              have hg2 : (kids.map V.cs)[j]? = some [.int .i64 v.kind, .int .i64 v.num, .str v.text, .sl (v.keys.map Ac), .sl (v.kids.map V.cs)] := by rw [List.getElem?_map, hj3, Option.map_some, V.cs_eq]
              generalize ks[k] = s at *
              refine A3 (j3 hdk hr hg) ?_
              (apply (Yc j (Y0 G) ht hk hz hsk hj1 hj2 hg2); (iterate 6 (focus (first | (simp only [go_sem, Nat.reduceEqDiff, Nat.reduceAdd, Nat.reduceSub, Nat.reduceLeDiff, Nat.reduceMul, Nat.reduceBEq, Nat.reduceLT, Int.reduceToNat, reduceCtorEq]; first | done | exact rfl | (and_intros <;> rfl)) | exact rfl | decide))))
              refine A3 (j2 hol hw) ?_
              refine ⟨k + 1, by omega, by omega, ?_⟩
              exact As (AH.of [((4, 0), (4, 0)), ((99, 0), (99, 0)), ((8, 0), (8, 0)), ((98, 0), (98, 0)), ((96, 0), (56, 0))] []) e2
            · have hdk : decide ((k : Int) < (ks.length : Int)) = false := by simpa using hlt
              have hke : ks.take k = ks := List.take_of_length_le (by omega)
              rw [hke]
              refine A3 hdk ?_
              exact Ab (Aa [] [(98, 0), (96, 0)]) Tryz.results155 hdk
        · intro k hkk hnv
          (repeat ((with_reducible apply WU); (iterate 2 (focus (first | (simp only [go_sem, Nat.reduceEqDiff, Nat.reduceAdd, Nat.reduceSub, Nat.reduceLeDiff, Nat.reduceMul, Nat.reduceBEq, Nat.reduceLT, Int.reduceToNat, reduceCtorEq]; first | done | exact rfl | (and_intros <;> rfl)) | exact rfl | decide)))))
          refine WV ?_
          dsimp only
          have hlen : vis.length + 1 ≤ 1000000 := by omega
          have hless := U9 hkk hnv
          refine I7 q9 ?_
          refine L7 ?_
          refine w4 (a1o (99, 0) G) q9 ?_
          (repeat ((with_reducible apply WU); (iterate 2 (focus (first | (simp only [go_sem, Nat.reduceEqDiff, Nat.reduceAdd, Nat.reduceSub, Nat.reduceLeDiff, Nat.reduceMul, Nat.reduceBEq, Nat.reduceLT, Int.reduceToNat, reduceCtorEq]; first | done | exact rfl | (and_intros <;> rfl)) | exact rfl | decide)))))
          refine WV ?_
          dsimp only
          refine A3 hlen ?_
          refine ⟨vis ++ [k], hless, ⟨?_, ?_, ?_⟩, ?_⟩
          · rw [List.nodup_append]
            exact ⟨hnd, by simp, fun a ha b hb' => by have : b = k := by simpa using hb'
                                                      subst this
                                                      exact fun e => hnv (e ▸ ha)⟩
          · intro x hx
            rcases List.mem_append.1 hx with hx | hx
            · exact hsub x hx
            · have : x = k := by simpa using hx
              subst this
              exact hkk
          · rw [List.length_append, List.length_singleton]
            omega
          · (apply (AH.of [((4, 0), (4, 0)), ((99, 0), (99, 0)), ((8, 0), (8, 0)), ((98, 0), (38, 0)), ((97, 0), (97, 0))] []); (iterate 2 ((focus (simp only [go_sem, Nat.reduceEqDiff, Nat.reduceAdd, Nat.reduceSub, Nat.reduceLeDiff, Nat.reduceMul, Nat.reduceBEq, Nat.reduceLT, Int.reduceToNat, reduceCtorEq, List.map_append, Ac]; try (and_intros <;> rfl))); (focus exact rfl))); (iterate 4 (focus (simp [go_sem, List.map_append, Ac]; done))))
theorem Y9 (keys:List ByteArray) (kids:List V):a4i keys kids=(EJ keys kids).av:=rfl
set_option maxRecDepth 10000
theorem H7 {t:V}(h:t.right):t.keys.length≤200∧t.kids.length≤200:=by
 have h1:=B6 h.2.1
 refine⟨?_,h1⟩
 by_cases h6:t.kind=6
 ·have:=(B9 h h6).2.2
  omega
 ·have:=(Bl h.1).2.2.2.2.1 h6
  rw[this]
  exact Nat.zero_le _
end
end Go.Proofs.YtllfmaflodbieaaGreatDoor
