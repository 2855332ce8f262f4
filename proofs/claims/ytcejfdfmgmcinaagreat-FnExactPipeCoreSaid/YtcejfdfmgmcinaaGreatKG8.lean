/- Texts of this proof: G46 G47. -/
import Derived.Test.YtcejfdfmgmcinaaGreatKK21uS02
import Derived.Shelf.SortM.Plain
import Derived.Shelf.SortM.SortNone
import Derived.Sort.OwnSorted
set_option linter.all false
set_option maxHeartbeats 8000000
namespace Go.Proofs.YtcejfdfmgmcinaaGreat
section
open Go.RowKit Go.Sort
set_option maxRecDepth 10000
theorem LM (x y:List UInt8):decide (x≤y) = !Op.bytesLess y x:=by
 rw[bytesLess_eq]
 by_cases h:y<x
 ·have:¬x≤y:=fun h2=>h2 h
  simp[h,this]
 ·have:x≤y:=h
  simp[h,this]
theorem Xu (l:List ByteArray) (x:ByteArray):x∈GD l↔x∈l:=by
 unfold GD
 rw[List.mem_map]
 constructor
 ·rintro⟨y,hy,rfl⟩
  obtain⟨b,hb,rfl⟩:=List.mem_map.1 ((List.mergeSort_perm _ _).mem_iff.1 hy)
  exact hb
 ·intro h
  exact⟨x.data.toList,(List.mergeSort_perm _ _).mem_iff.2 (List.mem_map.2 ⟨x,h,rfl⟩),rfl⟩
theorem Xt (l:List ByteArray):(GD l).length=l.length:=by
 unfold GD
 rw[List.length_map,(List.mergeSort_perm _ _).length_eq,List.length_map]
theorem Zg {l:List ByteArray}(hn:l.Nodup):Up (GD l):=by
 unfold Up GD
 rw[List.pairwise_map]
 have hs:=List.pairwise_mergeSort (le:=fun x y:List UInt8=>decide (x≤y)) (fun a b c h1 h2=>by
  rw[LM]at h1 h2 ⊢
  cases h3:Op.bytesLess c a with
  |false=>rfl
  |true =>
   rcases Dc a b with h | h | h
   ·rw[Cg h3 h]at h2;exact h2
   ·subst h;rw[h3]at h2;exact h2
   ·rw[h]at h1;exact h1) (fun a b=>by
  rw[LM,LM]
  rcases Dc a b with h | h | h
  ·have:Op.bytesLess b a=false:=by
    cases h2:Op.bytesLess b a with
    |false=>rfl
    |true=>have:=Cg h h2;rw[BC]at this;cases this
   simp[this]
  ·subst h;simp[BC]
  ·have:Op.bytesLess a b=false:=by
    cases h2:Op.bytesLess a b with
    |false=>rfl
    |true=>have:=Cg h h2;rw[BC]at this;cases this
   simp[this]) (l.map fun b=>b.data.toList)
 have hnd:((l.map fun b=>b.data.toList).mergeSort fun x y=>decide (x≤y)).Nodup:=by
  refine (List.mergeSort_perm _ _).nodup_iff.2 ?_
  refine List.pairwise_map.2 (hn.imp fun {a b} h e=>h ?_)
  exact AL (by rw[ByteArray.toList_eq,ByteArray.toList_eq];exact e)
 refine (hs.and hnd).imp fun {a b} h=>?_
 rw[LM]at h
 unfold Bh
 rw[ByteArray.toList_eq,ByteArray.toList_eq]
 rcases Dc a b with g | g | g
 ·exact g
 ·exact absurd g h.2
 ·rw[g]at h;exact absurd h.1 (by simp)
theorem UD {vis keys:List ByteArray}(hn:vis.Nodup) (h:∀x,x∈vis↔x∈keys):GD vis=BR keys:=y9 (Zg hn) (Jr keys) fun x=>by rw[Xu,DX];exact h x
theorem Oh {w:World}{S:Nat→Prop}{l:List ByteArray}{vs:List (List Value)}{bs:List Nat}:Al w S (l.map Ad) vs bs↔vs=l.map (fun x=>[Value.string x])∧bs=[]:=Gr UY
theorem Xe (l:List ByteArray):∀x∈l.map (fun x=>[Value.string x]),x.length=1:=fun x hx=>by
 obtain⟨y,_,rfl⟩:=List.mem_map.1 hx
 rfl
theorem On (l:List ByteArray):(l.map fun x=>[Value.string x]).flatten=(l.map fun b=>b.data.toList).map encStr:=by
 induction l with
 |nil=>rfl
 |cons x l ih=>simp only[List.map_cons,List.flatten_cons,ih,List.singleton_append]
theorem KQ (l:List ByteArray):Bn (l.map Ad)=true:=by
 induction l with
 |nil=>rfl
 |cons x l ih=>simp only[List.map_cons,Bn,ih,Bool.and_true];rfl
attribute [go_sem] KQ
theorem Sm (l:List ByteArray) (hl:l.length≤1000000):AC Tryz.prog 278 [.own (0,0)] [((0,0),.row false 1 9 (l.map Ad))] (.tup []) [((0,0),.row false 1 9 ((GD l).map Ad))]:=by
 refine AC.of_mut (KQ _) fun S w v vrows h1 h2 h3=>?_
 obtain⟨rfl,_⟩:=Oh.1 h1
 rw[On,List.length_map]at h3
 have hsl:=Xt l
 have hll:(l.map fun b=>b.data.toList).length=l.length:=by simp
 rcases h3.2 with⟨rfl,h0⟩ | ⟨g,cap,cur,rfl,hb,hg,hc,hm,hs,ht⟩
 ·have hl0:l=[]:=List.eq_nil_of_length_eq_zero h0
  subst hl0
  have e0:GD []=[]:=by simp[GD]
  rw[e0]
  refine (AnyM.slices_Sort_string_none Nm none 0 w).mono ?_
  rintro e1 w' ⟨rfl,rfl⟩
  exact⟨rfl,⟨rfl,rfl,rfl,Nat.le_refl _,fun _ _ _=>rfl⟩,[],⟨rfl,rfl⟩,by simp,World.ownsRow_nil _ _ _ _⟩
 ·rw[Nat.mul_one,←hll]at ht
  have hH:=holds_of_block hg ht
  have hcall:=AnyM.slices_Sort_string Nm g 0 cap (l.map fun b=>b.data.toList) w hH (Array.getElem?_eq_some_iff.1 hg).1 (by rw[hll];omega)
  rw[hll]at hcall
  refine hcall.mono ?_
  rintro e1 w' ⟨rfl,n,os,rfl⟩
  refine⟨rfl,grownBy_sorted _,(GD l).map (fun x=>[Value.string x]),Oh.2 ⟨rfl,rfl⟩,Xe _,?_⟩
  have hmap:((GD l).map fun b=>b.data.toList)=(l.map fun b=>b.data.toList).mergeSort fun x y=>decide (x≤y):=by
   unfold GD
   rw[List.map_map]
   exact List.map_id'' (fun x=>rfl) _
  rw[On,hmap,List.length_map,hsl]
  have hts:((l.map fun b=>b.data.toList).mergeSort fun x y=>decide (x≤y)).length=(l.map fun b=>b.data.toList).length:=(List.mergeSort_perm _ _).length_eq
  generalize ((l.map fun b=>b.data.toList).mergeSort fun x y=>decide (x≤y))=ts at *
  generalize (l.map fun b=>b.data.toList)=ss at *
  have:=ownsRow_sorted (w:=w) (os:=os) (n:=n) (base:=0) hts hb hg (by rw[hll];exact hc) hm hs
  rw[hll]at this
  exact this
end
section
open Go.RowKit
set_option maxRecDepth 10000
def a09 (keys:List ByteArray) (kids:List V):AV:=.agg [.c (.int .i64 6),.c (.int .i64 0),.c (.str ByteArray.empty),.c (.sl ((BR keys).map Ad)),.c (.sl (((BR keys).map (Bg keys kids)).map V.cs))]
theorem WT (keys : List ByteArray) (kids : List V) (hl : keys.length = kids.length) (hb : keys.length ≤ 900000) (hs : ∀ k ∈ keys, k.size ≤ 9223372036854775807) : AC Tryz.prog 203 [.c (.sl (keys.map Ad)), .c (.sl (kids.map V.cs))] [] (a09 keys kids) [] := by
  have hlk : (keys.map Ad).length = keys.length := by simp
  have ht := Tryz.underlying290
  have hk := Tryz.underlying9
  have hz : ∃ z, ∀ w, (zeroValue 127).run Tryz.prog w = .ok z w := ⟨_, Tryz.zeroValue127⟩
  unfold a09
  refine AK Tryz.func203 Tryz.ntmps203 ?_
  refine Ga q9 ?_
  refine Dk ?_
  refine Ga q9 ?_
  refine Dk ?_
  (apply (WY hk); (iterate 4 (focus (first | (simp only [go_sem, Nat.reduceEqDiff, Nat.reduceAdd, Nat.reduceSub, Nat.reduceLeDiff, Nat.reduceMul, Nat.reduceBEq, Nat.reduceLT, Int.reduceToNat, reduceCtorEq]; first | done | exact rfl | (and_intros <;> rfl)) | exact rfl | decide))))
  refine Ga q9 ?_
  refine Dk ?_
  refine Ga hlk ?_
  refine Ar (κ := Nat) (fun k => ⟨mkS 0 60 [(1, .c (.sl (kids.map V.cs))), (4, .ptr (4, 0) 0), (5, .own (99, 0)), (13, .c (.sl (keys.map Ad))), (14, .c (.int .i64 keys.length)), (15, .c (.int .i64 k))],
      [((4, 0), .box [.c (.int .i64 0), .c (.int .i64 0), .c (.str ByteArray.empty), .nils, .nils]), ((99, 0), .blk (FF Tryz.prog 9 (keys.take k)) ((kids.take k).map V.cs))]⟩)
    (fun k => k ≤ keys.length) (fun k => keys.length - k) 0 (Nat.zero_le _) ?_ ?_
  · (apply (Ah.of [((4, 0), (4, 0)), ((99, 0), (12, 0))] []); (iterate 2 ((focus (simp only [go_sem, Nat.reduceEqDiff, Nat.reduceAdd, Nat.reduceSub, Nat.reduceLeDiff, Nat.reduceMul, Nat.reduceBEq, Nat.reduceLT, Int.reduceToNat, reduceCtorEq, List.take_zero]; try (and_intros <;> rfl))); (focus exact rfl))); (iterate 4 (focus (simp [go_sem, List.take_zero]; done))))
  · intro k hk1
    by_cases hlt : k < keys.length
    · have hdk : decide ((k : Int) < (keys.length : Int)) = true := by simpa using hlt
      have hlt2 : k < kids.length := by omega
      have hw := Af (k := k) (by omega)
      have hr : Aa (keys.map Ad) 1 k = true := by simp [Aa, hlt, Ad]
      have hg : (keys.map Ad)[k]? = some [.str keys[k]] := by simp [hlt, Ad]
      have hr2 : Aa (kids.map V.cs) 5 k = true := by simp [Aa, hlt2, V.cs_eq]
      have hg2 : (kids.map V.cs)[k]? = some [.int .i64 kids[k].kind, .int .i64 kids[k].num, .str kids[k].text, .sl (kids[k].keys.map Ad), .sl (kids[k].kids.map V.cs)] := by simp [hlt2, V.cs_eq]
      have hsk := hs keys[k] (List.getElem_mem hlt)
      have hkn : (keys.take k).length < 9223372036854775807 := by rw [List.length_take]; omega
      have e1 : keys.take k ++ [keys[k]] = keys.take (k + 1) := by rw [List.take_succ_eq_append_getElem hlt]
      have e2 : (kids.take k).map V.cs ++ [[.int .i64 kids[k].kind, .int .i64 kids[k].num, .str kids[k].text, .sl (kids[k].keys.map Ad), .sl (kids[k].kids.map V.cs)]] = (kids.take (k + 1)).map V.cs := by rw [List.take_succ_eq_append_getElem hlt2, List.map_append, List.map_cons, List.map_nil, V.cs_eq]
      generalize keys[k] = s at *
      generalize kids[k] = v at *
      refine Ac (j5 hdk hr hg hr2 hg2) ?_
      (apply (WX ht hk hkn hsk); (iterate 8 (focus (first | (simp only [go_sem, Nat.reduceEqDiff, Nat.reduceAdd, Nat.reduceSub, Nat.reduceLeDiff, Nat.reduceMul, Nat.reduceBEq, Nat.reduceLT, Int.reduceToNat, reduceCtorEq]; first | done | exact rfl | (and_intros <;> rfl)) | exact rfl | decide))))
      refine Ac hw ?_
      refine ⟨k + 1, by omega, by omega, ?_⟩
      exact Ab (Ah.of [((4, 0), (4, 0)), ((99, 0), (99, 0))] []) (j2 e1 e2)
    · have hdk : decide ((k : Int) < (keys.length : Int)) = false := by simpa using hlt
      have hke : k = keys.length := by omega
      have e1 : keys.take k = keys := by rw [hke, List.take_length]
      have e2 : kids.take k = kids := by rw [hke, hl, List.take_length]
      rw [e1, e2]
      refine Ga q9 ?_
      refine Dk ?_
      refine Ga hdk ?_
      refine Dk ?_
      refine Ga q9 ?_
      refine Gj ?_
      (repeat ((with_reducible apply OH); (iterate 2 (focus (first | (simp only [go_sem, Nat.reduceEqDiff, Nat.reduceAdd, Nat.reduceSub, Nat.reduceLeDiff, Nat.reduceMul, Nat.reduceBEq, Nat.reduceLT, Int.reduceToNat, reduceCtorEq]; first | done | exact rfl | (and_intros <;> rfl)) | exact rfl | decide)))))
      (apply (ZY ht hk); (focus (first | (simp only [go_sem, Nat.reduceEqDiff, Nat.reduceAdd, Nat.reduceSub, Nat.reduceLeDiff, Nat.reduceMul, Nat.reduceBEq, Nat.reduceLT, Int.reduceToNat, reduceCtorEq]; first | done | exact rfl | (and_intros <;> rfl)) | exact rfl | decide)); (focus (first | (simp only [go_sem, Nat.reduceEqDiff, Nat.reduceAdd, Nat.reduceSub, Nat.reduceLeDiff, Nat.reduceMul, Nat.reduceBEq, Nat.reduceLT, Int.reduceToNat, reduceCtorEq]; first | done | exact rfl | (and_intros <;> rfl)) | exact rfl | decide)); (focus (first | (simp only [go_sem, Nat.reduceEqDiff, Nat.reduceAdd, Nat.reduceSub, Nat.reduceLeDiff, Nat.reduceMul, Nat.reduceBEq, Nat.reduceLT, Int.reduceToNat, reduceCtorEq]; first | done | exact rfl | (and_intros <;> rfl)) | exact rfl | decide)); (focus (intro es clock b; (focus (first | (simp only [go_sem, Nat.reduceEqDiff, Nat.reduceAdd, Nat.reduceSub, Nat.reduceLeDiff, Nat.reduceMul, Nat.reduceBEq, Nat.reduceLT, Int.reduceToNat, reduceCtorEq]; first | done | exact rfl | (and_intros <;> rfl)) | exact rfl | decide)))))
      intro es clock b G
      refine Lh ?_
      dsimp only
      have hz0 : ([] : List ByteArray).map Ad = [] := rfl
      refine Ar (κ := List ByteArray) (fun vis => ⟨mkS 0 60 [(4, .ptr (4, 0) 0), (5, .own (99, 0)), (8, .ptr (8, 0) 0), (29, .own (97, 0))],
          [((4, 0), .box [.c (.int .i64 0), .c (.int .i64 0), .c (.str ByteArray.empty), .nils, .nils]), ((99, 0), .blk (Jo Tryz.prog 9 keys es clock b) (kids.map V.cs)), ((8, 0), .box [.c (.int .i64 6), .c (.int .i64 0), .c (.str ByteArray.empty), .own (98, 0), .nils]), ((98, 0), .row false 1 9 (vis.map Ad)), ((97, 0), .blk (FA es clock b vis) [])]⟩)
        (fun vis => vis.Nodup ∧ (∀ k ∈ vis, k ∈ keys) ∧ vis.length + JB keys vis ≤ keys.length) (fun vis => JB keys vis) [] ⟨by simp, by simp, by rw [UM]; simp⟩ ?_ ?_
      · exact Ab (Ah.of [((4, 0), (4, 0)), ((99, 0), (99, 0)), ((8, 0), (8, 0)), ((97, 0), (29, 0))] []) hz0
      · rintro vis ⟨hnd, hsub, hcnt⟩
        refine Ga q9 ?_
        refine Gj ?_
        (apply (a08 (99, 0) hk G); (focus (first | (simp only [go_sem, Nat.reduceEqDiff, Nat.reduceAdd, Nat.reduceSub, Nat.reduceLeDiff, Nat.reduceMul, Nat.reduceBEq, Nat.reduceLT, Int.reduceToNat, reduceCtorEq]; first | done | exact rfl | (and_intros <;> rfl)) | exact rfl | decide)); (focus (first | (simp only [go_sem, Nat.reduceEqDiff, Nat.reduceAdd, Nat.reduceSub, Nat.reduceLeDiff, Nat.reduceMul, Nat.reduceBEq, Nat.reduceLT, Int.reduceToNat, reduceCtorEq]; first | done | exact rfl | (and_intros <;> rfl)) | exact rfl | decide)); (focus (first | (simp only [go_sem, Nat.reduceEqDiff, Nat.reduceAdd, Nat.reduceSub, Nat.reduceLeDiff, Nat.reduceMul, Nat.reduceBEq, Nat.reduceLT, Int.reduceToNat, reduceCtorEq]; first | done | exact rfl | (and_intros <;> rfl)) | exact rfl | decide)); (focus (first | (simp only [go_sem, Nat.reduceEqDiff, Nat.reduceAdd, Nat.reduceSub, Nat.reduceLeDiff, Nat.reduceMul, Nat.reduceBEq, Nat.reduceLT, Int.reduceToNat, reduceCtorEq]; first | done | exact rfl | (and_intros <;> rfl)) | exact rfl | decide)); (focus (intro k; (focus (first | (simp only [go_sem, Nat.reduceEqDiff, Nat.reduceAdd, Nat.reduceSub, Nat.reduceLeDiff, Nat.reduceMul, Nat.reduceBEq, Nat.reduceLT, Int.reduceToNat, reduceCtorEq]; first | done | exact rfl | (and_intros <;> rfl)) | exact rfl | decide)))))
        · intro hall
          (repeat ((with_reducible apply OH); (iterate 2 (focus (first | (simp only [go_sem, Nat.reduceEqDiff, Nat.reduceAdd, Nat.reduceSub, Nat.reduceLeDiff, Nat.reduceMul, Nat.reduceBEq, Nat.reduceLT, Int.reduceToNat, reduceCtorEq]; first | done | exact rfl | (and_intros <;> rfl)) | exact rfl | decide)))))
          refine Lh ?_
          dsimp only
          have hsv := UD hnd fun x => ⟨hsub x, hall x⟩
          have hso := Sm vis (by omega)
          rw [hsv] at hso
          have hkl := Lj keys
          have hkm := fun x => DX (keys := keys) (x := x)
          obtain ⟨ks, hks⟩ : ∃ ks, BR keys = ks := ⟨_, rfl⟩
          rw [hks] at hso hkl hkm ⊢
          have hlks : (ks.map Ad).length = ks.length := by simp
          have hz1 : ((ks.take 0).map (Bg keys kids)).map V.cs = [] := rfl
          refine Ga q9 ?_
          refine Dk ?_
          refine Ac q9 ?_
          refine v9 (N0 (98, 0) hso) q9 hlks ?_
          refine Ar (κ := Nat) (fun k => ⟨mkS 0 60 [(4, .ptr (4, 0) 0), (5, .own (99, 0)), (8, .ptr (8, 0) 0), (44, .own (98, 0)), (45, .c (.int .i64 ks.length)), (46, .c (.int .i64 k))],
              [((4, 0), .box [.c (.int .i64 0), .c (.int .i64 0), .c (.str ByteArray.empty), .nils, .nils]), ((99, 0), .blk (Jo Tryz.prog 9 keys es clock b) (kids.map V.cs)), ((8, 0), .box [.c (.int .i64 6), .c (.int .i64 0), .c (.str ByteArray.empty), .own (98, 0), .own (96, 0)]), ((98, 0), .row false 1 9 (ks.map Ad)), ((96, 0), .row false 5 127 (((ks.take k).map (Bg keys kids)).map V.cs))]⟩)
            (fun k => k ≤ ks.length) (fun k => ks.length - k) 0 (Nat.zero_le _) ?_ ?_
          · exact Ab (Ah.of [((4, 0), (4, 0)), ((99, 0), (99, 0)), ((8, 0), (8, 0)), ((98, 0), (98, 0))] []) hz1
          · intro k hk1
            by_cases hlt : k < ks.length
            · have hdk : decide ((k : Int) < (ks.length : Int)) = true := by simpa using hlt
              have hw := Af (k := k) (by omega)
              have hr : Aa (ks.map Ad) 1 k = true := by simp [Aa, hlt, Ad]
              have hg : (ks.map Ad)[k]? = some [.str ks[k]] := by simp [hlt, Ad]
              have hmem := (hkm ks[k]).1 (List.getElem_mem hlt)
              have hsk := hs _ hmem
              obtain ⟨j, hj1, hj2, hj3⟩ := Jj hl hmem
              have hol : (ks.take k).length + 1 ≤ 1000000 := by rw [List.length_take]; omega
              have e2 : ((ks.take k).map (Bg keys kids)).map V.cs ++ [[.int .i64 (Bg keys kids ks[k]).kind, .int .i64 (Bg keys kids ks[k]).num, .str (Bg keys kids ks[k]).text, .sl ((Bg keys kids ks[k]).keys.map Ad), .sl ((Bg keys kids ks[k]).kids.map V.cs)]] = ((ks.take (k + 1)).map (Bg keys kids)).map V.cs := by
                rw [List.take_succ_eq_append_getElem hlt, List.map_append, List.map_append, List.map_cons, List.map_cons, List.map_nil, List.map_nil, V.cs_eq]
              generalize Bg keys kids ks[k] = v at *
              have hg2 : (kids.map V.cs)[j]? = some [.int .i64 v.kind, .int .i64 v.num, .str v.text, .sl (v.keys.map Ad), .sl (v.kids.map V.cs)] := by rw [List.getElem?_map, hj3, Option.map_some, V.cs_eq]
              generalize ks[k] = s at *
              refine Ac (j3 hdk hr hg) ?_
              (apply (WW j (WC G) ht hk hz hsk hj1 hj2 hg2); (iterate 6 (focus (first | (simp only [go_sem, Nat.reduceEqDiff, Nat.reduceAdd, Nat.reduceSub, Nat.reduceLeDiff, Nat.reduceMul, Nat.reduceBEq, Nat.reduceLT, Int.reduceToNat, reduceCtorEq]; first | done | exact rfl | (and_intros <;> rfl)) | exact rfl | decide))))
              refine Ac (j2 hol hw) ?_
              refine ⟨k + 1, by omega, by omega, ?_⟩
              exact Ab (Ah.of [((4, 0), (4, 0)), ((99, 0), (99, 0)), ((8, 0), (8, 0)), ((98, 0), (98, 0)), ((96, 0), (56, 0))] []) e2
            · have hdk : decide ((k : Int) < (ks.length : Int)) = false := by simpa using hlt
              have hke : ks.take k = ks := List.take_of_length_le (by omega)
              rw [hke]
              refine Ac hdk ?_
              exact A9 (A8 [] [(98, 0), (96, 0)]) Tryz.results203 hdk
        · intro k hkk hnv
          (repeat ((with_reducible apply OH); (iterate 2 (focus (first | (simp only [go_sem, Nat.reduceEqDiff, Nat.reduceAdd, Nat.reduceSub, Nat.reduceLeDiff, Nat.reduceMul, Nat.reduceBEq, Nat.reduceLT, Int.reduceToNat, reduceCtorEq]; first | done | exact rfl | (and_intros <;> rfl)) | exact rfl | decide)))))
          refine Lh ?_
          dsimp only
          have hlen : vis.length + 1 ≤ 1000000 := by omega
          have hless := Sz hkk hnv
          refine Ga q9 ?_
          refine Gj ?_
          refine w4 (ZX (99, 0) G) q9 ?_
          (repeat ((with_reducible apply OH); (iterate 2 (focus (first | (simp only [go_sem, Nat.reduceEqDiff, Nat.reduceAdd, Nat.reduceSub, Nat.reduceLeDiff, Nat.reduceMul, Nat.reduceBEq, Nat.reduceLT, Int.reduceToNat, reduceCtorEq]; first | done | exact rfl | (and_intros <;> rfl)) | exact rfl | decide)))))
          refine Lh ?_
          dsimp only
          refine Ac hlen ?_
          refine ⟨vis ++ [k], hless, ⟨?_, ?_, ?_⟩, ?_⟩
          · rw [List.nodup_append]
            exact ⟨hnd, by simp, fun a ha b hb' => by have : b = k := by simpa using hb'
                                                      subst this
                                                      exact fun e => hnv (e ▸ ha)⟩
          · intro x hx
            rcases List.mem_append.1 hx with hx | hx
            · exact hsub x hx
            · have : x = k := by simpa using hx
              subst this
              exact hkk
          · rw [List.length_append, List.length_singleton]
            omega
          · (apply (Ah.of [((4, 0), (4, 0)), ((99, 0), (99, 0)), ((8, 0), (8, 0)), ((98, 0), (38, 0)), ((97, 0), (97, 0))] []); (iterate 2 ((focus (simp only [go_sem, Nat.reduceEqDiff, Nat.reduceAdd, Nat.reduceSub, Nat.reduceLeDiff, Nat.reduceMul, Nat.reduceBEq, Nat.reduceLT, Int.reduceToNat, reduceCtorEq, List.map_append, Ad]; try (and_intros <;> rfl))); (focus exact rfl))); (iterate 4 (focus (simp [go_sem, List.map_append, Ad]; done))))
theorem WU (keys:List ByteArray) (kids:List V):a09 keys kids=(Ht keys kids).av:=rfl
end
end Go.Proofs.YtcejfdfmgmcinaaGreat
