/- Texts of this proof: G46 G47. -/
import Derived.Test.YtcejfdfmgmcinaaGreatKK21uS02
import Derived.Shelf.SortM.Plain
import Derived.Shelf.SortM.SortNone
import Derived.Sort.OwnSorted
set_option linter.all false
set_option maxHeartbeats 8000000
namespace Go.Proofs.YtcejfdfmgmcinaaGreat
section
open Go.RowKit Go.Sort
set_option maxRecDepth 10000
theorem MW (x y:List UInt8):decide (x≤y) = !Op.bytesLess y x:=by
 rw[bytesLess_eq]
 by_cases h:y<x
 ·have:¬x≤y:=fun h2=>h2 h
  simp[h,this]
 ·have:x≤y:=h
  simp[h,this]
theorem Ze (l:List ByteArray) (x:ByteArray):x∈Hj l↔x∈l:=by
 unfold Hj
 rw[List.mem_map]
 constructor
 ·rintro⟨y,hy,rfl⟩
  obtain⟨b,hb,rfl⟩:=List.mem_map.1 ((List.mergeSort_perm _ _).mem_iff.1 hy)
  exact hb
 ·intro h
  exact⟨x.data.toList,(List.mergeSort_perm _ _).mem_iff.2 (List.mem_map.2 ⟨x,h,rfl⟩),rfl⟩
theorem Zd (l:List ByteArray):(Hj l).length=l.length:=by
 unfold Hj
 rw[List.length_map,(List.mergeSort_perm _ _).length_eq,List.length_map]
theorem a09 {l:List ByteArray}(hn:l.Nodup):Up (Hj l):=by
 unfold Up Hj
 rw[List.pairwise_map]
 have hs:=List.pairwise_mergeSort (le:=fun x y:List UInt8=>decide (x≤y)) (fun a b c h1 h2=>by
  rw[MW]at h1 h2 ⊢
  cases h3:Op.bytesLess c a with
  |false=>rfl
  |true =>
   rcases DF a b with h | h | h
   ·rw[Ct h3 h]at h2;exact h2
   ·subst h;rw[h3]at h2;exact h2
   ·rw[h]at h1;exact h1) (fun a b=>by
  rw[MW,MW]
  rcases DF a b with h | h | h
  ·have:Op.bytesLess b a=false:=by
    cases h2:Op.bytesLess b a with
    |false=>rfl
    |true=>have:=Ct h h2;rw[Bz]at this;cases this
   simp[this]
  ·subst h;simp[Bz]
  ·have:Op.bytesLess a b=false:=by
    cases h2:Op.bytesLess a b with
    |false=>rfl
    |true=>have:=Ct h h2;rw[Bz]at this;cases this
   simp[this]) (l.map fun b=>b.data.toList)
 have hnd:((l.map fun b=>b.data.toList).mergeSort fun x y=>decide (x≤y)).Nodup:=by
  refine (List.mergeSort_perm _ _).nodup_iff.2 ?_
  refine List.pairwise_map.2 (hn.imp fun {a b} h e=>h ?_)
  exact AM (by rw[ByteArray.toList_eq,ByteArray.toList_eq];exact e)
 refine (hs.and hnd).imp fun {a b} h=>?_
 rw[MW]at h
 unfold AZ
 rw[ByteArray.toList_eq,ByteArray.toList_eq]
 rcases DF a b with g | g | g
 ·exact g
 ·exact absurd g h.2
 ·rw[g]at h;exact absurd h.1 (by simp)
theorem We {vis keys:List ByteArray}(hn:vis.Nodup) (h:∀x,x∈vis↔x∈keys):Hj vis=C3 keys:=a3t (a09 hn) (Kn keys) fun x=>by rw[Ze,Ez];exact h x
theorem PB {w:World}{S:Nat→Prop}{l:List ByteArray}{vs:List (List Value)}{bs:List Nat}:An w S (l.map Ae) vs bs↔vs=l.map (fun x=>[Value.string x])∧bs=[]:=H2 WB
theorem YW (l:List ByteArray):∀x∈l.map (fun x=>[Value.string x]),x.length=1:=fun x hx=>by
 obtain⟨y,_,rfl⟩:=List.mem_map.1 hx
 rfl
theorem PH (l:List ByteArray):(l.map fun x=>[Value.string x]).flatten=(l.map fun b=>b.data.toList).map encStr:=by
 induction l with
 |nil=>rfl
 |cons x l ih=>simp only[List.map_cons,List.flatten_cons,ih,List.singleton_append]
theorem Ma (l:List ByteArray):Bm (l.map Ae)=true:=by
 induction l with
 |nil=>rfl
 |cons x l ih=>simp only[List.map_cons,Bm,ih,Bool.and_true];rfl
attribute [go_sem] Ma
theorem TT (l:List ByteArray) (hl:l.length≤1000000):AC Tryz.prog 278 [.own (0,0)] [((0,0),.row false 1 9 (l.map Ae))] (.tup []) [((0,0),.row false 1 9 ((Hj l).map Ae))]:=by
 refine AC.of_mut (Ma _) fun S w v vrows h1 h2 h3=>?_
 obtain⟨rfl,_⟩:=PB.1 h1
 rw[PH,List.length_map]at h3
 have hsl:=Zd l
 have hll:(l.map fun b=>b.data.toList).length=l.length:=by simp
 rcases h3.2 with⟨rfl,h0⟩ | ⟨g,cap,cur,rfl,hb,hg,hc,hm,hs,ht⟩
 ·have hl0:l=[]:=List.eq_nil_of_length_eq_zero h0
  subst hl0
  have e0:Hj []=[]:=by simp[Hj]
  rw[e0]
  refine (AnyM.slices_Sort_string_none OA none 0 w).mono ?_
  rintro e1 w' ⟨rfl,rfl⟩
  exact⟨rfl,⟨rfl,rfl,rfl,Nat.le_refl _,fun _ _ _=>rfl⟩,[],⟨rfl,rfl⟩,by simp,World.ownsRow_nil _ _ _ _⟩
 ·rw[Nat.mul_one,←hll]at ht
  have hH:=holds_of_block hg ht
  have hcall:=AnyM.slices_Sort_string OA g 0 cap (l.map fun b=>b.data.toList) w hH (Array.getElem?_eq_some_iff.1 hg).1 (by rw[hll];omega)
  rw[hll]at hcall
  refine hcall.mono ?_
  rintro e1 w' ⟨rfl,n,os,rfl⟩
  refine⟨rfl,grownBy_sorted _,(Hj l).map (fun x=>[Value.string x]),PB.2 ⟨rfl,rfl⟩,YW _,?_⟩
  have hmap:((Hj l).map fun b=>b.data.toList)=(l.map fun b=>b.data.toList).mergeSort fun x y=>decide (x≤y):=by
   unfold Hj
   rw[List.map_map]
   exact List.map_id'' (fun x=>rfl) _
  rw[PH,hmap,List.length_map,hsl]
  have hts:((l.map fun b=>b.data.toList).mergeSort fun x y=>decide (x≤y)).length=(l.map fun b=>b.data.toList).length:=(List.mergeSort_perm _ _).length_eq
  generalize ((l.map fun b=>b.data.toList).mergeSort fun x y=>decide (x≤y))=ts at *
  generalize (l.map fun b=>b.data.toList)=ss at *
  have:=ownsRow_sorted (w:=w) (os:=os) (n:=n) (base:=0) hts hb hg (by rw[hll];exact hc) hm hs
  rw[hll]at this
  exact this
end
section
open Go.RowKit
set_option maxRecDepth 10000
def a42 (keys:List ByteArray) (kids:List V):AV:=.agg [.c (.int .i64 6),.c (.int .i64 0),.c (.str ByteArray.empty),.c (.sl ((C3 keys).map Ae)),.c (.sl (((C3 keys).map (Bp keys kids)).map V.cs))]
theorem Q5 (keys : List ByteArray) (kids : List V) (hl : keys.length = kids.length) (hb : keys.length ≤ 900000) (hs : ∀ k ∈ keys, k.size ≤ 9223372036854775807) : AC Tryz.prog 203 [.c (.sl (keys.map Ae)), .c (.sl (kids.map V.cs))] [] (a42 keys kids) [] := by
  have hlk : (keys.map Ae).length = keys.length := by simp
  have ht := Tryz.underlying290
  have hk := Tryz.underlying9
  have hz : ∃ z, ∀ w, (zeroValue 127).run Tryz.prog w = .ok z w := ⟨_, Tryz.zeroValue127⟩
  unfold a42
  refine AA Tryz.func203 Tryz.ntmps203 ?_
  refine FF q9 ?_
  refine CV ?_
  refine FF q9 ?_
  refine CV ?_
  (apply (YI hk); (iterate 4 (focus (first | (simp only [go_sem, Nat.reduceEqDiff, Nat.reduceAdd, Nat.reduceSub, Nat.reduceLeDiff, Nat.reduceMul, Nat.reduceBEq, Nat.reduceLT, Int.reduceToNat, reduceCtorEq]; first | done | exact rfl | (and_intros <;> rfl)) | exact rfl | decide))))
  refine FF q9 ?_
  refine CV ?_
  refine FF hlk ?_
  refine Ar (κ := Nat) (fun k => ⟨mkS 0 60 [(1, .c (.sl (kids.map V.cs))), (4, .ptr (4, 0) 0), (5, .own (99, 0)), (13, .c (.sl (keys.map Ae))), (14, .c (.int .i64 keys.length)), (15, .c (.int .i64 k))],
      [((4, 0), .box [.c (.int .i64 0), .c (.int .i64 0), .c (.str ByteArray.empty), .nils, .nils]), ((99, 0), .blk (Gl Tryz.prog 9 (keys.take k)) ((kids.take k).map V.cs))]⟩)
    (fun k => k ≤ keys.length) (fun k => keys.length - k) 0 (Nat.zero_le _) ?_ ?_
  · (apply (Aj.of [((4, 0), (4, 0)), ((99, 0), (12, 0))] []); (iterate 2 ((focus (simp only [go_sem, Nat.reduceEqDiff, Nat.reduceAdd, Nat.reduceSub, Nat.reduceLeDiff, Nat.reduceMul, Nat.reduceBEq, Nat.reduceLT, Int.reduceToNat, reduceCtorEq, List.take_zero]; try (and_intros <;> rfl))); (focus exact rfl))); (iterate 4 (focus (simp [go_sem, List.take_zero]; done))))
  · intro k hk1
    by_cases hlt : k < keys.length
    · have hdk : decide ((k : Int) < (keys.length : Int)) = true := by simpa using hlt
      have hlt2 : k < kids.length := by omega
      have hw := Ad (k := k) (by omega)
      have hr : A8 (keys.map Ae) 1 k = true := by simp [A8, hlt, Ae]
      have hg : (keys.map Ae)[k]? = some [.str keys[k]] := by simp [hlt, Ae]
      have hr2 : A8 (kids.map V.cs) 5 k = true := by simp [A8, hlt2, V.cs_eq]
      have hg2 : (kids.map V.cs)[k]? = some [.int .i64 kids[k].kind, .int .i64 kids[k].num, .str kids[k].text, .sl (kids[k].keys.map Ae), .sl (kids[k].kids.map V.cs)] := by simp [hlt2, V.cs_eq]
      have hsk := hs keys[k] (List.getElem_mem hlt)
      have hkn : (keys.take k).length < 9223372036854775807 := by rw [List.length_take]; omega
      have e1 : keys.take k ++ [keys[k]] = keys.take (k + 1) := by rw [List.take_succ_eq_append_getElem hlt]
      have e2 : (kids.take k).map V.cs ++ [[.int .i64 kids[k].kind, .int .i64 kids[k].num, .str kids[k].text, .sl (kids[k].keys.map Ae), .sl (kids[k].kids.map V.cs)]] = (kids.take (k + 1)).map V.cs := by rw [List.take_succ_eq_append_getElem hlt2, List.map_append, List.map_cons, List.map_nil, V.cs_eq]
      generalize keys[k] = s at *
      generalize kids[k] = v at *
      refine Ab (j5 hdk hr hg hr2 hg2) ?_
      (apply (YH ht hk hkn hsk); (iterate 8 (focus (first | (simp only [go_sem, Nat.reduceEqDiff, Nat.reduceAdd, Nat.reduceSub, Nat.reduceLeDiff, Nat.reduceMul, Nat.reduceBEq, Nat.reduceLT, Int.reduceToNat, reduceCtorEq]; first | done | exact rfl | (and_intros <;> rfl)) | exact rfl | decide))))
      refine Ab hw ?_
      refine ⟨k + 1, by omega, by omega, ?_⟩
      exact Ac (Aj.of [((4, 0), (4, 0)), ((99, 0), (99, 0))] []) (j2 e1 e2)
    · have hdk : decide ((k : Int) < (keys.length : Int)) = false := by simpa using hlt
      have hke : k = keys.length := by omega
      have e1 : keys.take k = keys := by rw [hke, List.take_length]
      have e2 : kids.take k = kids := by rw [hke, hl, List.take_length]
      rw [e1, e2]
      refine FF q9 ?_
      refine CV ?_
      refine FF hdk ?_
      refine CV ?_
      refine FF q9 ?_
      refine FR ?_
      (repeat ((with_reducible apply O7); (iterate 2 (focus (first | (simp only [go_sem, Nat.reduceEqDiff, Nat.reduceAdd, Nat.reduceSub, Nat.reduceLeDiff, Nat.reduceMul, Nat.reduceBEq, Nat.reduceLT, Int.reduceToNat, reduceCtorEq]; first | done | exact rfl | (and_intros <;> rfl)) | exact rfl | decide)))))
      (apply (a2n ht hk); (focus (first | (simp only [go_sem, Nat.reduceEqDiff, Nat.reduceAdd, Nat.reduceSub, Nat.reduceLeDiff, Nat.reduceMul, Nat.reduceBEq, Nat.reduceLT, Int.reduceToNat, reduceCtorEq]; first | done | exact rfl | (and_intros <;> rfl)) | exact rfl | decide)); (focus (first | (simp only [go_sem, Nat.reduceEqDiff, Nat.reduceAdd, Nat.reduceSub, Nat.reduceLeDiff, Nat.reduceMul, Nat.reduceBEq, Nat.reduceLT, Int.reduceToNat, reduceCtorEq]; first | done | exact rfl | (and_intros <;> rfl)) | exact rfl | decide)); (focus (first | (simp only [go_sem, Nat.reduceEqDiff, Nat.reduceAdd, Nat.reduceSub, Nat.reduceLeDiff, Nat.reduceMul, Nat.reduceBEq, Nat.reduceLT, Int.reduceToNat, reduceCtorEq]; first | done | exact rfl | (and_intros <;> rfl)) | exact rfl | decide)); (focus (intro es clock b; (focus (first | (simp only [go_sem, Nat.reduceEqDiff, Nat.reduceAdd, Nat.reduceSub, Nat.reduceLeDiff, Nat.reduceMul, Nat.reduceBEq, Nat.reduceLT, Int.reduceToNat, reduceCtorEq]; first | done | exact rfl | (and_intros <;> rfl)) | exact rfl | decide)))))
      intro es clock b G
      refine JO ?_
      dsimp only
      have hz0 : ([] : List ByteArray).map Ae = [] := rfl
      refine Ar (κ := List ByteArray) (fun vis => ⟨mkS 0 60 [(4, .ptr (4, 0) 0), (5, .own (99, 0)), (8, .ptr (8, 0) 0), (29, .own (97, 0))],
          [((4, 0), .box [.c (.int .i64 0), .c (.int .i64 0), .c (.str ByteArray.empty), .nils, .nils]), ((99, 0), .blk (Kl Tryz.prog 9 keys es clock b) (kids.map V.cs)), ((8, 0), .box [.c (.int .i64 6), .c (.int .i64 0), .c (.str ByteArray.empty), .own (98, 0), .nils]), ((98, 0), .row false 1 9 (vis.map Ae)), ((97, 0), .blk (Gh es clock b vis) [])]⟩)
        (fun vis => vis.Nodup ∧ (∀ k ∈ vis, k ∈ keys) ∧ vis.length + Kw keys vis ≤ keys.length) (fun vis => Kw keys vis) [] ⟨by simp, by simp, by rw [Wm]; simp⟩ ?_ ?_
      · exact Ac (Aj.of [((4, 0), (4, 0)), ((99, 0), (99, 0)), ((8, 0), (8, 0)), ((97, 0), (29, 0))] []) hz0
      · rintro vis ⟨hnd, hsub, hcnt⟩
        refine FF q9 ?_
        refine FR ?_
        (apply (a40 (99, 0) hk G); (focus (first | (simp only [go_sem, Nat.reduceEqDiff, Nat.reduceAdd, Nat.reduceSub, Nat.reduceLeDiff, Nat.reduceMul, Nat.reduceBEq, Nat.reduceLT, Int.reduceToNat, reduceCtorEq]; first | done | exact rfl | (and_intros <;> rfl)) | exact rfl | decide)); (focus (first | (simp only [go_sem, Nat.reduceEqDiff, Nat.reduceAdd, Nat.reduceSub, Nat.reduceLeDiff, Nat.reduceMul, Nat.reduceBEq, Nat.reduceLT, Int.reduceToNat, reduceCtorEq]; first | done | exact rfl | (and_intros <;> rfl)) | exact rfl | decide)); (focus (first | (simp only [go_sem, Nat.reduceEqDiff, Nat.reduceAdd, Nat.reduceSub, Nat.reduceLeDiff, Nat.reduceMul, Nat.reduceBEq, Nat.reduceLT, Int.reduceToNat, reduceCtorEq]; first | done | exact rfl | (and_intros <;> rfl)) | exact rfl | decide)); (focus (first | (simp only [go_sem, Nat.reduceEqDiff, Nat.reduceAdd, Nat.reduceSub, Nat.reduceLeDiff, Nat.reduceMul, Nat.reduceBEq, Nat.reduceLT, Int.reduceToNat, reduceCtorEq]; first | done | exact rfl | (and_intros <;> rfl)) | exact rfl | decide)); (focus (intro k; (focus (first | (simp only [go_sem, Nat.reduceEqDiff, Nat.reduceAdd, Nat.reduceSub, Nat.reduceLeDiff, Nat.reduceMul, Nat.reduceBEq, Nat.reduceLT, Int.reduceToNat, reduceCtorEq]; first | done | exact rfl | (and_intros <;> rfl)) | exact rfl | decide)))))
        · intro hall
          (repeat ((with_reducible apply O7); (iterate 2 (focus (first | (simp only [go_sem, Nat.reduceEqDiff, Nat.reduceAdd, Nat.reduceSub, Nat.reduceLeDiff, Nat.reduceMul, Nat.reduceBEq, Nat.reduceLT, Int.reduceToNat, reduceCtorEq]; first | done | exact rfl | (and_intros <;> rfl)) | exact rfl | decide)))))
          refine JO ?_
          dsimp only
          have hsv := We hnd fun x => ⟨hsub x, hall x⟩
          have hso := TT vis (by omega)
          rw [hsv] at hso
          have hkl := My keys
          have hkm := fun x => Ez (keys := keys) (x := x)
          obtain ⟨ks, hks⟩ : ∃ ks, C3 keys = ks := ⟨_, rfl⟩
          rw [hks] at hso hkl hkm ⊢
          have hlks : (ks.map Ae).length = ks.length := by simp
          have hz1 : ((ks.take 0).map (Bp keys kids)).map V.cs = [] := rfl
          refine FF q9 ?_
          refine CV ?_
          refine Ab q9 ?_
          refine v9 (Oe (98, 0) hso) q9 hlks ?_
          refine Ar (κ := Nat) (fun k => ⟨mkS 0 60 [(4, .ptr (4, 0) 0), (5, .own (99, 0)), (8, .ptr (8, 0) 0), (44, .own (98, 0)), (45, .c (.int .i64 ks.length)), (46, .c (.int .i64 k))],
              [((4, 0), .box [.c (.int .i64 0), .c (.int .i64 0), .c (.str ByteArray.empty), .nils, .nils]), ((99, 0), .blk (Kl Tryz.prog 9 keys es clock b) (kids.map V.cs)), ((8, 0), .box [.c (.int .i64 6), .c (.int .i64 0), .c (.str ByteArray.empty), .own (98, 0), .own (96, 0)]), ((98, 0), .row false 1 9 (ks.map Ae)), ((96, 0), .row false 5 127 (((ks.take k).map (Bp keys kids)).map V.cs))]⟩)
            (fun k => k ≤ ks.length) (fun k => ks.length - k) 0 (Nat.zero_le _) ?_ ?_
          · exact Ac (Aj.of [((4, 0), (4, 0)), ((99, 0), (99, 0)), ((8, 0), (8, 0)), ((98, 0), (98, 0))] []) hz1
          · intro k hk1
            by_cases hlt : k < ks.length
            · have hdk : decide ((k : Int) < (ks.length : Int)) = true := by simpa using hlt
              have hw := Ad (k := k) (by omega)
              have hr : A8 (ks.map Ae) 1 k = true := by simp [A8, hlt, Ae]
              have hg : (ks.map Ae)[k]? = some [.str ks[k]] := by simp [hlt, Ae]
              have hmem := (hkm ks[k]).1 (List.getElem_mem hlt)
              have hsk := hs _ hmem
              obtain ⟨j, hj1, hj2, hj3⟩ := Kg hl hmem
              have hol : (ks.take k).length + 1 ≤ 1000000 := by rw [List.length_take]; omega
              have e2 : ((ks.take k).map (Bp keys kids)).map V.cs ++ [[.int .i64 (Bp keys kids ks[k]).kind, .int .i64 (Bp keys kids ks[k]).num, .str (Bp keys kids ks[k]).text, .sl ((Bp keys kids ks[k]).keys.map Ae), .sl ((Bp keys kids ks[k]).kids.map V.cs)]] = ((ks.take (k + 1)).map (Bp keys kids)).map V.cs := by
                rw [List.take_succ_eq_append_getElem hlt, List.map_append, List.map_append, List.map_cons, List.map_cons, List.map_nil, List.map_nil, V.cs_eq]
              generalize Bp keys kids ks[k] = v at *
              have hg2 : (kids.map V.cs)[j]? = some [.int .i64 v.kind, .int .i64 v.num, .str v.text, .sl (v.keys.map Ae), .sl (v.kids.map V.cs)] := by rw [List.getElem?_map, hj3, Option.map_some, V.cs_eq]
              generalize ks[k] = s at *
              refine Ab (j3 hdk hr hg) ?_
              (apply (YG j (Ym G) ht hk hz hsk hj1 hj2 hg2); (iterate 6 (focus (first | (simp only [go_sem, Nat.reduceEqDiff, Nat.reduceAdd, Nat.reduceSub, Nat.reduceLeDiff, Nat.reduceMul, Nat.reduceBEq, Nat.reduceLT, Int.reduceToNat, reduceCtorEq]; first | done | exact rfl | (and_intros <;> rfl)) | exact rfl | decide))))
              refine Ab (j2 hol hw) ?_
              refine ⟨k + 1, by omega, by omega, ?_⟩
              exact Ac (Aj.of [((4, 0), (4, 0)), ((99, 0), (99, 0)), ((8, 0), (8, 0)), ((98, 0), (98, 0)), ((96, 0), (56, 0))] []) e2
            · have hdk : decide ((k : Int) < (ks.length : Int)) = false := by simpa using hlt
              have hke : ks.take k = ks := List.take_of_length_le (by omega)
              rw [hke]
              refine Ab hdk ?_
              exact Aa (A9 [] [(98, 0), (96, 0)]) Tryz.results203 hdk
        · intro k hkk hnv
          (repeat ((with_reducible apply O7); (iterate 2 (focus (first | (simp only [go_sem, Nat.reduceEqDiff, Nat.reduceAdd, Nat.reduceSub, Nat.reduceLeDiff, Nat.reduceMul, Nat.reduceBEq, Nat.reduceLT, Int.reduceToNat, reduceCtorEq]; first | done | exact rfl | (and_intros <;> rfl)) | exact rfl | decide)))))
          refine JO ?_
          dsimp only
          have hlen : vis.length + 1 ≤ 1000000 := by omega
          have hless := U7 hkk hnv
          refine FF q9 ?_
          refine FR ?_
          refine w4 (a2m (99, 0) G) q9 ?_
          (repeat ((with_reducible apply O7); (iterate 2 (focus (first | (simp only [go_sem, Nat.reduceEqDiff, Nat.reduceAdd, Nat.reduceSub, Nat.reduceLeDiff, Nat.reduceMul, Nat.reduceBEq, Nat.reduceLT, Int.reduceToNat, reduceCtorEq]; first | done | exact rfl | (and_intros <;> rfl)) | exact rfl | decide)))))
          refine JO ?_
          dsimp only
          refine Ab hlen ?_
          refine ⟨vis ++ [k], hless, ⟨?_, ?_, ?_⟩, ?_⟩
          · rw [List.nodup_append]
            exact ⟨hnd, by simp, fun a ha b hb' => by have : b = k := by simpa using hb'
                                                      subst this
                                                      exact fun e => hnv (e ▸ ha)⟩
          · intro x hx
            rcases List.mem_append.1 hx with hx | hx
            · exact hsub x hx
            · have : x = k := by simpa using hx
              subst this
              exact hkk
          · rw [List.length_append, List.length_singleton]
            omega
          · (apply (Aj.of [((4, 0), (4, 0)), ((99, 0), (99, 0)), ((8, 0), (8, 0)), ((98, 0), (38, 0)), ((97, 0), (97, 0))] []); (iterate 2 ((focus (simp only [go_sem, Nat.reduceEqDiff, Nat.reduceAdd, Nat.reduceSub, Nat.reduceLeDiff, Nat.reduceMul, Nat.reduceBEq, Nat.reduceLT, Int.reduceToNat, reduceCtorEq, List.map_append, Ae]; try (and_intros <;> rfl))); (focus exact rfl))); (iterate 4 (focus (simp [go_sem, List.map_append, Ae]; done))))
theorem Q6 (keys:List ByteArray) (kids:List V):a42 keys kids=(I9 keys kids).av:=rfl
end
end Go.Proofs.YtcejfdfmgmcinaaGreat
