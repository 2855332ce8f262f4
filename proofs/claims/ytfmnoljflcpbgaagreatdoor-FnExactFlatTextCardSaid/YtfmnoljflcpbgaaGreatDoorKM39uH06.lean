/- Texts of this proof: M39 H04 H06. -/
import Derived.Test.YtfmnoljflcpbgaaGreatDoorKG16uE37
import Derived.Test.YtfmnoljflcpbgaaGreatDoorKG27uR12
import Derived.Test.YtfmnoljflcpbgaaGreatDoorKE6
import Derived.Test.YtfmnoljflcpbgaaGreatDoorKG14
import Derived.Shelf.SortM.Plain
import Derived.Shelf.SortM.SortNone
import Derived.Test.YtfmnoljflcpbgaaGreatDoorKG04
import Derived.Test.YtfmnoljflcpbgaaGreatDoorKM2
import Derived.Sort.OwnSorted
import Derived.Test.YtfmnoljflcpbgaaGreatDoorKE35uG02
import Derived.Test.YtfmnoljflcpbgaaGreatDoorKG20uG24
import Derived.Test.YtfmnoljflcpbgaaGreatDoorKG09
import Derived.Test.YtfmnoljflcpbgaaGreatDoorKE5
import Derived.Test.YtfmnoljflcpbgaaGreatDoorKG26
import Derived.Deep.RegionLaw
import Derived.Shelf.RegionOpenPlain
import Derived.Laws.CopyRow
import Derived.Test.YtfmnoljflcpbgaaGreatDoorKG15
import Derived.Test.YtfmnoljflcpbgaaGreatDoorKA1
import Derived.Test.YtfmnoljflcpbgaaGreatDoorKR19uM29
set_option linter.unusedSimpArgs false
set_option linter.unusedVariables false
set_option linter.unnecessarySimpa false
namespace Go.Proofs.YtfmnoljflcpbgaaGreatDoor
open Go.RowKit
theorem path_told {p : List V} (hp : ∀ q ∈ p, sKey q) (hl : p.length ≤ 100) : pathDec (arrV p).enc = (0, some p) := by
  obtain ⟨h1, h2, h3⟩ := path_right hp hl
  have hb : (arrV p).kids.any badKid = false := by
    rw [List.any_eq_false]
    intro q hq
    obtain ⟨_, _, _, h⟩ := hp q hq
    unfold badKid
    rcases h with h | h <;> simp [h]
  rw [pathDec_enc h1 h2 h3, hb]
  rfl
end Go.Proofs.YtfmnoljflcpbgaaGreatDoor

/- impl.LeavesIn, spec.LeavesIn, by the engine. -/
namespace Go.Proofs.YtfmnoljflcpbgaaGreatDoor
open Go.RowKit
set_option maxRecDepth 10000
set_option maxHeartbeats 1000000 in
theorem specLeavesIn_bad (xs : List CellD) (h0 : (dec xs).1 ≠ 0) : AC Tryz.prog 65 [cellsA xs] [] (.agg [.c (.int .i64 (dec xs).1), .nils]) [] := by
  have hv := l13Paths_bad xs true h0
  refine wEnter Tryz.func65 Tryz.ntmps65 ?_
  refine wRUN trivial ?_
  refine w7 (op_data [] hv) trivial ?_
  refine wRUN trivial ?_
  exact wRet (ret_data []) Tryz.results65
theorem allP_true (l : List (List V × V)) : (allP true l).map resCs = (l.filter fun p => !notLeaf p).map pathCs := by
  have : l.filter (keep true) = l.filter fun p => !notLeaf p := by
    congr 1
    funext p
    simp [keep, notLeaf]
  unfold allP
  rw [this, List.map_map]
  rfl
set_option maxHeartbeats 1000000 in
theorem specLeavesIn_ac {t : V} (hw : t.wf) (hc : t.count ≤ 200) (hd : t.depth ≤ 20) :
    AC Tryz.prog 65 [cellsA t.enc] [] (.agg [.c (.int .i64 0), .own (0, 0)]) [((0, 0), .row true 1 27 (((t.paths []).filter fun p => !notLeaf p).map pathCs))] := by
  have hv := l13Paths_ac true hw hc hd
  rw [allP_true] at hv
  refine wEnter Tryz.func65 Tryz.ntmps65 ?_
  refine wRUN trivial ?_
  refine w12 (op_rowF [] hv) trivial ?_
  refine wRUN trivial ?_
  exact wRetOf (ret_of [((0, 0), (4, 0))] []) Tryz.results65 hd
end Go.Proofs.YtfmnoljflcpbgaaGreatDoor

/- spec.GetPath, by the engine. -/
namespace Go.Proofs.YtfmnoljflcpbgaaGreatDoor
open Go.RowKit
set_option maxRecDepth 10000
theorem specGetPath_ac (xs ps : List CellD) : AC Tryz.prog 66 [cellsA xs, cellsA ps] [] (vrA (askPath xs ps getPathV)) [] := by
  rcases ask_way xs ps getPathV with ⟨h1, h2, h3⟩ | ⟨t, hd, hx, ht, ⟨c, hc, hp, h3⟩ | ⟨s, hs, hps, _, _, hp, h3⟩⟩
  · have ha := l13Asked_one xs ps h2
    have hb : ((dec xs).1 != 0) = true := by simpa using h2
    rw [h3, vrA_none]
    refine wEnter Tryz.func66 Tryz.ntmps66 ?_
    refine wRUN trivial ?_
    refine w7 (op_data [] ha) trivial ?_
    refine wRUN hb ?_
    refine w7 (op_data [] (l3Bad_ac (dec xs).1)) trivial ?_
    refine wRUN trivial ?_
    exact wRet (ret_data []) Tryz.results66
  · have ha := l13Asked_two xs ps (by rw [hd])
    rw [hp] at ha
    have hb : (c != 0) = true := by simpa using hc
    rw [h3, vrA_none]
    refine wEnter Tryz.func66 Tryz.ntmps66 ?_
    refine wRUN trivial ?_
    refine w7 (op_data [] ha) trivial ?_
    refine wRUN hb ?_
    refine w7 (op_data [] (l3Bad_ac c)) trivial ?_
    refine wRUN trivial ?_
    exact wRet (ret_data []) Tryz.results66
  · have ha := l13Asked_two xs ps (by rw [hd])
    rw [hp] at ha
    have h0 : ((0 : Int) != 0) = false := rfl
    have hparts := l1Parts_ac hs.1 hs.2.1
    have hkl := kids_len_le hs.2.1
    have hg := l13Get_ac ht s.kids (by omega) (fun k hk => right_mem hs hk)
    rw [h3]
    subst hx
    subst hps
    generalize getPathV t s.kids = r at *
    rcases r with ⟨c, _ | u⟩
    all_goals
      simp only [vrA_some, vrA_none] at hg ⊢
      refine wEnter Tryz.func66 Tryz.ntmps66 ?_
      refine wRUN trivial ?_
      refine w7 (op_data [] ha) trivial ?_
      refine wRUN h0 ?_
      refine w9 (op_shared [] hparts) trivial ?_
      refine w9 (op_shared [] hg) trivial ?_
      refine wRUN trivial ?_
      exact wRet (ret_data []) Tryz.results66
end Go.Proofs.YtfmnoljflcpbgaaGreatDoor
