/- Texts of this proof: G19 P00 P35 F00 O07 O12. -/
import Derived.Test.YtlciedpfjhkkdaaGreatDoorKG16uD05
import Derived.Test.YtlciedpfjhkkdaaGreatDoorKG01uG02
import Derived.Test.YtlciedpfjhkkdaaGreatDoorKD24
import Derived.Test.YtlciedpfjhkkdaaGreatDoorKL1uS02
import Derived.Test.YtlciedpfjhkkdaaGreatDoorKE5
import Derived.Test.YtlciedpfjhkkdaaGreatDoorKD02uG08
import Derived.Test.YtlciedpfjhkkdaaGreatDoorRows
import Derived.Test.YtlciedpfjhkkdaaGreatDoorKA1
import Derived.ProofKit
import Derived.SizedLaws
import Derived.Deep.Slices
import Derived.Deep.Fields
import Derived.ChangeSame
import Derived.Test.YtlciedpfjhkkdaaGreatDoorKG81uR10
import Derived.Test.YtlciedpfjhkkdaaGreatDoorCards
import Derived.Test.YtlciedpfjhkkdaaGreatDoorTie
import Derived.Lib.LaidTab
import Derived.LaidMore
import Derived.Stop.Joined
import Derived.SevenTiedAt
import Derived.Test.YtlciedpfjhkkdaaGreatDoorKD14
import Derived.Stop.LaidErr
set_option linter.unusedSimpArgs false
set_option linter.unusedVariables false
set_option linter.unnecessarySimpa false
set_option maxHeartbeats 8000000
namespace Go.Proofs.YtlciedpfjhkkdaaGreatDoor
open Go.RowKit
set_option maxRecDepth 10000
theorem eqReadResult_ac (c at1 : Int) (ys : List CellD) (hl : ys.length ≤ 9223372036854775807) : AC Tryz.prog 11 [.agg [.c (.int .i64 c), .c (.int .i64 at1), cellsA ys], .agg [.c (.int .i64 c), .c (.int .i64 at1), cellsA ys]] [] (.c (.bool true)) [] := by
 have hne : (c != c) = false := by simp
 have hne2 : (at1 != at1) = false := by simp
 have he := eqCellS_ac ys hl
 refine wEnter Tryz.func11 Tryz.ntmps11 ?_
 refine wRUN (j2 hne hne2) ?_
 refine w7 (op_data [] he) trivial ?_
 refine wRUN trivial ?_
 exact wRet (ret_data []) Tryz.results11
theorem heldReadResult_ac (c at1 : Int) (n K : Nat) (hK : K + 5 * n ≤ 3000000000) : AC Tryz.prog 13 [.agg [.c (.int .i64 c), .c (.int .i64 at1), cellsA (marks K n)], .c (.int .i64 K)] [] (.c (.int .i64 ((K + 5 * n : Nat) : Int))) [] := by
 have he := heldCellS_ac n K hK
 have hn0 : decide (((K + 5 * n : Nat) : Int) < 0) = false := by simp; omega
 refine wEnter Tryz.func13 Tryz.ntmps13 ?_
 refine wRUN trivial ?_
 refine w7 (op_data [] he) trivial ?_
 refine wRUN hn0 ?_
 exact wRet (ret_data []) Tryz.results13
theorem markReadResult_ac (c at1 : Int) (ys : List CellD) (K es : Nat) (e : TypeId) (hes : ys ≠ [] → es = 5) (hK : K + 5 * ys.length ≤ 3000000000) :
  AC Tryz.prog 12 [.agg [.c (.int .i64 c), .c (.int .i64 at1), .own (0, 0)], .c (.int .i64 K)] [((0, 0), .row false es e (ys.map CellD.cs))] (.c (.int .i64 ((K + 5 * ys.length : Nat) : Int))) [((0, 0), .row false es e ((marks K ys.length).map CellD.cs))] := by
 have he := markCellS_ac ys K es e hes hK
 refine wEnter Tryz.func12 Tryz.ntmps12 ?_
 refine wRUN trivial ?_
 refine w9 (op_own (0, 0) he) trivial ?_
 refine wRUN trivial ?_
 exact wRetOf (ret_of [((0, 0), (0, 0))] []) Tryz.results12 hK
theorem eqReadResult_nil (c at1 : Int) : AC Tryz.prog 11 [.agg [.c (.int .i64 c), .c (.int .i64 at1), .nils], .agg [.c (.int .i64 c), .c (.int .i64 at1), .nils]] [] (.c (.bool true)) [] := by
 have hne : (c != c) = false := by simp
 have hne2 : (at1 != at1) = false := by simp
 have he := eqCellS_ac [] (by simp)
 refine wEnter Tryz.func11 Tryz.ntmps11 ?_
 refine wRUN (j2 hne hne2) ?_
 refine w7 (op_data [] he) @List.map_nil.{0,0} ?_
 refine wRUN trivial ?_
 exact wRet (ret_data []) Tryz.results11
theorem heldReadResult_nil (c at1 : Int) (K : Nat) (hK : K ≤ 3000000000) : AC Tryz.prog 13 [.agg [.c (.int .i64 c), .c (.int .i64 at1), .nils], .c (.int .i64 K)] [] (.c (.int .i64 K)) [] := by
 have he := heldCellS_ac 0 K (by omega)
 rw [show ((K + 5 * 0 : Nat) : Int) = (K : Int) from rfl, show marks K 0 = [] from rfl] at he
 have hn0 : decide ((K : Int) < 0) = false := by simp
 refine wEnter Tryz.func13 Tryz.ntmps13 ?_
 refine wRUN trivial ?_
 refine w7 (op_data [] he) @List.map_nil.{0,0} ?_
 refine wRUN hn0 ?_
 exact wRet (ret_data []) Tryz.results13
theorem markReadResult_nil (c at1 : Int) (K : Nat) : AC Tryz.prog 12 [.agg [.c (.int .i64 c), .c (.int .i64 at1), .nils], .c (.int .i64 K)] [] (.c (.int .i64 K)) [] := by
 have he := markCellS_nil K
 refine wEnter Tryz.func12 Tryz.ntmps12 ?_
 refine wRUN trivial ?_
 refine w7 (op_data [] he) trivial ?_
 refine wRUN trivial ?_
 exact wRet (ret_data []) Tryz.results12
end Go.Proofs.YtlciedpfjhkkdaaGreatDoor
namespace Go.Proofs.YtlciedpfjhkkdaaGreatDoor
open Go.RowKit
set_option maxRecDepth 10000
variable {o1 o2 : Obj}
theorem lawDecode_small (s : ByteArray) (hs : 1048576 < s.size) : AC Tryz.prog 3 [.c (.str s)] (errM o1 o2) (.c (.bool true)) (errM o1 o2) := by
 have hb : decide ((s.size : Int) > 1048576) = true := decide_eq_true (by omega)
 refine wEnter Tryz.func3 Tryz.ntmps3 ?_
 refine wRUN hb ?_
 exact wRetOf (ret_of [((8, 1), (8, 1))] []) Tryz.results3 hb
theorem lawDecode_one (s : ByteArray) (hs : ¬ 1048576 < s.size) (ys : List CellD) (hy : ys.length ≤ 200) (hspec : AC Tryz.prog 9 [.c (.str s)] [] (.agg [.c (.int .i64 0), .c (.int .i64 0), .c (.sl (ys.map CellD.cs))]) [])
  (himpl : AC Tryz.prog 10 [.c (.str s)] (errM o1 o2) (.agg [.c (.int .i64 0), .c (.int .i64 0), .own (0, 0)]) [((0, 0), .row false 5 94 (ys.map CellD.cs)), ((8, 1), .gen (errsR o1 o2))]) : AC Tryz.prog 3 [.c (.str s)] (errM o1 o2) (.c (.bool true)) (errM o1 o2) := by
 have hb : decide ((s.size : Int) > 1048576) = false := decide_eq_false (by omega)
 have he := eqReadResult_ac 0 0 ys (by omega)
 have hm := markReadResult_ac 0 0 ys 1 5 94 (fun _ => rfl) (by omega)
 have hh := heldReadResult_ac 0 0 ys.length 1 (by omega)
 have hm0 : decide (((1 + 5 * ys.length : Nat) : Int) < 0) = false := by simp; omega
 have hmm : (((1 + 5 * ys.length : Nat) : Int) != ((1 + 5 * ys.length : Nat) : Int)) = false := by simp
 refine wEnter Tryz.func3 Tryz.ntmps3 ?_
 refine wRUN hb ?_
 refine w9 (op_shared [] hspec) trivial ?_
 refine wRUN trivial ?_
 refine wCallC (op_callC [] [((8, 1), (8, 1))] [((0, 0), (14, 0)), ((8, 1), (8, 1))] himpl) trivial ?_
 refine wRUN trivial ?_
 refine w7 (op_data [(14, 0)] he) trivial ?_
 refine wRUN trivial ?_
 refine w9 (op_own (14, 0) hm) trivial ?_
 refine wRUN (j2 hm0 hmm) ?_
 refine w7 (op_data [(14, 0)] hh) trivial ?_
 refine wRUN (j2 hm0 hmm) ?_
 refine wCallC (op_callC [] [((8, 1), (8, 1))] [((0, 0), (31, 0)), ((8, 1), (8, 1))] himpl) trivial ?_
 refine wRUN (j2 hm0 hmm) ?_
 refine w7 (op_data [(31, 0)] he) trivial ?_
 refine wRUN hm0 ?_
 refine w7 (op_data [(14, 0)] hh) trivial ?_
 refine wRUN (j2 hm0 hmm) ?_
 exact wRetOf (ret_of [((8, 1), (8, 1))] []) Tryz.results3 hb
theorem lawDecode_none (s : ByteArray) (hs : ¬ 1048576 < s.size) (c at1 : Int) (hspec : AC Tryz.prog 9 [.c (.str s)] [] (.agg [.c (.int .i64 c), .c (.int .i64 at1), .nils]) [])
  (himpl : AC Tryz.prog 10 [.c (.str s)] (errM o1 o2) (.agg [.c (.int .i64 c), .c (.int .i64 at1), .nils]) (errM o1 o2)) : AC Tryz.prog 3 [.c (.str s)] (errM o1 o2) (.c (.bool true)) (errM o1 o2) := by
 have hb : decide ((s.size : Int) > 1048576) = false := decide_eq_false (by omega)
 have he := eqReadResult_nil c at1
 have hm := markReadResult_nil c at1 1
 have hh := heldReadResult_nil c at1 1 (by omega)
 have hm0 : decide (((1 : Nat) : Int) < 0) = false := rfl
 have hmm : (((1 : Nat) : Int) != ((1 : Nat) : Int)) = false := by simp
 refine wEnter Tryz.func3 Tryz.ntmps3 ?_
 refine wRUN hb ?_
 refine w7 (op_data [] hspec) trivial ?_
 refine wRUN trivial ?_
 refine wCall (op_any_call [((8, 1), (8, 1))] [((8, 1), (8, 1))] himpl) trivial ?_
 refine wRUN trivial ?_
 refine w7 (op_data [] he) trivial ?_
 refine wRUN trivial ?_
 refine w7 (op_data [] hm) trivial ?_
 refine wRUN (j2 hm0 hmm) ?_
 refine w7 (op_data [] hh) trivial ?_
 refine wRUN (j2 hm0 hmm) ?_
 refine wCall (op_any_call [((8, 1), (8, 1))] [((8, 1), (8, 1))] himpl) trivial ?_
 refine wRUN (j2 hm0 hmm) ?_
 refine w7 (op_data [] he) trivial ?_
 refine wRUN hm0 ?_
 refine w7 (op_data [] hh) trivial ?_
 refine wRUN (j2 hm0 hmm) ?_
 exact wRetOf (ret_of [((8, 1), (8, 1))] []) Tryz.results3 hb
theorem lawDecode_ac (s : ByteArray) : AC Tryz.prog 3 [.c (.str s)] (errM o1 o2) (.c (.bool true)) (errM o1 o2) := by
 by_cases hs : 1048576 < s.size
 ·exact lawDecode_small s hs
 have hl : s.size ≤ 9000000000000000000 := by omega
 have hsp := specDecode_ac s hl
 cases hd : decodeR s with
 | mk c y =>
  rw [hd] at hsp
  cases y with
  | some v =>
   obtain ⟨_, hr, _⟩ := decodeR_ok hd
   have hc := hr.2.1
   exact lawDecode_one s hs v.enc (by rw [enc_len]; omega) hsp (implDecode_ok s hd)
  | none => exact lawDecode_none s hs c.1 c.2 hsp (implDecode_bad s hl hd)
end Go.Proofs.YtlciedpfjhkkdaaGreatDoor
namespace Go.Proofs.YtlciedpfjhkkdaaGreatDoor
open Go.ChangeShapes Go.WideShapes Go.ChangeAt Go.RowKit Go.Deep
theorem Tryz.own : ownKnob Tryz.prog.godebug = none := by kernel_rfl
theorem Tryz.laidOut : laidOutB Tryz.prog = true := by kernel_rfl
def cellsOfL : DataW Unit → Array Value
 | .agg l => (l.map fun | .lit (.int k z) => Value.int k z | _ => .bool false).toArray
 | _ => #[]
def layL (d : DataW Unit) : Obj → Obj
 | .cells _ t fz => .cells (cellsOfL d) t fz
 | o => o
def ptrO (n : Nat) : Obj → Obj
 | .cells _ t fz => .cells #[.iface 330 (.pointer (some ⟨n, 0, none⟩))] t fz
 | o => o
def rangeS : ByteArray := ⟨#[118, 97, 108, 117, 101, 32, 111, 117, 116, 32, 111, 102, 32, 114, 97, 110, 103, 101]⟩
def syntaxS : ByteArray := ⟨#[105, 110, 118, 97, 108, 105, 100, 32, 115, 121, 110, 116, 97, 120]⟩
noncomputable def lowE : Nat := (World.holding Tryz.prog default ⟨#[], #[], []⟩).heap.size
noncomputable def laidWorldE (os : Os) : World :=
 let w0 := World.holding Tryz.prog os ⟨#[.cells #[.string rangeS] 332, .cells #[.string syntaxS] 332], #[], []⟩
 { w0 with heap := ((((w0.heap.modify 4 (layL Rows.laid_math_bits_deBruijn32tab)).modify 5 (layL Rows.laid_math_bits_deBruijn64tab)).modify 1 (layL Rows.laid_internal_strconv_uint64pow10)).modify 7 (ptrO lowE)).modify 6 (ptrO (lowE + 1)) }
abbrev laidE : List (String × DataW Unit) := [("math/bits.deBruijn32tab", Rows.laid_math_bits_deBruijn32tab), ("math/bits.deBruijn64tab", Rows.laid_math_bits_deBruijn64tab), ("internal/strconv.uint64pow10", Rows.laid_internal_strconv_uint64pow10), ("strconv.ErrRange", Rows.laid_strconv_ErrRange), ("strconv.ErrSyntax", Rows.laid_strconv_ErrSyntax)]
theorem laidE_met (os : Os) (args : Array Value) : laidMetH Tryz.prog laidE ((laidWorldE os).forCall (fun _ _ => 0) ⟨#[], args, []⟩).memory :=
 show laidMet Tryz.prog laidE _ from laidMet_of_run' 8 (by kernel_rfl) (by kernel_rfl)
theorem gRngE : Tryz.prog.globalNamed "strconv.ErrRange" = some 7 := by kernel_rfl
theorem gSynE : Tryz.prog.globalNamed "strconv.ErrSyntax" = some 6 := by kernel_rfl
theorem tRngE : (Tryz.prog.globals[7]?).map (·.type) = some 183 := by kernel_rfl
theorem tSynE : (Tryz.prog.globals[6]?).map (·.type) = some 183 := by kernel_rfl
theorem starE : "*" ++ "errors.errorString" = "*errors.errorString" := by decide
theorem rowE (u : TypeId) (h : Tryz.prog.typeName? 3 u = some "*errors.errorString") : u = 330 :=
 typeName_ptr_named (nm := "errors.errorString") (by rw [starE]; kernel_rfl) (by kernel_rfl) (by decide) u (by rw [starE]; exact h)
theorem errT : ∃ ms, Tryz.prog.underlying 183 = some (.interface ms) := ⟨_, Tryz.underlying183⟩
theorem ptrT : Tryz.prog.underlying 330 = some (.pointer 332) := Tryz.underlying330
theorem strT : ∃ f : Field, Tryz.prog.underlying 332 = some (.struct #[f]) ∧ f.type = 9 ∧ f.offset = 0 := ⟨_, Tryz.underlying332, rfl, rfl⟩
theorem c1E : Tryz.prog.cellsOf 332 = 1 := by kernel_rfl
theorem c2E : Tryz.prog.cellsOf 9 = 1 := by kernel_rfl
theorem errs_of {W : World} (h : laidMetH Tryz.prog laidE W) : (∃ tp p, W.var? Tryz.prog "strconv.ErrRange" = some #[.iface tp p]) ∧ (∃ tp p, W.var? Tryz.prog "strconv.ErrSyntax" = some #[.iface tp p]) := by
 have h' : laidMet Tryz.prog laidE W := h
 obtain ⟨ms, ht⟩ := errT
 obtain ⟨f, hs, hf1, hf2⟩ := strT
 have h3 : laidMet Tryz.prog [("strconv.ErrRange", Rows.laid_strconv_ErrRange), ("strconv.ErrSyntax", Rows.laid_strconv_ErrSyntax)] W := laidMet.tail (laidMet.tail (laidMet.tail h'))
 obtain ⟨a, s, h5, _⟩ := laid_sentinel h3 gRngE tRngE ht rowE ptrT hs hf1 hf2 Tryz.underlying9 c1E c2E
 obtain ⟨a2, s2, h6, _⟩ := laid_sentinel (laidMet.tail h3) gSynE tSynE ht rowE ptrT hs hf1 hf2 Tryz.underlying9 c1E c2E
 exact ⟨⟨_, _, h5⟩, _, _, h6⟩
theorem held_of {W : World} {n : String} {g : Nat} (hg : Tryz.prog.globalNamed n = some g) (h : ∃ tp p, W.var? Tryz.prog n = some #[.iface tp p]) : ∃ o, W.heap[g]? = some o ∧ heldO o := by
 obtain ⟨tp, p, h⟩ := h
 unfold World.var? at h
 rw [hg] at h
 simp only [Option.bind_some] at h
 cases ho : W.heap[g]? with
 | none => rw [ho] at h; cases h
 | some o =>
  rw [ho] at h
  cases o with
  | cells cs t fz =>
   simp only [Option.some.injEq] at h
   subst h
   refine ⟨_, rfl, fun w b hb => ⟨.iface tp p, ?_, .inr ⟨tp, p, rfl⟩⟩⟩
   unfold World.cell?
   simp [hb]
  | _ => cases h
theorem AC.calls_errs {o1 o2 : Obj} {f : FuncId} {args : List AV} {b : Bool} (h : AC Tryz.prog f args (errM o1 o2) (.c (.bool b)) (errM o1 o2)) {w : World} {S : Nat → Prop} {vals : List Value}
  (ho1 : w.heap[6]? = some o1) (ho2 : w.heap[7]? = some o2) (h1 : heldO o1) (h2 : heldO o2) (hS1 : ¬ S 6) (hS2 : ¬ S 7)
  (hv : ∀ (T : Nat → Prop), (∀ b, S b → T b) → ∀ m κ, ARs w T m κ args vals) : Calls Tryz.prog f vals.toArray w fun e w' => e = .returned (.bool b) ∧ Below w.heap.size w w' := by
 have hl1 : 6 < w.heap.size := (Array.getElem?_eq_some_iff.1 ho1).1
 have hl2 : 7 < w.heap.size := (Array.getElem?_eq_some_iff.1 ho2).1
 let Γ : Ctx := ⟨w, S, fun b => if b = 6 then some (8, 1) else if b = 7 then some (8, 1) else none, fun _ => .bool false, [(8, 1)]⟩
 have hE : Entry Γ (errM o1 o2) := by
  refine ⟨fun i o' hi => ?_, fun b i hb => ?_, rfl⟩
  ·obtain ⟨rfl, rfl⟩ := errs_get hi
   refine ⟨[(6, o1), (7, o2)], fun p hp => ?_, rfl, h1, h2⟩
   simp only [List.mem_cons, List.not_mem_nil, or_false] at hp
   rcases hp with rfl | rfl
   ·exact ⟨rfl, ho1⟩
   ·exact ⟨rfl, ho2⟩
  ·simp only [Γ] at hb
   split at hb
   ·rename_i e
    subst e
    cases hb
    exact ⟨hl1, _, rfl, rfl⟩
   ·split at hb
    ·rename_i e
     subst e
     cases hb
     exact ⟨hl2, _, rfl, rfl⟩
    ·cases hb
 refine (h Γ vals hE (hv _ (fun b hb => ⟨by simp only [Γ]; rw [if_neg (by rintro rfl; exact hS1 hb), if_neg (by rintro rfl; exact hS2 hb)], .inl hb⟩) _ _)).mono ?_
 rintro e w' ⟨v, ow, κ, rfl, hx⟩
 obtain ⟨rfl, _⟩ := hx.res
 refine ⟨rfl, hx.os, hx.tape, hx.output, hx.size, fun b hb => ?_⟩
 obtain ⟨l, k1, rfl, _⟩ := hx.objs (8, 1) _ rfl
 by_cases hb1 : b = 6
 ·subst hb1
  rw [ho1]
  exact (k1 (6, o1) (by simp)).2
 ·by_cases hb2 : b = 7
  ·subst hb2
   rw [ho2]
   exact (k1 (7, o2) (by simp)).2
  ·exact (hx.frame b hb (by simp only [Γ]; rw [if_neg hb1, if_neg hb2])).1
end Go.Proofs.YtlciedpfjhkkdaaGreatDoor
