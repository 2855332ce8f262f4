/- Texts of this proof: H27 G18. -/
import Derived.Test.YtamgeodhpglgkaaGreatKG1H
import Derived.Test.YtamgeodhpglgkaaGreatKM28uG69
import Derived.Test.YtamgeodhpglgkaaGreatKG70
import Derived.Test.YtamgeodhpglgkaaGreatKG49uG52
import Derived.Test.YtamgeodhpglgkaaGreatKG25uG26
import Derived.Test.YtamgeodhpglgkaaGreatKG16uG35
set_option linter.unusedSimpArgs false
namespace Go.Proofs.YtamgeodhpglgkaaGreat
open Go.RowKit
set_option maxRecDepth 10000
theorem doNative1_ac (d : Int) {t : V} (ht : t.right) : AC Tryz.prog 69 [t.av, .ptr (0, 0) 0] [((0, 0), .box [.c (.int .i64 d)])] (resA (nativeV d t)) [((0, 0), .box [.c (.int .i64 d)])] := by
 have h1 := native_ac d ht
 have hok := nativeV_ok d ht
 generalize nativeV d t = r at *
 rcases okRes_ways hok with ⟨v, rfl, _⟩ | ⟨c, _, rfl⟩
 ·rw [resA_some] at h1 ⊢
  refine wEnter Tryz.func69 Tryz.ntmps69 ?_
  refine wRUN trivial ?_
  refine w9 (op_shared [] h1) trivial ?_
  refine wRUN trivial ?_
  exact wRetOf (ret_of [((0, 0), (0, 0))] []) Tryz.results69 hok
 ·rw [resA_none] at h1 ⊢
  refine wEnter Tryz.func69 Tryz.ntmps69 ?_
  refine wRUN trivial ?_
  refine w9 (op_shared [] h1) trivial ?_
  refine wRUN trivial ?_
  exact wRetOf (ret_of [((0, 0), (0, 0))] []) Tryz.results69 hok
theorem ofOneD_ok (f : FuncId) (hcal : callable Tryz.prog f = true) (n : Int) (F : V → Int × Option V) (xs : List CellD) (hz : Sized xs) {v : V} (hv : v.right) (h : oneR F xs = okR v) (hf : ∀ t, t.right → AC Tryz.prog f [t.av, .ptr (0, 0) 0] [((0, 0), .box [.c (.int .i64 n)])] (resA (F t)) [((0, 0), .box [.c (.int .i64 n)])]) :
  AC Tryz.prog 68 [cellsA xs, .clo f [.ptr (0, 0) 0]] [((0, 0), .box [.c (.int .i64 n)])] (.agg [.c (.int .i64 0), .own (1, 0)]) [((0, 0), .box [.c (.int .i64 n)]), ((1, 0), .row false 5 95 (v.enc.map CellD.cs))] := by
 unfold oneR at h
 rcases dec_cases xs with ⟨t, hd⟩ | ⟨c, hc, hd⟩
 ·obtain ⟨_, ht⟩ := right_of_dec hd
  have hvo := valOf_ac xs hz (t := t) (by rw [hd])
  have h0 : ((0 : Int) != 0) = false := rfl
  have hF := hf t ht
  rw [hd] at h
  have h' : F t = okR v := h
  rw [h'] at hF
  replace hF : AC Tryz.prog f [t.av, .ptr (0, 0) 0] [((0, 0), .box [.c (.int .i64 n)])] (resA (0, some v)) [((0, 0), .box [.c (.int .i64 n)])] := hF
  rw [resA_some] at hF
  have hr := result_ac hv
  refine wEnter Tryz.func68 Tryz.ntmps68 ?_
  refine wRUN trivial ?_
  refine w9 (op_shared [] hvo) trivial ?_
  refine wRUN h0 ?_
  refine wCall (op_any_call [((0, 0), (0, 0))] [((0, 0), (0, 0))] hF) hcal ?_
  refine wRUN trivial ?_
  refine w12 (op_rowF [] hr) trivial ?_
  refine wRUN trivial ?_
  exact wRetOf (ret_of [((0, 0), (0, 0)), ((1, 0), (19, 0))] []) Tryz.results68 h0
 ·rw [hd] at h
  cases h
theorem ofOneD_bad (f : FuncId) (hcal : callable Tryz.prog f = true) (n : Int) (F : V → Int × Option V) (xs : List CellD) (hz : Sized xs) {c : Int} (hc : c ≠ 0) (h : oneR F xs = (c, none)) (hf : ∀ t, t.right → AC Tryz.prog f [t.av, .ptr (0, 0) 0] [((0, 0), .box [.c (.int .i64 n)])] (resA (F t)) [((0, 0), .box [.c (.int .i64 n)])]) :
  AC Tryz.prog 68 [cellsA xs, .clo f [.ptr (0, 0) 0]] [((0, 0), .box [.c (.int .i64 n)])] (.agg [.c (.int .i64 c), .nils]) [((0, 0), .box [.c (.int .i64 n)])] := by
 unfold oneR at h
 rcases dec_cases xs with ⟨t, hd⟩ | ⟨c', hc', hd⟩
 ·obtain ⟨_, ht⟩ := right_of_dec hd
  have hvo := valOf_ac xs hz (t := t) (by rw [hd])
  have h0 : ((0 : Int) != 0) = false := rfl
  have hF := hf t ht
  rw [hd] at h
  have h' : F t = (c, none) := h
  rw [h', resA_none] at hF
  have hr := result_bad hc
  refine wEnter Tryz.func68 Tryz.ntmps68 ?_
  refine wRUN trivial ?_
  refine w9 (op_shared [] hvo) trivial ?_
  refine wRUN h0 ?_
  refine wCall (op_any_call [((0, 0), (0, 0))] [((0, 0), (0, 0))] hF) hcal ?_
  refine wRUN trivial ?_
  refine w9 (op_shared [] hr) trivial ?_
  refine wRUN trivial ?_
  exact wRetOf (ret_of [((0, 0), (0, 0))] []) Tryz.results68 h0
 ·rw [hd] at h
  have hcc : c' = c := (Prod.mk.inj h).1
  subst hcc
  have hvo := valOf_bad xs hz (by rw [hd])
  have hb : ((dec xs).1 != 0) = true := by rw [hd]; simpa using hc
  have hc1 : (dec xs).1 = c' := by rw [hd]
  rw [← hc1]
  refine wEnter Tryz.func68 Tryz.ntmps68 ?_
  refine wRUN trivial ?_
  refine w9 (op_shared [] hvo) noV_eq ?_
  refine wRUN (j2 hb noV_eq) ?_
  exact wRetOf (ret_of [((0, 0), (0, 0))] []) Tryz.results68 hb
theorem oneR_ok (d : Int) (xs : List CellD) : okRes (oneR (nativeV d) xs) := by
 unfold oneR
 rcases dec_cases xs with ⟨t, hd⟩ | ⟨c, hc, hd⟩
 ·rw [hd]; exact nativeV_ok d (right_of_dec hd).2
 ·rw [hd]; exact hc
theorem implDoNative_ok (d : Int) (xs : List CellD) (hz : Sized xs) {v : V} (hv : v.right) (h : oneR (nativeV d) xs = okR v) : AC Tryz.prog 14 [.c (.int .i64 d), cellsA xs] [] (.agg [.c (.int .i64 0), .own (0, 0)]) [((0, 0), .row false 5 95 (v.enc.map CellD.cs))] := by
 have hh := ofOneD_ok 69 (by simp only [go_sem]) d (nativeV d) xs hz hv h fun t ht => doNative1_ac d ht
 refine wEnter Tryz.func14 Tryz.ntmps14 ?_
 refine wRUN trivial ?_
 refine wCall (op_any_call [((0, 0), (2, 0))] [((0, 0), (2, 0)), ((1, 0), (97, 0))] hh) trivial ?_
 refine wRUN trivial ?_
 exact wRetOf (ret_of [((0, 0), (97, 0))] []) Tryz.results14 hv
theorem implDoNative_bad (d : Int) (xs : List CellD) (hz : Sized xs) {c : Int} (hc : c ≠ 0) (h : oneR (nativeV d) xs = (c, none)) : AC Tryz.prog 14 [.c (.int .i64 d), cellsA xs] [] (.agg [.c (.int .i64 c), .nils]) [] := by
 have hh := ofOneD_bad 69 (by simp only [go_sem]) d (nativeV d) xs hz hc h fun t ht => doNative1_ac d ht
 refine wEnter Tryz.func14 Tryz.ntmps14 ?_
 refine wRUN trivial ?_
 refine wCall (op_any_call [((0, 0), (2, 0))] [((0, 0), (2, 0))] hh) trivial ?_
 refine wRUN trivial ?_
 exact wRetOf (ret_of [] []) Tryz.results14 hc
set_option maxRecDepth 10000
theorem eqValueResult_ac (c : Int) (ys : List CellD) (hl : ys.length ≤ 9223372036854775807) : AC Tryz.prog 15 [.agg [.c (.int .i64 c), cellsA ys], .agg [.c (.int .i64 c), cellsA ys]] [] (.c (.bool true)) [] := by
 have hne : (c != c) = false := by simp
 have he := eqCellS_ac ys hl
 refine wEnter Tryz.func15 Tryz.ntmps15 ?_
 refine wRUN hne ?_
 refine w7 (op_data [] he) trivial ?_
 refine wRUN trivial ?_
 exact wRet (ret_data []) Tryz.results15
theorem heldValueResult_ac (c : Int) (n K : Nat) (hK : K + 5 * n ≤ 3000000000) : AC Tryz.prog 19 [.agg [.c (.int .i64 c), cellsA (marks K n)], .c (.int .i64 K)] [] (.c (.int .i64 ((K + 5 * n : Nat) : Int))) [] := by
 have he := heldCellS_ac n K hK
 have hn0 : decide (((K + 5 * n : Nat) : Int) < 0) = false := by simp; omega
 refine wEnter Tryz.func19 Tryz.ntmps19 ?_
 refine wRUN trivial ?_
 refine w7 (op_data [] he) trivial ?_
 refine wRUN hn0 ?_
 exact wRet (ret_data []) Tryz.results19
theorem markValueResult_ac (c : Int) (ys : List CellD) (K es : Nat) (e : TypeId) (hes : ys ≠ [] → es = 5) (hK : K + 5 * ys.length ≤ 3000000000) :
  AC Tryz.prog 18 [.agg [.c (.int .i64 c), .own (0, 0)], .c (.int .i64 K)] [((0, 0), .row false es e (ys.map CellD.cs))] (.c (.int .i64 ((K + 5 * ys.length : Nat) : Int))) [((0, 0), .row false es e ((marks K ys.length).map CellD.cs))] := by
 have he := markCellS_ac ys K es e hes hK
 refine wEnter Tryz.func18 Tryz.ntmps18 ?_
 refine wRUN trivial ?_
 refine w9 (op_own (0, 0) he) trivial ?_
 refine wRUN trivial ?_
 exact wRetOf (ret_of [((0, 0), (0, 0))] []) Tryz.results18 hK
theorem heldValueResult_nil (c : Int) (K : Nat) (hK : K ≤ 3000000000) : AC Tryz.prog 19 [.agg [.c (.int .i64 c), .nils], .c (.int .i64 K)] [] (.c (.int .i64 K)) [] := by
 have he := heldCellS_ac 0 K (by omega)
 rw [show ((K + 5 * 0 : Nat) : Int) = (K : Int) from rfl, show marks K 0 = [] from rfl] at he
 have hn0 : decide ((K : Int) < 0) = false := by simp
 refine wEnter Tryz.func19 Tryz.ntmps19 ?_
 refine wRUN trivial ?_
 refine w7 (op_data [] he) @List.map_nil.{0,0} ?_
 refine wRUN hn0 ?_
 exact wRet (ret_data []) Tryz.results19
theorem markValueResult_nil (c : Int) (K : Nat) : AC Tryz.prog 18 [.agg [.c (.int .i64 c), .nils], .c (.int .i64 K)] [] (.c (.int .i64 K)) [] := by
 have he := markCellS_nil K
 refine wEnter Tryz.func18 Tryz.ntmps18 ?_
 refine wRUN trivial ?_
 refine w7 (op_data [] he) trivial ?_
 refine wRUN trivial ?_
 exact wRet (ret_data []) Tryz.results18
end Go.Proofs.YtamgeodhpglgkaaGreat
