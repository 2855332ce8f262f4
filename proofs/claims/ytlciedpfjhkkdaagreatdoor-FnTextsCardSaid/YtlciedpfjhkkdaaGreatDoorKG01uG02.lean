/- Texts of this proof: G01 G02. -/
import Derived.Test.YtlciedpfjhkkdaaGreatDoorKE6
import Derived.Test.YtlciedpfjhkkdaaGreatDoorKM1
import Derived.IntWalk
set_option linter.unusedSimpArgs false
set_option linter.unusedVariables false
set_option linter.unnecessarySimpa false
set_option maxHeartbeats 8000000
namespace Go.Proofs.YtlciedpfjhkkdaaGreatDoor
open Go.RowKit
def CellD.cs (c : CellD) : List C := [.int .i64 c.kind, .int .i64 c.num, .str c.text, .str c.key, .int .i64 c.n]
def strCs (s : ByteArray) : List C := [.str s]
mutual
def V.cs : V → List C
 | .mk kind num text keys kids => [.int .i64 kind, .int .i64 num, .str text, .sl (keys.map strCs), .sl (csL kids)]
def csL : List V → List (List C)
 | [] => []
 | k :: ks => k.cs :: csL ks
end
theorem csL_eq : ∀ (l : List V), csL l = l.map V.cs
 | [] => rfl
 | k :: ks => by simp [csL, csL_eq ks]
theorem V.cs_eq (t : V) : t.cs = [.int .i64 t.kind, .int .i64 t.num, .str t.text, .sl (t.keys.map strCs), .sl (t.kids.map V.cs)] := by
 cases t
 simp [V.cs, csL_eq, V.kind, V.num, V.text, V.keys, V.kids]
def V.av (t : V) : AV := .agg [.c (.int .i64 t.kind), .c (.int .i64 t.num), .c (.str t.text), .c (.sl (t.keys.map strCs)), .c (.sl (t.kids.map V.cs))]
def CellD.av (c : CellD) : AV := .agg [.c (.int .i64 c.kind), .c (.int .i64 c.num), .c (.str c.text), .c (.str c.key), .c (.int .i64 c.n)]
def valsA (l : List V) : AV := .c (.sl (l.map V.cs))
def cellsA (l : List CellD) : AV := .c (.sl (l.map CellD.cs))
section
variable (k n : Int) (s : ByteArray) (ks : List ByteArray) (vs : List V)
theorem kind_mk : (V.mk k n s ks vs).kind = k := rfl
theorem num_mk : (V.mk k n s ks vs).num = n := rfl
theorem text_mk : (V.mk k n s ks vs).text = s := rfl
theorem keys_mk : (V.mk k n s ks vs).keys = ks := rfl
theorem kids_mk : (V.mk k n s ks vs).kids = vs := rfl
end
attribute [go_sem] V.av CellD.av valsA cellsA CellD.cs strCs V.cs_eq strV numV arrV nullV kind_mk num_mk text_mk keys_mk kids_mk
set_option maxRecDepth 10000
theorem fl_cell (c : CellD) : forgetL c.cs = c.cs := rfl
theorem fl_str (s : ByteArray) : forgetL (strCs s) = strCs s := rfl
theorem fl_tree (t : V) : forgetL t.cs = t.cs := by rw [V.cs_eq]; rfl
theorem forget_cells (l : List CellD) : forgetLL (l.map CellD.cs) = l.map CellD.cs := forget_map _ fl_cell l
theorem forget_strs (l : List ByteArray) : forgetLL (l.map strCs) = l.map strCs := forget_map _ fl_str l
theorem forget_trees (l : List V) : forgetLL (l.map V.cs) = l.map V.cs := forget_map _ fl_tree l
theorem strV_av (s : ByteArray) : (strV s).av = .agg [.c (.int .i64 4), .c (.int .i64 0), .c (.str s), .c (.sl []), .c (.sl [])] := rfl
theorem numV_av (n : Int) : (numV n).av = .agg [.c (.int .i64 3), .c (.int .i64 n), .c (.str ByteArray.empty), .c (.sl []), .c (.sl [])] := rfl
theorem arrV_av (l : List V) : (arrV l).av = .agg [.c (.int .i64 5), .c (.int .i64 0), .c (.str ByteArray.empty), .c (.sl []), .c (.sl (l.map V.cs))] := rfl
attribute [go_sem] forget_cells forget_strs forget_trees
theorem text_ac (s : ByteArray) : AC Tryz.prog 138 [.c (.str s)] [] (strV s).av [] := by
 rw [strV_av]
 refine wEnter Tryz.func138 Tryz.ntmps138 ?_
 refine wRUN trivial ?_
 exact wRet (ret_data []) Tryz.results138
theorem number_ac (n : Int) : AC Tryz.prog 152 [.c (.int .i64 n)] [] (numV n).av [] := by
 rw [numV_av]
 refine wEnter Tryz.func152 Tryz.ntmps152 ?_
 refine wRUN trivial ?_
 exact wRet (ret_data []) Tryz.results152
theorem array_ac (l : List V) : AC Tryz.prog 143 [valsA l] [] (arrV l).av [] := by
 rw [arrV_av]
 refine wEnter Tryz.func143 Tryz.ntmps143 ?_
 refine wRUN trivial ?_
 exact wRet (ret_data []) Tryz.results143
end Go.Proofs.YtlciedpfjhkkdaaGreatDoor
namespace Go.Proofs.YtlciedpfjhkkdaaGreatDoor
open Go.RowKit
theorem all_cells (l : List CellD) : ((l.map CellD.cs).all fun r => r.length == 5) = true := by simp [CellD.cs]
theorem all_trees (l : List V) : ((l.map V.cs).all fun r => r.length == 5) = true := by simp [V.cs_eq]
theorem all_strs (l : List ByteArray) : ((l.map strCs).all fun r => r.length == 1) = true := by simp [strCs]
attribute [go_sem] all_cells all_trees all_strs
theorem wrap_succ {k : Nat} (h : k < 9000000000000000000) : IntKind.i64.wrap ((k : Int) + 1) = ((k + 1 : Nat) : Int) := by
 rw [IntWalk.i64_in _ (by omega)]
 simp
theorem cells_set (u : V) (key : ByteArray) : (u.enc.map CellD.cs).set 0 (putL [.int .i64 u.kind, .int .i64 u.num, .str u.text, .str ByteArray.empty, .int .i64 u.kids.length] 3 [.str key]) = (u.cells key).map CellD.cs := by
 cases u
 simp [V.enc, V.cells, CellD.cs, putL, kind_mk, num_mk, text_mk, kids_mk]
theorem enc_head (u : V) : (u.enc.map CellD.cs)[0]? = some [.int .i64 u.kind, .int .i64 u.num, .str u.text, .str ByteArray.empty, .int .i64 u.kids.length] := by
 cases u
 simp [V.enc, V.cells, CellD.cs, kind_mk, num_mk, text_mk, kids_mk]
set_option maxRecDepth 10000
theorem sizeVals_ac (l : List V) : AC Tryz.prog 55 [valsA l] [] (.c (.int .i64 l.length)) [] := by
 refine wEnter Tryz.func55 Tryz.ntmps55 ?_
 refine wRUN trivial ?_
 exact wRet (ret_data []) Tryz.results55
theorem cells_ac : ∀ (m : Nat) (t : V), t.count ≤ m → t.count ≤ 500000 → t.neat → AC Tryz.prog 40 [t.av] [] (.own (0, 0)) [((0, 0), .row false 5 94 (t.enc.map CellD.cs))] := by
 intro m
 induction m with
 | zero => intro t hm _ _; have := count_pos t; omega
 | succ m ih =>
  intro t hm hM hn
  have hkc := count_kids t
  have hkl := countL_len t.kids
  have hn0 : holds t.kind = false → t.kids.length = 0 := fun h => by rw [neat_holds hn h]; rfl
  have ht0 := enc_take_one t
  refine wEnter Tryz.func40 Tryz.ntmps40 ?_
  cases h5 : (t.kind == 5) <;> cases h6 : (t.kind == 6)
  case' false.false =>
   have hz : t.kids.length = 0 := hn0 (by simp [holds, h5, h6])
   have hst : (t.enc.take (kp t.kids 0)).map CellD.cs = [[.int .i64 t.kind, .int .i64 t.num, .str t.text, .str ByteArray.empty, .int .i64 0]] := by rw [ht0, hz]; rfl
   refine wRUN (j2 h5 h6) ?_
  case' false.true =>
   have hst : (t.enc.take (kp t.kids 0)).map CellD.cs = [[.int .i64 t.kind, .int .i64 t.num, .str t.text, .str ByteArray.empty, .int .i64 t.kids.length]] := by rw [ht0]; rfl
   refine wRUN (j2 h5 h6) ?_
   refine w7 (op_data [] (sizeVals_ac _)) trivial ?_
   refine wRUN (j2 h5 h6) ?_
  case' true.false =>
   have hst : (t.enc.take (kp t.kids 0)).map CellD.cs = [[.int .i64 t.kind, .int .i64 t.num, .str t.text, .str ByteArray.empty, .int .i64 t.kids.length]] := by rw [ht0]; rfl
   refine wRUN (j2 h5 h6) ?_
   refine w7 (op_data [] (sizeVals_ac _)) trivial ?_
   refine wRUN (j2 h5 h6) ?_
  case true.true =>
   simp at h5 h6
   omega
  all_goals
   refine a_loop (κ := Nat) (fun k => ⟨mkS 0 54 [(1, .ptr (1, 0) 0), (4, .own (4, 0)), (29, .c (.sl (t.kids.map V.cs))), (30, .c (.int .i64 t.kids.length)), (31, .c (.int .i64 k))],
     [((1, 0), .box [.c (.int .i64 t.kind), .c (.int .i64 t.num), .c (.str t.text), .c (.sl (t.keys.map strCs)), .c (.sl (t.kids.map V.cs))]), ((4, 0), .row false 5 94 ((t.enc.take (kp t.kids k)).map CellD.cs))]⟩)
    (fun k => k ≤ t.kids.length) (fun k => t.kids.length - k) 0 (Nat.zero_le _) ?_ ?_
   ·exact wSays (Says.of [((1, 0), (1, 0)), ((4, 0), (27, 0))] []) hst
   ·intro k hk
    by_cases hlt : k < t.kids.length
    ·have hd : decide ((k : Int) < (t.kids.length : Int)) = true := by simpa using hlt
     have hr : rowsAt (t.kids.map V.cs) 5 k = true := by simp [rowsAt, hlt, V.cs_eq]
     have hg : (t.kids.map V.cs)[k]? = some t.kids[k].cs := by simp [hlt]
     have hmem := countL_mem (List.getElem_mem hlt)
     have hnk := neatL_mem (neat_kids hn) _ (List.getElem_mem hlt)
     have hts := enc_take_succ t hlt
     have htl := enc_take_len t k
     have hkpl := kp_le t k
     generalize t.kids[k] = u at *
     have hul : u.enc.length = u.count := enc_len u
     have hw := wrap_succ (k := k) (by omega)
     refine wRUN (j3 hd hr hg) ?_
     refine w12 (op_rowF [] (ih u (by omega) (by omega) hnk)) trivial ?_
     by_cases hk6 : t.kind = 6
     ·have h6' : (t.kind == 6) = true := by simpa using hk6
      obtain ⟨hkk, hkey⟩ := keyAt_get hn hk6 hlt
      have hrk : rowsAt (t.keys.map strCs) 1 k = true := by simp [rowsAt, hkk, strCs]
      have hgk : (t.keys.map strCs)[k]? = some [.str (t.keyAt k)] := by simp [hkk, strCs, hkey]
      have hru : rowsAt (u.enc.map CellD.cs) 5 0 = true := by unfold rowsAt; rw [show (0 : Int).toNat = 0 from rfl, enc_head]; rfl
      have hgu := enc_head u
      have hset := cells_set u (t.keyAt k)
      simp only [putL, List.take, List.drop, List.cons_append, List.nil_append, List.length_cons, List.length_nil, Nat.reduceAdd] at hset
      have hlen : (t.enc.take (kp t.kids k)).length + (u.cells (t.keyAt k)).length ≤ 1000000 := by rw [htl, cells_len]; omega
      have hnext : (t.enc.take (kp t.kids (k + 1))).map CellD.cs = (t.enc.take (kp t.kids k)).map CellD.cs ++ (u.cells (t.keyAt k)).map CellD.cs := by rw [hts, List.map_append]
      refine wRUN (j8 h6' hrk hgk hru hgu hset hlen hw) ?_
      refine ⟨k + 1, by omega, by omega, ?_⟩
      exact wSays (Says.of [((1, 0), (1, 0)), ((4, 0), (51, 0))] []) hnext
     ·have h6' : (t.kind == 6) = false := by simpa using hk6
      have hke := keyAt_none hk6 k
      have hlen : (t.enc.take (kp t.kids k)).length + u.enc.length ≤ 1000000 := by rw [htl, hul]; omega
      have hnext : (t.enc.take (kp t.kids (k + 1))).map CellD.cs = (t.enc.take (kp t.kids k)).map CellD.cs ++ u.enc.map CellD.cs := by rw [hts, List.map_append, hke]; rfl
      refine wRUN (j3 h6' hlen hw) ?_
      refine ⟨k + 1, by omega, by omega, ?_⟩
      exact wSays (Says.of [((1, 0), (1, 0)), ((4, 0), (51, 0))] []) hnext
    ·have hd : decide ((k : Int) < (t.kids.length : Int)) = false := by simpa using hlt
     have hke : k = t.kids.length := by omega
     have hall : t.enc.take (kp t.kids k) = t.enc := by rw [hke]; exact enc_take_all t
     refine wRUN hd ?_
     exact wRetOf (ret_of [((0, 0), (4, 0))] []) Tryz.results40 hall
end Go.Proofs.YtlciedpfjhkkdaaGreatDoor
