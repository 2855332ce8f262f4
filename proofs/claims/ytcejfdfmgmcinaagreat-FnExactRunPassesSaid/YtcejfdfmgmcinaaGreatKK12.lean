/- slices.Backward at numbers: its iterator hands the numbers back from the last to the first. By hand, after the kit's contract of slices.All. -/
import Derived.RangeFuncBox
import Derived.RangeFuncLeaves
import Derived.Shelf.Abstract
import Derived.OwnWalkIn
import Derived.TacticsInMore
import Derived.LoopNIn
import Derived.LoopIn
import Derived.Test.YtcejfdfmgmcinaaGreatKA1
import Derived.Test.YtcejfdfmgmcinaaGreatProg
set_option linter.all false
set_option maxHeartbeats 8000000
namespace Go.Proofs.YtcejfdfmgmcinaaGreat
open Go.RowKit Go.Shelf
attribute [local go_sem] Oper.semAt_some
def MR {α:Type}(f:Nat→α) (k:Nat):List α:=(List.range k).map f
theorem Qp {α:Type}(f:Nat→α) (k:Nat):MR f (k+1)=MR f k++[f k]:=by simp[MR,List.range_succ]
theorem a1n {α:Type}(f:Nat→α) (k:Nat):(MR f k).length=k:=by simp[MR]
abbrev BkE (zs:List Int):={ x:Nat×Int // x.2∈zs∨zs=[] }
theorem i8 (zs:List Int) (m:Nat) (h:m<zs.length):zs.getD m 0∈zs:=by
 rw[List.getD_eq_getElem?_getD,List.getElem?_eq_getElem h]
 exact List.getElem_mem h
def HG (zs:List Int) (j:Nat):BkE zs:=⟨(zs.length-1-j,zs.getD (zs.length-1-j) 0),by
 by_cases h:zs=[]
 ·exact .inr h
 ·have:=List.length_pos_iff.2 h
  exact .inl (i8 zs _ (by omega))⟩
theorem Sd (zs:List Int) (k:Nat) (h:k≤zs.length):(MR (HG zs) k).map (fun x=>x.1.2)=zs.reverse.take k:=by
 apply List.ext_getElem?
 intro j
 unfold MR
 rw[List.map_map,List.getElem?_map,List.getElem?_take]
 by_cases hj:j<k
 ·rw[if_pos hj,List.getElem?_reverse (by omega),List.getElem?_range hj,List.getElem?_eq_getElem (show zs.length-1-j<zs.length by omega)]
  simp[HG,List.getElem?_eq_getElem (show zs.length-1-j<zs.length by omega)]
 ·rw[if_neg hj,List.getElem?_eq_none (by simp;omega)]
  rfl
def KB (x y:Nat) (W W':World):Prop:=W'.heap[x]? = W.heap[x]?∧W'.heap[y]? = W.heap[y]?
theorem KB.refl (x y:Nat) (W:World):KB x y W W:=⟨rfl,rfl⟩
theorem KB.trans {x y:Nat}{A B C:World}(h:KB x y A B) (k:KB x y B C):KB x y A C:=⟨k.1.trans h.1,k.2.trans h.2⟩
theorem KB.cell1 {x y:Nat}{W W':World}(h:KB x y W W') (j:Nat):W'.cell? ⟨x,j,none⟩=W.cell? ⟨x,j,none⟩:=World.cell?_of_block h.1
theorem KB.cell2 {x y:Nat}{W W':World}(h:KB x y W W') (j:Nat):W'.cell? ⟨y,j,none⟩=W.cell? ⟨y,j,none⟩:=World.cell?_of_block h.2
theorem KB.below {x y n:Nat}{W W':World}(h:Below n W W') (hx:x<n) (hy:y<n):KB x y W W':=⟨h.block x hx,h.block y hy⟩
theorem KB.put {x y:Nat}{w:World}(hx:x<w.heap.size) (hy:y<w.heap.size) (W:World) (l:Nat) (o o':Obj) (hl:w.heap.size≤l) (_:W.heap[l]? = some o) (_:o.isCells=false) (_:o.isWalk=false):KB x y W (W.putObj l o') :=
 ⟨World.putObj_heap_other (by omega),World.putObj_heap_other (by omega)⟩
theorem KB.set {x y:Nat}(W:World) (p:Addr) (u:Value) (h1:p.block≠x) (h2:p.block≠y):KB x y W (W.setCell p u) :=
 ⟨Below.heap_setCell W p u x (fun e=>h1 e.symm),Below.heap_setCell W p u y (fun e=>h2 e.symm)⟩
set_option maxRecDepth 100000 in
theorem ZE (F:Fence) (n:Nat) (h8:F.fn 286) (hro:F.round=none) (hn:1≤n) (l Bs b off cap:Nat) (zs:List Int) (hz:zs.length≤1000) (J Jx:List (BkE zs)→World→Prop)
  (hY:∀pre x W,J pre W→pre.length<zs.length→YieldAt F (n-1) Tryz.prog l #[.int .i64 (x.1.1:Int),.int .i64 x.1.2] W fun e W' =>
   (e=.returned (.bool true)∧J (pre++[x]) W'∧KB Bs b W W')∨(e=.returned (.bool false)∧Jx (pre++[x]) W'))
  (W:World) (hBs:W.cell? ⟨Bs,0,none⟩=some (.slice (some ⟨b,off,none⟩) zs.length cap)) (hc:∀j,j<zs.length→W.cell? ⟨b,off+j,none⟩=some (.int .i64 (zs.getD j 0))) (h0:J [] W) :
  CallsIn F n Tryz.prog 286 #[.func (.yield l) #[] #[],.pointer (some ⟨Bs,0,none⟩)] W fun e W'=>(∃v,e=.returned v) ∧
   ((∃ys,ys=MR (HG zs) zs.length∧J ys W')∨(∃pre,(∃k,k≤zs.length∧pre=MR (HG zs) k)∧Jx pre W')):=by
 refine callsIn_of_wp Tryz.func286 rfl h8 ?_ hro
 simp only[Tryz.ntmps286,List.size_toArray,List.length_cons,List.length_nil,Nat.reduceAdd,Nat.reduceSub,Array.replicate_succ,Array.replicate_zero,List.push_toArray,List.append_toArray,List.nil_append,List.cons_append]
 gi_wp2
 gi_loopw [3] (fun i wr=>∃k:Nat,k≤zs.length∧i=.int .i64 ((zs.length:Int)-1-k)∧J (MR (HG zs) k) wr∧KB Bs b W wr)
  (fun i _=>(intOf i+1).toNat)
 case atStart=>exact⟨0,Nat.zero_le _,by simp,h0,KB.refl _ _ _⟩
 case round =>
  obtain⟨k,hk,rfl,hJs,hnx⟩:=hrel
  have hBr:wr.cell? ⟨Bs,0,none⟩=some (.slice (some ⟨b,off,none⟩) zs.length cap):=(hnx.cell1 0).trans hBs
  by_cases hlt:k<zs.length
  ·obtain⟨m,hm⟩:∃m,m=zs.length-1-k:=⟨_,rfl⟩
   have e:(zs.length:Int)-1-k=(m:Int):=by omega
   have hml:m<zs.length:=by omega
   have hcx:wr.cell? ⟨b,off+m,none⟩=some (.int .i64 (zs.getD m 0)):=(hnx.cell2 (off+m)).trans (hc m hml)
   have hbk:(HG zs k).1=(m,zs.getD m 0):=by show (zs.length-1-k,zs.getD (zs.length-1-k) 0)=_;rw[←hm]
   obtain⟨x,hx⟩:∃x,zs.getD m 0=x:=⟨_,rfl⟩
   rw[hx]at hcx hbk
   clear hm hx
   obtain⟨fn,tmps,assign,body,hy,hR⟩:=hY _ (HG zs k) wr hJs (by rw[a1n];exact hlt)
   rw[hbk]at hy
   dsimp only at hy
   rw[e]
   gi_wp2
   refine hR.mono ?_
   rintro e' W3 (⟨rfl,hJ3,hk3⟩ | ⟨rfl,hJx3⟩)
   ·gi_wp2
    go_roundw
    case rel=>exact⟨k+1,by omega,by simp;omega,by rw[Qp];exact hJ3,hnx.trans hk3⟩
    case measure=>simp[intOf]
   ·gi_wp2
    refine bodyPost_ret (results_none rfl _ _ _) rfl ?_
    exact⟨⟨_,rfl⟩,.inr ⟨_,⟨k+1,by omega,(Qp _ _).symm⟩,hJx3⟩⟩
  ·obtain rfl:k=zs.length:=by omega
   have e:(zs.length:Int)-1-zs.length = -1:=by omega
   rw[e]
   gi_wp2
   go_end0
   exact⟨⟨_,rfl⟩,.inl ⟨_,rfl,hJs⟩⟩
set_option maxRecDepth 100000 in
theorem Qx (F:Fence) (n:Nat) (h8:F.fn 286) (hro:F.round=none) (l Bs:Nat) (A:Option Addr) (cap:Nat) {zs:List Int}(J:List (BkE zs)→World→Prop) (W:World) (hBs:W.cell? ⟨Bs,0,none⟩=some (.slice A 0 cap)) (h0:J [] W) :
  CallsIn F n Tryz.prog 286 #[.func (.yield l) #[] #[],.pointer (some ⟨Bs,0,none⟩)] W fun e W'=>(∃v,e=.returned v)∧J [] W':=by
 refine callsIn_of_wp Tryz.func286 rfl h8 ?_ hro
 simp only[Tryz.ntmps286,List.size_toArray,List.length_cons,List.length_nil,Nat.reduceAdd,Nat.reduceSub,Array.replicate_succ,Array.replicate_zero,List.push_toArray,List.append_toArray,List.nil_append,List.cons_append]
 gi_wp2
 gi_loopw [3] (fun i wr=>i=.int .i64 (-1)∧J [] wr) (fun _ _=>0)
 case atStart=>exact⟨rfl,h0⟩
 case round =>
  obtain⟨rfl,hJs⟩:=hrel
  gi_wp2
  go_end0
  exact⟨⟨_,rfl⟩,hJs⟩
theorem Se (F:Fence) (n:Nat) (h6:F.fn 219) (hro:F.round=none) (a:Option Addr) (len cap:Nat) (w:World) :
  CallsIn F n Tryz.prog 219 #[.slice a len cap] w fun e w'=>e=.returned (.func (.func 286) #[] #[.pointer (some ⟨w.heap.size,0,none⟩)])∧w'=w.alloc (.cells #[.slice a len cap] 34):=by
 refine callsIn_of_wp Tryz.func219 rfl h6 ?_ hro
 simp only[Tryz.ntmps219,List.size_toArray,List.length_cons,List.length_nil,Nat.reduceAdd,Nat.reduceSub,Array.replicate_succ,Array.replicate_zero,List.push_toArray,List.append_toArray,List.nil_append,List.cons_append]
 gi_wp2
 go_ret
 exact⟨rfl,rfl⟩
def JT (b:Nat) (W:World) (A:Option Addr) (zs:List Int):Prop:=zs=[]∨∃off,A=some ⟨b,off,none⟩∧∀j,j<zs.length→W.cell? ⟨b,off+j,none⟩=some (.int .i64 (zs.getD j 0))
theorem JT.keep {b:Nat}{V W:World}(h:W.heap[b]? = V.heap[b]?) {A:Option Addr}{zs:List Int}:JT b V A zs→JT b W A zs
 | .inl e=>.inl e
 | .inr ⟨off,e,hc⟩=>.inr ⟨off,e,fun j hj=>(World.cell?_of_block h).trans (hc j hj)⟩
theorem Uo (F:Fence) (n:Nat) (h8:F.fn 286) (hro:F.round=none) (hn:1≤n) (Bs b:Nat) (A:Option Addr) (cap:Nat) (zs:List Int) (hz:zs.length≤1000) (w:World) (hBs:Bs<w.heap.size) (hb:b<w.heap.size)
  (hc:w.cell? ⟨Bs,0,none⟩=some (.slice A zs.length cap)) (hI:JT b w A zs) :
  SeqStopsK F n Tryz.prog 286 #[.pointer (some ⟨Bs,0,none⟩)] (fun x:BkE zs=>#[Value.int .i64 (x.1.1:Int),Value.int .i64 x.1.2]) (KB Bs b) (fun ys=>ys=MR (HG zs) zs.length)
   (fun pre=>∃k,k≤zs.length∧pre=MR (HG zs) k) zs.length w:=fun l J Jx W hW _ _ hY h0=>by
 have hc':=(hW.cell (p:=⟨Bs,0,none⟩) hBs).trans hc
 rcases hI.keep (hW.block b hb) with rfl | ⟨off,rfl,hcs⟩
 ·exact (Qx F n h8 hro l Bs A cap J W hc' h0).mono fun e W' ⟨he,hj⟩=>⟨he,.inl ⟨_,rfl,hj⟩⟩
 ·exact ZE F n h8 hro hn l Bs b off cap zs hz J Jx hY W hc' hcs h0
end Go.Proofs.YtcejfdfmgmcinaaGreat
