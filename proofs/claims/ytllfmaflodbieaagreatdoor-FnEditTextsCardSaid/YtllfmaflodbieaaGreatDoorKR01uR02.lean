/- Texts of this proof: R01 R02. -/
import Derived.Test.YtllfmaflodbieaaGreatDoorChecked
import Derived.Tactics
import Derived.Tactics2
import Derived.Defers
import Derived.Laws.Pointers
import Derived.Laws.LoneSync
import Derived.RegionTactic
import Derived.RegionCalls
import Derived.ChangeAlike
import Derived.Laws.NewBlocks
import Derived.Below
set_option linter.all false
set_option maxHeartbeats 8000000
namespace Go.Proofs.YtllfmaflodbieaaGreatDoor
section
theorem KM (w:World):(callFunc 312 #[]).run Tryz.prog w=.ok (.value (.tuple #[])) w:=run_call_mark0 Tryz.func312 (by kernel_rfl) (by kernel_rfl) (by kernel_rfl) .disable (by kernel_rfl) w
theorem Mr (w:World):(callFunc 314 #[]).run Tryz.prog w=.ok (.value (.tuple #[])) w:=run_call_mark0 Tryz.func314 (by kernel_rfl) (by kernel_rfl) (by kernel_rfl) .enable (by kernel_rfl) w
theorem RG (a:Addr) (w:World):(callFunc 315 #[.pointer (some a)]).run Tryz.prog w=.ok (.value (.tuple #[])) w:=run_call_marked Tryz.func315 (by kernel_rfl) (by kernel_rfl) (by kernel_rfl) .acquire (by kernel_rfl) a w
theorem RH (a:Addr) (w:World):(callFunc 317 #[.pointer (some a)]).run Tryz.prog w=.ok (.value (.tuple #[])) w:=run_call_marked Tryz.func317 (by kernel_rfl) (by kernel_rfl) (by kernel_rfl) .releaseMerge (by kernel_rfl) a w
set_option maxRecDepth 100000 in
theorem Jl (a:Addr) (x:Value) (u:FrameMode) (w:World) (hc:w.cell? a=some x) (hz:w.frozen? a=false) :
  CallsD Tryz.prog 287 #[.pointer (some a),.bool true] u w fun e u' w'=>u'=u∧(e=.returned (.tuple #[])∧w'=w.drew.setCell a (.int .u32 1)):=by
 have hc':w.drew.cell? a=some x:=by go_simp
 have hz':w.drew.frozen? a=false:=by go_simp
 have hst:=run_call_store (P:=Tryz.prog) Tryz.func302 (by kernel_rfl) (by kernel_rfl) (by kernel_rfl) (by kernel_rfl) (k:=.u32) (y:=1) hc' hz'
 go_enter_d Tryz.func287,Tryz.ntmps287
 go_wp2
 go_region_calls
 all_goals (go_end0;exact⟨rfl,rfl⟩)
set_option maxRecDepth 100000 in
theorem IE (a:Addr) (u:FrameMode) (w:World) (hc:w.cell? a=some (.int .i32 1)) (hz:w.frozen? a=false) :
  CallsD Tryz.prog 286 #[.pointer (some a)] u w fun e u' w'=>u'=u∧(e=.returned (.tuple #[])∧w'=w.setCell a (.int .i32 0)):=by
 have hd:=KM
 have he:=Mr
 have hr:=RH
 have hadd:=run_call_add (P:=Tryz.prog) Tryz.func318 (by kernel_rfl) (by kernel_rfl) (by kernel_rfl) .i32 (by kernel_rfl) (y:=-1) (s:=0) hc hz (by simp[go_sem];rfl)
 have hcv:=run_convert_to_unsafe (P:=Tryz.prog) (src:=349) (dst:=174) Tryz.underlying349 Tryz.underlying174 (by kernel_rfl) hc
 go_enter_d Tryz.func286,Tryz.ntmps286
 go_wp2
 go_end0
 go_wp2
 go_end0
 exact⟨rfl,rfl⟩
set_option maxRecDepth 100000 in
theorem Ob (a:Addr) (w:World) (hc:w.cell? a=some (.int .i32 0)) (hz:w.frozen? a=false) :
  Calls Tryz.prog 285 #[.pointer (some a)] w fun e w'=>e=.returned (.tuple #[])∧w'=w.setCell a (.int .i32 1):=by
 have hd:=KM
 have he:=Mr
 have ha:=RG
 have hcas:=run_call_cas_hit (P:=Tryz.prog) Tryz.func313 (by kernel_rfl) (by kernel_rfl) (by kernel_rfl) .i32 (by kernel_rfl) (y:=1) hc hz
 have hc':(w.setCell a (.int .i32 1)).cell? a=some (.int .i32 1):=World.cell?_setCell_same w a _ hc
 have hcv:=run_convert_to_unsafe (P:=Tryz.prog) (src:=349) (dst:=174) Tryz.underlying349 Tryz.underlying174 (by kernel_rfl) hc'
 go_enter Tryz.func285,Tryz.ntmps285
 go_wp2
 first | go_end0 | (simp only[Exit.inBlock,Exit.then];refine bodyPost_ret (results_none rfl _ _ _) rfl ?_) | refine bodyPost_ret (results_none rfl _ _ _) rfl ?_
 go_wp2
 go_end0
 exact⟨rfl,rfl⟩
end
section
open Go.RowKit
structure OnceKept (b:Nat) (w w':World):Prop where
 c0:w'.cell? ⟨b,0,none⟩=w.cell? ⟨b,0,none⟩
 c1:w'.cell? ⟨b,1,none⟩=w.cell? ⟨b,1,none⟩
 f0:w'.frozen? ⟨b,0,none⟩=w.frozen? ⟨b,0,none⟩
 f1:w'.frozen? ⟨b,1,none⟩=w.frozen? ⟨b,1,none⟩
set_option maxRecDepth 100000 in
theorem Yb (b:Nat) (x:Value) (w:World) (R:World→Prop)
  (h0:w.cell? ⟨b,0,none⟩=some (.int .u32 0)) (h1:w.cell? ⟨b,1,none⟩=some (.int .i32 0))
  (f0:w.frozen? ⟨b,0,none⟩=false) (f1:w.frozen? ⟨b,1,none⟩=false)
  (hf:Calls Tryz.prog 210 #[x] (w.setCell ⟨b,1,none⟩ (.int .i32 1)) fun e w'=>e=.returned (.tuple #[])∧OnceKept b (w.setCell ⟨b,1,none⟩ (.int .i32 1)) w'∧R w') :
  Calls Tryz.prog 253 #[.pointer (some ⟨b,0,none⟩),.func (.func 210) #[x] #[]] w fun e w'=>e=.returned (.tuple #[]) ∧
   ∃w1,OnceKept b (w.setCell ⟨b,1,none⟩ (.int .i32 1)) w1∧R w1∧w'=(w1.drew.setCell ⟨b,0,none⟩ (.int .u32 1)).setCell ⟨b,1,none⟩ (.int .i32 0):=by
 have hl:=run_call_load (P:=Tryz.prog) Tryz.func284 (by kernel_rfl) (by kernel_rfl) (by kernel_rfl) .u32 (by kernel_rfl) (w:=w.setCell ⟨b,1,none⟩ (.int .i32 1)) (a:=⟨b,0,none⟩) (x:=0) ((World.cell?_setCell_other _ ⟨b,1,none⟩ ⟨b,0,none⟩ _ (by simp)).trans h0)
 have hnot:∀(x:Bool) (w:World),(Op.unary .not (.bool x)).run Tryz.prog w=.ok (.bool (!x)) w:=fun _ _=>rfl
 go_enter_defers Tryz.func253,Tryz.ntmps253
 go_wp2_with (go_at_call 285;refine (Ob ⟨b,1,none⟩ _ (by go_simp) (by go_simp)).mono ?_;rintro e w' ⟨rfl,rfl⟩)
 go_wp2_with (go_at_call 252;go_in)
 go_wp2_with (go_at_call 210;refine hf.mono ?_;rintro e w1 ⟨rfl,hk,hR⟩)
 refine leaves_cons (f:=287) (args:=#[.pointer (some ⟨b,0,none⟩),.bool true]) (by simp) (by simp[go_sem]) ?_
 refine (Jl ⟨b,0,none⟩ (.int .u32 0) .returning _ ?_ ?_).mono ?_
 ·rw[hk.c0];exact (World.cell?_setCell_other _ ⟨b,1,none⟩ ⟨b,0,none⟩ _ (by simp)).trans h0
 ·rw[hk.f0];simp[f0]
 rintro e u' w'' ⟨rfl,rfl,rfl⟩
 refine leaves_cons (f:=286) (args:=#[.pointer (some ⟨b,1,none⟩)]) (by simp[settle]) (by simp[go_sem]) ?_
 refine (IE ⟨b,1,none⟩ _ _ ?_ ?_).mono ?_
 ·refine (World.cell?_setCell_other _ ⟨b,0,none⟩ ⟨b,1,none⟩ _ (by simp)).trans ?_
  rw[World.cell?_drew,hk.c1]
  exact World.cell?_setCell_same w _ _ h1
 ·simp[hk.f1,f1]
 rintro e u' w'' ⟨rfl,rfl,rfl⟩
 simp[Leaves,settle,results,Tryz.results253]
 exact⟨w1,hk,hR,rfl⟩
set_option maxRecDepth 100000 in
theorem a1y (b:Nat) (x:Value) (w:World) (R:World→Prop)
  (h0:w.cell? ⟨b,0,none⟩=some (.int .u32 0)) (h1:w.cell? ⟨b,1,none⟩=some (.int .i32 0))
  (f0:w.frozen? ⟨b,0,none⟩=false) (f1:w.frozen? ⟨b,1,none⟩=false)
  (hf:Calls Tryz.prog 210 #[x] (w.setCell ⟨b,1,none⟩ (.int .i32 1)) fun e w'=>e=.returned (.tuple #[])∧OnceKept b (w.setCell ⟨b,1,none⟩ (.int .i32 1)) w'∧R w') :
  Calls Tryz.prog 209 #[.pointer (some ⟨b,0,none⟩),.func (.func 210) #[x] #[]] w fun e w'=>e=.returned (.tuple #[]) ∧
   ∃w1,OnceKept b (w.setCell ⟨b,1,none⟩ (.int .i32 1)) w1∧R w1∧w'=(w1.drew.setCell ⟨b,0,none⟩ (.int .u32 1)).setCell ⟨b,1,none⟩ (.int .i32 0):=by
 have hl:=run_call_load (P:=Tryz.prog) Tryz.func284 (by kernel_rfl) (by kernel_rfl) (by kernel_rfl) .u32 (by kernel_rfl) h0
 have hnot:∀(x:Bool) (w:World),(Op.unary .not (.bool x)).run Tryz.prog w=.ok (.bool (!x)) w:=fun _ _=>rfl
 go_enter Tryz.func209,Tryz.ntmps209
 go_wp2_with (first | (go_at_call 253;refine (Yb b x _ R h0 h1 f0 f1 hf).mono ?_;rintro e w' ⟨rfl,w1,hk,hR,rfl⟩) | (go_at_call 252;go_in))
 go_end0
 exact⟨rfl,w1,hk,hR,rfl⟩
end
end Go.Proofs.YtllfmaflodbieaaGreatDoor
