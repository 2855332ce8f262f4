/- Texts of this proof: R07 R08. -/
import Derived.Test.YtlciedpfjhkkdaaGreatDoorKR06
set_option linter.all false
set_option maxHeartbeats 8000000
namespace Go.Proofs.YtlciedpfjhkkdaaGreatDoor
open Go.RowKit
theorem Pj (fuel : Nat) (p : Option Addr) (W : World) : (method (fuel + 1) 281 (.pointer p) "Replace").run Tryz.prog W = .ok (326, .pointer p) W := by
 obtain ⟨i, hi, hi2⟩ := Option.map_eq_some_iff.1 (show (Tryz.prog.info? 281).map (fun i => (i.methods.find? (·.name == "Replace")).map fun m => (m.path.toList.length, m.func)) = some (some (0, some (326, true))) by kernel_rfl)
 obtain⟨m,hm,hm2⟩:=Option.map_eq_some_iff.1 hi2
 simp only[Prod.mk.injEq,List.length_eq_zero_iff]at hm2
 have hu:=Tryz.underlying281
 simp[method,typeInfo,hi,hm,hm2.1,hm2.2,follow,receiverAt,run_underlying hu,Place.get]
set_option maxRecDepth 100000 in
theorem KL (b g c:Nat) (s:ByteArray) (hs:s.size≤1000000) (w:World) (x3:Value) (hbl:b<w.heap.size)
  (h0:w.cell? ⟨b,0,none⟩=some (.int .u32 0)) (h1:w.cell? ⟨b,1,none⟩=some (.int .i32 0)) (f0:w.frozen? ⟨b,0,none⟩=false) (f1:w.frozen? ⟨b,1,none⟩=false)
  (hb3:w.cell? ⟨b,3,none⟩=some x3) (f3:w.frozen? ⟨b,3,none⟩=false) (hb4:w.cell? ⟨b,4,none⟩=some (.slice (some ⟨g,0,none⟩) 4 c)) (f4:w.frozen? ⟨b,4,none⟩=false)
  (hg:g<w.heap.size) (hgb:g≠b) (s0:w.cell? ⟨g,0,none⟩=some (.string ⟨#[34]⟩)) (s1:w.cell? ⟨g,1,none⟩=some (.string ⟨#[92,34]⟩)) (s2:w.cell? ⟨g,2,none⟩=some (.string ⟨#[92]⟩)) (s3:w.cell? ⟨g,3,none⟩=some (.string ⟨#[92,92]⟩)) :
  Calls Tryz.prog 168 #[.pointer (some ⟨b,0,none⟩),.string s] w fun x w'=>x=.returned (.string ⟨(Az s.data.toList).toArray⟩)∧Below b w w':=by
 have hmf:∀(fn:Fn) (first cap:Array Value) (w:World),(Instr.makeFunc fn first cap).run Tryz.prog w=.ok (.func fn first cap) w:=fun _ _ _ _=>rfl
 have hbo:=IB b g c (w.setCell ⟨b,1,none⟩ (.int .i32 1)) x3 (by simpa [World.setCell] using hbl) ((World.cell?_setCell_other _ ⟨b,1,none⟩ ⟨b,3,none⟩ _ (by simp)).trans hb3) (by simp[f3]) ((World.cell?_setCell_other _ ⟨b,1,none⟩ ⟨b,4,none⟩ _ (by simp)).trans hb4) (by simp[f4]) (by simpa [World.setCell] using hg)
  ((World.cell?_setCell_other _ ⟨b,1,none⟩ ⟨g,0,none⟩ _ (by simp[Ne.symm hgb])).trans s0) ((World.cell?_setCell_other _ ⟨b,1,none⟩ ⟨g,1,none⟩ _ (by simp[Ne.symm hgb])).trans s1) ((World.cell?_setCell_other _ ⟨b,1,none⟩ ⟨g,2,none⟩ _ (by simp[Ne.symm hgb])).trans s2) ((World.cell?_setCell_other _ ⟨b,1,none⟩ ⟨g,3,none⟩ _ (by simp[Ne.symm hgb])).trans s3)
 have hdo:=RC b (.pointer (some ⟨b,0,none⟩)) w _ h0 h1 f0 f1 hbo
 clear hbo
 go_enter Tryz.func168,Tryz.ntmps168
 have hme:=fun fuel p W=>Pj fuel p W
 go_wp2_with (go_at_call 202;refine hdo.mono ?_;rintro e w2 ⟨rfl,w1,hk,⟨hbw,hsz,hc3,hB⟩,rfl⟩)
 have hms:b<(w.setCell ⟨b,1,none⟩ (.int .i32 1)).heap.size:=by simpa [World.setCell] using hbl
 have hB2:=((hB.setCell (p:=⟨b,0,none⟩) hms (.int .u32 1)).setCell (p:=⟨b,1,none⟩) hms (.int .i32 0)).drew
 rw[show (w.setCell ⟨b,1,none⟩ (.int .i32 1)).heap.size=w.heap.size by simp[World.setCell]]at hB2
 obtain⟨n,e,ce,e',ce',HC⟩:=hB2.cells
 have hlow:Below b w (((w1.setCell ⟨b,0,none⟩ (.int .u32 1)).setCell ⟨b,1,none⟩ (.int .i32 0)).drew) :=
  ((((Below.refl b w).setCell (p:=⟨b,1,none⟩) (Nat.le_refl _) _).trans hbw).setCell (p:=⟨b,0,none⟩) (Nat.le_refl _) _ |>.setCell (p:=⟨b,1,none⟩) (Nat.le_refl _) _).drew
 have hbsz:b≤(((w1.setCell ⟨b,0,none⟩ (.int .u32 1)).setCell ⟨b,1,none⟩ (.int .i32 0)).drew).heap.size:=Nat.le_trans (Nat.le_of_lt hbl) hlow.size
 go_wp2_with (go_at_call 326;refine (Hn _ n e ce e' ce' s _ HC hs).mono ?_;rintro q w3 ⟨rfl,hb3⟩)
 go_ret
 exact⟨rfl,hlow.trans (hb3.mono hbsz)⟩
set_option maxRecDepth 100000 in
theorem GC (v0:Nat) (w:World) (hv:Blk w v0 9 #[txt #[34],txt #[92,34],txt #[92],txt #[92,92]]) :
  Calls Tryz.prog 167 #[D5 v0 4 4] w fun x w'=>∃b g c,x=.returned (.pointer (some ⟨b,0,none⟩))∧Below w.heap.size w w'∧w.heap.size≤b∧b<w'.heap.size∧g<w'.heap.size∧g≠b ∧
   Blk w' b 236 #[.int .u32 0,.int .i32 0,.int .u32 0,.nilIface,D5 g 4 c]∧w'.cell? ⟨g,0,none⟩=some (txt #[34])∧w'.cell? ⟨g,1,none⟩=some (txt #[92,34])∧w'.cell? ⟨g,2,none⟩=some (txt #[92])∧w'.cell? ⟨g,3,none⟩=some (txt #[92,92]):=by
 have c0:=hv.cell 0
 have c1:=hv.cell 1
 have c2:=hv.cell 2
 have c3:=hv.cell 3
 go_enter Tryz.func167,Tryz.ntmps167
 go_wp2
 go_ret
 have hx:∀(C:Array Value) (j:Nat),j<4→((#[txt #[34],txt #[92,34],txt #[92],txt #[92,92]]:Array Value)++C)[j]? = (#[txt #[34],txt #[92,34],txt #[92],txt #[92,92]]:Array Value)[j]?:=fun C j hj=>Array.getElem?_append_left (by simpa using hj)
 have hG:=fun (C:Array Value) (o:Obj)=>(Blk.new w 9 ((#[txt #[34],txt #[92,34],txt #[92],txt #[92,92]]:Array Value)++C)).alloc o
 refine⟨w.heap.size+1,w.heap.size,(Question.appendCap 4 0 9).cut (w.tape w.drawn (Question.appendCap 4 0 9)),rfl,(((Below.refl _ _).alloc (Nat.le_refl _) _).alloc (by simp) _).drew,by omega,by simp,by simp;omega,by omega,Bf ?_,?_,?_,?_,?_⟩
 ·have h1:=fun (o:Obj) (cs:Array Value)=>Blk.new (w.alloc o) 236 cs
  simp only[World.size_alloc]at h1
  exact h1 _ _
 ·exact ((Bf (hG _ _)).cell 0).trans (hx _ 0 (by decide))
 ·exact ((Bf (hG _ _)).cell 1).trans (hx _ 1 (by decide))
 ·exact ((Bf (hG _ _)).cell 2).trans (hx _ 2 (by decide))
 ·exact ((Bf (hG _ _)).cell 3).trans (hx _ 3 (by decide))
def Rw (s:ByteArray):ByteArray:=⟨#[34]⟩++⟨(Az s.data.toList).toArray⟩++⟨#[34]⟩
set_option maxRecDepth 100000 in
theorem NX (s:ByteArray) (hs:s.size≤1000000) (w:World) :
  Calls Tryz.prog 113 #[.string s] w fun x w'=>x=.returned (.string (Rw s))∧Below w.heap.size w w':=by
 have hesz:(Az s.data.toList).length≤2000000:=by
  have h1:=Gq s.data.toList
  have h2:cz s.data.toList≤s.data.toList.length:=List.length_filter_le _ _
  have h3:s.data.toList.length=s.size:=Array.length_toList
  omega
 go_enter Tryz.func113,Tryz.ntmps113
 go_wp2_with (first
  | (go_at_call 167;refine (GC w.heap.size _ (Blk.new w 9 #[txt #[34],txt #[92,34],txt #[92],txt #[92,92]])).mono ?_;rintro e w1 ⟨b,g,c,rfl,hb,hbl,hbs,hgs,hgb,hB,g0,g1,g2,g3⟩;have Hb:=Lib.hid hb;clear hb)
  | (go_at_call 168;refine (KL b g c s hs _ .nilIface hbs (hB.cell 0) (hB.cell 1) (hB.frozen 0) (hB.frozen 1) (hB.cell 3) (hB.frozen 3) (hB.cell 4) (hB.frozen 4) hgs hgb g0 g1 g2 g3).mono ?_;rintro q w2 ⟨rfl,hb2⟩;have Hb2:=Lib.hid hb2;clear hb2))
 go_ret
 have h1:Below w.heap.size (w.alloc (.cells #[txt #[34],txt #[92,34],txt #[92],txt #[92,92]] 9)) w1:=Hb.out.mono (by simp)
 have hbl':w.heap.size≤b:=by simp at hbl;omega
 exact⟨rfl,(((Below.refl _ w).alloc (Nat.le_refl _) _).trans h1).trans (Hb2.out.mono hbl')⟩
end Go.Proofs.YtlciedpfjhkkdaaGreatDoor
