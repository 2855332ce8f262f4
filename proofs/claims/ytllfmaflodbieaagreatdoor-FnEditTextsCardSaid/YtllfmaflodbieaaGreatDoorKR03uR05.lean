/- Texts of this proof: R03 R04 R05. -/
import Derived.Test.YtllfmaflodbieaaGreatDoorKR01uR02
import Derived.ProofKit
import Derived.Test.YtllfmaflodbieaaGreatDoorKE1
import Derived.Laws.IdiomStrings
import Derived.Laws.AppendOwn
import Derived.Laws.Tables
import Derived.Deep.WholeRow
import Derived.Laws.IdiomCopy
import Derived.Laws.CopyRow
import Derived.Lib.Bytealg
import Derived.Laws.CopyOwn
set_option linter.all false
set_option maxHeartbeats 8000000
namespace Go.Proofs.YtllfmaflodbieaaGreatDoor
open Go.RowKit
def bsr (s:Value):Array Value:=(Array.replicate 256 (.slice none 0 0)).push s
set_option maxRecDepth 100000 in
theorem Xq (a:Option Addr) (l c:Nat):Tryz.prog.built 313 [(1,.slice a l c)]=some (bsr (.slice a l c)):=by kernel_rfl
set_option maxRecDepth 100000 in
theorem Uo:(∃i,Tryz.prog.info? 313=some i∧i.zero=some (.agg (bsr (.slice none 0 0)))∧i.size=257):=by
 obtain⟨i,hi,hi2⟩:=Option.map_eq_some_iff.1 (show (Tryz.prog.info? 313).map (fun i=>(i.zero,i.size))=some (some (.agg (bsr (.slice none 0 0))),257) by kernel_rfl)
 simp only[Prod.mk.injEq]at hi2
 exact⟨i,hi,hi2.1,hi2.2⟩
theorem Ki (s:Value):(bsr s).size=257:=by simp[bsr]
theorem a0v (a:Option Addr) (l c:Nat):(bsr (.slice a l c)).all (·.oneCell')=true:=by
 rw[Array.all_eq_true_iff_forall_mem]
 intro x hx
 unfold bsr at hx
 rcases Array.mem_push.1 hx with hx | rfl
 ·rw[(Array.mem_replicate.1 hx).2];rfl
 ·rfl
theorem YR (W:World) (a:Option Addr) (l c:Nat):(storeCells ⟨W.heap.size,0,none⟩ (bsr (.slice a l c)).toList).run Tryz.prog (W.alloc (.cells (bsr (.slice none 0 0)) 313))=.ok () (W.alloc (.cells (bsr (.slice a l c)) 313)):=by
 obtain⟨iz,hiz,hz1,hz2⟩:=Uo
 refine run_storeCells_new (P:=Tryz.prog) W 313 _ _ ?_ ?_ (a0v a l c)
 ·rw[hiz,Ki];simp[hz2]
 ·rw[Ki,Ki]
theorem a15 (n:Nat) (x y z:Value):(List.replicate n x++[y]).set n z=List.replicate n x++[z]:=by simp[List.set_append]
theorem Zf (s:Value):(bsr (.slice none 0 0)).toList.set 256 s=(bsr s).toList:=by
 unfold bsr
 rw[Array.toList_push,Array.toList_push,Array.toList_replicate]
 exact a15 256 _ _ _
def Dc (w:World) (e:Nat) (l:List Int):Prop:=e<w.heap.size∧∀(j:Nat) b,l[j]? = some b→w.cell? ⟨e,j,none⟩=some (.int .u8 b)
theorem Dc.below {w w':World}{e:Nat}{l:List Int}(h:Dc w e l) (hb:Below w.heap.size w w'):Dc w' e l :=
 ⟨Nat.lt_of_lt_of_le h.1 hb.size,fun j b hj=>(hb.cell h.1).trans (h.2 j b hj)⟩
abbrev txt (l:Array UInt8):Value:=.string ⟨l⟩
abbrev Fp (b l c:Nat):Value:=.slice (some ⟨b,0,none⟩) l c
def BI (n:Nat) (i:Value) (wr:World):Prop :=
 (i=.int .i64 2∧Blk wr n 9 #[txt #[],txt #[]]∧Blk wr (n+1) 313 (bsr (Fp n 0 2))) ∨
 (i=.int .i64 0∧∃e c,n+2≤e∧Dc wr e [92,92]∧Blk wr n 9 #[txt #[92],txt #[]]∧Blk wr (n+1) 313 ((bsr (Fp n 1 2)).setIfInBounds 92 (Fp e 2 c))) ∨
 (i=.int .i64 (-2)∧∃e c e' c',n+2≤e∧n+2≤e'∧Dc wr e [92,92]∧Dc wr e' [92,34]∧Blk wr n 9 #[txt #[92],txt #[34]]∧Blk wr (n+1) 313 (((bsr (Fp n 2 2)).setIfInBounds 92 (Fp e 2 c)).setIfInBounds 34 (Fp e' 2 c')))
theorem N7 (s:Value) {c:Nat}(h:c<256):(bsr s)[c]? = some (.slice none 0 0):=by
 unfold bsr
 rw[Array.getElem?_push_lt (by simpa using h)]
 simp
theorem Ic (s:Value):(bsr s)[256]? = some s:=by
 unfold bsr
 have:=Array.getElem?_push_size (xs:=Array.replicate 256 (Value.slice none 0 0)) (x:=s)
 simpa using this
theorem QC (s s':Value):(bsr s).setIfInBounds 256 s'=bsr s':=by
 unfold bsr
 apply Array.ext
 ·simp
 ·intro i h1 h2
  simp at h1
  rw[Array.getElem_setIfInBounds (by simpa using h1)]
  split
  ·rename_i hi
   subst hi
   rw[Array.getElem_push]
   simp
  ·rw[Array.getElem_push_lt (by simp;omega),Array.getElem_push_lt (by simp;omega)]
theorem WW (w:World):(binOp BinOp.eql 29 (.slice none 0 0) (.slice none 0 0)).run Tryz.prog w=.ok (.bool true) w:=QZ Tryz.underlying29 none 0 0 w
theorem Rp (w:World):(binOp BinOp.neq 29 (.slice none 0 0) (.slice none 0 0)).run Tryz.prog w=.ok (.bool false) w:=MU Tryz.underlying29 none 0 0 w
theorem IK (a:Addr) (l c:Nat) (w:World):(binOp BinOp.neq 29 (.slice (some a) l c) (.slice none 0 0)).run Tryz.prog w=.ok (.bool true) w:=MU Tryz.underlying29 (some a) l c w
theorem Tz (w:World) (b:UInt8):(convert 29 9 (Fp w.heap.size 1 1)).run Tryz.prog (w.alloc (.cells #[.int .u8 (b.toNat:Int)] 5))=.ok (txt #[b]) (w.alloc (.cells #[.int .u8 (b.toNat:Int)] 5)):=by
 have:=run_convert_bytes_back (P:=Tryz.prog) (w.alloc (.cells #[.int .u8 (b.toNat:Int)] 5)) 29 9 5 ⟨w.heap.size,0,none⟩ 1 [b] Tryz.underlying29 Tryz.underlying5 Tryz.underlying9 (fun j hj=>by
  have hj0:j=0:=by simpa using hj
  subst hj0
  have:=(Blk.new w 5 #[.int .u8 (b.toNat:Int)]).cell 0
  simpa [Addr.add] using this)
 simpa using this
theorem CA {w:World}{g:Nat}{t:TypeId}{cs:Array Value}(h:Blk w g t cs):Blk w.drew g t cs:=h
def cpB (w:World) (s:ByteArray):Nat:=grownCap w s.size 0 5
def obB (w:World) (s:ByteArray):Obj:=.cells (bytesRow s (cpB w s)) 5 ((bytesRow s (cpB w s)).size,(bytesRow s (cpB w s)).size+1)
theorem OH (w:World) (s:ByteArray):(convert 9 29 (.string s)).run Tryz.prog w=.ok (.slice (some ⟨w.heap.size,0,none⟩) s.size (cpB w s)) (w.drew.alloc (obB w s)) :=
 run_bytes_of_string w 9 29 5 s Tryz.underlying9 Tryz.underlying29 Tryz.underlying5
theorem z8 (w:World) (s:ByteArray) (l:List Int) (h:∀(j:Nat) b,l[j]? = some b→(bytesRow s (cpB w s))[j]? = some (.int .u8 b)):Dc (w.drew.alloc (obB w s)) w.heap.size l :=
 ⟨by simp,fun j b hj=>by
  rw[cell_of_row _ w.heap.size j _ _ _ (by have:=heap_alloc_new w.drew (obB w s);exact this)]
  exact h j b hj⟩
theorem Ql (a b:UInt8) (c:Nat) (j:Nat) (x:Int) (h:[(a.toNat:Int),(b.toNat:Int)][j]? = some x):(bytesRow ⟨#[a,b]⟩ c)[j]? = some (.int .u8 x):=by
 unfold bytesRow
 match j,h with
 | 0,h=>cases h;rw[Array.getElem?_append_left (by simp)];simp
 | 1,h=>cases h;rw[Array.getElem?_append_left (by simp)];simp
def Jo (m:Nat) (w:World) (d:Nat):Prop:=∃n e c e' c',m≤n∧m≤e∧m≤e'∧m≤d∧Blk w n 9 #[txt #[92],txt #[34]]∧Dc w e [92,92]∧Dc w e' [92,34]∧Blk w d 313 (((bsr (Fp n 2 2)).setIfInBounds 92 (Fp e 2 c)).setIfInBounds 34 (Fp e' 2 c'))
theorem Mt {w wr:World}{cs arr:Array Value}(hbw:Below w.heap.size w wr) (hsz:w.heap.size+2≤wr.heap.size) (b1:Blk wr w.heap.size 9 cs) (b2:Blk wr (w.heap.size+1) 313 arr)
  (o k:Nat) (x y s':Value) (t:ByteArray) (l:List Int) (hl:∀(W:World) (j:Nat) b,l[j]? = some b→(bytesRow t (cpB W t))[j]? = some (.int .u8 b)) (W4:World)
  (h4:W4=(((wr.alloc (.cells #[x] 5)).alloc (.cells #[y] 9)).setCell ⟨w.heap.size,k,none⟩ y).setCell ⟨w.heap.size+1,256,none⟩ s') (v:Value) :
  Below w.heap.size w (((W4.alloc (obB W4 t)).setCell ⟨w.heap.size+1,o,none⟩ v).drew)∧w.heap.size+2≤(((W4.alloc (obB W4 t)).setCell ⟨w.heap.size+1,o,none⟩ v).drew).heap.size ∧
  Blk (((W4.alloc (obB W4 t)).setCell ⟨w.heap.size+1,o,none⟩ v).drew) w.heap.size 9 (cs.setIfInBounds k y) ∧
  Blk (((W4.alloc (obB W4 t)).setCell ⟨w.heap.size+1,o,none⟩ v).drew) (w.heap.size+1) 313 ((arr.setIfInBounds 256 s').setIfInBounds o v) ∧
  Dc (((W4.alloc (obB W4 t)).setCell ⟨w.heap.size+1,o,none⟩ v).drew) (wr.heap.size+1+1) l ∧
  ∀e l',Dc wr e l'→w.heap.size+2≤e→Dc (((W4.alloc (obB W4 t)).setCell ⟨w.heap.size+1,o,none⟩ v).drew) e l':=by
 have hs4:W4.heap.size=wr.heap.size+1+1:=by subst h4;simp[World.setCell]
 have hb4:Below w.heap.size w W4:=by
  subst h4
  exact (((hbw.alloc (by omega) _).alloc (by simp;omega) _).setCell (by simp) _).setCell (by simp) _
 have hb5:Below w.heap.size w (((W4.alloc (obB W4 t)).setCell ⟨w.heap.size+1,o,none⟩ v).drew):=((hb4.alloc (by omega) _).setCell (by simp) _).drew
 have B1:Blk W4 w.heap.size 9 (cs.setIfInBounds k y):=by
  subst h4
  exact ((((b1.alloc _).alloc _).set_ k y).far (by simp) s')
 have B2:Blk W4 (w.heap.size+1) 313 (arr.setIfInBounds 256 s'):=by
  subst h4
  exact ((((b2.alloc _).alloc _).far (by simp) y).set_ 256 s')
 have hsame:∀e,w.heap.size+2≤e→e<W4.heap.size→(((W4.alloc (obB W4 t)).setCell ⟨w.heap.size+1,o,none⟩ v).drew).heap[e]? = W4.heap[e]?:=fun e h1 h2=>by
  show ((W4.alloc (obB W4 t)).setCell ⟨w.heap.size+1,o,none⟩ v).heap[e]? = _
  rw[Below.heap_setCell _ _ _ _ (by simp;omega),Below.heap_alloc _ _ _ h2]
 refine⟨hb5,?_,CA ((B1.alloc _).far (by simp) v),CA ((B2.alloc _).set_ o v),⟨?_,fun j b hj=>?_⟩,fun e l' he h2=>⟨?_,fun j b hj=>?_⟩⟩
 ·show _≤((W4.alloc (obB W4 t)).setCell ⟨w.heap.size+1,o,none⟩ v).heap.size
  simp[World.setCell];omega
 ·show _<((W4.alloc (obB W4 t)).setCell ⟨w.heap.size+1,o,none⟩ v).heap.size
  simp[World.setCell];omega
 ·have h1:=(z8 W4 t l (hl W4)).2 j b hj
  rw[←hs4]
  refine (World.cell?_of_block (w:=W4.drew.alloc (obB W4 t)) ?_).trans h1
  show ((W4.alloc (obB W4 t)).setCell ⟨w.heap.size+1,o,none⟩ v).heap[W4.heap.size]? = _
  rw[Below.heap_setCell _ _ _ _ (by simp;omega)]
  rfl
 ·have:=he.1
  show _<((W4.alloc (obB W4 t)).setCell ⟨w.heap.size+1,o,none⟩ v).heap.size
  simp[World.setCell];omega
 ·have h1:=he.2 j b hj
  have hlt:=he.1
  refine (World.cell?_of_block (w:=wr) ?_).trans h1
  show (((W4.alloc (obB W4 t)).setCell ⟨w.heap.size+1,o,none⟩ v).drew).heap[e]? = wr.heap[e]?
  rw[hsame e h2 (by omega)]
  subst h4
  rw[Below.heap_setCell _ _ _ _ (by simp;omega),Below.heap_setCell _ _ _ _ (by simp;omega),Below.heap_alloc _ _ _ (by simp;omega),Below.heap_alloc _ _ _ hlt]
set_option maxRecDepth 100000 in
theorem UB (b g c:Nat) (w:World) (hb4:w.cell? ⟨b,4,none⟩=some (.slice (some ⟨g,0,none⟩) 4 c))
  (hg:g<w.heap.size) (s0:w.cell? ⟨g,0,none⟩=some (.string ⟨#[34]⟩)) (s1:w.cell? ⟨g,1,none⟩=some (.string ⟨#[92,34]⟩)) (s2:w.cell? ⟨g,2,none⟩=some (.string ⟨#[92]⟩)) (s3:w.cell? ⟨g,3,none⟩=some (.string ⟨#[92,92]⟩)) :
  Calls Tryz.prog 254 #[.pointer (some ⟨b,0,none⟩)] w fun e w'=>e=.returned (.iface 314 (.pointer (some ⟨w.heap.size+1,0,none⟩)))∧Below w.heap.size w w'∧Jo w.heap.size w' (w.heap.size+1):=by
 go_enter Tryz.func254,Tryz.ntmps254
 go_wp2
 go_loop [4,5] (fun all i=>(i=.int .i64 0∧all=.bool true)∨(i=.int .i64 2∧all=.bool false)∨(i=.int .i64 4∧all=.bool false)) (fun _ i=>4-(intOf i).toNat)
 case atStart=>exact .inl ⟨rfl,rfl⟩
 case round =>
  rcases hrel with⟨rfl,rfl⟩ | ⟨rfl,rfl⟩ | ⟨rfl,rfl⟩
  ·go_wp2
   exact⟨.inr (.inl ⟨rfl,rfl⟩),by show 4-(2:Int).toNat<4-(0:Int).toNat;decide⟩
  ·go_wp2
   exact⟨.inr (.inr ⟨rfl,rfl⟩),by show 4-(4:Int).toNat<4-(2:Int).toNat;decide⟩
  ·obtain⟨i,hi,hi2⟩:=Option.map_eq_some_iff.1 (show (Tryz.prog.info? 9).map (fun i=>(i.zero,i.size,i.bytes))=some (some (.string ByteArray.empty),1,16) by kernel_rfl)
   simp only[Prod.mk.injEq]at hi2
   have hmk:=run_makeSlice (P:=Tryz.prog) w 50 9 i _ Tryz.underlying50 hi hi2.1 .i64 .i64 0 2 (by omega) (by omega) (by rw[hi2.2.1];decide) (by rw[hi2.2.2];decide) (by omega)
   rw[hi2.2.1]at hmk
   have hbd:∀(a:Option Addr) (l c:Nat) (w:World),(Instr.build 313 #[(1,.slice a l c)]).run Tryz.prog w=.ok (.agg (bsr (.slice a l c))) w:=fun a l c w=>_root_.Go.run_build w _ _ _ (Xq a l c)
   obtain⟨iz,hiz,hz1,hz2⟩:=Uo
   have hzv:∀w:World,(zeroValue 313).run Tryz.prog w=.ok (.agg (bsr (.slice none 0 0))) w:=fun w=>by simp[zeroValue,typeInfo,hiz,hz1]
   have hst1:=YR (w.alloc (.cells (madeCells #[.string ByteArray.empty] 2) 9)) (some ⟨w.heap.size,0,none⟩) 0 2
   simp only[World.size_alloc]at hst1
   have hbs:=Ki
   have hst2:=hst1
   rw[←Zf]at hst2
   go_wp2
   go_loopw [12] (fun i wr=>Below w.heap.size w wr∧w.heap.size+2≤wr.heap.size∧BI w.heap.size i wr) (fun i _=>(intOf i+2).toNat)
   case atStart =>
    refine⟨((Below.refl _ _).alloc (Nat.le_refl _) _).alloc (by simp) _,by simp,.inl ⟨rfl,?_,?_⟩⟩
    ·rw[show madeCells #[Value.string ByteArray.empty] 2 = #[txt #[],txt #[]] by simp[madeCells,Array.range];rfl]
     exact (Blk.new w 9 #[txt #[],txt #[]]).alloc _
    ·have:=Blk.new (w.alloc (.cells (madeCells #[.string ByteArray.empty] 2) 9)) 313 (bsr (Fp w.heap.size 0 2))
     simpa using this
   case round =>
    obtain⟨hbw,hsz,hbi⟩:=hrel
    have y92:((⟨#[92]⟩:ByteArray)[0]).toNat=92:=rfl
    have y34:((⟨#[34]⟩:ByteArray)[0]).toNat=34:=rfl
    have t0:=(hbw.cell (p:=⟨g,0,none⟩) hg).trans s0
    have t1:=(hbw.cell (p:=⟨g,1,none⟩) hg).trans s1
    have t2:=(hbw.cell (p:=⟨g,2,none⟩) hg).trans s2
    have t3:=(hbw.cell (p:=⟨g,3,none⟩) hg).trans s3
    clear hst1 hst2 hmk hzv hbd hb4 s0 s1 s2 s3
    rcases hbi with⟨rfl,b1,b2⟩ | ⟨rfl,e,c1,he,hr,b1,b2⟩ | ⟨rfl,e,c1,e',c2,he,he',hr,hr',b1,b2⟩
    ·have q1:=b2.cell 92
     rw[N7 _ (by omega)]at q1
     have q2:=b2.cell 256
     rw[Ic]at q2
     have z1:=b2.frozen 92
     have z2:=b2.frozen 256
     have hnil:=WW
     have hot:=Tz wr 92
     simp only[show ((92:UInt8).toNat:Int)=92 from rfl]at hot
     have z3:=(b1.alloc (.cells #[.int .u8 92] 5)).alloc (.cells #[txt #[92]] 9) |>.frozen 0
     have q3:=(b1.alloc (.cells #[.int .u8 92] 5)).alloc (.cells #[txt #[92]] 9) |>.cell 0
     have z4:=(b2.alloc (.cells #[.int .u8 92] 5)).alloc (.cells #[txt #[92]] 9) |>.frozen 256
     have q4:=(b2.alloc (.cells #[.int .u8 92] 5)).alloc (.cells #[txt #[92]] 9) |>.cell 256
     rw[Ic]at q4
     have hsb:=fun W=>OH W ⟨#[92,92]⟩
     have B1:=((((b1.alloc (.cells #[.int .u8 92] 5)).alloc (.cells #[txt #[92]] 9)).set_ 0 (txt #[92])).far (p:=⟨w.heap.size+1,256,none⟩) (by simp) (Fp w.heap.size 1 2))
     have B2:=((((b2.alloc (.cells #[.int .u8 92] 5)).alloc (.cells #[txt #[92]] 9)).far (p:=⟨w.heap.size,0,none⟩) (by simp) (txt #[92])).set_ 256 (Fp w.heap.size 1 2))
     rw[QC]at B2
     have z5:=fun o=>(B2.alloc o).frozen 92
     have q5:=fun o=>(B2.alloc o).cell 92
     rw[N7 _ (by omega)]at q5
     have HB1:=Lib.hid B1
     have HB2:=Lib.hid B2
     clear B1 B2
     have Hb1:=Lib.hid b1
     have Hb2:=Lib.hid b2
     have Hbw:=Lib.hid hbw
     clear b1 b2 hbw
     go_wp2
     case roundEnd =>
      obtain⟨r1,r2,r3,r4,r5,_⟩:=Mt Hbw.out hsz Hb1.out Hb2.out 92 0 (.int .u8 92) (txt #[92]) (Fp w.heap.size 1 2) ⟨#[92,92]⟩ [92,92] (fun W j b hj=>Ql 92 92 _ j b hj) _ rfl (Fp (wr.heap.size+1+1) 2 (cpB ((((wr.alloc (.cells #[.int .u8 92] 5)).alloc (.cells #[txt #[92]] 9)).setCell ⟨w.heap.size,0,none⟩ (txt #[92])).setCell ⟨w.heap.size+1,256,none⟩ (Fp w.heap.size 1 2)) ⟨#[92,92]⟩))
      rw[QC]at r4
      exact⟨⟨r1,r2,.inr (.inl ⟨rfl,_,_,by omega,r5,r3,r4⟩)⟩,by show (2:Int).toNat<(4:Int).toNat;decide⟩
    ·have q1:=b2.cell 34
     rw[Array.getElem?_setIfInBounds_ne (by decide),N7 _ (by omega)]at q1
     have q2:=b2.cell 256
     rw[Array.getElem?_setIfInBounds_ne (by decide),Ic]at q2
     have z1:=b2.frozen 34
     have z2:=b2.frozen 256
     have hnil:=WW
     have hot:=Tz wr 34
     simp only[show ((34:UInt8).toNat:Int)=34 from rfl]at hot
     have z3:=(b1.alloc (.cells #[.int .u8 34] 5)).alloc (.cells #[txt #[34]] 9) |>.frozen 1
     have q3:=(b1.alloc (.cells #[.int .u8 34] 5)).alloc (.cells #[txt #[34]] 9) |>.cell 1
     have z4:=(b2.alloc (.cells #[.int .u8 34] 5)).alloc (.cells #[txt #[34]] 9) |>.frozen 256
     have q4:=(b2.alloc (.cells #[.int .u8 34] 5)).alloc (.cells #[txt #[34]] 9) |>.cell 256
     rw[Array.getElem?_setIfInBounds_ne (by decide),Ic]at q4
     have hsb:=fun W=>OH W ⟨#[92,34]⟩
     have B2:=((((b2.alloc (.cells #[.int .u8 34] 5)).alloc (.cells #[txt #[34]] 9)).far (p:=⟨w.heap.size,1,none⟩) (by simp) (txt #[34])).set_ 256 (Fp w.heap.size 2 2))
     have z5:=fun o=>(B2.alloc o).frozen 34
     have q5:=fun o=>(B2.alloc o).cell 34
     rw[Array.getElem?_setIfInBounds_ne (by decide),Array.getElem?_setIfInBounds_ne (by decide),N7 _ (by omega)]at q5
     have Hb1:=Lib.hid b1
     have Hb2:=Lib.hid b2
     have Hbw:=Lib.hid hbw
     have Hr:=Lib.hid hr
     clear b1 b2 hbw B2 hr
     go_wp2
     case roundEnd =>
      obtain⟨r1,r2,r3,r4,r5,r6⟩:=Mt Hbw.out hsz Hb1.out Hb2.out 34 1 (.int .u8 34) (txt #[34]) (Fp w.heap.size 2 2) ⟨#[92,34]⟩ [92,34] (fun W j b hj=>Ql 92 34 _ j b hj) _ rfl (Fp (wr.heap.size+1+1) 2 (cpB ((((wr.alloc (.cells #[.int .u8 34] 5)).alloc (.cells #[txt #[34]] 9)).setCell ⟨w.heap.size,1,none⟩ (txt #[34])).setCell ⟨w.heap.size+1,256,none⟩ (Fp w.heap.size 2 2)) ⟨#[92,34]⟩))
      rw[Array.setIfInBounds_comm _ _ (by decide:(92:Nat)≠256),QC]at r4
      exact⟨⟨r1,r2,.inr (.inr ⟨rfl,e,c1,_,_,he,by omega,r6 _ _ Hr.out he,r5,r3,r4⟩)⟩,by show (0:Int).toNat<(2:Int).toNat;decide⟩
    ·have Hb2:=Lib.hid b2
     clear b2
     go_wp2
     go_ret
     exact⟨rfl,hbw,_,e,c1,e',c2,Nat.le_refl _,by omega,by omega,by omega,b1,hr,hr',Hb2.out⟩
theorem Dc.cells {w w':World}{e:Nat}{l:List Int}(h:Dc w e l) (hs:w.heap.size≤w'.heap.size) (hb:w'.heap[e]? = w.heap[e]?):Dc w' e l :=
 ⟨Nat.lt_of_lt_of_le h.1 hs,fun j b hj=>(World.cell?_of_block hb).trans (h.2 j b hj)⟩
theorem Jo.setCell {m d:Nat}{w:World}(h:Jo m w d) {p:Addr}(hp:p.block<m) (v:Value):Jo m (w.setCell p v) d:=by
 obtain⟨n,e,c,e',c',h1,h2,h3,h4,b1,r1,r2,b2⟩:=h
 have hs:w.heap.size≤(w.setCell p v).heap.size:=by simp[World.setCell]
 exact⟨n,e,c,e',c',h1,h2,h3,h4,b1.far (by omega) v,r1.cells hs (Below.heap_setCell _ _ _ _ (by omega)),r2.cells hs (Below.heap_setCell _ _ _ _ (by omega)),b2.far (by omega) v⟩
theorem Jo.drew {m d:Nat}{w:World}(h:Jo m w d):Jo m w.drew d:=h
set_option maxRecDepth 100000 in
theorem N8 (b g c:Nat) (w:World) (x3:Value) (hbl:b<w.heap.size) (hb3:w.cell? ⟨b,3,none⟩=some x3) (f3:w.frozen? ⟨b,3,none⟩=false) (hb4:w.cell? ⟨b,4,none⟩=some (.slice (some ⟨g,0,none⟩) 4 c)) (f4:w.frozen? ⟨b,4,none⟩=false)
  (hg:g<w.heap.size) (s0:w.cell? ⟨g,0,none⟩=some (.string ⟨#[34]⟩)) (s1:w.cell? ⟨g,1,none⟩=some (.string ⟨#[92,34]⟩)) (s2:w.cell? ⟨g,2,none⟩=some (.string ⟨#[92]⟩)) (s3:w.cell? ⟨g,3,none⟩=some (.string ⟨#[92,92]⟩)) :
  Calls Tryz.prog 210 #[.pointer (some ⟨b,0,none⟩)] w fun e w'=>e=.returned (.tuple #[])∧OnceKept b w w'∧(Below b w w'∧w.heap.size≤w'.heap.size∧w'.cell? ⟨b,3,none⟩=some (.iface 314 (.pointer (some ⟨w.heap.size+1,0,none⟩)))∧Jo w.heap.size w' (w.heap.size+1)):=by
 go_enter Tryz.func210,Tryz.ntmps210
 go_wp2_with (go_at_call 254;refine (UB b g c w hb4 hg s0 s1 s2 s3).mono ?_;rintro e w1 ⟨rfl,hb,hB⟩;have e3:=(hb.cell (p:=⟨b,3,none⟩) hbl).trans hb3;have e3f:=(hb.frozen (p:=⟨b,3,none⟩) hbl).trans f3;have e4:=(hb.cell (p:=⟨b,4,none⟩) hbl).trans hb4;have e4f:=(hb.frozen (p:=⟨b,4,none⟩) hbl).trans f4;have HB:=Lib.hid hB;have Hb:=Lib.hid hb;clear hB hb)
 go_end0
 have hB:=HB.out
 have hb:=Hb.out
 refine⟨rfl,⟨?_,?_,?_,?_⟩,?_,?_,?_,?_⟩
 ·rw[World.cell?_setCell_other _ ⟨b,4,none⟩ ⟨b,0,none⟩ _ (by simp),World.cell?_setCell_other _ ⟨b,3,none⟩ ⟨b,0,none⟩ _ (by simp)];exact hb.cell (p:=⟨b,0,none⟩) hbl
 ·rw[World.cell?_setCell_other _ ⟨b,4,none⟩ ⟨b,1,none⟩ _ (by simp),World.cell?_setCell_other _ ⟨b,3,none⟩ ⟨b,1,none⟩ _ (by simp)];exact hb.cell (p:=⟨b,1,none⟩) hbl
 ·simp;exact hb.frozen (p:=⟨b,0,none⟩) hbl
 ·simp;exact hb.frozen (p:=⟨b,1,none⟩) hbl
 ·exact ((hb.mono (Nat.le_of_lt hbl)).setCell (p:=⟨b,3,none⟩) (Nat.le_refl _) _).setCell (p:=⟨b,4,none⟩) (Nat.le_refl _) _
 ·have:=hb.size;simp[World.setCell];omega
 ·rw[World.cell?_setCell_other _ _ _ _ (by simp)]
  exact World.cell?_setCell_same _ _ _ e3
 ·exact (hB.setCell (p:=⟨b,3,none⟩) hbl _).setCell (p:=⟨b,4,none⟩) hbl _
def DD (b:UInt8):List UInt8:=if b=34 then [92,34] else if b=92 then [92,92] else [b]
def AU (l:List UInt8):List UInt8:=l.flatMap DD
def spB (b:UInt8):Bool:=b==34||b==92
def cz (l:List UInt8):Nat:=(l.filter spB).length
theorem Zw (b:UInt8):(DD b).length=1+if spB b then 1 else 0:=by
 unfold DD spB
 by_cases h1:b=34
 ·subst h1;rfl
 ·by_cases h2:b=92
  ·subst h2;rfl
  ·simp[h1,h2]
theorem Io (a b:List UInt8):AU (a++b)=AU a++AU b:=by unfold AU;rw[List.flatMap_append]
theorem QJ (a b:List UInt8):cz (a++b)=cz a+cz b:=by unfold cz;rw[List.filter_append,List.length_append]
theorem QK (b:UInt8):cz [b]=if spB b then 1 else 0:=by unfold cz;by_cases h:spB b<;>simp[h]
theorem Ip:∀l,(AU l).length=l.length+cz l
 | []=>rfl
 |b::l=>by
  have ih:=Ip l
  have h1:=QJ [b] l
  have h2:=QK b
  have h3:=Zw b
  have h4:AU (b::l)=DD b++AU l:=rfl
  rw[h4,List.length_append,ih,h3]
  rw[List.singleton_append]at h1
  rw[h1,h2,List.length_cons]
  omega
theorem R4:∀l,cz l=0→AU l=l
 | [],_=>rfl
 |b::l,h=>by
  have h1:=QJ [b] l
  have h2:=QK b
  rw[List.singleton_append]at h1
  rw[h1,h2]at h
  have hb:spB b=false:=by
   cases hs:spB b with
   |false=>rfl
   |true=>rw[hs]at h;simp at h
  have h4:AU (b::l)=DD b++AU l:=rfl
  rw[h4,R4 l (by omega)]
  unfold spB at hb
  simp only[Bool.or_eq_false_iff,beq_eq_false_iff_ne]at hb
  unfold DD
  rw[if_neg hb.1,if_neg hb.2]
  rfl
theorem Sm:∀l:List UInt8,cz l=l.count 92+l.count 34
 | []=>rfl
 |b::l=>by
  have h1:=QJ [b] l
  have h2:=QK b
  rw[List.singleton_append]at h1
  rw[h1,h2,Sm l,List.count_cons,List.count_cons]
  unfold spB
  by_cases e1:b=34
  ·subst e1;simp;omega
  ·by_cases e2:b=92
   ·subst e2;simp;omega
   ·simp[e1,e2]
theorem IL {l:List UInt8}{k:Nat}(h:k<l.length):l.take (k+1)=l.take k++[l[k]]:=List.take_succ_eq_append_getElem h
set_option maxRecDepth 100000 in
theorem Xx (s:ByteArray) (c:UInt8) (w:World):Calls Tryz.prog 194 #[.string s,.string ⟨#[c]⟩] w fun e w'=>e=.returned (.int .i64 (s.data.toList.count c:Nat))∧w'=w:=by
 go_enter Tryz.func194,Tryz.ntmps194
 go_wp2
 rw[run_callFunc_extern Tryz.func231 (by kernel_rfl) (by kernel_rfl) (by kernel_rfl) (e:=Extern.BytealgCount.count) (by kernel_rfl),Lib.run_countString]
 simp only[Result.andThen]
 rw[Oper.upon_value]
 go_wp2
 go_ret
 refine⟨?_,rfl⟩
 unfold Lib.countByte
 simp
 rfl
theorem Si (s:ByteArray) (c:UInt8) (C:Nat) (h:s.data.toList.count c=C) (w:World):Calls Tryz.prog 194 #[.string s,.string ⟨#[c]⟩] w fun e w'=>e=.returned (.int .i64 C)∧w'=w:=by
 subst h
 exact Xx s c w
def Gh (l:List UInt8):List Value:=l.map fun b=>.int .u8 (b.toNat:Int)
theorem Ji (l:List UInt8):(Gh l).length=l.length:=by simp[Gh]
def CF (l:List UInt8) (N k:Nat):List Value:=Gh (AU (l.take k))++List.replicate (N-(AU (l.take k)).length) (.int .u8 0)
theorem Fc (l:List UInt8) (k:Nat):(AU (l.take k)).length≤(AU l).length:=by
 have:AU l=AU (l.take k)++AU (l.drop k):=by rw[←Io,List.take_append_drop]
 rw[this,List.length_append]
 omega
theorem O4 (N:Nat):madeCells #[Value.int .u8 0] N=(List.replicate N (Value.int .u8 0)).toArray:=by
 apply Array.ext
 ·simp[madeCells]
 ·intro i h1 h2
  simp[madeCells,Nat.mod_one]
theorem Pr (l:List UInt8) (N:Nat):CF l N 0=List.replicate N (.int .u8 0):=by simp[CF,AU,Gh]
theorem FO {l:List UInt8}{N k:Nat}(h:(AU l).length≤N):(CF l N k).length=N:=by
 have:=Fc l k
 unfold CF
 rw[List.length_append,Ji,List.length_replicate]
 omega
theorem L8 {l:List UInt8}{N k:Nat}(h:(AU l).length=N) (hk:k<l.length) :
  (CF l N k).take (AU (l.take k)).length++Gh (DD l[k])++(CF l N k).drop ((AU (l.take k)).length+(DD l[k]).length)=CF l N (k+1):=by
 have e1:AU (l.take (k+1))=AU (l.take k)++DD l[k]:=by
  rw[IL hk,Io]
  congr 1
  simp[AU]
 have h1:=Fc l (k+1)
 rw[e1,List.length_append]at h1
 unfold CF
 rw[e1,List.take_left' (Ji _)]
 have e2:(Gh (AU (l.take k))++List.replicate (N-(AU (l.take k)).length) (Value.int .u8 0)).drop ((AU (l.take k)).length+(DD l[k]).length)=List.replicate (N-((AU (l.take k)).length+(DD l[k]).length)) (Value.int .u8 0):=by
  rw[List.drop_append,List.drop_eq_nil_of_le (by rw[Ji];omega),Ji,List.nil_append,List.drop_replicate]
  congr 1
  omega
 rw[e2]
 simp only[Gh,List.map_append,List.length_append,List.append_assoc]
theorem Sa {l:List UInt8}{N k:Nat}(h:(AU l).length=N) (hk:k<l.length) (h1:l[k]≠34) (h2:l[k]≠92) :
  (CF l N k).toArray.setIfInBounds (AU (l.take k)).length (.int .u8 (l[k].toNat:Int))=(CF l N (k+1)).toArray:=by
 have hn:=L8 h hk
 have hb:DD l[k]=[l[k]]:=by unfold DD;rw[if_neg h1,if_neg h2]
 rw[hb]at hn
 have h3:=Fc l (k+1)
 have e1:AU (l.take (k+1))=AU (l.take k)++DD l[k]:=by
  rw[IL hk,Io]
  congr 1
  simp[AU]
 rw[e1,List.length_append,hb,List.length_singleton]at h3
 have hl:=FO (l:=l) (N:=N) (k:=k) (by omega)
 rw[List.setIfInBounds_toArray]
 congr 1
 rw[List.set_eq_take_append_cons_drop,if_pos (by omega),←hn,List.append_assoc]
 rfl
theorem E3 (g j:Nat):(⟨g,0,none⟩:Addr).add j=⟨g,j,none⟩:=by unfold Addr.add;split<;>simp_all
structure BsrCells (w:World) (d n e c e' c':Nat):Prop where
 c34:w.cell? ⟨d,34,none⟩=some (Fp e' 2 c')
 c92:w.cell? ⟨d,92,none⟩=some (Fp e 2 c)
 else_:∀b:Nat,b<256→b≠34→b≠92→w.cell? ⟨d,b,none⟩=some (.slice none 0 0)
 tr:w.cell? ⟨d,256,none⟩=some (Fp n 2 2)
 n0:w.cell? ⟨n,0,none⟩=some (txt #[92])
 n1:w.cell? ⟨n,1,none⟩=some (txt #[34])
 e0:w.cell? ⟨e,0,none⟩=some (.int .u8 92)
 e1:w.cell? ⟨e,1,none⟩=some (.int .u8 92)
 e0':w.cell? ⟨e',0,none⟩=some (.int .u8 92)
 e1':w.cell? ⟨e',1,none⟩=some (.int .u8 34)
 dlt:d<w.heap.size
 nlt:n<w.heap.size
 elt:e<w.heap.size
 elt':e' < w.heap.size
theorem Jo.cells {m d:Nat}{w:World}(h:Jo m w d):∃n e c e' c',BsrCells w d n e c e' c':=by
 obtain⟨n,e,c,e',c',_,_,_,_,b1,r1,r2,b2⟩:=h
 refine⟨n,e,c,e',c',?_,?_,fun b h1 h2 h3=>?_,?_,b1.cell 0,b1.cell 1,r1.2 0 _ rfl,r1.2 1 _ rfl,r2.2 0 _ rfl,r2.2 1 _ rfl,b2.lt,b1.lt,r1.1,r2.1⟩
 ·rw[b2.cell 34,Array.getElem?_setIfInBounds_self_of_lt (by simp[bsr])]
 ·rw[b2.cell 92,Array.getElem?_setIfInBounds_ne (by decide),Array.getElem?_setIfInBounds_self_of_lt (by simp[bsr])]
 ·rw[b2.cell b,Array.getElem?_setIfInBounds_ne (fun e=>h2 e.symm),Array.getElem?_setIfInBounds_ne (fun e=>h3 e.symm),N7 _ h1]
 ·rw[b2.cell 256,Array.getElem?_setIfInBounds_ne (by decide),Array.getElem?_setIfInBounds_ne (by decide),Ic]
theorem BsrCells.below {w w':World}{d n e c e' c':Nat}(h:BsrCells w d n e c e' c') (hb:Below w.heap.size w w'):BsrCells w' d n e c e' c':=by
 obtain⟨a1,a2,a3,a4,a5,a6,a7,a8,a9,a10,l1,l2,l3,l4⟩:=h
 have hs:=hb.size
 exact⟨(hb.cell l1).trans a1,(hb.cell l1).trans a2,fun b h1 h2 h3=>(hb.cell l1).trans (a3 b h1 h2 h3),(hb.cell l1).trans a4,(hb.cell l2).trans a5,(hb.cell l2).trans a6,(hb.cell l3).trans a7,(hb.cell l3).trans a8,(hb.cell l4).trans a9,(hb.cell l4).trans a10,by omega,by omega,by omega,by omega⟩
end Go.Proofs.YtllfmaflodbieaaGreatDoor
