/- strings.Replacer's builder at the four texts of encodeString, by hand. -/
import Derived.Test.YtlciedpfjhkkdaaGreatDoorKR01uR02
import Derived.ProofKit
import Derived.Test.YtlciedpfjhkkdaaGreatDoorKE1
import Derived.Laws.IdiomStrings
import Derived.Laws.AppendOwn
import Derived.Laws.Tables
import Derived.Deep.WholeRow
set_option linter.all false
set_option maxHeartbeats 8000000
namespace Go.Proofs.YtlciedpfjhkkdaaGreatDoor
open Go.RowKit
def bsr (s:Value):Array Value:=(Array.replicate 256 (.slice none 0 0)).push s
set_option maxRecDepth 100000 in
theorem Oj (a:Option Addr) (l c:Nat):Tryz.prog.built 280 [(1,.slice a l c)]=some (bsr (.slice a l c)):=by kernel_rfl
set_option maxRecDepth 100000 in
theorem KZ:(∃i,Tryz.prog.info? 280=some i∧i.zero=some (.agg (bsr (.slice none 0 0)))∧i.size=257):=by
 obtain⟨i,hi,hi2⟩:=Option.map_eq_some_iff.1 (show (Tryz.prog.info? 280).map (fun i=>(i.zero,i.size))=some (some (.agg (bsr (.slice none 0 0))),257) by kernel_rfl)
 simp only[Prod.mk.injEq]at hi2
 exact⟨i,hi,hi2.1,hi2.2⟩
theorem FU (s:Value):(bsr s).size=257:=by simp[bsr]
theorem Rv (a:Option Addr) (l c:Nat):(bsr (.slice a l c)).all (·.oneCell')=true:=by
 rw[Array.all_eq_true_iff_forall_mem]
 intro x hx
 unfold bsr at hx
 rcases Array.mem_push.1 hx with hx | rfl
 ·rw[(Array.mem_replicate.1 hx).2];rfl
 ·rfl
theorem Ps (W:World) (a:Option Addr) (l c:Nat):(storeCells ⟨W.heap.size,0,none⟩ (bsr (.slice a l c)).toList).run Tryz.prog (W.alloc (.cells (bsr (.slice none 0 0)) 280))=.ok () (W.alloc (.cells (bsr (.slice a l c)) 280)):=by
 obtain⟨iz,hiz,hz1,hz2⟩:=KZ
 refine run_storeCells_new (P:=Tryz.prog) W 280 _ _ ?_ ?_ (Rv a l c)
 ·rw[hiz,FU];simp[hz2]
 ·rw[FU,FU]
theorem S4 (n:Nat) (x y z:Value):(List.replicate n x++[y]).set n z=List.replicate n x++[z]:=by simp[List.set_append]
theorem PQ (s:Value):(bsr (.slice none 0 0)).toList.set 256 s=(bsr s).toList:=by
 unfold bsr
 rw[Array.toList_push,Array.toList_push,Array.toList_replicate]
 exact S4 256 _ _ _
def BE (w:World) (e:Nat) (l:List Int):Prop:=e<w.heap.size∧∀(j:Nat) b,l[j]? = some b→w.cell? ⟨e,j,none⟩=some (.int .u8 b)
theorem BE.below {w w':World}{e:Nat}{l:List Int}(h:BE w e l) (hb:Below w.heap.size w w'):BE w' e l :=
 ⟨Nat.lt_of_lt_of_le h.1 hb.size,fun j b hj=>(hb.cell h.1).trans (h.2 j b hj)⟩
abbrev txt (l:Array UInt8):Value:=.string ⟨l⟩
abbrev D5 (b l c:Nat):Value:=.slice (some ⟨b,0,none⟩) l c
def BI (n:Nat) (i:Value) (wr:World):Prop :=
 (i=.int .i64 2∧Blk wr n 9 #[txt #[],txt #[]]∧Blk wr (n+1) 280 (bsr (D5 n 0 2))) ∨
 (i=.int .i64 0∧∃e c,n+2≤e∧BE wr e [92,92]∧Blk wr n 9 #[txt #[92],txt #[]]∧Blk wr (n+1) 280 ((bsr (D5 n 1 2)).setIfInBounds 92 (D5 e 2 c))) ∨
 (i=.int .i64 (-2)∧∃e c e' c',n+2≤e∧n+2≤e'∧BE wr e [92,92]∧BE wr e' [92,34]∧Blk wr n 9 #[txt #[92],txt #[34]]∧Blk wr (n+1) 280 (((bsr (D5 n 2 2)).setIfInBounds 92 (D5 e 2 c)).setIfInBounds 34 (D5 e' 2 c')))
theorem Ic (s:Value) {c:Nat}(h:c<256):(bsr s)[c]? = some (.slice none 0 0):=by
 unfold bsr
 rw[Array.getElem?_push_lt (by simpa using h)]
 simp
theorem EO (s:Value):(bsr s)[256]? = some s:=by
 unfold bsr
 have:=Array.getElem?_push_size (xs:=Array.replicate 256 (Value.slice none 0 0)) (x:=s)
 simpa using this
theorem Kq (s s':Value):(bsr s).setIfInBounds 256 s'=bsr s':=by
 unfold bsr
 apply Array.ext
 ·simp
 ·intro i h1 h2
  simp at h1
  rw[Array.getElem_setIfInBounds (by simpa using h1)]
  split
  ·rename_i hi
   subst hi
   rw[Array.getElem_push]
   simp
  ·rw[Array.getElem_push_lt (by simp;omega),Array.getElem_push_lt (by simp;omega)]
theorem NE (w:World):(binOp BinOp.eql 29 (.slice none 0 0) (.slice none 0 0)).run Tryz.prog w=.ok (.bool true) w:=Km Tryz.underlying29 none 0 0 w
theorem K7 (w:World):(binOp BinOp.neq 29 (.slice none 0 0) (.slice none 0 0)).run Tryz.prog w=.ok (.bool false) w:=Hs Tryz.underlying29 none 0 0 w
theorem EA (a:Addr) (l c:Nat) (w:World):(binOp BinOp.neq 29 (.slice (some a) l c) (.slice none 0 0)).run Tryz.prog w=.ok (.bool true) w:=Hs Tryz.underlying29 (some a) l c w
theorem Lp (w:World) (b:UInt8):(convert 29 9 (D5 w.heap.size 1 1)).run Tryz.prog (w.alloc (.cells #[.int .u8 (b.toNat:Int)] 5))=.ok (txt #[b]) (w.alloc (.cells #[.int .u8 (b.toNat:Int)] 5)):=by
 have:=run_convert_bytes_back (P:=Tryz.prog) (w.alloc (.cells #[.int .u8 (b.toNat:Int)] 5)) 29 9 5 ⟨w.heap.size,0,none⟩ 1 [b] Tryz.underlying29 Tryz.underlying5 Tryz.underlying9 (fun j hj=>by
  have hj0:j=0:=by simpa using hj
  subst hj0
  have:=(Blk.new w 5 #[.int .u8 (b.toNat:Int)]).cell 0
  simpa [Addr.add] using this)
 simpa using this
theorem Bf {w:World}{g:Nat}{t:TypeId}{cs:Array Value}(h:Blk w g t cs):Blk w.drew g t cs:=h
def cpB (w:World) (s:ByteArray):Nat:=grownCap w s.size 0 5
def obB (w:World) (s:ByteArray):Obj:=.cells (bytesRow s (cpB w s)) 5 ((bytesRow s (cpB w s)).size,(bytesRow s (cpB w s)).size+1)
theorem HZ (w:World) (s:ByteArray):(convert 9 29 (.string s)).run Tryz.prog w=.ok (.slice (some ⟨w.heap.size,0,none⟩) s.size (cpB w s)) (w.drew.alloc (obB w s)) :=
 run_bytes_of_string w 9 29 5 s Tryz.underlying9 Tryz.underlying29 Tryz.underlying5
theorem PF (w:World) (s:ByteArray) (l:List Int) (h:∀(j:Nat) b,l[j]? = some b→(bytesRow s (cpB w s))[j]? = some (.int .u8 b)):BE (w.drew.alloc (obB w s)) w.heap.size l :=
 ⟨by simp,fun j b hj=>by
  rw[cell_of_row _ w.heap.size j _ _ _ (by have:=heap_alloc_new w.drew (obB w s);exact this)]
  exact h j b hj⟩
theorem JG (a b:UInt8) (c:Nat) (j:Nat) (x:Int) (h:[(a.toNat:Int),(b.toNat:Int)][j]? = some x):(bytesRow ⟨#[a,b]⟩ c)[j]? = some (.int .u8 x):=by
 unfold bytesRow
 match j,h with
 | 0,h=>cases h;rw[Array.getElem?_append_left (by simp)];simp
 | 1,h=>cases h;rw[Array.getElem?_append_left (by simp)];simp
def F6 (m:Nat) (w:World) (d:Nat):Prop:=∃n e c e' c',m≤n∧m≤e∧m≤e'∧m≤d∧Blk w n 9 #[txt #[92],txt #[34]]∧BE w e [92,92]∧BE w e' [92,34]∧Blk w d 280 (((bsr (D5 n 2 2)).setIfInBounds 92 (D5 e 2 c)).setIfInBounds 34 (D5 e' 2 c'))
theorem GR {w wr:World}{cs arr:Array Value}(hbw:Below w.heap.size w wr) (hsz:w.heap.size+2≤wr.heap.size) (b1:Blk wr w.heap.size 9 cs) (b2:Blk wr (w.heap.size+1) 280 arr)
  (o k:Nat) (x y s':Value) (t:ByteArray) (l:List Int) (hl:∀(W:World) (j:Nat) b,l[j]? = some b→(bytesRow t (cpB W t))[j]? = some (.int .u8 b)) (W4:World)
  (h4:W4=(((wr.alloc (.cells #[x] 5)).alloc (.cells #[y] 9)).setCell ⟨w.heap.size,k,none⟩ y).setCell ⟨w.heap.size+1,256,none⟩ s') (v:Value) :
  Below w.heap.size w (((W4.alloc (obB W4 t)).setCell ⟨w.heap.size+1,o,none⟩ v).drew)∧w.heap.size+2≤(((W4.alloc (obB W4 t)).setCell ⟨w.heap.size+1,o,none⟩ v).drew).heap.size ∧
  Blk (((W4.alloc (obB W4 t)).setCell ⟨w.heap.size+1,o,none⟩ v).drew) w.heap.size 9 (cs.setIfInBounds k y) ∧
  Blk (((W4.alloc (obB W4 t)).setCell ⟨w.heap.size+1,o,none⟩ v).drew) (w.heap.size+1) 280 ((arr.setIfInBounds 256 s').setIfInBounds o v) ∧
  BE (((W4.alloc (obB W4 t)).setCell ⟨w.heap.size+1,o,none⟩ v).drew) (wr.heap.size+1+1) l ∧
  ∀e l',BE wr e l'→w.heap.size+2≤e→BE (((W4.alloc (obB W4 t)).setCell ⟨w.heap.size+1,o,none⟩ v).drew) e l':=by
 have hs4:W4.heap.size=wr.heap.size+1+1:=by subst h4;simp[World.setCell]
 have hb4:Below w.heap.size w W4:=by
  subst h4
  exact (((hbw.alloc (by omega) _).alloc (by simp;omega) _).setCell (by simp) _).setCell (by simp) _
 have hb5:Below w.heap.size w (((W4.alloc (obB W4 t)).setCell ⟨w.heap.size+1,o,none⟩ v).drew):=((hb4.alloc (by omega) _).setCell (by simp) _).drew
 have B1:Blk W4 w.heap.size 9 (cs.setIfInBounds k y):=by
  subst h4
  exact ((((b1.alloc _).alloc _).set_ k y).far (by simp) s')
 have B2:Blk W4 (w.heap.size+1) 280 (arr.setIfInBounds 256 s'):=by
  subst h4
  exact ((((b2.alloc _).alloc _).far (by simp) y).set_ 256 s')
 have hsame:∀e,w.heap.size+2≤e→e<W4.heap.size→(((W4.alloc (obB W4 t)).setCell ⟨w.heap.size+1,o,none⟩ v).drew).heap[e]? = W4.heap[e]?:=fun e h1 h2=>by
  show ((W4.alloc (obB W4 t)).setCell ⟨w.heap.size+1,o,none⟩ v).heap[e]? = _
  rw[Below.heap_setCell _ _ _ _ (by simp;omega),Below.heap_alloc _ _ _ h2]
 refine⟨hb5,?_,Bf ((B1.alloc _).far (by simp) v),Bf ((B2.alloc _).set_ o v),⟨?_,fun j b hj=>?_⟩,fun e l' he h2=>⟨?_,fun j b hj=>?_⟩⟩
 ·show _≤((W4.alloc (obB W4 t)).setCell ⟨w.heap.size+1,o,none⟩ v).heap.size
  simp[World.setCell];omega
 ·show _<((W4.alloc (obB W4 t)).setCell ⟨w.heap.size+1,o,none⟩ v).heap.size
  simp[World.setCell];omega
 ·have h1:=(PF W4 t l (hl W4)).2 j b hj
  rw[←hs4]
  refine (World.cell?_of_block (w:=W4.drew.alloc (obB W4 t)) ?_).trans h1
  show ((W4.alloc (obB W4 t)).setCell ⟨w.heap.size+1,o,none⟩ v).heap[W4.heap.size]? = _
  rw[Below.heap_setCell _ _ _ _ (by simp;omega)]
  rfl
 ·have:=he.1
  show _<((W4.alloc (obB W4 t)).setCell ⟨w.heap.size+1,o,none⟩ v).heap.size
  simp[World.setCell];omega
 ·have h1:=he.2 j b hj
  have hlt:=he.1
  refine (World.cell?_of_block (w:=wr) ?_).trans h1
  show (((W4.alloc (obB W4 t)).setCell ⟨w.heap.size+1,o,none⟩ v).drew).heap[e]? = wr.heap[e]?
  rw[hsame e h2 (by omega)]
  subst h4
  rw[Below.heap_setCell _ _ _ _ (by simp;omega),Below.heap_setCell _ _ _ _ (by simp;omega),Below.heap_alloc _ _ _ (by simp;omega),Below.heap_alloc _ _ _ hlt]
set_option maxRecDepth 100000 in
theorem Nh (b g c:Nat) (w:World) (hb4:w.cell? ⟨b,4,none⟩=some (.slice (some ⟨g,0,none⟩) 4 c))
  (hg:g<w.heap.size) (s0:w.cell? ⟨g,0,none⟩=some (.string ⟨#[34]⟩)) (s1:w.cell? ⟨g,1,none⟩=some (.string ⟨#[92,34]⟩)) (s2:w.cell? ⟨g,2,none⟩=some (.string ⟨#[92]⟩)) (s3:w.cell? ⟨g,3,none⟩=some (.string ⟨#[92,92]⟩)) :
  Calls Tryz.prog 230 #[.pointer (some ⟨b,0,none⟩)] w fun e w'=>e=.returned (.iface 281 (.pointer (some ⟨w.heap.size+1,0,none⟩)))∧Below w.heap.size w w'∧F6 w.heap.size w' (w.heap.size+1):=by
 go_enter Tryz.func230,Tryz.ntmps230
 go_wp2
 go_loop [4,5] (fun all i=>(i=.int .i64 0∧all=.bool true)∨(i=.int .i64 2∧all=.bool false)∨(i=.int .i64 4∧all=.bool false)) (fun _ i=>4-(intOf i).toNat)
 case atStart=>exact .inl ⟨rfl,rfl⟩
 case round =>
  rcases hrel with⟨rfl,rfl⟩ | ⟨rfl,rfl⟩ | ⟨rfl,rfl⟩
  ·go_wp2
   exact⟨.inr (.inl ⟨rfl,rfl⟩),by show 4-(2:Int).toNat<4-(0:Int).toNat;decide⟩
  ·go_wp2
   exact⟨.inr (.inr ⟨rfl,rfl⟩),by show 4-(4:Int).toNat<4-(2:Int).toNat;decide⟩
  ·obtain⟨i,hi,hi2⟩:=Option.map_eq_some_iff.1 (show (Tryz.prog.info? 9).map (fun i=>(i.zero,i.size,i.bytes))=some (some (.string ByteArray.empty),1,16) by kernel_rfl)
   simp only[Prod.mk.injEq]at hi2
   have hmk:=run_makeSlice (P:=Tryz.prog) w 59 9 i _ Tryz.underlying59 hi hi2.1 .i64 .i64 0 2 (by omega) (by omega) (by rw[hi2.2.1];decide) (by rw[hi2.2.2];decide) (by omega)
   rw[hi2.2.1]at hmk
   have hbd:∀(a:Option Addr) (l c:Nat) (w:World),(Instr.build 280 #[(1,.slice a l c)]).run Tryz.prog w=.ok (.agg (bsr (.slice a l c))) w:=fun a l c w=>_root_.Go.run_build w _ _ _ (Oj a l c)
   obtain⟨iz,hiz,hz1,hz2⟩:=KZ
   have hzv:∀w:World,(zeroValue 280).run Tryz.prog w=.ok (.agg (bsr (.slice none 0 0))) w:=fun w=>by simp[zeroValue,typeInfo,hiz,hz1]
   have hst1:=Ps (w.alloc (.cells (madeCells #[.string ByteArray.empty] 2) 9)) (some ⟨w.heap.size,0,none⟩) 0 2
   simp only[World.size_alloc]at hst1
   have hbs:=FU
   have hst2:=hst1
   rw[←PQ]at hst2
   go_wp2
   go_loopw [12] (fun i wr=>Below w.heap.size w wr∧w.heap.size+2≤wr.heap.size∧BI w.heap.size i wr) (fun i _=>(intOf i+2).toNat)
   case atStart =>
    refine⟨((Below.refl _ _).alloc (Nat.le_refl _) _).alloc (by simp) _,by simp,.inl ⟨rfl,?_,?_⟩⟩
    ·rw[show madeCells #[Value.string ByteArray.empty] 2 = #[txt #[],txt #[]] by simp[madeCells,Array.range];rfl]
     exact (Blk.new w 9 #[txt #[],txt #[]]).alloc _
    ·have:=Blk.new (w.alloc (.cells (madeCells #[.string ByteArray.empty] 2) 9)) 280 (bsr (D5 w.heap.size 0 2))
     simpa using this
   case round =>
    obtain⟨hbw,hsz,hbi⟩:=hrel
    have y92:((⟨#[92]⟩:ByteArray)[0]).toNat=92:=rfl
    have y34:((⟨#[34]⟩:ByteArray)[0]).toNat=34:=rfl
    have t0:=(hbw.cell (p:=⟨g,0,none⟩) hg).trans s0
    have t1:=(hbw.cell (p:=⟨g,1,none⟩) hg).trans s1
    have t2:=(hbw.cell (p:=⟨g,2,none⟩) hg).trans s2
    have t3:=(hbw.cell (p:=⟨g,3,none⟩) hg).trans s3
    clear hst1 hst2 hmk hzv hbd hb4 s0 s1 s2 s3
    rcases hbi with⟨rfl,b1,b2⟩ | ⟨rfl,e,c1,he,hr,b1,b2⟩ | ⟨rfl,e,c1,e',c2,he,he',hr,hr',b1,b2⟩
    ·have q1:=b2.cell 92
     rw[Ic _ (by omega)]at q1
     have q2:=b2.cell 256
     rw[EO]at q2
     have z1:=b2.frozen 92
     have z2:=b2.frozen 256
     have hnil:=NE
     have hot:=Lp wr 92
     simp only[show ((92:UInt8).toNat:Int)=92 from rfl]at hot
     have z3:=(b1.alloc (.cells #[.int .u8 92] 5)).alloc (.cells #[txt #[92]] 9) |>.frozen 0
     have q3:=(b1.alloc (.cells #[.int .u8 92] 5)).alloc (.cells #[txt #[92]] 9) |>.cell 0
     have z4:=(b2.alloc (.cells #[.int .u8 92] 5)).alloc (.cells #[txt #[92]] 9) |>.frozen 256
     have q4:=(b2.alloc (.cells #[.int .u8 92] 5)).alloc (.cells #[txt #[92]] 9) |>.cell 256
     rw[EO]at q4
     have hsb:=fun W=>HZ W ⟨#[92,92]⟩
     have B1:=((((b1.alloc (.cells #[.int .u8 92] 5)).alloc (.cells #[txt #[92]] 9)).set_ 0 (txt #[92])).far (p:=⟨w.heap.size+1,256,none⟩) (by simp) (D5 w.heap.size 1 2))
     have B2:=((((b2.alloc (.cells #[.int .u8 92] 5)).alloc (.cells #[txt #[92]] 9)).far (p:=⟨w.heap.size,0,none⟩) (by simp) (txt #[92])).set_ 256 (D5 w.heap.size 1 2))
     rw[Kq]at B2
     have z5:=fun o=>(B2.alloc o).frozen 92
     have q5:=fun o=>(B2.alloc o).cell 92
     rw[Ic _ (by omega)]at q5
     have HB1:=Lib.hid B1
     have HB2:=Lib.hid B2
     clear B1 B2
     have Hb1:=Lib.hid b1
     have Hb2:=Lib.hid b2
     have Hbw:=Lib.hid hbw
     clear b1 b2 hbw
     go_wp2
     case roundEnd =>
      obtain⟨r1,r2,r3,r4,r5,_⟩:=GR Hbw.out hsz Hb1.out Hb2.out 92 0 (.int .u8 92) (txt #[92]) (D5 w.heap.size 1 2) ⟨#[92,92]⟩ [92,92] (fun W j b hj=>JG 92 92 _ j b hj) _ rfl (D5 (wr.heap.size+1+1) 2 (cpB ((((wr.alloc (.cells #[.int .u8 92] 5)).alloc (.cells #[txt #[92]] 9)).setCell ⟨w.heap.size,0,none⟩ (txt #[92])).setCell ⟨w.heap.size+1,256,none⟩ (D5 w.heap.size 1 2)) ⟨#[92,92]⟩))
      rw[Kq]at r4
      exact⟨⟨r1,r2,.inr (.inl ⟨rfl,_,_,by omega,r5,r3,r4⟩)⟩,by show (2:Int).toNat<(4:Int).toNat;decide⟩
    ·have q1:=b2.cell 34
     rw[Array.getElem?_setIfInBounds_ne (by decide),Ic _ (by omega)]at q1
     have q2:=b2.cell 256
     rw[Array.getElem?_setIfInBounds_ne (by decide),EO]at q2
     have z1:=b2.frozen 34
     have z2:=b2.frozen 256
     have hnil:=NE
     have hot:=Lp wr 34
     simp only[show ((34:UInt8).toNat:Int)=34 from rfl]at hot
     have z3:=(b1.alloc (.cells #[.int .u8 34] 5)).alloc (.cells #[txt #[34]] 9) |>.frozen 1
     have q3:=(b1.alloc (.cells #[.int .u8 34] 5)).alloc (.cells #[txt #[34]] 9) |>.cell 1
     have z4:=(b2.alloc (.cells #[.int .u8 34] 5)).alloc (.cells #[txt #[34]] 9) |>.frozen 256
     have q4:=(b2.alloc (.cells #[.int .u8 34] 5)).alloc (.cells #[txt #[34]] 9) |>.cell 256
     rw[Array.getElem?_setIfInBounds_ne (by decide),EO]at q4
     have hsb:=fun W=>HZ W ⟨#[92,34]⟩
     have B2:=((((b2.alloc (.cells #[.int .u8 34] 5)).alloc (.cells #[txt #[34]] 9)).far (p:=⟨w.heap.size,1,none⟩) (by simp) (txt #[34])).set_ 256 (D5 w.heap.size 2 2))
     have z5:=fun o=>(B2.alloc o).frozen 34
     have q5:=fun o=>(B2.alloc o).cell 34
     rw[Array.getElem?_setIfInBounds_ne (by decide),Array.getElem?_setIfInBounds_ne (by decide),Ic _ (by omega)]at q5
     have Hb1:=Lib.hid b1
     have Hb2:=Lib.hid b2
     have Hbw:=Lib.hid hbw
     have Hr:=Lib.hid hr
     clear b1 b2 hbw B2 hr
     go_wp2
     case roundEnd =>
      obtain⟨r1,r2,r3,r4,r5,r6⟩:=GR Hbw.out hsz Hb1.out Hb2.out 34 1 (.int .u8 34) (txt #[34]) (D5 w.heap.size 2 2) ⟨#[92,34]⟩ [92,34] (fun W j b hj=>JG 92 34 _ j b hj) _ rfl (D5 (wr.heap.size+1+1) 2 (cpB ((((wr.alloc (.cells #[.int .u8 34] 5)).alloc (.cells #[txt #[34]] 9)).setCell ⟨w.heap.size,1,none⟩ (txt #[34])).setCell ⟨w.heap.size+1,256,none⟩ (D5 w.heap.size 2 2)) ⟨#[92,34]⟩))
      rw[Array.setIfInBounds_comm _ _ (by decide:(92:Nat)≠256),Kq]at r4
      exact⟨⟨r1,r2,.inr (.inr ⟨rfl,e,c1,_,_,he,by omega,r6 _ _ Hr.out he,r5,r3,r4⟩)⟩,by show (0:Int).toNat<(2:Int).toNat;decide⟩
    ·have Hb2:=Lib.hid b2
     clear b2
     go_wp2
     go_ret
     exact⟨rfl,hbw,_,e,c1,e',c2,Nat.le_refl _,by omega,by omega,by omega,b1,hr,hr',Hb2.out⟩
end Go.Proofs.YtlciedpfjhkkdaaGreatDoor
