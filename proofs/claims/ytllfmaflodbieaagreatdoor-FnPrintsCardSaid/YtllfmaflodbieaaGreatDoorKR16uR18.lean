/- Texts of this proof: R16 R17 R13 R18. -/
import Derived.Test.YtllfmaflodbieaaGreatDoorKM51uE36
import Derived.Lib.UnsafeStr
import Derived.Shelf.Strings.OnBuilder
set_option linter.all false
set_option maxHeartbeats 8000000
namespace Go.Proofs.YtllfmaflodbieaaGreatDoor
section
open Go.RowKit Go.Shelf
def We:Ren where
 f:=fun x=>match x with
  | 156=>110
  | 165=>166
  | 166=>37
  | 169=>39
  | 240=>75
  | 241=>213
  | 276=>136
  | 277=>255
  |n=>n
 t:=fun x=>match x with
  | 31=>50
  | 9=>9
  | 3=>3
  | 4=>4
  | 0=>0
  | 20=>20
  | 72=>60
  | 76=>63
  | 70=>58
  | 37=>29
  | 75=>62
  | 127=>113
  | 164=>174
  | 5=>5
  | 80=>65
  |n=>n
 g:=fun x=>match x with
  |n=>n
theorem Ns:Lays.n156 Tryz.prog We where
 mixed:=C6
 f156:=by kernel_rfl
 f165:=by kernel_rfl
 f166:=by kernel_rfl
 f169:=by kernel_rfl
 f240:=by kernel_rfl
 f241:=by kernel_rfl
 f276:=by kernel_rfl
 f277:=by kernel_rfl
 t0:=Tryz.underlying0
 a0:=Tryz.isAgg0
 z0:=Tryz.sizeOf0
 v0:=Tryz.zeroValue0
 t3:=Tryz.underlying3
 a3:=Tryz.isAgg3
 z3:=Tryz.sizeOf3
 v3:=Tryz.zeroValue3
 t4:=Tryz.underlying4
 a4:=Tryz.isAgg4
 z4:=Tryz.sizeOf4
 v4:=Tryz.zeroValue4
 t9:=Tryz.underlying9
 a9:=Tryz.isAgg9
 z9:=Tryz.sizeOf9
 v9:=Tryz.zeroValue9
 t20:=Tryz.underlying20
 a20:=Tryz.isAgg20
 z20:=Tryz.sizeOf20
 v20:=Tryz.zeroValue20
 t31:=Tryz.underlying50
 a31:=Tryz.isAgg50
 z31:=Tryz.sizeOf50
 v31:=Tryz.zeroValue50
 t37:=Tryz.underlying29
 a37:=Tryz.isAgg29
 z37:=Tryz.sizeOf29
 v37:=Tryz.zeroValue29
 t70:=Tryz.underlying58
 a70:=Tryz.isAgg58
 z70:=Tryz.sizeOf58
 v70:=Tryz.zeroValue58
 t72:=Tryz.underlying60
 a72:=Tryz.isAgg60
 z72:=Tryz.sizeOf60
 v72:=Tryz.zeroValue60
 t75:=Tryz.underlying62
 a75:=Tryz.isAgg62
 z75:=Tryz.sizeOf62
 v75:=Tryz.zeroValue62
 t76:=Tryz.underlying63
 a76:=Tryz.isAgg63
 z76:=Tryz.sizeOf63
 v76:=Tryz.zeroValue63
 t127:=Tryz.underlying113
 a127:=Tryz.isAgg113
 z127:=Tryz.sizeOf113
 v127:=Tryz.zeroValue113
 t164:=Tryz.underlying174
 a164:=Tryz.isAgg174
 z164:=Tryz.sizeOf174
 v164:=Tryz.zeroValue174
theorem MX:Builder.Extra Tryz.prog We where
 sizeBuilder:=by kernel_rfl
 liesBuilder:=by kernel_rfl
 t5:=Tryz.underlying5
 a5:=Tryz.isAgg5
 z5:=Tryz.sizeOf5
 v5:=Tryz.zeroValue5
 infoByte:=by kernel_rfl
 cellsByte:=by kernel_rfl
 sizeByte:=by kernel_rfl
 neB5:=by decide
theorem a5i:Zi Tryz.prog 60:=⟨[(58,0),(29,1)],32,by kernel_rfl,by kernel_rfl⟩
abbrev a3c (s:ByteArray):AO:=.gen (NW 60 5 s)
set_option maxRecDepth 100000 in
theorem RH (b:Nat) (w:World) (h0:w.cell? ⟨b,0,none⟩=some (.pointer (some ⟨b,0,none⟩))) :
  Calls Tryz.prog 75 #[.pointer (some ⟨b,0,none⟩)] w fun e w'=>e=.returned (.tuple #[])∧w'=w:=by
 obtain⟨j,hj,_⟩:=Option.map_eq_some_iff.1 (show (Tryz.prog.info? 60).map (·.size)=some 2 by kernel_rfl)
 go_enter Tryz.func75,Tryz.ntmps75
 go_wp2
 rw[Lib.run_neq_ptr_same w _ Tryz.underlying58 hj]
 go_wp2
 go_end0
 exact⟨rfl,rfl⟩
set_option maxRecDepth 100000 in
theorem R6 (b:Nat) (w:World) (h0:w.cell? ⟨b,0,none⟩=some (.pointer none)) (hsh:w.shape? b=some (60,2)) (hfz:w.frozen? ⟨b,0,none⟩=false) :
  Calls Tryz.prog 75 #[.pointer (some ⟨b,0,none⟩)] w fun e w'=>e=.returned (.tuple #[])∧w'=w.setCell ⟨b,0,none⟩ (.pointer (some ⟨b,0,none⟩)):=by
 obtain⟨j,hj,hjs⟩:=Option.map_eq_some_iff.1 (show (Tryz.prog.info? 60).map (·.size)=some 2 by kernel_rfl)
 go_enter Tryz.func75,Tryz.ntmps75
 go_wp2
 rw[Lib.run_to_unsafe w ⟨b,0,none⟩ Tryz.underlying58 Tryz.underlying174 hj (by rw[hjs];decide) hsh (Nat.zero_lt_succ 1)]
 simp only[Result.andThen]
 rw[Oper.upon_value]
 go_wp2
 rw[run_callFunc_extern Tryz.func136 (by kernel_rfl) (by kernel_rfl) (by kernel_rfl) (e:=Extern.AbiNoEscape.same) (by kernel_rfl)]
 rw[Lib.run_noEscape]
 simp only[Result.andThen]
 rw[Oper.upon_value]
 go_wp2
 rw[Lib.run_from_unsafe w ⟨b,0,none⟩ Tryz.underlying174 Tryz.underlying58 hj hsh (by kernel_rfl)]
 simp only[Result.andThen]
 rw[Oper.upon_value]
 go_wp2
 go_end0
 exact⟨rfl,rfl⟩
def a43 (b:Nat) (v:Value) (s t:ByteArray) (w:World) (e:Ending) (w':World):Prop :=
 e=.returned (.tuple #[.int .i64 t.size,.nilIface])∧∃v',w'.heap[b]? = some (.cells #[.pointer (some ⟨b,0,none⟩),v'] 60 (0,0))∧w'.ownsRow 0 5 1 v' (s.size+t.size) (Lib.strCells s++Lib.strCells t) ∧
  v'.ownBlock≠some b∧(v'.ownBlock=v.ownBlock∨v'.ownBlock=some w.heap.size)∧w'.os=w.os∧w'.tape=w.tape∧w'.output=w.output∧w.heap.size≤w'.heap.size∧∀k,k<w.heap.size→k≠b→v.ownBlock≠some k→w'.heap[k]? = w.heap[k]?
set_option maxRecDepth 100000 in
theorem Qz (b:Nat) (p v:Value) (s t:ByteArray) (w:World) (hp:p=.pointer none∨p=.pointer (some ⟨b,0,none⟩)) (hb:w.heap[b]? = some (.cells #[p,v] 60 (0,0))) (hne:v.ownBlock≠some b)
  (ho:w.ownsRow 0 5 1 v s.size (Lib.strCells s)) (hl:s.size+t.size≤1000000000):Calls Tryz.prog 37 #[.pointer (some ⟨b,0,none⟩),.string t] w (a43 b v s t w):=by
 have hbl:b<w.heap.size:=(Array.getElem?_eq_some_iff.1 hb).1
 -- behind copyCheck
 have hcc:Calls Tryz.prog 75 #[.pointer (some ⟨b,0,none⟩)] w fun e w1=>e=.returned (.tuple #[])∧(w1.heap[b]? = some (.cells #[.pointer (some ⟨b,0,none⟩),v] 60 (0,0))∧w1.ownsRow 0 5 1 v s.size (Lib.strCells s)∧w1.heap.size=w.heap.size∧w1.os=w.os∧w1.tape=w.tape∧w1.output=w.output∧∀k,k≠b→w1.heap[k]? = w.heap[k]?):=by
  have c0:w.cell? ⟨b,0,none⟩=some p:=by rw[Lib.cell_of_heap hb];rfl
  rcases hp with rfl | rfl
  ·refine (R6 b w c0 (by simp[World.shape?,hb]) (Lib.frozen_of_heap hb 0)).mono ?_
   rintro e w1 ⟨rfl,rfl⟩
   have hk:∀k,k≠b→(w.setCell ⟨b,0,none⟩ (.pointer (some ⟨b,0,none⟩))).heap[k]? = w.heap[k]?:=fun k hk=>Below.heap_setCell _ _ _ _ hk
   refine⟨rfl,by simp[World.setCell,Array.getElem?_modify,hb],?_,by simp[World.setCell],rfl,rfl,rfl,hk⟩
   exact ho.kept (row:=some b) ⟨rfl,rfl,rfl,by simp[World.setCell],fun k _ hk'=>hk k (fun e=>hk' (by simp[e]))⟩ (Or.inr hne)
  ·refine (RH b w c0).mono ?_
   rintro e w1 ⟨rfl,rfl⟩
   exact⟨rfl,hb,ho,rfl,rfl,rfl,rfl,fun _ _=>rfl⟩
 obtain⟨i0,hi,hif⟩:=Option.map_eq_some_iff.1 (show (Tryz.prog.info? 5).map (fun i=>(i.zero,i.size,i.bytes))=some (some (.int .u8 0),1,1) by kernel_rfl)
 simp only[Prod.mk.injEq]at hif
 obtain⟨hz0,hz1,hz2⟩:=hif
 have hcH:=Lib.hid hcc
 clear hcc hp hb ho
 go_enter Tryz.func37,Tryz.ntmps37
 go_wp2_with (first | (go_at_call 75;refine hcH.out.mono ?_;rintro e w1 ⟨rfl,hb1,ho1,z1,z2,z3,z4,z5⟩;have c0:w1.cell? ⟨b,0,none⟩=some (.pointer (some ⟨b,0,none⟩)):=(by rw[Lib.cell_of_heap hb1];rfl);have c1:w1.cell? ⟨b,1,none⟩=some v:=(by rw[Lib.cell_of_heap hb1];rfl);have HB:=Lib.hid hb1;have HO:=Lib.hid ho1;have HZ:=Lib.hid (And.intro z1 (And.intro z2 (And.intro z3 (And.intro z4 z5))));clear hb1 ho1 z1 z2 z3 z4 z5) | (at_builtin;refine Ot rfl _ _ _ _ rfl 0 5 i0 Tryz.underlying29 Tryz.underlying9 hi hz0 hz1 hz2 _ _ _ rfl HO.out t rfl (by omega) (Nat.zero_le _) ?_))
 intro v' w2 hown' hgrow hblk
 have hlt:b<w1.heap.size:=(Array.getElem?_eq_some_iff.1 HB.out).1
 have hb2:w2.heap[b]? = some (.cells #[.pointer (some ⟨b,0,none⟩),v] 60 (0,0)):=by
  rw[hgrow.block b hlt (fun e=>hne e.symm)]
  exact HB.out
 have hne':v'.ownBlock≠some b:=by
  rcases hblk with h | h
  ·rw[h];exact hne
  ·rw[h];intro e;cases e;omega
 have d0:w2.cell? ⟨b,0,none⟩=some (.pointer (some ⟨b,0,none⟩)):=by rw[Lib.cell_of_heap hb2];rfl
 have d1:w2.cell? ⟨b,1,none⟩=some v:=by rw[Lib.cell_of_heap hb2];rfl
 have f1:w2.frozen? ⟨b,1,none⟩=false:=Lib.frozen_of_heap hb2 1
 have HB2:=Lib.hid hb2
 have HG:=Lib.hid hgrow
 have HW:=Lib.hid hown'
 have HK:=Lib.hid hblk
 clear hb2 hgrow hown' hblk
 obtain⟨ao,n',cap,rfl⟩:∃ao n' cap,v'=.slice ao n' cap:=by
  rcases HW.out.2 with⟨hv,_⟩ | ⟨g,cap,cur,hv,_⟩
  ·exact⟨_,_,_,hv⟩
  ·exact⟨_,_,_,hv⟩
 go_wp2
 go_ret2
 obtain⟨z1,z2,z3,z4,z5⟩:=HZ.out
 have hg:=HG.out
 refine⟨rfl,_,by simp[World.setCell,Array.getElem?_modify,HB2.out],?_,hne',by rw[←z1];exact HK.out,hg.os.trans z2,hg.tape.trans z3,hg.output.trans z4,?_,?_⟩
 ·exact HW.out.kept (row:=some b) ⟨rfl,rfl,rfl,by simp[World.setCell],fun k _ hk=>Below.heap_setCell _ _ _ _ (fun e=>hk (by simp[e]))⟩ (Or.inr hne')
 ·have:=hg.size
  simp only[World.setCell,Array.size_modify]
  omega
 ·intro k hk hkb hkv
  rw[Below.heap_setCell _ _ _ _ hkb,hg.block k (by omega) (fun e=>hkv e.symm)]
  exact z5 k hkb
def Uu (v:Value) (w w':World):Prop:=w'.os=w.os∧w'.tape=w.tape∧w'.output=w.output∧w.heap.size≤w'.heap.size∧∀k,k<w.heap.size→v.ownBlock≠some k→w'.heap[k]? = w.heap[k]?
theorem Si {w W:World}{g n cap m:Nat}(h:Below w.heap.size w W):Uu (.slice (some ⟨g,0,none⟩) n cap) w (W.freeze ⟨g,0,none⟩ m):=by
 unfold World.freeze
 split
 ·exact⟨h.os,h.tape,h.output,h.size,fun k hk _=>h.block k hk⟩
 ·refine⟨h.os,h.tape,h.output,by simpa using h.size,fun k hk hne=>?_⟩
  have hgk:¬g=k:=fun e=>hne (by simp[Value.ownBlock,e])
  simp only[Array.getElem?_modify]
  rw[if_neg hgk]
  exact h.block k hk
set_option maxRecDepth 100000 in
theorem Rw (b:Nat) (p v:Value) (s:ByteArray) (w:World) (hp:p=.pointer none∨p=.pointer (some ⟨b,0,none⟩)) (hb:w.heap[b]? = some (.cells #[p,v] 60 (0,0))) (hne:v.ownBlock≠some b)
  (ho:w.ownsRow 0 5 1 v s.size (Lib.strCells s)):Calls Tryz.prog 39 #[.pointer (some ⟨b,0,none⟩)] w fun e w'=>e=.returned (.string s)∧Uu v w w':=by
 by_cases h0:s.size=0
 ·have hs:s=⟨#[]⟩:=by
   have:s.data = #[]:=Array.eq_empty_of_size_eq_zero h0
   cases s;simp_all
  have post:∀(e:Ending) (w':World),(e=.returned (.string ⟨#[]⟩)∧Below w.heap.size w w')→e=.returned (.string s)∧Uu v w w':=by
   rintro e w' ⟨rfl,h⟩
   exact⟨by rw[hs],h.os,h.tape,h.output,h.size,fun k hk _=>h.block k hk⟩
  rw[h0]at ho
  rcases ho.2 with⟨rfl,_⟩ | ⟨g,cap,cur,rfl,_,hg,_⟩
  ·exact (Any.Builder_String_nil { Ns with } MX w.heap.size b p w hb).mono post
  ·by_cases hc0:cap=0
   ·subst hc0
    exact (Any.Builder_String_noroom { Ns with } MX w.heap.size b g p cur w (Nat.le_refl _) hb hg).mono post
   ·exact (Any.Builder_String_room { Ns with } MX w.heap.size b g cap p w hc0 hb).mono post
 ·obtain⟨l,hl⟩:∃l:List UInt8,l=s.data.toList:=⟨_,rfl⟩
  have hsl:s.size=l.length:=by rw[hl,Array.length_toList];rfl
  have hl0:l.length≠0:=by omega
  have hse:(⟨l.toArray⟩:ByteArray)=s:=by rw[hl]
  have hcells:Lib.strCells s=Lib.byteCells l:=by rw[hl];rfl
  rw[hsl,hcells]at ho
  obtain⟨g,cap,cur,rfl,hbg,hg,hnc,hcm,hcs,htake⟩:∃g cap cur,v=.slice (some ⟨g,0,none⟩) l.length cap∧0≤g∧w.heap[g]? = some (.cells cur 5 (0,0))∧l.length≤cap∧cap≤maxLen∧cur.size=cap*1∧cur.toList.take (l.length*1)=Lib.byteCells l:=by
   rcases ho.2 with⟨_,hz⟩ | ⟨g,cap,cur,hv,r⟩
   ·exact absurd hz hl0
   ·exact⟨g,cap,cur,hv,r⟩
  have c1:w.drew.cell? ⟨b,1,none⟩=some (.slice (some ⟨g,0,none⟩) l.length cap):=by
   have:w.drew.heap[b]? = some (.cells #[p,.slice (some ⟨g,0,none⟩) l.length cap] 60 (0,0)):=hb
   rw[Lib.cell_of_heap this];rfl
  have hSD:(Builtin.unsafeSliceData_ #[29] 113 #[.slice (some ⟨g,0,none⟩) l.length cap]).run Tryz.prog w.drew=.ok (.pointer (some ⟨g,0,none⟩)) w.drew :=
   Lib.run_unsafeSliceData_row _ _ _ _ _ _ (by omega)
  have hUS:(Builtin.unsafeString_ #[113,3] 9 #[.pointer (some ⟨g,0,none⟩),.int .i64 l.length]).run Tryz.prog w.drew=.ok (.string ⟨l.toArray⟩) (w.drew.freeze ⟨g,0,none⟩ l.length):=by
   refine Lib.run_unsafeString_row w.drew 113 3 9 5 Tryz.underlying113 (by kernel_rfl) g cur.size (by have hg':w.drew.heap[g]? = some (.cells cur 5 (0,0)):=hg;simp[World.shape?,hg']) l (fun e=>hl0 (by rw[e];rfl)) (by omega) (by unfold maxLen at hcm;omega) ?_
   intro j x hx
   exact ho.cells (g:=g) rfl j (.int .u8 x.toNat) (by simp[Lib.byteCells,hx])
  rw[←hse]
  clear ho hse hsl hcells hl htake hb
  have mixed:=C6
  go_enter Tryz.func39,Tryz.ntmps39
  go_wp2
  go_region_o
  all_goals (go_wp2;go_ret;exact⟨rfl,Si (Below.drew (Below.refl w.heap.size w))⟩)
theorem Ra (s t:ByteArray):Lib.strCells (s++t)=Lib.strCells s++Lib.strCells t:=by
 simp[Lib.strCells]
theorem Rg {i:Id}{o x:AO}(hi:Mem.get [((0,0),x)] i=some o):i=(0,0)∧o=x:=by
 simp only[Mem.get,List.lookup_cons,List.lookup_nil]at hi
 by_cases hq:i=(0,0)
 ·subst hq
  simpa [eq_comm] using hi
 ·have:(i==((0,0):Id))=false:=by simpa using hq
  rw[this]at hi
  cases hi
theorem SZ (s t:ByteArray) (hl:s.size+t.size≤1000000000):AC Tryz.prog 37 [.ptr (0,0) 0,.c (.str t)] [((0,0),a3c s)] (.tup [.c (.int .i64 t.size),.c (.raw .nilIface)]) [((0,0),a3c (s++t))]:=by
 intro Γ Bh hE hA
 obtain⟨v1,r1,rfl,⟨_,o1,g1,g2⟩,v2,r2,rfl,⟨rfl,_⟩,rfl⟩:=hA
 obtain⟨_,rfl⟩:=Rg g1
 obtain⟨b0,e1,e2⟩:=g2 rfl
 obtain⟨b,p,v,k1,k2⟩:=Xa (hE.objs (0,0) _ rfl)
 obtain rfl:b0=b:=by
  have:=e1.symm.trans k1
  simpa using this
 subst e2
 have hnone:∀k,Γ.w.heap.size≤k→Γ.ow k=none:=fun k hk=>by
  cases ho:Γ.ow k with
  |none=>rfl
  |some i=>have:=(hE.own k i ho).1;omega
 refine (Qz b0 p v s t Γ.w k2.ptr k2.cells k2.ne k2.owns hl).mono ?_
 rintro e w' ⟨rfl,v',h1,h2,h3,h4,h5,h6,h7,h8,h9⟩
 refine⟨_,fun k=>if v'.ownBlock=some k then some (0,0) else Γ.ow k,Γ.κ,rfl,⟨⟨_,rfl,_,_,rfl,⟨rfl,rfl⟩,_,_,rfl,⟨rfl,rfl,rfl⟩,rfl⟩,?_,?_,h5,h6,h7,h8,?_,fun i o o' _ _=>rfl⟩⟩
 ·intro i o hi
  obtain⟨rfl,rfl⟩:=Rg hi
  refine Xb k1 ⟨.inr rfl,?_,h1,h3,fun g hg=>if_pos hg,?_⟩
  ·rw[if_neg h3];exact k2.mine
  ·rw[ByteArray.size_append,Ra];exact h2
 ·intro k i hk
  split at hk
  ·rename_i hv
   cases hk
   exact⟨(Dt h2 hv).2,_,rfl,rfl⟩
  ·obtain⟨f1,o,f2,_⟩:=hE.own k i hk
   obtain⟨rfl,_⟩:=Rg f2
   exact⟨Nat.lt_of_lt_of_le f1 h8,_,rfl,rfl⟩
 ·intro k hk ho
  have hkb:k≠b0:=by rintro rfl;rw[k2.mine]at ho;cases ho
  have hkv:v.ownBlock≠some k:=fun e=>by rw[k2.buf k e]at ho;cases ho
  refine⟨h9 k hk hkb hkv,?_⟩
  rw[if_neg]
  ·exact ho
  ·intro e
   rcases h4 with h | h
   ·exact hkv (h.symm.trans e)
   ·rw[h]at e;cases e;omega
theorem Uz (s:ByteArray):AC Tryz.prog 39 [.ptr (0,0) 0] [((0,0),a3c s)] (.c (.str s)) []:=by
 intro Γ Bh hE hA
 obtain⟨v1,r1,rfl,⟨_,o1,g1,g2⟩,rfl⟩:=hA
 obtain⟨_,rfl⟩:=Rg g1
 obtain⟨b0,e1,e2⟩:=g2 rfl
 obtain⟨b,p,v,k1,k2⟩:=Xa (hE.objs (0,0) _ rfl)
 obtain rfl:b0=b:=by
  have:=e1.symm.trans k1
  simpa using this
 subst e2
 refine (Rw b0 p v s Γ.w k2.ptr k2.cells k2.ne k2.owns).mono ?_
 rintro e w' ⟨rfl,h5,h6,h7,h8,h9⟩
 refine⟨_,fun _=>none,Γ.κ,rfl,⟨⟨rfl,rfl⟩,(fun i o hi=>by simp[Mem.get]at hi),(fun k i hk=>by cases hk),h5,h6,h7,h8,?_,fun i o o' _ _=>rfl⟩⟩
 ·intro k hk ho
  exact⟨h9 k hk (fun e=>by rw[k2.buf k e]at ho;cases ho),rfl⟩
theorem Sf (sep:ByteArray):∀l:List ByteArray,(⟨(Lib.join (l.map (·.data.toList)) sep.data.toList).toArray⟩:ByteArray)=H0 sep l
 | []=>rfl
 | [x]=>by rw[List.map_cons,List.map_nil,Lib.join_one];rfl
 |x::y::r=>by
  have ih:=Sf sep (y::r)
  rw[Mi sep x (by simp),←ih]
  have e:Lib.join (List.map (fun x:ByteArray=>x.data.toList) (x::y::r)) sep.data.toList=x.data.toList++sep.data.toList++Lib.join (List.map (fun x:ByteArray=>x.data.toList) (y::r)) sep.data.toList:=by
   simp[Lib.join,List.intercalate]
  rw[e,←Lg,←Lg]
theorem YL (l:List ByteArray) (sep:ByteArray) (hl:l.length≤1000000) (hsz:(H0 sep l).size≤1000000000):AC Tryz.prog 110 [.c (.sl (l.map CX)),.c (.str sep)] [] (.c (.str (H0 sep l))) []:=by
 refine AC.of_calls fun S w κ vs hv=>?_
 obtain⟨v,vs',rfl,h1,v2,vs2,rfl,⟨rfl,_⟩,rfl⟩:=hv
 obtain⟨A,cap,rfl,hcap,hc⟩:=Yv.1 h1
 by_cases h0:l=[]
 ·subst h0
  refine (Any.strings_Join_none Ns MX A cap sep w).mono ?_
  rintro e w' ⟨rfl,rfl⟩
  exact⟨Below.refl _ _,_,rfl,fun T _ _=>⟨rfl,rfl⟩⟩
 ·have hp:0<l.length:=List.length_pos_iff.2 h0
  obtain⟨b,o,rfl,hb⟩:∃b o,A=some ⟨b,o,none⟩∧(b<w.heap.size∧∀(j:Nat) x,l[j]? = some x→w.cell? ⟨b,o+j,none⟩=some (.string x)):=by
   obtain⟨b,off,rfl,_,hbl,hcl⟩:=hc.2 (by simpa using hp)
   refine⟨b,off,rfl,hbl,fun j x hx=>?_⟩
   have:=hcl j [.string x] (by simp[hx]) 0 _ rfl
   simpa using this
  refine (Any.strings_Join Ns MX b o cap l sep w hb.2 hb.1 (by omega) hcap ?_).mono ?_
  ·have:=Sf sep l
   rw[←this]at hsz
   have h2:(⟨(Lib.join (l.map (·.data.toList)) sep.data.toList).toArray⟩:ByteArray).size=(Lib.join (l.map (·.data.toList)) sep.data.toList).length:=by show (List.toArray _).size=_;simp
   omega
  ·rintro e w' ⟨rfl,hbw⟩
   exact⟨hbw,_,rfl,fun T _ _=>⟨Sf sep l▸rfl,rfl⟩⟩
end
section
open Go.RowKit
set_option maxRecDepth 10000
variable {o:Obj}
theorem N8 {ks:List V}(hr:∀v∈ks,v.right) (hl:ks.length≤200):AC Tryz.prog 91 [Js ks] (Nk o) (.c (.str (KF ks))) (Nk o):=by
 have h0:KF (ks.take 0)=⟨#[46]⟩:=rfl
 have hlk:(ks.map V.cs).length=ks.length:=by simp
 refine JI Tryz.func91 Tryz.ntmps91 ?_
 refine JV q9 ?_
 refine Jz (κ:=Nat) (fun k=>⟨mkS 0 31 [(0,Js ks),(3,.c (.str (KF (ks.take k)))),(6,Js ks),(7,.c (.int .i64 ks.length)),(8,.c (.int .i64 k))],(Nk o)⟩) (fun k=>k≤ks.length) (fun k=>ks.length-k) 0 (Nat.zero_le _) ?_ ?_
 ·exact JQ (F7.of [((8,0),(8,0))] []) (j2 h0 hlk)
 ·intro k hk1
  have hz:=N2 hr k hk1
  by_cases hlt:k<ks.length
  ·have hdk:decide ((k:Int)<(ks.length:Int))=true:=by simpa using hlt
   have hw:=JX (k:=k) (by omega)
   have hv:ks[k]? = some ks[k]:=List.getElem?_eq_getElem hlt
   have hrk:=hr _ (List.getElem_mem hlt)
   have hg:(ks.map V.cs)[k]? = some [.int .i64 ks[k].kind,.int .i64 ks[k].num,.str ks[k].text,.sl (ks[k].keys.map CX),.sl (ks[k].kids.map V.cs)]:=by simp[hlt,V.cs_eq]
   have hra:B4 (ks.map V.cs) 5 k=true:=by simp[B4,hlt,V.cs_eq]
   have hnx:=SE hv
   have hes:=VO hrk
   have hn:=Mu hrk
   have hs:=KI (Ld hrk)
   generalize ks[k]=v at *
   have hnx2:KF (ks.take k)++(⟨#[91]⟩++elS v++⟨#[93]⟩)=KF (ks.take (k+1)):=by rw[hnx];rfl
   have hx1:1+(elS v).size≤9223372036854775807:=by omega
   have hy2:(⟨#[91]⟩++elS v).size=1+(elS v).size:=by rw[ByteArray.size_append,K9]
   have hy3:(⟨#[91]⟩++elS v++⟨#[93]⟩).size=1+(elS v).size+1:=by rw[ByteArray.size_append,hy2,K9]
   generalize hu1:⟨#[91]⟩++elS v=u1 at *
   generalize hu2:u1++⟨#[93]⟩=u2 at *
   have hx2:u1.size+1≤9223372036854775807:=by omega
   have hx3:(KF (ks.take k)).size+u2.size≤9223372036854775807:=by omega
   by_cases k4:v.kind=4
   ·have b4:(v.kind==4)=true:=by simp[k4]
    have he:elS v=HH v.text:=by unfold elS;rw[if_pos k4]
    rw[he]at hu1 hx1
    have hc:=LL v.text (by omega)
    refine JV (j5 hlk hdk hg hra b4) ?_
    refine w7 (Ju [] hc) q9 ?_
    refine JV (j7 hx1 hu1 hx2 hu2 hx3 hnx2 hw) ?_
    refine⟨k+1,by omega,by omega,?_⟩
    exact JQ (F7.of [((8,0),(8,0))] []) q9
   ·have b4:(v.kind==4)=false:=by simp[k4]
    have he:elS v=JE v.num:=by unfold elS;rw[if_neg k4]
    rw[he]at hu1 hx1
    have hc:=PH (o:=o) v.num (by omega) (by omega)
    refine JV (j5 hlk hdk hg hra b4) ?_
    refine JO (Im [((8,0),(8,0))] [((8,0),(8,0))] hc) q9 ?_
    refine JV (j7 hx1 hu1 hx2 hu2 hx3 hnx2 hw) ?_
    refine⟨k+1,by omega,by omega,?_⟩
    exact JQ (F7.of [((8,0),(8,0))] []) q9
  ·have hdk:decide ((k:Int)<(ks.length:Int))=false:=by simpa using hlt
   obtain rfl:k=ks.length:=by omega
   have ha:ks.take ks.length=ks:=List.take_length
   refine JV (j2 hdk ha) ?_
   exact JJ (JN [((8,0),(8,0))] []) Tryz.results91 ha
end
section
open Go.RowKit
set_option maxRecDepth 10000
variable {o:Obj}
theorem Xm:∀(n:Nat) (t:V),t.count≤n→t.right→AC Tryz.prog 92 [t.av] (Nk o) (.c (.str t.txt)) (Nk o):=by
 intro n
 induction n with
 |zero=>intro t hn _;have:=K8 t;omega
 |succ n ih =>
  intro t hn ht
  have hk:=Mt ht
  have hnum:=Mu ht
  have hs:=KI (Ld ht)
  have hcase:t.kind=0∨t.kind=1∨t.kind=2∨t.kind=3∨t.kind=4∨(t.kind=5∨t.kind=6):=by omega
  rcases hcase with h | h | h | h | h | h
  ·have b0:(t.kind==0)=true:=by simp[h]
   have hr:Jl=⟨#[110,117,108,108]⟩:=rfl
   rw[NC h]
   refine JI Tryz.func92 Tryz.ntmps92 ?_
   refine JV b0 ?_
   exact JJ (JN [((8,0),(8,0))] []) Tryz.results92 hr
  ·have b0:(t.kind==0)=false:=by simp[h]
   have b1:(t.kind==1)=true:=by simp[h]
   have hr:IC=⟨#[102,97,108,115,101]⟩:=rfl
   rw[MO h]
   refine JI Tryz.func92 Tryz.ntmps92 ?_
   refine JV (j2 b0 b1) ?_
   exact JJ (JN [((8,0),(8,0))] []) Tryz.results92 hr
  ·have b0:(t.kind==0)=false:=by simp[h]
   have b1:(t.kind==1)=false:=by simp[h]
   have b2:(t.kind==2)=true:=by simp[h]
   have hr:Jr=⟨#[116,114,117,101]⟩:=rfl
   rw[ND h]
   refine JI Tryz.func92 Tryz.ntmps92 ?_
   refine JV (j3 b0 b1 b2) ?_
   exact JJ (JN [((8,0),(8,0))] []) Tryz.results92 hr
  ·have b0:(t.kind==0)=false:=by simp[h]
   have b1:(t.kind==1)=false:=by simp[h]
   have b2:(t.kind==2)=false:=by simp[h]
   have b3:(t.kind==3)=true:=by simp[h]
   have h1:=PH (o:=o) t.num (by omega) (by omega)
   rw[NT h]
   refine JI Tryz.func92 Tryz.ntmps92 ?_
   refine JV (j4 b0 b1 b2 b3) ?_
   refine JO (Im [((8,0),(8,0))] [((8,0),(8,0))] h1) q9 ?_
   refine JV q9 ?_
   exact JJ (JN [((8,0),(8,0))] []) Tryz.results92 b0
  ·have b0:(t.kind==0)=false:=by simp[h]
   have b1:(t.kind==1)=false:=by simp[h]
   have b2:(t.kind==2)=false:=by simp[h]
   have b3:(t.kind==3)=false:=by simp[h]
   have b4:(t.kind==4)=true:=by simp[h]
   have h1:=LL t.text (by omega)
   rw[NU h]
   refine JI Tryz.func92 Tryz.ntmps92 ?_
   refine JV (j5 b0 b1 b2 b3 b4) ?_
   refine w7 (Ju [] h1) q9 ?_
   refine JV q9 ?_
   exact JJ (JN [((8,0),(8,0))] []) Tryz.results92 b0
  ·have b0:(t.kind==0)=false:=by simp;omega
   have b1:(t.kind==1)=false:=by simp;omega
   have b2:(t.kind==2)=false:=by simp;omega
   have b3:(t.kind==3)=false:=by simp;omega
   have b4:(t.kind==4)=false:=by simp;omega
   have hkl:=Kg ht.2.1
   have hlk:(t.kids.map V.cs).length=t.kids.length:=by simp
   have h0:(t.parts.take 0).map CX=[]:=rfl
   refine JI Tryz.func92 Tryz.ntmps92 ?_
   refine JV (j6 b0 b1 b2 b3 b4 hlk) ?_
   refine Jz (κ:=Nat) (fun k=>⟨mkS 0 64 [(1,.ptr (1,0) 0),(3,.own (98,0)),(27,.c (.sl (t.kids.map V.cs))),(28,.c (.int .i64 t.kids.length)),(29,.c (.int .i64 k))],
     [((1,0),.box [.c (.int .i64 t.kind),.c (.int .i64 t.num),.c (.str t.text),.c (.sl (t.keys.map CX)),.c (.sl (t.kids.map V.cs))]),((98,0),.row false 1 9 ((t.parts.take k).map CX)),((8,0),.blk (Ps o) [])]⟩)
    (fun k=>k≤t.kids.length) (fun k=>t.kids.length-k) 0 (Nat.zero_le _) ?_ ?_
   ·exact JQ (F7.of [((1,0),(1,0)),((98,0),(25,0)),((8,0),(8,0))] []) h0
   ·intro k hk1
    have hz:=TP ht hk1
    by_cases hlt:k<t.kids.length
    ·have hdk:decide ((k:Int)<(t.kids.length:Int))=true:=by simpa using hlt
     have hw:=JX (k:=k) (by omega)
     have hr:B4 (t.kids.map V.cs) 5 k=true:=by simp[B4,hlt,V.cs_eq]
     have hg:(t.kids.map V.cs)[k]? = some [.int .i64 t.kids[k].kind,.int .i64 t.kids[k].num,.str t.kids[k].text,.sl (t.kids[k].keys.map CX),.sl (t.kids[k].kids.map V.cs)]:=by simp[hlt,V.cs_eq]
     have hks:=LY ht k
     have hes:=LV hks
     have hqk:=LL (t.keyAt k) (by omega)
     have hmem:t.kids[k]∈t.kids:=List.getElem_mem hlt
     have hcm:=K7 hmem
     have hck:=K4 t
     have hxs:=Mv (K1 ht hmem)
     have he:=ih t.kids[k] (by omega) (K1 ht hmem)
     have hpl:(t.parts.take k).length+1≤1000000:=by rw[List.length_take];omega
     have hnext:(t.parts.take k).map CX++[[.str (t.part k t.kids[k])]]=(t.parts.take (k+1)).map CX:=by
      rw[List.take_succ_eq_append_getElem (by rw[LB];exact hlt),SD t hlt,List.map_append];rfl
     unfold V.part at hnext
     rcases h with h | h
     ·have b6:(t.kind==6)=false:=by simp[h]
      rw[if_neg (by omega)]at hnext
      generalize t.kids[k]=x at *
      refine JV (j3 hdk hr hg) ?_
      refine JO (Im [((8,0),(8,0))] [((8,0),(8,0))] he) q9 ?_
      refine JV (j3 b6 hpl hw) ?_
      refine⟨k+1,by omega,by omega,?_⟩
      exact JQ (F7.of [((1,0),(1,0)),((98,0),(51,0)),((8,0),(8,0))] []) hnext
     ·have b6:(t.kind==6)=true:=by simp[h]
      rw[if_pos h]at hnext
      obtain⟨hkk,hkey⟩:=Mj (Lc ht) h hlt
      have hrk:B4 (t.keys.map CX) 1 k=true:=by simp[B4,hkk,CX]
      have hgk:(t.keys.map CX)[k]? = some [.str (t.keyAt k)]:=by simp[hkk,CX,hkey]
      generalize t.kids[k]=x at *
      generalize t.keyAt k=key at *
      have x1:(HH key).size+1≤9223372036854775807:=by omega
      have x2:(HH key++bS 58).size+x.txt.size≤9223372036854775807:=by simp only[ByteArray.size_append,K9];omega
      generalize hv1:HH key++bS 58=v1 at *
      refine JV (j3 hdk hr hg) ?_
      refine JO (Im [((8,0),(8,0))] [((8,0),(8,0))] he) q9 ?_
      refine JV (j3 b6 hrk hgk) ?_
      refine w7 (Ju [] hqk) q9 ?_
      refine JV (j5 x1 hv1 x2 hpl hw) ?_
      refine⟨k+1,by omega,by omega,?_⟩
      exact JQ (F7.of [((1,0),(1,0)),((98,0),(51,0)),((8,0),(8,0))] []) hnext
    ·have hdk:decide ((k:Int)<(t.kids.length:Int))=false:=by simpa using hlt
     obtain rfl:k=t.kids.length:=by omega
     have hall:t.parts.take t.kids.length=t.parts:=List.take_of_length_le (by rw[LB];exact Nat.le_refl _)
     rw[hall]at hz
     have hj:=YL t.parts (bS 44) (by rw[LB];omega) (by omega)
     have hx1:1+(H0 (bS 44) t.parts).size≤9223372036854775807:=by omega
     rcases h with h | h
     ·have b5:(t.kind==5)=true:=by simp[h]
      have hx2:(bS 91++H0 (bS 44) t.parts).size+1≤9223372036854775807:=by rw[ByteArray.size_append,K9];omega
      have ht5:=(OK h).symm
      generalize hv1:bS 91++H0 (bS 44) t.parts=v1 at *
      refine JV (j3 hdk b5 hall) ?_
      refine w7 (Ju [(98,0)] hj) q9 ?_
      refine JV (j4 hx1 hv1 hx2 ht5) ?_
      exact JJ (JN [((8,0),(8,0))] []) Tryz.results92 ht5
     ·have b5:(t.kind==5)=false:=by simp[h]
      have hx2:(bS 123++H0 (bS 44) t.parts).size+1≤9223372036854775807:=by rw[ByteArray.size_append,K9];omega
      have ht5:=(OM h).symm
      generalize hv1:bS 123++H0 (bS 44) t.parts=v1 at *
      refine JV (j3 hdk b5 hall) ?_
      refine w7 (Ju [(98,0)] hj) q9 ?_
      refine JV (j4 hx1 hv1 hx2 ht5) ?_
      exact JJ (JN [((8,0),(8,0))] []) Tryz.results92 ht5
theorem MT {t:V}(h:t.right):AC Tryz.prog 92 [t.av] (Nk o) (.c (.str t.txt)) (Nk o):=Xm _ t (Nat.le_refl _) h
end
end Go.Proofs.YtllfmaflodbieaaGreatDoor
