/- Texts of this proof: R04 R05. -/
import Derived.Test.YtlciedpfjhkkdaaGreatDoorKR03
import Derived.Laws.IdiomCopy
import Derived.Laws.CopyRow
import Derived.Lib.Bytealg
import Derived.Laws.CopyOwn
set_option linter.all false
set_option maxHeartbeats 8000000
namespace Go.Proofs.YtlciedpfjhkkdaaGreatDoor
open Go.RowKit
theorem BE.cells {w w':World}{e:Nat}{l:List Int}(h:BE w e l) (hs:w.heap.size≤w'.heap.size) (hb:w'.heap[e]? = w.heap[e]?):BE w' e l :=
 ⟨Nat.lt_of_lt_of_le h.1 hs,fun j b hj=>(World.cell?_of_block hb).trans (h.2 j b hj)⟩
theorem F6.setCell {m d:Nat}{w:World}(h:F6 m w d) {p:Addr}(hp:p.block<m) (v:Value):F6 m (w.setCell p v) d:=by
 obtain⟨n,e,c,e',c',h1,h2,h3,h4,b1,r1,r2,b2⟩:=h
 have hs:w.heap.size≤(w.setCell p v).heap.size:=by simp[World.setCell]
 exact⟨n,e,c,e',c',h1,h2,h3,h4,b1.far (by omega) v,r1.cells hs (Below.heap_setCell _ _ _ _ (by omega)),r2.cells hs (Below.heap_setCell _ _ _ _ (by omega)),b2.far (by omega) v⟩
theorem F6.drew {m d:Nat}{w:World}(h:F6 m w d):F6 m w.drew d:=h
set_option maxRecDepth 100000 in
theorem IB (b g c:Nat) (w:World) (x3:Value) (hbl:b<w.heap.size) (hb3:w.cell? ⟨b,3,none⟩=some x3) (f3:w.frozen? ⟨b,3,none⟩=false) (hb4:w.cell? ⟨b,4,none⟩=some (.slice (some ⟨g,0,none⟩) 4 c)) (f4:w.frozen? ⟨b,4,none⟩=false)
  (hg:g<w.heap.size) (s0:w.cell? ⟨g,0,none⟩=some (.string ⟨#[34]⟩)) (s1:w.cell? ⟨g,1,none⟩=some (.string ⟨#[92,34]⟩)) (s2:w.cell? ⟨g,2,none⟩=some (.string ⟨#[92]⟩)) (s3:w.cell? ⟨g,3,none⟩=some (.string ⟨#[92,92]⟩)) :
  Calls Tryz.prog 203 #[.pointer (some ⟨b,0,none⟩)] w fun e w'=>e=.returned (.tuple #[])∧OnceKept b w w'∧(Below b w w'∧w.heap.size≤w'.heap.size∧w'.cell? ⟨b,3,none⟩=some (.iface 281 (.pointer (some ⟨w.heap.size+1,0,none⟩)))∧F6 w.heap.size w' (w.heap.size+1)):=by
 go_enter Tryz.func203,Tryz.ntmps203
 go_wp2_with (go_at_call 230;refine (Nh b g c w hb4 hg s0 s1 s2 s3).mono ?_;rintro e w1 ⟨rfl,hb,hB⟩;have e3:=(hb.cell (p:=⟨b,3,none⟩) hbl).trans hb3;have e3f:=(hb.frozen (p:=⟨b,3,none⟩) hbl).trans f3;have e4:=(hb.cell (p:=⟨b,4,none⟩) hbl).trans hb4;have e4f:=(hb.frozen (p:=⟨b,4,none⟩) hbl).trans f4;have HB:=Lib.hid hB;have Hb:=Lib.hid hb;clear hB hb)
 go_end0
 have hB:=HB.out
 have hb:=Hb.out
 refine⟨rfl,⟨?_,?_,?_,?_⟩,?_,?_,?_,?_⟩
 ·rw[World.cell?_setCell_other _ ⟨b,4,none⟩ ⟨b,0,none⟩ _ (by simp),World.cell?_setCell_other _ ⟨b,3,none⟩ ⟨b,0,none⟩ _ (by simp)];exact hb.cell (p:=⟨b,0,none⟩) hbl
 ·rw[World.cell?_setCell_other _ ⟨b,4,none⟩ ⟨b,1,none⟩ _ (by simp),World.cell?_setCell_other _ ⟨b,3,none⟩ ⟨b,1,none⟩ _ (by simp)];exact hb.cell (p:=⟨b,1,none⟩) hbl
 ·simp;exact hb.frozen (p:=⟨b,0,none⟩) hbl
 ·simp;exact hb.frozen (p:=⟨b,1,none⟩) hbl
 ·exact ((hb.mono (Nat.le_of_lt hbl)).setCell (p:=⟨b,3,none⟩) (Nat.le_refl _) _).setCell (p:=⟨b,4,none⟩) (Nat.le_refl _) _
 ·have:=hb.size;simp[World.setCell];omega
 ·rw[World.cell?_setCell_other _ _ _ _ (by simp)]
  exact World.cell?_setCell_same _ _ _ e3
 ·exact (hB.setCell (p:=⟨b,3,none⟩) hbl _).setCell (p:=⟨b,4,none⟩) hbl _
def Cx (b:UInt8):List UInt8:=if b=34 then [92,34] else if b=92 then [92,92] else [b]
def Az (l:List UInt8):List UInt8:=l.flatMap Cx
def spB (b:UInt8):Bool:=b==34||b==92
def cz (l:List UInt8):Nat:=(l.filter spB).length
theorem PW (b:UInt8):(Cx b).length=1+if spB b then 1 else 0:=by
 unfold Cx spB
 by_cases h1:b=34
 ·subst h1;rfl
 ·by_cases h2:b=92
  ·subst h2;rfl
  ·simp[h1,h2]
theorem EN (a b:List UInt8):Az (a++b)=Az a++Az b:=by unfold Az;rw[List.flatMap_append]
theorem Kl (a b:List UInt8):cz (a++b)=cz a+cz b:=by unfold cz;rw[List.filter_append,List.length_append]
theorem KI (b:UInt8):cz [b]=if spB b then 1 else 0:=by unfold cz;by_cases h:spB b<;>simp[h]
theorem Gq:∀l,(Az l).length=l.length+cz l
 | []=>rfl
 |b::l=>by
  have ih:=Gq l
  have h1:=Kl [b] l
  have h2:=KI b
  have h3:=PW b
  have h4:Az (b::l)=Cx b++Az l:=rfl
  rw[h4,List.length_append,ih,h3]
  rw[List.singleton_append]at h1
  rw[h1,h2,List.length_cons]
  omega
theorem Ko:∀l,cz l=0→Az l=l
 | [],_=>rfl
 |b::l,h=>by
  have h1:=Kl [b] l
  have h2:=KI b
  rw[List.singleton_append]at h1
  rw[h1,h2]at h
  have hb:spB b=false:=by
   cases hs:spB b with
   |false=>rfl
   |true=>rw[hs]at h;simp at h
  have h4:Az (b::l)=Cx b++Az l:=rfl
  rw[h4,Ko l (by omega)]
  unfold spB at hb
  simp only[Bool.or_eq_false_iff,beq_eq_false_iff_ne]at hb
  unfold Cx
  rw[if_neg hb.1,if_neg hb.2]
  rfl
theorem LO:∀l:List UInt8,cz l=l.count 92+l.count 34
 | []=>rfl
 |b::l=>by
  have h1:=Kl [b] l
  have h2:=KI b
  rw[List.singleton_append]at h1
  rw[h1,h2,LO l,List.count_cons,List.count_cons]
  unfold spB
  by_cases e1:b=34
  ·subst e1;simp;omega
  ·by_cases e2:b=92
   ·subst e2;simp;omega
   ·simp[e1,e2]
theorem EI {l:List UInt8}{k:Nat}(h:k<l.length):l.take (k+1)=l.take k++[l[k]]:=List.take_succ_eq_append_getElem h
set_option maxRecDepth 100000 in
theorem OK (s:ByteArray) (c:UInt8) (w:World):Calls Tryz.prog 196 #[.string s,.string ⟨#[c]⟩] w fun e w'=>e=.returned (.int .i64 (s.data.toList.count c:Nat))∧w'=w:=by
 go_enter Tryz.func196,Tryz.ntmps196
 go_wp2
 rw[run_callFunc_extern Tryz.func221 (by kernel_rfl) (by kernel_rfl) (by kernel_rfl) (e:=Extern.BytealgCount.count) (by kernel_rfl),Lib.run_countString]
 simp only[Result.andThen]
 rw[Oper.upon_value]
 go_wp2
 go_ret
 refine⟨?_,rfl⟩
 unfold Lib.countByte
 simp
 rfl
theorem Lm (s:ByteArray) (c:UInt8) (C:Nat) (h:s.data.toList.count c=C) (w:World):Calls Tryz.prog 196 #[.string s,.string ⟨#[c]⟩] w fun e w'=>e=.returned (.int .i64 C)∧w'=w:=by
 subst h
 exact OK s c w
def Dt (l:List UInt8):List Value:=l.map fun b=>.int .u8 (b.toNat:Int)
theorem EX (l:List UInt8):(Dt l).length=l.length:=by simp[Dt]
def Bm (l:List UInt8) (N k:Nat):List Value:=Dt (Az (l.take k))++List.replicate (N-(Az (l.take k)).length) (.int .u8 0)
theorem D0 (l:List UInt8) (k:Nat):(Az (l.take k)).length≤(Az l).length:=by
 have:Az l=Az (l.take k)++Az (l.drop k):=by rw[←EN,List.take_append_drop]
 rw[this,List.length_append]
 omega
theorem II (N:Nat):madeCells #[Value.int .u8 0] N=(List.replicate N (Value.int .u8 0)).toArray:=by
 apply Array.ext
 ·simp[madeCells]
 ·intro i h1 h2
  simp[madeCells,Nat.mod_one]
theorem Jp (l:List UInt8) (N:Nat):Bm l N 0=List.replicate N (.int .u8 0):=by simp[Bm,Az,Dt]
theorem Di {l:List UInt8}{N k:Nat}(h:(Az l).length≤N):(Bm l N k).length=N:=by
 have:=D0 l k
 unfold Bm
 rw[List.length_append,EX,List.length_replicate]
 omega
theorem GH {l:List UInt8}{N k:Nat}(h:(Az l).length=N) (hk:k<l.length) :
  (Bm l N k).take (Az (l.take k)).length++Dt (Cx l[k])++(Bm l N k).drop ((Az (l.take k)).length+(Cx l[k]).length)=Bm l N (k+1):=by
 have e1:Az (l.take (k+1))=Az (l.take k)++Cx l[k]:=by
  rw[EI hk,EN]
  congr 1
  simp[Az]
 have h1:=D0 l (k+1)
 rw[e1,List.length_append]at h1
 unfold Bm
 rw[e1,List.take_left' (EX _)]
 have e2:(Dt (Az (l.take k))++List.replicate (N-(Az (l.take k)).length) (Value.int .u8 0)).drop ((Az (l.take k)).length+(Cx l[k]).length)=List.replicate (N-((Az (l.take k)).length+(Cx l[k]).length)) (Value.int .u8 0):=by
  rw[List.drop_append,List.drop_eq_nil_of_le (by rw[EX];omega),EX,List.nil_append,List.drop_replicate]
  congr 1
  omega
 rw[e2]
 simp only[Dt,List.map_append,List.length_append,List.append_assoc]
theorem Ll {l:List UInt8}{N k:Nat}(h:(Az l).length=N) (hk:k<l.length) (h1:l[k]≠34) (h2:l[k]≠92) :
  (Bm l N k).toArray.setIfInBounds (Az (l.take k)).length (.int .u8 (l[k].toNat:Int))=(Bm l N (k+1)).toArray:=by
 have hn:=GH h hk
 have hb:Cx l[k]=[l[k]]:=by unfold Cx;rw[if_neg h1,if_neg h2]
 rw[hb]at hn
 have h3:=D0 l (k+1)
 have e1:Az (l.take (k+1))=Az (l.take k)++Cx l[k]:=by
  rw[EI hk,EN]
  congr 1
  simp[Az]
 rw[e1,List.length_append,hb,List.length_singleton]at h3
 have hl:=Di (l:=l) (N:=N) (k:=k) (by omega)
 rw[List.setIfInBounds_toArray]
 congr 1
 rw[List.set_eq_take_append_cons_drop,if_pos (by omega),←hn,List.append_assoc]
 rfl
theorem Ca (g j:Nat):(⟨g,0,none⟩:Addr).add j=⟨g,j,none⟩:=by unfold Addr.add;split<;>simp_all
structure BsrCells (w:World) (d n e c e' c':Nat):Prop where
 c34:w.cell? ⟨d,34,none⟩=some (D5 e' 2 c')
 c92:w.cell? ⟨d,92,none⟩=some (D5 e 2 c)
 else_:∀b:Nat,b<256→b≠34→b≠92→w.cell? ⟨d,b,none⟩=some (.slice none 0 0)
 tr:w.cell? ⟨d,256,none⟩=some (D5 n 2 2)
 n0:w.cell? ⟨n,0,none⟩=some (txt #[92])
 n1:w.cell? ⟨n,1,none⟩=some (txt #[34])
 e0:w.cell? ⟨e,0,none⟩=some (.int .u8 92)
 e1:w.cell? ⟨e,1,none⟩=some (.int .u8 92)
 e0':w.cell? ⟨e',0,none⟩=some (.int .u8 92)
 e1':w.cell? ⟨e',1,none⟩=some (.int .u8 34)
 dlt:d<w.heap.size
 nlt:n<w.heap.size
 elt:e<w.heap.size
 elt':e' < w.heap.size
theorem F6.cells {m d:Nat}{w:World}(h:F6 m w d):∃n e c e' c',BsrCells w d n e c e' c':=by
 obtain⟨n,e,c,e',c',_,_,_,_,b1,r1,r2,b2⟩:=h
 refine⟨n,e,c,e',c',?_,?_,fun b h1 h2 h3=>?_,?_,b1.cell 0,b1.cell 1,r1.2 0 _ rfl,r1.2 1 _ rfl,r2.2 0 _ rfl,r2.2 1 _ rfl,b2.lt,b1.lt,r1.1,r2.1⟩
 ·rw[b2.cell 34,Array.getElem?_setIfInBounds_self_of_lt (by simp[bsr])]
 ·rw[b2.cell 92,Array.getElem?_setIfInBounds_ne (by decide),Array.getElem?_setIfInBounds_self_of_lt (by simp[bsr])]
 ·rw[b2.cell b,Array.getElem?_setIfInBounds_ne (fun e=>h2 e.symm),Array.getElem?_setIfInBounds_ne (fun e=>h3 e.symm),Ic _ h1]
 ·rw[b2.cell 256,Array.getElem?_setIfInBounds_ne (by decide),Array.getElem?_setIfInBounds_ne (by decide),EO]
theorem BsrCells.below {w w':World}{d n e c e' c':Nat}(h:BsrCells w d n e c e' c') (hb:Below w.heap.size w w'):BsrCells w' d n e c e' c':=by
 obtain⟨a1,a2,a3,a4,a5,a6,a7,a8,a9,a10,l1,l2,l3,l4⟩:=h
 have hs:=hb.size
 exact⟨(hb.cell l1).trans a1,(hb.cell l1).trans a2,fun b h1 h2 h3=>(hb.cell l1).trans (a3 b h1 h2 h3),(hb.cell l1).trans a4,(hb.cell l2).trans a5,(hb.cell l2).trans a6,(hb.cell l3).trans a7,(hb.cell l3).trans a8,(hb.cell l4).trans a9,(hb.cell l4).trans a10,by omega,by omega,by omega,by omega⟩
end Go.Proofs.YtlciedpfjhkkdaaGreatDoor
