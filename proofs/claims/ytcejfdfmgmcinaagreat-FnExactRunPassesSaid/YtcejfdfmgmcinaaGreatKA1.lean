/- Texts of this proof: A01 A02 A03 A04 A05 A06 A07 A08 A09. -/
import Derived.Test.YtcejfdfmgmcinaaGreatKM1
import Derived.Laws.OwnMore
import Derived.Maps.AppendAt
import Derived.OwnWalk
set_option linter.all false
namespace Go.Proofs.YtcejfdfmgmcinaaGreat
section
open Go.RowKit
theorem a3m {W w1:World}(hb:Below W.heap.size W w1):(∀b o,b<W.heap.size→w1.cell? ⟨b,o,none⟩=W.cell? ⟨b,o,none⟩)∧(∀b o,b<W.heap.size→w1.frozen? ⟨b,o,none⟩=W.frozen? ⟨b,o,none⟩) :=
 ⟨fun b o h=>hb.cell (p:=⟨b,o,none⟩) h,fun b o h=>hb.frozen (p:=⟨b,o,none⟩) h⟩
structure Same (S:Nat→Prop) (w w':World):Prop where
 size:w.heap.size≤w'.heap.size
 block:∀b,S b→b<w.heap.size→w'.heap[b]? = w.heap[b]?
theorem Same.refl (S:Nat→Prop) (w:World):Same S w w:=⟨Nat.le_refl _,fun _ _ _=>rfl⟩
theorem Same.trans {S:Nat→Prop}{a b c:World}(h:Same S a b) (k:Same S b c):Same S a c :=
 ⟨Nat.le_trans h.size k.size,fun i hi hl=>(k.block i hi (Nat.lt_of_lt_of_le hl h.size)).trans (h.block i hi hl)⟩
theorem Same.of_below {S:Nat→Prop}{B:Nat}{w w':World}(h:Below B w w') (hS:∀b,S b→b<w.heap.size→b<B):Same S w w':=⟨h.size,fun b hb hl=>h.block b (hS b hb hl)⟩
theorem Same.below {S:Nat→Prop}{w w':World}(h:Below w.heap.size w w'):Same S w w':=Same.of_below h fun _ _ h=>h
theorem Same.grown {S:Nat→Prop}{w w':World}{row:Option Nat}(h:w.grownBy w' row) (hS:∀b,S b→some b≠row):Same S w w':=⟨h.size,fun b hb hl=>h.block b hl (hS b hb)⟩
theorem Same.alloc (S:Nat→Prop) (w:World) (o:Obj):Same S w (w.alloc o):=⟨by simp,fun b _ hl=>Below.heap_alloc w o b hl⟩
theorem Same.setCell {S:Nat→Prop}(w:World) (p:Addr) (u:Value) (hp:¬S p.block):Same S w (w.setCell p u) :=
 ⟨by simp[World.setCell],fun b hb _=>Below.heap_setCell w p u b (fun e=>hp (e▸hb))⟩
theorem Same.drew (S:Nat→Prop) (w:World):Same S w w.drew:=⟨Nat.le_refl _,fun _ _ _=>rfl⟩
theorem Same.mono {S T:Nat→Prop}{w w':World}(h:Same S w w') (hT:∀b,T b→S b):Same T w w':=⟨h.size,fun b hb hl=>h.block b (hT b hb) hl⟩
def Row (w:World) (S:Nat→Prop) (size:Nat) (A:Option Addr) (xs:List (List Value)):Prop :=
 (∀x∈xs,x.length=size)∧(0<xs.length→∃b off,A=some ⟨b,off,none⟩∧S b∧b<w.heap.size∧∀i x,xs[i]? = some x→∀j u,x[j]? = some u→w.cell? ⟨b,off+i*size+j,none⟩=some u)
section
variable {w w':World} {S T:Nat→Prop} {size:Nat} {A:Option Addr} {xs:List (List Value)}
theorem Row.nil:Row w S size A []:=⟨by simp,fun h=>absurd h (by simp)⟩
theorem Row.keep (h:Row w S size A xs) (hs:Same S w w'):Row w' S size A xs :=
 ⟨h.1,fun hn=>by
  obtain⟨b,off,hA,hb,hl,hc⟩:=h.2 hn
  exact⟨b,off,hA,hb,Nat.lt_of_lt_of_le hl hs.size,fun i x hx j u hu=>(World.cell?_of_block (hs.block b hb hl)).trans (hc i x hx j u hu)⟩⟩
theorem Row.below (h:Row w S size A xs) (hb:Below w.heap.size w w'):Row w' S size A xs:=h.keep (Same.below hb)
theorem Row.weaken (h:Row w S size A xs) (hT:∀b,S b→b<w.heap.size→T b):Row w T size A xs :=
 ⟨h.1,fun hn=>by
  obtain⟨b,off,hA,hb,hl,hc⟩:=h.2 hn
  exact⟨b,off,hA,hT b hb hl,hl,hc⟩⟩
theorem Row.cut (h:Row w S size A xs) (k cap:Nat) (hc:xs.length≤cap) :
  Row w S size (if cap=k then A else A.map (·.add (k*size))) (xs.drop k):=by
 refine⟨fun x hx=>h.1 x (List.mem_of_mem_drop hx),fun hn=>?_⟩
 simp only[List.length_drop]at hn
 obtain⟨b,off,rfl,hb,hl,hcell⟩:=h.2 (by omega)
 rw[if_neg (by omega)]
 refine⟨b,off+k*size,?_,hb,hl,fun i x hx j u hu=>?_⟩
 ·simp only[Option.map_some,Addr.add]
  split
  ·rename_i h0;simp[h0]
  ·rfl
 ·have:=hcell (k+i) x (by rw[←List.getElem?_drop];exact hx) j u hu
  rw[show off+k*size+i*size+j=off+(k+i)*size+j from by rw[Nat.add_mul];omega]
  exact this
theorem Row.take (h:Row w S size A xs) (k:Nat):Row w S size A (xs.take k):=by
 refine⟨fun x hx=>h.1 x (List.mem_of_mem_take hx),fun hn=>?_⟩
 obtain⟨b,off,hA,hb,hl,hcell⟩:=h.2 (by simp at hn;omega)
 refine⟨b,off,hA,hb,hl,fun i x hx j u hu=>hcell i x ?_ j u hu⟩
 rw[List.getElem?_take]at hx
 split at hx
 ·exact hx
 ·simp at hx
end
def Be (w:World) (S:Nat→Prop) (A:Option Addr) (xs:List CellD):Prop:=Row w S 5 A (xs.map vals)
theorem Be.at_ {w:World}{S:Nat→Prop}{A:Option Addr}{xs:List CellD}(h:Be w S A xs) {k:Nat}(hk:k<xs.length) :
  ∃b off,A=some ⟨b,off,none⟩∧S b∧b<w.heap.size∧w.cell? ⟨b,off+k*5,none⟩=some (.int .i64 xs[k].kind)∧w.cell? ⟨b,off+k*5+1,none⟩=some (.int .i64 xs[k].num) ∧
   w.cell? ⟨b,off+k*5+2,none⟩=some (.string xs[k].text)∧w.cell? ⟨b,off+k*5+3,none⟩=some (.string xs[k].key)∧w.cell? ⟨b,off+k*5+4,none⟩=some (.int .i64 xs[k].n):=by
 obtain⟨b,off,hA,hS,hl,hc⟩:=h.2 (by simp;omega)
 have:=hc k (vals xs[k]) (by simp[List.getElem?_eq_getElem hk])
 exact⟨b,off,hA,hS,hl,this 0 _ rfl,this 1 _ rfl,this 2 _ rfl,this 3 _ rfl,this 4 _ rfl⟩
theorem Be.nil {w:World}{S:Nat→Prop}{A:Option Addr}:Be w S A []:=Row.nil
theorem Be.keep {w w':World}{S:Nat→Prop}{A:Option Addr}{xs:List CellD}(h:Be w S A xs) (hs:Same S w w'):Be w' S A xs:=Row.keep h hs
theorem Be.below {w w':World}{S:Nat→Prop}{A:Option Addr}{xs:List CellD}(h:Be w S A xs) (hb:Below w.heap.size w w'):Be w' S A xs:=Row.below h hb
theorem Be.weaken {w:World}{S T:Nat→Prop}{A:Option Addr}{xs:List CellD}(h:Be w S A xs) (hT:∀b,S b→b<w.heap.size→T b):Be w T A xs:=Row.weaken h hT
def Qu (w:World) (S:Nat→Prop) (A:Option Addr) (ks:List ByteArray):Prop:=Row w S 1 A (ks.map fun k=>[.string k])
theorem Qu.at_ {w:World}{S:Nat→Prop}{A:Option Addr}{xs:List ByteArray}(h:Qu w S A xs) {k:Nat}(hk:k<xs.length) :
  ∃b off,A=some ⟨b,off,none⟩∧S b∧b<w.heap.size∧w.cell? ⟨b,off+k,none⟩=some (.string xs[k]):=by
 obtain⟨b,off,hA,hS,hl,hc⟩:=h.2 (by simp;omega)
 have:=hc k [.string xs[k]] (by simp[List.getElem?_eq_getElem hk]) 0 _ rfl
 exact⟨b,off,hA,hS,hl,by simpa using this⟩
mutual
def Cv (w:World) (S:Nat→Prop):V→List Value→Prop
 | .mk kind num text keys kids,vs=>∃(Ak:Option Addr) (ck:Nat) (Av:Option Addr) (cv:Nat) (kvs:List (List Value)),
   vs=[.int .i64 kind,.int .i64 num,.string text,.slice Ak keys.length ck,.slice Av kids.length cv]∧keys.length≤ck∧kids.length≤cv ∧
   Qu w S Ak keys∧Row w S 5 Av kvs∧Bv w S kids kvs
def Bv (w:World) (S:Nat→Prop):List V→List (List Value)→Prop
 | [],vs=>vs=[]
 |k::ks,vs=>∃v vs',vs=v::vs'∧Cv w S k v∧Bv w S ks vs'
end
theorem Bv.length {w:World}{S:Nat→Prop}:∀{ks:List V}{vs:List (List Value)},Bv w S ks vs→vs.length=ks.length
 | [],_,h=>by simp only[Bv]at h;subst h;rfl
 |_::_,_,h=>by
  simp only[Bv]at h
  obtain⟨v,vs',rfl,_,h2⟩:=h
  simp[Bv.length h2]
mutual
theorem Cv.keep {w w':World}{S:Nat→Prop}(hs:Same S w w'):∀{t:V}{vs:List Value},Cv w S t vs→Cv w' S t vs
 | .mk _ _ _ _ _,_,h=>by
  simp only[Cv]at h ⊢
  obtain⟨Ak,ck,Av,cv,kvs,h1,h2,h3,h4,h5,h6⟩:=h
  exact⟨Ak,ck,Av,cv,kvs,h1,h2,h3,Row.keep h4 hs,Row.keep h5 hs,Bv.keep hs h6⟩
theorem Bv.keep {w w':World}{S:Nat→Prop}(hs:Same S w w'):∀{ks:List V}{vs:List (List Value)},Bv w S ks vs→Bv w' S ks vs
 | [],_,h=>by simp only[Bv]at h ⊢;exact h
 |_::_,_,h=>by
  simp only[Bv]at h ⊢
  obtain⟨v,vs',h0,h1,h2⟩:=h
  exact⟨v,vs',h0,Cv.keep hs h1,Bv.keep hs h2⟩
end
mutual
theorem Cv.weaken {w:World}{S T:Nat→Prop}(hs:∀b,S b→b<w.heap.size→T b):∀{t:V}{vs:List Value},Cv w S t vs→Cv w T t vs
 | .mk _ _ _ _ _,_,h=>by
  simp only[Cv]at h ⊢
  obtain⟨Ak,ck,Av,cv,kvs,h1,h2,h3,h4,h5,h6⟩:=h
  exact⟨Ak,ck,Av,cv,kvs,h1,h2,h3,Row.weaken h4 hs,Row.weaken h5 hs,Bv.weaken hs h6⟩
theorem Bv.weaken {w:World}{S T:Nat→Prop}(hs:∀b,S b→b<w.heap.size→T b):∀{ks:List V}{vs:List (List Value)},Bv w S ks vs→Bv w T ks vs
 | [],_,h=>by simp only[Bv]at h ⊢;exact h
 |_::_,_,h=>by
  simp only[Bv]at h ⊢
  obtain⟨v,vs',h0,h1,h2⟩:=h
  exact⟨v,vs',h0,Cv.weaken hs h1,Bv.weaken hs h2⟩
end
theorem Bv.snoc {w:World}{S:Nat→Prop}{k:V}{v:List Value}(h:Cv w S k v):∀{ks:List V}{vs:List (List Value)},Bv w S ks vs→Bv w S (ks++[k]) (vs++[v])
 | [],_,h0=>by
  simp only[Bv]at h0
  subst h0
  exact⟨v,[],rfl,h,rfl⟩
 |_::_,_,h0=>by
  simp only[Bv]at h0
  obtain⟨u,us,rfl,h1,h2⟩:=h0
  exact⟨u,us++[v],rfl,h1,Bv.snoc h h2⟩
theorem Bv.at_ {w:World}{S:Nat→Prop}:∀{ks:List V}{vs:List (List Value)},Bv w S ks vs→∀(i:Nat) (hi:i<ks.length),∃v,vs[i]? = some v∧Cv w S ks[i] v
 | [],_,_,i,hi=>absurd hi (by simp)
 |_::_,_,h,i,hi=>by
  simp only[Bv]at h
  obtain⟨u,us,rfl,h1,h2⟩:=h
  cases i with
  |zero=>exact⟨u,rfl,h1⟩
  |succ i=>exact Bv.at_ h2 i (by simpa using hi)
theorem Cv.below {w w':World}{S:Nat→Prop}{t:V}{vs:List Value}(h:Cv w S t vs) (hb:Below w.heap.size w w'):Cv w' S t vs:=h.keep (Same.below hb)
theorem Bv.below {w w':World}{S:Nat→Prop}{t:List V}{vs:List (List Value)}(h:Bv w S t vs) (hb:Below w.heap.size w w'):Bv w' S t vs:=h.keep (Same.below hb)
theorem Cv.out {w:World}{S:Nat→Prop}{t:V}{vs:List Value}(h:Cv w S t vs):∃(Ak:Option Addr) (ck:Nat) (Av:Option Addr) (cv:Nat) (kvs:List (List Value)),
   vs=[.int .i64 t.kind,.int .i64 t.num,.string t.text,.slice Ak t.keys.length ck,.slice Av t.kids.length cv]∧t.keys.length≤ck∧t.kids.length≤cv ∧
   Qu w S Ak t.keys∧Row w S 5 Av kvs∧Bv w S t.kids kvs:=by
 obtain⟨k,n,s,ks,vs⟩:=t
 exact h
theorem Cv.mk_ {w:World}{S:Nat→Prop}{kind num:Int}{text:ByteArray}{keys:List ByteArray}{kids:List V}{Ak:Option Addr}{ck:Nat}{Av:Option Addr}{cv:Nat}{kvs:List (List Value)}
  (h2:keys.length≤ck) (h3:kids.length≤cv) (h4:Qu w S Ak keys) (h5:Row w S 5 Av kvs) (h6:Bv w S kids kvs) :
  Cv w S (.mk kind num text keys kids) [.int .i64 kind,.int .i64 num,.string text,.slice Ak keys.length ck,.slice Av kids.length cv] :=
 ⟨Ak,ck,Av,cv,kvs,rfl,h2,h3,h4,h5,h6⟩
theorem Cv.of {w:World}{S:Nat→Prop}{t:V}{Ak:Option Addr}{ck:Nat}{Av:Option Addr}{cv:Nat}{kvs:List (List Value)}
  (h2:t.keys.length≤ck) (h3:t.kids.length≤cv) (h4:Qu w S Ak t.keys) (h5:Row w S 5 Av kvs) (h6:Bv w S t.kids kvs) :
  Cv w S t [.int .i64 t.kind,.int .i64 t.num,.string t.text,.slice Ak t.keys.length ck,.slice Av t.kids.length cv]:=by
 obtain⟨k,n,s,ks,vs⟩:=t
 exact Cv.mk_ h2 h3 h4 h5 h6
theorem Row.vat {w:World}{S:Nat→Prop}{A:Option Addr}{vs:List (List Value)}{ks:List V}(h:Row w S 5 A vs) (hv:Bv w S ks vs) {i:Nat}(hi:i<ks.length) :
  ∃(b off:Nat) (Ak:Option Addr) (ck:Nat) (Av:Option Addr) (cv:Nat) (kvs:List (List Value)),A=some ⟨b,off,none⟩∧S b∧b<w.heap.size ∧
   w.cell? ⟨b,off+i*5,none⟩=some (.int .i64 ks[i].kind)∧w.cell? ⟨b,off+i*5+1,none⟩=some (.int .i64 ks[i].num) ∧
   w.cell? ⟨b,off+i*5+2,none⟩=some (.string ks[i].text)∧w.cell? ⟨b,off+i*5+3,none⟩=some (.slice Ak ks[i].keys.length ck)∧w.cell? ⟨b,off+i*5+4,none⟩=some (.slice Av ks[i].kids.length cv) ∧
   ks[i].keys.length≤ck∧ks[i].kids.length≤cv∧Qu w S Ak ks[i].keys∧Row w S 5 Av kvs∧Bv w S ks[i].kids kvs:=by
 obtain⟨v,he,hr⟩:=hv.at_ i hi
 obtain⟨Ak,ck,Av,cv,kvs,rfl,h2,h3,h4,h5,h6⟩:=hr.out
 obtain⟨b,off,hA,hS,hl,hc⟩:=h.2 (by have:=hv.length;omega)
 have:=hc i _ he
 exact⟨b,off,Ak,ck,Av,cv,kvs,hA,hS,hl,this 0 _ rfl,this 1 _ rfl,this 2 _ rfl,this 3 _ rfl,this 4 _ rfl,h2,h3,h4,h5,h6⟩
theorem BR {xs:List (List Value)}{size:Nat}(h1:∀x∈xs,x.length=size):∀i x,xs[i]? = some x→∀j u,x[j]? = some u→xs.flatten[i*size+j]? = some u:=by
 induction xs with
 |nil=>intro i x h;simp at h
 |cons y ys ih =>
  intro i x hx j u hu
  have hy:y.length=size:=h1 y (by simp)
  cases i with
  |zero =>
   simp only[List.getElem?_cons_zero,Option.some.injEq]at hx
   subst hx
   have hj:j<y.length:=by
    rcases Nat.lt_or_ge j y.length with h | h
    ·exact h
    ·rw[List.getElem?_eq_none h]at hu;simp at hu
   simp only[List.flatten_cons,Nat.zero_mul,Nat.zero_add]
   rw[List.getElem?_append_left hj]
   exact hu
  |succ i =>
   simp only[List.getElem?_cons_succ]at hx
   have:=ih (fun x hx=>h1 x (by simp[hx])) i x hx j u hu
   simp only[List.flatten_cons]
   rw[List.getElem?_append_right (by rw[Nat.add_mul];omega),hy,show (i+1)*size+j-size=i*size+j from by rw[Nat.add_mul];omega]
   exact this
theorem Row.of_own {w:World}{base:Nat}{e:TypeId}{size n c:Nat}{A:Option Addr}{xs:List (List Value)}(h1:∀x∈xs,x.length=size) (hs:0<size)
  (h:w.ownsRow base e size (.slice A n c) n xs.flatten):Row w (fun b=>(Value.slice A n c).ownBlock=some b) size A xs:=by
 refine⟨h1,fun hn=>?_⟩
 rcases h.2 with⟨hv,h0⟩ | ⟨g,cap,cur,hv,_,hh,_⟩
 ·exfalso
  have hl:=h.1
  subst h0
  match xs,hn,h1,hl with
  |x::xs,_,h1,hl =>
   have h2:=h1 x List.mem_cons_self
   simp only[List.flatten_cons,List.length_append,Nat.zero_mul]at hl
   omega
 simp only[Value.slice.injEq]at hv
 obtain⟨rfl,_⟩:=hv
 have hlt:g<w.heap.size:=(Array.getElem?_eq_some_iff.1 hh).1
 refine⟨g,0,rfl,rfl,hlt,fun i x hx j u hu=>?_⟩
 have:=h.cells (g:=g) rfl _ _ (BR h1 i x hx j u hu)
 have hadd:(⟨g,0,none⟩:Addr).add (i*size+j)=⟨g,0+i*size+j,none⟩:=by
  unfold Addr.add
  split
  ·simp
  ·simp
 rw[hadd]at this
 exact this
end
section
open Go.RowKit
def Blk (w:World) (g:Nat) (t:TypeId) (cs:Array Value):Prop:=w.heap[g]? = some (.cells cs t (0,0))
section
variable {w w':World} {g:Nat} {t:TypeId} {cs:Array Value}
theorem Blk.lt (h:Blk w g t cs):g<w.heap.size:=by
 rcases Nat.lt_or_ge g w.heap.size with hlt | hge
 ·exact hlt
 ·unfold Blk at h;rw[Array.getElem?_eq_none hge]at h;cases h
theorem Blk.cell (h:Blk w g t cs) (i:Nat):w.cell? ⟨g,i,none⟩=cs[i]?:=cell_of_row w g i cs t (0,0) h
theorem Blk.frozen (h:Blk w g t cs) (i:Nat):w.frozen? ⟨g,i,none⟩=false:=by
 unfold Blk at h
 simp[World.frozen?,h]
theorem Blk.new (w:World) (t:TypeId) (cs:Array Value):Blk (w.alloc (.cells cs t)) w.heap.size t cs:=heap_alloc_new w _
theorem Blk.alloc (h:Blk w g t cs) (o:Obj):Blk (w.alloc o) g t cs:=(Below.heap_alloc w o g h.lt).trans h
theorem Blk.set_ (h:Blk w g t cs) (i:Nat) (u:Value):Blk (w.setCell ⟨g,i,none⟩ u) g t (cs.setIfInBounds i u):=by
 unfold Blk at h ⊢
 simp[World.setCell,Array.getElem?_modify,h]
theorem Blk.far (h:Blk w g t cs) {p:Addr}(hp:g≠p.block) (u:Value):Blk (w.setCell p u) g t cs:=(Below.heap_setCell w p u g hp).trans h
theorem Blk.below (h:Blk w g t cs) (hb:Below w.heap.size w w'):Blk w' g t cs:=(hb.block g h.lt).trans h
theorem Blk.belowB {B:Nat}(h:Blk w g t cs) (hb:Below B w w') (hg:g<B):Blk w' g t cs:=(hb.block g hg).trans h
theorem Blk.grown {row:Option Nat}(h:Blk w g t cs) (hb:w.grownBy w' row) (hg:some g≠row):Blk w' g t cs:=(hb.block g h.lt hg).trans h
theorem Blk.keep {S:Nat→Prop}(h:Blk w g t cs) (hs:Same S w w') (hg:S g):Blk w' g t cs:=(hs.block g hg h.lt).trans h
theorem Blk.ne_ {g':Nat}{t':TypeId}{cs':Array Value}(h:Blk w g t cs) (h':Blk w g' t' cs') (hne:t≠t'):g≠g':=by
 rintro rfl
 unfold Blk at h h'
 rw[h]at h'
 injection h' with h'
 injection h' with _ ht
 exact hne ht
end
theorem Blk.five {w:World}{g:Nat}{t:TypeId}{a b c d e:Value}(h:Blk w g t #[a,b,c,d,e]) :
  w.cell? ⟨g,0,none⟩=some a∧w.cell? ⟨g,1,none⟩=some b∧w.cell? ⟨g,2,none⟩=some c∧w.cell? ⟨g,3,none⟩=some d∧w.cell? ⟨g,4,none⟩=some e∧(∀i,w.frozen? ⟨g,i,none⟩=false) :=
 ⟨h.cell 0,h.cell 1,h.cell 2,h.cell 3,h.cell 4,h.frozen⟩
theorem DB {w:World}{base:Nat}{e:TypeId}{size:Nat}{v:Value}{n:Nat}{xs:List Value}(h:w.ownsRow base e size v n xs) {a:Addr}(ha:v.ownBlock≠some a.block) (u:Value):(w.setCell a u).ownsRow base e size v n xs:=by
 obtain⟨h1,h2⟩:=h
 refine⟨h1,?_⟩
 rcases h2 with h2 | ⟨g,cap,cur,hv,hg,hh,r⟩
 ·exact Or.inl h2
 ·refine Or.inr ⟨g,cap,cur,hv,hg,?_,r⟩
  rw[Below.heap_setCell _ _ _ _ (fun e=>ha (by rw[hv];simp[Value.ownBlock,e]))]
  exact hh
theorem CD {w w':World}{base:Nat}{e:TypeId}{size:Nat}{v:Value}{n:Nat}{xs:List Value}(h:w.ownsRow base e size v n xs) {S:Nat→Prop}(hs:Same S w w') (hv:∀b,v.ownBlock=some b→S b):w'.ownsRow base e size v n xs:=by
 obtain⟨h1,h2⟩:=h
 refine⟨h1,?_⟩
 rcases h2 with h2 | ⟨g,cap,cur,rfl,hg,hh,r⟩
 ·exact Or.inl h2
 ·exact Or.inr ⟨g,cap,cur,rfl,hg,(hs.block g (hv g rfl) (Array.getElem?_eq_some_iff.1 hh).1).trans hh,r⟩
theorem Fl {w w':World}{base:Nat}{e:TypeId}{size:Nat}{v:Value}{n:Nat}{xs:List Value}(h:w.ownsRow base e size v n xs) (hb:Below w.heap.size w w'):w'.ownsRow base e size v n xs :=
 CD h (Same.below (S:=fun _=>True) hb) fun _ _=>trivial
theorem a0o {w:World}{base base':Nat}{e e':TypeId}{size size' n n':Nat}{v v':Value}{xs xs':List Value}(h:w.ownsRow base e size v n xs) (h':w.ownsRow base' e' size' v' n' xs') (hne:e≠e') {b:Nat}(hv:v.ownBlock=some b):v'.ownBlock≠some b:=by
 intro hv'
 rcases h.2 with⟨rfl,_⟩ | ⟨g,cap,cur,rfl,_,hh,_⟩
 ·simp[Value.ownBlock]at hv
 ·rcases h'.2 with⟨rfl,_⟩ | ⟨g',cap',cur',rfl,_,hh',_⟩
  ·simp[Value.ownBlock]at hv'
  ·simp only[Value.ownBlock,Option.some.injEq]at hv hv'
   subst hv
   subst hv'
   rw[hh]at hh'
   injection hh' with hh'
   injection hh' with _ ht
   exact hne ht
theorem Oh {w:World}{base:Nat}{e:TypeId}{size n:Nat}{v:Value}{xs:List Value}{g:Nat}{t:TypeId}{cs:Array Value}(h:w.ownsRow base e size v n xs) (_:Blk w g t cs) (hb:g<base):v.ownBlock≠some g:=by
 intro hv
 have:=(h.lt g hv).1
 omega
structure Grew (W w':World) (v v':Value):Prop where
 grown:W.grownBy w' v.ownBlock
 new:∀b,b<W.heap.size→v'.ownBlock=some b→v.ownBlock=some b
theorem Grew.blk {W w':World}{v v':Value}{g:Nat}{t:TypeId}{cs:Array Value}(h:Grew W w' v v') (hb:Blk W g t cs) (hv:v.ownBlock≠some g):Blk w' g t cs:=hb.grown h.grown (fun e=>hv e.symm)
theorem SS {W w':World}{o:Obj}{row:Option Nat}(h:(W.alloc o).grownBy w' row):W.grownBy w' row :=
 ⟨h.os,h.tape,h.output,by have:=h.size;simp at this;omega,fun k hk hr=>(h.block k (by simp;omega) hr).trans (Below.heap_alloc W o k hk)⟩
section
variable {P:Program}
theorem C5 {ops:Array Oper}{rest:List Oper}{o:Oper}{a:Act}{Q:Exit→Act→World→Prop}(hgd:o.guard=none) (s x:Operand) (t:TypeId)
  (ho:o.op=.call { callee:=.builtin .append,args:=#[s,x],argTypes:=#[t,t] })
  {e:TypeId} {z:Value} {size bytes:Nat} (ht:P.underlying t=some (.slice e)) (hinfo:(P.info? e).map (fun i=>(i.zero,i.size,i.bytes))=some (some z,size,bytes))
  (hzs:z.cells.size=size) (hsz:0<size) (hby:bytes≤200)
  {W:World} {base:Nat} {v:Value} {n:Nat} {xs:List (List Value)} (hown:W.ownsRow base e size v n xs.flatten) (hs:a.eval s=v) (hbase:base≤W.heap.size)
  (cs:List Value) {gg:Nat} (hx:a.eval x=.slice (some ⟨gg,0,none⟩) 1 1) (hgg:gg=W.heap.size) (hl:cs.length=size) (h1:∀u∈cs,u.oneCell'=true) (hn:n≤1000000)
  (h:∀v' w',w'.ownsRow base e size v' (n+1) (xs++[cs]).flatten→Grew W w' v v'→(∃g cap,v'=.slice (some ⟨g,0,none⟩) (n+1) cap∧n+1≤cap∧base≤g∧g<w'.heap.size)→wpList P ops Q rest (a.put o.dst v') w') :
  wpList P ops Q (o::rest) a (W.alloc (.cells cs.toArray e)):=by
 obtain⟨i,hi,hz0,hz1,hz2⟩:=info_parts hinfo
 subst hgg
 refine wpList_append_own_at _ hgd s x t ho base e i z size bytes ht hi hz0 hz1 hz2 hzs hsz v n xs.flatten hs (hown.alloc _) ⟨W.heap.size,0,none⟩ 1 1 cs hx (by omega) (fun j u hu=>?_) h1
  (by simp only[maxLen];omega) ?_ (by simp;omega) fun v' w' hown' hg _ hat=>?_
 ·have hadd:(⟨W.heap.size,0,none⟩:Addr).add j=⟨W.heap.size,j,none⟩:=by unfold Addr.add;split<;>simp_all
  rw[hadd,(Blk.new W e cs.toArray).cell]
  simpa using hu
 ·calc (n+1)*bytes≤1000001*200:=Nat.mul_le_mul (by omega) hby
   _≤_:=by omega
 ·refine h v' w' (by simpa using hown') ⟨SS hg,fun b hb hv=>?_⟩ ?_
  ·rcases hat with e1 | e1
   ·rw[←e1];exact hv
   ·rw[e1]at hv
    simp at hv
    omega
  ·rcases hown'.2 with⟨_,h0⟩ | ⟨g,cap,cur,rfl,hg,hh,hc,_⟩
   ·omega
   ·exact⟨g,cap,rfl,hc,hg,(Array.getElem?_eq_some_iff.1 hh).1⟩
end
end
section
open Go.RowKit
def BV:Array Value:=#[.int .i64 0,.int .i64 0,.string ⟨#[]⟩,.slice none 0 0,.slice none 0 0]
structure VA (tC tV tS:TypeId) (B:Nat) (w wr:World) (c:CellD) (K:List ByteArray) (Vs:List V) (vk vv:Value):Prop where
 below:Below B w wr
 res:Blk wr B tV BV
 cpy:Blk wr (B+1) tC (vals c).toArray
 out:Blk wr (B+2) tV #[.int .i64 c.kind,.int .i64 c.num,.string c.text,vk,vv]
 ownK:wr.ownsRow (B+3) tS 1 vk K.length (K.map fun k=>[Value.string k]).flatten
 ownV:∃kvs,wr.ownsRow (B+3) tV 5 vv Vs.length (List.flatten kvs)∧(∀x∈kvs,x.length=5)∧Bv wr (fun b=>B+3≤b∧vk.ownBlock≠some b∧vv.ownBlock≠some b) Vs kvs
section
variable {tC tV tS:TypeId} {B:Nat} {w wr w1:World} {c:CellD} {K:List ByteArray} {Vs:List V} {vk vv:Value}
theorem VA.size (h:VA tC tV tS B w wr c K Vs vk vv):B+3≤wr.heap.size:=by have:=h.out.lt;omega
theorem VA.lts (h:VA tC tV tS B w wr c K Vs vk vv):B<wr.heap.size∧B+1<wr.heap.size∧B+2<wr.heap.size:=by have:=h.size;omega
theorem VA.fresh (h:VA tC tV tS B w wr c K Vs vk vv) {n:Nat}:∀b,wr.heap.size≤b→b<n→B+3≤b∧vk.ownBlock≠some b∧vv.ownBlock≠some b:=by
 intro b hb _
 have hs:=h.size
 obtain⟨kvs,h6,_⟩:=h.ownV
 exact⟨by omega,fun e=>by have:=(h.ownK.lt b e).2;omega,fun e=>by have:=(h6.lt b e).2;omega⟩
theorem VA.call (h:VA tC tV tS B w wr c K Vs vk vv) (hb:Below wr.heap.size wr w1):VA tC tV tS B w w1 c K Vs vk vv:=by
 have hs:=h.size
 obtain⟨h1,h2,h3,h4,h5,kvs,h6,h7,h8⟩:=h
 exact⟨h1.trans (hb.mono (by omega)),h2.below hb,h3.below hb,h4.below hb,Fl h5 hb,kvs,Fl h6 hb,h7,h8.below hb⟩
theorem VA.alloc (h:VA tC tV tS B w wr c K Vs vk vv) (o:Obj):VA tC tV tS B w (wr.alloc o) c K Vs vk vv :=
 h.call ((Below.refl _ _).alloc (Nat.le_refl _) o)
theorem VA.key (h:VA tC tV tS B w wr c K Vs vk vv) (hne:tS≠tV) {key:ByteArray}{vk':Value}(hown:w1.ownsRow (B+3) tS 1 vk' (K.length+1) ((K.map fun k=>[Value.string k])++[[Value.string key]]).flatten) (hg:Grew wr w1 vk vk') :
  VA tC tV tS B w (w1.setCell ⟨B+2,3,none⟩ vk') c (K++[key]) Vs vk' vv:=by
 have hs:=h.size
 have hz:=hg.grown.size
 obtain⟨h1,h2,h3,h4,h5,kvs,h6,h7,h8⟩:=h
 have hk3:∀b,vk.ownBlock=some b→B+3≤b:=fun b hb=>(h5.lt b hb).1
 have hk3':∀b,vk'.ownBlock=some b→B+3≤b:=fun b hb=>(hown.lt b hb).1
 have hv3:∀b,vv.ownBlock=some b→B+3≤b:=fun b hb=>(h6.lt b hb).1
 have hnv:∀b,vv.ownBlock=some b→vk.ownBlock≠some b:=fun b hb hb'=>a0o h5 h6 hne hb' hb
 have sm:Same (fun b=>vk.ownBlock≠some b) wr w1:=Same.grown hg.grown fun b hb e=>hb e.symm
 have hbl:∀g:Nat,g<B+3→vk.ownBlock≠some g:=fun g hg e=>by have:=hk3 g e;omega
 refine⟨(h1.grown hg.grown (by omega) fun k hk=>by have:=hk3 k hk;omega).setCell (by show B≤B+2;omega) _,(h2.keep sm (hbl _ (by omega))).far (by simp) _,(h3.keep sm (hbl _ (by omega))).far (by simp) _,?_,?_,kvs,?_,h7,?_⟩
 ·exact (h4.keep sm (hbl _ (by omega))).set_ 3 vk'
 ·refine DB ?_ (fun e=>by have:=hk3' _ e;simp at this) _
  simpa using hown
 ·exact DB (CD h6 sm fun b hb=>hnv b hb) (fun e=>by have:=hv3 _ e;simp at this) _
 ·have g1:=h8.weaken (T:=fun b=>vk.ownBlock≠some b∧B+3≤b∧vk'.ownBlock≠some b∧vv.ownBlock≠some b) fun b hb hl=>⟨hb.2.1,hb.1,fun e=>hb.2.1 (hg.new b hl e),hb.2.2⟩
  exact ((g1.keep (sm.mono fun b hb=>hb.1)).weaken fun b hb _=>hb.2).keep (Same.setCell _ _ _ (by simp))
theorem VA.kid (h:VA tC tV tS B w wr c K Vs vk vv) (hne:tS≠tV) {v:V}{vs:List Value}{vv':Value}(hl5:vs.length=5) (hv:Cv wr (fun b=>B+3≤b∧vk.ownBlock≠some b∧vv.ownBlock≠some b) v vs)
  {kvs:List (List Value)} (h7:∀x∈kvs,x.length=5) (h8:Bv wr (fun b=>B+3≤b∧vk.ownBlock≠some b∧vv.ownBlock≠some b) Vs kvs)
  (hown:w1.ownsRow (B+3) tV 5 vv' (Vs.length+1) (kvs++[vs]).flatten) (hg:Grew wr w1 vv vv') :
  VA tC tV tS B w (w1.setCell ⟨B+2,4,none⟩ vv') c K (Vs++[v]) vk vv':=by
 have hs:=h.size
 have hz:=hg.grown.size
 obtain⟨h1,h2,h3,h4,h5,_,h6,_,_⟩:=h
 have hk3:∀b,vk.ownBlock=some b→B+3≤b:=fun b hb=>(h5.lt b hb).1
 have hv3:∀b,vv.ownBlock=some b→B+3≤b:=fun b hb=>(h6.lt b hb).1
 have hv3':∀b,vv'.ownBlock=some b→B+3≤b:=fun b hb=>(hown.lt b hb).1
 have hnv:∀b,vk.ownBlock=some b→vv.ownBlock≠some b:=fun b hb hb'=>a0o h5 h6 hne hb hb'
 have sm:Same (fun b=>vv.ownBlock≠some b) wr w1:=Same.grown hg.grown fun b hb e=>hb e.symm
 have hbl:∀g:Nat,g<B+3→vv.ownBlock≠some g:=fun g hg e=>by have:=hv3 g e;omega
 refine⟨(h1.grown hg.grown (by omega) fun k hk=>by have:=hv3 k hk;omega).setCell (by show B≤B+2;omega) _,(h2.keep sm (hbl _ (by omega))).far (by simp) _,(h3.keep sm (hbl _ (by omega))).far (by simp) _,?_,?_,kvs++[vs],?_,?_,?_⟩
 ·exact (h4.keep sm (hbl _ (by omega))).set_ 4 vv'
 ·exact DB (CD h5 sm fun b hb=>hnv b hb) (fun e=>by have:=hk3 _ e;simp at this) _
 ·refine DB ?_ (fun e=>by have:=hv3' _ e;simp at this) _
  simpa using hown
 ·intro x hx
  simp only[List.mem_append,List.mem_singleton]at hx
  rcases hx with hx | rfl
  ·exact h7 x hx
  ·exact hl5
 ·have g1:=(Bv.snoc hv h8).weaken (T:=fun b=>vv.ownBlock≠some b∧B+3≤b∧vk.ownBlock≠some b∧vv'.ownBlock≠some b) fun b hb hl=>⟨hb.2.2,hb.1,hb.2.1,fun e=>hb.2.2 (hg.new b hl e)⟩
  exact ((g1.keep (sm.mono fun b hb=>hb.1)).weaken fun b hb _=>hb.2).keep (Same.setCell _ _ _ (by simp))
theorem VA.afterV (h:VA tC tV tS B w wr c K Vs vk vv) {vv':Value}(hg:Grew wr w1 vv vv'):Blk w1 (B+2) tV #[.int .i64 c.kind,.int .i64 c.num,.string c.text,vk,vv]:=by
 obtain⟨kvs,h6,_⟩:=h.ownV
 exact hg.blk h.out (Oh h6 h.out (by omega))
theorem VA.afterK (h:VA tC tV tS B w wr c K Vs vk vv) {vk':Value}(hg:Grew wr w1 vk vk'):Blk w1 (B+2) tV #[.int .i64 c.kind,.int .i64 c.num,.string c.text,vk,vv] :=
 hg.blk h.out (Oh h.ownK h.out (by omega))
theorem VA.notOwnK (h:VA tC tV tS B w wr c K Vs vk vv):vk.ownBlock≠some wr.heap.size:=fun e=>by have:=(h.ownK.lt _ e).2;omega
theorem VA.keepKid (_:VA tC tV tS B w wr c K Vs vk vv) {vk':Value}(hg:Grew wr w1 vk vk') {v:V}{vs:List Value}(hv:Cv wr (fun b=>B+3≤b∧vk.ownBlock≠some b∧vv.ownBlock≠some b) v vs) :
  Cv (w1.setCell ⟨B+2,3,none⟩ vk') (fun b=>B+3≤b∧vk'.ownBlock≠some b∧vv.ownBlock≠some b) v vs:=by
 have sm:Same (fun b=>vk.ownBlock≠some b) wr w1:=Same.grown hg.grown fun b hb e=>hb e.symm
 have g1:=hv.weaken (T:=fun b=>vk.ownBlock≠some b∧B+3≤b∧vk'.ownBlock≠some b∧vv.ownBlock≠some b) fun b hb hl=>⟨hb.2.1,hb.1,fun e=>hb.2.1 (hg.new b hl e),hb.2.2⟩
 exact ((g1.keep (sm.mono fun b hb=>hb.1)).weaken fun b hb _=>hb.2).keep (Same.setCell _ _ _ (by simp))
theorem VA.start (w:World) (c:CellD):VA tC tV tS w.heap.size w (((w.alloc (.cells BV tV)).alloc (.cells (vals c).toArray tC)).alloc (.cells #[.int .i64 c.kind,.int .i64 c.num,.string c.text,.slice none 0 0,.slice none 0 0] tV)) c [] [] (.slice none 0 0) (.slice none 0 0):=by
 have b1:Blk ((w.alloc (.cells BV tV)).alloc (.cells (vals c).toArray tC)) (w.heap.size+1) tC (vals c).toArray:=by
  have:=Blk.new (w.alloc (.cells BV tV)) tC (vals c).toArray
  simpa using this
 have b2:=Blk.new ((w.alloc (.cells BV tV)).alloc (.cells (vals c).toArray tC)) tV #[.int .i64 c.kind,.int .i64 c.num,.string c.text,.slice none 0 0,.slice none 0 0]
 simp at b2
 exact⟨(((Below.refl _ _).alloc (Nat.le_refl _) _).alloc (by simp) _).alloc (by simp;omega) _,((Blk.new _ _ _).alloc _).alloc _,b1.alloc _,b2,World.ownsRow_nil _ _ _ _,[],World.ownsRow_nil _ _ _ _,by simp,rfl⟩
theorem VA.slices (h:VA tC tV tS B w wr c K Vs vk vv):∃(Ak:Option Addr) (ck:Nat) (Av:Option Addr) (cv:Nat) (kvs:List (List Value)),vk=.slice Ak K.length ck∧vv=.slice Av Vs.length cv∧K.length≤ck∧Vs.length≤cv ∧
  Qu wr (fun b=>B+3≤b) Ak K∧Row wr (fun b=>B+3≤b) 5 Av kvs∧Bv wr (fun b=>B+3≤b) Vs kvs:=by
 obtain⟨h1,h2,h3,h4,h5,kvs,h6,h7,h8⟩:=h
 have e1:∃Ak ck,vk=.slice Ak K.length ck∧K.length≤ck:=by
  rcases h5.2 with⟨e,h0⟩ | ⟨g,cap,cur,e,_,_,hc,_⟩
  ·exact⟨none,0,by rw[e,h0],by omega⟩
  ·exact⟨_,_,e,hc⟩
 have e2:∃Ak ck,vv=.slice Ak Vs.length ck∧Vs.length≤ck:=by
  rcases h6.2 with⟨e,h0⟩ | ⟨g,cap,cur,e,_,_,hc,_⟩
  ·exact⟨none,0,by rw[e,h0],by omega⟩
  ·exact⟨_,_,e,hc⟩
 obtain⟨Ak,ck,rfl,hk⟩:=e1
 obtain⟨Av,cv,rfl,hv⟩:=e2
 refine⟨Ak,ck,Av,cv,kvs,rfl,rfl,hk,hv,?_,?_,h8.weaken fun b hb _=>hb.1⟩
 ·exact (Row.of_own (by simp) (by omega) h5).weaken fun b hb _=>(h5.lt b hb).1
 ·exact (Row.of_own h7 (by omega) h6).weaken fun b hb _=>(h6.lt b hb).1
end
end
section
open Go.RowKit
structure RepOk {α:Type} (R:World→(Nat→Prop)→α→List Value→Prop) (size:Nat):Prop where
 len:∀{w S x vs},R w S x vs→vs.length=size
 one:∀{w S x vs},R w S x vs→∀u∈vs,u.oneCell'=true
 keep:∀{w w' S x vs},Same S w w'→R w S x vs→R w' S x vs
 weaken:∀{w S T x vs},(∀b,S b→b<w.heap.size→T b)→R w S x vs→R w T x vs
def Bk {α:Type}(R:World→(Nat→Prop)→α→List Value→Prop) (size:Nat) (w:World) (S:Nat→Prop) (A:Option Addr) (xs:List α):Prop :=
 ∃rows:List (List Value),rows.length=xs.length∧Row w S size A rows∧∀i (h:i<xs.length) row,rows[i]? = some row→R w S xs[i] row
def B3 {α:Type}(R:World→(Nat→Prop)→α→List Value→Prop) (size:Nat) (e:TypeId) (w:World) (E:Nat→Prop) (base:Nat) (v:Value) (xs:List α):Prop :=
 ∃rows:List (List Value),rows.length=xs.length∧(∀x∈rows,x.length=size)∧w.ownsRow base e size v xs.length rows.flatten∧∀i (h:i<xs.length) row,rows[i]? = some row→R w (fun b=>E b∧v.ownBlock≠some b) xs[i] row
section
variable {α:Type} {R:World→(Nat→Prop)→α→List Value→Prop} {size:Nat} {e:TypeId} {w w':World} {S T E:Nat→Prop} {A:Option Addr} {xs:List α} {base:Nat} {v v':Value} {x:α} {cs:List Value}
theorem Bk.nil:Bk R size w S A []:=⟨[],rfl,Row.nil,fun i h=>absurd h (by simp)⟩
theorem Bk.keep (hR:RepOk R size) (h:Bk R size w S A xs) (hs:Same S w w'):Bk R size w' S A xs:=by
 obtain⟨rows,h1,h2,h3⟩:=h
 exact⟨rows,h1,h2.keep hs,fun i hi row hr=>hR.keep hs (h3 i hi row hr)⟩
theorem Bk.below (hR:RepOk R size) (h:Bk R size w S A xs) (hb:Below w.heap.size w w'):Bk R size w' S A xs:=h.keep hR (Same.below hb)
theorem Bk.weaken (hR:RepOk R size) (h:Bk R size w S A xs) (hT:∀b,S b→b<w.heap.size→T b):Bk R size w T A xs:=by
 obtain⟨rows,h1,h2,h3⟩:=h
 exact⟨rows,h1,h2.weaken hT,fun i hi row hr=>hR.weaken hT (h3 i hi row hr)⟩
theorem Bk.cut (h:Bk R size w S A xs) (k cap:Nat) (hc:xs.length≤cap):Bk R size w S (if cap=k then A else A.map (·.add (k*size))) (xs.drop k):=by
 obtain⟨rows,h1,h2,h3⟩:=h
 refine⟨rows.drop k,by simp[h1],h2.cut k cap (by omega),fun i hi row hr=>?_⟩
 rw[List.getElem_drop]
 exact h3 (k+i) (by simp at hi;omega) row (by rw[←List.getElem?_drop];exact hr)
theorem Bk.take (h:Bk R size w S A xs) (k:Nat):Bk R size w S A (xs.take k):=by
 obtain⟨rows,h1,h2,h3⟩:=h
 refine⟨rows.take k,by simp[h1],h2.take k,fun i hi row hr=>?_⟩
 rw[List.getElem_take]
 rw[List.getElem?_take]at hr
 split at hr
 ·exact h3 i (by simp at hi;omega) row hr
 ·simp at hr
theorem Bk.at_ (h:Bk R size w S A xs) {i:Nat}(hi:i<xs.length):∃b off row,A=some ⟨b,off,none⟩∧S b∧b<w.heap.size∧R w S xs[i] row∧∀j u,row[j]? = some u→w.cell? ⟨b,off+i*size+j,none⟩=some u:=by
 obtain⟨rows,h1,h2,h3⟩:=h
 obtain⟨b,off,hA,hb,hl,hc⟩:=h2.2 (by omega)
 have he:rows[i]? = some (rows[i]'(by omega)):=List.getElem?_eq_getElem (by omega)
 exact⟨b,off,_,hA,hb,hl,h3 i hi _ he,hc i _ he⟩
theorem B3.start:B3 R size e w E base (.slice none 0 0) ([]:List α):=⟨[],rfl,by simp,World.ownsRow_nil _ _ _ _,fun i h=>absurd h (by simp)⟩
theorem B3.made (cs:Array Value) (hcs:cs.size=0) (hb:base≤w.heap.size):B3 R size e (w.alloc (.cells cs e)) E base (.slice (some ⟨w.heap.size,0,none⟩) 0 0) ([]:List α) :=
 ⟨[],rfl,by simp,World.ownsRow_made w cs 0 hb (by simp[maxLen]) (by simp[hcs]),fun i h=>absurd h (by simp)⟩
theorem B3.keep (hR:RepOk R size) (h:B3 R size e w E base v xs) (hs:Same S w w') (hv:∀b,v.ownBlock=some b→S b) (hE:∀b,E b→S b):B3 R size e w' E base v xs:=by
 obtain⟨rows,h1,h2,h3,h4⟩:=h
 exact⟨rows,h1,h2,CD h3 hs hv,fun i hi row hr=>hR.keep (hs.mono fun b hb=>hE b hb.1) (h4 i hi row hr)⟩
theorem B3.below (hR:RepOk R size) (h:B3 R size e w E base v xs) (hb:Below w.heap.size w w'):B3 R size e w' E base v xs :=
 h.keep hR (Same.below (S:=fun _=>True) hb) (fun _ _=>trivial) fun _ _=>trivial
theorem B3.alloc (hR:RepOk R size) (h:B3 R size e w E base v xs) (o:Obj):B3 R size e (w.alloc o) E base v xs:=h.below hR ((Below.refl _ _).alloc (Nat.le_refl _) o)
theorem B3.lt (h:B3 R size e w E base v xs):∀b,v.ownBlock=some b→base≤b∧b<w.heap.size:=by
 obtain⟨rows,_,_,h3,_⟩:=h
 exact h3.lt
theorem B3.form (h:B3 R size e w E base v xs):∃A c,v=.slice A xs.length c∧xs.length≤c:=by
 obtain⟨rows,_,_,h3,_⟩:=h
 rcases h3.2 with⟨e1,h0⟩ | ⟨g,cap,cur,e1,_,_,hc,_⟩
 ·exact⟨none,0,by rw[e1,h0],by omega⟩
 ·exact⟨_,_,e1,hc⟩
theorem B3.form' (h:B3 R size e w E base v xs) {k:Nat}(hk:xs.length=k):∃A c,v=.slice A k c∧k≤c:=by
 subst hk
 exact h.form
theorem B3.row' (hR:RepOk R size) (hs:0<size) {c k:Nat}(h:B3 R size e w E base (.slice A k c) xs) (hk:xs.length=k) (hT:∀b,base≤b→b<w.heap.size→T b) (hE:∀b,E b→b<w.heap.size→T b):Bk R size w T A xs:=by
 subst hk
 obtain⟨rows,h1,h2,h3,h4⟩:=h
 exact⟨rows,h1,(Row.of_own h2 hs h3).weaken fun b hb hl=>hT b (h3.lt b hb).1 hl,fun i hi row hr=>hR.weaken (fun b hb hl=>hE b hb.1 hl) (h4 i hi row hr)⟩
theorem B3.row (hR:RepOk R size) (hs:0<size) {c:Nat}(h:B3 R size e w E base (.slice A xs.length c) xs) (hT:∀b,base≤b→b<w.heap.size→T b) (hE:∀b,E b→b<w.heap.size→T b):Bk R size w T A xs:=by
 obtain⟨rows,h1,h2,h3,h4⟩:=h
 exact⟨rows,h1,(Row.of_own h2 hs h3).weaken fun b hb hl=>hT b (h3.lt b hb).1 hl,fun i hi row hr=>hR.weaken (fun b hb hl=>hE b hb.1 hl) (h4 i hi row hr)⟩
theorem B3.snoc (hR:RepOk R size) {rows:List (List Value)}(h1:rows.length=xs.length) (h2:∀x∈rows,x.length=size) (_:w.ownsRow base e size v xs.length rows.flatten)
  (h4:∀i (h:i<xs.length) row,rows[i]? = some row→R w (fun b=>E b∧v.ownBlock≠some b) xs[i] row) (hx:R w (fun b=>E b∧v.ownBlock≠some b) x cs)
  (ho:w'.ownsRow base e size v' (xs.length+1) (rows++[cs]).flatten) (hg:Grew w w' v v'):B3 R size e w' E base v' (xs++[x]):=by
 have sm:Same (fun b=>v.ownBlock≠some b) w w':=Same.grown hg.grown fun b hb e=>hb e.symm
 have up:∀{y:α} {row:List Value},R w (fun b=>E b∧v.ownBlock≠some b) y row→R w' (fun b=>E b∧v'.ownBlock≠some b) y row:=fun hy=>by
  have g1:=hR.weaken (T:=fun b=>v.ownBlock≠some b∧E b∧v'.ownBlock≠some b) (fun b hb hl=>⟨hb.2,hb.1,fun e=>hb.2 (hg.new b hl e)⟩) hy
  exact hR.weaken (fun b hb _=>hb.2) (hR.keep (sm.mono fun b hb=>hb.1) g1)
 refine⟨rows++[cs],by simp[h1],?_,by simpa using ho,fun i hi row hr=>?_⟩
 ·intro y hy
  simp only[List.mem_append,List.mem_singleton]at hy
  rcases hy with hy | rfl
  ·exact h2 y hy
  ·exact hR.len hx
 ·by_cases hlt:i<xs.length
  ·rw[List.getElem_append_left hlt]
   rw[List.getElem?_append_left (by omega)]at hr
   exact up (h4 i hlt row hr)
  ·have hie:i=xs.length:=by simp at hi;omega
   subst hie
   rw[List.getElem_append_right (Nat.le_refl _)]
   rw[List.getElem?_append_right (by omega)]at hr
   simp[h1]at hr
   subst hr
   simpa using up hx
theorem Ht {P:Program}{ops:Array Oper}{rest:List Oper}{o:Oper}{a:Act}{Q:Exit→Act→World→Prop}(hgd:o.guard=none) (s x:Operand) (t:TypeId)
  (ho:o.op=.call { callee:=.builtin .append,args:=#[s,x],argTypes:=#[t,t] })
  {e:TypeId} {z:Value} {size bytes:Nat} (ht:P.underlying t=some (.slice e)) (hinfo:(P.info? e).map (fun i=>(i.zero,i.size,i.bytes))=some (some z,size,bytes))
  (hzs:z.cells.size=size) (hsz:0<size) (hby:bytes≤200) {α:Type} {R:World→(Nat→Prop)→α→List Value→Prop} (hR:RepOk R size) {E:Nat→Prop}
  {W:World} {base:Nat} {v:Value} {xs:List α} (hown:B3 R size e W E base v xs) (hs:a.eval s=v) (hbase:base≤W.heap.size) (y:α)
  (cs:List Value) {gg:Nat} (hx:a.eval x=.slice (some ⟨gg,0,none⟩) 1 1) (hgg:gg=W.heap.size) (hy:R W (fun b=>E b∧v.ownBlock≠some b) y cs) {k:Nat} (hk:xs.length=k) (hn:k≤1000000)
  (h:∀v' w',B3 R size e w' E base v' (xs++[y])→Grew W w' v v'→(∃g cap,v'=.slice (some ⟨g,0,none⟩) (k+1) cap∧k+1≤cap∧base≤g∧g<w'.heap.size)→wpList P ops Q rest (a.put o.dst v') w') :
  wpList P ops Q (o::rest) a (W.alloc (.cells cs.toArray e)):=by
 obtain⟨rows,h1,h2,h3,h4⟩:=hown
 subst hk
 exact C5 hgd s x t ho ht hinfo hzs hsz hby h3 hs hbase cs hx hgg (hR.len hy) (hR.one hy) hn fun v' w' ho hg hex=>h v' w' (B3.snoc hR h1 h2 h3 h4 hy ho hg) hg hex
theorem Grew.below {B:Nat}{w0 W w':World}{v v':Value}(h:Grew W w' v v') (hb:Below B w0 W) (hB:B≤W.heap.size) (hv:∀b,v.ownBlock=some b→B≤b):Below B w0 w':=hb.grown h.grown hB hv
theorem Grew.same {W w':World}{v v':Value}(h:Grew W w' v v'):Same (fun b=>v.ownBlock≠some b) W w':=Same.grown h.grown fun _ hb e=>hb e.symm
theorem Grew.row (hR:RepOk R size) (h:Grew w w' v v') {ys:List α}(hy:Bk R size w (fun b=>v.ownBlock≠some b) A ys):Bk R size w' (fun b=>v'.ownBlock≠some b) A ys:=by
 have g:=Bk.weaken hR (T:=fun b=>v.ownBlock≠some b∧v'.ownBlock≠some b) hy fun b hb hl=>⟨hb,fun e=>hb (h.new b hl e)⟩
 exact Bk.weaken hR (Bk.keep hR g (h.same.mono fun b hb=>hb.1)) fun b hb _=>hb.2
end
theorem Bk.sub {α:Type}{R:World→(Nat→Prop)→α→List Value→Prop}{size:Nat}{w:World}{S:Nat→Prop}{b off:Nat}{xs:List α}(h:Bk R size w S (some ⟨b,off,none⟩) xs) (k m:Nat) :
  Bk R size w S (some ⟨b,off+k*size,none⟩) ((xs.drop k).take m):=by
 obtain⟨rows,h1,h2,h3⟩:=h
 have g:Bk R size w S (some ⟨b,off+k*size,none⟩) (xs.drop k):=by
  refine⟨rows.drop k,by simp[h1],⟨fun x hx=>h2.1 x (List.mem_of_mem_drop hx),fun hn=>?_⟩,fun i hi row hr=>?_⟩
  ·obtain⟨b',off',hA,hb,hl,hc⟩:=h2.2 (by simp at hn;omega)
   simp only[Option.some.injEq,Addr.mk.injEq,and_true]at hA
   obtain⟨rfl,rfl⟩:=hA
   refine⟨_,_,rfl,hb,hl,fun i x hx j u hu=>?_⟩
   have:=hc (k+i) x (by rw[←List.getElem?_drop];exact hx) j u hu
   rw[show off+k*size+i*size+j=off+(k+i)*size+j from by rw[Nat.add_mul];omega]
   exact this
  ·rw[List.getElem_drop]
   exact h3 (k+i) (by simp at hi;omega) row (by rw[←List.getElem?_drop];exact hr)
 exact g.take m
theorem B3.formPos {α:Type}{R:World→(Nat→Prop)→α→List Value→Prop}{size:Nat}{e:TypeId}{w:World}{E:Nat→Prop}{base:Nat}{v:Value}{xs:List α}(h:B3 R size e w E base v xs) (hn:0<xs.length) :
  ∃g c,v=.slice (some ⟨g,0,none⟩) xs.length c∧xs.length≤c∧base≤g∧g<w.heap.size:=by
 obtain⟨rows,_,_,h3,_⟩:=h
 rcases h3.2 with⟨_,h0⟩ | ⟨g,cap,cur,e1,hb,hh,hc,_⟩
 ·omega
 ·exact⟨g,cap,e1,hc,hb,(Array.getElem?_eq_some_iff.1 hh).1⟩
theorem B3.setCell {α:Type}{R:World→(Nat→Prop)→α→List Value→Prop}{size:Nat}{e:TypeId}{w:World}{E:Nat→Prop}{base:Nat}{v:Value}{xs:List α}(hR:RepOk R size) (h:B3 R size e w E base v xs) {p:Addr}(hv:v.ownBlock≠some p.block) (hE:(¬E p.block)∨(∀w w' S T x vs,R w S x vs→R w' T x vs)) (u:Value) :
  B3 R size e (w.setCell p u) E base v xs:=by
 obtain⟨rows,h1,h2,h3,h4⟩:=h
 refine⟨rows,h1,h2,DB h3 hv u,fun i hi row hr=>?_⟩
 rcases hE with hE | hE
 ·exact hR.keep (Same.setCell _ _ _ fun hh=>hE hh.1) (h4 i hi row hr)
 ·exact hE _ _ _ _ _ _ (h4 i hi row hr)
def RI (_:World) (_:Nat→Prop) (n:Int) (vs:List Value):Prop:=vs=[.int .i64 n]
def RC (_:World) (_:Nat→Prop) (c:CellD) (vs:List Value):Prop:=vs=vals c
def RSl (w:World) (S:Nat→Prop) (xs:List CellD) (vs:List Value):Prop:=∃A c,vs=[.slice A xs.length c]∧xs.length≤c∧Be w S A xs
theorem okI:RepOk RI 1:=⟨fun h=>by rw[h];rfl,fun h u hu=>by rw[h]at hu;simp at hu;subst hu;rfl,fun _ h=>h,fun _ h=>h⟩
theorem okC:RepOk RC 5:=⟨fun h=>by rw[h];rfl,fun h u hu=>by rw[h]at hu;simp[vals]at hu;rcases hu with rfl | rfl | rfl | rfl | rfl<;>rfl,fun _ h=>h,fun _ h=>h⟩
theorem a2q:RepOk RSl 1:=by
 refine⟨fun h=>?_,fun h u hu=>?_,fun hs h=>?_,fun hs h=>?_⟩
 ·obtain⟨A,c,rfl,_⟩:=h;rfl
 ·obtain⟨A,c,rfl,_⟩:=h;simp at hu;subst hu;rfl
 ·obtain⟨A,c,rfl,h1,h2⟩:=h;exact⟨A,c,rfl,h1,h2.keep hs⟩
 ·obtain⟨A,c,rfl,h1,h2⟩:=h;exact⟨A,c,rfl,h1,h2.weaken hs⟩
def Uk (w:World) (S:Nat→Prop) (A:Option Addr) (xss:List (List CellD)):Prop:=Bk RSl 1 w S A xss
theorem Uk.at_ {w:World}{S:Nat→Prop}{A:Option Addr}{xss:List (List CellD)}(h:Uk w S A xss) {i:Nat}(hi:i<xss.length) :
  ∃b off Ai ci,A=some ⟨b,off,none⟩∧S b∧b<w.heap.size∧w.cell? ⟨b,off+i,none⟩=some (.slice Ai xss[i].length ci)∧xss[i].length≤ci∧Be w S Ai xss[i]:=by
 obtain⟨b,off,row,hA,hb,hl,⟨Ai,ci,rfl,h1,h2⟩,hc⟩:=Bk.at_ h hi
 exact⟨b,off,Ai,ci,hA,hb,hl,by simpa using hc 0 _ rfl,h1,h2⟩
theorem Bk.int_at {w:World}{S:Nat→Prop}{A:Option Addr}{ns:List Int}(h:Bk RI 1 w S A ns) {i:Nat}(hi:i<ns.length) :
  ∃b off,A=some ⟨b,off,none⟩∧S b∧b<w.heap.size∧w.cell? ⟨b,off+i,none⟩=some (.int .i64 ns[i]):=by
 obtain⟨b,off,row,hA,hb,hl,h1,hc⟩:=Bk.at_ h hi
 rw[h1]at hc
 exact⟨b,off,hA,hb,hl,by simpa using hc 0 _ rfl⟩
theorem RM {w:World}{S:Nat→Prop}{A:Option Addr}{xs:List CellD}(h:Be w S A xs):Bk RC 5 w S A xs :=
 ⟨xs.map vals,by simp,h,fun i hi row hr=>by simp[hi]at hr;exact hr.symm⟩
theorem QA {w:World}{S:Nat→Prop}{A:Option Addr}{xs:List CellD}(h:Bk RC 5 w S A xs):Be w S A xs:=by
 obtain⟨rows,h1,h2,h3⟩:=h
 have:rows=xs.map vals:=by
  apply List.ext_getElem?
  intro i
  by_cases hi:i<xs.length
  ·have he:rows[i]? = some (rows[i]'(by omega)):=List.getElem?_eq_getElem (by omega)
   have:=h3 i hi _ he
   rw[he,this]
   simp[hi]
  ·rw[List.getElem?_eq_none (by omega),List.getElem?_eq_none (by simp;omega)]
 subst this
 exact h2
end
section
open Go.RowKit
section
variable {P:Program}
theorem GL (w:World) (base:Nat) (t ty e:TypeId) (i:TypeInfo) (size:Nat) (ht:P.underlying t=some (.slice e)) (hi:P.info? e=some i)
  (v:Value) (n:Nat) (xs:List Value) (hown:w.ownsRow base e size v n xs) (c:Nat):(Builtin.append_ #[t,t] ty #[v,.slice none 0 c]).run P w=.ok v w:=by
 rcases hown.2 with⟨rfl,rfl⟩ | ⟨g,cap,cur,rfl,_,_,hnc,_⟩
 ·simp[Builtin.append_,run_underlying ht,sizeOf,typeInfo,hi,Builtin.lenOf,Builtin.firstCells]
 ·simp[Builtin.append_,run_underlying ht,sizeOf,typeInfo,hi,Builtin.lenOf,Builtin.firstCells,hnc,storeCells]
variable {α:Type} {R:World→(Nat→Prop)→α→List Value→Prop} {size:Nat} {e:TypeId} {w w':World} {S T E:Nat→Prop} {A:Option Addr} {xs ys:List α} {base:Nat} {v v':Value}
theorem BS {xs:List (List Value)}(h:∀x∈xs,x.length=size):xs.flatten.length=xs.length*size:=by
 induction xs with
 |nil=>simp
 |cons x xs ih =>
  simp only[List.flatten_cons,List.length_append,List.length_cons]
  rw[ih (fun y hy=>h y (by simp[hy])),h x (by simp),Nat.add_mul]
  omega
theorem NH {xs:List (List Value)}(h:∀x∈xs,x.length=size) (hs:0<size) (j:Nat) (u:Value) (hu:xs.flatten[j]? = some u):∃x,xs[j / size]? = some x∧x[j % size]? = some u:=by
 have hj:j<xs.length*size:=by
  rw[←BS h]
  rcases Nat.lt_or_ge j xs.flatten.length with hlt | hge
  ·exact hlt
  ·rw[List.getElem?_eq_none hge]at hu;simp at hu
 have hd:j / size<xs.length:=Nat.div_lt_of_lt_mul (by rw[Nat.mul_comm];exact hj)
 refine⟨xs[j / size],List.getElem?_eq_getElem hd,?_⟩
 have hm:j % size<xs[j / size].length:=by rw[h _ (List.getElem_mem hd)];exact Nat.mod_lt _ hs
 have:=BR h (j / size) xs[j / size] (List.getElem?_eq_getElem hd) (j % size) xs[j / size][j % size] (List.getElem?_eq_getElem hm)
 rw[show j / size*size+j % size=j from Nat.div_add_mod' j size]at this
 rw[this]at hu
 rw[List.getElem?_eq_getElem hm,hu]
theorem B3.many (hR:RepOk R size) {rows news:List (List Value)}(h1:rows.length=xs.length) (h2:∀x∈rows,x.length=size)
  (h4:∀i (h:i<xs.length) row,rows[i]? = some row→R w (fun b=>E b∧v.ownBlock≠some b) xs[i] row)
  (g1:news.length=ys.length) (g4:∀i (h:i<ys.length) row,news[i]? = some row→R w (fun b=>E b∧v.ownBlock≠some b) ys[i] row)
  (ho:w'.ownsRow base e size v' (xs.length+ys.length) (rows.flatten++news.flatten)) (hg:Grew w w' v v'):B3 R size e w' E base v' (xs++ys):=by
 have sm:Same (fun b=>v.ownBlock≠some b) w w':=Same.grown hg.grown fun b hb e=>hb e.symm
 have up:∀{y:α} {row:List Value},R w (fun b=>E b∧v.ownBlock≠some b) y row→R w' (fun b=>E b∧v'.ownBlock≠some b) y row:=fun hy=>by
  have g1:=hR.weaken (T:=fun b=>v.ownBlock≠some b∧E b∧v'.ownBlock≠some b) (fun b hb hl=>⟨hb.2,hb.1,fun e=>hb.2 (hg.new b hl e)⟩) hy
  exact hR.weaken (fun b hb _=>hb.2) (hR.keep (sm.mono fun b hb=>hb.1) g1)
 refine⟨rows++news,by simp[h1,g1],?_,by simpa using ho,fun i hi row hr=>?_⟩
 ·intro y hy
  simp only[List.mem_append]at hy
  rcases hy with hy | hy
  ·exact h2 y hy
  ·obtain⟨i,hi,rfl⟩:=List.getElem_of_mem hy
   exact hR.len (g4 i (by omega) _ (List.getElem?_eq_getElem hi))
 ·by_cases hlt:i<xs.length
  ·rw[List.getElem_append_left hlt]
   rw[List.getElem?_append_left (by omega)]at hr
   exact up (h4 i hlt row hr)
  ·simp only[List.length_append]at hi
   rw[List.getElem_append_right (by omega)]
   rw[List.getElem?_append_right (by omega),h1]at hr
   exact up (g4 _ (by omega) row hr)
theorem Ky {ops:Array Oper}{rest:List Oper}{o:Oper}{a:Act}{Q:Exit→Act→World→Prop}(hgd:o.guard=none) (s x:Operand) (t:TypeId)
  (ho:o.op=.call { callee:=.builtin .append,args:=#[s,x],argTypes:=#[t,t] })
  {e:TypeId} {z:Value} {size bytes:Nat} (ht:P.underlying t=some (.slice e)) (hinfo:(P.info? e).map (fun i=>(i.zero,i.size,i.bytes))=some (some z,size,bytes))
  (hzs:z.cells.size=size) (hsz:0<size) (hby:bytes≤200) {α:Type} {R:World→(Nat→Prop)→α→List Value→Prop} (hR:RepOk R size) {E S:Nat→Prop}
  {W:World} {base:Nat} {v:Value} {xs:List α} (hown:B3 R size e W E base v xs) (hs:a.eval s=v) (hbase:base≤W.heap.size)
  {A:Option Addr} {m c:Nat} {ys:List α} (hx:a.eval x=.slice A m c) (hm:m=ys.length) (hy:Bk R size W S A ys) (hA:A=none→ys=[]) (hsp:∀ad,A=some ad→ad.spot=none)
  (hS:(∀b,S b→b<W.heap.size→E b∧v.ownBlock≠some b)∨(∀w S T x vs,R w S x vs→R w T x vs)) (hn:xs.length+ys.length≤1000000)
  (h:∀v' w',B3 R size e w' E base v' (xs++ys)→Grew W w' v v'→wpList P ops Q rest (a.put o.dst v') w') :
  wpList P ops Q (o::rest) a W:=by
 obtain⟨rows,h1,h2,h3,h4⟩:=hown
 obtain⟨i,hi,hz0,hz1,hz2⟩:=info_parts hinfo
 obtain⟨news,g1,g2,g3⟩:=hy
 subst hm
 have g4:∀i (h:i<ys.length) row,news[i]? = some row→R W (fun b=>E b∧v.ownBlock≠some b) ys[i] row:=fun i hi row hr=>hS.elim (fun hS=>hR.weaken hS (g3 i hi row hr)) fun hS=>hS _ _ _ _ _ (g3 i hi row hr)
 rcases A with _ | ad
 ·have hy0:ys=[]:=hA rfl
  subst hy0
  have hn0:news=[]:=List.eq_nil_of_length_eq_zero (by simpa using g1)
  subst hn0
  refine wpList_plain hgd fun K hK=>?_
  have hr:=GL (P:=P) W base t o.type e i size ht hi v xs.length rows.flatten h3 c
  unfold Oper.wp execOp
  simp only[ho,resolve,invoke,builtin,Sem.run_bind,Sem.run_pure,Result.andThen_ok,List.map_toArray,List.map_cons,List.map_nil,hs,hx,List.length_nil,hr]
  exact hK _ _ (h v W (B3.many hR h1 h2 h4 g1 g4 (by simpa using h3) ⟨World.grownBy.refl W _,fun _ _ hv=>hv⟩) ⟨World.grownBy.refl W _,fun _ _ hv=>hv⟩)
 ·have hfl:news.flatten.length=ys.length*size:=by rw[BS g2.1,g1]
  have hcell:∀j u,news.flatten[j]? = some u→W.cell? (ad.add j)=some u:=by
   intro j u hu
   obtain⟨row,hr1,hr2⟩:=NH g2.1 hsz j u hu
   have hpos:0<news.length:=by
    rcases Nat.eq_zero_or_pos news.length with h0 | h0
    ·rw[List.eq_nil_of_length_eq_zero h0]at hr1;simp at hr1
    ·exact h0
   obtain⟨b,off,hA2,_,_,hc⟩:=g2.2 hpos
   simp only[Option.some.injEq]at hA2
   subst hA2
   have:=hc _ _ hr1 _ _ hr2
   have hadd:(⟨b,off,none⟩:Addr).add j=⟨b,off+j / size*size+j % size,none⟩:=by
    rw[Nat.add_assoc,Nat.div_add_mod']
    unfold Addr.add
    split
    ·simp[*]
    ·rfl
   rw[hadd]
   exact this
  refine wpList_append_own_at _ hgd s x t ho base e i z size bytes ht hi hz0 hz1 hz2 hzs hsz v xs.length rows.flatten hs h3 ad ys.length c news.flatten hx hfl hcell ?_ (by simp only[maxLen];omega) ?_ hbase fun v' w' ho' hg _ hat=>?_
  ·intro u hu
   simp only[List.mem_flatten]at hu
   obtain⟨row,hrow,hu⟩:=hu
   obtain⟨k,hk,rfl⟩:=List.getElem_of_mem hrow
   exact hR.one (g3 k (by omega) _ (List.getElem?_eq_getElem hk)) u hu
  ·calc (xs.length+ys.length)*bytes≤1000000*200:=Nat.mul_le_mul hn hby
    _≤_:=by omega
  ·have hgr:Grew W w' v v':=⟨hg,fun b hb hv=>by
    rcases hat with e1 | e1
    ·rw[←e1];exact hv
    ·rw[e1]at hv;simp at hv;omega⟩
   exact h v' w' (B3.many hR h1 h2 h4 g1 g4 ho' hgr) hgr
theorem B3.lit1 (hR:RepOk R size) {x:α}{cs:List Value}(hb:base≤w.heap.size) (hx:R w S x cs) (hE:∀b,S b→b<w.heap.size→E b) :
  B3 R size e (w.alloc (.cells cs.toArray e)) E base (.slice (some ⟨w.heap.size,0,none⟩) 1 1) [x]:=by
 refine⟨[cs],rfl,by simpa using hR.len hx,?_,fun i hi row hr=>?_⟩
 ·have:=World.ownsRow_lit (e:=e) (size:=size) w cs.toArray 1 hb (by simp[maxLen]) (by simpa using hR.len hx)
  simpa using this
 ·have hi0:i=0:=by simpa using hi
  subst hi0
  simp at hr
  subst hr
  refine hR.weaken (S:=fun b=>S b∧b<w.heap.size) (fun b hb _=>⟨hE b hb.1 hb.2,by simp[Value.ownBlock];omega⟩) (hR.keep (Same.alloc _ _ _) (hR.weaken (fun b hb hl=>⟨hb,hl⟩) hx))
end
end
section
open Go.RowKit
theorem AN {size:Nat}:∀{rows:List (List Value)},(∀x∈rows,x.length=size)→∀(k:Nat) (row:List Value) (j:Nat) (u:Value),rows[k]? = some row→j<size →
  (rows.set k (row.set j u)).flatten=rows.flatten.set (k*size+j) u
 | [],_,k,row,j,u,h,_=>by simp at h
 |r::rs,hl,0,row,j,u,h,hj=>by
  simp only[List.getElem?_cons_zero,Option.some.injEq]at h
  subst h
  have:=hl r (by simp)
  simp only[List.set_cons_zero,List.flatten_cons,Nat.zero_mul,Nat.zero_add]
  rw[List.set_append_left _ _ (by omega)]
 |r::rs,hl,k+1,row,j,u,h,hj=>by
  simp only[List.getElem?_cons_succ]at h
  have h1:=hl r (by simp)
  have ih:=AN (fun x hx=>hl x (by simp[hx])) k row j u h hj
  simp only[List.set_cons_succ,List.flatten_cons]
  rw[ih,List.set_append_right _ _ (by rw[Nat.add_mul];omega)]
  congr 1
  rw[h1]
  congr 1
  rw[Nat.add_mul]
  omega
theorem Bt {size:Nat}{rows:List (List Value)}(h:∀x∈rows,x.length=size) {k:Nat}{row:List Value}(hr:row.length=size):∀x∈rows.set k row,x.length=size:=by
 intro x hx
 rcases List.mem_or_eq_of_mem_set hx with hx | rfl
 ·exact h x hx
 ·exact hr
theorem VO {w:World}{base:Nat}{e:TypeId}{g n cap:Nat}{rows:List (List Value)}(hl:∀x∈rows,x.length=5) (hn:rows.length=n) (h:w.ownsRow base e 5 (.slice (some ⟨g,0,none⟩) n cap) n rows.flatten)
  {k:Nat} (hk:k<n) (a b c d f:Value) :
  (∃v0 v1 v2 v3 v4,w.cell? ⟨g,k*5,none⟩=some v0∧w.cell? ⟨g,k*5+1,none⟩=some v1∧w.cell? ⟨g,k*5+2,none⟩=some v2∧w.cell? ⟨g,k*5+3,none⟩=some v3∧w.cell? ⟨g,k*5+4,none⟩=some v4)∧(∀i,w.frozen? ⟨g,i,none⟩=false) ∧
  (((((w.setCell ⟨g,k*5,none⟩ a).setCell ⟨g,k*5+1,none⟩ b).setCell ⟨g,k*5+2,none⟩ c).setCell ⟨g,k*5+3,none⟩ d).setCell ⟨g,k*5+4,none⟩ f).ownsRow base e 5 (.slice (some ⟨g,0,none⟩) n cap) n (rows.set k [a,b,c,d,f]).flatten:=by
 have hkr:k<rows.length:=by omega
 obtain⟨row,hrow⟩:∃row,rows[k]? = some row:=⟨_,List.getElem?_eq_getElem hkr⟩
 have hrl:row.length=5:=hl row (List.mem_of_getElem? hrow)
 match row,hrl with
 | [r0,r1,r2,r3,r4],_ =>
  have hc:∀j u,([r0,r1,r2,r3,r4]:List Value)[j]? = some u→w.cell? ⟨g,k*5+j,none⟩=some u:=by
   intro j u hu
   have hj:j<5:=by
    rcases Nat.lt_or_ge j 5 with h | h
    ·exact h
    ·rw[List.getElem?_eq_none (by simpa using h)]at hu;simp at hu
   rw[h.cellAt (k*5+j) (by omega)]
   exact BR hl k _ hrow j u hu
  refine⟨⟨r0,r1,r2,r3,r4,hc 0 _ rfl,hc 1 _ rfl,hc 2 _ rfl,hc 3 _ rfl,hc 4 _ rfl⟩,fun i=>h.frozenAt i,?_⟩
  have s0:=(h.stored (k*5) a).1
  have e0:=AN hl k [r0,r1,r2,r3,r4] 0 a hrow (by omega)
  simp only[Nat.add_zero]at e0
  rw[←e0]at s0
  have l0:=Bt hl (k:=k) (row:=[a,r1,r2,r3,r4]) rfl
  have g0:(rows.set k [a,r1,r2,r3,r4])[k]? = some [a,r1,r2,r3,r4]:=by rw[List.getElem?_set_self hkr]
  have s1:=(s0.stored (k*5+1) b).1
  have e1:=AN l0 k [a,r1,r2,r3,r4] 1 b g0 (by omega)
  have s1':(((w.setCell ⟨g,k*5,none⟩ a).setCell ⟨g,k*5+1,none⟩ b)).ownsRow base e 5 (.slice (some ⟨g,0,none⟩) n cap) n ((rows.set k [a,r1,r2,r3,r4]).set k [a,b,r2,r3,r4]).flatten:=by rw[show [a,b,r2,r3,r4]=[a,r1,r2,r3,r4].set 1 b from rfl,e1];exact s1
  rw[List.set_set]at s1'
  have l1:=Bt hl (k:=k) (row:=[a,b,r2,r3,r4]) rfl
  have g1:(rows.set k [a,b,r2,r3,r4])[k]? = some [a,b,r2,r3,r4]:=by rw[List.getElem?_set_self hkr]
  have s2:=(s1'.stored (k*5+2) c).1
  have e2:=AN l1 k [a,b,r2,r3,r4] 2 c g1 (by omega)
  rw[←e2,List.set_set]at s2
  have l2:=Bt hl (k:=k) (row:=[a,b,c,r3,r4]) rfl
  have g2:(rows.set k [a,b,c,r3,r4])[k]? = some [a,b,c,r3,r4]:=by rw[List.getElem?_set_self hkr]
  have s3:=(World.ownsRow.stored (xs:=(rows.set k [a,b,c,r3,r4]).flatten) s2 (k*5+3) d).1
  have e3:=AN l2 k [a,b,c,r3,r4] 3 d g2 (by omega)
  rw[←e3,List.set_set]at s3
  have l3:=Bt hl (k:=k) (row:=[a,b,c,d,r4]) rfl
  have g3:(rows.set k [a,b,c,d,r4])[k]? = some [a,b,c,d,r4]:=by rw[List.getElem?_set_self hkr]
  have s4:=(World.ownsRow.stored (xs:=(rows.set k [a,b,c,d,r4]).flatten) s3 (k*5+4) f).1
  have e4:=AN l3 k [a,b,c,d,r4] 4 f g3 (by omega)
  rw[←e4,List.set_set]at s4
  exact s4
theorem FN (z:List Value) (hz:0<z.length) (n:Nat):(madeCells z.toArray (n*z.length)).toList=(List.replicate n z).flatten:=by
 apply List.ext_getElem?
 intro j
 have hfl:(List.replicate n z).flatten.length=n*z.length:=by simp
 by_cases hj:j<n*z.length
 ·have h1:(madeCells z.toArray (n*z.length)).toList[j]? = z[j % z.length]?:=by
   simp[madeCells,hj]
   rw[List.getElem?_eq_getElem (Nat.mod_lt _ hz)]
   rfl
  rw[h1]
  have hd:j / z.length<n:=Nat.div_lt_of_lt_mul (by rw[Nat.mul_comm];exact hj)
  have:=BR (xs:=List.replicate n z) (size:=z.length) (by simp) (j / z.length) z (by rw[List.getElem?_replicate];simp[hd]) (j % z.length) (z[j % z.length]'(Nat.mod_lt _ hz)) (List.getElem?_eq_getElem _)
  rw[Nat.div_add_mod']at this
  rw[this,List.getElem?_eq_getElem]
 ·rw[List.getElem?_eq_none (by simp[size_madeCells];omega),List.getElem?_eq_none (by omega)]
structure EditD where
 op:Int
 path:List CellD
 x:List CellD
def EG (xs:List CellD):Prop:=∀c∈xs,c.text.size≤9223372036854775807∧c.key.size≤9223372036854775807
def RE (w:World) (S:Nat→Prop) (d:EditD) (vs:List Value):Prop :=
 ∃Ap cp Ax cx,vs=[.int .i64 d.op,.slice Ap d.path.length cp,.slice Ax d.x.length cx]∧d.path.length≤cp∧d.x.length≤cx∧Be w S Ap d.path∧Be w S Ax d.x
theorem okE:RepOk RE 3:=by
 refine⟨fun h=>?_,fun h u hu=>?_,fun hs h=>?_,fun hs h=>?_⟩
 ·obtain⟨_,_,_,_,rfl,_⟩:=h;rfl
 ·obtain⟨_,_,_,_,rfl,_⟩:=h;simp at hu;rcases hu with rfl | rfl | rfl<;>rfl
 ·obtain⟨Ap,cp,Ax,cx,rfl,h1,h2,h3,h4⟩:=h;exact⟨Ap,cp,Ax,cx,rfl,h1,h2,h3.keep hs,h4.keep hs⟩
 ·obtain⟨Ap,cp,Ax,cx,rfl,h1,h2,h3,h4⟩:=h;exact⟨Ap,cp,Ax,cx,rfl,h1,h2,h3.weaken hs,h4.weaken hs⟩
def Pi (w:World) (S:Nat→Prop) (A:Option Addr) (l:List EditD):Prop:=Bk RE 3 w S A l
theorem Pi.at_ {w:World}{S:Nat→Prop}{A:Option Addr}{l:List EditD}(h:Pi w S A l) {i:Nat}(hi:i<l.length) :
  ∃b off Ap cp Ax cx,A=some ⟨b,off,none⟩∧b<w.heap.size∧w.cell? ⟨b,off+i*3,none⟩=some (.int .i64 l[i].op)∧w.cell? ⟨b,off+i*3+1,none⟩=some (.slice Ap l[i].path.length cp) ∧
   w.cell? ⟨b,off+i*3+2,none⟩=some (.slice Ax l[i].x.length cx)∧l[i].path.length≤cp∧l[i].x.length≤cx∧Be w S Ap l[i].path∧Be w S Ax l[i].x:=by
 obtain⟨b,off,row,hA,hb,hl,⟨Ap,cp,Ax,cx,rfl,h1,h2,h3,h4⟩,hc⟩:=Bk.at_ h hi
 exact⟨b,off,Ap,cp,Ax,cx,hA,hl,hc 0 _ rfl,hc 1 _ rfl,hc 2 _ rfl,h1,h2,h3,h4⟩
theorem Pi.below {w w':World}{S:Nat→Prop}{A:Option Addr}{l:List EditD}(h:Pi w S A l) (hb:Below w.heap.size w w'):Pi w' S A l:=Bk.below okE h hb
def Zx (d:EditD):Prop:=EG d.path∧EG d.x∧d.path.length≤9223372036854775807∧d.x.length≤9223372036854775807
end
section
open Go.RowKit
def CB {α:Type}(R:World→(Nat→Prop)→α→List Value→Prop) (size:Nat) (e:TypeId) (w:World) (E:Nat→Prop) (base g n:Nat) (xs:List α) (k:Nat):Prop :=
 ∃rows:List (List Value),rows.length=n∧(∀x∈rows,x.length=size)∧w.ownsRow base e size (.slice (some ⟨g,0,none⟩) n n) n rows.flatten∧∀i (h:i<xs.length) row,i<k→rows[i]? = some row→R w (fun b=>E b∧b≠g) xs[i] row
section
variable {α:Type} {R:World→(Nat→Prop)→α→List Value→Prop} {size:Nat} {e:TypeId} {w w':World} {E:Nat→Prop} {base g n k:Nat} {xs:List α}
theorem CB.start (z:List Value) (hz:0<z.length) (h:w.ownsRow base e z.length (.slice (some ⟨g,0,none⟩) n n) n (madeCells z.toArray (n*z.length)).toList):CB R z.length e w E base g n xs 0 :=
 ⟨List.replicate n z,by simp,by simp,by rw[←FN z hz n];exact h,fun i _ _ h=>absurd h (by omega)⟩
theorem CB.below (hR:RepOk R size) (h:CB R size e w E base g n xs k) (hb:Below w.heap.size w w'):CB R size e w' E base g n xs k:=by
 obtain⟨rows,h1,h2,h3,h4⟩:=h
 exact⟨rows,h1,h2,Fl h3 hb,fun i hi row hk hr=>hR.keep (Same.below hb) (h4 i hi row hk hr)⟩
theorem CB.lt (h:CB R size e w E base g n xs k):base≤g∧g<w.heap.size:=by
 obtain⟨rows,_,_,h3,_⟩:=h
 exact h3.lt g rfl
theorem CB.done (h:CB R size e w E base g n xs n) (hn:xs.length=n):B3 R size e w E base (.slice (some ⟨g,0,none⟩) n n) xs:=by
 subst hn
 obtain⟨rows,h1,h2,h3,h4⟩:=h
 exact⟨rows,h1,h2,h3,fun i hi row hr=>by
  have:(fun b=>E b∧(Value.slice (some ⟨g,0,none⟩) xs.length xs.length).ownBlock≠some b)=fun b=>E b∧b≠g:=by
   funext b
   simp only[Value.ownBlock,ne_eq,Option.some.injEq,eq_iff_iff]
   exact⟨fun h=>⟨h.1,fun e=>h.2 e.symm⟩,fun h=>⟨h.1,fun e=>h.2 e.symm⟩⟩
  rw[this]
  exact h4 i hi row hi hr⟩
theorem CB.store1 (hR:RepOk R 1) (h:CB R 1 e w E base g n xs k) (hk:k<n) (hkx:k<xs.length) (a0:Value) (hx:R w (fun b=>E b∧b≠g) xs[k] [a0]) :
  (∃v0,w.cell? ⟨g,k,none⟩=some v0)∧(∀i,w.frozen? ⟨g,i,none⟩=false) ∧
  CB R 1 e (w.setCell ⟨g,k,none⟩ a0) E base g n xs (k+1):=by
 obtain⟨rows,h1,h2,h3,h4⟩:=h
 have hkr:k<rows.length:=by omega
 obtain⟨row,hrow⟩:∃row,rows[k]? = some row:=⟨_,List.getElem?_eq_getElem hkr⟩
 have hrl:row.length=1:=h2 row (List.mem_of_getElem? hrow)
 match row,hrl with
 | [r0],_ =>
  have hc:∀j u,([r0]:List Value)[j]? = some u→w.cell? ⟨g,k*1+j,none⟩=some u:=by
   intro j u hu
   have hj:j<1:=by
    rcases Nat.lt_or_ge j 1 with h | h
    ·exact h
    ·rw[List.getElem?_eq_none (by simpa using h)]at hu;simp at hu
   rw[h3.cellAt (k*1+j) (by omega)]
   exact BR h2 k _ hrow j u hu
  have s0:=h3
  have l0:∀x∈rows,x.length=1:=h2
  have g0:rows[k]? = some [r0]:=hrow
  have s1:=(World.ownsRow.stored (xs:=rows.flatten) s0 (k*1+0) a0).1
  have e0:=AN l0 k [r0] 0 a0 g0 (by omega)
  rw[←e0]at s1
  refine⟨⟨r0,by simpa using hc 0 _ rfl⟩,fun i=>h3.frozenAt i,rows.set k [a0],by simp[h1],Bt h2 rfl,by simpa using s1,fun i hi row hik hr=>?_⟩
  have sm:Same (fun b=>E b∧b≠g) w (w.setCell ⟨g,k,none⟩ a0) :=
   Same.setCell _ _ _ (by simp)
  refine hR.keep sm ?_
  by_cases he:i=k
  ·subst he
   rw[List.getElem?_set_self hkr]at hr
   simp only[Option.some.injEq]at hr
   subst hr
   exact hx
  ·rw[List.getElem?_set_ne (fun e=>he e.symm)]at hr
   exact h4 i hi row (by omega) hr
theorem CB.store3 (hR:RepOk R 3) (h:CB R 3 e w E base g n xs k) (hk:k<n) (hkx:k<xs.length) (a0 a1 a2:Value) (hx:R w (fun b=>E b∧b≠g) xs[k] [a0,a1,a2]) :
  (∃v0 v1 v2,w.cell? ⟨g,k*3,none⟩=some v0∧w.cell? ⟨g,k*3+1,none⟩=some v1∧w.cell? ⟨g,k*3+2,none⟩=some v2)∧(∀i,w.frozen? ⟨g,i,none⟩=false) ∧
  CB R 3 e (((w.setCell ⟨g,k*3,none⟩ a0).setCell ⟨g,k*3+1,none⟩ a1).setCell ⟨g,k*3+2,none⟩ a2) E base g n xs (k+1):=by
 obtain⟨rows,h1,h2,h3,h4⟩:=h
 have hkr:k<rows.length:=by omega
 obtain⟨row,hrow⟩:∃row,rows[k]? = some row:=⟨_,List.getElem?_eq_getElem hkr⟩
 have hrl:row.length=3:=h2 row (List.mem_of_getElem? hrow)
 match row,hrl with
 | [r0,r1,r2],_ =>
  have hc:∀j u,([r0,r1,r2]:List Value)[j]? = some u→w.cell? ⟨g,k*3+j,none⟩=some u:=by
   intro j u hu
   have hj:j<3:=by
    rcases Nat.lt_or_ge j 3 with h | h
    ·exact h
    ·rw[List.getElem?_eq_none (by simpa using h)]at hu;simp at hu
   rw[h3.cellAt (k*3+j) (by omega)]
   exact BR h2 k _ hrow j u hu
  have s0:=h3
  have l0:∀x∈rows,x.length=3:=h2
  have g0:rows[k]? = some [r0,r1,r2]:=hrow
  have s1:=(World.ownsRow.stored (xs:=rows.flatten) s0 (k*3+0) a0).1
  have e0:=AN l0 k [r0,r1,r2] 0 a0 g0 (by omega)
  rw[←e0]at s1
  have l1:∀x∈(rows.set k [a0,r1,r2]),x.length=3:=Bt h2 (k:=k) (row:=[a0,r1,r2]) rfl
  have g1:(rows.set k [a0,r1,r2])[k]? = some [a0,r1,r2]:=by rw[List.getElem?_set_self hkr]
  have s2:=(World.ownsRow.stored (xs:=(rows.set k [a0,r1,r2]).flatten) s1 (k*3+1) a1).1
  have e1:=AN l1 k [a0,r1,r2] 1 a1 g1 (by omega)
  rw[←e1,List.set_set]at s2
  have l2:∀x∈(rows.set k [a0,a1,r2]),x.length=3:=Bt h2 (k:=k) (row:=[a0,a1,r2]) rfl
  have g2:(rows.set k [a0,a1,r2])[k]? = some [a0,a1,r2]:=by rw[List.getElem?_set_self hkr]
  have s3:=(World.ownsRow.stored (xs:=(rows.set k [a0,a1,r2]).flatten) s2 (k*3+2) a2).1
  have e2:=AN l2 k [a0,a1,r2] 2 a2 g2 (by omega)
  rw[←e2,List.set_set]at s3
  refine⟨⟨r0,r1,r2,by simpa using hc 0 _ rfl,by simpa using hc 1 _ rfl,by simpa using hc 2 _ rfl⟩,fun i=>h3.frozenAt i,rows.set k [a0,a1,a2],by simp[h1],Bt h2 rfl,by simpa using s3,fun i hi row hik hr=>?_⟩
  have sm:Same (fun b=>E b∧b≠g) w (((w.setCell ⟨g,k*3,none⟩ a0).setCell ⟨g,k*3+1,none⟩ a1).setCell ⟨g,k*3+2,none⟩ a2) :=
   ((Same.setCell _ _ _ (by simp)).trans (Same.setCell _ _ _ (by simp))).trans (Same.setCell _ _ _ (by simp))
  refine hR.keep sm ?_
  by_cases he:i=k
  ·subst he
   rw[List.getElem?_set_self hkr]at hr
   simp only[Option.some.injEq]at hr
   subst hr
   exact hx
  ·rw[List.getElem?_set_ne (fun e=>he e.symm)]at hr
   exact h4 i hi row (by omega) hr
theorem CB.store4 (hR:RepOk R 4) (h:CB R 4 e w E base g n xs k) (hk:k<n) (hkx:k<xs.length) (a0 a1 a2 a3:Value) (hx:R w (fun b=>E b∧b≠g) xs[k] [a0,a1,a2,a3]) :
  (∃v0 v1 v2 v3,w.cell? ⟨g,k*4,none⟩=some v0∧w.cell? ⟨g,k*4+1,none⟩=some v1∧w.cell? ⟨g,k*4+2,none⟩=some v2∧w.cell? ⟨g,k*4+3,none⟩=some v3)∧(∀i,w.frozen? ⟨g,i,none⟩=false) ∧
  CB R 4 e ((((w.setCell ⟨g,k*4,none⟩ a0).setCell ⟨g,k*4+1,none⟩ a1).setCell ⟨g,k*4+2,none⟩ a2).setCell ⟨g,k*4+3,none⟩ a3) E base g n xs (k+1):=by
 obtain⟨rows,h1,h2,h3,h4⟩:=h
 have hkr:k<rows.length:=by omega
 obtain⟨row,hrow⟩:∃row,rows[k]? = some row:=⟨_,List.getElem?_eq_getElem hkr⟩
 have hrl:row.length=4:=h2 row (List.mem_of_getElem? hrow)
 match row,hrl with
 | [r0,r1,r2,r3],_ =>
  have hc:∀j u,([r0,r1,r2,r3]:List Value)[j]? = some u→w.cell? ⟨g,k*4+j,none⟩=some u:=by
   intro j u hu
   have hj:j<4:=by
    rcases Nat.lt_or_ge j 4 with h | h
    ·exact h
    ·rw[List.getElem?_eq_none (by simpa using h)]at hu;simp at hu
   rw[h3.cellAt (k*4+j) (by omega)]
   exact BR h2 k _ hrow j u hu
  have s0:=h3
  have l0:∀x∈rows,x.length=4:=h2
  have g0:rows[k]? = some [r0,r1,r2,r3]:=hrow
  have s1:=(World.ownsRow.stored (xs:=rows.flatten) s0 (k*4+0) a0).1
  have e0:=AN l0 k [r0,r1,r2,r3] 0 a0 g0 (by omega)
  rw[←e0]at s1
  have l1:∀x∈(rows.set k [a0,r1,r2,r3]),x.length=4:=Bt h2 (k:=k) (row:=[a0,r1,r2,r3]) rfl
  have g1:(rows.set k [a0,r1,r2,r3])[k]? = some [a0,r1,r2,r3]:=by rw[List.getElem?_set_self hkr]
  have s2:=(World.ownsRow.stored (xs:=(rows.set k [a0,r1,r2,r3]).flatten) s1 (k*4+1) a1).1
  have e1:=AN l1 k [a0,r1,r2,r3] 1 a1 g1 (by omega)
  rw[←e1,List.set_set]at s2
  have l2:∀x∈(rows.set k [a0,a1,r2,r3]),x.length=4:=Bt h2 (k:=k) (row:=[a0,a1,r2,r3]) rfl
  have g2:(rows.set k [a0,a1,r2,r3])[k]? = some [a0,a1,r2,r3]:=by rw[List.getElem?_set_self hkr]
  have s3:=(World.ownsRow.stored (xs:=(rows.set k [a0,a1,r2,r3]).flatten) s2 (k*4+2) a2).1
  have e2:=AN l2 k [a0,a1,r2,r3] 2 a2 g2 (by omega)
  rw[←e2,List.set_set]at s3
  have l3:∀x∈(rows.set k [a0,a1,a2,r3]),x.length=4:=Bt h2 (k:=k) (row:=[a0,a1,a2,r3]) rfl
  have g3:(rows.set k [a0,a1,a2,r3])[k]? = some [a0,a1,a2,r3]:=by rw[List.getElem?_set_self hkr]
  have s4:=(World.ownsRow.stored (xs:=(rows.set k [a0,a1,a2,r3]).flatten) s3 (k*4+3) a3).1
  have e3:=AN l3 k [a0,a1,a2,r3] 3 a3 g3 (by omega)
  rw[←e3,List.set_set]at s4
  refine⟨⟨r0,r1,r2,r3,by simpa using hc 0 _ rfl,by simpa using hc 1 _ rfl,by simpa using hc 2 _ rfl,by simpa using hc 3 _ rfl⟩,fun i=>h3.frozenAt i,rows.set k [a0,a1,a2,a3],by simp[h1],Bt h2 rfl,by simpa using s4,fun i hi row hik hr=>?_⟩
  have sm:Same (fun b=>E b∧b≠g) w ((((w.setCell ⟨g,k*4,none⟩ a0).setCell ⟨g,k*4+1,none⟩ a1).setCell ⟨g,k*4+2,none⟩ a2).setCell ⟨g,k*4+3,none⟩ a3) :=
   (((Same.setCell _ _ _ (by simp)).trans (Same.setCell _ _ _ (by simp))).trans (Same.setCell _ _ _ (by simp))).trans (Same.setCell _ _ _ (by simp))
  refine hR.keep sm ?_
  by_cases he:i=k
  ·subst he
   rw[List.getElem?_set_self hkr]at hr
   simp only[Option.some.injEq]at hr
   subst hr
   exact hx
  ·rw[List.getElem?_set_ne (fun e=>he e.symm)]at hr
   exact h4 i hi row (by omega) hr
theorem CB.store5 (hR:RepOk R 5) (h:CB R 5 e w E base g n xs k) (hk:k<n) (hkx:k<xs.length) (a0 a1 a2 a3 a4:Value) (hx:R w (fun b=>E b∧b≠g) xs[k] [a0,a1,a2,a3,a4]) :
  (∃v0 v1 v2 v3 v4,w.cell? ⟨g,k*5,none⟩=some v0∧w.cell? ⟨g,k*5+1,none⟩=some v1∧w.cell? ⟨g,k*5+2,none⟩=some v2∧w.cell? ⟨g,k*5+3,none⟩=some v3∧w.cell? ⟨g,k*5+4,none⟩=some v4)∧(∀i,w.frozen? ⟨g,i,none⟩=false) ∧
  CB R 5 e (((((w.setCell ⟨g,k*5,none⟩ a0).setCell ⟨g,k*5+1,none⟩ a1).setCell ⟨g,k*5+2,none⟩ a2).setCell ⟨g,k*5+3,none⟩ a3).setCell ⟨g,k*5+4,none⟩ a4) E base g n xs (k+1):=by
 obtain⟨rows,h1,h2,h3,h4⟩:=h
 have hkr:k<rows.length:=by omega
 obtain⟨row,hrow⟩:∃row,rows[k]? = some row:=⟨_,List.getElem?_eq_getElem hkr⟩
 have hrl:row.length=5:=h2 row (List.mem_of_getElem? hrow)
 match row,hrl with
 | [r0,r1,r2,r3,r4],_ =>
  have hc:∀j u,([r0,r1,r2,r3,r4]:List Value)[j]? = some u→w.cell? ⟨g,k*5+j,none⟩=some u:=by
   intro j u hu
   have hj:j<5:=by
    rcases Nat.lt_or_ge j 5 with h | h
    ·exact h
    ·rw[List.getElem?_eq_none (by simpa using h)]at hu;simp at hu
   rw[h3.cellAt (k*5+j) (by omega)]
   exact BR h2 k _ hrow j u hu
  have s0:=h3
  have l0:∀x∈rows,x.length=5:=h2
  have g0:rows[k]? = some [r0,r1,r2,r3,r4]:=hrow
  have s1:=(World.ownsRow.stored (xs:=rows.flatten) s0 (k*5+0) a0).1
  have e0:=AN l0 k [r0,r1,r2,r3,r4] 0 a0 g0 (by omega)
  rw[←e0]at s1
  have l1:∀x∈(rows.set k [a0,r1,r2,r3,r4]),x.length=5:=Bt h2 (k:=k) (row:=[a0,r1,r2,r3,r4]) rfl
  have g1:(rows.set k [a0,r1,r2,r3,r4])[k]? = some [a0,r1,r2,r3,r4]:=by rw[List.getElem?_set_self hkr]
  have s2:=(World.ownsRow.stored (xs:=(rows.set k [a0,r1,r2,r3,r4]).flatten) s1 (k*5+1) a1).1
  have e1:=AN l1 k [a0,r1,r2,r3,r4] 1 a1 g1 (by omega)
  rw[←e1,List.set_set]at s2
  have l2:∀x∈(rows.set k [a0,a1,r2,r3,r4]),x.length=5:=Bt h2 (k:=k) (row:=[a0,a1,r2,r3,r4]) rfl
  have g2:(rows.set k [a0,a1,r2,r3,r4])[k]? = some [a0,a1,r2,r3,r4]:=by rw[List.getElem?_set_self hkr]
  have s3:=(World.ownsRow.stored (xs:=(rows.set k [a0,a1,r2,r3,r4]).flatten) s2 (k*5+2) a2).1
  have e2:=AN l2 k [a0,a1,r2,r3,r4] 2 a2 g2 (by omega)
  rw[←e2,List.set_set]at s3
  have l3:∀x∈(rows.set k [a0,a1,a2,r3,r4]),x.length=5:=Bt h2 (k:=k) (row:=[a0,a1,a2,r3,r4]) rfl
  have g3:(rows.set k [a0,a1,a2,r3,r4])[k]? = some [a0,a1,a2,r3,r4]:=by rw[List.getElem?_set_self hkr]
  have s4:=(World.ownsRow.stored (xs:=(rows.set k [a0,a1,a2,r3,r4]).flatten) s3 (k*5+3) a3).1
  have e3:=AN l3 k [a0,a1,a2,r3,r4] 3 a3 g3 (by omega)
  rw[←e3,List.set_set]at s4
  have l4:∀x∈(rows.set k [a0,a1,a2,a3,r4]),x.length=5:=Bt h2 (k:=k) (row:=[a0,a1,a2,a3,r4]) rfl
  have g4:(rows.set k [a0,a1,a2,a3,r4])[k]? = some [a0,a1,a2,a3,r4]:=by rw[List.getElem?_set_self hkr]
  have s5:=(World.ownsRow.stored (xs:=(rows.set k [a0,a1,a2,a3,r4]).flatten) s4 (k*5+4) a4).1
  have e4:=AN l4 k [a0,a1,a2,a3,r4] 4 a4 g4 (by omega)
  rw[←e4,List.set_set]at s5
  refine⟨⟨r0,r1,r2,r3,r4,by simpa using hc 0 _ rfl,by simpa using hc 1 _ rfl,by simpa using hc 2 _ rfl,by simpa using hc 3 _ rfl,by simpa using hc 4 _ rfl⟩,fun i=>h3.frozenAt i,rows.set k [a0,a1,a2,a3,a4],by simp[h1],Bt h2 rfl,by simpa using s5,fun i hi row hik hr=>?_⟩
  have sm:Same (fun b=>E b∧b≠g) w (((((w.setCell ⟨g,k*5,none⟩ a0).setCell ⟨g,k*5+1,none⟩ a1).setCell ⟨g,k*5+2,none⟩ a2).setCell ⟨g,k*5+3,none⟩ a3).setCell ⟨g,k*5+4,none⟩ a4) :=
   ((((Same.setCell _ _ _ (by simp)).trans (Same.setCell _ _ _ (by simp))).trans (Same.setCell _ _ _ (by simp))).trans (Same.setCell _ _ _ (by simp))).trans (Same.setCell _ _ _ (by simp))
  refine hR.keep sm ?_
  by_cases he:i=k
  ·subst he
   rw[List.getElem?_set_self hkr]at hr
   simp only[Option.some.injEq]at hr
   subst hr
   exact hx
  ·rw[List.getElem?_set_ne (fun e=>he e.symm)]at hr
   exact h4 i hi row (by omega) hr
theorem CB.store6 (hR:RepOk R 6) (h:CB R 6 e w E base g n xs k) (hk:k<n) (hkx:k<xs.length) (a0 a1 a2 a3 a4 a5:Value) (hx:R w (fun b=>E b∧b≠g) xs[k] [a0,a1,a2,a3,a4,a5]) :
  (∃v0 v1 v2 v3 v4 v5,w.cell? ⟨g,k*6,none⟩=some v0∧w.cell? ⟨g,k*6+1,none⟩=some v1∧w.cell? ⟨g,k*6+2,none⟩=some v2∧w.cell? ⟨g,k*6+3,none⟩=some v3∧w.cell? ⟨g,k*6+4,none⟩=some v4∧w.cell? ⟨g,k*6+5,none⟩=some v5)∧(∀i,w.frozen? ⟨g,i,none⟩=false) ∧
  CB R 6 e ((((((w.setCell ⟨g,k*6,none⟩ a0).setCell ⟨g,k*6+1,none⟩ a1).setCell ⟨g,k*6+2,none⟩ a2).setCell ⟨g,k*6+3,none⟩ a3).setCell ⟨g,k*6+4,none⟩ a4).setCell ⟨g,k*6+5,none⟩ a5) E base g n xs (k+1):=by
 obtain⟨rows,h1,h2,h3,h4⟩:=h
 have hkr:k<rows.length:=by omega
 obtain⟨row,hrow⟩:∃row,rows[k]? = some row:=⟨_,List.getElem?_eq_getElem hkr⟩
 have hrl:row.length=6:=h2 row (List.mem_of_getElem? hrow)
 match row,hrl with
 | [r0,r1,r2,r3,r4,r5],_ =>
  have hc:∀j u,([r0,r1,r2,r3,r4,r5]:List Value)[j]? = some u→w.cell? ⟨g,k*6+j,none⟩=some u:=by
   intro j u hu
   have hj:j<6:=by
    rcases Nat.lt_or_ge j 6 with h | h
    ·exact h
    ·rw[List.getElem?_eq_none (by simpa using h)]at hu;simp at hu
   rw[h3.cellAt (k*6+j) (by omega)]
   exact BR h2 k _ hrow j u hu
  have s0:=h3
  have l0:∀x∈rows,x.length=6:=h2
  have g0:rows[k]? = some [r0,r1,r2,r3,r4,r5]:=hrow
  have s1:=(World.ownsRow.stored (xs:=rows.flatten) s0 (k*6+0) a0).1
  have e0:=AN l0 k [r0,r1,r2,r3,r4,r5] 0 a0 g0 (by omega)
  rw[←e0]at s1
  have l1:∀x∈(rows.set k [a0,r1,r2,r3,r4,r5]),x.length=6:=Bt h2 (k:=k) (row:=[a0,r1,r2,r3,r4,r5]) rfl
  have g1:(rows.set k [a0,r1,r2,r3,r4,r5])[k]? = some [a0,r1,r2,r3,r4,r5]:=by rw[List.getElem?_set_self hkr]
  have s2:=(World.ownsRow.stored (xs:=(rows.set k [a0,r1,r2,r3,r4,r5]).flatten) s1 (k*6+1) a1).1
  have e1:=AN l1 k [a0,r1,r2,r3,r4,r5] 1 a1 g1 (by omega)
  rw[←e1,List.set_set]at s2
  have l2:∀x∈(rows.set k [a0,a1,r2,r3,r4,r5]),x.length=6:=Bt h2 (k:=k) (row:=[a0,a1,r2,r3,r4,r5]) rfl
  have g2:(rows.set k [a0,a1,r2,r3,r4,r5])[k]? = some [a0,a1,r2,r3,r4,r5]:=by rw[List.getElem?_set_self hkr]
  have s3:=(World.ownsRow.stored (xs:=(rows.set k [a0,a1,r2,r3,r4,r5]).flatten) s2 (k*6+2) a2).1
  have e2:=AN l2 k [a0,a1,r2,r3,r4,r5] 2 a2 g2 (by omega)
  rw[←e2,List.set_set]at s3
  have l3:∀x∈(rows.set k [a0,a1,a2,r3,r4,r5]),x.length=6:=Bt h2 (k:=k) (row:=[a0,a1,a2,r3,r4,r5]) rfl
  have g3:(rows.set k [a0,a1,a2,r3,r4,r5])[k]? = some [a0,a1,a2,r3,r4,r5]:=by rw[List.getElem?_set_self hkr]
  have s4:=(World.ownsRow.stored (xs:=(rows.set k [a0,a1,a2,r3,r4,r5]).flatten) s3 (k*6+3) a3).1
  have e3:=AN l3 k [a0,a1,a2,r3,r4,r5] 3 a3 g3 (by omega)
  rw[←e3,List.set_set]at s4
  have l4:∀x∈(rows.set k [a0,a1,a2,a3,r4,r5]),x.length=6:=Bt h2 (k:=k) (row:=[a0,a1,a2,a3,r4,r5]) rfl
  have g4:(rows.set k [a0,a1,a2,a3,r4,r5])[k]? = some [a0,a1,a2,a3,r4,r5]:=by rw[List.getElem?_set_self hkr]
  have s5:=(World.ownsRow.stored (xs:=(rows.set k [a0,a1,a2,a3,r4,r5]).flatten) s4 (k*6+4) a4).1
  have e4:=AN l4 k [a0,a1,a2,a3,r4,r5] 4 a4 g4 (by omega)
  rw[←e4,List.set_set]at s5
  have l5:∀x∈(rows.set k [a0,a1,a2,a3,a4,r5]),x.length=6:=Bt h2 (k:=k) (row:=[a0,a1,a2,a3,a4,r5]) rfl
  have g5:(rows.set k [a0,a1,a2,a3,a4,r5])[k]? = some [a0,a1,a2,a3,a4,r5]:=by rw[List.getElem?_set_self hkr]
  have s6:=(World.ownsRow.stored (xs:=(rows.set k [a0,a1,a2,a3,a4,r5]).flatten) s5 (k*6+5) a5).1
  have e5:=AN l5 k [a0,a1,a2,a3,a4,r5] 5 a5 g5 (by omega)
  rw[←e5,List.set_set]at s6
  refine⟨⟨r0,r1,r2,r3,r4,r5,by simpa using hc 0 _ rfl,by simpa using hc 1 _ rfl,by simpa using hc 2 _ rfl,by simpa using hc 3 _ rfl,by simpa using hc 4 _ rfl,by simpa using hc 5 _ rfl⟩,fun i=>h3.frozenAt i,rows.set k [a0,a1,a2,a3,a4,a5],by simp[h1],Bt h2 rfl,by simpa using s6,fun i hi row hik hr=>?_⟩
  have sm:Same (fun b=>E b∧b≠g) w ((((((w.setCell ⟨g,k*6,none⟩ a0).setCell ⟨g,k*6+1,none⟩ a1).setCell ⟨g,k*6+2,none⟩ a2).setCell ⟨g,k*6+3,none⟩ a3).setCell ⟨g,k*6+4,none⟩ a4).setCell ⟨g,k*6+5,none⟩ a5) :=
   (((((Same.setCell _ _ _ (by simp)).trans (Same.setCell _ _ _ (by simp))).trans (Same.setCell _ _ _ (by simp))).trans (Same.setCell _ _ _ (by simp))).trans (Same.setCell _ _ _ (by simp))).trans (Same.setCell _ _ _ (by simp))
  refine hR.keep sm ?_
  by_cases he:i=k
  ·subst he
   rw[List.getElem?_set_self hkr]at hr
   simp only[Option.some.injEq]at hr
   subst hr
   exact hx
  ·rw[List.getElem?_set_ne (fun e=>he e.symm)]at hr
   exact h4 i hi row (by omega) hr
end
end
section
open Go.RowKit
def Ul (w:World) (g off n:Nat):Prop:=∀j,j<n*5→(∃v,w.cell? ⟨g,off+j,none⟩=some v)∧w.frozen? ⟨g,off+j,none⟩=false
theorem Ul.lt {w:World}{g off n:Nat}(h:Ul w g off n) (hn:0<n):g<w.heap.size:=by
 obtain⟨⟨v,hv⟩,_⟩:=h 0 (by omega)
 exact World.block_lt_of_cell? w _ hv
theorem Ul.same {w w':World}{g off n:Nat}(h:Ul w g off n) (hs:Same (fun b=>b=g) w w'):Ul w' g off n:=by
 intro j hj
 obtain⟨⟨v,hv⟩,hf⟩:=h j hj
 have hl:=World.block_lt_of_cell? w _ hv
 have hb:=hs.block g rfl hl
 exact⟨⟨v,(World.cell?_of_block (w:=w) hb).trans hv⟩,(World.frozen?_of_block (w:=w) hb).trans hf⟩
theorem Ul.of_own {w:World}{base:Nat}{e:TypeId}{g n cap:Nat}{xs:List Value}(h:w.ownsRow base e 5 (.slice (some ⟨g,0,none⟩) n cap) n xs):Ul w g 0 n:=by
 intro j hj
 have hl:j<xs.length:=by rw[h.1];exact hj
 exact⟨⟨xs[j],by rw[Nat.zero_add,h.cellAt j hj,List.getElem?_eq_getElem hl]⟩,h.frozenAt _⟩
end
end Go.Proofs.YtcejfdfmgmcinaaGreat
