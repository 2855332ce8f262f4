/- Texts of this proof: E01 E02 E03 E04 E05 E06 E07. -/
import Derived.Test.YtcejfdfmgmcinaaGreatKA1
import Derived.Deep.MidRow
import Derived.Lib.SliceRun
set_option linter.all false
namespace Go.Proofs.YtcejfdfmgmcinaaGreat
section
open Go.RowKit
inductive C where
 |int (k:IntKind) (n:Int)
 |bool (b:Bool)
 |str (s:ByteArray)
 |raw (v:Value)
 |sl (rows:List (List C))
 |osl (rows:List (List C))
 |ref (row:List C)
 |oref (row:List C)
 |tsl (es:Nat) (e:TypeId) (rows:List (List C))
 |any
instance:Inhabited C:=⟨.bool false⟩
abbrev Id:=Nat×Nat
inductive AV where
 |undef
 |skip
 |c (x:C)
 |agg (xs:List AV)
 |tup (xs:List AV)
 |ptr (i:Id) (off:Nat)
 |own (i:Id)
 |rptr (i:Id) (es r off:Nat)
 |part (i:Id) (es r:Nat)
 |bsl (i:Id) (k:Nat)
 |elem (rows:List (List C)) (r off:Nat)
 |nils
 |clo (f:FuncId) (caps:List AV)
instance:Inhabited AV:=⟨.undef⟩
def AV.isCell:AV→Bool
 | .c _ | .ptr .. | .own _ | .rptr .. | .part .. | .bsl .. | .elem .. | .nils | .clo .. => true
 |_=>false
inductive AO where
 |box (cells:List AV)
 |row (ex:Bool) (es:Nat) (e:TypeId) (rows:List (List C))
 |frz (rows:List (List C))
 |rown (rows:List (List C))
 |lent (es:Nat) (e:TypeId) (rows:List (List C)) (r off:Nat) (j:Id)
 |blk (R:Nat→Value→List (List Value)→Obj→Prop) (rows:List (List C))
 |gen (R:Value→List (Nat×Obj)→Prop)
 |dead
abbrev Mem:=List (Id×AO)
def Mem.get (m:Mem) (i:Id):Option AO:=m.lookup i
def AO.live:AO→Bool
 | .box _ | .row .. | .rown _ | .lent .. | .blk .. | .gen _=>true
 |_=>false
mutual
def CR (w:World) (S:Nat→Prop):C→Value→List Nat→Prop
 | .int k n,v,bs=>v=.int k n∧bs=[]
 | .bool b,v,bs=>v=.bool b∧bs=[]
 | .str s,v,bs=>v=.string s∧bs=[]
 | .raw u,v,bs=>v=u∧u.oneCell'=true∧bs=[]
 | .sl rows,v,bs=>∃es A cap vrows,v=.slice A rows.length cap∧rows.length≤cap∧True∧Row w S es A vrows∧An w S rows vrows []∧bs=[]
 | .osl rows,v,bs=>∃es vrows bs' e,An w S rows vrows bs'∧(∀x∈vrows,x.length=es)∧w.ownsRow 0 e es v rows.length vrows.flatten∧bs=v.ownBlock.toList++bs'
 | .ref row,v,bs=>∃A vr,v=.pointer A∧Row w S row.length A [vr]∧CRs w S row vr []∧bs=[]
 | .oref row,v,bs=>∃b vr T,v=.pointer (some ⟨b,0,none⟩)∧w.heap[b]? = some (.cells (List.toArray vr) T (0,0))∧CRs w S row vr []∧bs=[b]
 | .tsl es e rows,v,bs=>∃vrows bs',An w S rows vrows bs'∧(∀x∈vrows,x.length=es)∧w.ownsRow 0 e es v rows.length vrows.flatten∧bs=v.ownBlock.toList++bs'
 | .any,v,bs=>v.oneCell'=true∧bs=[]
def CRs (w:World) (S:Nat→Prop):List C→List Value→List Nat→Prop
 | [],vs,bs=>vs=[]∧bs=[]
 |c::cs,vs,bs=>∃v vs' b1 b2,vs=v::vs'∧bs=b1++b2∧CR w S c v b1∧CRs w S cs vs' b2
def An (w:World) (S:Nat→Prop):List (List C)→List (List Value)→List Nat→Prop
 | [],vs,bs=>vs=[]∧bs=[]
 |c::cs,vs,bs=>∃v vs' b1 b2,vs=v::vs'∧bs=b1++b2∧CRs w S c v b1∧An w S cs vs' b2
end
theorem Row.mono {w w':World}{S T:Nat→Prop}{size:Nat}{A:Option Addr}{xs:List (List Value)}(hz:w.heap.size≤w'.heap.size) (hs:∀b,S b→b<w.heap.size→w'.heap[b]? = w.heap[b]?∧T b)
  (h:Row w S size A xs):Row w' T size A xs :=
 (h.keep ⟨hz,fun b hb hl=>(hs b hb hl).1⟩).1 |> fun h1=>⟨h1,fun hn=>by
  obtain⟨b,off,hA,hb,hl,hc⟩:=h.2 hn
  exact⟨b,off,hA,(hs b hb hl).2,by omega,fun i x hx j u hu=>(World.cell?_of_block (hs b hb hl).1).trans (hc i x hx j u hu)⟩⟩
section
variable {w w':World} {S T:Nat→Prop}
mutual
theorem CR.keep (hz:w.heap.size≤w'.heap.size) (hs:∀b,S b→b<w.heap.size→w'.heap[b]? = w.heap[b]?∧T b) :
  ∀{x:C} {v:Value} {bs:List Nat},(∀b,b∈bs→b<w.heap.size→w'.heap[b]? = w.heap[b]?)→CR w S x v bs→CR w' T x v bs
 | .int _ _,_,_,_,h=>h
 | .bool _,_,_,_,h=>h
 | .str _,_,_,_,h=>h
 | .raw _,_,_,_,h=>h
 | .sl rows,v,bs,_,h=>by
  simp only[CR]at h ⊢
  obtain⟨es,A,cap,vrows,h1,h2,h3,h4,h5,h6⟩:=h
  exact⟨es,A,cap,vrows,h1,h2,h3,Row.mono hz hs h4,An.keep hz hs (by simp) h5,h6⟩
 | .osl rows,v,bs,hb,h=>by
  simp only[CR]at h ⊢
  obtain⟨es,vrows,bs',e,h1,h2,h3,h4⟩:=h
  subst h4
  exact⟨es,vrows,bs',e,An.keep hz hs (fun b hb'=>hb b (by simp[hb'])) h1,h2,CD h3 (S:=fun b=>v.ownBlock=some b) ⟨hz,fun b hb' hl=>hb b (by simp[hb']) hl⟩ (fun b hb'=>hb'),rfl⟩
 | .ref row,v,bs,_,h=>by
  simp only[CR]at h ⊢
  obtain⟨A,vr,h1,h2,h3,h4⟩:=h
  exact⟨A,vr,h1,Row.mono hz hs h2,CRs.keep hz hs (by simp) h3,h4⟩
 | .oref row,v,bs,hb,h=>by
  simp only[CR]at h ⊢
  obtain⟨b,vr,T,h1,h2,h3,h4⟩:=h
  subst h4
  exact⟨b,vr,T,h1,(hb b (by simp) (Array.getElem?_eq_some_iff.1 h2).1).trans h2,CRs.keep hz hs (by simp) h3,rfl⟩
 | .tsl es e rows,v,bs,hb,h=>by
  simp only[CR]at h ⊢
  obtain⟨vrows,bs',h1,h2,h3,h4⟩:=h
  subst h4
  exact⟨vrows,bs',An.keep hz hs (fun b hb'=>hb b (by simp[hb'])) h1,h2,CD h3 (S:=fun b=>v.ownBlock=some b) ⟨hz,fun b hb' hl=>hb b (by simp[hb']) hl⟩ (fun b hb'=>hb'),rfl⟩
 | .any,_,_,_,h=>h
theorem CRs.keep (hz:w.heap.size≤w'.heap.size) (hs:∀b,S b→b<w.heap.size→w'.heap[b]? = w.heap[b]?∧T b) :
  ∀{x:List C} {v:List Value} {bs:List Nat},(∀b,b∈bs→b<w.heap.size→w'.heap[b]? = w.heap[b]?)→CRs w S x v bs→CRs w' T x v bs
 | [],_,_,_,h=>h
 |c::cs,v,bs,hb,h=>by
  simp only[CRs]at h ⊢
  obtain⟨u,vs',b1,b2,h1,rfl,h3,h4⟩:=h
  exact⟨u,vs',b1,b2,h1,rfl,CR.keep hz hs (fun b hb'=>hb b (by simp[hb'])) h3,CRs.keep hz hs (fun b hb'=>hb b (by simp[hb'])) h4⟩
theorem An.keep (hz:w.heap.size≤w'.heap.size) (hs:∀b,S b→b<w.heap.size→w'.heap[b]? = w.heap[b]?∧T b) :
  ∀{x:List (List C)} {v:List (List Value)} {bs:List Nat},(∀b,b∈bs→b<w.heap.size→w'.heap[b]? = w.heap[b]?)→An w S x v bs→An w' T x v bs
 | [],_,_,_,h=>h
 |c::cs,v,bs,hb,h=>by
  simp only[An]at h ⊢
  obtain⟨u,vs',b1,b2,h1,rfl,h3,h4⟩:=h
  exact⟨u,vs',b1,b2,h1,rfl,CRs.keep hz hs (fun b hb'=>hb b (by simp[hb'])) h3,An.keep hz hs (fun b hb'=>hb b (by simp[hb'])) h4⟩
end
end
mutual
def C.forget:C→C
 | .sl rows=>.sl rows
 | .osl rows=>.sl (AT rows)
 | .oref row=>.ref (Cn row)
 | .tsl _ _ rows=>.sl (AT rows)
 |x=>x
def Cn:List C→List C
 | []=>[]
 |c::cs=>c.forget::Cn cs
def AT:List (List C)→List (List C)
 | []=>[]
 |c::cs=>Cn c::AT cs
end
theorem BM:∀(rows:List (List C)),(AT rows).length=rows.length
 | []=>rfl
 |_::cs=>by simp[AT,BM cs]
theorem IM:∀(row:List C),(Cn row).length=row.length
 | []=>rfl
 |_::cs=>by simp[Cn,IM cs]
section
variable {w:World} {S T:Nat→Prop}
theorem CRs.length:∀{x:List C}{v:List Value}{bs:List Nat},CRs w S x v bs→v.length=x.length
 | [],_,_,h=>by simp only[CRs]at h;simp[h.1]
 |c::cs,v,bs,h=>by
  simp only[CRs]at h
  obtain⟨u,vs',b1,b2,rfl,rfl,h3,h4⟩:=h
  simp[CRs.length h4]
theorem An.length:∀{x:List (List C)}{v:List (List Value)}{bs:List Nat},An w S x v bs→v.length=x.length
 | [],_,_,h=>by simp only[An]at h;simp[h.1]
 |c::cs,v,bs,h=>by
  simp only[An]at h
  obtain⟨u,vs',b1,b2,rfl,rfl,h3,h4⟩:=h
  simp[An.length h4]
theorem Row.of_owns {base:Nat}{e:TypeId}{size n:Nat}{v:Value}{xs:List (List Value)}(h1:∀x∈xs,x.length=size) (hn:n=xs.length) (hs:0<size∨xs=[]) (h:w.ownsRow base e size v n xs.flatten) (hT:∀b,v.ownBlock=some b→T b) :
  ∃A cap,v=.slice A n cap∧n≤cap∧(∀ad,A=some ad→ad.spot=none)∧Row w T size A xs:=by
 rcases h.2 with⟨rfl,h0⟩ | ⟨g,cap,cur,rfl,hb,hh,hc,hm,hr⟩
 ·subst h0
  have:xs=[]:=List.eq_nil_of_length_eq_zero (by omega)
  subst this
  exact⟨none,0,rfl,Nat.le_refl _,by simp,Row.nil⟩
 ·refine⟨some ⟨g,0,none⟩,cap,rfl,hc,by simp,?_⟩
  rcases hs with hs | rfl
  ·exact (Row.of_own h1 hs h).weaken fun b hb _=>hT b hb
  ·exact Row.nil
mutual
theorem CR.forget (hS:∀b,S b→T b):∀{x:C}{v:Value}{bs:List Nat},(∀b,b∈bs→T b)→CR w S x v bs→CR w T x.forget v []
 | .int _ _,_,_,_,h=>⟨h.1,rfl⟩
 | .bool _,_,_,_,h=>⟨h.1,rfl⟩
 | .str _,_,_,_,h=>⟨h.1,rfl⟩
 | .raw _,_,_,_,h=>⟨h.1,h.2.1,rfl⟩
 | .sl rows,v,bs,_,h=>by
  simp only[CR]at h
  obtain⟨es,A,cap,vrows,h1,h2,h3,h4,h5,h6⟩:=h
  exact⟨es,A,cap,vrows,h1,h2,h3,Row.mono (Nat.le_refl _) (fun b hb _=>⟨rfl,hS b hb⟩) h4,An.keep (Nat.le_refl _) (fun b hb _=>⟨rfl,hS b hb⟩) (by simp) h5,rfl⟩
 | .osl rows,v,bs,hb,h=>by
  simp only[CR]at h
  obtain⟨es,vrows,bs',e,h1,h2,h3,h4⟩:=h
  subst h4
  have hl:vrows.length=rows.length:=An.length h1
  have h5:=An.forget hS (fun b hb'=>hb b (by simp[hb'])) h1
  have hT:∀b,v.ownBlock=some b→T b:=fun b hb'=>hb b (by simp[hb'])
  simp only[C.forget]
  by_cases hes:0<es∨vrows=[]
  ·obtain⟨A,cap,rfl,g2,g3,g4⟩:=Row.of_owns h2 (by omega) hes h3 hT
   exact⟨es,A,cap,vrows,by rw[BM],by rw[BM];omega,trivial,g4,h5,rfl⟩
  ·have h0:es=0:=by omega
   subst h0
   rcases h3.2 with⟨_,h0⟩ | ⟨g,cap,cur,rfl,hg,hh,hc,hm,hr⟩
   ·exact absurd (Or.inr (List.eq_nil_of_length_eq_zero (by omega))) hes
   ·refine⟨0,some ⟨g,0,none⟩,cap,vrows,by rw[BM],by rw[BM];exact hc,by simp,⟨h2,fun _=>⟨g,0,rfl,hT g rfl,(Array.getElem?_eq_some_iff.1 hh).1,fun i x hx j u hu=>?_⟩⟩,h5,rfl⟩
    have:=h2 x (List.mem_of_getElem? hx)
    rw[List.getElem?_eq_none (by omega)]at hu
    simp at hu
 | .tsl es e rows,v,bs,hb,h=>by
  simp only[CR]at h
  obtain⟨vrows,bs',h1,h2,h3,h4⟩:=h
  subst h4
  have hl:vrows.length=rows.length:=An.length h1
  have h5:=An.forget hS (fun b hb'=>hb b (by simp[hb'])) h1
  have hT:∀b,v.ownBlock=some b→T b:=fun b hb'=>hb b (by simp[hb'])
  simp only[C.forget]
  by_cases hes:0<es∨vrows=[]
  ·obtain⟨A,cap,rfl,g2,g3,g4⟩:=Row.of_owns h2 (by omega) hes h3 hT
   exact⟨es,A,cap,vrows,by rw[BM],by rw[BM];omega,trivial,g4,h5,rfl⟩
  ·have h0:es=0:=by omega
   subst h0
   rcases h3.2 with⟨_,h0⟩ | ⟨g,cap,cur,rfl,hg,hh,hc,hm,hr⟩
   ·exact absurd (Or.inr (List.eq_nil_of_length_eq_zero (by omega))) hes
   ·refine⟨0,some ⟨g,0,none⟩,cap,vrows,by rw[BM],by rw[BM];exact hc,by simp,⟨h2,fun _=>⟨g,0,rfl,hT g rfl,(Array.getElem?_eq_some_iff.1 hh).1,fun i x hx j u hu=>?_⟩⟩,h5,rfl⟩
    have:=h2 x (List.mem_of_getElem? hx)
    rw[List.getElem?_eq_none (by omega)]at hu
    simp at hu
 | .any,_,_,_,h=>⟨h.1,rfl⟩
 | .ref row,v,bs,_,h=>by
  simp only[CR]at h
  obtain⟨A,vr,h1,h2,h3,h4⟩:=h
  exact⟨A,vr,h1,Row.mono (Nat.le_refl _) (fun b hb _=>⟨rfl,hS b hb⟩) h2,CRs.keep (Nat.le_refl _) (fun b hb _=>⟨rfl,hS b hb⟩) (by simp) h3,rfl⟩
 | .oref row,v,bs,hb,h=>by
  simp only[CR]at h
  obtain⟨b,vr,T',h1,h2,h3,h4⟩:=h
  subst h4
  have hl:=CRs.length h3
  refine⟨some ⟨b,0,none⟩,vr,h1,⟨by simp[IM,hl],fun _=>⟨b,0,rfl,hb b (by simp),(Array.getElem?_eq_some_iff.1 h2).1,fun i x hx j u hu=>?_⟩⟩,CRs.forget hS (by simp) h3,rfl⟩
  cases i with
  |zero =>
   simp only[List.getElem?_cons_zero,Option.some.injEq]at hx
   subst hx
   rw[Nat.zero_mul,Nat.zero_add,cell_of_row w b j _ T' (0,0) h2]
   simpa using hu
  |succ i=>simp at hx
theorem CRs.forget (hS:∀b,S b→T b):∀{x:List C}{v:List Value}{bs:List Nat},(∀b,b∈bs→T b)→CRs w S x v bs→CRs w T (Cn x) v []
 | [],_,_,_,h=>by simp only[CRs]at h;simp[Cn,CRs,h.1]
 |c::cs,v,bs,hb,h=>by
  simp only[CRs]at h
  obtain⟨u,vs',b1,b2,h1,rfl,h3,h4⟩:=h
  exact⟨u,vs',[],[],h1,rfl,CR.forget hS (fun b hb'=>hb b (by simp[hb'])) h3,CRs.forget hS (fun b hb'=>hb b (by simp[hb'])) h4⟩
theorem An.forget (hS:∀b,S b→T b):∀{x:List (List C)}{v:List (List Value)}{bs:List Nat},(∀b,b∈bs→T b)→An w S x v bs→An w T (AT x) v []
 | [],_,_,_,h=>by simp only[An]at h;simp[AT,An,h.1]
 |c::cs,v,bs,hb,h=>by
  simp only[An]at h
  obtain⟨u,vs',b1,b2,h1,rfl,h3,h4⟩:=h
  exact⟨u,vs',[],[],h1,rfl,CRs.forget hS (fun b hb'=>hb b (by simp[hb'])) h3,An.forget hS (fun b hb'=>hb b (by simp[hb'])) h4⟩
end
theorem CR.one {x:C}{v:Value}{bs:List Nat}(h:CR w S x v bs):v.oneCell'=true:=by
 cases x<;>simp only[CR]at h
 case int=>rw[h.1];rfl
 case bool=>rw[h.1];rfl
 case str=>rw[h.1];rfl
 case raw=>rw[h.1];exact h.2.1
 case sl=>obtain⟨es,A,cap,vrows,h1,_⟩:=h;rw[h1];rfl
 case osl =>
  obtain⟨es,vrows,bs',e,h1,h2,h3,h4⟩:=h
  rcases h3.2 with⟨rfl,_⟩ | ⟨g,cap,cur,rfl,_⟩<;>rfl
 case ref=>obtain⟨A,vr,h1,_⟩:=h;rw[h1];rfl
 case oref=>obtain⟨b,vr,T,h1,_⟩:=h;rw[h1];rfl
 case tsl =>
  obtain⟨vrows,bs',h1,h2,h3,h4⟩:=h
  rcases h3.2 with⟨rfl,_⟩ | ⟨g,cap,cur,rfl,_⟩<;>rfl
 case any=>exact h.1
theorem CRs.one:∀{x:List C}{v:List Value}{bs:List Nat},CRs w S x v bs→∀u∈v,u.oneCell'=true
 | [],_,_,h=>by simp only[CRs]at h;simp[h.1]
 |c::cs,v,bs,h=>by
  simp only[CRs]at h
  obtain⟨u,vs',b1,b2,rfl,rfl,h3,h4⟩:=h
  intro y hy
  simp only[List.mem_cons]at hy
  rcases hy with rfl | hy
  ·exact h3.one
  ·exact CRs.one h4 y hy
theorem An.one:∀{x:List (List C)}{v:List (List Value)}{bs:List Nat},An w S x v bs→∀u∈v.flatten,u.oneCell'=true
 | [],_,_,h=>by simp only[An]at h;simp[h.1]
 |c::cs,v,bs,h=>by
  simp only[An]at h
  obtain⟨u,vs',b1,b2,rfl,rfl,h3,h4⟩:=h
  intro y hy
  simp only[List.flatten_cons,List.mem_append]at hy
  rcases hy with hy | hy
  ·exact h3.one y hy
  ·exact An.one h4 y hy
theorem CRs.append:∀{x y:List C}{v u:List Value}{bs cs:List Nat},CRs w S x v bs→CRs w S y u cs→CRs w S (x++y) (v++u) (bs++cs)
 | [],_,_,_,_,_,h,h'=>by simp only[CRs]at h;simp[h.1,h.2,h']
 |c::cs,y,v,u,bs,ds,h,h'=>by
  simp only[CRs]at h
  obtain⟨a,vs',b1,b2,rfl,rfl,h3,h4⟩:=h
  exact⟨a,vs'++u,b1,b2++ds,rfl,by simp,h3,CRs.append h4 h'⟩
theorem An.append:∀{x y:List (List C)}{v u:List (List Value)}{bs cs:List Nat},An w S x v bs→An w S y u cs→An w S (x++y) (v++u) (bs++cs)
 | [],_,_,_,_,_,h,h'=>by simp only[An]at h;simp[h.1,h.2,h']
 |c::cs,y,v,u,bs,ds,h,h'=>by
  simp only[An]at h
  obtain⟨a,vs',b1,b2,rfl,rfl,h3,h4⟩:=h
  exact⟨a,vs'++u,b1,b2++ds,rfl,by simp,h3,An.append h4 h'⟩
theorem An.at_:∀{x:List (List C)}{v:List (List Value)}{bs:List Nat},An w S x v bs→∀{i:Nat}{row:List C},x[i]? = some row→∃vr b,v[i]? = some vr∧CRs w S row vr b∧∀k,k∈b→k∈bs
 | [],_,_,_,i,row,h=>by simp at h
 |c::cs,v,bs,h,i,row,hi=>by
  simp only[An]at h
  obtain⟨u,vs',b1,b2,rfl,rfl,h3,h4⟩:=h
  cases i with
  |zero =>
   simp only[List.getElem?_cons_zero,Option.some.injEq]at hi
   subst hi
   exact⟨u,b1,rfl,h3,fun k hk=>by simp[hk]⟩
  |succ i =>
   simp only[List.getElem?_cons_succ]at hi
   obtain⟨vr,b,g1,g2,g3⟩:=An.at_ h4 hi
   exact⟨vr,b,by simpa using g1,g2,fun k hk=>by simp[g3 k hk]⟩
theorem CRs.at_:∀{x:List C}{v:List Value}{bs:List Nat},CRs w S x v bs→∀{i:Nat}{c:C},x[i]? = some c→∃u b,v[i]? = some u∧CR w S c u b∧∀k,k∈b→k∈bs
 | [],_,_,_,i,row,h=>by simp at h
 |c::cs,v,bs,h,i,row,hi=>by
  simp only[CRs]at h
  obtain⟨u,vs',b1,b2,rfl,rfl,h3,h4⟩:=h
  cases i with
  |zero =>
   simp only[List.getElem?_cons_zero,Option.some.injEq]at hi
   subst hi
   exact⟨u,b1,rfl,h3,fun k hk=>by simp[hk]⟩
  |succ i =>
   simp only[List.getElem?_cons_succ]at hi
   obtain⟨vr,b,g1,g2,g3⟩:=CRs.at_ h4 hi
   exact⟨vr,b,by simpa using g1,g2,fun k hk=>by simp[g3 k hk]⟩
end
mutual
def AR (w:World) (S:Nat→Prop) (m:Mem) (κ:Id→Value):AV→Value→Prop
 | .undef,_=>True
 | .skip,v=>v=undef
 | .c x,v=>CR w S x v []
 | .agg xs,v=>∃vs,v=.agg (List.toArray vs)∧ARs w S m κ xs vs∧∀u∈vs,u.oneCell'=true
 | .tup xs,v=>∃vs,v=.tuple (List.toArray vs)∧ARs w S m κ xs vs
 | .ptr i off,v=>v.oneCell'=true∧∃o,m.get i=some o∧(o.live=true→∃b,κ i=.pointer (some ⟨b,0,none⟩)∧v=.pointer (some ⟨b,off,none⟩))
 | .own i,v=>v.oneCell'=true∧∃o,m.get i=some o∧(o≠.dead→v=κ i)
 | .rptr i es r off,v=>v.oneCell'=true∧∃o,m.get i=some o∧(o.live=true→∃b n cap,κ i=.slice (some ⟨b,0,none⟩) n cap∧v=.pointer (some ⟨b,r*es+off,none⟩))
 | .part i es r,v=>v.oneCell'=true∧∃o,m.get i=some o∧(o.live=true→(∃b n cap,κ i=.slice (some ⟨b,0,none⟩) n cap∧v=sliced (some ⟨b,0,none⟩) r n cap es)∨(κ i=.slice none 0 0∧v=.slice none 0 0))
 | .bsl i k,v=>v.oneCell'=true∧∃o,m.get i=some o∧(o.live=true→∃b,κ i=.pointer (some ⟨b,0,none⟩)∧v=.slice (some ⟨b,0,none⟩) k k)
 | .nils,v=>v=.slice none 0 0
 | .elem rows r off,v=>∃es b o vrows,v=.pointer (some ⟨b,o+r*es+off,none⟩)∧Row w S es (some ⟨b,o,none⟩) vrows∧An w S rows vrows []
 | .clo f caps,v=>∃vs,v=.func (.func f) #[] (List.toArray vs)∧ARs w S m κ caps vs
def ARs (w:World) (S:Nat→Prop) (m:Mem) (κ:Id→Value):List AV→List Value→Prop
 | [],vs=>vs=[]
 |x::xs,vs=>∃v vs',vs=v::vs'∧AR w S m κ x v∧ARs w S m κ xs vs'
end
def JK (rows:List (List C)) (r off:Nat) (x:C):List (List C):=rows.set r ((rows.getD r []).set off x)
def OR (w:World) (S:Nat→Prop) (m:Mem) (ow:Nat→Option Id) (κ:Id→Value) (i:Id):AO→Prop
 | .box cells=>∃b vs T,κ i=.pointer (some ⟨b,0,none⟩)∧ow b=some i∧w.heap[b]? = some (.cells (List.toArray vs) T (0,0))∧ARs w S m κ cells vs∧∀u∈vs,u.oneCell'=true
 | .row ex es e rows=>∃vrows bs,An w S rows vrows bs∧(ex=false→bs=[])∧(∀x∈vrows,x.length=es)∧w.ownsRow 0 e es (κ i) rows.length vrows.flatten∧((κ i).ownBlock.toList++bs).Nodup∧∀b,b∈(κ i).ownBlock.toList++bs→ow b=some i
 | .frz rows=>CR w S (.sl rows) (κ i) []
 | .rown rows=>∃es e vrows,An w S rows vrows []∧(∀x∈vrows,x.length=es)∧w.ownsRow 0 e es (κ i) rows.length vrows.flatten∧∀b,(κ i).ownBlock=some b→ow b=some i
 | .lent es e rows r off j=>∃v vrows bs,An w S (JK rows r off (.raw v)) vrows bs∧(∀x∈vrows,x.length=es)∧w.ownsRow 0 e es (κ i) rows.length vrows.flatten∧((κ i).ownBlock.toList++bs).Nodup∧(∀b,b∈(κ i).ownBlock.toList++bs→ow b=some i)∧∃o,m.get j=some o∧(o≠.dead→v=κ j)
 | .blk R rows=>∃b obj vrows,ow b=some i∧w.heap[b]? = some obj∧An w S rows vrows []∧R b (κ i) vrows obj
 | .gen R=>∃l:List (Nat×Obj),(∀p,p∈l→ow p.1=some i∧w.heap[p.1]? = some p.2)∧R (κ i) l
 | .dead=>True
section
variable {w w':World} {S T:Nat→Prop} {m m':Mem} {κ κ':Id→Value}
theorem ARs.length:∀{x:List AV}{v:List Value},ARs w S m κ x v→v.length=x.length
 | [],_,h=>by simp only[ARs]at h;simp[h]
 |c::cs,v,h=>by
  simp only[ARs]at h
  obtain⟨u,vs',rfl,h3,h4⟩:=h
  simp[ARs.length h4]
theorem AR.one {x:AV}{v:Value}(hx:x.isCell=true) (h:AR w S m κ x v):v.oneCell'=true:=by
 cases x<;>simp only[AR]at h<;>simp[AV.isCell]at hx
 case c=>exact h.one
 case ptr=>exact h.1
 case own=>exact h.1
 case rptr=>exact h.1
 case part=>exact h.1
 case bsl=>exact h.1
 case elem=>obtain⟨es,b,o,vrows,rfl,_⟩:=h;rfl
 case nils=>rw[h];rfl
 case clo=>obtain⟨vs,rfl,_⟩:=h;rfl
mutual
theorem AR.keep (hz:w.heap.size≤w'.heap.size) (hs:∀b,S b→b<w.heap.size→w'.heap[b]? = w.heap[b]?∧T b)
  (hm:∀i o,m.get i=some o→∃o',m'.get i=some o'∧(o'=.dead∨(κ' i=κ i∧o≠.dead∧(o'.live=true→o.live=true)))) :
  ∀{x:AV} {v:Value},AR w S m κ x v→AR w' T m' κ' x v
 | .undef,_,_=>trivial
 | .skip,_,h=>h
 | .c x,v,h=>CR.keep hz hs (by simp) h
 | .agg xs,v,h=>by
  simp only[AR]at h ⊢
  obtain⟨vs,h1,h2,h3⟩:=h
  exact⟨vs,h1,ARs.keep hz hs hm h2,h3⟩
 | .tup xs,v,h=>by
  simp only[AR]at h ⊢
  obtain⟨vs,h1,h2⟩:=h
  exact⟨vs,h1,ARs.keep hz hs hm h2⟩
 | .ptr i off,v,h=>by
  simp only[AR]at h ⊢
  obtain⟨h0,o,h1,h2⟩:=h
  obtain⟨o',g1,g2⟩:=hm i o h1
  refine⟨h0,o',g1,fun hd=>?_⟩
  rcases g2 with rfl | ⟨g2,g3,g4⟩
  ·simp[AO.live]at hd
  ·rw[g2]
   exact h2 (g4 hd)
 | .own i,v,h=>by
  simp only[AR]at h ⊢
  obtain⟨h0,o,h1,h2⟩:=h
  obtain⟨o',g1,g2⟩:=hm i o h1
  refine⟨h0,o',g1,fun hd=>?_⟩
  rcases g2 with g2 | ⟨g2,g3⟩
  ·exact absurd g2 hd
  ·rw[g2]
   exact h2 g3.1
 | .rptr i es r off,v,h=>by
  simp only[AR]at h ⊢
  obtain⟨h0,o,h1,h2⟩:=h
  obtain⟨o',g1,g2⟩:=hm i o h1
  refine⟨h0,o',g1,fun hd=>?_⟩
  rcases g2 with rfl | ⟨g2,g3,g4⟩
  ·simp[AO.live]at hd
  ·rw[g2]
   exact h2 (g4 hd)
 | .part i es r,v,h=>by
  simp only[AR]at h ⊢
  obtain⟨h0,o,h1,h2⟩:=h
  obtain⟨o',g1,g2⟩:=hm i o h1
  refine⟨h0,o',g1,fun hd=>?_⟩
  rcases g2 with rfl | ⟨g2,g3,g4⟩
  ·simp[AO.live]at hd
  ·rw[g2]
   exact h2 (g4 hd)
 | .bsl i k,v,h=>by
  simp only[AR]at h ⊢
  obtain⟨h0,o,h1,h2⟩:=h
  obtain⟨o',g1,g2⟩:=hm i o h1
  refine⟨h0,o',g1,fun hd=>?_⟩
  rcases g2 with rfl | ⟨g2,g3,g4⟩
  ·simp[AO.live]at hd
  ·rw[g2]
   exact h2 (g4 hd)
 | .nils,_,h=>h
 | .elem rows r off,v,h=>by
  simp only[AR]at h ⊢
  obtain⟨es,b,o,vrows,h1,h2,h3⟩:=h
  exact⟨es,b,o,vrows,h1,Row.mono hz hs h2,An.keep hz hs (by simp) h3⟩
 | .clo f caps,v,h=>by
  simp only[AR]at h ⊢
  obtain⟨vs,h1,h2⟩:=h
  exact⟨vs,h1,ARs.keep hz hs hm h2⟩
theorem ARs.keep (hz:w.heap.size≤w'.heap.size) (hs:∀b,S b→b<w.heap.size→w'.heap[b]? = w.heap[b]?∧T b)
  (hm:∀i o,m.get i=some o→∃o',m'.get i=some o'∧(o'=.dead∨(κ' i=κ i∧o≠.dead∧(o'.live=true→o.live=true)))) :
  ∀{x:List AV} {v:List Value},ARs w S m κ x v→ARs w' T m' κ' x v
 | [],_,h=>h
 |c::cs,v,h=>by
  simp only[ARs]at h ⊢
  obtain⟨u,vs',h1,h3,h4⟩:=h
  exact⟨u,vs',h1,AR.keep hz hs hm h3,ARs.keep hz hs hm h4⟩
end
end
end
section
open Go.RowKit
structure ASt where
 slots:List AV
 mem:Mem
def ASt.slot (σ:ASt) (t:Nat):AV:=σ.slots.getD t .undef
def Mem.put:Mem→Id→AO→Mem
 | [],i,o=>[(i,o)]
 | (j,p)::r,i,o=>if j==i then (j,o)::r else (j,p)::Mem.put r i o
def Mem.puts (m:Mem):List (Id×AO)→Mem
 | []=>m
 |p::l=>Mem.puts (m.put p.1 p.2) l
structure AEff where
 rd:List Id
 wr:List (Id×AO)
 val:AV
def ASt.upd (σ:ASt) (dst:Option Tmp) (E:AEff):ASt:=⟨match dst with | some d=>σ.slots.set d E.val | none=>σ.slots,σ.mem.puts E.wr⟩
theorem Mem.get_put (m:Mem) (i j:Id) (o:AO):(m.put i o).get j=if j=i then some o else m.get j:=by
 induction m with
 |nil =>
  simp only[Mem.put,Mem.get,List.lookup_cons,List.lookup_nil]
  by_cases h:j=i
  ·simp[h]
  ·have:(j==i)=false:=by simpa using h
   simp[this,h]
 |cons p r ih =>
  obtain⟨k,p⟩:=p
  simp only[Mem.put]
  by_cases hk:k=i
  ·subst hk
   simp only[beq_self_eq_true,if_true,Mem.get,List.lookup_cons]
   by_cases hj:j=k
   ·simp[hj]
   ·have:(j==k)=false:=by simpa using hj
    simp[this,hj]
  ·have hk':(k==i)=false:=by simpa using hk
   simp only[hk',Bool.false_eq_true,if_false,Mem.get,List.lookup_cons]
   by_cases hj:j=k
   ·subst hj
    simp[hk]
   ·have:(j==k)=false:=by simpa using hj
    simp only[this]
    exact ih
theorem Mem.get_puts_out (m:Mem) (j:Id):∀(l:List (Id×AO)),j ∉ l.map (·.1)→(m.puts l).get j=m.get j:=by
 intro l
 induction l generalizing m with
 |nil=>intro _;rfl
 |cons p l ih =>
  intro h
  simp only[List.map_cons,List.mem_cons,not_or]at h
  rw[Mem.puts,ih _ h.2,Mem.get_put,if_neg h.1]
theorem Mem.get_puts_in (j:Id):∀(l:List (Id×AO)) (m:Mem),j∈l.map (·.1)→∃o,(m.puts l).get j=some o∧(j,o)∈l:=by
 intro l
 induction l with
 |nil=>intro m h;simp at h
 |cons p l ih =>
  intro m h
  by_cases hl:j∈l.map (·.1)
  ·obtain⟨o,h1,h2⟩:=ih (m.put p.1 p.2) hl
   exact⟨o,h1,by simp[h2]⟩
  ·simp only[List.map_cons,List.mem_cons]at h
   have hj:j=p.1:=by rcases h with h | h;exact h;exact absurd h hl
   refine⟨p.2,?_,by simp[hj]⟩
   rw[Mem.puts,Mem.get_puts_out _ _ _ hl,Mem.get_put,if_pos hj]
structure Ctx where
 w:World
 S:Nat→Prop
 ow:Nat→Option Id
 κ:Id→Value
 ext:List Id
def Ctx.sees (Γ:Ctx) (ow:Nat→Option Id) (b:Nat):Prop:=ow b=none∧(Γ.S b∨Γ.w.heap.size≤b∨Γ.ow b≠none)
structure RelAt (Γ:Ctx) (σ:ASt) (a:Act) (w:World) (ow:Nat→Option Id) (κ:Id→Value):Prop where
 len:a.tmps.size=σ.slots.length
 defers:a.defers=[]
 slots:∀t,AR w (Γ.sees ow) σ.mem κ (σ.slot t) (a.tmps.getD t undef)
 objs:∀i o,σ.mem.get i=some o→OR w (Γ.sees ow) σ.mem ow κ i o
 own:∀b i,ow b=some i→b<w.heap.size∧∃o,σ.mem.get i=some o∧o.live=true
 os:w.os = Γ.w.os
 tape:w.tape = Γ.w.tape
 output:w.output = Γ.w.output
 size:Γ.w.heap.size≤w.heap.size
 frame:∀b,b < Γ.w.heap.size→Γ.ow b=none→w.heap[b]? = Γ.w.heap[b]?∧ow b=none
 kap:∀i,i∈Γ.ext→κ i = Γ.κ i∧∃o,σ.mem.get i=some o
def Rel (Γ:Ctx) (σ:ASt) (a:Act) (w:World):Prop:=∃ow κ,RelAt Γ σ a w ow κ
structure Step (m:Mem) (wr:List (Id×AO)) (w:World) (ow:Nat→Option Id) (κ:Id→Value) (w':World) (ow':Nat→Option Id) (κ':Id→Value):Prop where
 os:w'.os=w.os
 tape:w'.tape=w.tape
 output:w'.output=w.output
 size:w.heap.size≤w'.heap.size
 blk:∀b,b<w.heap.size→(∀i,ow b=some i→i ∉ wr.map (·.1))→w'.heap[b]? = w.heap[b]?∧ow' b=ow b
 own:∀b i,ow' b=some i→(i ∉ wr.map (·.1)∧ow b=some i)∨(b<w'.heap.size∧∃o,(m.puts wr).get i=some o∧o.live=true∧i∈wr.map (·.1))
 kap:∀i o,m.get i=some o→κ' i=κ i
 kap':∀i,i∈wr.map (·.1)→∀o o',m.get i=some o→(m.puts wr).get i=some o'→o'=.dead∨(o≠.dead∧(o'.live=true→o.live=true))
section
variable {Γ:Ctx} {σ:ASt} {a:Act} {w w':World} {ow ow':Nat→Option Id} {κ κ':Id→Value}
theorem Step.mem {m:Mem}{wr:List (Id×AO)}(st:Step m wr w ow κ w' ow' κ'):∀i o,m.get i=some o→∃o',(m.puts wr).get i=some o'∧(o'=.dead∨(κ' i=κ i∧o≠.dead∧(o'.live=true→o.live=true))):=by
 intro i o hi
 by_cases h:i∈wr.map (·.1)
 ·obtain⟨o',h1,_⟩:=Mem.get_puts_in i wr m h
  exact⟨o',h1,(st.kap' i h o o' hi h1).imp id fun g=>⟨st.kap i o hi,g.1,g.2⟩⟩
 ·refine⟨o,by rw[Mem.get_puts_out _ _ _ h];exact hi,?_⟩
  by_cases hd:o=.dead
  ·exact .inl hd
  ·exact .inr ⟨st.kap i o hi,hd,id⟩
theorem Step.sees {m:Mem}{wr:List (Id×AO)}(st:Step m wr w ow κ w' ow' κ'):∀b,Γ.sees ow b→b<w.heap.size→w'.heap[b]? = w.heap[b]?∧Γ.sees ow' b:=fun b hb hl=>by
 have:=st.blk b hl (by intro i hi;rw[hb.1]at hi;cases hi)
 exact⟨this.1,this.2.trans hb.1,hb.2⟩
theorem OR.keep {S T:Nat→Prop}{m m':Mem}{i:Id}(hz:w.heap.size≤w'.heap.size) (hs:∀b,S b→b<w.heap.size→w'.heap[b]? = w.heap[b]?∧T b)
  (hm:∀i o,m.get i=some o→∃o',m'.get i=some o'∧(o'=.dead∨(κ' i=κ i∧o≠.dead∧(o'.live=true→o.live=true)))) (hk:κ' i=κ i)
  (hb:∀b,ow b=some i→b<w.heap.size→w'.heap[b]? = w.heap[b]?∧ow' b=some i) (hlt:∀b,ow b=some i→b<w.heap.size):∀{o:AO},OR w S m ow κ i o→OR w' T m' ow' κ' i o
 | .box cells,h=>by
  simp only[OR]at h ⊢
  obtain⟨b,vs,T',h1,h2,h3,h4,h5⟩:=h
  have:=hb b h2 (hlt b h2)
  exact⟨b,vs,T',by rw[hk,h1],this.2,this.1.trans h3,ARs.keep hz hs hm h4,h5⟩
 | .row ex es e rows,h=>by
  simp only[OR]at h ⊢
  obtain⟨vrows,bs,h1,hex,h2,h3,h4,h5⟩:=h
  rw[hk]
  refine⟨vrows,bs,An.keep hz hs (fun b hb' hl=>(hb b (h5 b (by simp[hb'])) hl).1) h1,hex,h2,CD h3 (S:=fun b=>ow b=some i) ⟨hz,fun b hb' hl=>(hb b hb' hl).1⟩ (fun b hb'=>h5 b (by simp[hb'])),h4,fun b hb'=>(hb b (h5 b hb') (hlt b (h5 b hb'))).2⟩
 | .frz rows,h=>by
  simp only[OR]at h ⊢
  rw[hk]
  exact CR.keep hz hs (by simp) h
 | .rown rows,h=>by
  simp only[OR]at h ⊢
  obtain⟨es,e,vrows,h1,h2,h3,h5⟩:=h
  rw[hk]
  exact⟨es,e,vrows,An.keep hz hs (by simp) h1,h2,CD h3 (S:=fun b=>ow b=some i) ⟨hz,fun b hb' hl=>(hb b hb' hl).1⟩ (fun b hb'=>h5 b hb'),fun b hb'=>(hb b (h5 b hb') (hlt b (h5 b hb'))).2⟩
 | .lent es e rows r off j,h=>by
  simp only[OR]at h ⊢
  obtain⟨v,vrows,bs,h1,h2,h3,h4,h5,o,h6,h7⟩:=h
  rw[hk]
  refine⟨v,vrows,bs,An.keep hz hs (fun b hb' hl=>(hb b (h5 b (by simp[hb'])) hl).1) h1,h2,CD h3 (S:=fun b=>ow b=some i) ⟨hz,fun b hb' hl=>(hb b hb' hl).1⟩ (fun b hb'=>h5 b (by simp[hb'])),h4,fun b hb'=>(hb b (h5 b hb') (hlt b (h5 b hb'))).2,?_⟩
  obtain⟨o',k1,k2⟩:=hm j o h6
  refine⟨o',k1,fun hd=>?_⟩
  rcases k2 with k2 | ⟨k2,k3,_⟩
  ·exact absurd k2 hd
  ·rw[k2]
   exact h7 k3
 | .blk R rows,h=>by
  simp only[OR]at h ⊢
  obtain⟨b,obj,vrows,h1,h2,h3,h4⟩:=h
  have:=hb b h1 (hlt b h1)
  rw[hk]
  exact⟨b,obj,vrows,this.2,this.1.trans h2,An.keep hz hs (by simp) h3,h4⟩
 | .gen R,h=>by
  simp only[OR]at h ⊢
  obtain⟨l,h1,h2⟩:=h
  rw[hk]
  refine⟨l,fun p hp=>?_,h2⟩
  have:=hb p.1 (h1 p hp).1 (hlt p.1 (h1 p hp).1)
  exact⟨this.2,this.1.trans (h1 p hp).2⟩
 | .dead,_=>trivial
theorem ASt.slot_set (l:List AV) (m m':Mem) (d t:Nat) (x:AV):(⟨l.set d x,m'⟩:ASt).slot t=if t=d∧d<l.length then x else (⟨l,m⟩:ASt).slot t:=by
 unfold ASt.slot
 simp only[List.getD,List.getElem?_set]
 by_cases h:d=t
 ·subst h
  by_cases hl:d<l.length
  ·simp[hl]
  ·simp[hl]
 ·simp[h,Ne.symm h]
theorem Kb (l:Array Value) (d t:Nat) (x:Value):(l.setIfInBounds d x).getD t undef=if t=d∧d<l.size then x else l.getD t undef:=by
 simp only[Array.getD_eq_getD_getElem?,Array.getElem?_setIfInBounds]
 by_cases h:d=t
 ·subst h
  by_cases hl:d<l.size
  ·simp[hl]
  ·simp[hl]
 ·simp[h,Ne.symm h]
theorem RelAt.step (h:RelAt Γ σ a w ow κ) {E:AEff}(st:Step σ.mem E.wr w ow κ w' ow' κ') {v:Value}(hv:AR w' (Γ.sees ow') (σ.mem.puts E.wr) κ' E.val v)
  (ho:∀i,i∈E.wr.map (·.1)→∀o,(σ.mem.puts E.wr).get i=some o→OR w' (Γ.sees ow') (σ.mem.puts E.wr) ow' κ' i o) (dst:Option Tmp):RelAt Γ (σ.upd dst E) (a.put dst v) w' ow' κ':=by
 have hz:=st.size
 have hs:=st.sees (Γ:=Γ)
 have hm:=st.mem
 refine⟨?_,?_,?_,?_,?_,st.os.trans h.os,st.tape.trans h.tape,st.output.trans h.output,Nat.le_trans h.size hz,?_,?_⟩
 ·cases dst<;>simp[ASt.upd,Act.put,h.len]
 ·cases dst<;>exact h.defers
 ·intro t
  have old:=AR.keep hz hs hm (h.slots t)
  cases dst with
  |none=>exact old
  |some d =>
   show AR w' (Γ.sees ow') (σ.mem.puts E.wr) κ' ((⟨σ.slots.set d E.val,_⟩:ASt).slot t) ((a.tmps.setIfInBounds d v).getD t undef)
   rw[ASt.slot_set _ σ.mem,Kb,h.len]
   split
   ·exact hv
   ·exact old
 ·intro i o hi
  have hi':(σ.mem.puts E.wr).get i=some o:=hi
  by_cases hin:i∈E.wr.map (·.1)
  ·exact ho i hin o hi'
  ·rw[Mem.get_puts_out _ _ _ hin]at hi'
   refine OR.keep hz hs hm (st.kap i o hi') (fun b hb hl=>?_) (fun b hb=>(h.own b i hb).1) (h.objs i o hi')
   have:=st.blk b hl (by intro j hj;rw[hb]at hj;injection hj with hj;subst hj;exact hin)
   exact⟨this.1,this.2.trans hb⟩
 ·intro b i hb
  rcases st.own b i hb with⟨h2,h3⟩ | ⟨h1,o,h2,h3,h4⟩
  ·obtain⟨g0,o,g1,g2⟩:=h.own b i h3
   exact⟨by omega,o,by show (σ.mem.puts E.wr).get i=_;rw[Mem.get_puts_out _ _ _ h2];exact g1,g2⟩
  ·exact⟨h1,o,h2,h3⟩
 ·intro b hb ho0
  obtain⟨g1,g2⟩:=h.frame b hb ho0
  have:=st.blk b (Nat.lt_of_lt_of_le hb h.size) (by intro i hi;rw[g2]at hi;cases hi)
  exact⟨this.1.trans g1,this.2.trans g2⟩
 ·intro i hi
  obtain⟨g1,o,g2⟩:=h.kap i hi
  obtain⟨o',g3,_⟩:=hm i o g2
  exact⟨(st.kap i o g2).trans g1,o',g3⟩
theorem Step.idle (m:Mem) (w:World) (ow:Nat→Option Id) (κ:Id→Value):Step m [] w ow κ w ow κ :=
 ⟨rfl,rfl,rfl,Nat.le_refl _,fun _ _ _=>⟨rfl,rfl⟩,fun b i hb=>.inl ⟨by simp,hb⟩,fun _ _ _=>rfl,fun i hi=>by simp at hi⟩
theorem RelAt.pure (h:RelAt Γ σ a w ow κ) {rd:List Id}{x:AV}{v:Value}(hv:AR w (Γ.sees ow) σ.mem κ x v) (dst:Option Tmp):RelAt Γ (σ.upd dst ⟨rd,[],x⟩) (a.put dst v) w ow κ :=
 h.step (E:=⟨rd,[],x⟩) (Step.idle _ _ _ _) hv (fun i hi=>by simp at hi) dst
theorem RelAt.drawn (h:RelAt Γ σ a w ow κ) (n:Nat):RelAt Γ σ a { w with drawn:=n } ow κ:=by
 have hs:∀b,Γ.sees ow b→b<w.heap.size→({ w with drawn:=n }:World).heap[b]? = w.heap[b]?∧Γ.sees ow b:=fun b hb _=>⟨rfl,hb⟩
 have hm:∀i o,σ.mem.get i=some o→∃o',σ.mem.get i=some o'∧(o'=.dead∨(κ i=κ i∧o≠.dead∧(o'.live=true→o.live=true))):=fun i o hi=>⟨o,hi,by
  by_cases hd:o=.dead
  ·exact .inl hd
  ·exact .inr ⟨rfl,hd,id⟩⟩
 exact⟨h.len,h.defers,fun t=>AR.keep (w:=w) (w':={ w with drawn:=n }) (Nat.le_refl _) hs hm (h.slots t),fun i o hi=>OR.keep (w:=w) (w':={ w with drawn:=n }) (Nat.le_refl _) hs hm rfl (fun b hb _=>⟨rfl,hb⟩) (fun b hb=>(h.own b i hb).1) (h.objs i o hi),h.own,h.os,h.tape,h.output,h.size,h.frame,h.kap⟩
def vA:Value→AV
 | .int k n=>.c (.int k n)
 | .bool b=>.c (.bool b)
 | .string s=>.c (.str s)
 | .slice none 0 0=>.nils
 | .agg cs=>.agg (cs.toList.map fun
  | .int k n=>.c (.int k n)
  | .bool b=>.c (.bool b)
  | .string s=>.c (.str s)
  | .slice none 0 0=>.nils
  |v=>if v.oneCell' then .c (.raw v) else .undef)
 | .tuple _=>.undef
 |v=>.c (.raw v)
def Tw (v:Value):Bool:=match v with | .agg cs=>cs.toList.all (·.oneCell') | _=>true
def ASt.ev (σ:ASt):Operand→AV
 | .tmp t=>σ.slot t
 | .const v=>if Tw v then vA v else .undef
 | .global g=>.c (.raw (.pointer (some ⟨g,0,none⟩)))
 | .func f=>.clo f []
theorem Uh {w:World}{S:Nat→Prop}{m:Mem}{κ:Id→Value}:∀(l:List Value),(∀v∈l,v.oneCell'=true)→ARs w S m κ (l.map fun
  | .int k n=>.c (.int k n)
  | .bool b=>.c (.bool b)
  | .string s=>.c (.str s)
  | .slice none 0 0=>.nils
  |v=>if v.oneCell' then .c (.raw v) else .undef) l
 | [],_=>rfl
 |v::l,h=>by
  refine⟨v,l,rfl,?_,Uh l fun u hu=>h u (by simp[hu])⟩
  have hv:=h v (by simp)
  dsimp only
  split
  ·exact⟨rfl,rfl⟩
  ·exact⟨rfl,rfl⟩
  ·exact⟨rfl,rfl⟩
  ·rfl
  ·rw[if_pos hv]
   exact⟨rfl,hv,rfl⟩
theorem a1o {w:World}{S:Nat→Prop}{m:Mem}{κ:Id→Value}(v:Value) (h:Tw v=true):AR w S m κ (vA v) v:=by
 unfold vA
 split
 ·exact⟨rfl,rfl⟩
 ·exact⟨rfl,rfl⟩
 ·exact⟨rfl,rfl⟩
 ·rfl
 ·rename_i cs
  have h':∀v∈cs.toList,v.oneCell'=true:=List.all_eq_true.1 h
  exact⟨cs.toList,by simp,Uh _ h',h'⟩
 ·trivial
 ·rename_i h1 h2 h3 h4 h5 h6
  refine⟨rfl,?_,rfl⟩
  cases v<;>first | rfl | (exact absurd rfl (h5 _)) | (exact absurd rfl (h6 _))
theorem RelAt.ev (h:RelAt Γ σ a w ow κ) (x:Operand):AR w (Γ.sees ow) σ.mem κ (σ.ev x) (a.eval x):=by
 cases x with
 |tmp t=>exact h.slots t
 |const v =>
  simp only[ASt.ev,Act.eval]
  split
  ·rename_i hv;exact a1o v hv
  ·trivial
 |global g=>exact⟨rfl,rfl,rfl⟩
 |func f=>exact⟨[],rfl,rfl⟩
end
end
section
open Go.RowKit
inductive TI where
 |int (k:IntKind)
 |bool
 |str
 |sl (e:TypeId)
 |ptr (e:TypeId)
 |st (fs:List (TypeId×Nat))
 |arr
 |func
 |other
def TI.of:TypeDesc→TI
 | .int k=>.int k
 | .bool=>.bool
 | .string=>.str
 | .slice e=>.sl e
 | .pointer e=>.ptr e
 | .struct fs=>.st (fs.toList.map fun f=>(f.type,f.offset))
 | .array _ _=>.arr
 | .func _ _ _=>.func
 |_=>.other
def TI.agg:TI→Option Bool
 | .st _=>some true
 | .arr=>none
 |_=>some false
structure TIn where
 ti:TI
 size:Nat
 bytes:Nat
 zero:Option Value
def tin (P:Program) (t:TypeId):Option TIn :=
 match P.underlying t,P.info? t with
 |some d,some i=>some ⟨TI.of d,i.size,i.bytes,i.zero⟩
 |_,_=>none
def AV.cells:AV→Option (List AV)
 | .agg xs=>some xs
 | .undef=>none
 | .skip=>none
 | .tup _=>none
 |x=>some [x]
def Lx (z:Option Value):Option (List AV) :=
 match z with
 |some v=>if Tw v then (vA v).cells else none
 |none=>none
def Ie:List AV→Option (List C)
 | []=>some []
 | .c x::xs=>(Ie xs).map (x::·)
 | .nils::xs=>(Ie xs).map (.sl []::·)
 |_::_=>none
def AV.toC (get:Id→Option AO):AV→Option (C×Option Id×List Id)
 | .c x=>some (x,none,[])
 | .nils=>some (.sl [],none,[])
 | .own i=>match get i with
  |some (.row _ _ _ rows)=>some (.osl rows,some i,[i])
  |some (.frz rows)=>some (.sl rows,none,[i])
  |_=>none
 | .ptr i 0=>match get i with
  |some (.box cells)=>(Ie cells).map fun cs=>(.oref cs,some i,[i])
  |_=>none
 | .elem [row] 0 0=>some (.ref row,none,[])
 | .clo f []=>some (.raw (.func (.func f) #[] #[]),none,[])
 |_=>none
def OI (get:Id→Option AO):List AV→Option (List C×List Id×List Id)
 | []=>some ([],[],[])
 |x::xs=>match x.toC get,OI get xs with
  |some (c,i,rd),some (cs,is,rds)=>some (c::cs,i.toList++is,rd++rds)
  |_,_=>none
def Qm (get:Id→Option AO) (es:Nat):List AV→Option (List (List C)×List Id×List Id)
 | []=>some ([],[],[])
 |x::xs=>match x.cells,Qm get es xs with
  |some l,some (cs,is,rds)=>match OI get l with
   |some (c,js,rd)=>if l.length=es then some (c::cs,js++is,rd++rds) else none
   |none=>none
  |_,_=>none
def Qf (row:List C) (off n:Nat):Bool→Option AV
 |true=>if off+n≤row.length then some (.agg (((row.drop off).take n).map .c)) else none
 |false=>(row[off]?).map .c
def Gz (cells:List AV) (off n:Nat):Bool→Option AV
 |true=>if off+n≤cells.length then some (.agg ((cells.drop off).take n)) else none
 |false=>cells[off]?
def EN (P:Program) (get:Id→Option AO) (ty:TypeId) (x:AV):Option AEff :=
 match tin P ty with
 |some ⟨ti,size,_,_⟩=>match ti.agg with
  |some g=>match x with
   | .ptr i off=>match get i with
    |some (.box cells)=>(Gz cells off size g).map fun v=>⟨[i],[],v⟩
    |_=>none
   | .rptr i es r off=>match get i with
    |some (.row false es' _ rows)=>match rows[r]? with
     |some row=>if es'=es∧row.length=es then (Qf row off size g).map fun v=>⟨[i],[],v⟩ else none
     |none=>none
    |_=>none
   | .elem rows r off=>match rows[r]? with
    |some row=>(Qf row off size g).map fun v=>⟨[],[],v⟩
    |none=>none
   |_=>none
  |none=>none
 |none=>none
def C4 {α:Type}(l:List α) (off:Nat) (xs:List α):List α:=l.take off++xs++l.drop (off+xs.length)
def AV.toS (get:Id→Option AO):AV→Option (C×List (Id×AO)×List Id)
 | .c x=>some (x,[],[])
 | .nils=>some (.sl [],[],[])
 | .own i=>match get i with
  |some (.row false _ _ rows)=>some (.sl rows,[(i,.frz rows)],[])
  |some (.frz rows)=>some (.sl rows,[],[i])
  |_=>none
 | .clo f []=>some (.raw (.func (.func f) #[] #[]),[],[])
 |_=>none
def Zo (get:Id→Option AO):List AV→Option (List C×List (Id×AO)×List Id)
 | []=>some ([],[],[])
 |x::xs=>match x.toS get,Zo get xs with
  |some (c,i,rd),some (cs,is,rds)=>some (c::cs,i++is,rd++rds)
  |_,_=>none
def Gc (P:Program) (get:Id→Option AO) (ty:TypeId) (x y:AV):Option AEff :=
 match tin P ty,y.cells with
 |some ⟨_,size,_,_⟩,some xs=>if xs.length=size∧xs.all AV.isCell then
  match x with
   | .ptr i off=>match get i with
    |some (.box cells)=>if off+size≤cells.length then some ⟨[],[(i,.box (C4 cells off xs))],.skip⟩ else none
    |_=>none
   | .rptr i es r off=>match get i,Zo get xs with
    |some (.row false es' e rows),some (cs,[],rd)=>match rows[r]? with
     |some row=>if es'=es∧row.length=es∧off+size≤es then some ⟨rd,[(i,.row false es e (rows.set r (C4 row off cs)))],.skip⟩ else none
     |none=>none
    |_,_=>none
   |_=>none
  else none
 |_,_=>none
def PP (o:Option AO):Bool:=match o with | some (.box _)=>true | _=>false
def PR (o:Option AO):Bool:=match o with | some (.row ..)=>true | _=>false
def KT (P:Program) (get:Id→Option AO) (ty:TypeId) (f:Nat) (x:AV):Option AEff :=
 match tin P ty with
 |some ⟨.st fs,_,_,_⟩=>match fs[f]? with
  |some (t,off)=>match tin P t with
   |some ⟨_,size,_,_⟩=>if size=0 then none else
    match x with
    | .ptr i o=>if PP (get i) then some ⟨[i],[],.ptr i (o+off)⟩ else none
    | .rptr i es r o=>if PR (get i) then some ⟨[i],[],.rptr i es r (o+off)⟩ else none
    | .elem rows r o=>some ⟨[],[],.elem rows r (o+off)⟩
    |_=>none
   |none=>none
  |none=>none
 |_=>none
def Je (P:Program) (ty:TypeId) (f:Nat) (x:AV):Option AV :=
 match tin P ty with
 |some ⟨.st fs,_,_,_⟩=>match fs[f]? with
  |some (t,off)=>match tin P t,x with
   |some ⟨ti,size,_,_⟩,.agg xs=>match ti.agg with
    |some g=>Gz xs off size g
    |none=>none
   |_,_=>none
  |none=>none
 |_=>none
def A8 (rows:List (List C)) (es:Nat) (n:Int):Bool:=decide (0≤n)&&((rows[n.toNat]?).map (·.length)==some es)
def FK (P:Program) (get:Id→Option AO) (ty:TypeId) (x i:AV):Option AEff :=
 match tin P ty,i with
 |some ⟨.sl e,_,_,_⟩,.c (.int _ n)=>match tin P e with
  |some ⟨_,size,_,_⟩=>match x with
   | .own j=>match get j with
    |some (.row _ es _ rows)=>if es=size∧A8 rows size n then some ⟨[j],[],.rptr j size n.toNat 0⟩ else none
    |some (.frz rows)=>if A8 rows size n then some ⟨[j],[],.elem rows n.toNat 0⟩ else none
    |_=>none
   | .c (.sl rows)=>if A8 rows size n then some ⟨[],[],.elem rows n.toNat 0⟩ else none
   |_=>none
  |none=>none
 |_,_=>none
def KU (P:Program) (ty:TypeId) (x i:AV):Option AV :=
 match tin P ty,x,i with
 |some ⟨.str,_,_,_⟩,.c (.str s),.c (.int _ n)=>if 0≤n then (s[n.toNat]?).map fun b=>.c (.int .u8 b.toNat) else none
 |_,_,_=>none
def AV.isStr:AV→Bool
 | .c (.str _)=>true
 |_=>false
theorem AV.isStr_some {x:AV}(h:x.isStr=true):∃q,x=.c (.str q):=by
 unfold AV.isStr at h
 split at h
 ·exact⟨_,rfl⟩
 ·cases h
def Nu (get:Id→Option AO) (x:AV):Option AEff :=
 match x with
 | .c (.str s)=>some ⟨[],[],.c (.int .i64 s.size)⟩
 | .c (.sl rows)=>some ⟨[],[],.c (.int .i64 rows.length)⟩
 | .nils=>some ⟨[],[],.c (.int .i64 0)⟩
 | .own i=>match get i with
  |some (.row _ _ _ rows)=>some ⟨[i],[],.c (.int .i64 rows.length)⟩
  |some (.frz rows)=>some ⟨[i],[],.c (.int .i64 rows.length)⟩
  |_=>none
 |_=>none
def LG (op:BinOp) (x y:AV):Option AV :=
 match x,y with
 | .c (.int k a),.c (.int k' b)=>if k=k' then
   match op with
   | .add=>some (.c (.int k (k.wrap (a+b))))
   | .sub=>some (.c (.int k (k.wrap (a-b))))
   | .mul=>some (.c (.int k (k.wrap (a*b))))
   | .quo=>if b=0 then none else some (.c (.int k (k.wrap (a.tdiv b))))
   | .rem=>if b=0 then none else some (.c (.int k (a.tmod b)))
   | .eql=>some (.c (.bool (a==b)))
   | .neq=>some (.c (.bool (a != b)))
   | .lss=>some (.c (.bool (decide (a<b))))
   | .leq=>some (.c (.bool (decide (a≤b))))
   | .gtr=>some (.c (.bool (decide (a>b))))
   | .geq=>some (.c (.bool (decide (a≥b))))
   |_=>none
  else none
 | .c (.str a),.c (.str b) =>
   match op with
   | .add=>if a.size+b.size≤9223372036854775807 then some (.c (.str (a++b))) else none
   | .eql=>some (.c (.bool (a.toList==b.toList)))
   | .neq=>some (.c (.bool (!(a.toList==b.toList))))
   | .lss=>some (.c (.bool (Op.bytesLess a.toList b.toList)))
   | .leq=>some (.c (.bool (Op.bytesLess a.toList b.toList||a.toList==b.toList)))
   | .gtr=>some (.c (.bool (!(Op.bytesLess a.toList b.toList||a.toList==b.toList))))
   | .geq=>some (.c (.bool (!(Op.bytesLess a.toList b.toList))))
   |_=>none
 |_,_=>none
def JG (op:BinOp) (b:Bool):Option AV :=
 match op with
 | .eql=>some (.c (.bool b))
 | .neq=>some (.c (.bool (!b)))
 |_=>none
def LH (P:Program) (op:BinOp) (ty:TypeId) (x y:AV):Option AV :=
 match tin P ty with
 |some ⟨.sl _,_,_,_⟩=>match x,y with
  | .nils,.nils=>JG op true
  | .c (.sl rows),.nils=>bif rows.isEmpty then none else JG op false
  |_,_=>none
 |some ⟨.bool,_,_,_⟩=>match x,y with
  | .c (.bool a),.c (.bool b)=>JG op (a==b)
  |_,_=>none
 |some ⟨.ptr _,_,_,_⟩=>match x,y with
  | .c (.raw (.pointer none)),.c (.raw (.pointer none))=>JG op true
  | .c (.ref _),.c (.raw (.pointer none))=>JG op false
  | .elem _ _ _,.c (.raw (.pointer none))=>JG op false
  |_,_=>none
 |_=>none
def WH (op:UnOp) (x:AV):Option AV :=
 match op,x with
 | .not,.c (.bool b)=>some (.c (.bool (!b)))
 | .neg,.c (.int k n)=>some (.c (.int k (k.wrap (0-n))))
 |_,_=>none
def Jd (P:Program) (get:Id→Option AO) (fr:Id) (ty:TypeId) (s x:AV):Option AEff :=
 match tin P ty with
 |some ⟨.sl e,_,_,_⟩=>match tin P e with
  |some ⟨_,size,bytes,some z⟩=>if z.cells.size=size∧0<size∧bytes≤200 then
   let news:Option (List (List C)×Bool×List Id×List (Id×AO)):=match x with
    | .c (.sl rows)=>some (rows,false,[],[])
    | .nils=>some ([],false,[],[])
    | .own j=>match get j with
     |some (.row true _ _ rows)=>some (rows,true,[],[(j,.dead)])
     |some (.row false _ _ rows)=>some (rows,false,[j],[])
     |some (.frz rows)=>some (rows,false,[j],[])
     |_=>none
    |_=>none
   let olds:Option (List (List C)×Bool×List (Id×AO)):=match s with
    | .nils=>some ([],false,[])
    | .own i=>match get i with
     |some (.row ex es e' rows)=>if es=size∧e'=e then some (rows,ex,[(i,.dead)]) else none
     |_=>none
    |_=>none
   match olds,news with
   |some (xs,ex,ki),some (ys,ey,rd,kj) =>
    if xs.length+ys.length≤1000000∧(ys.all fun r=>r.length==size)∧(∀p∈ki,p.1 ∉ kj.map (·.1)∧p.1 ∉ rd) then
     some ⟨rd,ki++kj++[(fr,.row (ex||ey) size e (xs++ys))],.own fr⟩
    else none
   |_,_=>none
   else none
  |_=>none
 |_=>none
def NA (P:Program) (fs:List (TypeId×Nat)) (ev:Operand→AV):List AV→List (Nat×Operand)→Option (List AV)
 |cells,[]=>some cells
 |cells,(i,x)::rest=>match fs[i]? with
  |some (t,off)=>match tin P t,(ev x).cells with
   |some ⟨_,size,_,_⟩,some xs=>if xs.length=size∧off+size≤cells.length∧xs.all AV.isCell then NA P fs ev (C4 cells off xs) rest else none
   |_,_=>none
  |none=>none
def KR (P:Program) (ev:Operand→AV) (ty:TypeId) (parts:List (Nat×Operand)):Option AV :=
 match tin P ty with
 |some ⟨.st fs,_,_,z⟩=>match Lx z with
  |some cells=>if fs.all fun f=>(tin P f.1).isSome then (NA P fs ev cells parts).map .agg else none
  |none=>none
 |_=>none
def Fg (P:Program) (ev:Operand→AV) (get:Id→Option AO) (fr:Id) (ty:TypeId) (len:Nat) (parts:List (Nat×Operand)):Option AEff :=
 match tin P ty with
 |some ⟨.sl e,_,_,_⟩=>match tin P e with
  |some ⟨_,size,_,some z⟩ =>
   if parts.map (·.1)=List.range len∧len≤1000∧0<size∧size≤1000∧z.cells.size=size then
    match Qm get size (parts.map fun p=>ev p.2) with
    |some (rows,is,rd)=>if is.Nodup∧(∀i∈is,i≠fr) then some ⟨rd,is.map (fun i=>(i,.dead))++[(fr,.row (!is.isEmpty) size e rows)],.own fr⟩ else none
    |none=>none
   else none
  |_=>none
 |_=>none
def IK (ev:Operand→AV) (fn:Fn) (first caps:List Operand):Option AEff :=
 match fn,first with
 | .func f,[]=>some ⟨[],[],.clo f (caps.map ev)⟩
 |_,_=>none
def QP (P:Program) (ev:Operand→AV) (get:Id→Option AO) (fr:Id) (callee:Callee) (args:List Operand) (tys:List TypeId):Option AEff :=
 match callee with
 | .builtin .len=>match args,tys with
  | [x],[ty]=>match tin P ty with
   |some ⟨.sl _,_,_,_⟩=>if !(ev x).isStr then Nu get (ev x) else none
   |some ⟨.str,_,_,_⟩=>if (ev x).isStr then Nu get (ev x) else none
   |_=>none
  |_,_=>none
 | .builtin .append=>match args,tys with
  | [s,x],[ty,ty']=>match get fr with
   |none=>if ty=ty' then Jd P get fr ty (ev s) (ev x) else none
   |_=>none
  |_,_=>none
 |_=>none
def eff (P:Program) (ev:Operand→AV) (get:Id→Option AO) (fr:Id) (o:Oper):Option AEff :=
 match o.op with
 | .move x | .assign x=>some ⟨[],[],ev x⟩
 | .pick c a b=>match ev c with
  | .c (.bool t)=>match ev a,ev b with
   | .c (.bool x),.c (.bool y)=>some ⟨[],[],.c (.bool (bif t then x else y))⟩
   |x,y=>some ⟨[],[],bif t then x else y⟩
  |_=>none
 | .alloc ty=>match tin P ty with
  |some ⟨_,_,_,z⟩=>match Lx z,get fr with
   |some cells,none=>some ⟨[],[(fr,.box cells)],.ptr fr 0⟩
   |_,_=>none
  |none=>none
 | .box _ x=>match (ev x).cells,get fr with
  |some cells,none=>if cells.all AV.isCell then some ⟨[],[(fr,.box cells)],.ptr fr 0⟩ else none
  |_,_=>none
 | .load ty x=>EN P get ty (ev x)
 | .store ty x y=>Gc P get ty (ev x) (ev y)
 | .fieldAddr ty x f=>KT P get ty f (ev x)
 | .field ty x f=>(Je P ty f (ev x)).map fun v=>⟨[],[],v⟩
 | .indexAddr ty x i=>FK P get ty (ev x) (ev i)
 | .index ty x i=>(KU P ty (ev x) (ev i)).map fun v=>⟨[],[],v⟩
 | .nilCheck x=>match ev x with
  | .ptr i o=>if PP (get i) then some ⟨[i],[],.ptr i o⟩ else none
  | .rptr i es r o=>if PR (get i) then some ⟨[i],[],.rptr i es r o⟩ else none
  | .elem rows r o=>some ⟨[],[],.elem rows r o⟩
  | .c (.ref row)=>some ⟨[],[],.elem [row] 0 0⟩
  |_=>none
 | .binOp op ty x y _=>match LG op (ev x) (ev y) with
  |some v=>some ⟨[],[],v⟩
  |none=>(LH P op ty (ev x) (ev y)).map fun v=>⟨[],[],v⟩
 | .unOp op _ x=>(WH op (ev x)).map fun v=>⟨[],[],v⟩
 | .extract x i=>match ev x with
  | .tup xs=>(xs[i]?).map fun v=>⟨[],[],v⟩
  |_=>none
 | .build ty parts=>(KR P ev ty parts.toList).map fun v=>⟨[],[],v⟩
 | .buildSlice ty len parts=>match get fr with
  |none=>Fg P ev get fr ty len parts.toList
  |_=>none
 | .makeFunc fn first caps=>IK ev fn first.toList caps.toList
 | .call c=>QP P ev get fr c.callee c.args.toList c.argTypes.toList
 | .convert src dst x=>match tin P src,tin P dst,ev x with
  |some _,some ⟨.int k,_,_,_⟩,.c (.int _ n)=>some ⟨[],[],.c (.int k (k.wrap n))⟩
  |some ⟨.str,_,_,_⟩,some ⟨.str,_,_,_⟩,.c (.str s)=>some ⟨[],[],.c (.str s)⟩
  |_,_,_=>none
 |_=>none
end
section
open Go.RowKit
def Gy (σ' σ:ASt) (o:Oper) (E:AEff):Prop:=(∀x,x∈o.op.operands→σ'.ev x=σ.ev x)∧(∀i,i∈E.rd→σ'.mem.get i=σ.mem.get i)∧∀i,i∈E.wr.map (·.1)→σ'.mem.get i=σ.mem.get i
def AB (P:Program) (o:Oper) (σ:ASt) (E:AEff):Prop:=∀Γ σ' a w ow κ,Gy σ' σ o E→RelAt Γ σ' a w ow κ →
 ∃v w' ow' κ',((execOp a.eval o).run P w=.ok (.value v) w'∨((execOp a.eval o).run P w=.ok .skip w'∧v=undef))∧RelAt Γ (σ'.upd o.dst E) (a.put o.dst v) w' ow' κ'
def FG (P:Program) (o:Oper) (σ:ASt) (E:AEff):Prop:=∀Γ σ' a w,Gy σ' σ o E→Rel Γ σ' a w→∀K Q,(∀a' w',Rel Γ (σ'.upd o.dst E) a' w'→K a' w')→o.wp P a w K Q
theorem AB.sound {P:Program}{o:Oper}{σ:ASt}{E:AEff}(h:AB P o σ E):FG P o σ E:=by
 intro Γ σ' a w hag ⟨ow,κ,hr⟩ K Q hK
 obtain⟨v,w',ow',κ',hrun,hr'⟩:=h Γ σ' a w ow κ hag hr
 unfold Oper.wp
 rcases hrun with hrun | ⟨hrun,rfl⟩
 ·rw[hrun];exact hK _ _ ⟨ow',κ',hr'⟩
 ·rw[hrun];exact hK _ _ ⟨ow',κ',hr'⟩
section
variable {P:Program} {o:Oper} {σ:ASt} {rd:List Id} {x:AV}
theorem AB.pure (h:∀Γ σ' a w ow κ,Gy σ' σ o ⟨rd,[],x⟩→RelAt Γ σ' a w ow κ→∃v,(execOp a.eval o).run P w=.ok (.value v) w∧AR w (Γ.sees ow) σ'.mem κ x v):AB P o σ ⟨rd,[],x⟩:=by
 intro Γ σ' a w ow κ hag hr
 obtain⟨v,h1,h2⟩:=h Γ σ' a w ow κ hag hr
 exact⟨v,w,ow,κ,.inl h1,hr.pure h2 o.dst⟩
theorem TM {y:Operand}(ho:o.op=.move y∨o.op=.assign y):AB P o σ ⟨[],[],σ.ev y⟩:=by
 refine AB.pure fun Γ σ' a w ow κ hag hr=>?_
 rcases ho with ho | ho
 ·refine⟨a.eval y,by unfold execOp;rw[ho];rfl,?_⟩
  rw[←hag.1 y (by rw[ho];simp[Op.operands])]
  exact hr.ev y
 ·refine⟨a.eval y,by unfold execOp;rw[ho];rfl,?_⟩
  rw[←hag.1 y (by rw[ho];simp[Op.operands])]
  exact hr.ev y
theorem AR.bool {w:World}{S:Nat→Prop}{m:Mem}{κ:Id→Value}{b:Bool}{v:Value}(h:AR w S m κ (.c (.bool b)) v):v=.bool b:=h.1
theorem AR.int {w:World}{S:Nat→Prop}{m:Mem}{κ:Id→Value}{k:IntKind}{b:Int}{v:Value}(h:AR w S m κ (.c (.int k b)) v):v=.int k b:=h.1
theorem AR.str {w:World}{S:Nat→Prop}{m:Mem}{κ:Id→Value}{b:ByteArray}{v:Value}(h:AR w S m κ (.c (.str b)) v):v=.string b:=h.1
theorem TO {c y z:Operand}{t:Bool}(ho:o.op=.pick c y z) (hc:σ.ev c=.c (.bool t)):AB P o σ ⟨[],[],bif t then σ.ev y else σ.ev z⟩:=by
 refine AB.pure fun Γ σ' a w ow κ hag hr=>?_
 have h1:=hr.ev c
 rw[hag.1 c (by rw[ho];simp[Op.operands]),hc]at h1
 have h2:=h1.bool
 refine⟨if t then a.eval y else a.eval z,by unfold execOp;rw[ho];simp[h2,asBool],?_⟩
 have hy:=hr.ev y
 have hz:=hr.ev z
 rw[hag.1 y (by rw[ho];simp[Op.operands])]at hy
 rw[hag.1 z (by rw[ho];simp[Op.operands])]at hz
 cases t
 ·exact hz
 ·exact hy
theorem Z8 {c y z:Operand}{t p q:Bool}(ho:o.op=.pick c y z) (hc:σ.ev c=.c (.bool t)) (hy:σ.ev y=.c (.bool p)) (hz:σ.ev z=.c (.bool q)):AB P o σ ⟨[],[],.c (.bool (bif t then p else q))⟩:=by
 have:=TO (P:=P) ho hc
 rw[hy,hz]at this
 cases t<;>exact this
theorem BE {ty:TypeId}{x:TIn}(h:tin P ty=some x):∃d i,P.underlying ty=some d∧P.info? ty=some i∧x=⟨TI.of d,i.size,i.bytes,i.zero⟩:=by
 unfold tin at h
 split at h
 ·rename_i d i h1 h2
  exact⟨d,i,h1,h2,by simpa using h.symm⟩
 ·cases h
theorem Lu {d:TypeDesc}{g:Bool}(h:(TI.of d).agg=some g) {ty:TypeId}(hu:P.underlying ty=some d) (w:World):(isAgg ty).run P w=.ok g w:=by
 unfold isAgg
 rw[Sem.run_bind,run_underlying hu w]
 cases d<;>simp_all [TI.of,TI.agg]
theorem Zm {d:TypeDesc}(h:(TI.of d).agg=some true):d.isRow=true:=by
 cases d<;>simp_all [TI.of,TI.agg]
theorem GW {ty e:TypeId}{s b:Nat}{z:Option Value}(h:tin P ty=some ⟨.sl e,s,b,z⟩):P.underlying ty=some (.slice e):=by
 obtain⟨d,i,h1,h2,h3⟩:=BE h
 rw[h1]
 simp only[TIn.mk.injEq]at h3
 have:=h3.1
 cases d<;>simp[TI.of]at this
 rw[this]
theorem a1g {ty:TypeId}{s b:Nat}{z:Option Value}(h:tin P ty=some ⟨.bool,s,b,z⟩):P.underlying ty=some .bool:=by
 obtain⟨d,i,h1,h2,h3⟩:=BE h
 rw[h1]
 simp only[TIn.mk.injEq]at h3
 have:=h3.1
 cases d<;>simp[TI.of]at this
 rfl
theorem a5r {ty:TypeId}{ti:TI}{s b:Nat}{z:Option Value}(h:tin P ty=some ⟨ti,s,b,z⟩):(P.info? ty).map (·.size)=some s:=by
 obtain⟨d,i,h1,h2,h3⟩:=BE h
 simp only[TIn.mk.injEq]at h3
 rw[h2,h3.2.1];rfl
theorem Dv {ty:TypeId}{ti:TI}{s b:Nat}{z:Option Value}(h:tin P ty=some ⟨ti,s,b,z⟩) (w:World):(sizeOf ty).run P w=.ok s w:=by
 obtain⟨d,i,h1,h2,h3⟩:=BE h
 simp only[TIn.mk.injEq]at h3
 simp[sizeOf,typeInfo,h2,h3.2.1]
theorem Gt {ty:TypeId}{ti:TI}{s b:Nat}{z:Value}(h:tin P ty=some ⟨ti,s,b,some z⟩) (w:World):(zeroValue ty).run P w=.ok z w:=by
 obtain⟨d,i,h1,h2,h3⟩:=BE h
 simp only[TIn.mk.injEq]at h3
 simp[zeroValue,typeInfo,h2,←h3.2.2.2]
theorem RO {ty:TypeId}{d:TypeDesc}{i:TypeInfo}(hu:P.underlying ty=some d) (hi:P.info? ty=some i) {g:Bool}(hg:(TI.of d).agg=some g) {w:World}{b o:Nat}{vs:List Value}(hc:w.rangeAt b o vs) {off:Nat} :
  (g=true→off+i.size≤vs.length→(loadVar ty ⟨b,o+off,none⟩).run P w=.ok (.agg ((vs.drop off).take i.size).toArray) w) ∧
  (g=false→∀v,vs[off]? = some v→(loadVar ty ⟨b,o+off,none⟩).run P w=.ok v w):=by
 refine⟨fun hgt hl=>?_,fun hgf v hv=>?_⟩
 ·subst hgt
  have hlen:((vs.drop off).take i.size).length=i.size:=by simp;omega
  refine run_loadVar_mid w b (o+off) ty _ d (fun j v hv=>?_) hu (Zm hg) (by rw[hi,hlen];rfl)
  have hj:j<i.size:=by rw[←hlen];exact (List.getElem?_eq_some_iff.1 hv).1
  rw[List.getElem?_take,if_pos hj,List.getElem?_drop]at hv
  rw[Nat.add_assoc]
  exact hc _ _ hv
 ·subst hgf
  have:=hc _ _ hv
  simp[loadVar,Lu hg hu w,this]
theorem ARs.at_ {w:World}{S:Nat→Prop}{m:Mem}{κ:Id→Value}:∀{xs:List AV}{vs:List Value},ARs w S m κ xs vs→∀{i:Nat}{x:AV},xs[i]? = some x→∃v,vs[i]? = some v∧AR w S m κ x v
 | [],_,_,i,x,h=>by simp at h
 |y::ys,vs,h,i,x,hi=>by
  simp only[ARs]at h
  obtain⟨u,us,rfl,h1,h2⟩:=h
  cases i with
  |zero=>simp only[List.getElem?_cons_zero,Option.some.injEq]at hi;subst hi;exact⟨u,rfl,h1⟩
  |succ i =>
   simp only[List.getElem?_cons_succ]at hi
   obtain⟨v,g1,g2⟩:=ARs.at_ h2 hi
   exact⟨v,by simpa using g1,g2⟩
theorem ARs.drop {w:World}{S:Nat→Prop}{m:Mem}{κ:Id→Value}:∀{xs:List AV}{vs:List Value}(n:Nat),ARs w S m κ xs vs→ARs w S m κ (xs.drop n) (vs.drop n)
 | [],_,n,h=>by simp only[ARs]at h;subst h;simp[ARs]
 |y::ys,vs,0,h=>h
 |y::ys,vs,n+1,h=>by
  simp only[ARs]at h
  obtain⟨u,us,rfl,h1,h2⟩:=h
  exact ARs.drop n h2
theorem ARs.take {w:World}{S:Nat→Prop}{m:Mem}{κ:Id→Value}:∀{xs:List AV}{vs:List Value}(n:Nat),ARs w S m κ xs vs→ARs w S m κ (xs.take n) (vs.take n)
 | [],_,n,h=>by simp only[ARs]at h;subst h;simp[ARs]
 |y::ys,vs,0,h=>by simp[ARs]
 |y::ys,vs,n+1,h=>by
  simp only[ARs]at h
  obtain⟨u,us,rfl,h1,h2⟩:=h
  exact⟨u,us.take n,rfl,h1,ARs.take n h2⟩
theorem ARs.append {w:World}{S:Nat→Prop}{m:Mem}{κ:Id→Value}:∀{xs ys:List AV}{vs us:List Value},ARs w S m κ xs vs→ARs w S m κ ys us→ARs w S m κ (xs++ys) (vs++us)
 | [],_,_,_,h,h'=>by simp only[ARs]at h;subst h;exact h'
 |y::ys,zs,vs,us,h,h'=>by
  simp only[ARs]at h
  obtain⟨u,us',rfl,h1,h2⟩:=h
  exact⟨u,us'++us,rfl,h1,ARs.append h2 h'⟩
theorem ARs.of_CRs {w:World}{S:Nat→Prop}{m:Mem}{κ:Id→Value}:∀{xs:List C}{vs:List Value},CRs w S xs vs []→ARs w S m κ (xs.map .c) vs
 | [],_,h=>by simp only[CRs]at h;exact h.1
 |y::ys,vs,h=>by
  simp only[CRs]at h
  obtain⟨u,us,b1,b2,rfl,hb,h1,h2⟩:=h
  have:=List.append_eq_nil_iff.1 hb.symm
  rw[this.1]at h1
  rw[this.2]at h2
  exact⟨u,us,rfl,h1,ARs.of_CRs h2⟩
theorem CRs.of_nil {w:World}{S:Nat→Prop}{xs:List C}{vs:List Value}{b:List Nat}(h:CRs w S xs vs b) (hb:∀k,k∈b→k∈([]:List Nat)):CRs w S xs vs []:=by
 have:b=[]:=by cases b with | nil=>rfl | cons k b=>exact absurd (hb k (by simp)) (by simp)
 rwa [this]at h
theorem AR.part {w:World}{S:Nat→Prop}{m:Mem}{κ:Id→Value}{cells:List AV}{vs:List Value}(h:ARs w S m κ cells vs) (h1:∀u∈vs,u.oneCell'=true) {off n:Nat}{g:Bool}{v:AV}(hv:Gz cells off n g=some v) :
  (g=true∧off+n≤vs.length∧AR w S m κ v (.agg ((vs.drop off).take n).toArray))∨(g=false∧∃u,vs[off]? = some u∧AR w S m κ v u):=by
 cases g with
 |true =>
  simp only[Gz]at hv
  split at hv
  ·rename_i hl
   cases hv
   exact .inl ⟨rfl,by rw[h.length];exact hl,_,rfl,(h.drop off).take n,fun u hu=>h1 u (List.mem_of_mem_drop (List.mem_of_mem_take hu))⟩
  ·cases hv
 |false =>
  simp only[Gz]at hv
  obtain⟨u,g1,g2⟩:=h.at_ hv
  exact .inr ⟨rfl,u,g1,g2⟩
theorem Qg (row:List C) (off n:Nat) (g:Bool):Qf row off n g=Gz (row.map .c) off n g:=by
 cases g
 ·simp[Qf,Gz]
 ·simp[Qf,Gz]
theorem Lf {ty:TypeId}{ti:TI}{size bytes:Nat}{z:Option Value}(ht:tin P ty=some ⟨ti,size,bytes,z⟩) {g:Bool}(hg:ti.agg=some g) {w:World}{S:Nat→Prop}{m:Mem}{κ:Id→Value}{cells:List AV}{vs:List Value}
  (h:ARs w S m κ cells vs) (h1:∀u∈vs,u.oneCell'=true) {off:Nat} {v:AV} (hv:Gz cells off size g=some v) {b q:Nat} (hc:w.rangeAt b q vs):∃u,(loadVar ty ⟨b,q+off,none⟩).run P w=.ok u w∧AR w S m κ v u:=by
 obtain⟨d,i,g1,g2,g3⟩:=BE ht
 simp only[TIn.mk.injEq]at g3
 obtain⟨rfl,rfl,rfl,rfl⟩:=g3
 have hl:=RO (P:=P) g1 g2 hg hc (off:=off)
 rcases AR.part h h1 hv with⟨rfl,k1,k2⟩ | ⟨rfl,u,k1,k2⟩
 ·exact⟨_,hl.1 rfl k1,k2⟩
 ·exact⟨u,hl.2 rfl u k1,k2⟩
theorem PW {Γ:Ctx}{σ':ASt}{a:Act}{w:World}{ow:Nat→Option Id}{κ:Id→Value}(hr:RelAt Γ σ' a w ow κ) {ty:TypeId}{get:Id→Option AO}{x:AV}{pv:Value}{E:AEff}(hx:AR w (Γ.sees ow) σ'.mem κ x pv) (h:EN P get ty x=some E) (hg':∀i,i∈E.rd→σ'.mem.get i=get i) :
  E.wr=[]∧∃ad u,pv=.pointer (some ad)∧(loadVar ty ad).run P w=.ok u w∧AR w (Γ.sees ow) σ'.mem κ E.val u:=by
 unfold EN at h
 split at h
 case h_2=>cases h
 rename_i ti size bytes z ht
 split at h
 case h_2=>cases h
 rename_i g hg
 split at h
 ·rename_i i off
  split at h
  case h_2=>cases h
  rename_i cells hget
  cases hb:Gz cells off size g with
  |none=>rw[hb]at h;cases h
  |some v =>
   rw[hb]at h
   cases h
   have e2:σ'.mem.get i=some (.box cells):=by rw[hg' i (by simp),hget]
   obtain⟨_,o1,k1,k2⟩:=hx
   rw[e2]at k1
   cases k1
   obtain⟨b,k3,k4⟩:=k2 rfl
   obtain⟨b',vs,T,k5,k6,k7,k8,k9⟩:=hr.objs i _ e2
   rw[k5]at k3
   simp only[Value.pointer.injEq,Option.some.injEq,Addr.mk.injEq,and_true]at k3
   subst k3
   obtain⟨u,r1,r2⟩:=Lf ht hg k8 k9 hb (b:=b') (q:=0) (fun j v hv=>by rw[cell_of_row w b' (0+j) _ T (0,0) k7];simpa using hv)
   rw[Nat.zero_add]at r1
   exact⟨rfl,_,u,k4,r1,r2⟩
 ·rename_i i es r off
  split at h
  case h_2=>cases h
  rename_i es' e rows hget
  split at h
  case h_2=>cases h
  rename_i row hrow
  split at h
  case isFalse=>cases h
  rename_i hes
  obtain⟨rfl,hrl⟩:=hes
  rw[Qg]at h
  cases hb:Gz (row.map .c) off size g with
  |none=>rw[hb]at h;cases h
  |some v =>
   rw[hb]at h
   cases h
   have e2:σ'.mem.get i=some (.row false es' e rows):=by rw[hg' i (by simp),hget]
   obtain⟨_,o1,k1,k2⟩:=hx
   rw[e2]at k1
   cases k1
   obtain⟨b,n,cap,k3,k4⟩:=k2 rfl
   obtain⟨vrows,bs,k5,k6,k7,k8,k9,k10⟩:=hr.objs i _ e2
   rw[k6 rfl]at k5
   obtain⟨vr,bb,m1,m2,m3⟩:=An.at_ k5 hrow
   have m4:=CRs.of_nil m2 m3
   rw[k3]at k8
   have hcell:=k8.cells (g:=b) rfl
   obtain⟨u,r1,r2⟩:=Lf ht hg (ARs.of_CRs (m:=σ'.mem) (κ:=κ) m4) m4.one hb (b:=b) (q:=r*es') (fun j v hv=>by
    have:=hcell _ _ (BR k7 r vr m1 j v hv)
    rwa [Addr.add_mid,Nat.zero_add]at this)
   exact⟨rfl,_,u,k4,r1,r2⟩
 ·rename_i rows r off
  split at h
  case h_2=>cases h
  rename_i row hrow
  rw[Qg]at h
  cases hb:Gz (row.map .c) off size g with
  |none=>rw[hb]at h;cases h
  |some v =>
   rw[hb]at h
   cases h
   obtain⟨es,b,q,vrows,k1,k2,k3⟩:=hx
   obtain⟨vr,bb,m1,m2,m3⟩:=An.at_ k3 hrow
   have m4:=CRs.of_nil m2 m3
   obtain⟨b',off',k4,k5,k6,k7⟩:=k2.2 (by have:=(List.getElem?_eq_some_iff.1 m1).1;omega)
   simp only[Option.some.injEq,Addr.mk.injEq,and_true]at k4
   obtain⟨rfl,rfl⟩:=k4
   obtain⟨u,r1,r2⟩:=Lf ht hg (ARs.of_CRs (m:=σ'.mem) (κ:=κ) m4) m4.one hb (b:=b) (q:=q+r*es) (fun j v hv=>k7 r vr m1 j v hv)
   exact⟨rfl,_,u,k1,r1,r2⟩
 ·cases h
theorem UE {ty:TypeId}{get:Id→Option AO}{x:AV}{E:AEff}(h:EN P get ty x=some E):E.wr=[]:=by
 unfold EN at h
 split at h
 case h_2=>cases h
 split at h
 case h_2=>cases h
 split at h
 ·split at h
  case h_2=>cases h
  simp only[Option.map_eq_some_iff]at h
  obtain⟨v,_,rfl⟩:=h
  rfl
 ·split at h
  case h_2=>cases h
  split at h
  case h_2=>cases h
  split at h
  case isFalse=>cases h
  simp only[Option.map_eq_some_iff]at h
  obtain⟨v,_,rfl⟩:=h
  rfl
 ·split at h
  case h_2=>cases h
  simp only[Option.map_eq_some_iff]at h
  obtain⟨v,_,rfl⟩:=h
  rfl
 ·cases h
theorem Z5 {ty:TypeId}{y:Operand}{E:AEff}(ho:o.op=.load ty y) (h:EN P σ.mem.get ty (σ.ev y)=some E):AB P o σ E:=by
 have hw:=UE h
 obtain⟨rd,wr,x⟩:=E
 simp only at hw
 subst hw
 refine AB.pure fun Γ σ' a w ow κ hag hr=>?_
 have e1:=hr.ev y
 rw[hag.1 y (by rw[ho];simp[Op.operands])]at e1
 obtain⟨_,ad,u,h1,h2,h3⟩:=PW hr e1 h hag.2.1
 refine⟨u,?_,h3⟩
 unfold execOp
 rw[ho]
 simp[Instr.loadAt,Instr.sureAddr,h1,h2]
end
end
section
open Go.RowKit
theorem NL {o:Option AO}(h:PP o=true):∃c,o=some (.box c):=by
 unfold PP at h
 split at h
 ·exact⟨_,rfl⟩
 ·cases h
theorem NN {o:Option AO}(h:PR o=true):∃x a b c,o=some (.row x a b c):=by
 unfold PR at h
 split at h
 ·exact⟨_,_,_,_,rfl⟩
 ·cases h
section
variable {P:Program} {o:Oper} {σ:ASt}
theorem Gy.ev {Γ:Ctx}{σ':ASt}{a:Act}{w:World}{ow:Nat→Option Id}{κ:Id→Value}{E:AEff}(hag:Gy σ' σ o E) (hr:RelAt Γ σ' a w ow κ) {y:Operand}(hy:y∈o.op.operands) {x:AV}(hx:σ.ev y=x):AR w (Γ.sees ow) σ'.mem κ x (a.eval y):=by
 have:=hr.ev y
 rwa [hag.1 y hy,hx]at this
theorem W1 {ty:TypeId}{y:Operand}{f:Nat}{E:AEff}(ho:o.op=.fieldAddr ty y f) (h:KT P σ.mem.get ty f (σ.ev y)=some E):AB P o σ E:=by
 unfold KT at h
 split at h
 case h_2=>cases h
 rename_i fs s b z ht
 split at h
 case h_2=>cases h
 rename_i t off hf
 split at h
 case h_2=>cases h
 rename_i ti size b' z' ht'
 split at h
 ·cases h
 rename_i hsz
 obtain⟨d,i,g1,g2,g3⟩:=BE ht
 simp only[TIn.mk.injEq]at g3
 obtain⟨g3,_,_,_⟩:=g3
 cases d<;>simp[TI.of]at g3
 rename_i fields
 subst g3
 simp only[List.getElem?_map,Option.map_eq_some_iff]at hf
 obtain⟨fd,hfd,hff⟩:=hf
 simp only[Prod.mk.injEq]at hff
 obtain⟨rfl,rfl⟩:=hff
 have hfd':fields[f]? = some fd:=by simpa using hfd
 have fin:∀{a:Act} {w:World} {b q:Nat},a.eval y=.pointer (some ⟨b,q,none⟩)→(execOp a.eval o).run P w=.ok (.value (.pointer (some ⟨b,q+fd.offset,none⟩))) w:=by
  intro a w b q h1
  unfold execOp
  rw[ho]
  simp[Instr.fieldAt,run_underlying g1,hfd',Instr.sureAddr,h1,fieldPlace,Dv ht',hsz,Addr.add_mid]
 split at h
 ·rename_i i q hx
  split at h
  case isFalse=>cases h
  rename_i hb
  obtain⟨cells,hget⟩:=NL hb
  cases h
  refine AB.pure fun Γ σ' a w ow κ hag hr=>?_
  obtain⟨_,o1,k1,k2⟩:=hag.ev hr (by rw[ho];simp[Op.operands]) hx
  have e2:σ'.mem.get i=some (.box cells):=by rw[hag.2.1 i (by simp),hget]
  rw[e2]at k1
  cases k1
  obtain⟨b,k3,k4⟩:=k2 rfl
  exact⟨_,fin k4,rfl,_,e2,fun _=>⟨b,k3,rfl⟩⟩
 ·rename_i i es r q hx
  split at h
  case isFalse=>cases h
  rename_i hb
  obtain⟨ex,es',e',rows,hget⟩:=NN hb
  cases h
  refine AB.pure fun Γ σ' a w ow κ hag hr=>?_
  obtain⟨_,o1,k1,k2⟩:=hag.ev hr (by rw[ho];simp[Op.operands]) hx
  have e2:σ'.mem.get i=some (.row ex es' e' rows):=by rw[hag.2.1 i (by simp),hget]
  rw[e2]at k1
  cases k1
  obtain⟨b,n,cap,k3,k4⟩:=k2 rfl
  exact⟨_,fin k4,rfl,_,e2,fun _=>⟨b,n,cap,k3,by rw[Nat.add_assoc]⟩⟩
 ·rename_i rows r q hx
  cases h
  refine AB.pure fun Γ σ' a w ow κ hag hr=>?_
  obtain⟨es,b,q',vrows,k1,k2,k3⟩:=hag.ev hr (by rw[ho];simp[Op.operands]) hx
  exact⟨_,fin k1,es,b,q',vrows,by rw[Nat.add_assoc],k2,k3⟩
 ·cases h
theorem W2 {ty:TypeId}{y:Operand}{f:Nat}{x:AV}(ho:o.op=.field ty y f) (h:Je P ty f (σ.ev y)=some x):AB P o σ ⟨[],[],x⟩:=by
 unfold Je at h
 split at h
 case h_2=>cases h
 rename_i fs s b z ht
 split at h
 case h_2=>cases h
 rename_i t off hf
 split at h
 case h_2=>cases h
 rename_i ti size b' z' xs ht' hx
 split at h
 case h_2=>cases h
 rename_i g hg
 obtain⟨d,i,g1,g2,g3⟩:=BE ht
 simp only[TIn.mk.injEq]at g3
 obtain⟨g3,_,_,_⟩:=g3
 cases d<;>simp[TI.of]at g3
 rename_i fields
 subst g3
 simp only[List.getElem?_map,Option.map_eq_some_iff]at hf
 obtain⟨fd,hfd,hff⟩:=hf
 simp only[Prod.mk.injEq]at hff
 obtain⟨rfl,rfl⟩:=hff
 have hfd':fields[f]? = some fd:=by simpa using hfd
 refine AB.pure fun Γ σ' a w ow κ hag hr=>?_
 obtain⟨vs,k1,k2,k3⟩:=hag.ev hr (by rw[ho];simp[Op.operands]) hx
 obtain⟨d',i',g1',g2',g3'⟩:=BE ht'
 simp only[TIn.mk.injEq]at g3'
 obtain⟨rfl,rfl,rfl,rfl⟩:=g3'
 rcases AR.part k2 k3 h with⟨rfl,m1,m2⟩ | ⟨rfl,u,m1,m2⟩
 ·refine⟨_,?_,m2⟩
  unfold execOp
  rw[ho]
  simp[Instr.field,run_underlying g1,hfd',k1,asAgg,part,Lu hg g1' w,Dv ht']
 ·refine⟨u,?_,m2⟩
  unfold execOp
  rw[ho]
  simp[Instr.field,run_underlying g1,hfd',k1,asAgg,part,Lu hg g1' w,m1]
theorem ME {rows:List (List C)}{es:Nat}{n:Int}(h:A8 rows es n=true):0≤n∧∃row,rows[n.toNat]? = some row∧row.length=es:=by
 unfold A8 at h
 simp only[Bool.and_eq_true,decide_eq_true_eq,beq_iff_eq,Option.map_eq_some_iff]at h
 exact⟨h.1,h.2⟩
theorem W4 {ty:TypeId}{y z:Operand}{E:AEff}(ho:o.op=.indexAddr ty y z) (h:FK P σ.mem.get ty (σ.ev y) (σ.ev z)=some E):AB P o σ E:=by
 unfold FK at h
 split at h
 case h_2=>cases h
 rename_i e s b zz k n ht hz
 split at h
 case h_2=>cases h
 rename_i ti size b' z' ht'
 have hu:=GW ht
 have fin:∀{a:Act} {w:World} {bb q len cap:Nat},a.eval y=.slice (some ⟨bb,q,none⟩) len cap→a.eval z=.int k n→0≤n→n.toNat<len→(execOp a.eval o).run P w=.ok (.value (.pointer (some ⟨bb,q+n.toNat*size,none⟩))) w:=by
  intro a w bb q len cap h1 h2 h3 h4
  unfold execOp
  rw[ho]
  have h5:n<(len:Int):=by omega
  simp[Instr.indexAt,h1,h2,asIntOf,run_underlying hu,h3,h5,Dv ht',Addr.add_mid]
 have hzo:z∈o.op.operands:=by rw[ho];simp[Op.operands]
 have hyo:y∈o.op.operands:=by rw[ho];simp[Op.operands]
 have shared:∀{rd:List Id} {rows:List (List C)},A8 rows size n=true→(∀Γ σ' a w ow κ,Gy σ' σ o ⟨rd,[],.elem rows n.toNat 0⟩→RelAt Γ σ' a w ow κ→AR w (Γ.sees ow) σ'.mem κ (.c (.sl rows)) (a.eval y))→AB P o σ ⟨rd,[],.elem rows n.toNat 0⟩:=by
  intro rd rows hra hy
  obtain⟨h0,row,h1,h2⟩:=ME hra
  refine AB.pure fun Γ σ' a w ow κ hag hr=>?_
  obtain⟨es,A,cap,vrows,k1,k2,k3,k4,k5,_⟩:=hy Γ σ' a w ow κ hag hr
  have k6:=(hag.ev hr hzo hz).int
  have hlt:=(List.getElem?_eq_some_iff.1 h1).1
  obtain⟨vr,bb,m1,m2,m3⟩:=An.at_ k5 h1
  obtain⟨g,off,rfl,m5,m6,m7⟩:=k4.2 (by have:=An.length k5;omega)
  have m8:es=size:=by
   have h3:=k4.1 vr (List.mem_of_getElem? m1)
   rw[←h3,m2.length,h2]
  subst m8
  refine⟨_,fin k1 k6 h0 hlt,es,g,off,vrows,by rw[Nat.add_zero],k4,k5⟩
 split at h
 ·rename_i j hy
  split at h
  ·rename_i ex es e' rows hget
   split at h
   case isFalse=>cases h
   rename_i hc
   obtain⟨rfl,hra⟩:=hc
   cases h
   obtain⟨h0,row,h1,h2⟩:=ME hra
   refine AB.pure fun Γ σ' a w ow κ hag hr=>?_
   have e2:σ'.mem.get j=some (.row ex es e' rows):=by rw[hag.2.1 j (by simp),hget]
   obtain⟨_,o1,k1,k2⟩:=hag.ev hr hyo hy
   rw[e2]at k1
   cases k1
   have k6:=(hag.ev hr hzo hz).int
   have hlt:=(List.getElem?_eq_some_iff.1 h1).1
   obtain⟨vrows,bs,m1,m2,m3,m4,m5,m6⟩:=hr.objs j _ e2
   rcases m4.2 with⟨q1,q2⟩ | ⟨g,cap,cur,q1,_,_,q2,_⟩
   ·omega
   ·have k3:=k2 (by simp)
    rw[q1]at k3
    have:=fin (w:=w) k3 k6 h0 hlt
    rw[Nat.zero_add]at this
    exact⟨_,this,rfl,_,e2,fun _=>⟨g,_,cap,q1,by rw[Nat.add_zero]⟩⟩
  ·rename_i rows hget
   split at h
   case isFalse=>cases h
   rename_i hra
   cases h
   refine shared hra fun Γ σ' a w ow κ hag hr=>?_
   have e2:σ'.mem.get j=some (.frz rows):=by rw[hag.2.1 j (by simp),hget]
   obtain⟨_,o1,k1,k2⟩:=hag.ev hr hyo hy
   rw[e2]at k1
   cases k1
   rw[k2 (by simp)]
   exact hr.objs j _ e2
  ·cases h
 ·rename_i rows hy
  split at h
  case isFalse=>cases h
  rename_i hra
  cases h
  exact shared hra fun Γ σ' a w ow κ hag hr=>hag.ev hr hyo hy
 ·cases h
theorem Z4 {ty:TypeId}{y z:Operand}{x:AV}(ho:o.op=.index ty y z) (h:KU P ty (σ.ev y) (σ.ev z)=some x):AB P o σ ⟨[],[],x⟩:=by
 unfold KU at h
 split at h
 case h_2=>cases h
 rename_i s' b' z' s k n ht hy hz
 split at h
 case isFalse=>cases h
 rename_i h0
 cases hb:s[n.toNat]? with
 |none=>rw[hb]at h;cases h
 |some b =>
  rw[hb]at h
  cases h
  obtain⟨d,i,g1,g2,g3⟩:=BE ht
  simp only[TIn.mk.injEq]at g3
  obtain⟨g3,_,_,_⟩:=g3
  cases d<;>simp[TI.of]at g3
  refine AB.pure fun Γ σ' a w ow κ hag hr=>?_
  have e1:=(hag.ev hr (by rw[ho];simp[Op.operands]) hy).str
  have e2:=(hag.ev hr (by rw[ho];simp[Op.operands]) hz).int
  refine⟨.int .u8 b.toNat,?_,rfl,rfl⟩
  unfold execOp
  rw[ho]
  simp[Instr.index,e1,e2,asIntOf,run_underlying g1,h0,hb]
theorem X0 {ty:TypeId}{y:Operand}{E:AEff}{s b:Nat}{z:Option Value}{ti:TI}(hty:ti=.str∨∃e,ti=.sl e) (ho:o.op=.call { callee:=.builtin .len,args:=#[y],argTypes:=#[ty] }) (ht:tin P ty=some ⟨ti,s,b,z⟩)
  (hs:ti=.str→∃q,σ.ev y=.c (.str q)) (hs':(∃e,ti=.sl e)→∀q,σ.ev y≠.c (.str q)) (h:Nu σ.mem.get (σ.ev y)=some E):AB P o σ E:=by
 have hyo:y∈o.op.operands:=by rw[ho];simp[Op.operands,Call.operands]
 obtain⟨d,i,g1,g2,g3⟩:=BE ht
 simp only[TIn.mk.injEq]at g3
 obtain⟨rfl,_,_,_⟩:=g3
 have fin:∀{a:Act} {w:World} {A:Option Addr} {n c:Nat},(∃e,d=.slice e)→a.eval y=.slice A n c→(execOp a.eval o).run P w=.ok (.value (.int .i64 n)) w:=by
  intro a w A n c ⟨e,hd⟩ h1
  subst hd
  unfold execOp
  rw[ho]
  simp[resolve,invoke,builtin,Builtin.len_,run_underlying g1,h1,goInt]
 have hd:(∀q,σ.ev y≠.c (.str q))→∃e,d=.slice e:=by
  intro hq
  rcases hty with hty | ⟨e,hty⟩
  ·obtain⟨q,hq'⟩:=hs hty
   exact absurd hq' (hq q)
  ·cases d<;>simp[TI.of]at hty
   exact⟨_,rfl⟩
 unfold Nu at h
 split at h
 ·rename_i q hy
  cases h
  refine AB.pure fun Γ σ' a w ow κ hag hr=>?_
  have e1:=(hag.ev hr hyo hy).str
  rcases hty with hty | hty
  ·cases d<;>simp[TI.of]at hty
   refine⟨.int .i64 q.size,?_,rfl,rfl⟩
   unfold execOp
   rw[ho]
   simp[resolve,invoke,builtin,Builtin.len_,run_underlying g1,e1,goInt]
  ·exact absurd hy (hs' hty q)
 ·rename_i rows hy
  cases h
  refine AB.pure fun Γ σ' a w ow κ hag hr=>?_
  obtain⟨es,A,cap,vrows,k1,_⟩:=hag.ev hr hyo hy
  exact⟨_,fin (hd (by rw[hy];simp)) k1,rfl,rfl⟩
 ·rename_i hy
  cases h
  refine AB.pure fun Γ σ' a w ow κ hag hr=>?_
  have k1:a.eval y=.slice none 0 0:=hag.ev hr hyo hy
  exact⟨_,fin (hd (by rw[hy];simp)) k1,rfl,rfl⟩
 ·rename_i j hy
  split at h
  ·rename_i ex es e' rows hget
   cases h
   refine AB.pure fun Γ σ' a w ow κ hag hr=>?_
   have e2:σ'.mem.get j=some (.row ex es e' rows):=by rw[hag.2.1 j (by simp),hget]
   obtain⟨_,o1,k1,k2⟩:=hag.ev hr hyo hy
   rw[e2]at k1
   cases k1
   obtain⟨vrows,bs,m1,m2,m3,m4,m5,m6⟩:=hr.objs j _ e2
   have k3:=k2 (by simp)
   rcases m4.2 with⟨q1,q2⟩ | ⟨g,cap,cur,q1,_,_,q2,_⟩
   ·rw[q1]at k3
    refine⟨_,fin (hd (by rw[hy];simp)) k3,?_,rfl⟩
    rw[q2]
   ·rw[q1]at k3
    exact⟨_,fin (hd (by rw[hy];simp)) k3,rfl,rfl⟩
  ·rename_i rows hget
   cases h
   refine AB.pure fun Γ σ' a w ow κ hag hr=>?_
   have e2:σ'.mem.get j=some (.frz rows):=by rw[hag.2.1 j (by simp),hget]
   obtain⟨_,o1,k1,k2⟩:=hag.ev hr hyo hy
   rw[e2]at k1
   cases k1
   have k3:=k2 (by simp)
   obtain⟨es,A,cap,vrows,m1,_⟩:=hr.objs j _ e2
   rw[m1]at k3
   exact⟨_,fin (hd (by rw[hy];simp)) k3,rfl,rfl⟩
  ·cases h
 ·cases h
end
end
section
open Go.RowKit
section
variable {P:Program} {o:Oper} {σ:ASt}
theorem RQ {y:Operand}{E:AEff}(ho:o.op=.nilCheck y) (h:(match σ.ev y with
  | .ptr i o=>if PP (σ.mem.get i) then some (⟨[i],[],.ptr i o⟩:AEff) else none
  | .rptr i es r o=>if PR (σ.mem.get i) then some ⟨[i],[],.rptr i es r o⟩ else none
  | .elem rows r o=>some ⟨[],[],.elem rows r o⟩
  | .c (.ref row)=>some ⟨[],[],.elem [row] 0 0⟩
  |_=>none)=some E):AB P o σ E:=by
 have hyo:y∈o.op.operands:=by rw[ho];simp[Op.operands]
 have fin:∀{a:Act} {w:World} {b q:Nat},a.eval y=.pointer (some ⟨b,q,none⟩)→(execOp a.eval o).run P w=.ok (.value (.pointer (some ⟨b,q,none⟩))) w:=by
  intro a w b q h1
  unfold execOp
  rw[ho]
  simp[h1]
 split at h
 ·rename_i i q hx
  split at h
  case isFalse=>cases h
  rename_i hb
  obtain⟨cells,hget⟩:=NL hb
  cases h
  refine AB.pure fun Γ σ' a w ow κ hag hr=>?_
  obtain⟨_,o1,k1,k2⟩:=hag.ev hr hyo hx
  have e2:σ'.mem.get i=some (.box cells):=by rw[hag.2.1 i (by simp),hget]
  rw[e2]at k1
  cases k1
  obtain⟨b,k3,k4⟩:=k2 rfl
  exact⟨_,fin k4,rfl,_,e2,fun _=>⟨b,k3,rfl⟩⟩
 ·rename_i i es r q hx
  split at h
  case isFalse=>cases h
  rename_i hb
  obtain⟨ex,es',e',rows,hget⟩:=NN hb
  cases h
  refine AB.pure fun Γ σ' a w ow κ hag hr=>?_
  obtain⟨_,o1,k1,k2⟩:=hag.ev hr hyo hx
  have e2:σ'.mem.get i=some (.row ex es' e' rows):=by rw[hag.2.1 i (by simp),hget]
  rw[e2]at k1
  cases k1
  obtain⟨b,n,cap,k3,k4⟩:=k2 rfl
  exact⟨_,fin k4,rfl,_,e2,fun _=>⟨b,n,cap,k3,rfl⟩⟩
 ·rename_i rows r q hx
  cases h
  refine AB.pure fun Γ σ' a w ow κ hag hr=>?_
  obtain⟨es,b,q',vrows,k1,k2,k3⟩:=hag.ev hr hyo hx
  exact⟨_,fin k1,es,b,q',vrows,rfl,k2,k3⟩
 ·rename_i row hx
  cases h
  refine AB.pure fun Γ σ' a w ow κ hag hr=>?_
  obtain⟨A,vr,k1,k2,k3,_⟩:=hag.ev hr hyo hx
  obtain⟨b,off,rfl,_⟩:=k2.2 (by simp)
  exact⟨_,fin k1,row.length,b,off,[vr],by rw[Nat.zero_mul];rfl,k2,vr,[],[],[],rfl,rfl,k3,rfl,rfl⟩
 ·cases h
theorem a24 {op : BinOp} {t t' : TypeId} {y z : Operand} {x : AV} (ho : o.op = .binOp op t y z t') (h : LG op (σ.ev y) (σ.ev z) = some x) : AB P o σ ⟨[], [], x⟩ := by
  have hyo : y ∈ o.op.operands := by rw [ho]; simp [Op.operands]
  have hzo : z ∈ o.op.operands := by rw [ho]; simp [Op.operands]
  unfold LG at h
  split at h
  · rename_i k p k' q hy hz
    split at h
    case isFalse => cases h
    rename_i hk
    subst hk
    refine AB.pure fun Γ σ' a w ow κ hag hr => ?_
    have e1 := (hag.ev hr hyo hy).int
    have e2 := (hag.ev hr hzo hz).int
    have eg : (eqGuard op t y z (.int k p) (.int k q)).run P w = .ok () w := by
      unfold eqGuard
      cases op <;> simp
    have red : ∀ v, (binOp op t (.int k p) (.int k q)).run P w = .ok v w → (execOp a.eval o).run P w = .ok (.value v) w := by
      intro v hv
      unfold execOp
      rw [ho]
      simp [e1, e2, eg, hv]
    cases op <;> simp only at h <;> (try cases h)
    all_goals first
      | (refine ⟨_, red _ ?_, rfl, rfl⟩; simp [binOp, Op.intArith]; done)
      | (refine ⟨_, red _ ?_, rfl, rfl⟩; simp [binOp, Op.intCmp]; done)
      | (split at h
         · cases h
         · rename_i hq
           cases h
           refine ⟨_, red _ ?_, rfl, rfl⟩
           simp [binOp, Op.intDiv, hq])
  · rename_i p q hy hz
    refine AB.pure fun Γ σ' a w ow κ hag hr => ?_
    have e1 := (hag.ev hr hyo hy).str
    have e2 := (hag.ev hr hzo hz).str
    have eg : (eqGuard op t y z (.string p) (.string q)).run P w = .ok () w := by
      unfold eqGuard
      cases op <;> simp
    have red : ∀ v, (binOp op t (.string p) (.string q)).run P w = .ok v w → (execOp a.eval o).run P w = .ok (.value v) w := by
      intro v hv
      unfold execOp
      rw [ho]
      simp [e1, e2, eg, hv]
    cases op <;> simp only at h <;> (try cases h)
    all_goals first
      | (refine ⟨_, red _ ?_, rfl, rfl⟩; simp [binOp, Op.stringOp]; done)
      | (split at h
         case isFalse => cases h
         rename_i hs
         cases h
         refine ⟨_, red _ ?_, rfl, rfl⟩
         have : ¬ ((IntKind.i64.max : Int) < ((p.size + q.size : Nat) : Int)) := by
           have : IntKind.i64.max = 9223372036854775807 := by rfl
           omega
         simp only [binOp, Op.stringOp]
         rw [if_neg this]
         rfl)
  · cases h
theorem UD {op:BinOp}{b:Bool}{x:AV}(h:JG op b=some x):(op=.eql∧x=.c (.bool b))∨(op=.neq∧x=.c (.bool (!b))):=by
 unfold JG at h
 split at h
 ·exact .inl ⟨rfl,(Option.some.inj h).symm⟩
 ·exact .inr ⟨rfl,(Option.some.inj h).symm⟩
 ·cases h
theorem Ih {op:BinOp}{t t':TypeId}{y z:Operand}{x:AV}{b:Bool}{v1 v2:Value}{a:Act}{w:World}{S:Nat→Prop}{m:Mem}{κ:Id→Value}(ho:o.op=.binOp op t y z t') (he:JG op b=some x) (e1:a.eval y=v1) (e2:a.eval z=v2)
  (hg:∀op,(eqGuard op t y z v1 v2).run P w=.ok () w) (hq:(binOp .eql t v1 v2).run P w=.ok (.bool b) w) (hn:(binOp .neq t v1 v2).run P w=.ok (.bool (!b)) w) :
  ∃v,(execOp a.eval o).run P w=.ok (.value v) w∧AR w S m κ x v:=by
 have red:∀v,(binOp op t v1 v2).run P w=.ok v w→(execOp a.eval o).run P w=.ok (.value v) w:=by
  intro v hv
  unfold execOp
  rw[ho]
  simp[e1,e2,hg,hv]
 rcases UD he with⟨rfl,rfl⟩ | ⟨rfl,rfl⟩
 ·exact⟨_,red _ hq,rfl,rfl⟩
 ·exact⟨_,red _ hn,rfl,rfl⟩
theorem IN (op:BinOp) (t:TypeId) (y z:Operand) (A:Option Addr) (n c:Nat) (w:World):(eqGuard op t y z (.slice A n c) (.slice none 0 0)).run P w=.ok () w:=by
 unfold eqGuard
 split<;>rfl
theorem UU (op:BinOp) (t:TypeId) (y z:Operand) (p q:Bool) (w:World):(eqGuard op t y z (.bool p) (.bool q)).run P w=.ok () w:=by
 unfold eqGuard
 split<;>rfl
theorem KW (w:World) (d:Nat) {t:TypeId}(hu:P.underlying t=some .bool) (p q:Bool):(Op.equalIn (d+1) t (.bool p) (.bool q)).run P w=.ok (p==q) w:=by
 simp[Op.equalIn,run_underlying hu]
theorem ZW {t:TypeId}(hu:P.underlying t=some .bool) (p q:Bool) (w:World):(binOp .eql t (.bool p) (.bool q)).run P w=.ok (.bool (p==q)) w:=by
 simp only[binOp]
 simp[Op.equal,Op.maxDepth,KW w 9999 hu p q]
theorem a0a {t:TypeId}(hu:P.underlying t=some .bool) (p q:Bool) (w:World):(binOp .neq t (.bool p) (.bool q)).run P w=.ok (.bool (!(p==q))) w:=by
 simp only[binOp]
 simp[Op.equal,Op.maxDepth,KW w 9999 hu p q]
theorem QW {t e:TypeId}(hu:P.underlying t=some (.slice e)) (A:Option Addr) (n c:Nat) (w:World):(binOp .eql t (.slice A n c) (.slice none 0 0)).run P w=.ok (.bool A.isNone) w:=by
 simp only[binOp]
 simp[Op.equal,Op.maxDepth,Lib.run_equalIn_slice_nil w 9999 t e A n c 0 0 hu]
theorem Ru {t e:TypeId}(hu:P.underlying t=some (.slice e)) (A:Option Addr) (n c:Nat) (w:World):(binOp .neq t (.slice A n c) (.slice none 0 0)).run P w=.ok (.bool (!A.isNone)) w:=by
 simp only[binOp]
 simp[Op.equal,Op.maxDepth,Lib.run_equalIn_slice_nil w 9999 t e A n c 0 0 hu]
theorem a3e {ty e:TypeId}{s b:Nat}{z:Option Value}(h:tin P ty=some ⟨.ptr e,s,b,z⟩):P.underlying ty=some (.pointer e):=by
 obtain⟨d,i,h1,h2,h3⟩:=BE h
 rw[h1]
 simp only[TIn.mk.injEq]at h3
 have:=h3.1
 cases d<;>simp[TI.of]at this
 rw[this]
theorem LK (op:BinOp) (t:TypeId) (y z:Operand) (A B:Option Addr) (w:World):(eqGuard op t y z (.pointer A) (.pointer B)).run P w=.ok () w:=by
 unfold eqGuard
 cases op<;>simp
theorem Mf (w:World) (d:Nat) {t e:TypeId}(hu:P.underlying t=some (.pointer e)) (A:Option Addr):(Op.equalIn (d+1) t (.pointer A) (.pointer none)).run P w=.ok A.isNone w:=by
 unfold Op.equalIn
 simp[run_underlying hu]
 cases A<;>simp
theorem QX {t e:TypeId}(hu:P.underlying t=some (.pointer e)) (A:Option Addr) (w:World):(binOp .eql t (.pointer A) (.pointer none)).run P w=.ok (.bool A.isNone) w:=by
 simp only[binOp]
 simp[Op.equal,Op.maxDepth,Mf w 9999 hu A]
theorem Rv {t e:TypeId}(hu:P.underlying t=some (.pointer e)) (A:Option Addr) (w:World):(binOp .neq t (.pointer A) (.pointer none)).run P w=.ok (.bool (!A.isNone)) w:=by
 simp only[binOp]
 simp[Op.equal,Op.maxDepth,Mf w 9999 hu A]
theorem a28 {op:BinOp}{t t':TypeId}{y z:Operand}{x:AV}(ho:o.op=.binOp op t y z t') (h:LH P op t (σ.ev y) (σ.ev z)=some x):AB P o σ ⟨[],[],x⟩:=by
 have hyo:y∈o.op.operands:=by rw[ho];simp[Op.operands]
 have hzo:z∈o.op.operands:=by rw[ho];simp[Op.operands]
 unfold LH at h
 split at h
 ·rename_i e s b zz ht
  have hu:=GW ht
  split at h
  ·rename_i hy hz
   refine AB.pure fun Γ σ' a w ow κ hag hr=>?_
   have e1:a.eval y=.slice none 0 0:=hag.ev hr hyo hy
   have e2:a.eval z=.slice none 0 0:=hag.ev hr hzo hz
   exact Ih ho h e1 e2 (fun op=>IN op t y z _ _ _ w) (QW hu _ _ _ w) (Ru hu _ _ _ w)
  ·rename_i rows hy hz
   cases hrw:rows with
   |nil=>rw[hrw]at h;cases h
   |cons r rs =>
    rw[hrw]at h
    refine AB.pure fun Γ σ' a w ow κ hag hr=>?_
    obtain⟨es,A,cap,vrows,e1,_,_,k4,k5,_⟩:=hag.ev hr hyo hy
    have e2:a.eval z=.slice none 0 0:=hag.ev hr hzo hz
    have hl:=k5.length
    rw[hrw]at hl
    obtain⟨b,off,rfl,_⟩:=k4.2 (by rw[hl];simp)
    exact Ih ho h e1 e2 (fun op=>IN op t y z _ _ _ w) (QW hu _ _ _ w) (Ru hu _ _ _ w)
  ·cases h
 ·rename_i s b zz ht
  have hu:=a1g ht
  split at h
  ·rename_i p q hy hz
   refine AB.pure fun Γ σ' a w ow κ hag hr=>?_
   have e1:a.eval y=.bool p:=(hag.ev hr hyo hy).1
   have e2:a.eval z=.bool q:=(hag.ev hr hzo hz).1
   exact Ih ho h e1 e2 (fun op=>UU op t y z _ _ w) (ZW hu p q w) (a0a hu p q w)
  ·cases h
 ·rename_i e s b zz ht
  have hu:=a3e ht
  split at h
  ·rename_i hy hz
   refine AB.pure fun Γ σ' a w ow κ hag hr=>?_
   have e1:a.eval y=.pointer none:=(hag.ev hr hyo hy).1
   have e2:a.eval z=.pointer none:=(hag.ev hr hzo hz).1
   exact Ih ho h e1 e2 (fun op=>LK op t y z _ _ w) (QX hu _ w) (Rv hu _ w)
  ·rename_i row hy hz
   refine AB.pure fun Γ σ' a w ow κ hag hr=>?_
   obtain⟨A,vr,e1,k2,_,_⟩:=hag.ev hr hyo hy
   have e2:a.eval z=.pointer none:=(hag.ev hr hzo hz).1
   obtain⟨b,off,rfl,_⟩:=k2.2 (by simp)
   exact Ih ho h e1 e2 (fun op=>LK op t y z _ _ w) (QX hu _ w) (Rv hu _ w)
  ·rename_i rows r off hy hz
   refine AB.pure fun Γ σ' a w ow κ hag hr=>?_
   obtain⟨es,b,q',vrows,e1,_⟩:=hag.ev hr hyo hy
   have e2:a.eval z=.pointer none:=(hag.ev hr hzo hz).1
   exact Ih ho h e1 e2 (fun op=>LK op t y z _ _ w) (QX hu _ w) (Rv hu _ w)
  ·cases h
 ·cases h
theorem a5g {op:UnOp}{t:TypeId}{y:Operand}{x:AV}(ho:o.op=.unOp op t y) (h:WH op (σ.ev y)=some x):AB P o σ ⟨[],[],x⟩:=by
 have hyo:y∈o.op.operands:=by rw[ho];simp[Op.operands]
 unfold WH at h
 split at h
 ·rename_i b hy
  cases h
  refine AB.pure fun Γ σ' a w ow κ hag hr=>?_
  have e1:=(hag.ev hr hyo hy).bool
  refine⟨.bool (!b),?_,rfl,rfl⟩
  unfold execOp
  rw[ho]
  simp[e1,Op.unary]
 ·rename_i k n hy
  cases h
  refine AB.pure fun Γ σ' a w ow κ hag hr=>?_
  have e1:=(hag.ev hr hyo hy).int
  refine⟨.int k (k.wrap (0-n)),?_,rfl,rfl⟩
  unfold execOp
  rw[ho]
  simp[e1,Op.unary,Op.intArith]
 ·cases h
theorem TL {y:Operand}{n:Nat}{x:AV}{xs:List AV}(ho:o.op=.extract y n) (hy:σ.ev y=.tup xs) (h:xs[n]? = some x):AB P o σ ⟨[],[],x⟩:=by
 refine AB.pure fun Γ σ' a w ow κ hag hr=>?_
 obtain⟨vs,e1,e2⟩:=hag.ev hr (by rw[ho];simp[Op.operands]) hy
 obtain⟨v,e3,e4⟩:=e2.at_ h
 refine⟨v,?_,e4⟩
 unfold execOp
 rw[ho]
 simp[e1,Instr.extract,e3]
theorem ARs.map_ev {Γ:Ctx}{σ':ASt}{a:Act}{w:World}{ow:Nat→Option Id}{κ:Id→Value}(hr:RelAt Γ σ' a w ow κ):∀(l:List Operand),(∀x,x∈l→σ'.ev x=σ.ev x)→ARs w (Γ.sees ow) σ'.mem κ (l.map σ.ev) (l.map a.eval)
 | [],_=>rfl
 |x::l,h=>⟨_,_,rfl,by have:=hr.ev x;rwa [h x (by simp)]at this,ARs.map_ev hr l fun y hy=>h y (by simp[hy])⟩
theorem RP {f:FuncId}{caps:Array Operand}(ho:o.op=.makeFunc (.func f) #[] caps):AB P o σ ⟨[],[],.clo f (caps.toList.map σ.ev)⟩:=by
 refine AB.pure fun Γ σ' a w ow κ hag hr=>?_
 refine⟨.func (.func f) #[] (caps.map a.eval),?_,(caps.toList.map a.eval),?_,ARs.map_ev hr _ fun x hx=>hag.1 x (by rw[ho];simpa [Op.operands] using hx)⟩
 ·unfold execOp
  rw[ho]
  simp[Instr.makeFunc]
 ·rw[←Array.toList_map]
theorem Z2 {src dst:TypeId}{y:Operand}{k k':IntKind}{n:Int}{x:TIn}{s b:Nat}{z:Option Value}(ho:o.op=.convert src dst y) (h1:tin P src=some x) (h2:tin P dst=some ⟨.int k,s,b,z⟩) (hy:σ.ev y=.c (.int k' n)):AB P o σ ⟨[],[],.c (.int k (k.wrap n))⟩:=by
 refine AB.pure fun Γ σ' a w ow κ hag hr=>?_
 have e1:=(hag.ev hr (by rw[ho];simp[Op.operands]) hy).int
 obtain⟨d,i,g1,_,_⟩:=BE h1
 obtain⟨d',i',g1',g2',g3'⟩:=BE h2
 simp only[TIn.mk.injEq]at g3'
 obtain⟨g3',_⟩:=g3'
 cases d'<;>simp[TI.of]at g3'
 subst g3'
 refine⟨.int k (k.wrap n),?_,rfl,rfl⟩
 unfold execOp
 rw[ho]
 simp[e1,convert,run_underlying g1,run_underlying g1',Conv.intToInt]
theorem Z3 {src dst:TypeId}{y:Operand}{q:ByteArray}{s b s' b':Nat}{z z':Option Value}(ho:o.op=.convert src dst y) (h1:tin P src=some ⟨.str,s,b,z⟩) (h2:tin P dst=some ⟨.str,s',b',z'⟩) (hy:σ.ev y=.c (.str q)):AB P o σ ⟨[],[],.c (.str q)⟩:=by
 refine AB.pure fun Γ σ' a w ow κ hag hr=>?_
 have e1:=(hag.ev hr (by rw[ho];simp[Op.operands]) hy).str
 obtain⟨d,i,g1,g2,g3⟩:=BE h1
 obtain⟨d',i',g1',g2',g3'⟩:=BE h2
 simp only[TIn.mk.injEq]at g3 g3'
 obtain⟨g3,_⟩:=g3
 obtain⟨g3',_⟩:=g3'
 cases d<;>simp[TI.of]at g3
 cases d'<;>simp[TI.of]at g3'
 refine⟨.string q,?_,rfl,rfl⟩
 unfold execOp
 rw[ho]
 simp[e1,convert,run_underlying g1,run_underlying g1']
theorem Value.cells_one {v:Value}(h:v.oneCell'=true):v.cells = #[v]:=by cases v<;>simp[Value.oneCell']at h<;>rfl
theorem AV.cells_rep {w:World}{S:Nat→Prop}{m:Mem}{κ:Id→Value}{x:AV}{v:Value}{xs:List AV}(h:AR w S m κ x v) (hx:x.cells=some xs):∃us,v.cells=List.toArray us∧ARs w S m κ xs us∧∀u∈us,u.oneCell'=true:=by
 have one:x.isCell=true→xs=[x]→∃us,v.cells=List.toArray us∧ARs w S m κ xs us∧∀u∈us,u.oneCell'=true:=fun h1 h2=>by
  subst h2
  have:=AR.one h1 h
  exact⟨[v],Value.cells_one this,⟨v,[],rfl,h,rfl⟩,by simpa using this⟩
 cases x<;>simp only[AV.cells]at hx<;>(try cases hx)<;>(try exact one rfl rfl)
 obtain⟨us,k1,k2,k3⟩:=h
 exact⟨us,by rw[k1];rfl,k2,k3⟩
theorem PI (us:List Value):∀(off k:Nat) (cells:List Value),off+k+us.length≤cells.length→(us.zipIdx k).foldl (fun (cs:Array Value) (p:Value×Nat)=>cs.setIfInBounds (off+p.2) p.1) cells.toArray=(C4 cells (off+k) us).toArray:=by
 induction us with
 |nil=>intro off k cells _;simp[C4]
 |cons u us ih =>
  intro off k cells hl
  simp only[List.zipIdx_cons,List.foldl_cons]
  have:=ih off (k+1) (cells.set (off+k) u) (by simp at hl ⊢;omega)
  rw[List.setIfInBounds_toArray,this]
  congr 1
  have e:=list_seg_step cells (off+k) u us (by simp at hl;omega)
  unfold C4
  simp only[List.length_cons]
  rw[←e]
  simp only[Nat.add_assoc]
theorem ARs.putL {w:World}{S:Nat→Prop}{m:Mem}{κ:Id→Value}{cells xs:List AV}{vs us:List Value}{off:Nat}(h:ARs w S m κ cells vs) (h':ARs w S m κ xs us):ARs w S m κ (C4 cells off xs) (C4 vs off us):=by
 unfold Go.Proofs.YtcejfdfmgmcinaaGreat.C4
 rw[h'.length]
 exact ((h.take off).append h').append (h.drop _)
theorem TD {vs us:List Value}{off:Nat}(h1:∀u∈vs,u.oneCell'=true) (h2:∀u∈us,u.oneCell'=true):∀u∈C4 vs off us,u.oneCell'=true:=by
 intro u hu
 unfold C4 at hu
 simp only[List.mem_append]at hu
 rcases hu with (hu | hu) | hu
 ·exact h1 u (List.mem_of_mem_take hu)
 ·exact h2 u hu
 ·exact h1 u (List.mem_of_mem_drop hu)
theorem Mg {fields:Array Field}{places:Nat→Option (Nat×Nat)}(hp:∀i t off,(fields.toList.map fun f=>(f.type,f.offset))[i]? = some (t,off)→∀ti size b z,tin P t=some ⟨ti,size,b,z⟩→places i=some (off,size))
  {w:World} {S:Nat→Prop} {m:Mem} {κ:Id→Value} {ev:Operand→AV} {val:Operand→Value}:∀(parts:List (Nat×Operand)) (cells:List AV) (vs:List Value) (out:List AV),ARs w S m κ cells vs→(∀u∈vs,u.oneCell'=true)→(∀p∈parts,AR w S m κ (ev p.2) (val p.2)) →
  NA P (fields.toList.map fun f=>(f.type,f.offset)) ev cells parts=some out→∃us,Instr.fill places vs.toArray (parts.map fun p=>(p.1,val p.2))=some (List.toArray us)∧ARs w S m κ out us∧∀u∈us,u.oneCell'=true
 | [],cells,vs,out,h1,h2,_,h=>by
  simp only[NA,Option.some.injEq]at h
  subst h
  exact⟨vs,rfl,h1,h2⟩
 | (i,x)::parts,cells,vs,out,h1,h2,h3,h=>by
  simp only[NA]at h
  split at h
  case h_2=>cases h
  rename_i t off hf
  split at h
  case h_2=>cases h
  rename_i ti size b z xs ht hx
  split at h
  case isFalse=>cases h
  rename_i hc
  obtain⟨hl,hle,hall⟩:=hc
  have hpl:=hp i t off hf ti size b z ht
  have hxr:=h3 (i,x) (by simp)
  obtain⟨us,k1,k2,k3⟩:=AV.cells_rep hxr hx
  have hul:=k2.length
  have hvl:=h1.length
  obtain⟨out',q1,q2,q3⟩:=Mg hp parts (C4 cells off xs) (C4 vs off us) out (h1.putL k2) (TD h2 k3) (fun p hp=>h3 p (by simp[hp])) h
  refine⟨out',?_,q2,q3⟩
  simp only[List.map_cons,Instr.fill,hpl]
  have e1:(val x).cells.size=size:=by rw[k1];simp;omega
  have e2:¬(((val x).cells.size≠size||off+(val x).cells.size>vs.toArray.size)=true):=by simp[e1];omega
  rw[if_neg (by simpa using e2)]
  have:=PI us off 0 vs (by omega)
  simp only[Nat.add_zero]at this
  rw[k1,show (List.toArray us).zipIdx=(us.zipIdx).toArray from by simp]
  simp only[List.foldl_toArray]
  rw[this]
  exact q1
end
end
section
open Go.RowKit
def DK (ow:Nat→Option Id) (ks:List Id) (fr:Id) (nb:Option Nat) (b:Nat):Option Id :=
 if nb=some b then some fr else match ow b with
  |some i=>if i∈ks then some fr else some i
  |none=>none
def Dg (κ:Id→Value) (fr:Id) (v:Value) (i:Id):Value:=if i=fr then v else κ i
theorem Cy {m:Mem}{ks:List Id}{fr:Id}{obj:AO}(hks:∀i∈ks,i≠fr):(m.puts (ks.map (fun i=>(i,AO.dead))++[(fr,obj)])).get fr=some obj:=by
 obtain⟨o,h1,h2⟩:=Mem.get_puts_in fr (ks.map (fun i=>(i,AO.dead))++[(fr,obj)]) m (by simp)
 simp only[List.mem_append,List.mem_map,List.mem_singleton,Prod.mk.injEq]at h2
 rcases h2 with⟨i,hi,h3,h4⟩ | ⟨_,h4⟩
 ·exact absurd h3 (hks i hi)
 ·rw[h1,h4]
theorem Fi {m:Mem}{ks:List Id}{fr:Id}{obj:AO}{i:Id}(hi:i∈ks) (hne:i≠fr):(m.puts (ks.map (fun i=>(i,AO.dead))++[(fr,obj)])).get i=some .dead:=by
 obtain⟨o,h1,h2⟩:=Mem.get_puts_in i (ks.map (fun i=>(i,AO.dead))++[(fr,obj)]) m (by simp[hi])
 simp only[List.mem_append,List.mem_map,List.mem_singleton,Prod.mk.injEq]at h2
 rcases h2 with⟨j,hj,h3,h4⟩ | ⟨h3,_⟩
 ·rw[h1,←h4]
 ·exact absurd h3 hne
theorem Step.make {m:Mem}{ks:List Id}{fr:Id}{obj:AO}{w w':World}{ow:Nat→Option Id}{κ:Id→Value}{v:Value}{nb:Option Nat}(hos:w'.os=w.os) (htape:w'.tape=w.tape) (hout:w'.output=w.output) (hz:w.heap.size≤w'.heap.size)
  (hf:m.get fr=none) (hks:∀i∈ks,i≠fr) (hobj:obj.live=true) (hblk:∀b,b<w.heap.size→(∀i,ow b=some i→i ∉ ks)→w'.heap[b]? = w.heap[b]?)
  (hnb:∀b,nb=some b→b<w'.heap.size∧(w.heap.size≤b∨∃i,i∈ks∧ow b=some i)) (hown:∀b i,ow b=some i→b<w.heap.size∧∃o,m.get i=some o) :
  Step m (ks.map (fun i=>(i,AO.dead))++[(fr,obj)]) w ow κ w' (DK ow ks fr nb) (Dg κ fr v):=by
 have hin:∀i,i∈(ks.map (fun i=>(i,AO.dead))++[(fr,obj)]).map (·.1)↔i∈ks∨i=fr:=by intro i;simp
 refine⟨hos,htape,hout,hz,fun b hb h=>?_,fun b i hb=>?_,fun i o hi=>?_,fun i hi o o' h1 h2=>?_⟩
 ·have h':∀i,ow b=some i→i ∉ ks:=fun i hi hk=>h i hi ((hin i).2 (.inl hk))
  refine⟨hblk b hb h',?_⟩
  unfold DK
  rw[if_neg (fun e=>by
   rcases (hnb b e).2 with h1 | ⟨i,h1,h2⟩
   ·omega
   ·exact h' i h2 h1)]
  cases ho:ow b with
  |none=>rfl
  |some i=>simp only;rw[if_neg (h' i ho)]
 ·unfold DK at hb
  split at hb
  ·rename_i hn
   cases hb
   exact .inr ⟨(hnb b hn).1,obj,Cy hks,hobj,(hin _).2 (.inr rfl)⟩
  ·have hb2:∃j,ow b=some j∧(if j∈ks then some fr else some j)=some i:=by
    cases ho:ow b with
    |none=>rw[ho]at hb;cases hb
    |some j=>rw[ho]at hb;exact⟨j,rfl,hb⟩
   obtain⟨j,ho,hb3⟩:=hb2
   split at hb3
   ·cases hb3
    exact .inr ⟨by have:=(hown b j ho).1;omega,obj,Cy hks,hobj,(hin _).2 (.inr rfl)⟩
   ·rename_i hj
    injection hb3 with hb3
    subst hb3
    refine .inl ⟨fun hc=>?_,ho⟩
    rcases (hin j).1 hc with hc | hc
    ·exact hj hc
    ·obtain⟨_,o,ho'⟩:=hown b j ho
     subst hc
     rw[hf]at ho'
     cases ho'
 ·unfold Dg
  rw[if_neg (fun e=>by rw[e,hf]at hi;cases hi)]
 ·rcases (hin i).1 hi with hk | hk
  ·rw[Fi hk (hks i hk)]at h2
   exact .inl (by cases h2;rfl)
  ·subst hk
   rw[hf]at h1
   cases h1
section
variable {P:Program} {o:Oper} {σ:ASt}
theorem RelAt.owns {Γ:Ctx}{a:Act}{w:World}{ow:Nat→Option Id}{κ:Id→Value}(h:RelAt Γ σ a w ow κ):∀b i,ow b=some i→b<w.heap.size∧∃o,σ.mem.get i=some o:=fun b i hb=>by
 obtain⟨h1,o,h2,_⟩:=h.own b i hb
 exact⟨h1,o,h2⟩
theorem RelAt.newBox {Γ:Ctx}{a:Act}{w:World}{ow:Nat→Option Id}{κ:Id→Value}(h:RelAt Γ σ a w ow κ) {fr:Id}(hf:σ.mem.get fr=none) {cells:List AV}{vs:List Value}(hv:ARs w (Γ.sees ow) σ.mem κ cells vs) (h1:∀u∈vs,u.oneCell'=true) (T:TypeId) (dst:Option Tmp) :
  ∃ow' κ',RelAt Γ (σ.upd dst ⟨[],[(fr,.box cells)],.ptr fr 0⟩) (a.put dst (.pointer (some ⟨w.heap.size,0,none⟩))) (w.alloc (.cells vs.toArray T)) ow' κ':=by
 have st:Step σ.mem [(fr,.box cells)] w ow κ (w.alloc (.cells vs.toArray T)) (DK ow [] fr (some w.heap.size)) (Dg κ fr (.pointer (some ⟨w.heap.size,0,none⟩))) :=
  Step.make (ks:=[]) rfl rfl rfl (by simp) hf (by simp) rfl (fun b hb _=>Below.heap_alloc w _ b hb) (fun b hb=>by cases hb;exact⟨by simp,.inl (Nat.le_refl _)⟩) h.owns
 refine⟨_,_,h.step (E:=⟨[],[(fr,.box cells)],.ptr fr 0⟩) st ⟨rfl,.box cells,?_,fun _=>⟨w.heap.size,by simp[Dg],rfl⟩⟩ (fun i hi o ho=>?_) dst⟩
 ·exact Cy (ks:=[]) (by simp)
 ·have hi':i=fr:=by simpa using hi
  subst hi'
  cases (Cy (m:=σ.mem) (ks:=[]) (fr:=i) (obj:=.box cells) (by simp)).symm.trans ho
  exact⟨w.heap.size,vs,T,by simp[Dg],by simp[DK],heap_alloc_new w _,ARs.keep (by simp) (st.sees (Γ:=Γ)) st.mem hv,h1⟩
theorem Jw {w:World}{S:Nat→Prop}{m:Mem}{κ:Id→Value}{z:Option Value}{cells:List AV}(h:Lx z=some cells):∃v us,z=some v∧v.cells=List.toArray us∧ARs w S m κ cells us∧∀u∈us,u.oneCell'=true:=by
 unfold Lx at h
 split at h
 case h_2=>cases h
 rename_i v
 split at h
 case isFalse=>cases h
 rename_i hv
 obtain⟨us,h1,h2,h3⟩:=AV.cells_rep (w:=w) (S:=S) (m:=m) (κ:=κ) (a1o v hv) h
 exact⟨v,us,rfl,h1,h2,h3⟩
theorem YY {ty:TypeId}{cells:List AV}{fr:Id}{ti:TI}{s b:Nat}{z:Option Value}(ho:o.op=.alloc ty) (ht:tin P ty=some ⟨ti,s,b,z⟩) (hz:Lx z=some cells) (hf:σ.mem.get fr=none):AB P o σ ⟨[],[(fr,.box cells)],.ptr fr 0⟩:=by
 intro Γ σ' a w ow κ hag hr
 obtain⟨v,us,rfl,h1,h2,h3⟩:=Jw (w:=w) (S:=Γ.sees ow) (m:=σ'.mem) (κ:=κ) hz
 obtain⟨ow',κ',hr'⟩:=hr.newBox (by rw[hag.2.2 fr (by simp),hf]) h2 h3 ty o.dst
 refine⟨_,_,ow',κ',.inl ?_,hr'⟩
 unfold execOp
 rw[ho]
 simp[Instr.alloc,Gt ht,newVar,newRow,h1]
theorem WZ {ty:TypeId}{y:Operand}{cells:List AV}{fr:Id}(ho:o.op=.box ty y) (hy:(σ.ev y).cells=some cells) (hf:σ.mem.get fr=none):AB P o σ ⟨[],[(fr,.box cells)],.ptr fr 0⟩:=by
 intro Γ σ' a w ow κ hag hr
 obtain⟨us,h1,h2,h3⟩:=AV.cells_rep (hag.ev hr (by rw[ho];simp[Op.operands]) rfl) hy
 obtain⟨ow',κ',hr'⟩:=hr.newBox (by rw[hag.2.2 fr (by simp),hf]) h2 h3 ty o.dst
 refine⟨_,_,ow',κ',.inl ?_,hr'⟩
 unfold execOp
 rw[ho]
 simp[Instr.box,newVar,newRow,h1]
theorem Mv {w:World}:∀(l:List Field),(∀f∈l,(tin P f.type).isSome=true)→(l.mapM fun f=>(Prod.mk f.offset <$> sizeOf f.type:Sem (Nat×Nat))).run P w=.ok (l.map fun f=>(f.offset,((tin P f.type).map (·.size)).getD 0)) w
 | [],_=>by simp
 |f::l,h=>by
  have hf:=h f (by simp)
  cases ht:tin P f.type with
  |none=>rw[ht]at hf;cases hf
  |some x =>
   obtain⟨ti,s,b,z⟩:=x
   have ih:=Mv (w:=w) l fun g hg=>h g (by simp[hg])
   simp[List.mapM_cons,Dv ht,ih,ht]
theorem Z0 {ty:TypeId}{parts:Array (Nat×Operand)}{x:AV}(ho:o.op=.build ty parts) (h:KR P σ.ev ty parts.toList=some x):AB P o σ ⟨[],[],x⟩:=by
 unfold KR at h
 split at h
 case h_2=>cases h
 rename_i fs s b z ht
 split at h
 case h_2=>cases h
 rename_i cells hz
 split at h
 case isFalse=>cases h
 rename_i hall
 cases hfl:NA P fs σ.ev cells parts.toList with
 |none=>rw[hfl]at h;cases h
 |some out =>
  rw[hfl]at h
  cases h
  have ht':=ht
  obtain⟨d,i,g1,g2,g3⟩:=BE ht
  simp only[TIn.mk.injEq]at g3
  obtain⟨g3,_,_,_⟩:=g3
  cases d<;>simp[TI.of]at g3
  rename_i fields
  subst g3
  refine AB.pure fun Γ σ' a w ow κ hag hr=>?_
  obtain⟨v,us,rfl,h1,h2,h3⟩:=Jw (w:=w) (S:=Γ.sees ow) (m:=σ'.mem) (κ:=κ) hz
  have hop:∀p∈parts.toList,AR w (Γ.sees ow) σ'.mem κ (σ.ev p.2) (a.eval p.2):=fun p hp=>hag.ev hr (by rw[ho];simp only[Op.operands];simp;exact⟨p.1,by simpa using hp⟩) rfl
  have hall':∀f∈fields.toList,(tin P f.type).isSome=true:=by
   intro f hf
   have:=List.all_eq_true.1 hall (f.type,f.offset) (List.mem_map.2 ⟨f,hf,rfl⟩)
   exact this
  obtain⟨us',q1,q2,q3⟩:=Mg (P:=P) (fields:=fields) (places:=fun i=>(fields.toList.map fun f=>(f.offset,((tin P f.type).map (·.size)).getD 0))[i]?) (fun i t off hi ti size b z hti=>by
   simp only[List.getElem?_map,Option.map_eq_some_iff]at hi ⊢
   obtain⟨f,hf,hff⟩:=hi
   simp only[Prod.mk.injEq]at hff
   obtain⟨rfl,rfl⟩:=hff
   exact⟨f,hf,by rw[hti];rfl⟩) (val:=a.eval) parts.toList cells us out h2 h3 hop hfl
  refine⟨.agg us'.toArray,?_,us',rfl,q2,q3⟩
  have hm:=Mv (P:=P) (w:=w) fields.toList hall'
  unfold execOp
  rw[ho]
  simp only[Instr.build,Sem.run_bind,Gt ht',Result.andThen_ok,run_underlying g1,Array.mapM_eq_mapM_toList,Sem.run_map]
  simp only[bind_pure_comp]
  rw[hm]
  simp only[Result.andThen_ok,h1]
  simp only[List.getElem?_toArray,Array.toList_map]
  rw[q1]
  rfl
end
end
end Go.Proofs.YtcejfdfmgmcinaaGreat
