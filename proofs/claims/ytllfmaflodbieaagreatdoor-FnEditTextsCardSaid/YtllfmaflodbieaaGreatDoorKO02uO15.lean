/- Texts of this proof: O02 O03 O06 O10 O13 O14 O15. -/
import Derived.Test.YtllfmaflodbieaaGreatDoorKR20uH30
set_option linter.all false
namespace Go.Proofs.YtllfmaflodbieaaGreatDoor
section
open Go.ChangeShapes Go.WideShapes Go.ChangeAt Go.RowKit Go.Deep
section
variable {H:Type} {enc:TypeId×Value→H} {P:Program} {w:World} {base:Nat} {spare:Nat→Bool} {held:Bool}
theorem K4 {t e tI tS:TypeId}{n0 n1 n2 n3 n4:Field}{fuel:Nat}{v:Value}{x:DataW H×List MemPlace}(ht:P.underlying t=some (.slice e)) (he:P.underlying e=some (.struct #[n0,n1,n2,n3,n4]))
  (hone:oneCellFields P #[n0,n1,n2,n3,n4]=true) (hC:P.cellsOf e=5) (h0:n0.type=tI) (h1:n1.type=tI) (h2:n2.type=tS) (h3:n3.type=tS) (h4:n4.type=tI)
  (hI:P.underlying tI=some (.int .i64)) (hS:P.underlying tS=some .string)
  (h:DataW.trod enc P w base spare held fuel t [v]=some x) :
  ∃(A:Option Addr) (c:Nat) (xs:List CellD),v=.slice A xs.length c∧xs.length≤9223372036854775807∧xs.length≤c∧(∀c∈xs,c.text.size≤9223372036854775807∧c.key.size≤9223372036854775807)∧Bg w (fun b=>b<w.heap.size) A xs:=by
 rcases EE ht he hone hC h with⟨hcs,_⟩ | ⟨a,len',cap',m,D,Pl,hcs,_⟩
 ·simp only[List.cons.injEq,and_true]at hcs
  subst hcs
  obtain⟨xs,hl,h5,h6,h7,h8⟩:=Od ht he hone hC h0 h1 h2 h3 h4 hI hS h
  exact⟨none,0,xs,by rw[hl],by omega,by omega,h7,h8⟩
 ·simp only[List.cons.injEq,and_true]at hcs
  subst hcs
  obtain⟨xs,hl,h5,h6,h7,h8⟩:=Od ht he hone hC h0 h1 h2 h3 h4 hI hS h
  exact⟨some a,cap',xs,by rw[hl],by omega,by omega,h7,h8⟩
theorem a4m {t e tc ec tI tS:TypeId}{f0 f1 f2 n0 n1 n2 n3 n4:Field}{fuel len cap:Nat}{A:Option Addr}{x:DataW H×List MemPlace}(ht:P.underlying t=some (.slice e)) (he:P.underlying e=some (.struct #[f0,f1,f2]))
  (hone:oneCellFields P #[f0,f1,f2]=true) (hC:P.cellsOf e=3) (g0:f0.type=tI) (g1:f1.type=tc) (g2:f2.type=tc)
  (htc:P.underlying tc=some (.slice ec)) (hec:P.underlying ec=some (.struct #[n0,n1,n2,n3,n4]))
  (honec:oneCellFields P #[n0,n1,n2,n3,n4]=true) (hCc:P.cellsOf ec=5) (h0:n0.type=tI) (h1:n1.type=tI) (h2:n2.type=tS) (h3:n3.type=tS) (h4:n4.type=tI)
  (hI:P.underlying tI=some (.int .i64)) (hS:P.underlying tS=some .string)
  (h:DataW.trod enc P w base spare held fuel t [.slice A len cap]=some x) :
  ∃l:List EditD,l.length=len∧len≤9223372036854775807∧len≤cap∧(∀d∈l,DY d)∧Pn w (fun b=>b<w.heap.size) A l:=by
 rcases EE ht he hone hC h with⟨hcs,_⟩ | ⟨a,len',cap',m,D,Pl,hcs,_,hl,hm,hmm,_,hi⟩
 ·simp only[List.cons.injEq,Value.slice.injEq,and_true]at hcs
  obtain⟨rfl,rfl,rfl⟩:=hcs
  exact⟨[],rfl,by omega,by omega,by simp,Bm.nil⟩
 ·simp only[List.cons.injEq,Value.slice.injEq,and_true]at hcs
  obtain⟨rfl,rfl,rfl⟩:=hcs
  have hlm:len≤m:=by rw[hmm];split<;>omega
  have hmx:maxLen=9223372036854775807:=rfl
  obtain⟨l,hll,hx⟩:=MT (p:=fun i (d:EditD×List Value)=>DY d.1∧RE w (fun b=>b<w.heap.size) d.1 d.2∧∀j u,d.2[j]? = some u→w.cell? (a.add (i*3+j))=some u) len (fun i hil=>by
   obtain⟨ys,n,_,_,_,hf⟩:=hi i (by omega)
   obtain⟨v0,y0,c0,_,t0⟩:=hf 0 f0 rfl
   obtain⟨v1,y1,c1,_,t1⟩:=hf 1 f1 rfl
   obtain⟨v2,y2,c2,_,t2⟩:=hf 2 f2 rfl
   rw[g0]at t0;rw[g1]at t1;rw[g2]at t2
   obtain⟨op,e0,_⟩:=DataW.trod_int hI t0
   simp only[List.cons.injEq,and_true]at e0
   subst e0
   obtain⟨Ap,cp,ps,rfl,p1,p2,p3,p4⟩:=K4 htc hec honec hCc h0 h1 h2 h3 h4 hI hS t1
   obtain⟨Ax,cx,xs,rfl,x1,x2,x3,x4⟩:=K4 htc hec honec hCc h0 h1 h2 h3 h4 hI hS t2
   refine⟨(⟨op,ps,xs⟩,[.int .i64 op,.slice Ap ps.length cp,.slice Ax xs.length cx]),⟨p3,x3,p1,x1⟩,⟨Ap,cp,Ax,cx,rfl,p2,x2,p4,x4⟩,fun j u hu=>?_⟩
   match j with
   | 0=>simp only[List.getElem?_cons_zero,Option.some.injEq]at hu;subst hu;exact c0
   | 1=>simp only[List.getElem?_cons_succ,List.getElem?_cons_zero,Option.some.injEq]at hu;subst hu;exact c1
   | 2=>simp only[List.getElem?_cons_succ,List.getElem?_cons_zero,Option.some.injEq]at hu;subst hu;exact c2
   |j+3=>simp at hu)
  refine⟨l.map (·.1),by simp[hll],by omega,hl,fun d hd=>?_,l.map (·.2),by simp,⟨fun x hx'=>?_,fun hn=>?_⟩,fun i hi' row hr=>?_⟩
  ·simp only[List.mem_map]at hd
   obtain⟨y,hy,rfl⟩:=hd
   obtain⟨i,hi',rfl⟩:=List.getElem_of_mem hy
   exact (hx i hi').1
  ·simp only[List.mem_map]at hx'
   obtain⟨y,hy,rfl⟩:=hx'
   obtain⟨i,hi',rfl⟩:=List.getElem_of_mem hy
   exact okE.len (hx i hi').2.1
  ·simp only[List.length_map]at hn
   obtain⟨_,⟨_,_,_,_,hrow,_⟩,hc0⟩:=hx 0 hn
   have hfirst:=hc0 0 _ (by rw[hrow];rfl)
   simp only[Nat.zero_mul,Nat.zero_add]at hfirst
   have hadd0:a.add 0=a:=by unfold Addr.add;simp
   rw[hadd0]at hfirst
   obtain⟨ab,ao,asp⟩:=a
   have hsp:asp=none:=by
    unfold World.cell? at hfirst
    simp only at hfirst
    split at hfirst
    ·split at hfirst
     ·simp at hfirst
     ·rename_i hns;simpa using hns
    ·simp at hfirst
   subst hsp
   refine⟨ab,ao,rfl,World.block_lt_of_cell? w _ hfirst,World.block_lt_of_cell? w _ hfirst,fun i x hxi j u hu=>?_⟩
   simp only[List.getElem?_map]at hxi
   by_cases hil:i<l.length
   ·rw[List.getElem?_eq_getElem hil]at hxi
    simp only[Option.map_some,Option.some.injEq]at hxi
    subst hxi
    have:=(hx i hil).2.2 j u hu
    have hadd:(⟨ab,ao,none⟩:Addr).add (i*3+j)=⟨ab,ao+i*3+j,none⟩:=by
     unfold Addr.add
     split
     ·rename_i h0
      have hi0:i=0:=by omega
      subst hi0
      simp
     ·simp[Nat.add_assoc]
    rw[hadd]at this
    exact this
   ·rw[List.getElem?_eq_none (by omega)]at hxi
    simp at hxi
  ·simp only[List.length_map]at hi'
   rw[List.getElem?_map,List.getElem?_eq_getElem hi']at hr
   simp only[Option.map_some,Option.some.injEq]at hr
   subst hr
   simp only[List.getElem_map]
   exact (hx i hi').2.1
end
end
section
open Go.ChangeShapes Go.WideShapes Go.ChangeAt Go.RowKit Go.Deep
section
variable {H:Type} {enc:TypeId×Value→H} {P:Program} {w:World} {base:Nat} {spare:Nat→Bool} {held:Bool}
theorem Pv {α:Type}{S:Nat→Prop}(f:α→C):∀(l:List (α×Value)),(∀y∈l,CR w S (f y.1) y.2 [])→Aj w S (l.map fun y=>[f y.1]) (l.map fun y=>[y.2]) []
 | [],_=>⟨rfl,rfl⟩
 |y::l,h=>⟨[y.2],_,[],[],rfl,rfl,⟨y.2,[],[],[],rfl,rfl,h y (by simp),rfl,rfl⟩,Pv f l fun z hz=>h z (by simp[hz])⟩
theorem Q4 {α:Type}{p:α→Prop}{f:α→C}{t e:TypeId}{fuel len cap:Nat}{A:Option Addr}{x:DataW H×List MemPlace}(ht:P.underlying t=some (.slice e)) (hC:P.cellsOf e=1)
  (hel:∀(n:Nat) (v:Value) (y:DataW H×List MemPlace),DataW.trod enc P w base spare held n e [v]=some y→∃a:α,p a∧CR w (fun b=>b<w.heap.size) (f a) v [])
  (h:DataW.trod enc P w base spare held fuel t [.slice A len cap]=some x) :
  ∃l:List α,l.length=len∧len≤9223372036854775807∧len≤cap∧(∀a∈l,p a)∧CR w (fun b=>b<w.heap.size) (.sl (l.map fun a=>[f a])) (.slice A len cap) []:=by
 rcases open_slice1 ht hC h with⟨hcs,_⟩ | ⟨a,len',cap',m,n,V,D,Pl,hcs,_,hl,hm,hmm,_,hi⟩
 ·simp only[List.cons.injEq,Value.slice.injEq,and_true]at hcs
  obtain⟨rfl,rfl,rfl⟩:=hcs
  exact⟨[],rfl,by omega,by omega,by simp,0,none,0,[],rfl,Nat.le_refl _,trivial,Row.nil,⟨rfl,rfl⟩,rfl⟩
 ·simp only[List.cons.injEq,Value.slice.injEq,and_true]at hcs
  obtain⟨rfl,rfl,rfl⟩:=hcs
  have hlm:len≤m:=by rw[hmm];split<;>omega
  have hmx:maxLen=9223372036854775807:=rfl
  obtain⟨l,hll,hx⟩:=MT (p:=fun i (y:α×Value)=>p y.1∧CR w (fun b=>b<w.heap.size) (f y.1) y.2 []∧w.cell? (a.add i)=some y.2) len (fun i hil=>by
   obtain⟨c0,t0⟩:=hi i (by omega)
   obtain⟨b,h1,h2⟩:=hel _ _ _ t0
   exact⟨(b,V i),h1,h2,c0⟩)
  have hmem:∀y∈l,p y.1∧CR w (fun b=>b<w.heap.size) (f y.1) y.2 []:=fun y hy=>by
   obtain⟨i,hi',rfl⟩:=List.getElem_of_mem hy
   exact⟨(hx i hi').1,(hx i hi').2.1⟩
  refine⟨l.map (·.1),by simp[hll],by omega,hl,fun b hb=>?_,1,some a,cap,l.map fun y=>[y.2],by simp[hll],by simp[hll];exact hl,trivial,⟨fun x hx'=>?_,fun hn=>?_⟩,?_,rfl⟩
  ·simp only[List.mem_map]at hb
   obtain⟨y,hy,rfl⟩:=hb
   exact (hmem y hy).1
  ·simp only[List.mem_map]at hx'
   obtain⟨y,_,rfl⟩:=hx'
   rfl
  ·simp only[List.length_map]at hn
   have hfirst:=(hx 0 hn).2.2
   have hadd0:a.add 0=a:=by unfold Addr.add;simp
   rw[hadd0]at hfirst
   obtain⟨ab,ao,asp⟩:=a
   have hsp:asp=none:=by
    unfold World.cell? at hfirst
    simp only at hfirst
    split at hfirst
    ·split at hfirst
     ·simp at hfirst
     ·rename_i hns;simpa using hns
    ·simp at hfirst
   subst hsp
   refine⟨ab,ao,rfl,World.block_lt_of_cell? w _ hfirst,World.block_lt_of_cell? w _ hfirst,fun i x hxi j u hu=>?_⟩
   simp only[List.getElem?_map]at hxi
   by_cases hil:i<l.length
   ·rw[List.getElem?_eq_getElem hil]at hxi
    simp only[Option.map_some,Option.some.injEq]at hxi
    subst hxi
    have hj:j=0:=by
     match j with
     | 0=>rfl
     |j+1=>simp at hu
    subst hj
    simp only[List.getElem?_cons_zero,Option.some.injEq]at hu
    subst hu
    have:=(hx i hil).2.2
    have hadd:(⟨ab,ao,none⟩:Addr).add i=⟨ab,ao+i*1+0,none⟩:=by
     unfold Addr.add
     split
     ·rename_i h0
      have hi0:i=0:=by omega
      subst hi0
      simp
     ·simp
    rw[hadd]at this
    exact this
   ·rw[List.getElem?_eq_none (by omega)]at hxi
    simp at hxi
  ·rw[List.map_map]
   exact Pv f l fun y hy=>(hmem y hy).2
theorem a2v {t tc e tI tS:TypeId}{n0 n1 n2 n3 n4:Field}{fuel len cap:Nat}{A:Option Addr}{x:DataW H×List MemPlace}(ht:P.underlying t=some (.slice tc)) (htc:P.underlying tc=some (.slice e)) (hC1:P.cellsOf tc=1) (he:P.underlying e=some (.struct #[n0,n1,n2,n3,n4]))
  (hone:oneCellFields P #[n0,n1,n2,n3,n4]=true) (hC:P.cellsOf e=5) (h0:n0.type=tI) (h1:n1.type=tI) (h2:n2.type=tS) (h3:n3.type=tS) (h4:n4.type=tI)
  (hI:P.underlying tI=some (.int .i64)) (hS:P.underlying tS=some .string)
  (h:DataW.trod enc P w base spare held fuel t [.slice A len cap]=some x) :
  ∃l:List (List CellD),l.length=len∧len≤9223372036854775807∧len≤cap∧(∀x∈l,D7 x)∧(∀x∈l,x.length≤9223372036854775807)∧CR w (fun b=>b<w.heap.size) (.sl (l.map A9)) (.slice A len cap) []:=by
 obtain⟨l,g1,g2,g3,g4,g5⟩:=Q4 (α:=List CellD) (p:=fun xs=>D7 xs∧xs.length≤9223372036854775807) (f:=fun xs=>.sl (xs.map CellD.cs)) ht hC1 (fun n v y hy=>by
  obtain⟨A',c,xs,rfl,p1,p2,p3,p4⟩:=K4 htc he hone hC h0 h1 h2 h3 h4 hI hS hy
  exact⟨xs,⟨p3,p1⟩,Dn.2 ⟨A',c,rfl,p2,p4⟩⟩) h
 exact⟨l,g1,g2,g3,fun x hx=>(g4 x hx).1,fun x hx=>(g4 x hx).2,g5⟩
end
end
section
open Go.ChangeShapes Go.WideShapes Go.ChangeAt Go.RowKit Go.Deep
theorem VF {H:Type}{enc:TypeId×Value→H}{P:Program}{w:World}{base:Nat}{spare:Nat→Bool}{held:Bool}{t e:TypeId}{fuel len cap:Nat}{A:Option Addr}{x:DataW H×List MemPlace}(ht:P.underlying t=some (.slice e)) (he:P.underlying e=some (.int .u8)) (hC:P.cellsOf e=1)
  (h:DataW.trod enc P w base spare held fuel t [.slice A len cap]=some x) :
  ∃bs:List Nat,bs.length=len∧len≤9223372036854775807∧len≤cap∧(∀b∈bs,b<256)∧CR w (fun b=>b<w.heap.size) (.sl (bs.map CO)) (.slice A len cap) []:=by
 refine Q4 (α:=Nat) (p:=fun b=>b<256) (f:=fun b=>.int .u8 (b:Int)) ht hC (fun n v y hy=>?_) h
 obtain⟨k,h1,_,h2⟩:=DataW.trod_int he hy
 simp only[List.cons.injEq,and_true]at h1
 subst h1
 simp only[Lit.wf,Bool.and_eq_true,decide_eq_true_eq]at h2
 have h3:(0:Int)≤k:=h2.1
 have h4:k≤255:=h2.2
 exact⟨k.toNat,by omega,by rw[show ((k.toNat:Nat):Int)=k by omega],rfl⟩
end
section
open Go.RowKit
theorem J8:∀l:List Nat,(C.sl (l.map CO)).offT=true
 | []=>rfl
 |b::l=>by
  have h:=J8 l
  simp only[C.offT]at h
  simp only[C.offT,List.map_cons,HJ,h,CO,KG]
  rfl
end
section
open Go.ChangeShapes Go.WideShapes Go.ChangeAt Go.RowKit Go.Deep
def N3 (w:World) (g:Nat):Prop:=∀j u,w.cell? ⟨g,j,none⟩=some u→∃t x,u=.iface t x
theorem PI {W:World}{n:String}{g:Nat}(hg:Tryz.prog.globalNamed n=some g) (h:∃tp p,W.var? Tryz.prog n=some #[.iface tp p]):N3 W g:=by
 obtain⟨tp,p,h⟩:=h
 intro j u hu
 have h1:=World.var?_cell hg h j
 rw[hu]at h1
 cases j with
 |zero=>simp at h1;exact⟨tp,p,h1⟩
 |succ j=>simp at h1
section
variable {w:World} {S:Nat→Prop} {g:Nat}
theorem CR.noI {x:C}{v:Value}{bs:List Nat}(hx:x.offT=true) (h:CR w S x v bs):∀t u,v≠.iface t u:=by
 rintro t u rfl
 cases x<;>simp only[CR]at h<;>simp[C.offT]at hx
 case int k n=>exact absurd h.1 (by simp)
 case bool=>exact absurd h.1 (by simp)
 case str=>exact absurd h.1 (by simp)
 case sl=>obtain⟨es,A,cap,vrows,h1,_⟩:=h;cases h1
theorem Row.offI (hI:N3 w g) {es:Nat}{A:Option Addr}{xs:List (List Value)}(h:Row w S es A xs)
  (h0:0<xs.length→∃u r,xs[0]? = some (u::r)∧∀t x,u≠.iface t x):Row w (fun b=>S b∧b≠g) es A xs:=by
 refine⟨h.1,fun hn=>?_⟩
 obtain⟨b,off,hA,hS,hb,hc⟩:=h.2 hn
 refine⟨b,off,hA,⟨hS,?_⟩,hb,hc⟩
 rintro rfl
 obtain⟨u,r,h1,h2⟩:=h0 hn
 have:=hc 0 _ h1 0 u rfl
 obtain⟨t,x,hz⟩:=hI _ _ this
 exact h2 t x hz
mutual
theorem CR.offI (hI:N3 w g):∀{x:C}{v:Value}{bs:List Nat},x.offT=true→CR w S x v bs→CR w (fun b=>S b∧b≠g) x v bs
 | .int _ _,_,_,_,h=>h
 | .bool _,_,_,_,h=>h
 | .str _,_,_,_,h=>h
 | .raw _,_,_,hx,_=>by simp[C.offT]at hx
 | .osl _,_,_,hx,_=>by simp[C.offT]at hx
 | .ref _,_,_,hx,_=>by simp[C.offT]at hx
 | .oref _,_,_,hx,_=>by simp[C.offT]at hx
 | .sl rows,v,bs,hx,h=>by
  simp only[CR]at h ⊢
  simp only[C.offT]at hx
  obtain⟨es,A,cap,vrows,h1,h2,h3,h4,h5,h6⟩:=h
  refine⟨es,A,cap,vrows,h1,h2,h3,Row.offI hI h4 fun hn=>?_,Aj.offI hI hx h5,h6⟩
  cases rows with
  |nil=>simp only[Aj]at h5;rw[h5.1]at hn;simp at hn
  |cons r rs =>
   simp only[HJ,Bool.and_eq_true]at hx
   cases r with
   |nil=>simp at hx
   |cons c cs =>
    simp only[Aj,CRs]at h5
    obtain⟨vr,vs',b1,b2,rfl,_,⟨u,us,c1,c2,rfl,_,hu,_⟩,_⟩:=h5
    simp only[KG,Bool.and_eq_true]at hx
    exact⟨u,us,rfl,CR.noI hx.1.2.1 hu⟩
theorem CRs.offI (hI:N3 w g):∀{x:List C}{v:List Value}{bs:List Nat},KG x=true→CRs w S x v bs→CRs w (fun b=>S b∧b≠g) x v bs
 | [],_,_,_,h=>h
 |c::cs,v,bs,hx,h=>by
  simp only[CRs]at h ⊢
  simp only[KG,Bool.and_eq_true]at hx
  obtain⟨u,vs',b1,b2,h1,h2,h3,h4⟩:=h
  exact⟨u,vs',b1,b2,h1,h2,CR.offI hI hx.1 h3,CRs.offI hI hx.2 h4⟩
theorem Aj.offI (hI:N3 w g):∀{x:List (List C)}{v:List (List Value)}{bs:List Nat},HJ x=true→Aj w S x v bs→Aj w (fun b=>S b∧b≠g) x v bs
 | [],_,_,_,h=>h
 |c::cs,v,bs,hx,h=>by
  simp only[Aj]at h ⊢
  simp only[HJ,Bool.and_eq_true]at hx
  obtain⟨u,vs',b1,b2,h1,h2,h3,h4⟩:=h
  exact⟨u,vs',b1,b2,h1,h2,CRs.offI hI hx.1.2 h3,Aj.offI hI hx.2 h4⟩
end
end
theorem a4w {o o1 o2:Obj}{i:Id}{q:AO}(h:Mem.get (teM o o1 o2) i=some q):(i=(8,0)∧q=.blk (MH o) [])∨(i=(8,1)∧q=.gen (D8 o1 o2)):=by
 simp only[Mem.get,List.lookup_cons,List.lookup_nil]at h
 by_cases hq:i=(8,0)
 ·subst hq
  exact .inl ⟨rfl,by simpa [eq_comm] using h⟩
 ·have e1:(i==((8,0):Id))=false:=by simpa using hq
  rw[e1]at h
  by_cases hq2:i=(8,1)
  ·subst hq2
   exact .inr ⟨rfl,by simpa [eq_comm] using h⟩
  ·have e2:(i==((8,1):Id))=false:=by simpa using hq2
   rw[e2]at h
   cases h
theorem AC.calls_te {o o1 o2:Obj}{f:FuncId}{args:List AV}{b:Bool}(h:AC Tryz.prog f args (teM o o1 o2) (.c (.bool b)) (teM o o1 o2)) {w:World}{S:Nat→Prop}{Bv:List Value}
  (ho : w.heap[1]? = some o) (htab : Lib.TabIs Tryz.prog w "internal/strconv.uint64pow10" .u64 Lib.pow10Tab) (ho1 : w.heap[6]? = some o1) (ho2 : w.heap[7]? = some o2) (h1 : SX o1) (h2 : SX o2)
  (hS0:¬S 1) (hS1:¬S 6) (hS2:¬S 7)
  (hv:∀(T:Nat→Prop),(∀b,S b→T b)→∀m κ,ARs w T m κ args Bv):Calls Tryz.prog f Bv.toArray w fun e w'=>e=.returned (.bool b)∧Below w.heap.size w w':=by
 have hl0:1<w.heap.size:=(Array.getElem?_eq_some_iff.1 ho).1
 have hl1:6<w.heap.size:=(Array.getElem?_eq_some_iff.1 ho1).1
 have hl2:7<w.heap.size:=(Array.getElem?_eq_some_iff.1 ho2).1
 let Γ:Ctx:=⟨w,S,fun b=>if b=1 then some (8,0) else if b=6 then some (8,1) else if b=7 then some (8,1) else none,fun _=>.bool false,[(8,0),(8,1)]⟩
 have hE:Entry Γ (teM o o1 o2):=by
  refine⟨fun i o' hi=>?_,fun b i hb=>?_,rfl⟩
  ·rcases a4w hi with⟨rfl,rfl⟩ | ⟨rfl,rfl⟩
   ·refine⟨1,o,[],rfl,ho,by simp[Aj],rfl,PF,fun w2 h2=>?_⟩
    unfold Lib.TabIs World.var? at htab ⊢
    rw[PF]at htab ⊢
    simp only[Option.bind_some,h2,ho]at htab ⊢
    exact htab
   ·refine⟨[(6,o1),(7,o2)],fun p hp=>?_,rfl,h1,h2⟩
    simp only[List.mem_cons,List.not_mem_nil,or_false]at hp
    rcases hp with rfl | rfl
    ·exact⟨rfl,ho1⟩
    ·exact⟨rfl,ho2⟩
  ·simp only[Γ]at hb
   split at hb
   ·rename_i e
    subst e
    cases hb
    exact⟨hl0,_,rfl,rfl⟩
   ·split at hb
    ·rename_i e
     subst e
     cases hb
     exact⟨hl1,_,rfl,rfl⟩
    ·split at hb
     ·rename_i e
      subst e
      cases hb
      exact⟨hl2,_,rfl,rfl⟩
     ·cases hb
 refine (h Γ Bv hE (hv _ (fun b hb=>⟨by simp only[Γ];rw[if_neg (by rintro rfl;exact hS0 hb),if_neg (by rintro rfl;exact hS1 hb),if_neg (by rintro rfl;exact hS2 hb)],.inl hb⟩) _ _)).mono ?_
 rintro e w' ⟨v,ow,κ,rfl,hx⟩
 obtain⟨rfl,_⟩:=hx.res
 refine⟨rfl,hx.os,hx.tape,hx.output,hx.size,fun b hb=>?_⟩
 obtain⟨b',obj,vr,k1,k2,k3,rfl,k5,k6⟩:=hx.objs (8,0) _ rfl
 obtain⟨l,j1,rfl,_⟩:=hx.objs (8,1) _ rfl
 rw[PF]at k5
 cases k5
 by_cases hb0:b=1
 ·subst hb0
  rw[ho]
  exact k2
 ·by_cases hb1:b=6
  ·subst hb1
   rw[ho1]
   exact (j1 (6,o1) (by simp)).2
  ·by_cases hb2:b=7
   ·subst hb2
    rw[ho2]
    exact (j1 (7,o2) (by simp)).2
   ·exact (hx.frame b hb (by simp only[Γ];rw[if_neg hb0,if_neg hb1,if_neg hb2])).1
end
section
open Go.ChangeShapes Go.WideShapes Go.ChangeAt Go.RowKit Go.Deep
def Zj:DataW Unit→Array Value
 | .agg l=>(l.map fun | .lit (.int k z)=>[Value.int k z] | .agg m=>m.map (fun | .lit (.int k z)=>Value.int k z | _=>.bool false) | _=>[.bool false]).flatten.toArray
 |_=>#[]
def a45 (d:DataW Unit):Obj→Obj
 | .cells _ t fz=>.cells (Zj d) t fz
 |o=>o
noncomputable def NZ (os:Os):World :=
 let w0:=World.holding Tryz.prog os ⟨#[.cells #[.string a4q] 365,.cells #[.string a2i] 365],#[],[]⟩
 { w0 with heap:=((((((w0.heap.modify 4 (a3v Rows.laid_math_bits_deBruijn32tab)).modify 5 (a3v Rows.laid_math_bits_deBruijn64tab)).modify 1 (a3v Rows.laid_internal_strconv_uint64pow10)).modify 3 (a45 Rows.laid_unicode_utf8_acceptRanges)).modify 7 (a5e a47)).modify 6 (a5e (a47+1))).modify 2 (a45 Rows.laid_unicode_utf8_first) }
abbrev Ix : List (String × DataW Unit) := [("math/bits.deBruijn32tab", Rows.laid_math_bits_deBruijn32tab), ("math/bits.deBruijn64tab", Rows.laid_math_bits_deBruijn64tab), ("internal/strconv.uint64pow10", Rows.laid_internal_strconv_uint64pow10), ("unicode/utf8.acceptRanges", Rows.laid_unicode_utf8_acceptRanges), ("strconv.ErrRange", Rows.laid_strconv_ErrRange), ("strconv.ErrSyntax", Rows.laid_strconv_ErrSyntax), ("unicode/utf8.first", Rows.laid_unicode_utf8_first)]
theorem XX (os:Os) (args:Array Value):laidMetH Tryz.prog Ix ((NZ os).forCall (fun _ _=>0) ⟨#[],args,[]⟩).memory :=
 show laidMet Tryz.prog Ix _ from laidMet_of_run' 8 (by kernel_rfl) (by kernel_rfl)
theorem SG {W : World} (h : laidMetH Tryz.prog Ix W) : (∃ tp p, W.var? Tryz.prog "strconv.ErrRange" = some #[.iface tp p]) ∧ (∃ tp p, W.var? Tryz.prog "strconv.ErrSyntax" = some #[.iface tp p]) := by
 have h':laidMet Tryz.prog Ix W:=h
 obtain⟨ms,ht⟩:=a5x
 obtain⟨f,hs,hf1,hf2⟩:=a52
 have h3 : laidMet Tryz.prog [("strconv.ErrRange", Rows.laid_strconv_ErrRange), ("strconv.ErrSyntax", Rows.laid_strconv_ErrSyntax), ("unicode/utf8.first", Rows.laid_unicode_utf8_first)] W := laidMet.tail (laidMet.tail (laidMet.tail (laidMet.tail h')))
 obtain⟨a,s,h5,_⟩:=laid_sentinel h3 ZF a5l ht a5g a5f hs hf1 hf2 Tryz.underlying9 c1E c2E
 obtain⟨a2,s2,h6,_⟩:=laid_sentinel (laidMet.tail h3) ZG a5m ht a5g a5f hs hf1 hf2 Tryz.underlying9 c1E c2E
 exact⟨⟨_,_,h5⟩,_,_,h6⟩
theorem RF {W : World} (h : laidMetH Tryz.prog Ix W) : Lib.TabIs Tryz.prog W "internal/strconv.uint64pow10" .u64 Lib.pow10Tab := by
 have h0:laidMet Tryz.prog Ix W:=h
 have h':=laidMet.tail (laidMet.tail h0)
 obtain⟨ps,⟨g2,t2,cs2,f2,p2,q2,hg2,ht2,hv2,hd2,_,_⟩,_,_⟩:=h'
 obtain rfl:=Option.some.inj (PF.symm.trans hg2)
 obtain rfl:=Option.some.inj (a5k.symm.trans ht2)
 rw[a5d]at hd2
 unfold Lib.TabIs
 rw[hv2,←Lib.cells_of_tab Tryz.underlying290 Tryz.underlying249 (by kernel_rfl) (by kernel_rfl) hd2]
theorem YT {w:World}(h:laidMetH Tryz.prog Ix w) {bs:List Nat}{v:Value}{S:Nat→Prop}(hcs:CR w S (.sl (bs.map CO)) v []):CR w (fun b=>((S b∧b≠1)∧b≠6)∧b≠7) (.sl (bs.map CO)) v []:=by
 obtain⟨hr,hs⟩:=SG h
 exact CR.offI (PI ZF hr) (J8 bs) (CR.offI (PI ZG hs) (J8 bs) (CR.off PF (RF h) (J8 bs) hcs))
theorem UD {f:FuncId}(bs:List Nat) (hac:∀o o1 o2,AC Tryz.prog f [.c (.sl (bs.map CO))] (teM o o1 o2) (.c (.bool true)) (teM o o1 o2)) (A:Option Addr) (cap:Nat) (w:World) (hcs:CR w (fun b=>b<w.heap.size) (.sl (bs.map CO)) (.slice A bs.length cap) []) (h:laidMetH Tryz.prog Ix w) :
  Calls Tryz.prog f #[.slice A bs.length cap] w fun e w'=>e=.returned (.bool true)∧Below w.heap.size w w':=by
 obtain⟨hr,hs⟩:=SG h
 obtain⟨o2,ho2,h2⟩:=WJ ZF hr
 obtain⟨o1,ho1,h1⟩:=WJ ZG hs
 obtain⟨o,ho⟩:=Yl (RF h)
 exact AC.calls_te (S:=fun b=>((b<w.heap.size∧b≠1)∧b≠6)∧b≠7) (hac o o1 o2) ho (RF h) ho1 ho2 h1 h2 (fun h=>h.1.1.2 rfl) (fun h=>h.1.2 rfl) (fun h=>h.2 rfl) fun T hT m κ =>
  ⟨_,_,rfl,CR.keep (Nat.le_refl _) (fun b hb _=>⟨rfl,hT b hb⟩) (by simp) (YT h hcs),rfl⟩
end
end Go.Proofs.YtllfmaflodbieaaGreatDoor
