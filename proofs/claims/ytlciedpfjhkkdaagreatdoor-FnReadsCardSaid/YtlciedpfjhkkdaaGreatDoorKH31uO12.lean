/- Texts of this proof: H31 O01 F00 O07 O12. -/
import Derived.Test.YtlciedpfjhkkdaaGreatDoorKD26
import Derived.Test.YtlciedpfjhkkdaaGreatDoorRows
import Derived.SizedLaws
import Derived.Deep.Slices
import Derived.Deep.Fields
import Derived.ChangeSame
import Derived.Test.YtlciedpfjhkkdaaGreatDoorCards
import Derived.Test.YtlciedpfjhkkdaaGreatDoorTie
import Derived.Lib.LaidTab
import Derived.LaidMore
import Derived.Stop.Joined
import Derived.SevenTiedAt
import Derived.Stop.LaidErr
set_option linter.all false
set_option maxHeartbeats 8000000
namespace Go.Proofs.YtlciedpfjhkkdaaGreatDoor
section
open Go.RowKit
set_option maxRecDepth 10000
variable {o o1 o2:Obj}
theorem valR_end {s:ByteArray}{i:Nat}(h:s.size≤i):∀k,valR k s i=.bad 5 s.size
 | 0=>by unfold valR;rw[if_pos h]
 |k+1=>by unfold valR;rw[if_pos h]
theorem txt_pos {t:V}(ht:t.right):0<t.txt.size:=by
 rcases Nat.eq_zero_or_pos t.txt.size with h | h
 ·have h1:=decode_own ht (by omega)
  unfold decodeR at h1
  rw[if_neg (by omega),valR_end (by omega)]at h1
  cases h1
 ·exact h
theorem lawReads_ac (bs:List Nat) (hbb:∀b∈bs,b<256):AC Tryz.prog 8 [.c (.sl (bs.map byteCs))] (teM o o1 o2) (.c (.bool true)) (teM o o1 o2):=by
 have hbig:=lwBig_ac bs
 by_cases hl:bs.length≤1048576
 ·have hd:decide ((bs.length:Int)>1048576)=false:=decide_eq_false (by omega)
  rw[hd]at hbig
  have hb:BytesOk bs:=⟨hl,hbb⟩
  obtain⟨s,hs,hdraw⟩:=drawDec_ac bs hb
  have h00:((0:Int) != 0)=false:=rfl
  have h0e:((0:Int)==0)=true:=rfl
  cases hdc:decodeR s with
  |mk c y =>
   cases y with
   |none =>
    obtain⟨hc,hp⟩:=decodeR_bad hdc
    have hD:=implDecode_bad (o1:=o1) (o2:=o2) s (by omega) hdc
    have hS:=specDecode_ac s (by omega)
    rw[hdc]at hS
    unfold decA at hS
    simp only at hS
    obtain⟨c,p⟩:=c
    simp only at hc hp hD hS
    have h0:(c != 0)=true:=by simpa using rdCode_ne hc
    have h1:(c==c)=true:=by simp
    have g1:decide ((p:Int)≥0)=true:=decide_eq_true (by omega)
    have g2:decide ((p:Int)≤(s.size:Int))=true:=decide_eq_true (by omega)
    refine wEnter Tryz.func8 Tryz.ntmps8 ?_
    refine wRUN trivial ?_
    refine w7 (op_data [] hbig) trivial ?_
    refine wRUN trivial ?_
    refine w7 (op_data [] hdraw) trivial ?_
    refine wRUN trivial ?_
    refine wCall (op_any_call [((8,1),(8,1))] [((8,1),(8,1))] hD) trivial ?_
    refine wRUN h0 ?_
    refine w7 (op_data [] hS) trivial ?_
    refine wRUN (j3 h1 g1 g2) ?_
    exact wRetOf (ret_of [((8,0),(8,0)),((8,1),(8,1))] []) Tryz.results8 h0
   |some v =>
    obtain⟨_,hr,_⟩:=decodeR_ok hdc
    have hD:=implDecodeS_ok (o1:=o1) (o2:=o2) s hdc
    have hE:=encodeVal_ok (o:=o) hr
    have hsz:=txt_size' hr
    have htp:=txt_pos hr
    have hsame:=sameS hr
    have hF:=faultS hr
    have gp:decide ((v.txt.size:Int)>0)=true:=decide_eq_true (by omega)
    have hown:=fun h=>decode_own hr h
    by_cases h4:4000<v.txt.size
    ·have g4:decide ((v.txt.size:Int)>4000)=true:=decide_eq_true (by omega)
     have hD2:=implDecode_bad (o1:=o1) (o2:=o2) v.txt (by omega) (decode_big h4)
     change AC _ _ _ _ (.agg [.c (.int .i64 2),.c (.int .i64 0),.nils]) _ at hD2
     refine wEnter Tryz.func8 Tryz.ntmps8 ?_
     refine wRUN trivial ?_
     refine w7 (op_data [] hbig) trivial ?_
     refine wRUN trivial ?_
     refine w7 (op_data [] hdraw) trivial ?_
     refine wRUN trivial ?_
     refine wCallB (op_callB [] [((8,1),(8,1))] [((8,1),(8,1))] hD) trivial ?_
     refine wRUN h00 ?_
     refine wCall (op_any_call [((8,0),(8,0))] [((8,0),(8,0))] hE) trivial ?_
     refine wRUN trivial ?_
     refine wCall (op_any_call [((8,1),(8,1))] [((8,1),(8,1))] hD2) trivial ?_
     refine wRUN trivial ?_
     refine w7 (op_data [] hF) trivial ?_
     refine wRUN (j3 h0e g4 gp) ?_
     exact wRetOf (ret_of [((8,0),(8,0)),((8,1),(8,1))] []) Tryz.results8 h00
    ·have g4:decide ((v.txt.size:Int)>4000)=false:=decide_eq_false (by omega)
     have hD2:=implDecodeS_ok (o1:=o1) (o2:=o2) v.txt (hown (by omega))
     refine wEnter Tryz.func8 Tryz.ntmps8 ?_
     refine wRUN trivial ?_
     refine w7 (op_data [] hbig) trivial ?_
     refine wRUN trivial ?_
     refine w7 (op_data [] hdraw) trivial ?_
     refine wRUN trivial ?_
     refine wCallB (op_callB [] [((8,1),(8,1))] [((8,1),(8,1))] hD) trivial ?_
     refine wRUN h00 ?_
     refine wCall (op_any_call [((8,0),(8,0))] [((8,0),(8,0))] hE) trivial ?_
     refine wRUN trivial ?_
     refine wCallB (op_callB [] [((8,1),(8,1))] [((8,1),(8,1))] hD2) trivial ?_
     refine wRUN trivial ?_
     refine w7 (op_data [] hF) trivial ?_
     refine wRUN (j2 h0e g4) ?_
     refine w7 (op_data [] hsame) trivial ?_
     refine wRUN gp ?_
     exact wRetOf (ret_of [((8,0),(8,0)),((8,1),(8,1))] []) Tryz.results8 h00
 ·have hd:decide ((bs.length:Int)>1048576)=true:=decide_eq_true (by omega)
  rw[hd]at hbig
  refine wEnter Tryz.func8 Tryz.ntmps8 ?_
  refine wRUN trivial ?_
  refine w7 (op_data [] hbig) trivial ?_
  refine wRUN trivial ?_
  exact wRetOf (ret_of [((8,0),(8,0)),((8,1),(8,1))] []) Tryz.results8 hd
end
section
open Go.ChangeShapes Go.WideShapes Go.ChangeAt Go.RowKit Go.Deep
section
variable {H:Type} {enc:TypeId×Value→H} {P:Program} {w:World} {base:Nat} {spare:Nat→Bool} {held:Bool}
theorem open_slice_fields {t e:TypeId}{fs:Array Field}{fuel:Nat}{cs:List Value}{x:DataW H×List MemPlace}(ht:P.underlying t=some (.slice e)) (he:P.underlying e=some (.struct fs))
  (hone:oneCellFields P fs=true) (hC:P.cellsOf e=fs.size) (h:DataW.trod enc P w base spare held fuel t cs=some x) :
  (cs=[.slice none 0 0]∧x=(.nil,[])) ∨
  ∃(a:Addr) (len cap m:Nat) (D:Nat→DataW H) (Pl:Nat→List MemPlace),cs=[.slice (some a) len cap]∧base≤a.block∧len≤cap∧cap≤maxLen∧m=(if spare a.block then cap else len) ∧
   x=(.slice ((List.range len).map D) ((List.range (m-len)).map fun j=>D (len+j)),MemPlace.row a (m*fs.size)++(List.range m).flatMap Pl) ∧
   ∀i,i<m→∃(ys:List (DataW H×List MemPlace)) (n:Nat),D i=.agg (ys.map (·.1))∧Pl i=ys.flatMap (·.2)∧ys.length=fs.size ∧
    ∀(j:Nat) (f:Field),fs[j]? = some f→∃(v:Value) (y:DataW H×List MemPlace),w.cell? (a.add (i*fs.size+j))=some v∧ys[j]? = some y∧DataW.trod enc P w base spare held n f.type [v]=some y:=by
 rcases open_slice ht h with h0 | ⟨a,len,cap,m,n,D,Pl,hcs,hb,hl,hm,hmm,hx,hi⟩
 ·exact .inl h0
 ·refine .inr ⟨a,len,cap,m,D,Pl,hcs,hb,hl,hm,hmm,by rw[hC]at hx;exact hx,fun i him=>?_⟩
  obtain⟨cs',hc,ht'⟩:=hi i him
  rw[hC]at hc
  obtain⟨ys,n',hn',hy,hlen,hyl,hf⟩:=DataW.trod_struct he ht'
  obtain⟨_,hcl,hat⟩:=World.cells?_some hc
  simp only[Prod.mk.injEq]at hy
  refine⟨ys,n',hy.1,hy.2,hyl,fun j f hj=>?_⟩
  obtain⟨ho,hk⟩:=hone_of hone j f hj
  have hjl:j<fs.size:=(Array.getElem?_eq_some_iff.1 hj).1
  have hcell:=hat j hjl
  have hv:cs'[j]? = some (cs'[j]'(by omega)):=List.getElem?_eq_getElem (by omega)
  have h1:=hf j f hj
  rw[ho,hk]at h1
  have hone':(cs'.drop j).take 1=[cs'[j]'(by omega)]:=by
   rw[List.drop_eq_getElem_cons (by omega)]
   rfl
  rw[hone']at h1
  have hys:ys[j]? = some (ys[j]'(by omega)):=List.getElem?_eq_getElem (by omega)
  refine⟨_,_,?_,hys,h1.trans hys⟩
  rw[←Go.Deep.add_add,hcell,hv]
theorem list_of {α:Type}{p:Nat→α→Prop}:∀(n:Nat),(∀i,i<n→∃c,p i c)→∃xs:List α,xs.length=n∧∀i (h:i<xs.length),p i xs[i]
 | 0,_=>⟨[],rfl,fun i h=>absurd h (by simp)⟩
 |n+1,h=>by
  obtain⟨xs,hl,hx⟩:=list_of n (fun i hi=>h i (by omega))
  obtain⟨c,hc⟩:=h n (by omega)
  refine⟨xs++[c],by simp[hl],fun i hi=>?_⟩
  by_cases hlt:i<xs.length
  ·rw[List.getElem_append_left hlt];exact hx i hlt
  ·have:i=xs.length:=by simp at hi;omega
   subst this
   rw[List.getElem_append_right (Nat.le_refl _)]
   simp
   rw[hl]
   exact hc
theorem open_cellS {t e tI tS:TypeId}{n0 n1 n2 n3 n4:Field}{fuel len cap:Nat}{A:Option Addr}{x:DataW H×List MemPlace}(ht:P.underlying t=some (.slice e)) (he:P.underlying e=some (.struct #[n0,n1,n2,n3,n4]))
  (hone:oneCellFields P #[n0,n1,n2,n3,n4]=true) (hC:P.cellsOf e=5) (h0:n0.type=tI) (h1:n1.type=tI) (h2:n2.type=tS) (h3:n3.type=tS) (h4:n4.type=tI)
  (hI:P.underlying tI=some (.int .i64)) (hS:P.underlying tS=some .string)
  (h:DataW.trod enc P w base spare held fuel t [.slice A len cap]=some x) :
  ∃xs:List CellD,xs.length=len∧len≤9223372036854775807∧len≤cap∧(∀c∈xs,c.text.size≤9223372036854775807∧c.key.size≤9223372036854775807)∧Cells w (fun b=>b<w.heap.size) A xs:=by
 rcases open_slice_fields ht he hone hC h with⟨hcs,_⟩ | ⟨a,len',cap',m,D,Pl,hcs,_,hl,hm,hmm,_,hi⟩
 ·simp only[List.cons.injEq,Value.slice.injEq,and_true]at hcs
  obtain⟨rfl,rfl,rfl⟩:=hcs
  exact⟨[],rfl,by omega,by omega,by simp,Cells.nil⟩
 ·simp only[List.cons.injEq,Value.slice.injEq,and_true]at hcs
  obtain⟨rfl,rfl,rfl⟩:=hcs
  have hlm:len≤m:=by rw[hmm];split<;>omega
  have hmx:maxLen=9223372036854775807:=rfl
  obtain⟨xs,hxl,hx⟩:=list_of (p:=fun i (c:CellD)=>(c.text.size≤9223372036854775807∧c.key.size≤9223372036854775807)∧∀j u,(vals c)[j]? = some u→w.cell? (a.add (i*5+j))=some u) len (fun i hil=>by
   obtain⟨ys,n,_,_,_,hf⟩:=hi i (by omega)
   obtain⟨v0,y0,c0,_,t0⟩:=hf 0 n0 rfl
   obtain⟨v1,y1,c1,_,t1⟩:=hf 1 n1 rfl
   obtain⟨v2,y2,c2,_,t2⟩:=hf 2 n2 rfl
   obtain⟨v3,y3,c3,_,t3⟩:=hf 3 n3 rfl
   obtain⟨v4,y4,c4,_,t4⟩:=hf 4 n4 rfl
   rw[h0]at t0;rw[h1]at t1;rw[h2]at t2;rw[h3]at t3;rw[h4]at t4
   obtain⟨k,e0,_⟩:=DataW.trod_int hI t0
   obtain⟨q,e1,_⟩:=DataW.trod_int hI t1
   obtain⟨s,e2,_,z2⟩:=DataW.trod_string hS t2
   obtain⟨y,e3,_,z3⟩:=DataW.trod_string hS t3
   obtain⟨nn,e4,_⟩:=DataW.trod_int hI t4
   simp only[List.cons.injEq,and_true]at e0 e1 e2 e3 e4
   subst e0 e1 e2 e3 e4
   refine⟨⟨k,q,s,y,nn⟩,⟨by show s.size≤_;omega,by show y.size≤_;omega⟩,fun j u hu=>?_⟩
   simp only[vals]at hu
   match j with
   | 0=>simp only[List.getElem?_cons_zero,Option.some.injEq]at hu;subst hu;exact c0
   | 1=>simp only[List.getElem?_cons_succ,List.getElem?_cons_zero,Option.some.injEq]at hu;subst hu;exact c1
   | 2=>simp only[List.getElem?_cons_succ,List.getElem?_cons_zero,Option.some.injEq]at hu;subst hu;exact c2
   | 3=>simp only[List.getElem?_cons_succ,List.getElem?_cons_zero,Option.some.injEq]at hu;subst hu;exact c3
   | 4=>simp only[List.getElem?_cons_succ,List.getElem?_cons_zero,Option.some.injEq]at hu;subst hu;exact c4
   |j+5=>simp at hu)
  refine⟨xs,hxl,by omega,hl,fun c hc=>?_,fun x hx'=>?_,fun hn=>?_⟩
  ·obtain⟨i,hi',rfl⟩:=List.getElem_of_mem hc
   exact (hx i hi').1
  ·simp only[List.mem_map]at hx'
   obtain⟨c,_,rfl⟩:=hx'
   rfl
  ·simp only[List.length_map]at hn
   have hfirst:=(hx 0 hn).2 0 _ rfl
   simp only[Nat.zero_mul,Nat.zero_add]at hfirst
   have hadd0:a.add 0=a:=by unfold Addr.add;simp
   rw[hadd0]at hfirst
   obtain⟨ab,ao,asp⟩:=a
   have hsp:asp=none:=by
    unfold World.cell? at hfirst
    simp only at hfirst
    split at hfirst
    ·split at hfirst
     ·simp at hfirst
     ·rename_i hns;simpa using hns
    ·simp at hfirst
   subst hsp
   refine⟨ab,ao,rfl,World.block_lt_of_cell? w _ hfirst,World.block_lt_of_cell? w _ hfirst,fun i x hxi j u hu=>?_⟩
   simp only[List.getElem?_map]at hxi
   by_cases hil:i<xs.length
   ·rw[List.getElem?_eq_getElem hil]at hxi
    simp only[Option.map_some,Option.some.injEq]at hxi
    subst hxi
    have:=(hx i hil).2 j u hu
    have hadd:(⟨ab,ao,none⟩:Addr).add (i*5+j)=⟨ab,ao+i*5+j,none⟩:=by
     unfold Addr.add
     split
     ·rename_i h0;(have hi0:i=0:=by omega);subst hi0;simp
     ·simp[Nat.add_assoc]
    rw[hadd]at this
    exact this
   ·rw[List.getElem?_eq_none (by omega)]at hxi
    simp at hxi
end
end
section
open Go.ChangeShapes Go.WideShapes Go.ChangeAt Go.RowKit Go.Deep
theorem Tryz.own:ownKnob Tryz.prog.godebug=none:=by kernel_rfl
theorem Tryz.laidOut:laidOutB Tryz.prog=true:=by kernel_rfl
end
section
open Go.ChangeShapes Go.WideShapes Go.ChangeAt Go.RowKit Go.Deep
def cellsOfL:DataW Unit→Array Value
 | .agg l=>(l.map fun | .lit (.int k z)=>Value.int k z | _=>.bool false).toArray
 |_=>#[]
def layL (d:DataW Unit):Obj→Obj
 | .cells _ t fz=>.cells (cellsOfL d) t fz
 |o=>o
theorem gPowL : Tryz.prog.globalNamed "internal/strconv.uint64pow10" = some 1 := by kernel_rfl
theorem tPowL:(Tryz.prog.globals[1]?).map (·.type)=some 253:=by kernel_rfl
theorem powDL:(Rows.laid_internal_strconv_uint64pow10:DataW Unit)=Lib.tabData .u64 Lib.pow10Tab:=by kernel_rfl
mutual
def C.offT:C→Bool
 | .int k _=>k != .u64
 | .bool _=>true
 | .str _=>true
 | .sl rows=>offTss rows
 |_=>false
def offTs:List C→Bool
 | []=>true
 |c::cs=>c.offT&&offTs cs
def offTss:List (List C)→Bool
 | []=>true
 |r::rs=>!r.isEmpty&&offTs r&&offTss rs
end
section
variable {w:World} {S:Nat→Prop} {g:Nat}
theorem CR.noT {x:C}{v:Value}{bs:List Nat}(hx:x.offT=true) (h:CR w S x v bs):∀z,v≠.int .u64 z:=by
 rintro z rfl
 cases x<;>simp only[CR]at h<;>simp[C.offT]at hx
 case int k n=>obtain⟨h,_⟩:=h;injection h with h1 _;exact hx h1.symm
 case bool=>exact absurd h.1 (by simp)
 case str=>exact absurd h.1 (by simp)
 case sl=>obtain⟨es,A,cap,vrows,h1,_⟩:=h;cases h1
theorem tab_block (hg : Tryz.prog.globalNamed "internal/strconv.uint64pow10" = some g) (ht : Lib.TabIs Tryz.prog w "internal/strconv.uint64pow10" .u64 Lib.pow10Tab) {j : Nat} {u : Value} (h : w.cell? ⟨g, j, none⟩ = some u) : ∃ z, u = .int .u64 z := by
 unfold Lib.TabIs at ht
 have h1:=World.var?_cell hg ht j
 rw[h]at h1
 rw[List.getElem?_toArray,List.getElem?_map]at h1
 cases hq:Lib.pow10Tab[j]? with
 |none=>rw[hq]at h1;cases h1
 |some z=>rw[hq]at h1;simp at h1;exact⟨_,h1⟩
theorem Row.off (hg : Tryz.prog.globalNamed "internal/strconv.uint64pow10" = some g) (ht : Lib.TabIs Tryz.prog w "internal/strconv.uint64pow10" .u64 Lib.pow10Tab) {es : Nat} {A : Option Addr} {xs : List (List Value)} (h : Row w S es A xs)
  (h0:0<xs.length→∃u r,xs[0]? = some (u::r)∧∀z,u≠.int .u64 z):Row w (fun b=>S b∧b≠g) es A xs:=by
 refine⟨h.1,fun hn=>?_⟩
 obtain⟨b,off,hA,hS,hb,hc⟩:=h.2 hn
 refine⟨b,off,hA,⟨hS,?_⟩,hb,hc⟩
 rintro rfl
 obtain⟨u,r,h1,h2⟩:=h0 hn
 have:=hc 0 _ h1 0 u rfl
 obtain⟨z,hz⟩:=tab_block hg ht this
 exact h2 z hz
mutual
theorem CR.off (hg : Tryz.prog.globalNamed "internal/strconv.uint64pow10" = some g) (ht : Lib.TabIs Tryz.prog w "internal/strconv.uint64pow10" .u64 Lib.pow10Tab) : ∀ {x : C} {v : Value} {bs : List Nat}, x.offT = true → CR w S x v bs → CR w (fun b => S b ∧ b ≠ g) x v bs
 | .int _ _,_,_,_,h=>h
 | .bool _,_,_,_,h=>h
 | .str _,_,_,_,h=>h
 | .raw _,_,_,hx,_=>by simp[C.offT]at hx
 | .osl _,_,_,hx,_=>by simp[C.offT]at hx
 | .ref _,_,_,hx,_=>by simp[C.offT]at hx
 | .oref _,_,_,hx,_=>by simp[C.offT]at hx
 | .sl rows,v,bs,hx,h=>by
  simp only[CR]at h ⊢
  simp only[C.offT]at hx
  obtain⟨es,A,cap,vrows,h1,h2,h3,h4,h5,h6⟩:=h
  refine⟨es,A,cap,vrows,h1,h2,h3,Row.off hg ht h4 fun hn=>?_,CRss.off hg ht hx h5,h6⟩
  cases rows with
  |nil=>simp only[CRss]at h5;rw[h5.1]at hn;simp at hn
  |cons r rs =>
   simp only[offTss,Bool.and_eq_true]at hx
   cases r with
   |nil=>simp at hx
   |cons c cs =>
    simp only[CRss,CRs]at h5
    obtain⟨vr,vs',b1,b2,rfl,_,⟨u,us,c1,c2,rfl,_,hu,_⟩,_⟩:=h5
    simp only[offTs,Bool.and_eq_true]at hx
    exact⟨u,us,rfl,CR.noT hx.1.2.1 hu⟩
theorem CRs.off (hg : Tryz.prog.globalNamed "internal/strconv.uint64pow10" = some g) (ht : Lib.TabIs Tryz.prog w "internal/strconv.uint64pow10" .u64 Lib.pow10Tab) : ∀ {x : List C} {v : List Value} {bs : List Nat}, offTs x = true → CRs w S x v bs → CRs w (fun b => S b ∧ b ≠ g) x v bs
 | [],_,_,_,h=>h
 |c::cs,v,bs,hx,h=>by
  simp only[CRs]at h ⊢
  simp only[offTs,Bool.and_eq_true]at hx
  obtain⟨u,vs',b1,b2,h1,h2,h3,h4⟩:=h
  exact⟨u,vs',b1,b2,h1,h2,CR.off hg ht hx.1 h3,CRs.off hg ht hx.2 h4⟩
theorem CRss.off (hg : Tryz.prog.globalNamed "internal/strconv.uint64pow10" = some g) (ht : Lib.TabIs Tryz.prog w "internal/strconv.uint64pow10" .u64 Lib.pow10Tab) : ∀ {x : List (List C)} {v : List (List Value)} {bs : List Nat}, offTss x = true → CRss w S x v bs → CRss w (fun b => S b ∧ b ≠ g) x v bs
 | [],_,_,_,h=>h
 |c::cs,v,bs,hx,h=>by
  simp only[CRss]at h ⊢
  simp only[offTss,Bool.and_eq_true]at hx
  obtain⟨u,vs',b1,b2,h1,h2,h3,h4⟩:=h
  exact⟨u,vs',b1,b2,h1,h2,CRs.off hg ht hx.1.2 h3,CRss.off hg ht hx.2 h4⟩
end
end
theorem pow_block {w : World} (ht : Lib.TabIs Tryz.prog w "internal/strconv.uint64pow10" .u64 Lib.pow10Tab) : ∃ o, w.heap[1]? = some o := by
 unfold Lib.TabIs World.var? at ht
 rw[gPowL]at ht
 simp only[Option.bind_some]at ht
 cases ho:w.heap[1]? with
 |none=>rw[ho]at ht;cases ht
 |some o=>exact⟨o,rfl⟩
end
section
open Go.ChangeShapes Go.WideShapes Go.ChangeAt Go.RowKit Go.Deep
def ptrO (n:Nat):Obj→Obj
 | .cells _ t fz=>.cells #[.iface 330 (.pointer (some ⟨n,0,none⟩))] t fz
 |o=>o
def rangeS:ByteArray:=⟨#[118,97,108,117,101,32,111,117,116,32,111,102,32,114,97,110,103,101]⟩
def syntaxS:ByteArray:=⟨#[105,110,118,97,108,105,100,32,115,121,110,116,97,120]⟩
noncomputable def lowE:Nat:=(World.holding Tryz.prog default ⟨#[],#[],[]⟩).heap.size
noncomputable def laidWorldE (os:Os):World :=
 let w0:=World.holding Tryz.prog os ⟨#[.cells #[.string rangeS] 332,.cells #[.string syntaxS] 332],#[],[]⟩
 { w0 with heap:=((((w0.heap.modify 4 (layL Rows.laid_math_bits_deBruijn32tab)).modify 5 (layL Rows.laid_math_bits_deBruijn64tab)).modify 1 (layL Rows.laid_internal_strconv_uint64pow10)).modify 7 (ptrO lowE)).modify 6 (ptrO (lowE+1)) }
abbrev laidE : List (String × DataW Unit) := [("math/bits.deBruijn32tab", Rows.laid_math_bits_deBruijn32tab), ("math/bits.deBruijn64tab", Rows.laid_math_bits_deBruijn64tab), ("internal/strconv.uint64pow10", Rows.laid_internal_strconv_uint64pow10), ("strconv.ErrRange", Rows.laid_strconv_ErrRange), ("strconv.ErrSyntax", Rows.laid_strconv_ErrSyntax)]
theorem laidE_met (os:Os) (args:Array Value):laidMetH Tryz.prog laidE ((laidWorldE os).forCall (fun _ _=>0) ⟨#[],args,[]⟩).memory :=
 show laidMet Tryz.prog laidE _ from laidMet_of_run' 8 (by kernel_rfl) (by kernel_rfl)
theorem gRngE : Tryz.prog.globalNamed "strconv.ErrRange" = some 7 := by kernel_rfl
theorem gSynE : Tryz.prog.globalNamed "strconv.ErrSyntax" = some 6 := by kernel_rfl
theorem tRngE:(Tryz.prog.globals[7]?).map (·.type)=some 183:=by kernel_rfl
theorem tSynE:(Tryz.prog.globals[6]?).map (·.type)=some 183:=by kernel_rfl
theorem starE : "*" ++ "errors.errorString" = "*errors.errorString" := by decide
theorem rowE (u : TypeId) (h : Tryz.prog.typeName? 3 u = some "*errors.errorString") : u = 330 :=
 typeName_ptr_named (nm := "errors.errorString") (by rw [starE]; kernel_rfl) (by kernel_rfl) (by decide) u (by rw [starE]; exact h)
theorem errT:∃ms,Tryz.prog.underlying 183=some (.interface ms):=⟨_,Tryz.underlying183⟩
theorem ptrT:Tryz.prog.underlying 330=some (.pointer 332):=Tryz.underlying330
theorem strT:∃f:Field,Tryz.prog.underlying 332=some (.struct #[f])∧f.type=9∧f.offset=0:=⟨_,Tryz.underlying332,rfl,rfl⟩
theorem c1E:Tryz.prog.cellsOf 332=1:=by kernel_rfl
theorem c2E:Tryz.prog.cellsOf 9=1:=by kernel_rfl
theorem errs_of {W : World} (h : laidMetH Tryz.prog laidE W) : (∃ tp p, W.var? Tryz.prog "strconv.ErrRange" = some #[.iface tp p]) ∧ (∃ tp p, W.var? Tryz.prog "strconv.ErrSyntax" = some #[.iface tp p]) := by
 have h':laidMet Tryz.prog laidE W:=h
 obtain⟨ms,ht⟩:=errT
 obtain⟨f,hs,hf1,hf2⟩:=strT
 have h3 : laidMet Tryz.prog [("strconv.ErrRange", Rows.laid_strconv_ErrRange), ("strconv.ErrSyntax", Rows.laid_strconv_ErrSyntax)] W := laidMet.tail (laidMet.tail (laidMet.tail h'))
 obtain⟨a,s,h5,_⟩:=laid_sentinel h3 gRngE tRngE ht rowE ptrT hs hf1 hf2 Tryz.underlying9 c1E c2E
 obtain⟨a2,s2,h6,_⟩:=laid_sentinel (laidMet.tail h3) gSynE tSynE ht rowE ptrT hs hf1 hf2 Tryz.underlying9 c1E c2E
 exact⟨⟨_,_,h5⟩,_,_,h6⟩
theorem held_of {W:World}{n:String}{g:Nat}(hg:Tryz.prog.globalNamed n=some g) (h:∃tp p,W.var? Tryz.prog n=some #[.iface tp p]):∃o,W.heap[g]? = some o∧heldO o:=by
 obtain⟨tp,p,h⟩:=h
 unfold World.var? at h
 rw[hg]at h
 simp only[Option.bind_some]at h
 cases ho:W.heap[g]? with
 |none=>rw[ho]at h;cases h
 |some o =>
  rw[ho]at h
  cases o with
  |cells cs t fz =>
   simp only[Option.some.injEq]at h
   subst h
   refine⟨_,rfl,fun w b hb=>⟨.iface tp p,?_,.inr ⟨tp,p,rfl⟩⟩⟩
   unfold World.cell?
   simp[hb]
  |_=>cases h
end
end Go.Proofs.YtlciedpfjhkkdaaGreatDoor
