/- Texts of this proof: P37 F00 O07 O12 H30 O13 O14 O15. -/
import Derived.Test.YtllfmaflodbieaaGreatDoorKD37
import Derived.Test.YtllfmaflodbieaaGreatDoorRows
import Derived.SizedLaws
import Derived.Deep.Slices
import Derived.Deep.Fields
import Derived.ChangeSame
import Derived.Test.YtllfmaflodbieaaGreatDoorCards
import Derived.Test.YtllfmaflodbieaaGreatDoorTie
import Derived.Lib.LaidTab
import Derived.LaidMore
import Derived.Stop.Joined
import Derived.SevenTiedAt
import Derived.Stop.LaidErr
set_option linter.all false
set_option maxHeartbeats 8000000
namespace Go.Proofs.YtllfmaflodbieaaGreatDoor
section
open Go.RowKit
set_option maxRecDepth 10000
variable {o o1 o2:Obj}
theorem KB (s:ByteArray) (hs:1048576<s.size):AC Tryz.prog 3 [.c (.str s)] (teL o o1 o2) (.c (.bool true)) (teL o o1 o2):=by
 have hb:decide ((s.size:Int)>1048576)=true:=decide_eq_true (by omega)
 refine A6 Tryz.func3 Tryz.ntmps3 ?_
 refine A0 hb ?_
 exact A9 (A8 [((8,0),(8,0)),((8,1),(8,1))] []) Tryz.results3 hb
theorem Nq (s:ByteArray) (hs:¬1048576<s.size) (ys:List EditD) (hy:ys.length≤100) (hx:∀d∈ys,d.path.length≤9223372036854775807∧d.x.length≤9223372036854775807) (ht:1+C0 ys≤3000000000)
  (hspec:AC Tryz.prog 7 [.c (.str s)] [] (.agg [.c (.int .i64 0),.c (.int .i64 0),.c (.sl (ys.map EditD.cs))]) [])
  (himpl:AC Tryz.prog 8 [.c (.str s)] (teL o o1 o2) (.agg [.c (.int .i64 0),.c (.int .i64 0),.own (0,0)]) [((8,0),.blk (Kb o) []),((8,1),.gen (Cf o1 o2)),((0,0),.row true 3 53 (ys.map EditD.ox))]) :
  AC Tryz.prog 3 [.c (.str s)] (teL o o1 o2) (.c (.bool true)) (teL o o1 o2):=by
 have hb:decide ((s.size:Int)>1048576)=false:=decide_eq_false (by omega)
 have he:=Fu 0 0 ys (by omega) hx
 have hm:=I4 0 0 ys 1 53 ht (by omega)
 have hh:=Hi 0 0 ys 1 ht (by omega)
 have hm0:decide (((1+C0 ys:Nat):Int)<0)=false:=by simp;omega
 have hmm:(((1+C0 ys:Nat):Int) != ((1+C0 ys:Nat):Int))=false:=by simp
 refine A6 Tryz.func3 Tryz.ntmps3 ?_
 refine A0 hb ?_
 refine w9 (Aa [] hspec) trivial ?_
 refine A0 trivial ?_
 refine VH (Qs [] [((8,0),(8,0)),((8,1),(8,1))] [((8,0),(8,0)),((8,1),(8,1)),((0,0),(14,0))] himpl) trivial ?_
 refine A0 trivial ?_
 refine w7 (A3 [(14,0)] he) trivial ?_
 refine A0 trivial ?_
 refine w9 (Ri (14,0) hm) trivial ?_
 refine A0 (j2 hm0 hmm) ?_
 refine w7 (A3 [(14,0)] hh) trivial ?_
 refine A0 (j2 hm0 hmm) ?_
 refine VH (Qs [] [((8,0),(8,0)),((8,1),(8,1))] [((8,0),(8,0)),((8,1),(8,1)),((0,0),(31,0))] himpl) trivial ?_
 refine A0 (j2 hm0 hmm) ?_
 refine w7 (A3 [(31,0)] he) trivial ?_
 refine A0 hm0 ?_
 refine w7 (A3 [(14,0)] hh) trivial ?_
 refine A0 (j2 hm0 hmm) ?_
 exact A9 (A8 [((8,0),(8,0)),((8,1),(8,1))] []) Tryz.results3 hb
theorem H3 (s:ByteArray) (hs:¬1048576<s.size) (c at1:Int) (hspec:AC Tryz.prog 7 [.c (.str s)] [] (.agg [.c (.int .i64 c),.c (.int .i64 at1),.nils]) [])
  (himpl:AC Tryz.prog 8 [.c (.str s)] (teL o o1 o2) (.agg [.c (.int .i64 c),.c (.int .i64 at1),.nils]) (teL o o1 o2)):AC Tryz.prog 3 [.c (.str s)] (teL o o1 o2) (.c (.bool true)) (teL o o1 o2):=by
 have hb:decide ((s.size:Int)>1048576)=false:=decide_eq_false (by omega)
 have he:=Fu c at1 [] (by simp) (by simp)
 have hm:=GQ c at1 1
 have hh:=GO c at1 1 (by omega)
 have hm0:decide (((1:Nat):Int)<0)=false:=rfl
 have hmm:(((1:Nat):Int) != ((1:Nat):Int))=false:=by simp
 refine A6 Tryz.func3 Tryz.ntmps3 ?_
 refine A0 hb ?_
 refine w7 (A3 [] hspec) trivial ?_
 refine A0 trivial ?_
 refine Ah (A4 [((8,0),(8,0)),((8,1),(8,1))] [((8,0),(8,0)),((8,1),(8,1))] himpl) trivial ?_
 refine A0 trivial ?_
 refine w7 (A3 [] he) @List.map_nil.{0,0} ?_
 refine A0 trivial ?_
 refine w7 (A3 [] hm) trivial ?_
 refine A0 (j2 hm0 hmm) ?_
 refine w7 (A3 [] hh) trivial ?_
 refine A0 (j2 hm0 hmm) ?_
 refine Ah (A4 [((8,0),(8,0)),((8,1),(8,1))] [((8,0),(8,0)),((8,1),(8,1))] himpl) trivial ?_
 refine A0 (j2 hm0 hmm) ?_
 refine w7 (A3 [] he) @List.map_nil.{0,0} ?_
 refine A0 hm0 ?_
 refine w7 (A3 [] hh) trivial ?_
 refine A0 (j2 hm0 hmm) ?_
 exact A9 (A8 [((8,0),(8,0)),((8,1),(8,1))] []) Tryz.results3 hb
theorem MZ:∀(l:List EditD),(∀d∈l,Ac d=0)→C0 l≤2001*l.length
 | [],_=>by simp[C0]
 |d::l,h=>by
  have h1:=MZ l fun x hx=>h x (List.mem_cons_of_mem _ hx)
  obtain⟨h2,h3⟩:=EL (h d (by simp))
  have e:C0 (d::l)=(1+5*d.path.length+5*d.x.length)+C0 l:=by simp only[C0,List.map_cons,List.sum_cons]
  rw[e,List.length_cons]
  omega
theorem Qr (s:ByteArray):AC Tryz.prog 3 [.c (.str s)] (teL o o1 o2) (.c (.bool true)) (teL o o1 o2):=by
 by_cases hs:1048576<s.size
 ·exact KB s hs
 have hsp:=Oa s (by omega)
 have him:=Om (o:=o) (o1:=o1) (o2:=o2) s (by omega)
 have hfin:∀L acc,(∀d∈acc,Ac d=0)→(∃c k,goE L acc=(c,k,[]))∨∃l,goE L acc=(0,0,l)∧l.length≤100∧∀d∈l,Ac d=0:=by
  intro L acc ha
  unfold goE
  have hg:=JZ L acc ha
  cases he:G3 L acc with
  |mk l y =>
   rw[he]at hg
   cases y with
   |some k=>exact .inl ⟨_,_,rfl⟩
   |none =>
    rcases L6 hg with⟨_,h2,_⟩ | ⟨_,h2,h3⟩
    ·exact .inl ⟨_,_,h2⟩
    ·exact .inr ⟨l,h2,h3,hg⟩
 have hR:(∃c k,CD s=(c,k,[]))∨∃l,CD s=(0,0,l)∧l.length≤100∧∀d∈l,Ac d=0:=by
  rw[EH]
  split
  ·exact .inl ⟨_,_,rfl⟩
  ·exact hfin _ _ (by simp)
 rcases hR with⟨c,k,h⟩ | ⟨l,h,hl,hg⟩
 ·rw[h]at hsp him
  exact H3 s hs c k hsp him
 ·rw[h]at hsp him
  by_cases hne:l=[]
  ·subst hne
   exact H3 s hs 0 0 hsp him
  ·rw[Ov hne,VP hne]at hsp
   rw[Ov hne,Wt hne]at him
   have hfe:=Gj l
   have htb:=MZ l hg
   have hsp':AC Tryz.prog 7 [.c (.str s)] [] (.agg [.c (.int .i64 0),.c (.int .i64 0),.c (.sl (l.map EditD.cs))]) []:=by
    (apply (AC.says [] [(0,0)] hsp);(focus (simp only[go_sem,Nat.reduceEqDiff,Nat.reduceAdd,Nat.reduceSub,Nat.reduceLeDiff,Nat.reduceMul,Nat.reduceBEq,Nat.reduceLT,Int.reduceToNat,reduceCtorEq,hfe];try (and_intros<;>rfl)));(focus exact rfl);(focus (simp only[go_sem,Nat.reduceEqDiff,Nat.reduceAdd,Nat.reduceSub,Nat.reduceLeDiff,Nat.reduceMul,Nat.reduceBEq,Nat.reduceLT,Int.reduceToNat,reduceCtorEq,hfe];try (and_intros<;>rfl)));(focus exact rfl);(iterate 4 (focus (simp[go_sem,hfe];done))))
   exact Nq s hs l hl (fun d hd=>by have:=EL (hg d hd);omega) (by omega) hsp' him
end
section
open Go.ChangeShapes Go.WideShapes Go.ChangeAt Go.RowKit Go.Deep
theorem Tryz.own:ownKnob Tryz.prog.godebug=none:=by kernel_rfl
theorem Tryz.laidOut:laidOutB Tryz.prog=true:=by kernel_rfl
def VU:DataW Unit→Array Value
 | .agg l=>(l.map fun | .lit (.int k z)=>Value.int k z | _=>.bool false).toArray
 |_=>#[]
def Yf (d:DataW Unit):Obj→Obj
 | .cells _ t fz=>.cells (VU d) t fz
 |o=>o
theorem Px : Tryz.prog.globalNamed "internal/strconv.uint64pow10" = some 1 := by kernel_rfl
theorem Z4:(Tryz.prog.globals[1]?).map (·.type)=some 290:=by kernel_rfl
theorem Zc:(Rows.laid_internal_strconv_uint64pow10:DataW Unit)=Lib.tabData .u64 Lib.pow10Tab:=by kernel_rfl
theorem TQ {w : World} (ht : Lib.TabIs Tryz.prog w "internal/strconv.uint64pow10" .u64 Lib.pow10Tab) : ∃ o, w.heap[1]? = some o := by
 unfold Lib.TabIs World.var? at ht
 rw[Px]at ht
 simp only[Option.bind_some]at ht
 cases ho:w.heap[1]? with
 |none=>rw[ho]at ht;cases ht
 |some o=>exact⟨o,rfl⟩
def Z7 (n:Nat):Obj→Obj
 | .cells _ t fz=>.cells #[.iface 363 (.pointer (some ⟨n,0,none⟩))] t fz
 |o=>o
def Yv:ByteArray:=⟨#[118,97,108,117,101,32,111,117,116,32,111,102,32,114,97,110,103,101]⟩
def Xo:ByteArray:=⟨#[105,110,118,97,108,105,100,32,115,121,110,116,97,120]⟩
noncomputable def Z5:Nat:=(World.holding Tryz.prog default ⟨#[],#[],[]⟩).heap.size
theorem XV : Tryz.prog.globalNamed "strconv.ErrRange" = some 7 := by kernel_rfl
theorem XU : Tryz.prog.globalNamed "strconv.ErrSyntax" = some 6 := by kernel_rfl
theorem YX:(Tryz.prog.globals[7]?).map (·.type)=some 62:=by kernel_rfl
theorem Za:(Tryz.prog.globals[6]?).map (·.type)=some 62:=by kernel_rfl
theorem XP : "*" ++ "errors.errorString" = "*errors.errorString" := by decide
theorem Z9 (u : TypeId) (h : Tryz.prog.typeName? 3 u = some "*errors.errorString") : u = 363 :=
 typeName_ptr_named (nm := "errors.errorString") (by rw [XP]; kernel_rfl) (by kernel_rfl) (by decide) u (by rw [XP]; exact h)
theorem Zm:∃ms,Tryz.prog.underlying 62=some (.interface ms):=⟨_,Tryz.underlying62⟩
theorem YW:Tryz.prog.underlying 363=some (.pointer 365):=Tryz.underlying363
theorem Zp:∃f:Field,Tryz.prog.underlying 365=some (.struct #[f])∧f.type=9∧f.offset=0:=⟨_,Tryz.underlying365,rfl,rfl⟩
theorem c1E:Tryz.prog.cellsOf 365=1:=by kernel_rfl
theorem c2E:Tryz.prog.cellsOf 9=1:=by kernel_rfl
theorem SG {W:World}{n:String}{g:Nat}(hg:Tryz.prog.globalNamed n=some g) (h:∃tp p,W.var? Tryz.prog n=some #[.iface tp p]):∃o,W.heap[g]? = some o∧Qn o:=by
 obtain⟨tp,p,h⟩:=h
 unfold World.var? at h
 rw[hg]at h
 simp only[Option.bind_some]at h
 cases ho:W.heap[g]? with
 |none=>rw[ho]at h;cases h
 |some o =>
  rw[ho]at h
  cases o with
  |cells cs t fz =>
   simp only[Option.some.injEq]at h
   subst h
   refine⟨_,rfl,fun w b hb=>⟨.iface tp p,?_,.inr ⟨tp,p,rfl⟩⟩⟩
   unfold World.cell?
   simp[hb]
  |_=>cases h
end
section
open Go.RowKit
set_option maxRecDepth 10000
variable {o o1 o2:Obj}
abbrev teM (o o1 o2:Obj):Mem:=[((8,0),.blk (Kb o) []),((8,1),.gen (Cf o1 o2))]
end
section
open Go.ChangeShapes Go.WideShapes Go.ChangeAt Go.RowKit Go.Deep
theorem Yq {o o1 o2:Obj}{i:Id}{q:AO}(h:Mem.get (teM o o1 o2) i=some q):(i=(8,0)∧q=.blk (Kb o) [])∨(i=(8,1)∧q=.gen (Cf o1 o2)):=by
 simp only[Mem.get,List.lookup_cons,List.lookup_nil]at h
 by_cases hq:i=(8,0)
 ·subst hq
  exact .inl ⟨rfl,by simpa [eq_comm] using h⟩
 ·have e1:(i==((8,0):Id))=false:=by simpa using hq
  rw[e1]at h
  by_cases hq2:i=(8,1)
  ·subst hq2
   exact .inr ⟨rfl,by simpa [eq_comm] using h⟩
  ·have e2:(i==((8,1):Id))=false:=by simpa using hq2
   rw[e2]at h
   cases h
theorem AC.calls_te {o o1 o2:Obj}{f:FuncId}{args:List AV}{b:Bool}(h:AC Tryz.prog f args (teM o o1 o2) (.c (.bool b)) (teM o o1 o2)) {w:World}{S:Nat→Prop}{B7:List Value}
  (ho : w.heap[1]? = some o) (htab : Lib.TabIs Tryz.prog w "internal/strconv.uint64pow10" .u64 Lib.pow10Tab) (ho1 : w.heap[6]? = some o1) (ho2 : w.heap[7]? = some o2) (h1 : Qn o1) (h2 : Qn o2)
  (hS0:¬S 1) (hS1:¬S 6) (hS2:¬S 7)
  (hv:∀(T:Nat→Prop),(∀b,S b→T b)→∀m κ,ARs w T m κ args B7):Calls Tryz.prog f B7.toArray w fun e w'=>e=.returned (.bool b)∧Below w.heap.size w w':=by
 have hl0:1<w.heap.size:=(Array.getElem?_eq_some_iff.1 ho).1
 have hl1:6<w.heap.size:=(Array.getElem?_eq_some_iff.1 ho1).1
 have hl2:7<w.heap.size:=(Array.getElem?_eq_some_iff.1 ho2).1
 let Γ:Ctx:=⟨w,S,fun b=>if b=1 then some (8,0) else if b=6 then some (8,1) else if b=7 then some (8,1) else none,fun _=>.bool false,[(8,0),(8,1)]⟩
 have hE:Entry Γ (teM o o1 o2):=by
  refine⟨fun i o' hi=>?_,fun b i hb=>?_,rfl⟩
  ·rcases Yq hi with⟨rfl,rfl⟩ | ⟨rfl,rfl⟩
   ·refine⟨1,o,[],rfl,ho,by simp[Ag],rfl,Px,fun w2 h2=>?_⟩
    unfold Lib.TabIs World.var? at htab ⊢
    rw[Px]at htab ⊢
    simp only[Option.bind_some,h2,ho]at htab ⊢
    exact htab
   ·refine⟨[(6,o1),(7,o2)],fun p hp=>?_,rfl,h1,h2⟩
    simp only[List.mem_cons,List.not_mem_nil,or_false]at hp
    rcases hp with rfl | rfl
    ·exact⟨rfl,ho1⟩
    ·exact⟨rfl,ho2⟩
  ·simp only[Γ]at hb
   split at hb
   ·rename_i e
    subst e
    cases hb
    exact⟨hl0,_,rfl,rfl⟩
   ·split at hb
    ·rename_i e
     subst e
     cases hb
     exact⟨hl1,_,rfl,rfl⟩
    ·split at hb
     ·rename_i e
      subst e
      cases hb
      exact⟨hl2,_,rfl,rfl⟩
     ·cases hb
 refine (h Γ B7 hE (hv _ (fun b hb=>⟨by simp only[Γ];rw[if_neg (by rintro rfl;exact hS0 hb),if_neg (by rintro rfl;exact hS1 hb),if_neg (by rintro rfl;exact hS2 hb)],.inl hb⟩) _ _)).mono ?_
 rintro e w' ⟨v,ow,κ,rfl,hx⟩
 obtain⟨rfl,_⟩:=hx.res
 refine⟨rfl,hx.os,hx.tape,hx.output,hx.size,fun b hb=>?_⟩
 obtain⟨b',obj,vr,k1,k2,k3,rfl,k5,k6⟩:=hx.objs (8,0) _ rfl
 obtain⟨l,j1,rfl,_⟩:=hx.objs (8,1) _ rfl
 rw[Px]at k5
 cases k5
 by_cases hb0:b=1
 ·subst hb0
  rw[ho]
  exact k2
 ·by_cases hb1:b=6
  ·subst hb1
   rw[ho1]
   exact (j1 (6,o1) (by simp)).2
  ·by_cases hb2:b=7
   ·subst hb2
    rw[ho2]
    exact (j1 (7,o2) (by simp)).2
   ·exact (hx.frame b hb (by simp only[Γ];rw[if_neg hb0,if_neg hb1,if_neg hb2])).1
def Vv:DataW Unit→Array Value
 | .agg l=>(l.map fun | .lit (.int k z)=>[Value.int k z] | .agg m=>m.map (fun | .lit (.int k z)=>Value.int k z | _=>.bool false) | _=>[.bool false]).flatten.toArray
 |_=>#[]
def Zd (d:DataW Unit):Obj→Obj
 | .cells _ t fz=>.cells (Vv d) t fz
 |o=>o
noncomputable def L2 (os:Os):World :=
 let w0:=World.holding Tryz.prog os ⟨#[.cells #[.string Yv] 365,.cells #[.string Xo] 365],#[],[]⟩
 { w0 with heap:=((((((w0.heap.modify 4 (Yf Rows.laid_math_bits_deBruijn32tab)).modify 5 (Yf Rows.laid_math_bits_deBruijn64tab)).modify 1 (Yf Rows.laid_internal_strconv_uint64pow10)).modify 3 (Zd Rows.laid_unicode_utf8_acceptRanges)).modify 7 (Z7 Z5)).modify 6 (Z7 (Z5+1))).modify 2 (Zd Rows.laid_unicode_utf8_first) }
abbrev H8 : List (String × DataW Unit) := [("math/bits.deBruijn32tab", Rows.laid_math_bits_deBruijn32tab), ("math/bits.deBruijn64tab", Rows.laid_math_bits_deBruijn64tab), ("internal/strconv.uint64pow10", Rows.laid_internal_strconv_uint64pow10), ("unicode/utf8.acceptRanges", Rows.laid_unicode_utf8_acceptRanges), ("strconv.ErrRange", Rows.laid_strconv_ErrRange), ("strconv.ErrSyntax", Rows.laid_strconv_ErrSyntax), ("unicode/utf8.first", Rows.laid_unicode_utf8_first)]
theorem U1 (os:Os) (args:Array Value):laidMetH Tryz.prog H8 ((L2 os).forCall (fun _ _=>0) ⟨#[],args,[]⟩).memory :=
 show laidMet Tryz.prog H8 _ from laidMet_of_run' 8 (by kernel_rfl) (by kernel_rfl)
theorem V1 {W : World} (h : laidMetH Tryz.prog H8 W) : (∃ tp p, W.var? Tryz.prog "strconv.ErrRange" = some #[.iface tp p]) ∧ (∃ tp p, W.var? Tryz.prog "strconv.ErrSyntax" = some #[.iface tp p]) := by
 have h':laidMet Tryz.prog H8 W:=h
 obtain⟨ms,ht⟩:=Zm
 obtain⟨f,hs,hf1,hf2⟩:=Zp
 have h3 : laidMet Tryz.prog [("strconv.ErrRange", Rows.laid_strconv_ErrRange), ("strconv.ErrSyntax", Rows.laid_strconv_ErrSyntax), ("unicode/utf8.first", Rows.laid_unicode_utf8_first)] W := laidMet.tail (laidMet.tail (laidMet.tail (laidMet.tail h')))
 obtain⟨a,s,h5,_⟩:=laid_sentinel h3 XV YX ht Z9 YW hs hf1 hf2 Tryz.underlying9 c1E c2E
 obtain⟨a2,s2,h6,_⟩:=laid_sentinel (laidMet.tail h3) XU Za ht Z9 YW hs hf1 hf2 Tryz.underlying9 c1E c2E
 exact⟨⟨_,_,h5⟩,_,_,h6⟩
theorem Sw {W : World} (h : laidMetH Tryz.prog H8 W) : Lib.TabIs Tryz.prog W "internal/strconv.uint64pow10" .u64 Lib.pow10Tab := by
 have h0:laidMet Tryz.prog H8 W:=h
 have h':=laidMet.tail (laidMet.tail h0)
 obtain⟨ps,⟨g2,t2,cs2,f2,p2,q2,hg2,ht2,hv2,hd2,_,_⟩,_,_⟩:=h'
 obtain rfl:=Option.some.inj (Px.symm.trans hg2)
 obtain rfl:=Option.some.inj (Z4.symm.trans ht2)
 rw[Zc]at hd2
 unfold Lib.TabIs
 rw[hv2,←Lib.cells_of_tab Tryz.underlying290 Tryz.underlying249 (by kernel_rfl) (by kernel_rfl) hd2]
theorem Tx {f:FuncId}(s:ByteArray) (hac:∀o o1 o2,AC Tryz.prog f [.c (.str s)] (teM o o1 o2) (.c (.bool true)) (teM o o1 o2)) (w:World) (h:laidMetH Tryz.prog H8 w) :
  Calls Tryz.prog f #[.string s] w fun e w'=>e=.returned (.bool true)∧Below w.heap.size w w':=by
 obtain⟨hr,hs⟩:=V1 h
 obtain⟨o2,ho2,h2⟩:=SG XV hr
 obtain⟨o1,ho1,h1⟩:=SG XU hs
 obtain⟨o,ho⟩:=TQ (Sw h)
 exact AC.calls_te (S:=fun _=>False) (hac o o1 o2) ho (Sw h) ho1 ho2 h1 h2 (fun h=>h) (fun h=>h) (fun h=>h) fun T hT m κ=>⟨_,_,rfl,⟨rfl,rfl⟩,rfl⟩
end
end Go.Proofs.YtllfmaflodbieaaGreatDoor
