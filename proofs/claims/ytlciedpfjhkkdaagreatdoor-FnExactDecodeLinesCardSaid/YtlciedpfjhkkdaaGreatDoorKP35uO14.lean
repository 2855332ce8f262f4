/- Texts of this proof: P35 P36 F00 O07 O12 O14. -/
import Derived.Test.YtlciedpfjhkkdaaGreatDoorKD31uP00
import Derived.Test.YtlciedpfjhkkdaaGreatDoorRows
import Derived.SizedLaws
import Derived.Deep.Slices
import Derived.Deep.Fields
import Derived.ChangeSame
import Derived.Test.YtlciedpfjhkkdaaGreatDoorCards
import Derived.Test.YtlciedpfjhkkdaaGreatDoorTie
import Derived.Lib.LaidTab
import Derived.LaidMore
import Derived.Stop.Joined
import Derived.SevenTiedAt
import Derived.Stop.LaidErr
set_option linter.all false
set_option maxHeartbeats 8000000
namespace Go.Proofs.YtlciedpfjhkkdaaGreatDoor
section
open Go.RowKit
set_option maxRecDepth 10000
variable {o1 o2:Obj}
theorem Hp (s:ByteArray) (hs:1048576<s.size):AC Tryz.prog 3 [.c (.str s)] (Bl o1 o2) (.c (.bool true)) (Bl o1 o2):=by
 have hb:decide ((s.size:Int)>1048576)=true:=decide_eq_true (by omega)
 refine A7 Tryz.func3 Tryz.ntmps3 ?_
 refine A0 hb ?_
 exact Ad (Ac [((8,1),(8,1))] []) Tryz.results3 hb
theorem Jb (s:ByteArray) (hs:¬1048576<s.size) (ys:List CellD) (hy:ys.length≤200) (hspec:AC Tryz.prog 9 [.c (.str s)] [] (.agg [.c (.int .i64 0),.c (.int .i64 0),.c (.sl (ys.map CellD.cs))]) [])
  (himpl:AC Tryz.prog 10 [.c (.str s)] (Bl o1 o2) (.agg [.c (.int .i64 0),.c (.int .i64 0),.own (0,0)]) [((0,0),.row false 5 94 (ys.map CellD.cs)),((8,1),.gen (BL o1 o2))]):AC Tryz.prog 3 [.c (.str s)] (Bl o1 o2) (.c (.bool true)) (Bl o1 o2):=by
 have hb:decide ((s.size:Int)>1048576)=false:=decide_eq_false (by omega)
 have he:=Hm 0 0 ys (by omega)
 have hm:=Gh 0 0 ys 1 5 94 (fun _=>rfl) (by omega)
 have hh:=FZ 0 0 ys.length 1 (by omega)
 have hm0:decide (((1+5*ys.length:Nat):Int)<0)=false:=by simp;omega
 have hmm:(((1+5*ys.length:Nat):Int) != ((1+5*ys.length:Nat):Int))=false:=by simp
 refine A7 Tryz.func3 Tryz.ntmps3 ?_
 refine A0 hb ?_
 refine w9 (Ah [] hspec) trivial ?_
 refine A0 trivial ?_
 refine Kh (G1 [] [((8,1),(8,1))] [((0,0),(14,0)),((8,1),(8,1))] himpl) trivial ?_
 refine A0 trivial ?_
 refine w7 (A4 [(14,0)] he) trivial ?_
 refine A0 trivial ?_
 refine w9 (HK (14,0) hm) trivial ?_
 refine A0 (j2 hm0 hmm) ?_
 refine w7 (A4 [(14,0)] hh) trivial ?_
 refine A0 (j2 hm0 hmm) ?_
 refine Kh (G1 [] [((8,1),(8,1))] [((0,0),(31,0)),((8,1),(8,1))] himpl) trivial ?_
 refine A0 (j2 hm0 hmm) ?_
 refine w7 (A4 [(31,0)] he) trivial ?_
 refine A0 hm0 ?_
 refine w7 (A4 [(14,0)] hh) trivial ?_
 refine A0 (j2 hm0 hmm) ?_
 exact Ad (Ac [((8,1),(8,1))] []) Tryz.results3 hb
theorem IM (s:ByteArray) (hs:¬1048576<s.size) (c at1:Int) (hspec:AC Tryz.prog 9 [.c (.str s)] [] (.agg [.c (.int .i64 c),.c (.int .i64 at1),.nils]) [])
  (himpl:AC Tryz.prog 10 [.c (.str s)] (Bl o1 o2) (.agg [.c (.int .i64 c),.c (.int .i64 at1),.nils]) (Bl o1 o2)):AC Tryz.prog 3 [.c (.str s)] (Bl o1 o2) (.c (.bool true)) (Bl o1 o2):=by
 have hb:decide ((s.size:Int)>1048576)=false:=decide_eq_false (by omega)
 have he:=Gz c at1
 have hm:=Fu c at1 1
 have hh:=Fq c at1 1 (by omega)
 have hm0:decide (((1:Nat):Int)<0)=false:=rfl
 have hmm:(((1:Nat):Int) != ((1:Nat):Int))=false:=by simp
 refine A7 Tryz.func3 Tryz.ntmps3 ?_
 refine A0 hb ?_
 refine w7 (A4 [] hspec) trivial ?_
 refine A0 trivial ?_
 refine Af (A3 [((8,1),(8,1))] [((8,1),(8,1))] himpl) trivial ?_
 refine A0 trivial ?_
 refine w7 (A4 [] he) trivial ?_
 refine A0 trivial ?_
 refine w7 (A4 [] hm) trivial ?_
 refine A0 (j2 hm0 hmm) ?_
 refine w7 (A4 [] hh) trivial ?_
 refine A0 (j2 hm0 hmm) ?_
 refine Af (A3 [((8,1),(8,1))] [((8,1),(8,1))] himpl) trivial ?_
 refine A0 (j2 hm0 hmm) ?_
 refine w7 (A4 [] he) trivial ?_
 refine A0 hm0 ?_
 refine w7 (A4 [] hh) trivial ?_
 refine A0 (j2 hm0 hmm) ?_
 exact Ad (Ac [((8,1),(8,1))] []) Tryz.results3 hb
theorem Rs (s:ByteArray):AC Tryz.prog 3 [.c (.str s)] (Bl o1 o2) (.c (.bool true)) (Bl o1 o2):=by
 by_cases hs:1048576<s.size
 ·exact Hp s hs
 have hl:s.size≤9000000000000000000:=by omega
 have hsp:=F3 s hl
 cases hd:Ba s with
 |mk c y =>
  rw[hd]at hsp
  cases y with
  |some v =>
   obtain⟨_,hr,_⟩:=E5 hd
   have hc:=hr.2.1
   exact Jb s hs v.enc (by rw[D8];omega) hsp (Jd s hd)
  |none=>exact IM s hs c.1 c.2 hsp (I6 s hl hd)
end
section
open Go.RowKit
set_option maxRecDepth 10000
variable {o1 o2:Obj}
theorem J1 (s:ByteArray) (hs:1048576<s.size):AC Tryz.prog 5 [.c (.str s)] (Bl o1 o2) (.c (.bool true)) (Bl o1 o2):=by
 have hb:decide ((s.size:Int)>1048576)=true:=decide_eq_true (by omega)
 refine A7 Tryz.func5 Tryz.ntmps5 ?_
 refine A0 hb ?_
 exact Ad (Ac [((8,1),(8,1))] []) Tryz.results5 hb
theorem Kn (s:ByteArray) (hs:¬1048576<s.size) (ys:List (List CellD)) (hy:ys.length≤200) (hx:∀x∈ys,x.length≤200) (ht:1+5*tot ys≤3000000000)
  (hspec:AC Tryz.prog 22 [.c (.str s)] [] (.agg [.c (.int .i64 0),.c (.int .i64 0),.c (.sl (ys.map An))]) [])
  (himpl:AC Tryz.prog 23 [.c (.str s)] (Bl o1 o2) (.agg [.c (.int .i64 0),.c (.int .i64 0),.own (0,0)]) [((8,1),.gen (BL o1 o2)),((0,0),.row true 1 22 (ys.map F7))]) :
  AC Tryz.prog 5 [.c (.str s)] (Bl o1 o2) (.c (.bool true)) (Bl o1 o2):=by
 have hb:decide ((s.size:Int)>1048576)=false:=decide_eq_false (by omega)
 have _a1:=TR
 have _a2:=TS
 clear _a1 _a2
 have he:=GJ 0 0 ys (by omega) (fun x h=>by have:=hx x h;omega)
 have hm:=Ft 0 0 ys 1 22 ht (by omega)
 have hh:=FI 0 0 ys 1 ht (by omega)
 have hm0:decide (((1+5*tot ys:Nat):Int)<0)=false:=by simp;omega
 have hmm:(((1+5*tot ys:Nat):Int) != ((1+5*tot ys:Nat):Int))=false:=by simp
 refine A7 Tryz.func5 Tryz.ntmps5 ?_
 refine A0 hb ?_
 refine w9 (Ah [] hspec) trivial ?_
 refine A0 trivial ?_
 refine Kh (G1 [] [((8,1),(8,1))] [((8,1),(8,1)),((0,0),(14,0))] himpl) trivial ?_
 refine A0 trivial ?_
 refine w7 (A4 [(14,0)] he) trivial ?_
 refine A0 trivial ?_
 refine w9 (HK (14,0) hm) trivial ?_
 refine A0 (j2 hm0 hmm) ?_
 refine w7 (A4 [(14,0)] hh) trivial ?_
 refine A0 (j2 hm0 hmm) ?_
 refine Kh (G1 [] [((8,1),(8,1))] [((8,1),(8,1)),((0,0),(31,0))] himpl) trivial ?_
 refine A0 (j2 hm0 hmm) ?_
 refine w7 (A4 [(31,0)] he) trivial ?_
 refine A0 hm0 ?_
 refine w7 (A4 [(14,0)] hh) trivial ?_
 refine A0 (j2 hm0 hmm) ?_
 exact Ad (Ac [((8,1),(8,1))] []) Tryz.results5 hb
theorem Fc (s:ByteArray) (hs:¬1048576<s.size) (c at1:Int) (hspec:AC Tryz.prog 22 [.c (.str s)] [] (.agg [.c (.int .i64 c),.c (.int .i64 at1),.nils]) [])
  (himpl:AC Tryz.prog 23 [.c (.str s)] (Bl o1 o2) (.agg [.c (.int .i64 c),.c (.int .i64 at1),.nils]) (Bl o1 o2)):AC Tryz.prog 5 [.c (.str s)] (Bl o1 o2) (.c (.bool true)) (Bl o1 o2):=by
 have hb:decide ((s.size:Int)>1048576)=false:=decide_eq_false (by omega)
 have he:=FP c at1
 have hm:=F2 c at1 1
 have hh:=F1 c at1 1 (by omega)
 have hm0:decide (((1:Nat):Int)<0)=false:=rfl
 have hmm:(((1:Nat):Int) != ((1:Nat):Int))=false:=by simp
 refine A7 Tryz.func5 Tryz.ntmps5 ?_
 refine A0 hb ?_
 refine w7 (A4 [] hspec) trivial ?_
 refine A0 trivial ?_
 refine Af (A3 [((8,1),(8,1))] [((8,1),(8,1))] himpl) trivial ?_
 refine A0 trivial ?_
 refine w7 (A4 [] he) trivial ?_
 refine A0 trivial ?_
 refine w7 (A4 [] hm) trivial ?_
 refine A0 (j2 hm0 hmm) ?_
 refine w7 (A4 [] hh) trivial ?_
 refine A0 (j2 hm0 hmm) ?_
 refine Af (A3 [((8,1),(8,1))] [((8,1),(8,1))] himpl) trivial ?_
 refine A0 (j2 hm0 hmm) ?_
 refine w7 (A4 [] he) trivial ?_
 refine A0 hm0 ?_
 refine w7 (A4 [] hh) trivial ?_
 refine A0 (j2 hm0 hmm) ?_
 exact Ad (Ac [((8,1),(8,1))] []) Tryz.results5 hb
theorem GX:∀(l:List ByteArray) (k:Nat) (acc:List V) {c:Int×Nat}{vs:List V},CB l k acc=(c,some vs)→(∀v∈acc,v.right)→vs.length=acc.length+l.length∧∀v∈vs,v.right
 | [],k,acc,c,vs,h,ha=>by
  unfold CB at h
  cases h
  exact⟨rfl,ha⟩
 |x::l,k,acc,c,vs,h,ha=>by
  unfold CB at h
  cases hd:Ba x with
  |mk c' y =>
   rw[hd]at h
   cases y with
   |none=>cases h
   |some v =>
    obtain⟨_,hr,_⟩:=E5 hd
    obtain⟨g1,g2⟩:=GX l (k+1) (acc++[v]) h (fun u hu=>by
     rcases List.mem_append.1 hu with hu | hu
     ·exact ha u hu
     ·rw[List.mem_singleton.1 hu];exact hr)
    exact⟨by rw[g1];simp;omega,g2⟩
theorem JY:∀(l:List (List CellD)),(∀x∈l,x.length≤200)→tot l≤200*l.length
 | [],_=>by simp[tot]
 |x::l,h=>by
  have h1:=h x (by simp)
  have h2:=JY l fun y hy=>h y (by simp[hy])
  have h3:tot (x::l)=x.length+tot l:=by simp[tot]
  rw[h3,List.length_cons]
  omega
theorem M8 (s:ByteArray):AC Tryz.prog 5 [.c (.str s)] (Bl o1 o2) (.c (.bool true)) (Bl o1 o2):=by
 by_cases hs:1048576<s.size
 ·exact J1 s hs
 have hsp:=KO s (by omega)
 have him:=Ka (o1:=o1) (o2:=o2) s (by omega)
 cases hd:Bo s with
 |mk c y =>
  rw[hd]at hsp him
  cases y with
  |none=>exact Fc s hs c.1 c.2 hsp him
  |some vs =>
   by_cases hne:vs=[]
   ·subst hne
    exact Fc s hs 0 0 hsp him
   ·rw[Hz hne,NH hne]at hsp
    rw[Hz hne,NW hne]at him
    have hfin:vs.length≤200∧∀v∈vs,v.right:=by
     unfold Bo at hd
     split at hd
     ·cases hd
     ·rename_i hcond
      obtain⟨g1,g2⟩:=GX _ _ _ hd (by simp)
      exact⟨by rw[g1];simp;omega,g2⟩
    have hx:∀x∈vs.map V.enc,x.length≤200:=by
     intro x hx
     obtain⟨v,hv,rfl⟩:=List.mem_map.1 hx
     have:=(hfin.2 v hv).2.1
     rw[D8]
     omega
    have htb:=JY _ hx
    have hrow:vs.map Ee=(vs.map V.enc).map F7:=by simp[Ee,F7]
    rw[hrow]at him
    have hsp':AC Tryz.prog 22 [.c (.str s)] [] (.agg [.c (.int .i64 0),.c (.int .i64 0),.c (.sl ((vs.map V.enc).map An))]) []:=by
     (apply (AC.says [] [(0,0)] hsp);(focus (simp only[go_sem,Nat.reduceEqDiff,Nat.reduceAdd,Nat.reduceSub,Nat.reduceLeDiff,Nat.reduceMul,Nat.reduceBEq,Nat.reduceLT,Int.reduceToNat,reduceCtorEq];try (and_intros<;>rfl)));(focus exact rfl);(focus (simp only[go_sem,Nat.reduceEqDiff,Nat.reduceAdd,Nat.reduceSub,Nat.reduceLeDiff,Nat.reduceMul,Nat.reduceBEq,Nat.reduceLT,Int.reduceToNat,reduceCtorEq];try (and_intros<;>rfl)));(focus exact rfl);(iterate 4 (focus (simp[go_sem];done))))
    exact Kn s hs (vs.map V.enc) (by rw[List.length_map];exact hfin.1) hx (by rw[List.length_map]at htb;omega) hsp' him
end
section
open Go.ChangeShapes Go.WideShapes Go.ChangeAt Go.RowKit Go.Deep
theorem Tryz.own:ownKnob Tryz.prog.godebug=none:=by kernel_rfl
theorem Tryz.laidOut:laidOutB Tryz.prog=true:=by kernel_rfl
def Qh:DataW Unit→Array Value
 | .agg l=>(l.map fun | .lit (.int k z)=>Value.int k z | _=>.bool false).toArray
 |_=>#[]
def Sj (d:DataW Unit):Obj→Obj
 | .cells _ t fz=>.cells (Qh d) t fz
 |o=>o
def Tr (n:Nat):Obj→Obj
 | .cells _ t fz=>.cells #[.iface 330 (.pointer (some ⟨n,0,none⟩))] t fz
 |o=>o
def SW:ByteArray:=⟨#[118,97,108,117,101,32,111,117,116,32,111,102,32,114,97,110,103,101]⟩
def RI:ByteArray:=⟨#[105,110,118,97,108,105,100,32,115,121,110,116,97,120]⟩
noncomputable def Tk:Nat:=(World.holding Tryz.prog default ⟨#[],#[],[]⟩).heap.size
theorem Sd : Tryz.prog.globalNamed "strconv.ErrRange" = some 7 := by kernel_rfl
theorem Sh : Tryz.prog.globalNamed "strconv.ErrSyntax" = some 6 := by kernel_rfl
theorem Tb:(Tryz.prog.globals[7]?).map (·.type)=some 183:=by kernel_rfl
theorem Te:(Tryz.prog.globals[6]?).map (·.type)=some 183:=by kernel_rfl
theorem Sc : "*" ++ "errors.errorString" = "*errors.errorString" := by decide
theorem Tj (u : TypeId) (h : Tryz.prog.typeName? 3 u = some "*errors.errorString") : u = 330 :=
 typeName_ptr_named (nm := "errors.errorString") (by rw [Sc]; kernel_rfl) (by kernel_rfl) (by decide) u (by rw [Sc]; exact h)
theorem TE:∃ms,Tryz.prog.underlying 183=some (.interface ms):=⟨_,Tryz.underlying183⟩
theorem Th:Tryz.prog.underlying 330=some (.pointer 332):=Tryz.underlying330
theorem TA:∃f:Field,Tryz.prog.underlying 332=some (.struct #[f])∧f.type=9∧f.offset=0:=⟨_,Tryz.underlying332,rfl,rfl⟩
theorem c1E:Tryz.prog.cellsOf 332=1:=by kernel_rfl
theorem c2E:Tryz.prog.cellsOf 9=1:=by kernel_rfl
theorem Oa {W:World}{n:String}{g:Nat}(hg:Tryz.prog.globalNamed n=some g) (h:∃tp p,W.var? Tryz.prog n=some #[.iface tp p]):∃o,W.heap[g]? = some o∧Lo o:=by
 obtain⟨tp,p,h⟩:=h
 unfold World.var? at h
 rw[hg]at h
 simp only[Option.bind_some]at h
 cases ho:W.heap[g]? with
 |none=>rw[ho]at h;cases h
 |some o =>
  rw[ho]at h
  cases o with
  |cells cs t fz =>
   simp only[Option.some.injEq]at h
   subst h
   refine⟨_,rfl,fun w b hb=>⟨.iface tp p,?_,.inr ⟨tp,p,rfl⟩⟩⟩
   unfold World.cell?
   simp[hb]
  |_=>cases h
theorem AC.calls_errs {o1 o2:Obj}{f:FuncId}{args:List AV}{b:Bool}(h:AC Tryz.prog f args (Bl o1 o2) (.c (.bool b)) (Bl o1 o2)) {w:World}{S:Nat→Prop}{B4:List Value}
  (ho1:w.heap[6]? = some o1) (ho2:w.heap[7]? = some o2) (h1:Lo o1) (h2:Lo o2) (hS1:¬S 6) (hS2:¬S 7)
  (hv:∀(T:Nat→Prop),(∀b,S b→T b)→∀m κ,ARs w T m κ args B4):Calls Tryz.prog f B4.toArray w fun e w'=>e=.returned (.bool b)∧Below w.heap.size w w':=by
 have hl1:6<w.heap.size:=(Array.getElem?_eq_some_iff.1 ho1).1
 have hl2:7<w.heap.size:=(Array.getElem?_eq_some_iff.1 ho2).1
 let Γ:Ctx:=⟨w,S,fun b=>if b=6 then some (8,1) else if b=7 then some (8,1) else none,fun _=>.bool false,[(8,1)]⟩
 have hE:Entry Γ (Bl o1 o2):=by
  refine⟨fun i o' hi=>?_,fun b i hb=>?_,rfl⟩
  ·obtain⟨rfl,rfl⟩:=Iy hi
   refine⟨[(6,o1),(7,o2)],fun p hp=>?_,rfl,h1,h2⟩
   simp only[List.mem_cons,List.not_mem_nil,or_false]at hp
   rcases hp with rfl | rfl
   ·exact⟨rfl,ho1⟩
   ·exact⟨rfl,ho2⟩
  ·simp only[Γ]at hb
   split at hb
   ·rename_i e
    subst e
    cases hb
    exact⟨hl1,_,rfl,rfl⟩
   ·split at hb
    ·rename_i e
     subst e
     cases hb
     exact⟨hl2,_,rfl,rfl⟩
    ·cases hb
 refine (h Γ B4 hE (hv _ (fun b hb=>⟨by simp only[Γ];rw[if_neg (by rintro rfl;exact hS1 hb),if_neg (by rintro rfl;exact hS2 hb)],.inl hb⟩) _ _)).mono ?_
 rintro e w' ⟨v,ow,κ,rfl,hx⟩
 obtain⟨rfl,_⟩:=hx.res
 refine⟨rfl,hx.os,hx.tape,hx.output,hx.size,fun b hb=>?_⟩
 obtain⟨l,k1,rfl,_⟩:=hx.objs (8,1) _ rfl
 by_cases hb1:b=6
 ·subst hb1
  rw[ho1]
  exact (k1 (6,o1) (by simp)).2
 ·by_cases hb2:b=7
  ·subst hb2
   rw[ho2]
   exact (k1 (7,o2) (by simp)).2
  ·exact (hx.frame b hb (by simp only[Γ];rw[if_neg hb1,if_neg hb2])).1
def QG:DataW Unit→Array Value
 | .agg l=>(l.map fun | .lit (.int k z)=>[Value.int k z] | .agg m=>m.map (fun | .lit (.int k z)=>Value.int k z | _=>.bool false) | _=>[.bool false]).flatten.toArray
 |_=>#[]
def Tl (d:DataW Unit):Obj→Obj
 | .cells _ t fz=>.cells (QG d) t fz
 |o=>o
noncomputable def HV (os:Os):World :=
 let w0:=World.holding Tryz.prog os ⟨#[.cells #[.string SW] 332,.cells #[.string RI] 332],#[],[]⟩
 { w0 with heap:=((((((w0.heap.modify 4 (Sj Rows.laid_math_bits_deBruijn32tab)).modify 5 (Sj Rows.laid_math_bits_deBruijn64tab)).modify 1 (Sj Rows.laid_internal_strconv_uint64pow10)).modify 3 (Tl Rows.laid_unicode_utf8_acceptRanges)).modify 7 (Tr Tk)).modify 6 (Tr (Tk+1))).modify 2 (Tl Rows.laid_unicode_utf8_first) }
abbrev GV : List (String × DataW Unit) := [("math/bits.deBruijn32tab", Rows.laid_math_bits_deBruijn32tab), ("math/bits.deBruijn64tab", Rows.laid_math_bits_deBruijn64tab), ("internal/strconv.uint64pow10", Rows.laid_internal_strconv_uint64pow10), ("unicode/utf8.acceptRanges", Rows.laid_unicode_utf8_acceptRanges), ("strconv.ErrRange", Rows.laid_strconv_ErrRange), ("strconv.ErrSyntax", Rows.laid_strconv_ErrSyntax), ("unicode/utf8.first", Rows.laid_unicode_utf8_first)]
theorem Ph (os:Os) (args:Array Value):laidMetH Tryz.prog GV ((HV os).forCall (fun _ _=>0) ⟨#[],args,[]⟩).memory :=
 show laidMet Tryz.prog GV _ from laidMet_of_run' 8 (by kernel_rfl) (by kernel_rfl)
theorem QU {W : World} (h : laidMetH Tryz.prog GV W) : (∃ tp p, W.var? Tryz.prog "strconv.ErrRange" = some #[.iface tp p]) ∧ (∃ tp p, W.var? Tryz.prog "strconv.ErrSyntax" = some #[.iface tp p]) := by
 have h':laidMet Tryz.prog GV W:=h
 obtain⟨ms,ht⟩:=TE
 obtain⟨f,hs,hf1,hf2⟩:=TA
 have h3 : laidMet Tryz.prog [("strconv.ErrRange", Rows.laid_strconv_ErrRange), ("strconv.ErrSyntax", Rows.laid_strconv_ErrSyntax), ("unicode/utf8.first", Rows.laid_unicode_utf8_first)] W := laidMet.tail (laidMet.tail (laidMet.tail (laidMet.tail h')))
 obtain⟨a,s,h5,_⟩:=laid_sentinel h3 Sd Tb ht Tj Th hs hf1 hf2 Tryz.underlying9 c1E c2E
 obtain⟨a2,s2,h6,_⟩:=laid_sentinel (laidMet.tail h3) Sh Te ht Tj Th hs hf1 hf2 Tryz.underlying9 c1E c2E
 exact⟨⟨_,_,h5⟩,_,_,h6⟩
end
end Go.Proofs.YtlciedpfjhkkdaaGreatDoor
