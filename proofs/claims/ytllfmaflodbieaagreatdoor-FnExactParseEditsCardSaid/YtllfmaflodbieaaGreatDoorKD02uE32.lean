/- Texts of this proof: D02 E32. -/
import Derived.Test.YtllfmaflodbieaaGreatDoorKM56uD01
set_option linter.all false
set_option maxHeartbeats 8000000
namespace Go.Proofs.YtllfmaflodbieaaGreatDoor
section
open Go.RowKit
set_option maxRecDepth 10000
theorem Gt {n:Int}(h0:0≤n) (h1:n<256):IntKind.u8.wrap n=n:=IntWalk.u8_in _ (by omega)
theorem CG {n:Int}(h0:-9223372036854775808≤n) (h1:n≤9223372036854775807):IntKind.i64.wrap n=n:=IntWalk.i64_in _ (by omega)
def Dk (v:AV) (t:ByteArray) (e:Nat):AV:=.agg [v,.c (.str t),.c (.int .i64 e),.c (.int .i64 0),.c (.int .i64 0)]
def B9 (c:Int) (p:Nat):AV:=.agg [.nils,.c (.str ByteArray.empty),.c (.int .i64 0),.c (.int .i64 c),.c (.int .i64 p)]
theorem Bs (c:Int) (p:Nat):AC Tryz.prog 122 [.c (.int .i64 c),.c (.int .i64 p)] [] (B9 c p) []:=by
 unfold B9
 refine A6 Tryz.func122 Tryz.ntmps122 ?_
 refine A0 trivial ?_
 exact Am (A7 []) Tryz.results122
theorem LR (n:Nat) (hn:n<256):AC Tryz.prog 227 [.c (.int .u8 n)] [] (.c (.int .i64 (B8 n))) []:=by
 have hcase:n<48∨(48≤n∧n≤57)∨(58≤n∧n<65)∨(65≤n∧n≤70)∨(71≤n∧n<97)∨(97≤n∧n≤102)∨103≤n:=by omega
 unfold B8 AP
 rcases hcase with h | h | h | h | h | h | h
 ·have g48:decide ((n:Int)≥48)=false:=by simp;omega
  have g97:decide ((n:Int)≥97)=false:=by simp;omega
  have g65:decide ((n:Int)≥65)=false:=by simp;omega
  have m1:decide (48≤n)=false:=by simp;omega
  have m2:decide (n≤57)=true:=by simp;omega
  have m3:decide (97≤n)=false:=by simp;omega
  have m4:decide (n≤102)=true:=by simp;omega
  have m5:decide (65≤n)=false:=by simp;omega
  have m6:decide (n≤70)=true:=by simp;omega
  simp only[m1,m2,m3,m4,m5,m6,Bool.true_and,Bool.false_and,Bool.and_true,Bool.and_false,if_true,Bool.false_eq_true,if_false]
  refine A6 Tryz.func227 Tryz.ntmps227 ?_
  refine A0 (j3 g48 g97 g65) ?_
  exact Am (A7 []) Tryz.results227
 ·have g48:decide ((n:Int)≥48)=true:=by simp;omega
  have l57:decide ((n:Int)≤57)=true:=by simp;omega
  have m1:decide (48≤n)=true:=by simp;omega
  have m2:decide (n≤57)=true:=by simp;omega
  have m3:decide (97≤n)=false:=by simp;omega
  have m4:decide (n≤102)=true:=by simp;omega
  have m5:decide (65≤n)=false:=by simp;omega
  have m6:decide (n≤70)=true:=by simp;omega
  have w1:IntKind.u8.wrap ((n:Int)-48)=(n:Int)-48:=Gt (by omega) (by omega)
  have w2:IntKind.i64.wrap ((n:Int)-48)=(n:Int)-48:=CG (by omega) (by omega)
  simp only[m1,m2,m3,m4,m5,m6,Bool.true_and,Bool.false_and,Bool.and_true,Bool.and_false,if_true,Bool.false_eq_true,if_false]
  refine A6 Tryz.func227 Tryz.ntmps227 ?_
  (repeat (first | (with_reducible first | refine GU ?_ | refine Br ?_ | refine DT ?_ | refine DU ?_) | ((with_reducible apply F7);(iterate 2 (focus (first | (simp only[go_sem,Nat.reduceEqDiff,Nat.reduceAdd,Nat.reduceSub,Nat.reduceLeDiff,Nat.reduceMul,Nat.reduceBEq,Nat.reduceLT,Int.reduceToNat,reduceCtorEq,g48,l57,w1,w2];first | done | exact rfl | (and_intros<;>rfl)) | exact rfl | decide)))) | ((with_reducible refine GT ?_);dsimp only;try ((with_reducible apply Fb);(focus (simp only[go_sem];exact rfl));(focus decide))) | ((with_reducible first | refine Ha ?_ | refine F9 ?_ | refine DQ ?_);dsimp only) | ((with_reducible refine F8 ?_);dsimp only;simp only[if_true,if_false,Nat.reduceEqDiff]) | ((with_reducible apply Mi);(focus (simp only[go_sem,Nat.reduceBEq,Nat.reduceLT,g48,l57,w1,w2];exact rfl));dsimp only[cond_true,cond_false]) | ((with_reducible refine F5 ?_ ?_);(focus exact rfl))))
  exact Am (A7 []) Tryz.results227
 ·have g48:decide ((n:Int)≥48)=true:=by simp;omega
  have l57:decide ((n:Int)≤57)=false:=by simp;omega
  have g97:decide ((n:Int)≥97)=false:=by simp;omega
  have g65:decide ((n:Int)≥65)=false:=by simp;omega
  have m1:decide (48≤n)=true:=by simp;omega
  have m2:decide (n≤57)=false:=by simp;omega
  have m3:decide (97≤n)=false:=by simp;omega
  have m4:decide (n≤102)=true:=by simp;omega
  have m5:decide (65≤n)=false:=by simp;omega
  have m6:decide (n≤70)=true:=by simp;omega
  simp only[m1,m2,m3,m4,m5,m6,Bool.true_and,Bool.false_and,Bool.and_true,Bool.and_false,if_true,Bool.false_eq_true,if_false]
  refine A6 Tryz.func227 Tryz.ntmps227 ?_
  refine A0 (j4 g48 l57 g97 g65) ?_
  exact Am (A7 []) Tryz.results227
 ·have g48:decide ((n:Int)≥48)=true:=by simp;omega
  have l57:decide ((n:Int)≤57)=false:=by simp;omega
  have g97:decide ((n:Int)≥97)=false:=by simp;omega
  have g65:decide ((n:Int)≥65)=true:=by simp;omega
  have l70:decide ((n:Int)≤70)=true:=by simp;omega
  have m1:decide (48≤n)=true:=by simp;omega
  have m2:decide (n≤57)=false:=by simp;omega
  have m3:decide (97≤n)=false:=by simp;omega
  have m4:decide (n≤102)=true:=by simp;omega
  have m5:decide (65≤n)=true:=by simp;omega
  have m6:decide (n≤70)=true:=by simp;omega
  have w1:IntKind.u8.wrap ((n:Int)-65)=(n:Int)-65:=Gt (by omega) (by omega)
  have w2:IntKind.i64.wrap ((n:Int)-65)=(n:Int)-65:=CG (by omega) (by omega)
  have w3:IntKind.i64.wrap ((n:Int)-65+10)=(n:Int)-55:=by rw[CG (by omega) (by omega)];omega
  simp only[m1,m2,m3,m4,m5,m6,Bool.true_and,Bool.false_and,Bool.and_true,Bool.and_false,if_true,Bool.false_eq_true,if_false]
  refine A6 Tryz.func227 Tryz.ntmps227 ?_
  (repeat (first | (with_reducible first | refine GU ?_ | refine Br ?_ | refine DT ?_ | refine DU ?_) | ((with_reducible apply F7);(iterate 2 (focus (first | (simp only[go_sem,Nat.reduceEqDiff,Nat.reduceAdd,Nat.reduceSub,Nat.reduceLeDiff,Nat.reduceMul,Nat.reduceBEq,Nat.reduceLT,Int.reduceToNat,reduceCtorEq,g48,l57,g97,g65,l70,w1,w2,w3];first | done | exact rfl | (and_intros<;>rfl)) | exact rfl | decide)))) | ((with_reducible refine GT ?_);dsimp only;try ((with_reducible apply Fb);(focus (simp only[go_sem];exact rfl));(focus decide))) | ((with_reducible first | refine Ha ?_ | refine F9 ?_ | refine DQ ?_);dsimp only) | ((with_reducible refine F8 ?_);dsimp only;simp only[if_true,if_false,Nat.reduceEqDiff]) | ((with_reducible apply Mi);(focus (simp only[go_sem,Nat.reduceBEq,Nat.reduceLT,g48,l57,g97,g65,l70,w1,w2,w3];exact rfl));dsimp only[cond_true,cond_false]) | ((with_reducible refine F5 ?_ ?_);(focus exact rfl))))
  exact Am (A7 []) Tryz.results227
 ·have g48:decide ((n:Int)≥48)=true:=by simp;omega
  have l57:decide ((n:Int)≤57)=false:=by simp;omega
  have g97:decide ((n:Int)≥97)=false:=by simp;omega
  have g65:decide ((n:Int)≥65)=true:=by simp;omega
  have l70:decide ((n:Int)≤70)=false:=by simp;omega
  have m1:decide (48≤n)=true:=by simp;omega
  have m2:decide (n≤57)=false:=by simp;omega
  have m3:decide (97≤n)=false:=by simp;omega
  have m4:decide (n≤102)=true:=by simp;omega
  have m5:decide (65≤n)=true:=by simp;omega
  have m6:decide (n≤70)=false:=by simp;omega
  simp only[m1,m2,m3,m4,m5,m6,Bool.true_and,Bool.false_and,Bool.and_true,Bool.and_false,if_true,Bool.false_eq_true,if_false]
  refine A6 Tryz.func227 Tryz.ntmps227 ?_
  refine A0 (j5 g48 l57 g97 g65 l70) ?_
  exact Am (A7 []) Tryz.results227
 ·have g48:decide ((n:Int)≥48)=true:=by simp;omega
  have l57:decide ((n:Int)≤57)=false:=by simp;omega
  have g97:decide ((n:Int)≥97)=true:=by simp;omega
  have l102:decide ((n:Int)≤102)=true:=by simp;omega
  have m1:decide (48≤n)=true:=by simp;omega
  have m2:decide (n≤57)=false:=by simp;omega
  have m3:decide (97≤n)=true:=by simp;omega
  have m4:decide (n≤102)=true:=by simp;omega
  have m5:decide (65≤n)=true:=by simp;omega
  have m6:decide (n≤70)=false:=by simp;omega
  have w1:IntKind.u8.wrap ((n:Int)-97)=(n:Int)-97:=Gt (by omega) (by omega)
  have w2:IntKind.i64.wrap ((n:Int)-97)=(n:Int)-97:=CG (by omega) (by omega)
  have w3:IntKind.i64.wrap ((n:Int)-97+10)=(n:Int)-87:=by rw[CG (by omega) (by omega)];omega
  simp only[m1,m2,m3,m4,m5,m6,Bool.true_and,Bool.false_and,Bool.and_true,Bool.and_false,if_true,Bool.false_eq_true,if_false]
  refine A6 Tryz.func227 Tryz.ntmps227 ?_
  (repeat (first | (with_reducible first | refine GU ?_ | refine Br ?_ | refine DT ?_ | refine DU ?_) | ((with_reducible apply F7);(iterate 2 (focus (first | (simp only[go_sem,Nat.reduceEqDiff,Nat.reduceAdd,Nat.reduceSub,Nat.reduceLeDiff,Nat.reduceMul,Nat.reduceBEq,Nat.reduceLT,Int.reduceToNat,reduceCtorEq,g48,l57,g97,l102,w1,w2,w3];first | done | exact rfl | (and_intros<;>rfl)) | exact rfl | decide)))) | ((with_reducible refine GT ?_);dsimp only;try ((with_reducible apply Fb);(focus (simp only[go_sem];exact rfl));(focus decide))) | ((with_reducible first | refine Ha ?_ | refine F9 ?_ | refine DQ ?_);dsimp only) | ((with_reducible refine F8 ?_);dsimp only;simp only[if_true,if_false,Nat.reduceEqDiff]) | ((with_reducible apply Mi);(focus (simp only[go_sem,Nat.reduceBEq,Nat.reduceLT,g48,l57,g97,l102,w1,w2,w3];exact rfl));dsimp only[cond_true,cond_false]) | ((with_reducible refine F5 ?_ ?_);(focus exact rfl))))
  exact Am (A7 []) Tryz.results227
 ·have g48:decide ((n:Int)≥48)=true:=by simp;omega
  have l57:decide ((n:Int)≤57)=false:=by simp;omega
  have g97:decide ((n:Int)≥97)=true:=by simp;omega
  have l102:decide ((n:Int)≤102)=false:=by simp;omega
  have g65:decide ((n:Int)≥65)=true:=by simp;omega
  have l70:decide ((n:Int)≤70)=false:=by simp;omega
  have m1:decide (48≤n)=true:=by simp;omega
  have m2:decide (n≤57)=false:=by simp;omega
  have m3:decide (97≤n)=true:=by simp;omega
  have m4:decide (n≤102)=false:=by simp;omega
  have m5:decide (65≤n)=true:=by simp;omega
  have m6:decide (n≤70)=false:=by simp;omega
  simp only[m1,m2,m3,m4,m5,m6,Bool.true_and,Bool.false_and,Bool.and_true,Bool.and_false,if_true,Bool.false_eq_true,if_false]
  refine A6 Tryz.func227 Tryz.ntmps227 ?_
  refine A0 (j6 g48 l57 g97 l102 g65 l70) ?_
  exact Am (A7 []) Tryz.results227
end
section
open Go.RowKit
section
variable {P:Program}
section
variable {σ:ASt} {a:Act} {w:World} {Γ:Ctx}
theorem M6 {ow:Nat→Option Id}{κ:Id→Value}(h:RelAt Γ σ a w ow κ) {fn:Func}{m:Mem}{res:AV}{m':Mem}(hΓ:∀i o o',m.get i=some o→m'.get i=some o'→i∈Γ.ext) (hR:DR P fn m res m' σ):∃v,(results fn a.tmps).run P w=.ok v w∧∃ow' κ',ExitAt Γ m m' w res v ow' κ':=by
 obtain⟨r,h1,ρ,bw,h2,h3,h4,h5⟩:=hR
 obtain⟨v,g1,g2⟩:=MN h h1
 have hS:∀b,Γ.sees ow b→Γ.sees (BK ρ m' ow) b:=fun b hb=>⟨Cr hb.1,hb.2⟩
 have hT:∀b j,j∈bw→ow b=some j→Γ.sees (BK ρ m' ow) b:=fun b j hj hb=>⟨Gb h4 hj hb,by
  by_cases h1:Γ.w.heap.size≤b
  ·exact .inr (.inl h1)
  ·by_cases h2:Γ.ow b=none
   ·have:=(h.frame b (by omega) h2).2
    rw[this]at hb
    cases hb
   ·exact .inr (.inr h2)⟩
 refine⟨v,g1,BK ρ m' ow,Cz ρ κ,Mat.rep h4 hS hT h.objs h2 h3 g2,fun i o hi=>Dj.rep h4 hS hT h.objs hi,fun b i hb=>?_,h.os,h.tape,h.output,h.size,fun b hb h0=>?_,fun i o o' hi hi'=>?_⟩
 ·obtain⟨⟨o,h1,h2⟩,j,_,h3⟩:=Db h4.nd hb
  exact⟨(h.own b j h3).1,o,h1,h2⟩
 ·obtain⟨h1,h2⟩:=h.frame b hb h0
  exact⟨h1,Cr h2⟩
 ·have:=h5 (i,o) (Mem.mem_of_get hi) (by simp[hi'])
  simp only at this
  simp only[Cz,this]
  exact (h.kap i (hΓ i o o' hi hi')).1
end
theorem AC.intro_ext (L:List Id) {f:FuncId}{fn:Func}{c:Code}{args:List AV}{m:Mem}{res:AV}{m':Mem}(hm:P.follows .mixedOrders=true) (hf:P.funcs[f]? = some fn) (hb:fn.body=some c)
  (hL:(L.all fun i=>(m.get i).isSome)=true) (hL':(m'.all fun p=>!(m.get p.1).isSome||L.contains p.1)=true)
  (h:awp P L c (fun e σ=>match e with
   | .exit _=>False
   |_=>DR P fn m res m' σ) ⟨args++List.replicate (fn.ntmps-args.length) .undef,m⟩):AC P f args m res m':=by
 intro Γ B7 hent hargs
 refine calls_of_wp hf hb ?_
 have hl:=hargs.length
 have hr:Rel { Γ with ext:=L } ⟨args++List.replicate (fn.ntmps-args.length) .undef,m⟩ { tmps:=B7.toArray++Array.replicate (fn.ntmps-B7.toArray.size) undef,defers:=[] } Γ.w:=by
  refine⟨Γ.ow,Γ.κ,by simp[hl],rfl,fun t=>?_,hent.objs,hent.own,rfl,rfl,rfl,Nat.le_refl _,fun b _ h0=>⟨rfl,h0⟩,fun i hi=>⟨rfl,?_⟩⟩
  ·have:=ARs.getD hargs t
   by_cases ht:t<args.length
   ·have e1:(⟨args++List.replicate (fn.ntmps-args.length) .undef,m⟩:ASt).slot t=args.getD t .undef:=by
     simp only[ASt.slot,List.getD,List.getElem?_append_left ht]
    have e2:(B7.toArray++Array.replicate (fn.ntmps-B7.toArray.size) undef).getD t undef=B7.getD t undef:=by
     rw[Array.getD_eq_getD_getElem?,Array.getElem?_append_left (by simp;omega)]
     simp[List.getD]
    show AR _ _ _ _ (ASt.slot _ t) (Array.getD _ t undef)
    rw[e1,e2]
    exact this
   ·have e1:(⟨args++List.replicate (fn.ntmps-args.length) .undef,m⟩:ASt).slot t=.undef:=by
     simp only[ASt.slot,List.getD,List.getElem?_append_right (Nat.le_of_not_lt ht),List.getElem?_replicate]
     split<;>rfl
    show AR _ _ _ _ (ASt.slot _ t) (Array.getD _ t undef)
    rw[e1]
    trivial
  ·exact Option.isSome_iff_exists.1 (List.all_eq_true.1 hL i hi)
 have h':awp P ({ Γ with ext:=L }:Ctx).ext c _ _:=h
 refine wp_mono (CO hm c _ _ _ _ h' hr) ?_
 intro e a' w' hq
 have fin:∀τ,Rel { Γ with ext:=L } τ a' w'→DR P fn m res m' τ→a'.defers=[]∧∃v,(results fn a'.tmps).run P w'=.ok v w'∧∃v',∃ow κ,Ending.returned v=.returned v'∧ExitAt Γ m m' w' res v' ow κ:=by
  rintro τ ⟨ow,κ,hr'⟩ hR
  obtain⟨v,g1,ow',κ',g2⟩:=M6 hr' (fun i o o' h1 h2=>by
   have:=List.all_eq_true.1 hL' (i,o') (Mem.mem_of_get h2)
   simp only[h1,Option.isSome_some,Bool.not_true,Bool.false_or]at this
   exact List.contains_iff_mem.1 this) hR
  exact⟨hr'.defers,v,g1,v,ow',κ',rfl,⟨g2.res,g2.objs,g2.own,g2.os,g2.tape,g2.output,g2.size,g2.frame,g2.kap⟩⟩
 cases e with
 |normal=>obtain⟨τ,h1,h2⟩:=hq;exact fin τ h1 h2
 |ret=>obtain⟨τ,h1,h2⟩:=hq;exact fin τ h1 h2
 |exit id=>obtain⟨τ,h1,h2⟩:=hq;exact h2
 |goto l=>exact hq.elim
 |panic ch=>exact hq.elim
 |outgrown=>exact hq.elim
theorem AC.intro_spx (L:List Id) {f:FuncId}{fn:Func}{c:Code}{args:List AV}{m:Mem}{res:AV}{m':Mem}{n:Nat}(hm:P.follows .mixedOrders=true) (hf:P.funcs[f]? = some fn) (hb:fn.body=some c) (hn:fn.ntmps=n) (hl:args.length≤n)
  (hL:(L.all fun i=>(m.get i).isSome)=true) (hL':(m'.all fun p=>!(m.get p.1).isSome||L.contains p.1)=true)
  (h:awp P L c (fun e σ=>match e with
   | .exit _=>False
   |_=>DR P fn m res m' σ) ⟨sp n (I2 0 args),m⟩):AC P f args m res m':=by
 refine AC.intro_ext L hm hf hb hL hL' ?_
 rw[hn,WB hl]
 exact h
end
section
variable {P:Program} {ops:Array Oper} {o:Oper} {σ τ:ASt}
theorem WD {ty:TypeId}{y:Operand}{i:Id}{es:Nat}{e:TypeId}{rows:List (List C)}{r off:Nat}{row:List C}{inner:List (List C)}{ti:TI}{size by':Nat}{z:Option Value}(ho:o.op=.load ty y) (hy:σ.ev y=.rptr i es r off) (ht:tin P ty=some ⟨ti,size,by',z⟩) (hg:ti.agg=some false)
  (hi:σ.mem.get i=some (.row true es e rows)) (hr:rows[r]? = some row) (hro:row[off]? = some (.sl inner)):Al P o σ ⟨[i],[],.c (.sl inner)⟩:=by
 refine Al.pure fun Γ σ' a w ow κ hag hrel=>?_
 have e1:=hrel.ev y
 rw[hag.1 y (by rw[ho];simp[Op.operands]),hy]at e1
 have hi':σ'.mem.get i=some (.row true es e rows):=by rw[hag.2.1 i (by simp),hi]
 obtain⟨_,o1,k1,k2⟩:=e1
 rw[hi']at k1
 cases k1
 obtain⟨b,n,cap,k3,k4⟩:=k2 rfl
 obtain⟨vrows,bs,h1,_,h3,h4,h5,h6⟩:=hrel.objs i _ hi'
 obtain⟨vr,u,b1,b2,b3,g0,g1,rfl,g3,g4⟩:=Ag.split h1 hr hro
 have hcell:w.cell? ⟨b,r*es+off,none⟩=some u:=by
  rw[k3]at h4
  have:=h4.cells (g:=b) rfl _ _ (Bz h3 r vr g0 off u g1)
  rwa [Addr.add_mid,Nat.zero_add]at this
 have hb2:b2=[]:=by
  simp only[CR]at g3
  obtain⟨_,_,_,_,_,_,_,_,_,h⟩:=g3
  exact h
 subst hb2
 refine⟨u,?_,g3⟩
 obtain⟨d,inf,t1,t2,t3⟩:=B4 ht
 simp only[TIn.mk.injEq]at t3
 unfold execOp
 rw[ho]
 simp[Instr.loadAt,Instr.sureAddr,k4,loadVar,Ip (by rw[←t3.1];exact hg) t1 w,hcell]
theorem Xj {d:Option Tmp}{r':List Oper}{fs:List AEff}{K:ASt→List AEff→Prop}{E:AEff}{ty ty':TypeId}{y:Operand}{pos:String}{af:Array Edge}{gd:Option (Nat×Bool)}{i:Id}{es:Nat}{e:TypeId}{rows:List (List C)}{r off:Nat}{row:List C}{inner:List (List C)}{ti:TI}{size by':Nat}{z:Option Value}
  (hg:Bi ops σ ⟨d,.load ty y,ty',pos,af,gd⟩=some true) (hy:σ.ev y=.rptr i es r off) (ht:tin P ty=some ⟨ti,size,by',z⟩) (hag:ti.agg=some false)
  (hi:σ.mem.get i=some (.row true es e rows)) (hr:rows[r]? = some row) (hro:row[off]? = some (.sl inner))
  (he:(⟨[i],[],.c (.sl inner)⟩:AEff)=E) (hτ:σ.upd d E=τ) (h:Ad P ops r' τ (fs++[E]) K):Ad P ops (⟨d,.load ty y,ty',pos,af,gd⟩::r') σ fs K:=by
 subst he
 refine C5 hg ?_ (WD rfl hy ht hag hi hr hro).sound hτ h
 simp[eff,DY,ht,hag,hy,hi]
end
end
end Go.Proofs.YtllfmaflodbieaaGreatDoor
