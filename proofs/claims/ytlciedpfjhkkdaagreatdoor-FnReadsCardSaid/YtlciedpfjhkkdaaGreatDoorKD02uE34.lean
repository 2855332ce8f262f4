/- Texts of this proof: D02 E32 E34. -/
import Derived.Test.YtlciedpfjhkkdaaGreatDoorKE35uD01
set_option linter.all false
set_option maxHeartbeats 8000000
namespace Go.Proofs.YtlciedpfjhkkdaaGreatDoor
section
open Go.RowKit
set_option maxRecDepth 10000
theorem u8_in {n:Int}(h0:0≤n) (h1:n<256):IntKind.u8.wrap n=n:=IntWalk.u8_in _ (by omega)
theorem i64_in {n:Int}(h0:-9223372036854775808≤n) (h1:n≤9223372036854775807):IntKind.i64.wrap n=n:=IntWalk.i64_in _ (by omega)
def rdOk (v:AV) (t:ByteArray) (e:Nat):AV:=.agg [v,.c (.str t),.c (.int .i64 e),.c (.int .i64 0),.c (.int .i64 0)]
def rdBad (c:Int) (p:Nat):AV:=.agg [.nils,.c (.str ByteArray.empty),.c (.int .i64 0),.c (.int .i64 c),.c (.int .i64 p)]
theorem l2Bad_ac (c:Int) (p:Nat):AC Tryz.prog 72 [.c (.int .i64 c),.c (.int .i64 p)] [] (rdBad c p) []:=by
 unfold rdBad
 refine wEnter Tryz.func72 Tryz.ntmps72 ?_
 refine wRUN trivial ?_
 exact wRet (ret_data []) Tryz.results72
theorem l2Hex_ac (n:Nat) (hn:n<256):AC Tryz.prog 178 [.c (.int .u8 n)] [] (.c (.int .i64 (hexB n))) []:=by
 have hcase:n<48∨(48≤n∧n≤57)∨(58≤n∧n<65)∨(65≤n∧n≤70)∨(71≤n∧n<97)∨(97≤n∧n≤102)∨103≤n:=by omega
 unfold hexB digB
 rcases hcase with h | h | h | h | h | h | h
 ·have g48:decide ((n:Int)≥48)=false:=by simp;omega
  have g97:decide ((n:Int)≥97)=false:=by simp;omega
  have g65:decide ((n:Int)≥65)=false:=by simp;omega
  have m1:decide (48≤n)=false:=by simp;omega
  have m2:decide (n≤57)=true:=by simp;omega
  have m3:decide (97≤n)=false:=by simp;omega
  have m4:decide (n≤102)=true:=by simp;omega
  have m5:decide (65≤n)=false:=by simp;omega
  have m6:decide (n≤70)=true:=by simp;omega
  simp only[m1,m2,m3,m4,m5,m6,Bool.true_and,Bool.false_and,Bool.and_true,Bool.and_false,if_true,Bool.false_eq_true,if_false]
  refine wEnter Tryz.func178 Tryz.ntmps178 ?_
  refine wRUN (j3 g48 g97 g65) ?_
  exact wRet (ret_data []) Tryz.results178
 ·have g48:decide ((n:Int)≥48)=true:=by simp;omega
  have l57:decide ((n:Int)≤57)=true:=by simp;omega
  have m1:decide (48≤n)=true:=by simp;omega
  have m2:decide (n≤57)=true:=by simp;omega
  have m3:decide (97≤n)=false:=by simp;omega
  have m4:decide (n≤102)=true:=by simp;omega
  have m5:decide (65≤n)=false:=by simp;omega
  have m6:decide (n≤70)=true:=by simp;omega
  have w1:IntKind.u8.wrap ((n:Int)-48)=(n:Int)-48:=u8_in (by omega) (by omega)
  have w2:IntKind.i64.wrap ((n:Int)-48)=(n:Int)-48:=i64_in (by omega) (by omega)
  simp only[m1,m2,m3,m4,m5,m6,Bool.true_and,Bool.false_and,Bool.and_true,Bool.and_false,if_true,Bool.false_eq_true,if_false]
  refine wEnter Tryz.func178 Tryz.ntmps178 ?_
  (repeat (first | (with_reducible first | refine a_seq ?_ | refine a_region ?_ | refine a_block ?_ | refine a_scope ?_) | ((with_reducible apply op_any);(iterate 2 (focus (first | (simp only[go_sem,Nat.reduceEqDiff,Nat.reduceAdd,Nat.reduceSub,Nat.reduceLeDiff,Nat.reduceMul,Nat.reduceBEq,Nat.reduceLT,Int.reduceToNat,reduceCtorEq,g48,l57,w1,w2];first | done | exact rfl | (and_intros<;>rfl)) | exact rfl | decide)))) | ((with_reducible refine o_nil ?_);dsimp only;try ((with_reducible apply o_draw);(focus (simp only[go_sem];exact rfl));(focus decide))) | ((with_reducible first | refine a_ret ?_ | refine a_skip ?_ | refine a_label ?_);dsimp only) | ((with_reducible refine a_exit ?_);dsimp only;simp only[if_true,if_false,Nat.reduceEqDiff]) | ((with_reducible apply a_if);(focus (simp only[go_sem,Nat.reduceBEq,Nat.reduceLT,g48,l57,w1,w2];exact rfl));dsimp only[cond_true,cond_false]) | ((with_reducible refine a_draw ?_ ?_);(focus exact rfl))))
  exact wRet (ret_data []) Tryz.results178
 ·have g48:decide ((n:Int)≥48)=true:=by simp;omega
  have l57:decide ((n:Int)≤57)=false:=by simp;omega
  have g97:decide ((n:Int)≥97)=false:=by simp;omega
  have g65:decide ((n:Int)≥65)=false:=by simp;omega
  have m1:decide (48≤n)=true:=by simp;omega
  have m2:decide (n≤57)=false:=by simp;omega
  have m3:decide (97≤n)=false:=by simp;omega
  have m4:decide (n≤102)=true:=by simp;omega
  have m5:decide (65≤n)=false:=by simp;omega
  have m6:decide (n≤70)=true:=by simp;omega
  simp only[m1,m2,m3,m4,m5,m6,Bool.true_and,Bool.false_and,Bool.and_true,Bool.and_false,if_true,Bool.false_eq_true,if_false]
  refine wEnter Tryz.func178 Tryz.ntmps178 ?_
  refine wRUN (j4 g48 l57 g97 g65) ?_
  exact wRet (ret_data []) Tryz.results178
 ·have g48:decide ((n:Int)≥48)=true:=by simp;omega
  have l57:decide ((n:Int)≤57)=false:=by simp;omega
  have g97:decide ((n:Int)≥97)=false:=by simp;omega
  have g65:decide ((n:Int)≥65)=true:=by simp;omega
  have l70:decide ((n:Int)≤70)=true:=by simp;omega
  have m1:decide (48≤n)=true:=by simp;omega
  have m2:decide (n≤57)=false:=by simp;omega
  have m3:decide (97≤n)=false:=by simp;omega
  have m4:decide (n≤102)=true:=by simp;omega
  have m5:decide (65≤n)=true:=by simp;omega
  have m6:decide (n≤70)=true:=by simp;omega
  have w1:IntKind.u8.wrap ((n:Int)-65)=(n:Int)-65:=u8_in (by omega) (by omega)
  have w2:IntKind.i64.wrap ((n:Int)-65)=(n:Int)-65:=i64_in (by omega) (by omega)
  have w3:IntKind.i64.wrap ((n:Int)-65+10)=(n:Int)-55:=by rw[i64_in (by omega) (by omega)];omega
  simp only[m1,m2,m3,m4,m5,m6,Bool.true_and,Bool.false_and,Bool.and_true,Bool.and_false,if_true,Bool.false_eq_true,if_false]
  refine wEnter Tryz.func178 Tryz.ntmps178 ?_
  (repeat (first | (with_reducible first | refine a_seq ?_ | refine a_region ?_ | refine a_block ?_ | refine a_scope ?_) | ((with_reducible apply op_any);(iterate 2 (focus (first | (simp only[go_sem,Nat.reduceEqDiff,Nat.reduceAdd,Nat.reduceSub,Nat.reduceLeDiff,Nat.reduceMul,Nat.reduceBEq,Nat.reduceLT,Int.reduceToNat,reduceCtorEq,g48,l57,g97,g65,l70,w1,w2,w3];first | done | exact rfl | (and_intros<;>rfl)) | exact rfl | decide)))) | ((with_reducible refine o_nil ?_);dsimp only;try ((with_reducible apply o_draw);(focus (simp only[go_sem];exact rfl));(focus decide))) | ((with_reducible first | refine a_ret ?_ | refine a_skip ?_ | refine a_label ?_);dsimp only) | ((with_reducible refine a_exit ?_);dsimp only;simp only[if_true,if_false,Nat.reduceEqDiff]) | ((with_reducible apply a_if);(focus (simp only[go_sem,Nat.reduceBEq,Nat.reduceLT,g48,l57,g97,g65,l70,w1,w2,w3];exact rfl));dsimp only[cond_true,cond_false]) | ((with_reducible refine a_draw ?_ ?_);(focus exact rfl))))
  exact wRet (ret_data []) Tryz.results178
 ·have g48:decide ((n:Int)≥48)=true:=by simp;omega
  have l57:decide ((n:Int)≤57)=false:=by simp;omega
  have g97:decide ((n:Int)≥97)=false:=by simp;omega
  have g65:decide ((n:Int)≥65)=true:=by simp;omega
  have l70:decide ((n:Int)≤70)=false:=by simp;omega
  have m1:decide (48≤n)=true:=by simp;omega
  have m2:decide (n≤57)=false:=by simp;omega
  have m3:decide (97≤n)=false:=by simp;omega
  have m4:decide (n≤102)=true:=by simp;omega
  have m5:decide (65≤n)=true:=by simp;omega
  have m6:decide (n≤70)=false:=by simp;omega
  simp only[m1,m2,m3,m4,m5,m6,Bool.true_and,Bool.false_and,Bool.and_true,Bool.and_false,if_true,Bool.false_eq_true,if_false]
  refine wEnter Tryz.func178 Tryz.ntmps178 ?_
  refine wRUN (j5 g48 l57 g97 g65 l70) ?_
  exact wRet (ret_data []) Tryz.results178
 ·have g48:decide ((n:Int)≥48)=true:=by simp;omega
  have l57:decide ((n:Int)≤57)=false:=by simp;omega
  have g97:decide ((n:Int)≥97)=true:=by simp;omega
  have l102:decide ((n:Int)≤102)=true:=by simp;omega
  have m1:decide (48≤n)=true:=by simp;omega
  have m2:decide (n≤57)=false:=by simp;omega
  have m3:decide (97≤n)=true:=by simp;omega
  have m4:decide (n≤102)=true:=by simp;omega
  have m5:decide (65≤n)=true:=by simp;omega
  have m6:decide (n≤70)=false:=by simp;omega
  have w1:IntKind.u8.wrap ((n:Int)-97)=(n:Int)-97:=u8_in (by omega) (by omega)
  have w2:IntKind.i64.wrap ((n:Int)-97)=(n:Int)-97:=i64_in (by omega) (by omega)
  have w3:IntKind.i64.wrap ((n:Int)-97+10)=(n:Int)-87:=by rw[i64_in (by omega) (by omega)];omega
  simp only[m1,m2,m3,m4,m5,m6,Bool.true_and,Bool.false_and,Bool.and_true,Bool.and_false,if_true,Bool.false_eq_true,if_false]
  refine wEnter Tryz.func178 Tryz.ntmps178 ?_
  (repeat (first | (with_reducible first | refine a_seq ?_ | refine a_region ?_ | refine a_block ?_ | refine a_scope ?_) | ((with_reducible apply op_any);(iterate 2 (focus (first | (simp only[go_sem,Nat.reduceEqDiff,Nat.reduceAdd,Nat.reduceSub,Nat.reduceLeDiff,Nat.reduceMul,Nat.reduceBEq,Nat.reduceLT,Int.reduceToNat,reduceCtorEq,g48,l57,g97,l102,w1,w2,w3];first | done | exact rfl | (and_intros<;>rfl)) | exact rfl | decide)))) | ((with_reducible refine o_nil ?_);dsimp only;try ((with_reducible apply o_draw);(focus (simp only[go_sem];exact rfl));(focus decide))) | ((with_reducible first | refine a_ret ?_ | refine a_skip ?_ | refine a_label ?_);dsimp only) | ((with_reducible refine a_exit ?_);dsimp only;simp only[if_true,if_false,Nat.reduceEqDiff]) | ((with_reducible apply a_if);(focus (simp only[go_sem,Nat.reduceBEq,Nat.reduceLT,g48,l57,g97,l102,w1,w2,w3];exact rfl));dsimp only[cond_true,cond_false]) | ((with_reducible refine a_draw ?_ ?_);(focus exact rfl))))
  exact wRet (ret_data []) Tryz.results178
 ·have g48:decide ((n:Int)≥48)=true:=by simp;omega
  have l57:decide ((n:Int)≤57)=false:=by simp;omega
  have g97:decide ((n:Int)≥97)=true:=by simp;omega
  have l102:decide ((n:Int)≤102)=false:=by simp;omega
  have g65:decide ((n:Int)≥65)=true:=by simp;omega
  have l70:decide ((n:Int)≤70)=false:=by simp;omega
  have m1:decide (48≤n)=true:=by simp;omega
  have m2:decide (n≤57)=false:=by simp;omega
  have m3:decide (97≤n)=true:=by simp;omega
  have m4:decide (n≤102)=false:=by simp;omega
  have m5:decide (65≤n)=true:=by simp;omega
  have m6:decide (n≤70)=false:=by simp;omega
  simp only[m1,m2,m3,m4,m5,m6,Bool.true_and,Bool.false_and,Bool.and_true,Bool.and_false,if_true,Bool.false_eq_true,if_false]
  refine wEnter Tryz.func178 Tryz.ntmps178 ?_
  refine wRUN (j6 g48 l57 g97 l102 g65 l70) ?_
  exact wRet (ret_data []) Tryz.results178
end
section
open Go.RowKit
section
variable {P:Program}
section
variable {σ:ASt} {a:Act} {w:World} {Γ:Ctx}
theorem returns_exitL {ow:Nat→Option Id}{κ:Id→Value}(h:RelAt Γ σ a w ow κ) {fn:Func}{m:Mem}{res:AV}{m':Mem}(hΓ:∀i o o',m.get i=some o→m'.get i=some o'→i∈Γ.ext) (hR:Returns P fn m res m' σ):∃v,(results fn a.tmps).run P w=.ok v w∧∃ow' κ',ExitAt Γ m m' w res v ow' κ':=by
 obtain⟨r,h1,ρ,bw,h2,h3,h4,h5⟩:=hR
 obtain⟨v,g1,g2⟩:=resAV_run h h1
 have hS:∀b,Γ.sees ow b→Γ.sees (owRen ρ m' ow) b:=fun b hb=>⟨owRen_none hb.1,hb.2⟩
 have hT:∀b j,j∈bw→ow b=some j→Γ.sees (owRen ρ m' ow) b:=fun b j hj hb=>⟨owRen_bw h4 hj hb,by
  by_cases h1:Γ.w.heap.size≤b
  ·exact .inr (.inl h1)
  ·by_cases h2:Γ.ow b=none
   ·have:=(h.frame b (by omega) h2).2
    rw[this]at hb
    cases hb
   ·exact .inr (.inr h2)⟩
 refine⟨v,g1,owRen ρ m' ow,kRen ρ κ,Mat.rep h4 hS hT h.objs h2 h3 g2,fun i o hi=>MatO.rep h4 hS hT h.objs hi,fun b i hb=>?_,h.os,h.tape,h.output,h.size,fun b hb h0=>?_,fun i o o' hi hi'=>?_⟩
 ·obtain⟨⟨o,h1,h2⟩,j,_,h3⟩:=owRen_inv h4.nd hb
  exact⟨(h.own b j h3).1,o,h1,h2⟩
 ·obtain⟨h1,h2⟩:=h.frame b hb h0
  exact⟨h1,owRen_none h2⟩
 ·have:=h5 (i,o) (Mem.mem_of_get hi) (by simp[hi'])
  simp only at this
  simp only[kRen,this]
  exact (h.kap i (hΓ i o o' hi hi')).1
end
theorem AC.intro_ext (L:List Id) {f:FuncId}{fn:Func}{c:Code}{args:List AV}{m:Mem}{res:AV}{m':Mem}(hm:P.follows .mixedOrders=true) (hf:P.funcs[f]? = some fn) (hb:fn.body=some c)
  (hL:(L.all fun i=>(m.get i).isSome)=true) (hL':(m'.all fun p=>!(m.get p.1).isSome||L.contains p.1)=true)
  (h:awp P L c (fun e σ=>match e with
   | .exit _=>False
   |_=>Returns P fn m res m' σ) ⟨args++List.replicate (fn.ntmps-args.length) .undef,m⟩):AC P f args m res m':=by
 intro Γ vals hent hargs
 refine calls_of_wp hf hb ?_
 have hl:=hargs.length
 have hr:Rel { Γ with ext:=L } ⟨args++List.replicate (fn.ntmps-args.length) .undef,m⟩ { tmps:=vals.toArray++Array.replicate (fn.ntmps-vals.toArray.size) undef,defers:=[] } Γ.w:=by
  refine⟨Γ.ow,Γ.κ,by simp[hl],rfl,fun t=>?_,hent.objs,hent.own,rfl,rfl,rfl,Nat.le_refl _,fun b _ h0=>⟨rfl,h0⟩,fun i hi=>⟨rfl,?_⟩⟩
  ·have:=ARs.getD hargs t
   by_cases ht:t<args.length
   ·have e1:(⟨args++List.replicate (fn.ntmps-args.length) .undef,m⟩:ASt).slot t=args.getD t .undef:=by
     simp only[ASt.slot,List.getD,List.getElem?_append_left ht]
    have e2:(vals.toArray++Array.replicate (fn.ntmps-vals.toArray.size) undef).getD t undef=vals.getD t undef:=by
     rw[Array.getD_eq_getD_getElem?,Array.getElem?_append_left (by simp;omega)]
     simp[List.getD]
    show AR _ _ _ _ (ASt.slot _ t) (Array.getD _ t undef)
    rw[e1,e2]
    exact this
   ·have e1:(⟨args++List.replicate (fn.ntmps-args.length) .undef,m⟩:ASt).slot t=.undef:=by
     simp only[ASt.slot,List.getD,List.getElem?_append_right (Nat.le_of_not_lt ht),List.getElem?_replicate]
     split<;>rfl
    show AR _ _ _ _ (ASt.slot _ t) (Array.getD _ t undef)
    rw[e1]
    trivial
  ·exact Option.isSome_iff_exists.1 (List.all_eq_true.1 hL i hi)
 have h':awp P ({ Γ with ext:=L }:Ctx).ext c _ _:=h
 refine wp_mono (awp_sound hm c _ _ _ _ h' hr) ?_
 intro e a' w' hq
 have fin:∀τ,Rel { Γ with ext:=L } τ a' w'→Returns P fn m res m' τ→a'.defers=[]∧∃v,(results fn a'.tmps).run P w'=.ok v w'∧∃v',∃ow κ,Ending.returned v=.returned v'∧ExitAt Γ m m' w' res v' ow κ:=by
  rintro τ ⟨ow,κ,hr'⟩ hR
  obtain⟨v,g1,ow',κ',g2⟩:=returns_exitL hr' (fun i o o' h1 h2=>by
   have:=List.all_eq_true.1 hL' (i,o') (Mem.mem_of_get h2)
   simp only[h1,Option.isSome_some,Bool.not_true,Bool.false_or]at this
   exact List.contains_iff_mem.1 this) hR
  exact⟨hr'.defers,v,g1,v,ow',κ',rfl,⟨g2.res,g2.objs,g2.own,g2.os,g2.tape,g2.output,g2.size,g2.frame,g2.kap⟩⟩
 cases e with
 |normal=>obtain⟨τ,h1,h2⟩:=hq;exact fin τ h1 h2
 |ret=>obtain⟨τ,h1,h2⟩:=hq;exact fin τ h1 h2
 |exit id=>obtain⟨τ,h1,h2⟩:=hq;exact h2
 |goto l=>exact hq.elim
 |panic ch=>exact hq.elim
 |outgrown=>exact hq.elim
theorem AC.intro_spx (L:List Id) {f:FuncId}{fn:Func}{c:Code}{args:List AV}{m:Mem}{res:AV}{m':Mem}{n:Nat}(hm:P.follows .mixedOrders=true) (hf:P.funcs[f]? = some fn) (hb:fn.body=some c) (hn:fn.ntmps=n) (hl:args.length≤n)
  (hL:(L.all fun i=>(m.get i).isSome)=true) (hL':(m'.all fun p=>!(m.get p.1).isSome||L.contains p.1)=true)
  (h:awp P L c (fun e σ=>match e with
   | .exit _=>False
   |_=>Returns P fn m res m' σ) ⟨sp n (argsAt 0 args),m⟩):AC P f args m res m':=by
 refine AC.intro_ext L hm hf hb hL hL' ?_
 rw[hn,sp_ini hl]
 exact h
end
end
section
open Go.RowKit
section
variable {P:Program} {ops:Array Oper} {r:List Oper} {σ τ:ASt} {fs:List AEff} {K:ASt→List AEff→Prop} {E:AEff}
theorem Fits.ofB (bw:List Id) (ρ ρ':List (Id×Id)) {fz:List (Id×AO)}{m:Mem}{res:AV}{m':Mem}(h1:MatL (rn ρ) σ.mem bw m) (h2:(m.all fun p=>p.2.refs m)=true) (hfz:frzOf σ.mem bw=fz) (hids:fz.map (·.1)=bw) (hndb:bw.Nodup) (h3:(m.map (·.1)).Nodup) (h4:(m.filterMap fun p=>if p.2.live then rn ρ p.1 else none).Nodup)
  (hl:(m.all fun p=>p.2.live)=true) (hl':(m'.all fun p=>p.2.live)=true) (hnd:(m'.map fun p=>rnF ρ' p.1).Nodup) (hnd':(m'.map (·.1)).Nodup)
  (hnew:∀p,p∈m'→((m.get p.1).isSome=true∧rn ρ p.1=some (rnF ρ' p.1))∨(m.get p.1=none∧σ.mem.get (rnF ρ' p.1)=none))
  (hbw:∀j,j∈(m.filterMap fun p=>if p.2.live then rn ρ p.1 else none)→j ∉ bw):Fits σ (rn ρ) bw fz false (rnF ρ') m res m':=by
 subst hfz
 refine⟨MatM.of h1 h2 h3 h4 hbw,fun p hp=>List.all_eq_true.1 hl p hp,hnd,hnd',fun p hp=>List.all_eq_true.1 hl' p hp,fun p hp=>?_,fun p hp=>?_,fun _ j hj=>by rw[hids];exact hj,by rw[hids];exact hndb,fun h=>by cases h⟩
 ·rcases hnew p hp with⟨g1,g2⟩ | g
  ·obtain⟨o,ho⟩:=Option.isSome_iff_exists.1 g1
   exact .inl ⟨o,ho,g2⟩
  ·exact .inr g
 ·unfold frzOf at hp
  simp only[List.mem_filterMap,Option.map_eq_some_iff]at hp
  obtain⟨j,hj,rows,hr,rfl⟩:=hp
  exact⟨hj,rows,rfl,hr⟩
theorem Fits.ofC (bw:List Id) (ρ ρ':List (Id×Id)) {m:Mem}{res:AV}{m':Mem}(h1:MatL (rn ρ) σ.mem bw m) (h2:(m.all fun p=>p.2.refs m)=true) (hc1:res.closed=true) (hc2:(m'.all fun p=>p.2.closed)=true) (h3:(m.map (·.1)).Nodup) (h4:(m.filterMap fun p=>if p.2.live then rn ρ p.1 else none).Nodup)
  (hl:(m.all fun p=>p.2.live)=true) (hl':(m'.all fun p=>p.2.live)=true) (hnd:(m'.map fun p=>rnF ρ' p.1).Nodup) (hnd':(m'.map (·.1)).Nodup)
  (hnew:∀p,p∈m'→((m.get p.1).isSome=true∧rn ρ p.1=some (rnF ρ' p.1))∨(m.get p.1=none∧σ.mem.get (rnF ρ' p.1)=none))
  (hbw:∀j,j∈(m.filterMap fun p=>if p.2.live then rn ρ p.1 else none)→j ∉ bw):Fits σ (rn ρ) bw [] true (rnF ρ') m res m':=by
 refine⟨MatM.of h1 h2 h3 h4 hbw,fun p hp=>List.all_eq_true.1 hl p hp,hnd,hnd',fun p hp=>List.all_eq_true.1 hl' p hp,fun p hp=>?_,fun p hp=>absurd hp (by simp),fun h=>Bool.noConfusion h,List.nodup_nil,fun _=>⟨hc1,fun p hp=>List.all_eq_true.1 hc2 p hp⟩⟩
 rcases hnew p hp with⟨g1,g2⟩ | g
 ·obtain⟨o,ho⟩:=Option.isSome_iff_exists.1 g1
  exact .inl ⟨o,ho,g2⟩
 ·exact .inr g
theorem op_callC (bw:List Id) (ρ ρ':List (Id×Id)) {d:Option Tmp}{fv:Operand}{args:Array Operand}{tys:Array TypeId}{ty:TypeId}{pos:String}{af:Array Edge}{gd:Option (Nat×Bool)}{m:Mem}{res:AV}{m':Mem}{f:FuncId}{caps cargs:List AV}
  (hac:AC P f cargs m res m') (hg:gate ops σ ⟨d,.call ⟨.value fv,args,tys⟩,ty,pos,af,gd⟩=some true) (hv:σ.ev fv=.clo f caps) (hc:callable P f=true)
  (hm:Mats (rn ρ) σ.mem bw cargs (args.toList.map σ.ev++caps)) (hrefs:refsL m cargs=true) (h1:MatL (rn ρ) σ.mem bw m) (h2:(m.all fun p=>p.2.refs m)=true) (hc1:res.closed=true) (hc2:(m'.all fun p=>p.2.closed)=true) (h3:(m.map (·.1)).Nodup) (h4:(m.filterMap fun p=>if p.2.live then rn ρ p.1 else none).Nodup)
  (hl:(m.all fun p=>p.2.live)=true) (hl':(m'.all fun p=>p.2.live)=true) (hnd:(m'.map fun p=>rnF ρ' p.1).Nodup) (hnd':(m'.map (·.1)).Nodup)
  (hnew:∀p,p∈m'→((m.get p.1).isSome=true∧rn ρ p.1=some (rnF ρ' p.1))∨(m.get p.1=none∧σ.mem.get (rnF ρ' p.1)=none))
  (hbw:∀j,j∈(m.filterMap fun p=>if p.2.live then rn ρ p.1 else none)→j ∉ bw)
  (he:(⟨bw,kills (rn ρ) m++[]++m'.map (fun p=>(rnF ρ' p.1,p.2.ren (rnF ρ'))),res.ren (rnF ρ')⟩:AEff)=E) (hτ:σ.upd d E=τ) (h:awpOps P ops r τ (fs++[E]) K):awpOps P ops (⟨d,.call ⟨.value fv,args,tys⟩,ty,pos,af,gd⟩::r) σ fs K:=by
 subst he
 have:=op_call hac hg hv hc hm hrefs (Fits.ofC bw ρ ρ' h1 h2 hc1 hc2 h3 h4 hl hl' hnd hnd' hnew hbw) (τ:=τ) (r:=r) (fs:=fs) (K:=K)
 unfold callEff at this
 exact this hτ h
theorem op_callB (bw:List Id) (ρ ρ':List (Id×Id)) {d:Option Tmp}{fv:Operand}{args:Array Operand}{tys:Array TypeId}{ty:TypeId}{pos:String}{af:Array Edge}{gd:Option (Nat×Bool)}{fz:List (Id×AO)}{m:Mem}{res:AV}{m':Mem}{f:FuncId}{caps cargs:List AV}
  (hac:AC P f cargs m res m') (hg:gate ops σ ⟨d,.call ⟨.value fv,args,tys⟩,ty,pos,af,gd⟩=some true) (hv:σ.ev fv=.clo f caps) (hc:callable P f=true)
  (hm:Mats (rn ρ) σ.mem bw cargs (args.toList.map σ.ev++caps)) (hrefs:refsL m cargs=true) (h1:MatL (rn ρ) σ.mem bw m) (h2:(m.all fun p=>p.2.refs m)=true) (hfz:frzOf σ.mem bw=fz) (hids:fz.map (·.1)=bw) (hndb:bw.Nodup) (h3:(m.map (·.1)).Nodup) (h4:(m.filterMap fun p=>if p.2.live then rn ρ p.1 else none).Nodup)
  (hl:(m.all fun p=>p.2.live)=true) (hl':(m'.all fun p=>p.2.live)=true) (hnd:(m'.map fun p=>rnF ρ' p.1).Nodup) (hnd':(m'.map (·.1)).Nodup)
  (hnew:∀p,p∈m'→((m.get p.1).isSome=true∧rn ρ p.1=some (rnF ρ' p.1))∨(m.get p.1=none∧σ.mem.get (rnF ρ' p.1)=none))
  (hbw:∀j,j∈(m.filterMap fun p=>if p.2.live then rn ρ p.1 else none)→j ∉ bw)
  (he:(⟨bw,kills (rn ρ) m++fz++m'.map (fun p=>(rnF ρ' p.1,p.2.ren (rnF ρ'))),res.ren (rnF ρ')⟩:AEff)=E) (hτ:σ.upd d E=τ) (h:awpOps P ops r τ (fs++[E]) K):awpOps P ops (⟨d,.call ⟨.value fv,args,tys⟩,ty,pos,af,gd⟩::r) σ fs K:=by
 subst he
 have:=op_call hac hg hv hc hm hrefs (Fits.ofB bw ρ ρ' h1 h2 hfz hids hndb h3 h4 hl hl' hnd hnd' hnew hbw) (τ:=τ) (r:=r) (fs:=fs) (K:=K)
 unfold callEff at this
 exact this hτ h
end
attribute [go_sem] AO.closed
theorem wCallB {A Φ G' G:Prop}(f:A) (F:Φ) (h:G') (e:A→Φ→G'→G:=by intro f F hh;apply f;(iterate 10 (focus (first | (simp only[go_sem,Nat.reduceEqDiff,Nat.reduceAdd,Nat.reduceSub,Nat.reduceLeDiff,Nat.reduceMul,Nat.reduceBEq,Nat.reduceLT,Int.reduceToNat,reduceCtorEq,F];first | done | exact rfl | (and_intros<;>rfl)) | exact rfl | decide)));(iterate 8 (focus (simp[go_sem,F];done)));(iterate 2 (focus (first | (simp only[go_sem,Nat.reduceEqDiff,Nat.reduceAdd,Nat.reduceSub,Nat.reduceLeDiff,Nat.reduceMul,Nat.reduceBEq,Nat.reduceLT,Int.reduceToNat,reduceCtorEq,F];first | done | exact rfl | (and_intros<;>rfl)) | exact rfl | decide)));exact hh):G:=e f F h
end
end Go.Proofs.YtlciedpfjhkkdaaGreatDoor
