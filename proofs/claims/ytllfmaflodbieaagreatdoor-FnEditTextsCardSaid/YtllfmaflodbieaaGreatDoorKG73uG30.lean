/- Texts of this proof: G73 E32 S03 M23 G34 G56 G57 G59 G69 G74 G29 G30. -/
import Derived.Test.YtllfmaflodbieaaGreatDoorKG45uGE
import Derived.Shelf.SlLaysN
import Derived.Lib.AppendZerosOnto
import Derived.Shelf.RegionOpenPlain
import Derived.Lib.Bytealg
import Derived.Shelf.SlicesG.CompactS
import Derived.Lib.RowBridge
set_option linter.all false
set_option maxHeartbeats 8000000
namespace Go.Proofs.YtllfmaflodbieaaGreatDoor
section
open Go.RowKit
set_option maxRecDepth 10000
def Yg (l:List CellD):C:=match l with
 | []=>.sl []
 |x::r=>.osl ((x::r).map CellD.cs)
def EditD.ox (d:EditD):List C:=[.int .i64 d.op,.osl (d.path.map CellD.cs),Yg d.x]
theorem TG (l:List CellD):(Yg l).forget=.sl (l.map CellD.cs):=by
 unfold Yg
 cases l with
 |nil=>rfl
 |cons x r=>simp only[C.forget,EA]
theorem XJ (l:List EditD):AE (l.map EditD.ox)=l.map EditD.cs:=by
 induction l with
 |nil=>rfl
 |cons d l ih=>simp only[List.map_cons,AE,ih,EditD.ox,EditD.cs,Ct,TG,C.forget,EA]
theorem a23 (l:List EditD):((l.map EditD.ox).all fun r=>r.length==3)=true:=by simp[EditD.ox]
attribute [go_sem] XJ a23
end
section
open Go.RowKit
section
variable {P:Program}
section
variable {σ:ASt} {a:Act} {w:World} {Γ:Ctx}
theorem Ph {ow:Nat→Option Id}{κ:Id→Value}(h:RelAt Γ σ a w ow κ) {fn:Func}{m:Mem}{res:AV}{m':Mem}(hΓ:∀i o o',m.get i=some o→m'.get i=some o'→i∈Γ.ext) (hR:F3 P fn m res m' σ):∃v,(results fn a.tmps).run P w=.ok v w∧∃ow' κ',ExitAt Γ m m' w res v ow' κ':=by
 obtain⟨r,h1,ρ,bw,h2,h3,h4,h5⟩:=hR
 obtain⟨v,g1,g2⟩:=Qb h h1
 have hS:∀b,Γ.sees ow b→Γ.sees (Cp ρ m' ow) b:=fun b hb=>⟨Dk hb.1,hb.2⟩
 have hT:∀b j,j∈bw→ow b=some j→Γ.sees (Cp ρ m' ow) b:=fun b j hj hb=>⟨IF h4 hj hb,by
  by_cases h1:Γ.w.heap.size≤b
  ·exact .inr (.inl h1)
  ·by_cases h2:Γ.ow b=none
   ·have:=(h.frame b (by omega) h2).2
    rw[this]at hb
    cases hb
   ·exact .inr (.inr h2)⟩
 refine⟨v,g1,Cp ρ m' ow,Dv ρ κ,Mat.rep h4 hS hT h.objs h2 h3 g2,fun i o hi=>Et.rep h4 hS hT h.objs hi,fun b i hb=>?_,h.os,h.tape,h.output,h.size,fun b hb h0=>?_,fun i o o' hi hi'=>?_⟩
 ·obtain⟨⟨o,h1,h2⟩,j,_,h3⟩:=Er h4.nd hb
  exact⟨(h.own b j h3).1,o,h1,h2⟩
 ·obtain⟨h1,h2⟩:=h.frame b hb h0
  exact⟨h1,Dk h2⟩
 ·have:=h5 (i,o) (Mem.mem_of_get hi) (by simp[hi'])
  simp only at this
  simp only[Dv,this]
  exact (h.kap i (hΓ i o o' hi hi')).1
end
theorem AC.intro_ext (L:List Id) {f:FuncId}{fn:Func}{c:Code}{args:List AV}{m:Mem}{res:AV}{m':Mem}(hm:P.follows .mixedOrders=true) (hf:P.funcs[f]? = some fn) (hb:fn.body=some c)
  (hL:(L.all fun i=>(m.get i).isSome)=true) (hL':(m'.all fun p=>!(m.get p.1).isSome||L.contains p.1)=true)
  (h:awp P L c (fun e σ=>match e with
   | .exit _=>False
   |_=>F3 P fn m res m' σ) ⟨args++List.replicate (fn.ntmps-args.length) .undef,m⟩):AC P f args m res m':=by
 intro Γ Bv hent hargs
 refine calls_of_wp hf hb ?_
 have hl:=hargs.length
 have hr:Rel { Γ with ext:=L } ⟨args++List.replicate (fn.ntmps-args.length) .undef,m⟩ { tmps:=Bv.toArray++Array.replicate (fn.ntmps-Bv.toArray.size) undef,defers:=[] } Γ.w:=by
  refine⟨Γ.ow,Γ.κ,by simp[hl],rfl,fun t=>?_,hent.objs,hent.own,rfl,rfl,rfl,Nat.le_refl _,fun b _ h0=>⟨rfl,h0⟩,fun i hi=>⟨rfl,?_⟩⟩
  ·have:=ARs.getD hargs t
   by_cases ht:t<args.length
   ·have e1:(⟨args++List.replicate (fn.ntmps-args.length) .undef,m⟩:ASt).slot t=args.getD t .undef:=by
     simp only[ASt.slot,List.getD,List.getElem?_append_left ht]
    have e2:(Bv.toArray++Array.replicate (fn.ntmps-Bv.toArray.size) undef).getD t undef=Bv.getD t undef:=by
     rw[Array.getD_eq_getD_getElem?,Array.getElem?_append_left (by simp;omega)]
     simp[List.getD]
    show AR _ _ _ _ (ASt.slot _ t) (Array.getD _ t undef)
    rw[e1,e2]
    exact this
   ·have e1:(⟨args++List.replicate (fn.ntmps-args.length) .undef,m⟩:ASt).slot t=.undef:=by
     simp only[ASt.slot,List.getD,List.getElem?_append_right (Nat.le_of_not_lt ht),List.getElem?_replicate]
     split<;>rfl
    show AR _ _ _ _ (ASt.slot _ t) (Array.getD _ t undef)
    rw[e1]
    trivial
  ·exact Option.isSome_iff_exists.1 (List.all_eq_true.1 hL i hi)
 have h':awp P ({ Γ with ext:=L }:Ctx).ext c _ _:=h
 refine wp_mono (DQ hm c _ _ _ _ h' hr) ?_
 intro e a' w' hq
 have fin:∀τ,Rel { Γ with ext:=L } τ a' w'→F3 P fn m res m' τ→a'.defers=[]∧∃v,(results fn a'.tmps).run P w'=.ok v w'∧∃v',∃ow κ,Ending.returned v=.returned v'∧ExitAt Γ m m' w' res v' ow κ:=by
  rintro τ ⟨ow,κ,hr'⟩ hR
  obtain⟨v,g1,ow',κ',g2⟩:=Ph hr' (fun i o o' h1 h2=>by
   have:=List.all_eq_true.1 hL' (i,o') (Mem.mem_of_get h2)
   simp only[h1,Option.isSome_some,Bool.not_true,Bool.false_or]at this
   exact List.contains_iff_mem.1 this) hR
  exact⟨hr'.defers,v,g1,v,ow',κ',rfl,⟨g2.res,g2.objs,g2.own,g2.os,g2.tape,g2.output,g2.size,g2.frame,g2.kap⟩⟩
 cases e with
 |normal=>obtain⟨τ,h1,h2⟩:=hq;exact fin τ h1 h2
 |ret=>obtain⟨τ,h1,h2⟩:=hq;exact fin τ h1 h2
 |exit id=>obtain⟨τ,h1,h2⟩:=hq;exact h2
 |goto l=>exact hq.elim
 |panic ch=>exact hq.elim
 |outgrown=>exact hq.elim
theorem AC.intro_spx (L:List Id) {f:FuncId}{fn:Func}{c:Code}{args:List AV}{m:Mem}{res:AV}{m':Mem}{n:Nat}(hm:P.follows .mixedOrders=true) (hf:P.funcs[f]? = some fn) (hb:fn.body=some c) (hn:fn.ntmps=n) (hl:args.length≤n)
  (hL:(L.all fun i=>(m.get i).isSome)=true) (hL':(m'.all fun p=>!(m.get p.1).isSome||L.contains p.1)=true)
  (h:awp P L c (fun e σ=>match e with
   | .exit _=>False
   |_=>F3 P fn m res m' σ) ⟨sp n (JF 0 args),m⟩):AC P f args m res m':=by
 refine AC.intro_ext L hm hf hb hL hL' ?_
 rw[hn,x9 hl]
 exact h
end
end
section
open Go.RowKit Go.Shelf
end
section
open Go.RowKit
theorem EU {k n:Int}{s:ByteArray}(h:AN k n s ByteArray.empty 0=0) (h6:k≠6):(V.mk k n s [] []).right:=by
 refine⟨⟨h,?_,trivial⟩,by simp[V.count,Ag],by simp[V.depth,AF]⟩
 unfold E0
 rw[if_neg h6]
theorem K2 {n:Int}(h:-1000000000000000≤n∧n≤1000000000000000):(Ar n).right:=by
 refine EU ?_ (by decide)
 unfold AN
 have h1:inB 3 0 6=true:=by decide
 have h2:inB n (-1000000000000000) 1000000000000000=true:=by unfold inB;simp;omega
 simp[h1,cF,cR,cT,B7,C7,h2,inB]
 omega
def a2r (b:Bool):V:=.mk (bif b then 2 else 1) 0 ByteArray.empty [] []
set_option maxRecDepth 10000
theorem Gp (ps:List V) (hc:(Ba ps).count≤500000):AC Tryz.prog 77 [.c (.sl ((ps.map V.enc).map A9))] [] (.c (.sl ((Ba ps).enc.map CellD.cs))) []:=by
 have h:=BU ps hc
 exact wAS (AC.says [] [(0,0)] h) q9
theorem XU {t:V}(hw:t.wf) (hc:t.count≤200) (i:Nat) (hi:i<t.kids.length):AC Tryz.prog 170 [Aq t.enc,.c (.int .i64 ((kp t.kids i:Nat):Int))] [] (.c (.sl (t.kids[i].enc.map CellD.cs))) []:=by
 refine AC.of_calls fun S w κ vs hv=>?_
 obtain⟨v,vs',rfl,h1,v2,vs2,rfl,h2,rfl⟩:=hv
 obtain⟨rfl,_⟩:=h2
 obtain⟨A,cap,rfl,hcap,hcs⟩:=Dn.1 h1
 refine (NX t hw hc i hi A cap hcap S w hcs).mono ?_
 rintro e w' ⟨⟨A',c',rfl,hc',hr⟩,hb⟩
 exact⟨hb,_,rfl,fun T _ hT=>Dn.2 ⟨A',c',rfl,hc',hr.weaken fun b hb _=>hT b hb⟩⟩
theorem Me {t:V}(hw:t.wf) (hc:t.count≤200):AC Tryz.prog 113 [Aq t.enc] [] (.own (0,0)) [((0,0),.row false 1 36 ((t.kids.map V.enc).map A9))]:=by
 have hkl:=B6 hc
 have hkn:=DU t t.kids.length
 have hch:=GG hw hc
 refine A5 Tryz.func113 Tryz.ntmps113 ?_
 refine A3 q9 ?_
 refine w9 (A6 [] hch) q9 ?_
 refine A3 q9 ?_
 refine AZ (κ:=Nat) (fun k=>⟨mkS 0 25 [(0,Aq t.enc),(3,.own (3,0)),(4,.c (.sl ((Cm t t.kids.length).map BT))),(5,.c (.int .i64 k))],
   [((3,0),.row false 1 36 (((t.kids.take k).map V.enc).map A9))]⟩)
  (fun k=>k≤t.kids.length) (fun k=>t.kids.length-k) 0 (Nat.zero_le _) ?_ ?_
 ·exact As (AH.of [((3,0),(6,0))] []) hkl
 ·intro k hk
  by_cases hlt:k<t.kids.length
  ·have hd:decide ((k:Int)<(t.kids.length:Int))=true:=by simpa using hlt
   have hw1:=AA (k:=k) (by omega)
   have h1:(((t.kids.take k).map V.enc).map A9).length+1≤1000000:=by simp;omega
   have hr1:Ae ((Cm t t.kids.length).map BT) 1 k=true:=by simp[Ae,Cm,hlt,BT]
   have hg1:((Cm t t.kids.length).map BT)[k]? = some [.int .i64 ((kp t.kids k:Nat):Int)]:=by simp[Cm,hlt,BT]
   have hp:=XU hw hc k hlt
   have hn:((t.kids.take k).map V.enc).map A9++[[.sl (t.kids[k].enc.map CellD.cs)]]=((t.kids.take (k+1)).map V.enc).map A9:=by rw[List.take_succ_eq_append_getElem hlt,List.map_append,List.map_append];rfl
   generalize hR:((t.kids.take k).map V.enc).map A9=R at *
   generalize hR2:((t.kids.take (k+1)).map V.enc).map A9=R2 at *
   generalize t.kids[k]=u at *
   refine A3 (j4 hd hkn hr1 hg1) ?_
   refine w9 (A6 [] hp) q9 ?_
   refine A3 (j2 h1 hw1) ?_
   refine⟨k+1,by omega,by omega,?_⟩
   exact As (AH.of [((3,0),(23,0))] []) (j2 hn hR2)
  ·have hd:decide ((k:Int)<(t.kids.length:Int))=false:=by simpa using hlt
   have hke:t.kids.take k=t.kids:=List.take_of_length_le (by omega)
   refine A3 (j2 hkn hd) ?_
   exact Ab (Aa [((0,0),(3,0))] []) Tryz.results113 hke
set_option maxRecDepth 10000
theorem Vh {t:V}(hw:t.wf) (hc:t.count≤200):AC Tryz.prog 114 [Aq t.enc] [] (.own (0,0)) [((0,0),.row false 1 9 ((Bo t t.kids.length).map Ac))]:=by
 have hkl:=B6 hc
 have hkn:=DU t t.kids.length
 have hch:=GG hw hc
 refine A5 Tryz.func114 Tryz.ntmps114 ?_
 refine A3 q9 ?_
 refine w9 (A6 [] hch) q9 ?_
 refine A3 q9 ?_
 refine AZ (κ:=Nat) (fun k=>⟨mkS 0 27 [(0,Aq t.enc),(3,.own (3,0)),(4,.c (.sl ((Cm t t.kids.length).map BT))),(5,.c (.int .i64 k))],
   [((3,0),.row false 1 9 ((Bo t k).map Ac))]⟩)
  (fun k=>k≤t.kids.length) (fun k=>t.kids.length-k) 0 (Nat.zero_le _) ?_ ?_
 ·(apply (AH.of [((3,0),(6,0))] []);(iterate 2 ((focus (simp only[go_sem,Nat.reduceEqDiff,Nat.reduceAdd,Nat.reduceSub,Nat.reduceLeDiff,Nat.reduceMul,Nat.reduceBEq,Nat.reduceLT,Int.reduceToNat,reduceCtorEq,Bo];try (and_intros<;>rfl)));(focus exact rfl)));(iterate 4 (focus (simp[go_sem,Bo];done))))
 ·intro k hk
  by_cases hlt:k<t.kids.length
  ·have hd:decide ((k:Int)<(t.kids.length:Int))=true:=by simpa using hlt
   have hw1:=AA (k:=k) (by omega)
   have h1:(Bo t k).length+1≤1000000:=by rw[JV];omega
   have hr1:Ae ((Cm t t.kids.length).map BT) 1 k=true:=by simp[Ae,Cm,hlt,BT]
   have hg1:((Cm t t.kids.length).map BT)[k]? = some [.int .i64 ((kp t.kids k:Nat):Int)]:=by simp[Cm,hlt,BT]
   have hg2:=Nu t hlt
   have hr2:Ae (t.enc.map CellD.cs) 5 ((kp t.kids k:Nat):Int)=true:=by unfold Ae;rw[Int.toNat_natCast,hg2];simp
   have hn:(Bo t k).map Ac++[[.str (t.keyAt k)]]=(Bo t (k+1)).map Ac:=by rw[Mb,List.map_append];rfl
   refine A3 (j8 hd hkn hr1 hg1 hr2 hg2 h1 hw1) ?_
   refine⟨k+1,by omega,by omega,?_⟩
   exact As (AH.of [((3,0),(25,0))] []) hn
  ·have hd:decide ((k:Int)<(t.kids.length:Int))=false:=by simpa using hlt
   have hke:k=t.kids.length:=by omega
   refine A3 (j2 hkn hd) ?_
   subst hke
   exact Ab (Aa [((0,0),(3,0))] []) Tryz.results114 hd
theorem PP (s:ByteArray):AC Tryz.prog 142 [.c (.str s)] [] (.c (.bool (AP s))) []:=by
 refine AC.of_calls fun S w κ vs hv=>?_
 obtain⟨v,vs',rfl,⟨rfl,_⟩,rfl⟩:=hv
 refine (NY s w).mono ?_
 rintro e w' ⟨rfl,rfl⟩
 exact⟨Below.refl _ _,_,rfl,fun T _ _=>⟨rfl,rfl⟩⟩
theorem Pm {v x:V}(h:v.right) (hx:x.right) (key:ByteArray) (hk:AP key=true):AC Tryz.prog 83 [Aq v.enc,.c (.str key),Aq x.enc] [] (vrA (Jf v key x)) []:=by
 have hv:=Lt v.enc x.enc
 have hb0:E4 v.enc x.enc=0:=by unfold E4;rw[Cz h,Cz hx];rfl
 rw[hb0]at hv
 have h00:((0:Int) != 0)=false:=rfl
 have ht:=PP key
 rw[hk]at ht
 have hr0:=Ez v
 have hg0:=AT v
 unfold Jf
 by_cases h6:v.kind=0∨v.kind=6
 ·rw[if_pos h6]
  obtain⟨hc1,hc2⟩:=RT h hx key h6
  have hobj:=Iw (v.keys++[key]) (v.kids++[x]) (by rw[List.length_append,List.length_append,LH h h6];rfl) (by omega)
  have htold:=PQ (EJ (v.keys++[key]) (v.kids++[x]))
  generalize EJ (v.keys++[key]) (v.kids++[x])=ob at *
  generalize M4 ob=r at *
  rcases h6 with hz | h6
  ·have hbz:(v.kind==0)=true:=by simpa using hz
   rw[(DO h hz).1,(DO h hz).2]at hobj
   simp only[List.nil_append,List.map_cons,List.map_nil,Ac,A9]at hobj
   rcases r with⟨c,_ | u⟩
   all_goals
    simp only[C3,C2]at htold ⊢
    refine A5 Tryz.func83 Tryz.ntmps83 ?_
    refine A3 q9 ?_
    refine w7 (A8 [] hv) q9 ?_
    refine A3 h00 ?_
    refine w7 (A8 [] ht) q9 ?_
    refine A3 (j3 hr0 hg0 hbz) ?_
    refine w12 (HM [(26,0),(28,0)] hobj) q9 ?_
    refine w9 (A6 [(29,0)] htold) q9 ?_
    refine A3 q9 ?_
    exact AL (Ad []) Tryz.results83
  ·have hbz:(v.kind==0)=false:=by simp[h6]
   have hb6:(v.kind==6)=true:=by simpa using h6
   have hkO:=Vh h.1 h.2.1
   rw[show Bo v v.kids.length=v.keys from ES h h6]at hkO
   have hpO:=Me h.1 h.2.1
   have hkl:=H7 h
   have hl1:v.keys.length+1≤1000000:=by omega
   have hl2:v.kids.length+1≤1000000:=by omega
   obtain⟨K,hK⟩:∃K,v.keys++[key]=K:=⟨_,rfl⟩
   obtain⟨L,hL⟩:∃L,v.kids++[x]=L:=⟨_,rfl⟩
   have e1:v.keys.map Ac++[[C.str key]]=K.map Ac:=by rw[←hK,List.map_append];rfl
   have e2:(v.kids.map V.enc).map A9++[[C.sl (x.enc.map CellD.cs)]]=(L.map V.enc).map A9:=by rw[←hL,List.map_append,List.map_append];rfl
   rw[hK,hL]at hobj
   rcases r with⟨c,_ | u⟩
   all_goals
    simp only[C3,C2]at htold ⊢
    refine A5 Tryz.func83 Tryz.ntmps83 ?_
    refine A3 q9 ?_
    refine w7 (A8 [] hv) q9 ?_
    refine A3 h00 ?_
    refine w7 (A8 [] ht) q9 ?_
    refine A3 (j4 hr0 hg0 hbz hb6) ?_
    refine w12 (Au [] hkO) q9 ?_
    refine A3 (j2 hl1 e1) ?_
    refine w12 (Au [] hpO) q9 ?_
    refine A3 (j2 hl2 e2) ?_
    refine w12 (HM [(37,0),(42,0)] hobj) (j2 e1 e2) ?_
    refine w9 (A6 [(43,0)] htold) q9 ?_
    refine A3 q9 ?_
    exact AL (Ad []) Tryz.results83
 ·rw[if_neg h6]
  have hbz:(v.kind==0)=false:=by simp;omega
  have hb6:(v.kind==6)=false:=by simp;omega
  rw[FB]
  refine A5 Tryz.func83 Tryz.ntmps83 ?_
  refine A3 q9 ?_
  refine w7 (A8 [] hv) q9 ?_
  refine A3 h00 ?_
  refine w7 (A8 [] ht) q9 ?_
  refine A3 (j4 hr0 hg0 hbz hb6) ?_
  refine w7 (A8 [] (DJ 6)) q9 ?_
  refine A3 q9 ?_
  exact AL (Ad []) Tryz.results83
set_option maxRecDepth 10000
theorem Mc (n:Int) (m:Nat) (hn:-1000000000000000≤n∧n≤1000000000000000) (hm:m≤1000000):AC Tryz.prog 139 [.c (.int .i64 n),.c (.int .i64 m)] [] (.c (.int .i64 (BQ n m))) []:=by
 unfold BQ
 by_cases h:n<0
 ·have hd:decide (n<0)=true:=by simpa using h
  have hw:IntKind.i64.wrap (n+(m:Int))=n+(m:Int):=IntWalk.i64_in _ (by omega)
  rw[if_pos h]
  refine A5 Tryz.func139 Tryz.ntmps139 ?_
  refine A3 (j2 hd hw) ?_
  exact AL (Ad []) Tryz.results139
 ·have hd:decide (n<0)=false:=by simpa using h
  rw[if_neg h]
  refine A5 Tryz.func139 Tryz.ntmps139 ?_
  refine A3 hd ?_
  exact AL (Ad []) Tryz.results139
theorem p9 (v:V) (n:Nat):∃L:Nat→List V,L 0=v.kids∧(∀j,(L j).length=v.kids.length+j)∧L (n+1-v.kids.length)=Jm v.kids n∧∀j,L (j+1)=L j++[BA]:=by
 refine⟨fun j=>v.kids++List.replicate j BA,by simp,fun j=>by rw[List.length_append,List.length_replicate],rfl,fun j=>?_⟩
 dsimp only
 rw[List.replicate_succ',List.append_assoc]
set_option maxRecDepth 10000
theorem NT {v x:V}(hv:v.right) (k:V) (hk:k.right) (p:List V) (f:V→Int×Option V)
  (hf:∀w,w.right→G5 (f w)) (hrec:∀w,w.right→AC Tryz.prog 43 [Aq w.enc,.c (.sl ((p.map V.enc).map A9)),Aq x.enc] [] (vrA (f w)) []) :
  AC Tryz.prog 81 [Aq v.enc,.c (.int .i64 k.num),.c (.sl ((p.map V.enc).map A9)),Aq x.enc] [] (vrA (KP v k.num f)) []:=by
 have hkl:=B6 hv.2.1
 have hnum:=FI hk
 have hcn:=Mc k.num v.kids.length hnum (by omega)
 have hr0:=Ez v
 have hg0:=AT v
 unfold KP
 by_cases h5:v.kind=5∨v.kind=0
 ·rw[if_pos h5]
  obtain⟨m,hm⟩:∃m,BQ k.num v.kids.length=m:=⟨_,rfl⟩
  rw[hm]at hcn ⊢
  have hpO:=Me hv.1 hv.2.1
  by_cases hneg:m<0
  ·rw[if_pos hneg,FB]
   have hd:decide (m<0)=true:=by simpa using hneg
   rcases h5 with h5 | h5
   ·have hb5:(v.kind != 5)=false:=by simpa using h5
    have he5:(v.kind==5)=true:=by simpa using h5
    refine A5 Tryz.func81 Tryz.ntmps81 ?_
    refine A3 (j4 hr0 hg0 hb5 he5) ?_
    refine w12 (Au [] hpO) q9 ?_
    refine A3 q9 ?_
    refine w7 (A8 [] hcn) q9 ?_
    refine A3 hd ?_
    refine w7 (A8 [] (DJ 3)) q9 ?_
    refine A3 q9 ?_
    exact AL (Ad []) Tryz.results81
   ·have hb5:(v.kind != 5)=true:=by simp[h5]
    have hb0:(v.kind != 0)=false:=by simpa using h5
    have he5:(v.kind==5)=false:=by simp[h5]
    rw[(DO hv h5).2]at hcn
    simp only[List.length_nil]at hcn
    refine A5 Tryz.func81 Tryz.ntmps81 ?_
    refine A3 (j5 hr0 hg0 hb5 hb0 he5) ?_
    refine w7 (A8 [] hcn) q9 ?_
    refine A3 hd ?_
    refine w7 (A8 [] (DJ 3)) q9 ?_
    refine A3 q9 ?_
    exact AL (Ad []) Tryz.results81
  ·rw[if_neg hneg]
   have hd:decide (m<0)=false:=by simpa using hneg
   by_cases hbig:m≥200
   ·rw[if_pos hbig,FB]
    have hd2:decide (m≥200)=true:=by simpa using hbig
    rcases h5 with h5 | h5
    ·have hb5:(v.kind != 5)=false:=by simpa using h5
     have he5:(v.kind==5)=true:=by simpa using h5
     refine A5 Tryz.func81 Tryz.ntmps81 ?_
     refine A3 (j4 hr0 hg0 hb5 he5) ?_
     refine w12 (Au [] hpO) q9 ?_
     refine A3 q9 ?_
     refine w7 (A8 [] hcn) q9 ?_
     refine A3 (j2 hd hd2) ?_
     refine w7 (A8 [] (DJ 2)) q9 ?_
     refine A3 q9 ?_
     exact AL (Ad []) Tryz.results81
    ·have hb5:(v.kind != 5)=true:=by simp[h5]
     have hb0:(v.kind != 0)=false:=by simpa using h5
     have he5:(v.kind==5)=false:=by simp[h5]
     rw[(DO hv h5).2]at hcn
     simp only[List.length_nil]at hcn
     refine A5 Tryz.func81 Tryz.ntmps81 ?_
     refine A3 (j5 hr0 hg0 hb5 hb0 he5) ?_
     refine w7 (A8 [] hcn) q9 ?_
     refine A3 (j2 hd hd2) ?_
     refine w7 (A8 [] (DJ 2)) q9 ?_
     refine A3 q9 ?_
     exact AL (Ad []) Tryz.results81
   ·rw[if_neg hbig]
    have hd2:decide (m≥200)=false:=by simpa using hbig
    obtain⟨n,rfl⟩:∃n:Nat,m=n:=⟨m.toNat,by omega⟩
    rw[Int.toNat_natCast]
    obtain⟨L,hL0,hLl,hLe,hLs⟩:=p9 v n
    have hpr:=LB (kids:=v.kids) (fun z hz=>AQ hv hz) n
    have hpl:=X2 v.kids n
    have hcnt:=fun {r:V} (hr:r.right)=>RS hv hr (n:=n) (by omega)
    generalize Jm v.kids n=Q at *
    have hnl:n<Q.length:=by omega
    have hwD:Q.getD n BA=Q[n]:=by rw[List.getD_eq_getElem?_getD,List.getElem?_eq_getElem hnl];rfl
    rw[hwD]
    have hwr:=hpr Q[n] (List.getElem_mem hnl)
    have hrc:=hrec Q[n] hwr
    have hok:=hf Q[n] hwr
    have hnr:Ae ((Q.map V.enc).map A9) 1 n=true:=by simp[Ae,hnl,A9]
    have hng:((Q.map V.enc).map A9)[n]? = some [.sl (Q[n].enc.map CellD.cs)]:=by simp[hnl,A9]
    generalize f Q[n]=r at *
    generalize Q[n]=w at *
    generalize hres:n8 r _=res
    have hl3:=HA
    rcases h5 with h5 | h5
    case' inl =>
     have hb5:(v.kind != 5)=false:=by simpa using h5
     have he5:(v.kind==5)=true:=by simpa using h5
     refine A5 Tryz.func81 Tryz.ntmps81 ?_
     refine A3 (j4 hr0 hg0 hb5 he5) ?_
     refine w12 (Au [] hpO) q9 ?_
     refine A3 q9 ?_
     refine w7 (A8 [] hcn) q9 ?_
     refine A3 (j2 hd hd2) ?_
    case' inr =>
     have hb5:(v.kind != 5)=true:=by simp[h5]
     have hb0:(v.kind != 0)=false:=by simpa using h5
     have he5:(v.kind==5)=false:=by simp[h5]
     have hk0:=(DO hv h5).2
     rw[hk0]at hcn hL0
     simp only[List.length_nil]at hcn
     refine A5 Tryz.func81 Tryz.ntmps81 ?_
     refine A3 (j5 hr0 hg0 hb5 hb0 he5) ?_
     refine w7 (A8 [] hcn) q9 ?_
     refine A3 (j2 hd hd2) ?_
    all_goals
     refine AZ (κ:=Nat) (fun j=>⟨mkS 0 69 [(1,.c (.int .i64 n)),(2,.c (.sl ((p.map V.enc).map A9))),(3,Aq x.enc),(8,.ptr (8,0) 0),(9,.own (95,0))],
       [((8,0),.box [.c (.int .i64 0),.nils]),((95,0),.row false 1 36 (((L j).map V.enc).map A9))]⟩)
      (fun j=>j≤n+1-v.kids.length) (fun j=>n+1-v.kids.length-j) 0 (Nat.zero_le _) ?_ ?_
     ·first
      |exact As (AH.of [((8,0),(8,0)),((95,0),(31,0))] []) hL0
      |exact As (AH.of [((8,0),(8,0)),((95,0),(24,0))] []) (j2 hL0 @List.map_nil.{0,0})
     ·intro j hj
      have hLm:(((L j).map V.enc).map A9).length=(L j).length:=by simp
      by_cases hlt:v.kids.length+j≤n
      ·have hd3:decide (((L j).length:Int)≤(n:Int))=true:=by rw[hLl];simp;omega
       have hl1:(L j).length+1≤1000000:=by rw[hLl];omega
       have hn1:((L j).map V.enc).map A9++[[.sl (BA.enc.map CellD.cs)]]=((L (j+1)).map V.enc).map A9:=by rw[hLs,List.map_append,List.map_append];rfl
       generalize BA.enc.map CellD.cs=nc at *
       refine A3 (j2 hLm hd3) ?_
       refine w9 (A6 [] hl3) q9 ?_
       refine A3 (j2 hLm hl1) ?_
       refine⟨j+1,by omega,by omega,?_⟩
       exact As (AH.of [((8,0),(8,0)),((95,0),(49,0))] []) hn1
      ·have hje:L j=Q:=by rw[show j=n+1-v.kids.length by omega];exact hLe
       have hd3:decide (((L j).length:Int)≤(n:Int))=false:=by rw[hLl];simp;omega
       rw[hje]at hLm hd3 ⊢
       rcases r with⟨c,_ | u⟩
       ·have hc:(c != 0)=true:=by simpa using (show c≠0 from hok)
        have hres:(c,none)=res:=hres
        subst hres
        simp only[C2]at hrc ⊢
        refine A3 (j4 hLm hd3 hnr hng) ?_
        refine w9 (A6 [] hrc) q9 ?_
        refine A3 hc ?_
        exact AL (Ad []) Tryz.results81
       ·obtain⟨h0,hu⟩:=hok
        have hres:M4 (Ba (Q.set n u))=res:=hres
        have h00:((0:Int) != 0)=false:=rfl
        have hay:=Gp (Q.set n u) (by have:=hcnt hu;omega)
        have htd:=PQ (Ba (Q.set n u))
        have hset:((Q.map V.enc).map A9).set n [.sl (u.enc.map CellD.cs)]=((Q.set n u).map V.enc).map A9:=by rw[List.map_set,List.map_set];rfl
        simp only[C3]at hrc
        generalize Q.set n u=R at *
        rw[hres]at htd
        generalize Ba R=ar at *
        rcases res with⟨c2,_ | y⟩
        all_goals
         simp only[C3,C2]at htd ⊢
         refine A3 (j4 hLm hd3 hnr hng) ?_
         refine w9 (A6 [] hrc) q9 ?_
         refine A3 (j4 h00 hnr hng hset) ?_
         refine w9 (A6 [(95,0)] hay) hset ?_
         refine w9 (A6 [] htd) q9 ?_
         refine A3 q9 ?_
         exact AL (Ad []) Tryz.results81
 ·rw[if_neg h5,FB]
  have hb5:(v.kind != 5)=true:=by simp;omega
  have hb0:(v.kind != 0)=true:=by simp;omega
  refine A5 Tryz.func81 Tryz.ntmps81 ?_
  refine A3 (j4 hr0 hg0 hb5 hb0) ?_
  refine w7 (A8 [] (DJ 6)) q9 ?_
  refine A3 q9 ?_
  exact AL (Ad []) Tryz.results81
theorem Lq {x:V}(hx:x.right):∀(P:List V),P.length≤1000000→(∀k∈P,k.right∧(k.kind=3∨k.kind=4))→∀(v:V),v.right→AC Tryz.prog 43 [Aq v.enc,.c (.sl ((P.map V.enc).map A9)),Aq x.enc] [] (vrA (CD x P v)) []
 | [],_,_,v,hv=>by
  have hel:=Bb x
  have hxc:=hx.2.1
  have hall:=IS x.enc
  have hb0:0+x.enc.length≤1000000:=by omega
  have hz0:((0:Int)==0)=true:=rfl
  have hz1:(((0:Nat):Int)==0)=true:=rfl
  show AC _ _ _ _ (vrA (okR x)) _
  rw[Fq]
  refine A5 Tryz.func43 Tryz.ntmps43 ?_
  refine A3 (j4 hz0 hz1 hall hb0) ?_
  exact Ab (Aa [] [(15,0)]) Tryz.results43 hel
 |k::p,hl,hp,v,hv=>by
  have hpl:p.length≤1000000:=by simp only[List.length_cons]at hl;omega
  have hpp:∀y∈p,y.right∧(y.kind=3∨y.kind=4):=fun y hy=>hp y (by simp[hy])
  obtain⟨hk,hkk⟩:=hp k (by simp)
  have ih:=Lq hx p hpl hpp
  have ok:=Ge hx p hpp
  have hP1:Ae (((k::p).map V.enc).map A9) 1 0=true:=by simp[Ae,A9]
  have hP2:(((k::p).map V.enc).map A9)[0]? = some [.sl (k.enc.map CellD.cs)]:=rfl
  have hP3:1≤(k::p).length:=by simp
  have hP4:((((k::p).map V.enc).map A9).take (k::p).length).drop 1=(p.map V.enc).map A9:=by
   rw[List.take_of_length_le (by rw[List.length_map,List.length_map];exact Nat.le_refl _)]
   rfl
  have hP5:(((k::p).length:Int)==0)=false:=by simp;omega
  have hel:=NT (x:=x) hv k hk p (CD x p) ok ih
  have hgk:=Td hv k.text
  have hok:=Ll hv k.text
  have hkr:=Ez k
  have hkg:=AT k
  unfold CD
  generalize hPP:k::p=P at *
  have hPl:((P.map V.enc).map A9).length=P.length:=by simp
  have hPa:=GP (P.map V.enc)
  have h01:Hl 0 (some (AV.c (C.int IntKind.i64 1)))=some 1:=rfl
  have h00:((0:Int) != 0)=false:=rfl
  by_cases h3:k.kind=3
  ·have hb3:(k.kind==3)=true:=by simpa using h3
   rw[if_pos h3]
   generalize KP v k.num (CD x p)=r at *
   rcases r with⟨c,_ | u⟩
   all_goals
    simp only[C3,C2]at hel ⊢
    refine A5 Tryz.func43 Tryz.ntmps43 ?_
    refine A3 (j12 hPl hP5 hP1 hP2 hkr hkg hb3 hP3 hP4 h01 hPa @Nat.le_refl) ?_
    refine w9 (A6 [] hel) q9 ?_
    refine A3 q9 ?_
    exact AL (Ad []) Tryz.results43
  ·have hb3:(k.kind==3)=false:=by simpa using h3
   rw[if_neg h3]
   generalize Di v k.text=g at *
   rcases g with⟨c,_ | w⟩
   ·have hc:(c != 0)=true:=by simpa using (show c≠0 from hok)
    simp only[C2]at hgk ⊢
    refine A5 Tryz.func43 Tryz.ntmps43 ?_
    refine A3 (j7 hPl hP5 hP1 hP2 hkr hkg hb3) ?_
    refine w9 (A6 [] hgk) q9 ?_
    refine A3 hc ?_
    exact AL (Ad []) Tryz.results43
   ·have hw:w.right:=hok.2
    have hih:=ih w hw
    have hok2:=ok w hw
    dsimp only
    simp only[C3]at hgk
    generalize CD x p w=q at *
    rcases q with⟨c,_ | u⟩
    ·have hc:(c != 0)=true:=by simpa using (show c≠0 from hok2)
     simp only[C2]at hih ⊢
     refine A5 Tryz.func43 Tryz.ntmps43 ?_
     refine A3 (j7 hPl hP5 hP1 hP2 hkr hkg hb3) ?_
     refine w9 (A6 [] hgk) q9 ?_
     refine A3 (j7 h00 hPl hP3 hP4 h01 hPa @Nat.le_refl) ?_
     refine w9 (A6 [] hih) q9 ?_
     refine A3 hc ?_
     exact AL (Ad []) Tryz.results43
    ·have hsk:=Pm hv hok2.2 k.text (F0 hk)
     dsimp only
     simp only[C3]at hih
     generalize Jf v k.text u=z at *
     rcases z with⟨c,_ | y⟩
     all_goals
      simp only[C3,C2]at hsk ⊢
      refine A5 Tryz.func43 Tryz.ntmps43 ?_
      refine A3 (j7 hPl hP5 hP1 hP2 hkr hkg hb3) ?_
      refine w9 (A6 [] hgk) q9 ?_
      refine A3 (j7 h00 hPl hP3 hP4 h01 hPa @Nat.le_refl) ?_
      refine w9 (A6 [] hih) q9 ?_
      refine A3 h00 ?_
      refine w9 (A6 [] hsk) q9 ?_
      refine A3 q9 ?_
      exact AL (Ad []) Tryz.results43
set_option maxRecDepth 10000
theorem Ub (b:Bool):AC Tryz.prog 172 [.c (.bool b)] [] (a2r b).av []:=by
 cases b
 all_goals
  refine A5 Tryz.func172 Tryz.ntmps172 ?_
  refine A3 q9 ?_
  exact Ad [] (by simp only[Tryz.results172,go_sem,Nat.reduceBEq,Nat.reduceLT];exact rfl) (by simp only[go_sem,Nat.reduceEqDiff,Nat.reduceAdd,Nat.reduceSub,Nat.reduceLeDiff,Nat.reduceMul,Nat.reduceBEq,Nat.reduceLT,Int.reduceToNat,reduceCtorEq,a2r,cond_true,cond_false,V.kind,V.num,V.text,V.keys,V.kids,List.map_nil]) rfl
set_option maxRecDepth 10000
def Iy (p:List V):Prop:=∀q∈p,q.count=1∧q.neat
theorem XY {p:List V}(h:Iy p) (k:ByteArray):Iy (p++[C6 k]):=fun q hq=>by
 rcases List.mem_append.1 hq with hq | hq
 ·exact h q hq
 ·rw[List.mem_singleton.1 hq];exact⟨by simp[C6,V.count,Ag],by simp[C6,V.neat,O8]⟩
theorem Lw {p:List V}(h:Iy p) (n:Int):Iy (p++[Ar n]):=fun q hq=>by
 rcases List.mem_append.1 hq with hq | hq
 ·exact h q hq
 ·rw[List.mem_singleton.1 hq];exact⟨by simp[Ar,V.count,Ag],by simp[Ar,V.neat,O8]⟩
theorem Mh:∀{p:List V},Iy p→Ag p=p.length
 | [],_=>rfl
 |x::p,h=>by
  have h1:=Mh (p:=p) fun q hq=>h q (List.mem_cons_of_mem _ hq)
  have h2:=(h x (by simp)).1
  simp only[Ag,List.length_cons]
  omega
theorem J5 {p:List V}(h:Iy p):(Ba p).count=p.length+1:=by
 have:=Mh h
 rw[AK]
 show Ag p+1=_
 omega
abbrev dM (es:List EditD) (a b:V) (r:Mem):Mem:=((0,0),.box [.own (99,0)])::((99,0),.row true 3 53 (es.map EditD.ox)) ::
 ((6,0),.box [.c (.int .i64 a.kind),.c (.int .i64 a.num),.c (.str a.text),.c (.sl (a.keys.map Ac)),.c (.sl (a.kids.map V.cs))]) ::
 ((7,0),.box [.c (.int .i64 b.kind),.c (.int .i64 b.num),.c (.str b.text),.c (.sl (b.keys.map Ac)),.c (.sl (b.kids.map V.cs))])::r
attribute [go_sem] dM
set_option maxRecDepth 10000
theorem Wk (l:List (List CellD)):((l.map G6).all fun r=>r.length==1)=true:=by simp[G6]
attribute [go_sem] Wk
set_option maxRecDepth 10000
theorem Fx (ahead:List V) (q:V) (hl:ahead.length≤500000):AC Tryz.prog 267 [.c (.sl ((ahead.map V.enc).map A9)),.c (.sl (q.enc.map CellD.cs))] [] (.c (.sl (((ahead++[q]).map V.enc).map A9))) []:=by
 have h1:0+ahead.length≤1000000:=by omega
 have h2:ahead.length+1≤1000000:=by omega
 have hk:=NQ ahead q
 refine A5 Tryz.func267 Tryz.ntmps267 ?_
 refine A3 (j2 h1 h2) ?_
 exact Ab (Aa [] [(10,0)]) Tryz.results267 hk
def a03 (ahead:List V) (e:Ev):Ev:=(ahead++e.1,e.2)
def a08 (ahead:List V) (l:List Ev):List (List C):=((l.map (a03 ahead)).map fun e=>(evV e).enc).map G6
theorem SK (ahead:List V) (l:List Ev):(a08 ahead l).length=l.length:=by simp[a08]
theorem SJ (ahead:List V) (l:List Ev):BN (a08 ahead l)=true:=Nb _
theorem Zx (ahead:List V) (l:List Ev):((a08 ahead l).all fun r=>r.length==1)=true:=Wk _
attribute [go_sem] SK SJ Zx
end
end Go.Proofs.YtllfmaflodbieaaGreatDoor
