/- Texts of this proof: K15 K16 K08. -/
import Derived.Test.YtcejfdfmgmcinaaGreatKM62uK14
set_option linter.all false
set_option maxHeartbeats 8000000
namespace Go.Proofs.YtcejfdfmgmcinaaGreat
section
open Go.RowKit Go.Shelf
attribute [local go_sem] Oper.semAt_some
theorem Zw {c:Int}(h0:0≤c) (h1:c≤1000):wrap64 (c-1)=c-1:=by
 unfold wrap64
 omega
theorem Pr {f:Nat→Int}(hf:∀k:Nat,f k≤k):∀(xs:List Int) (b:Int),0≤b→BY f xs b≤b
 | [],b,_=>by unfold BY;exact Int.le_refl _
 |o::r,b,hb=>by
  unfold BY
  split
  ·omega
  ·rename_i h1
   split
   ·omega
   ·rename_i h2
    have h3:=Pr hf r (f o.toNat) (by omega)
    have h4:=hf o.toNat
    omega
theorem Pp (L:List CoD):∀(n i:Nat),C0 L n i≤i
 | 0,i=>by unfold C0;omega
 |n+1,i=>by
  unfold C0
  split
  ·exact Pr (Pp L n) _ _ (by omega)
  ·omega
set_option maxRecDepth 100000 in
theorem Is {L:List CoD}(hL:∀(k:Nat) (h:k<L.length),CoOk L[k] k) (hlen:L.length≤1000) (S:Nat→Prop) (A:Option Addr) (cap:Nat):∀(n i:Nat),i<n→i<L.length→∀(w:World),Hv w S A L →
  Calls Tryz.prog 137 #[.slice A L.length cap,.int .i64 i] w fun e w'=>e=.returned (.int .i64 (C0 L n i))∧Below w.heap.size w w'
 | 0,i,h,_,_,_=>absurd h (Nat.not_lt_zero _)
 |n+1,i,hin,hi,w,hc=>by
  have IH:=Is hL hlen S A cap n
  obtain⟨b,off,Av,cv,rfl,hbl,⟨c0,c1,c2,c3,c4,c5⟩,hv⟩:=hc.node hi
  have hok:=hL i hi
  obtain⟨d,hd⟩:∃d,L[i]=d:=⟨_,rfl⟩
  have hbc:C0 L (n+1) i=BY (C0 L n) d.named.reverse i:=by
   conv=>lhs;unfold C0
   rw[List.getElem?_eq_getElem hi,hd]
  rw[hbc]
  rw[hd]at c0 c1 c2 c3 c4 c5 hv hok
  clear hbc hd
  have hN:∀(w3:World),Below w.heap.size w w3→Calls Tryz.prog 191 #[.agg #[.int .i64 d.op,.int .i64 d.a,.int .i64 d.b,.int .i64 d.c,.int .i64 d.num,.slice Av d.val.length cv]] w3 fun e w4 =>
    Below w3.heap.size w3 w4∧∃A2 cap2 b2,e=.returned (.slice A2 d.named.length cap2)∧(d.named=[]∨(w3.heap.size≤b2∧b2<w4.heap.size))∧JT b2 w4 A2 d.named:=fun w3 hw=>by
   refine ((O8 d hok.op.1 hok.op.2).calls_row (S:=S) (vals:=[.agg #[.int .i64 d.op,.int .i64 d.a,.int .i64 d.b,.int .i64 d.c,.int .i64 d.num,.slice Av d.val.length cv]]) fun T hT κ=>YC hv hw hT).mono ?_
   rintro e w4 ⟨hb4,v,T,vrows,bs,rfl,h1,h2,h3⟩
   have h4:=t8 _ h1
   subst h4
   rw[XJ,List.length_map]at h3
   obtain⟨A2,cap2,b2,rfl,h5,h6⟩:=a2g h3
   exact⟨hb4,A2,cap2,b2,rfl,h5,h6⟩
  obtain⟨zs,hzs⟩:∃zs,zs=d.named:=⟨_,rfl⟩
  have hah:=hok.ahead
  have hzl:zs.length≤3:=by rw[hzs,CoD.named_len];exact Bx _
  rw[←hzs]at hah hN ⊢
  clear hok hv hzs
  obtain⟨f,hf⟩:∃f,f=C0 L n:=⟨_,rfl⟩
  have hfle:∀k:Nat,f k≤k:=by rw[hf];exact Pp L n
  have hfle:=Lib.hid hfle
  rw[←hf]at IH ⊢
  clear hf
  refine (callsIn_wide (n:=6)).1 ?_
  refine callsIn_of_wp_marks Tryz.func137 rfl trivial ?_ rfl
  simp only[Tryz.ntmps137,List.size_toArray,List.length_cons,List.length_nil,Nat.reduceAdd,Nat.reduceSub,Array.replicate_succ,Array.replicate_zero,List.push_toArray,List.append_toArray,List.nil_append,List.cons_append]
  have hW:Below w.heap.size w (((w.alloc (.cells #[.slice (some ⟨b,off,none⟩) L.length cap] 24)).alloc (.cells #[.int .i64 0] 2)).alloc (.cells #[.int .i64 i] 2)) :=
   (((Below.refl _ w).alloc (Nat.le_refl _) _).alloc (by simp) _).alloc (by simp;omega) _
  have e0:=(hW.cell (p:=⟨b,off+i*6,none⟩) hbl).trans c0
  have e1:=(hW.cell (p:=⟨b,off+i*6+1,none⟩) hbl).trans c1
  have e2:=(hW.cell (p:=⟨b,off+i*6+2,none⟩) hbl).trans c2
  have e3:=(hW.cell (p:=⟨b,off+i*6+3,none⟩) hbl).trans c3
  have e4:=(hW.cell (p:=⟨b,off+i*6+4,none⟩) hbl).trans c4
  have e5:=(hW.cell (p:=⟨b,off+i*6+5,none⟩) hbl).trans c5
  have hN:=hN _ hW
  clear c0 c1 c2 c3 c4 c5
  gi_wp2_with (first
   | (refine⟨trivial,?_⟩;gi_at_call 191;refine (callsIn_wide.2 hN).mono ?_;rintro e w4 ⟨hb4,A2,cap2,b2,rfl,hq,hI⟩)
   | (refine⟨trivial,?_⟩;gi_at_call 219;refine (Se _ _ trivial rfl _ _ _ _).mono ?_;rintro e w5 ⟨rfl,rfl⟩))
  obtain⟨W3,hW3⟩:∃W3,(((w.alloc (.cells #[.slice (some ⟨b,off,none⟩) L.length cap] 24)).alloc (.cells #[.int .i64 0] 2)).alloc (.cells #[.int .i64 i] 2))=W3:=⟨_,rfl⟩
  have hs3:W3.heap.size=w.heap.size+3:=by rw[←hW3];simp
  have b0:Boxed W3 w.heap.size 24 (.slice (some ⟨b,off,none⟩) L.length cap):=by rw[←hW3];exact ((Boxed.new w _ _).alloc _).alloc _
  have b1:Boxed W3 (w.heap.size+1) 2 (.int .i64 0):=by
   rw[←hW3]
   have:=(Boxed.new (w.alloc (.cells #[.slice (some ⟨b,off,none⟩) L.length cap] 24)) 2 (.int .i64 0)).alloc (.cells #[.int .i64 i] 2)
   rwa [World.size_alloc]at this
  have b2':Boxed W3 (w.heap.size+1+1) 2 (.int .i64 i):=by
   rw[←hW3]
   have:=Boxed.new ((w.alloc (.cells #[.slice (some ⟨b,off,none⟩) L.length cap] 24)).alloc (.cells #[.int .i64 0] 2)) 2 (.int .i64 i)
   rwa [World.size_alloc,World.size_alloc]at this
  rw[hW3]at hW hb4 hq
  clear hN e0 e1 e2 e3 e4 e5
  obtain⟨W5,hW5⟩:∃W5,w4.alloc (.cells #[.slice A2 zs.length cap2] 34)=W5:=⟨_,rfl⟩
  have hs4:=hb4.size
  have hs5:W5.heap.size=w4.heap.size+1:=by rw[←hW5];simp
  have h35:Below W3.heap.size W3 W5:=by rw[←hW5];exact hb4.alloc hb4.size _
  have hB5:Below w.heap.size w W5:=hW.trans (h35.mono hW.size)
  have bS:Boxed W5 w4.heap.size 34 (.slice A2 zs.length cap2):=by rw[←hW5];exact Boxed.new _ _ _
  have c0:Boxed W5 w.heap.size 24 (.slice (some ⟨b,off,none⟩) L.length cap):=(h35.block _ b0.lt).trans b0
  have c1:Boxed W5 (w.heap.size+1) 2 (.int .i64 0):=(h35.block _ b1.lt).trans b1
  have c2:Boxed W5 (w.heap.size+1+1) 2 (.int .i64 i):=(h35.block _ b2'.lt).trans b2'
  obtain⟨b3,hb3,hb3',hI3⟩:∃b3,W3.heap.size≤b3∧b3<W5.heap.size∧JT b3 W5 A2 zs:=by
   rcases hq with hq | ⟨hq1,hq2⟩
   ·exact⟨w4.heap.size,hs4,by omega,.inl hq⟩
   ·exact⟨b2,hq1,by omega,hI.keep (by rw[←hW5];exact Below.heap_alloc _ _ _ hq2)⟩
  rw[hW5]
  clear hI hq b0 b1 b2' hb4
  refine wpIn_rangeFunc_ownG rfl (by omega) (gf:=286) (lb:=#[.pointer (some ⟨w4.heap.size,0,none⟩)]) rfl trivial (enters_of Tryz.func286 (by kernel_rfl) rfl)
   (Uo Fence.wide 5 trivial rfl (by omega) w4.heap.size b3 A2 cap2 zs (by omega) W5 (by omega) hb3' bS.cell hI3) KB.trans (KB.put (w:=W5) (by omega) hb3') (Below.refl _ _) (fun _=>rfl)
   (fun pre W=>((∃c:Int,(0≤c∧c≤i∧∀r,BY f (pre.map (fun x=>x.1.2)++r) i=BY f r c)∧Boxed W (w.heap.size+1+1) 2 (.int .i64 c))∧Boxed W w.heap.size 24 (.slice (some ⟨b,off,none⟩) L.length cap)∧Boxed W (w.heap.size+1) 2 (.int .i64 0)∧W5.heap.size≤W.heap.size)∧Below w.heap.size w W)
   (fun c pre W=>((c=.ret∧∀r,BY f (pre.map (fun x=>x.1.2)++r) i = -1)∧Boxed W (w.heap.size+1) 2 (.int .i64 (-1)))∧Below w.heap.size w W)
   (OwnFrom.and (Own.from (fun s A B row hs hg hr=>by
    obtain⟨⟨c,h1,h2⟩,h3,h4,h5⟩:=hs
    exact⟨⟨c,h1,boxed_own _ _ (fun _:Unit=>.int .i64 c) () A B row h2 hg hr⟩,boxed_own _ _ (fun _:Unit=>_) () A B row h3 hg hr,boxed_own _ _ (fun _:Unit=>_) () A B row h4 hg hr,Nat.le_trans h5 hg.size⟩) _) (ownFrom_below (Nat.le_refl _) hB5.size))
   (fun c=>OwnFrom.and (Own.from (fun s A B row hs hg hr=>⟨hs.1,boxed_own _ _ (fun _:Unit=>_) () A B row hs.2 hg hr⟩) _) (ownFrom_below (Nat.le_refl _) hB5.size))
   ⟨⟨⟨i,⟨by omega,by omega,fun r=>rfl⟩,c2⟩,c0,c1,Nat.le_refl _⟩,hB5⟩
   (fun x=>{ tmps:=#[.slice (some ⟨b,off,none⟩) L.length cap,.int .i64 i,.pointer (some ⟨w.heap.size,0,none⟩),undef,.pointer (some ⟨w.heap.size+1,0,none⟩),.pointer (some ⟨w.heap.size+1+1,0,none⟩),undef,.int .i64 x.1.2,.int .i64 i,.slice (some ⟨b,off,none⟩) L.length cap,.int .i64 i,.pointer (some ⟨b,off+i*6,none⟩),
    .agg #[.int .i64 d.op,.int .i64 d.a,.int .i64 d.b,.int .i64 d.c,.int .i64 d.num,.slice Av d.val.length cv],.slice A2 zs.length cap2,.func (.func 286) #[] #[.pointer (some ⟨w4.heap.size,0,none⟩)],.int .i64 (x.1.1:Int),.int .i64 x.1.2,undef,undef,undef,undef,undef,undef,undef,undef,undef,undef],defers:=[] }) ?assign ?body ?done ?stop
  case assign =>
   intro l x W K hK
   gi_wp2
   exact hK
  case body =>
   rintro l pre ⟨⟨xi,xk⟩,hxm⟩ W ⟨⟨⟨c,⟨hc0,hci,hacc⟩,bB⟩,bC,bR,hsz⟩,hB⟩ hpl
   dsimp only at hxm ⊢
   have hx:0≤xk∧xk<i:=hxm.elim (hah _) (fun e=>by have he:=congrArg List.length e;rw[List.length_nil]at he;omega)
   obtain⟨m,rfl⟩:∃m:Nat,xk=(m:Int):=⟨xk.toNat,by omega⟩
   have hstep:∀r,BY f ((pre++[(⟨(xi,(m:Int)),hxm⟩:BkE zs)]).map (fun x=>x.1.2)++r) i=if (m:Int)≠c-1 then -1 else if f m<0 then -1 else BY f r (f m):=fun r=>by
    rw[List.map_append,List.append_assoc,hacc]
    show BY f ((m:Int)::r) c=_
    conv=>lhs;unfold BY
    rw[Int.toNat_natCast]
   have hw:wrap64 (c-1)=c-1:=Zw hc0 (by omega)
   have cB:=bB.cell
   have fB:=bB.frozen
   have cC:=bC.cell
   have cR:=bR.cell
   have fR:=bR.frozen
   have IHm:=IH m (by omega) (by omega) W (hc.keep hB)
   clear IH hacc
   by_cases h1:c-1=(m:Int)
   ·have hwm:wrap64 (m:Int)=m:=by rw[←h1];exact hw
    clear hw
    by_cases h2:f m<0
    ·have hs:∀r,BY f ((pre++[(⟨(xi,(m:Int)),hxm⟩:BkE zs)]).map (fun x=>x.1.2)++r) i = -1:=fun r=>by rw[hstep,if_neg (fun h=>h h1.symm),if_pos h2]
     gi_wp2_with (refine⟨trivial,?_⟩;gi_at_call 137;refine (CallsIn.inRound l (callsIn_wide.2 IHm)).mono ?_;rintro e w6 ⟨rfl,hb6⟩;have q2:Boxed w6 (w.heap.size+1+1) 2 (.int .i64 c):=(hb6.block _ bB.lt).trans bB;have q1:Boxed w6 (w.heap.size+1) 2 (.int .i64 0):=(hb6.block _ bR.lt).trans bR;have q2c:=q2.cell;have q2f:=q2.frozen;have q1c:=q1.cell;have q1f:=q1.frozen)
     have hkf:KeepsFrom W5.heap.size W w6:=⟨hb6.size,fun k o _ hk _=>(hb6.block k (Array.getElem?_eq_some_iff.1 hk).1).trans hk⟩
     have hBW:=hB.trans (hb6.mono hB.size)
     exact⟨hkf.trans (((KeepsOthers.setCell _ _ _).trans (KeepsOthers.setCell _ _ _)).from _),⟨⟨rfl,hs⟩,(q1.other (by omega) _).set _⟩,
      (hBW.setCell (p:=⟨w.heap.size+1+1,0,none⟩) (by simp;omega) _).setCell (p:=⟨w.heap.size+1,0,none⟩) (by simp) _⟩
    ·have hs:∀r,BY f ((pre++[(⟨(xi,(m:Int)),hxm⟩:BkE zs)]).map (fun x=>x.1.2)++r) i=BY f r (f m):=fun r=>by rw[hstep,if_neg (fun h=>h h1.symm),if_neg h2]
     have hrng:=Lib.hid (show 0≤f m∧f m≤i from ⟨Int.not_lt.1 h2,Int.le_trans (hfle.out m) (Int.le_of_lt hx.2)⟩)
     gi_wp2_with (refine⟨trivial,?_⟩;gi_at_call 137;refine (CallsIn.inRound l (callsIn_wide.2 IHm)).mono ?_;rintro e w6 ⟨rfl,hb6⟩;have q2:Boxed w6 (w.heap.size+1+1) 2 (.int .i64 c):=(hb6.block _ bB.lt).trans bB;have q1:Boxed w6 (w.heap.size+1) 2 (.int .i64 0):=(hb6.block _ bR.lt).trans bR;have q2c:=q2.cell;have q2f:=q2.frozen;have q1c:=q1.cell;have q1f:=q1.frozen)
     have hkf:KeepsFrom W5.heap.size W w6:=⟨hb6.size,fun k o _ hk _=>(hb6.block k (Array.getElem?_eq_some_iff.1 hk).1).trans hk⟩
     have hBW:=hB.trans (hb6.mono hB.size)
     have q0:Boxed w6 w.heap.size 24 (.slice (some ⟨b,off,none⟩) L.length cap):=(hb6.block _ bC.lt).trans bC
     have hsz6:=hb6.size
     exact⟨hkf.trans ((KeepsOthers.setCell _ _ _).from _),KB.trans (KB.below hb6 (by omega) (by omega)) (KB.set _ _ _ (by simp;omega) (by simp;omega)),
      ⟨⟨f m,⟨hrng.out.1,hrng.out.2,hs⟩,q2.set _⟩,q0.other (by omega) _,q1.other (by omega) _,Nat.le_trans (Nat.le_trans hsz hsz6) (KeepsOthers.setCell _ _ _).size⟩,
      hBW.setCell (p:=⟨w.heap.size+1+1,0,none⟩) (by simp;omega) _⟩
   ·have hs:∀r,BY f ((pre++[(⟨(xi,(m:Int)),hxm⟩:BkE zs)]).map (fun x=>x.1.2)++r) i = -1:=fun r=>by rw[hstep,if_pos (fun h=>h1 h.symm)]
    have h1':¬(m:Int)=c-1:=fun h=>h1 h.symm
    gi_wp2
    exact⟨(KeepsOthers.setCell _ _ _).from _,⟨⟨rfl,hs⟩,bR.set _⟩,hB.setCell (p:=⟨w.heap.size+1,0,none⟩) (by simp) _⟩
  case done =>
   rintro D ys W hD rfl ⟨⟨⟨c,⟨hc0,hci,hacc⟩,bB⟩,bC,bR,hsz⟩,hB⟩ hK
   have hres:BY f zs.reverse i=c:=by
    have hres:=hacc []
    rw[List.append_nil,Sd zs _ (Nat.le_refl _),←List.length_reverse,List.take_length]at hres
    exact hres
   have hres:=Lib.hid hres
   have cB:=bB.cell
   have cR:=bR.cell
   have fR:=bR.frozen
   clear hacc
   gi_wp2
   have hw5:=hB5.size
   have hK':=(KeepsOthers.setCell W ⟨w.heap.size+1,0,none⟩ (.int .i64 c)).same D _ hK rfl
   refine⟨by simp,.inl ⟨_,_,rfl,run_takeDeferred hK',?_⟩⟩
   have hc5:=cell_kept (bR.set (.int .i64 c)).cell (grownBy_putObj' _ D (.deferred none)) (fun r e=>by cases e;exact⟨_,hK',rfl⟩)
   refine⟨.int .i64 c,?_,by rw[hres.out],(hB.setCell (p:=⟨w.heap.size+1,0,none⟩) (by simp) _).trans (belowK_b (w:=w) (Nat.le_refl _) _ D _ _ (by omega) hK' rfl rfl)⟩
   simp[results,Tryz.results137,go_sem,hc5]
  case stop =>
   rintro D cc pre W hD ⟨k,hk,rfl⟩ ⟨⟨⟨rfl,hacc⟩,bR⟩,hB⟩ hK
   have hres:BY f zs.reverse i = -1:=by
    have:=hacc (zs.reverse.drop k)
    rwa [Sd zs k hk,List.take_append_drop]at this
   have hres:=Lib.hid hres
   have cR:=bR.cell
   clear hacc
   gi_wp2
   have hw5:=hB5.size
   refine⟨by simp,.inl ⟨_,_,rfl,run_takeDeferred hK,?_⟩⟩
   have hc5:=cell_kept cR (grownBy_putObj' _ D (.deferred none)) (fun r e=>by cases e;exact⟨_,hK,rfl⟩)
   refine⟨.int .i64 (-1),?_,by rw[hres.out],hB.trans (belowK_b (w:=w) (Nat.le_refl _) W D _ _ (by omega) hK rfl rfl)⟩
   simp[results,Tryz.results137,go_sem,hc5]
end
section
open Go.RowKit
set_option maxRecDepth 10000
theorem QI {L:List CoD}(hL:∀(k:Nat) (h:k<L.length),CoOk L[k] k) (hlen:L.length≤1000) {i:Nat}(hi:i<L.length):AC Tryz.prog 137 [AE L,.c (.int .i64 i)] [] (.c (.int .i64 (C0 L L.length i))) []:=by
 refine AC.of_calls fun S w κ vs hv=>?_
 obtain⟨v,vs',rfl,h1,v2,vs2,rfl,⟨rfl,_⟩,rfl⟩:=hv
 obtain⟨A,cap,rfl,hc⟩:=ZL h1
 refine (Is hL hlen S A cap L.length i hi hi w hc).mono ?_
 rintro e w' ⟨rfl,hb⟩
 exact⟨hb,_,rfl,fun T _ _=>⟨rfl,rfl⟩⟩
theorem ZF (d:CoD) (k:Nat):AC Tryz.prog 220 [d.av,.c (.int .i64 k)] [] (.c (.bool ((d.op==14&&k==1)||(d.op==13&&k==2)))) []:=by
 have e1:((k:Int)==1)=(k==1):=by rw[Bool.eq_iff_iff];simp;omega
 have e2:((k:Int)==2)=(k==2):=by rw[Bool.eq_iff_iff];simp;omega
 cases h1:(d.op==14)<;>cases h2:(d.op==13)<;>cases h3:(k==1)<;>cases h4:(k==2)
 all_goals
  rw[h3]at e1
  rw[h4]at e2
  refine A6 Tryz.func220 Tryz.ntmps220 (j4 h1 h2 e1 e2) ?_
  exact Ag (A5 []) Tryz.results220
set_option maxRecDepth 10000
theorem a2e {op:Int}(h1:1≤op) (h2:op≤17):(Gn op==0) = !EP op:=by
 rcases Ty h1 h2 with rfl | rfl | rfl | rfl | rfl | rfl | rfl | rfl | rfl | rfl | rfl | rfl | rfl | rfl | rfl | rfl | rfl<;>rfl
theorem a0f {d:CoD}(h1:1≤d.op) (h2:d.op≤17) (hn:EP d.op=true∨d.num=0):FA d=(decide (d.num≥IV d.op)&&decide (d.num≤Gn d.op)):=by
 obtain⟨op,a,b,c,num,val⟩:=d
 dsimp only at *
 rcases Ty h1 h2 with rfl | rfl | rfl | rfl | rfl | rfl | rfl | rfl | rfl | rfl | rfl | rfl | rfl | rfl | rfl | rfl | rfl
 all_goals first | rfl | (have hn:num=0:=hn.resolve_left (by decide);subst hn;rfl)
def ER (d:CoD) (i:Int) (k:Nat):Bool:=!Dl (Au d.op) i k (d.kid k)
theorem UH (d:CoD) (i:Int):Dz d i=(!ER d i 0&&(!ER d i 1&&!ER d i 2)):=by
 unfold Dz ER CoD.kid
 simp only[Bool.not_not,Bool.and_assoc,if_true,Nat.one_ne_zero,if_false,Nat.reduceEqDiff]
def KI (d:CoD):Int:=if BX d.op&&((dec d.val).1 != 0) then (dec d.val).1 else if d.op==11&&(EX d != 4) then 6 else if FA d then 0 else 3
theorem Xw (d:CoD) (i:Int):Dd d i=if C1 d.op 1 17=false then 6 else if Gf d i=false then 1 else KI d:=rfl
theorem Yi (L:List CoD) (i:Nat) (hi:i<L.length) (hl:L.length≤100000):AC Tryz.prog 130 [AE L,.c (.int .i64 i)] [] (.c (.int .i64 (Dd L[i] i))) []:=by
 obtain⟨hr0,hg0⟩:=EJ L hi
 have hw1:=I5 L[i].op 1 17
 have hV:=Tg L[i].op
 have hF:=IL L[i].val
 rw[Xw]
 by_cases h17:C1 L[i].op 1 17=false
 ·rw[if_pos h17]
  unfold C1 at h17
  rw[h17]at hw1
  generalize L[i]=d at *
  refine A6 Tryz.func130 Tryz.ntmps130 (j2 hr0 hg0) ?_
  refine v7 (A3 [] hw1) q9 q9 ?_
  exact Ag (A5 []) Tryz.results130
 rw[if_neg h17]
 have h17':C1 L[i].op 1 17=true:=by simpa using h17
 have hop:1≤L[i].op∧L[i].op≤17:=by unfold C1 at h17';simpa using h17'
 unfold C1 at h17'
 rw[h17']at hw1
 have hN:=Yj L[i].op hop.1 hop.2
 have hK:=G0 L[i].op hop.1 hop.2
 have hk0:=a2e hop.1 hop.2
 have hkid:=IQ L[i]
 have hvl:(L[i].val.map CellD.cs).length=L[i].val.length:=by simp
 have hnum:=@a0f L[i] hop.1 hop.2
 have hii:IntKind.i64.wrap ((i:Int)-1)=(i:Int)-1:=IntWalk.i64_in _ (by omega)
 have hform:Gf L[i] i=(Dz L[i] i&&(EP L[i].op||L[i].num==0)&&(BX L[i].op||L[i].val.length==0)):=rfl
 rw[UH]at hform
 have hvk:(dec L[i].val).1=0→∃t:V,L[i].val=t.enc∧EX L[i]=t.kind:=fun h=>by
  rcases H4 L[i].val with⟨t,ht⟩ | ⟨c,hc,ht⟩
  ·exact⟨t,(Uz ht).1,by unfold EX;rw[ht]⟩
  ·rw[ht]at h;exact absurd h hc
 have hwn:=I5 L[i].num (IV L[i].op) (Gn L[i].op)
 generalize L[i]=d at *
 obtain⟨R,hR⟩:∃R,R=if Gf d i=false then 1 else KI d:=⟨_,rfl⟩
 rw[←hR]
 have h00:((0:Int) != 0)=false:=rfl
 unfold CoD.av at hkid
 -- the first test
 by_cases hA:EP d.op=false∧d.num≠0
 ·have p1:(Gn d.op==0)=true:=by rw[hk0,hA.1];rfl
  have p2:(d.num != 0)=true:=E9 hA.2
  have hf:Gf d i=false:=by rw[hform,hA.1,show (d.num==0)=false from Ed hA.2];simp
  rw[if_pos hf]at hR
  subst hR
  refine A6 Tryz.func130 Tryz.ntmps130 (j2 hr0 hg0) ?_
  refine v7 (A3 [] hw1) q9 q9 ?_
  refine v7 (A3 [] hN) q9 (j2 p1 p2) ?_
  exact Ag (A5 []) Tryz.results130
 have hA1:(EP d.op||d.num==0)=true:=by
  cases h:EP d.op with
  |true=>rfl
  |false=>simp;exact Classical.byContradiction fun h2=>hA ⟨h,h2⟩
 have hp:∃b,(Gn d.op==0)=b∧(b=true→(d.num != 0)=false):=⟨_,rfl,fun hb=>by
  rw[hk0]at hb
  refine JB (Classical.byContradiction fun h2=>hA ⟨by simpa using hb,h2⟩)⟩
 obtain⟨b,p1,p2⟩:=hp
 by_cases hB:BX d.op=false∧d.val≠[]
 ·have hlz:decide ((d.val.length:Int)>0)=true:=decide_eq_true (by have:=List.length_pos_iff.2 hB.2;omega)
  have hlz2:(d.val.length==0)=false:=beq_eq_false_iff_ne.2 (by have:=List.length_pos_iff.2 hB.2;omega)
  have hf:Gf d i=false:=by rw[hform,hB.1,hlz2];simp
  rw[if_pos hf]at hR
  subst hR
  rw[hB.1]at hV
  cases b with
  |true =>
   have p2:=p2 rfl
   refine A6 Tryz.func130 Tryz.ntmps130 (j2 hr0 hg0) ?_
   refine v7 (A3 [] hw1) q9 q9 ?_
   refine v7 (A3 [] hN) q9 (j2 p1 p2) ?_
   refine v7 (A3 [] hV) q9 (j2 hvl hlz) ?_
   exact Ag (A5 []) Tryz.results130
  |false =>
   refine A6 Tryz.func130 Tryz.ntmps130 (j2 hr0 hg0) ?_
   refine v7 (A3 [] hw1) q9 q9 ?_
   refine v7 (A3 [] hN) q9 p1 ?_
   refine v7 (A3 [] hV) q9 (j2 hvl hlz) ?_
   exact Ag (A5 []) Tryz.results130
 have hB1:(BX d.op||d.val.length==0)=true:=by
  cases h:BX d.op with
  |true=>rfl
  |false=>simp;exact Classical.byContradiction fun h2=>hB ⟨h,h2⟩
 rw[hA1,hB1,Bool.and_true,Bool.and_true]at hform
 rw[hform]at hR
 have hnm:=hnum (by simpa using hA1)
 have hlp:(b=false∧((0:Int) != 0)=false)∨(b=true∧(d.num != 0)=false):=by
  cases b with
  |true=>exact .inr ⟨rfl,p2 rfl⟩
  |false=>exact .inl ⟨rfl,h00⟩
 clear p2 hform hk0 hA hA1 hB1
 cases hv:BX d.op with
 |true =>
  rw[hv]at hV
  rcases hlp with⟨rfl,p3⟩ | ⟨rfl,p3⟩
  all_goals
   refine A6 Tryz.func130 Tryz.ntmps130 (j2 hr0 hg0) ?_
   refine v7 (A3 [] hw1) q9 q9 ?_
   refine v7 (A3 [] hN) q9 (j2 p1 p3) ?_
   refine v7 (A3 [] hV) q9 hvl ?_
   refine Ar (κ:=Nat) (fun k=>⟨mkS 0 100 [(0,AE L),(1,.c (.int .i64 i)),(5,.ptr (5,0) 0),(6,.c (.int .i64 (IV d.op))),(7,.c (.int .i64 (Gn d.op))),(8,.c (.int .i64 k))],[((5,0),.box [.c (.int .i64 d.op),.c (.int .i64 d.a),.c (.int .i64 d.b),.c (.int .i64 d.c),.c (.int .i64 d.num),.c (.sl (d.val.map CellD.cs))])]⟩)
    (fun k=>k≤3∧∀j,j<k→ER d i j=false) (fun k=>3-k) 0 ⟨by omega,fun j hj=>absurd hj (by omega)⟩ ?_ ?_
   ·exact Ac (Aj.of [((5,0),(5,0))] []) p1
   ·rintro k ⟨hk,hall⟩
    by_cases hlt:k<3
    ·have hdk:decide ((k:Int)<3)=true:=decide_eq_true (by omega)
     have hw:=Ad (k:=k) (by omega)
     have hkd:=hkid k hlt
     have hkb:ER d i k = !Dl (Au d.op) i k (d.kid k):=rfl
     have hbad:ER d i k=true→R=1:=fun hb=>by
      rw[hR,if_pos]
      have:k=0∨k=1∨k=2:=by omega
      rcases this with rfl | rfl | rfl<;>rw[hb]<;>simp
     have hnext:ER d i k=false→∀j,j<k+1→ER d i j=false:=fun hb j hj=>by
      rcases Nat.lt_succ_iff_lt_or_eq.1 hj with h | rfl
      ·exact hall j h
      ·exact hb
     unfold Dl at hkb
     generalize d.kid k=x at *
     by_cases har:(k:Int)<(Au d.op:Nat)
     ·have g1:decide ((k:Int)≥(Au d.op:Nat))=false:=decide_eq_false (by omega)
      have g2:decide ((k:Int)<(Au d.op:Nat))=true:=decide_eq_true har
      have hwx:=I5 x 0 ((i:Int)-1)
      rw[if_pos har]at hkb
      unfold C1 at hkb
      cases hx:(decide (x≥0)&&decide (x≤(i:Int)-1)) with
      |true =>
       rw[hx]at hkb hwx
       have hnx:=hnext (by rw[hkb];rfl)
       refine Ab hdk ?_
       refine v7 (A3 [] hkd) q9 q9 ?_
       refine v7 (A3 [] hK) q9 g1 ?_
       refine v7 (A3 [] hK) q9 (j2 g2 hii) ?_
       refine v7 (A3 [] hwx) q9 hw ?_
       refine⟨k+1,by omega,⟨by omega,hnx⟩,?_⟩
       exact Ac (Aj.of [((5,0),(5,0))] []) hw
      |false =>
       rw[hx]at hkb hwx
       have hR1:=hbad (by rw[hkb];rfl)
       rw[hR1]
       refine Ab hdk ?_
       refine v7 (A3 [] hkd) q9 q9 ?_
       refine v7 (A3 [] hK) q9 g1 ?_
       refine v7 (A3 [] hK) q9 (j2 g2 hii) ?_
       refine v7 (A3 [] hwx) q9 q9 ?_
       exact Ag (A5 []) Tryz.results130
     ·have g1:decide ((k:Int)≥(Au d.op:Nat))=true:=decide_eq_true (by omega)
      have g2:decide ((k:Int)<(Au d.op:Nat))=false:=decide_eq_false har
      rw[if_neg har]at hkb
      by_cases hx:x=0
      ·have g3:(x != 0)=false:=JB hx
       have hnx:=hnext (by rw[hkb,GZ hx];rfl)
       refine Ab hdk ?_
       refine v7 (A3 [] hkd) q9 q9 ?_
       refine v7 (A3 [] hK) q9 (j2 g1 g3) ?_
       refine v7 (A3 [] hK) q9 (j2 g2 hw) ?_
       refine⟨k+1,by omega,⟨by omega,hnx⟩,?_⟩
       exact Ac (Aj.of [((5,0),(5,0))] []) hw
      ·have g3:(x != 0)=true:=E9 hx
       have hR1:=hbad (by rw[hkb,Ed hx];rfl)
       rw[hR1]
       refine Ab hdk ?_
       refine v7 (A3 [] hkd) q9 q9 ?_
       refine v7 (A3 [] hK) q9 (j2 g1 g3) ?_
       exact Ag (A5 []) Tryz.results130
    ·have hdk:decide ((k:Int)<3)=false:=decide_eq_false (by omega)
     obtain rfl:k=3:=by omega
     rw[hall 0 (by omega),hall 1 (by omega),hall 2 (by omega)]at hR
     simp only[Bool.not_false,Bool.and_self,Bool.true_eq_false,if_false]at hR
     unfold KI at hR
     rw[hv]at hR
     clear hall hkid hK
     by_cases hc0:(dec d.val).1=0
     ·have hz:((dec d.val).1 != 0)=false:=JB hc0
      obtain⟨t,ht,hkt⟩:=hvk hc0
      rw[hz,Bool.and_false,if_neg (by decide),hkt]at hR
      rw[hc0]at hF
      have hrv:A8 (d.val.map CellD.cs) 5 0=true:=by rw[ht];unfold A8;rw[show (0:Int).toNat=0 from rfl,AL];rfl
      have hgv:(d.val.map CellD.cs)[0]? = some [.int .i64 t.kind,.int .i64 t.num,.str t.text,.str ByteArray.empty,.int .i64 t.kids.length]:=by rw[ht];exact AL t
      cases h11:(d.op==11) with
      |true =>
       rw[h11,Bool.true_and]at hR
       by_cases hk4:t.kind=4
       ·have g4:(t.kind != 4)=false:=JB hk4
        rw[g4,if_neg (by decide)]at hR
        cases hnn:(decide (d.num≥IV d.op)&&decide (d.num≤Gn d.op)) with
        |true =>
         rw[hnn]at hwn hnm
         rw[hnm,if_pos rfl]at hR
         rw[hR]
         refine Ab hdk ?_
         refine v7 (A3 [] hV) q9 q9 ?_
         refine v7 (A3 [] hF) q9 (j5 h00 h11 hrv hgv g4) ?_
         refine v7 (A3 [] hwn) q9 q9 ?_
         exact Ag (A5 []) Tryz.results130
        |false =>
         rw[hnn]at hwn hnm
         rw[hnm,if_neg (by decide)]at hR
         rw[hR]
         refine Ab hdk ?_
         refine v7 (A3 [] hV) q9 q9 ?_
         refine v7 (A3 [] hF) q9 (j5 h00 h11 hrv hgv g4) ?_
         refine v7 (A3 [] hwn) q9 q9 ?_
         exact Ag (A5 []) Tryz.results130
       ·have g4:(t.kind != 4)=true:=E9 hk4
        rw[g4,if_pos rfl]at hR
        rw[hR]
        refine Ab hdk ?_
        refine v7 (A3 [] hV) q9 q9 ?_
        refine v7 (A3 [] hF) q9 (j5 h00 h11 hrv hgv g4) ?_
        exact Ag (A5 []) Tryz.results130
      |false =>
       rw[h11,Bool.false_and,if_neg (by decide)]at hR
       cases hnn:(decide (d.num≥IV d.op)&&decide (d.num≤Gn d.op)) with
       |true =>
        rw[hnn]at hwn hnm
        rw[hnm,if_pos rfl]at hR
        rw[hR]
        refine Ab hdk ?_
        refine v7 (A3 [] hV) q9 q9 ?_
        refine v7 (A3 [] hF) q9 (j2 h00 h11) ?_
        refine v7 (A3 [] hwn) q9 q9 ?_
        exact Ag (A5 []) Tryz.results130
       |false =>
        rw[hnn]at hwn hnm
        rw[hnm,if_neg (by decide)]at hR
        rw[hR]
        refine Ab hdk ?_
        refine v7 (A3 [] hV) q9 q9 ?_
        refine v7 (A3 [] hF) q9 (j2 h00 h11) ?_
        refine v7 (A3 [] hwn) q9 q9 ?_
        exact Ag (A5 []) Tryz.results130
     ·have hz:((dec d.val).1 != 0)=true:=E9 hc0
      rw[hz,Bool.and_self,if_pos rfl]at hR
      rw[hR]
      refine Ab hdk ?_
      refine v7 (A3 [] hV) q9 q9 ?_
      refine v7 (A3 [] hF) q9 hz ?_
      exact Ag (A5 []) Tryz.results130
 |false =>
  rw[hv]at hV
  have hve:d.val=[]:=Classical.byContradiction fun h2=>hB ⟨hv,h2⟩
  have p4:decide ((d.val.length:Int)>0)=false:=by rw[hve];rfl
  rcases hlp with⟨rfl,p3⟩ | ⟨rfl,p3⟩
  all_goals
   refine A6 Tryz.func130 Tryz.ntmps130 (j2 hr0 hg0) ?_
   refine v7 (A3 [] hw1) q9 q9 ?_
   refine v7 (A3 [] hN) q9 (j2 p1 p3) ?_
   refine v7 (A3 [] hV) q9 (j2 hvl p4) ?_
   refine Ar (κ:=Nat) (fun k=>⟨mkS 0 100 [(0,AE L),(1,.c (.int .i64 i)),(5,.ptr (5,0) 0),(6,.c (.int .i64 (IV d.op))),(7,.c (.int .i64 (Gn d.op))),(8,.c (.int .i64 k))],[((5,0),.box [.c (.int .i64 d.op),.c (.int .i64 d.a),.c (.int .i64 d.b),.c (.int .i64 d.c),.c (.int .i64 d.num),.c (.sl (d.val.map CellD.cs))])]⟩)
    (fun k=>k≤3∧∀j,j<k→ER d i j=false) (fun k=>3-k) 0 ⟨by omega,fun j hj=>absurd hj (by omega)⟩ ?_ ?_
   ·exact Ac (Aj.of [((5,0),(5,0))] []) p1
   ·rintro k ⟨hk,hall⟩
    by_cases hlt:k<3
    ·have hdk:decide ((k:Int)<3)=true:=decide_eq_true (by omega)
     have hw:=Ad (k:=k) (by omega)
     have hkd:=hkid k hlt
     have hkb:ER d i k = !Dl (Au d.op) i k (d.kid k):=rfl
     have hbad:ER d i k=true→R=1:=fun hb=>by
      rw[hR,if_pos]
      have:k=0∨k=1∨k=2:=by omega
      rcases this with rfl | rfl | rfl<;>rw[hb]<;>simp
     have hnext:ER d i k=false→∀j,j<k+1→ER d i j=false:=fun hb j hj=>by
      rcases Nat.lt_succ_iff_lt_or_eq.1 hj with h | rfl
      ·exact hall j h
      ·exact hb
     unfold Dl at hkb
     generalize d.kid k=x at *
     by_cases har:(k:Int)<(Au d.op:Nat)
     ·have g1:decide ((k:Int)≥(Au d.op:Nat))=false:=decide_eq_false (by omega)
      have g2:decide ((k:Int)<(Au d.op:Nat))=true:=decide_eq_true har
      have hwx:=I5 x 0 ((i:Int)-1)
      rw[if_pos har]at hkb
      unfold C1 at hkb
      cases hx:(decide (x≥0)&&decide (x≤(i:Int)-1)) with
      |true =>
       rw[hx]at hkb hwx
       have hnx:=hnext (by rw[hkb];rfl)
       refine Ab hdk ?_
       refine v7 (A3 [] hkd) q9 q9 ?_
       refine v7 (A3 [] hK) q9 g1 ?_
       refine v7 (A3 [] hK) q9 (j2 g2 hii) ?_
       refine v7 (A3 [] hwx) q9 hw ?_
       refine⟨k+1,by omega,⟨by omega,hnx⟩,?_⟩
       exact Ac (Aj.of [((5,0),(5,0))] []) hw
      |false =>
       rw[hx]at hkb hwx
       have hR1:=hbad (by rw[hkb];rfl)
       rw[hR1]
       refine Ab hdk ?_
       refine v7 (A3 [] hkd) q9 q9 ?_
       refine v7 (A3 [] hK) q9 g1 ?_
       refine v7 (A3 [] hK) q9 (j2 g2 hii) ?_
       refine v7 (A3 [] hwx) q9 q9 ?_
       exact Ag (A5 []) Tryz.results130
     ·have g1:decide ((k:Int)≥(Au d.op:Nat))=true:=decide_eq_true (by omega)
      have g2:decide ((k:Int)<(Au d.op:Nat))=false:=decide_eq_false har
      rw[if_neg har]at hkb
      by_cases hx:x=0
      ·have g3:(x != 0)=false:=JB hx
       have hnx:=hnext (by rw[hkb,GZ hx];rfl)
       refine Ab hdk ?_
       refine v7 (A3 [] hkd) q9 q9 ?_
       refine v7 (A3 [] hK) q9 (j2 g1 g3) ?_
       refine v7 (A3 [] hK) q9 (j2 g2 hw) ?_
       refine⟨k+1,by omega,⟨by omega,hnx⟩,?_⟩
       exact Ac (Aj.of [((5,0),(5,0))] []) hw
      ·have g3:(x != 0)=true:=E9 hx
       have hR1:=hbad (by rw[hkb,Ed hx];rfl)
       rw[hR1]
       refine Ab hdk ?_
       refine v7 (A3 [] hkd) q9 q9 ?_
       refine v7 (A3 [] hK) q9 (j2 g1 g3) ?_
       exact Ag (A5 []) Tryz.results130
    ·have hdk:decide ((k:Int)<3)=false:=decide_eq_false (by omega)
     obtain rfl:k=3:=by omega
     rw[hall 0 (by omega),hall 1 (by omega),hall 2 (by omega)]at hR
     simp only[Bool.not_false,Bool.and_self,Bool.true_eq_false,if_false]at hR
     unfold KI at hR
     rw[hv]at hR
     clear hall hkid hK
     have h11:(d.op==11)=false:=by
      cases h:(d.op==11) with
      |false=>rfl
      |true=>unfold BX at hv;rw[h]at hv;simp at hv
     rw[Bool.false_and,if_neg (by decide),h11,Bool.false_and,if_neg (by decide)]at hR
     cases hnn:(decide (d.num≥IV d.op)&&decide (d.num≤Gn d.op)) with
     |true =>
      rw[hnn]at hwn hnm
      rw[hnm,if_pos rfl]at hR
      rw[hR]
      refine Ab hdk ?_
      refine v7 (A3 [] hV) q9 h11 ?_
      refine v7 (A3 [] hwn) q9 q9 ?_
      exact Ag (A5 []) Tryz.results130
     |false =>
      rw[hnn]at hwn hnm
      rw[hnm,if_neg (by decide)]at hR
      rw[hR]
      refine Ab hdk ?_
      refine v7 (A3 [] hV) q9 h11 ?_
      refine v7 (A3 [] hwn) q9 q9 ?_
      exact Ag (A5 []) Tryz.results130
end
end Go.Proofs.YtcejfdfmgmcinaaGreat
