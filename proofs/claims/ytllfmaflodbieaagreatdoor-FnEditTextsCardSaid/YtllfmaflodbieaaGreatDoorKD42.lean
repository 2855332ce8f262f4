/- The draws of edits: spec.DiffValues with a row of its own, l14Edits, DrawFormatEdits. Printed by gen_d42.py. -/
import Derived.Test.YtllfmaflodbieaaGreatDoorKG76
import Derived.Test.YtllfmaflodbieaaGreatDoorKG87uM44
set_option linter.all false
set_option maxHeartbeats 8000000
namespace Go.Proofs.YtllfmaflodbieaaGreatDoor
open Go.RowKit
set_option maxRecDepth 10000
def a0q (xs ys:List CellD) (R:List EditD):Prop:=∃c:Int,(R=[]∧AC Tryz.prog 133 [Aq xs,Aq ys] [] (.agg [.c (.int .i64 c),.c (.int .i64 0),.nils]) [])∨AC Tryz.prog 133 [Aq xs,Aq ys] [] (.agg [.c (.int .i64 c),.c (.int .i64 0),.own (0,0)]) [((0,0),.row false 3 53 (R.map EditD.cs))]
theorem Vl:Iy []:=fun q hq=>absurd hq (by simp)
theorem UH (xs ys:List CellD):∃R,R.length≤100∧(∀d∈R,DY d)∧a0q xs ys R:=by
 rcases Xo xs ys with hc | ⟨t,u,h1,h2,h0⟩
 ·have hv:=Lt xs ys
  have hb:(E4 xs ys != 0)=true:=by simpa using hc
  refine⟨[],Nat.zero_le _,by simp,E4 xs ys,.inl ⟨rfl,?_⟩⟩
  generalize E4 xs ys=c at *
  refine A5 Tryz.func133 Tryz.ntmps133 ?_
  refine A3 q9 ?_
  refine w7 (A8 [] hv) q9 ?_
  refine A3 hb ?_
  exact Ab (Aa [] []) Tryz.results133 hb
 ·obtain⟨e1,a1,a2,a3⟩:=Ih h1
  obtain⟨e2,b1,b2,b3⟩:=Ih h2
  have ht:t.right:=⟨a1,a2,a3⟩
  have hu:u.right:=⟨b1,b2,b3⟩
  subst e1
  subst e2
  have hv:=Lt t.enc u.enc
  rw[h0]at hv
  have h00:((0:Int) != 0)=false:=rfl
  have hdl:=Nj t.count t u [] ht hu
  have hct:=ht.2.1
  have hcu:=hu.2.1
  have htold:=Lc t.count t u [] 20 ht hu a3 b3 (by simp) (by simp)
  have hp:=AY t
  obtain⟨n,hn⟩:∃n,t.count=n+1:=⟨t.count-1,by omega⟩
  have hw:=Ss (St n) t u [] ht hu Vl (by simp;omega) (by rw[←hn];omega) (by omega)
  rw[hn]at htold hdl
  generalize Cw (n+1) t u []=R at *
  unfold Wj at hw
  have hRm:(R.map EditD.cs).length=R.length:=by simp
  rcases hw with⟨rfl,hw⟩ | hw
  ·have hd:decide ((0:Int)>100)=false:=rfl
   refine⟨[],Nat.zero_le _,by simp,0,.inl ⟨rfl,?_⟩⟩
   refine A5 Tryz.func133 Tryz.ntmps133 ?_
   refine A3 q9 ?_
   refine w7 (A8 [] hv) q9 ?_
   refine A3 h00 ?_
   refine w7 (A8 [] hw) @List.map_nil.{0,0} ?_
   refine A3 hd ?_
   exact Ab (Aa [] []) Tryz.results133 hd
  ·by_cases h:R.length>100
   ·have hd:decide ((R.length:Int)>100)=true:=decide_eq_true (by omega)
    refine⟨[],Nat.zero_le _,by simp,2,.inl ⟨rfl,?_⟩⟩
    refine A5 Tryz.func133 Tryz.ntmps133 ?_
    refine A3 q9 ?_
    refine w7 (A8 [] hv) q9 ?_
    refine A3 h00 ?_
    refine w12 (Au [] hw) @List.map_nil.{0,0} ?_
    refine A3 (j2 hd hRm) ?_
    exact Ab (Aa [] []) Tryz.results133 hd
   ·have hd:decide ((R.length:Int)>100)=false:=decide_eq_false (by omega)
    refine⟨R,by omega,fun d hd=>a0b (htold d hd),0,.inr ?_⟩
    refine A5 Tryz.func133 Tryz.ntmps133 ?_
    refine A3 q9 ?_
    refine w7 (A8 [] hv) q9 ?_
    refine A3 h00 ?_
    refine w12 (Au [] hw) @List.map_nil.{0,0} ?_
    refine A3 (j2 hd hRm) ?_
    exact Ab (Aa [((0,0),(16,0))] []) Tryz.results133 hd
def Hi (L:List EditD):Prop:=L.length≤101∧∀d∈L,DY d
theorem XB:Hi []:=⟨Nat.zero_le _,by simp⟩
theorem Nn {L:List EditD}(h:L.length≤100∧∀d∈L,DY d) {d:EditD}(hd:DY d):Hi (L++[d]):=⟨by simp;omega,fun x hx=>by
 rcases List.mem_append.1 hx with hx | hx
 ·exact h.2 x hx
 ·rw[List.mem_singleton.1 hx];exact hd⟩
def OK (L:List EditD) (x:List CellD):List EditD:=match L with
 | []=>[]
 |d::l=>⟨d.op,d.path,x⟩::l
theorem JM {L:List EditD}(h:Hi L) {x:List CellD}(hx:D7 x) (hl:x.length≤9223372036854775807):Hi (OK L x):=by
 cases L with
 |nil=>exact h
 |cons d l =>
  refine⟨h.1,fun e he=>?_⟩
  have hd:=h.2 d (by simp)
  rcases List.mem_cons.1 he with rfl | he
  ·exact⟨hd.1,hx,hd.2.2.1,hl⟩
  ·exact h.2 e (by simp[he])
theorem Ow:D7 []:=fun c hc=>absurd hc (by simp)
theorem DF:Hi (List.replicate 101 ⟨0,[],[]⟩):=⟨by simp,fun d hd=>by
 rw[List.eq_of_mem_replicate hd]
 exact⟨Ow,Ow,Nat.zero_le _,Nat.zero_le _⟩⟩
theorem Ty {op:Int}{P:List V}(hP:Ia P) {t:V}(ht:t.right):DY ⟨op,(Ba P).enc,t.enc⟩:=by
 have hr:=G8 hP.2 (by have:=hP.1;omega)
 exact⟨Bu hr,Bu ht,by show (Ba P).enc.length≤_;rw[Bb];have:=hr.2.1;omega,by show t.enc.length≤_;rw[Bb];have:=ht.2.1;omega⟩
def a40 (bs:List Nat) (L:List EditD):Prop:=∃xs a',AC Tryz.prog 74 [.c (.sl (bs.map CO))] [] (.tup [Aq xs,.c (.sl (L.map EditD.cs)),.ptr (0,0) 0]) (D6 bs a')
theorem T6 (bs:List Nat) (hb:Bs bs):∃L,Hi L∧a40 bs L:=by
 obtain⟨xs,ys,a0,hx,hy,ha0,hnear⟩:=Vg bs hb
 obtain⟨R,hRl,hRo,c,hdiff⟩:=UH xs ys
 have h4:=Am bs hb a0 4 (by omega) (by omega)
 have hz1:decide (((1:Nat):Int)>0)=true:=rfl
 have hmk:List.replicate 101 [C.int .i64 0,C.sl [],C.sl []]=(List.replicate 101 (⟨0,[],[]⟩:EditD)).map EditD.cs:=by rw[List.map_replicate];rfl
 rcases hdiff with⟨rfl,hdiff⟩ | hdiff
 ·clear hRl hRo
  cases hc4:(Af bs a0 4==0) with
  |false =>
   rw[hc4]at h4
   have hdr:=XB
   have hz:decide ((0:Int)>0)=false:=rfl
   have h60:=Am bs hb (a0+1) 60 (by omega) (by omega)
   cases hc60:(Af bs (a0+1) 60==0) with
   |false =>
    rw[hc60]at h60
    refine⟨[],hdr,xs,(a0+1)+1,?_⟩
    refine A5 Tryz.func74 Tryz.ntmps74 ?_
    refine A3 q9 ?_
    refine w12 (Au [] hnear) q9 ?_
    refine A3 q9 ?_
    refine w7 (A8 [] hdiff) q9 ?_
    refine A3 q9 ?_
    refine A7 (A0 [((0,0),(11,0))] [((0,0),(11,0))] h4) q9 ?_
    refine A3 hz ?_
    refine A7 (A0 [((0,0),(11,0))] [((0,0),(11,0))] h60) q9 ?_
    refine A3 q9 ?_
    exact Ab (Aa [((0,0),(11,0))] []) Tryz.results74 (j2 hz @List.map_nil.{0,0})
   |true =>
    rw[hc60]at h60
    refine⟨List.replicate 101 ⟨0,[],[]⟩,DF,xs,(a0+1)+1,?_⟩
    refine A5 Tryz.func74 Tryz.ntmps74 ?_
    refine A3 q9 ?_
    refine w12 (Au [] hnear) q9 ?_
    refine A3 q9 ?_
    refine w7 (A8 [] hdiff) q9 ?_
    refine A3 q9 ?_
    refine A7 (A0 [((0,0),(11,0))] [((0,0),(11,0))] h4) q9 ?_
    refine A3 hz ?_
    refine A7 (A0 [((0,0),(11,0))] [((0,0),(11,0))] h60) q9 ?_
    refine A3 hmk ?_
    exact Ab (Aa [((0,0),(11,0))] [(47,0)]) Tryz.results74 hz
  |true =>
   rw[hc4]at h4
   have hpk:=CI bs hb (a0+1) [1,2,1,0] (by simp) (by simp) (by omega)
   generalize D4 bs (a0+1) [1,2,1,0]=op at *
   obtain⟨P,a1,hP,ha1,ha1',hpath0⟩:=G0 bs hb (a0+2) (by omega) xs
   have hpath:AC Tryz.prog 135 [.ptr (0,0) 0,Aq xs] (D6 bs (a0+2)) (.c (.sl ((Ba P).enc.map CellD.cs))) (D6 bs a1):=by
    exact wAS (AC.says [((0,0),(0,0))] [(0,1)] hpath0) q9
   obtain⟨v1,v2,v3,v4,v5⟩:=F8 bs 1 a1
   have hB:EI 1=23:=rfl
   have hC:GR 1=4:=rfl
   have hval0:AC Tryz.prog 101 [.ptr (0,0) 0,.c (.int .i64 2)] (D6 bs a1) (.own (0,1)) (Wi bs (BH bs 1 a1)):=Ed bs hb 1 (by omega) a1 (by omega)
   have hright:(BH bs 1 a1).1.right:=⟨v1,by omega,by omega⟩
   generalize BH bs 1 a1=vr at *
   obtain⟨t,a2⟩:=vr
   dsimp only at v1 v2 v3 v4 v5 hright
   have hval:AC Tryz.prog 101 [.ptr (0,0) 0,.c (.int .i64 2)] (D6 bs a1) (.c (.sl (t.enc.map CellD.cs))) (D6 bs a2):=by
    exact wAS (AC.says [((0,0),(0,0))] [(0,1)] hval0) q9
   have hed:=Ty (op:=op) hP hright
   generalize (Ba P).enc=pe at *
   generalize t.enc=te at *
   have hdr:=Nn (L:=[]) ⟨Nat.zero_le _,by simp⟩ hed
   obtain⟨L,hL⟩:∃L,L=[]++[(⟨op,pe,te⟩:EditD)]:=⟨_,rfl⟩
   have hrow:[[C.int .i64 op,C.sl (pe.map CellD.cs),C.sl (te.map CellD.cs)]]=L.map EditD.cs:=by rw[hL];simp[EditD.cs]
   have hne:L≠[]:=by rw[hL];simp
   rw[←hL]at hdr
   have hol:0+L.length≤1000000:=by have:=hdr.1;omega
   have hol2:L.length≤1000000:=by have:=hdr.1;omega
   have hz:decide ((L.length:Int)>0)=true:=decide_eq_true (by have:=List.length_pos_iff.2 hne;omega)
   have hlen:(L.map EditD.cs).length=L.length:=by simp
   have h6:=Am bs hb a2 6 (by omega) (by omega)
   cases hc6:(Af bs a2 6==0) with
   |false =>
    rw[hc6]at h6
    have h60:=Am bs hb (a2+1) 60 (by omega) (by omega)
    cases hc60:(Af bs (a2+1) 60==0) with
    |false =>
     rw[hc60]at h60
     refine⟨L,hdr,xs,(a2+1)+1,?_⟩
     refine A5 Tryz.func74 Tryz.ntmps74 ?_
     refine A3 q9 ?_
     refine w12 (Au [] hnear) q9 ?_
     refine A3 q9 ?_
     refine w7 (A8 [] hdiff) q9 ?_
     refine A3 q9 ?_
     refine A7 (A0 [((0,0),(11,0))] [((0,0),(11,0))] h4) q9 ?_
     refine A3 q9 ?_
     refine AW (Az [(23,0)] [((0,0),(11,0))] [((0,0),(11,0))] hpk) q9 ?_
     refine A3 q9 ?_
     refine AW (Az [] [((0,0),(11,0))] [((0,0),(11,0))] hpath) q9 ?_
     refine A3 q9 ?_
     refine AW (Az [] [((0,0),(11,0))] [((0,0),(11,0))] hval) q9 ?_
     refine A3 hz1 ?_
     refine A7 (A0 [((0,0),(11,0))] [((0,0),(11,0))] h6) q9 ?_
     refine A3 q9 ?_
     refine A7 (A0 [((0,0),(11,0))] [((0,0),(11,0))] h60) q9 ?_
     refine A3 q9 ?_
     exact Ab (Aa [((0,0),(11,0))] [(32,0)]) Tryz.results74 (j2 hz hrow)
    |true =>
     rw[hc60]at h60
     refine⟨List.replicate 101 ⟨0,[],[]⟩,DF,xs,(a2+1)+1,?_⟩
     refine A5 Tryz.func74 Tryz.ntmps74 ?_
     refine A3 q9 ?_
     refine w12 (Au [] hnear) q9 ?_
     refine A3 q9 ?_
     refine w7 (A8 [] hdiff) q9 ?_
     refine A3 q9 ?_
     refine A7 (A0 [((0,0),(11,0))] [((0,0),(11,0))] h4) q9 ?_
     refine A3 q9 ?_
     refine AW (Az [(23,0)] [((0,0),(11,0))] [((0,0),(11,0))] hpk) q9 ?_
     refine A3 q9 ?_
     refine AW (Az [] [((0,0),(11,0))] [((0,0),(11,0))] hpath) q9 ?_
     refine A3 q9 ?_
     refine AW (Az [] [((0,0),(11,0))] [((0,0),(11,0))] hval) q9 ?_
     refine A3 hz1 ?_
     refine A7 (A0 [((0,0),(11,0))] [((0,0),(11,0))] h6) q9 ?_
     refine A3 q9 ?_
     refine A7 (A0 [((0,0),(11,0))] [((0,0),(11,0))] h60) q9 ?_
     refine A3 hmk ?_
     exact Ab (Aa [((0,0),(11,0))] [(47,0)]) Tryz.results74 hz
   |true =>
    rw[hc6]at h6
    obtain⟨zs,a3,hbo,hbent0⟩:=J4 bs hb (a2+1) (by omega)
    obtain⟨hb1,hb2,hb3,hb4⟩:=hbo
    have hbent:AC Tryz.prog 54 [.ptr (0,0) 0] (D6 bs (a2+1)) (.c (.sl (zs.map CellD.cs))) (D6 bs a3):=by
     exact wAS (AC.says [((0,0),(0,0))] [(0,1)] hbent0) q9
    have hdr2:=JM hdr hb2 (by omega:zs.length≤9223372036854775807)
    obtain⟨d0,l0,hd0⟩:∃d l,L=d::l:=List.exists_cons_of_ne_nil hne
    have hr0:Ae (L.map EditD.cs) 3 0=true:=by rw[hd0];rfl
    have hg0:(L.map EditD.cs)[0]? = some [.int .i64 d0.op,.sl (d0.path.map CellD.cs),.sl (d0.x.map CellD.cs)]:=by rw[hd0];rfl
    have hst:(L.map EditD.cs).set 0 [.int .i64 d0.op,.sl (d0.path.map CellD.cs),.sl (zs.map CellD.cs)]=(OK L zs).map EditD.cs:=by rw[hd0];rfl
    have h60:=Am bs hb a3 60 (by omega) (by omega)
    cases hc60:(Af bs a3 60==0) with
    |false =>
     rw[hc60]at h60
     refine⟨OK L zs,hdr2,xs,a3+1,?_⟩
     refine A5 Tryz.func74 Tryz.ntmps74 ?_
     refine A3 q9 ?_
     refine w12 (Au [] hnear) q9 ?_
     refine A3 q9 ?_
     refine w7 (A8 [] hdiff) q9 ?_
     refine A3 q9 ?_
     refine A7 (A0 [((0,0),(11,0))] [((0,0),(11,0))] h4) q9 ?_
     refine A3 q9 ?_
     refine AW (Az [(23,0)] [((0,0),(11,0))] [((0,0),(11,0))] hpk) q9 ?_
     refine A3 q9 ?_
     refine AW (Az [] [((0,0),(11,0))] [((0,0),(11,0))] hpath) q9 ?_
     refine A3 q9 ?_
     refine AW (Az [] [((0,0),(11,0))] [((0,0),(11,0))] hval) q9 ?_
     refine A3 hz1 ?_
     refine A7 (A0 [((0,0),(11,0))] [((0,0),(11,0))] h6) q9 ?_
     refine A3 q9 ?_
     refine AW (Az [] [((0,0),(11,0))] [((0,0),(11,0))] hbent) q9 ?_
     refine A3 (j4 hrow hr0 hg0 hst) ?_
     refine A7 (A0 [((0,0),(11,0))] [((0,0),(11,0))] h60) q9 ?_
     refine A3 q9 ?_
     exact Ab (Aa [((0,0),(11,0))] [(32,0)]) Tryz.results74 hz
    |true =>
     rw[hc60]at h60
     refine⟨List.replicate 101 ⟨0,[],[]⟩,DF,xs,a3+1,?_⟩
     refine A5 Tryz.func74 Tryz.ntmps74 ?_
     refine A3 q9 ?_
     refine w12 (Au [] hnear) q9 ?_
     refine A3 q9 ?_
     refine w7 (A8 [] hdiff) q9 ?_
     refine A3 q9 ?_
     refine A7 (A0 [((0,0),(11,0))] [((0,0),(11,0))] h4) q9 ?_
     refine A3 q9 ?_
     refine AW (Az [(23,0)] [((0,0),(11,0))] [((0,0),(11,0))] hpk) q9 ?_
     refine A3 q9 ?_
     refine AW (Az [] [((0,0),(11,0))] [((0,0),(11,0))] hpath) q9 ?_
     refine A3 q9 ?_
     refine AW (Az [] [((0,0),(11,0))] [((0,0),(11,0))] hval) q9 ?_
     refine A3 hz1 ?_
     refine A7 (A0 [((0,0),(11,0))] [((0,0),(11,0))] h6) q9 ?_
     refine A3 q9 ?_
     refine AW (Az [] [((0,0),(11,0))] [((0,0),(11,0))] hbent) q9 ?_
     refine A3 (j4 hrow hr0 hg0 hst) ?_
     refine A7 (A0 [((0,0),(11,0))] [((0,0),(11,0))] h60) q9 ?_
     refine A3 hmk ?_
     exact Ab (Aa [((0,0),(11,0))] [(47,0)]) Tryz.results74 hz
 ·have _h:=hRl
  cases hc4:(Af bs a0 4==0) with
  |false =>
   rw[hc4]at h4
   obtain⟨L,hL⟩:∃L,L=R:=⟨_,rfl⟩
   have hdr:Hi L:=by rw[hL];exact⟨by omega,hRo⟩
   rw[←hL]at hdiff
   by_cases hLe:L=[]
   ·have hz:decide ((L.length:Int)>0)=false:=by subst hLe;rfl
    have hlen:(L.map EditD.cs).length=L.length:=by simp
    have h60:=Am bs hb (a0+1) 60 (by omega) (by omega)
    cases hc60:(Af bs (a0+1) 60==0) with
    |false =>
     rw[hc60]at h60
     refine⟨L,hdr,xs,(a0+1)+1,?_⟩
     refine A5 Tryz.func74 Tryz.ntmps74 ?_
     refine A3 q9 ?_
     refine w12 (Au [] hnear) q9 ?_
     refine A3 q9 ?_
     refine w12 (Au [] hdiff) q9 ?_
     refine A3 q9 ?_
     refine A7 (A0 [((0,0),(11,0))] [((0,0),(11,0))] h4) q9 ?_
     refine A3 (j2 hlen hz) ?_
     refine A7 (A0 [((0,0),(11,0))] [((0,0),(11,0))] h60) q9 ?_
     refine A3 q9 ?_
     exact Ab (Aa [((0,0),(11,0))] [(17,0)]) Tryz.results74 hz
    |true =>
     rw[hc60]at h60
     refine⟨List.replicate 101 ⟨0,[],[]⟩,DF,xs,(a0+1)+1,?_⟩
     refine A5 Tryz.func74 Tryz.ntmps74 ?_
     refine A3 q9 ?_
     refine w12 (Au [] hnear) q9 ?_
     refine A3 q9 ?_
     refine w12 (Au [] hdiff) q9 ?_
     refine A3 q9 ?_
     refine A7 (A0 [((0,0),(11,0))] [((0,0),(11,0))] h4) q9 ?_
     refine A3 (j2 hlen hz) ?_
     refine A7 (A0 [((0,0),(11,0))] [((0,0),(11,0))] h60) q9 ?_
     refine A3 hmk ?_
     exact Ab (Aa [((0,0),(11,0))] [(47,0)]) Tryz.results74 hz
   ·have hne:L≠[]:=hLe
    have hz:decide ((L.length:Int)>0)=true:=decide_eq_true (by have:=List.length_pos_iff.2 hne;omega)
    have hlen:(L.map EditD.cs).length=L.length:=by simp
    have h6:=Am bs hb (a0+1) 6 (by omega) (by omega)
    cases hc6:(Af bs (a0+1) 6==0) with
    |false =>
     rw[hc6]at h6
     have h60:=Am bs hb ((a0+1)+1) 60 (by omega) (by omega)
     cases hc60:(Af bs ((a0+1)+1) 60==0) with
     |false =>
      rw[hc60]at h60
      refine⟨L,hdr,xs,((a0+1)+1)+1,?_⟩
      refine A5 Tryz.func74 Tryz.ntmps74 ?_
      refine A3 q9 ?_
      refine w12 (Au [] hnear) q9 ?_
      refine A3 q9 ?_
      refine w12 (Au [] hdiff) q9 ?_
      refine A3 q9 ?_
      refine A7 (A0 [((0,0),(11,0))] [((0,0),(11,0))] h4) q9 ?_
      refine A3 (j2 hlen hz) ?_
      refine A7 (A0 [((0,0),(11,0))] [((0,0),(11,0))] h6) q9 ?_
      refine A3 q9 ?_
      refine A7 (A0 [((0,0),(11,0))] [((0,0),(11,0))] h60) q9 ?_
      refine A3 q9 ?_
      exact Ab (Aa [((0,0),(11,0))] [(17,0)]) Tryz.results74 hz
     |true =>
      rw[hc60]at h60
      refine⟨List.replicate 101 ⟨0,[],[]⟩,DF,xs,((a0+1)+1)+1,?_⟩
      refine A5 Tryz.func74 Tryz.ntmps74 ?_
      refine A3 q9 ?_
      refine w12 (Au [] hnear) q9 ?_
      refine A3 q9 ?_
      refine w12 (Au [] hdiff) q9 ?_
      refine A3 q9 ?_
      refine A7 (A0 [((0,0),(11,0))] [((0,0),(11,0))] h4) q9 ?_
      refine A3 (j2 hlen hz) ?_
      refine A7 (A0 [((0,0),(11,0))] [((0,0),(11,0))] h6) q9 ?_
      refine A3 q9 ?_
      refine A7 (A0 [((0,0),(11,0))] [((0,0),(11,0))] h60) q9 ?_
      refine A3 hmk ?_
      exact Ab (Aa [((0,0),(11,0))] [(47,0)]) Tryz.results74 hz
    |true =>
     rw[hc6]at h6
     obtain⟨zs,a3,hbo,hbent0⟩:=J4 bs hb ((a0+1)+1) (by omega)
     obtain⟨hb1,hb2,hb3,hb4⟩:=hbo
     have hbent:AC Tryz.prog 54 [.ptr (0,0) 0] (D6 bs ((a0+1)+1)) (.c (.sl (zs.map CellD.cs))) (D6 bs a3):=by
      exact wAS (AC.says [((0,0),(0,0))] [(0,1)] hbent0) q9
     have hdr2:=JM hdr hb2 (by omega:zs.length≤9223372036854775807)
     obtain⟨d0,l0,hd0⟩:∃d l,L=d::l:=List.exists_cons_of_ne_nil hne
     have hr0:Ae (L.map EditD.cs) 3 0=true:=by rw[hd0];rfl
     have hg0:(L.map EditD.cs)[0]? = some [.int .i64 d0.op,.sl (d0.path.map CellD.cs),.sl (d0.x.map CellD.cs)]:=by rw[hd0];rfl
     have hst:(L.map EditD.cs).set 0 [.int .i64 d0.op,.sl (d0.path.map CellD.cs),.sl (zs.map CellD.cs)]=(OK L zs).map EditD.cs:=by rw[hd0];rfl
     have h60:=Am bs hb a3 60 (by omega) (by omega)
     cases hc60:(Af bs a3 60==0) with
     |false =>
      rw[hc60]at h60
      refine⟨OK L zs,hdr2,xs,a3+1,?_⟩
      refine A5 Tryz.func74 Tryz.ntmps74 ?_
      refine A3 q9 ?_
      refine w12 (Au [] hnear) q9 ?_
      refine A3 q9 ?_
      refine w12 (Au [] hdiff) q9 ?_
      refine A3 q9 ?_
      refine A7 (A0 [((0,0),(11,0))] [((0,0),(11,0))] h4) q9 ?_
      refine A3 (j2 hlen hz) ?_
      refine A7 (A0 [((0,0),(11,0))] [((0,0),(11,0))] h6) q9 ?_
      refine A3 q9 ?_
      refine AW (Az [] [((0,0),(11,0))] [((0,0),(11,0))] hbent) q9 ?_
      refine A3 (j3 hr0 hg0 hst) ?_
      refine A7 (A0 [((0,0),(11,0))] [((0,0),(11,0))] h60) q9 ?_
      refine A3 q9 ?_
      exact Ab (Aa [((0,0),(11,0))] [(17,0)]) Tryz.results74 hz
     |true =>
      rw[hc60]at h60
      refine⟨List.replicate 101 ⟨0,[],[]⟩,DF,xs,a3+1,?_⟩
      refine A5 Tryz.func74 Tryz.ntmps74 ?_
      refine A3 q9 ?_
      refine w12 (Au [] hnear) q9 ?_
      refine A3 q9 ?_
      refine w12 (Au [] hdiff) q9 ?_
      refine A3 q9 ?_
      refine A7 (A0 [((0,0),(11,0))] [((0,0),(11,0))] h4) q9 ?_
      refine A3 (j2 hlen hz) ?_
      refine A7 (A0 [((0,0),(11,0))] [((0,0),(11,0))] h6) q9 ?_
      refine A3 q9 ?_
      refine AW (Az [] [((0,0),(11,0))] [((0,0),(11,0))] hbent) q9 ?_
      refine A3 (j3 hr0 hg0 hst) ?_
      refine A7 (A0 [((0,0),(11,0))] [((0,0),(11,0))] h60) q9 ?_
      refine A3 hmk ?_
      exact Ab (Aa [((0,0),(11,0))] [(47,0)]) Tryz.results74 hz
  |true =>
   rw[hc4]at h4
   have hpk:=CI bs hb (a0+1) [1,2,1,0] (by simp) (by simp) (by omega)
   generalize D4 bs (a0+1) [1,2,1,0]=op at *
   obtain⟨P,a1,hP,ha1,ha1',hpath0⟩:=G0 bs hb (a0+2) (by omega) xs
   have hpath:AC Tryz.prog 135 [.ptr (0,0) 0,Aq xs] (D6 bs (a0+2)) (.c (.sl ((Ba P).enc.map CellD.cs))) (D6 bs a1):=by
    exact wAS (AC.says [((0,0),(0,0))] [(0,1)] hpath0) q9
   obtain⟨v1,v2,v3,v4,v5⟩:=F8 bs 1 a1
   have hB:EI 1=23:=rfl
   have hC:GR 1=4:=rfl
   have hval0:AC Tryz.prog 101 [.ptr (0,0) 0,.c (.int .i64 2)] (D6 bs a1) (.own (0,1)) (Wi bs (BH bs 1 a1)):=Ed bs hb 1 (by omega) a1 (by omega)
   have hright:(BH bs 1 a1).1.right:=⟨v1,by omega,by omega⟩
   generalize BH bs 1 a1=vr at *
   obtain⟨t,a2⟩:=vr
   dsimp only at v1 v2 v3 v4 v5 hright
   have hval:AC Tryz.prog 101 [.ptr (0,0) 0,.c (.int .i64 2)] (D6 bs a1) (.c (.sl (t.enc.map CellD.cs))) (D6 bs a2):=by
    exact wAS (AC.says [((0,0),(0,0))] [(0,1)] hval0) q9
   have hed:=Ty (op:=op) hP hright
   generalize (Ba P).enc=pe at *
   generalize t.enc=te at *
   have hol:R.length+1≤1000000:=by omega
   have hdr:=Nn ⟨hRl,hRo⟩ hed
   obtain⟨L,hL⟩:∃L,L=R++[⟨op,pe,te⟩]:=⟨_,rfl⟩
   have hrow:R.map EditD.cs++[[C.int .i64 op,C.sl (pe.map CellD.cs),C.sl (te.map CellD.cs)]]=L.map EditD.cs:=by rw[hL];simp[EditD.cs]
   have hne:L≠[]:=by rw[hL];simp
   rw[←hL]at hdr
   have hz:decide ((L.length:Int)>0)=true:=decide_eq_true (by have:=List.length_pos_iff.2 hne;omega)
   have hlen:(L.map EditD.cs).length=L.length:=by simp
   have h6:=Am bs hb a2 6 (by omega) (by omega)
   cases hc6:(Af bs a2 6==0) with
   |false =>
    rw[hc6]at h6
    have h60:=Am bs hb (a2+1) 60 (by omega) (by omega)
    cases hc60:(Af bs (a2+1) 60==0) with
    |false =>
     rw[hc60]at h60
     refine⟨L,hdr,xs,(a2+1)+1,?_⟩
     refine A5 Tryz.func74 Tryz.ntmps74 ?_
     refine A3 q9 ?_
     refine w12 (Au [] hnear) q9 ?_
     refine A3 q9 ?_
     refine w12 (Au [] hdiff) q9 ?_
     refine A3 q9 ?_
     refine A7 (A0 [((0,0),(11,0))] [((0,0),(11,0))] h4) q9 ?_
     refine A3 q9 ?_
     refine AW (Az [(23,0)] [((0,0),(11,0))] [((0,0),(11,0))] hpk) q9 ?_
     refine A3 q9 ?_
     refine AW (Az [] [((0,0),(11,0))] [((0,0),(11,0))] hpath) q9 ?_
     refine A3 q9 ?_
     refine AW (Az [] [((0,0),(11,0))] [((0,0),(11,0))] hval) q9 ?_
     refine A3 (j4 hol hlen hrow hz) ?_
     refine A7 (A0 [((0,0),(11,0))] [((0,0),(11,0))] h6) q9 ?_
     refine A3 q9 ?_
     refine A7 (A0 [((0,0),(11,0))] [((0,0),(11,0))] h60) q9 ?_
     refine A3 q9 ?_
     exact Ab (Aa [((0,0),(11,0))] [(32,0)]) Tryz.results74 hz
    |true =>
     rw[hc60]at h60
     refine⟨List.replicate 101 ⟨0,[],[]⟩,DF,xs,(a2+1)+1,?_⟩
     refine A5 Tryz.func74 Tryz.ntmps74 ?_
     refine A3 q9 ?_
     refine w12 (Au [] hnear) q9 ?_
     refine A3 q9 ?_
     refine w12 (Au [] hdiff) q9 ?_
     refine A3 q9 ?_
     refine A7 (A0 [((0,0),(11,0))] [((0,0),(11,0))] h4) q9 ?_
     refine A3 q9 ?_
     refine AW (Az [(23,0)] [((0,0),(11,0))] [((0,0),(11,0))] hpk) q9 ?_
     refine A3 q9 ?_
     refine AW (Az [] [((0,0),(11,0))] [((0,0),(11,0))] hpath) q9 ?_
     refine A3 q9 ?_
     refine AW (Az [] [((0,0),(11,0))] [((0,0),(11,0))] hval) q9 ?_
     refine A3 (j4 hol hlen hrow hz) ?_
     refine A7 (A0 [((0,0),(11,0))] [((0,0),(11,0))] h6) q9 ?_
     refine A3 q9 ?_
     refine A7 (A0 [((0,0),(11,0))] [((0,0),(11,0))] h60) q9 ?_
     refine A3 hmk ?_
     exact Ab (Aa [((0,0),(11,0))] [(47,0)]) Tryz.results74 hz
   |true =>
    rw[hc6]at h6
    obtain⟨zs,a3,hbo,hbent0⟩:=J4 bs hb (a2+1) (by omega)
    obtain⟨hb1,hb2,hb3,hb4⟩:=hbo
    have hbent:AC Tryz.prog 54 [.ptr (0,0) 0] (D6 bs (a2+1)) (.c (.sl (zs.map CellD.cs))) (D6 bs a3):=by
     exact wAS (AC.says [((0,0),(0,0))] [(0,1)] hbent0) q9
    have hdr2:=JM hdr hb2 (by omega:zs.length≤9223372036854775807)
    obtain⟨d0,l0,hd0⟩:∃d l,L=d::l:=List.exists_cons_of_ne_nil hne
    have hr0:Ae (L.map EditD.cs) 3 0=true:=by rw[hd0];rfl
    have hg0:(L.map EditD.cs)[0]? = some [.int .i64 d0.op,.sl (d0.path.map CellD.cs),.sl (d0.x.map CellD.cs)]:=by rw[hd0];rfl
    have hst:(L.map EditD.cs).set 0 [.int .i64 d0.op,.sl (d0.path.map CellD.cs),.sl (zs.map CellD.cs)]=(OK L zs).map EditD.cs:=by rw[hd0];rfl
    have h60:=Am bs hb a3 60 (by omega) (by omega)
    cases hc60:(Af bs a3 60==0) with
    |false =>
     rw[hc60]at h60
     refine⟨OK L zs,hdr2,xs,a3+1,?_⟩
     refine A5 Tryz.func74 Tryz.ntmps74 ?_
     refine A3 q9 ?_
     refine w12 (Au [] hnear) q9 ?_
     refine A3 q9 ?_
     refine w12 (Au [] hdiff) q9 ?_
     refine A3 q9 ?_
     refine A7 (A0 [((0,0),(11,0))] [((0,0),(11,0))] h4) q9 ?_
     refine A3 q9 ?_
     refine AW (Az [(23,0)] [((0,0),(11,0))] [((0,0),(11,0))] hpk) q9 ?_
     refine A3 q9 ?_
     refine AW (Az [] [((0,0),(11,0))] [((0,0),(11,0))] hpath) q9 ?_
     refine A3 q9 ?_
     refine AW (Az [] [((0,0),(11,0))] [((0,0),(11,0))] hval) q9 ?_
     refine A3 (j4 hol hlen hrow hz) ?_
     refine A7 (A0 [((0,0),(11,0))] [((0,0),(11,0))] h6) q9 ?_
     refine A3 q9 ?_
     refine AW (Az [] [((0,0),(11,0))] [((0,0),(11,0))] hbent) q9 ?_
     refine A3 (j3 hr0 hg0 hst) ?_
     refine A7 (A0 [((0,0),(11,0))] [((0,0),(11,0))] h60) q9 ?_
     refine A3 q9 ?_
     exact Ab (Aa [((0,0),(11,0))] [(32,0)]) Tryz.results74 hz
    |true =>
     rw[hc60]at h60
     refine⟨List.replicate 101 ⟨0,[],[]⟩,DF,xs,a3+1,?_⟩
     refine A5 Tryz.func74 Tryz.ntmps74 ?_
     refine A3 q9 ?_
     refine w12 (Au [] hnear) q9 ?_
     refine A3 q9 ?_
     refine w12 (Au [] hdiff) q9 ?_
     refine A3 q9 ?_
     refine A7 (A0 [((0,0),(11,0))] [((0,0),(11,0))] h4) q9 ?_
     refine A3 q9 ?_
     refine AW (Az [(23,0)] [((0,0),(11,0))] [((0,0),(11,0))] hpk) q9 ?_
     refine A3 q9 ?_
     refine AW (Az [] [((0,0),(11,0))] [((0,0),(11,0))] hpath) q9 ?_
     refine A3 q9 ?_
     refine AW (Az [] [((0,0),(11,0))] [((0,0),(11,0))] hval) q9 ?_
     refine A3 (j4 hol hlen hrow hz) ?_
     refine A7 (A0 [((0,0),(11,0))] [((0,0),(11,0))] h6) q9 ?_
     refine A3 q9 ?_
     refine AW (Az [] [((0,0),(11,0))] [((0,0),(11,0))] hbent) q9 ?_
     refine A3 (j3 hr0 hg0 hst) ?_
     refine A7 (A0 [((0,0),(11,0))] [((0,0),(11,0))] h60) q9 ?_
     refine A3 hmk ?_
     exact Ab (Aa [((0,0),(11,0))] [(47,0)]) Tryz.results74 hz
theorem QL (bs:List Nat) (hb:Bs bs):∃L,Hi L∧AC Tryz.prog 13 [.c (.sl (bs.map CO))] [] (.c (.sl (L.map EditD.cs))) []:=by
 obtain⟨L,hL,xs,a',h⟩:=T6 bs hb
 refine⟨L,hL,?_⟩
 have h1:AC Tryz.prog 36 [.c (.sl (bs.map CO))] [] (.c (.sl (L.map EditD.cs))) []:=by
  refine A5 Tryz.func36 Tryz.ntmps36 ?_
  refine A3 q9 ?_
  refine w12 (Au [] h) q9 ?_
  refine A3 q9 ?_
  exact AL (Ad []) Tryz.results36
 refine A5 Tryz.func13 Tryz.ntmps13 ?_
 refine A3 q9 ?_
 refine w9 (A6 [] h1) q9 ?_
 refine A3 q9 ?_
 exact AL (Ad []) Tryz.results13
end Go.Proofs.YtllfmaflodbieaaGreatDoor
