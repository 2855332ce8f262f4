/- Texts of this proof: D19 E41. -/
import Derived.Test.YtllfmaflodbieaaGreatDoorKD15uD18
set_option linter.all false
set_option maxHeartbeats 8000000
namespace Go.Proofs.YtllfmaflodbieaaGreatDoor
section
open Go.RowKit
set_option maxRecDepth 10000
variable {o1 o2:Obj}
theorem NC (d:DS) (p:Nat):(d.go p).pl=p:=rfl
theorem a1f (d:DS) (p:Nat):(d.go p).code=d.code:=rfl
theorem WA {s:ByteArray}(d:DS) (hd:d.pl≤s.size):(d.escape s).1<256∧d.pl≤(d.escape s).2.pl∧(d.escape s).2.pl≤s.size:=by
 have htake:∀b,b<256→d.is s b=true→b<256∧d.pl≤(d.go (d.pl+1)).pl∧(d.go (d.pl+1)).pl≤s.size:=fun b hb h=>by
  obtain⟨h1,_,_⟩:=PO hb h
  exact⟨hb,Nat.le_succ _,h1⟩
 have hp1:=L4 (s:=s) (l:=[117,48,48]) (d:=d) (by decide) hd
 obtain⟨x1,x2,x3,hp2⟩:=MQ (d.word s [117,48,48]) hp1.2
 obtain⟨y1,y2,y3,hp3⟩:=MQ ((d.word s [117,48,48]).hex s).2 hp2
 have hz:=hp1.1
 unfold DS.escape
 by_cases h1:d.is s 34=true
 ·rw[if_pos h1];exact htake 34 (by decide) h1
 rw[if_neg h1]
 by_cases h2:d.is s 92=true
 ·rw[if_pos h2];exact htake 92 (by decide) h2
 rw[if_neg h2]
 by_cases h3:d.is s 47=true
 ·rw[if_pos h3];exact htake 47 (by decide) h3
 rw[if_neg h3]
 simp only
 refine⟨by omega,?_⟩
 split
 ·omega
 ·rw[DA];omega
theorem Jp (t:ByteArray) {n:Nat}(hn:n<256):Bj (t++CN n).data.toList=Bj t.data.toList++[[.int .u8 (n:Int)]]:=by
 have hd:(t++CN n).data=t.data++#[UInt8.ofNat n]:=ByteArray.data_append
 rw[hd,Array.toList_append]
 unfold Bj
 rw[List.map_append]
 congr 1
 show [[C.int .u8 ((UInt8.ofNat n).toNat:Int)]]=_
 rw[UInt8.toNat_ofNat',Nat.mod_eq_of_lt (by omega)]
theorem QD (t:ByteArray):(Bj t.data.toList).length=t.size:=by simp[Bj]
theorem X9 (s:ByteArray) (hs:s.size≤100000) (d:DS) (hd:d.pl≤s.size):AC Tryz.prog 176 [.ptr (0,0) 0] (dsE o1 o2 s d) (.c (.str (d.str s).1)) (dsE o1 o2 s (d.str s).2):=by
 have hs':s.size≤1000000:=by omega
 have t3:=Tryz.underlying9
 have t1:=Tryz.underlying29
 have t2:=Tryz.underlying5
 have hwa:=L3 s hs' d hd 34 (by decide)
 obtain⟨w1,w2,_⟩:=Gz (s:=s) (d:=d) (b:=34) (by decide) hd
 unfold DS.str
 simp only
 obtain⟨R,hR⟩:∃R,DS.strGo s (s.size+2) (d.want s 34) ByteArray.empty=R:=⟨_,rfl⟩
 rw[hR]
 simp only[AM,BR]at hwa ⊢
 generalize d.want s 34=d0 at *
 refine A5 Tryz.func176 Tryz.ntmps176 ?_
 refine A3 q9 ?_
 refine A7 (A0 [((0,0),(0,0))] [((0,0),(0,0))] hwa) q9 ?_
 refine A3 q9 ?_
 refine AZ (κ:=DS×ByteArray) (fun k=>⟨mkS 0 98 [(0,.ptr (0,0) 0),(3,.c (.int .i64 d.pl)),(4,.own (99,0))],[((0,0),.box [.c (.str s),.c (.int .i64 k.1.pl),.c (.int .i64 k.1.code),.c (.int .i64 k.1.bad)]),((8,1),.gen (D8 o1 o2)),((99,0),.row false 1 5 (Bj k.2.data.toList))]⟩)
  (fun k=>k.1.pl≤s.size∧k.2.size≤k.1.pl∧∃n,s.size-k.1.pl+(if k.1.code=0 then 1 else 0)<n∧DS.strGo s n k.1 k.2=R) (fun k=>s.size-k.1.pl+(if k.1.code=0 then 1 else 0)) (d0,ByteArray.empty) ⟨w2,Nat.zero_le _,s.size+2,by dsimp only;split<;>omega,hR⟩ ?_ ?_
 ·have hb0:Bj ByteArray.empty.data.toList=[]:=rfl
  exact As (AH.of [((0,0),(0,0)),((8,1),(8,1)),((99,0),(9,0))] []) hb0
 ·rintro⟨q,out⟩ ⟨hq,hout,n,hn,hgo⟩
  dsimp only at hq hout hn hgo ⊢
  obtain⟨n,rfl⟩:∃m,n=m+1:=⟨n-1,by omega⟩
  unfold DS.strGo at hgo
  have hbl:=QD out
  have hexit:∀r:ByteArray×DS,(60<r.1.size→AC Tryz.prog 119 [.ptr (0,0) 0,.c (.int .i64 2),.c (.int .i64 d.pl)] (dsM s r.2) (.tup []) (dsM s (r.2.fail 2 d.pl))):=fun r _=>CT s r.2 2 d.pl
  by_cases hc:q.code=0
  ·have hcc:(q.code==0)=true:=by simpa using hc
   rw[if_neg (by simpa using hc)]at hgo
   rw[if_pos hc]at hn
   have htk:=EG s hs' q hq 34 (by decide)
   unfold DS.take at htk
   cases hi:q.is s 34 with
   |true =>
    rw[hi]at hgo htk
    simp only[if_true]at hgo htk
    subst hgo
    have hf:=CT s (q.go (q.pl+1)) 2 d.pl
    simp only
    by_cases h60:60<out.size
    ·have g60:decide ((out.size:Int)>60)=true:=decide_eq_true (by omega)
     rw[if_pos h60]
     simp only[AM]at htk hf ⊢
     generalize (q.go (q.pl+1)).fail 2 d.pl=q3 at *
     generalize q.go (q.pl+1)=q2 at *
     refine A3 hcc ?_
     refine A7 (A0 [((0,0),(0,0))] [((0,0),(0,0))] htk) q9 ?_
     refine A3 (j2 hbl g60) ?_
     refine A7 (A0 [((0,0),(0,0))] [((0,0),(0,0))] hf) q9 ?_
     refine A3 q9 ?_
     refine w5 (KH out.data.toList (y:=out) rfl t1 t2 t3) q9 ?_
     refine A3 q9 ?_
     exact Ab (Aa [((0,0),(0,0)),((8,1),(8,1))] []) Tryz.results176 hbl
    ·have g60:decide ((out.size:Int)>60)=false:=decide_eq_false (by omega)
     rw[if_neg h60]
     simp only[AM]at htk ⊢
     generalize q.go (q.pl+1)=q2 at *
     refine A3 hcc ?_
     refine A7 (A0 [((0,0),(0,0))] [((0,0),(0,0))] htk) q9 ?_
     refine A3 (j2 hbl g60) ?_
     refine w5 (KH out.data.toList (y:=out) rfl t1 t2 t3) q9 ?_
     refine A3 q9 ?_
     exact Ab (Aa [((0,0),(0,0)),((8,1),(8,1))] []) Tryz.results176 hbl
   |false =>
    rw[hi]at hgo htk
    simp only[Bool.false_eq_true,if_false,AM]at hgo htk
    by_cases hr:s.size≤q.pl∨bAt s q.pl<32∨126<bAt s q.pl
    ·rw[if_pos hr]at hgo
     have hf:=CT s q 5 q.pl
     obtain⟨q2,hq2⟩:∃q2,q.fail 5 q.pl=q2:=⟨_,rfl⟩
     have hpl:q2.pl=q.pl:=by rw[←hq2];exact DA _ _ _
     have hco:q2.code=5:=by rw[←hq2];unfold DS.fail;rw[if_pos hc]
     rw[hq2]at hf hgo
     simp only[AM]at hf
     have hnext:s.size-q2.pl+(if q2.code=0 then 1 else 0)<s.size-q.pl+(if q.code=0 then 1 else 0)∧s.size-q2.pl+(if q2.code=0 then 1 else 0)<n:=by
      rw[if_neg (by rw[hco];decide),if_pos hc,hpl];omega
     by_cases hz:s.size≤q.pl
     ·have e1:((q.pl:Int)==(s.size:Int))=true:=by simp;omega
      refine A3 hcc ?_
      refine A7 (A0 [((0,0),(0,0))] [((0,0),(0,0))] htk) q9 ?_
      refine A3 e1 ?_
      refine A7 (A0 [((0,0),(0,0))] [((0,0),(0,0))] hf) q9 ?_
      refine A3 q9 ?_
      refine⟨(q2,out),hnext.1,⟨by dsimp only;omega,by dsimp only;omega,n,hnext.2,hgo⟩,?_⟩
      exact As (AH.of [((0,0),(0,0)),((8,1),(8,1)),((99,0),(99,0))] []) q9
     ·have e1:((q.pl:Int)==(s.size:Int))=false:=by simp;omega
      obtain⟨b,hg,hb⟩:=Ea (s:=s) (i:=q.pl) (by omega)
      have hbn:((b.toNat:Nat):Int)=((bAt s q.pl:Nat):Int):=by rw[hb]
      by_cases h32:bAt s q.pl<32
      ·have g32:decide (((bAt s q.pl:Nat):Int)<32)=true:=decide_eq_true (by omega)
       refine A3 hcc ?_
       refine A7 (A0 [((0,0),(0,0))] [((0,0),(0,0))] htk) q9 ?_
       refine A3 (j4 e1 hg hbn g32) ?_
       refine A7 (A0 [((0,0),(0,0))] [((0,0),(0,0))] hf) q9 ?_
       refine A3 q9 ?_
       refine⟨(q2,out),hnext.1,⟨by dsimp only;omega,by dsimp only;omega,n,hnext.2,hgo⟩,?_⟩
       exact As (AH.of [((0,0),(0,0)),((8,1),(8,1)),((99,0),(99,0))] []) q9
      ·have g32:decide (((bAt s q.pl:Nat):Int)<32)=false:=decide_eq_false (by omega)
       have g126:decide (((bAt s q.pl:Nat):Int)>126)=true:=decide_eq_true (by omega)
       refine A3 hcc ?_
       refine A7 (A0 [((0,0),(0,0))] [((0,0),(0,0))] htk) q9 ?_
       refine A3 (j5 e1 hg hbn g32 g126) ?_
       refine A7 (A0 [((0,0),(0,0))] [((0,0),(0,0))] hf) q9 ?_
       refine A3 q9 ?_
       refine⟨(q2,out),hnext.1,⟨by dsimp only;omega,by dsimp only;omega,n,hnext.2,hgo⟩,?_⟩
       exact As (AH.of [((0,0),(0,0)),((8,1),(8,1)),((99,0),(99,0))] []) q9
    ·rw[if_neg hr]at hgo
     have hlt:q.pl<s.size:=by omega
     have e1:((q.pl:Int)==(s.size:Int))=false:=by simp;omega
     obtain⟨b,hg,hb⟩:=Ea hlt
     have hbn:((b.toNat:Nat):Int)=((bAt s q.pl:Nat):Int):=by rw[hb]
     have g32:decide (((bAt s q.pl:Nat):Int)<32)=false:=decide_eq_false (by omega)
     have g126:decide (((bAt s q.pl:Nat):Int)>126)=false:=decide_eq_false (by omega)
     have hol:out.size+1≤1000000:=by omega
     have htk2:=EG s hs' q hq 92 (by decide)
     unfold DS.take at htk2
     cases hi2:q.is s 92 with
     |true =>
      rw[hi2]at hgo htk2
      simp only[if_true]at hgo htk2
      have hp1:(q.go (q.pl+1)).pl≤s.size:=hlt
      have hesc:=UR (o1:=o1) (o2:=o2) s hs' (q.go (q.pl+1)) hp1
      obtain⟨z1,z2,z3⟩:=WA (q.go (q.pl+1)) hp1
      rw[NC]at z2
      have hrow:=Jp out z1
      obtain⟨q2,hq2⟩:∃q2,q.go (q.pl+1)=q2:=⟨_,rfl⟩
      rw[hq2]at hesc z1 z2 z3 hgo htk2 hrow
      obtain⟨q3,hq3⟩:∃q3,(q2.escape s).2=q3:=⟨_,rfl⟩
      obtain⟨c,hc3⟩:∃c,(q2.escape s).1=c:=⟨_,rfl⟩
      rw[hq3,hc3]at hesc hgo
      rw[hq3]at z2 z3
      rw[hc3]at hrow z1
      simp only[AM,BR]at htk2 hesc
      have hm:s.size-q3.pl+(if q3.code=0 then 1 else 0)<s.size-q.pl+(if q.code=0 then 1 else 0)∧s.size-q3.pl+(if q3.code=0 then 1 else 0)<n:=by
       rw[if_pos hc]
       split<;>omega
      refine A3 hcc ?_
      refine A7 (A0 [((0,0),(0,0))] [((0,0),(0,0))] htk) q9 ?_
      refine A3 (j5 e1 hg hbn g32 g126) ?_
      refine A7 (A0 [((0,0),(0,0))] [((0,0),(0,0))] htk2) q9 ?_
      refine A3 q9 ?_
      refine A7 (A0 [((0,0),(0,0)),((8,1),(8,1))] [((0,0),(0,0)),((8,1),(8,1))] hesc) q9 ?_
      refine A3 (j2 hbl hol) ?_
      refine⟨(q3,out++CN c),hm.1,⟨z3,by dsimp only;rw[H9];omega,n,hm.2,hgo⟩,?_⟩
      exact As (AH.of [((0,0),(0,0)),((8,1),(8,1)),((99,0),(89,0))] []) hrow
     |false =>
      rw[hi2]at hgo htk2
      simp only[Bool.false_eq_true,if_false,AM]at hgo htk2
      have hw:=AA (k:=q.pl) (by omega)
      have hrow:=Jp out (S5 hlt)
      have hm:s.size-(q.go (q.pl+1)).pl+(if (q.go (q.pl+1)).code=0 then 1 else 0)<s.size-q.pl+(if q.code=0 then 1 else 0)∧s.size-(q.go (q.pl+1)).pl+(if (q.go (q.pl+1)).code=0 then 1 else 0)<n:=by
       rw[a1f,if_pos hc,NC]
       omega
      refine A3 hcc ?_
      refine A7 (A0 [((0,0),(0,0))] [((0,0),(0,0))] htk) q9 ?_
      refine A3 (j5 e1 hg hbn g32 g126) ?_
      refine A7 (A0 [((0,0),(0,0))] [((0,0),(0,0))] htk2) q9 ?_
      refine A3 (j5 hg hbn hbl hol hw) ?_
      refine⟨(q.go (q.pl+1),out++CN (bAt s q.pl)),hm.1,⟨hlt,by dsimp only;rw[H9,NC];omega,n,hm.2,hgo⟩,?_⟩
      (apply (AH.of [((0,0),(0,0)),((8,1),(8,1)),((99,0),(33,0))] []);(iterate 2 ((focus (simp only[go_sem,Nat.reduceEqDiff,Nat.reduceAdd,Nat.reduceSub,Nat.reduceLeDiff,Nat.reduceMul,Nat.reduceBEq,Nat.reduceLT,Int.reduceToNat,reduceCtorEq,hrow,hw,DS.go];try (and_intros<;>rfl)));(focus exact rfl)));(iterate 4 (focus (simp[go_sem,hrow,hw,DS.go];done))))
  ·have hcc:(q.code==0)=false:=by simpa using hc
   rw[if_pos (by simpa using hc)]at hgo
   subst hgo
   have hf:=CT s q 2 d.pl
   simp only
   by_cases h60:60<out.size
   ·have g60:decide ((out.size:Int)>60)=true:=decide_eq_true (by omega)
    rw[if_pos h60]
    simp only[AM]at hf ⊢
    generalize q.fail 2 d.pl=q3 at *
    refine A3 hcc ?_
    refine A3 (j2 hbl g60) ?_
    refine A7 (A0 [((0,0),(0,0))] [((0,0),(0,0))] hf) q9 ?_
    refine A3 q9 ?_
    refine w5 (KH out.data.toList (y:=out) rfl t1 t2 t3) q9 ?_
    refine A3 q9 ?_
    exact Ab (Aa [((0,0),(0,0)),((8,1),(8,1))] []) Tryz.results176 hbl
   ·have g60:decide ((out.size:Int)>60)=false:=decide_eq_false (by omega)
    rw[if_neg h60]
    refine A3 (j3 hcc hbl g60) ?_
    refine w5 (KH out.data.toList (y:=out) rfl t1 t2 t3) q9 ?_
    refine A3 q9 ?_
    exact Ab (Aa [((0,0),(0,0)),((8,1),(8,1))] []) Tryz.results176 hbl
end
section
open Go.RowKit Go.ChangeMaps Go.MapKept Go.Maps
open Go.WideElems (Fit rd rg pl)
def C.val:C→Option Value
 | .int k n=>some (.int k n)
 | .bool b=>some (.bool b)
 | .str s=>some (.string s)
 |_=>none
theorem C.val_of {c:C}{u v:Value}{w:World}{S:Nat→Prop}{bs:List Nat}(h:c.val=some u) (hr:CR w S c v bs):v=u:=by
 cases c<;>simp only[C.val,Option.some.injEq]at h<;>first | (subst h;exact hr.1) | cases h
theorem C.val_rep {c:C}{u:Value}{w:World}{S:Nat→Prop}(h:c.val=some u):CR w S c u []:=by
 cases c<;>simp only[C.val,Option.some.injEq]at h<;>first | (subst h;exact⟨rfl,rfl⟩) | cases h
def gmD (l:List (Lit×Value)):DataW Value:=l.foldl (fun D p=>D.put p.1 (.held p.2)) (.map [])
theorem SV (l:List (Lit×Value)) (p:Lit×Value):gmD (l++[p])=(gmD l).put p.1 (.held p.2):=by
 unfold gmD
 rw[List.foldl_append]
 rfl
def Iv:List (Lit×Value)→Lit→Option Value
 | [],_=>none
 |p::r,k=>match Iv r k with
  |some v=>some v
  |none=>if p.1.sameKey k=true then some p.2 else none
theorem V3 (l:List (Lit×Value)) (p:Lit×Value) (k:Lit):Iv (l++[p]) k=if p.1.sameKey k=true then some p.2 else Iv l k:=by
 induction l with
 |nil=>simp[Iv]
 |cons q l ih =>
  simp only[List.cons_append,Iv,ih]
  by_cases h:p.1.sameKey k=true
  ·rw[if_pos h,if_pos h]
  ·rw[if_neg h,if_neg h]
theorem XN (l:List (Lit×Value)):IsMap (gmD l):=by
 suffices h:∀D:DataW Value,IsMap D→IsMap (l.foldl (fun D p=>D.put p.1 (.held p.2)) D) from h _ isMap_empty
 induction l with
 |nil=>exact fun D h=>h
 |cons p l ih=>exact fun D h=>ih _ (h.put _ _)
theorem a3t {l:List (Lit×Value)}(hk:∀p∈l,WideAt.IsKeyLit p.1) (k:Lit) (z:DataW Value):(gmD l).atKey k z=match Iv l k with | some v=>.held v | none=>z:=by
 suffices h:∀n (l:List (Lit×Value)),l.length=n→(∀p∈l,WideAt.IsKeyLit p.1)→(gmD l).atKey k z=match Iv l k with | some v=>.held v | none=>z from h _ l rfl hk
 intro n
 induction n with
 |zero =>
  intro l hl _
  rw[List.eq_nil_of_length_eq_zero hl]
  exact WideAt.atKey_none z (fun p hp=>by simp at hp)
 |succ n ih =>
  intro l hl hk
  obtain⟨p,r,rfl⟩:=HT l (by omega)
  rw[SV,V3]
  by_cases h:p.1.sameKey k=true
  ·rw[if_pos h,←WideAt.sameKey_eq h]
   exact atKey_put_same (XN r) (hk p (by simp)) _ _
  ·rw[if_neg h,atKey_put_other (fun e=>h (by rw[←e];exact WideAt.sameKey_self (by rw[e];exact hk p (by simp))))]
   exact ih r (by simpa using hl) fun q hq=>hk q (by simp[hq])
def gmR (P:Program) (kt:TypeId) (l:List (Lit×Value)):Value→List (Nat×Obj)→Prop:=fun v bl=>∃b obj,v=.map (some b)∧bl=[(b,obj)]∧(∀p∈l,WideAt.IsKeyLit p.1)∧∃es clock,obj=.map es clock∧Fit P kt RV es clock∧es.size≤l.length∧gmD l=.map ((es.toList.map (rg P kt RV)).foldr DataW.insert [])
abbrev gmA (P:Program) (kt:TypeId) (l:List (Lit×Value)):AO:=.gen (gmR P kt l)
section
variable {P:Program} {o:Oper} {σ:ASt} {kt et:TypeId}
theorem Yz {ty:TypeId}{fr:Id}(ho:o.op=.makeMap ty none) (hf:σ.mem.get fr=none):An P o σ ⟨[],[(fr,gmA P kt [])],.own fr⟩:=by
 intro Γ σ' a w ow κ hag hr
 have hf':σ'.mem.get fr=none:=by rw[hag.2.2 fr (by simp),hf]
 have st:Step σ'.mem [(fr,gmA P kt [])] w ow κ (w.alloc (.map #[] 0)) (D3 ow [] fr (some w.heap.size)) (CE κ fr (.map (some w.heap.size))) :=
  Step.make (ks:=[]) rfl rfl rfl (by simp) hf' (by simp) rfl (fun b hb _=>Below.heap_alloc w _ b hb) (fun b hb=>by cases hb;exact⟨by simp,.inl (Nat.le_refl _)⟩) hr.owns
 refine⟨.map (some w.heap.size),_,_,_,.inl (by unfold execOp;rw[ho];rfl),hr.step (E:=⟨[],[(fr,gmA P kt [])],.own fr⟩) st ⟨rfl,gmA P kt [],C1 (ks:=[]) (by simp),fun _=>by simp[CE]⟩ (fun i hi o' ho'=>?_) o.dst⟩
 have hi':i=fr:=by simpa using hi
 subst hi'
 cases (C1 (m:=σ'.mem) (ks:=[]) (fr:=i) (obj:=gmA P kt []) (by simp)).symm.trans ho'
 obtain⟨es,clock,g1,g2,g3,g4⟩:=World.ownsMap_made w P kt RV
 refine⟨[(w.heap.size,.map es clock)],fun p hp=>?_,w.heap.size,_,by simp[CE],rfl,by simp,es,clock,rfl,g2,g3,g4⟩
 have:p=(w.heap.size,.map es clock):=by simpa using hp
 subst this
 exact⟨by simp[D3],g1⟩
theorem Qf {m x y:Operand}{i:Id}{l:List (Lit×Value)}{cx cy:C}{key val:Value}{kl:Lit}{ty:TypeId}(ho:o.op=.mapUpdate ty m x y∨o.op=.insert ty m x y) (hm:σ.ev m=.own i) (hx:σ.ev x=.c cx) (hxv:cx.val=some key) (hy:σ.ev y=.c cy) (hyv:cy.val=some val)
  (ht:P.underlying ty=some (.map kt et)) (hK:Keyed P kt) (hkey:keyOf P kt key=some kl) (hkl:WideAt.IsKeyLit kl) (hi:σ.mem.get i=some (gmA P kt l)) (hn:l.length<9223372036854775807) :
  An P o σ ⟨[],[(i,gmA P kt (l++[(kl,val)]))],.skip⟩:=by
 have hop:∀z,z=m∨z=x∨z=y→z∈o.op.operands:=fun z hz=>by
  rcases ho with ho | ho<;>(rw[ho];simpa [Op.operands] using hz)
 intro Γ σ' a w ow κ hag hr
 have hi':σ'.mem.get i=some (gmA P kt l):=by rw[hag.2.2 i (by simp),hi]
 obtain⟨_,o1,k1,k2⟩:=hag.ev hr (hop m (.inl rfl)) hm
 rw[hi']at k1
 cases k1
 have e1:=k2 (by simp)
 have e2:=C.val_of hxv (hag.ev hr (hop x (.inr (.inl rfl))) hx)
 have e3:=C.val_of hyv (hag.ev hr (hop y (.inr (.inr rfl))) hy)
 obtain⟨bl,g1,b,obj,g2,rfl,g3,es,clock,rfl,g4,g5,g6⟩:=hr.objs i _ hi'
 obtain⟨hob,hb⟩:=g1 (b,.map es clock) (by simp)
 have hown:w.ownsMap P kt RV b l.length (gmD l):=⟨es,clock,hb,g4,g5,g6⟩
 have hmx:maxLen=9223372036854775807:=rfl
 obtain⟨w',hrun,r1,r2⟩:=hown.update hK ht (by rw[hmx];exact hn) (key:=key) (val:=val) hkey (d:=.held val) (ps:=[]) rfl
 have st:Step σ'.mem [(i,gmA P kt (l++[(kl,val)]))] w ow κ w' ow κ :=
  Step.turn r2.os r2.tape r2.output r2.size hi' rfl rfl (fun b' hb' hne=>r2.block b' hb' (fun e=>hne (by cases e;exact hob))) (fun b i hb=>(hr.own b i hb).1)
 refine⟨undef,w',ow,κ,.inr ⟨?_,rfl⟩,hr.step (E:=⟨[],[(i,gmA P kt (l++[(kl,val)]))],.skip⟩) st rfl (fun j hj o' ho'=>?_) o.dst⟩
 ·rw[←e1]at g2
  unfold execOp
  rcases ho with ho | ho
  ·rw[ho]
   simp[g2,e2,e3,hrun]
  ·rw[ho]
   simp[g2,e2,e3,hrun]
 ·have hji:j=i:=by simpa using hj
  subst hji
  have:o'=gmA P kt (l++[(kl,val)]):=by
   have:(σ'.mem.puts [(j,gmA P kt (l++[(kl,val)]))]).get j=some o':=ho'
   simp[Mem.puts,Mem.get_put]at this
   exact this.symm
  subst this
  obtain⟨es',clock',f1,f2,f3,f4⟩:=r1
  refine⟨[(b,.map es' clock')],fun p hp=>?_,b,_,g2,rfl,fun p hp=>?_,es',clock',rfl,f2,by simpa using f3,by rw[SV];exact f4⟩
  ·have:p=(b,.map es' clock'):=by simpa using hp
   subst this
   exact⟨hob,f1⟩
  ·rcases List.mem_append.1 hp with hp | hp
   ·exact g3 p hp
   ·rw[List.mem_singleton.1 hp];exact hkl
theorem Yy {m x:Operand}{i:Id}{l:List (Lit×Value)}{cx c:C}{key u z:Value}{kl:Lit}{ty:TypeId}(ho:o.op=.lookup ty m x false) (hm:σ.ev m=.own i) (hx:σ.ev x=.c cx) (hxv:cx.val=some key)
  (ht:P.underlying ty=some (.map kt et)) (hK:Keyed P kt) (hkey:keyOf P kt key=some kl) (hz:∀w,(zeroValue et).run P w=.ok z w) (hi:σ.mem.get i=some (gmA P kt l)) (hg:(Iv l kl).getD z=u) (hc:c.val=some u):An P o σ ⟨[i],[],.c c⟩:=by
 refine An.pure fun Γ σ' a w ow κ hag hr=>?_
 have hi':σ'.mem.get i=some (gmA P kt l):=by rw[hag.2.1 i (by simp),hi]
 obtain⟨_,o1,k1,k2⟩:=hag.ev hr (by rw[ho];simp[Op.operands]) hm
 rw[hi']at k1
 cases k1
 have e1:=k2 (by simp)
 have e2:=C.val_of hxv (hag.ev hr (by rw[ho];simp[Op.operands]) hx)
 obtain⟨bl,g1,b,obj,g2,rfl,g3,es,clock,rfl,g4,g5,g6⟩:=hr.objs i _ hi'
 obtain⟨hob,hb⟩:=g1 (b,.map es clock) (by simp)
 have hown:w.ownsMap P kt RV b l.length (gmD l):=⟨es,clock,hb,g4,g5,g6⟩
 obtain⟨v,ps,hrun,hat⟩:=hown.lookup hK ht (hz w) (zd:=.held z) (zp:=[]) rfl (key:=key) hkey
 rw[a3t g3]at hat
 have hve:v=u:=by
  have h1:RV v=some (match Iv l kl with | some v=>.held v | none=>.held z,ps):=hat
  rw[←hg]
  cases hq:Iv l kl with
  |none=>rw[hq]at h1;simpa [RV] using (Prod.mk.inj (Option.some.inj h1)).1
  |some v'=>rw[hq]at h1;simpa [RV] using (Prod.mk.inj (Option.some.inj h1)).1
 subst hve
 refine⟨v,?_,C.val_rep hc⟩
 rw[←e1]at g2
 unfold execOp
 rw[ho]
 simp[g2,e2,hrun]
end
section
variable {P:Program} {σ τ:ASt} {ops:Array Oper} {r:List Oper} {fs:List AEff} {K:ASt→List AEff→Prop} {E:AEff} {kt et:TypeId} {d:Option Tmp} {ty ty':TypeId} {pos:String} {af:Array Edge} {gd:Option (Nat×Bool)}
theorem TD (kt:TypeId) (hg:BM ops σ ⟨d,.makeMap ty none,ty',pos,af,gd⟩=some true) (hf:σ.mem.get (σ.fresh ⟨d,.makeMap ty none,ty',pos,af,gd⟩)=none)
  (he:(⟨[],[(σ.fresh ⟨d,.makeMap ty none,ty',pos,af,gd⟩,gmA P kt [])],.own (σ.fresh ⟨d,.makeMap ty none,ty',pos,af,gd⟩)⟩:AEff)=E) (hτ:σ.upd d E=τ) (h:Ah P ops r τ (fs++[E]) K):Ah P ops (⟨d,.makeMap ty none,ty',pos,af,gd⟩::r) σ fs K:=by
 subst he
 exact BV hg (Yz (kt:=kt) rfl hf).sound hτ h
theorem Gs {m x y:Operand}{i:Id}{l:List (Lit×Value)}{cx cy:C}{key val:Value}{kl:Lit}(ht:P.underlying ty=some (.map kt et)) (hK:Keyed P kt) (hkl:WideAt.IsKeyLit kl) (hn:l.length<9223372036854775807) (hxv:cx.val=some key) (hyv:cy.val=some val) (hkey:keyOf P kt key=some kl)
  (hg:BM ops σ ⟨d,.insert ty m x y,ty',pos,af,gd⟩=some true) (hm:σ.ev m=.own i) (hx:σ.ev x=.c cx) (hy:σ.ev y=.c cy) (hi:σ.mem.get i=some (gmA P kt l))
  (he:(⟨[],[(i,gmA P kt (l++[(kl,val)]))],.skip⟩:AEff)=E) (hτ:σ.upd d E=τ) (h:Ah P ops r τ (fs++[E]) K):Ah P ops (⟨d,.insert ty m x y,ty',pos,af,gd⟩::r) σ fs K:=by
 subst he
 exact BV hg (Qf (.inr rfl) hm hx hxv hy hyv ht hK hkey hkl hi hn).sound hτ h
theorem a5b {m x y:Operand}{i:Id}{l:List (Lit×Value)}{cx cy:C}{key val:Value}{kl:Lit}(ht:P.underlying ty=some (.map kt et)) (hK:Keyed P kt) (hkl:WideAt.IsKeyLit kl) (hn:l.length<9223372036854775807) (hxv:cx.val=some key) (hyv:cy.val=some val) (hkey:keyOf P kt key=some kl)
  (hg:BM ops σ ⟨d,.mapUpdate ty m x y,ty',pos,af,gd⟩=some true) (hm:σ.ev m=.own i) (hx:σ.ev x=.c cx) (hy:σ.ev y=.c cy) (hi:σ.mem.get i=some (gmA P kt l))
  (he:(⟨[],[(i,gmA P kt (l++[(kl,val)]))],.skip⟩:AEff)=E) (hτ:σ.upd d E=τ) (h:Ah P ops r τ (fs++[E]) K):Ah P ops (⟨d,.mapUpdate ty m x y,ty',pos,af,gd⟩::r) σ fs K:=by
 subst he
 exact BV hg (Qf (.inl rfl) hm hx hxv hy hyv ht hK hkey hkl hi hn).sound hτ h
theorem TC {m x:Operand}{i:Id}{l:List (Lit×Value)}{cx c:C}{key u z:Value}{kl:Lit}(ht:P.underlying ty=some (.map kt et)) (hK:Keyed P kt) (hz:∀w,(zeroValue et).run P w=.ok z w) (hxv:cx.val=some key) (hkey:keyOf P kt key=some kl) (hgv:(Iv l kl).getD z=u) (hc:c.val=some u)
  (hg:BM ops σ ⟨d,.lookup ty m x false,ty',pos,af,gd⟩=some true) (hm:σ.ev m=.own i) (hx:σ.ev x=.c cx) (hi:σ.mem.get i=some (gmA P kt l))
  (he:(⟨[i],[],.c c⟩:AEff)=E) (hτ:σ.upd d E=τ) (h:Ah P ops r τ (fs++[E]) K):Ah P ops (⟨d,.lookup ty m x false,ty',pos,af,gd⟩::r) σ fs K:=by
 subst he
 exact BV hg (Yy rfl hm hx hxv ht hK hkey hz hi hgv hc).sound hτ h
end
end
end Go.Proofs.YtllfmaflodbieaaGreatDoor
