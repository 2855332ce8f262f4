/- impl.coreLooked by the engine: how deep a tree is and whether its variables are known. -/
import Derived.Test.YtcejfdfmgmcinaaGreatKK11
set_option linter.all false
set_option maxHeartbeats 8000000
namespace Go.Proofs.YtcejfdfmgmcinaaGreat
open Go.RowKit
set_option maxRecDepth 10000
def Oz (l:List Int):AV:=if l=[] then .nils else Cr l
theorem Wd:Oz []=.nils:=rfl
theorem DY {l:List Int}(h:l≠[]):Oz l=Cr l:=by unfold Oz;rw[if_neg h]
theorem HQ {kids:List CT}{k:Nat}(h:k<kids.length):AX (kids.drop k)=max kids[k].depth (AX (kids.drop (k+1))):=by
 rw[List.drop_eq_getElem_cons h,AX]
theorem Jg (op num:Int) (k:Nat) (slots:List Int):Dn op num k slots=if ((op==14&&k==1)||(op==13&&k==2))=true then slots++[num] else slots:=by
 unfold Dn
 simp
theorem JF {L:List CoD}(hz:L.length≤900):∀(n:Nat) (t:CT) (b:Nat) (slots:List Int),t.size≤n→t.ok→Seg L b t→slots.length+n≤2000 →
  AC Tryz.prog 138 [AE L,.c (.int .i64 (b+t.size-1:Nat)),Oz slots] [] (.tup [.c (.int .i64 (t.depth:Nat)),.c (.bool (t.known slots))]) []
 | 0,t,b,slots,hn,_,_,_=>by have:=t.size_pos;omega
 |n+1,.mk op num val kids,b,slots,hn,ho,hs,hsl=>by
  have ih:=JF hz n
  obtain⟨hi,hat⟩:=WY hs
  have hss:=hs.kids
  have hdep:(CT.mk op num val kids).depth=AX kids+1:=rfl
  have hdz:=HN kids
  unfold CT.ok at ho
  obtain⟨hno,hl,hk⟩:=ho
  have hal:=Bx op
  obtain⟨hr0,hg0⟩:=EJ L hi
  rw[hat]at hg0
  have hends:=F2 kids b
  have hke:=fun k e=>@T1 op num val (Az b kids) k e
  rw[CT.size]at hn ⊢
  rw[show b+(Ah kids+1)-1=b+Ah kids by omega,hdep]
  obtain⟨i,hi'⟩:∃i,i=b+Ah kids:=⟨_,rfl⟩
  rw[←hi']at hr0 hg0 ⊢
  have e1:(B9 op num val (Az b kids)).op=op:=rfl
  have e2:(B9 op num val (Az b kids)).num=num:=rfl
  have e3:(B9 op num val (Az b kids)).val=val:=rfl
  have hkn:=fun k=>@FU (B9 op num val (Az b kids)) k
  have hnm:=O8 (B9 op num val (Az b kids)) hno.kind.1 hno.kind.2
  have hbd:=ZF (B9 op num val (Az b kids))
  have hnl:=CoD.named_len (B9 op num val (Az b kids))
  unfold CoD.av at hnm hbd
  rw[e1,e2,e3]at hg0 hnm
  simp only[e1,e2,e3]at hbd hkn hnl
  generalize B9 op num val (Az b kids)=d at *
  obtain⟨R,hR⟩:∃R,(CT.mk op num val kids).known slots=R:=⟨_,rfl⟩
  obtain⟨B0,hB0,hB1,hC⟩:∃B0,(B0&&Cq op num 0 (kids.drop 0) slots)=R∧(op=15→slots.contains num=B0)∧(op≠15→B0=true):=by
   by_cases h:op=15
   ·subst h
    have:kids=[]:=List.eq_nil_of_length_eq_zero (by rw[hl];rfl)
    subst this
    refine⟨slots.contains num,?_,fun _=>rfl,fun h=>absurd rfl h⟩
    rw[←hR,CT.known,if_pos rfl]
    simp[Cq]
   ·refine⟨true,?_,fun h'=>absurd h' h,fun _=>rfl⟩
    rw[←hR,CT.known,if_neg h,Bool.true_and,List.drop_zero]
  rw[hR]
  rw[←hl]at hnl
  clear hR hdep e1 e2 e3 hat hi
  by_cases h0:slots=[]
  ·have hs0:Oz slots=.nils:=by rw[h0];rfl
   rw[hs0]
   by_cases h15:op=15
   ·have k15:(op != 15)=false:=JB h15
    have hcon:=QH num
    have hb0:=hB1 h15
    have hb0:false=B0:=by rw[←hb0,h0];rfl
    subst hb0
    refine A6 Tryz.func138 Tryz.ntmps138 (j3 hr0 hg0 k15) ?_
    refine v7 (A3 [] hcon) q9 q9 ?_
    refine v12 (AU [] hnm) q9 hnl ?_
    refine Ar (κ:=Nat×Nat×Bool) (fun x=>⟨mkS 0 65 [(0,AE L),(1,.c (.int .i64 i)),(2,.nils),(8,.ptr (8,0) 0),(9,.c (.int .i64 (x.2.1:Nat))),(10,.c (.bool x.2.2)),(30,.own (30,0)),(31,.c (.int .i64 kids.length)),(32,.c (.int .i64 x.1))],
      [((8,0),.box [.c (.int .i64 op),.c (.int .i64 d.a),.c (.int .i64 d.b),.c (.int .i64 d.c),.c (.int .i64 num),.c (.sl (val.map CellD.cs))]),((30,0),.row false 1 2 (d.named.map As))]⟩)
     (fun x=>x.1≤kids.length∧max x.2.1 (AX (kids.drop x.1))=AX kids∧(x.2.2&&Cq op num x.1 (kids.drop x.1) slots)=R) (fun x=>kids.length-x.1) (0,0,false) ⟨Nat.zero_le _,by rw[List.drop_zero];exact Nat.zero_max _,hB0⟩ ?_ ?_
    ·exact Ac (Aj.of [((8,0),(8,0)),((30,0),(30,0))] []) hnl
    ·rintro⟨k,D,B⟩ ⟨hk1,hk2,hk3⟩
     dsimp only at hk1 hk2 hk3 ⊢
     by_cases hlt:k<kids.length
     ·have hd:decide ((k:Int)<(kids.length:Int))=true:=decide_eq_true (by omega)
      obtain⟨hr1,hg1⟩:=D2 d.named (k:=k) (by omega)
      have hw:=Ad (k:=k) (by omega)
      have hkd:=hkn k (by omega)
      have hb:=hbd k
      rw[hke k _ (hends k hlt) (by omega)]at hkd
      rw[List.getElem?_map,hkd]at hg1
      have hg1:(d.named.map As)[k]? = some [.int .i64 ((b+Ah (kids.take k)+kids[k].size-1:Nat):Int)]:=by rw[List.getElem?_map,hkd];rfl
      have hsz:=Et (List.getElem_mem hlt)
      have hil:=Gg op num k slots
      have hrec:=ih kids[k] (b+Ah (kids.take k)) (Dn op num k slots) (by omega) (B4.1 hk _ (List.getElem_mem hlt)) (Fw kids b k hlt hss) (by omega)
      rw[HQ hlt]at hk2
      rw[Gi hlt]at hk3
      rw[Jg]at hrec hk3
      generalize b+Ah (kids.take k)+kids[k].size-1=e,kids[k].depth=dk at *
      have hmx:(if (dk:Int)>(D:Int) then (dk:Int) else (D:Int))=((max D dk:Nat):Int):=by split<;>omega
      have hD:max (max D dk) (AX (kids.drop (k+1)))=AX kids:=by omega
      have hol:slots.length+1≤1000000:=by omega
      generalize hrw:d.named.map As=rows at *
      cases hq:((op==14&&k==1)||(op==13&&k==2)) with
      |false =>
       rw[hq]at hb hrec hk3
       rw[if_neg (by decide)]at hrec hk3
       rw[hs0]at hrec
       generalize kids[k].known slots=bk at *
       cases B
       ·refine Ab (j3 hd hr1 hg1) ?_
        refine v7 (A3 [] hb) q9 q9 ?_
        refine v7 (A3 [] hrec) q9 (j2 hmx hw) ?_
        refine⟨(k+1,max D dk,false),by dsimp only;omega,⟨by dsimp only;omega,hD,by simpa using hk3⟩,?_⟩
        exact Ac (Aj.of [((8,0),(8,0)),((30,0),(30,0))] []) hw
       ·refine Ab (j3 hd hr1 hg1) ?_
        refine v7 (A3 [] hb) q9 q9 ?_
        refine v7 (A3 [] hrec) q9 (j2 hmx hw) ?_
        refine⟨(k+1,max D dk,bk),by dsimp only;omega,⟨by dsimp only;omega,hD,by simpa using hk3⟩,?_⟩
        exact Ac (Aj.of [((8,0),(8,0)),((30,0),(30,0))] []) hw
      |true =>
       rw[hq]at hb hrec hk3
       rw[if_pos rfl]at hrec hk3
       rw[DY (by simp)]at hrec
       have hrow:[[C.int .i64 num]]=(slots++[num]).map As:=by rw[h0];rfl
       have hin1:(slots++[num]).length≤1000000:=by rw[List.length_append,List.length_singleton];omega
       have hin0:0+(slots++[num]).length≤1000000:=by rw[Nat.zero_add];exact hin1
       have hall:(((slots++[num]).map As).all fun r=>r.length==1)=true:=by simp[As]
       generalize slots++[num]=inn at *
       generalize kids[k].known inn=bk at *
       cases B
       ·refine Ab (j3 hd hr1 hg1) ?_
        refine v7 (A3 [] hb) q9 q9 ?_
        refine v7 (A3 [] HH) q9 @List.nil_append.{0} ?_
        refine v7 (A3 [(46,0)] hrec) hrow (j2 hmx hw) ?_
        refine⟨(k+1,max D dk,false),by dsimp only;omega,⟨by dsimp only;omega,hD,by simpa using hk3⟩,?_⟩
        exact Ac (Aj.of [((8,0),(8,0)),((30,0),(30,0))] []) hw
       ·refine Ab (j3 hd hr1 hg1) ?_
        refine v7 (A3 [] hb) q9 q9 ?_
        refine v7 (A3 [] HH) q9 @List.nil_append.{0} ?_
        refine v7 (A3 [(46,0)] hrec) hrow (j2 hmx hw) ?_
        refine⟨(k+1,max D dk,bk),by dsimp only;omega,⟨by dsimp only;omega,hD,by simpa using hk3⟩,?_⟩
        exact Ac (Aj.of [((8,0),(8,0)),((30,0),(30,0))] []) hw
     ·have hd:decide ((k:Int)<(kids.length:Int))=false:=decide_eq_false (by omega)
      rw[List.drop_eq_nil_of_le (by omega)]at hk2 hk3
      have hDe:D=AX kids:=by rw[←hk2];simp[AX]
      have hBe:B=R:=by rw[←hk3];simp[Cq]
      subst hBe
      have hw2:IntKind.i64.wrap ((D:Int)+1)=((D+1:Nat):Int):=by rw[IntWalk.i64_in _ (by omega)];omega
      rw[←hDe]
      generalize hrw:d.named.map As=rows at *
      exact FC (j2 hd hw2) (A5 []) Tryz.results138
   ·have k15:(op != 15)=true:=E9 h15
    obtain rfl:=hC h15
    refine A6 Tryz.func138 Tryz.ntmps138 (j3 hr0 hg0 k15) ?_
    refine v12 (AU [] hnm) q9 hnl ?_
    refine Ar (κ:=Nat×Nat×Bool) (fun x=>⟨mkS 0 65 [(0,AE L),(1,.c (.int .i64 i)),(2,.nils),(8,.ptr (8,0) 0),(9,.c (.int .i64 (x.2.1:Nat))),(10,.c (.bool x.2.2)),(30,.own (30,0)),(31,.c (.int .i64 kids.length)),(32,.c (.int .i64 x.1))],
      [((8,0),.box [.c (.int .i64 op),.c (.int .i64 d.a),.c (.int .i64 d.b),.c (.int .i64 d.c),.c (.int .i64 num),.c (.sl (val.map CellD.cs))]),((30,0),.row false 1 2 (d.named.map As))]⟩)
     (fun x=>x.1≤kids.length∧max x.2.1 (AX (kids.drop x.1))=AX kids∧(x.2.2&&Cq op num x.1 (kids.drop x.1) slots)=R) (fun x=>kids.length-x.1) (0,0,true) ⟨Nat.zero_le _,by rw[List.drop_zero];exact Nat.zero_max _,hB0⟩ ?_ ?_
    ·exact Ac (Aj.of [((8,0),(8,0)),((30,0),(30,0))] []) hnl
    ·rintro⟨k,D,B⟩ ⟨hk1,hk2,hk3⟩
     dsimp only at hk1 hk2 hk3 ⊢
     by_cases hlt:k<kids.length
     ·have hd:decide ((k:Int)<(kids.length:Int))=true:=decide_eq_true (by omega)
      obtain⟨hr1,hg1⟩:=D2 d.named (k:=k) (by omega)
      have hw:=Ad (k:=k) (by omega)
      have hkd:=hkn k (by omega)
      have hb:=hbd k
      rw[hke k _ (hends k hlt) (by omega)]at hkd
      rw[List.getElem?_map,hkd]at hg1
      have hg1:(d.named.map As)[k]? = some [.int .i64 ((b+Ah (kids.take k)+kids[k].size-1:Nat):Int)]:=by rw[List.getElem?_map,hkd];rfl
      have hsz:=Et (List.getElem_mem hlt)
      have hil:=Gg op num k slots
      have hrec:=ih kids[k] (b+Ah (kids.take k)) (Dn op num k slots) (by omega) (B4.1 hk _ (List.getElem_mem hlt)) (Fw kids b k hlt hss) (by omega)
      rw[HQ hlt]at hk2
      rw[Gi hlt]at hk3
      rw[Jg]at hrec hk3
      generalize b+Ah (kids.take k)+kids[k].size-1=e,kids[k].depth=dk at *
      have hmx:(if (dk:Int)>(D:Int) then (dk:Int) else (D:Int))=((max D dk:Nat):Int):=by split<;>omega
      have hD:max (max D dk) (AX (kids.drop (k+1)))=AX kids:=by omega
      have hol:slots.length+1≤1000000:=by omega
      generalize hrw:d.named.map As=rows at *
      cases hq:((op==14&&k==1)||(op==13&&k==2)) with
      |false =>
       rw[hq]at hb hrec hk3
       rw[if_neg (by decide)]at hrec hk3
       rw[hs0]at hrec
       generalize kids[k].known slots=bk at *
       cases B
       ·refine Ab (j3 hd hr1 hg1) ?_
        refine v7 (A3 [] hb) q9 q9 ?_
        refine v7 (A3 [] hrec) q9 (j2 hmx hw) ?_
        refine⟨(k+1,max D dk,false),by dsimp only;omega,⟨by dsimp only;omega,hD,by simpa using hk3⟩,?_⟩
        exact Ac (Aj.of [((8,0),(8,0)),((30,0),(30,0))] []) hw
       ·refine Ab (j3 hd hr1 hg1) ?_
        refine v7 (A3 [] hb) q9 q9 ?_
        refine v7 (A3 [] hrec) q9 (j2 hmx hw) ?_
        refine⟨(k+1,max D dk,bk),by dsimp only;omega,⟨by dsimp only;omega,hD,by simpa using hk3⟩,?_⟩
        exact Ac (Aj.of [((8,0),(8,0)),((30,0),(30,0))] []) hw
      |true =>
       rw[hq]at hb hrec hk3
       rw[if_pos rfl]at hrec hk3
       rw[DY (by simp)]at hrec
       have hrow:[[C.int .i64 num]]=(slots++[num]).map As:=by rw[h0];rfl
       have hin1:(slots++[num]).length≤1000000:=by rw[List.length_append,List.length_singleton];omega
       have hin0:0+(slots++[num]).length≤1000000:=by rw[Nat.zero_add];exact hin1
       have hall:(((slots++[num]).map As).all fun r=>r.length==1)=true:=by simp[As]
       generalize slots++[num]=inn at *
       generalize kids[k].known inn=bk at *
       cases B
       ·refine Ab (j3 hd hr1 hg1) ?_
        refine v7 (A3 [] hb) q9 q9 ?_
        refine v7 (A3 [] HH) q9 @List.nil_append.{0} ?_
        refine v7 (A3 [(46,0)] hrec) hrow (j2 hmx hw) ?_
        refine⟨(k+1,max D dk,false),by dsimp only;omega,⟨by dsimp only;omega,hD,by simpa using hk3⟩,?_⟩
        exact Ac (Aj.of [((8,0),(8,0)),((30,0),(30,0))] []) hw
       ·refine Ab (j3 hd hr1 hg1) ?_
        refine v7 (A3 [] hb) q9 q9 ?_
        refine v7 (A3 [] HH) q9 @List.nil_append.{0} ?_
        refine v7 (A3 [(46,0)] hrec) hrow (j2 hmx hw) ?_
        refine⟨(k+1,max D dk,bk),by dsimp only;omega,⟨by dsimp only;omega,hD,by simpa using hk3⟩,?_⟩
        exact Ac (Aj.of [((8,0),(8,0)),((30,0),(30,0))] []) hw
     ·have hd:decide ((k:Int)<(kids.length:Int))=false:=decide_eq_false (by omega)
      rw[List.drop_eq_nil_of_le (by omega)]at hk2 hk3
      have hDe:D=AX kids:=by rw[←hk2];simp[AX]
      have hBe:B=R:=by rw[←hk3];simp[Cq]
      subst hBe
      have hw2:IntKind.i64.wrap ((D:Int)+1)=((D+1:Nat):Int):=by rw[IntWalk.i64_in _ (by omega)];omega
      rw[←hDe]
      generalize hrw:d.named.map As=rows at *
      exact FC (j2 hd hw2) (A5 []) Tryz.results138
  ·rw[DY h0]
   by_cases h15:op=15
   ·have k15:(op != 15)=false:=JB h15
    have hcon:=IF slots num (by omega)
    have hb0:=hB1 h15
    rw[hb0]at hcon
    refine A6 Tryz.func138 Tryz.ntmps138 (j3 hr0 hg0 k15) ?_
    refine v7 (A3 [] hcon) q9 q9 ?_
    refine v12 (AU [] hnm) q9 hnl ?_
    refine Ar (κ:=Nat×Nat×Bool) (fun x=>⟨mkS 0 65 [(0,AE L),(1,.c (.int .i64 i)),(2,Cr slots),(8,.ptr (8,0) 0),(9,.c (.int .i64 (x.2.1:Nat))),(10,.c (.bool x.2.2)),(30,.own (30,0)),(31,.c (.int .i64 kids.length)),(32,.c (.int .i64 x.1))],
      [((8,0),.box [.c (.int .i64 op),.c (.int .i64 d.a),.c (.int .i64 d.b),.c (.int .i64 d.c),.c (.int .i64 num),.c (.sl (val.map CellD.cs))]),((30,0),.row false 1 2 (d.named.map As))]⟩)
     (fun x=>x.1≤kids.length∧max x.2.1 (AX (kids.drop x.1))=AX kids∧(x.2.2&&Cq op num x.1 (kids.drop x.1) slots)=R) (fun x=>kids.length-x.1) (0,0,B0) ⟨Nat.zero_le _,by rw[List.drop_zero];exact Nat.zero_max _,hB0⟩ ?_ ?_
    ·exact Ac (Aj.of [((8,0),(8,0)),((30,0),(30,0))] []) hnl
    ·rintro⟨k,D,B⟩ ⟨hk1,hk2,hk3⟩
     dsimp only at hk1 hk2 hk3 ⊢
     by_cases hlt:k<kids.length
     ·have hd:decide ((k:Int)<(kids.length:Int))=true:=decide_eq_true (by omega)
      obtain⟨hr1,hg1⟩:=D2 d.named (k:=k) (by omega)
      have hw:=Ad (k:=k) (by omega)
      have hkd:=hkn k (by omega)
      have hb:=hbd k
      rw[hke k _ (hends k hlt) (by omega)]at hkd
      rw[List.getElem?_map,hkd]at hg1
      have hg1:(d.named.map As)[k]? = some [.int .i64 ((b+Ah (kids.take k)+kids[k].size-1:Nat):Int)]:=by rw[List.getElem?_map,hkd];rfl
      have hsz:=Et (List.getElem_mem hlt)
      have hil:=Gg op num k slots
      have hrec:=ih kids[k] (b+Ah (kids.take k)) (Dn op num k slots) (by omega) (B4.1 hk _ (List.getElem_mem hlt)) (Fw kids b k hlt hss) (by omega)
      rw[HQ hlt]at hk2
      rw[Gi hlt]at hk3
      rw[Jg]at hrec hk3
      generalize b+Ah (kids.take k)+kids[k].size-1=e,kids[k].depth=dk at *
      have hmx:(if (dk:Int)>(D:Int) then (dk:Int) else (D:Int))=((max D dk:Nat):Int):=by split<;>omega
      have hD:max (max D dk) (AX (kids.drop (k+1)))=AX kids:=by omega
      have hol:slots.length+1≤1000000:=by omega
      generalize hrw:d.named.map As=rows at *
      cases hq:((op==14&&k==1)||(op==13&&k==2)) with
      |false =>
       rw[hq]at hb hrec hk3
       rw[if_neg (by decide)]at hrec hk3
       rw[DY h0]at hrec
       generalize kids[k].known slots=bk at *
       cases B
       ·refine Ab (j3 hd hr1 hg1) ?_
        refine v7 (A3 [] hb) q9 q9 ?_
        refine v7 (A3 [] hrec) q9 (j2 hmx hw) ?_
        refine⟨(k+1,max D dk,false),by dsimp only;omega,⟨by dsimp only;omega,hD,by simpa using hk3⟩,?_⟩
        exact Ac (Aj.of [((8,0),(8,0)),((30,0),(30,0))] []) hw
       ·refine Ab (j3 hd hr1 hg1) ?_
        refine v7 (A3 [] hb) q9 q9 ?_
        refine v7 (A3 [] hrec) q9 (j2 hmx hw) ?_
        refine⟨(k+1,max D dk,bk),by dsimp only;omega,⟨by dsimp only;omega,hD,by simpa using hk3⟩,?_⟩
        exact Ac (Aj.of [((8,0),(8,0)),((30,0),(30,0))] []) hw
      |true =>
       rw[hq]at hb hrec hk3
       rw[if_pos rfl]at hrec hk3
       rw[DY (by simp)]at hrec
       have hrow:slots.map As++[[C.int .i64 num]]=(slots++[num]).map As:=by rw[List.map_append];rfl
       have hin1:(slots++[num]).length≤1000000:=by rw[List.length_append,List.length_singleton];omega
       have hin0:0+(slots++[num]).length≤1000000:=by rw[Nat.zero_add];exact hin1
       have hall:(((slots++[num]).map As).all fun r=>r.length==1)=true:=by simp[As]
       generalize slots++[num]=inn at *
       generalize kids[k].known inn=bk at *
       cases B
       ·refine Ab (j3 hd hr1 hg1) ?_
        refine v7 (A3 [] hb) q9 q9 ?_
        refine v12 (AU [] (J8 slots h0 (by omega))) q9 (j2 hol hrow) ?_
        refine v7 (A3 [(46,0)] hrec) hrow (j2 hmx hw) ?_
        refine⟨(k+1,max D dk,false),by dsimp only;omega,⟨by dsimp only;omega,hD,by simpa using hk3⟩,?_⟩
        exact Ac (Aj.of [((8,0),(8,0)),((30,0),(30,0))] []) hw
       ·refine Ab (j3 hd hr1 hg1) ?_
        refine v7 (A3 [] hb) q9 q9 ?_
        refine v12 (AU [] (J8 slots h0 (by omega))) q9 (j2 hol hrow) ?_
        refine v7 (A3 [(46,0)] hrec) hrow (j2 hmx hw) ?_
        refine⟨(k+1,max D dk,bk),by dsimp only;omega,⟨by dsimp only;omega,hD,by simpa using hk3⟩,?_⟩
        exact Ac (Aj.of [((8,0),(8,0)),((30,0),(30,0))] []) hw
     ·have hd:decide ((k:Int)<(kids.length:Int))=false:=decide_eq_false (by omega)
      rw[List.drop_eq_nil_of_le (by omega)]at hk2 hk3
      have hDe:D=AX kids:=by rw[←hk2];simp[AX]
      have hBe:B=R:=by rw[←hk3];simp[Cq]
      subst hBe
      have hw2:IntKind.i64.wrap ((D:Int)+1)=((D+1:Nat):Int):=by rw[IntWalk.i64_in _ (by omega)];omega
      rw[←hDe]
      generalize hrw:d.named.map As=rows at *
      exact FC (j2 hd hw2) (A5 []) Tryz.results138
   ·have k15:(op != 15)=true:=E9 h15
    obtain rfl:=hC h15
    refine A6 Tryz.func138 Tryz.ntmps138 (j3 hr0 hg0 k15) ?_
    refine v12 (AU [] hnm) q9 hnl ?_
    refine Ar (κ:=Nat×Nat×Bool) (fun x=>⟨mkS 0 65 [(0,AE L),(1,.c (.int .i64 i)),(2,Cr slots),(8,.ptr (8,0) 0),(9,.c (.int .i64 (x.2.1:Nat))),(10,.c (.bool x.2.2)),(30,.own (30,0)),(31,.c (.int .i64 kids.length)),(32,.c (.int .i64 x.1))],
      [((8,0),.box [.c (.int .i64 op),.c (.int .i64 d.a),.c (.int .i64 d.b),.c (.int .i64 d.c),.c (.int .i64 num),.c (.sl (val.map CellD.cs))]),((30,0),.row false 1 2 (d.named.map As))]⟩)
     (fun x=>x.1≤kids.length∧max x.2.1 (AX (kids.drop x.1))=AX kids∧(x.2.2&&Cq op num x.1 (kids.drop x.1) slots)=R) (fun x=>kids.length-x.1) (0,0,true) ⟨Nat.zero_le _,by rw[List.drop_zero];exact Nat.zero_max _,hB0⟩ ?_ ?_
    ·exact Ac (Aj.of [((8,0),(8,0)),((30,0),(30,0))] []) hnl
    ·rintro⟨k,D,B⟩ ⟨hk1,hk2,hk3⟩
     dsimp only at hk1 hk2 hk3 ⊢
     by_cases hlt:k<kids.length
     ·have hd:decide ((k:Int)<(kids.length:Int))=true:=decide_eq_true (by omega)
      obtain⟨hr1,hg1⟩:=D2 d.named (k:=k) (by omega)
      have hw:=Ad (k:=k) (by omega)
      have hkd:=hkn k (by omega)
      have hb:=hbd k
      rw[hke k _ (hends k hlt) (by omega)]at hkd
      rw[List.getElem?_map,hkd]at hg1
      have hg1:(d.named.map As)[k]? = some [.int .i64 ((b+Ah (kids.take k)+kids[k].size-1:Nat):Int)]:=by rw[List.getElem?_map,hkd];rfl
      have hsz:=Et (List.getElem_mem hlt)
      have hil:=Gg op num k slots
      have hrec:=ih kids[k] (b+Ah (kids.take k)) (Dn op num k slots) (by omega) (B4.1 hk _ (List.getElem_mem hlt)) (Fw kids b k hlt hss) (by omega)
      rw[HQ hlt]at hk2
      rw[Gi hlt]at hk3
      rw[Jg]at hrec hk3
      generalize b+Ah (kids.take k)+kids[k].size-1=e,kids[k].depth=dk at *
      have hmx:(if (dk:Int)>(D:Int) then (dk:Int) else (D:Int))=((max D dk:Nat):Int):=by split<;>omega
      have hD:max (max D dk) (AX (kids.drop (k+1)))=AX kids:=by omega
      have hol:slots.length+1≤1000000:=by omega
      generalize hrw:d.named.map As=rows at *
      cases hq:((op==14&&k==1)||(op==13&&k==2)) with
      |false =>
       rw[hq]at hb hrec hk3
       rw[if_neg (by decide)]at hrec hk3
       rw[DY h0]at hrec
       generalize kids[k].known slots=bk at *
       cases B
       ·refine Ab (j3 hd hr1 hg1) ?_
        refine v7 (A3 [] hb) q9 q9 ?_
        refine v7 (A3 [] hrec) q9 (j2 hmx hw) ?_
        refine⟨(k+1,max D dk,false),by dsimp only;omega,⟨by dsimp only;omega,hD,by simpa using hk3⟩,?_⟩
        exact Ac (Aj.of [((8,0),(8,0)),((30,0),(30,0))] []) hw
       ·refine Ab (j3 hd hr1 hg1) ?_
        refine v7 (A3 [] hb) q9 q9 ?_
        refine v7 (A3 [] hrec) q9 (j2 hmx hw) ?_
        refine⟨(k+1,max D dk,bk),by dsimp only;omega,⟨by dsimp only;omega,hD,by simpa using hk3⟩,?_⟩
        exact Ac (Aj.of [((8,0),(8,0)),((30,0),(30,0))] []) hw
      |true =>
       rw[hq]at hb hrec hk3
       rw[if_pos rfl]at hrec hk3
       rw[DY (by simp)]at hrec
       have hrow:slots.map As++[[C.int .i64 num]]=(slots++[num]).map As:=by rw[List.map_append];rfl
       have hin1:(slots++[num]).length≤1000000:=by rw[List.length_append,List.length_singleton];omega
       have hin0:0+(slots++[num]).length≤1000000:=by rw[Nat.zero_add];exact hin1
       have hall:(((slots++[num]).map As).all fun r=>r.length==1)=true:=by simp[As]
       generalize slots++[num]=inn at *
       generalize kids[k].known inn=bk at *
       cases B
       ·refine Ab (j3 hd hr1 hg1) ?_
        refine v7 (A3 [] hb) q9 q9 ?_
        refine v12 (AU [] (J8 slots h0 (by omega))) q9 (j2 hol hrow) ?_
        refine v7 (A3 [(46,0)] hrec) hrow (j2 hmx hw) ?_
        refine⟨(k+1,max D dk,false),by dsimp only;omega,⟨by dsimp only;omega,hD,by simpa using hk3⟩,?_⟩
        exact Ac (Aj.of [((8,0),(8,0)),((30,0),(30,0))] []) hw
       ·refine Ab (j3 hd hr1 hg1) ?_
        refine v7 (A3 [] hb) q9 q9 ?_
        refine v12 (AU [] (J8 slots h0 (by omega))) q9 (j2 hol hrow) ?_
        refine v7 (A3 [(46,0)] hrec) hrow (j2 hmx hw) ?_
        refine⟨(k+1,max D dk,bk),by dsimp only;omega,⟨by dsimp only;omega,hD,by simpa using hk3⟩,?_⟩
        exact Ac (Aj.of [((8,0),(8,0)),((30,0),(30,0))] []) hw
     ·have hd:decide ((k:Int)<(kids.length:Int))=false:=decide_eq_false (by omega)
      rw[List.drop_eq_nil_of_le (by omega)]at hk2 hk3
      have hDe:D=AX kids:=by rw[←hk2];simp[AX]
      have hBe:B=R:=by rw[←hk3];simp[Cq]
      subst hBe
      have hw2:IntKind.i64.wrap ((D:Int)+1)=((D+1:Nat):Int):=by rw[IntWalk.i64_in _ (by omega)];omega
      rw[←hDe]
      generalize hrw:d.named.map As=rows at *
      exact FC (j2 hd hw2) (A5 []) Tryz.results138
end Go.Proofs.YtcejfdfmgmcinaaGreat
