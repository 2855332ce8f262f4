/- slices.IndexFunc, ContainsFunc, DeleteFunc at values, by a function that has a box at hand; impl.sub, by the engine. -/
import Derived.Test.YtcejfdfmgmcinaaGreatKG67
import Derived.Test.YtcejfdfmgmcinaaGreatKG43
set_option linter.all false
set_option maxHeartbeats 8000000
namespace Go.Proofs.YtcejfdfmgmcinaaGreat
open Go.RowKit
set_option maxRecDepth 10000
def E9 {α:Type}(d:α→Bool) (l:List α):Int:=match l.findIdx? d with
 |some i=>i
 |none=>-1
theorem KQ {α:Type}{d:α→Bool}{l:List α}{k:Nat}(h:k<l.length) (hb:d l[k]=true) (hno:∀j (h:j<l.length),j<k→d l[j]=false):E9 d l=k:=by
 unfold E9
 rw[List.findIdx?_eq_some_iff_getElem.2 ⟨h,hb,fun j hj=>by simp[hno j (by omega) hj]⟩]
theorem KP {α:Type}{d:α→Bool}{l:List α}(hno:∀j (h:j<l.length),d l[j]=false):E9 d l = -1:=by
 unfold E9
 rw[List.findIdx?_eq_none_iff.2 fun x hx=>by
  obtain⟨i,hi,rfl⟩:=List.getElem_of_mem hx
  exact hno i hi]
theorem Sv {α:Type}(d:α→Bool) (l:List α):decide (E9 d l≥0)=l.any d:=by
 unfold E9
 cases hf:l.findIdx? d with
 |none =>
  have h:=List.findIdx?_eq_none_iff.1 hf
  have:l.any d=false:=by rw[List.any_eq_false];intro x hx;simp[h x hx]
  rw[this]
  rfl
 |some i =>
  obtain⟨h1,h2,_⟩:=List.findIdx?_eq_some_iff_getElem.1 hf
  have:l.any d=true:=List.any_eq_true.2 ⟨_,List.getElem_mem h1,h2⟩
  rw[this]
  simp
abbrev Iq (q:V):Mem:=[((0,0),.box [.c (.int .i64 q.kind),.c (.int .i64 q.num),.c (.str q.text),.c (.sl (q.keys.map Ag)),.c (.sl (q.kids.map V.cs))])]
theorem Rd (f:FuncId) (hcal:A8 Tryz.prog f=true) (q:V) (d:V→Bool) (l:List V) (hl:l.length≤1000000) (hd:∀p∈l,AC Tryz.prog f [p.av,.ptr (0,0) 0] (Iq q) (.c (.bool (d p))) (Iq q)) :
  AC Tryz.prog 338 [.c (.sl (l.map V.cs)),.clo f [.ptr (0,0) 0]] (Iq q) (.c (.int .i64 (E9 d l))) (Iq q):=by
 refine A7 Tryz.func338 Tryz.ntmps338 ?_
 refine A3 q9 ?_
 refine Ay (κ:=Nat) (fun k=>⟨mkS 0 19 [(0,.c (.sl (l.map V.cs))),(1,.clo f [.ptr (0,0) 0]),(7,.c (.int .i64 l.length)),(8,.c (.int .i64 k))],Iq q⟩)
  (fun k=>k≤l.length∧∀j (h:j<l.length),j<k→d l[j]=false) (fun k=>l.length-k) 0 ⟨Nat.zero_le _,by intro j h hj;omega⟩ ?_ ?_
 ·exact Af (Am.of [((0,0),(0,0))] []) hl
 ·rintro k ⟨hk,hno⟩
  by_cases hlt:k<l.length
  ·have hdk:decide ((k:Int)<(l.length:Int))=true:=by simpa using hlt
   have hw:=Ah (k:=k) (by omega)
   have hr:A9 (l.map V.cs) 5 k=true:=by simp[A9,hlt,V.cs_eq]
   have hg:(l.map V.cs)[k]? = some [.int .i64 l[k].kind,.int .i64 l[k].num,.str l[k].text,.sl (l[k].keys.map Ag),.sl (l[k].kids.map V.cs)]:=by simp[hlt,V.cs_eq]
   have hc:=hd l[k] (List.getElem_mem hlt)
   cases hb:d l[k] with
   |true =>
    rw[hb]at hc
    rw[KQ hlt hb hno]
    refine A3 (j3 hdk hr hg) ?_
    refine Bx (An [((0,0),(0,0))] [((0,0),(0,0))] hc) hcal ?_
    refine A3 q9 ?_
    exact Ab (Aa [((0,0),(0,0))] []) Tryz.results338 hl
   |false =>
    rw[hb]at hc
    refine A3 (j3 hdk hr hg) ?_
    refine Bx (An [((0,0),(0,0))] [((0,0),(0,0))] hc) hcal ?_
    refine A3 hw ?_
    refine⟨k+1,by omega,⟨by omega,fun j h hj=>?_⟩,?_⟩
    ·by_cases hjk:j=k
     ·subst hjk;exact hb
     ·exact hno j h (by omega)
    ·exact Af (Am.of [((0,0),(0,0))] []) hw
  ·have hdk:decide ((k:Int)<(l.length:Int))=false:=by simpa using hlt
   rw[KP (fun j h=>hno j h (by omega))]
   refine A3 hdk ?_
   exact Ab (Aa [((0,0),(0,0))] []) Tryz.results338 hl
theorem ME (f:FuncId) (hcal:A8 Tryz.prog f=true) (q:V) (d:V→Bool) (l:List V) (hl:l.length≤1000000) (hd:∀p∈l,AC Tryz.prog f [p.av,.ptr (0,0) 0] (Iq q) (.c (.bool (d p))) (Iq q)) :
  AC Tryz.prog 275 [.c (.sl (l.map V.cs)),.clo f [.ptr (0,0) 0]] (Iq q) (.c (.bool (l.any d))) (Iq q):=by
 have h1:=Rd f hcal q d l hl hd
 have h2:=Sv d l
 generalize E9 d l=i at *
 generalize l.any d=r at *
 refine A7 Tryz.func275 Tryz.ntmps275 ?_
 refine A3 q9 ?_
 refine Bx (An [((0,0),(0,0))] [((0,0),(0,0))] h1) q9 ?_
 refine A3 h2 ?_
 exact Ab (Aa [((0,0),(0,0))] []) Tryz.results275 h2
abbrev Zi (q:V) (rows:List (List C)):Mem:=[((0,0),.box [.c (.int .i64 q.kind),.c (.int .i64 q.num),.c (.str q.text),.c (.sl (q.keys.map Ag)),.c (.sl (q.kids.map V.cs))]),((0,1),.row false 5 127 rows)]
theorem SM (f:FuncId) (hcal:A8 Tryz.prog f=true) (q:V) (d:V→Bool) (l:List V) (hl:l.length≤1000000) (hd:∀p∈l,AC Tryz.prog f [p.av,.ptr (0,0) 0] (Iq q) (.c (.bool (d p))) (Iq q)) :
  AC Tryz.prog 338 [.own (0,1),.clo f [.ptr (0,0) 0]] (Zi q (l.map V.cs)) (.c (.int .i64 (E9 d l))) (Zi q (l.map V.cs)):=by
 have hlm:(l.map V.cs).length=l.length:=by simp
 refine A7 Tryz.func338 Tryz.ntmps338 ?_
 refine A3 hlm ?_
 refine Ay (κ:=Nat) (fun k=>⟨mkS 0 19 [(0,.own (0,1)),(1,.clo f [.ptr (0,0) 0]),(7,.c (.int .i64 l.length)),(8,.c (.int .i64 k))],Zi q (l.map V.cs)⟩)
  (fun k=>k≤l.length∧∀j (h:j<l.length),j<k→d l[j]=false) (fun k=>l.length-k) 0 ⟨Nat.zero_le _,by intro j h hj;omega⟩ ?_ ?_
 ·exact Af (Am.of [((0,0),(0,0)),((0,1),(0,1))] []) hl
 ·rintro k ⟨hk,hno⟩
  by_cases hlt:k<l.length
  ·have hdk:decide ((k:Int)<(l.length:Int))=true:=by simpa using hlt
   have hw:=Ah (k:=k) (by omega)
   have hr:A9 (l.map V.cs) 5 k=true:=by simp[A9,hlt,V.cs_eq]
   have hg:(l.map V.cs)[k]? = some [.int .i64 l[k].kind,.int .i64 l[k].num,.str l[k].text,.sl (l[k].keys.map Ag),.sl (l[k].kids.map V.cs)]:=by simp[hlt,V.cs_eq]
   have hc:=hd l[k] (List.getElem_mem hlt)
   cases hb:d l[k] with
   |true =>
    rw[hb]at hc
    rw[KQ hlt hb hno]
    refine A3 (j3 hdk hr hg) ?_
    refine Bx (An [((0,0),(0,0))] [((0,0),(0,0))] hc) hcal ?_
    refine A3 q9 ?_
    exact Ab (Aa [((0,0),(0,0)),((0,1),(0,1))] []) Tryz.results338 hl
   |false =>
    rw[hb]at hc
    refine A3 (j3 hdk hr hg) ?_
    refine Bx (An [((0,0),(0,0))] [((0,0),(0,0))] hc) hcal ?_
    refine A3 hw ?_
    refine⟨k+1,by omega,⟨by omega,fun j h hj=>?_⟩,?_⟩
    ·by_cases hjk:j=k
     ·subst hjk;exact hb
     ·exact hno j h (by omega)
    ·exact Af (Am.of [((0,0),(0,0)),((0,1),(0,1))] []) hw
  ·have hdk:decide ((k:Int)<(l.length:Int))=false:=by simpa using hlt
   rw[KP (fun j h=>hno j h (by omega))]
   refine A3 hdk ?_
   exact Ab (Aa [((0,0),(0,0)),((0,1),(0,1))] []) Tryz.results338 hl
theorem Qf {α:Type}{d:α→Bool}{l:List α}{j:Nat}(h:j<l.length):(l.take (j+1)).filter d=(l.take j).filter d++(if d l[j] then [l[j]] else []):=by
 rw[List.take_succ_eq_append_getElem h,List.filter_append]
 simp[List.filter_cons]
theorem a1b {α:Type}{l:List α}(h:l.length=5):∃a b c d e,l=[a,b,c,d,e]:=by
 match l,h with
 | [a,b,c,d,e],_=>exact⟨a,b,c,d,e,rfl⟩
theorem Sm (f:FuncId) (hcal:A8 Tryz.prog f=true) (q:V) (d:V→Bool) (l:List V) (hl:l.length≤1000000) (hd:∀p∈l,AC Tryz.prog f [p.av,.ptr (0,0) 0] (Iq q) (.c (.bool (d p))) (Iq q)) :
  AC Tryz.prog 273 [.own (0,1),.clo f [.ptr (0,0) 0]] (Zi q (l.map V.cs)) (.own (1,0)) (Iq q++[((1,0),.row false 5 127 ((l.filter fun p=>!d p).map V.cs))]):=by
 have hix:=SM f hcal q d l hl hd
 show AC _ _ _ _ _ [((0,0),.box [.c (.int .i64 q.kind),.c (.int .i64 q.num),.c (.str q.text),.c (.sl (q.keys.map Ag)),.c (.sl (q.kids.map V.cs))]),((1,0),.row false 5 127 ((l.filter fun p=>!d p).map V.cs))]
 cases hfi:l.findIdx? d with
 |none =>
  have h1:E9 d l = -1:=by unfold E9;rw[hfi]
  have hall:(l.filter fun p=>!d p)=l:=List.filter_eq_self.2 fun x hx=>by
   have:=List.findIdx?_eq_none_iff.1 hfi x hx
   simp[this]
  rw[h1]at hix
  rw[hall]
  have hm1:((-1:Int)==-1)=true:=rfl
  refine A7 Tryz.func273 Tryz.ntmps273 ?_
  refine A3 q9 ?_
  refine Bx (An [((0,0),(0,0)),((0,1),(0,1))] [((0,0),(0,0)),((0,1),(0,1))] hix) q9 ?_
  refine A3 hm1 ?_
  exact Ab (Aa [((0,0),(0,0)),((1,0),(0,1))] []) Tryz.results273 hall
 |some i0 =>
  obtain⟨hi0,hdi,hno⟩:=List.findIdx?_eq_some_iff_getElem.1 hfi
  have h1:E9 d l=i0:=by unfold E9;rw[hfi]
  rw[h1]at hix
  have hm1:((i0:Int)==-1)=false:=by simp
  have hw0:=Ah (k:=i0) (by omega)
  have hk0:(l.take (i0+1)).filter (fun p=>!d p)=l.take i0:=by
   rw[Qf hi0,hdi]
   simp only[Bool.not_true,Bool.false_eq_true,if_false,List.append_nil]
   refine List.filter_eq_self.2 fun x hx=>?_
   obtain⟨j,hj,rfl⟩:=List.getElem_of_mem hx
   rw[List.length_take]at hj
   rw[List.getElem_take]
   simpa using hno j (by omega)
  have hkl:((l.take (i0+1)).filter (fun p=>!d p)).length=i0:=by rw[hk0,List.length_take];omega
  refine A7 Tryz.func273 Tryz.ntmps273 ?_
  refine A3 q9 ?_
  refine Bx (An [((0,0),(0,0)),((0,1),(0,1))] [((0,0),(0,0)),((0,1),(0,1))] hix) q9 ?_
  refine A3 (j2 hm1 hw0) ?_
  refine Ay (κ:=Nat×List (List C)) (fun x=>⟨mkS 0 42 [(0,.own (0,1)),(1,.clo f [.ptr (0,0) 0]),(5,.c (.int .i64 ((l.take x.1).filter (fun p=>!d p)).length)),(6,.c (.int .i64 x.1))],Zi q x.2⟩)
   (fun x=>x.1≤l.length∧x.2.length=l.length∧((l.take x.1).filter (fun p=>!d p)).length<x.1∧x.2.take ((l.take x.1).filter (fun p=>!d p)).length=((l.take x.1).filter (fun p=>!d p)).map V.cs∧x.2.drop x.1=(l.drop x.1).map V.cs∧∀y∈x.2,y.length=5) (fun x=>l.length-x.1) (i0+1,l.map V.cs) ⟨by dsimp only;omega,by simp,by dsimp only;omega,by dsimp only;rw[hkl,hk0,List.map_take],by dsimp only;rw[List.map_drop],by intro y hy;obtain⟨q,_,rfl⟩:=List.mem_map.1 hy;rw[V.cs_eq];rfl⟩ ?_ ?_
  ·exact Af (Am.of [((0,0),(0,0)),((0,1),(0,1))] []) hkl
  ·rintro⟨j,L⟩ ⟨hj,hL,hlt0,htk,hdr,h6⟩
   dsimp only at hj hL hlt0 htk hdr h6 ⊢
   by_cases hlt:j<l.length
   ·have hdk:decide ((j:Int)<(l.length:Int))=true:=by simpa using hlt
    have hw:=Ah (k:=j) (by omega)
    have hLj:L[j]? = some (V.cs l[j]):=by
     have:(L.drop j)[0]? = L[j]?:=by rw[List.getElem?_drop];rfl
     rw[←this,hdr]
     rw[List.drop_eq_getElem_cons hlt]
     rfl
    have hg:L[j]? = some [.int .i64 l[j].kind,.int .i64 l[j].num,.str l[j].text,.sl (l[j].keys.map Ag),.sl (l[j].kids.map V.cs)]:=by rw[hLj,V.cs_eq]
    have hr:A9 L 5 j=true:=by unfold A9;rw[Int.toNat_natCast,hLj];simp[V.cs_eq]
    have hc:=hd l[j] (List.getElem_mem hlt)
    have hnext:=Qf (d:=fun p=>!d p) hlt
    have hdr1:L.drop (j+1)=(l.drop (j+1)).map V.cs:=by
     rw[←List.drop_drop,hdr,←List.map_drop,List.drop_drop]
    cases hb:d l[j] with
    |true =>
     rw[hb]at hc hnext
     simp only[Bool.not_true,Bool.false_eq_true,if_false,List.append_nil]at hnext
     refine A3 (j4 hL hdk hr hg) ?_
     refine Bx (An [((0,0),(0,0))] [((0,0),(0,0))] hc) hcal ?_
     refine A3 hw ?_
     refine⟨(j+1,L),by dsimp only;omega,⟨by dsimp only;omega,hL,?_,?_,hdr1,h6⟩,?_⟩
     ·dsimp only;rw[hnext];omega
     ·dsimp only;rw[hnext];exact htk
     ·exact Af (Am.of [((0,0),(0,0)),((0,1),(0,1))] []) hnext
    |false =>
     rw[hb]at hc hnext
     simp only[Bool.not_false,if_true]at hnext
     have hwi:=Ah (k:=((l.take j).filter fun p=>!d p).length) (by omega)
     have hnl:((l.take (j+1)).filter fun p=>!d p).length=((l.take j).filter fun p=>!d p).length+1:=by rw[hnext];simp
     have hcsj:V.cs l[j]=[.int .i64 l[j].kind,.int .i64 l[j].num,.str l[j].text,.sl (l[j].keys.map Ag),.sl (l[j].kids.map V.cs)]:=V.cs_eq _
     generalize hI:((l.take j).filter fun p=>!d p).length=I at *
     have hIL:I<L.length:=by omega
     obtain⟨old,hold⟩:∃old,L[I]? = some old:=⟨L[I],List.getElem?_eq_getElem hIL⟩
     obtain⟨o1,o2,o3,o4,o5,rfl⟩:=a1b (h6 old (List.mem_of_getElem? hold))
     have hri:A9 L 5 I=true:=by unfold A9;rw[Int.toNat_natCast,hold];rfl
     refine A3 (j4 hL hdk hr hg) ?_
     refine Bx (An [((0,0),(0,0))] [((0,0),(0,0))] hc) hcal ?_
     refine A3 (j4 hri hold hwi hw) ?_
     refine⟨(j+1,L.set I (V.cs l[j])),by dsimp only;omega,⟨by dsimp only;omega,by dsimp only;rw[List.length_set];exact hL,?_,?_,?_,?_⟩,?_⟩
     ·dsimp only;omega
     ·dsimp only
      rw[hnl,hnext,List.map_append,←htk]
      rw[List.set_eq_take_append_cons_drop,if_pos hIL,show L.take I++V.cs l[j]::L.drop (I+1)=(L.take I++[V.cs l[j]])++L.drop (I+1) by simp]
      exact List.take_left' (by simp;omega)
     ·dsimp only
      rw[←hdr1]
      apply List.ext_getElem?
      intro n
      rw[List.getElem?_drop,List.getElem?_drop,List.getElem?_set_ne (by omega)]
     ·intro y hy
      rcases List.mem_or_eq_of_mem_set hy with hy | rfl
      ·exact h6 y hy
      ·rw[V.cs_eq];rfl
     ·exact Af (Am.of [((0,0),(0,0)),((0,1),(0,1))] []) (j2 hnl hcsj)
   ·have hdk:decide ((j:Int)<(l.length:Int))=false:=by simpa using hlt
    have hje:l.take j=l:=List.take_of_length_le (by omega)
    rw[hje]at htk hlt0 ⊢
    generalize hF:(l.filter fun p=>!d p)=F at *
    have hFl:F.length≤L.length:=by omega
    have hzz:F.length≤(L.take F.length++List.replicate (L.length-F.length) [C.int .i64 0,.int .i64 0,.str ByteArray.empty,.sl [],.sl []]).length:=by simp;omega
    have hfin:(L.take F.length++List.replicate (L.length-F.length) [C.int .i64 0,.int .i64 0,.str ByteArray.empty,.sl [],.sl []]).take F.length=F.map V.cs:=by
     rw[List.take_append_of_le_length (by rw[List.length_take];omega),List.take_take,Nat.min_self,htk]
    refine A3 (j2 hL hdk) ?_
    ((with_reducible apply a1w);(iterate 9 (focus (first | (simp only[go_sem,Nat.reduceEqDiff,Nat.reduceAdd,Nat.reduceSub,Nat.reduceLeDiff,Nat.reduceMul,Nat.reduceBEq,Nat.reduceLT,Int.reduceToNat,reduceCtorEq,hFl];first | done | exact rfl | (and_intros<;>rfl)) | exact rfl | decide))))
    ((with_reducible apply j1);(iterate 12 (focus (first | (simp only[go_sem,Nat.reduceEqDiff,Nat.reduceAdd,Nat.reduceSub,Nat.reduceLeDiff,Nat.reduceMul,Nat.reduceBEq,Nat.reduceLT,Int.reduceToNat,reduceCtorEq,hFl];first | done | exact rfl | (and_intros<;>rfl)) | exact rfl | decide))))
    refine A3 q9 ?_
    ((with_reducible apply Q4);(iterate 10 (focus (first | (simp only[go_sem,Nat.reduceEqDiff,Nat.reduceAdd,Nat.reduceSub,Nat.reduceLeDiff,Nat.reduceMul,Nat.reduceBEq,Nat.reduceLT,Int.reduceToNat,reduceCtorEq,hzz];first | done | exact rfl | (and_intros<;>rfl)) | exact rfl | decide))))
    refine A3 q9 ?_
    exact Ab (Aa [((0,0),(0,0)),((1,0),(41,0))] []) Tryz.results273 hfin
theorem a0d (x y:V) (hx:x.right):AC Tryz.prog 276 [y.av,.ptr (0,0) 0] (Iq x) (.c (.bool (x.cmp y==0))) (Iq x):=by
 have hc:=G7 x.count x y (Nat.le_refl _) hx
 refine A7 Tryz.func276 Tryz.ntmps276 ?_
 refine A3 q9 ?_
 refine w7 (A4 [] hc) q9 ?_
 refine A3 q9 ?_
 exact Ab (Aa [((0,0),(0,0))] []) Tryz.results276 hc
theorem YV (x b:V) (hx:x.right) (hb:b.right):AC Tryz.prog 274 [x.av,.ptr (0,0) 0] (Iq b) (.c (.bool (b.kids.any fun y=>x.cmp y==0))) (Iq b):=by
 have hkl:=BI hb.2.1
 have hc:=ME 276 (by simp only[go_sem]) x (fun y=>x.cmp y==0) b.kids (by omega) (fun y _=>a0d x y hx)
 generalize (b.kids.any fun y=>x.cmp y==0)=r at *
 refine A7 Tryz.func274 Tryz.ntmps274 ?_
 refine A3 q9 ?_
 refine Bx (An [((0,0),(2,0))] [((0,0),(2,0))] hc) q9 ?_
 refine A3 q9 ?_
 exact Ab (Aa [((0,0),(0,0))] []) Tryz.results274 hb
end Go.Proofs.YtcejfdfmgmcinaaGreat
