/- Texts of this proof: G15 G31 M38 M39 M12 M41 M43 M49. -/
import Derived.Test.YtllfmaflodbieaaGreatDoorKGX
import Derived.Deep.RegionLaw
import Derived.Shelf.RegionOpenPlain
set_option linter.all false
set_option maxHeartbeats 8000000
namespace Go.Proofs.YtllfmaflodbieaaGreatDoor
open Go.RowKit
def I4 (p:List V×V):AV:=.agg [.c (.sl (p.1.map V.cs)),.c (.int .i64 p.2.kind),.c (.int .i64 p.2.num),.c (.str p.2.text),.c (.sl (p.2.keys.map Ab)),.c (.sl (p.2.kids.map V.cs))]
set_option maxRecDepth 10000
def Gc {α:Type}(d:α→Bool) (l:List α):Int:=match l.findIdx? d with
 |some i=>i
 |none=>-1
theorem VP (f:FuncId) (hcal:A5 Tryz.prog f=true) (d:List V×V→Bool) (l:List (List V×V)) (hl:l.length≤1000000) (hd:∀p∈l,AC Tryz.prog f [I4 p] [] (.c (.bool (d p))) []) :
  AC Tryz.prog 207 [.c (.sl (l.map Ac)),.clo f []] [] (.c (.int .i64 (Gc d l))) []:=by
 refine A6 Tryz.func207 Tryz.ntmps207 ?_
 refine A0 trivial ?_
 refine AG (κ:=Nat) (fun k=>⟨mkS 0 19 [(0,.c (.sl (l.map Ac))),(1,.clo f []),(7,.c (.int .i64 l.length)),(8,.c (.int .i64 k))],[]⟩)
  (fun k=>k≤l.length∧∀j (h:j<l.length),j<k→d l[j]=false) (fun k=>l.length-k) 0 ⟨Nat.zero_le _,by intro j h hj;omega⟩ ?_ ?_
 ·exact Aq (As.of [] []) hl
 ·rintro k ⟨hk,hno⟩
  by_cases hlt:k<l.length
  ·have hdk:decide ((k:Int)<(l.length:Int))=true:=by simpa using hlt
   have hw:=Ae (k:=k) (by omega)
   have hr:Aj (l.map Ac) 6 k=true:=by simp[Aj,hlt,Ac]
   have hg:(l.map Ac)[k]? = some [.sl (l[k].1.map V.cs),.int .i64 l[k].2.kind,.int .i64 l[k].2.num,.str l[k].2.text,.sl (l[k].2.keys.map Ab),.sl (l[k].2.kids.map V.cs)]:=by simp[hlt,Ac]
   have hc:=hd l[k] (List.getElem_mem hlt)
   unfold I4 at hc
   cases hb:d l[k] with
   |true =>
    rw[hb]at hc
    have hix:Gc d l=k:=by
     unfold Gc
     rw[List.findIdx?_eq_some_iff_getElem.2 ⟨hlt,hb,fun j hj=>by simp[hno j (by omega) hj]⟩]
    rw[hix]
    refine A0 (j3 hdk hr hg) ?_
    refine w7 (A3 [] hc) hcal ?_
    refine A0 trivial ?_
    exact Am (A7 []) Tryz.results207
   |false =>
    rw[hb]at hc
    refine A0 (j3 hdk hr hg) ?_
    refine w7 (A3 [] hc) hcal ?_
    refine A0 hw ?_
    refine⟨k+1,by omega,⟨by omega,fun j h hj=>?_⟩,?_⟩
    ·by_cases hjk:j=k
     ·subst hjk;exact hb
     ·exact hno j h (by omega)
    ·exact Aq (As.of [] []) hw
  ·have hdk:decide ((k:Int)<(l.length:Int))=false:=by simpa using hlt
   have hix:Gc d l = -1:=by
    unfold Gc
    rw[List.findIdx?_eq_none_iff.2 fun x hx=>by
     obtain⟨i,hi,rfl⟩:=List.getElem_of_mem hx
     exact hno i hi (by omega)]
   rw[hix]
   refine A0 hdk ?_
   exact Am (A7 []) Tryz.results207
theorem a0n (p:List V×V):(Ac p).length=6:=rfl
theorem R4 {α:Type}{d:α→Bool}{l:List α}{j:Nat}(h:j<l.length):(l.take (j+1)).filter d=(l.take j).filter d++(if d l[j] then [l[j]] else []):=by
 rw[List.take_succ_eq_append_getElem h,List.filter_append]
 simp[List.filter_cons]
theorem a25 {α:Type}{l:List α}(h:l.length=6):∃a b c d e f,l=[a,b,c,d,e,f]:=by
 match l,h with
 | [a,b,c,d,e,f],_=>exact⟨a,b,c,d,e,f,rfl⟩
theorem RJ (f:FuncId) (hcal:A5 Tryz.prog f=true) (d:List V×V→Bool) (l:List (List V×V)) (hl:l.length≤1000000) (hd:∀p∈l,AC Tryz.prog f [I4 p] [] (.c (.bool (d p))) []) :
  AC Tryz.prog 157 [.own (0,0),.clo f []] [((0,0),.row false 6 79 (l.map Ac))] (.own (1,0)) [((1,0),.row false 6 79 ((l.filter fun p=>!d p).map Ac))]:=by
 have hix:=VP f hcal d l hl hd
 cases hfi:l.findIdx? d with
 |none =>
  have h1:Gc d l = -1:=by unfold Gc;rw[hfi]
  have hall:(l.filter fun p=>!d p)=l:=List.filter_eq_self.2 fun x hx=>by
   have:=List.findIdx?_eq_none_iff.1 hfi x hx
   simp[this]
  rw[h1]at hix
  rw[hall]
  have hm1:((-1:Int)==-1)=true:=rfl
  refine A6 Tryz.func157 Tryz.ntmps157 ?_
  refine A0 trivial ?_
  refine w7 (A3 [(0,0)] hix) trivial ?_
  refine A0 hm1 ?_
  exact A9 (A8 [((1,0),(0,0))] []) Tryz.results157 hall
 |some i0 =>
  obtain⟨hi0,hdi,hno⟩:=List.findIdx?_eq_some_iff_getElem.1 hfi
  have h1:Gc d l=i0:=by unfold Gc;rw[hfi]
  rw[h1]at hix
  have hm1:((i0:Int)==-1)=false:=by simp
  have hw0:=Ae (k:=i0) (by omega)
  have hk0:(l.take (i0+1)).filter (fun p=>!d p)=l.take i0:=by
   rw[R4 hi0,hdi]
   simp only[Bool.not_true,Bool.false_eq_true,if_false,List.append_nil]
   refine List.filter_eq_self.2 fun x hx=>?_
   obtain⟨j,hj,rfl⟩:=List.getElem_of_mem hx
   rw[List.length_take]at hj
   rw[List.getElem_take]
   simpa using hno j (by omega)
  have hkl:((l.take (i0+1)).filter (fun p=>!d p)).length=i0:=by rw[hk0,List.length_take];omega
  refine A6 Tryz.func157 Tryz.ntmps157 ?_
  refine A0 trivial ?_
  refine w7 (A3 [(0,0)] hix) trivial ?_
  refine A0 (j2 hm1 hw0) ?_
  refine AG (κ:=Nat×List (List C)) (fun x=>⟨mkS 0 42 [(0,.own (0,0)),(1,.clo f []),(5,.c (.int .i64 ((l.take x.1).filter (fun p=>!d p)).length)),(6,.c (.int .i64 x.1))],[((0,0),.row false 6 79 x.2)]⟩)
   (fun x=>x.1≤l.length∧x.2.length=l.length∧((l.take x.1).filter (fun p=>!d p)).length<x.1∧x.2.take ((l.take x.1).filter (fun p=>!d p)).length=((l.take x.1).filter (fun p=>!d p)).map Ac∧x.2.drop x.1=(l.drop x.1).map Ac∧∀y∈x.2,y.length=6) (fun x=>l.length-x.1) (i0+1,l.map Ac) ⟨by dsimp only;omega,by simp,by dsimp only;omega,by dsimp only;rw[hkl,hk0,List.map_take],by dsimp only;rw[List.map_drop],by intro y hy;obtain⟨q,_,rfl⟩:=List.mem_map.1 hy;rfl⟩ ?_ ?_
  ·exact Aq (As.of [((0,0),(0,0))] []) hkl
  ·rintro⟨j,L⟩ ⟨hj,hL,hlt0,htk,hdr,h6⟩
   dsimp only at hj hL hlt0 htk hdr h6 ⊢
   by_cases hlt:j<l.length
   ·have hdk:decide ((j:Int)<(l.length:Int))=true:=by simpa using hlt
    have hw:=Ae (k:=j) (by omega)
    have hLj:L[j]? = some (Ac l[j]):=by
     have:(L.drop j)[0]? = L[j]?:=by rw[List.getElem?_drop];rfl
     rw[←this,hdr]
     rw[List.drop_eq_getElem_cons hlt]
     rfl
    have hg:L[j]? = some [.sl (l[j].1.map V.cs),.int .i64 l[j].2.kind,.int .i64 l[j].2.num,.str l[j].2.text,.sl (l[j].2.keys.map Ab),.sl (l[j].2.kids.map V.cs)]:=hLj
    have hr:Aj L 6 j=true:=by unfold Aj;rw[Int.toNat_natCast,hLj];simp[a0n]
    have hc:=hd l[j] (List.getElem_mem hlt)
    unfold I4 at hc
    have hnext:=R4 (d:=fun p=>!d p) hlt
    have hdr1:L.drop (j+1)=(l.drop (j+1)).map Ac:=by
     rw[←List.drop_drop,hdr,←List.map_drop,List.drop_drop]
    cases hb:d l[j] with
    |true =>
     rw[hb]at hc hnext
     simp only[Bool.not_true,Bool.false_eq_true,if_false,List.append_nil]at hnext
     refine A0 (j4 hL hdk hr hg) ?_
     refine w7 (A3 [] hc) hcal ?_
     refine A0 hw ?_
     refine⟨(j+1,L),by dsimp only;omega,⟨by dsimp only;omega,hL,?_,?_,hdr1,h6⟩,?_⟩
     ·dsimp only;rw[hnext];omega
     ·dsimp only;rw[hnext];exact htk
     ·exact Aq (As.of [((0,0),(0,0))] []) hnext
    |false =>
     rw[hb]at hc hnext
     simp only[Bool.not_false,if_true]at hnext
     have hwi:=Ae (k:=((l.take j).filter fun p=>!d p).length) (by omega)
     have hnl:((l.take (j+1)).filter fun p=>!d p).length=((l.take j).filter fun p=>!d p).length+1:=by rw[hnext];simp
     generalize hI:((l.take j).filter fun p=>!d p).length=I at *
     have hIL:I<L.length:=by omega
     obtain⟨old,hold⟩:∃old,L[I]? = some old:=⟨L[I],List.getElem?_eq_getElem hIL⟩
     obtain⟨o1,o2,o3,o4,o5,o6,rfl⟩:=a25 (h6 old (List.mem_of_getElem? hold))
     have hri:Aj L 6 I=true:=by unfold Aj;rw[Int.toNat_natCast,hold];rfl
     refine A0 (j4 hL hdk hr hg) ?_
     refine w7 (A3 [] hc) hcal ?_
     refine A0 (j4 hri hold hwi hw) ?_
     refine⟨(j+1,L.set I (Ac l[j])),by dsimp only;omega,⟨by dsimp only;omega,by dsimp only;rw[List.length_set];exact hL,?_,?_,?_,?_⟩,?_⟩
     ·dsimp only;omega
     ·dsimp only
      rw[hnl,hnext,List.map_append,←htk]
      rw[List.set_eq_take_append_cons_drop,if_pos hIL,show L.take I++Ac l[j]::L.drop (I+1)=(L.take I++[Ac l[j]])++L.drop (I+1) by simp]
      exact List.take_left' (by simp;omega)
     ·dsimp only
      rw[←hdr1]
      apply List.ext_getElem?
      intro n
      rw[List.getElem?_drop,List.getElem?_drop,List.getElem?_set_ne (by omega)]
     ·intro y hy
      rcases List.mem_or_eq_of_mem_set hy with hy | rfl
      ·exact h6 y hy
      ·rfl
     ·(apply (As.of [((0,0),(0,0))] []);(iterate 2 ((focus (simp only[go_sem,Nat.reduceEqDiff,Nat.reduceAdd,Nat.reduceSub,Nat.reduceLeDiff,Nat.reduceMul,Nat.reduceBEq,Nat.reduceLT,Int.reduceToNat,reduceCtorEq,hnl,Ac];try (and_intros<;>rfl)));(focus exact rfl)));(iterate 4 (focus (simp[go_sem,hnl,Ac];done))))
   ·have hdk:decide ((j:Int)<(l.length:Int))=false:=by simpa using hlt
    have hje:l.take j=l:=List.take_of_length_le (by omega)
    rw[hje]at htk hlt0 ⊢
    generalize hF:(l.filter fun p=>!d p)=F at *
    have hFl:F.length≤L.length:=by omega
    have hzz:F.length≤(L.take F.length++List.replicate (L.length-F.length) [C.sl [],.int .i64 0,.int .i64 0,.str ByteArray.empty,.sl [],.sl []]).length:=by simp;omega
    have hfin:(L.take F.length++List.replicate (L.length-F.length) [C.sl [],.int .i64 0,.int .i64 0,.str ByteArray.empty,.sl [],.sl []]).take F.length=F.map Ac:=by
     rw[List.take_append_of_le_length (by rw[List.length_take];omega),List.take_take,Nat.min_self,htk]
    refine A0 (j2 hL hdk) ?_
    ((with_reducible apply a2r);(iterate 9 (focus (first | (simp only[go_sem,Nat.reduceEqDiff,Nat.reduceAdd,Nat.reduceSub,Nat.reduceLeDiff,Nat.reduceMul,Nat.reduceBEq,Nat.reduceLT,Int.reduceToNat,reduceCtorEq,hFl];first | done | exact rfl | (and_intros<;>rfl)) | exact rfl | decide))))
    ((with_reducible apply a19);(iterate 12 (focus (first | (simp only[go_sem,Nat.reduceEqDiff,Nat.reduceAdd,Nat.reduceSub,Nat.reduceLeDiff,Nat.reduceMul,Nat.reduceBEq,Nat.reduceLT,Int.reduceToNat,reduceCtorEq,hFl];first | done | exact rfl | (and_intros<;>rfl)) | exact rfl | decide))))
    refine A0 trivial ?_
    ((with_reducible apply a1p);(iterate 10 (focus (first | (simp only[go_sem,Nat.reduceEqDiff,Nat.reduceAdd,Nat.reduceSub,Nat.reduceLeDiff,Nat.reduceMul,Nat.reduceBEq,Nat.reduceLT,Int.reduceToNat,reduceCtorEq,hzz];first | done | exact rfl | (and_intros<;>rfl)) | exact rfl | decide))))
    refine A0 trivial ?_
    exact A9 (A8 [((1,0),(41,0))] []) Tryz.results157 hfin
def FR (p:List V×V):Bool:=!p.2.kids.isEmpty
theorem L6 (t:V):AC Tryz.prog 88 [t.av] [] (.c (.bool t.kids.isEmpty)) []:=by
 have h0:(((t.kids.length:Int))==0)=t.kids.isEmpty:=by cases t.kids<;>simp;omega
 refine A6 Tryz.func88 Tryz.ntmps88 ?_
 refine A0 trivial ?_
 exact A7 [] (by simp only[Tryz.results88,go_sem,Nat.reduceBEq,Nat.reduceLT];exact rfl) (by simp only[go_sem,Nat.reduceEqDiff,Nat.reduceAdd,Nat.reduceSub,Nat.reduceLeDiff,Nat.reduceMul,Nat.reduceBEq,Nat.reduceLT,Int.reduceToNat,reduceCtorEq,h0]) rfl
theorem i6 (p:List V×V):AC Tryz.prog 159 [I4 p] [] (.c (.bool (FR p))) []:=by
 have h1:=L6 p.2
 unfold I4
 refine A6 Tryz.func159 Tryz.ntmps159 ?_
 refine A0 trivial ?_
 refine w7 (A3 [] h1) trivial ?_
 refine A0 trivial ?_
 exact A7 [] (by simp only[Tryz.results159,go_sem,Nat.reduceBEq,Nat.reduceLT];exact rfl) (by simp only[go_sem,Nat.reduceEqDiff,Nat.reduceAdd,Nat.reduceSub,Nat.reduceLeDiff,Nat.reduceMul,Nat.reduceBEq,Nat.reduceLT,Int.reduceToNat,reduceCtorEq,FR]) rfl
theorem a1m (t:V) (hc:t.count≤500000) (hn:t.neat):AC Tryz.prog 97 [t.av] [] (.own (0,0)) [((0,0),.row false 6 79 (((t.paths []).filter fun p=>!FR p).map Ac))]:=by
 have hq:=a1s t hc hn
 have hpl:=DI t []
 have hd:=RJ 159 (by simp only[go_sem]) FR (t.paths []) (by omega) (fun p _=>i6 p)
 refine A6 Tryz.func97 Tryz.ntmps97 ?_
 refine A0 trivial ?_
 refine w12 (IE [] hq) trivial ?_
 refine w10 (Zh (4,0) hd) trivial ?_
 refine A0 trivial ?_
 exact A9 (A8 [((0,0),(5,0))] []) Tryz.results97 hpl
set_option maxRecDepth 10000
theorem OO {q:V}(h:q.right):AC Tryz.prog 49 [q.av] [] (.own (0,0)) [((0,0),.row false 5 115 (q.enc.map CellD.cs))] :=
 UX q.count q (Nat.le_refl _) (by have:=h.2.1;omega) (Ls h)
def Zv (t:V):Int×Option V:=if t.count≤200 then okR t else Zq 2
theorem a1r {p:List V}(hp:∀q∈p,FV q) (hl:p.length≤100):Bn (DB p).enc=(0,some p):=by
 obtain⟨h1,h2,h3⟩:=XY hp hl
 have hb:(DB p).kids.any BM=false:=by
  rw[List.any_eq_false]
  intro q hq
  obtain⟨_,_,_,h⟩:=hp q hq
  unfold BM
  rcases h with h | h<;>simp[h]
 rw[Ga h1 h2 h3,hb]
 rfl
theorem HJ (t:V):t.depth=1+AI t.kids:=by
 cases t
 simp only[V.depth,V.kids]
 omega
abbrev TL:=ByteArray×V
def Ht (l:List TL):List ByteArray:=l.map Prod.fst
def M9 (l:List TL):List V:=l.map Prod.snd
def ovV (l:List TL):V:=.mk 6 0 ByteArray.empty (Ht l) (M9 l)
theorem YQ (l:List TL):(Ht l).length=(M9 l).length:=by unfold Ht M9;rw[List.length_map,List.length_map]
theorem Pb {l:List TL}(h:Up (Ht l)) {k:ByteArray}{u:V}(h1:(k,u)∈l):AH (Ht l) (M9 l) k=u:=by
 have hk:k∈Ht l:=List.mem_map.2 ⟨(k,u),h1,rfl⟩
 obtain⟨j,g1,_,g3⟩:=EM (YQ l) hk
 obtain⟨i,hi,e1⟩:=List.mem_iff_getElem.1 h1
 have q1:(Ht l)[i]? = some k:=by unfold Ht;rw[List.getElem?_map,List.getElem?_eq_getElem hi,e1];rfl
 have:=Wr h g1 q1
 subst this
 have q2:(M9 l)[j]? = some u:=by unfold M9;rw[List.getElem?_map,List.getElem?_eq_getElem hi,e1];rfl
 rw[q2]at g3
 exact (Option.some.inj g3).symm
theorem Xf {t:V}(h:t.wf) (h5:t.kind=5):t=DB t.kids:=by
 obtain⟨_,_,h3,h4,h6,_⟩:=EV h
 cases t with
 |mk kind num text keys kids =>
  simp only[V.kind,V.num,V.text,V.keys]at h5 h3 h4 h6
  rw[h3 (by omega),h4 (by omega),h6 (by omega),h5]
  rfl
def D5 (t:V):List TL:=t.keys.zip t.kids
theorem NJ {t:V}(h:t.keys.length=t.kids.length):Ht (D5 t)=t.keys:=by
 unfold Ht D5
 exact List.map_fst_zip (by omega)
theorem SF {t:V}(h:t.keys.length=t.kids.length):M9 (D5 t)=t.kids:=by
 unfold M9 D5
 exact List.map_snd_zip (by omega)
theorem XB {t:V}(h:t.right) (h6:t.kind=6):t=ovV (D5 t):=by
 obtain⟨_,_,hl⟩:=Gy h h6
 obtain⟨_,_,h3,h4,_,_⟩:=EV h.1
 unfold ovV
 rw[NJ hl,SF hl]
 cases t with
 |mk kind num text keys kids =>
  simp only[V.kind,V.num,V.text]at h6 h3 h4
  rw[h3 (by omega),h4 (by omega),h6]
  rfl
def Sub (s:ByteArray) (i:Nat) (l:List UInt8):Prop:=∃r,s.data.toList.drop i=l++r
theorem DA (s:ByteArray) (i:Nat):bAt s i=match s.data.toList[i]? with | some b=>b.toNat | none=>256:=by
 rcases Nat.lt_or_ge i s.size with h | h
 ·obtain⟨b,h1,h2⟩:=Aw h
  have h3:s.data.toList[i]? = some b:=by
   have:s[i]? = some s[i]:=getElem?_pos s i h
   rw[this]at h1
   have hl:i<s.data.toList.length:=by rw[Array.length_toList];exact h
   rw[List.getElem?_eq_getElem hl,Array.getElem_toList]
   exact h1
  rw[h3,h2]
 ·have hl:s.data.toList[i]? = none:=List.getElem?_eq_none (by rw[Array.length_toList];exact h)
  rw[hl,BX h]
theorem Sub.left {s:ByteArray}{i:Nat}{a b:List UInt8}(h:Sub s i (a++b)):Sub s i a:=by
 obtain⟨r,h⟩:=h
 exact⟨b++r,by rw[h,List.append_assoc]⟩
theorem Sub.right {s:ByteArray}{i:Nat}{a b:List UInt8}(h:Sub s i (a++b)):Sub s (i+a.length) b:=by
 obtain⟨r,h⟩:=h
 refine⟨r,?_⟩
 rw[←List.drop_drop,h,List.append_assoc,List.drop_left]
theorem Sub.tail {s:ByteArray}{i:Nat}{b:UInt8}{l:List UInt8}(h:Sub s i (b::l)):Sub s (i+1) l:=Sub.right (a:=[b]) h
theorem Sub.head {s:ByteArray}{i:Nat}{b:UInt8}{l:List UInt8}(h:Sub s i (b::l)):bAt s i=b.toNat:=by
 obtain⟨r,h⟩:=h
 have:s.data.toList[i]? = some b:=by
  have h1:(s.data.toList.drop i)[0]? = some b:=by rw[h];rfl
  rw[List.getElem?_drop]at h1
  simpa using h1
 rw[DA,this]
theorem Sub.size {s:ByteArray}{i:Nat}{l:List UInt8}(h:Sub s i l) (hl:l≠[]):i+l.length≤s.size:=by
 obtain⟨r,h⟩:=h
 have h1:=congrArg List.length h
 rw[List.length_drop,List.length_append,Array.length_toList]at h1
 have h2:s.data.size=s.size:=rfl
 have h3:=List.length_pos_iff.2 hl
 omega
theorem a2v (s:ByteArray):Sub s 0 s.data.toList:=⟨[],by simp⟩
theorem Bl (a b:ByteArray):(a++b).data.toList=a.data.toList++b.data.toList:=by
 rw[show (a++b).data=a.data++b.data from ByteArray.data_append,Array.toList_append]
theorem AL (a:ByteArray):a.data.toList.length=a.size:=Array.length_toList
theorem Ng {s:ByteArray}{v:V}{i:Nat}:∀(l:List UInt8) (k:Nat),Sub s (i+k) l→Ck s v i (l.map UInt8.toNat) k=.ok v (i+k+l.length)
 | [],k,_=>by simp[Ck]
 |b::l,k,h=>by
  have h1:=Ng (v:=v) l (k+1) (by rw[←Nat.add_assoc];exact h.tail)
  simp only[List.map_cons,Ck]
  rw[if_pos h.head,h1]
  simp only[List.length_cons]
  congr 1
  omega
theorem UF (b:UInt8):BF b.toNat=⟨#[b]⟩:=by unfold BF;rw[UInt8.ofNat_toNat]
theorem TM (out:ByteArray) (b:UInt8) (l:List UInt8):out++⟨(b::l).toArray⟩=out++BF b.toNat++⟨l.toArray⟩:=by
 have e:(⟨(b::l).toArray⟩:ByteArray)=⟨#[b]⟩++⟨l.toArray⟩:=by
  apply ByteArray.ext
  rw[show ((⟨#[b]⟩:ByteArray)++⟨l.toArray⟩).data = #[b]++l.toArray from ByteArray.data_append]
  simp
 rw[UF,ByteArray.append_assoc,e]
theorem IB {s:ByteArray}{f:Nat}:∀(l:List UInt8) (n i:Nat) (out:ByteArray),Sub s i (Ay l++[34])→l.all CS=true→out.size+l.length≤60→s.size-i<n→CU s f n i out=.ok (out++⟨l.toArray⟩) (i+(Ay l).length+1)
 |l,0,i,out,_,_,_,hn=>by omega
 | [],n+1,i,out,h,_,hz,hn=>by
  have hb:bAt s i=34:=Sub.head (l:=[]) h
  have hs:=BW (s:=s) (i:=i) (by omega)
  unfold CU
  rw[if_neg (by omega),if_pos hb,if_neg (by simp at hz;omega)]
  have:out++(⟨([]:List UInt8).toArray⟩:ByteArray)=out:=ByteArray.append_empty
  rw[this]
  rfl
 |b::l,n+1,i,out,h,ha,hz,hn=>by
  simp only[List.all_cons,Bool.and_eq_true]at ha
  obtain⟨hb,ha⟩:=ha
  simp only[List.length_cons]at hz
  have hok:32≤b.toNat∧b.toNat≤126:=by unfold CS at hb;simpa using hb
  have he:Ay (b::l)=CA b++Ay l:=rfl
  rw[he]at h
  have hsz:∀x:Nat,(out++BF x).size+l.length≤60:=fun x=>by rw[DN];omega
  rw[TM]
  by_cases h34:b=34
  ·have e:CA b=[92,34]:=by unfold CA;rw[if_pos h34]
   rw[e]at h
   rw[List.append_assoc]at h
   have a0:bAt s i=92:=Sub.head h
   have a1:bAt s (i+1)=34:=Sub.head (Sub.tail h)
   have hs:=BW (s:=s) (i:=i) (by omega)
   unfold CU
   rw[if_neg (by omega),if_neg (by omega),if_neg (by omega),if_neg (by omega)]
   have hx:EJ s i=.ok 34 (i+2):=by unfold EJ;rw[if_pos (.inl a1),a1]
   rw[hx]
   have:=IB (f:=f) l n (i+2) (out++BF 34) (Sub.tail (Sub.tail h)) ha (hsz _) (by omega)
   show CU s f n (i+2) (out++BF 34)=_
   rw[this,he,e,h34]
   simp only[List.length_append,List.length_cons,List.length_nil]
   congr 1
   omega
  by_cases h92:b=92
  ·have e:CA b=[92,92]:=by unfold CA;rw[if_neg h34,if_pos h92]
   rw[e]at h
   rw[List.append_assoc]at h
   have a0:bAt s i=92:=Sub.head h
   have a1:bAt s (i+1)=92:=Sub.head (Sub.tail h)
   have hs:=BW (s:=s) (i:=i) (by omega)
   unfold CU
   rw[if_neg (by omega),if_neg (by omega),if_neg (by omega),if_neg (by omega)]
   have hx:EJ s i=.ok 92 (i+2):=by unfold EJ;rw[if_pos (.inr (.inl a1)),a1]
   rw[hx]
   have:=IB (f:=f) l n (i+2) (out++BF 92) (Sub.tail (Sub.tail h)) ha (hsz _) (by omega)
   show CU s f n (i+2) (out++BF 92)=_
   rw[this,he,e,h92]
   simp only[List.length_append,List.length_cons,List.length_nil]
   congr 1
   omega
  ·have e:CA b=[b]:=by unfold CA;rw[if_neg h34,if_neg h92]
   rw[e]at h
   rw[List.append_assoc]at h
   have a0:bAt s i=b.toNat:=Sub.head h
   have hs:=BW (s:=s) (i:=i) (by omega)
   have n34:b.toNat≠34:=fun h=>h34 (UInt8.toNat_inj.1 h)
   have n92:b.toNat≠92:=fun h=>h92 (UInt8.toNat_inj.1 h)
   unfold CU
   rw[if_neg (by omega),if_neg (by omega),if_neg (by omega),if_pos (by omega),a0]
   rw[IB (f:=f) l n (i+1) (out++BF b.toNat) (Sub.tail h) ha (hsz _) (by omega),he,e]
   simp only[List.length_append,List.length_cons,List.length_nil]
   congr 1
   omega
theorem Er (t:ByteArray):(BY t).data.toList=34::(Ay t.data.toList++[34]):=by
 unfold BY
 rw[Bl,Bl]
 simp
theorem Mr {s:ByteArray}{i:Nat}{t:ByteArray}(h:Sub s i (BY t).data.toList) (ht:AN t=true):E4 s i=.ok t (i+(BY t).size):=by
 have hl:(BY t).size=(Ay t.data.toList).length+2:=by rw[←AL,Er];simp
 rw[Er]at h
 unfold AN at ht
 simp only[Bool.and_eq_true,decide_eq_true_eq]at ht
 have hh:=Sub.head h
 unfold E4
 rw[if_neg (by rw[hh];decide)]
 rw[IB (f:=i) t.data.toList (s.size+1) (i+1) ByteArray.empty (Sub.tail h) ht.2 (by rw[AL];simpa using ht.1) (by omega),hl]
 have:ByteArray.empty++(⟨t.data.toList.toArray⟩:ByteArray)=t:=by rw[ByteArray.empty_append]
 rw[this]
 congr 1
 omega
theorem PM {d:Nat}(h:d<10):(UInt8.ofNat (48+d)).toNat=48+d:=by
 rw[UInt8.toNat_ofNat']
 exact Nat.mod_eq_of_lt (by omega)
theorem Fk {s:ByteArray}{a:Nat}:∀(m u:Nat),u≤m→Sub s a (Lib.decDigits u)→Bf s a (Lib.decDigits u).length=u∧(∀j,a≤j→j<a+(Lib.decDigits u).length→AP (bAt s j)=true)∧(u≠0→bAt s a≠48)
 |m,u,hm,h=>by
  by_cases hu:u<10
  ·rw[Lib.decDigits_one hu]at h ⊢
   have hb:=Sub.head h
   rw[PM hu]at hb
   refine⟨?_,fun j h1 h2=>?_,fun h0=>by omega⟩
   ·simp only[List.length_cons,List.length_nil,Bf,Nat.add_zero,hb]
    omega
   ·have:j=a:=by simp at h2;omega
    rw[this,hb]
    unfold AP
    simp
    omega
  ·cases m with
   |zero=>omega
   |succ m =>
    have e:Lib.decDigits u=Lib.decDigits (u / 10)++[UInt8.ofNat (48+u % 10)]:=by rw[Lib.decDigits,dif_neg hu]
    rw[e]at h ⊢
    obtain⟨h1,h2,h3⟩:=Fk m (u / 10) (by omega) (Sub.left h)
    have hb:=Sub.head (Sub.right h)
    rw[PM (by omega)]at hb
    refine⟨?_,fun j g1 g2=>?_,fun _=>h3 (by omega)⟩
    ·simp only[List.length_append,List.length_cons,List.length_nil,Bf,h1,hb]
     omega
    ·simp only[List.length_append,List.length_cons,List.length_nil]at g2
     by_cases hj:j<a+(Lib.decDigits (u / 10)).length
     ·exact h2 j g1 hj
     ·have:j=a+(Lib.decDigits (u / 10)).length:=by omega
      rw[this,hb]
      unfold AP
      simp
      omega
theorem Pq {s:ByteArray}:∀(n i:Nat),(∀j,i≤j→j<i+n→AP (bAt s j)=true)→AP (bAt s (i+n))=false→Dm s i=i+n
 | 0,i,_,h=>Eo h
 |n+1,i,h1,h2=>by
  rw[IX (h1 i (Nat.le_refl _) (by omega)),Pq n (i+1) (fun j g1 g2=>h1 j (by omega) (by omega)) (by rw[show i+1+n=i+(n+1) by omega];exact h2)]
  omega
theorem Rq {u:Nat}(h:u≤1000000000000000):Lib.nDigits u≤16:=by
 rcases Nat.lt_or_ge (Lib.nDigits u) 17 with h1 | h1
 ·omega
 ·exfalso
  have key:∀(n v:Nat),n+1≤Lib.nDigits v→10 ^ n≤v∨(n=0):=by
   intro n
   induction n with
   |zero=>intro v _;exact .inr rfl
   |succ n ih =>
    intro v hv
    by_cases hv10:v<10
    ·rw[Lib.nDigits_small hv10]at hv;omega
    ·rw[Lib.nDigits_big hv10]at hv
     rcases ih (v / 10) (by omega) with h | h
     ·refine .inl ?_
      rw[Nat.pow_succ]
      omega
     ·refine .inl ?_
      rw[h]
      omega
  rcases key 16 u h1 with h | h
  ·have:(10:Nat) ^ 16=10000000000000000:=by decide
   omega
  ·omega
def MH (s:ByteArray) (e:Nat):Prop:=AP (bAt s e)=false∧G6 (bAt s e)=false
theorem Wo {s:ByteArray}{a u:Nat}(h:Sub s a (Lib.decDigits u)) (hs:AP (bAt s (a+(Lib.decDigits u).length))=false):AP (bAt s a)=true∧(if bAt s a=48 then a+1 else Dm s a)=a+(Lib.decDigits u).length∧Bf s a (Lib.decDigits u).length=u:=by
 obtain⟨h1,h2,h3⟩:=Fk u u (Nat.le_refl _) h
 have hp:1≤(Lib.decDigits u).length:=by rw[Lib.decDigits_length];exact Lib.nDigits_pos u
 refine⟨h2 a (Nat.le_refl _) (by omega),?_,h1⟩
 by_cases hu:u=0
 ·subst hu
  have e:Lib.decDigits 0=[48]:=by rw[Lib.decDigits_one (by decide)];rfl
  rw[e]at h ⊢
  rw[if_pos (show bAt s a=48 from Sub.head h)]
  rfl
 ·rw[if_neg (h3 hu)]
  exact Pq _ _ h2 hs
theorem Vg {s:ByteArray}{i:Nat}{n:Int}(hn:-1000000000000000≤n∧n≤1000000000000000) (h:Sub s i (Fx n).data.toList) (hs:MH s (i+(Fx n).size)):K8 s i=.ok n (i+(Fx n).size):=by
 have hl:(Fx n).size=(Lib.itoa n).length:=by rw[←AL];simp[Fx]
 have hd:(Fx n).data.toList=Lib.itoa n:=by simp[Fx]
 rw[hd]at h
 rw[hl]at hs ⊢
 have fin:∀(a u:Nat),AB s i=a→Sub s a (Lib.decDigits u)→u≤1000000000000000→a+(Lib.decDigits u).length=i+(Lib.itoa n).length→Ef s i=n∨True→(bAt s i=45→-((u:Nat):Int)=n)→(bAt s i≠45→((u:Nat):Int)=n)→K8 s i=.ok n (i+(Lib.itoa n).length):=by
  intro a u ha hsub hu hal _ hm hp
  obtain⟨g1,g2,g3⟩:=Wo hsub (by rw[hal];exact hs.1)
  have hE:AQ s i=a+(Lib.decDigits u).length:=by unfold AQ;rw[ha];exact g2
  have hlen:=Rq hu
  rw[←Lib.decDigits_length]at hlen
  have hsub':AQ s i-AB s i=(Lib.decDigits u).length:=by rw[hE,ha];omega
  unfold K8
  rw[if_neg (by rw[ha,g1];decide)]
  have hbig:Dx s i=false:=by
   unfold Dx
   rw[hsub',ha,g3]
   simp
   omega
  rw[if_neg (by rw[hbig];decide),if_neg (by rw[hE,hal,hs.2];decide),hE,hal]
  congr 1
  unfold Ef
  rw[hsub',ha,g3]
  by_cases h45:bAt s i=45
  ·rw[if_pos h45];exact hm h45
  ·rw[if_neg h45];exact hp h45
 unfold Lib.itoa at h
 by_cases h0:n<0
 ·rw[if_pos h0]at h
  have hb:bAt s i=45:=Sub.head h
  refine fin (i+1) n.natAbs (by unfold AB;rw[if_pos hb]) (Sub.tail h) (by omega) ?_ (.inr trivial) (fun _=>by omega) (fun h=>absurd hb h)
  unfold Lib.itoa
  rw[if_pos h0,List.length_cons]
  omega
 ·rw[if_neg h0]at h
  obtain⟨_,h2,_⟩:=Fk n.toNat n.toNat (Nat.le_refl _) h
  have hp:1≤(Lib.decDigits n.toNat).length:=by rw[Lib.decDigits_length];exact Lib.nDigits_pos _
  have hd0:=DM (h2 i (Nat.le_refl _) (by omega))
  have hb:bAt s i≠45:=by omega
  refine fin i n.toNat (by unfold AB;rw[if_neg hb]) h (by omega) ?_ (.inr trivial) (fun h=>absurd h hb) (fun _=>by omega)
  unfold Lib.itoa
  rw[if_neg h0]
end Go.Proofs.YtllfmaflodbieaaGreatDoor
