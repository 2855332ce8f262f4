/- Texts of this proof: G15 G31 M30 M38 M12 M41 M43. -/
import Derived.Test.YtllfmaflodbieaaGreatDoorKG55uGX
import Derived.Deep.RegionLaw
import Derived.Shelf.RegionOpenPlain
set_option linter.all false
set_option maxHeartbeats 8000000
namespace Go.Proofs.YtllfmaflodbieaaGreatDoor
open Go.RowKit
def Nx (p:List V×V):AV:=.agg [.c (.sl (p.1.map V.cs)),.c (.int .i64 p.2.kind),.c (.int .i64 p.2.num),.c (.str p.2.text),.c (.sl (p.2.keys.map CX)),.c (.sl (p.2.kids.map V.cs))]
set_option maxRecDepth 10000
def MF {α:Type}(d:α→Bool) (l:List α):Int:=match l.findIdx? d with
 |some i=>i
 |none=>-1
theorem Sb (f:FuncId) (hcal:Is Tryz.prog f=true) (d:List V×V→Bool) (l:List (List V×V)) (hl:l.length≤1000000) (hd:∀p∈l,AC Tryz.prog f [Nx p] [] (.c (.bool (d p))) []) :
  AC Tryz.prog 207 [.c (.sl (l.map JZ)),.clo f []] [] (.c (.int .i64 (MF d l))) []:=by
 refine JI Tryz.func207 Tryz.ntmps207 ?_
 refine JV q9 ?_
 refine Jz (κ:=Nat) (fun k=>⟨mkS 0 19 [(0,.c (.sl (l.map JZ))),(1,.clo f []),(7,.c (.int .i64 l.length)),(8,.c (.int .i64 k))],[]⟩)
  (fun k=>k≤l.length∧∀j (h:j<l.length),j<k→d l[j]=false) (fun k=>l.length-k) 0 ⟨Nat.zero_le _,by intro j h hj;omega⟩ ?_ ?_
 ·exact JQ (F7.of [] []) hl
 ·rintro k ⟨hk,hno⟩
  by_cases hlt:k<l.length
  ·have hdk:decide ((k:Int)<(l.length:Int))=true:=by simpa using hlt
   have hw:=JX (k:=k) (by omega)
   have hr:B4 (l.map JZ) 6 k=true:=by simp[B4,hlt,JZ]
   have hg:(l.map JZ)[k]? = some [.sl (l[k].1.map V.cs),.int .i64 l[k].2.kind,.int .i64 l[k].2.num,.str l[k].2.text,.sl (l[k].2.keys.map CX),.sl (l[k].2.kids.map V.cs)]:=by simp[hlt,JZ]
   have hc:=hd l[k] (List.getElem_mem hlt)
   unfold Nx at hc
   cases hb:d l[k] with
   |true =>
    rw[hb]at hc
    have hix:MF d l=k:=by
     unfold MF
     rw[List.findIdx?_eq_some_iff_getElem.2 ⟨hlt,hb,fun j hj=>by simp[hno j (by omega) hj]⟩]
    rw[hix]
    refine JV (j3 hdk hr hg) ?_
    refine w7 (Ju [] hc) hcal ?_
    refine JV q9 ?_
    exact JW (Iu []) Tryz.results207
   |false =>
    rw[hb]at hc
    refine JV (j3 hdk hr hg) ?_
    refine w7 (Ju [] hc) hcal ?_
    refine JV hw ?_
    refine⟨k+1,by omega,⟨by omega,fun j h hj=>?_⟩,?_⟩
    ·by_cases hjk:j=k
     ·subst hjk;exact hb
     ·exact hno j h (by omega)
    ·exact JQ (F7.of [] []) hw
  ·have hdk:decide ((k:Int)<(l.length:Int))=false:=by simpa using hlt
   have hix:MF d l = -1:=by
    unfold MF
    rw[List.findIdx?_eq_none_iff.2 fun x hx=>by
     obtain⟨i,hi,rfl⟩:=List.getElem_of_mem hx
     exact hno i hi (by omega)]
   rw[hix]
   refine JV hdk ?_
   exact JW (Iu []) Tryz.results207
theorem Y0 (p:List V×V):(JZ p).length=6:=rfl
theorem R4 {α:Type}{d:α→Bool}{l:List α}{j:Nat}(h:j<l.length):(l.take (j+1)).filter d=(l.take j).filter d++(if d l[j] then [l[j]] else []):=by
 rw[List.take_succ_eq_append_getElem h,List.filter_append]
 simp[List.filter_cons]
theorem a5z {α:Type}{l:List α}(h:l.length=6):∃a b c d e f,l=[a,b,c,d,e,f]:=by
 match l,h with
 | [a,b,c,d,e,f],_=>exact⟨a,b,c,d,e,f,rfl⟩
theorem R7 (f:FuncId) (hcal:Is Tryz.prog f=true) (d:List V×V→Bool) (l:List (List V×V)) (hl:l.length≤1000000) (hd:∀p∈l,AC Tryz.prog f [Nx p] [] (.c (.bool (d p))) []) :
  AC Tryz.prog 157 [.own (0,0),.clo f []] [((0,0),.row false 6 79 (l.map JZ))] (.own (1,0)) [((1,0),.row false 6 79 ((l.filter fun p=>!d p).map JZ))]:=by
 have hix:=Sb f hcal d l hl hd
 cases hfi:l.findIdx? d with
 |none =>
  have h1:MF d l = -1:=by unfold MF;rw[hfi]
  have hall:(l.filter fun p=>!d p)=l:=List.filter_eq_self.2 fun x hx=>by
   have:=List.findIdx?_eq_none_iff.1 hfi x hx
   simp[this]
  rw[h1]at hix
  rw[hall]
  have hm1:((-1:Int)==-1)=true:=rfl
  refine JI Tryz.func157 Tryz.ntmps157 ?_
  refine JV q9 ?_
  refine w7 (Ju [(0,0)] hix) q9 ?_
  refine JV hm1 ?_
  exact JJ (JN [((1,0),(0,0))] []) Tryz.results157 hall
 |some i0 =>
  obtain⟨hi0,hdi,hno⟩:=List.findIdx?_eq_some_iff_getElem.1 hfi
  have h1:MF d l=i0:=by unfold MF;rw[hfi]
  rw[h1]at hix
  have hm1:((i0:Int)==-1)=false:=by simp
  have hw0:=JX (k:=i0) (by omega)
  have hk0:(l.take (i0+1)).filter (fun p=>!d p)=l.take i0:=by
   rw[R4 hi0,hdi]
   simp only[Bool.not_true,Bool.false_eq_true,if_false,List.append_nil]
   refine List.filter_eq_self.2 fun x hx=>?_
   obtain⟨j,hj,rfl⟩:=List.getElem_of_mem hx
   rw[List.length_take]at hj
   rw[List.getElem_take]
   simpa using hno j (by omega)
  have hkl:((l.take (i0+1)).filter (fun p=>!d p)).length=i0:=by rw[hk0,List.length_take];omega
  refine JI Tryz.func157 Tryz.ntmps157 ?_
  refine JV q9 ?_
  refine w7 (Ju [(0,0)] hix) q9 ?_
  refine JV (j2 hm1 hw0) ?_
  refine Jz (κ:=Nat×List (List C)) (fun x=>⟨mkS 0 42 [(0,.own (0,0)),(1,.clo f []),(5,.c (.int .i64 ((l.take x.1).filter (fun p=>!d p)).length)),(6,.c (.int .i64 x.1))],[((0,0),.row false 6 79 x.2)]⟩)
   (fun x=>x.1≤l.length∧x.2.length=l.length∧((l.take x.1).filter (fun p=>!d p)).length<x.1∧x.2.take ((l.take x.1).filter (fun p=>!d p)).length=((l.take x.1).filter (fun p=>!d p)).map JZ∧x.2.drop x.1=(l.drop x.1).map JZ∧∀y∈x.2,y.length=6) (fun x=>l.length-x.1) (i0+1,l.map JZ) ⟨by dsimp only;omega,by simp,by dsimp only;omega,by dsimp only;rw[hkl,hk0,List.map_take],by dsimp only;rw[List.map_drop],by intro y hy;obtain⟨q,_,rfl⟩:=List.mem_map.1 hy;rfl⟩ ?_ ?_
  ·exact JQ (F7.of [((0,0),(0,0))] []) hkl
  ·rintro⟨j,L⟩ ⟨hj,hL,hlt0,htk,hdr,h6⟩
   dsimp only at hj hL hlt0 htk hdr h6 ⊢
   by_cases hlt:j<l.length
   ·have hdk:decide ((j:Int)<(l.length:Int))=true:=by simpa using hlt
    have hw:=JX (k:=j) (by omega)
    have hLj:L[j]? = some (JZ l[j]):=by
     have:(L.drop j)[0]? = L[j]?:=by rw[List.getElem?_drop];rfl
     rw[←this,hdr]
     rw[List.drop_eq_getElem_cons hlt]
     rfl
    have hg:L[j]? = some [.sl (l[j].1.map V.cs),.int .i64 l[j].2.kind,.int .i64 l[j].2.num,.str l[j].2.text,.sl (l[j].2.keys.map CX),.sl (l[j].2.kids.map V.cs)]:=hLj
    have hr:B4 L 6 j=true:=by unfold B4;rw[Int.toNat_natCast,hLj];simp[Y0]
    have hc:=hd l[j] (List.getElem_mem hlt)
    unfold Nx at hc
    have hnext:=R4 (d:=fun p=>!d p) hlt
    have hdr1:L.drop (j+1)=(l.drop (j+1)).map JZ:=by
     rw[←List.drop_drop,hdr,←List.map_drop,List.drop_drop]
    cases hb:d l[j] with
    |true =>
     rw[hb]at hc hnext
     simp only[Bool.not_true,Bool.false_eq_true,if_false,List.append_nil]at hnext
     refine JV (j4 hL hdk hr hg) ?_
     refine w7 (Ju [] hc) hcal ?_
     refine JV hw ?_
     refine⟨(j+1,L),by dsimp only;omega,⟨by dsimp only;omega,hL,?_,?_,hdr1,h6⟩,?_⟩
     ·dsimp only;rw[hnext];omega
     ·dsimp only;rw[hnext];exact htk
     ·exact JQ (F7.of [((0,0),(0,0))] []) hnext
    |false =>
     rw[hb]at hc hnext
     simp only[Bool.not_false,if_true]at hnext
     have hwi:=JX (k:=((l.take j).filter fun p=>!d p).length) (by omega)
     have hnl:((l.take (j+1)).filter fun p=>!d p).length=((l.take j).filter fun p=>!d p).length+1:=by rw[hnext];simp
     generalize hI:((l.take j).filter fun p=>!d p).length=I at *
     have hIL:I<L.length:=by omega
     obtain⟨old,hold⟩:∃old,L[I]? = some old:=⟨L[I],List.getElem?_eq_getElem hIL⟩
     obtain⟨o1,o2,o3,o4,o5,o6,rfl⟩:=a5z (h6 old (List.mem_of_getElem? hold))
     have hri:B4 L 6 I=true:=by unfold B4;rw[Int.toNat_natCast,hold];rfl
     refine JV (j4 hL hdk hr hg) ?_
     refine w7 (Ju [] hc) hcal ?_
     refine JV (j4 hri hold hwi hw) ?_
     refine⟨(j+1,L.set I (JZ l[j])),by dsimp only;omega,⟨by dsimp only;omega,by dsimp only;rw[List.length_set];exact hL,?_,?_,?_,?_⟩,?_⟩
     ·dsimp only;omega
     ·dsimp only
      rw[hnl,hnext,List.map_append,←htk]
      rw[List.set_eq_take_append_cons_drop,if_pos hIL,show L.take I++JZ l[j]::L.drop (I+1)=(L.take I++[JZ l[j]])++L.drop (I+1) by simp]
      exact List.take_left' (by simp;omega)
     ·dsimp only
      rw[←hdr1]
      apply List.ext_getElem?
      intro n
      rw[List.getElem?_drop,List.getElem?_drop,List.getElem?_set_ne (by omega)]
     ·intro y hy
      rcases List.mem_or_eq_of_mem_set hy with hy | rfl
      ·exact h6 y hy
      ·rfl
     ·(apply (F7.of [((0,0),(0,0))] []);(iterate 2 ((focus (simp only[go_sem,Nat.reduceEqDiff,Nat.reduceAdd,Nat.reduceSub,Nat.reduceLeDiff,Nat.reduceMul,Nat.reduceBEq,Nat.reduceLT,Int.reduceToNat,reduceCtorEq,hnl,JZ];try (and_intros<;>rfl)));(focus exact rfl)));(iterate 4 (focus (simp[go_sem,hnl,JZ];done))))
   ·have hdk:decide ((j:Int)<(l.length:Int))=false:=by simpa using hlt
    have hje:l.take j=l:=List.take_of_length_le (by omega)
    rw[hje]at htk hlt0 ⊢
    generalize hF:(l.filter fun p=>!d p)=F at *
    have hFl:F.length≤L.length:=by omega
    have hzz:F.length≤(L.take F.length++List.replicate (L.length-F.length) [C.sl [],.int .i64 0,.int .i64 0,.str ByteArray.empty,.sl [],.sl []]).length:=by simp;omega
    have hfin:(L.take F.length++List.replicate (L.length-F.length) [C.sl [],.int .i64 0,.int .i64 0,.str ByteArray.empty,.sl [],.sl []]).take F.length=F.map JZ:=by
     rw[List.take_append_of_le_length (by rw[List.length_take];omega),List.take_take,Nat.min_self,htk]
    refine JV (j2 hL hdk) ?_
    ((with_reducible apply a4a);(iterate 9 (focus (first | (simp only[go_sem,Nat.reduceEqDiff,Nat.reduceAdd,Nat.reduceSub,Nat.reduceLeDiff,Nat.reduceMul,Nat.reduceBEq,Nat.reduceLT,Int.reduceToNat,reduceCtorEq,hFl];first | done | exact rfl | (and_intros<;>rfl)) | exact rfl | decide))))
    ((with_reducible apply a1q);(iterate 12 (focus (first | (simp only[go_sem,Nat.reduceEqDiff,Nat.reduceAdd,Nat.reduceSub,Nat.reduceLeDiff,Nat.reduceMul,Nat.reduceBEq,Nat.reduceLT,Int.reduceToNat,reduceCtorEq,hFl];first | done | exact rfl | (and_intros<;>rfl)) | exact rfl | decide))))
    refine JV q9 ?_
    ((with_reducible apply U6);(iterate 10 (focus (first | (simp only[go_sem,Nat.reduceEqDiff,Nat.reduceAdd,Nat.reduceSub,Nat.reduceLeDiff,Nat.reduceMul,Nat.reduceBEq,Nat.reduceLT,Int.reduceToNat,reduceCtorEq,hzz];first | done | exact rfl | (and_intros<;>rfl)) | exact rfl | decide))))
    refine JV q9 ?_
    exact JJ (JN [((1,0),(41,0))] []) Tryz.results157 hfin
def M7 (p:List V×V):Bool:=!p.2.kids.isEmpty
theorem Nr (t:V):AC Tryz.prog 88 [t.av] [] (.c (.bool t.kids.isEmpty)) []:=by
 have h0:(((t.kids.length:Int))==0)=t.kids.isEmpty:=by cases t.kids<;>simp;omega
 refine JI Tryz.func88 Tryz.ntmps88 ?_
 refine JV q9 ?_
 exact Iu [] (by simp only[Tryz.results88,go_sem,Nat.reduceBEq,Nat.reduceLT];exact rfl) (by simp only[go_sem,Nat.reduceEqDiff,Nat.reduceAdd,Nat.reduceSub,Nat.reduceLeDiff,Nat.reduceMul,Nat.reduceBEq,Nat.reduceLT,Int.reduceToNat,reduceCtorEq,h0]) rfl
theorem UY (p:List V×V):AC Tryz.prog 159 [Nx p] [] (.c (.bool (M7 p))) []:=by
 have h1:=Nr p.2
 unfold Nx
 refine JI Tryz.func159 Tryz.ntmps159 ?_
 refine JV q9 ?_
 refine w7 (Ju [] h1) q9 ?_
 refine JV q9 ?_
 exact Iu [] (by simp only[Tryz.results159,go_sem,Nat.reduceBEq,Nat.reduceLT];exact rfl) (by simp only[go_sem,Nat.reduceEqDiff,Nat.reduceAdd,Nat.reduceSub,Nat.reduceLeDiff,Nat.reduceMul,Nat.reduceBEq,Nat.reduceLT,Int.reduceToNat,reduceCtorEq,M7]) rfl
theorem ZS (t:V) (hc:t.count≤500000) (hn:t.neat):AC Tryz.prog 97 [t.av] [] (.own (0,0)) [((0,0),.row false 6 79 (((t.paths []).filter fun p=>!M7 p).map JZ))]:=by
 have hq:=e9 t hc hn
 have hpl:=Mo t []
 have hd:=R7 159 (by simp only[go_sem]) M7 (t.paths []) (by omega) (fun p _=>UY p)
 refine JI Tryz.func97 Tryz.ntmps97 ?_
 refine JV q9 ?_
 refine w12 (Kj [] hq) q9 ?_
 refine w10 (Jt (4,0) hd) q9 ?_
 refine JV q9 ?_
 exact JJ (JN [((0,0),(5,0))] []) Tryz.results97 hpl
set_option maxRecDepth 10000
theorem O2 {q:V}(h:q.right):AC Tryz.prog 49 [q.av] [] (.own (0,0)) [((0,0),.row false 5 115 (q.enc.map CellD.cs))] :=
 Rz q.count q (Nat.le_refl _) (by have:=h.2.1;omega) (Lc h)
theorem W5 {t:V}(h:t.right):Ij t=okR t:=by
 unfold Ij
 rw[MK h]
 rfl
theorem S2 {t:V}(h:t.kind=6) (key:ByteArray):KG t key=okR (t.member key):=by
 unfold KG
 rw[if_neg (by omega),if_pos h]
def Hq (t:V):Int×Option V:=if t.count≤200 then okR t else FX 2
theorem NI {t:V}(hw:t.wf) (hd:t.depth≤20):Ij t=Hq t:=by
 unfold Hq
 split
 ·exact W5 ⟨hw,‹_›,hd⟩
 ·unfold Ij
  rw[PF (.inr (by rw[KU];omega))]
  rfl
theorem a4f {q:List V}{x u v':V}{kids:List V}{i:Nat}(hi:i<kids.length) (hl:kids.length≤200) (hput:BT x q u=Hq v') (hw:(Ir (kids.set i v')).wf) (hd:(Ir (kids.set i v')).depth≤20) :
  BT x (L2 (i:Int)::q) (Ir (kids.set i u))=Hq (Ir (kids.set i v')):=by
 have hf:BY (L2 (i:Int)).num (Ir (kids.set i u)).kids.length=(i:Int):=by
  unfold BY
  rw[show (L2 (i:Int)).num=(i:Int) from rfl,if_neg (show ¬((i:Int)<0) by omega)]
 have hp:Jo (kids.set i u) i=kids.set i u:=by
  unfold Jo
  rw[List.length_set,show i+1-kids.length=0 by omega]
  simp
 have hg:(kids.set i u).getD i Dq=u:=by simp[hi]
 have e:BT x (L2 (i:Int)::q) (Ir (kids.set i u))=I7 (Ir (kids.set i u)) (L2 (i:Int)).num (BT x q):=by
  conv=>lhs;unfold BT
  rw[if_pos (show (L2 (i:Int)).kind=3 from rfl)]
 rw[e]
 unfold I7
 rw[if_pos (.inl (show (Ir (kids.set i u)).kind=5 from rfl)),hf,if_neg (by omega),if_neg (by omega),Int.toNat_natCast]
 show J0 (BT x q ((Jo (kids.set i u) i).getD i Dq)) (fun r=>Ij (Ir ((Jo (kids.set i u) i).set i r)))=_
 rw[hp,hg,hput]
 by_cases hc:v'.count≤200
 ·have:Hq v'=(0,some v'):=by unfold Hq;rw[if_pos hc];rfl
  rw[this]
  show Ij (Ir ((kids.set i u).set i v'))=_
  rw[List.set_set]
  exact NI hw hd
 ·have h1:Hq v'=(2,none):=by unfold Hq;rw[if_neg hc];rfl
  have h2:=K7 (t:=v') (ks:=kids.set i v') (List.mem_iff_getElem.2 ⟨i,by simpa using hi,by simp⟩)
  have h3:¬(Ir (kids.set i v')).count≤200:=by simp only[Ir,V.count];omega
  have h4:Hq (Ir (kids.set i v'))=(2,none):=by unfold Hq;rw[if_neg h3];rfl
  rw[h1,h4]
  rfl
theorem Xg (t:V):t.count=1+GR t.kids:=by
 cases t
 simp only[V.count,V.kids]
 omega
theorem Mg (t:V):t.depth=1+GU t.kids:=by
 cases t
 simp only[V.depth,V.kids]
 omega
abbrev Lv:=ByteArray×V
def Kq (l:List Lv):List ByteArray:=l.map Prod.fst
def MB (l:List Lv):List V:=l.map Prod.snd
def ovV (l:List Lv):V:=.mk 6 0 ByteArray.empty (Kq l) (MB l)
theorem MW (a b:List Lv):Kq (a++b)=Kq a++Kq b:=List.map_append
theorem a2j (a b:List Lv):MB (a++b)=MB a++MB b:=List.map_append
theorem Oy (k:ByteArray) (v:V) (b:List Lv):Kq ((k,v)::b)=k::Kq b:=rfl
theorem q8 (k:ByteArray) (v:V) (b:List Lv):MB ((k,v)::b)=v::MB b:=rfl
theorem Xu (l:List Lv):(Kq l).length=(MB l).length:=by unfold Kq MB;rw[List.length_map,List.length_map]
theorem a54 {l:List Lv}(h:Up (Kq l)) {k:ByteArray}{u v:V}(h1:(k,u)∈l) (h2:(k,v)∈l):u=v:=by
 obtain⟨i,hi,e1⟩:=List.mem_iff_getElem.1 h1
 obtain⟨j,hj,e2⟩:=List.mem_iff_getElem.1 h2
 have g1:(Kq l)[i]? = some k:=by unfold Kq;rw[List.getElem?_map,List.getElem?_eq_getElem hi,e1];rfl
 have g2:(Kq l)[j]? = some k:=by unfold Kq;rw[List.getElem?_map,List.getElem?_eq_getElem hj,e2];rfl
 have:=Vn h g1 g2
 subst this
 rw[e1]at e2
 exact (Prod.mk.inj e2).2
theorem c8 {l:List Lv}(h:Up (Kq l)) {k:ByteArray}{u:V}(h1:(k,u)∈l):(ovV l).member k=u:=by
 obtain⟨i,hi,e1⟩:=List.mem_iff_getElem.1 h1
 rw[QP]
 refine a3y (i:=i) h ?_ ?_
 ·show (Kq l)[i]? = some k
  unfold Kq;rw[List.getElem?_map,List.getElem?_eq_getElem hi,e1];rfl
 ·show (MB l)[i]? = some u
  unfold MB;rw[List.getElem?_map,List.getElem?_eq_getElem hi,e1];rfl
theorem a4c {l:List Lv}{k:ByteArray}(h:k ∉ Kq l):(ovV l).member k=Dq:=by
 rw[QP]
 exact ZT h
theorem QM {l:List Lv}(h:Up (Kq l)) {k:ByteArray}{u:V}(h1:(k,u)∈l):FM (Kq l) (MB l) k=u:=by
 have hk:k∈Kq l:=List.mem_map.2 ⟨(k,u),h1,rfl⟩
 obtain⟨j,g1,_,g3⟩:=Ml (Xu l) hk
 obtain⟨i,hi,e1⟩:=List.mem_iff_getElem.1 h1
 have q1:(Kq l)[i]? = some k:=by unfold Kq;rw[List.getElem?_map,List.getElem?_eq_getElem hi,e1];rfl
 have:=Vn h g1 q1
 subst this
 have q2:(MB l)[j]? = some u:=by unfold MB;rw[List.getElem?_map,List.getElem?_eq_getElem hi,e1];rfl
 rw[q2]at g3
 exact (Option.some.inj g3).symm
theorem a1v {l r:List Lv}(hl:Up (Kq l)) (hr:Up (Kq r)) {k:ByteArray}{x:V}(hx:(k,x)∈r) (hk:∀y,(y∈Kq l∨y=k)↔y∈Kq r) (hm:∀e∈r,e.1≠k→e∈l) :
  Jm ((ovV l).keys++[k]) ((ovV l).kids++[x])=ovV r:=by
 show Jm (Kq l++[k]) (MB l++[x])=_
 unfold Jm
 have e:FQ (Kq l++[k])=Kq r:=Zg (LR _) hr fun y=>by
  rw[Kv,List.mem_append,List.mem_singleton]
  exact hk y
 rw[e]
 unfold ovV
 congr 1
 unfold MB
 rw[show Kq r=r.map Prod.fst from rfl,List.map_map]
 refine List.map_congr_left fun q hq=>?_
 obtain⟨y,v⟩:=q
 show FM (Kq l++[k]) (MB l++[x]) y=v
 rw[Lz (Xu l) (by
  rcases (hk y).2 (List.mem_map.2 ⟨(y,v),hq,rfl⟩) with h | h
  ·exact .inr h
  ·exact .inl h)]
 split
 ·rename_i he
  subst he
  exact a54 hr hx hq
 ·rename_i he
  exact QM hl (hm _ hq he)
theorem a5u {L R:List Lv}{k:ByteArray}{u x:V}(h:Up (Kq (L++(k,u)::R))):Jm ((ovV (L++(k,u)::R)).keys++[k]) ((ovV (L++(k,u)::R)).kids++[x])=ovV (L++(k,x)::R):=by
 have e:∀v,Kq (L++(k,v)::R)=Kq L++k::Kq R:=fun v=>by rw[MW,Oy]
 refine a1v h (by rw[e]at h ⊢;exact h) (List.mem_append.2 (.inr (by simp))) (fun y=>?_) (fun q hq hne=>?_)
 ·rw[e,e]
  exact⟨fun h=>h.elim id fun e=>by rw[e];simp,.inl⟩
 ·rcases List.mem_append.1 hq with hq | hq
  ·exact List.mem_append.2 (.inl hq)
  ·rcases List.mem_cons.1 hq with rfl | hq
   ·exact absurd rfl hne
   ·exact List.mem_append.2 (.inr (List.mem_cons_of_mem _ hq))
theorem a5t {L R:List Lv}{k:ByteArray}{x:V}(h:Up (Kq (L++(k,x)::R))):Jm ((ovV (L++R)).keys++[k]) ((ovV (L++R)).kids++[x])=ovV (L++(k,x)::R):=by
 have e:Kq (L++(k,x)::R)=Kq L++k::Kq R:=by rw[MW,Oy]
 have hs:Up (Kq (L++R)):=by
  rw[e]at h
  rw[MW]
  exact List.Pairwise.sublist (List.Sublist.append (List.Sublist.refl _) (List.sublist_cons_self _ _)) h
 refine a1v hs h (List.mem_append.2 (.inr (by simp))) (fun y=>?_) (fun q hq hne=>?_)
 ·rw[e,MW]
  simp only[List.mem_append,List.mem_cons]
  constructor
  ·rintro ((h | h) | h)
   ·exact .inl h
   ·exact .inr (.inr h)
   ·exact .inr (.inl h)
  ·rintro (h | h | h)
   ·exact .inl (.inl h)
   ·exact .inr h
   ·exact .inl (.inr h)
 ·rcases List.mem_append.1 hq with hq | hq
  ·exact List.mem_append.2 (.inl hq)
  ·rcases List.mem_cons.1 hq with rfl | hq
   ·exact absurd rfl hne
   ·exact List.mem_append.2 (.inr hq)
theorem a2w {L R:List Lv}{k:ByteArray}{u:V}(h:Up (Kq (L++(k,u)::R))):(∀e∈L,Jj e.1 k=true)∧(∀e∈R,Jj k e.1=true):=by
 rw[MW,Oy]at h
 obtain⟨_,h2,h3⟩:=List.pairwise_append.1 (show List.Pairwise _ _ from h)
 refine⟨fun e he=>h3 _ (List.mem_map.2 ⟨e,he,rfl⟩) _ (by simp),fun e he=>(List.pairwise_cons.1 h2).1 _ (List.mem_map.2 ⟨e,he,rfl⟩)⟩
theorem a3x {a b:ByteArray}(h:Jj a b=true):a≠b:=fun e=>by subst e;rw[Ko]at h;cases h
theorem a6h {L R:List Lv}{k:ByteArray}{u:V}(h:Up (Kq (L++(k,u)::R))):(ovV (L++(k,u)::R)).member k=u:=c8 h (List.mem_append.2 (.inr (by simp)))
def Nm (l:List Lv):Nat:=GR (MB l)
theorem UH (a b:List Lv):Nm (a++b)=Nm a+Nm b:=by unfold Nm;rw[a2j,Pa]
theorem O1 (k:ByteArray) (v:V) (b:List Lv):Nm ((k,v)::b)=v.count+Nm b:=rfl
theorem WG (l:List Lv):(ovV l).count=1+Nm l:=by unfold ovV Nm;rw[V.count];omega
def Vo (D:Nat) (l:List Lv):Prop:=∀e∈l,Fr e.1=true∧e.2.wf∧e.2.depth≤D
theorem a5s {D:Nat}{l:List Lv}(h:Up (Kq l)) (hf:Vo D l) (hl:l.length≤200):(ovV l).wf∧(ovV l).depth≤D+1:=by
 refine⟨XQ (Xu l) (fun k hk=>?_) h (fun v hv=>?_) (by unfold MB;rw[List.length_map];exact hl),?_⟩
 ·obtain⟨e,he,rfl⟩:=List.mem_map.1 hk
  exact (hf e he).1
 ·obtain⟨e,he,rfl⟩:=List.mem_map.1 hv
  exact (hf e he).2.1
 ·have:GU (MB l)≤D:=Me fun v hv=>by
   obtain⟨e,he,rfl⟩:=List.mem_map.1 hv
   exact (hf e he).2.2
  unfold ovV
  rw[V.depth]
  omega
theorem Zc (k:ByteArray):¬(Jp k).kind=3:=show ¬(4:Int)=3 by decide
theorem a4g {q:List V}{x u v':V}{L R:List Lv}{k:ByteArray}(h:Up (Kq (L++(k,u)::R))) (hput:BT x q u=Hq v') (hw:(ovV (L++(k,v')::R)).wf) (hd:(ovV (L++(k,v')::R)).depth≤20) :
  BT x (Jp k::q) (ovV (L++(k,u)::R))=Hq (ovV (L++(k,v')::R)):=by
 have hg:KG (ovV (L++(k,u)::R)) (Jp k).text=okR u:=by
  rw[S2 rfl]
  exact congrArg okR (a6h h)
 unfold BT
 rw[if_neg (Zc k),hg]
 show (match BT x q u with
  | (_,some r)=>I8 _ _ r
  | (c,none)=>(c,none))=_
 rw[hput]
 by_cases hc:v'.count≤200
 ·have:Hq v'=(0,some v'):=by unfold Hq;rw[if_pos hc];rfl
  rw[this]
  show I8 _ _ v'=_
  unfold I8
  rw[if_pos (.inr rfl),show (Jp k).text=k from rfl,a5u h]
  exact NI hw hd
 ·have h1:Hq v'=(2,none):=by unfold Hq;rw[if_neg hc];rfl
  have h3:¬(ovV (L++(k,v')::R)).count≤200:=by rw[WG,UH,O1];omega
  have h4:Hq (ovV (L++(k,v')::R))=(2,none):=by unfold Hq;rw[if_neg h3];rfl
  rw[h1,h4]
theorem Rc {t:V}(h:t.wf) (h5:t.kind=5):t=Ir t.kids:=by
 obtain⟨_,_,h3,h4,h6,_⟩:=KB h
 cases t with
 |mk kind num text keys kids =>
  simp only[V.kind,V.num,V.text,V.keys]at h5 h3 h4 h6
  rw[h3 (by omega),h4 (by omega),h6 (by omega),h5]
  rfl
def KR (t:V):List Lv:=t.keys.zip t.kids
theorem Rp {t:V}(h:t.keys.length=t.kids.length):Kq (KR t)=t.keys:=by
 unfold Kq KR
 exact List.map_fst_zip (by omega)
theorem V3 {t:V}(h:t.keys.length=t.kids.length):MB (KR t)=t.kids:=by
 unfold MB KR
 exact List.map_snd_zip (by omega)
theorem YY {t:V}(h:t.right) (h6:t.kind=6):t=ovV (KR t):=by
 obtain⟨_,_,hl⟩:=KL h h6
 obtain⟨_,_,h3,h4,_,_⟩:=KB h.1
 unfold ovV
 rw[Rp hl,V3 hl]
 cases t with
 |mk kind num text keys kids =>
  simp only[V.kind,V.num,V.text]at h6 h3 h4
  rw[h3 (by omega),h4 (by omega),h6]
  rfl
theorem U9 {t:V}(h:t.right) (h6:t.kind=6) {e:Lv}(he:e∈KR t):e.1∈t.keys∧e.2∈t.kids:=List.of_mem_zip he
end Go.Proofs.YtllfmaflodbieaaGreatDoor
