/- Texts of this proof: G55 R12 R14 H99 G64 G65 G66 G56 G57 G59. -/
import Derived.Test.YtllfmaflodbieaaGreatDoorKG49uG9
set_option linter.all false
set_option maxHeartbeats 8000000
namespace Go.Proofs.YtllfmaflodbieaaGreatDoor
open Go.RowKit
set_option maxRecDepth 10000
theorem VQ (t:V):B4 (t.enc.map CellD.cs) 5 0=true:=by unfold B4;rw[show (0:Int).toNat=0 from rfl,Lq];rfl
set_option maxRecDepth 10000
def elS (v:V):ByteArray:=if v.kind=4 then HH v.text else JE v.num
def a0l (v:V):ByteArray:=⟨#[91]⟩++elS v++⟨#[93]⟩
def KF (ks:List V):ByteArray:=ks.foldl (fun a v=>a++a0l v) ⟨#[46]⟩
theorem K9 (b:UInt8):(⟨#[b]⟩:ByteArray).size=1:=rfl
theorem U1 {n:Int}(h:-1000000000000000≤n∧n≤1000000000000000):(JE n).size≤21:=by
 have h1:=Lib.itoa_length_le n (by omega) (by omega)
 show (Lib.itoa n).toArray.size≤21
 simpa using h1
theorem LV {s:ByteArray}(h:s.size≤60):(HH s).size≤122:=by
 have h1:=Cm s.data.toList
 have h2:cz s.data.toList≤s.data.toList.length:=List.length_filter_le _ _
 have h3:s.data.toList.length=s.size:=Array.length_toList
 unfold HH
 rw[ByteArray.size_append,ByteArray.size_append,K9]
 have:(⟨(A6 s.data.toList).toArray⟩:ByteArray).size=(A6 s.data.toList).length:=by show (A6 s.data.toList).toArray.size=_;simp
 omega
theorem VO {v:V}(hv:v.right):(elS v).size≤122:=by
 unfold elS
 split
 ·exact LV (KI (Ld hv))
 ·have:=U1 (Mu hv);omega
theorem SE {ks:List V}{k:Nat}{v:V}(h:ks[k]? = some v):KF (ks.take (k+1))=KF (ks.take k)++a0l v:=by
 obtain⟨hk,rfl⟩:=List.getElem?_eq_some_iff.1 h
 unfold KF
 rw[List.take_succ_eq_append_getElem hk,List.foldl_append]
 rfl
theorem N2 {ks:List V}(hr:∀v∈ks,v.right):∀k,k≤ks.length→(KF (ks.take k)).size≤1+124*k:=by
 intro k
 induction k with
 |zero=>intro _;simp[KF];exact Nat.le_of_eq (K9 46)
 |succ k ih =>
  intro hk
  have h1:=ih (by omega)
  have hv:ks[k]? = some ks[k]:=List.getElem?_eq_getElem (by omega)
  have h2:=VO (hr _ (List.getElem_mem (by omega:k<ks.length)))
  rw[SE hv,ByteArray.size_append]
  unfold a0l
  rw[ByteArray.size_append,ByteArray.size_append,K9,K9]
  omega
def H0 (sep:ByteArray):List ByteArray→ByteArray
 | []=>ByteArray.empty
 |x::r=>match r with
  | []=>x
  |_=>x++sep++H0 sep r
theorem Mi (sep x:ByteArray) {r:List ByteArray}(h:r≠[]):H0 sep (x::r)=x++sep++H0 sep r:=by
 cases r with
 |nil=>exact absurd rfl h
 |cons y r=>rfl
theorem Sh (sep:ByteArray):∀(l:List ByteArray) (x:ByteArray),l≠[]→H0 sep (l++[x])=H0 sep l++sep++x
 | [],_,h=>absurd rfl h
 | [y],x,_=>rfl
 |y::z::r,x,_=>by
  rw[List.cons_append,Mi sep y (by simp),Sh sep (z::r) x (by simp),Mi sep y (by simp)]
  simp only[ByteArray.append_assoc]
theorem Pg (sep:ByteArray):∀l:List ByteArray,(H0 sep l).size≤(l.map fun x=>x.size+sep.size).sum
 | []=>Nat.zero_le _
 | [y]=>by simp[H0]
 |y::z::r=>by
  have h1:=Pg sep (z::r)
  rw[Mi sep y (by simp),ByteArray.size_append,ByteArray.size_append,List.map_cons,List.sum_cons]
  omega
theorem Sg (sep:ByteArray) {l:List ByteArray}{k:Nat}(h:k<l.length):H0 sep (l.take (k+1))=if k=0 then l[k] else H0 sep (l.take k)++sep++l[k]:=by
 rw[List.take_succ_eq_append_getElem h]
 split
 ·rename_i h0
  subst h0
  rfl
 ·rename_i h0
  refine Sh sep _ _ fun e=>?_
  have h1:(l.take k).length=0:=by rw[e];rfl
  rw[List.length_take]at h1
  omega
def Jl:ByteArray:=⟨#[110,117,108,108]⟩
def IC:ByteArray:=⟨#[102,97,108,115,101]⟩
def Jr:ByteArray:=⟨#[116,114,117,101]⟩
abbrev bS (b:UInt8):ByteArray:=⟨#[b]⟩
mutual
def V.txt:V→ByteArray
 | .mk kind num text keys kids=>if kind=0 then Jl else if kind=1 then IC else if kind=2 then Jr else if kind=3 then JE num else if kind=4 then HH text
  else if kind=5 then bS 91++H0 (bS 44) (Fs kind keys kids)++bS 93 else bS 123++H0 (bS 44) (Fs kind keys kids)++bS 125
def Fs (kind:Int) (keys:List ByteArray):List V→List ByteArray
 | []=>[]
 |x::r=>(if kind=6 then HH (keys.headD ByteArray.empty)++bS 58++x.txt else x.txt)::Fs kind keys.tail r
end
def V.part (t:V) (i:Nat) (x:V):ByteArray:=if t.kind=6 then HH (t.keyAt i)++bS 58++x.txt else x.txt
def V.parts (t:V):List ByteArray:=Fs t.kind t.keys t.kids
theorem SC (kind:Int):∀(kids:List V) (keys:List ByteArray),(Fs kind keys kids).length=kids.length
 | [],_=>by simp[Fs]
 |x::r,keys=>by simp[Fs,SC kind r]
theorem LB (t:V):t.parts.length=t.kids.length:=SC _ _ _
theorem SB (kind:Int):∀(kids:List V) (keys:List ByteArray) (i:Nat) (h:i<kids.length),(Fs kind keys kids)[i]? = some (if kind=6 then HH ((keys.drop i).headD ByteArray.empty)++bS 58++kids[i].txt else kids[i].txt)
 | [],_,i,h=>by simp at h
 |x::r,keys,0,_=>by simp[Fs]
 |x::r,keys,i+1,h=>by
  have h1:=SB kind r keys.tail i (by simpa using h)
  simp only[Fs,List.getElem?_cons_succ,h1,List.getElem_cons_succ]
  rw[show keys.tail.drop i=keys.drop (i+1) by cases keys<;>simp]
theorem d9 (t:V) {i:Nat}(h:i<t.kids.length):t.parts[i]? = some (t.part i t.kids[i]):=by
 have h1:=SB t.kind t.kids t.keys i h
 unfold V.parts V.part
 rw[h1]
 unfold V.keyAt
 split<;>rfl
theorem SD (t:V) {i:Nat}(h:i<t.kids.length):t.parts[i]'(by rw[LB];exact h)=t.part i t.kids[i]:=by
 have h1:=d9 t h
 rw[List.getElem?_eq_getElem (by rw[LB];exact h)]at h1
 exact Option.some.inj h1
theorem OK {t:V}(h:t.kind=5):t.txt=bS 91++H0 (bS 44) t.parts++bS 93:=by
 cases t;simp only[Mx]at h;subst h;rfl
theorem OM {t:V}(h:t.kind=6):t.txt=bS 123++H0 (bS 44) t.parts++bS 125:=by
 cases t;simp only[Mx]at h;subst h;rfl
theorem NC {t:V}(h:t.kind=0):t.txt=Jl:=by cases t;simp only[Mx]at h;subst h;rfl
theorem MO {t:V}(h:t.kind=1):t.txt=IC:=by cases t;simp only[Mx]at h;subst h;rfl
theorem ND {t:V}(h:t.kind=2):t.txt=Jr:=by cases t;simp only[Mx]at h;subst h;rfl
theorem NT {t:V}(h:t.kind=3):t.txt=JE t.num:=by cases t;simp only[Mx]at h;subst h;rfl
theorem NU {t:V}(h:t.kind=4):t.txt=HH t.text:=by cases t;simp only[Mx]at h;subst h;rfl
theorem Mt {t:V}(h:t.right):0≤t.kind∧t.kind≤6:=by
 have hc:=Pp h
 unfold CellD.code Ew at hc
 cases hh:inB t.kind 0 6
 ·simp[hh]at hc
 ·simp[inB]at hh
  omega
theorem LY {t:V}(h:t.right) (i:Nat):(t.keyAt i).size≤60:=by
 unfold V.keyAt
 split
 ·rename_i h6
  rcases Nat.lt_or_ge i t.keys.length with hi | hi
  ·rw[List.drop_eq_getElem_cons hi]
   exact KI ((KL h h6).2.1 _ (List.getElem_mem hi))
  ·rw[List.drop_eq_nil_of_le hi];exact Nat.zero_le _
 ·exact Nat.zero_le _
theorem Ua {t:V}(hr:t.right) (ih:∀x∈t.kids,x.txt.size+124≤250*x.count):∀m,m≤t.kids.length→(H0 (bS 44) (t.parts.take m)).size≤250*GR t.kids:=by
 intro m hm
 refine Nat.le_trans (Pg _ _) ?_
 have key:∀m,m≤t.kids.length→((t.parts.take m).map fun x=>x.size+(bS 44).size).sum≤250*GR (t.kids.take m):=by
  intro m
  induction m with
  |zero=>intro _;simp
  |succ m ihm =>
   intro hm
   have h1:=ihm (by omega)
   have hm':m<t.kids.length:=by omega
   have hmem:t.kids[m]∈t.kids:=List.getElem_mem hm'
   have h2:=ih _ hmem
   have h3:=LV (LY hr m)
   rw[List.take_succ_eq_append_getElem (by rw[LB];omega),List.take_succ_eq_append_getElem hm',SD t hm',List.map_append,List.sum_append,Lo]
   have h4:(t.part m t.kids[m]).size+1≤250*t.kids[m].count:=by
    unfold V.part
    split
    ·rw[ByteArray.size_append,ByteArray.size_append,K9];omega
    ·omega
   have h5:(bS 44).size=1:=rfl
   simp only[h5]at h1
   simp only[List.map_cons,List.map_nil,List.sum_cons,List.sum_nil,h5]
   omega
 have h1:=key m hm
 have h2:=M3 t.kids m
 omega
theorem SW:∀(n:Nat) (t:V),t.count≤n→t.right→t.txt.size+124≤250*t.count:=by
 intro n
 induction n with
 |zero=>intro t hn _;have:=K8 t;omega
 |succ n ih =>
  intro t hn hr
  have hp:=K8 t
  have hk:=Mt hr
  have hcc:=K4 t
  have hparts:=Ua hr (fun x hx=>ih x (by have:=K7 hx;omega) (K1 hr hx)) t.kids.length (Nat.le_refl _)
  rw[List.take_of_length_le (by rw[LB];exact Nat.le_refl _)]at hparts
  have hcase:t.kind=0∨t.kind=1∨t.kind=2∨t.kind=3∨t.kind=4∨t.kind=5∨t.kind=6:=by omega
  rcases hcase with h | h | h | h | h | h | h
  ·rw[NC h];have:Jl.size=4:=rfl;omega
  ·rw[MO h];have:IC.size=5:=rfl;omega
  ·rw[ND h];have:Jr.size=4:=rfl;omega
  ·rw[NT h];have:=U1 (Mu hr);omega
  ·rw[NU h];have:=LV (KI (Ld hr));omega
  ·rw[OK h,ByteArray.size_append,ByteArray.size_append,K9,K9];omega
  ·rw[OM h,ByteArray.size_append,ByteArray.size_append,K9,K9];omega
theorem Mv {t:V}(h:t.right):t.txt.size≤50000:=by
 have h1:=SW _ t (Nat.le_refl _) h
 have:=h.2.1
 omega
theorem TP {t:V}(h:t.right) {k:Nat}(hk:k≤t.kids.length):(H0 (bS 44) (t.parts.take k)).size≤50000:=by
 have h1:=Ua h (fun x hx=>SW _ x (Nat.le_refl _) (K1 h hx)) k hk
 have h2:=K4 t
 have:=h.2.1
 omega
theorem RA (l:List (List CellD)):As (l.map N1)=true:=by
 induction l with
 |nil=>rfl
 |cons c l ih=>simp only[List.map_cons,As,ih,Bool.and_true,N1,Bz,C.closed,Cg]
theorem Xs (l:List (List CellD)):Ac (l.map N1)=l.map CH:=by
 induction l with
 |nil=>rfl
 |cons c l ih=>simp only[List.map_cons,Ac,ih,N1,KP,C.forget,Cn,CH]
attribute [go_sem] RA Xs
theorem UJ (xs:List CellD):((dec xs).2=none∧(dec xs).1≠0)∨∃t,dec xs=(0,some t)∧xs=t.enc∧t.wf∧t.count≤200∧t.depth≤20:=by
 rcases Lx xs with⟨t,ht⟩ | ⟨c,hc,hd⟩
 ·exact .inr ⟨t,ht,Pb ht⟩
 ·exact .inl ⟨by rw[hd],by rw[hd];exact hc⟩
set_option maxRecDepth 10000
def EditD.cs (d:EditD):List C:=[.int .i64 d.op,.sl (d.path.map CellD.cs),.sl (d.x.map CellD.cs)]
def EditD.os (d:EditD):List C:=[.int .i64 d.op,.osl (d.path.map CellD.cs),.osl (d.x.map CellD.cs)]
def EditD.av (d:EditD):AV:=.agg [.c (.int .i64 d.op),.c (.sl (d.path.map CellD.cs)),.c (.sl (d.x.map CellD.cs))]
theorem E9 (l:List EditD):Ac (l.map EditD.os)=l.map EditD.cs:=by
 induction l with
 |nil=>rfl
 |cons d l ih=>simp only[List.map_cons,Ac,ih,EditD.os,EditD.cs,KP,C.forget,Cn]
theorem E2 (l:List EditD):As (l.map EditD.os)=true:=by
 induction l with
 |nil=>rfl
 |cons d l ih=>simp only[List.map_cons,As,ih,Bool.and_true,EditD.os,Bz,C.closed,Cg]
theorem FW (l:List EditD):((l.map EditD.os).all fun r=>r.length==3)=true:=by simp[EditD.os]
attribute [go_sem] E9 E2 FW EditD.av
set_option maxRecDepth 10000
theorem PI (xs:List CellD) (hz:Lk xs):AC Tryz.prog 64 [Iw xs] [] (.c (.int .i64 (dec xs).1)) []:=by
 rcases Lx xs with⟨t,ht⟩ | ⟨c,_,ht⟩
 ·have hv:=LK xs hz (t:=t) (by rw[ht])
  rw[ht]
  refine JI Tryz.func64 Tryz.ntmps64 ?_
  refine JV q9 ?_
  refine w9 (Ja [] hv) q9 ?_
  refine JV q9 ?_
  exact JW (Iu []) Tryz.results64
 ·have hv:=Mw xs hz (by rw[ht])
  refine JI Tryz.func64 Tryz.ntmps64 ?_
  refine JV q9 ?_
  refine w9 (Ja [] hv) Ki ?_
  refine JV Ki ?_
  exact JW (Iu []) Tryz.results64
set_option maxRecDepth 10000
theorem p9 {v x:V}(h:v.right) (hx:x.right) (key:ByteArray) (hk:Fr key=true):AC Tryz.prog 96 [v.av,.c (.str key),x.av] [] (Qs (I8 v key x)) []:=by
 have hs:=QJ key (by have:=KI hk;omega)
 rw[hk]at hs
 unfold I8
 by_cases h6:v.kind=0∨v.kind=6
 ·rw[if_pos h6]
  obtain⟨hc1,hc2⟩:=Vh h hx key h6
  have hkl:=a2b h
  have hgv:=TH (SO h hx hk h6) (by omega)
  have hobj:=U2 (v.keys++[key]) (v.kids++[x]) (by rw[List.length_append,List.length_append,Qt h h6];rfl) (by rw[List.length_append,List.length_singleton];omega) (by
   intro k hk'
   rcases List.mem_append.1 hk' with h1 | h1
   ·have:=SM h k h1;omega
   ·rw[List.mem_singleton.1 h1];have:=MJ hk;omega)
  rw[U3]at hobj
  have hcs:=UC v.keys (by omega)
  have hcv:=PB v.kids (by omega)
  have hl1:v.keys.length+1≤1000000:=by omega
  have hl2:v.kids.length+1≤1000000:=by omega
  generalize Jm (v.keys++[key]) (v.kids++[x])=ob at *
  obtain⟨K,hK⟩:∃K,v.keys++[key]=K:=⟨_,rfl⟩
  obtain⟨L,hL⟩:∃L,v.kids++[x]=L:=⟨_,rfl⟩
  have e1:v.keys.map CX++[[C.str key]]=K.map CX:=by rw[←hK,List.map_append];rfl
  have e2:v.kids.map V.cs++[[.int .i64 x.kind,.int .i64 x.num,.str x.text,.sl (x.keys.map CX),.sl (x.kids.map V.cs)]]=L.map V.cs:=by rw[←hL,List.map_append,List.map_cons,List.map_nil,V.cs_eq]
  rw[hK,hL]at hobj
  generalize Ij ob=r at *
  rcases h6 with hz | h6
  case' inl =>
   have hb0:(v.kind != 0)=false:=by simpa using hz
   have hb6:(v.kind != 6)=true:=by simp[hz]
  case' inr =>
   have hb0:(v.kind != 0)=true:=by simp[h6]
   have hb6:(v.kind != 6)=false:=by simpa using h6
  all_goals
   rcases r with⟨c,_ | u⟩
   all_goals
    simp only[Ms,Mr]at hgv ⊢
    refine JI Tryz.func96 Tryz.ntmps96 ?_
    refine JV q9 ?_
    refine w7 (Ju [] hs) q9 ?_
    refine JV (j2 hb0 hb6) ?_
    refine w12 (Kj [] hcs) q9 ?_
    refine JV (j2 hl1 e1) ?_
    refine w12 (Kj [] hcv) q9 ?_
    refine JV (j2 hl2 e2) ?_
    refine w9 (Ja [(27,0),(33,0)] hobj) (j2 e1 e2) ?_
    refine w9 (Ja [] hgv) q9 ?_
    refine JV q9 ?_
    exact JW (Iu []) Tryz.results96
 ·rw[if_neg h6]
  have hb0:(v.kind != 0)=true:=by simp;omega
  have hb6:(v.kind != 6)=true:=by simp;omega
  rw[Oj]
  refine JI Tryz.func96 Tryz.ntmps96 ?_
  refine JV q9 ?_
  refine w7 (Ju [] hs) q9 ?_
  refine JV (j2 hb0 hb6) ?_
  refine w7 (Ju [] (N3 6)) q9 ?_
  refine JV q9 ?_
  exact JW (Iu []) Tryz.results96
set_option maxRecDepth 10000
theorem Xh (n:Int) (m:Nat) (hn:-1000000000000000≤n∧n≤1000000000000000) (hm:m≤1000000):AC Tryz.prog 152 [.c (.int .i64 n),.c (.int .i64 m)] [] (.c (.int .i64 (BY n m))) []:=by
 unfold BY
 by_cases h:n<0
 ·have hd:decide (n<0)=true:=by simpa using h
  have hw:IntKind.i64.wrap (n+(m:Int))=n+(m:Int):=IntWalk.i64_in _ (by omega)
  rw[if_pos h]
  refine JI Tryz.func152 Tryz.ntmps152 ?_
  refine JV (j2 hd hw) ?_
  exact JW (Iu []) Tryz.results152
 ·have hd:decide (n<0)=false:=by simpa using h
  rw[if_neg h]
  refine JI Tryz.func152 Tryz.ntmps152 ?_
  refine JV hd ?_
  exact JW (Iu []) Tryz.results152
theorem a1w (v:V) (n:Nat):∃L:Nat→List V,L 0=v.kids∧(∀j,(L j).length=v.kids.length+j)∧L (n+1-v.kids.length)=Jo v.kids n∧∀j,L (j+1)=L j++[Dq]:=by
 refine⟨fun j=>v.kids++List.replicate j Dq,by simp,fun j=>by rw[List.length_append,List.length_replicate],rfl,fun j=>?_⟩
 dsimp only
 rw[List.replicate_succ',List.append_assoc]
theorem Te {v x:V}(hv:v.right) (P p:List V) (k:V) (hk:k.right) (f:V→Int×Option V)
  (hP1:B4 (P.map V.cs) 5 0=true) (hP2:(P.map V.cs)[0]? = some [.int .i64 k.kind,.int .i64 k.num,.str k.text,.sl (k.keys.map CX),.sl (k.kids.map V.cs)]) (hP3:1≤P.length) (hP4:((P.map V.cs).take P.length).drop 1=p.map V.cs)
  (hf:∀w,w.right→QT (f w)) (hrec:∀w,w.right→AC Tryz.prog 47 [w.av,Js p,x.av] [] (Qs (f w)) []) :
  AC Tryz.prog 94 [v.av,Js P,x.av] [] (Qs (I7 v k.num f)) []:=by
 have hkl:=Kg hv.2.1
 have hnum:=Mu hk
 have hcv:=PB v.kids (by omega)
 have hsz:=Na v.kids
 have hcn:=Xh k.num v.kids.length hnum (by omega)
 have hPl:(P.map V.cs).length=P.length:=by simp
 have hPa:=Ou P
 have h01:Ez 0 (some (AV.c (C.int IntKind.i64 1)))=some 1:=rfl
 unfold I7
 by_cases h5:v.kind=5∨v.kind=0
 ·rw[if_pos h5]
  obtain⟨m,hm⟩:∃m,BY k.num v.kids.length=m:=⟨_,rfl⟩
  rw[hm]at hcn ⊢
  rcases h5 with h5 | h5
  case' inl =>
   have hb5:(v.kind != 5)=false:=by simpa using h5
   have hb0:(v.kind != 0)=true:=by simp[h5]
  case' inr =>
   have hb5:(v.kind != 5)=true:=by simp[h5]
   have hb0:(v.kind != 0)=false:=by simpa using h5
  all_goals
   by_cases hneg:m<0
   ·rw[if_pos hneg,Oj]
    have hd:decide (m<0)=true:=by simpa using hneg
    refine JI Tryz.func94 Tryz.ntmps94 ?_
    refine JV (j2 hb5 hb0) ?_
    refine w12 (Kj [] hcv) q9 ?_
    refine JV (j2 hP1 hP2) ?_
    refine w7 (Ju [] hsz) q9 ?_
    refine w7 (Ju [] hcn) q9 ?_
    refine JV hd ?_
    refine w7 (Ju [] (N3 3)) q9 ?_
    refine JV q9 ?_
    exact JW (Iu []) Tryz.results94
   ·rw[if_neg hneg]
    have hd:decide (m<0)=false:=by simpa using hneg
    by_cases hbig:m≥200
    ·rw[if_pos hbig,Oj]
     have hd2:decide (m≥200)=true:=by simpa using hbig
     refine JI Tryz.func94 Tryz.ntmps94 ?_
     refine JV (j2 hb5 hb0) ?_
     refine w12 (Kj [] hcv) q9 ?_
     refine JV (j2 hP1 hP2) ?_
     refine w7 (Ju [] hsz) q9 ?_
     refine w7 (Ju [] hcn) q9 ?_
     refine JV (j2 hd hd2) ?_
     refine w7 (Ju [] (N3 2)) q9 ?_
     refine JV q9 ?_
     exact JW (Iu []) Tryz.results94
    ·rw[if_neg hbig]
     have hd2:decide (m≥200)=false:=by simpa using hbig
     obtain⟨n,rfl⟩:∃n:Nat,m=n:=⟨m.toNat,by omega⟩
     rw[Int.toNat_natCast]
     obtain⟨L,hL0,hLl,hLe,hLs⟩:=a1w v n
     have hpr:=Qm (kids:=v.kids) (fun z hz=>K1 hv hz) n
     have hpl:=Z4 v.kids n
     have hfit:=fun {r:V} (hr:r.right)=>SN hv hr n
     have hcnt:=fun {r:V} (hr:r.right)=>Vg hv hr (n:=n) (by omega)
     generalize Jo v.kids n=Q at *
     have hnl:n<Q.length:=by omega
     have hwD:Q.getD n Dq=Q[n]:=by rw[List.getD_eq_getElem?_getD,List.getElem?_eq_getElem hnl];rfl
     rw[hwD]
     have hwr:=hpr Q[n] (List.getElem_mem hnl)
     have hrc:=hrec Q[n] hwr
     have hok:=hf Q[n] hwr
     have hnr:B4 (Q.map V.cs) 5 n=true:=by simp[B4,hnl,V.cs_eq]
     have hng:(Q.map V.cs)[n]? = some [.int .i64 Q[n].kind,.int .i64 Q[n].num,.str Q[n].text,.sl (Q[n].keys.map CX),.sl (Q[n].kids.map V.cs)]:=by simp[hnl,V.cs_eq]
     generalize f Q[n]=r at *
     generalize Q[n]=w at *
     generalize hres:J0 r _=res
     refine JI Tryz.func94 Tryz.ntmps94 ?_
     refine JV (j2 hb5 hb0) ?_
     refine w12 (Kj [] hcv) q9 ?_
     refine JV (j2 hP1 hP2) ?_
     refine w7 (Ju [] hsz) q9 ?_
     refine w7 (Ju [] hcn) q9 ?_
     refine JV (j2 hd hd2) ?_
     refine Jz (κ:=Nat) (fun j=>⟨mkS 0 66 [(1,.c (.sl (P.map V.cs))),(5,.ptr (5,0) 0),(6,.ptr (6,0) 0),(7,.own (95,0)),(8,.c (.int .i64 n))],
       [((5,0),.box [.c (.int .i64 x.kind),.c (.int .i64 x.num),.c (.str x.text),.c (.sl (x.keys.map CX)),.c (.sl (x.kids.map V.cs))]),((6,0),.box [.c (.int .i64 0),.c (.int .i64 0),.c (.int .i64 0),.c (.str ByteArray.empty),.c (.sl []),.c (.sl [])]),((95,0),.row false 5 76 ((L j).map V.cs))]⟩)
      (fun j=>j≤n+1-v.kids.length) (fun j=>n+1-v.kids.length-j) 0 (Nat.zero_le _) ?_ ?_
     ·exact JQ (F7.of [((5,0),(5,0)),((6,0),(6,0)),((95,0),(21,0))] []) hL0
     ·intro j hj
      have hszj:=Na (L j)
      by_cases hlt:v.kids.length+j≤n
      ·have hd3:decide (((L j).length:Int)≤(n:Int))=true:=by rw[hLl];simp;omega
       have hl1:(L j).length+1≤1000000:=by rw[hLl];omega
       have hn1:(L j).map V.cs++[[.int .i64 0,.int .i64 0,.str ByteArray.empty,.sl [],.sl []]]=(L (j+1)).map V.cs:=by rw[hLs,List.map_append];rfl
       refine JV q9 ?_
       refine w7 (Ju [(95,0)] hszj) q9 ?_
       refine JV hd3 ?_
       refine w7 (Ju [] PO) q9 ?_
       refine JV hl1 ?_
       refine⟨j+1,by omega,by omega,?_⟩
       exact JQ (F7.of [((5,0),(5,0)),((6,0),(6,0)),((95,0),(45,0))] []) hn1
      ·have hje:L j=Q:=by rw[show j=n+1-v.kids.length by omega];exact hLe
       have hd3:decide (((L j).length:Int)≤(n:Int))=false:=by rw[hLl];simp;omega
       rw[hje]at hszj hd3 ⊢
       rcases r with⟨c,_ | u⟩
       ·have hc:(c != 0)=true:=by simpa using (show c≠0 from hok)
        have hres:(c,none)=res:=hres
        subst hres
        simp only[Mr]at hrc ⊢
        refine JV q9 ?_
        refine w7 (Ju [(95,0)] hszj) q9 ?_
        refine JV (j9 hd3 hnr hng hPl hP3 hP4 h01 hPa @Nat.le_refl) ?_
        refine w9 (Ja [] hrc) q9 ?_
        refine JV hc ?_
        exact JW (Iu []) Tryz.results94
       ·obtain⟨h0,hu⟩:=hok
        have hres:Ij (Ir (Q.set n u))=res:=hres
        have h00:((0:Int) != 0)=false:=rfl
        have hgv:=TH (hfit hu) (by have:=hcnt hu;omega)
        have hay:=Pw (Q.set n u)
        have hset:(Q.map V.cs).set n [.int .i64 u.kind,.int .i64 u.num,.str u.text,.sl (u.keys.map CX),.sl (u.kids.map V.cs)]=(Q.set n u).map V.cs:=by rw[List.map_set,V.cs_eq]
        simp only[Ms]at hrc
        generalize Q.set n u=R at *
        rw[hres]at hgv
        rcases res with⟨c2,_ | y⟩
        all_goals
         simp only[Ms,Mr]at hgv ⊢
         refine JV q9 ?_
         refine w7 (Ju [(95,0)] hszj) q9 ?_
         refine JV (j9 hd3 hnr hng hPl hP3 hP4 h01 hPa @Nat.le_refl) ?_
         refine w9 (Ja [] hrc) q9 ?_
         refine JV (j4 h00 hnr hng hset) ?_
         refine w9 (Ja [(95,0)] hay) hset ?_
         refine w9 (Ja [] hgv) q9 ?_
         refine JV q9 ?_
         exact JW (Iu []) Tryz.results94
 ·rw[if_neg h5,Oj]
  have hb5:(v.kind != 5)=true:=by simp;omega
  have hb0:(v.kind != 0)=true:=by simp;omega
  refine JI Tryz.func94 Tryz.ntmps94 ?_
  refine JV (j2 hb5 hb0) ?_
  refine w7 (Ju [] (N3 6)) q9 ?_
  refine JV q9 ?_
  exact JW (Iu []) Tryz.results94
theorem SP {x:V}(hx:x.right):∀(P:List V),P.length≤1000000→(∀k∈P,k.right∧(k.kind=3∨k.kind=4))→∀(v:V),v.right→AC Tryz.prog 47 [v.av,Js P,x.av] [] (Qs (BT x P v)) []
 | [],_,_,v,hv=>by
  have hg:=S3 hx
  have hz0:((0:Int)==0)=true:=rfl
  have hz1:(((0:Nat):Int)==0)=true:=rfl
  show AC _ _ _ _ (Qs (okR x)) _
  rw[Vc]
  refine JI Tryz.func47 Tryz.ntmps47 ?_
  refine JV (j2 hz0 hz1) ?_
  refine w9 (Ja [] hg) q9 ?_
  refine JV q9 ?_
  exact JW (Iu []) Tryz.results47
 |k::p,hl,hp,v,hv=>by
  have hpl:p.length≤1000000:=by simp only[List.length_cons]at hl;omega
  have hpp:∀y∈p,y.right∧(y.kind=3∨y.kind=4):=fun y hy=>hp y (by simp[hy])
  obtain⟨hk,hkk⟩:=hp k (by simp)
  have ih:=SP hx p hpl hpp
  have ok:=Pq hx p hpp
  have hP1:B4 ((k::p).map V.cs) 5 0=true:=by simp[B4,V.cs_eq]
  have hP2:((k::p).map V.cs)[0]? = some [.int .i64 k.kind,.int .i64 k.num,.str k.text,.sl (k.keys.map CX),.sl (k.kids.map V.cs)]:=by simp[V.cs_eq]
  have hP3:1≤(k::p).length:=by simp
  have hP4:(((k::p).map V.cs).take (k::p).length).drop 1=p.map V.cs:=by
   rw[List.take_of_length_le (by rw[List.length_map];exact Nat.le_refl _)]
   rfl
  have hP5:(((k::p).length:Int)==0)=false:=by simp;omega
  have hel:=Te (x:=x) hv (k::p) p k hk (BT x p) hP1 hP2 hP3 hP4 ok ih
  have hgk:=ZE hv k.text (Ld hk)
  have hok:=TG hv k.text
  unfold BT
  generalize hPP:k::p=P at *
  have hPl:(P.map V.cs).length=P.length:=by simp
  have hPa:=Ou P
  have h01:Ez 0 (some (AV.c (C.int IntKind.i64 1)))=some 1:=rfl
  have h00:((0:Int) != 0)=false:=rfl
  by_cases h3:k.kind=3
  ·have hb3:(k.kind==3)=true:=by simpa using h3
   rw[if_pos h3]
   generalize I7 v k.num (BT x p)=r at *
   rcases r with⟨c,_ | u⟩
   all_goals
    simp only[Ms,Mr]at hel ⊢
    refine JI Tryz.func47 Tryz.ntmps47 ?_
    refine JV (j5 hPl hP5 hP1 hP2 hb3) ?_
    refine w9 (Ja [] hel) q9 ?_
    refine JV q9 ?_
    exact JW (Iu []) Tryz.results47
  ·have hb3:(k.kind==3)=false:=by simpa using h3
   rw[if_neg h3]
   generalize KG v k.text=g at *
   rcases g with⟨c,_ | w⟩
   ·have hc:(c != 0)=true:=by simpa using (show c≠0 from hok)
    simp only[Mr]at hgk ⊢
    refine JI Tryz.func47 Tryz.ntmps47 ?_
    refine JV (j5 hPl hP5 hP1 hP2 hb3) ?_
    refine w9 (Ja [] hgk) q9 ?_
    refine JV hc ?_
    exact JW (Iu []) Tryz.results47
   ·have hw:w.right:=hok.2
    have hih:=ih w hw
    have hok2:=ok w hw
    dsimp only
    simp only[Ms]at hgk
    generalize BT x p w=q at *
    rcases q with⟨c,_ | u⟩
    ·have hc:(c != 0)=true:=by simpa using (show c≠0 from hok2)
     simp only[Mr]at hih ⊢
     refine JI Tryz.func47 Tryz.ntmps47 ?_
     refine JV (j5 hPl hP5 hP1 hP2 hb3) ?_
     refine w9 (Ja [] hgk) q9 ?_
     refine JV (j7 h00 hPl hP3 hP4 h01 hPa @Nat.le_refl) ?_
     refine w9 (Ja [] hih) q9 ?_
     refine JV hc ?_
     exact JW (Iu []) Tryz.results47
    ·have hsk:=p9 hv hok2.2 k.text (Ld hk)
     dsimp only
     simp only[Ms]at hih
     generalize I8 v k.text u=z at *
     rcases z with⟨c,_ | y⟩
     all_goals
      simp only[Ms,Mr]at hsk ⊢
      refine JI Tryz.func47 Tryz.ntmps47 ?_
      refine JV (j5 hPl hP5 hP1 hP2 hb3) ?_
      refine w9 (Ja [] hgk) q9 ?_
      refine JV (j7 h00 hPl hP3 hP4 h01 hPa @Nat.le_refl) ?_
      refine w9 (Ja [] hih) q9 ?_
      refine JV (j3 h00 hP1 hP2) ?_
      refine w9 (Ja [] hsk) q9 ?_
      refine JV q9 ?_
      exact JW (Iu []) Tryz.results47
end Go.Proofs.YtllfmaflodbieaaGreatDoor
