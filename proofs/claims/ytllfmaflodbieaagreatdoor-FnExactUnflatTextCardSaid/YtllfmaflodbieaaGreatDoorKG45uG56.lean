/- Texts of this proof: G45 G55 R12 R14 G16 H99 G64 G65 G66 G34 G56. -/
import Derived.Test.YtllfmaflodbieaaGreatDoorKG49uG9
set_option linter.all false
set_option maxHeartbeats 8000000
namespace Go.Proofs.YtllfmaflodbieaaGreatDoor
open Go.RowKit
set_option maxRecDepth 10000
def Nu (x y:List CellD):Int:=if (dec x).1=0 then (dec y).1 else (dec x).1
theorem a1k (x y:List CellD):AC Tryz.prog 141 [Ce x,Ce y] [] (.c (.int .i64 (Nu x y))) []:=by
 have h1:=Wv x
 have h2:=Wv y
 unfold Nu
 by_cases h:(dec x).1=0
 ·rw[if_pos h]
  rw[h]at h1
  have h00:((0:Int) != 0)=false:=rfl
  refine A6 Tryz.func141 Tryz.ntmps141 ?_
  refine A0 trivial ?_
  refine w7 (A3 [] h1) trivial ?_
  refine A0 h00 ?_
  refine w7 (A3 [] h2) trivial ?_
  refine A0 trivial ?_
  exact Am (A7 []) Tryz.results141
 ·rw[if_neg h]
  have hb:((dec x).1 != 0)=true:=by simpa using h
  refine A6 Tryz.func141 Tryz.ntmps141 ?_
  refine A0 trivial ?_
  refine w7 (A3 [] h1) trivial ?_
  refine A0 hb ?_
  exact Am (A7 []) Tryz.results141
set_option maxRecDepth 10000
theorem a1j (xs:List CellD) (h:(dec xs).1=0):AC Tryz.prog 140 [Ce xs] [] (.agg [.c (.int .i64 0),Ce xs]) []:=by
 have hf:=Wv xs
 rw[h]at hf
 have h00:((0:Int) != 0)=false:=rfl
 refine A6 Tryz.func140 Tryz.ntmps140 ?_
 refine A0 trivial ?_
 refine w7 (A3 [] hf) trivial ?_
 refine A0 h00 ?_
 exact Am (A7 []) Tryz.results140
theorem a0g (xs:List CellD) (h:(dec xs).1≠0):AC Tryz.prog 140 [Ce xs] [] (.agg [.c (.int .i64 (dec xs).1),.c (.sl [])]) []:=by
 have hf:=Wv xs
 have hb:((dec xs).1 != 0)=true:=by simpa using h
 refine A6 Tryz.func140 Tryz.ntmps140 ?_
 refine A0 trivial ?_
 refine w7 (A3 [] hf) trivial ?_
 refine A0 hb ?_
 exact Am (A7 []) Tryz.results140
theorem ZZ (t:V):AC Tryz.prog 140 [Ce t.enc] [] (vrA (Js t)) []:=by
 unfold Js
 split
 ·rename_i h
  exact a1j t.enc h
 ·rename_i h
  exact a0g t.enc h
theorem Qq (t:V):Aj (t.enc.map CellD.cs) 5 0=true:=by unfold Aj;rw[show (0:Int).toNat=0 from rfl,Dp];rfl
theorem Wt:AC Tryz.prog 41 [] [] (.c (.sl (P5.enc.map CellD.cs))) []:=by
 have h:=Gj
 (apply (AC.says [] [(0,0)] h);(focus (simp only[go_sem,Nat.reduceEqDiff,Nat.reduceAdd,Nat.reduceSub,Nat.reduceLeDiff,Nat.reduceMul,Nat.reduceBEq,Nat.reduceLT,Int.reduceToNat,reduceCtorEq];try (and_intros<;>rfl)));(focus exact rfl);(focus (simp only[go_sem,Nat.reduceEqDiff,Nat.reduceAdd,Nat.reduceSub,Nat.reduceLeDiff,Nat.reduceMul,Nat.reduceBEq,Nat.reduceLT,Int.reduceToNat,reduceCtorEq];try (and_intros<;>rfl)));(focus exact rfl);(iterate 4 (focus (simp[go_sem];done))))
set_option maxRecDepth 10000
def elS (v:V):ByteArray:=if v.kind=4 then BY v.text else Fx v.num
def a07 (v:V):ByteArray:=⟨#[91]⟩++elS v++⟨#[93]⟩
def AW (ks:List V):ByteArray:=ks.foldl (fun a v=>a++a07 v) ⟨#[46]⟩
theorem BJ (b:UInt8):(⟨#[b]⟩:ByteArray).size=1:=rfl
theorem US {n:Int}(h:-1000000000000000≤n∧n≤1000000000000000):(Fx n).size≤21:=by
 have h1:=Lib.itoa_length_le n (by omega) (by omega)
 show (Lib.itoa n).toArray.size≤21
 simpa using h1
theorem GK {s:ByteArray}(h:s.size≤60):(BY s).size≤122:=by
 have h1:=Fv s.data.toList
 have h2:cz s.data.toList≤s.data.toList.length:=List.length_filter_le _ _
 have h3:s.data.toList.length=s.size:=Array.length_toList
 unfold BY
 rw[ByteArray.size_append,ByteArray.size_append,BJ]
 have:(⟨(Ay s.data.toList).toArray⟩:ByteArray).size=(Ay s.data.toList).length:=by show (Ay s.data.toList).toArray.size=_;simp
 omega
theorem Uv {v:V}(hv:v.right):(elS v).size≤122:=by
 unfold elS
 split
 ·exact GK (Da (FU hv))
 ·have:=US (Gx hv);omega
theorem MC {ks:List V}{k:Nat}{v:V}(h:ks[k]? = some v):AW (ks.take (k+1))=AW (ks.take k)++a07 v:=by
 obtain⟨hk,rfl⟩:=List.getElem?_eq_some_iff.1 h
 unfold AW
 rw[List.take_succ_eq_append_getElem hk,List.foldl_append]
 rfl
theorem Ee {ks:List V}(hr:∀v∈ks,v.right):∀k,k≤ks.length→(AW (ks.take k)).size≤1+124*k:=by
 intro k
 induction k with
 |zero=>intro _;simp[AW];exact Nat.le_of_eq (BJ 46)
 |succ k ih =>
  intro hk
  have h1:=ih (by omega)
  have hv:ks[k]? = some ks[k]:=List.getElem?_eq_getElem (by omega)
  have h2:=Uv (hr _ (List.getElem_mem (by omega:k<ks.length)))
  rw[MC hv,ByteArray.size_append]
  unfold a07
  rw[ByteArray.size_append,ByteArray.size_append,BJ,BJ]
  omega
theorem a0a {t:V}(ht:t.right) (hb:BM t=false):AC Tryz.prog 80 [Ce t.enc] [] (.c (.str (elS t))) []:=by
 have ra:=Qq t
 have ga:=Dp t
 have hn:=Gx ht
 have hs:=Da (FU ht)
 unfold elS
 by_cases k4:t.kind=4
 ·have b0:(t.kind==0)=false:=by simp[k4]
  have b1:(t.kind==1)=false:=by simp[k4]
  have b2:(t.kind==2)=false:=by simp[k4]
  have b3:(t.kind==3)=false:=by simp[k4]
  have b4:(t.kind==4)=true:=by simp[k4]
  have h1:=Qg t.text (by omega)
  rw[if_pos k4]
  refine A6 Tryz.func80 Tryz.ntmps80 ?_
  refine A0 (j7 ra ga b0 b1 b2 b3 b4) ?_
  refine w7 (A3 [] h1) trivial ?_
  refine A0 trivial ?_
  exact Am (A7 []) Tryz.results80
 ·have k3:t.kind=3:=by
   unfold BM at hb
   simpa [k4] using hb
  have b0:(t.kind==0)=false:=by simp[k3]
  have b1:(t.kind==1)=false:=by simp[k3]
  have b2:(t.kind==2)=false:=by simp[k3]
  have b3:(t.kind==3)=true:=by simp[k3]
  have h1:=Se t.num (by omega) (by omega)
  rw[if_neg k4]
  refine A6 Tryz.func80 Tryz.ntmps80 ?_
  refine A0 (j6 ra ga b0 b1 b2 b3) ?_
  refine w7 (A3 [] h1) trivial ?_
  refine A0 trivial ?_
  exact Am (A7 []) Tryz.results80
theorem FW {q:V}(hq:q.right) (hp:Bn q.enc=(0,some q.kids)) (hbk:q.kids.any BM=false):AC Tryz.prog 79 [Ce q.enc] [] (.agg [.c (.int .i64 0),.c (.str (AW q.kids))]) []:=by
 have h1:=E3 q.enc
 rw[hp]at h1
 have hc:q.kids.length≤200:=by have:=Bp q;have:=hq.2.1;have:=BR q.kids;omega
 have h2:=S5 hq.1 hq.2.1
 have hlk:((q.kids.map V.enc).map AD).length=q.kids.length:=by simp
 have h0:AW (q.kids.take 0)=⟨#[46]⟩:=rfl
 have hr:∀v∈q.kids,v.right:=fun v hv=>Cg hq hv
 have hne:((0:Int) != 0)=false:=rfl
 refine A6 Tryz.func79 Tryz.ntmps79 ?_
 refine A0 trivial ?_
 refine w7 (A3 [] h1) trivial ?_
 refine A0 hne ?_
 refine w9 (Aa [] h2) trivial ?_
 refine A0 hne ?_
 refine AG (κ:=Nat) (fun k=>⟨mkS 0 32 [(0,Ce q.enc),(2,.ptr (2,0) 0),(3,.c (.int .i64 0)),(4,.c (.str (AW (q.kids.take k)))),(5,.c (.sl ((q.kids.map V.enc).map AD))),(6,.c (.int .i64 k))],[((2,0),.box [.c (.int .i64 0),.c (.str ByteArray.empty)])]⟩) (fun k=>k≤q.kids.length) (fun k=>q.kids.length-k) 0 (Nat.zero_le _) ?_ ?_
 ·exact Aq (As.of [((2,0),(2,0))] []) h0
 ·intro k hk1
  have hz:=Ee hr k hk1
  by_cases hlt:k<q.kids.length
  ·have hdk:decide ((k:Int)<(q.kids.length:Int))=true:=by simpa using hlt
   have hw:=Ae (k:=k) (by omega)
   have hv:q.kids[k]? = some q.kids[k]:=List.getElem?_eq_getElem hlt
   have hmem:q.kids[k]∈q.kids:=List.getElem_mem hlt
   have hrk:=hr _ hmem
   have hbk1:BM q.kids[k]=false:=by
    have:=List.any_eq_false.1 hbk _ hmem
    simpa using this
   have hg:((q.kids.map V.enc).map AD)[k]? = some [.sl (q.kids[k].enc.map CellD.cs)]:=by simp[hlt,AD]
   have hra:Aj ((q.kids.map V.enc).map AD) 1 k=true:=by simp[Aj,hlt,AD]
   have hnx:=MC hv
   have hes:=Uv hrk
   have he:=a0a hrk hbk1
   unfold a07 at hnx
   generalize q.kids[k]=v at *
   have hx1:(AW (q.kids.take k)).size+1≤9223372036854775807:=by omega
   have hy2:(AW (q.kids.take k)++⟨#[91]⟩).size=(AW (q.kids.take k)).size+1:=by rw[ByteArray.size_append,BJ]
   have hy3:(AW (q.kids.take k)++⟨#[91]⟩++elS v).size=(AW (q.kids.take k)).size+1+(elS v).size:=by rw[ByteArray.size_append,hy2]
   have hnx2:AW (q.kids.take k)++⟨#[91]⟩++elS v++⟨#[93]⟩=AW (q.kids.take (k+1)):=by rw[hnx];simp only[ByteArray.append_assoc]
   generalize hu1:AW (q.kids.take k)++⟨#[91]⟩=u1 at *
   generalize hu2:u1++elS v=u2 at *
   have hx2:u1.size+(elS v).size≤9223372036854775807:=by omega
   have hx3:u2.size+1≤9223372036854775807:=by omega
   refine A0 (j6 hlk hdk hg hra hx1 hu1) ?_
   refine w7 (A3 [] he) trivial ?_
   refine A0 (j5 hx2 hu2 hx3 hnx2 hw) ?_
   refine⟨k+1,by omega,by omega,?_⟩
   exact Aq (As.of [((2,0),(2,0))] []) trivial
  ·have hdk:decide ((k:Int)<(q.kids.length:Int))=false:=by simpa using hlt
   obtain rfl:k=q.kids.length:=by omega
   have ha:q.kids.take q.kids.length=q.kids:=List.take_length
   refine A0 (j3 hlk hdk ha) ?_
   exact A9 (A8 [] []) Tryz.results79 ha
def Bh (sep:ByteArray):List ByteArray→ByteArray
 | []=>ByteArray.empty
 |x::r=>match r with
  | []=>x
  |_=>x++sep++Bh sep r
theorem EO (sep x:ByteArray) {r:List ByteArray}(h:r≠[]):Bh sep (x::r)=x++sep++Bh sep r:=by
 cases r with
 |nil=>exact absurd rfl h
 |cons y r=>rfl
theorem Lv (sep:ByteArray):∀(l:List ByteArray) (x:ByteArray),l≠[]→Bh sep (l++[x])=Bh sep l++sep++x
 | [],_,h=>absurd rfl h
 | [y],x,_=>rfl
 |y::z::r,x,_=>by
  rw[List.cons_append,EO sep y (by simp),Lv sep (z::r) x (by simp),EO sep y (by simp)]
  simp only[ByteArray.append_assoc]
theorem Li (sep:ByteArray):∀l:List ByteArray,(Bh sep l).size≤(l.map fun x=>x.size+sep.size).sum
 | []=>Nat.zero_le _
 | [y]=>by simp[Bh]
 |y::z::r=>by
  have h1:=Li sep (z::r)
  rw[EO sep y (by simp),ByteArray.size_append,ByteArray.size_append,List.map_cons,List.sum_cons]
  omega
theorem RN (sep:ByteArray) {l:List ByteArray}{k:Nat}(h:k<l.length):Bh sep (l.take (k+1))=if k=0 then l[k] else Bh sep (l.take k)++sep++l[k]:=by
 rw[List.take_succ_eq_append_getElem h]
 split
 ·rename_i h0
  subst h0
  rfl
 ·rename_i h0
  refine Lv sep _ _ fun e=>?_
  have h1:(l.take k).length=0:=by rw[e];rfl
  rw[List.length_take]at h1
  omega
def Qh:ByteArray:=⟨#[110,117,108,108]⟩
def Ll:ByteArray:=⟨#[102,97,108,115,101]⟩
def Pr:ByteArray:=⟨#[116,114,117,101]⟩
abbrev bS (b:UInt8):ByteArray:=⟨#[b]⟩
mutual
def V.txt:V→ByteArray
 | .mk kind num text keys kids=>if kind=0 then Qh else if kind=1 then Ll else if kind=2 then Pr else if kind=3 then Fx num else if kind=4 then BY text
  else if kind=5 then bS 91++Bh (bS 44) (D2 kind keys kids)++bS 93 else bS 123++Bh (bS 44) (D2 kind keys kids)++bS 125
def D2 (kind:Int) (keys:List ByteArray):List V→List ByteArray
 | []=>[]
 |x::r=>(if kind=6 then BY (keys.headD ByteArray.empty)++bS 58++x.txt else x.txt)::D2 kind keys.tail r
end
def V.part (t:V) (i:Nat) (x:V):ByteArray:=if t.kind=6 then BY (t.keyAt i)++bS 58++x.txt else x.txt
def V.parts (t:V):List ByteArray:=D2 t.kind t.keys t.kids
theorem LF (kind:Int):∀(kids:List V) (keys:List ByteArray),(D2 kind keys kids).length=kids.length
 | [],_=>by simp[D2]
 |x::r,keys=>by simp[D2,LF kind r]
theorem CN (t:V):t.parts.length=t.kids.length:=LF _ _ _
theorem Lw (kind:Int):∀(kids:List V) (keys:List ByteArray) (i:Nat) (h:i<kids.length),(D2 kind keys kids)[i]? = some (if kind=6 then BY ((keys.drop i).headD ByteArray.empty)++bS 58++kids[i].txt else kids[i].txt)
 | [],_,i,h=>by simp at h
 |x::r,keys,0,_=>by simp[D2]
 |x::r,keys,i+1,h=>by
  have h1:=Lw kind r keys.tail i (by simpa using h)
  simp only[D2,List.getElem?_cons_succ,h1,List.getElem_cons_succ]
  rw[show keys.tail.drop i=keys.drop (i+1) by cases keys<;>simp]
theorem TW (t:V) {i:Nat}(h:i<t.kids.length):t.parts[i]? = some (t.part i t.kids[i]):=by
 have h1:=Lw t.kind t.kids t.keys i h
 unfold V.parts V.part
 rw[h1]
 unfold V.keyAt
 split<;>rfl
theorem KL (t:V) {i:Nat}(h:i<t.kids.length):t.parts[i]'(by rw[CN];exact h)=t.part i t.kids[i]:=by
 have h1:=TW t h
 rw[List.getElem?_eq_getElem (by rw[CN];exact h)]at h1
 exact Option.some.inj h1
theorem IA {t:V}(h:t.kind=5):t.txt=bS 91++Bh (bS 44) t.parts++bS 93:=by
 cases t;simp only[DV]at h;subst h;rfl
theorem IK {t:V}(h:t.kind=6):t.txt=bS 123++Bh (bS 44) t.parts++bS 125:=by
 cases t;simp only[DV]at h;subst h;rfl
theorem Gn {t:V}(h:t.kind=0):t.txt=Qh:=by cases t;simp only[DV]at h;subst h;rfl
theorem Fr {t:V}(h:t.kind=1):t.txt=Ll:=by cases t;simp only[DV]at h;subst h;rfl
theorem Gk {t:V}(h:t.kind=2):t.txt=Pr:=by cases t;simp only[DV]at h;subst h;rfl
theorem Ik {t:V}(h:t.kind=3):t.txt=Fx t.num:=by cases t;simp only[DV]at h;subst h;rfl
theorem IG {t:V}(h:t.kind=4):t.txt=BY t.text:=by cases t;simp only[DV]at h;subst h;rfl
theorem Eu {t:V}(h:t.right):0≤t.kind∧t.kind≤6:=by
 have hc:=MZ h
 unfold CellD.code Az at hc
 cases hh:inB t.kind 0 6
 ·simp[hh]at hc
 ·simp[inB]at hh
  omega
theorem Gs {t:V}(h:t.right) (i:Nat):(t.keyAt i).size≤60:=by
 unfold V.keyAt
 split
 ·rename_i h6
  rcases Nat.lt_or_ge i t.keys.length with hi | hi
  ·rw[List.drop_eq_getElem_cons hi]
   exact Da ((Gy h h6).2.1 _ (List.getElem_mem hi))
  ·rw[List.drop_eq_nil_of_le hi];exact Nat.zero_le _
 ·exact Nat.zero_le _
theorem MQ {t:V}(hr:t.right) (ih:∀x∈t.kids,x.txt.size+124≤250*x.count):∀m,m≤t.kids.length→(Bh (bS 44) (t.parts.take m)).size≤250*An t.kids:=by
 intro m hm
 refine Nat.le_trans (Li _ _) ?_
 have key:∀m,m≤t.kids.length→((t.parts.take m).map fun x=>x.size+(bS 44).size).sum≤250*An (t.kids.take m):=by
  intro m
  induction m with
  |zero=>intro _;simp
  |succ m ihm =>
   intro hm
   have h1:=ihm (by omega)
   have hm':m<t.kids.length:=by omega
   have hmem:t.kids[m]∈t.kids:=List.getElem_mem hm'
   have h2:=ih _ hmem
   have h3:=GK (Gs hr m)
   rw[List.take_succ_eq_append_getElem (by rw[CN];omega),List.take_succ_eq_append_getElem hm',KL t hm',List.map_append,List.sum_append,Dg]
   have h4:(t.part m t.kids[m]).size+1≤250*t.kids[m].count:=by
    unfold V.part
    split
    ·rw[ByteArray.size_append,ByteArray.size_append,BJ];omega
    ·omega
   have h5:(bS 44).size=1:=rfl
   simp only[h5]at h1
   simp only[List.map_cons,List.map_nil,List.sum_cons,List.sum_nil,h5]
   omega
 have h1:=key m hm
 have h2:=Ew t.kids m
 omega
theorem P7:∀(n:Nat) (t:V),t.count≤n→t.right→t.txt.size+124≤250*t.count:=by
 intro n
 induction n with
 |zero=>intro t hn _;have:=Bc t;omega
 |succ n ih =>
  intro t hn hr
  have hp:=Bc t
  have hk:=Eu hr
  have hcc:=Bp t
  have hparts:=MQ hr (fun x hx=>ih x (by have:=BC hx;omega) (Cg hr hx)) t.kids.length (Nat.le_refl _)
  rw[List.take_of_length_le (by rw[CN];exact Nat.le_refl _)]at hparts
  have hcase:t.kind=0∨t.kind=1∨t.kind=2∨t.kind=3∨t.kind=4∨t.kind=5∨t.kind=6:=by omega
  rcases hcase with h | h | h | h | h | h | h
  ·rw[Gn h];have:Qh.size=4:=rfl;omega
  ·rw[Fr h];have:Ll.size=5:=rfl;omega
  ·rw[Gk h];have:Pr.size=4:=rfl;omega
  ·rw[Ik h];have:=US (Gx hr);omega
  ·rw[IG h];have:=GK (Da (FU hr));omega
  ·rw[IA h,ByteArray.size_append,ByteArray.size_append,BJ,BJ];omega
  ·rw[IK h,ByteArray.size_append,ByteArray.size_append,BJ,BJ];omega
theorem En {t:V}(h:t.right):t.txt.size≤50000:=by
 have h1:=P7 _ t (Nat.le_refl _) h
 have:=h.2.1
 omega
theorem MU {t:V}(h:t.right) {k:Nat}(hk:k≤t.kids.length):(Bh (bS 44) (t.parts.take k)).size≤50000:=by
 have h1:=MQ h (fun x hx=>P7 _ x (Nat.le_refl _) (Cg h hx)) k hk
 have h2:=Bp t
 have:=h.2.1
 omega
set_option maxRecDepth 10000
theorem ZH (K:Nat):AC Tryz.prog 51 [.nils,.c (.int .i64 K)] [] (.c (.int .i64 K)) []:=by
 have hd:decide ((0:Int)<0)=false:=rfl
 refine A6 Tryz.func51 Tryz.ntmps51 ?_
 refine A0 trivial ?_
 refine AG (κ:=Nat) (fun k=>⟨mkS 0 50 [(0,.nils),(1,.c (.int .i64 K)),(5,.c (.int .i64 0))],[]⟩)
  (fun _=>True) (fun k=>k) 0 trivial ?_ ?_
 ·exact Aq (As.of [] []) hd
 ·intro k hk
  refine A0 hd ?_
  exact Am (A7 []) Tryz.results51
theorem TT (l:List (List CellD)):BA (l.map Xw)=true:=by
 induction l with
 |nil=>rfl
 |cons c l ih=>simp only[List.map_cons,BA,ih,Bool.and_true,Xw,F1,C.closed,Eh]
theorem a0d (l:List (List CellD)):B3 (l.map Xw)=l.map AD:=by
 induction l with
 |nil=>rfl
 |cons c l ih=>simp only[List.map_cons,B3,ih,Xw,BV,C.forget,Ei,AD]
attribute [go_sem] TT a0d
set_option maxRecDepth 10000
def EditD.cs (d:EditD):List C:=[.int .i64 d.op,.sl (d.path.map CellD.cs),.sl (d.x.map CellD.cs)]
def EditD.os (d:EditD):List C:=[.int .i64 d.op,.osl (d.path.map CellD.cs),.osl (d.x.map CellD.cs)]
def EditD.av (d:EditD):AV:=.agg [.c (.int .i64 d.op),.c (.sl (d.path.map CellD.cs)),.c (.sl (d.x.map CellD.cs))]
theorem Oi (l:List EditD):B3 (l.map EditD.os)=l.map EditD.cs:=by
 induction l with
 |nil=>rfl
 |cons d l ih=>simp only[List.map_cons,B3,ih,EditD.os,EditD.cs,BV,C.forget,Ei]
theorem NX (l:List EditD):BA (l.map EditD.os)=true:=by
 induction l with
 |nil=>rfl
 |cons d l ih=>simp only[List.map_cons,BA,ih,Bool.and_true,EditD.os,F1,C.closed,Eh]
theorem Tq (l:List EditD):((l.map EditD.os).all fun r=>r.length==3)=true:=by simp[EditD.os]
attribute [go_sem] Oi NX Tq EditD.av
set_option maxRecDepth 10000
theorem QB (ps:List V) (hc:(DB ps).count≤500000):AC Tryz.prog 77 [.c (.sl ((ps.map V.enc).map AD))] [] (.c (.sl ((DB ps).enc.map CellD.cs))) []:=by
 have h:=Rl ps hc
 (apply (AC.says [] [(0,0)] h);(focus (simp only[go_sem,Nat.reduceEqDiff,Nat.reduceAdd,Nat.reduceSub,Nat.reduceLeDiff,Nat.reduceMul,Nat.reduceBEq,Nat.reduceLT,Int.reduceToNat,reduceCtorEq];try (and_intros<;>rfl)));(focus exact rfl);(focus (simp only[go_sem,Nat.reduceEqDiff,Nat.reduceAdd,Nat.reduceSub,Nat.reduceLeDiff,Nat.reduceMul,Nat.reduceBEq,Nat.reduceLT,Int.reduceToNat,reduceCtorEq];try (and_intros<;>rfl)));(focus exact rfl);(iterate 4 (focus (simp[go_sem];done))))
theorem a1h {t:V}(hw:t.wf) (hc:t.count≤200) (i:Nat) (hi:i<t.kids.length):AC Tryz.prog 170 [Ce t.enc,.c (.int .i64 ((kp t.kids i:Nat):Int))] [] (.c (.sl (t.kids[i].enc.map CellD.cs))) []:=by
 refine AC.of_calls fun S w κ vs hv=>?_
 obtain⟨v,vs',rfl,h1,v2,vs2,rfl,h2,rfl⟩:=hv
 obtain⟨rfl,_⟩:=h2
 obtain⟨A,cap,rfl,hcap,hcs⟩:=Cv.1 h1
 refine (Sh t hw hc i hi A cap hcap S w hcs).mono ?_
 rintro e w' ⟨⟨A',c',rfl,hc',hr⟩,hb⟩
 exact⟨hb,_,rfl,fun T _ hT=>Cv.2 ⟨A',c',rfl,hc',hr.weaken fun b hb _=>hT b hb⟩⟩
theorem QO {t:V}(hw:t.wf) (hc:t.count≤200):AC Tryz.prog 113 [Ce t.enc] [] (.own (0,0)) [((0,0),.row false 1 36 ((t.kids.map V.enc).map AD))]:=by
 have hkl:=Cj hc
 have hkn:=DJ t t.kids.length
 have hch:=M7 hw hc
 refine A6 Tryz.func113 Tryz.ntmps113 ?_
 refine A0 trivial ?_
 refine w9 (Aa [] hch) trivial ?_
 refine A0 trivial ?_
 refine AG (κ:=Nat) (fun k=>⟨mkS 0 25 [(0,Ce t.enc),(3,.own (3,0)),(4,.c (.sl ((CH t t.kids.length).map Ed))),(5,.c (.int .i64 k))],
   [((3,0),.row false 1 36 (((t.kids.take k).map V.enc).map AD))]⟩)
  (fun k=>k≤t.kids.length) (fun k=>t.kids.length-k) 0 (Nat.zero_le _) ?_ ?_
 ·exact Aq (As.of [((3,0),(6,0))] []) hkl
 ·intro k hk
  by_cases hlt:k<t.kids.length
  ·have hd:decide ((k:Int)<(t.kids.length:Int))=true:=by simpa using hlt
   have hw1:=Ae (k:=k) (by omega)
   have h1:(((t.kids.take k).map V.enc).map AD).length+1≤1000000:=by simp;omega
   have hr1:Aj ((CH t t.kids.length).map Ed) 1 k=true:=by simp[Aj,CH,hlt,Ed]
   have hg1:((CH t t.kids.length).map Ed)[k]? = some [.int .i64 ((kp t.kids k:Nat):Int)]:=by simp[CH,hlt,Ed]
   have hp:=a1h hw hc k hlt
   have hn:((t.kids.take k).map V.enc).map AD++[[.sl (t.kids[k].enc.map CellD.cs)]]=((t.kids.take (k+1)).map V.enc).map AD:=by rw[List.take_succ_eq_append_getElem hlt,List.map_append,List.map_append];rfl
   generalize hR:((t.kids.take k).map V.enc).map AD=R at *
   generalize hR2:((t.kids.take (k+1)).map V.enc).map AD=R2 at *
   generalize t.kids[k]=u at *
   refine A0 (j4 hd hkn hr1 hg1) ?_
   refine w9 (Aa [] hp) trivial ?_
   refine A0 (j2 h1 hw1) ?_
   refine⟨k+1,by omega,by omega,?_⟩
   exact Aq (As.of [((3,0),(23,0))] []) (j2 hn hR2)
  ·have hd:decide ((k:Int)<(t.kids.length:Int))=false:=by simpa using hlt
   have hke:t.kids.take k=t.kids:=List.take_of_length_le (by omega)
   refine A0 (j2 hkn hd) ?_
   exact A9 (A8 [((0,0),(3,0))] []) Tryz.results113 hke
set_option maxRecDepth 10000
theorem a0f {t:V}(hw:t.wf) (hc:t.count≤200):AC Tryz.prog 114 [Ce t.enc] [] (.own (0,0)) [((0,0),.row false 1 9 ((CK t t.kids.length).map Ab))]:=by
 have hkl:=Cj hc
 have hkn:=DJ t t.kids.length
 have hch:=M7 hw hc
 refine A6 Tryz.func114 Tryz.ntmps114 ?_
 refine A0 trivial ?_
 refine w9 (Aa [] hch) trivial ?_
 refine A0 trivial ?_
 refine AG (κ:=Nat) (fun k=>⟨mkS 0 27 [(0,Ce t.enc),(3,.own (3,0)),(4,.c (.sl ((CH t t.kids.length).map Ed))),(5,.c (.int .i64 k))],
   [((3,0),.row false 1 9 ((CK t k).map Ab))]⟩)
  (fun k=>k≤t.kids.length) (fun k=>t.kids.length-k) 0 (Nat.zero_le _) ?_ ?_
 ·(apply (As.of [((3,0),(6,0))] []);(iterate 2 ((focus (simp only[go_sem,Nat.reduceEqDiff,Nat.reduceAdd,Nat.reduceSub,Nat.reduceLeDiff,Nat.reduceMul,Nat.reduceBEq,Nat.reduceLT,Int.reduceToNat,reduceCtorEq,CK];try (and_intros<;>rfl)));(focus exact rfl)));(iterate 4 (focus (simp[go_sem,CK];done))))
 ·intro k hk
  by_cases hlt:k<t.kids.length
  ·have hd:decide ((k:Int)<(t.kids.length:Int))=true:=by simpa using hlt
   have hw1:=Ae (k:=k) (by omega)
   have h1:(CK t k).length+1≤1000000:=by rw[Sc];omega
   have hr1:Aj ((CH t t.kids.length).map Ed) 1 k=true:=by simp[Aj,CH,hlt,Ed]
   have hg1:((CH t t.kids.length).map Ed)[k]? = some [.int .i64 ((kp t.kids k:Nat):Int)]:=by simp[CH,hlt,Ed]
   have hg2:=QX t hlt
   have hr2:Aj (t.enc.map CellD.cs) 5 ((kp t.kids k:Nat):Int)=true:=by unfold Aj;rw[Int.toNat_natCast,hg2];simp
   have hn:(CK t k).map Ab++[[.str (t.keyAt k)]]=(CK t (k+1)).map Ab:=by rw[Pf,List.map_append];rfl
   refine A0 (j8 hd hkn hr1 hg1 hr2 hg2 h1 hw1) ?_
   refine⟨k+1,by omega,by omega,?_⟩
   exact Aq (As.of [((3,0),(25,0))] []) hn
  ·have hd:decide ((k:Int)<(t.kids.length:Int))=false:=by simpa using hlt
   have hke:k=t.kids.length:=by omega
   refine A0 (j2 hkn hd) ?_
   subst hke
   exact A9 (A8 [((0,0),(3,0))] []) Tryz.results114 hd
theorem a1i (s:ByteArray):AC Tryz.prog 142 [.c (.str s)] [] (.c (.bool (AN s))) []:=by
 refine AC.of_calls fun S w κ vs hv=>?_
 obtain⟨v,vs',rfl,⟨rfl,_⟩,rfl⟩:=hv
 refine (RU s w).mono ?_
 rintro e w' ⟨rfl,rfl⟩
 exact⟨Below.refl _ _,_,rfl,fun T _ _=>⟨rfl,rfl⟩⟩
theorem ZJ {v x:V}(h:v.right) (hx:x.right) (key:ByteArray) (hk:AN key=true):AC Tryz.prog 83 [Ce v.enc,.c (.str key),Ce x.enc] [] (vrA (Gf v key x)) []:=by
 have hv:=a1k v.enc x.enc
 have hb0:Nu v.enc x.enc=0:=by unfold Nu;rw[J9 h,J9 hx];rfl
 rw[hb0]at hv
 have h00:((0:Int) != 0)=false:=rfl
 have ht:=a1i key
 rw[hk]at ht
 have hr0:=Qq v
 have hg0:=Dp v
 unfold Gf
 by_cases h6:v.kind=0∨v.kind=6
 ·rw[if_pos h6]
  obtain⟨hc1,hc2⟩:=Pc h hx key h6
  have hobj:=PG (v.keys++[key]) (v.kids++[x]) (by rw[List.length_append,List.length_append,LT h h6];rfl) (by omega)
  have htold:=ZZ (Gi (v.keys++[key]) (v.kids++[x]))
  generalize Gi (v.keys++[key]) (v.kids++[x])=ob at *
  generalize Js ob=r at *
  rcases h6 with hz | h6
  ·have hbz:(v.kind==0)=true:=by simpa using hz
   rw[(Ey h hz).1,(Ey h hz).2]at hobj
   simp only[List.nil_append,List.map_cons,List.map_nil,Ab,AD]at hobj
   rcases r with⟨c,_ | u⟩
   all_goals
    simp only[Dh,CD]at htold ⊢
    refine A6 Tryz.func83 Tryz.ntmps83 ?_
    refine A0 trivial ?_
    refine w7 (A3 [] hv) trivial ?_
    refine A0 h00 ?_
    refine w7 (A3 [] ht) trivial ?_
    refine A0 (j3 hr0 hg0 hbz) ?_
    refine w12 (Zg [(26,0),(28,0)] hobj) trivial ?_
    refine w9 (Aa [(29,0)] htold) trivial ?_
    refine A0 trivial ?_
    exact Am (A7 []) Tryz.results83
  ·have hbz:(v.kind==0)=false:=by simp[h6]
   have hb6:(v.kind==6)=true:=by simpa using h6
   have hkO:=a0f h.1 h.2.1
   rw[show CK v v.kids.length=v.keys from a0e h h6]at hkO
   have hpO:=QO h.1 h.2.1
   have hkl:=x8 h
   have hl1:v.keys.length+1≤1000000:=by omega
   have hl2:v.kids.length+1≤1000000:=by omega
   obtain⟨K,hK⟩:∃K,v.keys++[key]=K:=⟨_,rfl⟩
   obtain⟨L,hL⟩:∃L,v.kids++[x]=L:=⟨_,rfl⟩
   have e1:v.keys.map Ab++[[C.str key]]=K.map Ab:=by rw[←hK,List.map_append];rfl
   have e2:(v.kids.map V.enc).map AD++[[C.sl (x.enc.map CellD.cs)]]=(L.map V.enc).map AD:=by rw[←hL,List.map_append,List.map_append];rfl
   rw[hK,hL]at hobj
   rcases r with⟨c,_ | u⟩
   all_goals
    simp only[Dh,CD]at htold ⊢
    refine A6 Tryz.func83 Tryz.ntmps83 ?_
    refine A0 trivial ?_
    refine w7 (A3 [] hv) trivial ?_
    refine A0 h00 ?_
    refine w7 (A3 [] ht) trivial ?_
    refine A0 (j4 hr0 hg0 hbz hb6) ?_
    refine w12 (IE [] hkO) trivial ?_
    refine A0 (j2 hl1 e1) ?_
    refine w12 (IE [] hpO) trivial ?_
    refine A0 (j2 hl2 e2) ?_
    refine w12 (Zg [(37,0),(42,0)] hobj) (j2 e1 e2) ?_
    refine w9 (Aa [(43,0)] htold) trivial ?_
    refine A0 trivial ?_
    exact Am (A7 []) Tryz.results83
 ·rw[if_neg h6]
  have hbz:(v.kind==0)=false:=by simp;omega
  have hb6:(v.kind==6)=false:=by simp;omega
  rw[Jl]
  refine A6 Tryz.func83 Tryz.ntmps83 ?_
  refine A0 trivial ?_
  refine w7 (A3 [] hv) trivial ?_
  refine A0 h00 ?_
  refine w7 (A3 [] ht) trivial ?_
  refine A0 (j4 hr0 hg0 hbz hb6) ?_
  refine w7 (A3 [] (E9 6)) trivial ?_
  refine A0 trivial ?_
  exact Am (A7 []) Tryz.results83
theorem a1w {v x:V}(h:v.right) (hx:x.right) (key:ByteArray) (hk:AN key=true):AC Tryz.prog 96 [v.av,.c (.str key),x.av] [] (Qr (Gf v key x)) []:=by
 have hs:=QL key (by have:=Da hk;omega)
 rw[hk]at hs
 unfold Gf
 by_cases h6:v.kind=0∨v.kind=6
 ·rw[if_pos h6]
  obtain⟨hc1,hc2⟩:=Pc h hx key h6
  have hkl:=x8 h
  have hgv:=ZV (Zx h hx hk h6) (by omega)
  have hobj:=TA (v.keys++[key]) (v.kids++[x]) (by rw[List.length_append,List.length_append,LT h h6];rfl) (by rw[List.length_append,List.length_singleton];omega) (by
   intro k hk'
   rcases List.mem_append.1 hk' with h1 | h1
   ·have:=YP h k h1;omega
   ·rw[List.mem_singleton.1 h1];have:=Mk hk;omega)
  rw[TD]at hobj
  have hcs:=d7 v.keys (by omega)
  have hcv:=NC v.kids (by omega)
  have hl1:v.keys.length+1≤1000000:=by omega
  have hl2:v.kids.length+1≤1000000:=by omega
  generalize Gi (v.keys++[key]) (v.kids++[x])=ob at *
  obtain⟨K,hK⟩:∃K,v.keys++[key]=K:=⟨_,rfl⟩
  obtain⟨L,hL⟩:∃L,v.kids++[x]=L:=⟨_,rfl⟩
  have e1:v.keys.map Ab++[[C.str key]]=K.map Ab:=by rw[←hK,List.map_append];rfl
  have e2:v.kids.map V.cs++[[.int .i64 x.kind,.int .i64 x.num,.str x.text,.sl (x.keys.map Ab),.sl (x.kids.map V.cs)]]=L.map V.cs:=by rw[←hL,List.map_append,List.map_cons,List.map_nil,V.cs_eq]
  rw[hK,hL]at hobj
  generalize Js ob=r at *
  rcases h6 with hz | h6
  case' inl =>
   have hb0:(v.kind != 0)=false:=by simpa using hz
   have hb6:(v.kind != 6)=true:=by simp[hz]
  case' inr =>
   have hb0:(v.kind != 0)=true:=by simp[h6]
   have hb6:(v.kind != 6)=false:=by simpa using h6
  all_goals
   rcases r with⟨c,_ | u⟩
   all_goals
    simp only[FQ,FA]at hgv ⊢
    refine A6 Tryz.func96 Tryz.ntmps96 ?_
    refine A0 trivial ?_
    refine w7 (A3 [] hs) trivial ?_
    refine A0 (j2 hb0 hb6) ?_
    refine w12 (IE [] hcs) trivial ?_
    refine A0 (j2 hl1 e1) ?_
    refine w12 (IE [] hcv) trivial ?_
    refine A0 (j2 hl2 e2) ?_
    refine w9 (Aa [(27,0),(33,0)] hobj) (j2 e1 e2) ?_
    refine w9 (Aa [] hgv) trivial ?_
    refine A0 trivial ?_
    exact Am (A7 []) Tryz.results96
 ·rw[if_neg h6]
  have hb0:(v.kind != 0)=true:=by simp;omega
  have hb6:(v.kind != 6)=true:=by simp;omega
  rw[KD]
  refine A6 Tryz.func96 Tryz.ntmps96 ?_
  refine A0 trivial ?_
  refine w7 (A3 [] hs) trivial ?_
  refine A0 (j2 hb0 hb6) ?_
  refine w7 (A3 [] (GS 6)) trivial ?_
  refine A0 trivial ?_
  exact Am (A7 []) Tryz.results96
end Go.Proofs.YtllfmaflodbieaaGreatDoor
