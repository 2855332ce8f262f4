/- Texts of this proof: G45 G55 G64 G65 G66. -/
import Derived.Test.YtllfmaflodbieaaGreatDoorKG9
set_option linter.all false
set_option maxHeartbeats 8000000
namespace Go.Proofs.YtllfmaflodbieaaGreatDoor
open Go.RowKit
set_option maxRecDepth 10000
def sgn (x y:Bool):Int:=bif x then -1 else bif y then 1 else 0
theorem FG (x y:Bool):AC Tryz.prog 263 [.c (.bool x),.c (.bool y)] [] (.c (.int .i64 (sgn x y))) []:=by
 cases x<;>cases y
 all_goals
  refine A5 Tryz.func263 Tryz.ntmps263 ?_
  refine A3 q9 ?_
  exact Ad [] (by simp only[Tryz.results263,go_sem,Nat.reduceBEq,Nat.reduceLT];exact rfl) (by simp only[go_sem,Nat.reduceEqDiff,Nat.reduceAdd,Nat.reduceSub,Nat.reduceLeDiff,Nat.reduceMul,Nat.reduceBEq,Nat.reduceLT,Int.reduceToNat,reduceCtorEq,sgn]) rfl
theorem v8 (a b:Int):sgn (decide (a<b)) (decide (a>b))=GA a b:=by
 unfold sgn GA
 by_cases h1:a<b
 ·simp[h1]
 ·by_cases h2:b<a
  ·simp[h1,h2]
  ·simp[h1,h2]
theorem a4v {a b:Int}(h:a≠b):sgn (decide (a<b)) true=GA a b:=by
 unfold sgn GA
 by_cases h1:a<b
 ·simp[h1]
 ·rw[if_neg h1,if_pos (by omega)]
  simp[h1]
theorem a5h (a b:ByteArray):sgn (Op.bytesLess a.toList b.toList) (!(Op.bytesLess a.toList b.toList||a.toList==b.toList))=JJ a b:=by
 unfold sgn JJ Bz
 cases Op.bytesLess a.toList b.toList<;>cases (a.toList==b.toList)<;>rfl
theorem a2c {a b:ByteArray}(h:(a.toList==b.toList)=false):sgn (Op.bytesLess a.toList b.toList) true=JJ a b:=by
 unfold sgn JJ Bz
 rw[h]
 cases Op.bytesLess a.toList b.toList<;>rfl
theorem Pd (a b:List ByteArray) (hl:a.length≤1000000):AC Tryz.prog 265 [.c (.sl (a.map Ac)),.c (.sl (b.map Ac))] [] (.c (.int .i64 (C8 a b))) []:=by
 have hla:(a.map Ac).length=a.length:=by simp
 have hlb:(b.map Ac).length=b.length:=by simp
 obtain⟨R,hR⟩:∃R,R=C8 a b:=⟨_,rfl⟩
 rw[←hR]
 refine A5 Tryz.func265 Tryz.ntmps265 ?_
 refine A3 q9 ?_
 refine AZ (κ:=Nat) (fun k=>⟨mkS 0 48 [(0,.c (.sl (a.map Ac))),(1,.c (.sl (b.map Ac))),(5,.c (.int .i64 k))],[]⟩)
  (fun k=>k≤a.length∧k≤b.length∧R=C8 (a.drop k) (b.drop k)) (fun k=>a.length-k) 0 ⟨Nat.zero_le _,Nat.zero_le _,hR⟩ ?_ ?_
 ·exact As (AH.of [] []) hla
 ·rintro k ⟨hk,hk2,hRk⟩
  by_cases hlt:k<a.length∧k<b.length
  ·have hda:decide ((k:Int)<(a.length:Int))=true:=by simpa using hlt.1
   have hdb:decide ((k:Int)<(b.length:Int))=true:=by simpa using hlt.2
   have hw:=AA (k:=k) (by omega)
   have hr:Ae (a.map Ac) 1 k=true:=by simp[Ae,hlt.1,Ac]
   have hg:(a.map Ac)[k]? = some [.str a[k]]:=by simp[hlt.1,Ac]
   have hrb:Ae (b.map Ac) 1 k=true:=by simp[Ae,hlt.2,Ac]
   have hgb:(b.map Ac)[k]? = some [.str b[k]]:=by simp[hlt.2,Ac]
   rw[QG hlt.1 hlt.2]at hRk
   generalize a[k]=ak at *
   generalize b[k]=bk at *
   cases he:(ak.toList==bk.toList) with
   |true =>
    have hz:JJ ak bk=0:=IT.2 (Ay (by simpa using he))
    rw[hz,Oe]at hRk
    refine A3 (j10 hla hlb hda hdb hr hg hrb hgb he hw) ?_
    refine⟨k+1,by omega,⟨by omega,by omega,hRk⟩,?_⟩
    exact As (AH.of [] []) hw
   |false =>
    have hz:JJ ak bk≠0:=fun h=>by rw[IT.1 h]at he;simp at he
    rw[VG hz]at hRk
    have hc:=FG (Op.bytesLess ak.toList bk.toList) true
    rw[a2c he]at hc
    rw[hRk]
    generalize JJ ak bk=x at *
    refine A3 (j9 hla hlb hda hdb hr hg hrb hgb he) ?_
    refine w7 (A8 [] hc) q9 ?_
    refine A3 q9 ?_
    exact AL (Ad []) Tryz.results265
  ·rw[Sf hk hk2 hlt]at hRk
   have hc:=FG (decide ((a.length:Int)<(b.length:Int))) (decide ((a.length:Int)>(b.length:Int)))
   rw[v8,←hRk]at hc
   cases hda:decide ((k:Int)<(a.length:Int))<;>cases hdb:decide ((k:Int)<(b.length:Int))
   case true.true=>exact absurd ⟨by simpa using hda,by simpa using hdb⟩ hlt
   all_goals
    refine A3 (j4 hla hlb hda hdb) ?_
    refine w7 (A8 [] hc) q9 ?_
    refine A3 q9 ?_
    exact AL (Ad []) Tryz.results265
theorem Vi (a b:List V) (hl:a.length≤1000000) (hrec:∀x∈a,∀y∈b,AC Tryz.prog 239 [Aq x.enc,Aq y.enc] [] (.c (.int .i64 (x.cmp y))) []) :
  AC Tryz.prog 264 [.c (.sl ((a.map V.enc).map A9)),.c (.sl ((b.map V.enc).map A9))] [] (.c (.int .i64 (Gk a b))) []:=by
 have hla:((a.map V.enc).map A9).length=a.length:=by simp
 have hlb:((b.map V.enc).map A9).length=b.length:=by simp
 obtain⟨R,hR⟩:∃R,R=Gk a b:=⟨_,rfl⟩
 rw[←hR]
 refine A5 Tryz.func264 Tryz.ntmps264 ?_
 refine A3 q9 ?_
 refine AZ (κ:=Nat) (fun k=>⟨mkS 0 42 [(0,.c (.sl ((a.map V.enc).map A9))),(1,.c (.sl ((b.map V.enc).map A9))),(5,.c (.int .i64 k))],[]⟩)
  (fun k=>k≤a.length∧k≤b.length∧R=Gk (a.drop k) (b.drop k)) (fun k=>a.length-k) 0 ⟨Nat.zero_le _,Nat.zero_le _,hR⟩ ?_ ?_
 ·exact As (AH.of [] []) hla
 ·rintro k ⟨hk,hk2,hRk⟩
  by_cases hlt:k<a.length∧k<b.length
  ·have hda:decide ((k:Int)<(a.length:Int))=true:=by simpa using hlt.1
   have hdb:decide ((k:Int)<(b.length:Int))=true:=by simpa using hlt.2
   have hw:=AA (k:=k) (by omega)
   have hr:Ae ((a.map V.enc).map A9) 1 k=true:=by simp[Ae,hlt.1,A9]
   have hg:((a.map V.enc).map A9)[k]? = some [.sl (a[k].enc.map CellD.cs)]:=by simp[hlt.1,A9]
   have hrb:Ae ((b.map V.enc).map A9) 1 k=true:=by simp[Ae,hlt.2,A9]
   have hgb:((b.map V.enc).map A9)[k]? = some [.sl (b[k].enc.map CellD.cs)]:=by simp[hlt.2,A9]
   have hc:=hrec a[k] (List.getElem_mem hlt.1) b[k] (List.getElem_mem hlt.2)
   rw[UE hlt.1 hlt.2]at hRk
   generalize a[k].cmp b[k]=x at *
   generalize a[k]=ak at *
   generalize b[k]=bk at *
   by_cases hx:x=0
   ·subst hx
    rw[Oe]at hRk
    have h00:((0:Int) != 0)=false:=rfl
    refine A3 (j8 hla hlb hda hdb hr hg hrb hgb) ?_
    refine w7 (A8 [] hc) q9 ?_
    refine A3 (j2 h00 hw) ?_
    refine⟨k+1,by omega,⟨by omega,by omega,hRk⟩,?_⟩
    exact As (AH.of [] []) hw
   ·rw[VG hx]at hRk
    have hb:(x != 0)=true:=by simpa using hx
    rw[hRk]
    refine A3 (j8 hla hlb hda hdb hr hg hrb hgb) ?_
    refine w7 (A8 [] hc) q9 ?_
    refine A3 hb ?_
    exact AL (Ad []) Tryz.results264
  ·rw[Xt hk hk2 hlt]at hRk
   have hc:=FG (decide ((a.length:Int)<(b.length:Int))) (decide ((a.length:Int)>(b.length:Int)))
   rw[v8,←hRk]at hc
   cases hda:decide ((k:Int)<(a.length:Int))<;>cases hdb:decide ((k:Int)<(b.length:Int))
   case true.true=>exact absurd ⟨by simpa using hda,by simpa using hdb⟩ hlt
   all_goals
    refine A3 (j4 hla hlb hda hdb) ?_
    refine w7 (A8 [] hc) q9 ?_
    refine A3 q9 ?_
    exact AL (Ad []) Tryz.results264
theorem Rh:∀(m:Nat) (a b:V),a.count≤m→a.right→b.right→AC Tryz.prog 239 [Aq a.enc,Aq b.enc] [] (.c (.int .i64 (a.cmp b))) []:=by
 intro m
 induction m with
 |zero=>intro a _ hm _ _;have:=AY a;omega
 |succ m ih =>
  intro a b hm ha hb
  have hkl:=B6 ha.2.1
  have hck:=AK a
  have hrec:∀x∈a.kids,∀y∈b.kids,AC Tryz.prog 239 [Aq x.enc,Aq y.enc] [] (.c (.int .i64 (x.cmp y))) []:=fun x hx y hy=>ih x y (by have:=BB hx;omega) (AQ ha hx) (AQ hb hy)
  have hra:Ae (a.enc.map CellD.cs) 5 0=true:=by unfold Ae;rw[show (0:Int).toNat=0 from rfl,AT];rfl
  have hga:=AT a
  have hrb:Ae (b.enc.map CellD.cs) 5 0=true:=by unfold Ae;rw[show (0:Int).toNat=0 from rfl,AT];rfl
  have hgb:=AT b
  by_cases hk:a.kind=b.kind
  ·have hne:(a.kind != b.kind)=false:=by simpa using hk
   by_cases h3:a.kind=3
   ·have hs:=FG (decide (a.num<b.num)) (decide (a.num>b.num))
    rw[v8]at hs
    rw[UF ha.1 hb.1 hk h3]
    have h3b:(a.kind==3)=true:=by simpa using h3
    refine A5 Tryz.func239 Tryz.ntmps239 ?_
    refine A3 (j6 hra hga hrb hgb hne h3b) ?_
    refine w7 (A8 [] hs) q9 ?_
    refine A3 q9 ?_
    exact AL (Ad []) Tryz.results239
   have h3b:(a.kind==3)=false:=by simpa using h3
   by_cases h4:a.kind=4
   ·have hs:=FG (Op.bytesLess a.text.toList b.text.toList) (!(Op.bytesLess a.text.toList b.text.toList||a.text.toList==b.text.toList))
    rw[a5h]at hs
    rw[Zl ha.1 hb.1 hk h4]
    have h4b:(a.kind==4)=true:=by simpa using h4
    refine A5 Tryz.func239 Tryz.ntmps239 ?_
    refine A3 (j7 hra hga hrb hgb hne h3b h4b) ?_
    refine w7 (A8 [] hs) q9 ?_
    refine A3 q9 ?_
    exact AL (Ad []) Tryz.results239
   have h4b:(a.kind==4)=false:=by simpa using h4
   have hpa:=Cj ha.1 ha.2.1
   have hpb:=Cj hb.1 hb.2.1
   have hli:=Vi a.kids b.kids (by omega) hrec
   by_cases h5:a.kind=5
   ·rw[Xu ha.1 hb.1 hk h5]
    have h5b:(a.kind==5)=true:=by simpa using h5
    refine A5 Tryz.func239 Tryz.ntmps239 ?_
    refine A3 (j8 hra hga hrb hgb hne h3b h4b h5b) ?_
    refine w9 (A6 [] hpa) q9 ?_
    refine A3 q9 ?_
    refine w9 (A6 [] hpb) q9 ?_
    refine A3 q9 ?_
    refine w7 (A8 [] hli) q9 ?_
    refine A3 q9 ?_
    exact AL (Ad []) Tryz.results239
   have h5b:(a.kind==5)=false:=by simpa using h5
   by_cases h6:a.kind=6
   ·have h6b:(a.kind==6)=true:=by simpa using h6
    have hka:=ET ha.1 ha.2.1
    have hkb:=ET hb.1 hb.2.1
    have e1:Bo a a.kids.length=a.keys:=ES ha h6
    have e2:Bo b b.kids.length=b.keys:=ES hb (by omega)
    rw[e1]at hka
    rw[e2]at hkb
    have hkk:=Pd a.keys b.keys (by rw[(B9 ha h6).2.2];omega)
    rw[UG ha.1 hb.1 hk h6]
    by_cases hz:C8 a.keys b.keys=0
    ·rw[hz]at hkk ⊢
     rw[Oe]
     have h00:((0:Int) != 0)=false:=rfl
     refine A5 Tryz.func239 Tryz.ntmps239 ?_
     refine A3 (j9 hra hga hrb hgb hne h3b h4b h5b h6b) ?_
     refine w9 (A6 [] hka) q9 ?_
     refine A3 q9 ?_
     refine w9 (A6 [] hkb) q9 ?_
     refine A3 q9 ?_
     refine w7 (A8 [] hkk) q9 ?_
     refine A3 h00 ?_
     refine w9 (A6 [] hpa) q9 ?_
     refine A3 q9 ?_
     refine w9 (A6 [] hpb) q9 ?_
     refine A3 q9 ?_
     refine w7 (A8 [] hli) q9 ?_
     refine A3 q9 ?_
     exact AL (Ad []) Tryz.results239
    ·rw[VG hz]
     have hb1:(C8 a.keys b.keys != 0)=true:=by simpa using hz
     refine A5 Tryz.func239 Tryz.ntmps239 ?_
     refine A3 (j9 hra hga hrb hgb hne h3b h4b h5b h6b) ?_
     refine w9 (A6 [] hka) q9 ?_
     refine A3 q9 ?_
     refine w9 (A6 [] hkb) q9 ?_
     refine A3 q9 ?_
     refine w7 (A8 [] hkk) q9 ?_
     refine A3 hb1 ?_
     exact AL (Ad []) Tryz.results239
   have h6b:(a.kind==6)=false:=by simpa using h6
   rw[Xv ha.1 hb.1 hk h3 h4 h5 h6]
   refine A5 Tryz.func239 Tryz.ntmps239 ?_
   refine A3 (j9 hra hga hrb hgb hne h3b h4b h5b h6b) ?_
   exact AL (Ad []) Tryz.results239
  ·have hne:(a.kind != b.kind)=true:=by simpa using hk
   have hs:=FG (decide (a.kind<b.kind)) true
   rw[a4v hk]at hs
   have hR:a.cmp b=GA a.kind b.kind:=by rw[L9,if_neg hk]
   rw[hR]
   refine A5 Tryz.func239 Tryz.ntmps239 ?_
   refine A3 (j5 hra hga hrb hgb hne) ?_
   refine w7 (A8 [] hs) q9 ?_
   refine A3 q9 ?_
   exact AL (Ad []) Tryz.results239
def E4 (x y:List CellD):Int:=if (dec x).1=0 then (dec y).1 else (dec x).1
theorem Lt (x y:List CellD):AC Tryz.prog 141 [Aq x,Aq y] [] (.c (.int .i64 (E4 x y))) []:=by
 have h1:=C0 x
 have h2:=C0 y
 unfold E4
 by_cases h:(dec x).1=0
 ·rw[if_pos h]
  rw[h]at h1
  have h00:((0:Int) != 0)=false:=rfl
  refine A5 Tryz.func141 Tryz.ntmps141 ?_
  refine A3 q9 ?_
  refine w7 (A8 [] h1) q9 ?_
  refine A3 h00 ?_
  refine w7 (A8 [] h2) q9 ?_
  refine A3 q9 ?_
  exact AL (Ad []) Tryz.results141
 ·rw[if_neg h]
  have hb:((dec x).1 != 0)=true:=by simpa using h
  refine A5 Tryz.func141 Tryz.ntmps141 ?_
  refine A3 q9 ?_
  refine w7 (A8 [] h1) q9 ?_
  refine A3 hb ?_
  exact AL (Ad []) Tryz.results141
set_option maxRecDepth 10000
theorem XV (xs:List CellD) (h:(dec xs).1=0):AC Tryz.prog 140 [Aq xs] [] (.agg [.c (.int .i64 0),Aq xs]) []:=by
 have hf:=C0 xs
 rw[h]at hf
 have h00:((0:Int) != 0)=false:=rfl
 refine A5 Tryz.func140 Tryz.ntmps140 ?_
 refine A3 q9 ?_
 refine w7 (A8 [] hf) q9 ?_
 refine A3 h00 ?_
 exact AL (Ad []) Tryz.results140
theorem Vj (xs:List CellD) (h:(dec xs).1≠0):AC Tryz.prog 140 [Aq xs] [] (.agg [.c (.int .i64 (dec xs).1),.c (.sl [])]) []:=by
 have hf:=C0 xs
 have hb:((dec xs).1 != 0)=true:=by simpa using h
 refine A5 Tryz.func140 Tryz.ntmps140 ?_
 refine A3 q9 ?_
 refine w7 (A8 [] hf) q9 ?_
 refine A3 hb ?_
 exact AL (Ad []) Tryz.results140
theorem PQ (t:V):AC Tryz.prog 140 [Aq t.enc] [] (vrA (M4 t)) []:=by
 unfold M4
 split
 ·rename_i h
  exact XV t.enc h
 ·rename_i h
  exact Vj t.enc h
theorem Ez (t:V):Ae (t.enc.map CellD.cs) 5 0=true:=by unfold Ae;rw[show (0:Int).toNat=0 from rfl,AT];rfl
theorem HA:AC Tryz.prog 41 [] [] (.c (.sl (BA.enc.map CellD.cs))) []:=by
 have h:=FH
 exact wAS (AC.says [] [(0,0)] h) q9
theorem T7 (a b:List ByteArray) (hla:a.length≤400000) (hlb:b.length≤400000):AC Tryz.prog 266 [.c (.sl (a.map Ac)),.c (.sl (b.map Ac))] [] (.c (.sl ((Cc a b).map Ac))) []:=by
 have h:=Vf a b hla hlb
 exact wAS (AC.says [] [(0,0)] h) q9
set_option maxRecDepth 10000
def EditD.cs (d:EditD):List C:=[.int .i64 d.op,.sl (d.path.map CellD.cs),.sl (d.x.map CellD.cs)]
def EditD.os (d:EditD):List C:=[.int .i64 d.op,.osl (d.path.map CellD.cs),.osl (d.x.map CellD.cs)]
def EditD.av (d:EditD):AV:=.agg [.c (.int .i64 d.op),.c (.sl (d.path.map CellD.cs)),.c (.sl (d.x.map CellD.cs))]
abbrev GC (l:List EditD):AV:=.c (.sl (l.map EditD.cs))
theorem R9 (l:List EditD):AE (l.map EditD.os)=l.map EditD.cs:=by
 induction l with
 |nil=>rfl
 |cons d l ih=>simp only[List.map_cons,AE,ih,EditD.os,EditD.cs,Ct,C.forget,EA]
theorem QF (l:List EditD):BN (l.map EditD.os)=true:=by
 induction l with
 |nil=>rfl
 |cons d l ih=>simp only[List.map_cons,BN,ih,Bool.and_true,EditD.os,Fs,C.closed,Ey]
theorem Xh (l:List EditD):((l.map EditD.os).all fun r=>r.length==3)=true:=by simp[EditD.os]
attribute [go_sem] R9 QF Xh EditD.av
theorem SD (l:List EditD) {k:Nat}(h:k<l.length):Ae (l.map EditD.cs) 3 k=true∧(l.map EditD.cs)[k]? = some [.int .i64 l[k].op,.sl (l[k].path.map CellD.cs),.sl (l[k].x.map CellD.cs)]:=⟨by simp[Ae,h,EditD.cs],by simp[h,EditD.cs]⟩
set_option maxRecDepth 10000
theorem Rc (xs:List CellD) (hz:D7 xs):AC Tryz.prog 64 [Aq xs] [] (.c (.int .i64 (dec xs).1)) []:=by
 rcases DR xs with⟨t,ht⟩ | ⟨c,_,ht⟩
 ·have hv:=Ui xs hz (t:=t) (by rw[ht])
  rw[ht]
  refine A5 Tryz.func64 Tryz.ntmps64 ?_
  refine A3 q9 ?_
  refine w9 (A6 [] hv) q9 ?_
  refine A3 q9 ?_
  exact AL (Ad []) Tryz.results64
 ·have hv:=Z0 xs hz (by rw[ht])
  refine A5 Tryz.func64 Tryz.ntmps64 ?_
  refine A3 q9 ?_
  refine w9 (A6 [] hv) e9 ?_
  refine A3 e9 ?_
  exact AL (Ad []) Tryz.results64
theorem CJ (d:EditD) (hz:DY d):AC Tryz.prog 72 [d.av] [] (.c (.int .i64 (Al d))) []:=by
 obtain⟨z1,z2,_,_⟩:=hz
 unfold Al
 cases hb1:d.op != 1 with
 |true =>
  cases hb2:d.op != 2 with
  |true =>
   refine A5 Tryz.func72 Tryz.ntmps72 ?_
   refine A3 (j2 hb1 hb2) ?_
   exact AL (Ad []) Tryz.results72
  |false =>
   have h2:d.op=2:=by simpa using hb2
   have he1:(d.op==1)=false:=by simp[h2]
   rcases Du d.path with⟨s,_,_,_,_,_,_,hp⟩ | ⟨c,hc,hp⟩
   ·rw[hp]
    have hpo:=Q7 d.path z1 hp
    have h00:((0:Int) != 0)=false:=rfl
    simp only[Bool.true_and,Bool.false_eq_true,if_false,he1]
    cases hx:d.x.length with
    |succ n =>
     have hg:decide ((((d.x.map CellD.cs).length:Nat):Int)>0)=true:=by rw[List.length_map,hx];simp
     have hg2:decide (((n+1:Nat):Int)>0)=true:=by simp
     simp only[Nat.succ_ne_zero,ne_eq,not_false_eq_true,true_or,if_true]
     refine A5 Tryz.func72 Tryz.ntmps72 ?_
     refine A3 (j2 hb1 hb2) ?_
     refine w9 (A6 [] hpo) q9 ?_
     refine A3 (j4 h00 he1 hx hg2) ?_
     exact AL (Ad []) Tryz.results72
    |zero =>
     have hg2:decide (((0:Nat):Int)>0)=false:=rfl
     have hg3:decide ((0:Int)>0)=false:=rfl
     cases hk:s.kids.length with
     |succ n =>
      have hk0:(((n+1:Nat):Int)==0)=false:=by simp;omega
      simp only[ne_eq,not_true_eq_false,false_or,Nat.succ_ne_zero,if_false]
      refine A5 Tryz.func72 Tryz.ntmps72 ?_
      refine A3 (j2 hb1 hb2) ?_
      refine w9 (A6 [] hpo) q9 ?_
      refine A3 (j7 h00 he1 hx hg2 hg3 hk hk0) ?_
      exact AL (Ad []) Tryz.results72
     |zero =>
      have hk0:(((0:Nat):Int)==0)=true:=rfl
      have hk1:((0:Int)==0)=true:=rfl
      simp only[ne_eq,not_true_eq_false,false_or,if_true]
      refine A5 Tryz.func72 Tryz.ntmps72 ?_
      refine A3 (j2 hb1 hb2) ?_
      refine w9 (A6 [] hpo) q9 ?_
      refine A3 (j8 h00 he1 hx hg2 hg3 hk hk0 hk1) ?_
      exact AL (Ad []) Tryz.results72
   ·rw[hp]
    have hpo:=Ol d.path z1 hp
    have hcb:(c != 0)=true:=by simpa using hc
    simp only[Bool.true_and,Bool.false_eq_true,if_false]
    refine A5 Tryz.func72 Tryz.ntmps72 ?_
    refine A3 (j2 hb1 hb2) ?_
    refine w9 (A6 [] hpo) q9 ?_
    refine A3 hcb ?_
    exact AL (Ad []) Tryz.results72
 |false =>
  have h1:d.op=1:=by simpa using hb1
  have he1:(d.op==1)=true:=by simp[h1]
  rcases Du d.path with⟨s,_,_,_,_,_,_,hp⟩ | ⟨c,hc,hp⟩
  ·rw[hp]
   have hpo:=Q7 d.path z1 hp
   have h00:((0:Int) != 0)=false:=rfl
   have hf:=Rc d.x z2
   simp only[Bool.false_and,Bool.false_eq_true,if_false,he1,if_true]
   refine A5 Tryz.func72 Tryz.ntmps72 ?_
   refine A3 hb1 ?_
   refine w9 (A6 [] hpo) q9 ?_
   refine A3 (j2 h00 he1) ?_
   refine w7 (A8 [] hf) q9 ?_
   refine A3 q9 ?_
   exact AL (Ad []) Tryz.results72
  ·rw[hp]
   have hpo:=Ol d.path z1 hp
   have hcb:(c != 0)=true:=by simpa using hc
   simp only[Bool.false_and,Bool.false_eq_true,if_false]
   refine A5 Tryz.func72 Tryz.ntmps72 ?_
   refine A3 hb1 ?_
   refine w9 (A6 [] hpo) q9 ?_
   refine A3 hcb ?_
   exact AL (Ad []) Tryz.results72
theorem Ve (d:EditD):AC Tryz.prog 40 [d.av] [] (.c (.int .i64 (Al d))) []:=by
 unfold Al
 have hpo:=U5 d.path
 cases hb1:d.op != 1 with
 |true =>
  cases hb2:d.op != 2 with
  |true =>
   refine A5 Tryz.func40 Tryz.ntmps40 ?_
   refine A3 (j2 hb1 hb2) ?_
   exact AL (Ad []) Tryz.results40
  |false =>
   have h2:d.op=2:=by simpa using hb2
   have he1:(d.op==1)=false:=by simp[h2]
   rcases Du d.path with⟨s,hs,hw1,hw2,hw3,_,_,hp⟩ | ⟨c,hc,hp⟩
   ·rw[hp]at hpo ⊢
    have h00:((0:Int) != 0)=false:=rfl
    simp only[Bool.true_and,Bool.false_eq_true,if_false,he1]
    have hr0:=Ez s
    have hg0:=AT s
    rw[←hs]at hr0 hg0
    cases hx:d.x.length with
    |succ n =>
     have hg2:decide (((n+1:Nat):Int)>0)=true:=by simp
     simp only[Nat.succ_ne_zero,ne_eq,not_false_eq_true,true_or,if_true]
     refine A5 Tryz.func40 Tryz.ntmps40 ?_
     refine A3 (j2 hb1 hb2) ?_
     refine w7 (A8 [] hpo) q9 ?_
     refine A3 (j4 h00 he1 hx hg2) ?_
     exact AL (Ad []) Tryz.results40
    |zero =>
     have hg2:decide (((0:Nat):Int)>0)=false:=rfl
     have hg3:decide ((0:Int)>0)=false:=rfl
     cases hk:s.kids.length with
     |succ n =>
      rw[hk]at hg0
      have hk0:(((n+1:Nat):Int)==0)=false:=by simp;omega
      simp only[ne_eq,not_true_eq_false,false_or,Nat.succ_ne_zero,if_false]
      refine A5 Tryz.func40 Tryz.ntmps40 ?_
      refine A3 (j2 hb1 hb2) ?_
      refine w7 (A8 [] hpo) q9 ?_
      refine A3 (j8 h00 he1 hx hg2 hg3 hr0 hg0 hk0) ?_
      exact AL (Ad []) Tryz.results40
     |zero =>
      rw[hk]at hg0
      have hk0:(((0:Nat):Int)==0)=true:=rfl
      have hk1:((0:Int)==0)=true:=rfl
      simp only[ne_eq,not_true_eq_false,false_or,if_true]
      refine A5 Tryz.func40 Tryz.ntmps40 ?_
      refine A3 (j2 hb1 hb2) ?_
      refine w7 (A8 [] hpo) q9 ?_
      refine A3 (j9 h00 he1 hx hg2 hg3 hr0 hg0 hk0 hk1) ?_
      exact AL (Ad []) Tryz.results40
   ·rw[hp]at hpo ⊢
    have hcb:(c != 0)=true:=by simpa using hc
    simp only[Bool.true_and,Bool.false_eq_true,if_false]
    refine A5 Tryz.func40 Tryz.ntmps40 ?_
    refine A3 (j2 hb1 hb2) ?_
    refine w7 (A8 [] hpo) q9 ?_
    refine A3 hcb ?_
    exact AL (Ad []) Tryz.results40
 |false =>
  have h1:d.op=1:=by simpa using hb1
  have he1:(d.op==1)=true:=by simp[h1]
  rcases Du d.path with⟨s,_,_,_,_,_,_,hp⟩ | ⟨c,hc,hp⟩
  ·rw[hp]at hpo ⊢
   have h00:((0:Int) != 0)=false:=rfl
   have hf:=C0 d.x
   simp only[Bool.false_and,Bool.false_eq_true,if_false,he1,if_true]
   refine A5 Tryz.func40 Tryz.ntmps40 ?_
   refine A3 hb1 ?_
   refine w7 (A8 [] hpo) q9 ?_
   refine A3 (j2 h00 he1) ?_
   refine w7 (A8 [] hf) q9 ?_
   refine A3 q9 ?_
   exact AL (Ad []) Tryz.results40
  ·rw[hp]at hpo ⊢
   have hcb:(c != 0)=true:=by simpa using hc
   simp only[Bool.false_and,Bool.false_eq_true,if_false]
   refine A5 Tryz.func40 Tryz.ntmps40 ?_
   refine A3 hb1 ?_
   refine w7 (A8 [] hpo) q9 ?_
   refine A3 hcb ?_
   exact AL (Ad []) Tryz.results40
theorem Iq {l:List EditD}{k:Nat}(h:k<l.length):CZ (l.drop k)=if Al l[k]≠0 then Al l[k] else CZ (l.drop (k+1)):=by
 rw[List.drop_eq_getElem_cons h]
 rfl
theorem Hv (l:List EditD) (hz:∀d∈l,DY d) (hl:l.length≤9223372036854775807):AC Tryz.prog 32 [GC l] [] (.c (.int .i64 (Bk l))) []:=by
 have hln:(l.map EditD.cs).length=l.length:=by simp
 unfold Bk
 by_cases hm:100<l.length
 ·have hd:decide ((l.length:Int)>100)=true:=by simp;omega
  rw[if_pos hm]
  refine A5 Tryz.func32 Tryz.ntmps32 ?_
  refine A3 (j2 hln hd) ?_
  exact AL (Ad []) Tryz.results32
 ·have hd:decide ((l.length:Int)>100)=false:=by simp;omega
  rw[if_neg hm]
  obtain⟨R,hR⟩:∃R,CZ l=R:=⟨_,rfl⟩
  rw[hR]
  refine A5 Tryz.func32 Tryz.ntmps32 ?_
  refine A3 (j2 hln hd) ?_
  refine AZ (κ:=Nat) (fun k=>⟨mkS 0 21 [(9,GC l),(10,.c (.int .i64 l.length)),(11,.c (.int .i64 k))],[]⟩)
   (fun k=>k≤l.length∧CZ (l.drop k)=R) (fun k=>l.length-k) 0 ⟨Nat.zero_le _,hR⟩ ?_ ?_
  ·exact As (AH.of [] []) hln
  ·rintro k ⟨hk,hRk⟩
   by_cases hlt:k<l.length
   ·have hdk:decide ((k:Int)<(l.length:Int))=true:=by simpa using hlt
    have hw:=AA (k:=k) (by omega)
    obtain⟨hr0,hg0⟩:=SD l hlt
    have hca:=CJ l[k] (hz _ (List.getElem_mem hlt))
    rw[Iq hlt]at hRk
    generalize l[k]=x at *
    by_cases hc:Al x≠0
    ·have hcb:(Al x != 0)=true:=by simpa using hc
     rw[if_pos hc]at hRk
     subst hRk
     refine A3 (j3 hdk hr0 hg0) ?_
     refine w7 (A8 [] hca) q9 ?_
     refine A3 hcb ?_
     exact AL (Ad []) Tryz.results32
    ·have hcb:(Al x != 0)=false:=by simpa using hc
     rw[if_neg hc]at hRk
     refine A3 (j3 hdk hr0 hg0) ?_
     refine w7 (A8 [] hca) q9 ?_
     refine A3 (j2 hcb hw) ?_
     refine⟨k+1,by omega,⟨by omega,hRk⟩,?_⟩
     exact As (AH.of [] []) hw
   ·have hdk:decide ((k:Int)<(l.length:Int))=false:=by simpa using hlt
    rw[List.drop_eq_nil_of_le (by omega)]at hRk
    have hR0:(0:Int)=R:=hRk
    subst hR0
    refine A3 hdk ?_
    exact AL (Ad []) Tryz.results32
theorem RW (l:List EditD) (hl:l.length≤9223372036854775807):AC Tryz.prog 15 [GC l] [] (.c (.int .i64 (Bk l))) []:=by
 have hln:(l.map EditD.cs).length=l.length:=by simp
 unfold Bk
 by_cases hm:100<l.length
 ·have hd:decide ((l.length:Int)>100)=true:=by simp;omega
  rw[if_pos hm]
  refine A5 Tryz.func15 Tryz.ntmps15 ?_
  refine A3 (j2 hln hd) ?_
  exact AL (Ad []) Tryz.results15
 ·have hd:decide ((l.length:Int)>100)=false:=by simp;omega
  rw[if_neg hm]
  obtain⟨R,hR⟩:∃R,CZ l=R:=⟨_,rfl⟩
  rw[hR]
  refine A5 Tryz.func15 Tryz.ntmps15 ?_
  refine A3 (j2 hln hd) ?_
  refine AZ (κ:=Nat) (fun k=>⟨mkS 0 22 [(0,GC l),(3,.c (.int .i64 k))],[]⟩)
   (fun k=>k≤l.length∧CZ (l.drop k)=R) (fun k=>l.length-k) 0 ⟨Nat.zero_le _,hR⟩ ?_ ?_
  ·exact As (AH.of [] []) hln
  ·rintro k ⟨hk,hRk⟩
   by_cases hlt:k<l.length
   ·have hdk:decide ((k:Int)<(l.length:Int))=true:=by simpa using hlt
    have hw:=AA (k:=k) (by omega)
    obtain⟨hr0,hg0⟩:=SD l hlt
    have hca:=Ve l[k]
    rw[Iq hlt]at hRk
    generalize l[k]=x at *
    by_cases hc:Al x≠0
    ·have hcb:(Al x != 0)=true:=by simpa using hc
     rw[if_pos hc]at hRk
     subst hRk
     refine A3 (j4 hln hdk hr0 hg0) ?_
     refine w7 (A8 [] hca) q9 ?_
     refine A3 hcb ?_
     exact AL (Ad []) Tryz.results15
    ·have hcb:(Al x != 0)=false:=by simpa using hc
     rw[if_neg hc]at hRk
     refine A3 (j4 hln hdk hr0 hg0) ?_
     refine w7 (A8 [] hca) q9 ?_
     refine A3 (j2 hcb hw) ?_
     refine⟨k+1,by omega,⟨by omega,hRk⟩,?_⟩
     exact As (AH.of [] []) hw
   ·have hdk:decide ((k:Int)<(l.length:Int))=false:=by simpa using hlt
    rw[List.drop_eq_nil_of_le (by omega)]at hRk
    have hR0:(0:Int)=R:=hRk
    subst hR0
    refine A3 (j2 hln hdk) ?_
    exact AL (Ad []) Tryz.results15
end Go.Proofs.YtllfmaflodbieaaGreatDoor
