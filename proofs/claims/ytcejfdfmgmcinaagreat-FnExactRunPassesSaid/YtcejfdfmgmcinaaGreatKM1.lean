/- Texts of this proof: M01 M02 M03 M04 M05 M06 M07. -/
import Derived.WalkKit
import Derived.Lib.Hide
set_option linter.all false
namespace Go.Proofs.YtcejfdfmgmcinaaGreat
section
open Go.RowKit
def inB (v lo hi:Int):Bool:=decide (lo≤v)&&decide (v≤hi)
def Gp (c:UInt8):Bool:=decide (32≤c.toNat)&&decide (c.toNat≤126)
def Bi (s:ByteArray):Bool:=decide (s.size≤60)&&s.data.toList.all Gp
structure CellD where
 kind:Int
 num:Int
 text:ByteArray
 key:ByteArray
 n:Int
def vals (c:CellD):List Value:=[.int .i64 c.kind,.int .i64 c.num,.string c.text,.string c.key,.int .i64 c.n]
def CG (k:Int):Bool:=k==5||k==6
def cF (k m:Int) (t:ByteArray) (n:Int):Bool:=(m != 0&&k != 3)||(!(t.toList.isEmpty)&&k != 4)||(n != 0&&!(CG k))
def cR (m n:Int):Bool:=!(inB m (-1000000000000000) 1000000000000000)||!(inB n 0 200)
def cT (t y:ByteArray):Bool:=!(Bi t)||!(Bi y)
def AS (k m:Int) (t y:ByteArray) (n:Int):Int:=if !(inB k 0 6) then 6 else if cF k m t n then 1 else if cR m n then 3 else if cT t y then 5 else 0
def CellD.code (c:CellD):Int:=AS c.kind c.num c.text c.key c.n
inductive V where
 |mk (kind num:Int) (text:ByteArray) (keys:List ByteArray) (kids:List V)
mutual
def V.depth:V→Nat
 | .mk _ _ _ _ kids=>AW kids+1
def AW:List V→Nat
 | []=>0
 |k::ks=>max k.depth (AW ks)
end
mutual
def V.count:V→Nat
 | .mk _ _ _ _ kids=>Aw kids+1
def Aw:List V→Nat
 | []=>0
 |k::ks=>k.count+Aw ks
end
def V.kind:V→Int | .mk k _ _ _ _=>k
def V.num:V→Int | .mk _ n _ _ _=>n
def V.text:V→ByteArray | .mk _ _ t _ _=>t
def V.keys:V→List ByteArray | .mk _ _ _ k _=>k
def V.kids:V→List V | .mk _ _ _ _ k=>k
mutual
def V.cells (key:ByteArray):V→List CellD
 | .mk kind num text keys kids=>⟨kind,num,text,key,kids.length⟩::C2 kind keys kids
def C2 (kind:Int) (keys:List ByteArray):List V→List CellD
 | []=>[]
 |k::ks=>k.cells (if kind=6 then keys.headD ByteArray.empty else ByteArray.empty)++C2 kind keys.tail ks
end
def B6 (kind:Int) (last:Option ByteArray) (key:ByteArray):Bool :=
 (kind==5&&!(key.toList.isEmpty))||(kind==6&&match last with | none=>false | some p=>!(Op.bytesLess p.toList key.toList))
def Bn (pv:List CellD→Option (V×List CellD)) (kind:Int):Nat→Option ByteArray→List CellD→Option (List ByteArray×List V×List CellD)
 | 0,_,l=>some ([],[],l)
 |_+1,_,[]=>none
 |cnt+1,last,c::l =>
  if B6 kind last c.key then none else
  match pv (c::l) with
  |none=>none
  |some (v,r)=>(Bn pv kind cnt (some c.key) r).map fun x=>((if kind=6 then c.key::x.1 else x.1),v::x.2.1,x.2.2)
def AJ:Nat→List CellD→Option (V×List CellD)
 | 0,_=>none
 |_+1,[]=>none
 |m+1,c::l=>(Bn (AJ m) c.kind c.n.toNat none l).map fun x=>(.mk c.kind c.num c.text x.1 x.2.1,x.2.2)
def BI:List CellD→Int
 | []=>0
 |c::l=>if c.code≠0 then c.code else BI l
def dec (xs:List CellD):Int×Option V :=
 if ¬(1≤xs.length∧xs.length≤200) then (2,none) else
 if BI xs≠0 then (BI xs,none) else
 match AJ xs.length xs with
 |some (t,[])=>if !((xs.headD ⟨0,0,ByteArray.empty,ByteArray.empty,0⟩).key.toList.isEmpty) then (1,none) else if 20<t.depth then (7,none) else (0,some t)
 |_=>(1,none)
theorem P4 {pv:List CellD→Option (V×List CellD)}(hp:∀l t r,pv l=some (t,r)→r <:+ l) (kind:Int) :
  ∀cnt last l x,Bn pv kind cnt last l=some x→x.2.2 <:+ l:=by
 intro cnt
 induction cnt with
 |zero=>intro last l x h;simp only[Bn,Option.some.injEq]at h;subst h;exact List.suffix_refl _
 |succ cnt ih =>
  intro last l x h
  cases l with
  |nil=>simp[Bn]at h
  |cons c l =>
   simp only[Bn]at h
   split at h
   ·simp at h
   ·split at h
    ·simp at h
    ·rename_i v r hv
     simp only[Option.map_eq_some_iff]at h
     obtain⟨y,hy,rfl⟩:=h
     exact (ih _ _ _ hy).trans (hp _ _ _ hv)
theorem Eh:∀m l t r,AJ m l=some (t,r)→r <:+ l∧r.length<l.length:=by
 intro m
 induction m with
 |zero=>intro l t r h;simp[AJ]at h
 |succ m ih =>
  intro l t r h
  cases l with
  |nil=>simp[AJ]at h
  |cons c l =>
   simp only[AJ,Option.map_eq_some_iff]at h
   obtain⟨x,hx,he⟩:=h
   simp only[Prod.mk.injEq]at he
   have:=P4 (fun l t r h=>(ih l t r h).1) _ _ _ _ _ hx
   rw[he.2]at this
   exact⟨this.trans (List.suffix_cons _ _),by have:=this.length_le;simp;omega⟩
theorem MG {xs r:List CellD}(h:r <:+ xs):r=xs.drop (xs.length-r.length):=by
 obtain⟨p,rfl⟩:=h
 simp
def a2d (K:List ByteArray) (Vs:List V) (x:List ByteArray×List V×List CellD):List ByteArray×List V×List CellD:=(K++x.1,Vs++x.2.1,x.2.2)
def Fz (pv:List CellD→Option (V×List CellD)) (kind:Int) (N:Nat) (l0:List CellD) (k:Nat) (K:List ByteArray) (Vs:List V) (last:Option ByteArray) (l:List CellD):Prop :=
 k≤N∧Vs.length=k∧(kind=6→K.length=k)∧(kind≠6→K=[])∧(kind=6→last=K.getLast?)∧Bn pv kind N none l0=(Bn pv kind (N-k) last l).map (a2d K Vs)
section
variable {pv:List CellD→Option (V×List CellD)} {kind:Int} {N:Nat} {l0:List CellD} {k:Nat} {K:List ByteArray} {Vs:List V} {last:Option ByteArray} {l:List CellD}
theorem Fz.start:Fz pv kind N l0 0 [] [] none l0 :=
 ⟨Nat.zero_le _,rfl,fun _=>rfl,fun _=>rfl,fun _=>rfl,by
  rw[Nat.sub_zero]
  cases Bn pv kind N none l0<;>simp[a2d]⟩
theorem Fz.done (h:Fz pv kind N l0 N K Vs last l):Bn pv kind N none l0=some (K,Vs,l):=by
 rw[h.2.2.2.2.2,Nat.sub_self]
 simp[Bn,a2d]
theorem Fz.empty (h:Fz pv kind N l0 k K Vs last []) (hk:k<N):Bn pv kind N none l0=none:=by
 rw[h.2.2.2.2.2,show N-k=(N-k-1)+1 from by omega]
 simp[Bn]
theorem Fz.bad {c:CellD}(h:Fz pv kind N l0 k K Vs last (c::l)) (hk:k<N) (hb:B6 kind last c.key=true):Bn pv kind N none l0=none:=by
 rw[h.2.2.2.2.2,show N-k=(N-k-1)+1 from by omega]
 simp[Bn,hb]
theorem Fz.kid {c:CellD}(h:Fz pv kind N l0 k K Vs last (c::l)) (hk:k<N) (hb:pv (c::l)=none):Bn pv kind N none l0=none:=by
 rw[h.2.2.2.2.2,show N-k=(N-k-1)+1 from by omega]
 simp[Bn,hb]
theorem Fz.step {c:CellD}{v:V}{r:List CellD}(h:Fz pv kind N l0 k K Vs last (c::l)) (hk:k<N) (hb:B6 kind last c.key=false) (hv:pv (c::l)=some (v,r)) :
  Fz pv kind N l0 (k+1) (if kind=6 then K++[c.key] else K) (Vs++[v]) (some c.key) r:=by
 obtain⟨h1,h2,h3,h4,h5,h6⟩:=h
 refine⟨by omega,by simp[h2],fun hq=>by simp[hq,h3 hq],fun hq=>by simp[hq,h4 hq],fun hq=>by simp[hq],?_⟩
 rw[h6,show N-k=(N-(k+1))+1 from by omega]
 simp only[Bn,hb,hv,Bool.false_eq_true,if_false,Option.map_map]
 congr 1
 funext x
 by_cases hq:kind=6<;>simp[a2d,hq]
end
theorem BZ (a:List V) (v:V):AW (a++[v])=max (AW a) v.depth:=by
 induction a with
 |nil=>simp[AW]
 |cons x a ih=>simp[AW,ih,Nat.max_assoc]
theorem Ip (a b:List UInt8):(Op.bytesLess a b||(a==b)) = !(Op.bytesLess b a):=by
 induction a generalizing b with
 |nil=>cases b<;>simp[Op.bytesLess]
 |cons x a ih =>
  cases b with
  |nil=>simp[Op.bytesLess]
  |cons y b =>
   have:=ih b
   simp only[Op.bytesLess,List.cons_beq_cons]
   by_cases h1:x<y
   ·have h2:¬y<x:=by simp only[UInt8.lt_iff_toNat_lt]at *;omega
    have h3:(y==x)=false:=by simp;rintro rfl;simp at h1
    simp[h1,h2,h3]
   ·by_cases h2:y<x
    ·have h3:(x==y)=false:=by simp;rintro rfl;simp at h2
     simp[h1,h2,h3]
    ·have h3:x=y:=by apply UInt8.toNat_inj.1;simp only[UInt8.lt_iff_toNat_lt]at *;omega
     subst h3
     simpa [h1] using this
end
section
open Go.RowKit
def JH (n:Nat):Option (V×List CellD)→Int
 |none=>-1
 |some x=>((n-x.2.length:Nat):Int)
def LF:Option (V×List CellD)→Int
 |none=>0
 |some x=>(x.1.depth:Int)
theorem RA {pv:List CellD→Option (V×List CellD)}(hp:∀l t r,pv l=some (t,r)→t.depth+r.length≤l.length) (kind:Int) :
  ∀cnt last l x,Bn pv kind cnt last l=some x→AW x.2.1+x.2.2.length≤l.length:=by
 intro cnt
 induction cnt with
 |zero=>intro last l x h;simp only[Bn,Option.some.injEq]at h;subst h;simp[AW]
 |succ cnt ih =>
  intro last l x h
  cases l with
  |nil=>simp[Bn]at h
  |cons c l =>
   simp only[Bn]at h
   split at h
   ·simp at h
   ·split at h
    ·simp at h
    ·rename_i v r hv
     simp only[Option.map_eq_some_iff]at h
     obtain⟨y,hy,rfl⟩:=h
     have h1:=ih _ _ _ hy
     have h2:=hp _ _ _ hv
     simp only[AW]
     omega
theorem RF:∀m l t r,AJ m l=some (t,r)→t.depth+r.length≤l.length:=by
 intro m
 induction m with
 |zero=>intro l t r h;simp[AJ]at h
 |succ m ih =>
  intro l t r h
  cases l with
  |nil=>simp[AJ]at h
  |cons c l =>
   simp only[AJ,Option.map_eq_some_iff]at h
   obtain⟨x,hx,he⟩:=h
   simp only[Prod.mk.injEq]at he
   have:=RA ih _ _ _ _ _ hx
   obtain⟨rfl,rfl⟩:=he
   simp only[V.depth,List.length_cons]
   omega
theorem MB (m:Nat) (c:CellD) (l:List CellD):AJ (m+1) (c::l)=(Bn (AJ m) c.kind c.n.toNat none l).map fun x=>(.mk c.kind c.num c.text x.1 x.2.1,x.2.2):=rfl
theorem Ka (n:Nat) (t:V) (r:List CellD):JH n (some (t,r))=((n-r.length:Nat):Int):=rfl
theorem Su (t:V) (r:List CellD):LF (some (t,r))=(t.depth:Int):=rfl
theorem EC {m:Nat}{c:CellD}{l:List CellD}(h:Bn (AJ m) c.kind c.n.toNat none l=none):AJ (m+1) (c::l)=none:=by rw[MB,h];rfl
theorem MC {m:Nat}{c:CellD}{l r:List CellD}{K:List ByteArray}{Vs:List V}(h:Bn (AJ m) c.kind c.n.toNat none l=some (K,Vs,r)) :
  AJ (m+1) (c::l)=some (.mk c.kind c.num c.text K Vs,r):=by rw[MB,h];rfl
theorem FS {xs:List CellD}{k:Nat}(h:k<xs.length):xs.drop k=xs[k]::xs.drop (k+1):=List.drop_eq_getElem_cons h
section
variable {pv:List CellD→Option (V×List CellD)} {kind:Int} {N:Nat} {l0:List CellD} {k:Nat} {K:List ByteArray} {Vs:List V} {last:Option ByteArray} {l:List CellD}
theorem Fz.keyOk {lst key:ByteArray}(h:Fz pv kind N l0 k K Vs last l) (hl:kind=6→0<k→K.getLast? = some lst) (h5:kind=5→key.toList=[])
  (h6:kind=6→0<k→Op.bytesLess key.toList lst.toList=false∧(key.toList==lst.toList)=false):B6 kind last key=false:=by
 by_cases e6:kind=6
 ·have hla:=h.2.2.2.2.1 e6
  have hK:=h.2.2.1 e6
  rcases Nat.eq_zero_or_pos k with h0 | h0
  ·have:K=[]:=List.eq_nil_of_length_eq_zero (by omega)
   subst this
   simp at hla
   subst hla
   simp[B6,e6]
  ·rw[hl e6 h0]at hla
   subst hla
   have:=h6 e6 h0
   have h2:=Ip key.toList lst.toList
   rw[this.1,this.2]at h2
   simp at h2
   simp[B6,e6,h2]
 ·by_cases e5:kind=5
  ·simp[B6,e5,h5 e5]
  ·simp[B6,e5,e6]
theorem Fz.keyNo {lst key:ByteArray}(h:Fz pv kind N l0 k K Vs last l) (hl:kind=6→0<k→K.getLast? = some lst)
  (hb:(kind=5∧key.toList≠[])∨(kind=6∧0<k∧(Op.bytesLess key.toList lst.toList=true∨(key.toList==lst.toList)=true))):B6 kind last key=true:=by
 rcases hb with⟨h5,hk⟩ | ⟨h6,h0,hlt⟩
 ·simp[B6,h5,hk]
 ·have hla:=h.2.2.2.2.1 h6
  rw[hl h6 h0]at hla
  subst hla
  have h2:=Ip key.toList lst.toList
  have:(Op.bytesLess key.toList lst.toList||key.toList==lst.toList)=true:=by
   rcases hlt with h | h<;>simp[h]
  rw[this]at h2
  simp at h2
  simp[B6,h6,h2]
theorem Fz.len (h:Fz pv kind N l0 k K Vs last l):K.length=if kind=6 then k else 0:=by
 by_cases e:kind=6
 ·simp[e,h.2.2.1 e]
 ·simp[e,h.2.2.2.1 e]
end
theorem R7 {xs:List CellD}:∀{k:Nat}(hk:k<xs.length),(∀i (hi:i<xs.length),i<k→xs[i].code=0)→xs[k].code≠0→BI xs=xs[k].code:=by
 induction xs with
 |nil=>intro k hk;simp at hk
 |cons c l ih =>
  intro k hk h h0
  cases k with
  |zero=>simp only[List.getElem_cons_zero]at h0 ⊢;simp[BI,h0]
  |succ k =>
   have h1:c.code=0:=h 0 (by simp) (by omega)
   simp only[List.getElem_cons_succ]at h0 ⊢
   simp only[BI,h1]
   exact ih (by simpa using hk) (fun i hi hik=>h (i+1) (by simpa using hi) (by omega)) h0
theorem GQ {xs:List CellD}:(∀i (hi:i<xs.length),xs[i].code=0)→BI xs=0:=by
 induction xs with
 |nil=>intro _;rfl
 |cons c l ih =>
  intro h
  have h1:c.code=0:=h 0 (by simp)
  simp only[BI,h1]
  exact ih fun i hi=>h (i+1) (by simpa using hi)
theorem Ge {xs:List CellD}:BI xs=0→∀c∈xs,c.code=0:=by
 induction xs with
 |nil=>intro _ c hc;simp at hc
 |cons c l ih =>
  intro h d hd
  simp only[BI]at h
  split at h
  ·rename_i h0;exact absurd h h0
  ·rename_i h0
   simp only[List.mem_cons]at hd
   rcases hd with rfl | hd
   ·simpa using h0
   ·exact ih h d hd
theorem QG {c:CellD}(h:c.code=0):0≤c.n∧c.n≤200:=by
 unfold CellD.code AS at h
 have hr:cR c.num c.n=false:=by
  cases hh:cR c.num c.n
  ·rfl
  ·rw[hh]at h
   split at h
   ·omega
   ·split at h
    ·omega
    ·simp at h
 simp[cR,inB]at hr
 omega
theorem Jb {c:CellD}(h:c.code=0):Bi c.text=true∧Bi c.key=true:=by
 unfold CellD.code AS at h
 have hr:cT c.text c.key=false:=by
  cases hh:cT c.text c.key
  ·rfl
  ·rw[hh]at h
   split at h
   ·omega
   ·split at h
    ·omega
    ·split at h
     ·omega
     ·simp at h
 simpa [cT] using hr
theorem Nn {xs:List CellD}(h:xs.length<1∨200<xs.length):dec xs=(2,none):=by
 unfold dec;rw[if_pos (by omega)]
theorem St {xs:List CellD}(h:1≤xs.length) (h2:xs.length≤200) {k:Nat}(hk:k<xs.length) (h3:∀i (hi:i<xs.length),i<k→xs[i].code=0) (h4:xs[k].code≠0):dec xs=(xs[k].code,none):=by
 unfold dec;rw[if_neg (by omega),R7 hk h3 h4,if_pos h4]
def Ss (xs:List CellD):Int×Option V :=
 match AJ xs.length xs with
 |some (t,[])=>if !((xs.headD ⟨0,0,ByteArray.empty,ByteArray.empty,0⟩).key.toList.isEmpty) then (1,none) else if 20<t.depth then (7,none) else (0,some t)
 |_=>(1,none)
theorem MT {xs:List CellD}(h:1≤xs.length) (h2:xs.length≤200) (h3:BI xs=0):dec xs=Ss xs:=by
 unfold dec;rw[if_neg (by omega),if_neg (by omega)];rfl
theorem ZR {xs:List CellD}(h:0<xs.length):(Ss xs).1 =
  if JH xs.length (AJ xs.length xs)=xs.length then (if !(xs[0].key.toList.isEmpty) then 1 else if 20<LF (AJ xs.length xs) then 7 else 0) else 1:=by
 match xs,h with
 |c::l,h =>
  unfold Ss
  rcases hp:AJ (c::l).length (c::l) with _ | ⟨t,r⟩
  ·simp[JH];omega
  ·cases r with
   |nil =>
    show (if (!c.key.toList.isEmpty)=true then ((1,none):Int×Option V) else if 20<t.depth then (7,none) else (0,some t)).1 =
     if (((c::l).length-0:Nat):Int)=((c::l).length:Nat) then (if (!c.key.toList.isEmpty)=true then (1:Int) else if 20<(t.depth:Int) then 7 else 0) else 1
    rw[if_pos (show (((c::l).length-0:Nat):Int)=((c::l).length:Nat) from rfl)]
    by_cases hk:(!c.key.toList.isEmpty)=true
    ·rw[if_pos hk,if_pos hk]
    ·rw[if_neg hk,if_neg hk]
     by_cases hd:20<t.depth
     ·rw[if_pos hd,if_pos (show (20:Int)<(t.depth:Int) by omega)]
     ·rw[if_neg hd,if_neg (show ¬(20:Int)<(t.depth:Int) by omega)]
   |cons y r =>
    have:¬(JH (c::l).length (some (t,y::r))=((c::l).length:Nat)):=by rw[Ka];simp only[List.length_cons];omega
    exact (if_neg this).symm
theorem VP (m:Nat):AJ m []=none:=by cases m<;>rfl
end
section
open Go.RowKit
theorem Ju {α:Type}{xs:List α}{k:Nat}(h:k<xs.length):xs.take (k+1)=xs.take k++[xs[k]]:=by
 rw[List.take_succ_eq_append_getElem h]
theorem Sy {ks:List V}{k:Nat}(h:k<ks.length):AW (ks.take (k+1))=max (AW (ks.take k)) ks[k].depth:=by
 rw[Ju h,BZ]
theorem K7 {ks:List V}{t:V}(h:t∈ks):t.depth≤AW ks:=by
 induction ks with
 |nil=>simp at h
 |cons x ks ih =>
  simp only[List.mem_cons]at h
  simp only[AW]
  rcases h with rfl | h
  ·omega
  ·have:=ih h;omega
theorem CL {ks:List V}{t:V}(h:t∈ks):t.count≤Aw ks:=by
 induction ks with
 |nil=>simp at h
 |cons x ks ih =>
  simp only[List.mem_cons]at h
  simp only[Aw]
  rcases h with rfl | h
  ·omega
  ·have:=ih h;omega
theorem CI (t:V):0<t.count:=by cases t;simp[V.count]
theorem Bq (ks:List V):ks.length≤Aw ks:=by
 induction ks with
 |nil=>simp[Aw]
 |cons x ks ih=>have:=CI x;simp only[Aw,List.length_cons];omega
theorem AP (t:V):t.count=Aw t.kids+1:=by cases t;rfl
theorem K8 (t:V):t.depth=AW t.kids+1:=by cases t;rfl
mutual
theorem Ns:∀t:V,t.depth≤t.count
 | .mk _ _ _ _ kids=>by simp only[V.depth,V.count];have:=F1 kids;omega
theorem F1:∀ks:List V,AW ks≤Aw ks
 | []=>by simp[AW,Aw]
 |k::ks=>by simp only[AW,Aw];have:=Ns k;have:=F1 ks;omega
end
theorem Nr (ks:List V) (k:Nat):AW (ks.take k)≤AW ks:=by
 induction ks generalizing k with
 |nil=>simp[AW]
 |cons x ks ih =>
  cases k with
  |zero=>simp[AW]
  |succ k=>have:=ih k;simp only[List.take_succ_cons,AW];omega
theorem Rz {pv:List CellD→Option (V×List CellD)}(hp:∀l t r,pv l=some (t,r)→t.count+r.length≤l.length) (kind:Int) :
  ∀cnt last l x,Bn pv kind cnt last l=some x→Aw x.2.1+x.2.2.length≤l.length:=by
 intro cnt
 induction cnt with
 |zero=>intro last l x h;simp only[Bn,Option.some.injEq]at h;subst h;simp[Aw]
 |succ cnt ih =>
  intro last l x h
  cases l with
  |nil=>simp[Bn]at h
  |cons c l =>
   simp only[Bn]at h
   split at h
   ·simp at h
   ·split at h
    ·simp at h
    ·rename_i v r hv
     simp only[Option.map_eq_some_iff]at h
     obtain⟨y,hy,rfl⟩:=h
     have h1:=ih _ _ _ hy
     have h2:=hp _ _ _ hv
     simp only[Aw]
     omega
theorem RD:∀m l t r,AJ m l=some (t,r)→t.count+r.length≤l.length:=by
 intro m
 induction m with
 |zero=>intro l t r h;simp[AJ]at h
 |succ m ih =>
  intro l t r h
  cases l with
  |nil=>simp[AJ]at h
  |cons c l =>
   simp only[AJ,Option.map_eq_some_iff]at h
   obtain⟨x,hx,he⟩:=h
   simp only[Prod.mk.injEq]at he
   have:=Rz ih _ _ _ _ _ hx
   obtain⟨rfl,rfl⟩:=he
   simp only[V.count,List.length_cons]
   omega
theorem ZS {xs:List CellD}{t:V}(h:(dec xs).2=some t):(dec xs).1=0∧1≤xs.length∧xs.length≤200∧BI xs=0∧AJ xs.length xs=some (t,[])∧(xs.headD ⟨0,0,ByteArray.empty,ByteArray.empty,0⟩).key.toList.isEmpty=true∧t.depth≤20:=by
 unfold dec at h ⊢
 split at h
 ·simp at h
 ·split at h
  ·simp at h
  ·rename_i h1 h2
   rw[if_neg h1,if_neg h2]
   split at h
   ·rename_i u hu
    split at h
    ·simp at h
    ·split at h
     ·simp at h
     ·rename_i h3 h4
      rw[hu]
      simp only[Option.some.injEq]at h
      subst h
      simp only[h3,h4]
      simp at h1 h2 h3
      exact⟨by trivial,by omega,by omega,h2,by trivial,by simpa using h3,by omega⟩
   ·simp at h
theorem H4 (xs:List CellD):(∃t,dec xs=(0,some t))∨(∃c,c≠0∧dec xs=(c,none)):=by
 by_cases h1:¬(1≤xs.length∧xs.length≤200)
 ·exact .inr ⟨2,by omega,by unfold dec;rw[if_pos h1]⟩
 ·by_cases h2:BI xs≠0
  ·exact .inr ⟨BI xs,h2,by unfold dec;rw[if_neg h1,if_pos h2]⟩
  ·have h0:dec xs=Ss xs:=by unfold dec;rw[if_neg h1,if_neg h2];rfl
   rw[h0]
   unfold Ss
   rcases AJ xs.length xs with _ | ⟨t,_ | ⟨y,r⟩⟩
   ·exact .inr ⟨1,by omega,rfl⟩
   ·by_cases h3:(!((xs.headD ⟨0,0,ByteArray.empty,ByteArray.empty,0⟩).key.toList.isEmpty))=true
    ·exact .inr ⟨1,by omega,if_pos h3⟩
    ·by_cases h4:20<t.depth
     ·exact .inr ⟨7,by omega,(if_neg h3).trans (if_pos h4)⟩
     ·exact .inl ⟨t,(if_neg h3).trans (if_neg h4)⟩
   ·exact .inr ⟨1,by omega,rfl⟩
def asc:Option ByteArray→List ByteArray→Prop
 |_,[]=>True
 |none,k::ks=>asc (some k) ks
 |some p,k::ks=>Op.bytesLess p.toList k.toList=true∧asc (some k) ks
def EQ (kind:Int) (keys:List ByteArray) (n:Nat):Prop :=
 if kind=6 then keys.length=n∧(∀k∈keys,Bi k=true)∧asc none keys else keys=[]
mutual
def V.wf:V→Prop
 | .mk kind num text keys kids=>AS kind num text ByteArray.empty kids.length=0∧EQ kind keys kids.length∧wfL kids
def wfL:List V→Prop
 | []=>True
 |k::ks=>k.wf∧wfL ks
end
def V.enc (t:V):List CellD:=t.cells ByteArray.empty
theorem Nx {a:ByteArray}(h:a.toList=[]):a=ByteArray.empty:=by
 rw[ByteArray.toList_eq]at h
 cases a with
 |mk d =>
  cases d with
  |mk l=>simp at h;subst h;rfl
theorem BA:Bi ByteArray.empty=true:=by decide +kernel
theorem KD {k m:Int}{t y:ByteArray}{n:Int}(h:AS k m t y n=0):AS k m t ByteArray.empty n=0∧Bi y=true:=by
 unfold AS at h ⊢
 split at h
 ·omega
 ·split at h
  ·omega
  ·split at h
   ·omega
   ·split at h
    ·omega
    ·rename_i h1 h2 h3 h4
     rw[if_neg h1,if_neg h2,if_neg h3]
     simp only[cT,Bool.not_eq_true,Bool.or_eq_false_iff,Bool.not_eq_eq_eq_not]at h4
     simp at h4
     simp[cT,h4.1,BA,h4.2]
theorem G5 {k m:Int}{t y:ByteArray}{n:Int}(h:AS k m t y n=0) (hh:CG k=false):n=0:=by
 unfold AS at h
 split at h
 ·omega
 ·split at h
  ·omega
  ·rename_i h1 h2
   simp only[cF,hh]at h2
   simp at h2
   exact h2.2
theorem Si {k m:Int}{t y:ByteArray}{n:Int}(h:AS k m t ByteArray.empty n=0) (hy:Bi y=true):AS k m t y n=0:=by
 unfold AS at h ⊢
 split at h
 ·omega
 ·split at h
  ·omega
  ·split at h
   ·omega
   ·split at h
    ·omega
    ·rename_i h1 h2 h3 h4
     rw[if_neg h1,if_neg h2,if_neg h3]
     simp[cT,BA]at h4
     simp[cT,h4,hy]
theorem RB {m:Nat}(ih:∀l t r,(∀c∈l,c.code=0)→AJ m l=some (t,r)→t.wf∧∃c l',l=c::l'∧l=t.cells c.key++r) (kind:Int) :
  ∀cnt last l x,(∀c∈l,c.code=0)→(CG kind=false→cnt=0)→Bn (AJ m) kind cnt last l=some x →
   x.2.1.length=cnt∧wfL x.2.1∧l=C2 kind x.1 x.2.1++x.2.2∧(kind=6→x.1.length=cnt∧(∀k∈x.1,Bi k=true)∧asc last x.1)∧(kind≠6→x.1=[]):=by
 intro cnt
 induction cnt with
 |zero =>
  intro last l x hc hh h
  simp only[Bn,Option.some.injEq]at h
  subst h
  exact⟨rfl,trivial,by simp[C2],fun _=>⟨rfl,by simp,by cases last<;>trivial⟩,fun _=>rfl⟩
 |succ cnt ihc =>
  intro last l x hc hh h
  cases l with
  |nil=>simp[Bn]at h
  |cons c l =>
   simp only[Bn]at h
   split at h
   ·simp at h
   ·rename_i hbad
    split at h
    ·simp at h
    ·rename_i v r hv
     simp only[Option.map_eq_some_iff]at h
     obtain⟨y,hy,rfl⟩:=h
     obtain⟨hw,c',l',hcl,hl⟩:=ih _ _ _ hc hv
     simp only[List.cons.injEq]at hcl
     obtain⟨rfl,rfl⟩:=hcl
     have hcr:∀d∈r,d.code=0:=fun d hd=>hc d (by rw[hl];simp[hd])
     obtain⟨g1,g2,g3,g4,g5⟩:=ihc (some c.key) r y hcr (fun h=>by have:=hh h;omega) hy
     have hck:Bi c.key=true:=(KD (hc c (by simp))).2
     by_cases h6:kind=6
     ·subst h6
      obtain⟨g6,g7,g8⟩:=g4 rfl
      refine⟨by simp[g1],⟨hw,g2⟩,?_,fun _=>⟨by simp[g6],?_,?_⟩,fun h=>absurd rfl h⟩
      ·simp only[if_true,C2,List.headD_cons,List.tail_cons]
       rw[hl]
       conv=>lhs;rw[g3]
       simp
      ·intro k hk
       simp only[if_true,List.mem_cons]at hk
       rcases hk with rfl | hk
       ·exact hck
       ·exact g7 k hk
      ·simp only[if_true]
       cases last with
       |none=>exact g8
       |some p =>
        refine⟨?_,g8⟩
        simp[B6]at hbad
        exact hbad
     ·have hk5:kind=5:=by
       cases hh':CG kind
       ·have:=hh hh';omega
       ·simp[CG]at hh';omega
      subst hk5
      have hk0:c.key=ByteArray.empty:=Nx (by simpa [B6] using hbad)
      have g9:=g5 (by omega)
      refine⟨by simp[g1],⟨hw,g2⟩,?_,fun h=>absurd h h6,fun _=>by simp[g9]⟩
      simp only[h6,if_false,C2]
      rw[hl,hk0]
      conv=>lhs;rw[g3]
      simp[g9]
theorem RG:∀m l t r,(∀c∈l,c.code=0)→AJ m l=some (t,r)→t.wf∧∃c l',l=c::l'∧l=t.cells c.key++r:=by
 intro m
 induction m with
 |zero=>intro l t r _ h;simp[AJ]at h
 |succ m ih =>
  intro l t r hc h
  cases l with
  |nil=>simp[AJ]at h
  |cons c l =>
   simp only[AJ,Option.map_eq_some_iff]at h
   obtain⟨x,hx,he⟩:=h
   simp only[Prod.mk.injEq]at he
   obtain⟨rfl,rfl⟩:=he
   have hcode:c.code=0:=hc c (by simp)
   obtain⟨hn0,hn2⟩:=QG hcode
   obtain⟨g1,g2,g3,g4,g5⟩:=RB ih c.kind c.n.toNat none l x (fun d hd=>hc d (by simp[hd])) (fun h=>by rw[G5 hcode h];rfl) hx
   have hnn:((x.2.1.length:Nat):Int)=c.n:=by rw[g1];omega
   refine⟨⟨?_,?_,g2⟩,c,l,rfl,?_⟩
   ·rw[hnn];exact (KD hcode).1
   ·unfold EQ
    split
    ·rename_i h6
     have:=g4 h6
     exact⟨by rw[this.1,g1],this.2⟩
    ·rename_i h6
     exact g5 h6
   ·simp only[V.cells,List.cons_append,hnn]
    rw[←g3]
mutual
theorem Ic:∀(t:V) (key:ByteArray) (r:List CellD) (m:Nat),t.wf→t.count≤m→AJ m (t.cells key++r)=some (t,r)
 | .mk kind num text keys kids,key,r,m,hw,hm=>by
  simp only[V.wf]at hw
  obtain⟨h1,h2,h3⟩:=hw
  simp only[V.count]at hm
  obtain⟨m,rfl⟩:∃m',m=m'+1:=⟨m-1,by omega⟩
  have hkk:CG kind=false→kids=[]:=fun h=>by
   have:=G5 h1 h
   exact List.eq_nil_of_length_eq_zero (by omega)
  simp only[V.cells,List.cons_append,AJ,Int.toNat_natCast]
  rw[Lp kids kind keys none r m h3 (by omega) ?_ ?_ hkk]
  ·rfl
  ·intro h6
   simp only[EQ,h6,if_true]at h2
   exact⟨h2.1,h2.2.2⟩
  ·intro h6
   simp only[EQ,h6,if_false]at h2
   exact h2
theorem Lp:∀(kids:List V) (kind:Int) (keys:List ByteArray) (last:Option ByteArray) (r:List CellD) (m:Nat),wfL kids→Aw kids≤m→(kind=6→keys.length=kids.length∧asc last keys)→(kind≠6→keys=[]) →
  (CG kind=false→kids=[])→Bn (AJ m) kind kids.length last (C2 kind keys kids++r)=some (keys,kids,r)
 | [],kind,keys,last,r,m,hw,hm,h6,h5,hh=>by
  have:keys=[]:=by
   by_cases h:kind=6
   ·exact List.eq_nil_of_length_eq_zero (by simpa using (h6 h).1)
   ·exact h5 h
  subst this
  simp[Bn,C2]
 |k::ks,kind,keys,last,r,m,hw,hm,h6,h5,hh=>by
  simp only[wfL]at hw
  simp only[Aw]at hm
  have hp:=Ic k (if kind=6 then keys.headD ByteArray.empty else ByteArray.empty) (C2 kind keys.tail ks++r) m hw.1 (by omega)
  have hk:=Lp ks kind keys.tail (some (if kind=6 then keys.headD ByteArray.empty else ByteArray.empty)) r m hw.2 (by omega) ?_ ?_ (fun h=>absurd (hh h) (by simp))
  ·obtain⟨kk,kn,kt,kks,kkids⟩:=k
   simp only[V.cells,List.cons_append]at hp
   simp only[List.length_cons,C2,V.cells,List.cons_append,List.append_assoc,Bn]
   have hb:B6 kind last (if kind=6 then keys.headD ByteArray.empty else ByteArray.empty)=false:=by
    by_cases h:kind=6
    ·obtain⟨g1,g2⟩:=h6 h
     cases keys with
     |nil=>simp at g1
     |cons y ys =>
      cases last with
      |none=>simp[B6,h]
      |some p=>simp only[asc]at g2;simp[B6,h,g2.1]
    ·simp[B6,h]
   rw[if_neg (by rw[hb];simp),hp]
   simp only[hk,Option.map_some]
   by_cases h:kind=6
   ·obtain⟨g1,g2⟩:=h6 h
    cases keys with
    |nil=>simp at g1
    |cons y ys=>simp[h]
   ·simp[h,h5 h]
  ·intro h
   obtain⟨g1,g2⟩:=h6 h
   cases keys with
   |nil=>simp at g1
   |cons y ys =>
    refine⟨by simpa using g1,?_⟩
    simp only[h,if_true,List.headD_cons,List.tail_cons]
    cases last with
    |none=>exact g2
    |some p=>exact g2.2
  ·intro h
   simp[h5 h]
end
mutual
theorem Cb:∀(t:V) (key:ByteArray),(t.cells key).length=t.count
 | .mk kind num text keys kids,key=>by simp only[V.cells,V.count,List.length_cons];rw[N9 kids]
theorem N9:∀(kids:List V) (kind:Int) (keys:List ByteArray),(C2 kind keys kids).length=Aw kids
 | [],_,_=>rfl
 |k::ks,kind,keys=>by simp only[C2,Aw,List.length_append];rw[Cb k,N9 ks]
end
theorem CY (t:V):t.enc.length=t.count:=Cb t _
theorem Dk (t:V) (key:ByteArray):t.cells key=⟨t.kind,t.num,t.text,key,t.kids.length⟩::C2 t.kind t.keys t.kids:=by cases t;rfl
mutual
theorem Fp:∀(t:V) (key:ByteArray),t.wf→Bi key=true→∀c∈t.cells key,c.code=0
 | .mk kind num text keys kids,key,hw,hk=>by
  simp only[V.wf]at hw
  obtain⟨h1,h2,h3⟩:=hw
  intro c hc
  simp only[V.cells,List.mem_cons]at hc
  rcases hc with rfl | hc
  ·exact Si h1 hk
  ·refine KE kids kind keys h3 ?_ c hc
   intro k hkk
   unfold EQ at h2
   split at h2
   ·exact h2.2.1 k hkk
   ·subst h2;simp at hkk
theorem KE:∀(kids:List V) (kind:Int) (keys:List ByteArray),wfL kids→(∀k∈keys,Bi k=true)→∀c∈C2 kind keys kids,c.code=0
 | [],_,_,_,_=>by simp[C2]
 |k::ks,kind,keys,hw,hk=>by
  simp only[wfL]at hw
  intro c hc
  simp only[C2,List.mem_append]at hc
  rcases hc with hc | hc
  ·refine Fp k _ hw.1 ?_ c hc
   split
   ·cases keys with
    |nil=>exact BA
    |cons y ys=>exact hk y (by simp)
   ·exact BA
  ·exact KE ks kind keys.tail hw.2 (fun k hkk=>hk k (List.mem_of_mem_tail hkk)) c hc
end
theorem Uz {xs:List CellD}{t:V}(h:dec xs=(0,some t)):xs=t.enc∧t.wf∧t.count≤200∧t.depth≤20:=by
 have hs:=ZS (xs:=xs) (t:=t) (by rw[h])
 obtain⟨_,h1,h2,h3,h4,h5,h6⟩:=hs
 obtain⟨hw,c,l',rfl,hl⟩:=RG _ _ _ _ (Ge h3) h4
 simp only[List.append_nil]at hl
 have hk:c.key=ByteArray.empty:=Nx (by simpa using h5)
 rw[hk]at hl
 refine⟨hl,hw,?_,h6⟩
 have:=Cb t ByteArray.empty
 rw[←hl]at this
 omega
theorem WE {t:V}(hw:t.wf) (hc:t.count≤200) (hd:t.depth≤20):dec t.enc=(0,some t):=by
 have hl:=CY t
 have hp:=CI t
 have hpar:=Ic t ByteArray.empty [] t.enc.length hw (by omega)
 rw[List.append_nil]at hpar
 have hf:BI t.enc=0:=by
  refine GQ fun i hi=>?_
  exact Fp t _ hw BA _ (List.getElem_mem hi)
 rw[MT (by omega) (by omega) hf]
 unfold Ss
 rw[show AJ t.enc.length t.enc=some (t,[]) from hpar]
 have:(t.enc.headD ⟨0,0,ByteArray.empty,ByteArray.empty,0⟩).key=ByteArray.empty:=by
  unfold V.enc;rw[Dk];rfl
 show (if (!((t.enc.headD ⟨0,0,ByteArray.empty,ByteArray.empty,0⟩).key.toList.isEmpty))=true then ((1,none):Int×Option V) else if 20<t.depth then (7,none) else (0,some t))=_
 rw[this,if_neg (by simp),if_neg (by omega)]
def kp (ks:List V) (i:Nat):Nat:=1+Aw (ks.take i)
def V.keyAt (t:V) (i:Nat):ByteArray:=if t.kind=6 then (t.keys.drop i).headD ByteArray.empty else ByteArray.empty
theorem M7:∀(kids:List V) (kind:Int) (keys:List ByteArray) (i:Nat),(C2 kind keys kids).drop (Aw (kids.take i))=C2 kind (keys.drop i) (kids.drop i)
 | [],kind,keys,i=>by simp[C2]
 |k::ks,kind,keys,0=>by simp[Aw]
 |k::ks,kind,keys,i+1=>by
  simp only[List.take_succ_cons,Aw,C2,List.drop_succ_cons]
  have hl:=Cb k (if kind=6 then keys.headD ByteArray.empty else ByteArray.empty)
  generalize V.cells (if kind=6 then keys.headD ByteArray.empty else ByteArray.empty) k=kc at *
  rw[←List.drop_drop,show (kc++C2 kind keys.tail ks).drop k.count=C2 kind keys.tail ks by rw[←hl];simp,M7 ks kind keys.tail i,List.drop_tail]
theorem SC (t:V) (i:Nat):t.enc.drop (kp t.kids i)=C2 t.kind (t.keys.drop i) (t.kids.drop i):=by
 unfold V.enc kp
 rw[Dk,Nat.add_comm,List.drop_succ_cons,M7]
theorem QT (t:V) {i:Nat}(h:i<t.kids.length):t.enc.drop (kp t.kids i)=t.kids[i].cells (t.keyAt i)++t.enc.drop (kp t.kids (i+1)):=by
 rw[SC,SC,List.drop_eq_getElem_cons h]
 simp only[C2,List.tail_drop]
 rfl
theorem EL (ks:List V) (i:Nat):Aw (ks.take i)≤Aw ks:=by
 induction ks generalizing i with
 |nil=>simp[Aw]
 |cons k ks ih=>cases i with
  |zero=>simp[Aw]
  |succ i=>have:=ih i;simp only[List.take_succ_cons,Aw];omega
theorem II (a:List V) (v:V):Aw (a++[v])=Aw a+v.count:=by
 induction a with
 |nil=>simp[Aw]
 |cons x a ih=>simp[Aw,ih];omega
theorem WL (ks:List V) {i:Nat}(h:i<ks.length):kp ks (i+1)=kp ks i+ks[i].count:=by
 unfold kp;rw[Ju h,II];omega
theorem JM (t:V) (i:Nat):kp t.kids i≤t.count:=by
 have:=EL t.kids i;have:=AP t;unfold kp;omega
theorem Xe {t:V}(h:t.wf):wfL t.kids:=by cases t;simp only[V.wf]at h;exact h.2.2
theorem S7:∀{ks:List V},wfL ks→∀k∈ks,k.wf
 | [],_=>by simp
 |k::ks,h=>by
  simp only[wfL]at h
  intro x hx
  simp only[List.mem_cons]at hx
  rcases hx with rfl | hx
  ·exact h.1
  ·exact S7 h.2 x hx
theorem a5n {t:V}(h:t.wf) {i:Nat}(hi:i<t.kids.length):t.kids[i].wf:=S7 (Xe h) _ (List.getElem_mem hi)
theorem YL {t:V}(hw:t.wf) {i:Nat}(h:i<t.kids.length) {m:Nat}(hm:t.count≤m):AJ m (t.enc.drop (kp t.kids i))=some (t.kids[i],t.enc.drop (kp t.kids (i+1))):=by
 rw[QT t h]
 have:=CL (List.getElem_mem h)
 have:=AP t
 exact Ic _ _ _ _ (a5n hw h) (by omega)
theorem QU {t:V}(hw:t.wf) {i:Nat}(h:i<t.kids.length) {m:Nat}(hm:t.count≤m):JH t.enc.length (AJ m (t.enc.drop (kp t.kids i)))=(kp t.kids (i+1):Nat):=by
 rw[YL hw h hm,Ka,List.length_drop,CY]
 have:=JM t (i+1)
 omega
theorem ZU {t:V}(hw:t.wf):∀c∈t.enc,c.n≤200:=fun c hc=>(QG (Fp t _ hw BA c hc)).2
theorem ZV (t:V) (h:0<t.enc.length):t.enc[0]=⟨t.kind,t.num,t.text,ByteArray.empty,t.kids.length⟩:=by
 have:=Dk t ByteArray.empty
 simp only[V.enc,this,List.getElem_cons_zero]
theorem M8 {t:V}{i:Nat}(h:i<t.kids.length):(t.enc.drop (kp t.kids i)).take t.kids[i].count=t.kids[i].cells (t.keyAt i):=by
 rw[QT t h,List.take_append_of_le_length (by rw[Cb];omega),List.take_of_length_le (by rw[Cb];omega)]
theorem BH {t:V}(h:t.count≤200):t.kids.length≤200:=by have:=Bq t.kids;have:=AP t;omega
mutual
def V.neat:V→Prop
 | .mk kind _ _ keys kids=>(CG kind=false→kids=[])∧(kind=6→keys.length=kids.length)∧Q0 kids
def Q0:List V→Prop
 | []=>True
 |k::ks=>k.neat∧Q0 ks
end
mutual
theorem Rt:∀(t:V),t.wf→t.neat
 | .mk kind num text keys kids,h=>by
  simp only[V.wf]at h
  obtain⟨h1,h2,h3⟩:=h
  refine⟨fun hh=>?_,fun h6=>?_,Ts kids h3⟩
  ·have:=G5 h1 hh
   exact List.eq_nil_of_length_eq_zero (by omega)
  ·simp only[EQ,h6,if_true]at h2
   exact h2.1
theorem Ts:∀(ks:List V),wfL ks→Q0 ks
 | [],_=>trivial
 |k::ks,h=>by simp only[wfL]at h;exact⟨Rt k h.1,Ts ks h.2⟩
end
theorem VG {t:V}(h:t.neat):CG t.kind=false→t.kids=[]:=by cases t;exact h.1
theorem Q2 {t:V}(h:t.neat):t.kind=6→t.keys.length=t.kids.length:=by cases t;exact h.2.1
theorem YA {t:V}(h:t.neat):Q0 t.kids:=by cases t;exact h.2.2
theorem Q1:∀{ks:List V},Q0 ks→∀k∈ks,k.neat
 | [],_=>by simp
 |k::ks,h=>by
  intro x hx
  simp only[List.mem_cons]at hx
  rcases hx with rfl | hx
  ·exact h.1
  ·exact Q1 h.2 x hx
theorem PS {t:V}(h:t.neat) (h6:t.kind=6) {i:Nat}(hi:i<t.kids.length):∃hk:i<t.keys.length,t.keyAt i=t.keys[i]:=by
 have:=Q2 h h6
 refine⟨by omega,?_⟩
 unfold V.keyAt
 rw[if_pos h6,List.drop_eq_getElem_cons (by omega)]
 rfl
theorem NQ {t:V}(h6:t.kind≠6) (i:Nat):t.keyAt i=ByteArray.empty:=by unfold V.keyAt;rw[if_neg h6]
theorem GP (t:V) {i:Nat}(h:i<t.kids.length):t.enc.take (kp t.kids (i+1))=t.enc.take (kp t.kids i)++t.kids[i].cells (t.keyAt i):=by
 rw[WL _ h,List.take_add]
 congr 1
 rw[M8 h]
theorem HX (t:V):t.enc.take (kp t.kids 0)=[⟨t.kind,t.num,t.text,ByteArray.empty,t.kids.length⟩]:=by
 unfold V.enc kp
 rw[Dk]
 simp[Aw]
theorem HS (t:V):t.enc.take (kp t.kids t.kids.length)=t.enc:=by
 apply List.take_of_length_le
 rw[CY,AP]
 unfold kp
 rw[List.take_length]
 omega
theorem HW (t:V) (i:Nat):(t.enc.take (kp t.kids i)).length=kp t.kids i:=by
 rw[List.length_take,CY];have:=JM t i;omega
def C6 (n:Int):V:=.mk 3 n ByteArray.empty [] []
def D9 (s:ByteArray):V:=.mk 4 0 s [] []
def AY (ks:List V):V:=.mk 5 0 ByteArray.empty [] ks
def BD:V:=.mk 0 0 ByteArray.empty [] []
end
end Go.Proofs.YtcejfdfmgmcinaaGreat
