/- Texts of this proof: M01 M02 M03 M04 M05 M06 M07. -/
import Derived.WalkKit
import Derived.Lib.Hide
set_option linter.all false
namespace Go.Proofs.YtcejfdfmgmcinaaGreat
section
open Go.RowKit
def inB (v lo hi:Int):Bool:=decide (lo≤v)&&decide (v≤hi)
def FI (c:UInt8):Bool:=decide (32≤c.toNat)&&decide (c.toNat≤126)
def Br (s:ByteArray):Bool:=decide (s.size≤60)&&s.data.toList.all FI
structure CellD where
 kind:Int
 num:Int
 text:ByteArray
 key:ByteArray
 n:Int
def vals (c:CellD):List Value:=[.int .i64 c.kind,.int .i64 c.num,.string c.text,.string c.key,.int .i64 c.n]
def Cp (k:Int):Bool:=k==5||k==6
def cF (k m:Int) (t:ByteArray) (n:Int):Bool:=(m != 0&&k != 3)||(!(t.toList.isEmpty)&&k != 4)||(n != 0&&!(Cp k))
def cR (m n:Int):Bool:=!(inB m (-1000000000000000) 1000000000000000)||!(inB n 0 200)
def cT (t y:ByteArray):Bool:=!(Br t)||!(Br y)
def AP (k m:Int) (t y:ByteArray) (n:Int):Int:=if !(inB k 0 6) then 6 else if cF k m t n then 1 else if cR m n then 3 else if cT t y then 5 else 0
def CellD.code (c:CellD):Int:=AP c.kind c.num c.text c.key c.n
inductive V where
 |mk (kind num:Int) (text:ByteArray) (keys:List ByteArray) (kids:List V)
mutual
def V.depth:V→Nat
 | .mk _ _ _ _ kids=>AS kids+1
def AS:List V→Nat
 | []=>0
 |k::ks=>max k.depth (AS ks)
end
mutual
def V.count:V→Nat
 | .mk _ _ _ _ kids=>Am kids+1
def Am:List V→Nat
 | []=>0
 |k::ks=>k.count+Am ks
end
def V.kind:V→Int | .mk k _ _ _ _=>k
def V.num:V→Int | .mk _ n _ _ _=>n
def V.text:V→ByteArray | .mk _ _ t _ _=>t
def V.keys:V→List ByteArray | .mk _ _ _ k _=>k
def V.kids:V→List V | .mk _ _ _ _ k=>k
mutual
def V.cells (key:ByteArray):V→List CellD
 | .mk kind num text keys kids=>⟨kind,num,text,key,kids.length⟩::BP kind keys kids
def BP (kind:Int) (keys:List ByteArray):List V→List CellD
 | []=>[]
 |k::ks=>k.cells (if kind=6 then keys.headD ByteArray.empty else ByteArray.empty)++BP kind keys.tail ks
end
def B1 (kind:Int) (last:Option ByteArray) (key:ByteArray):Bool :=
 (kind==5&&!(key.toList.isEmpty))||(kind==6&&match last with | none=>false | some p=>!(Op.bytesLess p.toList key.toList))
def Be (pv:List CellD→Option (V×List CellD)) (kind:Int):Nat→Option ByteArray→List CellD→Option (List ByteArray×List V×List CellD)
 | 0,_,l=>some ([],[],l)
 |_+1,_,[]=>none
 |cnt+1,last,c::l =>
  if B1 kind last c.key then none else
  match pv (c::l) with
  |none=>none
  |some (v,r)=>(Be pv kind cnt (some c.key) r).map fun x=>((if kind=6 then c.key::x.1 else x.1),v::x.2.1,x.2.2)
def AH:Nat→List CellD→Option (V×List CellD)
 | 0,_=>none
 |_+1,[]=>none
 |m+1,c::l=>(Be (AH m) c.kind c.n.toNat none l).map fun x=>(.mk c.kind c.num c.text x.1 x.2.1,x.2.2)
def Bu:List CellD→Int
 | []=>0
 |c::l=>if c.code≠0 then c.code else Bu l
def dec (xs:List CellD):Int×Option V :=
 if ¬(1≤xs.length∧xs.length≤200) then (2,none) else
 if Bu xs≠0 then (Bu xs,none) else
 match AH xs.length xs with
 |some (t,[])=>if !((xs.headD ⟨0,0,ByteArray.empty,ByteArray.empty,0⟩).key.toList.isEmpty) then (1,none) else if 20<t.depth then (7,none) else (0,some t)
 |_=>(1,none)
theorem NS {pv:List CellD→Option (V×List CellD)}(hp:∀l t r,pv l=some (t,r)→r <:+ l) (kind:Int) :
  ∀cnt last l x,Be pv kind cnt last l=some x→x.2.2 <:+ l:=by
 intro cnt
 induction cnt with
 |zero=>intro last l x h;simp only[Be,Option.some.injEq]at h;subst h;exact List.suffix_refl _
 |succ cnt ih =>
  intro last l x h
  cases l with
  |nil=>simp[Be]at h
  |cons c l =>
   simp only[Be]at h
   split at h
   ·simp at h
   ·split at h
    ·simp at h
    ·rename_i v r hv
     simp only[Option.map_eq_some_iff]at h
     obtain⟨y,hy,rfl⟩:=h
     exact (ih _ _ _ hy).trans (hp _ _ _ hv)
theorem DK:∀m l t r,AH m l=some (t,r)→r <:+ l∧r.length<l.length:=by
 intro m
 induction m with
 |zero=>intro l t r h;simp[AH]at h
 |succ m ih =>
  intro l t r h
  cases l with
  |nil=>simp[AH]at h
  |cons c l =>
   simp only[AH,Option.map_eq_some_iff]at h
   obtain⟨x,hx,he⟩:=h
   simp only[Prod.mk.injEq]at he
   have:=NS (fun l t r h=>(ih l t r h).1) _ _ _ _ _ hx
   rw[he.2]at this
   exact⟨this.trans (List.suffix_cons _ _),by have:=this.length_le;simp;omega⟩
theorem Lr {xs r:List CellD}(h:r <:+ xs):r=xs.drop (xs.length-r.length):=by
 obtain⟨p,rfl⟩:=h
 simp
def ZO (K:List ByteArray) (Vs:List V) (x:List ByteArray×List V×List CellD):List ByteArray×List V×List CellD:=(K++x.1,Vs++x.2.1,x.2.2)
def EU (pv:List CellD→Option (V×List CellD)) (kind:Int) (N:Nat) (l0:List CellD) (k:Nat) (K:List ByteArray) (Vs:List V) (last:Option ByteArray) (l:List CellD):Prop :=
 k≤N∧Vs.length=k∧(kind=6→K.length=k)∧(kind≠6→K=[])∧(kind=6→last=K.getLast?)∧Be pv kind N none l0=(Be pv kind (N-k) last l).map (ZO K Vs)
section
variable {pv:List CellD→Option (V×List CellD)} {kind:Int} {N:Nat} {l0:List CellD} {k:Nat} {K:List ByteArray} {Vs:List V} {last:Option ByteArray} {l:List CellD}
theorem EU.start:EU pv kind N l0 0 [] [] none l0 :=
 ⟨Nat.zero_le _,rfl,fun _=>rfl,fun _=>rfl,fun _=>rfl,by
  rw[Nat.sub_zero]
  cases Be pv kind N none l0<;>simp[ZO]⟩
theorem EU.done (h:EU pv kind N l0 N K Vs last l):Be pv kind N none l0=some (K,Vs,l):=by
 rw[h.2.2.2.2.2,Nat.sub_self]
 simp[Be,ZO]
theorem EU.empty (h:EU pv kind N l0 k K Vs last []) (hk:k<N):Be pv kind N none l0=none:=by
 rw[h.2.2.2.2.2,show N-k=(N-k-1)+1 from by omega]
 simp[Be]
theorem EU.bad {c:CellD}(h:EU pv kind N l0 k K Vs last (c::l)) (hk:k<N) (hb:B1 kind last c.key=true):Be pv kind N none l0=none:=by
 rw[h.2.2.2.2.2,show N-k=(N-k-1)+1 from by omega]
 simp[Be,hb]
theorem EU.kid {c:CellD}(h:EU pv kind N l0 k K Vs last (c::l)) (hk:k<N) (hb:pv (c::l)=none):Be pv kind N none l0=none:=by
 rw[h.2.2.2.2.2,show N-k=(N-k-1)+1 from by omega]
 simp[Be,hb]
theorem EU.step {c:CellD}{v:V}{r:List CellD}(h:EU pv kind N l0 k K Vs last (c::l)) (hk:k<N) (hb:B1 kind last c.key=false) (hv:pv (c::l)=some (v,r)) :
  EU pv kind N l0 (k+1) (if kind=6 then K++[c.key] else K) (Vs++[v]) (some c.key) r:=by
 obtain⟨h1,h2,h3,h4,h5,h6⟩:=h
 refine⟨by omega,by simp[h2],fun hq=>by simp[hq,h3 hq],fun hq=>by simp[hq,h4 hq],fun hq=>by simp[hq],?_⟩
 rw[h6,show N-k=(N-(k+1))+1 from by omega]
 simp only[Be,hb,hv,Bool.false_eq_true,if_false,Option.map_map]
 congr 1
 funext x
 by_cases hq:kind=6<;>simp[ZO,hq]
end
theorem BM (a:List V) (v:V):AS (a++[v])=max (AS a) v.depth:=by
 induction a with
 |nil=>simp[AS]
 |cons x a ih=>simp[AS,ih,Nat.max_assoc]
theorem Hj (a b:List UInt8):(Op.bytesLess a b||(a==b)) = !(Op.bytesLess b a):=by
 induction a generalizing b with
 |nil=>cases b<;>simp[Op.bytesLess]
 |cons x a ih =>
  cases b with
  |nil=>simp[Op.bytesLess]
  |cons y b =>
   have:=ih b
   simp only[Op.bytesLess,List.cons_beq_cons]
   by_cases h1:x<y
   ·have h2:¬y<x:=by simp only[UInt8.lt_iff_toNat_lt]at *;omega
    have h3:(y==x)=false:=by simp;rintro rfl;simp at h1
    simp[h1,h2,h3]
   ·by_cases h2:y<x
    ·have h3:(x==y)=false:=by simp;rintro rfl;simp at h2
     simp[h1,h2,h3]
    ·have h3:x=y:=by apply UInt8.toNat_inj.1;simp only[UInt8.lt_iff_toNat_lt]at *;omega
     subst h3
     simpa [h1] using this
end
section
open Go.RowKit
def IN (n:Nat):Option (V×List CellD)→Int
 |none=>-1
 |some x=>((n-x.2.length:Nat):Int)
def Kr:Option (V×List CellD)→Int
 |none=>0
 |some x=>(x.1.depth:Int)
theorem Qa {pv:List CellD→Option (V×List CellD)}(hp:∀l t r,pv l=some (t,r)→t.depth+r.length≤l.length) (kind:Int) :
  ∀cnt last l x,Be pv kind cnt last l=some x→AS x.2.1+x.2.2.length≤l.length:=by
 intro cnt
 induction cnt with
 |zero=>intro last l x h;simp only[Be,Option.some.injEq]at h;subst h;simp[AS]
 |succ cnt ih =>
  intro last l x h
  cases l with
  |nil=>simp[Be]at h
  |cons c l =>
   simp only[Be]at h
   split at h
   ·simp at h
   ·split at h
    ·simp at h
    ·rename_i v r hv
     simp only[Option.map_eq_some_iff]at h
     obtain⟨y,hy,rfl⟩:=h
     have h1:=ih _ _ _ hy
     have h2:=hp _ _ _ hv
     simp only[AS]
     omega
theorem Qd:∀m l t r,AH m l=some (t,r)→t.depth+r.length≤l.length:=by
 intro m
 induction m with
 |zero=>intro l t r h;simp[AH]at h
 |succ m ih =>
  intro l t r h
  cases l with
  |nil=>simp[AH]at h
  |cons c l =>
   simp only[AH,Option.map_eq_some_iff]at h
   obtain⟨x,hx,he⟩:=h
   simp only[Prod.mk.injEq]at he
   have:=Qa ih _ _ _ _ _ hx
   obtain⟨rfl,rfl⟩:=he
   simp only[V.depth,List.length_cons]
   omega
theorem Lm (m:Nat) (c:CellD) (l:List CellD):AH (m+1) (c::l)=(Be (AH m) c.kind c.n.toNat none l).map fun x=>(.mk c.kind c.num c.text x.1 x.2.1,x.2.2):=rfl
theorem Jd (n:Nat) (t:V) (r:List CellD):IN n (some (t,r))=((n-r.length:Nat):Int):=rfl
theorem QZ (t:V) (r:List CellD):Kr (some (t,r))=(t.depth:Int):=rfl
theorem E0 {m:Nat}{c:CellD}{l:List CellD}(h:Be (AH m) c.kind c.n.toNat none l=none):AH (m+1) (c::l)=none:=by rw[Lm,h];rfl
theorem Ln {m:Nat}{c:CellD}{l r:List CellD}{K:List ByteArray}{Vs:List V}(h:Be (AH m) c.kind c.n.toNat none l=some (K,Vs,r)) :
  AH (m+1) (c::l)=some (.mk c.kind c.num c.text K Vs,r):=by rw[Lm,h];rfl
theorem F9 {xs:List CellD}{k:Nat}(h:k<xs.length):xs.drop k=xs[k]::xs.drop (k+1):=List.drop_eq_getElem_cons h
section
variable {pv:List CellD→Option (V×List CellD)} {kind:Int} {N:Nat} {l0:List CellD} {k:Nat} {K:List ByteArray} {Vs:List V} {last:Option ByteArray} {l:List CellD}
theorem EU.keyOk {lst key:ByteArray}(h:EU pv kind N l0 k K Vs last l) (hl:kind=6→0<k→K.getLast? = some lst) (h5:kind=5→key.toList=[])
  (h6:kind=6→0<k→Op.bytesLess key.toList lst.toList=false∧(key.toList==lst.toList)=false):B1 kind last key=false:=by
 by_cases e6:kind=6
 ·have hla:=h.2.2.2.2.1 e6
  have hK:=h.2.2.1 e6
  rcases Nat.eq_zero_or_pos k with h0 | h0
  ·have:K=[]:=List.eq_nil_of_length_eq_zero (by omega)
   subst this
   simp at hla
   subst hla
   simp[B1,e6]
  ·rw[hl e6 h0]at hla
   subst hla
   have:=h6 e6 h0
   have h2:=Hj key.toList lst.toList
   rw[this.1,this.2]at h2
   simp at h2
   simp[B1,e6,h2]
 ·by_cases e5:kind=5
  ·simp[B1,e5,h5 e5]
  ·simp[B1,e5,e6]
theorem EU.keyNo {lst key:ByteArray}(h:EU pv kind N l0 k K Vs last l) (hl:kind=6→0<k→K.getLast? = some lst)
  (hb:(kind=5∧key.toList≠[])∨(kind=6∧0<k∧(Op.bytesLess key.toList lst.toList=true∨(key.toList==lst.toList)=true))):B1 kind last key=true:=by
 rcases hb with⟨h5,hk⟩ | ⟨h6,h0,hlt⟩
 ·simp[B1,h5,hk]
 ·have hla:=h.2.2.2.2.1 h6
  rw[hl h6 h0]at hla
  subst hla
  have h2:=Hj key.toList lst.toList
  have:(Op.bytesLess key.toList lst.toList||key.toList==lst.toList)=true:=by
   rcases hlt with h | h<;>simp[h]
  rw[this]at h2
  simp at h2
  simp[B1,h6,h2]
theorem EU.len (h:EU pv kind N l0 k K Vs last l):K.length=if kind=6 then k else 0:=by
 by_cases e:kind=6
 ·simp[e,h.2.2.1 e]
 ·simp[e,h.2.2.2.1 e]
end
theorem PI {xs:List CellD}:∀{k:Nat}(hk:k<xs.length),(∀i (hi:i<xs.length),i<k→xs[i].code=0)→xs[k].code≠0→Bu xs=xs[k].code:=by
 induction xs with
 |nil=>intro k hk;simp at hk
 |cons c l ih =>
  intro k hk h h0
  cases k with
  |zero=>simp only[List.getElem_cons_zero]at h0 ⊢;simp[Bu,h0]
  |succ k =>
   have h1:c.code=0:=h 0 (by simp) (by omega)
   simp only[List.getElem_cons_succ]at h0 ⊢
   simp only[Bu,h1]
   exact ih (by simpa using hk) (fun i hi hik=>h (i+1) (by simpa using hi) (by omega)) h0
theorem Gd {xs:List CellD}:(∀i (hi:i<xs.length),xs[i].code=0)→Bu xs=0:=by
 induction xs with
 |nil=>intro _;rfl
 |cons c l ih =>
  intro h
  have h1:c.code=0:=h 0 (by simp)
  simp only[Bu,h1]
  exact ih fun i hi=>h (i+1) (by simpa using hi)
theorem Fx {xs:List CellD}:Bu xs=0→∀c∈xs,c.code=0:=by
 induction xs with
 |nil=>intro _ c hc;simp at hc
 |cons c l ih =>
  intro h d hd
  simp only[Bu]at h
  split at h
  ·rename_i h0;exact absurd h h0
  ·rename_i h0
   simp only[List.mem_cons]at hd
   rcases hd with rfl | hd
   ·simpa using h0
   ·exact ih h d hd
theorem Pt {c:CellD}(h:c.code=0):0≤c.n∧c.n≤200:=by
 unfold CellD.code AP at h
 have hr:cR c.num c.n=false:=by
  cases hh:cR c.num c.n
  ·rfl
  ·rw[hh]at h
   split at h
   ·omega
   ·split at h
    ·omega
    ·simp at h
 simp[cR,inB]at hr
 omega
theorem Ih {c:CellD}(h:c.code=0):Br c.text=true∧Br c.key=true:=by
 unfold CellD.code AP at h
 have hr:cT c.text c.key=false:=by
  cases hh:cT c.text c.key
  ·rfl
  ·rw[hh]at h
   split at h
   ·omega
   ·split at h
    ·omega
    ·split at h
     ·omega
     ·simp at h
 simpa [cT] using hr
theorem Md {xs:List CellD}(h:xs.length<1∨200<xs.length):dec xs=(2,none):=by
 unfold dec;rw[if_pos (by omega)]
theorem QY {xs:List CellD}(h:1≤xs.length) (h2:xs.length≤200) {k:Nat}(hk:k<xs.length) (h3:∀i (hi:i<xs.length),i<k→xs[i].code=0) (h4:xs[k].code≠0):dec xs=(xs[k].code,none):=by
 unfold dec;rw[if_neg (by omega),PI hk h3 h4,if_pos h4]
def QX (xs:List CellD):Int×Option V :=
 match AH xs.length xs with
 |some (t,[])=>if !((xs.headD ⟨0,0,ByteArray.empty,ByteArray.empty,0⟩).key.toList.isEmpty) then (1,none) else if 20<t.depth then (7,none) else (0,some t)
 |_=>(1,none)
theorem LJ {xs:List CellD}(h:1≤xs.length) (h2:xs.length≤200) (h3:Bu xs=0):dec xs=QX xs:=by
 unfold dec;rw[if_neg (by omega),if_neg (by omega)];rfl
theorem Y4 {xs:List CellD}(h:0<xs.length):(QX xs).1 =
  if IN xs.length (AH xs.length xs)=xs.length then (if !(xs[0].key.toList.isEmpty) then 1 else if 20<Kr (AH xs.length xs) then 7 else 0) else 1:=by
 match xs,h with
 |c::l,h =>
  unfold QX
  rcases hp:AH (c::l).length (c::l) with _ | ⟨t,r⟩
  ·simp[IN];omega
  ·cases r with
   |nil =>
    show (if (!c.key.toList.isEmpty)=true then ((1,none):Int×Option V) else if 20<t.depth then (7,none) else (0,some t)).1 =
     if (((c::l).length-0:Nat):Int)=((c::l).length:Nat) then (if (!c.key.toList.isEmpty)=true then (1:Int) else if 20<(t.depth:Int) then 7 else 0) else 1
    rw[if_pos (show (((c::l).length-0:Nat):Int)=((c::l).length:Nat) from rfl)]
    by_cases hk:(!c.key.toList.isEmpty)=true
    ·rw[if_pos hk,if_pos hk]
    ·rw[if_neg hk,if_neg hk]
     by_cases hd:20<t.depth
     ·rw[if_pos hd,if_pos (show (20:Int)<(t.depth:Int) by omega)]
     ·rw[if_neg hd,if_neg (show ¬(20:Int)<(t.depth:Int) by omega)]
   |cons y r =>
    have:¬(IN (c::l).length (some (t,y::r))=((c::l).length:Nat)):=by rw[Jd];simp only[List.length_cons];omega
    exact (if_neg this).symm
theorem Ud (m:Nat):AH m []=none:=by cases m<;>rfl
end
section
open Go.RowKit
theorem IC {α:Type}{xs:List α}{k:Nat}(h:k<xs.length):xs.take (k+1)=xs.take k++[xs[k]]:=by
 rw[List.take_succ_eq_append_getElem h]
theorem R8 {ks:List V}{k:Nat}(h:k<ks.length):AS (ks.take (k+1))=max (AS (ks.take k)) ks[k].depth:=by
 rw[IC h,BM]
theorem Ja {ks:List V}{t:V}(h:t∈ks):t.depth≤AS ks:=by
 induction ks with
 |nil=>simp at h
 |cons x ks ih =>
  simp only[List.mem_cons]at h
  simp only[AS]
  rcases h with rfl | h
  ·omega
  ·have:=ih h;omega
theorem Ct {ks:List V}{t:V}(h:t∈ks):t.count≤Am ks:=by
 induction ks with
 |nil=>simp at h
 |cons x ks ih =>
  simp only[List.mem_cons]at h
  simp only[Am]
  rcases h with rfl | h
  ·omega
  ·have:=ih h;omega
theorem Cq (t:V):0<t.count:=by cases t;simp[V.count]
theorem Bq (ks:List V):ks.length≤Am ks:=by
 induction ks with
 |nil=>simp[Am]
 |cons x ks ih=>have:=Cq x;simp only[Am,List.length_cons];omega
theorem AN (t:V):t.count=Am t.kids+1:=by cases t;rfl
theorem Jb (t:V):t.depth=AS t.kids+1:=by cases t;rfl
mutual
theorem Mh:∀t:V,t.depth≤t.count
 | .mk _ _ _ _ kids=>by simp only[V.depth,V.count];have:=En kids;omega
theorem En:∀ks:List V,AS ks≤Am ks
 | []=>by simp[AS,Am]
 |k::ks=>by simp only[AS,Am];have:=Mh k;have:=En ks;omega
end
theorem Mg (ks:List V) (k:Nat):AS (ks.take k)≤AS ks:=by
 induction ks generalizing k with
 |nil=>simp[AS]
 |cons x ks ih =>
  cases k with
  |zero=>simp[AS]
  |succ k=>have:=ih k;simp only[List.take_succ_cons,AS];omega
theorem Q9 {pv:List CellD→Option (V×List CellD)}(hp:∀l t r,pv l=some (t,r)→t.count+r.length≤l.length) (kind:Int) :
  ∀cnt last l x,Be pv kind cnt last l=some x→Am x.2.1+x.2.2.length≤l.length:=by
 intro cnt
 induction cnt with
 |zero=>intro last l x h;simp only[Be,Option.some.injEq]at h;subst h;simp[Am]
 |succ cnt ih =>
  intro last l x h
  cases l with
  |nil=>simp[Be]at h
  |cons c l =>
   simp only[Be]at h
   split at h
   ·simp at h
   ·split at h
    ·simp at h
    ·rename_i v r hv
     simp only[Option.map_eq_some_iff]at h
     obtain⟨y,hy,rfl⟩:=h
     have h1:=ih _ _ _ hy
     have h2:=hp _ _ _ hv
     simp only[Am]
     omega
theorem Qc:∀m l t r,AH m l=some (t,r)→t.count+r.length≤l.length:=by
 intro m
 induction m with
 |zero=>intro l t r h;simp[AH]at h
 |succ m ih =>
  intro l t r h
  cases l with
  |nil=>simp[AH]at h
  |cons c l =>
   simp only[AH,Option.map_eq_some_iff]at h
   obtain⟨x,hx,he⟩:=h
   simp only[Prod.mk.injEq]at he
   have:=Q9 ih _ _ _ _ _ hx
   obtain⟨rfl,rfl⟩:=he
   simp only[V.count,List.length_cons]
   omega
theorem Y5 {xs:List CellD}{t:V}(h:(dec xs).2=some t):(dec xs).1=0∧1≤xs.length∧xs.length≤200∧Bu xs=0∧AH xs.length xs=some (t,[])∧(xs.headD ⟨0,0,ByteArray.empty,ByteArray.empty,0⟩).key.toList.isEmpty=true∧t.depth≤20:=by
 unfold dec at h ⊢
 split at h
 ·simp at h
 ·split at h
  ·simp at h
  ·rename_i h1 h2
   rw[if_neg h1,if_neg h2]
   split at h
   ·rename_i u hu
    split at h
    ·simp at h
    ·split at h
     ·simp at h
     ·rename_i h3 h4
      rw[hu]
      simp only[Option.some.injEq]at h
      subst h
      simp only[h3,h4]
      simp at h1 h2 h3
      exact⟨by trivial,by omega,by omega,h2,by trivial,by simpa using h3,by omega⟩
   ·simp at h
theorem Gu (xs:List CellD):(∃t,dec xs=(0,some t))∨(∃c,c≠0∧dec xs=(c,none)):=by
 by_cases h1:¬(1≤xs.length∧xs.length≤200)
 ·exact .inr ⟨2,by omega,by unfold dec;rw[if_pos h1]⟩
 ·by_cases h2:Bu xs≠0
  ·exact .inr ⟨Bu xs,h2,by unfold dec;rw[if_neg h1,if_pos h2]⟩
  ·have h0:dec xs=QX xs:=by unfold dec;rw[if_neg h1,if_neg h2];rfl
   rw[h0]
   unfold QX
   rcases AH xs.length xs with _ | ⟨t,_ | ⟨y,r⟩⟩
   ·exact .inr ⟨1,by omega,rfl⟩
   ·by_cases h3:(!((xs.headD ⟨0,0,ByteArray.empty,ByteArray.empty,0⟩).key.toList.isEmpty))=true
    ·exact .inr ⟨1,by omega,if_pos h3⟩
    ·by_cases h4:20<t.depth
     ·exact .inr ⟨7,by omega,(if_neg h3).trans (if_pos h4)⟩
     ·exact .inl ⟨t,(if_neg h3).trans (if_neg h4)⟩
   ·exact .inr ⟨1,by omega,rfl⟩
def asc:Option ByteArray→List ByteArray→Prop
 |_,[]=>True
 |none,k::ks=>asc (some k) ks
 |some p,k::ks=>Op.bytesLess p.toList k.toList=true∧asc (some k) ks
def Ed (kind:Int) (keys:List ByteArray) (n:Nat):Prop :=
 if kind=6 then keys.length=n∧(∀k∈keys,Br k=true)∧asc none keys else keys=[]
mutual
def V.wf:V→Prop
 | .mk kind num text keys kids=>AP kind num text ByteArray.empty kids.length=0∧Ed kind keys kids.length∧wfL kids
def wfL:List V→Prop
 | []=>True
 |k::ks=>k.wf∧wfL ks
end
def V.enc (t:V):List CellD:=t.cells ByteArray.empty
theorem Ml {a:ByteArray}(h:a.toList=[]):a=ByteArray.empty:=by
 rw[ByteArray.toList_eq]at h
 cases a with
 |mk d =>
  cases d with
  |mk l=>simp at h;subst h;rfl
theorem Bm:Br ByteArray.empty=true:=by decide +kernel
theorem JF {k m:Int}{t y:ByteArray}{n:Int}(h:AP k m t y n=0):AP k m t ByteArray.empty n=0∧Br y=true:=by
 unfold AP at h ⊢
 split at h
 ·omega
 ·split at h
  ·omega
  ·split at h
   ·omega
   ·split at h
    ·omega
    ·rename_i h1 h2 h3 h4
     rw[if_neg h1,if_neg h2,if_neg h3]
     simp only[cT,Bool.not_eq_true,Bool.or_eq_false_iff,Bool.not_eq_eq_eq_not]at h4
     simp at h4
     simp[cT,h4.1,Bm,h4.2]
theorem Fs {k m:Int}{t y:ByteArray}{n:Int}(h:AP k m t y n=0) (hh:Cp k=false):n=0:=by
 unfold AP at h
 split at h
 ·omega
 ·split at h
  ·omega
  ·rename_i h1 h2
   simp only[cF,hh]at h2
   simp at h2
   exact h2.2
theorem QO {k m:Int}{t y:ByteArray}{n:Int}(h:AP k m t ByteArray.empty n=0) (hy:Br y=true):AP k m t y n=0:=by
 unfold AP at h ⊢
 split at h
 ·omega
 ·split at h
  ·omega
  ·split at h
   ·omega
   ·split at h
    ·omega
    ·rename_i h1 h2 h3 h4
     rw[if_neg h1,if_neg h2,if_neg h3]
     simp[cT,Bm]at h4
     simp[cT,h4,hy]
theorem Qb {m:Nat}(ih:∀l t r,(∀c∈l,c.code=0)→AH m l=some (t,r)→t.wf∧∃c l',l=c::l'∧l=t.cells c.key++r) (kind:Int) :
  ∀cnt last l x,(∀c∈l,c.code=0)→(Cp kind=false→cnt=0)→Be (AH m) kind cnt last l=some x →
   x.2.1.length=cnt∧wfL x.2.1∧l=BP kind x.1 x.2.1++x.2.2∧(kind=6→x.1.length=cnt∧(∀k∈x.1,Br k=true)∧asc last x.1)∧(kind≠6→x.1=[]):=by
 intro cnt
 induction cnt with
 |zero =>
  intro last l x hc hh h
  simp only[Be,Option.some.injEq]at h
  subst h
  exact⟨rfl,trivial,by simp[BP],fun _=>⟨rfl,by simp,by cases last<;>trivial⟩,fun _=>rfl⟩
 |succ cnt ihc =>
  intro last l x hc hh h
  cases l with
  |nil=>simp[Be]at h
  |cons c l =>
   simp only[Be]at h
   split at h
   ·simp at h
   ·rename_i hbad
    split at h
    ·simp at h
    ·rename_i v r hv
     simp only[Option.map_eq_some_iff]at h
     obtain⟨y,hy,rfl⟩:=h
     obtain⟨hw,c',l',hcl,hl⟩:=ih _ _ _ hc hv
     simp only[List.cons.injEq]at hcl
     obtain⟨rfl,rfl⟩:=hcl
     have hcr:∀d∈r,d.code=0:=fun d hd=>hc d (by rw[hl];simp[hd])
     obtain⟨g1,g2,g3,g4,g5⟩:=ihc (some c.key) r y hcr (fun h=>by have:=hh h;omega) hy
     have hck:Br c.key=true:=(JF (hc c (by simp))).2
     by_cases h6:kind=6
     ·subst h6
      obtain⟨g6,g7,g8⟩:=g4 rfl
      refine⟨by simp[g1],⟨hw,g2⟩,?_,fun _=>⟨by simp[g6],?_,?_⟩,fun h=>absurd rfl h⟩
      ·simp only[if_true,BP,List.headD_cons,List.tail_cons]
       rw[hl]
       conv=>lhs;rw[g3]
       simp
      ·intro k hk
       simp only[if_true,List.mem_cons]at hk
       rcases hk with rfl | hk
       ·exact hck
       ·exact g7 k hk
      ·simp only[if_true]
       cases last with
       |none=>exact g8
       |some p =>
        refine⟨?_,g8⟩
        simp[B1]at hbad
        exact hbad
     ·have hk5:kind=5:=by
       cases hh':Cp kind
       ·have:=hh hh';omega
       ·simp[Cp]at hh';omega
      subst hk5
      have hk0:c.key=ByteArray.empty:=Ml (by simpa [B1] using hbad)
      have g9:=g5 (by omega)
      refine⟨by simp[g1],⟨hw,g2⟩,?_,fun h=>absurd h h6,fun _=>by simp[g9]⟩
      simp only[h6,if_false,BP]
      rw[hl,hk0]
      conv=>lhs;rw[g3]
      simp[g9]
theorem Qe:∀m l t r,(∀c∈l,c.code=0)→AH m l=some (t,r)→t.wf∧∃c l',l=c::l'∧l=t.cells c.key++r:=by
 intro m
 induction m with
 |zero=>intro l t r _ h;simp[AH]at h
 |succ m ih =>
  intro l t r hc h
  cases l with
  |nil=>simp[AH]at h
  |cons c l =>
   simp only[AH,Option.map_eq_some_iff]at h
   obtain⟨x,hx,he⟩:=h
   simp only[Prod.mk.injEq]at he
   obtain⟨rfl,rfl⟩:=he
   have hcode:c.code=0:=hc c (by simp)
   obtain⟨hn0,hn2⟩:=Pt hcode
   obtain⟨g1,g2,g3,g4,g5⟩:=Qb ih c.kind c.n.toNat none l x (fun d hd=>hc d (by simp[hd])) (fun h=>by rw[Fs hcode h];rfl) hx
   have hnn:((x.2.1.length:Nat):Int)=c.n:=by rw[g1];omega
   refine⟨⟨?_,?_,g2⟩,c,l,rfl,?_⟩
   ·rw[hnn];exact (JF hcode).1
   ·unfold Ed
    split
    ·rename_i h6
     have:=g4 h6
     exact⟨by rw[this.1,g1],this.2⟩
    ·rename_i h6
     exact g5 h6
   ·simp only[V.cells,List.cons_append,hnn]
    rw[←g3]
mutual
theorem H8:∀(t:V) (key:ByteArray) (r:List CellD) (m:Nat),t.wf→t.count≤m→AH m (t.cells key++r)=some (t,r)
 | .mk kind num text keys kids,key,r,m,hw,hm=>by
  simp only[V.wf]at hw
  obtain⟨h1,h2,h3⟩:=hw
  simp only[V.count]at hm
  obtain⟨m,rfl⟩:∃m',m=m'+1:=⟨m-1,by omega⟩
  have hkk:Cp kind=false→kids=[]:=fun h=>by
   have:=Fs h1 h
   exact List.eq_nil_of_length_eq_zero (by omega)
  simp only[V.cells,List.cons_append,AH,Int.toNat_natCast]
  rw[Kh kids kind keys none r m h3 (by omega) ?_ ?_ hkk]
  ·rfl
  ·intro h6
   simp only[Ed,h6,if_true]at h2
   exact⟨h2.1,h2.2.2⟩
  ·intro h6
   simp only[Ed,h6,if_false]at h2
   exact h2
theorem Kh:∀(kids:List V) (kind:Int) (keys:List ByteArray) (last:Option ByteArray) (r:List CellD) (m:Nat),wfL kids→Am kids≤m→(kind=6→keys.length=kids.length∧asc last keys)→(kind≠6→keys=[]) →
  (Cp kind=false→kids=[])→Be (AH m) kind kids.length last (BP kind keys kids++r)=some (keys,kids,r)
 | [],kind,keys,last,r,m,hw,hm,h6,h5,hh=>by
  have:keys=[]:=by
   by_cases h:kind=6
   ·exact List.eq_nil_of_length_eq_zero (by simpa using (h6 h).1)
   ·exact h5 h
  subst this
  simp[Be,BP]
 |k::ks,kind,keys,last,r,m,hw,hm,h6,h5,hh=>by
  simp only[wfL]at hw
  simp only[Am]at hm
  have hp:=H8 k (if kind=6 then keys.headD ByteArray.empty else ByteArray.empty) (BP kind keys.tail ks++r) m hw.1 (by omega)
  have hk:=Kh ks kind keys.tail (some (if kind=6 then keys.headD ByteArray.empty else ByteArray.empty)) r m hw.2 (by omega) ?_ ?_ (fun h=>absurd (hh h) (by simp))
  ·obtain⟨kk,kn,kt,kks,kkids⟩:=k
   simp only[V.cells,List.cons_append]at hp
   simp only[List.length_cons,BP,V.cells,List.cons_append,List.append_assoc,Be]
   have hb:B1 kind last (if kind=6 then keys.headD ByteArray.empty else ByteArray.empty)=false:=by
    by_cases h:kind=6
    ·obtain⟨g1,g2⟩:=h6 h
     cases keys with
     |nil=>simp at g1
     |cons y ys =>
      cases last with
      |none=>simp[B1,h]
      |some p=>simp only[asc]at g2;simp[B1,h,g2.1]
    ·simp[B1,h]
   rw[if_neg (by rw[hb];simp),hp]
   simp only[hk,Option.map_some]
   by_cases h:kind=6
   ·obtain⟨g1,g2⟩:=h6 h
    cases keys with
    |nil=>simp at g1
    |cons y ys=>simp[h]
   ·simp[h,h5 h]
  ·intro h
   obtain⟨g1,g2⟩:=h6 h
   cases keys with
   |nil=>simp at g1
   |cons y ys =>
    refine⟨by simpa using g1,?_⟩
    simp only[h,if_true,List.headD_cons,List.tail_cons]
    cases last with
    |none=>exact g2
    |some p=>exact g2.2
  ·intro h
   simp[h5 h]
end
mutual
theorem BZ:∀(t:V) (key:ByteArray),(t.cells key).length=t.count
 | .mk kind num text keys kids,key=>by simp only[V.cells,V.count,List.length_cons];rw[LX kids]
theorem LX:∀(kids:List V) (kind:Int) (keys:List ByteArray),(BP kind keys kids).length=Am kids
 | [],_,_=>rfl
 |k::ks,kind,keys=>by simp only[BP,Am,List.length_append];rw[BZ k,LX ks]
end
theorem CA (t:V):t.enc.length=t.count:=BZ t _
theorem CS (t:V) (key:ByteArray):t.cells key=⟨t.kind,t.num,t.text,key,t.kids.length⟩::BP t.kind t.keys t.kids:=by cases t;rfl
mutual
theorem EL:∀(t:V) (key:ByteArray),t.wf→Br key=true→∀c∈t.cells key,c.code=0
 | .mk kind num text keys kids,key,hw,hk=>by
  simp only[V.wf]at hw
  obtain⟨h1,h2,h3⟩:=hw
  intro c hc
  simp only[V.cells,List.mem_cons]at hc
  rcases hc with rfl | hc
  ·exact QO h1 hk
  ·refine JG kids kind keys h3 ?_ c hc
   intro k hkk
   unfold Ed at h2
   split at h2
   ·exact h2.2.1 k hkk
   ·subst h2;simp at hkk
theorem JG:∀(kids:List V) (kind:Int) (keys:List ByteArray),wfL kids→(∀k∈keys,Br k=true)→∀c∈BP kind keys kids,c.code=0
 | [],_,_,_,_=>by simp[BP]
 |k::ks,kind,keys,hw,hk=>by
  simp only[wfL]at hw
  intro c hc
  simp only[BP,List.mem_append]at hc
  rcases hc with hc | hc
  ·refine EL k _ hw.1 ?_ c hc
   split
   ·cases keys with
    |nil=>exact Bm
    |cons y ys=>exact hk y (by simp)
   ·exact Bm
  ·exact JG ks kind keys.tail hw.2 (fun k hkk=>hk k (List.mem_of_mem_tail hkk)) c hc
end
theorem SX {xs:List CellD}{t:V}(h:dec xs=(0,some t)):xs=t.enc∧t.wf∧t.count≤200∧t.depth≤20:=by
 have hs:=Y5 (xs:=xs) (t:=t) (by rw[h])
 obtain⟨_,h1,h2,h3,h4,h5,h6⟩:=hs
 obtain⟨hw,c,l',rfl,hl⟩:=Qe _ _ _ _ (Fx h3) h4
 simp only[List.append_nil]at hl
 have hk:c.key=ByteArray.empty:=Ml (by simpa using h5)
 rw[hk]at hl
 refine⟨hl,hw,?_,h6⟩
 have:=BZ t ByteArray.empty
 rw[←hl]at this
 omega
theorem V1 {t:V}(hw:t.wf) (hc:t.count≤200) (hd:t.depth≤20):dec t.enc=(0,some t):=by
 have hl:=CA t
 have hp:=Cq t
 have hpar:=H8 t ByteArray.empty [] t.enc.length hw (by omega)
 rw[List.append_nil]at hpar
 have hf:Bu t.enc=0:=by
  refine Gd fun i hi=>?_
  exact EL t _ hw Bm _ (List.getElem_mem hi)
 rw[LJ (by omega) (by omega) hf]
 unfold QX
 rw[show AH t.enc.length t.enc=some (t,[]) from hpar]
 have:(t.enc.headD ⟨0,0,ByteArray.empty,ByteArray.empty,0⟩).key=ByteArray.empty:=by
  unfold V.enc;rw[CS];rfl
 show (if (!((t.enc.headD ⟨0,0,ByteArray.empty,ByteArray.empty,0⟩).key.toList.isEmpty))=true then ((1,none):Int×Option V) else if 20<t.depth then (7,none) else (0,some t))=_
 rw[this,if_neg (by simp),if_neg (by omega)]
def kp (ks:List V) (i:Nat):Nat:=1+Am (ks.take i)
def V.keyAt (t:V) (i:Nat):ByteArray:=if t.kind=6 then (t.keys.drop i).headD ByteArray.empty else ByteArray.empty
theorem KN:∀(kids:List V) (kind:Int) (keys:List ByteArray) (i:Nat),(BP kind keys kids).drop (Am (kids.take i))=BP kind (keys.drop i) (kids.drop i)
 | [],kind,keys,i=>by simp[BP]
 |k::ks,kind,keys,0=>by simp[Am]
 |k::ks,kind,keys,i+1=>by
  simp only[List.take_succ_cons,Am,BP,List.drop_succ_cons]
  have hl:=BZ k (if kind=6 then keys.headD ByteArray.empty else ByteArray.empty)
  generalize V.cells (if kind=6 then keys.headD ByteArray.empty else ByteArray.empty) k=kc at *
  rw[←List.drop_drop,show (kc++BP kind keys.tail ks).drop k.count=BP kind keys.tail ks by rw[←hl];simp,KN ks kind keys.tail i,List.drop_tail]
theorem Rb (t:V) (i:Nat):t.enc.drop (kp t.kids i)=BP t.kind (t.keys.drop i) (t.kids.drop i):=by
 unfold V.enc kp
 rw[CS,Nat.add_comm,List.drop_succ_cons,KN]
theorem PA (t:V) {i:Nat}(h:i<t.kids.length):t.enc.drop (kp t.kids i)=t.kids[i].cells (t.keyAt i)++t.enc.drop (kp t.kids (i+1)):=by
 rw[Rb,Rb,List.drop_eq_getElem_cons h]
 simp only[BP,List.tail_drop]
 rfl
theorem E6 (ks:List V) (i:Nat):Am (ks.take i)≤Am ks:=by
 induction ks generalizing i with
 |nil=>simp[Am]
 |cons k ks ih=>cases i with
  |zero=>simp[Am]
  |succ i=>have:=ih i;simp only[List.take_succ_cons,Am];omega
theorem HI (a:List V) (v:V):Am (a++[v])=Am a+v.count:=by
 induction a with
 |nil=>simp[Am]
 |cons x a ih=>simp[Am,ih];omega
theorem V8 (ks:List V) {i:Nat}(h:i<ks.length):kp ks (i+1)=kp ks i+ks[i].count:=by
 unfold kp;rw[IC h,HI];omega
theorem IT (t:V) (i:Nat):kp t.kids i≤t.count:=by
 have:=E6 t.kids i;have:=AN t;unfold kp;omega
theorem VB {t:V}(h:t.wf):wfL t.kids:=by cases t;simp only[V.wf]at h;exact h.2.2
theorem QE:∀{ks:List V},wfL ks→∀k∈ks,k.wf
 | [],_=>by simp
 |k::ks,h=>by
  simp only[wfL]at h
  intro x hx
  simp only[List.mem_cons]at hx
  rcases hx with rfl | hx
  ·exact h.1
  ·exact QE h.2 x hx
theorem a1q {t:V}(h:t.wf) {i:Nat}(hi:i<t.kids.length):t.kids[i].wf:=QE (VB h) _ (List.getElem_mem hi)
theorem X3 {t:V}(hw:t.wf) {i:Nat}(h:i<t.kids.length) {m:Nat}(hm:t.count≤m):AH m (t.enc.drop (kp t.kids i))=some (t.kids[i],t.enc.drop (kp t.kids (i+1))):=by
 rw[PA t h]
 have:=Ct (List.getElem_mem h)
 have:=AN t
 exact H8 _ _ _ _ (a1q hw h) (by omega)
theorem PB {t:V}(hw:t.wf) {i:Nat}(h:i<t.kids.length) {m:Nat}(hm:t.count≤m):IN t.enc.length (AH m (t.enc.drop (kp t.kids i)))=(kp t.kids (i+1):Nat):=by
 rw[X3 hw h hm,Jd,List.length_drop,CA]
 have:=IT t (i+1)
 omega
theorem Y8 {t:V}(hw:t.wf):∀c∈t.enc,c.n≤200:=fun c hc=>(Pt (EL t _ hw Bm c hc)).2
theorem Y9 (t:V) (h:0<t.enc.length):t.enc[0]=⟨t.kind,t.num,t.text,ByteArray.empty,t.kids.length⟩:=by
 have:=CS t ByteArray.empty
 simp only[V.enc,this,List.getElem_cons_zero]
theorem KO {t:V}{i:Nat}(h:i<t.kids.length):(t.enc.drop (kp t.kids i)).take t.kids[i].count=t.kids[i].cells (t.keyAt i):=by
 rw[PA t h,List.take_append_of_le_length (by rw[BZ];omega),List.take_of_length_le (by rw[BZ];omega)]
theorem BV {t:V}(h:t.count≤200):t.kids.length≤200:=by have:=Bq t.kids;have:=AN t;omega
mutual
def V.neat:V→Prop
 | .mk kind _ _ keys kids=>(Cp kind=false→kids=[])∧(kind=6→keys.length=kids.length)∧OJ kids
def OJ:List V→Prop
 | []=>True
 |k::ks=>k.neat∧OJ ks
end
mutual
theorem Q0:∀(t:V),t.wf→t.neat
 | .mk kind num text keys kids,h=>by
  simp only[V.wf]at h
  obtain⟨h1,h2,h3⟩:=h
  refine⟨fun hh=>?_,fun h6=>?_,RY kids h3⟩
  ·have:=Fs h1 hh
   exact List.eq_nil_of_length_eq_zero (by omega)
  ·simp only[Ed,h6,if_true]at h2
   exact h2.1
theorem RY:∀(ks:List V),wfL ks→OJ ks
 | [],_=>trivial
 |k::ks,h=>by simp only[wfL]at h;exact⟨Q0 k h.1,RY ks h.2⟩
end
theorem U5 {t:V}(h:t.neat):Cp t.kind=false→t.kids=[]:=by cases t;exact h.1
theorem OL {t:V}(h:t.neat):t.kind=6→t.keys.length=t.kids.length:=by cases t;exact h.2.1
theorem WP {t:V}(h:t.neat):OJ t.kids:=by cases t;exact h.2.2
theorem OK:∀{ks:List V},OJ ks→∀k∈ks,k.neat
 | [],_=>by simp
 |k::ks,h=>by
  intro x hx
  simp only[List.mem_cons]at hx
  rcases hx with rfl | hx
  ·exact h.1
  ·exact OK h.2 x hx
theorem OA {t:V}(h:t.neat) (h6:t.kind=6) {i:Nat}(hi:i<t.kids.length):∃hk:i<t.keys.length,t.keyAt i=t.keys[i]:=by
 have:=OL h h6
 refine⟨by omega,?_⟩
 unfold V.keyAt
 rw[if_pos h6,List.drop_eq_getElem_cons (by omega)]
 rfl
theorem MC {t:V}(h6:t.kind≠6) (i:Nat):t.keyAt i=ByteArray.empty:=by unfold V.keyAt;rw[if_neg h6]
theorem Gc (t:V) {i:Nat}(h:i<t.kids.length):t.enc.take (kp t.kids (i+1))=t.enc.take (kp t.kids i)++t.kids[i].cells (t.keyAt i):=by
 rw[V8 _ h,List.take_add]
 congr 1
 rw[KO h]
theorem GU (t:V):t.enc.take (kp t.kids 0)=[⟨t.kind,t.num,t.text,ByteArray.empty,t.kids.length⟩]:=by
 unfold V.enc kp
 rw[CS]
 simp[Am]
theorem GS (t:V):t.enc.take (kp t.kids t.kids.length)=t.enc:=by
 apply List.take_of_length_le
 rw[CA,AN]
 unfold kp
 rw[List.take_length]
 omega
theorem GT (t:V) (i:Nat):(t.enc.take (kp t.kids i)).length=kp t.kids i:=by
 rw[List.length_take,CA];have:=IT t i;omega
def C8 (n:Int):V:=.mk 3 n ByteArray.empty [] []
def CG (s:ByteArray):V:=.mk 4 0 s [] []
def B4 (ks:List V):V:=.mk 5 0 ByteArray.empty [] ks
def BG:V:=.mk 0 0 ByteArray.empty [] []
end
end Go.Proofs.YtcejfdfmgmcinaaGreat
