/- Texts of this proof: M01 M02 M03 M04 M05 M06 M07. -/
import Derived.WalkKit
import Derived.Lib.Hide
set_option linter.all false
namespace Go.Proofs.YtlciedpfjhkkdaaGreatDoor
section
open Go.RowKit
def inB (v lo hi:Int):Bool:=decide (lo≤v)&&decide (v≤hi)
def KP (c:UInt8):Bool:=decide (32≤c.toNat)&&decide (c.toNat≤126)
def BR (s:ByteArray):Bool:=decide (s.size≤60)&&s.data.toList.all KP
structure CellD where
 kind:Int
 num:Int
 text:ByteArray
 key:ByteArray
 n:Int
def B4 (c:CellD):List Value:=[.int .i64 c.kind,.int .i64 c.num,.string c.text,.string c.key,.int .i64 c.n]
def Ci (k:Int):Bool:=k==5||k==6
def cF (k m:Int) (t:ByteArray) (n:Int):Bool:=(m != 0&&k != 3)||(!(t.toList.isEmpty)&&k != 4)||(n != 0&&!(Ci k))
def cR (m n:Int):Bool:=!(inB m (-1000000000000000) 1000000000000000)||!(inB n 0 200)
def cT (t y:ByteArray):Bool:=!(BR t)||!(BR y)
def Ct (k m:Int) (t y:ByteArray) (n:Int):Int:=if !(inB k 0 6) then 6 else if cF k m t n then 1 else if cR m n then 3 else if cT t y then 5 else 0
def CellD.code (c:CellD):Int:=Ct c.kind c.num c.text c.key c.n
inductive V where
 |mk (kind num:Int) (text:ByteArray) (keys:List ByteArray) (kids:List V)
mutual
def V.depth:V→Nat
 | .mk _ _ _ _ kids=>CC kids+1
def CC:List V→Nat
 | []=>0
 |k::ks=>max k.depth (CC ks)
end
mutual
def V.count:V→Nat
 | .mk _ _ _ _ kids=>Am kids+1
def Am:List V→Nat
 | []=>0
 |k::ks=>k.count+Am ks
end
def V.kind:V→Int | .mk k _ _ _ _=>k
def V.num:V→Int | .mk _ n _ _ _=>n
def V.text:V→ByteArray | .mk _ _ t _ _=>t
def V.keys:V→List ByteArray | .mk _ _ _ k _=>k
def V.kids:V→List V | .mk _ _ _ _ k=>k
mutual
def V.cells (key:ByteArray):V→List CellD
 | .mk kind num text keys kids=>⟨kind,num,text,key,kids.length⟩::CG kind keys kids
def CG (kind:Int) (keys:List ByteArray):List V→List CellD
 | []=>[]
 |k::ks=>k.cells (if kind=6 then keys.headD ByteArray.empty else ByteArray.empty)++CG kind keys.tail ks
end
def Dp (kind:Int) (last:Option ByteArray) (key:ByteArray):Bool :=
 (kind==5&&!(key.toList.isEmpty))||(kind==6&&match last with | none=>false | some p=>!(Op.bytesLess p.toList key.toList))
def CJ (pv:List CellD→Option (V×List CellD)) (kind:Int):Nat→Option ByteArray→List CellD→Option (List ByteArray×List V×List CellD)
 | 0,_,l=>some ([],[],l)
 |_+1,_,[]=>none
 |cnt+1,last,c::l =>
  if Dp kind last c.key then none else
  match pv (c::l) with
  |none=>none
  |some (v,r)=>(CJ pv kind cnt (some c.key) r).map fun x=>((if kind=6 then c.key::x.1 else x.1),v::x.2.1,x.2.2)
def Rb (K:List ByteArray) (Vs:List V) (x:List ByteArray×List V×List CellD):List ByteArray×List V×List CellD:=(K++x.1,Vs++x.2.1,x.2.2)
def Eg (pv:List CellD→Option (V×List CellD)) (kind:Int) (N:Nat) (l0:List CellD) (k:Nat) (K:List ByteArray) (Vs:List V) (last:Option ByteArray) (l:List CellD):Prop :=
 k≤N∧Vs.length=k∧(kind=6→K.length=k)∧(kind≠6→K=[])∧(kind=6→last=K.getLast?)∧CJ pv kind N none l0=(CJ pv kind (N-k) last l).map (Rb K Vs)
section
variable {pv:List CellD→Option (V×List CellD)} {kind:Int} {N:Nat} {l0:List CellD} {k:Nat} {K:List ByteArray} {Vs:List V} {last:Option ByteArray} {l:List CellD}
theorem Eg.start:Eg pv kind N l0 0 [] [] none l0 :=
 ⟨Nat.zero_le _,rfl,fun _=>rfl,fun _=>rfl,fun _=>rfl,by
  rw[Nat.sub_zero]
  cases CJ pv kind N none l0<;>simp[Rb]⟩
theorem Eg.done (h:Eg pv kind N l0 N K Vs last l):CJ pv kind N none l0=some (K,Vs,l):=by
 rw[h.2.2.2.2.2,Nat.sub_self]
 simp[CJ,Rb]
theorem Eg.empty (h:Eg pv kind N l0 k K Vs last []) (hk:k<N):CJ pv kind N none l0=none:=by
 rw[h.2.2.2.2.2,show N-k=(N-k-1)+1 from by omega]
 simp[CJ]
theorem Eg.bad {c:CellD}(h:Eg pv kind N l0 k K Vs last (c::l)) (hk:k<N) (hb:Dp kind last c.key=true):CJ pv kind N none l0=none:=by
 rw[h.2.2.2.2.2,show N-k=(N-k-1)+1 from by omega]
 simp[CJ,hb]
theorem Eg.kid {c:CellD}(h:Eg pv kind N l0 k K Vs last (c::l)) (hk:k<N) (hb:pv (c::l)=none):CJ pv kind N none l0=none:=by
 rw[h.2.2.2.2.2,show N-k=(N-k-1)+1 from by omega]
 simp[CJ,hb]
theorem Eg.step {c:CellD}{v:V}{r:List CellD}(h:Eg pv kind N l0 k K Vs last (c::l)) (hk:k<N) (hb:Dp kind last c.key=false) (hv:pv (c::l)=some (v,r)) :
  Eg pv kind N l0 (k+1) (if kind=6 then K++[c.key] else K) (Vs++[v]) (some c.key) r:=by
 obtain⟨h1,h2,h3,h4,h5,h6⟩:=h
 refine⟨by omega,by simp[h2],fun hq=>by simp[hq,h3 hq],fun hq=>by simp[hq,h4 hq],fun hq=>by simp[hq],?_⟩
 rw[h6,show N-k=(N-(k+1))+1 from by omega]
 simp only[CJ,hb,hv,Bool.false_eq_true,if_false,Option.map_map]
 congr 1
 funext x
 by_cases hq:kind=6<;>simp[Rb,hq]
end
theorem Er (a b:List UInt8):(Op.bytesLess a b||(a==b)) = !(Op.bytesLess b a):=by
 induction a generalizing b with
 |nil=>cases b<;>simp[Op.bytesLess]
 |cons x a ih =>
  cases b with
  |nil=>simp[Op.bytesLess]
  |cons y b =>
   have:=ih b
   simp only[Op.bytesLess,List.cons_beq_cons]
   by_cases h1:x<y
   ·have h2:¬y<x:=by simp only[UInt8.lt_iff_toNat_lt]at *;omega
    have h3:(y==x)=false:=by simp;rintro rfl;simp at h1
    simp[h1,h2,h3]
   ·by_cases h2:y<x
    ·have h3:(x==y)=false:=by simp;rintro rfl;simp at h2
     simp[h1,h2,h3]
    ·have h3:x=y:=by apply UInt8.toNat_inj.1;simp only[UInt8.lt_iff_toNat_lt]at *;omega
     subst h3
     simpa [h1] using this
end
section
open Go.RowKit
section
variable {pv:List CellD→Option (V×List CellD)} {kind:Int} {N:Nat} {l0:List CellD} {k:Nat} {K:List ByteArray} {Vs:List V} {last:Option ByteArray} {l:List CellD}
theorem Eg.keyOk {lst key:ByteArray}(h:Eg pv kind N l0 k K Vs last l) (hl:kind=6→0<k→K.getLast? = some lst) (h5:kind=5→key.toList=[])
  (h6:kind=6→0<k→Op.bytesLess key.toList lst.toList=false∧(key.toList==lst.toList)=false):Dp kind last key=false:=by
 by_cases e6:kind=6
 ·have hla:=h.2.2.2.2.1 e6
  have hK:=h.2.2.1 e6
  rcases Nat.eq_zero_or_pos k with h0 | h0
  ·have:K=[]:=List.eq_nil_of_length_eq_zero (by omega)
   subst this
   simp at hla
   subst hla
   simp[Dp,e6]
  ·rw[hl e6 h0]at hla
   subst hla
   have:=h6 e6 h0
   have h2:=Er key.toList lst.toList
   rw[this.1,this.2]at h2
   simp at h2
   simp[Dp,e6,h2]
 ·by_cases e5:kind=5
  ·simp[Dp,e5,h5 e5]
  ·simp[Dp,e5,e6]
theorem Eg.keyNo {lst key:ByteArray}(h:Eg pv kind N l0 k K Vs last l) (hl:kind=6→0<k→K.getLast? = some lst)
  (hb:(kind=5∧key.toList≠[])∨(kind=6∧0<k∧(Op.bytesLess key.toList lst.toList=true∨(key.toList==lst.toList)=true))):Dp kind last key=true:=by
 rcases hb with⟨h5,hk⟩ | ⟨h6,h0,hlt⟩
 ·simp[Dp,h5,hk]
 ·have hla:=h.2.2.2.2.1 h6
  rw[hl h6 h0]at hla
  subst hla
  have h2:=Er key.toList lst.toList
  have:(Op.bytesLess key.toList lst.toList||key.toList==lst.toList)=true:=by
   rcases hlt with h | h<;>simp[h]
  rw[this]at h2
  simp at h2
  simp[Dp,h6,h2]
theorem Eg.len (h:Eg pv kind N l0 k K Vs last l):K.length=if kind=6 then k else 0:=by
 by_cases e:kind=6
 ·simp[e,h.2.2.1 e]
 ·simp[e,h.2.2.2.1 e]
end
end
section
open Go.RowKit
theorem Pl {α:Type}{xs:List α}{k:Nat}(h:k<xs.length):xs.take (k+1)=xs.take k++[xs[k]]:=by
 rw[List.take_succ_eq_append_getElem h]
theorem CM {ks:List V}{t:V}(h:t∈ks):t.count≤Am ks:=by
 induction ks with
 |nil=>simp at h
 |cons x ks ih =>
  simp only[List.mem_cons]at h
  simp only[Am]
  rcases h with rfl | h
  ·omega
  ·have:=ih h;omega
theorem GE (t:V):0<t.count:=by cases t;simp[V.count]
theorem BH (ks:List V):ks.length≤Am ks:=by
 induction ks with
 |nil=>simp[Am]
 |cons x ks ih=>have:=GE x;simp only[Am,List.length_cons];omega
theorem CF (t:V):t.count=Am t.kids+1:=by cases t;rfl
def asc:Option ByteArray→List ByteArray→Prop
 |_,[]=>True
 |none,k::ks=>asc (some k) ks
 |some p,k::ks=>Op.bytesLess p.toList k.toList=true∧asc (some k) ks
def GD (kind:Int) (keys:List ByteArray) (n:Nat):Prop :=
 if kind=6 then keys.length=n∧(∀k∈keys,BR k=true)∧asc none keys else keys=[]
mutual
def V.wf:V→Prop
 | .mk kind num text keys kids=>Ct kind num text ByteArray.empty kids.length=0∧GD kind keys kids.length∧wfL kids
def wfL:List V→Prop
 | []=>True
 |k::ks=>k.wf∧wfL ks
end
def V.enc (t:V):List CellD:=t.cells ByteArray.empty
theorem Co:BR ByteArray.empty=true:=by decide +kernel
theorem Io {k m:Int}{t y:ByteArray}{n:Int}(h:Ct k m t y n=0) (hh:Ci k=false):n=0:=by
 unfold Ct at h
 split at h
 ·omega
 ·split at h
  ·omega
  ·rename_i h1 h2
   simp only[cF,hh]at h2
   simp at h2
   exact h2.2
mutual
theorem CK:∀(t:V) (key:ByteArray),(t.cells key).length=t.count
 | .mk kind num text keys kids,key=>by simp only[V.cells,V.count,List.length_cons];rw[IG kids]
theorem IG:∀(kids:List V) (kind:Int) (keys:List ByteArray),(CG kind keys kids).length=Am kids
 | [],_,_=>rfl
 |k::ks,kind,keys=>by simp only[CG,Am,List.length_append];rw[CK k,IG ks]
end
theorem D8 (t:V):t.enc.length=t.count:=CK t _
theorem IQ (t:V) (key:ByteArray):t.cells key=⟨t.kind,t.num,t.text,key,t.kids.length⟩::CG t.kind t.keys t.kids:=by cases t;rfl
def kp (ks:List V) (i:Nat):Nat:=1+Am (ks.take i)
def V.keyAt (t:V) (i:Nat):ByteArray:=if t.kind=6 then (t.keys.drop i).headD ByteArray.empty else ByteArray.empty
theorem Hf:∀(kids:List V) (kind:Int) (keys:List ByteArray) (i:Nat),(CG kind keys kids).drop (Am (kids.take i))=CG kind (keys.drop i) (kids.drop i)
 | [],kind,keys,i=>by simp[CG]
 |k::ks,kind,keys,0=>by simp[Am]
 |k::ks,kind,keys,i+1=>by
  simp only[List.take_succ_cons,Am,CG,List.drop_succ_cons]
  have hl:=CK k (if kind=6 then keys.headD ByteArray.empty else ByteArray.empty)
  generalize V.cells (if kind=6 then keys.headD ByteArray.empty else ByteArray.empty) k=kc at *
  rw[←List.drop_drop,show (kc++CG kind keys.tail ks).drop k.count=CG kind keys.tail ks by rw[←hl];simp,Hf ks kind keys.tail i,List.drop_tail]
theorem LX (t:V) (i:Nat):t.enc.drop (kp t.kids i)=CG t.kind (t.keys.drop i) (t.kids.drop i):=by
 unfold V.enc kp
 rw[IQ,Nat.add_comm,List.drop_succ_cons,Hf]
theorem R9 (t:V) {i:Nat}(h:i<t.kids.length):t.enc.drop (kp t.kids i)=t.kids[i].cells (t.keyAt i)++t.enc.drop (kp t.kids (i+1)):=by
 rw[LX,LX,List.drop_eq_getElem_cons h]
 simp only[CG,List.tail_drop]
 rfl
theorem Ey (ks:List V) (i:Nat):Am (ks.take i)≤Am ks:=by
 induction ks generalizing i with
 |nil=>simp[Am]
 |cons k ks ih=>cases i with
  |zero=>simp[Am]
  |succ i=>have:=ih i;simp only[List.take_succ_cons,Am];omega
theorem CY (a:List V) (v:V):Am (a++[v])=Am a+v.count:=by
 induction a with
 |nil=>simp[Am]
 |cons x a ih=>simp[Am,ih];omega
theorem RP (ks:List V) {i:Nat}(h:i<ks.length):kp ks (i+1)=kp ks i+ks[i].count:=by
 unfold kp;rw[Pl h,CY];omega
theorem NS (t:V) (i:Nat):kp t.kids i≤t.count:=by
 have:=Ey t.kids i;have:=CF t;unfold kp;omega
theorem M4 {t:V}{i:Nat}(h:i<t.kids.length):(t.enc.drop (kp t.kids i)).take t.kids[i].count=t.kids[i].cells (t.keyAt i):=by
 rw[R9 t h,List.take_append_of_le_length (by rw[CK];omega),List.take_of_length_le (by rw[CK];omega)]
mutual
def V.neat:V→Prop
 | .mk kind _ _ keys kids=>(Ci kind=false→kids=[])∧(kind=6→keys.length=kids.length)∧Lb kids
def Lb:List V→Prop
 | []=>True
 |k::ks=>k.neat∧Lb ks
end
mutual
theorem Ny:∀(t:V),t.wf→t.neat
 | .mk kind num text keys kids,h=>by
  simp only[V.wf]at h
  obtain⟨h1,h2,h3⟩:=h
  refine⟨fun hh=>?_,fun h6=>?_,Md kids h3⟩
  ·have:=Io h1 hh
   exact List.eq_nil_of_length_eq_zero (by omega)
  ·simp only[GD,h6,if_true]at h2
   exact h2.1
theorem Md:∀(ks:List V),wfL ks→Lb ks
 | [],_=>trivial
 |k::ks,h=>by simp only[wfL]at h;exact⟨Ny k h.1,Md ks h.2⟩
end
theorem MS {t:V}(h:t.neat):Ci t.kind=false→t.kids=[]:=by cases t;exact h.1
theorem P9 {t:V}(h:t.neat):t.kind=6→t.keys.length=t.kids.length:=by cases t;exact h.2.1
theorem Px {t:V}(h:t.neat):Lb t.kids:=by cases t;exact h.2.2
theorem JO:∀{ks:List V},Lb ks→∀k∈ks,k.neat
 | [],_=>by simp
 |k::ks,h=>by
  intro x hx
  simp only[List.mem_cons]at hx
  rcases hx with rfl | hx
  ·exact h.1
  ·exact JO h.2 x hx
theorem Pv {t:V}(h:t.neat) (h6:t.kind=6) {i:Nat}(hi:i<t.kids.length):∃hk:i<t.keys.length,t.keyAt i=t.keys[i]:=by
 have:=P9 h h6
 refine⟨by omega,?_⟩
 unfold V.keyAt
 rw[if_pos h6,List.drop_eq_getElem_cons (by omega)]
 rfl
theorem ID {t:V}(h6:t.kind≠6) (i:Nat):t.keyAt i=ByteArray.empty:=by unfold V.keyAt;rw[if_neg h6]
theorem DM (t:V) {i:Nat}(h:i<t.kids.length):t.enc.take (kp t.kids (i+1))=t.enc.take (kp t.kids i)++t.kids[i].cells (t.keyAt i):=by
 rw[RP _ h,List.take_add]
 congr 1
 rw[M4 h]
theorem E7 (t:V):t.enc.take (kp t.kids 0)=[⟨t.kind,t.num,t.text,ByteArray.empty,t.kids.length⟩]:=by
 unfold V.enc kp
 rw[IQ]
 simp[Am]
theorem Ec (t:V):t.enc.take (kp t.kids t.kids.length)=t.enc:=by
 apply List.take_of_length_le
 rw[D8,CF]
 unfold kp
 rw[List.take_length]
 omega
theorem Ed (t:V) (i:Nat):(t.enc.take (kp t.kids i)).length=kp t.kids i:=by
 rw[List.length_take,D8];have:=NS t i;omega
def FT (n:Int):V:=.mk 3 n ByteArray.empty [] []
def J7 (s:ByteArray):V:=.mk 4 0 s [] []
def CX (ks:List V):V:=.mk 5 0 ByteArray.empty [] ks
def Nz:V:=.mk 0 0 ByteArray.empty [] []
end
end Go.Proofs.YtlciedpfjhkkdaaGreatDoor
