/- Texts of this proof: M57 E38 D01 D02 E32. -/
import Derived.Test.YtllfmaflodbieaaGreatDoorKE37uR28
import Derived.Laws.StructEq
import Derived.WideLaws
set_option linter.all false
set_option maxHeartbeats 8000000
namespace Go.Proofs.YtllfmaflodbieaaGreatDoor
section
open Go.RowKit
def DL (b:Nat) (s:ByteArray):ByteArray:=if bAt s 0=b then s.extract 1 s.size else s
def H3 (s:ByteArray):ByteArray:=if 3≤s.size∧s.extract 0 3=JZ then s.extract 3 s.size else s
def ES:Nat→ByteArray→List V→Option (List V×ByteArray)
 | 0,_,_=>none
 |n+1,s,acc=>if bAt s 0=91 then match BG (s.extract 1 s.size) with
   |some (v,r)=>if v.kind=4∨v.kind=3 then ES n (DL 93 r) (acc++[v]) else none
   |none=>none
  else some (acc,s)
def M4 (s:ByteArray):V:=match (SB (H3 s)).2 with
 |some v=>v
 |none=>P5
def a14 (s:ByteArray):Option (List V×V):=match ES (s.size+1) (DL 46 s) [] with
 |some (p,r)=>some (p,M4 r)
 |none=>none
structure FlatOk (p:List V×V) (s:ByteArray):Prop where
 leaf:p.2.kids.isEmpty=true
 keys:∀k∈p.1,FV k
 len:p.1.length≤199
 right:p.2.right
 text:AW p.1++JZ++p.2.txt=s
open Classical in
noncomputable def FX (s:ByteArray):Option (List V×V):=match a14 s with
 |some p=>if FlatOk p s then some p else none
 |none=>none
def Cy (p:List V):List UInt8:=p.flatMap fun k=>91::(k.txt.data.toList++[93])
theorem a2m {k:V}(h:FV k):elS k=k.txt:=by
 unfold elS
 rcases h.2.2.2 with h3 | h4
 ·rw[if_neg (by omega),Ik h3]
 ·rw[if_pos h4,IG h4]
theorem u9:∀(p:List V) (a:ByteArray),(∀k∈p,FV k)→(p.foldl (fun a v=>a++a07 v) a).data.toList=a.data.toList++Cy p
 | [],a,_=>by simp[Cy]
 |k::p,a,h=>by
  rw[List.foldl_cons,u9 p _ fun x hx=>h x (List.mem_cons_of_mem _ hx),Bl]
  unfold a07 Cy
  rw[a2m (h k (by simp)),Bl,Bl]
  simp
theorem a0m {p:List V}(h:∀k∈p,FV k):(AW p).data.toList=46::Cy p:=by
 unfold AW
 rw[u9 p _ h]
 rfl
theorem L0 {p:List V×V}{s:ByteArray}(h:FlatOk p s):s.data.toList=46::(Cy p.1++[32,61,32]++p.2.txt.data.toList):=by
 rw[←h.text,Bl,Bl,a0m h.keys]
 simp[JZ]
theorem n8 {b:UInt8}{s:ByteArray}{l:List UInt8}(h:s.data.toList=b::l):DL b.toNat s=⟨l.toArray⟩:=by
 unfold DL
 rw[if_pos (Iq (e:=0) (l:=l) (by rw[List.drop_zero];exact h)),OX (l:=l) (by rw[h];rfl)]
theorem e8:∀(p:List V) (n:Nat) (acc:List V) (s:ByteArray) (r:List UInt8),(∀k∈p,FV k)→s.data.toList=Cy p++32::r→p.length<n→ES n s acc=some (acc++p,⟨(32::r).toArray⟩)
 | [],n,acc,s,r,_,hs,hn=>by
  obtain⟨n,rfl⟩:∃m,n=m+1:=⟨n-1,by simp at hn;omega⟩
  have hs':s.data.toList=32::r:=hs
  unfold ES
  rw[if_neg (by rw[Iq (e:=0) (b:=32) (l:=r) (by rw[List.drop_zero];exact hs')];decide),List.append_nil]
  congr 2
  exact O5 (by rw[hs'])
 |k::p,n,acc,s,r,hk,hs,hn=>by
  obtain⟨n,rfl⟩:∃m,n=m+1:=⟨n-1,by simp at hn;omega⟩
  have hk0:=hk k (by simp)
  have hs1:s.data.toList=91::(k.txt.data.toList++93::(Cy p++32::r)):=by rw[hs];unfold Cy;simp
  have h2:=Jh (s:=s.extract 1 s.size) (i:=0) (l:=93::(Cy p++32::r)) hk0.1 rfl (by rw[OX (e:=1) (l:=k.txt.data.toList++93::(Cy p++32::r)) (by rw[hs1];rfl)];simp) ⟨by decide,by decide⟩
  unfold ES
  rw[if_pos (show bAt s 0=91 from Iq (e:=0) (b:=91) (by rw[List.drop_zero];exact hs1)),h2]
  dsimp only
  rw[if_pos (by have:=hk0.2.2.2;omega),show DL 93 _=_ from n8 (b:=93) (l:=Cy p++32::r) (by simp)]
  rw[e8 p n (acc++[k]) _ r (fun x hx=>hk x (List.mem_cons_of_mem _ hx)) (by simp) (by simp at hn;omega)]
  simp
theorem Lp:∀p:List V,2*p.length≤(Cy p).length
 | []=>by simp
 |k::p=>by
  have:=Lp p
  unfold Cy at this ⊢
  rw[List.flatMap_cons,List.length_append,List.length_cons,List.length_cons,List.length_append,List.length_singleton]
  omega
theorem a1l {s:ByteArray}{v:V}(hv:v.right) (hs:s.data.toList=[32,61,32]++v.txt.data.toList) (hz:s.size≤4000):M4 s=v:=by
 have h1:3≤s.size:=by rw[←AL,hs];simp
 have h2:s.extract 0 3=JZ:=KX hs rfl
 have h3:s.extract 3 s.size=v.txt:=O5 (by rw[OX (e:=3) (l:=v.txt.data.toList) (by rw[hs];rfl)])
 have h4:v.txt.size≤4000:=by have:=AL s;rw[hs]at this;simp only[List.length_append,AL]at this;omega
 unfold M4 H3
 rw[if_pos ⟨h1,h2⟩,h3,U4 hv h4]
theorem a15 {p:List V×V}{s:ByteArray}(hz:s.size≤4000) (h:FlatOk p s):a14 s=some p:=by
 have hl:=L0 h
 have hlen:=AL s
 have hp:=Lp p.1
 have hl2:s.data.toList=46::(Cy p.1++32::([61,32]++p.2.txt.data.toList)):=by rw[hl];simp
 have ht:=n8 (b:=46) hl2
 rw[hl2]at hlen
 simp only[List.length_cons,List.length_append,AL,List.length_nil]at hlen
 have hg:=e8 p.1 (s.size+1) [] ⟨(Cy p.1++32::([61,32]++p.2.txt.data.toList)).toArray⟩ ([61,32]++p.2.txt.data.toList) h.keys (by simp) (by omega)
 have hlf:=a1l (s:=⟨(32::([61,32]++p.2.txt.data.toList)).toArray⟩) h.right (by simp) (by rw[←AL];simp[AL];omega)
 unfold a14
 rw[show DL 46 s=_ from ht,hg]
 dsimp only
 rw[hlf,List.nil_append]
theorem Gq {s:ByteArray}(hz:s.size≤4000) {p:List V×V}:FX s=some p↔FlatOk p s:=by
 constructor
 ·intro h
  unfold FX at h
  split at h
  ·split at h
   ·rename_i hh
    injection h with h
    subst h
    exact hh
   ·cases h
  ·cases h
 ·intro h
  unfold FX
  rw[a15 hz h]
  dsimp only
  rw[if_pos h]
theorem Xj {s:ByteArray}(hz:s.size≤4000) (h:FX s=none) (p:List V×V):¬FlatOk p s:=fun hf=>by
 rw[(Gq hz).2 hf]at h
 cases h
def Hq (s:ByteArray):Nat→Nat→List V→Option (List V×Nat)
 | 0,_,_=>none
 |n+1,i,acc=>if bAt s i=91 then match Cq 20 s (i+1) with
   | .ok v e=>if bAt s e=93 then Hq s n (e+1) (acc++[v]) else none
   | .bad _ _=>none
  else some (acc,i)
theorem a01 {s:ByteArray}:∀(p:List V) (n i:Nat) (acc:List V) (r:List UInt8),(∀k∈p,FV k)→s.data.toList.drop i=Cy p++32::r→p.length<n→Hq s n i acc=some (acc++p,i+(Cy p).length)
 | [],n,i,acc,r,_,hs,hn=>by
  obtain⟨n,rfl⟩:∃m,n=m+1:=⟨n-1,by simp at hn;omega⟩
  unfold Hq
  rw[if_neg (by rw[Iq (b:=32) (l:=r) hs];decide)]
  simp[Cy]
 |k::p,n,i,acc,r,hk,hs,hn=>by
  obtain⟨n,rfl⟩:∃m,n=m+1:=⟨n-1,by simp at hn;omega⟩
  have hk0:=hk k (by simp)
  have hs1:s.data.toList.drop i=91::(k.txt.data.toList++93::(Cy p++32::r)):=by rw[hs];unfold Cy;simp
  have hs2:s.data.toList.drop (i+1)=k.txt.data.toList++93::(Cy p++32::r):=by rw[←List.drop_drop,hs1];rfl
  obtain⟨v1,_⟩:=NE hk0.1 hs2 ⟨by decide,by decide⟩
  have hs3:=KJ hs2
  have hs4:s.data.toList.drop (i+1+k.txt.size+1)=Cy p++32::r:=by rw[←List.drop_drop,hs3];rfl
  unfold Hq
  rw[if_pos (show bAt s i=91 from Iq hs1),v1]
  dsimp only
  rw[if_pos (show bAt s (i+1+k.txt.size)=93 from Iq hs3),a01 p n _ (acc++[k]) r (fun x hx=>hk x (List.mem_cons_of_mem _ hx)) hs4 (by simp at hn;omega)]
  have:(Cy (k::p)).length=1+(k.txt.size+1)+(Cy p).length:=by
   unfold Cy
   rw[List.flatMap_cons,List.length_append,List.length_cons,List.length_append,AL]
   simp
   omega
  rw[this,List.append_assoc]
  simp
  omega
end
section
open Go.RowKit
def Jb:Value→List (Nat×Obj)→Prop:=fun v l=>l=[]∧v.oneCell'=true∧∃t x,v=.iface t x
section
variable {P:Program} {o:Oper} {σ:ASt}
theorem WI {t t':TypeId}{y z:Operand}{k:IntKind}{a b:Int}{s u:ByteArray}{r:Bool}(ho:o.op=.binOp .neq t y z t') (hy:σ.ev y=.agg [.c (.int k a),.c (.str s)]) (hz:σ.ev z=.agg [.c (.int k b),.c (.str u)])
  (hm:P.eqGuardType P.depth t=false) (hq:∀w,(Op.equalIn 10000 t (.agg #[.int k a,.string s]) (.agg #[.int k b,.string u])).run P w=.ok r w):Al P o σ ⟨[],[],.c (.bool (!r))⟩:=by
 refine Al.pure fun Γ σ' a' w ow κ hag hr=>?_
 obtain⟨vs,e1,h1,_⟩:=hag.ev hr (by rw[ho];simp[Op.operands]) hy
 obtain⟨us,e2,h2,_⟩:=hag.ev hr (by rw[ho];simp[Op.operands]) hz
 simp only[ARs,AR,CR]at h1 h2
 obtain⟨_,_,rfl,⟨rfl,_⟩,_,_,rfl,⟨rfl,_⟩,rfl⟩:=h1
 obtain⟨_,_,rfl,⟨rfl,_⟩,_,_,rfl,⟨rfl,_⟩,rfl⟩:=h2
 refine⟨.bool (!r),?_,rfl,rfl⟩
 unfold execOp
 rw[ho]
 simp[e1,e2,run_eqGuard_agg _ _ _ _ _ _ _ hm,run_neq_struct,hq]
theorem Ut {op:BinOp}{t t':TypeId}{y z:Operand}{i:Id}{x:AV}(ho:o.op=.binOp op t y z t') (hy:σ.ev y=.own i) (hz:σ.ev z=.c (.raw .nilIface)) (hi:σ.mem.get i=some (.gen Jb))
  (ht:P.underlying t=some (.interface (P.methodsAt t))) (he:DC op false=some x):Al P o σ ⟨[i],[],x⟩:=by
 refine Al.pure fun Γ σ' a w ow κ hag hr=>?_
 have hi':σ'.mem.get i=some (.gen Jb):=by rw[hag.2.1 i (by simp),hi]
 obtain⟨_,o1,k1,k2⟩:=hag.ev hr (by rw[ho];simp[Op.operands]) hy
 rw[hi']at k1
 cases k1
 have e1:=k2 (by simp)
 have e2:=(hag.ev hr (by rw[ho];simp[Op.operands]) hz).1
 obtain⟨l,_,_,_,q,x',hx⟩:=hr.objs i _ hi'
 rw[hx]at e1
 refine DW (b:=false) ho he e1 e2 (fun op=>?_) (run_eql_held_nil w t q x' ht) (run_neq_held_nil w t q x' ht)
 unfold eqGuard
 cases op<;>simp
theorem U7 {op:BinOp}{t t':TypeId}{y:Operand}{q:Value}{x:AV}(ho:o.op=.binOp op t y (.const q) t') (hy:σ.ev y=.c (.raw .nilIface)) (hz:σ.ev (.const q)=.c (.raw .nilIface))
  (ht:P.underlying t=some (.interface (P.methodsAt t))) (he:DC op true=some x):Al P o σ ⟨[],[],x⟩:=by
 refine Al.pure fun Γ σ' a w ow κ hag hr=>?_
 have e1:=(hag.ev hr (by rw[ho];simp[Op.operands]) hy).1
 have e2:=(hag.ev hr (by rw[ho];simp[Op.operands]) hz).1
 refine DW (b:=true) ho he e1 e2 (fun op=>?_) (run_eql_nil_nil w t ht) (run_neq_nil_nil w t ht)
 unfold eqGuard
 cases op<;>simp
end
section
variable {P:Program} {σ τ:ASt} {ops:Array Oper} {r:List Oper} {fs:List AEff} {K:ASt→List AEff→Prop} {E:AEff} {d:Option Tmp} {ty':TypeId} {pos:String} {af:Array Edge} {gd:Option (Nat×Bool)}
theorem Zj {t t':TypeId}{y z:Operand}{k:IntKind}{a b:Int}{s u:ByteArray}{q:Bool}(hm:P.eqGuardType P.depth t=false) (hq:∀w,(Op.equalIn 10000 t (.agg #[.int k a,.string s]) (.agg #[.int k b,.string u])).run P w=.ok q w)
  (hg:Bi ops σ ⟨d,.binOp .neq t y z t',ty',pos,af,gd⟩=some true) (hy:σ.ev y=.agg [.c (.int k a),.c (.str s)]) (hz:σ.ev z=.agg [.c (.int k b),.c (.str u)])
  (hE:(⟨[],[],.c (.bool (!q))⟩:AEff)=E) (hτ:σ.upd d E=τ) (h:Ad P ops r τ (fs++[E]) K):Ad P ops (⟨d,.binOp .neq t y z t',ty',pos,af,gd⟩::r) σ fs K:=by
 subst hE
 exact Bt hg (WI rfl hy hz hm hq).sound hτ h
theorem Q2 {op:BinOp}{t t':TypeId}{y z:Operand}{i:Id}{x:AV}(ht:P.underlying t=some (.interface (P.methodsAt t))) (hg:Bi ops σ ⟨d,.binOp op t y z t',ty',pos,af,gd⟩=some true) (hy:σ.ev y=.own i) (hz:σ.ev z=.c (.raw .nilIface)) (hi:σ.mem.get i=some (.gen Jb)) (he:DC op false=some x)
  (hE:(⟨[i],[],x⟩:AEff)=E) (hτ:σ.upd d E=τ) (h:Ad P ops r τ (fs++[E]) K):Ad P ops (⟨d,.binOp op t y z t',ty',pos,af,gd⟩::r) σ fs K:=by
 subst hE
 exact Bt hg (Ut rfl hy hz hi ht he).sound hτ h
theorem Fi {op:BinOp}{t t':TypeId}{y:Operand}{q:Value}{x:AV}(ht:P.underlying t=some (.interface (P.methodsAt t))) (hg:Bi ops σ ⟨d,.binOp op t y (.const q) t',ty',pos,af,gd⟩=some true) (hy:σ.ev y=.c (.raw .nilIface)) (hz:σ.ev (.const q)=.c (.raw .nilIface)) (he:DC op true=some x)
  (hE:(⟨[],[],x⟩:AEff)=E) (hτ:σ.upd d E=τ) (h:Ad P ops r τ (fs++[E]) K):Ad P ops (⟨d,.binOp op t y (.const q) t',ty',pos,af,gd⟩::r) σ fs K:=by
 subst hE
 exact Bt hg (U7 rfl hy hz ht he).sound hτ h
end
end
section
open Go.RowKit
set_option maxRecDepth 10000
theorem Qe (n m:Nat):((n:Int)==(m:Int))=(n==m):=by
 rw[Bool.eq_iff_iff];simp;omega
theorem Lm (n:Nat):C9 n=((((n:Int)==32)||((n:Int)==9))||((n:Int)==10)||((n:Int)==13)):=by
 unfold C9
 rw[Bool.eq_iff_iff];simp;omega
theorem Qa (n:Nat):AP n=(decide ((n:Int)≥48)&&decide ((n:Int)≤57)):=by
 unfold AP
 rw[Bool.eq_iff_iff];simp;omega
theorem Rp (n:Nat):AC Tryz.prog 226 [.c (.int .u8 n)] [] (.c (.bool (C9 n))) []:=by
 rw[Lm]
 generalize (n:Int)=z
 cases h1:z==32
 ·cases h2:z==9
  ·cases h3:z==10
   ·cases h4:z==13
    all_goals
     refine A6 Tryz.func226 Tryz.ntmps226 ?_
     refine A0 (j4 h1 h2 h3 h4) ?_
     exact Am (A7 []) Tryz.results226
   ·refine A6 Tryz.func226 Tryz.ntmps226 ?_
    refine A0 (j3 h1 h2 h3) ?_
    exact Am (A7 []) Tryz.results226
  ·refine A6 Tryz.func226 Tryz.ntmps226 ?_
   refine A0 (j2 h1 h2) ?_
   exact Am (A7 []) Tryz.results226
 ·refine A6 Tryz.func226 Tryz.ntmps226 ?_
  refine A0 h1 ?_
  exact Am (A7 []) Tryz.results226
theorem He (n:Nat):AC Tryz.prog 228 [.c (.int .u8 n)] [] (.c (.bool (AP n))) []:=by
 rw[Qa]
 generalize (n:Int)=z
 cases h1:decide (z≥48)
 ·refine A6 Tryz.func228 Tryz.ntmps228 ?_
  refine A0 h1 ?_
  exact Am (A7 []) Tryz.results228
 ·cases h2:decide (z≤57)
  all_goals
   refine A6 Tryz.func228 Tryz.ntmps228 ?_
   refine A0 (j2 h1 h2) ?_
   exact Am (A7 []) Tryz.results228
theorem Dc (s:ByteArray) (hs:s.size≤1000000) (i:Nat) (hi:i≤s.size):AC Tryz.prog 188 [.c (.str s),.c (.int .i64 i)] [] (.c (.int .i64 (Af s i))) []:=by
 refine A6 Tryz.func188 Tryz.ntmps188 ?_
 refine A0 trivial ?_
 refine AG (κ:=Nat) (fun j=>⟨mkS 0 18 [(0,.c (.str s)),(1,.c (.int .i64 j))],[]⟩) (fun j=>j≤s.size∧Af s j=Af s i) (fun j=>s.size-j) i ⟨hi,rfl⟩ ?_ ?_
 ·exact Aq (As.of [] []) hi
 ·rintro j ⟨hj,hsk⟩
  by_cases hlt:j<s.size
  ·have hdk:decide ((j:Int)<(s.size:Int))=true:=by simpa using hlt
   have hw:=Ae (k:=j) (by omega)
   obtain⟨b,hg,hb⟩:=Aw hlt
   have hbl:=Rp b.toNat
   rw[←hb]at hbl
   have hbn:((b.toNat:Nat):Int)=((bAt s j:Nat):Int):=by rw[hb]
   cases hbk:C9 (bAt s j) with
   |true =>
    rw[hbk]at hbl
    refine A0 (j3 hdk hg hbn) ?_
    refine w7 (A3 [] hbl) trivial ?_
    refine A0 hw ?_
    refine⟨j+1,by omega,⟨by omega,by rw[←FE hbk,hsk]⟩,?_⟩
    exact Aq (As.of [] []) hw
   |false =>
    rw[hbk]at hbl
    have he:=Ci hbk
    rw[he]at hsk
    subst hsk
    refine A0 (j3 hdk hg hbn) ?_
    refine w7 (A3 [] hbl) trivial ?_
    refine A0 trivial ?_
    exact Am (A7 []) Tryz.results188
  ·have hdk:decide ((j:Int)<(s.size:Int))=false:=by simpa using hlt
   have he:=Ci (s:=s) (i:=j) (by rw[BX (by omega)];rfl)
   rw[he]at hsk
   subst hsk
   refine A0 hdk ?_
   exact Am (A7 []) Tryz.results188
set_option maxRecDepth 10000
theorem Gt {n:Int}(h0:0≤n) (h1:n<256):IntKind.u8.wrap n=n:=IntWalk.u8_in _ (by omega)
theorem CG {n:Int}(h0:-9223372036854775808≤n) (h1:n≤9223372036854775807):IntKind.i64.wrap n=n:=IntWalk.i64_in _ (by omega)
def Dk (v:AV) (t:ByteArray) (e:Nat):AV:=.agg [v,.c (.str t),.c (.int .i64 e),.c (.int .i64 0),.c (.int .i64 0)]
def B9 (c:Int) (p:Nat):AV:=.agg [.nils,.c (.str ByteArray.empty),.c (.int .i64 0),.c (.int .i64 c),.c (.int .i64 p)]
theorem Bs (c:Int) (p:Nat):AC Tryz.prog 122 [.c (.int .i64 c),.c (.int .i64 p)] [] (B9 c p) []:=by
 unfold B9
 refine A6 Tryz.func122 Tryz.ntmps122 ?_
 refine A0 trivial ?_
 exact Am (A7 []) Tryz.results122
theorem LR (n:Nat) (hn:n<256):AC Tryz.prog 227 [.c (.int .u8 n)] [] (.c (.int .i64 (B8 n))) []:=by
 have hcase:n<48∨(48≤n∧n≤57)∨(58≤n∧n<65)∨(65≤n∧n≤70)∨(71≤n∧n<97)∨(97≤n∧n≤102)∨103≤n:=by omega
 unfold B8 AP
 rcases hcase with h | h | h | h | h | h | h
 ·have g48:decide ((n:Int)≥48)=false:=by simp;omega
  have g97:decide ((n:Int)≥97)=false:=by simp;omega
  have g65:decide ((n:Int)≥65)=false:=by simp;omega
  have m1:decide (48≤n)=false:=by simp;omega
  have m2:decide (n≤57)=true:=by simp;omega
  have m3:decide (97≤n)=false:=by simp;omega
  have m4:decide (n≤102)=true:=by simp;omega
  have m5:decide (65≤n)=false:=by simp;omega
  have m6:decide (n≤70)=true:=by simp;omega
  simp only[m1,m2,m3,m4,m5,m6,Bool.true_and,Bool.false_and,Bool.and_true,Bool.and_false,if_true,Bool.false_eq_true,if_false]
  refine A6 Tryz.func227 Tryz.ntmps227 ?_
  refine A0 (j3 g48 g97 g65) ?_
  exact Am (A7 []) Tryz.results227
 ·have g48:decide ((n:Int)≥48)=true:=by simp;omega
  have l57:decide ((n:Int)≤57)=true:=by simp;omega
  have m1:decide (48≤n)=true:=by simp;omega
  have m2:decide (n≤57)=true:=by simp;omega
  have m3:decide (97≤n)=false:=by simp;omega
  have m4:decide (n≤102)=true:=by simp;omega
  have m5:decide (65≤n)=false:=by simp;omega
  have m6:decide (n≤70)=true:=by simp;omega
  have w1:IntKind.u8.wrap ((n:Int)-48)=(n:Int)-48:=Gt (by omega) (by omega)
  have w2:IntKind.i64.wrap ((n:Int)-48)=(n:Int)-48:=CG (by omega) (by omega)
  simp only[m1,m2,m3,m4,m5,m6,Bool.true_and,Bool.false_and,Bool.and_true,Bool.and_false,if_true,Bool.false_eq_true,if_false]
  refine A6 Tryz.func227 Tryz.ntmps227 ?_
  (repeat (first | (with_reducible first | refine GU ?_ | refine Br ?_ | refine DT ?_ | refine DU ?_) | ((with_reducible apply F7);(iterate 2 (focus (first | (simp only[go_sem,Nat.reduceEqDiff,Nat.reduceAdd,Nat.reduceSub,Nat.reduceLeDiff,Nat.reduceMul,Nat.reduceBEq,Nat.reduceLT,Int.reduceToNat,reduceCtorEq,g48,l57,w1,w2];first | done | exact rfl | (and_intros<;>rfl)) | exact rfl | decide)))) | ((with_reducible refine GT ?_);dsimp only;try ((with_reducible apply Fb);(focus (simp only[go_sem];exact rfl));(focus decide))) | ((with_reducible first | refine Ha ?_ | refine F9 ?_ | refine DQ ?_);dsimp only) | ((with_reducible refine F8 ?_);dsimp only;simp only[if_true,if_false,Nat.reduceEqDiff]) | ((with_reducible apply Mi);(focus (simp only[go_sem,Nat.reduceBEq,Nat.reduceLT,g48,l57,w1,w2];exact rfl));dsimp only[cond_true,cond_false]) | ((with_reducible refine F5 ?_ ?_);(focus exact rfl))))
  exact Am (A7 []) Tryz.results227
 ·have g48:decide ((n:Int)≥48)=true:=by simp;omega
  have l57:decide ((n:Int)≤57)=false:=by simp;omega
  have g97:decide ((n:Int)≥97)=false:=by simp;omega
  have g65:decide ((n:Int)≥65)=false:=by simp;omega
  have m1:decide (48≤n)=true:=by simp;omega
  have m2:decide (n≤57)=false:=by simp;omega
  have m3:decide (97≤n)=false:=by simp;omega
  have m4:decide (n≤102)=true:=by simp;omega
  have m5:decide (65≤n)=false:=by simp;omega
  have m6:decide (n≤70)=true:=by simp;omega
  simp only[m1,m2,m3,m4,m5,m6,Bool.true_and,Bool.false_and,Bool.and_true,Bool.and_false,if_true,Bool.false_eq_true,if_false]
  refine A6 Tryz.func227 Tryz.ntmps227 ?_
  refine A0 (j4 g48 l57 g97 g65) ?_
  exact Am (A7 []) Tryz.results227
 ·have g48:decide ((n:Int)≥48)=true:=by simp;omega
  have l57:decide ((n:Int)≤57)=false:=by simp;omega
  have g97:decide ((n:Int)≥97)=false:=by simp;omega
  have g65:decide ((n:Int)≥65)=true:=by simp;omega
  have l70:decide ((n:Int)≤70)=true:=by simp;omega
  have m1:decide (48≤n)=true:=by simp;omega
  have m2:decide (n≤57)=false:=by simp;omega
  have m3:decide (97≤n)=false:=by simp;omega
  have m4:decide (n≤102)=true:=by simp;omega
  have m5:decide (65≤n)=true:=by simp;omega
  have m6:decide (n≤70)=true:=by simp;omega
  have w1:IntKind.u8.wrap ((n:Int)-65)=(n:Int)-65:=Gt (by omega) (by omega)
  have w2:IntKind.i64.wrap ((n:Int)-65)=(n:Int)-65:=CG (by omega) (by omega)
  have w3:IntKind.i64.wrap ((n:Int)-65+10)=(n:Int)-55:=by rw[CG (by omega) (by omega)];omega
  simp only[m1,m2,m3,m4,m5,m6,Bool.true_and,Bool.false_and,Bool.and_true,Bool.and_false,if_true,Bool.false_eq_true,if_false]
  refine A6 Tryz.func227 Tryz.ntmps227 ?_
  (repeat (first | (with_reducible first | refine GU ?_ | refine Br ?_ | refine DT ?_ | refine DU ?_) | ((with_reducible apply F7);(iterate 2 (focus (first | (simp only[go_sem,Nat.reduceEqDiff,Nat.reduceAdd,Nat.reduceSub,Nat.reduceLeDiff,Nat.reduceMul,Nat.reduceBEq,Nat.reduceLT,Int.reduceToNat,reduceCtorEq,g48,l57,g97,g65,l70,w1,w2,w3];first | done | exact rfl | (and_intros<;>rfl)) | exact rfl | decide)))) | ((with_reducible refine GT ?_);dsimp only;try ((with_reducible apply Fb);(focus (simp only[go_sem];exact rfl));(focus decide))) | ((with_reducible first | refine Ha ?_ | refine F9 ?_ | refine DQ ?_);dsimp only) | ((with_reducible refine F8 ?_);dsimp only;simp only[if_true,if_false,Nat.reduceEqDiff]) | ((with_reducible apply Mi);(focus (simp only[go_sem,Nat.reduceBEq,Nat.reduceLT,g48,l57,g97,g65,l70,w1,w2,w3];exact rfl));dsimp only[cond_true,cond_false]) | ((with_reducible refine F5 ?_ ?_);(focus exact rfl))))
  exact Am (A7 []) Tryz.results227
 ·have g48:decide ((n:Int)≥48)=true:=by simp;omega
  have l57:decide ((n:Int)≤57)=false:=by simp;omega
  have g97:decide ((n:Int)≥97)=false:=by simp;omega
  have g65:decide ((n:Int)≥65)=true:=by simp;omega
  have l70:decide ((n:Int)≤70)=false:=by simp;omega
  have m1:decide (48≤n)=true:=by simp;omega
  have m2:decide (n≤57)=false:=by simp;omega
  have m3:decide (97≤n)=false:=by simp;omega
  have m4:decide (n≤102)=true:=by simp;omega
  have m5:decide (65≤n)=true:=by simp;omega
  have m6:decide (n≤70)=false:=by simp;omega
  simp only[m1,m2,m3,m4,m5,m6,Bool.true_and,Bool.false_and,Bool.and_true,Bool.and_false,if_true,Bool.false_eq_true,if_false]
  refine A6 Tryz.func227 Tryz.ntmps227 ?_
  refine A0 (j5 g48 l57 g97 g65 l70) ?_
  exact Am (A7 []) Tryz.results227
 ·have g48:decide ((n:Int)≥48)=true:=by simp;omega
  have l57:decide ((n:Int)≤57)=false:=by simp;omega
  have g97:decide ((n:Int)≥97)=true:=by simp;omega
  have l102:decide ((n:Int)≤102)=true:=by simp;omega
  have m1:decide (48≤n)=true:=by simp;omega
  have m2:decide (n≤57)=false:=by simp;omega
  have m3:decide (97≤n)=true:=by simp;omega
  have m4:decide (n≤102)=true:=by simp;omega
  have m5:decide (65≤n)=true:=by simp;omega
  have m6:decide (n≤70)=false:=by simp;omega
  have w1:IntKind.u8.wrap ((n:Int)-97)=(n:Int)-97:=Gt (by omega) (by omega)
  have w2:IntKind.i64.wrap ((n:Int)-97)=(n:Int)-97:=CG (by omega) (by omega)
  have w3:IntKind.i64.wrap ((n:Int)-97+10)=(n:Int)-87:=by rw[CG (by omega) (by omega)];omega
  simp only[m1,m2,m3,m4,m5,m6,Bool.true_and,Bool.false_and,Bool.and_true,Bool.and_false,if_true,Bool.false_eq_true,if_false]
  refine A6 Tryz.func227 Tryz.ntmps227 ?_
  (repeat (first | (with_reducible first | refine GU ?_ | refine Br ?_ | refine DT ?_ | refine DU ?_) | ((with_reducible apply F7);(iterate 2 (focus (first | (simp only[go_sem,Nat.reduceEqDiff,Nat.reduceAdd,Nat.reduceSub,Nat.reduceLeDiff,Nat.reduceMul,Nat.reduceBEq,Nat.reduceLT,Int.reduceToNat,reduceCtorEq,g48,l57,g97,l102,w1,w2,w3];first | done | exact rfl | (and_intros<;>rfl)) | exact rfl | decide)))) | ((with_reducible refine GT ?_);dsimp only;try ((with_reducible apply Fb);(focus (simp only[go_sem];exact rfl));(focus decide))) | ((with_reducible first | refine Ha ?_ | refine F9 ?_ | refine DQ ?_);dsimp only) | ((with_reducible refine F8 ?_);dsimp only;simp only[if_true,if_false,Nat.reduceEqDiff]) | ((with_reducible apply Mi);(focus (simp only[go_sem,Nat.reduceBEq,Nat.reduceLT,g48,l57,g97,l102,w1,w2,w3];exact rfl));dsimp only[cond_true,cond_false]) | ((with_reducible refine F5 ?_ ?_);(focus exact rfl))))
  exact Am (A7 []) Tryz.results227
 ·have g48:decide ((n:Int)≥48)=true:=by simp;omega
  have l57:decide ((n:Int)≤57)=false:=by simp;omega
  have g97:decide ((n:Int)≥97)=true:=by simp;omega
  have l102:decide ((n:Int)≤102)=false:=by simp;omega
  have g65:decide ((n:Int)≥65)=true:=by simp;omega
  have l70:decide ((n:Int)≤70)=false:=by simp;omega
  have m1:decide (48≤n)=true:=by simp;omega
  have m2:decide (n≤57)=false:=by simp;omega
  have m3:decide (97≤n)=true:=by simp;omega
  have m4:decide (n≤102)=false:=by simp;omega
  have m5:decide (65≤n)=true:=by simp;omega
  have m6:decide (n≤70)=false:=by simp;omega
  simp only[m1,m2,m3,m4,m5,m6,Bool.true_and,Bool.false_and,Bool.and_true,Bool.and_false,if_true,Bool.false_eq_true,if_false]
  refine A6 Tryz.func227 Tryz.ntmps227 ?_
  refine A0 (j6 g48 l57 g97 l102 g65 l70) ?_
  exact Am (A7 []) Tryz.results227
end
section
open Go.RowKit
section
variable {P:Program}
section
variable {σ:ASt} {a:Act} {w:World} {Γ:Ctx}
theorem M6 {ow:Nat→Option Id}{κ:Id→Value}(h:RelAt Γ σ a w ow κ) {fn:Func}{m:Mem}{res:AV}{m':Mem}(hΓ:∀i o o',m.get i=some o→m'.get i=some o'→i∈Γ.ext) (hR:DR P fn m res m' σ):∃v,(results fn a.tmps).run P w=.ok v w∧∃ow' κ',ExitAt Γ m m' w res v ow' κ':=by
 obtain⟨r,h1,ρ,bw,h2,h3,h4,h5⟩:=hR
 obtain⟨v,g1,g2⟩:=MN h h1
 have hS:∀b,Γ.sees ow b→Γ.sees (BK ρ m' ow) b:=fun b hb=>⟨Cr hb.1,hb.2⟩
 have hT:∀b j,j∈bw→ow b=some j→Γ.sees (BK ρ m' ow) b:=fun b j hj hb=>⟨Gb h4 hj hb,by
  by_cases h1:Γ.w.heap.size≤b
  ·exact .inr (.inl h1)
  ·by_cases h2:Γ.ow b=none
   ·have:=(h.frame b (by omega) h2).2
    rw[this]at hb
    cases hb
   ·exact .inr (.inr h2)⟩
 refine⟨v,g1,BK ρ m' ow,Cz ρ κ,Mat.rep h4 hS hT h.objs h2 h3 g2,fun i o hi=>Dj.rep h4 hS hT h.objs hi,fun b i hb=>?_,h.os,h.tape,h.output,h.size,fun b hb h0=>?_,fun i o o' hi hi'=>?_⟩
 ·obtain⟨⟨o,h1,h2⟩,j,_,h3⟩:=Db h4.nd hb
  exact⟨(h.own b j h3).1,o,h1,h2⟩
 ·obtain⟨h1,h2⟩:=h.frame b hb h0
  exact⟨h1,Cr h2⟩
 ·have:=h5 (i,o) (Mem.mem_of_get hi) (by simp[hi'])
  simp only at this
  simp only[Cz,this]
  exact (h.kap i (hΓ i o o' hi hi')).1
end
theorem AC.intro_ext (L:List Id) {f:FuncId}{fn:Func}{c:Code}{args:List AV}{m:Mem}{res:AV}{m':Mem}(hm:P.follows .mixedOrders=true) (hf:P.funcs[f]? = some fn) (hb:fn.body=some c)
  (hL:(L.all fun i=>(m.get i).isSome)=true) (hL':(m'.all fun p=>!(m.get p.1).isSome||L.contains p.1)=true)
  (h:awp P L c (fun e σ=>match e with
   | .exit _=>False
   |_=>DR P fn m res m' σ) ⟨args++List.replicate (fn.ntmps-args.length) .undef,m⟩):AC P f args m res m':=by
 intro Γ B7 hent hargs
 refine calls_of_wp hf hb ?_
 have hl:=hargs.length
 have hr:Rel { Γ with ext:=L } ⟨args++List.replicate (fn.ntmps-args.length) .undef,m⟩ { tmps:=B7.toArray++Array.replicate (fn.ntmps-B7.toArray.size) undef,defers:=[] } Γ.w:=by
  refine⟨Γ.ow,Γ.κ,by simp[hl],rfl,fun t=>?_,hent.objs,hent.own,rfl,rfl,rfl,Nat.le_refl _,fun b _ h0=>⟨rfl,h0⟩,fun i hi=>⟨rfl,?_⟩⟩
  ·have:=ARs.getD hargs t
   by_cases ht:t<args.length
   ·have e1:(⟨args++List.replicate (fn.ntmps-args.length) .undef,m⟩:ASt).slot t=args.getD t .undef:=by
     simp only[ASt.slot,List.getD,List.getElem?_append_left ht]
    have e2:(B7.toArray++Array.replicate (fn.ntmps-B7.toArray.size) undef).getD t undef=B7.getD t undef:=by
     rw[Array.getD_eq_getD_getElem?,Array.getElem?_append_left (by simp;omega)]
     simp[List.getD]
    show AR _ _ _ _ (ASt.slot _ t) (Array.getD _ t undef)
    rw[e1,e2]
    exact this
   ·have e1:(⟨args++List.replicate (fn.ntmps-args.length) .undef,m⟩:ASt).slot t=.undef:=by
     simp only[ASt.slot,List.getD,List.getElem?_append_right (Nat.le_of_not_lt ht),List.getElem?_replicate]
     split<;>rfl
    show AR _ _ _ _ (ASt.slot _ t) (Array.getD _ t undef)
    rw[e1]
    trivial
  ·exact Option.isSome_iff_exists.1 (List.all_eq_true.1 hL i hi)
 have h':awp P ({ Γ with ext:=L }:Ctx).ext c _ _:=h
 refine wp_mono (CO hm c _ _ _ _ h' hr) ?_
 intro e a' w' hq
 have fin:∀τ,Rel { Γ with ext:=L } τ a' w'→DR P fn m res m' τ→a'.defers=[]∧∃v,(results fn a'.tmps).run P w'=.ok v w'∧∃v',∃ow κ,Ending.returned v=.returned v'∧ExitAt Γ m m' w' res v' ow κ:=by
  rintro τ ⟨ow,κ,hr'⟩ hR
  obtain⟨v,g1,ow',κ',g2⟩:=M6 hr' (fun i o o' h1 h2=>by
   have:=List.all_eq_true.1 hL' (i,o') (Mem.mem_of_get h2)
   simp only[h1,Option.isSome_some,Bool.not_true,Bool.false_or]at this
   exact List.contains_iff_mem.1 this) hR
  exact⟨hr'.defers,v,g1,v,ow',κ',rfl,⟨g2.res,g2.objs,g2.own,g2.os,g2.tape,g2.output,g2.size,g2.frame,g2.kap⟩⟩
 cases e with
 |normal=>obtain⟨τ,h1,h2⟩:=hq;exact fin τ h1 h2
 |ret=>obtain⟨τ,h1,h2⟩:=hq;exact fin τ h1 h2
 |exit id=>obtain⟨τ,h1,h2⟩:=hq;exact h2
 |goto l=>exact hq.elim
 |panic ch=>exact hq.elim
 |outgrown=>exact hq.elim
theorem AC.intro_spx (L:List Id) {f:FuncId}{fn:Func}{c:Code}{args:List AV}{m:Mem}{res:AV}{m':Mem}{n:Nat}(hm:P.follows .mixedOrders=true) (hf:P.funcs[f]? = some fn) (hb:fn.body=some c) (hn:fn.ntmps=n) (hl:args.length≤n)
  (hL:(L.all fun i=>(m.get i).isSome)=true) (hL':(m'.all fun p=>!(m.get p.1).isSome||L.contains p.1)=true)
  (h:awp P L c (fun e σ=>match e with
   | .exit _=>False
   |_=>DR P fn m res m' σ) ⟨sp n (I2 0 args),m⟩):AC P f args m res m':=by
 refine AC.intro_ext L hm hf hb hL hL' ?_
 rw[hn,WB hl]
 exact h
end
end
end Go.Proofs.YtllfmaflodbieaaGreatDoor
