/- Texts of this proof: M45 M46. -/
import Derived.Test.YtllfmaflodbieaaGreatDoorKG83uM29
set_option linter.all false
namespace Go.Proofs.YtllfmaflodbieaaGreatDoor
open Go.RowKit
def bAt (s:ByteArray) (i:Nat):Nat:=match s[i]? with
 |some b=>b.toNat
 |none=>256
theorem Ea {s:ByteArray}{i:Nat}(h:i<s.size):∃b:UInt8,s[i]? = some b∧bAt s i=b.toNat:=by
 have h1:s[i]? = some s[i]:=getElem?_pos s i h
 exact⟨s[i],h1,by unfold bAt;rw[h1]⟩
theorem Eu {s:ByteArray}{i:Nat}(h:s.size≤i):bAt s i=256:=by
 have h1:s[i]? = none:=getElem?_neg s i (by omega)
 unfold bAt
 rw[h1]
theorem EM {s:ByteArray}{i:Nat}(h:bAt s i<256):i<s.size:=by
 rcases Nat.lt_or_ge i s.size with h1 | h1
 ·exact h1
 ·rw[Eu h1]at h;omega
theorem a28 (s:ByteArray) (i:Nat):bAt s i≤256:=by
 rcases Nat.lt_or_ge i s.size with h1 | h1
 ·obtain⟨b,_,h2⟩:=Ea h1
  have:=b.toNat_lt
  omega
 ·rw[Eu h1];exact Nat.le_refl _
def Dd (n:Nat):Bool:=n==32||n==9||n==10||n==13
def Bx (n:Nat):Bool:=decide (48≤n)&&decide (n≤57)
theorem S6 {n:Nat}(h:Dd n=true):n<256:=by
 unfold Dd at h
 simp only[Bool.or_eq_true,beq_iff_eq]at h
 omega
theorem GB {n:Nat}(h:Bx n=true):48≤n∧n≤57:=by
 unfold Bx at h
 simpa using h
def Aw (s:ByteArray) (i:Nat):Nat:=if h:Dd (bAt s i)=true then Aw s (i+1) else i
termination_by s.size-i
decreasing_by
 have:=EM (S6 h)
 omega
theorem Ka {s:ByteArray}{i:Nat}(h:Dd (bAt s i)=true):Aw s i=Aw s (i+1):=by rw[Aw,dif_pos h]
theorem DW {s:ByteArray}{i:Nat}(h:Dd (bAt s i)=false):Aw s i=i:=by rw[Aw,dif_neg (by simp[h])]
theorem a2d {s:ByteArray}:∀(n i:Nat),s.size-i≤n→i≤s.size→i≤Aw s i∧Aw s i≤s.size∧Dd (bAt s (Aw s i))=false:=by
 intro n
 induction n with
 |zero =>
  intro i hn hi
  have hb:Dd (bAt s i)=false:=by rw[Eu (by omega)];rfl
  rw[DW hb]
  exact⟨Nat.le_refl _,hi,hb⟩
 |succ n ih =>
  intro i hn hi
  cases hb:Dd (bAt s i) with
  |false=>rw[DW hb];exact⟨Nat.le_refl _,hi,hb⟩
  |true =>
   have hlt:=EM (S6 hb)
   rw[Ka hb]
   obtain⟨h1,h2,h3⟩:=ih (i+1) (by omega) (by omega)
   exact⟨by omega,h2,h3⟩
theorem C9 {s:ByteArray}{i:Nat}(h:i≤s.size):i≤Aw s i∧Aw s i≤s.size∧Dd (bAt s (Aw s i))=false:=a2d _ i (Nat.le_refl _) h
theorem FL {s:ByteArray}{i:Nat}(h:i≤s.size):Aw s (Aw s i)=Aw s i:=DW (C9 h).2.2
def Fb (s:ByteArray) (i:Nat):Nat:=if h:Bx (bAt s i)=true then Fb s (i+1) else i
termination_by s.size-i
decreasing_by
 have h1:=GB h
 have:=EM (s:=s) (i:=i) (by omega)
 omega
theorem Nk {s:ByteArray}{i:Nat}(h:Bx (bAt s i)=true):Fb s i=Fb s (i+1):=by rw[Fb,dif_pos h]
theorem IX {s:ByteArray}{i:Nat}(h:Bx (bAt s i)=false):Fb s i=i:=by rw[Fb,dif_neg (by simp[h])]
theorem a0y {s:ByteArray}:∀(n i:Nat),s.size-i≤n→i≤s.size→i≤Fb s i∧Fb s i≤s.size∧Bx (bAt s (Fb s i))=false∧∀j,i≤j→j<Fb s i→Bx (bAt s j)=true:=by
 intro n
 induction n with
 |zero =>
  intro i hn hi
  have hb:Bx (bAt s i)=false:=by rw[Eu (by omega)];rfl
  rw[IX hb]
  exact⟨Nat.le_refl _,hi,hb,fun j h1 h2=>by omega⟩
 |succ n ih =>
  intro i hn hi
  cases hb:Bx (bAt s i) with
  |false=>rw[IX hb];exact⟨Nat.le_refl _,hi,hb,fun j h1 h2=>by omega⟩
  |true =>
   have h0:=GB hb
   have hlt:=EM (s:=s) (i:=i) (by omega)
   rw[Nk hb]
   obtain⟨h1,h2,h3,h4⟩:=ih (i+1) (by omega) (by omega)
   refine⟨by omega,h2,h3,fun j g1 g2=>?_⟩
   by_cases hj:j=i
   ·rw[hj];exact hb
   ·exact h4 j (by omega) g2
theorem ML {s:ByteArray}{i:Nat}(h:i≤s.size):i≤Fb s i∧Fb s i≤s.size∧Bx (bAt s (Fb s i))=false∧∀j,i≤j→j<Fb s i→Bx (bAt s j)=true:=a0y _ i (Nat.le_refl _) h
def Dg (s:ByteArray) (a:Nat):Nat→Nat
 | 0=>0
 |k+1=>Dg s a k*10+(bAt s (a+k)-48)
inductive Rd (α:Type) where
 |ok (v:α) (e:Nat)
 |bad (c:Int) (p:Nat)
def Br (s:ByteArray) (i:Nat):Nat:=if bAt s i=45 then i+1 else i
def BO (s:ByteArray) (i:Nat):Nat:=if bAt s (Br s i)=48 then Br s i+1 else Fb s (Br s i)
def H2 (s:ByteArray) (i:Nat):Int:=if bAt s i=45 then -((Dg s (Br s i) (BO s i-Br s i):Nat):Int) else ((Dg s (Br s i) (BO s i-Br s i):Nat):Int)
def Fm (s:ByteArray) (i:Nat):Bool:=decide (16<BO s i-Br s i)||decide (1000000000000000<Dg s (Br s i) (BO s i-Br s i))
def Ld (n:Nat):Bool:=n==46||n==101||n==69
def Pe (s:ByteArray) (i:Nat):Rd Int :=
 if Bx (bAt s (Br s i))=false then .bad 5 (Br s i) else if Fm s i then .bad 3 i else if Ld (bAt s (BO s i)) then .bad 3 (BO s i) else .ok (H2 s i) (BO s i)
def CN (n:Nat):ByteArray:=⟨#[UInt8.ofNat n]⟩
def Cl (n:Nat):Int:=if Bx n then (n:Int)-48 else if decide (97≤n)&&decide (n≤102) then (n:Int)-87 else if decide (65≤n)&&decide (n≤70) then (n:Int)-55 else -1
def MC (s:ByteArray) (i:Nat):Rd Nat :=
 if bAt s (i+1)=34∨bAt s (i+1)=92∨bAt s (i+1)=47 then .ok (bAt s (i+1)) (i+2)
 else if bAt s (i+1)≠117 then .bad 5 (i+1) else if bAt s (i+2)≠48 then .bad 5 (i+2) else if bAt s (i+3)≠48 then .bad 5 (i+3)
 else if Cl (bAt s (i+4))<0 then .bad 5 (i+4) else if Cl (bAt s (i+5))<0 then .bad 5 (i+5)
 else if 32≤16*Cl (bAt s (i+4))+Cl (bAt s (i+5))∧16*Cl (bAt s (i+4))+Cl (bAt s (i+5))≤126 then .ok (16*Cl (bAt s (i+4))+Cl (bAt s (i+5))).toNat (i+6) else .bad 5 (i+4)
def Gg (s:ByteArray) (from_:Nat):Nat→Nat→ByteArray→Rd ByteArray
 | 0,_,_=>.bad 5 s.size
 |n+1,i,out=>if s.size≤i then .bad 5 s.size else if bAt s i=34 then (if 60<out.size then .bad 2 from_ else .ok out (i+1))
  else if bAt s i<32∨126<bAt s i then .bad 5 i else if bAt s i≠92 then Gg s from_ n (i+1) (out++CN (bAt s i))
  else match MC s i with
   | .bad c p=>.bad c p
   | .ok b e=>Gg s from_ n e (out++CN b)
def LK (s:ByteArray) (i:Nat):Rd ByteArray:=if bAt s i≠34 then .bad 5 i else Gg s i (s.size+1) (i+1) ByteArray.empty
def Gi (s:ByteArray) (v:V) (i:Nat):List Nat→Nat→Rd V
 | [],k=>.ok v (i+k)
 |b::r,k=>if bAt s (i+k)=b then Gi s v i r (k+1) else .bad 5 (i+k)
def En (k:Int):V:=.mk k 0 ByteArray.empty [] []
def KC (s:ByteArray) (i:Nat):Rd ByteArray:=match LK s i with
 | .bad c p=>.bad c p
 | .ok k e=>if bAt s (Aw s e)≠58 then .bad 5 (Aw s e) else .ok k (Aw s (Aw s e+1))
def Dx (s:ByteArray) (rd:Nat→Rd V) (obj:Bool):Nat→Nat→Bool→List ByteArray→List V→Rd V
 | 0,_,_,_,_=>.bad 5 s.size
 |n+1,i,first,keys,kids =>
  if bAt s i=(if obj then 125 else 93) then .ok (if obj then EJ keys kids else Ba kids) (i+1)
  else if first=false∧bAt s i≠44 then .bad 5 i
  else match (if obj then KC s (if first then i else Aw s (i+1)) else .ok ByteArray.empty (if first then i else Aw s (i+1))) with
   | .bad c p=>.bad c p
   | .ok k e=>match rd e with
    | .bad c p=>.bad c p
    | .ok v e2=>Dx s rd obj n (Aw s e2) false (if obj then keys++[k] else keys) (kids++[v])
def FA:Nat→ByteArray→Nat→Rd V
 | 0,s,i=>if s.size≤i then .bad 5 s.size else .bad 7 i
 |k+1,s,i=>if s.size≤i then .bad 5 s.size
  else if bAt s i=110 then Gi s (En 0) i [110,117,108,108] 0
  else if bAt s i=102 then Gi s (En 1) i [102,97,108,115,101] 0
  else if bAt s i=116 then Gi s (En 2) i [116,114,117,101] 0
  else if bAt s i=91 then Dx s (FA k s) false (s.size+1) (Aw s (i+1)) true [] []
  else if bAt s i=123 then Dx s (FA k s) true (s.size+1) (Aw s (i+1)) true [] []
  else if bAt s i=34 then (match LK s i with
   | .bad c p=>.bad c p
   | .ok t e=>.ok (C6 t) e)
  else match Pe s i with
   | .bad c p=>.bad c p
   | .ok n e=>.ok (Ar n) e
def Wx (s:ByteArray):(Int×Nat)×Option V :=
 if 4000<s.size then ((2,0),none) else match FA 20 s (Aw s 0) with
  | .bad c p=>((c,p),none)
  | .ok v e=>if Aw s e<s.size then ((5,Aw s e),none) else if 200<v.count then ((2,0),none) else ((0,0),some v)
def LG (c:Int):Prop:=c=2∨c=3∨c=5∨c=7
theorem EZ {c:Int}(h:LG c):c≠0:=by unfold LG at h;omega
def Rd.fine {α:Type}(s:ByteArray) (i:Nat) (P:α→Nat→Prop):Rd α→Prop
 | .ok v e=>i<e∧e≤s.size∧P v e
 | .bad c p=>LG c∧i≤p∧p≤s.size
theorem rd5:LG 5:=.inr (.inr (.inl rfl))
theorem S5 {s:ByteArray}{i:Nat}(h:i<s.size):bAt s i<256:=by
 obtain⟨b,_,h2⟩:=Ea h
 rw[h2];exact b.toNat_lt
theorem Dz {s:ByteArray}{i:Nat}(h:bAt s i≠256):i<s.size:=EM (by have:=a28 s i;omega)
theorem MV {s:ByteArray}{i:Nat}(h:i<s.size):i≤Br s i∧Br s i≤i+1∧Br s i≤s.size:=by
 unfold Br
 split
 ·exact⟨by omega,Nat.le_refl _,by omega⟩
 ·exact⟨Nat.le_refl _,by omega,by omega⟩
theorem MW {s:ByteArray}{i:Nat}(h:i<s.size) (hd:Bx (bAt s (Br s i))=true):Br s i<BO s i∧BO s i≤s.size∧∀j,Br s i≤j→j<BO s i→Bx (bAt s j)=true:=by
 have hlt:=EM (s:=s) (i:=Br s i) (by have:=GB hd;omega)
 unfold BO
 by_cases h0:bAt s (Br s i)=48
 ·rw[if_pos h0]
  refine⟨by omega,by omega,fun j h1 h2=>?_⟩
  have:j=Br s i:=by omega
  rw[this];exact hd
 ·rw[if_neg h0]
  obtain⟨h1,h2,_,h3⟩:=ML (s:=s) (i:=Br s i) (by omega)
  refine⟨?_,h2,h3⟩
  rw[Nk hd]
  have:=(ML (s:=s) (i:=Br s i+1) (by omega)).1
  omega
theorem i7 {s:ByteArray}{i:Nat}(h:Fm s i=false):-1000000000000000≤H2 s i∧H2 s i≤1000000000000000:=by
 have h2:Dg s (Br s i) (BO s i-Br s i)≤1000000000000000:=by
  unfold Fm at h
  have:=(Bool.or_eq_false_iff.1 h).2
  simpa using this
 unfold H2
 split<;>omega
theorem Y6 {s:ByteArray}{i:Nat}(h:i<s.size):(Pe s i).fine s i fun n _=>-1000000000000000≤n∧n≤1000000000000000:=by
 obtain⟨ha,ha',ha2⟩:=MV h
 unfold Pe
 cases hd:Bx (bAt s (Br s i)) with
 |false=>exact⟨rd5,ha,ha2⟩
 |true =>
  obtain⟨h1,h2,_⟩:=MW h hd
  simp only[Bool.true_eq_false,if_false]
  cases hb:Fm s i with
  |true=>exact⟨.inr (.inl rfl),Nat.le_refl _,by omega⟩
  |false =>
   simp only[Bool.false_eq_true,if_false]
   split
   ·exact⟨.inr (.inl rfl),by omega,h2⟩
   ·exact⟨by omega,h2,i7 hb⟩
theorem MP {n:Nat}(h:¬Cl n<0):48≤n∧n≤102∧Cl n≤15∧0≤Cl n:=by
 unfold Cl at *
 unfold Bx at *
 by_cases h1:48≤n<;>by_cases h2:n≤57<;>by_cases h3:97≤n<;>by_cases h4:n≤102<;>by_cases h5:65≤n<;>by_cases h6:n≤70<;>simp[h1,h2,h3,h4,h5,h6]at h ⊢<;>omega
theorem PB {s:ByteArray}{i:Nat}(h:i<s.size):(MC s i).fine s i fun b _=>32≤b∧b≤126:=by
 unfold MC
 split
 ·rename_i h1
  have hlt:=Dz (s:=s) (i:=i+1) (by omega)
  exact⟨by omega,by omega,by omega,by omega⟩
 split
 ·exact⟨rd5,by omega,by omega⟩
 rename_i h0 h1
 have hlt:=Dz (s:=s) (i:=i+1) (by omega)
 split
 ·exact⟨rd5,by omega,by omega⟩
 rename_i h2
 have hlt2:=Dz (s:=s) (i:=i+2) (by omega)
 split
 ·exact⟨rd5,by omega,by omega⟩
 rename_i h3
 have hlt3:=Dz (s:=s) (i:=i+3) (by omega)
 split
 ·exact⟨rd5,by omega,by omega⟩
 rename_i h4
 have g4:=MP h4
 have hlt4:=Dz (s:=s) (i:=i+4) (by omega)
 split
 ·exact⟨rd5,by omega,by omega⟩
 rename_i h5
 have g5:=MP h5
 have hlt5:=Dz (s:=s) (i:=i+5) (by omega)
 split
 ·exact⟨by omega,by omega,by omega,by omega⟩
 ·exact⟨rd5,by omega,by omega⟩
def VB (t:ByteArray):Prop:=t.data.toList.all Dy=true
theorem VC:VB ByteArray.empty:=by unfold VB;rfl
theorem Q2 {t:ByteArray}(h:VB t) {n:Nat}(h1:32≤n) (h2:n≤126):VB (t++CN n):=by
 unfold VB at *
 have hb:Dy (UInt8.ofNat n)=true:=by
  have:(UInt8.ofNat n).toNat=n:=by
   rw[UInt8.toNat_ofNat']
   exact Nat.mod_eq_of_lt (by omega)
  unfold Dy
  rw[this]
  simp[h1,h2]
 have hd:(t++CN n).data=t.data++#[UInt8.ofNat n]:=ByteArray.data_append
 rw[hd,Array.toList_append,List.all_append,h]
 simp[hb]
theorem Pq (n:Nat):(CN n).size=1:=rfl
theorem H9 (t:ByteArray) (n:Nat):(t++CN n).size=t.size+1:=by rw[ByteArray.size_append,Pq]
theorem We {s:ByteArray}{from_:Nat}:∀(n i:Nat) (out:ByteArray),s.size-i<n→from_<i→i≤s.size→VB out→(Gg s from_ n i out).fine s from_ fun t _=>AP t=true:=by
 intro n
 induction n with
 |zero=>intro i out hn;omega
 |succ n ih =>
  intro i out hn hf hi ho
  unfold Gg
  split
  ·exact⟨rd5,by omega,Nat.le_refl _⟩
  split
  ·split
   ·exact⟨.inl rfl,Nat.le_refl _,by omega⟩
   ·rename_i h60
    refine⟨by omega,by omega,?_⟩
    show AP out=true
    unfold AP
    unfold VB at ho
    rw[ho]
    simp
    omega
  split
  ·exact⟨rd5,by omega,hi⟩
  rename_i h1 h2 h3
  split
  ·exact ih (i+1) _ (by omega) (by omega) (by omega) (Q2 ho (by omega) (by omega))
  ·have he:=PB (s:=s) (i:=i) (by omega)
   cases hr:MC s i with
   |bad c p =>
    rw[hr]at he
    exact⟨he.1,by have:=he.2.1;omega,he.2.2⟩
   |ok b e =>
    rw[hr]at he
    obtain⟨g1,g2,g3,g4⟩:=he
    exact ih e _ (by omega) (by omega) g2 (Q2 ho g3 g4)
theorem LL {s:ByteArray}{i:Nat}(hi:i≤s.size):(LK s i).fine s i fun t _=>AP t=true:=by
 unfold LK
 split
 ·exact⟨rd5,Nat.le_refl _,hi⟩
 ·rename_i h
  have hlt:=Dz (s:=s) (i:=i) (by omega)
  exact We _ _ _ (by omega) (by omega) (by omega) VC
theorem OP {s:ByteArray}{v:V}{i:Nat}:∀(l:List Nat) (k:Nat),(∀b∈l,b<256)→i+k≤s.size→(l≠[]∨0<k)→(Gi s v i l k).fine s i fun x _=>x=v
 | [],k,_,h,hk=>by
  unfold Gi
  refine⟨?_,h,rfl⟩
  rcases hk with hk | hk
  ·exact absurd rfl hk
  ·omega
 |b::r,k,hb,h,hk=>by
  unfold Gi
  split
  ·rename_i hbe
   have h1:=hb b (by simp)
   have hlt:=EM (s:=s) (i:=i+k) (by omega)
   exact OP r (k+1) (fun x hx=>hb x (by simp[hx])) (by omega) (.inr (by omega))
  ·exact⟨rd5,by omega,h⟩
theorem Lp {s:ByteArray}{i:Nat}(hi:i≤s.size):(KC s i).fine s i fun t _=>AP t=true:=by
 unfold KC
 have h:=LL hi
 cases hr:LK s i with
 |bad c p=>rw[hr]at h;exact h
 |ok k e =>
  rw[hr]at h
  obtain⟨h1,h2,h3⟩:=h
  obtain⟨g1,g2,_⟩:=C9 h2
  show (if bAt s (Aw s e)≠58 then Rd.bad 5 (Aw s e) else .ok k (Aw s (Aw s e+1))).fine s i _
  split
  ·exact⟨rd5,by omega,g2⟩
  ·rename_i h4
   have hlt:=Dz (s:=s) (i:=Aw s e) (by omega)
   obtain⟨g3,g4,_⟩:=C9 (s:=s) (i:=Aw s e+1) (by omega)
   exact⟨by omega,g4,h3⟩
def rdV (k i:Nat) (v:V) (e:Nat):Prop:=v.fit∧v.depth≤k∧v.count≤e-i∧(v.count≤200→v.wf)
theorem Tm {s:ByteArray}{k:Nat}{rd:Nat→Rd V}(hrd:∀i,i≤s.size→(rd i).fine s i (rdV k i)) (i0:Nat) (obj:Bool):∀(n i:Nat) (first:Bool) (keys:List ByteArray) (kids:List V),s.size-i<n→i0<i→i≤s.size→(obj=true→keys.length=kids.length)→(∀x∈keys,AP x=true)→(∀v∈kids,v.fit∧v.depth≤k∧(v.count≤200→v.wf))→Ag kids+i0+1≤i→(Dx s rd obj n i first keys kids).fine s i0 (rdV (k+1) i0):=by
 intro n
 induction n with
 |zero=>intro i first keys kids hn;omega
 |succ n ih =>
  intro i first keys kids hn h0 hi hl hks hvs hc
  unfold Dx
  by_cases hend:bAt s i=(if obj then 125 else 93)
  ·rw[if_pos hend]
   have hlt:=Dz (s:=s) (i:=i) (by rw[hend];cases obj<;>decide)
   refine⟨by omega,by omega,?_⟩
   have hfit:∀v∈kids,v.fit:=fun v hv=>(hvs v hv).1
   have hdep:∀v∈kids,v.depth≤k:=fun v hv=>(hvs v hv).2.1
   cases obj with
   |false =>
    refine⟨Wm hfit,?_,?_,fun h200=>?_⟩
    ·show AF kids+1≤k+1
     have:=GT hdep
     omega
    ·show Ag kids+1≤i+1-i0
     omega
    ·have hcc:Ag kids+1≤200:=h200
     have hcl:=BL kids
     exact QA (MZ.2 fun v hv=>(hvs v hv).2.2 (by have:=BB hv;omega)) (by omega)
   |true =>
    have hl':=hl rfl
    have hmem:∀v∈(B0 keys).map (AS keys kids),v∈kids:=fun v hv=>by
     obtain⟨x,hx,rfl⟩:=List.mem_map.1 hv
     obtain⟨j,_,_,h3⟩:=Ee (kids:=kids) hl' (BP.1 hx)
     exact List.mem_of_getElem? h3
    have hcl:Ag ((B0 keys).map (AS keys kids))≤Ag kids:=G4 _ keys kids hl' rfl
    refine⟨WZ hl' (fun x hx=>H4 (hks x hx)) hfit,?_,?_,fun h200=>?_⟩
    ·show AF ((B0 keys).map (AS keys kids))+1≤k+1
     have:=GT fun v hv=>hdep v (hmem v hv)
     omega
    ·show Ag ((B0 keys).map (AS keys kids))+1≤i+1-i0
     omega
    ·have hcc:Ag ((B0 keys).map (AS keys kids))+1≤200:=h200
     have hln:=BL ((B0 keys).map (AS keys kids))
     refine Vz (List.length_map _).symm (fun x hx=>hks x (BP.1 hx)) (DL _) (fun v hv=>(hvs v (hmem v hv)).2.2 (by have:=BB hv;omega)) (by omega)
  rw[if_neg hend]
  by_cases hcomma:first=false∧bAt s i≠44
  ·rw[if_pos hcomma];exact⟨rd5,by omega,hi⟩
  rw[if_neg hcomma]
  have hj:∃j,(if first then i else Aw s (i+1))=j∧i≤j∧j≤s.size:=by
   cases first with
   |true=>exact⟨i,rfl,Nat.le_refl _,hi⟩
   |false =>
    have hb:bAt s i=44:=Classical.byContradiction fun h=>hcomma ⟨rfl,h⟩
    have hlt:=Dz (s:=s) (i:=i) (by omega)
    obtain⟨g1,g2,_⟩:=C9 (s:=s) (i:=i+1) (by omega)
    exact⟨Aw s (i+1),rfl,by omega,g2⟩
  obtain⟨j,hje,hj1,hj2⟩:=hj
  rw[hje]
  have hk:∃r,(if obj then KC s j else .ok ByteArray.empty j)=r∧(match r with | .bad c p=>LG c∧i0≤p∧p≤s.size | .ok x e=>j≤e∧e≤s.size∧AP x=true):=by
   cases obj with
   |false=>exact⟨_,rfl,Nat.le_refl _,hj2,B7⟩
   |true =>
    refine⟨_,rfl,?_⟩
    have hkf:=Lp hj2
    show (match KC s j with | .bad c p=>LG c∧i0≤p∧p≤s.size | .ok x e=>j≤e∧e≤s.size∧AP x=true)
    cases hkr:KC s j with
    |bad c p=>rw[hkr]at hkf;exact⟨hkf.1,by have:=hkf.2.1;omega,hkf.2.2⟩
    |ok x e=>rw[hkr]at hkf;exact⟨by have:=hkf.1;omega,hkf.2.1,hkf.2.2⟩
  obtain⟨r,hre,hr⟩:=hk
  rw[hre]
  cases r with
  |bad c p=>exact hr
  |ok x e =>
   obtain⟨h1,h2,h3⟩:=hr
   have hv:=hrd e h2
   show (match rd e with | .bad c p=>Rd.bad c p | .ok v e2=>Dx s rd obj n (Aw s e2) false (if obj then keys++[x] else keys) (kids++[v])).fine s i0 _
   cases hve:rd e with
   |bad c p=>rw[hve]at hv;exact⟨hv.1,by have:=hv.2.1;omega,hv.2.2⟩
   |ok v e2 =>
    rw[hve]at hv
    obtain⟨g1,g2,g3,g4,g5,g6⟩:=hv
    obtain⟨k1,k2,_⟩:=C9 g2
    refine ih (Aw s e2) false _ _ (by omega) (by omega) k2 ?_ ?_ ?_ ?_
    ·intro ho
     subst ho
     simp[hl rfl]
    ·intro y hy
     cases obj with
     |false=>exact hks y hy
     |true =>
      rcases List.mem_append.1 hy with hy | hy
      ·exact hks y hy
      ·rw[List.mem_singleton.1 hy];exact h3
    ·intro y hy
     rcases List.mem_append.1 hy with hy | hy
     ·exact hvs y hy
     ·rw[List.mem_singleton.1 hy];exact⟨g3,g4,g6⟩
    ·rw[Gl]
     omega
theorem ZO {k i e:Nat}(m:Int) (h0:m=0∨m=1∨m=2) (h:i<e):rdV (k+1) i (En m) e:=by
 refine⟨⟨Nat.zero_le _,by simp,fun _=>rfl,fun h=>absurd h (by omega),fun _=>rfl,trivial⟩,?_,?_,fun _=>?_⟩
 ·show AF []+1≤k+1
  simp[AF]
 ·show Ag []+1≤e-i
  simp only[Ag]
  omega
 ·refine⟨?_,by simp[E0];omega,trivial⟩
  rcases h0 with rfl | rfl | rfl<;>decide +kernel
theorem a2g {k i e:Nat}{t:ByteArray}(ht:AP t=true) (h:i<e):rdV (k+1) i (C6 t) e:=by
 refine⟨⟨by have:=H4 ht;show t.size≤200;omega,by simp,fun _=>rfl,fun h=>absurd h (by decide),fun _=>rfl,trivial⟩,?_,?_,fun _=>(OF ht).1⟩
 ·show AF []+1≤k+1
  simp[AF]
 ·show Ag []+1≤e-i
  simp only[Ag]
  omega
theorem a1t {k i e:Nat}{n:Int}(hn:-1000000000000000≤n∧n≤1000000000000000) (h:i<e):rdV (k+1) i (Ar n) e:=by
 refine⟨⟨Nat.zero_le _,by simp,fun _=>rfl,fun h=>absurd h (by decide),fun _=>rfl,trivial⟩,?_,?_,fun _=>(K2 hn).1⟩
 ·show AF []+1≤k+1
  simp[AF]
 ·show Ag []+1≤e-i
  simp only[Ag]
  omega
theorem F1 {s:ByteArray}:∀(k i:Nat),i≤s.size→(FA k s i).fine s i (rdV k i)
 | 0,i,h=>by
  unfold FA
  split
  ·exact⟨rd5,h,Nat.le_refl _⟩
  ·exact⟨.inr (.inr (.inr rfl)),Nat.le_refl _,by omega⟩
 |k+1,i,h=>by
  have hw:∀(m:Int) (l:List Nat),(m=0∨m=1∨m=2)→(∀b∈l,b<256)→l≠[]→(Gi s (En m) i l 0).fine s i (rdV (k+1) i):=by
   intro m l hm hb hl
   have hf:=OP (s:=s) (v:=En m) (i:=i) l 0 hb (by omega) (.inl hl)
   cases hr:Gi s (En m) i l 0 with
   |bad c p=>rw[hr]at hf;exact hf
   |ok v e =>
    rw[hr]at hf
    obtain⟨h1,h2,rfl⟩:=hf
    exact⟨h1,h2,ZO m hm h1⟩
  have hm:∀obj:Bool,i<s.size→(Dx s (FA k s) obj (s.size+1) (Aw s (i+1)) true [] []).fine s i (rdV (k+1) i):=by
   intro obj hlt
   obtain⟨g1,g2,_⟩:=C9 (s:=s) (i:=i+1) (by omega)
   exact Tm (fun j hj=>F1 k j hj) i obj _ _ _ _ _ (by omega) (by omega) g2 (fun _=>rfl) (by simp) (by simp) (by simp only[Ag];omega)
  unfold FA
  split
  ·exact⟨rd5,h,Nat.le_refl _⟩
  rename_i hlt
  split
  ·exact hw 0 _ (.inl rfl) (by simp) (by simp)
  split
  ·exact hw 1 _ (.inr (.inl rfl)) (by simp) (by simp)
  split
  ·exact hw 2 _ (.inr (.inr rfl)) (by simp) (by simp)
  split
  ·exact hm false (by omega)
  split
  ·exact hm true (by omega)
  split
  ·have hf:=LL h
   cases hr:LK s i with
   |bad c p=>rw[hr]at hf;exact hf
   |ok t e =>
    rw[hr]at hf
    exact⟨hf.1,hf.2.1,a2g hf.2.2 hf.1⟩
  ·have hf:=Y6 (s:=s) (i:=i) (by omega)
   cases hr:Pe s i with
   |bad c p=>rw[hr]at hf;exact hf
   |ok t e =>
    rw[hr]at hf
    exact⟨hf.1,hf.2.1,a1t hf.2.2 hf.1⟩
end Go.Proofs.YtllfmaflodbieaaGreatDoor
