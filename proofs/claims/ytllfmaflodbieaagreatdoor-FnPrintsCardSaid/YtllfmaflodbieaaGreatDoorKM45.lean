/- The plain mathematics of reading a value off a text: what is read from a place on, and where it ends, or a code and the place of the error. -/
import Derived.Test.YtllfmaflodbieaaGreatDoorKM2
set_option linter.all false
namespace Go.Proofs.YtllfmaflodbieaaGreatDoor
open Go.RowKit
def bAt (s:ByteArray) (i:Nat):Nat:=match s[i]? with
 |some b=>b.toNat
 |none=>256
theorem LO {s:ByteArray}{i:Nat}(h:i<s.size):∃b:UInt8,s[i]? = some b∧bAt s i=b.toNat:=by
 have h1:s[i]? = some s[i]:=getElem?_pos s i h
 exact⟨s[i],h1,by unfold bAt;rw[h1]⟩
theorem Lw {s:ByteArray}{i:Nat}(h:s.size≤i):bAt s i=256:=by
 have h1:s[i]? = none:=getElem?_neg s i (by omega)
 unfold bAt
 rw[h1]
theorem GM {s:ByteArray}{i:Nat}(h:bAt s i<256):i<s.size:=by
 rcases Nat.lt_or_ge i s.size with h1 | h1
 ·exact h1
 ·rw[Lw h1]at h;omega
theorem a47 (s:ByteArray) (i:Nat):bAt s i≤256:=by
 rcases Nat.lt_or_ge i s.size with h1 | h1
 ·obtain⟨b,_,h2⟩:=LO h1
  have:=b.toNat_lt
  omega
 ·rw[Lw h1];exact Nat.le_refl _
def Fb (n:Nat):Bool:=n==32||n==9||n==10||n==13
def G0 (n:Nat):Bool:=decide (48≤n)&&decide (n≤57)
theorem GN {n:Nat}(h:Fb n=true):n<256:=by
 unfold Fb at h
 simp only[Bool.or_eq_true,beq_iff_eq]at h
 omega
theorem Ix {n:Nat}(h:G0 n=true):48≤n∧n≤57:=by
 unfold G0 at h
 simpa using h
def Io (s:ByteArray) (i:Nat):Nat:=if h:Fb (bAt s i)=true then Io s (i+1) else i
termination_by s.size-i
decreasing_by
 have:=GM (GN h)
 omega
theorem Pr {s:ByteArray}{i:Nat}(h:Fb (bAt s i)=true):Io s i=Io s (i+1):=by rw[Io,dif_pos h]
theorem KT {s:ByteArray}{i:Nat}(h:Fb (bAt s i)=false):Io s i=i:=by rw[Io,dif_neg (by simp[h])]
theorem a4j {s:ByteArray}:∀(n i:Nat),s.size-i≤n→i≤s.size→i≤Io s i∧Io s i≤s.size∧Fb (bAt s (Io s i))=false:=by
 intro n
 induction n with
 |zero =>
  intro i hn hi
  have hb:Fb (bAt s i)=false:=by rw[Lw (by omega)];rfl
  rw[KT hb]
  exact⟨Nat.le_refl _,hi,hb⟩
 |succ n ih =>
  intro i hn hi
  cases hb:Fb (bAt s i) with
  |false=>rw[KT hb];exact⟨Nat.le_refl _,hi,hb⟩
  |true =>
   have hlt:=GM (GN hb)
   rw[Pr hb]
   obtain⟨h1,h2,h3⟩:=ih (i+1) (by omega) (by omega)
   exact⟨by omega,h2,h3⟩
theorem Ks {s:ByteArray}{i:Nat}(h:i≤s.size):i≤Io s i∧Io s i≤s.size∧Fb (bAt s (Io s i))=false:=a4j _ i (Nat.le_refl _) h
theorem MN {s:ByteArray}{i:Nat}(h:i≤s.size):Io s (Io s i)=Io s i:=KT (Ks h).2.2
def Jf (s:ByteArray) (i:Nat):Nat:=if h:G0 (bAt s i)=true then Jf s (i+1) else i
termination_by s.size-i
decreasing_by
 have h1:=Ix h
 have:=GM (s:=s) (i:=i) (by omega)
 omega
theorem RP {s:ByteArray}{i:Nat}(h:G0 (bAt s i)=true):Jf s i=Jf s (i+1):=by rw[Jf,dif_pos h]
theorem Ow {s:ByteArray}{i:Nat}(h:G0 (bAt s i)=false):Jf s i=i:=by rw[Jf,dif_neg (by simp[h])]
theorem a3g {s:ByteArray}:∀(n i:Nat),s.size-i≤n→i≤s.size→i≤Jf s i∧Jf s i≤s.size∧G0 (bAt s (Jf s i))=false∧∀j,i≤j→j<Jf s i→G0 (bAt s j)=true:=by
 intro n
 induction n with
 |zero =>
  intro i hn hi
  have hb:G0 (bAt s i)=false:=by rw[Lw (by omega)];rfl
  rw[Ow hb]
  exact⟨Nat.le_refl _,hi,hb,fun j h1 h2=>by omega⟩
 |succ n ih =>
  intro i hn hi
  cases hb:G0 (bAt s i) with
  |false=>rw[Ow hb];exact⟨Nat.le_refl _,hi,hb,fun j h1 h2=>by omega⟩
  |true =>
   have h0:=Ix hb
   have hlt:=GM (s:=s) (i:=i) (by omega)
   rw[RP hb]
   obtain⟨h1,h2,h3,h4⟩:=ih (i+1) (by omega) (by omega)
   refine⟨by omega,h2,h3,fun j g1 g2=>?_⟩
   by_cases hj:j=i
   ·rw[hj];exact hb
   ·exact h4 j (by omega) g2
theorem Rf {s:ByteArray}{i:Nat}(h:i≤s.size):i≤Jf s i∧Jf s i≤s.size∧G0 (bAt s (Jf s i))=false∧∀j,i≤j→j<Jf s i→G0 (bAt s j)=true:=a3g _ i (Nat.le_refl _) h
def L7 (s:ByteArray) (a:Nat):Nat→Nat
 | 0=>0
 |k+1=>L7 s a k*10+(bAt s (a+k)-48)
inductive Rd (α:Type) where
 |ok (v:α) (e:Nat)
 |bad (c:Int) (p:Nat)
def CA (s:ByteArray) (i:Nat):Nat:=if bAt s i=45 then i+1 else i
def Ee (s:ByteArray) (i:Nat):Nat:=if bAt s (CA s i)=48 then CA s i+1 else Jf s (CA s i)
def Ik (s:ByteArray) (i:Nat):Int:=if bAt s i=45 then -((L7 s (CA s i) (Ee s i-CA s i):Nat):Int) else ((L7 s (CA s i) (Ee s i-CA s i):Nat):Int)
def IX (s:ByteArray) (i:Nat):Bool:=decide (16<Ee s i-CA s i)||decide (1000000000000000<L7 s (CA s i) (Ee s i-CA s i))
def JA (n:Nat):Bool:=n==46||n==101||n==69
def T9 (s:ByteArray) (i:Nat):Rd Int :=
 if G0 (bAt s (CA s i))=false then .bad 5 (CA s i) else if IX s i then .bad 3 i else if JA (bAt s (Ee s i)) then .bad 3 (Ee s i) else .ok (Ik s i) (Ee s i)
def Je (n:Nat):ByteArray:=⟨#[UInt8.ofNat n]⟩
def Ji (n:Nat):Int:=if G0 n then (n:Int)-48 else if decide (97≤n)&&decide (n≤102) then (n:Int)-87 else if decide (65≤n)&&decide (n≤70) then (n:Int)-55 else -1
def R8 (s:ByteArray) (i:Nat):Rd Nat :=
 if bAt s (i+1)=34∨bAt s (i+1)=92∨bAt s (i+1)=47 then .ok (bAt s (i+1)) (i+2)
 else if bAt s (i+1)≠117 then .bad 5 (i+1) else if bAt s (i+2)≠48 then .bad 5 (i+2) else if bAt s (i+3)≠48 then .bad 5 (i+3)
 else if Ji (bAt s (i+4))<0 then .bad 5 (i+4) else if Ji (bAt s (i+5))<0 then .bad 5 (i+5)
 else if 32≤16*Ji (bAt s (i+4))+Ji (bAt s (i+5))∧16*Ji (bAt s (i+4))+Ji (bAt s (i+5))≤126 then .ok (16*Ji (bAt s (i+4))+Ji (bAt s (i+5))).toNat (i+6) else .bad 5 (i+4)
def N4 (s:ByteArray) (from_:Nat):Nat→Nat→ByteArray→Rd ByteArray
 | 0,_,_=>.bad 5 s.size
 |n+1,i,out=>if s.size≤i then .bad 5 s.size else if bAt s i=34 then (if 60<out.size then .bad 2 from_ else .ok out (i+1))
  else if bAt s i<32∨126<bAt s i then .bad 5 i else if bAt s i≠92 then N4 s from_ n (i+1) (out++Je (bAt s i))
  else match R8 s i with
   | .bad c p=>.bad c p
   | .ok b e=>N4 s from_ n e (out++Je b)
def Q1 (s:ByteArray) (i:Nat):Rd ByteArray:=if bAt s i≠34 then .bad 5 i else N4 s i (s.size+1) (i+1) ByteArray.empty
def N6 (s:ByteArray) (v:V) (i:Nat):List Nat→Nat→Rd V
 | [],k=>.ok v (i+k)
 |b::r,k=>if bAt s (i+k)=b then N6 s v i r (k+1) else .bad 5 (i+k)
def CP (k:Int):V:=.mk k 0 ByteArray.empty [] []
def O7 (s:ByteArray) (i:Nat):Rd ByteArray:=match Q1 s i with
 | .bad c p=>.bad c p
 | .ok k e=>if bAt s (Io s e)≠58 then .bad 5 (Io s e) else .ok k (Io s (Io s e+1))
def KM (s:ByteArray) (rd:Nat→Rd V) (obj:Bool):Nat→Nat→Bool→List ByteArray→List V→Rd V
 | 0,_,_,_,_=>.bad 5 s.size
 |n+1,i,first,keys,kids =>
  if bAt s i=(if obj then 125 else 93) then .ok (if obj then Jm keys kids else Ir kids) (i+1)
  else if first=false∧bAt s i≠44 then .bad 5 i
  else match (if obj then O7 s (if first then i else Io s (i+1)) else .ok ByteArray.empty (if first then i else Io s (i+1))) with
   | .bad c p=>.bad c p
   | .ok k e=>match rd e with
    | .bad c p=>.bad c p
    | .ok v e2=>KM s rd obj n (Io s e2) false (if obj then keys++[k] else keys) (kids++[v])
def LE:Nat→ByteArray→Nat→Rd V
 | 0,s,i=>if s.size≤i then .bad 5 s.size else .bad 7 i
 |k+1,s,i=>if s.size≤i then .bad 5 s.size
  else if bAt s i=110 then N6 s (CP 0) i [110,117,108,108] 0
  else if bAt s i=102 then N6 s (CP 1) i [102,97,108,115,101] 0
  else if bAt s i=116 then N6 s (CP 2) i [116,114,117,101] 0
  else if bAt s i=91 then KM s (LE k s) false (s.size+1) (Io s (i+1)) true [] []
  else if bAt s i=123 then KM s (LE k s) true (s.size+1) (Io s (i+1)) true [] []
  else if bAt s i=34 then (match Q1 s i with
   | .bad c p=>.bad c p
   | .ok t e=>.ok (Jp t) e)
  else match T9 s i with
   | .bad c p=>.bad c p
   | .ok n e=>.ok (L2 n) e
def Kw (s:ByteArray):(Int×Nat)×Option V :=
 if 4000<s.size then ((2,0),none) else match LE 20 s (Io s 0) with
  | .bad c p=>((c,p),none)
  | .ok v e=>if Io s e<s.size then ((5,Io s e),none) else if 200<v.count then ((2,0),none) else ((0,0),some v)
end Go.Proofs.YtllfmaflodbieaaGreatDoor
