/- The plain mathematics of reading a value off a text: what is read from a place on, and where it ends, or a code and the place of the error. -/
import Derived.Test.YtlciedpfjhkkdaaGreatDoorKM2
set_option linter.all false
namespace Go.Proofs.YtlciedpfjhkkdaaGreatDoor
open Go.RowKit
def bAt (s:ByteArray) (i:Nat):Nat:=match s[i]? with
 |some b=>b.toNat
 |none=>256
theorem bAt_in {s:ByteArray}{i:Nat}(h:i<s.size):∃b:UInt8,s[i]? = some b∧bAt s i=b.toNat:=by
 have h1:s[i]? = some s[i]:=getElem?_pos s i h
 exact⟨s[i],h1,by unfold bAt;rw[h1]⟩
theorem bAt_end {s:ByteArray}{i:Nat}(h:s.size≤i):bAt s i=256:=by
 have h1:s[i]? = none:=getElem?_neg s i (by omega)
 unfold bAt
 rw[h1]
theorem bAt_lt {s:ByteArray}{i:Nat}(h:bAt s i<256):i<s.size:=by
 rcases Nat.lt_or_ge i s.size with h1 | h1
 ·exact h1
 ·rw[bAt_end h1]at h;omega
theorem bAt_le (s:ByteArray) (i:Nat):bAt s i≤256:=by
 rcases Nat.lt_or_ge i s.size with h1 | h1
 ·obtain⟨b,_,h2⟩:=bAt_in h1
  have:=b.toNat_lt
  omega
 ·rw[bAt_end h1];exact Nat.le_refl _
def blankB (n:Nat):Bool:=n==32||n==9||n==10||n==13
def digB (n:Nat):Bool:=decide (48≤n)&&decide (n≤57)
theorem blank_lt {n:Nat}(h:blankB n=true):n<256:=by
 unfold blankB at h
 simp only[Bool.or_eq_true,beq_iff_eq]at h
 omega
theorem dig_lt {n:Nat}(h:digB n=true):48≤n∧n≤57:=by
 unfold digB at h
 simpa using h
def skipB (s:ByteArray) (i:Nat):Nat:=if h:blankB (bAt s i)=true then skipB s (i+1) else i
termination_by s.size-i
decreasing_by
 have:=bAt_lt (blank_lt h)
 omega
theorem skip_blank {s:ByteArray}{i:Nat}(h:blankB (bAt s i)=true):skipB s i=skipB s (i+1):=by rw[skipB,dif_pos h]
theorem skip_stop {s:ByteArray}{i:Nat}(h:blankB (bAt s i)=false):skipB s i=i:=by rw[skipB,dif_neg (by simp[h])]
theorem skip_le {s:ByteArray}:∀(n i:Nat),s.size-i≤n→i≤s.size→i≤skipB s i∧skipB s i≤s.size∧blankB (bAt s (skipB s i))=false:=by
 intro n
 induction n with
 |zero =>
  intro i hn hi
  have hb:blankB (bAt s i)=false:=by rw[bAt_end (by omega)];rfl
  rw[skip_stop hb]
  exact⟨Nat.le_refl _,hi,hb⟩
 |succ n ih =>
  intro i hn hi
  cases hb:blankB (bAt s i) with
  |false=>rw[skip_stop hb];exact⟨Nat.le_refl _,hi,hb⟩
  |true =>
   have hlt:=bAt_lt (blank_lt hb)
   rw[skip_blank hb]
   obtain⟨h1,h2,h3⟩:=ih (i+1) (by omega) (by omega)
   exact⟨by omega,h2,h3⟩
theorem skip_in {s:ByteArray}{i:Nat}(h:i≤s.size):i≤skipB s i∧skipB s i≤s.size∧blankB (bAt s (skipB s i))=false:=skip_le _ i (Nat.le_refl _) h
theorem skip_skip {s:ByteArray}{i:Nat}(h:i≤s.size):skipB s (skipB s i)=skipB s i:=skip_stop (skip_in h).2.2
def digE (s:ByteArray) (i:Nat):Nat:=if h:digB (bAt s i)=true then digE s (i+1) else i
termination_by s.size-i
decreasing_by
 have h1:=dig_lt h
 have:=bAt_lt (s:=s) (i:=i) (by omega)
 omega
theorem digE_dig {s:ByteArray}{i:Nat}(h:digB (bAt s i)=true):digE s i=digE s (i+1):=by rw[digE,dif_pos h]
theorem digE_stop {s:ByteArray}{i:Nat}(h:digB (bAt s i)=false):digE s i=i:=by rw[digE,dif_neg (by simp[h])]
theorem digE_le {s:ByteArray}:∀(n i:Nat),s.size-i≤n→i≤s.size→i≤digE s i∧digE s i≤s.size∧digB (bAt s (digE s i))=false∧∀j,i≤j→j<digE s i→digB (bAt s j)=true:=by
 intro n
 induction n with
 |zero =>
  intro i hn hi
  have hb:digB (bAt s i)=false:=by rw[bAt_end (by omega)];rfl
  rw[digE_stop hb]
  exact⟨Nat.le_refl _,hi,hb,fun j h1 h2=>by omega⟩
 |succ n ih =>
  intro i hn hi
  cases hb:digB (bAt s i) with
  |false=>rw[digE_stop hb];exact⟨Nat.le_refl _,hi,hb,fun j h1 h2=>by omega⟩
  |true =>
   have h0:=dig_lt hb
   have hlt:=bAt_lt (s:=s) (i:=i) (by omega)
   rw[digE_dig hb]
   obtain⟨h1,h2,h3,h4⟩:=ih (i+1) (by omega) (by omega)
   refine⟨by omega,h2,h3,fun j g1 g2=>?_⟩
   by_cases hj:j=i
   ·rw[hj];exact hb
   ·exact h4 j (by omega) g2
theorem digE_in {s:ByteArray}{i:Nat}(h:i≤s.size):i≤digE s i∧digE s i≤s.size∧digB (bAt s (digE s i))=false∧∀j,i≤j→j<digE s i→digB (bAt s j)=true:=digE_le _ i (Nat.le_refl _) h
def decN (s:ByteArray) (a:Nat):Nat→Nat
 | 0=>0
 |k+1=>decN s a k*10+(bAt s (a+k)-48)
theorem decN_lt {s:ByteArray}{a:Nat}:∀k,(∀j,a≤j→j<a+k→digB (bAt s j)=true)→decN s a k<10 ^ k
 | 0,_=>by simp[decN]
 |k+1,h=>by
  have h1:=decN_lt k fun j g1 g2=>h j g1 (by omega)
  have h2:=dig_lt (h (a+k) (by omega) (by omega))
  simp only[decN,Nat.pow_succ]
  omega
inductive Rd (α:Type) where
 |ok (v:α) (e:Nat)
 |bad (c:Int) (p:Nat)
def numA (s:ByteArray) (i:Nat):Nat:=if bAt s i=45 then i+1 else i
def numE (s:ByteArray) (i:Nat):Nat:=if bAt s (numA s i)=48 then numA s i+1 else digE s (numA s i)
def numV' (s:ByteArray) (i:Nat):Int:=if bAt s i=45 then -((decN s (numA s i) (numE s i-numA s i):Nat):Int) else ((decN s (numA s i) (numE s i-numA s i):Nat):Int)
def numBig (s:ByteArray) (i:Nat):Bool:=decide (16<numE s i-numA s i)||decide (1000000000000000<decN s (numA s i) (numE s i-numA s i))
def dotB (n:Nat):Bool:=n==46||n==101||n==69
def numR (s:ByteArray) (i:Nat):Rd Int :=
 if digB (bAt s (numA s i))=false then .bad 5 (numA s i) else if numBig s i then .bad 3 i else if dotB (bAt s (numE s i)) then .bad 3 (numE s i) else .ok (numV' s i) (numE s i)
def bOne (n:Nat):ByteArray:=⟨#[UInt8.ofNat n]⟩
def hexB (n:Nat):Int:=if digB n then (n:Int)-48 else if decide (97≤n)&&decide (n≤102) then (n:Int)-87 else if decide (65≤n)&&decide (n≤70) then (n:Int)-55 else -1
def escR (s:ByteArray) (i:Nat):Rd Nat :=
 if bAt s (i+1)=34∨bAt s (i+1)=92∨bAt s (i+1)=47 then .ok (bAt s (i+1)) (i+2)
 else if bAt s (i+1)≠117 then .bad 5 (i+1) else if bAt s (i+2)≠48 then .bad 5 (i+2) else if bAt s (i+3)≠48 then .bad 5 (i+3)
 else if hexB (bAt s (i+4))<0 then .bad 5 (i+4) else if hexB (bAt s (i+5))<0 then .bad 5 (i+5)
 else if 32≤16*hexB (bAt s (i+4))+hexB (bAt s (i+5))∧16*hexB (bAt s (i+4))+hexB (bAt s (i+5))≤126 then .ok (16*hexB (bAt s (i+4))+hexB (bAt s (i+5))).toNat (i+6) else .bad 5 (i+4)
def strGo (s:ByteArray) (from_:Nat):Nat→Nat→ByteArray→Rd ByteArray
 | 0,_,_=>.bad 5 s.size
 |n+1,i,out=>if s.size≤i then .bad 5 s.size else if bAt s i=34 then (if 60<out.size then .bad 2 from_ else .ok out (i+1))
  else if bAt s i<32∨126<bAt s i then .bad 5 i else if bAt s i≠92 then strGo s from_ n (i+1) (out++bOne (bAt s i))
  else match escR s i with
   | .bad c p=>.bad c p
   | .ok b e=>strGo s from_ n e (out++bOne b)
def strR (s:ByteArray) (i:Nat):Rd ByteArray:=if bAt s i≠34 then .bad 5 i else strGo s i (s.size+1) (i+1) ByteArray.empty
def wordR (s:ByteArray) (v:V) (i:Nat):List Nat→Nat→Rd V
 | [],k=>.ok v (i+k)
 |b::r,k=>if bAt s (i+k)=b then wordR s v i r (k+1) else .bad 5 (i+k)
def kindV (k:Int):V:=.mk k 0 ByteArray.empty [] []
def keyR (s:ByteArray) (i:Nat):Rd ByteArray:=match strR s i with
 | .bad c p=>.bad c p
 | .ok k e=>if bAt s (skipB s e)≠58 then .bad 5 (skipB s e) else .ok k (skipB s (skipB s e+1))
def manyGo (s:ByteArray) (rd:Nat→Rd V) (obj:Bool):Nat→Nat→Bool→List ByteArray→List V→Rd V
 | 0,_,_,_,_=>.bad 5 s.size
 |n+1,i,first,keys,kids =>
  if bAt s i=(if obj then 125 else 93) then .ok (if obj then objV keys kids else arrV kids) (i+1)
  else if first=false∧bAt s i≠44 then .bad 5 i
  else match (if obj then keyR s (if first then i else skipB s (i+1)) else .ok ByteArray.empty (if first then i else skipB s (i+1))) with
   | .bad c p=>.bad c p
   | .ok k e=>match rd e with
    | .bad c p=>.bad c p
    | .ok v e2=>manyGo s rd obj n (skipB s e2) false (if obj then keys++[k] else keys) (kids++[v])
def valR:Nat→ByteArray→Nat→Rd V
 | 0,s,i=>if s.size≤i then .bad 5 s.size else .bad 7 i
 |k+1,s,i=>if s.size≤i then .bad 5 s.size
  else if bAt s i=110 then wordR s (kindV 0) i [110,117,108,108] 0
  else if bAt s i=102 then wordR s (kindV 1) i [102,97,108,115,101] 0
  else if bAt s i=116 then wordR s (kindV 2) i [116,114,117,101] 0
  else if bAt s i=91 then manyGo s (valR k s) false (s.size+1) (skipB s (i+1)) true [] []
  else if bAt s i=123 then manyGo s (valR k s) true (s.size+1) (skipB s (i+1)) true [] []
  else if bAt s i=34 then (match strR s i with
   | .bad c p=>.bad c p
   | .ok t e=>.ok (strV t) e)
  else match numR s i with
   | .bad c p=>.bad c p
   | .ok n e=>.ok (numV n) e
def decodeR (s:ByteArray):(Int×Nat)×Option V :=
 if 4000<s.size then ((2,0),none) else match valR 20 s (skipB s 0) with
  | .bad c p=>((c,p),none)
  | .ok v e=>if skipB s e<s.size then ((5,skipB s e),none) else if 200<v.count then ((2,0),none) else ((0,0),some v)
end Go.Proofs.YtlciedpfjhkkdaaGreatDoor
