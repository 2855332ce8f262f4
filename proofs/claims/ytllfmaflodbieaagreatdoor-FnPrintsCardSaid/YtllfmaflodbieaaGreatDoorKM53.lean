/- The program's reader reads what the reference's reads. -/
import Derived.Test.YtllfmaflodbieaaGreatDoorKM49uM52
set_option linter.all false
namespace Go.Proofs.YtllfmaflodbieaaGreatDoor
open Go.RowKit
def agR {α:Type}(r:Rd α) (x:α) (d:DS):Prop:=match r with
 | .ok v e=>x=v∧d=⟨e,0,0⟩
 | .bad c p=>d.code=c∧d.bad=p
section
variable {s:ByteArray}
theorem Lr {d:DS}(h:d.code≠0) (c:Int) (p:Nat):d.fail c p=d:=by unfold DS.fail;rw[if_neg h]
theorem Ox (i:Nat) (c:Int) (p:Nat):(⟨i,0,0⟩:DS).fail c p=⟨i,c,p⟩:=rfl
theorem XB {d:DS}(h:d.code≠0) (b:Nat):d.is s b=false:=by unfold DS.is;simp[h]
theorem Se (i b:Nat):(⟨i,0,0⟩:DS).is s b=(bAt s i==b):=by unfold DS.is;simp
theorem Oq {d:DS}(h:d.code≠0) (b:Nat):d.want s b=d:=by unfold DS.want;rw[XB h,Lr h];rfl
theorem MG (i b:Nat):(⟨i,0,0⟩:DS).want s b=if bAt s i=b then ⟨i+1,0,0⟩ else ⟨i,5,i⟩:=by
 unfold DS.want
 rw[Se]
 by_cases h:bAt s i=b<;>simp[h,DS.go,Ox]
theorem X6:∀{l:List Nat}{d:DS},d.code≠0→d.word s l=d
 | [],_,_=>rfl
 |b::r,d,h=>by unfold DS.word;rw[Oq h];exact X6 h
theorem Ru (v:V) (i:Nat):∀(l:List Nat) (k:Nat),agR (N6 s v i l k) v ((⟨i+k,0,0⟩:DS).word s l)
 | [],k=>⟨rfl,rfl⟩
 |b::r,k=>by
  unfold DS.word N6
  rw[MG]
  split
  ·exact Ru v i r (k+1)
  ·rw[X6 (by simp)]
   exact⟨rfl,rfl⟩
theorem a5n (i:Nat):agR (match T9 s i with | .bad c p=>.bad c p | .ok n e=>.ok (L2 n) e) (JD s i 0).1 (JD s i 0).2:=by
 unfold T9 JD
 cases hd:G0 (bAt s (CA s i)) with
 |false=>simp only[if_true];exact⟨rfl,rfl⟩
 |true =>
  simp only[Bool.true_eq_false,if_false]
  cases hb:IX s i with
  |true=>simp only[if_true];exact⟨rfl,rfl⟩
  |false =>
   simp only[Bool.false_eq_true,if_false]
   cases hx:JA (bAt s (Ee s i)) with
   |true=>simp only[if_true];exact⟨rfl,rfl⟩
   |false=>simp only[Bool.false_eq_true,if_false];exact⟨rfl,rfl⟩
theorem a40 (i p b:Nat):(⟨i,5,p⟩:DS).want s b=⟨i,5,p⟩:=Oq (by simp) b
theorem YE (i p:Nat) (c:Int) (q:Nat):(⟨i,5,p⟩:DS).fail c q=⟨i,5,p⟩:=Lr (by simp) c q
theorem a0z (i:Nat):(⟨i,0,0⟩:DS).hex s=if 0≤Ji (bAt s i) then (Ji (bAt s i),⟨i+1,0,0⟩) else (0,⟨i,5,i⟩):=by
 unfold DS.hex
 simp only[true_and]
 split<;>rfl
theorem a3t {d:DS}(h:d.code≠0):d.hex s=(0,d):=by
 unfold DS.hex
 rw[if_neg (fun g=>h g.1),Lr h]
theorem a3r (i p:Nat):(⟨i,5,p⟩:DS).hex s=(0,⟨i,5,p⟩):=a3t (by simp)
theorem Zz (i:Nat):agR (R8 s i) ((⟨i+1,0,0⟩:DS).escape s).1 ((⟨i+1,0,0⟩:DS).escape s).2:=by
 unfold R8 DS.escape
 simp only[Se,beq_iff_eq]
 by_cases h1:bAt s (i+1)=34
 ·simp only[h1,true_or,if_true]
  exact⟨rfl,rfl⟩
 by_cases h2:bAt s (i+1)=92
 ·simp[h2]
  exact⟨rfl,rfl⟩
 by_cases h3:bAt s (i+1)=47
 ·simp[h3]
  exact⟨rfl,rfl⟩
 simp only[h1,h2,h3,if_false,or_self]
 simp only[DS.word,MG]
 by_cases g1:bAt s (i+1)=117
 ·simp only[g1,not_true,ne_eq,if_true,if_false,MG,Nat.add_assoc,Nat.reduceAdd]
  by_cases g2:bAt s (i+2)=48
  ·simp only[g2,not_true,if_true,if_false,MG,Nat.add_assoc,Nat.reduceAdd]
   by_cases g3:bAt s (i+3)=48
   ·simp only[g3,not_true,if_true,if_false,MG,Nat.add_assoc,Nat.reduceAdd,a0z]
    by_cases g4:0≤Ji (bAt s (i+4))
    ·simp only[if_pos g4,if_neg (Int.not_lt.2 g4),a0z,Nat.add_assoc,Nat.reduceAdd]
     by_cases g5:0≤Ji (bAt s (i+5))
     ·simp only[if_pos g5,if_neg (Int.not_lt.2 g5),Nat.add_assoc,Nat.reduceAdd]
      split
      ·exact⟨rfl,rfl⟩
      ·exact⟨rfl,rfl⟩
     ·simp only[if_neg g5,if_pos (Int.not_le.1 g5)]
      split<;>exact⟨rfl,rfl⟩
    ·simp only[if_neg g4,if_pos (Int.not_le.1 g4),a3r,YE,ite_self]
     exact⟨rfl,rfl⟩
   ·simp only[g3,not_false_eq_true,if_true,if_false,a3r,YE,ite_self]
    exact⟨rfl,rfl⟩
  ·simp only[g2,not_false_eq_true,if_true,if_false,a40,a3r,YE,ite_self]
   exact⟨rfl,rfl⟩
 ·simp only[g1,not_false_eq_true,ne_eq,if_true,if_false,a40,a3r,YE,ite_self]
  exact⟨rfl,rfl⟩
theorem Uk:∀{n:Nat}{d:DS}{out:ByteArray},d.code≠0→d.strGo s n out=(out,d)
 | 0,_,_,_=>rfl
 |n+1,d,out,h=>by unfold DS.strGo;rw[if_pos h]
def SS (f:Nat) (r:ByteArray×DS):DS:=if 60<r.1.size then r.2.fail 2 f else r.2
theorem a2q (f:Nat):∀(n i:Nat) (out:ByteArray),s.size-i<n→i≤s.size→agR (N4 s f n i out) ((⟨i,0,0⟩:DS).strGo s (n+1) out).1 (SS f ((⟨i,0,0⟩:DS).strGo s (n+1) out)):=by
 intro n
 induction n with
 |zero=>intro i out h;omega
 |succ n ih =>
  intro i out hn hi
  have herr:∀(c:Int) (p:Nat) (q:Nat) (out:ByteArray),c≠0→(SS f ((⟨q,c,p⟩:DS).strGo s (n+1) out)).code=c∧(SS f ((⟨q,c,p⟩:DS).strGo s (n+1) out)).bad=p:=by
   intro c p q out hc
   rw[Uk (by exact hc)]
   unfold SS
   split
   ·rw[Lr (by exact hc)];exact⟨rfl,rfl⟩
   ·exact⟨rfl,rfl⟩
  unfold N4 DS.strGo
  simp only[ne_eq,not_true,if_false,Se,beq_iff_eq]
  by_cases hs:s.size≤i
  ·have hb:=Lw hs
   simp only[hs,hb,if_true,true_or]
   rw[if_neg (by omega)]
   have h:=herr 5 i i out (by decide)
   exact⟨h.1,by rw[Ox,h.2];omega⟩
  ·simp only[hs,if_false,false_or]
   by_cases h34:bAt s i=34
   ·simp only[h34,if_true]
    unfold SS
    simp only
    by_cases h60:60<out.size
    ·simp only[h60,if_true];exact⟨rfl,rfl⟩
    ·simp only[h60,if_false];exact⟨rfl,rfl⟩
   ·simp only[h34,if_false]
    by_cases hr:bAt s i<32∨126<bAt s i
    ·simp only[hr,if_true]
     exact herr 5 i i out (by decide)
    ·simp only[hr,if_false]
     by_cases h92:bAt s i=92
     ·simp only[h92,not_true,if_true,if_false,ne_eq]
      have he:=Zz (s:=s) i
      have hf:=Ty (s:=s) (i:=i) (by omega)
      show agR (match R8 s i with | .bad c p=>.bad c p | .ok b e=>N4 s f n e (out++Je b)) _ _
      have hgo:(⟨i,0,0⟩:DS).go (i+1)=⟨i+1,0,0⟩:=rfl
      rw[hgo]
      cases hR:R8 s i with
      |bad c p =>
       rw[hR]at he hf
       obtain⟨e1,e2⟩:=he
       obtain⟨q,hq⟩:∃d,((⟨i+1,0,0⟩:DS).escape s).2=d:=⟨_,rfl⟩
       rw[hq]at e1 e2 ⊢
       obtain⟨q1,q2,q3⟩:=q
       simp only at e1 e2
       subst e1 e2
       exact herr q2 q3 q1 _ (LD hf.1)
      |ok b e =>
       rw[hR]at he hf
       obtain⟨e1,e2⟩:=he
       rw[e1,e2]
       exact ih e _ (by have:=hf.1;omega) hf.2.1
     ·simp only[h92,not_false_eq_true,if_true,if_false,ne_eq]
      exact ih (i+1) _ (by omega) (by omega)
theorem a2r (i:Nat) (hi:i≤s.size):agR (Q1 s i) ((⟨i,0,0⟩:DS).str s).1 ((⟨i,0,0⟩:DS).str s).2:=by
 unfold Q1 DS.str
 rw[MG]
 by_cases h:bAt s i=34
 ·simp only[h,ne_eq,not_true,if_true,if_false]
  have hlt:=GM (s:=s) (i:=i) (by omega)
  exact a2q i (s.size+1) (i+1) ByteArray.empty (by omega) (by omega)
 ·simp only[h,ne_eq,not_false_eq_true,if_true,if_false]
  rw[Uk (by simp)]
  simp only
  split
  ·exact⟨rfl,rfl⟩
  ·exact⟨rfl,rfl⟩
theorem Kd (d:DS):(d.skip s).code=d.code:=rfl
theorem SQ (d:DS):(d.skip s).bad=d.bad:=rfl
theorem KZ (i:Nat):(⟨i,0,0⟩:DS).skip s=⟨Io s i,0,0⟩:=rfl
theorem Mn {α:Type}{part:DS→α→DS×α}{e:Nat}{d:DS}{x:α}(h:d.code≠0):∀n,DS.listGo s part e n d x=(d,x)
 | 0=>rfl
 |n+1=>by unfold DS.listGo;rw[if_pos h]
def vAg (rd:Nat→Rd V) (rdI:DS→V×DS):Prop:=∀i,i≤s.size→agR (rd (Io s i)) (rdI ⟨i,0,0⟩).1 (rdI ⟨i,0,0⟩).2
def a55 (rdI:DS→V×DS):Prop:=∀d,d.code≠0→(rdI d).2.code=d.code∧(rdI d).2.bad=d.bad
theorem a5l {rd:Nat→Rd V}{rdI:DS→V×DS}(hv:vAg (s:=s) rd rdI) (he:a55 rdI) (j:Nat) (hj:j≤s.size) (x:List ByteArray×List V) :
  match O7 s j with
   | .bad c p=>(JC s rdI ⟨j,0,0⟩ x).1.code=c∧(JC s rdI ⟨j,0,0⟩ x).1.bad=p
   | .ok k e=>match rd e with
    | .bad c p=>(JC s rdI ⟨j,0,0⟩ x).1.code=c∧(JC s rdI ⟨j,0,0⟩ x).1.bad=p
    | .ok v e2=>JC s rdI ⟨j,0,0⟩ x=(⟨e2,0,0⟩,(x.1++[k],x.2++[v])):=by
 have hs:=a2r (s:=s) j hj
 have hf:=Qv hj
 unfold O7 JC
 cases hR:Q1 s j with
 |bad c p =>
  rw[hR]at hs hf
  obtain⟨e1,e2⟩:=hs
  have hc:=LD hf.1
  obtain⟨q,hq⟩:∃d,(⟨j,0,0⟩:DS).str s=d:=⟨_,rfl⟩
  rw[hq]at e1 e2 ⊢
  simp only
  rw[Oq (by rw[Kd,e1];exact hc)]
  have:=he (q.2.skip s) (by rw[Kd,e1];exact hc)
  rw[Kd,SQ,e1,e2]at this
  exact this
 |ok k e =>
  rw[hR]at hs hf
  obtain⟨e1,e2⟩:=hs
  obtain⟨_,hes,_⟩:=hf
  simp only
  rw[e1,e2,KZ,MG]
  obtain⟨g1,g2,_⟩:=Ks hes
  by_cases h58:bAt s (Io s e)=58
  ·have hlt:=GM (s:=s) (i:=Io s e) (by omega)
   simp only[h58,ne_eq,not_true,if_true,if_false]
   have h2:=hv (Io s e+1) (by omega)
   cases hr:rd (Io s (Io s e+1)) with
   |bad c p=>rw[hr]at h2;exact h2
   |ok v e2 =>
    rw[hr]at h2
    obtain⟨g3,g4⟩:=h2
    simp only
    rw[g3,g4]
  ·simp only[h58,ne_eq,not_false_eq_true,if_true,if_false]
   exact he ⟨Io s e,5,Io s e⟩ (by simp)
def Nh (s:ByteArray) (rd:Nat→Rd V) (obj:Bool) (n j:Nat) (keys:List ByteArray) (kids:List V):Rd V :=
 match (if obj then O7 s j else .ok ByteArray.empty j) with
 | .bad c p=>.bad c p
 | .ok k e=>match rd e with
  | .bad c p=>.bad c p
  | .ok v e2=>KM s rd obj n (Io s e2) false (if obj then keys++[k] else keys) (kids++[v])
theorem TV (rd:Nat→Rd V) (obj:Bool) (n i:Nat) (keys:List ByteArray) (kids:List V):KM s rd obj (n+1) i false keys kids=if bAt s i=(if obj then 125 else 93) then .ok (if obj then Jm keys kids else Ir kids) (i+1) else if bAt s i≠44 then .bad 5 i else Nh s rd obj n (Io s (i+1)) keys kids:=by
 unfold KM Nh
 simp only[true_and,Bool.false_eq_true,if_false]
 rfl
theorem XK (rd:Nat→Rd V) (obj:Bool) (n i:Nat) (keys:List ByteArray) (kids:List V):KM s rd obj (n+1) i true keys kids=if bAt s i=(if obj then 125 else 93) then .ok (if obj then Jm keys kids else Ir kids) (i+1) else Nh s rd obj n i keys kids:=by
 unfold KM Nh
 simp only[Bool.true_eq_false,false_and,if_true,if_false]
 rfl
theorem a1b {k:Nat}{rd:Nat→Rd V}{rdI:DS→V×DS}(hv:vAg (s:=s) rd rdI) (he:a55 rdI) (hrd:∀i,i≤s.size→(rd i).fine s i (rdV k i)):∀(n j:Nat) (x:List ByteArray×List V),s.size-j<n→j≤s.size →
  match Nh s rd true n j x.1 x.2 with
  | .ok v e=>(DS.listGo s (JC s rdI) 125 (n+1) ⟨j,0,0⟩ x).1=⟨e,0,0⟩∧Jm (DS.listGo s (JC s rdI) 125 (n+1) ⟨j,0,0⟩ x).2.1 (DS.listGo s (JC s rdI) 125 (n+1) ⟨j,0,0⟩ x).2.2=v
  | .bad c p=>(DS.listGo s (JC s rdI) 125 (n+1) ⟨j,0,0⟩ x).1.code=c∧(DS.listGo s (JC s rdI) 125 (n+1) ⟨j,0,0⟩ x).1.bad=p:=by
 intro n
 induction n with
 |zero=>intro j x hn;omega
 |succ n ih =>
  intro j x hn hj
  have hm:=a5l hv he j hj x
  have hkf:=Qf hj
  have herr:∀{d:DS} {c:Int} {p:Nat} {y:List ByteArray×List V},c≠0→JC s rdI ⟨j,0,0⟩ x=(d,y)→d.code=c→d.bad=p→(DS.listGo s (JC s rdI) 125 (n+1+1) ⟨j,0,0⟩ x).1.code=c∧(DS.listGo s (JC s rdI) 125 (n+1+1) ⟨j,0,0⟩ x).1.bad=p:=by
   intro d c p y hc hq e1 e2
   unfold DS.listGo
   simp only[ne_eq,not_true,if_false,hq]
   rw[XB (by rw[Kd,e1];exact hc),Oq (by rw[Kd,e1];exact hc),Mn (by rw[Kd,Kd,e1];exact hc)]
   exact⟨e1,e2⟩
  unfold Nh
  simp only[if_true]
  cases hR:O7 s j with
  |bad c p =>
   rw[hR]at hm hkf
   exact herr (LD hkf.1) rfl hm.1 hm.2
  |ok k1 e =>
   rw[hR]at hm hkf
   simp only at hm ⊢
   have hvf:=hrd e hkf.2.1
   cases hr:rd e with
   |bad c p =>
    rw[hr]at hm hvf
    exact herr (LD hvf.1) rfl hm.1 hm.2
   |ok v e2 =>
    rw[hr]at hm hvf
    simp only at hm ⊢
    obtain⟨h1,_,_⟩:=hkf
    obtain⟨h2,h3,_⟩:=hvf
    obtain⟨g1,g2,_⟩:=Ks h3
    rw[TV]
    unfold DS.listGo
    simp only[ne_eq,not_true,if_false,hm,KZ,Se,MG,if_true]
    by_cases hend:bAt s (Io s e2)=125
    ·simp[hend,DS.go]
    ·simp only[hend,if_false,beq_iff_eq]
     by_cases h44:bAt s (Io s e2)=44
     ·have hlt:=GM (s:=s) (i:=Io s e2) (by omega)
      simp only[h44,not_true,if_true,if_false,KZ]
      obtain⟨g3,g4,_⟩:=Ks (s:=s) (i:=Io s e2+1) (by omega)
      exact ih (Io s (Io s e2+1)) (x.1++[k1],x.2++[v]) (by omega) g4
     ·simp only[h44,not_false_eq_true,if_true,if_false]
      rw[Mn (by simp[Kd])]
      exact⟨rfl,rfl⟩
theorem a1a {k:Nat}{rd:Nat→Rd V}{rdI:DS→V×DS}(hv:vAg (s:=s) rd rdI) (hrd:∀i,i≤s.size→(rd i).fine s i (rdV k i)):∀(n j:Nat) (x:List V),s.size-j<n→j≤s.size→Io s j=j →
  match Nh s rd false n j [] x with
  | .ok v e=>(DS.listGo s (Jg rdI) 93 (n+1) ⟨j,0,0⟩ x).1=⟨e,0,0⟩∧Ir (DS.listGo s (Jg rdI) 93 (n+1) ⟨j,0,0⟩ x).2=v
  | .bad c p=>(DS.listGo s (Jg rdI) 93 (n+1) ⟨j,0,0⟩ x).1.code=c∧(DS.listGo s (Jg rdI) 93 (n+1) ⟨j,0,0⟩ x).1.bad=p:=by
 intro n
 induction n with
 |zero=>intro j x hn;omega
 |succ n ih =>
  intro j x hn hj hjs
  have hm:=hv j hj
  rw[hjs]at hm
  have hvf:=hrd j hj
  unfold Nh
  simp only[Bool.false_eq_true,if_false]
  cases hr:rd j with
  |bad c p =>
   rw[hr]at hm hvf
   obtain⟨e1,e2⟩:=hm
   have hc:=LD hvf.1
   unfold DS.listGo Jg
   simp only[ne_eq,not_true,if_false]
   rw[XB (by rw[Kd,e1];exact hc),Oq (by rw[Kd,e1];exact hc)]
   simp only[Bool.false_eq_true,if_false]
   rw[Mn (by rw[Kd,Kd,e1];exact hc)]
   exact⟨e1,e2⟩
  |ok v e2 =>
   rw[hr]at hm hvf
   obtain⟨e1,e2'⟩:=hm
   obtain⟨h2,h3,_⟩:=hvf
   obtain⟨g1,g2,_⟩:=Ks h3
   simp only
   rw[TV]
   unfold DS.listGo
   have hp:Jg rdI ⟨j,0,0⟩ x=(⟨e2,0,0⟩,x++[v]):=by unfold Jg;rw[e1,e2']
   simp only[ne_eq,not_true,if_false,hp,KZ,Se,MG,Bool.false_eq_true]
   by_cases hend:bAt s (Io s e2)=93
   ·simp[hend,DS.go]
   ·simp only[hend,if_false,beq_iff_eq]
    by_cases h44:bAt s (Io s e2)=44
    ·have hlt:=GM (s:=s) (i:=Io s e2) (by omega)
     simp only[h44,not_true,if_true,if_false,KZ]
     obtain⟨g3,g4,_⟩:=Ks (s:=s) (i:=Io s e2+1) (by omega)
     exact ih (Io s (Io s e2+1)) (x++[v]) (by omega) g4 (MN (by omega))
    ·simp only[h44,not_false_eq_true,if_true,if_false]
     rw[Mn (by simp[Kd])]
     exact⟨rfl,rfl⟩
theorem a68:∀k,a55 (DS.value s k)
 | 0=>fun d h=>by
  unfold DS.value
  split<;>(rw[Lr (by rw[Kd];exact h)];exact⟨rfl,rfl⟩)
 |k+1=>fun d h=>by
  unfold DS.value
  simp only
  split
  ·rw[Lr (by rw[Kd];exact h)];exact⟨rfl,rfl⟩
  ·rw[if_pos (by rw[Kd];exact h)];exact⟨rfl,rfl⟩
theorem SX {i:Nat}(hi:i≤s.size):∀k,DS.value s k ⟨i,0,0⟩=DS.value s k ⟨Io s i,0,0⟩
 | 0=>by unfold DS.value;rw[KZ,KZ,MN hi]
 |k+1=>by unfold DS.value;rw[KZ,KZ,MN hi]
theorem X5:∀k j,j≤s.size→Io s j=j→agR (LE k s j) (DS.value s k ⟨j,0,0⟩).1 (DS.value s k ⟨j,0,0⟩).2
 | 0,j,h,hsk=>by
  have hd:(⟨j,0,0⟩:DS).skip s=⟨j,0,0⟩:=by rw[KZ,hsk]
  unfold LE DS.value
  simp only[hd]
  by_cases hs:s.size≤j
  ·simp only[hs,if_true]
   exact⟨rfl,by simp[Ox];omega⟩
  ·simp only[hs,if_false]
   exact⟨rfl,rfl⟩
 |k+1,j,h,hsk=>by
  have MC:vAg (s:=s) (LE k s) (DS.value s k):=fun i hi=>by
   rw[SX hi]
   exact X5 k _ (Ks hi).2.1 (MN hi)
  have hd:(⟨j,0,0⟩:DS).skip s=⟨j,0,0⟩:=by rw[KZ,hsk]
  unfold LE DS.value
  simp only[hd]
  by_cases hs:s.size≤j
  ·simp only[hs,if_true]
   exact⟨rfl,by simp[Ox];omega⟩
  simp only[hs,if_false,ne_eq,not_true]
  by_cases h110:bAt s j=110
  ·simp only[h110,if_true];exact Ru (CP 0) j _ 0
  simp only[h110,if_false]
  by_cases h102:bAt s j=102
  ·simp only[h102,if_true];exact Ru (CP 1) j _ 0
  simp only[h102,if_false]
  by_cases h116:bAt s j=116
  ·simp only[h116,if_true];exact Ru (CP 2) j _ 0
  simp only[h116,if_false]
  have hlist:∀(obj:Bool),bAt s j=(if obj then 123 else 91)→agR (KM s (LE k s) obj (s.size+1) (Io s (j+1)) true [] []) (if obj then Jm (DS.list s (JC s (DS.value s k)) 125 ⟨j+1,0,0⟩ ([],[])).2.1 (DS.list s (JC s (DS.value s k)) 125 ⟨j+1,0,0⟩ ([],[])).2.2 else Ir (DS.list s (Jg (DS.value s k)) 93 ⟨j+1,0,0⟩ []).2) (if obj then (DS.list s (JC s (DS.value s k)) 125 ⟨j+1,0,0⟩ ([],[])).1 else (DS.list s (Jg (DS.value s k)) 93 ⟨j+1,0,0⟩ []).1):=by
   intro obj _
   obtain⟨g1,g2,_⟩:=Ks (s:=s) (i:=j+1) (by omega)
   rw[XK]
   cases obj with
   |true =>
    simp only[if_true]
    unfold DS.list
    rw[KZ,Se]
    by_cases hend:bAt s (Io s (j+1))=125
    ·simp only[hend,if_true,beq_self_eq_true];exact⟨rfl,rfl⟩
    ·simp only[hend,if_false,beq_iff_eq]
     have:=a1b MC (a68 k) (fun i hi=>Lh k i hi) (s.size) (Io s (j+1)) ([],[]) (by omega) g2
     revert this
     cases Nh s (LE k s) true s.size (Io s (j+1)) [] [] with
     |ok v e=>exact fun g=>⟨g.2,g.1⟩
     |bad c p=>exact fun g=>g
   |false =>
    simp only[Bool.false_eq_true,if_false]
    unfold DS.list
    rw[KZ,Se]
    by_cases hend:bAt s (Io s (j+1))=93
    ·simp only[hend,if_true,beq_self_eq_true];exact⟨rfl,rfl⟩
    ·simp only[hend,if_false,beq_iff_eq]
     have:=a1a MC (fun i hi=>Lh k i hi) (s.size) (Io s (j+1)) [] (by omega) g2 (MN (by omega))
     revert this
     cases Nh s (LE k s) false s.size (Io s (j+1)) [] [] with
     |ok v e=>exact fun g=>⟨g.2,g.1⟩
     |bad c p=>exact fun g=>g
  by_cases h91:bAt s j=91
  ·have hn:¬(bAt s j=45∨G0 (bAt s j)=true):=by rw[h91];decide
   simp only[h91,if_true]
   rw[h91]at hn
   simp only[hn,if_false,Nat.reduceEqDiff]
   exact hlist false h91
  simp only[h91,if_false]
  by_cases h123:bAt s j=123
  ·have hn:¬(bAt s j=45∨G0 (bAt s j)=true):=by rw[h123];decide
   simp only[h123,if_true]
   rw[h123]at hn
   simp only[hn,if_false,Nat.reduceEqDiff]
   exact hlist true h123
  simp only[h123,if_false]
  by_cases h34:bAt s j=34
  ·have hn:¬(bAt s j=45∨G0 (bAt s j)=true):=by rw[h34];decide
   simp only[h34,if_true]
   rw[h34]at hn
   simp only[hn,if_false]
   have hs:=a2r (s:=s) j h
   revert hs
   cases Q1 s j with
   |ok v e=>exact fun g=>⟨congrArg Jp g.1,g.2⟩
   |bad c p=>exact fun g=>g
  simp only[h34,if_false]
  by_cases hn:bAt s j=45∨G0 (bAt s j)=true
  ·simp only[hn,if_true]
   exact a5n j
  ·simp only[hn,if_false]
   have hA:CA s j=j:=by unfold CA;rw[if_neg (fun e=>hn (.inl e))]
   have hd:G0 (bAt s j)=false:=by cases hq:G0 (bAt s j) with
    |false=>rfl
    |true=>exact absurd (.inr hq) hn
   unfold T9
   rw[hA,if_pos hd]
   exact⟨rfl,rfl⟩
theorem MC (k:Nat):vAg (s:=s) (LE k s) (DS.value s k):=fun i hi=>by
 rw[SX hi]
 exact X5 k _ (Ks hi).2.1 (MN hi)
theorem a5g:Yz s=Kw s:=by
 unfold Yz Kw
 split
 ·rfl
 have h:=MC (s:=s) 20 0 (Nat.zero_le _)
 have hf:=Lh (s:=s) 20 (Io s 0) (Ks (Nat.zero_le _)).2.1
 simp only
 cases hr:LE 20 s (Io s 0) with
 |bad c p =>
  rw[hr]at h hf
  obtain⟨e1,e2⟩:=h
  have hc:=LD hf.1
  simp only
  rw[Lr (by rw[Kd,e1];exact hc)]
  simp only[ite_self,Kd,SQ,e1,e2,ne_eq,hc,not_false_eq_true,if_true]
 |ok v e =>
  rw[hr]at h hf
  obtain⟨e1,e2⟩:=h
  simp only[e1,e2,KZ]
  by_cases h1:Io s e<s.size
  ·simp[h1,Ox]
  ·simp[h1]
end
end Go.Proofs.YtllfmaflodbieaaGreatDoor
