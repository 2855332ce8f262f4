/- The program's reader reads what the reference's reads. -/
import Derived.Test.YtllfmaflodbieaaGreatDoorKM50uM52
set_option linter.all false
namespace Go.Proofs.YtllfmaflodbieaaGreatDoor
open Go.RowKit
def agR {α:Type}(r:Rd α) (x:α) (d:DS):Prop:=match r with
 | .ok v e=>x=v∧d=⟨e,0,0⟩
 | .bad c p=>d.code=c∧d.bad=p
section
variable {s:ByteArray}
theorem E6 {d:DS}(h:d.code≠0) (c:Int) (p:Nat):d.fail c p=d:=by unfold DS.fail;rw[if_neg h]
theorem Kw (i:Nat) (c:Int) (p:Nat):(⟨i,0,0⟩:DS).fail c p=⟨i,c,p⟩:=rfl
theorem Vc {d:DS}(h:d.code≠0) (b:Nat):d.is s b=false:=by unfold DS.is;simp[h]
theorem NI (i b:Nat):(⟨i,0,0⟩:DS).is s b=(bAt s i==b):=by unfold DS.is;simp
theorem IQ {d:DS}(h:d.code≠0) (b:Nat):d.want s b=d:=by unfold DS.want;rw[Vc h,E6 h];rfl
theorem FC (i b:Nat):(⟨i,0,0⟩:DS).want s b=if bAt s i=b then ⟨i+1,0,0⟩ else ⟨i,5,i⟩:=by
 unfold DS.want
 rw[NI]
 by_cases h:bAt s i=b<;>simp[h,DS.go,Kw]
theorem Ul:∀{l:List Nat}{d:DS},d.code≠0→d.word s l=d
 | [],_,_=>rfl
 |b::r,d,h=>by unfold DS.word;rw[IQ h];exact Ul h
theorem N2 (v:V) (i:Nat):∀(l:List Nat) (k:Nat),agR (Gi s v i l k) v ((⟨i+k,0,0⟩:DS).word s l)
 | [],k=>⟨rfl,rfl⟩
 |b::r,k=>by
  unfold DS.word Gi
  rw[FC]
  split
  ·exact N2 v i r (k+1)
  ·rw[Ul (by simp)]
   exact⟨rfl,rfl⟩
theorem a4h (i:Nat):agR (match Pe s i with | .bad c p=>.bad c p | .ok n e=>.ok (Ar n) e) (Oa s i 0).1 (Oa s i 0).2:=by
 unfold Pe Oa
 cases hd:Bx (bAt s (Br s i)) with
 |false=>simp only[if_true];exact⟨rfl,rfl⟩
 |true =>
  simp only[Bool.true_eq_false,if_false]
  cases hb:Fm s i with
  |true=>simp only[if_true];exact⟨rfl,rfl⟩
  |false =>
   simp only[Bool.false_eq_true,if_false]
   cases hx:Ld (bAt s (BO s i)) with
   |true=>simp only[if_true];exact⟨rfl,rfl⟩
   |false=>simp only[Bool.false_eq_true,if_false];exact⟨rfl,rfl⟩
theorem a2x (i p b:Nat):(⟨i,5,p⟩:DS).want s b=⟨i,5,p⟩:=IQ (by simp) b
theorem WD (i p:Nat) (c:Int) (q:Nat):(⟨i,5,p⟩:DS).fail c q=⟨i,5,p⟩:=E6 (by simp) c q
theorem ZK (i:Nat):(⟨i,0,0⟩:DS).hex s=if 0≤Cl (bAt s i) then (Cl (bAt s i),⟨i+1,0,0⟩) else (0,⟨i,5,i⟩):=by
 unfold DS.hex
 simp only[true_and]
 split<;>rfl
theorem a1i {d:DS}(h:d.code≠0):d.hex s=(0,d):=by
 unfold DS.hex
 rw[if_neg (fun g=>h g.1),E6 h]
theorem a1g (i p:Nat):(⟨i,5,p⟩:DS).hex s=(0,⟨i,5,p⟩):=a1i (by simp)
theorem XG (i:Nat):agR (MC s i) ((⟨i+1,0,0⟩:DS).escape s).1 ((⟨i+1,0,0⟩:DS).escape s).2:=by
 unfold MC DS.escape
 simp only[NI,beq_iff_eq]
 by_cases h1:bAt s (i+1)=34
 ·simp only[h1,true_or,if_true]
  exact⟨rfl,rfl⟩
 by_cases h2:bAt s (i+1)=92
 ·simp[h2]
  exact⟨rfl,rfl⟩
 by_cases h3:bAt s (i+1)=47
 ·simp[h3]
  exact⟨rfl,rfl⟩
 simp only[h1,h2,h3,if_false,or_self]
 simp only[DS.word,FC]
 by_cases g1:bAt s (i+1)=117
 ·simp only[g1,not_true,ne_eq,if_true,if_false,FC,Nat.add_assoc,Nat.reduceAdd]
  by_cases g2:bAt s (i+2)=48
  ·simp only[g2,not_true,if_true,if_false,FC,Nat.add_assoc,Nat.reduceAdd]
   by_cases g3:bAt s (i+3)=48
   ·simp only[g3,not_true,if_true,if_false,FC,Nat.add_assoc,Nat.reduceAdd,ZK]
    by_cases g4:0≤Cl (bAt s (i+4))
    ·simp only[if_pos g4,if_neg (Int.not_lt.2 g4),ZK,Nat.add_assoc,Nat.reduceAdd]
     by_cases g5:0≤Cl (bAt s (i+5))
     ·simp only[if_pos g5,if_neg (Int.not_lt.2 g5),Nat.add_assoc,Nat.reduceAdd]
      split
      ·exact⟨rfl,rfl⟩
      ·exact⟨rfl,rfl⟩
     ·simp only[if_neg g5,if_pos (Int.not_le.1 g5)]
      split<;>exact⟨rfl,rfl⟩
    ·simp only[if_neg g4,if_pos (Int.not_le.1 g4),a1g,WD,ite_self]
     exact⟨rfl,rfl⟩
   ·simp only[g3,not_false_eq_true,if_true,if_false,a1g,WD,ite_self]
    exact⟨rfl,rfl⟩
  ·simp only[g2,not_false_eq_true,if_true,if_false,a2x,a1g,WD,ite_self]
   exact⟨rfl,rfl⟩
 ·simp only[g1,not_false_eq_true,ne_eq,if_true,if_false,a2x,a1g,WD,ite_self]
  exact⟨rfl,rfl⟩
theorem Qi:∀{n:Nat}{d:DS}{out:ByteArray},d.code≠0→d.strGo s n out=(out,d)
 | 0,_,_,_=>rfl
 |n+1,d,out,h=>by unfold DS.strGo;rw[if_pos h]
def OE (f:Nat) (r:ByteArray×DS):DS:=if 60<r.1.size then r.2.fail 2 f else r.2
theorem y9 (f:Nat):∀(n i:Nat) (out:ByteArray),s.size-i<n→i≤s.size→agR (Gg s f n i out) ((⟨i,0,0⟩:DS).strGo s (n+1) out).1 (OE f ((⟨i,0,0⟩:DS).strGo s (n+1) out)):=by
 intro n
 induction n with
 |zero=>intro i out h;omega
 |succ n ih =>
  intro i out hn hi
  have herr:∀(c:Int) (p:Nat) (q:Nat) (out:ByteArray),c≠0→(OE f ((⟨q,c,p⟩:DS).strGo s (n+1) out)).code=c∧(OE f ((⟨q,c,p⟩:DS).strGo s (n+1) out)).bad=p:=by
   intro c p q out hc
   rw[Qi (by exact hc)]
   unfold OE
   split
   ·rw[E6 (by exact hc)];exact⟨rfl,rfl⟩
   ·exact⟨rfl,rfl⟩
  unfold Gg DS.strGo
  simp only[ne_eq,not_true,if_false,NI,beq_iff_eq]
  by_cases hs:s.size≤i
  ·have hb:=Eu hs
   simp only[hs,hb,if_true,true_or]
   rw[if_neg (by omega)]
   have h:=herr 5 i i out (by decide)
   exact⟨h.1,by rw[Kw,h.2];omega⟩
  ·simp only[hs,if_false,false_or]
   by_cases h34:bAt s i=34
   ·simp only[h34,if_true]
    unfold OE
    simp only
    by_cases h60:60<out.size
    ·simp only[h60,if_true];exact⟨rfl,rfl⟩
    ·simp only[h60,if_false];exact⟨rfl,rfl⟩
   ·simp only[h34,if_false]
    by_cases hr:bAt s i<32∨126<bAt s i
    ·simp only[hr,if_true]
     exact herr 5 i i out (by decide)
    ·simp only[hr,if_false]
     by_cases h92:bAt s i=92
     ·simp only[h92,not_true,if_true,if_false,ne_eq]
      have he:=XG (s:=s) i
      have hf:=PB (s:=s) (i:=i) (by omega)
      show agR (match MC s i with | .bad c p=>.bad c p | .ok b e=>Gg s f n e (out++CN b)) _ _
      have hgo:(⟨i,0,0⟩:DS).go (i+1)=⟨i+1,0,0⟩:=rfl
      rw[hgo]
      cases hR:MC s i with
      |bad c p =>
       rw[hR]at he hf
       obtain⟨e1,e2⟩:=he
       obtain⟨q,hq⟩:∃d,((⟨i+1,0,0⟩:DS).escape s).2=d:=⟨_,rfl⟩
       rw[hq]at e1 e2 ⊢
       obtain⟨q1,q2,q3⟩:=q
       simp only at e1 e2
       subst e1 e2
       exact herr q2 q3 q1 _ (EZ hf.1)
      |ok b e =>
       rw[hR]at he hf
       obtain⟨e1,e2⟩:=he
       rw[e1,e2]
       exact ih e _ (by have:=hf.1;omega) hf.2.1
     ·simp only[h92,not_false_eq_true,if_true,if_false,ne_eq]
      exact ih (i+1) _ (by omega) (by omega)
theorem z6 (i:Nat) (hi:i≤s.size):agR (LK s i) ((⟨i,0,0⟩:DS).str s).1 ((⟨i,0,0⟩:DS).str s).2:=by
 unfold LK DS.str
 rw[FC]
 by_cases h:bAt s i=34
 ·simp only[h,ne_eq,not_true,if_true,if_false]
  have hlt:=EM (s:=s) (i:=i) (by omega)
  exact y9 i (s.size+1) (i+1) ByteArray.empty (by omega) (by omega)
 ·simp only[h,ne_eq,not_false_eq_true,if_true,if_false]
  rw[Qi (by simp)]
  simp only
  split
  ·exact⟨rfl,rfl⟩
  ·exact⟨rfl,rfl⟩
theorem Bq (d:DS):(d.skip s).code=d.code:=rfl
theorem U3 (d:DS):(d.skip s).bad=d.bad:=rfl
theorem DC (i:Nat):(⟨i,0,0⟩:DS).skip s=⟨Aw s i,0,0⟩:=rfl
theorem EV {α:Type}{part:DS→α→DS×α}{e:Nat}{d:DS}{x:α}(h:d.code≠0):∀n,DS.listGo s part e n d x=(d,x)
 | 0=>rfl
 |n+1=>by unfold DS.listGo;rw[if_pos h]
def vAg (rd:Nat→Rd V) (rdI:DS→V×DS):Prop:=∀i,i≤s.size→agR (rd (Aw s i)) (rdI ⟨i,0,0⟩).1 (rdI ⟨i,0,0⟩).2
def a4x (rdI:DS→V×DS):Prop:=∀d,d.code≠0→(rdI d).2.code=d.code∧(rdI d).2.bad=d.bad
theorem a4d {rd:Nat→Rd V}{rdI:DS→V×DS}(hv:vAg (s:=s) rd rdI) (he:a4x rdI) (j:Nat) (hj:j≤s.size) (x:List ByteArray×List V) :
  match KC s j with
   | .bad c p=>(CB s rdI ⟨j,0,0⟩ x).1.code=c∧(CB s rdI ⟨j,0,0⟩ x).1.bad=p
   | .ok k e=>match rd e with
    | .bad c p=>(CB s rdI ⟨j,0,0⟩ x).1.code=c∧(CB s rdI ⟨j,0,0⟩ x).1.bad=p
    | .ok v e2=>CB s rdI ⟨j,0,0⟩ x=(⟨e2,0,0⟩,(x.1++[k],x.2++[v])):=by
 have hs:=z6 (s:=s) j hj
 have hf:=LL hj
 unfold KC CB
 cases hR:LK s j with
 |bad c p =>
  rw[hR]at hs hf
  obtain⟨e1,e2⟩:=hs
  have hc:=EZ hf.1
  obtain⟨q,hq⟩:∃d,(⟨j,0,0⟩:DS).str s=d:=⟨_,rfl⟩
  rw[hq]at e1 e2 ⊢
  simp only
  rw[IQ (by rw[Bq,e1];exact hc)]
  have:=he (q.2.skip s) (by rw[Bq,e1];exact hc)
  rw[Bq,U3,e1,e2]at this
  exact this
 |ok k e =>
  rw[hR]at hs hf
  obtain⟨e1,e2⟩:=hs
  obtain⟨_,hes,_⟩:=hf
  simp only
  rw[e1,e2,DC,FC]
  obtain⟨g1,g2,_⟩:=C9 hes
  by_cases h58:bAt s (Aw s e)=58
  ·have hlt:=EM (s:=s) (i:=Aw s e) (by omega)
   simp only[h58,ne_eq,not_true,if_true,if_false]
   have h2:=hv (Aw s e+1) (by omega)
   cases hr:rd (Aw s (Aw s e+1)) with
   |bad c p=>rw[hr]at h2;exact h2
   |ok v e2 =>
    rw[hr]at h2
    obtain⟨g3,g4⟩:=h2
    simp only
    rw[g3,g4]
  ·simp only[h58,ne_eq,not_false_eq_true,if_true,if_false]
   exact he ⟨Aw s e,5,Aw s e⟩ (by simp)
def GJ (s:ByteArray) (rd:Nat→Rd V) (obj:Bool) (n j:Nat) (keys:List ByteArray) (kids:List V):Rd V :=
 match (if obj then KC s j else .ok ByteArray.empty j) with
 | .bad c p=>.bad c p
 | .ok k e=>match rd e with
  | .bad c p=>.bad c p
  | .ok v e2=>Dx s rd obj n (Aw s e2) false (if obj then keys++[k] else keys) (kids++[v])
theorem PW (rd:Nat→Rd V) (obj:Bool) (n i:Nat) (keys:List ByteArray) (kids:List V):Dx s rd obj (n+1) i false keys kids=if bAt s i=(if obj then 125 else 93) then .ok (if obj then EJ keys kids else Ba kids) (i+1) else if bAt s i≠44 then .bad 5 i else GJ s rd obj n (Aw s (i+1)) keys kids:=by
 unfold Dx GJ
 simp only[true_and,Bool.false_eq_true,if_false]
 rfl
theorem Vq (rd:Nat→Rd V) (obj:Bool) (n i:Nat) (keys:List ByteArray) (kids:List V):Dx s rd obj (n+1) i true keys kids=if bAt s i=(if obj then 125 else 93) then .ok (if obj then EJ keys kids else Ba kids) (i+1) else GJ s rd obj n i keys kids:=by
 unfold Dx GJ
 simp only[Bool.true_eq_false,false_and,if_true,if_false]
 rfl
theorem ZT {k:Nat}{rd:Nat→Rd V}{rdI:DS→V×DS}(hv:vAg (s:=s) rd rdI) (he:a4x rdI) (hrd:∀i,i≤s.size→(rd i).fine s i (rdV k i)):∀(n j:Nat) (x:List ByteArray×List V),s.size-j<n→j≤s.size →
  match GJ s rd true n j x.1 x.2 with
  | .ok v e=>(DS.listGo s (CB s rdI) 125 (n+1) ⟨j,0,0⟩ x).1=⟨e,0,0⟩∧EJ (DS.listGo s (CB s rdI) 125 (n+1) ⟨j,0,0⟩ x).2.1 (DS.listGo s (CB s rdI) 125 (n+1) ⟨j,0,0⟩ x).2.2=v
  | .bad c p=>(DS.listGo s (CB s rdI) 125 (n+1) ⟨j,0,0⟩ x).1.code=c∧(DS.listGo s (CB s rdI) 125 (n+1) ⟨j,0,0⟩ x).1.bad=p:=by
 intro n
 induction n with
 |zero=>intro j x hn;omega
 |succ n ih =>
  intro j x hn hj
  have hm:=a4d hv he j hj x
  have hkf:=Lp hj
  have herr:∀{d:DS} {c:Int} {p:Nat} {y:List ByteArray×List V},c≠0→CB s rdI ⟨j,0,0⟩ x=(d,y)→d.code=c→d.bad=p→(DS.listGo s (CB s rdI) 125 (n+1+1) ⟨j,0,0⟩ x).1.code=c∧(DS.listGo s (CB s rdI) 125 (n+1+1) ⟨j,0,0⟩ x).1.bad=p:=by
   intro d c p y hc hq e1 e2
   unfold DS.listGo
   simp only[ne_eq,not_true,if_false,hq]
   rw[Vc (by rw[Bq,e1];exact hc),IQ (by rw[Bq,e1];exact hc),EV (by rw[Bq,Bq,e1];exact hc)]
   exact⟨e1,e2⟩
  unfold GJ
  simp only[if_true]
  cases hR:KC s j with
  |bad c p =>
   rw[hR]at hm hkf
   exact herr (EZ hkf.1) rfl hm.1 hm.2
  |ok k1 e =>
   rw[hR]at hm hkf
   simp only at hm ⊢
   have hvf:=hrd e hkf.2.1
   cases hr:rd e with
   |bad c p =>
    rw[hr]at hm hvf
    exact herr (EZ hvf.1) rfl hm.1 hm.2
   |ok v e2 =>
    rw[hr]at hm hvf
    simp only at hm ⊢
    obtain⟨h1,_,_⟩:=hkf
    obtain⟨h2,h3,_⟩:=hvf
    obtain⟨g1,g2,_⟩:=C9 h3
    rw[PW]
    unfold DS.listGo
    simp only[ne_eq,not_true,if_false,hm,DC,NI,FC,if_true]
    by_cases hend:bAt s (Aw s e2)=125
    ·simp[hend,DS.go]
    ·simp only[hend,if_false,beq_iff_eq]
     by_cases h44:bAt s (Aw s e2)=44
     ·have hlt:=EM (s:=s) (i:=Aw s e2) (by omega)
      simp only[h44,not_true,if_true,if_false,DC]
      obtain⟨g3,g4,_⟩:=C9 (s:=s) (i:=Aw s e2+1) (by omega)
      exact ih (Aw s (Aw s e2+1)) (x.1++[k1],x.2++[v]) (by omega) g4
     ·simp only[h44,not_false_eq_true,if_true,if_false]
      rw[EV (by simp[Bq])]
      exact⟨rfl,rfl⟩
theorem ZS {k:Nat}{rd:Nat→Rd V}{rdI:DS→V×DS}(hv:vAg (s:=s) rd rdI) (hrd:∀i,i≤s.size→(rd i).fine s i (rdV k i)):∀(n j:Nat) (x:List V),s.size-j<n→j≤s.size→Aw s j=j →
  match GJ s rd false n j [] x with
  | .ok v e=>(DS.listGo s (El rdI) 93 (n+1) ⟨j,0,0⟩ x).1=⟨e,0,0⟩∧Ba (DS.listGo s (El rdI) 93 (n+1) ⟨j,0,0⟩ x).2=v
  | .bad c p=>(DS.listGo s (El rdI) 93 (n+1) ⟨j,0,0⟩ x).1.code=c∧(DS.listGo s (El rdI) 93 (n+1) ⟨j,0,0⟩ x).1.bad=p:=by
 intro n
 induction n with
 |zero=>intro j x hn;omega
 |succ n ih =>
  intro j x hn hj hjs
  have hm:=hv j hj
  rw[hjs]at hm
  have hvf:=hrd j hj
  unfold GJ
  simp only[Bool.false_eq_true,if_false]
  cases hr:rd j with
  |bad c p =>
   rw[hr]at hm hvf
   obtain⟨e1,e2⟩:=hm
   have hc:=EZ hvf.1
   unfold DS.listGo El
   simp only[ne_eq,not_true,if_false]
   rw[Vc (by rw[Bq,e1];exact hc),IQ (by rw[Bq,e1];exact hc)]
   simp only[Bool.false_eq_true,if_false]
   rw[EV (by rw[Bq,Bq,e1];exact hc)]
   exact⟨e1,e2⟩
  |ok v e2 =>
   rw[hr]at hm hvf
   obtain⟨e1,e2'⟩:=hm
   obtain⟨h2,h3,_⟩:=hvf
   obtain⟨g1,g2,_⟩:=C9 h3
   simp only
   rw[PW]
   unfold DS.listGo
   have hp:El rdI ⟨j,0,0⟩ x=(⟨e2,0,0⟩,x++[v]):=by unfold El;rw[e1,e2']
   simp only[ne_eq,not_true,if_false,hp,DC,NI,FC,Bool.false_eq_true]
   by_cases hend:bAt s (Aw s e2)=93
   ·simp[hend,DS.go]
   ·simp only[hend,if_false,beq_iff_eq]
    by_cases h44:bAt s (Aw s e2)=44
    ·have hlt:=EM (s:=s) (i:=Aw s e2) (by omega)
     simp only[h44,not_true,if_true,if_false,DC]
     obtain⟨g3,g4,_⟩:=C9 (s:=s) (i:=Aw s e2+1) (by omega)
     exact ih (Aw s (Aw s e2+1)) (x++[v]) (by omega) g4 (FL (by omega))
    ·simp only[h44,not_false_eq_true,if_true,if_false]
     rw[EV (by simp[Bq])]
     exact⟨rfl,rfl⟩
theorem Z1:∀k,a4x (DS.value s k)
 | 0=>fun d h=>by
  unfold DS.value
  split<;>(rw[E6 (by rw[Bq];exact h)];exact⟨rfl,rfl⟩)
 |k+1=>fun d h=>by
  unfold DS.value
  simp only
  split
  ·rw[E6 (by rw[Bq];exact h)];exact⟨rfl,rfl⟩
  ·rw[if_pos (by rw[Bq];exact h)];exact⟨rfl,rfl⟩
theorem OO {i:Nat}(hi:i≤s.size):∀k,DS.value s k ⟨i,0,0⟩=DS.value s k ⟨Aw s i,0,0⟩
 | 0=>by unfold DS.value;rw[DC,DC,FL hi]
 |k+1=>by unfold DS.value;rw[DC,DC,FL hi]
theorem Uk:∀k j,j≤s.size→Aw s j=j→agR (FA k s j) (DS.value s k ⟨j,0,0⟩).1 (DS.value s k ⟨j,0,0⟩).2
 | 0,j,h,hsk=>by
  have hd:(⟨j,0,0⟩:DS).skip s=⟨j,0,0⟩:=by rw[DC,hsk]
  unfold FA DS.value
  simp only[hd]
  by_cases hs:s.size≤j
  ·simp only[hs,if_true]
   exact⟨rfl,by simp[Kw];omega⟩
  ·simp only[hs,if_false]
   exact⟨rfl,rfl⟩
 |k+1,j,h,hsk=>by
  have Hf:vAg (s:=s) (FA k s) (DS.value s k):=fun i hi=>by
   rw[OO hi]
   exact Uk k _ (C9 hi).2.1 (FL hi)
  have hd:(⟨j,0,0⟩:DS).skip s=⟨j,0,0⟩:=by rw[DC,hsk]
  unfold FA DS.value
  simp only[hd]
  by_cases hs:s.size≤j
  ·simp only[hs,if_true]
   exact⟨rfl,by simp[Kw];omega⟩
  simp only[hs,if_false,ne_eq,not_true]
  by_cases h110:bAt s j=110
  ·simp only[h110,if_true];exact N2 (En 0) j _ 0
  simp only[h110,if_false]
  by_cases h102:bAt s j=102
  ·simp only[h102,if_true];exact N2 (En 1) j _ 0
  simp only[h102,if_false]
  by_cases h116:bAt s j=116
  ·simp only[h116,if_true];exact N2 (En 2) j _ 0
  simp only[h116,if_false]
  have hlist:∀(obj:Bool),bAt s j=(if obj then 123 else 91)→agR (Dx s (FA k s) obj (s.size+1) (Aw s (j+1)) true [] []) (if obj then EJ (DS.list s (CB s (DS.value s k)) 125 ⟨j+1,0,0⟩ ([],[])).2.1 (DS.list s (CB s (DS.value s k)) 125 ⟨j+1,0,0⟩ ([],[])).2.2 else Ba (DS.list s (El (DS.value s k)) 93 ⟨j+1,0,0⟩ []).2) (if obj then (DS.list s (CB s (DS.value s k)) 125 ⟨j+1,0,0⟩ ([],[])).1 else (DS.list s (El (DS.value s k)) 93 ⟨j+1,0,0⟩ []).1):=by
   intro obj _
   obtain⟨g1,g2,_⟩:=C9 (s:=s) (i:=j+1) (by omega)
   rw[Vq]
   cases obj with
   |true =>
    simp only[if_true]
    unfold DS.list
    rw[DC,NI]
    by_cases hend:bAt s (Aw s (j+1))=125
    ·simp only[hend,if_true,beq_self_eq_true];exact⟨rfl,rfl⟩
    ·simp only[hend,if_false,beq_iff_eq]
     have:=ZT Hf (Z1 k) (fun i hi=>F1 k i hi) (s.size) (Aw s (j+1)) ([],[]) (by omega) g2
     revert this
     cases GJ s (FA k s) true s.size (Aw s (j+1)) [] [] with
     |ok v e=>exact fun g=>⟨g.2,g.1⟩
     |bad c p=>exact fun g=>g
   |false =>
    simp only[Bool.false_eq_true,if_false]
    unfold DS.list
    rw[DC,NI]
    by_cases hend:bAt s (Aw s (j+1))=93
    ·simp only[hend,if_true,beq_self_eq_true];exact⟨rfl,rfl⟩
    ·simp only[hend,if_false,beq_iff_eq]
     have:=ZS Hf (fun i hi=>F1 k i hi) (s.size) (Aw s (j+1)) [] (by omega) g2 (FL (by omega))
     revert this
     cases GJ s (FA k s) false s.size (Aw s (j+1)) [] [] with
     |ok v e=>exact fun g=>⟨g.2,g.1⟩
     |bad c p=>exact fun g=>g
  by_cases h91:bAt s j=91
  ·have hn:¬(bAt s j=45∨Bx (bAt s j)=true):=by rw[h91];decide
   simp only[h91,if_true]
   rw[h91]at hn
   simp only[hn,if_false,Nat.reduceEqDiff]
   exact hlist false h91
  simp only[h91,if_false]
  by_cases h123:bAt s j=123
  ·have hn:¬(bAt s j=45∨Bx (bAt s j)=true):=by rw[h123];decide
   simp only[h123,if_true]
   rw[h123]at hn
   simp only[hn,if_false,Nat.reduceEqDiff]
   exact hlist true h123
  simp only[h123,if_false]
  by_cases h34:bAt s j=34
  ·have hn:¬(bAt s j=45∨Bx (bAt s j)=true):=by rw[h34];decide
   simp only[h34,if_true]
   rw[h34]at hn
   simp only[hn,if_false]
   have hs:=z6 (s:=s) j h
   revert hs
   cases LK s j with
   |ok v e=>exact fun g=>⟨congrArg C6 g.1,g.2⟩
   |bad c p=>exact fun g=>g
  simp only[h34,if_false]
  by_cases hn:bAt s j=45∨Bx (bAt s j)=true
  ·simp only[hn,if_true]
   exact a4h j
  ·simp only[hn,if_false]
   have hA:Br s j=j:=by unfold Br;rw[if_neg (fun e=>hn (.inl e))]
   have hd:Bx (bAt s j)=false:=by cases hq:Bx (bAt s j) with
    |false=>rfl
    |true=>exact absurd (.inr hq) hn
   unfold Pe
   rw[hA,if_pos hd]
   exact⟨rfl,rfl⟩
theorem Hf (k:Nat):vAg (s:=s) (FA k s) (DS.value s k):=fun i hi=>by
 rw[OO hi]
 exact Uk k _ (C9 hi).2.1 (FL hi)
theorem a3j:Ww s=Wx s:=by
 unfold Ww Wx
 split
 ·rfl
 have h:=Hf (s:=s) 20 0 (Nat.zero_le _)
 have hf:=F1 (s:=s) 20 (Aw s 0) (C9 (Nat.zero_le _)).2.1
 simp only
 cases hr:FA 20 s (Aw s 0) with
 |bad c p =>
  rw[hr]at h hf
  obtain⟨e1,e2⟩:=h
  have hc:=EZ hf.1
  simp only
  rw[E6 (by rw[Bq,e1];exact hc)]
  simp only[ite_self,Bq,U3,e1,e2,ne_eq,hc,not_false_eq_true,if_true]
 |ok v e =>
  rw[hr]at h hf
  obtain⟨e1,e2⟩:=h
  simp only[e1,e2,DC]
  by_cases h1:Aw s e<s.size
  ·simp[h1,Kw]
  ·simp[h1]
end
end Go.Proofs.YtllfmaflodbieaaGreatDoor
