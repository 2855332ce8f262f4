/- The program's reader reads what the reference's reads. -/
import Derived.Test.YtllfmaflodbieaaGreatDoorKM50uM52
set_option linter.all false
namespace Go.Proofs.YtllfmaflodbieaaGreatDoor
open Go.RowKit
def agR {α:Type}(r:Rd α) (x:α) (d:DS):Prop:=match r with
 | .ok v e=>x=v∧d=⟨e,0,0⟩
 | .bad c p=>d.code=c∧d.bad=p
section
variable {s:ByteArray}
theorem CZ {d:DS}(h:d.code≠0) (c:Int) (p:Nat):d.fail c p=d:=by unfold DS.fail;rw[if_neg h]
theorem IF (i:Nat) (c:Int) (p:Nat):(⟨i,0,0⟩:DS).fail c p=⟨i,c,p⟩:=rfl
theorem RL {d:DS}(h:d.code≠0) (b:Nat):d.is s b=false:=by unfold DS.is;simp[h]
theorem LV (i b:Nat):(⟨i,0,0⟩:DS).is s b=(bAt s i==b):=by unfold DS.is;simp
theorem Gv {d:DS}(h:d.code≠0) (b:Nat):d.want s b=d:=by unfold DS.want;rw[RL h,CZ h];rfl
theorem El (i b:Nat):(⟨i,0,0⟩:DS).want s b=if bAt s i=b then ⟨i+1,0,0⟩ else ⟨i,5,i⟩:=by
 unfold DS.want
 rw[LV]
 by_cases h:bAt s i=b<;>simp[h,DS.go,IF]
theorem OM:∀{l:List Nat}{d:DS},d.code≠0→d.word s l=d
 | [],_,_=>rfl
 |b::r,d,h=>by unfold DS.word;rw[Gv h];exact OM h
theorem Kh (v:V) (i:Nat):∀(l:List Nat) (k:Nat),agR (Ck s v i l k) v ((⟨i+k,0,0⟩:DS).word s l)
 | [],k=>⟨rfl,rfl⟩
 |b::r,k=>by
  unfold DS.word Ck
  rw[El]
  split
  ·exact Kh v i r (k+1)
  ·rw[OM (by simp)]
   exact⟨rfl,rfl⟩
theorem YT (i:Nat):agR (match K8 s i with | .bad c p=>.bad c p | .ok n e=>.ok (GN n) e) (KC s i 0).1 (KC s i 0).2:=by
 unfold K8 KC
 cases hd:AP (bAt s (AB s i)) with
 |false=>simp only[if_true];exact⟨rfl,rfl⟩
 |true =>
  simp only[Bool.true_eq_false,if_false]
  cases hb:Dx s i with
  |true=>simp only[if_true];exact⟨rfl,rfl⟩
  |false =>
   simp only[Bool.false_eq_true,if_false]
   cases hx:G6 (bAt s (AQ s i)) with
   |true=>simp only[if_true];exact⟨rfl,rfl⟩
   |false=>simp only[Bool.false_eq_true,if_false];exact⟨rfl,rfl⟩
theorem XX (i p b:Nat):(⟨i,5,p⟩:DS).want s b=⟨i,5,p⟩:=Gv (by simp) b
theorem Tb (i p:Nat) (c:Int) (q:Nat):(⟨i,5,p⟩:DS).fail c q=⟨i,5,p⟩:=CZ (by simp) c q
theorem UY (i:Nat):(⟨i,0,0⟩:DS).hex s=if 0≤B8 (bAt s i) then (B8 (bAt s i),⟨i+1,0,0⟩) else (0,⟨i,5,i⟩):=by
 unfold DS.hex
 simp only[true_and]
 split<;>rfl
theorem Xg {d:DS}(h:d.code≠0):d.hex s=(0,d):=by
 unfold DS.hex
 rw[if_neg (fun g=>h g.1),CZ h]
theorem WR (i p:Nat):(⟨i,5,p⟩:DS).hex s=(0,⟨i,5,p⟩):=Xg (by simp)
theorem TR (i:Nat):agR (EJ s i) ((⟨i+1,0,0⟩:DS).escape s).1 ((⟨i+1,0,0⟩:DS).escape s).2:=by
 unfold EJ DS.escape
 simp only[LV,beq_iff_eq]
 by_cases h1:bAt s (i+1)=34
 ·simp only[h1,true_or,if_true]
  exact⟨rfl,rfl⟩
 by_cases h2:bAt s (i+1)=92
 ·simp[h2]
  exact⟨rfl,rfl⟩
 by_cases h3:bAt s (i+1)=47
 ·simp[h3]
  exact⟨rfl,rfl⟩
 simp only[h1,h2,h3,if_false,or_self]
 simp only[DS.word,El]
 by_cases g1:bAt s (i+1)=117
 ·simp only[g1,not_true,ne_eq,if_true,if_false,El,Nat.add_assoc,Nat.reduceAdd]
  by_cases g2:bAt s (i+2)=48
  ·simp only[g2,not_true,if_true,if_false,El,Nat.add_assoc,Nat.reduceAdd]
   by_cases g3:bAt s (i+3)=48
   ·simp only[g3,not_true,if_true,if_false,El,Nat.add_assoc,Nat.reduceAdd,UY]
    by_cases g4:0≤B8 (bAt s (i+4))
    ·simp only[if_pos g4,if_neg (Int.not_lt.2 g4),UY,Nat.add_assoc,Nat.reduceAdd]
     by_cases g5:0≤B8 (bAt s (i+5))
     ·simp only[if_pos g5,if_neg (Int.not_lt.2 g5),Nat.add_assoc,Nat.reduceAdd]
      split
      ·exact⟨rfl,rfl⟩
      ·exact⟨rfl,rfl⟩
     ·simp only[if_neg g5,if_pos (Int.not_le.1 g5)]
      split<;>exact⟨rfl,rfl⟩
    ·simp only[if_neg g4,if_pos (Int.not_le.1 g4),WR,Tb,ite_self]
     exact⟨rfl,rfl⟩
   ·simp only[g3,not_false_eq_true,if_true,if_false,WR,Tb,ite_self]
    exact⟨rfl,rfl⟩
  ·simp only[g2,not_false_eq_true,if_true,if_false,XX,WR,Tb,ite_self]
   exact⟨rfl,rfl⟩
 ·simp only[g1,not_false_eq_true,ne_eq,if_true,if_false,XX,WR,Tb,ite_self]
  exact⟨rfl,rfl⟩
theorem MB:∀{n:Nat}{d:DS}{out:ByteArray},d.code≠0→d.strGo s n out=(out,d)
 | 0,_,_,_=>rfl
 |n+1,d,out,h=>by unfold DS.strGo;rw[if_pos h]
def LG (f:Nat) (r:ByteArray×DS):DS:=if 60<r.1.size then r.2.fail 2 f else r.2
theorem VG (f:Nat):∀(n i:Nat) (out:ByteArray),s.size-i<n→i≤s.size→agR (CU s f n i out) ((⟨i,0,0⟩:DS).strGo s (n+1) out).1 (LG f ((⟨i,0,0⟩:DS).strGo s (n+1) out)):=by
 intro n
 induction n with
 |zero=>intro i out h;omega
 |succ n ih =>
  intro i out hn hi
  have herr:∀(c:Int) (p:Nat) (q:Nat) (out:ByteArray),c≠0→(LG f ((⟨q,c,p⟩:DS).strGo s (n+1) out)).code=c∧(LG f ((⟨q,c,p⟩:DS).strGo s (n+1) out)).bad=p:=by
   intro c p q out hc
   rw[MB (by exact hc)]
   unfold LG
   split
   ·rw[CZ (by exact hc)];exact⟨rfl,rfl⟩
   ·exact⟨rfl,rfl⟩
  unfold CU DS.strGo
  simp only[ne_eq,not_true,if_false,LV,beq_iff_eq]
  by_cases hs:s.size≤i
  ·have hb:=BX hs
   simp only[hs,hb,if_true,true_or]
   rw[if_neg (by omega)]
   have h:=herr 5 i i out (by decide)
   exact⟨h.1,by rw[IF,h.2];omega⟩
  ·simp only[hs,if_false,false_or]
   by_cases h34:bAt s i=34
   ·simp only[h34,if_true]
    unfold LG
    simp only
    by_cases h60:60<out.size
    ·simp only[h60,if_true];exact⟨rfl,rfl⟩
    ·simp only[h60,if_false];exact⟨rfl,rfl⟩
   ·simp only[h34,if_false]
    by_cases hr:bAt s i<32∨126<bAt s i
    ·simp only[hr,if_true]
     exact herr 5 i i out (by decide)
    ·simp only[hr,if_false]
     by_cases h92:bAt s i=92
     ·simp only[h92,not_true,if_true,if_false,ne_eq]
      have he:=TR (s:=s) i
      have hf:=Ju (s:=s) (i:=i) (by omega)
      show agR (match EJ s i with | .bad c p=>.bad c p | .ok b e=>CU s f n e (out++BF b)) _ _
      have hgo:(⟨i,0,0⟩:DS).go (i+1)=⟨i+1,0,0⟩:=rfl
      rw[hgo]
      cases hR:EJ s i with
      |bad c p =>
       rw[hR]at he hf
       obtain⟨e1,e2⟩:=he
       obtain⟨q,hq⟩:∃d,((⟨i+1,0,0⟩:DS).escape s).2=d:=⟨_,rfl⟩
       rw[hq]at e1 e2 ⊢
       obtain⟨q1,q2,q3⟩:=q
       simp only at e1 e2
       subst e1 e2
       exact herr q2 q3 q1 _ (Bq hf.1)
      |ok b e =>
       rw[hR]at he hf
       obtain⟨e1,e2⟩:=he
       rw[e1,e2]
       exact ih e _ (by have:=hf.1;omega) hf.2.1
     ·simp only[h92,not_false_eq_true,if_true,if_false,ne_eq]
      exact ih (i+1) _ (by omega) (by omega)
theorem Ww (i:Nat) (hi:i≤s.size):agR (E4 s i) ((⟨i,0,0⟩:DS).str s).1 ((⟨i,0,0⟩:DS).str s).2:=by
 unfold E4 DS.str
 rw[El]
 by_cases h:bAt s i=34
 ·simp only[h,ne_eq,not_true,if_true,if_false]
  have hlt:=CP (s:=s) (i:=i) (by omega)
  exact VG i (s.size+1) (i+1) ByteArray.empty (by omega) (by omega)
 ·simp only[h,ne_eq,not_false_eq_true,if_true,if_false]
  rw[MB (by simp)]
  simp only
  split
  ·exact⟨rfl,rfl⟩
  ·exact⟨rfl,rfl⟩
theorem B0 (d:DS):(d.skip s).code=d.code:=rfl
theorem Q8 (d:DS):(d.skip s).bad=d.bad:=rfl
theorem CB (i:Nat):(⟨i,0,0⟩:DS).skip s=⟨Af s i,0,0⟩:=rfl
theorem DO {α:Type}{part:DS→α→DS×α}{e:Nat}{d:DS}{x:α}(h:d.code≠0):∀n,DS.listGo s part e n d x=(d,x)
 | 0=>rfl
 |n+1=>by unfold DS.listGo;rw[if_pos h]
def vAg (rd:Nat→Rd V) (rdI:DS→V×DS):Prop:=∀i,i≤s.size→agR (rd (Af s i)) (rdI ⟨i,0,0⟩).1 (rdI ⟨i,0,0⟩).2
def Y0 (rdI:DS→V×DS):Prop:=∀d,d.code≠0→(rdI d).2.code=d.code∧(rdI d).2.bad=d.bad
theorem Y5 {rd:Nat→Rd V}{rdI:DS→V×DS}(hv:vAg (s:=s) rd rdI) (he:Y0 rdI) (j:Nat) (hj:j≤s.size) (x:List ByteArray×List V) :
  match Hs s j with
   | .bad c p=>(BT s rdI ⟨j,0,0⟩ x).1.code=c∧(BT s rdI ⟨j,0,0⟩ x).1.bad=p
   | .ok k e=>match rd e with
    | .bad c p=>(BT s rdI ⟨j,0,0⟩ x).1.code=c∧(BT s rdI ⟨j,0,0⟩ x).1.bad=p
    | .ok v e2=>BT s rdI ⟨j,0,0⟩ x=(⟨e2,0,0⟩,(x.1++[k],x.2++[v])):=by
 have hs:=Ww (s:=s) j hj
 have hf:=Ep hj
 unfold Hs BT
 cases hR:E4 s j with
 |bad c p =>
  rw[hR]at hs hf
  obtain⟨e1,e2⟩:=hs
  have hc:=Bq hf.1
  obtain⟨q,hq⟩:∃d,(⟨j,0,0⟩:DS).str s=d:=⟨_,rfl⟩
  rw[hq]at e1 e2 ⊢
  simp only
  rw[Gv (by rw[B0,e1];exact hc)]
  have:=he (q.2.skip s) (by rw[B0,e1];exact hc)
  rw[B0,Q8,e1,e2]at this
  exact this
 |ok k e =>
  rw[hR]at hs hf
  obtain⟨e1,e2⟩:=hs
  obtain⟨_,hes,_⟩:=hf
  simp only
  rw[e1,e2,CB,El]
  obtain⟨g1,g2,_⟩:=AM hes
  by_cases h58:bAt s (Af s e)=58
  ·have hlt:=CP (s:=s) (i:=Af s e) (by omega)
   simp only[h58,ne_eq,not_true,if_true,if_false]
   have h2:=hv (Af s e+1) (by omega)
   cases hr:rd (Af s (Af s e+1)) with
   |bad c p=>rw[hr]at h2;exact h2
   |ok v e2 =>
    rw[hr]at h2
    obtain⟨g3,g4⟩:=h2
    simp only
    rw[g3,g4]
  ·simp only[h58,ne_eq,not_false_eq_true,if_true,if_false]
   exact he ⟨Af s e,5,Af s e⟩ (by simp)
def Fd (s:ByteArray) (rd:Nat→Rd V) (obj:Bool) (n j:Nat) (keys:List ByteArray) (kids:List V):Rd V :=
 match (if obj then Hs s j else .ok ByteArray.empty j) with
 | .bad c p=>.bad c p
 | .ok k e=>match rd e with
  | .bad c p=>.bad c p
  | .ok v e2=>Bd s rd obj n (Af s e2) false (if obj then keys++[k] else keys) (kids++[v])
theorem ME (rd:Nat→Rd V) (obj:Bool) (n i:Nat) (keys:List ByteArray) (kids:List V):Bd s rd obj (n+1) i false keys kids=if bAt s i=(if obj then 125 else 93) then .ok (if obj then Gi keys kids else DB kids) (i+1) else if bAt s i≠44 then .bad 5 i else Fd s rd obj n (Af s (i+1)) keys kids:=by
 unfold Bd Fd
 simp only[true_and,Bool.false_eq_true,if_false]
 rfl
theorem S9 (rd:Nat→Rd V) (obj:Bool) (n i:Nat) (keys:List ByteArray) (kids:List V):Bd s rd obj (n+1) i true keys kids=if bAt s i=(if obj then 125 else 93) then .ok (if obj then Gi keys kids else DB kids) (i+1) else Fd s rd obj n i keys kids:=by
 unfold Bd Fd
 simp only[Bool.true_eq_false,false_and,if_true,if_false]
 rfl
theorem WL {k:Nat}{rd:Nat→Rd V}{rdI:DS→V×DS}(hv:vAg (s:=s) rd rdI) (he:Y0 rdI) (hrd:∀i,i≤s.size→(rd i).fine s i (rdV k i)):∀(n j:Nat) (x:List ByteArray×List V),s.size-j<n→j≤s.size →
  match Fd s rd true n j x.1 x.2 with
  | .ok v e=>(DS.listGo s (BT s rdI) 125 (n+1) ⟨j,0,0⟩ x).1=⟨e,0,0⟩∧Gi (DS.listGo s (BT s rdI) 125 (n+1) ⟨j,0,0⟩ x).2.1 (DS.listGo s (BT s rdI) 125 (n+1) ⟨j,0,0⟩ x).2.2=v
  | .bad c p=>(DS.listGo s (BT s rdI) 125 (n+1) ⟨j,0,0⟩ x).1.code=c∧(DS.listGo s (BT s rdI) 125 (n+1) ⟨j,0,0⟩ x).1.bad=p:=by
 intro n
 induction n with
 |zero=>intro j x hn;omega
 |succ n ih =>
  intro j x hn hj
  have hm:=Y5 hv he j hj x
  have hkf:=Je hj
  have herr:∀{d:DS} {c:Int} {p:Nat} {y:List ByteArray×List V},c≠0→BT s rdI ⟨j,0,0⟩ x=(d,y)→d.code=c→d.bad=p→(DS.listGo s (BT s rdI) 125 (n+1+1) ⟨j,0,0⟩ x).1.code=c∧(DS.listGo s (BT s rdI) 125 (n+1+1) ⟨j,0,0⟩ x).1.bad=p:=by
   intro d c p y hc hq e1 e2
   unfold DS.listGo
   simp only[ne_eq,not_true,if_false,hq]
   rw[RL (by rw[B0,e1];exact hc),Gv (by rw[B0,e1];exact hc),DO (by rw[B0,B0,e1];exact hc)]
   exact⟨e1,e2⟩
  unfold Fd
  simp only[if_true]
  cases hR:Hs s j with
  |bad c p =>
   rw[hR]at hm hkf
   exact herr (Bq hkf.1) rfl hm.1 hm.2
  |ok k1 e =>
   rw[hR]at hm hkf
   simp only at hm ⊢
   have hvf:=hrd e hkf.2.1
   cases hr:rd e with
   |bad c p =>
    rw[hr]at hm hvf
    exact herr (Bq hvf.1) rfl hm.1 hm.2
   |ok v e2 =>
    rw[hr]at hm hvf
    simp only at hm ⊢
    obtain⟨h1,_,_⟩:=hkf
    obtain⟨h2,h3,_⟩:=hvf
    obtain⟨g1,g2,_⟩:=AM h3
    rw[ME]
    unfold DS.listGo
    simp only[ne_eq,not_true,if_false,hm,CB,LV,El,if_true]
    by_cases hend:bAt s (Af s e2)=125
    ·simp[hend,DS.go]
    ·simp only[hend,if_false,beq_iff_eq]
     by_cases h44:bAt s (Af s e2)=44
     ·have hlt:=CP (s:=s) (i:=Af s e2) (by omega)
      simp only[h44,not_true,if_true,if_false,CB]
      obtain⟨g3,g4,_⟩:=AM (s:=s) (i:=Af s e2+1) (by omega)
      exact ih (Af s (Af s e2+1)) (x.1++[k1],x.2++[v]) (by omega) g4
     ·simp only[h44,not_false_eq_true,if_true,if_false]
      rw[DO (by simp[B0])]
      exact⟨rfl,rfl⟩
theorem WK {k:Nat}{rd:Nat→Rd V}{rdI:DS→V×DS}(hv:vAg (s:=s) rd rdI) (hrd:∀i,i≤s.size→(rd i).fine s i (rdV k i)):∀(n j:Nat) (x:List V),s.size-j<n→j≤s.size→Af s j=j →
  match Fd s rd false n j [] x with
  | .ok v e=>(DS.listGo s (Di rdI) 93 (n+1) ⟨j,0,0⟩ x).1=⟨e,0,0⟩∧DB (DS.listGo s (Di rdI) 93 (n+1) ⟨j,0,0⟩ x).2=v
  | .bad c p=>(DS.listGo s (Di rdI) 93 (n+1) ⟨j,0,0⟩ x).1.code=c∧(DS.listGo s (Di rdI) 93 (n+1) ⟨j,0,0⟩ x).1.bad=p:=by
 intro n
 induction n with
 |zero=>intro j x hn;omega
 |succ n ih =>
  intro j x hn hj hjs
  have hm:=hv j hj
  rw[hjs]at hm
  have hvf:=hrd j hj
  unfold Fd
  simp only[Bool.false_eq_true,if_false]
  cases hr:rd j with
  |bad c p =>
   rw[hr]at hm hvf
   obtain⟨e1,e2⟩:=hm
   have hc:=Bq hvf.1
   unfold DS.listGo Di
   simp only[ne_eq,not_true,if_false]
   rw[RL (by rw[B0,e1];exact hc),Gv (by rw[B0,e1];exact hc)]
   simp only[Bool.false_eq_true,if_false]
   rw[DO (by rw[B0,B0,e1];exact hc)]
   exact⟨e1,e2⟩
  |ok v e2 =>
   rw[hr]at hm hvf
   obtain⟨e1,e2'⟩:=hm
   obtain⟨h2,h3,_⟩:=hvf
   obtain⟨g1,g2,_⟩:=AM h3
   simp only
   rw[ME]
   unfold DS.listGo
   have hp:Di rdI ⟨j,0,0⟩ x=(⟨e2,0,0⟩,x++[v]):=by unfold Di;rw[e1,e2']
   simp only[ne_eq,not_true,if_false,hp,CB,LV,El,Bool.false_eq_true]
   by_cases hend:bAt s (Af s e2)=93
   ·simp[hend,DS.go]
   ·simp only[hend,if_false,beq_iff_eq]
    by_cases h44:bAt s (Af s e2)=44
    ·have hlt:=CP (s:=s) (i:=Af s e2) (by omega)
     simp only[h44,not_true,if_true,if_false,CB]
     obtain⟨g3,g4,_⟩:=AM (s:=s) (i:=Af s e2+1) (by omega)
     exact ih (Af s (Af s e2+1)) (x++[v]) (by omega) g4 (Es (by omega))
    ·simp only[h44,not_false_eq_true,if_true,if_false]
     rw[DO (by simp[B0])]
     exact⟨rfl,rfl⟩
theorem Uh:∀k,Y0 (DS.value s k)
 | 0=>fun d h=>by
  unfold DS.value
  split<;>(rw[CZ (by rw[B0];exact h)];exact⟨rfl,rfl⟩)
 |k+1=>fun d h=>by
  unfold DS.value
  simp only
  split
  ·rw[CZ (by rw[B0];exact h)];exact⟨rfl,rfl⟩
  ·rw[if_pos (by rw[B0];exact h)];exact⟨rfl,rfl⟩
theorem Lc {i:Nat}(hi:i≤s.size):∀k,DS.value s k ⟨i,0,0⟩=DS.value s k ⟨Af s i,0,0⟩
 | 0=>by unfold DS.value;rw[CB,CB,Es hi]
 |k+1=>by unfold DS.value;rw[CB,CB,Es hi]
theorem PW:∀k j,j≤s.size→Af s j=j→agR (Cq k s j) (DS.value s k ⟨j,0,0⟩).1 (DS.value s k ⟨j,0,0⟩).2
 | 0,j,h,hsk=>by
  have hd:(⟨j,0,0⟩:DS).skip s=⟨j,0,0⟩:=by rw[CB,hsk]
  unfold Cq DS.value
  simp only[hd]
  by_cases hs:s.size≤j
  ·simp only[hs,if_true]
   exact⟨rfl,by simp[IF];omega⟩
  ·simp only[hs,if_false]
   exact⟨rfl,rfl⟩
 |k+1,j,h,hsk=>by
  have Fm:vAg (s:=s) (Cq k s) (DS.value s k):=fun i hi=>by
   rw[Lc hi]
   exact PW k _ (AM hi).2.1 (Es hi)
  have hd:(⟨j,0,0⟩:DS).skip s=⟨j,0,0⟩:=by rw[CB,hsk]
  unfold Cq DS.value
  simp only[hd]
  by_cases hs:s.size≤j
  ·simp only[hs,if_true]
   exact⟨rfl,by simp[IF];omega⟩
  simp only[hs,if_false,ne_eq,not_true]
  by_cases h110:bAt s j=110
  ·simp only[h110,if_true];exact Kh (BZ 0) j _ 0
  simp only[h110,if_false]
  by_cases h102:bAt s j=102
  ·simp only[h102,if_true];exact Kh (BZ 1) j _ 0
  simp only[h102,if_false]
  by_cases h116:bAt s j=116
  ·simp only[h116,if_true];exact Kh (BZ 2) j _ 0
  simp only[h116,if_false]
  have hlist:∀(obj:Bool),bAt s j=(if obj then 123 else 91)→agR (Bd s (Cq k s) obj (s.size+1) (Af s (j+1)) true [] []) (if obj then Gi (DS.list s (BT s (DS.value s k)) 125 ⟨j+1,0,0⟩ ([],[])).2.1 (DS.list s (BT s (DS.value s k)) 125 ⟨j+1,0,0⟩ ([],[])).2.2 else DB (DS.list s (Di (DS.value s k)) 93 ⟨j+1,0,0⟩ []).2) (if obj then (DS.list s (BT s (DS.value s k)) 125 ⟨j+1,0,0⟩ ([],[])).1 else (DS.list s (Di (DS.value s k)) 93 ⟨j+1,0,0⟩ []).1):=by
   intro obj _
   obtain⟨g1,g2,_⟩:=AM (s:=s) (i:=j+1) (by omega)
   rw[S9]
   cases obj with
   |true =>
    simp only[if_true]
    unfold DS.list
    rw[CB,LV]
    by_cases hend:bAt s (Af s (j+1))=125
    ·simp only[hend,if_true,beq_self_eq_true];exact⟨rfl,rfl⟩
    ·simp only[hend,if_false,beq_iff_eq]
     have:=WL Fm (Uh k) (fun i hi=>C2 k i hi) (s.size) (Af s (j+1)) ([],[]) (by omega) g2
     revert this
     cases Fd s (Cq k s) true s.size (Af s (j+1)) [] [] with
     |ok v e=>exact fun g=>⟨g.2,g.1⟩
     |bad c p=>exact fun g=>g
   |false =>
    simp only[Bool.false_eq_true,if_false]
    unfold DS.list
    rw[CB,LV]
    by_cases hend:bAt s (Af s (j+1))=93
    ·simp only[hend,if_true,beq_self_eq_true];exact⟨rfl,rfl⟩
    ·simp only[hend,if_false,beq_iff_eq]
     have:=WK Fm (fun i hi=>C2 k i hi) (s.size) (Af s (j+1)) [] (by omega) g2 (Es (by omega))
     revert this
     cases Fd s (Cq k s) false s.size (Af s (j+1)) [] [] with
     |ok v e=>exact fun g=>⟨g.2,g.1⟩
     |bad c p=>exact fun g=>g
  by_cases h91:bAt s j=91
  ·have hn:¬(bAt s j=45∨AP (bAt s j)=true):=by rw[h91];decide
   simp only[h91,if_true]
   rw[h91]at hn
   simp only[hn,if_false,Nat.reduceEqDiff]
   exact hlist false h91
  simp only[h91,if_false]
  by_cases h123:bAt s j=123
  ·have hn:¬(bAt s j=45∨AP (bAt s j)=true):=by rw[h123];decide
   simp only[h123,if_true]
   rw[h123]at hn
   simp only[hn,if_false,Nat.reduceEqDiff]
   exact hlist true h123
  simp only[h123,if_false]
  by_cases h34:bAt s j=34
  ·have hn:¬(bAt s j=45∨AP (bAt s j)=true):=by rw[h34];decide
   simp only[h34,if_true]
   rw[h34]at hn
   simp only[hn,if_false]
   have hs:=Ww (s:=s) j h
   revert hs
   cases E4 s j with
   |ok v e=>exact fun g=>⟨congrArg K9 g.1,g.2⟩
   |bad c p=>exact fun g=>g
  simp only[h34,if_false]
  by_cases hn:bAt s j=45∨AP (bAt s j)=true
  ·simp only[hn,if_true]
   exact YT j
  ·simp only[hn,if_false]
   have hA:AB s j=j:=by unfold AB;rw[if_neg (fun e=>hn (.inl e))]
   have hd:AP (bAt s j)=false:=by cases hq:AP (bAt s j) with
    |false=>rfl
    |true=>exact absurd (.inr hq) hn
   unfold K8
   rw[hA,if_pos hd]
   exact⟨rfl,rfl⟩
theorem Fm (k:Nat):vAg (s:=s) (Cq k s) (DS.value s k):=fun i hi=>by
 rw[Lc hi]
 exact PW k _ (AM hi).2.1 (Es hi)
theorem YE:Su s=SB s:=by
 unfold Su SB
 split
 ·rfl
 have h:=Fm (s:=s) 20 0 (Nat.zero_le _)
 have hf:=C2 (s:=s) 20 (Af s 0) (AM (Nat.zero_le _)).2.1
 simp only
 cases hr:Cq 20 s (Af s 0) with
 |bad c p =>
  rw[hr]at h hf
  obtain⟨e1,e2⟩:=h
  have hc:=Bq hf.1
  simp only
  rw[CZ (by rw[B0,e1];exact hc)]
  simp only[ite_self,B0,Q8,e1,e2,ne_eq,hc,not_false_eq_true,if_true]
 |ok v e =>
  rw[hr]at h hf
  obtain⟨e1,e2⟩:=h
  simp only[e1,e2,CB]
  by_cases h1:Af s e<s.size
  ·simp[h1,IF]
  ·simp[h1]
end
end Go.Proofs.YtllfmaflodbieaaGreatDoor
