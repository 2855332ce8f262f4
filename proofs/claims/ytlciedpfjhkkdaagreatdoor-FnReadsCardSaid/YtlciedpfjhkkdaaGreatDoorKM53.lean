/- The program's reader reads what the reference's reads. -/
import Derived.Test.YtlciedpfjhkkdaaGreatDoorKD12uM52
set_option linter.all false
namespace Go.Proofs.YtlciedpfjhkkdaaGreatDoor
open Go.RowKit
def agR {α:Type}(r:Rd α) (x:α) (d:DS):Prop:=match r with
 | .ok v e=>x=v∧d=⟨e,0,0⟩
 | .bad c p=>d.code=c∧d.bad=p
section
variable {s:ByteArray}
theorem fail_err {d:DS}(h:d.code≠0) (c:Int) (p:Nat):d.fail c p=d:=by unfold DS.fail;rw[if_neg h]
theorem fail_ok (i:Nat) (c:Int) (p:Nat):(⟨i,0,0⟩:DS).fail c p=⟨i,c,p⟩:=rfl
theorem is_err {d:DS}(h:d.code≠0) (b:Nat):d.is s b=false:=by unfold DS.is;simp[h]
theorem is_ok (i b:Nat):(⟨i,0,0⟩:DS).is s b=(bAt s i==b):=by unfold DS.is;simp
theorem want_err {d:DS}(h:d.code≠0) (b:Nat):d.want s b=d:=by unfold DS.want;rw[is_err h,fail_err h];rfl
theorem want_ok (i b:Nat):(⟨i,0,0⟩:DS).want s b=if bAt s i=b then ⟨i+1,0,0⟩ else ⟨i,5,i⟩:=by
 unfold DS.want
 rw[is_ok]
 by_cases h:bAt s i=b<;>simp[h,DS.go,fail_ok]
theorem word_err:∀{l:List Nat}{d:DS},d.code≠0→d.word s l=d
 | [],_,_=>rfl
 |b::r,d,h=>by unfold DS.word;rw[want_err h];exact word_err h
theorem word_is (v:V) (i:Nat):∀(l:List Nat) (k:Nat),agR (wordR s v i l k) v ((⟨i+k,0,0⟩:DS).word s l)
 | [],k=>⟨rfl,rfl⟩
 |b::r,k=>by
  unfold DS.word wordR
  rw[want_ok]
  split
  ·exact word_is v i r (k+1)
  ·rw[word_err (by simp)]
   exact⟨rfl,rfl⟩
theorem num_is (i:Nat):agR (match numR s i with | .bad c p=>.bad c p | .ok n e=>.ok (numV n) e) (numI s i 0).1 (numI s i 0).2:=by
 unfold numR numI
 cases hd:digB (bAt s (numA s i)) with
 |false=>simp only[if_true];exact⟨rfl,rfl⟩
 |true =>
  simp only[Bool.true_eq_false,if_false]
  cases hb:numBig s i with
  |true=>simp only[if_true];exact⟨rfl,rfl⟩
  |false =>
   simp only[Bool.false_eq_true,if_false]
   cases hx:dotB (bAt s (numE s i)) with
   |true=>simp only[if_true];exact⟨rfl,rfl⟩
   |false=>simp only[Bool.false_eq_true,if_false];exact⟨rfl,rfl⟩
theorem want5 (i p b:Nat):(⟨i,5,p⟩:DS).want s b=⟨i,5,p⟩:=want_err (by simp) b
theorem fail5 (i p:Nat) (c:Int) (q:Nat):(⟨i,5,p⟩:DS).fail c q=⟨i,5,p⟩:=fail_err (by simp) c q
theorem hex_ok (i:Nat):(⟨i,0,0⟩:DS).hex s=if 0≤hexB (bAt s i) then (hexB (bAt s i),⟨i+1,0,0⟩) else (0,⟨i,5,i⟩):=by
 unfold DS.hex
 simp only[true_and]
 split<;>rfl
theorem hex_err {d:DS}(h:d.code≠0):d.hex s=(0,d):=by
 unfold DS.hex
 rw[if_neg (fun g=>h g.1),fail_err h]
theorem hex5 (i p:Nat):(⟨i,5,p⟩:DS).hex s=(0,⟨i,5,p⟩):=hex_err (by simp)
theorem escape_is (i:Nat):agR (escR s i) ((⟨i+1,0,0⟩:DS).escape s).1 ((⟨i+1,0,0⟩:DS).escape s).2:=by
 unfold escR DS.escape
 simp only[is_ok,beq_iff_eq]
 by_cases h1:bAt s (i+1)=34
 ·simp only[h1,true_or,if_true]
  exact⟨rfl,rfl⟩
 by_cases h2:bAt s (i+1)=92
 ·simp[h2]
  exact⟨rfl,rfl⟩
 by_cases h3:bAt s (i+1)=47
 ·simp[h3]
  exact⟨rfl,rfl⟩
 simp only[h1,h2,h3,if_false,or_self]
 simp only[DS.word,want_ok]
 by_cases g1:bAt s (i+1)=117
 ·simp only[g1,not_true,ne_eq,if_true,if_false,want_ok,Nat.add_assoc,Nat.reduceAdd]
  by_cases g2:bAt s (i+2)=48
  ·simp only[g2,not_true,if_true,if_false,want_ok,Nat.add_assoc,Nat.reduceAdd]
   by_cases g3:bAt s (i+3)=48
   ·simp only[g3,not_true,if_true,if_false,want_ok,Nat.add_assoc,Nat.reduceAdd,hex_ok]
    by_cases g4:0≤hexB (bAt s (i+4))
    ·simp only[if_pos g4,if_neg (Int.not_lt.2 g4),hex_ok,Nat.add_assoc,Nat.reduceAdd]
     by_cases g5:0≤hexB (bAt s (i+5))
     ·simp only[if_pos g5,if_neg (Int.not_lt.2 g5),Nat.add_assoc,Nat.reduceAdd]
      split
      ·exact⟨rfl,rfl⟩
      ·exact⟨rfl,rfl⟩
     ·simp only[if_neg g5,if_pos (Int.not_le.1 g5)]
      split<;>exact⟨rfl,rfl⟩
    ·simp only[if_neg g4,if_pos (Int.not_le.1 g4),hex5,fail5,ite_self]
     exact⟨rfl,rfl⟩
   ·simp only[g3,not_false_eq_true,if_true,if_false,hex5,fail5,ite_self]
    exact⟨rfl,rfl⟩
  ·simp only[g2,not_false_eq_true,if_true,if_false,want5,hex5,fail5,ite_self]
   exact⟨rfl,rfl⟩
 ·simp only[g1,not_false_eq_true,ne_eq,if_true,if_false,want5,hex5,fail5,ite_self]
  exact⟨rfl,rfl⟩
theorem strGo_err:∀{n:Nat}{d:DS}{out:ByteArray},d.code≠0→d.strGo s n out=(out,d)
 | 0,_,_,_=>rfl
 |n+1,d,out,h=>by unfold DS.strGo;rw[if_pos h]
def strEnd (f:Nat) (r:ByteArray×DS):DS:=if 60<r.1.size then r.2.fail 2 f else r.2
theorem strGo_is (f:Nat):∀(n i:Nat) (out:ByteArray),s.size-i<n→i≤s.size→agR (strGo s f n i out) ((⟨i,0,0⟩:DS).strGo s (n+1) out).1 (strEnd f ((⟨i,0,0⟩:DS).strGo s (n+1) out)):=by
 intro n
 induction n with
 |zero=>intro i out h;omega
 |succ n ih =>
  intro i out hn hi
  have herr:∀(c:Int) (p:Nat) (q:Nat) (out:ByteArray),c≠0→(strEnd f ((⟨q,c,p⟩:DS).strGo s (n+1) out)).code=c∧(strEnd f ((⟨q,c,p⟩:DS).strGo s (n+1) out)).bad=p:=by
   intro c p q out hc
   rw[strGo_err (by exact hc)]
   unfold strEnd
   split
   ·rw[fail_err (by exact hc)];exact⟨rfl,rfl⟩
   ·exact⟨rfl,rfl⟩
  unfold strGo DS.strGo
  simp only[ne_eq,not_true,if_false,is_ok,beq_iff_eq]
  by_cases hs:s.size≤i
  ·have hb:=bAt_end hs
   simp only[hs,hb,if_true,true_or]
   rw[if_neg (by omega)]
   have h:=herr 5 i i out (by decide)
   exact⟨h.1,by rw[fail_ok,h.2];omega⟩
  ·simp only[hs,if_false,false_or]
   by_cases h34:bAt s i=34
   ·simp only[h34,if_true]
    unfold strEnd
    simp only
    by_cases h60:60<out.size
    ·simp only[h60,if_true];exact⟨rfl,rfl⟩
    ·simp only[h60,if_false];exact⟨rfl,rfl⟩
   ·simp only[h34,if_false]
    by_cases hr:bAt s i<32∨126<bAt s i
    ·simp only[hr,if_true]
     exact herr 5 i i out (by decide)
    ·simp only[hr,if_false]
     by_cases h92:bAt s i=92
     ·simp only[h92,not_true,if_true,if_false,ne_eq]
      have he:=escape_is (s:=s) i
      have hf:=escR_fine (s:=s) (i:=i) (by omega)
      show agR (match escR s i with | .bad c p=>.bad c p | .ok b e=>strGo s f n e (out++bOne b)) _ _
      have hgo:(⟨i,0,0⟩:DS).go (i+1)=⟨i+1,0,0⟩:=rfl
      rw[hgo]
      cases hR:escR s i with
      |bad c p =>
       rw[hR]at he hf
       obtain⟨e1,e2⟩:=he
       obtain⟨q,hq⟩:∃d,((⟨i+1,0,0⟩:DS).escape s).2=d:=⟨_,rfl⟩
       rw[hq]at e1 e2 ⊢
       obtain⟨q1,q2,q3⟩:=q
       simp only at e1 e2
       subst e1 e2
       exact herr q2 q3 q1 _ (rdCode_ne hf.1)
      |ok b e =>
       rw[hR]at he hf
       obtain⟨e1,e2⟩:=he
       rw[e1,e2]
       exact ih e _ (by have:=hf.1;omega) hf.2.1
     ·simp only[h92,not_false_eq_true,if_true,if_false,ne_eq]
      exact ih (i+1) _ (by omega) (by omega)
theorem str_is (i:Nat) (hi:i≤s.size):agR (strR s i) ((⟨i,0,0⟩:DS).str s).1 ((⟨i,0,0⟩:DS).str s).2:=by
 unfold strR DS.str
 rw[want_ok]
 by_cases h:bAt s i=34
 ·simp only[h,ne_eq,not_true,if_true,if_false]
  have hlt:=bAt_lt (s:=s) (i:=i) (by omega)
  exact strGo_is i (s.size+1) (i+1) ByteArray.empty (by omega) (by omega)
 ·simp only[h,ne_eq,not_false_eq_true,if_true,if_false]
  rw[strGo_err (by simp)]
  simp only
  split
  ·exact⟨rfl,rfl⟩
  ·exact⟨rfl,rfl⟩
theorem skip_code (d:DS):(d.skip s).code=d.code:=rfl
theorem skip_bad (d:DS):(d.skip s).bad=d.bad:=rfl
theorem skip_ok (i:Nat):(⟨i,0,0⟩:DS).skip s=⟨skipB s i,0,0⟩:=rfl
theorem listGo_err {α:Type}{part:DS→α→DS×α}{e:Nat}{d:DS}{x:α}(h:d.code≠0):∀n,DS.listGo s part e n d x=(d,x)
 | 0=>rfl
 |n+1=>by unfold DS.listGo;rw[if_pos h]
def vAg (rd:Nat→Rd V) (rdI:DS→V×DS):Prop:=∀i,i≤s.size→agR (rd (skipB s i)) (rdI ⟨i,0,0⟩).1 (rdI ⟨i,0,0⟩).2
def vErr (rdI:DS→V×DS):Prop:=∀d,d.code≠0→(rdI d).2.code=d.code∧(rdI d).2.bad=d.bad
theorem mem_is {rd:Nat→Rd V}{rdI:DS→V×DS}(hv:vAg (s:=s) rd rdI) (he:vErr rdI) (j:Nat) (hj:j≤s.size) (x:List ByteArray×List V) :
  match keyR s j with
   | .bad c p=>(memP s rdI ⟨j,0,0⟩ x).1.code=c∧(memP s rdI ⟨j,0,0⟩ x).1.bad=p
   | .ok k e=>match rd e with
    | .bad c p=>(memP s rdI ⟨j,0,0⟩ x).1.code=c∧(memP s rdI ⟨j,0,0⟩ x).1.bad=p
    | .ok v e2=>memP s rdI ⟨j,0,0⟩ x=(⟨e2,0,0⟩,(x.1++[k],x.2++[v])):=by
 have hs:=str_is (s:=s) j hj
 have hf:=strR_fine hj
 unfold keyR memP
 cases hR:strR s j with
 |bad c p =>
  rw[hR]at hs hf
  obtain⟨e1,e2⟩:=hs
  have hc:=rdCode_ne hf.1
  obtain⟨q,hq⟩:∃d,(⟨j,0,0⟩:DS).str s=d:=⟨_,rfl⟩
  rw[hq]at e1 e2 ⊢
  simp only
  rw[want_err (by rw[skip_code,e1];exact hc)]
  have:=he (q.2.skip s) (by rw[skip_code,e1];exact hc)
  rw[skip_code,skip_bad,e1,e2]at this
  exact this
 |ok k e =>
  rw[hR]at hs hf
  obtain⟨e1,e2⟩:=hs
  obtain⟨_,hes,_⟩:=hf
  simp only
  rw[e1,e2,skip_ok,want_ok]
  obtain⟨g1,g2,_⟩:=skip_in hes
  by_cases h58:bAt s (skipB s e)=58
  ·have hlt:=bAt_lt (s:=s) (i:=skipB s e) (by omega)
   simp only[h58,ne_eq,not_true,if_true,if_false]
   have h2:=hv (skipB s e+1) (by omega)
   cases hr:rd (skipB s (skipB s e+1)) with
   |bad c p=>rw[hr]at h2;exact h2
   |ok v e2 =>
    rw[hr]at h2
    obtain⟨g3,g4⟩:=h2
    simp only
    rw[g3,g4]
  ·simp only[h58,ne_eq,not_false_eq_true,if_true,if_false]
   exact he ⟨skipB s e,5,skipB s e⟩ (by simp)
def partsR (s:ByteArray) (rd:Nat→Rd V) (obj:Bool) (n j:Nat) (keys:List ByteArray) (kids:List V):Rd V :=
 match (if obj then keyR s j else .ok ByteArray.empty j) with
 | .bad c p=>.bad c p
 | .ok k e=>match rd e with
  | .bad c p=>.bad c p
  | .ok v e2=>manyGo s rd obj n (skipB s e2) false (if obj then keys++[k] else keys) (kids++[v])
theorem many_more (rd:Nat→Rd V) (obj:Bool) (n i:Nat) (keys:List ByteArray) (kids:List V):manyGo s rd obj (n+1) i false keys kids=if bAt s i=(if obj then 125 else 93) then .ok (if obj then objV keys kids else arrV kids) (i+1) else if bAt s i≠44 then .bad 5 i else partsR s rd obj n (skipB s (i+1)) keys kids:=by
 unfold manyGo partsR
 simp only[true_and,Bool.false_eq_true,if_false]
 rfl
theorem many_first (rd:Nat→Rd V) (obj:Bool) (n i:Nat) (keys:List ByteArray) (kids:List V):manyGo s rd obj (n+1) i true keys kids=if bAt s i=(if obj then 125 else 93) then .ok (if obj then objV keys kids else arrV kids) (i+1) else partsR s rd obj n i keys kids:=by
 unfold manyGo partsR
 simp only[Bool.true_eq_false,false_and,if_true,if_false]
 rfl
theorem list_obj {k:Nat}{rd:Nat→Rd V}{rdI:DS→V×DS}(hv:vAg (s:=s) rd rdI) (he:vErr rdI) (hrd:∀i,i≤s.size→(rd i).fine s i (rdV k i)):∀(n j:Nat) (x:List ByteArray×List V),s.size-j<n→j≤s.size →
  match partsR s rd true n j x.1 x.2 with
  | .ok v e=>(DS.listGo s (memP s rdI) 125 (n+1) ⟨j,0,0⟩ x).1=⟨e,0,0⟩∧objV (DS.listGo s (memP s rdI) 125 (n+1) ⟨j,0,0⟩ x).2.1 (DS.listGo s (memP s rdI) 125 (n+1) ⟨j,0,0⟩ x).2.2=v
  | .bad c p=>(DS.listGo s (memP s rdI) 125 (n+1) ⟨j,0,0⟩ x).1.code=c∧(DS.listGo s (memP s rdI) 125 (n+1) ⟨j,0,0⟩ x).1.bad=p:=by
 intro n
 induction n with
 |zero=>intro j x hn;omega
 |succ n ih =>
  intro j x hn hj
  have hm:=mem_is hv he j hj x
  have hkf:=keyR_fine hj
  have herr:∀{d:DS} {c:Int} {p:Nat} {y:List ByteArray×List V},c≠0→memP s rdI ⟨j,0,0⟩ x=(d,y)→d.code=c→d.bad=p→(DS.listGo s (memP s rdI) 125 (n+1+1) ⟨j,0,0⟩ x).1.code=c∧(DS.listGo s (memP s rdI) 125 (n+1+1) ⟨j,0,0⟩ x).1.bad=p:=by
   intro d c p y hc hq e1 e2
   unfold DS.listGo
   simp only[ne_eq,not_true,if_false,hq]
   rw[is_err (by rw[skip_code,e1];exact hc),want_err (by rw[skip_code,e1];exact hc),listGo_err (by rw[skip_code,skip_code,e1];exact hc)]
   exact⟨e1,e2⟩
  unfold partsR
  simp only[if_true]
  cases hR:keyR s j with
  |bad c p =>
   rw[hR]at hm hkf
   exact herr (rdCode_ne hkf.1) rfl hm.1 hm.2
  |ok k1 e =>
   rw[hR]at hm hkf
   simp only at hm ⊢
   have hvf:=hrd e hkf.2.1
   cases hr:rd e with
   |bad c p =>
    rw[hr]at hm hvf
    exact herr (rdCode_ne hvf.1) rfl hm.1 hm.2
   |ok v e2 =>
    rw[hr]at hm hvf
    simp only at hm ⊢
    obtain⟨h1,_,_⟩:=hkf
    obtain⟨h2,h3,_⟩:=hvf
    obtain⟨g1,g2,_⟩:=skip_in h3
    rw[many_more]
    unfold DS.listGo
    simp only[ne_eq,not_true,if_false,hm,skip_ok,is_ok,want_ok,if_true]
    by_cases hend:bAt s (skipB s e2)=125
    ·simp[hend,DS.go]
    ·simp only[hend,if_false,beq_iff_eq]
     by_cases h44:bAt s (skipB s e2)=44
     ·have hlt:=bAt_lt (s:=s) (i:=skipB s e2) (by omega)
      simp only[h44,not_true,if_true,if_false,skip_ok]
      obtain⟨g3,g4,_⟩:=skip_in (s:=s) (i:=skipB s e2+1) (by omega)
      exact ih (skipB s (skipB s e2+1)) (x.1++[k1],x.2++[v]) (by omega) g4
     ·simp only[h44,not_false_eq_true,if_true,if_false]
      rw[listGo_err (by simp[skip_code])]
      exact⟨rfl,rfl⟩
theorem list_arr {k:Nat}{rd:Nat→Rd V}{rdI:DS→V×DS}(hv:vAg (s:=s) rd rdI) (hrd:∀i,i≤s.size→(rd i).fine s i (rdV k i)):∀(n j:Nat) (x:List V),s.size-j<n→j≤s.size→skipB s j=j →
  match partsR s rd false n j [] x with
  | .ok v e=>(DS.listGo s (elemP rdI) 93 (n+1) ⟨j,0,0⟩ x).1=⟨e,0,0⟩∧arrV (DS.listGo s (elemP rdI) 93 (n+1) ⟨j,0,0⟩ x).2=v
  | .bad c p=>(DS.listGo s (elemP rdI) 93 (n+1) ⟨j,0,0⟩ x).1.code=c∧(DS.listGo s (elemP rdI) 93 (n+1) ⟨j,0,0⟩ x).1.bad=p:=by
 intro n
 induction n with
 |zero=>intro j x hn;omega
 |succ n ih =>
  intro j x hn hj hjs
  have hm:=hv j hj
  rw[hjs]at hm
  have hvf:=hrd j hj
  unfold partsR
  simp only[Bool.false_eq_true,if_false]
  cases hr:rd j with
  |bad c p =>
   rw[hr]at hm hvf
   obtain⟨e1,e2⟩:=hm
   have hc:=rdCode_ne hvf.1
   unfold DS.listGo elemP
   simp only[ne_eq,not_true,if_false]
   rw[is_err (by rw[skip_code,e1];exact hc),want_err (by rw[skip_code,e1];exact hc)]
   simp only[Bool.false_eq_true,if_false]
   rw[listGo_err (by rw[skip_code,skip_code,e1];exact hc)]
   exact⟨e1,e2⟩
  |ok v e2 =>
   rw[hr]at hm hvf
   obtain⟨e1,e2'⟩:=hm
   obtain⟨h2,h3,_⟩:=hvf
   obtain⟨g1,g2,_⟩:=skip_in h3
   simp only
   rw[many_more]
   unfold DS.listGo
   have hp:elemP rdI ⟨j,0,0⟩ x=(⟨e2,0,0⟩,x++[v]):=by unfold elemP;rw[e1,e2']
   simp only[ne_eq,not_true,if_false,hp,skip_ok,is_ok,want_ok,Bool.false_eq_true]
   by_cases hend:bAt s (skipB s e2)=93
   ·simp[hend,DS.go]
   ·simp only[hend,if_false,beq_iff_eq]
    by_cases h44:bAt s (skipB s e2)=44
    ·have hlt:=bAt_lt (s:=s) (i:=skipB s e2) (by omega)
     simp only[h44,not_true,if_true,if_false,skip_ok]
     obtain⟨g3,g4,_⟩:=skip_in (s:=s) (i:=skipB s e2+1) (by omega)
     exact ih (skipB s (skipB s e2+1)) (x++[v]) (by omega) g4 (skip_skip (by omega))
    ·simp only[h44,not_false_eq_true,if_true,if_false]
     rw[listGo_err (by simp[skip_code])]
     exact⟨rfl,rfl⟩
theorem value_err:∀k,vErr (DS.value s k)
 | 0=>fun d h=>by
  unfold DS.value
  split<;>(rw[fail_err (by rw[skip_code];exact h)];exact⟨rfl,rfl⟩)
 |k+1=>fun d h=>by
  unfold DS.value
  simp only
  split
  ·rw[fail_err (by rw[skip_code];exact h)];exact⟨rfl,rfl⟩
  ·rw[if_pos (by rw[skip_code];exact h)];exact⟨rfl,rfl⟩
theorem value_skip {i:Nat}(hi:i≤s.size):∀k,DS.value s k ⟨i,0,0⟩=DS.value s k ⟨skipB s i,0,0⟩
 | 0=>by unfold DS.value;rw[skip_ok,skip_ok,skip_skip hi]
 |k+1=>by unfold DS.value;rw[skip_ok,skip_ok,skip_skip hi]
theorem value_at:∀k j,j≤s.size→skipB s j=j→agR (valR k s j) (DS.value s k ⟨j,0,0⟩).1 (DS.value s k ⟨j,0,0⟩).2
 | 0,j,h,hsk=>by
  have hd:(⟨j,0,0⟩:DS).skip s=⟨j,0,0⟩:=by rw[skip_ok,hsk]
  unfold valR DS.value
  simp only[hd]
  by_cases hs:s.size≤j
  ·simp only[hs,if_true]
   exact⟨rfl,by simp[fail_ok];omega⟩
  ·simp only[hs,if_false]
   exact⟨rfl,rfl⟩
 |k+1,j,h,hsk=>by
  have value_is:vAg (s:=s) (valR k s) (DS.value s k):=fun i hi=>by
   rw[value_skip hi]
   exact value_at k _ (skip_in hi).2.1 (skip_skip hi)
  have hd:(⟨j,0,0⟩:DS).skip s=⟨j,0,0⟩:=by rw[skip_ok,hsk]
  unfold valR DS.value
  simp only[hd]
  by_cases hs:s.size≤j
  ·simp only[hs,if_true]
   exact⟨rfl,by simp[fail_ok];omega⟩
  simp only[hs,if_false,ne_eq,not_true]
  by_cases h110:bAt s j=110
  ·simp only[h110,if_true];exact word_is (kindV 0) j _ 0
  simp only[h110,if_false]
  by_cases h102:bAt s j=102
  ·simp only[h102,if_true];exact word_is (kindV 1) j _ 0
  simp only[h102,if_false]
  by_cases h116:bAt s j=116
  ·simp only[h116,if_true];exact word_is (kindV 2) j _ 0
  simp only[h116,if_false]
  have hlist:∀(obj:Bool),bAt s j=(if obj then 123 else 91)→agR (manyGo s (valR k s) obj (s.size+1) (skipB s (j+1)) true [] []) (if obj then objV (DS.list s (memP s (DS.value s k)) 125 ⟨j+1,0,0⟩ ([],[])).2.1 (DS.list s (memP s (DS.value s k)) 125 ⟨j+1,0,0⟩ ([],[])).2.2 else arrV (DS.list s (elemP (DS.value s k)) 93 ⟨j+1,0,0⟩ []).2) (if obj then (DS.list s (memP s (DS.value s k)) 125 ⟨j+1,0,0⟩ ([],[])).1 else (DS.list s (elemP (DS.value s k)) 93 ⟨j+1,0,0⟩ []).1):=by
   intro obj _
   obtain⟨g1,g2,_⟩:=skip_in (s:=s) (i:=j+1) (by omega)
   rw[many_first]
   cases obj with
   |true =>
    simp only[if_true]
    unfold DS.list
    rw[skip_ok,is_ok]
    by_cases hend:bAt s (skipB s (j+1))=125
    ·simp only[hend,if_true,beq_self_eq_true];exact⟨rfl,rfl⟩
    ·simp only[hend,if_false,beq_iff_eq]
     have:=list_obj value_is (value_err k) (fun i hi=>valR_fine k i hi) (s.size) (skipB s (j+1)) ([],[]) (by omega) g2
     revert this
     cases partsR s (valR k s) true s.size (skipB s (j+1)) [] [] with
     |ok v e=>exact fun g=>⟨g.2,g.1⟩
     |bad c p=>exact fun g=>g
   |false =>
    simp only[Bool.false_eq_true,if_false]
    unfold DS.list
    rw[skip_ok,is_ok]
    by_cases hend:bAt s (skipB s (j+1))=93
    ·simp only[hend,if_true,beq_self_eq_true];exact⟨rfl,rfl⟩
    ·simp only[hend,if_false,beq_iff_eq]
     have:=list_arr value_is (fun i hi=>valR_fine k i hi) (s.size) (skipB s (j+1)) [] (by omega) g2 (skip_skip (by omega))
     revert this
     cases partsR s (valR k s) false s.size (skipB s (j+1)) [] [] with
     |ok v e=>exact fun g=>⟨g.2,g.1⟩
     |bad c p=>exact fun g=>g
  by_cases h91:bAt s j=91
  ·have hn:¬(bAt s j=45∨digB (bAt s j)=true):=by rw[h91];decide
   simp only[h91,if_true]
   rw[h91]at hn
   simp only[hn,if_false,Nat.reduceEqDiff]
   exact hlist false h91
  simp only[h91,if_false]
  by_cases h123:bAt s j=123
  ·have hn:¬(bAt s j=45∨digB (bAt s j)=true):=by rw[h123];decide
   simp only[h123,if_true]
   rw[h123]at hn
   simp only[hn,if_false,Nat.reduceEqDiff]
   exact hlist true h123
  simp only[h123,if_false]
  by_cases h34:bAt s j=34
  ·have hn:¬(bAt s j=45∨digB (bAt s j)=true):=by rw[h34];decide
   simp only[h34,if_true]
   rw[h34]at hn
   simp only[hn,if_false]
   have hs:=str_is (s:=s) j h
   revert hs
   cases strR s j with
   |ok v e=>exact fun g=>⟨congrArg strV g.1,g.2⟩
   |bad c p=>exact fun g=>g
  simp only[h34,if_false]
  by_cases hn:bAt s j=45∨digB (bAt s j)=true
  ·simp only[hn,if_true]
   exact num_is j
  ·simp only[hn,if_false]
   have hA:numA s j=j:=by unfold numA;rw[if_neg (fun e=>hn (.inl e))]
   have hd:digB (bAt s j)=false:=by cases hq:digB (bAt s j) with
    |false=>rfl
    |true=>exact absurd (.inr hq) hn
   unfold numR
   rw[hA,if_pos hd]
   exact⟨rfl,rfl⟩
theorem value_is (k:Nat):vAg (s:=s) (valR k s) (DS.value s k):=fun i hi=>by
 rw[value_skip hi]
 exact value_at k _ (skip_in hi).2.1 (skip_skip hi)
theorem decodeI_eq:decodeI s=decodeR s:=by
 unfold decodeI decodeR
 split
 ·rfl
 have h:=value_is (s:=s) 20 0 (Nat.zero_le _)
 have hf:=valR_fine (s:=s) 20 (skipB s 0) (skip_in (Nat.zero_le _)).2.1
 simp only
 cases hr:valR 20 s (skipB s 0) with
 |bad c p =>
  rw[hr]at h hf
  obtain⟨e1,e2⟩:=h
  have hc:=rdCode_ne hf.1
  simp only
  rw[fail_err (by rw[skip_code,e1];exact hc)]
  simp only[ite_self,skip_code,skip_bad,e1,e2,ne_eq,hc,not_false_eq_true,if_true]
 |ok v e =>
  rw[hr]at h hf
  obtain⟨e1,e2⟩:=h
  simp only[e1,e2,skip_ok]
  by_cases h1:skipB s e<s.size
  ·simp[h1,fail_ok]
  ·simp[h1]
end
end Go.Proofs.YtlciedpfjhkkdaaGreatDoor
