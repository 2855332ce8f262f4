/- Texts of this proof: M51 M54 R15. -/
import Derived.Test.YtllfmaflodbieaaGreatDoorKGEuM49
set_option linter.all false
set_option maxHeartbeats 8000000
namespace Go.Proofs.YtllfmaflodbieaaGreatDoor
open Go.RowKit
theorem E2 {s:ByteArray}{a e:Nat}(h:e≤s.size):(s.extract a e).size=e-a:=by
 rw[ByteArray.size_extract]
 omega
theorem CJ (s:ByteArray) (a e:Nat):(s.extract a e).data.toList=(s.data.toList.take e).drop a:=by
 rw[Lib.extract_data,List.drop_take]
theorem RX {s:ByteArray}{a e k:Nat}(h:e≤s.size) (hk:a+k<e):bAt (s.extract a e) k=bAt s (a+k):=by
 rw[DA,DA,CJ,List.getElem?_drop,List.getElem?_take]
 rw[if_pos hk]
def Ct (s:ByteArray):Nat→Nat→Nat→List ByteArray
 | 0,f,_=>if f<s.size then [s.extract f s.size] else []
 |n+1,f,i=>if bAt s i=10 then s.extract f i::Ct s n (i+1) (i+1) else Ct s n f (i+1)
def D7 (s:ByteArray):List ByteArray:=Ct s s.size 0 0
def nlN (s:ByteArray):Nat→Nat→Nat
 | 0,_=>0
 |n+1,i=>(if bAt s i=10 then 1 else 0)+nlN s n (i+1)
def nlB (s:ByteArray):Nat→Nat→Nat
 | 0,i=>i
 |n+1,i=>if bAt s i=10 then i else nlB s n (i+1)
def Fc (s:ByteArray):Nat→Nat→List ByteArray
 | 0,f=>[s.extract f s.size]
 |k+1,f=>s.extract f (nlB s (s.size-f) f)::Fc s k (nlB s (s.size-f) f+1)
theorem Rx (s:ByteArray):∀(n i:Nat),i≤nlB s n i∧nlB s n i≤i+n
 | 0,i=>⟨Nat.le_refl _,Nat.le_refl _⟩
 |n+1,i=>by
  unfold nlB
  have:=Rx s n (i+1)
  split<;>omega
theorem RO (s:ByteArray):∀(n i:Nat),0<nlN s n i→bAt s (nlB s n i)=10∧nlB s n i<i+n∧nlN s n i=nlN s (i+n-(nlB s n i+1)) (nlB s n i+1)+1
 | 0,i,h=>by simp[nlN]at h
 |n+1,i,h=>by
  have e:nlN s (n+1) i=(if bAt s i=10 then 1 else 0)+nlN s n (i+1):=rfl
  have e2:nlB s (n+1) i=if bAt s i=10 then i else nlB s n (i+1):=rfl
  rw[e]at h ⊢
  rw[e2]
  by_cases h10:bAt s i=10
  ·rw[if_pos h10,if_pos h10]
   refine⟨h10,by omega,?_⟩
   rw[show i+(n+1)-(i+1)=n from by omega]
   omega
  ·rw[if_neg h10]at h ⊢
   rw[if_neg h10]
   obtain⟨h1,h2,h3⟩:=RO s n (i+1) (by omega)
   refine⟨h1,by omega,?_⟩
   rw[show i+(n+1)-(nlB s n (i+1)+1)=i+1+n-(nlB s n (i+1)+1) from by omega]
   omega
theorem Ky (s:ByteArray):∀(k f:Nat),(Fc s k f).length=k+1
 | 0,f=>rfl
 |k+1,f=>by simp[Fc,Ky s k]
theorem JC (s:ByteArray):∀(n f i:Nat),0<nlN s n i→Ct s n f i=s.extract f (nlB s n i)::Ct s (i+n-(nlB s n i+1)) (nlB s n i+1) (nlB s n i+1)
 | 0,f,i,h=>by simp[nlN]at h
 |n+1,f,i,h=>by
  unfold nlN at h
  unfold nlB
  by_cases h10:bAt s i=10
  ·rw[if_pos h10,Ct,if_pos h10,show i+(n+1)-(i+1)=n from by omega]
  ·rw[if_neg h10]at h ⊢
   rw[Ct,if_neg h10,JC s n f (i+1) (by omega),show i+(n+1)-(nlB s n (i+1)+1)=i+1+n-(nlB s n (i+1)+1) from by omega]
theorem JQ (s:ByteArray):∀(n f i:Nat),nlN s n i=0→Ct s n f i=if f<s.size then [s.extract f s.size] else []
 | 0,f,i,_=>rfl
 |n+1,f,i,h=>by
  unfold nlN at h
  by_cases h10:bAt s i=10
  ·rw[if_pos h10]at h;omega
  ·rw[if_neg h10]at h
   rw[Ct,if_neg h10,JQ s n f (i+1) (by omega)]
def J0 (l:List ByteArray):List ByteArray:=if l.getLast? = some ByteArray.empty then l.dropLast else l
theorem S8 (x:ByteArray) {l:List ByteArray}(h:l≠[]):J0 (x::l)=x::J0 l:=by
 unfold J0
 cases l with
 |nil=>exact absurd rfl h
 |cons y l =>
  rw[List.getLast?_cons_cons]
  split<;>simp
theorem WJ {s:ByteArray}{f:Nat}(h:s.size≤f):s.extract f s.size=ByteArray.empty:=by
 apply ByteArray.ext
 apply Array.eq_empty_of_size_eq_zero
 have h1:=E2 (s:=s) (a:=f) (e:=s.size) (Nat.le_refl _)
 have h2:(s.extract f s.size).size=(s.extract f s.size).data.size:=rfl
 omega
theorem K5 (s:ByteArray):∀(k f:Nat),f≤s.size→nlN s (s.size-f) f=k→J0 (Fc s k f)=Ct s (s.size-f) f f
 | 0,f,hf,h=>by
  rw[JQ s _ f f h]
  unfold Fc J0
  by_cases hl:f<s.size
  ·have h1:=E2 (s:=s) (a:=f) (e:=s.size) (Nat.le_refl _)
   rw[if_pos hl,if_neg]
   intro he
   simp only[List.getLast?_singleton,Option.some.injEq]at he
   rw[he]at h1
   have h2:(ByteArray.empty:ByteArray).size=0:=rfl
   omega
  ·rw[if_neg hl,WJ (by omega)]
   rfl
 |k+1,f,hf,h=>by
  obtain⟨h1,h2,h3⟩:=RO s (s.size-f) f (by omega)
  have hne:Fc s k (nlB s (s.size-f) f+1)≠[]:=by
   intro h
   have:=Ky s k (nlB s (s.size-f) f+1)
   rw[h]at this
   simp at this
  rw[show f+(s.size-f)-(nlB s (s.size-f) f+1)=s.size-(nlB s (s.size-f) f+1) from by omega]at h3
  rw[JC s (s.size-f) f f (by omega),Fc,S8 _ hne,K5 s k _ (by omega) (by omega),show f+(s.size-f)-(nlB s (s.size-f) f+1)=s.size-(nlB s (s.size-f) f+1) from by omega]
theorem Wm (s:ByteArray):J0 (Fc s (nlN s s.size 0) 0)=D7 s:=by
 have:=K5 s (nlN s s.size 0) 0 (Nat.zero_le _) rfl
 exact this
set_option maxRecDepth 10000
theorem Vm {t:V}{k:Nat}(hk:k<t.kids.length):Bh (bS 44) (t.parts.take (k+1))=if k=0 then t.part k t.kids[k] else Bh (bS 44) (t.parts.take k)++bS 44++t.part k t.kids[k]:=by
 rw[RN (bS 44) (by rw[CN];exact hk),KL t hk]
theorem Ph (t:V):Bh (bS 44) (t.parts.take 0)=ByteArray.empty:=by simp[Bh]
theorem MI:∀(n:Nat) (t:V),t.count≤n→t.right→AC Tryz.prog 80 [Ce t.enc] [] (.c (.str t.txt)) []:=by
 intro n
 induction n with
 |zero=>intro t hn _;have:=Bc t;omega
 |succ n ih =>
  intro t hn ht
  have ra:=Qq t
  have ga:=Dp t
  have hk:=Eu ht
  have hnum:=Gx ht
  have hs:=Da (FU ht)
  have hcase:t.kind=0∨t.kind=1∨t.kind=2∨t.kind=3∨t.kind=4∨(t.kind=5∨t.kind=6):=by omega
  rcases hcase with h | h | h | h | h | h
  ·have b0:(t.kind==0)=true:=by simp[h]
   rw[Gn h];unfold Qh
   refine A6 Tryz.func80 Tryz.ntmps80 ?_
   refine A0 (j3 ra ga b0) ?_
   exact Am (A7 []) Tryz.results80
  ·have b0:(t.kind==0)=false:=by simp[h]
   have b1:(t.kind==1)=true:=by simp[h]
   rw[Fr h];unfold Ll
   refine A6 Tryz.func80 Tryz.ntmps80 ?_
   refine A0 (j4 ra ga b0 b1) ?_
   exact Am (A7 []) Tryz.results80
  ·have b0:(t.kind==0)=false:=by simp[h]
   have b1:(t.kind==1)=false:=by simp[h]
   have b2:(t.kind==2)=true:=by simp[h]
   rw[Gk h];unfold Pr
   refine A6 Tryz.func80 Tryz.ntmps80 ?_
   refine A0 (j5 ra ga b0 b1 b2) ?_
   exact Am (A7 []) Tryz.results80
  ·have b0:(t.kind==0)=false:=by simp[h]
   have b1:(t.kind==1)=false:=by simp[h]
   have b2:(t.kind==2)=false:=by simp[h]
   have b3:(t.kind==3)=true:=by simp[h]
   have h1:=Se t.num (by omega) (by omega)
   rw[Ik h]
   refine A6 Tryz.func80 Tryz.ntmps80 ?_
   refine A0 (j6 ra ga b0 b1 b2 b3) ?_
   refine w7 (A3 [] h1) trivial ?_
   refine A0 trivial ?_
   exact Am (A7 []) Tryz.results80
  ·have b0:(t.kind==0)=false:=by simp[h]
   have b1:(t.kind==1)=false:=by simp[h]
   have b2:(t.kind==2)=false:=by simp[h]
   have b3:(t.kind==3)=false:=by simp[h]
   have b4:(t.kind==4)=true:=by simp[h]
   have h1:=Qg t.text (by omega)
   rw[IG h]
   refine A6 Tryz.func80 Tryz.ntmps80 ?_
   refine A0 (j7 ra ga b0 b1 b2 b3 b4) ?_
   refine w7 (A3 [] h1) trivial ?_
   refine A0 trivial ?_
   exact Am (A7 []) Tryz.results80
  ·have b0:(t.kind==0)=false:=by simp;omega
   have b1:(t.kind==1)=false:=by simp;omega
   have b2:(t.kind==2)=false:=by simp;omega
   have b3:(t.kind==3)=false:=by simp;omega
   have b4:(t.kind==4)=false:=by simp;omega
   have hp:=S5 ht.1 ht.2.1
   have hq:=UT ht.1 ht.2.1
   have hkl:=Cj ht.2.1
   have hlp:((t.kids.map V.enc).map AD).length=t.kids.length:=by simp
   have h0:=Ph t
   refine A6 Tryz.func80 Tryz.ntmps80 ?_
   refine A0 (j7 ra ga b0 b1 b2 b3 b4) ?_
   refine w9 (Aa [] hp) trivial ?_
   refine A0 trivial ?_
   refine w9 (Aa [] hq) trivial ?_
   refine A0 trivial ?_
   refine AG (κ:=Nat) (fun k=>⟨mkS 0 76 [(0,Ce t.enc),(3,.c (.sl ((t.kids.map V.enc).map AD))),(4,.c (.sl ((CK t t.kids.length).map Ab))),(5,.c (.str (Bh (bS 44) (t.parts.take k)))),(6,.c (.int .i64 k))],[]⟩)
    (fun k=>k≤t.kids.length) (fun k=>t.kids.length-k) 0 (Nat.zero_le _) ?_ ?_
   ·exact Aq (As.of [] []) h0
   ·intro k hk1
    have hz:=MU ht hk1
    by_cases hlt:k<t.kids.length
    ·have hdk:decide ((k:Int)<(t.kids.length:Int))=true:=by simpa using hlt
     have hw:=Ae (k:=k) (by omega)
     have hg:((t.kids.map V.enc).map AD)[k]? = some [.sl (t.kids[k].enc.map CellD.cs)]:=by simp[hlt,AD]
     have hra:Aj ((t.kids.map V.enc).map AD) 1 k=true:=by simp[Aj,hlt,AD]
     have hgk:((CK t t.kids.length).map Ab)[k]? = some [.str (t.keyAt k)]:=by simp[CK,hlt,Ab]
     have hrk:Aj ((CK t t.kids.length).map Ab) 1 k=true:=by simp[Aj,CK,hlt,Ab]
     have hks:=Gs ht k
     have hes:=GK hks
     have hqk:=Qg (t.keyAt k) (by omega)
     have hmem:t.kids[k]∈t.kids:=List.getElem_mem hlt
     have hcm:=BC hmem
     have hck:=Bp t
     have hxs:=En (Cg ht hmem)
     have he:=ih t.kids[k] (by omega) (Cg ht hmem)
     have hnx:=Vm hlt
     unfold V.part at hnx
     generalize t.kids[k]=x at *
     generalize t.keyAt k=key at *
     generalize hu0:Bh (bS 44) (t.parts.take k)=u0 at *
     have key1:∀u1:ByteArray,u1.size≤60000→u1.size+(BY key).size≤9223372036854775807∧(u1++BY key).size+1≤9223372036854775807∧(u1++BY key++bS 58).size+x.txt.size≤9223372036854775807∧u1.size+x.txt.size≤9223372036854775807:=by
      intro u1 h1
      simp only[ByteArray.size_append,BJ]
      omega
     rcases Nat.eq_zero_or_pos k with hk0 | hk0
     ·subst hk0
      have hgt:decide (((0:Nat):Int)>0)=false:=by simp
      rw[if_pos rfl]at hnx
      rw[Ph]at hu0
      subst hu0
      obtain⟨x1,x2,x3,x4⟩:=key1 ByteArray.empty (by simp)
      rcases h with h | h
      ·have b6:(t.kind==6)=false:=by simp[h]
       rw[if_neg (by omega)]at hnx
       have hy:ByteArray.empty++x.txt=Bh (bS 44) (t.parts.take (0+1)):=by rw[hnx,ByteArray.empty_append]
       refine A0 (j8 hlp hdk hgt ra ga b6 hra hg) ?_
       refine w7 (A3 [] he) trivial ?_
       refine A0 (j3 x4 hy hw) ?_
       refine⟨0+1,by omega,by omega,?_⟩
       exact Aq (As.of [] []) trivial
      ·have b6:(t.kind==6)=true:=by simp[h]
       rw[if_pos h]at hnx
       have hy:ByteArray.empty++BY key++bS 58++x.txt=Bh (bS 44) (t.parts.take (0+1)):=by rw[hnx,ByteArray.empty_append]
       generalize hv1:ByteArray.empty++BY key=v1 at *
       generalize hv2:v1++bS 58=v2 at *
       refine A0 (j8 hlp hdk hgt ra ga b6 hrk hgk) ?_
       refine w7 (A3 [] hqk) trivial ?_
       refine A0 (j6 x1 hv1 x2 hv2 hra hg) ?_
       refine w7 (A3 [] he) trivial ?_
       refine A0 (j3 x3 hy hw) ?_
       refine⟨0+1,by omega,by omega,?_⟩
       exact Aq (As.of [] []) trivial
     ·have hgt:decide ((k:Int)>0)=true:=by simp;omega
      rw[if_neg (by omega)]at hnx
      have x0:u0.size+1≤9223372036854775807:=by omega
      have hu1s:(u0++bS 44).size≤60000:=by rw[ByteArray.size_append,BJ];omega
      obtain⟨x1,x2,x3,x4⟩:=key1 (u0++bS 44) hu1s
      generalize hu1:u0++bS 44=u1 at *
      rcases h with h | h
      ·have b6:(t.kind==6)=false:=by simp[h]
       rw[if_neg (by omega)]at hnx
       refine A0 (j10 hlp hdk hgt x0 hu1 ra ga b6 hra hg) ?_
       refine w7 (A3 [] he) trivial ?_
       have hy:=hnx.symm
       refine A0 (j3 x4 hy hw) ?_
       refine⟨k+1,by omega,by omega,?_⟩
       exact Aq (As.of [] []) trivial
      ·have b6:(t.kind==6)=true:=by simp[h]
       rw[if_pos h]at hnx
       have hy:u1++BY key++bS 58++x.txt=Bh (bS 44) (t.parts.take (k+1)):=by rw[hnx];simp only[ByteArray.append_assoc]
       generalize hv1:u1++BY key=v1 at *
       generalize hv2:v1++bS 58=v2 at *
       refine A0 (j10 hlp hdk hgt x0 hu1 ra ga b6 hrk hgk) ?_
       refine w7 (A3 [] hqk) trivial ?_
       refine A0 (j6 x1 hv1 x2 hv2 hra hg) ?_
       refine w7 (A3 [] he) trivial ?_
       refine A0 (j3 x3 hy hw) ?_
       refine⟨k+1,by omega,by omega,?_⟩
       exact Aq (As.of [] []) trivial
    ·have hdk:decide ((k:Int)<(t.kids.length:Int))=false:=by simpa using hlt
     obtain rfl:k=t.kids.length:=by omega
     have hall:t.parts.take t.kids.length=t.parts:=List.take_of_length_le (by rw[CN];exact Nat.le_refl _)
     rw[hall]at hz
     have hx1:1+(Bh (bS 44) t.parts).size≤9223372036854775807:=by omega
     rcases h with h | h
     ·have b5:(t.kind==5)=true:=by simp[h]
      have hx2:(bS 91++Bh (bS 44) t.parts).size+1≤9223372036854775807:=by rw[ByteArray.size_append,BJ];omega
      have ht5:=(IA h).symm
      generalize hv1:bS 91++Bh (bS 44) t.parts=v1 at *
      refine A0 (j10 hlp hdk ra ga b5 hall hx1 hv1 hx2 ht5) ?_
      exact A9 (A8 [] []) Tryz.results80 ht5
     ·have b5:(t.kind==5)=false:=by simp[h]
      have hx2:(bS 123++Bh (bS 44) t.parts).size+1≤9223372036854775807:=by rw[ByteArray.size_append,BJ];omega
      have ht5:=(IK h).symm
      generalize hv1:bS 123++Bh (bS 44) t.parts=v1 at *
      refine A0 (j10 hlp hdk ra ga b5 hall hx1 hv1 hx2 ht5) ?_
      exact A9 (A8 [] []) Tryz.results80 ht5
end Go.Proofs.YtllfmaflodbieaaGreatDoor
