/- Texts of this proof: M51 M54 R15 E36. -/
import Derived.Test.YtllfmaflodbieaaGreatDoorKM49uM52
import Derived.Lib.AppendStr
import Derived.Lib.Builder
set_option linter.all false
set_option maxHeartbeats 8000000
namespace Go.Proofs.YtllfmaflodbieaaGreatDoor
section
open Go.RowKit
theorem LI {s:ByteArray}{a e:Nat}(h:e≤s.size):(s.extract a e).size=e-a:=by
 rw[ByteArray.size_extract]
 omega
theorem L1 (s:ByteArray) (a e:Nat):(s.extract a e).data.toList=(s.data.toList.take e).drop a:=by
 rw[Lib.extract_data,List.drop_take]
theorem a0q {s:ByteArray}{a e k:Nat}(h:e≤s.size) (hk:a+k<e):bAt (s.extract a e) k=bAt s (a+k):=by
 rw[LF,LF,L1,List.getElem?_drop,List.getElem?_take]
 rw[if_pos hk]
def Lj (s:ByteArray):Nat→Nat→Nat→List ByteArray
 | 0,f,_=>if f<s.size then [s.extract f s.size] else []
 |n+1,f,i=>if bAt s i=10 then s.extract f i::Lj s n (i+1) (i+1) else Lj s n f (i+1)
def NL (s:ByteArray):List ByteArray:=Lj s s.size 0 0
def nlN (s:ByteArray):Nat→Nat→Nat
 | 0,_=>0
 |n+1,i=>(if bAt s i=10 then 1 else 0)+nlN s n (i+1)
def nlB (s:ByteArray):Nat→Nat→Nat
 | 0,i=>i
 |n+1,i=>if bAt s i=10 then i else nlB s n (i+1)
def Nj (s:ByteArray):Nat→Nat→List ByteArray
 | 0,f=>[s.extract f s.size]
 |k+1,f=>s.extract f (nlB s (s.size-f) f)::Nj s k (nlB s (s.size-f) f+1)
theorem XP (s:ByteArray):∀(n i:Nat),i≤nlB s n i∧nlB s n i≤i+n
 | 0,i=>⟨Nat.le_refl _,Nat.le_refl _⟩
 |n+1,i=>by
  unfold nlB
  have:=XP s n (i+1)
  split<;>omega
theorem XO (s:ByteArray):∀(n i:Nat),0<nlN s n i→bAt s (nlB s n i)=10∧nlB s n i<i+n∧nlN s n i=nlN s (i+n-(nlB s n i+1)) (nlB s n i+1)+1
 | 0,i,h=>by simp[nlN]at h
 |n+1,i,h=>by
  have e:nlN s (n+1) i=(if bAt s i=10 then 1 else 0)+nlN s n (i+1):=rfl
  have e2:nlB s (n+1) i=if bAt s i=10 then i else nlB s n (i+1):=rfl
  rw[e]at h ⊢
  rw[e2]
  by_cases h10:bAt s i=10
  ·rw[if_pos h10,if_pos h10]
   refine⟨h10,by omega,?_⟩
   rw[show i+(n+1)-(i+1)=n from by omega]
   omega
  ·rw[if_neg h10]at h ⊢
   rw[if_neg h10]
   obtain⟨h1,h2,h3⟩:=XO s n (i+1) (by omega)
   refine⟨h1,by omega,?_⟩
   rw[show i+(n+1)-(nlB s n (i+1)+1)=i+1+n-(nlB s n (i+1)+1) from by omega]
   omega
theorem SR (s:ByteArray):∀(k f:Nat),(Nj s k f).length=k+1
 | 0,f=>rfl
 |k+1,f=>by simp[Nj,SR s k]
theorem Oc (s:ByteArray):∀(n f i:Nat),0<nlN s n i→Lj s n f i=s.extract f (nlB s n i)::Lj s (i+n-(nlB s n i+1)) (nlB s n i+1) (nlB s n i+1)
 | 0,f,i,h=>by simp[nlN]at h
 |n+1,f,i,h=>by
  unfold nlN at h
  unfold nlB
  by_cases h10:bAt s i=10
  ·rw[if_pos h10,Lj,if_pos h10,show i+(n+1)-(i+1)=n from by omega]
  ·rw[if_neg h10]at h ⊢
   rw[Lj,if_neg h10,Oc s n f (i+1) (by omega),show i+(n+1)-(nlB s n (i+1)+1)=i+1+n-(nlB s n (i+1)+1) from by omega]
theorem QN (s:ByteArray):∀(n f i:Nat),nlN s n i=0→Lj s n f i=if f<s.size then [s.extract f s.size] else []
 | 0,f,i,_=>rfl
 |n+1,f,i,h=>by
  unfold nlN at h
  by_cases h10:bAt s i=10
  ·rw[if_pos h10]at h;omega
  ·rw[if_neg h10]at h
   rw[Lj,if_neg h10,QN s n f (i+1) (by omega)]
def Q4 (l:List ByteArray):List ByteArray:=if l.getLast? = some ByteArray.empty then l.dropLast else l
theorem Ym (x:ByteArray) {l:List ByteArray}(h:l≠[]):Q4 (x::l)=x::Q4 l:=by
 unfold Q4
 cases l with
 |nil=>exact absurd rfl h
 |cons y l =>
  rw[List.getLast?_cons_cons]
  split<;>simp
theorem a0r {s:ByteArray}{f:Nat}(h:s.size≤f):s.extract f s.size=ByteArray.empty:=by
 apply ByteArray.ext
 apply Array.eq_empty_of_size_eq_zero
 have h1:=LI (s:=s) (a:=f) (e:=s.size) (Nat.le_refl _)
 have h2:(s.extract f s.size).size=(s.extract f s.size).data.size:=rfl
 omega
theorem QZ (s:ByteArray):∀(k f:Nat),f≤s.size→nlN s (s.size-f) f=k→Q4 (Nj s k f)=Lj s (s.size-f) f f
 | 0,f,hf,h=>by
  rw[QN s _ f f h]
  unfold Nj Q4
  by_cases hl:f<s.size
  ·have h1:=LI (s:=s) (a:=f) (e:=s.size) (Nat.le_refl _)
   rw[if_pos hl,if_neg]
   intro he
   simp only[List.getLast?_singleton,Option.some.injEq]at he
   rw[he]at h1
   have h2:(ByteArray.empty:ByteArray).size=0:=rfl
   omega
  ·rw[if_neg hl,a0r (by omega)]
   rfl
 |k+1,f,hf,h=>by
  obtain⟨h1,h2,h3⟩:=XO s (s.size-f) f (by omega)
  have hne:Nj s k (nlB s (s.size-f) f+1)≠[]:=by
   intro h
   have:=SR s k (nlB s (s.size-f) f+1)
   rw[h]at this
   simp at this
  rw[show f+(s.size-f)-(nlB s (s.size-f) f+1)=s.size-(nlB s (s.size-f) f+1) from by omega]at h3
  rw[Oc s (s.size-f) f f (by omega),Nj,Ym _ hne,QZ s k _ (by omega) (by omega),show f+(s.size-f)-(nlB s (s.size-f) f+1)=s.size-(nlB s (s.size-f) f+1) from by omega]
theorem a2l (s:ByteArray):Q4 (Nj s (nlN s s.size 0) 0)=NL s:=by
 have:=QZ s (nlN s s.size 0) 0 (Nat.zero_le _) rfl
 exact this
set_option maxRecDepth 10000
theorem a1t {t:V}{k:Nat}(hk:k<t.kids.length):H0 (bS 44) (t.parts.take (k+1))=if k=0 then t.part k t.kids[k] else H0 (bS 44) (t.parts.take k)++bS 44++t.part k t.kids[k]:=by
 rw[Sg (bS 44) (by rw[LB];exact hk),SD t hk]
theorem WF (t:V):H0 (bS 44) (t.parts.take 0)=ByteArray.empty:=by simp[H0]
theorem Zv:∀(n:Nat) (t:V),t.count≤n→t.right→AC Tryz.prog 80 [Iw t.enc] [] (.c (.str t.txt)) []:=by
 intro n
 induction n with
 |zero=>intro t hn _;have:=K8 t;omega
 |succ n ih =>
  intro t hn ht
  have ra:=VQ t
  have ga:=Lq t
  have hk:=Mt ht
  have hnum:=Mu ht
  have hs:=KI (Ld ht)
  have hcase:t.kind=0∨t.kind=1∨t.kind=2∨t.kind=3∨t.kind=4∨(t.kind=5∨t.kind=6):=by omega
  rcases hcase with h | h | h | h | h | h
  ·have b0:(t.kind==0)=true:=by simp[h]
   rw[NC h];unfold Jl
   refine JI Tryz.func80 Tryz.ntmps80 ?_
   refine JV (j3 ra ga b0) ?_
   exact JW (Iu []) Tryz.results80
  ·have b0:(t.kind==0)=false:=by simp[h]
   have b1:(t.kind==1)=true:=by simp[h]
   rw[MO h];unfold IC
   refine JI Tryz.func80 Tryz.ntmps80 ?_
   refine JV (j4 ra ga b0 b1) ?_
   exact JW (Iu []) Tryz.results80
  ·have b0:(t.kind==0)=false:=by simp[h]
   have b1:(t.kind==1)=false:=by simp[h]
   have b2:(t.kind==2)=true:=by simp[h]
   rw[ND h];unfold Jr
   refine JI Tryz.func80 Tryz.ntmps80 ?_
   refine JV (j5 ra ga b0 b1 b2) ?_
   exact JW (Iu []) Tryz.results80
  ·have b0:(t.kind==0)=false:=by simp[h]
   have b1:(t.kind==1)=false:=by simp[h]
   have b2:(t.kind==2)=false:=by simp[h]
   have b3:(t.kind==3)=true:=by simp[h]
   have h1:=Xi t.num (by omega) (by omega)
   rw[NT h]
   refine JI Tryz.func80 Tryz.ntmps80 ?_
   refine JV (j6 ra ga b0 b1 b2 b3) ?_
   refine w7 (Ju [] h1) q9 ?_
   refine JV q9 ?_
   exact JW (Iu []) Tryz.results80
  ·have b0:(t.kind==0)=false:=by simp[h]
   have b1:(t.kind==1)=false:=by simp[h]
   have b2:(t.kind==2)=false:=by simp[h]
   have b3:(t.kind==3)=false:=by simp[h]
   have b4:(t.kind==4)=true:=by simp[h]
   have h1:=SK t.text (by omega)
   rw[NU h]
   refine JI Tryz.func80 Tryz.ntmps80 ?_
   refine JV (j7 ra ga b0 b1 b2 b3 b4) ?_
   refine w7 (Ju [] h1) q9 ?_
   refine JV q9 ?_
   exact JW (Iu []) Tryz.results80
  ·have b0:(t.kind==0)=false:=by simp;omega
   have b1:(t.kind==1)=false:=by simp;omega
   have b2:(t.kind==2)=false:=by simp;omega
   have b3:(t.kind==3)=false:=by simp;omega
   have b4:(t.kind==4)=false:=by simp;omega
   have hp:=Sn ht.1 ht.2.1
   have hq:=TR ht.1 ht.2.1
   have hkl:=Kg ht.2.1
   have hlp:((t.kids.map V.enc).map CH).length=t.kids.length:=by simp
   have h0:=WF t
   refine JI Tryz.func80 Tryz.ntmps80 ?_
   refine JV (j7 ra ga b0 b1 b2 b3 b4) ?_
   refine w9 (Ja [] hp) q9 ?_
   refine JV q9 ?_
   refine w9 (Ja [] hq) q9 ?_
   refine JV q9 ?_
   refine Jz (κ:=Nat) (fun k=>⟨mkS 0 76 [(0,Iw t.enc),(3,.c (.sl ((t.kids.map V.enc).map CH))),(4,.c (.sl ((KQ t t.kids.length).map CX))),(5,.c (.str (H0 (bS 44) (t.parts.take k)))),(6,.c (.int .i64 k))],[]⟩)
    (fun k=>k≤t.kids.length) (fun k=>t.kids.length-k) 0 (Nat.zero_le _) ?_ ?_
   ·exact JQ (F7.of [] []) h0
   ·intro k hk1
    have hz:=TP ht hk1
    by_cases hlt:k<t.kids.length
    ·have hdk:decide ((k:Int)<(t.kids.length:Int))=true:=by simpa using hlt
     have hw:=JX (k:=k) (by omega)
     have hg:((t.kids.map V.enc).map CH)[k]? = some [.sl (t.kids[k].enc.map CellD.cs)]:=by simp[hlt,CH]
     have hra:B4 ((t.kids.map V.enc).map CH) 1 k=true:=by simp[B4,hlt,CH]
     have hgk:((KQ t t.kids.length).map CX)[k]? = some [.str (t.keyAt k)]:=by simp[KQ,hlt,CX]
     have hrk:B4 ((KQ t t.kids.length).map CX) 1 k=true:=by simp[B4,KQ,hlt,CX]
     have hks:=LY ht k
     have hes:=LV hks
     have hqk:=SK (t.keyAt k) (by omega)
     have hmem:t.kids[k]∈t.kids:=List.getElem_mem hlt
     have hcm:=K7 hmem
     have hck:=K4 t
     have hxs:=Mv (K1 ht hmem)
     have he:=ih t.kids[k] (by omega) (K1 ht hmem)
     have hnx:=a1t hlt
     unfold V.part at hnx
     generalize t.kids[k]=x at *
     generalize t.keyAt k=key at *
     generalize hu0:H0 (bS 44) (t.parts.take k)=u0 at *
     have key1:∀u1:ByteArray,u1.size≤60000→u1.size+(HH key).size≤9223372036854775807∧(u1++HH key).size+1≤9223372036854775807∧(u1++HH key++bS 58).size+x.txt.size≤9223372036854775807∧u1.size+x.txt.size≤9223372036854775807:=by
      intro u1 h1
      simp only[ByteArray.size_append,K9]
      omega
     rcases Nat.eq_zero_or_pos k with hk0 | hk0
     ·subst hk0
      have hgt:decide (((0:Nat):Int)>0)=false:=by simp
      rw[if_pos rfl]at hnx
      rw[WF]at hu0
      subst hu0
      obtain⟨x1,x2,x3,x4⟩:=key1 ByteArray.empty (by simp)
      rcases h with h | h
      ·have b6:(t.kind==6)=false:=by simp[h]
       rw[if_neg (by omega)]at hnx
       have hy:ByteArray.empty++x.txt=H0 (bS 44) (t.parts.take (0+1)):=by rw[hnx,ByteArray.empty_append]
       refine JV (j8 hlp hdk hgt ra ga b6 hra hg) ?_
       refine w7 (Ju [] he) q9 ?_
       refine JV (j3 x4 hy hw) ?_
       refine⟨0+1,by omega,by omega,?_⟩
       exact JQ (F7.of [] []) q9
      ·have b6:(t.kind==6)=true:=by simp[h]
       rw[if_pos h]at hnx
       have hy:ByteArray.empty++HH key++bS 58++x.txt=H0 (bS 44) (t.parts.take (0+1)):=by rw[hnx,ByteArray.empty_append]
       generalize hv1:ByteArray.empty++HH key=v1 at *
       generalize hv2:v1++bS 58=v2 at *
       refine JV (j8 hlp hdk hgt ra ga b6 hrk hgk) ?_
       refine w7 (Ju [] hqk) q9 ?_
       refine JV (j6 x1 hv1 x2 hv2 hra hg) ?_
       refine w7 (Ju [] he) q9 ?_
       refine JV (j3 x3 hy hw) ?_
       refine⟨0+1,by omega,by omega,?_⟩
       exact JQ (F7.of [] []) q9
     ·have hgt:decide ((k:Int)>0)=true:=by simp;omega
      rw[if_neg (by omega)]at hnx
      have x0:u0.size+1≤9223372036854775807:=by omega
      have hu1s:(u0++bS 44).size≤60000:=by rw[ByteArray.size_append,K9];omega
      obtain⟨x1,x2,x3,x4⟩:=key1 (u0++bS 44) hu1s
      generalize hu1:u0++bS 44=u1 at *
      rcases h with h | h
      ·have b6:(t.kind==6)=false:=by simp[h]
       rw[if_neg (by omega)]at hnx
       refine JV (j10 hlp hdk hgt x0 hu1 ra ga b6 hra hg) ?_
       refine w7 (Ju [] he) q9 ?_
       have hy:=hnx.symm
       refine JV (j3 x4 hy hw) ?_
       refine⟨k+1,by omega,by omega,?_⟩
       exact JQ (F7.of [] []) q9
      ·have b6:(t.kind==6)=true:=by simp[h]
       rw[if_pos h]at hnx
       have hy:u1++HH key++bS 58++x.txt=H0 (bS 44) (t.parts.take (k+1)):=by rw[hnx];simp only[ByteArray.append_assoc]
       generalize hv1:u1++HH key=v1 at *
       generalize hv2:v1++bS 58=v2 at *
       refine JV (j10 hlp hdk hgt x0 hu1 ra ga b6 hrk hgk) ?_
       refine w7 (Ju [] hqk) q9 ?_
       refine JV (j6 x1 hv1 x2 hv2 hra hg) ?_
       refine w7 (Ju [] he) q9 ?_
       refine JV (j3 x3 hy hw) ?_
       refine⟨k+1,by omega,by omega,?_⟩
       exact JQ (F7.of [] []) q9
    ·have hdk:decide ((k:Int)<(t.kids.length:Int))=false:=by simpa using hlt
     obtain rfl:k=t.kids.length:=by omega
     have hall:t.parts.take t.kids.length=t.parts:=List.take_of_length_le (by rw[LB];exact Nat.le_refl _)
     rw[hall]at hz
     have hx1:1+(H0 (bS 44) t.parts).size≤9223372036854775807:=by omega
     rcases h with h | h
     ·have b5:(t.kind==5)=true:=by simp[h]
      have hx2:(bS 91++H0 (bS 44) t.parts).size+1≤9223372036854775807:=by rw[ByteArray.size_append,K9];omega
      have ht5:=(OK h).symm
      generalize hv1:bS 91++H0 (bS 44) t.parts=v1 at *
      refine JV (j10 hlp hdk ra ga b5 hall hx1 hv1 hx2 ht5) ?_
      exact JJ (JN [] []) Tryz.results80 ht5
     ·have b5:(t.kind==5)=false:=by simp[h]
      have hx2:(bS 123++H0 (bS 44) t.parts).size+1≤9223372036854775807:=by rw[ByteArray.size_append,K9];omega
      have ht5:=(OM h).symm
      generalize hv1:bS 123++H0 (bS 44) t.parts=v1 at *
      refine JV (j10 hlp hdk ra ga b5 hall hx1 hv1 hx2 ht5) ?_
      exact JJ (JN [] []) Tryz.results80 ht5
end
section
open Go.RowKit
def NW (T e:TypeId) (s:ByteArray) (κ:Value) (l:List (Nat×Obj)):Prop :=
 ∃b p v,κ=.pointer (some ⟨b,0,none⟩)∧(p=.pointer none∨p=.pointer (some ⟨b,0,none⟩))∧(b,Obj.cells #[p,v] T (0,0))∈l∧v.ownBlock≠some b∧(∀g,v.ownBlock=some g→∃o,(g,o)∈l) ∧
  ∀w:World,(∀q,q∈l→w.heap[q.1]? = some q.2)→w.ownsRow 0 e 1 v s.size (Lib.strCells s)
structure BldAt (T e:TypeId) (s:ByteArray) (w:World) (ow:Nat→Option Id) (i:Id) (b:Nat) (p v:Value):Prop where
 ptr:p=.pointer none∨p=.pointer (some ⟨b,0,none⟩)
 mine:ow b=some i
 cells:w.heap[b]? = some (.cells #[p,v] T (0,0))
 ne:v.ownBlock≠some b
 buf:∀g,v.ownBlock=some g→ow g=some i
 owns:w.ownsRow 0 e 1 v s.size (Lib.strCells s)
section
variable {T e:TypeId} {s:ByteArray} {w:World} {S:Nat→Prop} {m:Mem} {ow:Nat→Option Id} {κ:Id→Value} {i:Id}
theorem Xa (h:OR w S m ow κ i (.gen (NW T e s))):∃b p v,κ i=.pointer (some ⟨b,0,none⟩)∧BldAt T e s w ow i b p v:=by
 obtain⟨l,h1,b,p,v,h2,h3,h4,h5,h6,h7⟩:=h
 refine⟨b,p,v,h2,h3,(h1 _ h4).1,(h1 _ h4).2,h5,fun g hg=>?_,h7 w fun q hq=>(h1 q hq).2⟩
 obtain⟨o,ho⟩:=h6 g hg
 exact (h1 _ ho).1
theorem Xb {b:Nat}{p v:Value}(hk:κ i=.pointer (some ⟨b,0,none⟩)) (h:BldAt T e s w ow i b p v):OR w S m ow κ i (.gen (NW T e s)):=by
 have ho:=h.owns
 rcases ho.2 with⟨hv,hn⟩ | ⟨g,cap,cur,hv,hg0,hg,hrest⟩
 ·refine⟨[(b,.cells #[p,v] T (0,0))],?_,b,p,v,hk,h.ptr,by simp,h.ne,fun g hg=>by rw[hv]at hg;simp[Value.ownBlock]at hg,fun w' _=>⟨ho.1,.inl ⟨hv,hn⟩⟩⟩
  intro q hq
  obtain rfl:q=(b,.cells #[p,v] T (0,0)):=by simpa using hq
  exact⟨h.mine,h.cells⟩
 ·have hb:v.ownBlock=some g:=by rw[hv];rfl
  refine⟨[(b,.cells #[p,v] T (0,0)),(g,.cells cur e (0,0))],?_,b,p,v,hk,h.ptr,by simp,h.ne,fun g' hg'=>?_,fun w' hw'=>⟨ho.1,.inr ⟨g,cap,cur,hv,hg0,hw' (g,.cells cur e (0,0)) (by simp),hrest⟩⟩⟩
  ·intro q hq
   simp only[List.mem_cons,List.not_mem_nil,or_false]at hq
   rcases hq with rfl | rfl
   ·exact⟨h.mine,h.cells⟩
   ·exact⟨h.buf g hb,hg⟩
  ·rw[hb]at hg'
   cases hg'
   exact⟨.cells cur e (0,0),by simp⟩
end
section
variable {P:Program}
theorem PX (w:World) (base:Nat) (t u ty e:TypeId) (i:TypeInfo) (ht:P.underlying t=some (.slice e)) (hu:P.underlying u=some .string) (hi:P.info? e=some i) (hz:i.zero=some (.int .u8 0))
  (hsize:i.size=1) (hby:i.bytes=1) (v:Value) (n:Nat) (xs:List Value) (hown:w.ownsRow base e 1 v n xs) (s:ByteArray) (hbytes:n+s.size≤140737488355328) (hbase:base≤w.heap.size) :
  ∃v' w',(Builtin.append_ #[t,u] ty #[v,.string s]).run P w=.ok v' w'∧w'.ownsRow base e 1 v' (n+s.size) (xs++Lib.strCells s)∧w.grownBy w' v.ownBlock∧(v'.ownBlock=v.ownBlock∨v'.ownBlock=some w.heap.size):=by
 obtain⟨v',w',h1,h2,h3,h4⟩:=Lib.run_append_own_string (P:=P) w base t u ty e i ht hu hi hz hsize hby v n xs hown s (by unfold maxLen;omega) hbytes hbase
 refine⟨v',w',h1,h2,h3,?_⟩
 have hxl:xs.length=n:=by simpa using hown.1
 rcases hown.2 with⟨rfl,rfl⟩ | ⟨g,cap,cur,rfl,hbg,hg,hnc,hcm,hcs,htake⟩
 ·by_cases hm:s.size=0
  ·rw[h4.2 ⟨rfl,hm⟩];exact .inl rfl
  ·have hr:=run_append_nil_string (P:=P) w t u ty e i (.int .u8 0) ht hu hi hz s (by omega) (by omega) (by rw[hby];omega)
   have h5:=h1.symm.trans hr
   injection h5 with h5 _
   rw[h5]
   exact .inr rfl
 ·by_cases hroom:n+s.size≤cap
  ·have hcs':cur.size=cap:=by simpa using hcs
   have hr:=Lib.run_append_room_string (P:=P) w t u ty e i ht hu hi hsize g n cap cur hg s hroom (by omega)
   have h5:=h1.symm.trans hr
   injection h5 with h5 _
   rw[h5]
   exact .inl rfl
  ·have BR:∀j u,xs[j]? = some u→w.cell? ((⟨g,0,none⟩:Addr).add j)=some u:=hown.cells (g:=g) rfl
   have hr:=Lib.run_append_grow_string (P:=P) w t u ty e i (.int .u8 0) ht hu hi hz ⟨g,0,none⟩ n cap xs (by rw[hsize];simpa using hxl) BR s (by omega) (by omega) (by rw[hby];exact growslice_fits (by omega) (by omega))
   have h5:=h1.symm.trans hr
   injection h5 with h5 _
   rw[h5]
   exact .inr rfl
theorem Ot {ops:Array Oper}{rest:List Oper}{o:Oper}{a:Act}{w:World}{Q:Exit→Act→World→Prop}(hgd:o.guard=none) (sl x:Operand) (t u:TypeId)
  (ho:o.op=.call { callee:=.builtin .append,args:=#[sl,x],argTypes:=#[t,u] })
  (base:Nat) (e:TypeId) (i:TypeInfo) (ht:P.underlying t=some (.slice e)) (hu:P.underlying u=some .string) (hi:P.info? e=some i) (hz:i.zero=some (.int .u8 0))
  (hsize:i.size=1) (hby:i.bytes=1)
  (v:Value) (n:Nat) (xs:List Value) (hs:a.eval sl=v) (hown:w.ownsRow base e 1 v n xs) (s:ByteArray) (hx:a.eval x=.string s)
  (hbytes:n+s.size≤140737488355328) (hbase:base≤w.heap.size)
  (h:∀v' w',w'.ownsRow base e 1 v' (n+s.size) (xs++Lib.strCells s)→w.grownBy w' v.ownBlock→(v'.ownBlock=v.ownBlock∨v'.ownBlock=some w.heap.size)→wpList P ops Q rest (a.put o.dst v') w'):wpList P ops Q (o::rest) a w:=by
 refine wpList_plain hgd fun K hK=>?_
 obtain⟨v',w',hr,h2,h3,h4⟩:=PX (P:=P) w base t u o.type e i ht hu hi hz hsize hby v n xs hown s hbytes hbase
 unfold Oper.wp execOp
 simp only[ho,resolve,invoke,builtin,Sem.run_bind,Sem.run_pure,Result.andThen_ok,List.map_toArray,List.map_cons,List.map_nil,hs,hx,hr]
 exact hK _ _ (h v' w' h2 h3 h4)
end
def Zi (P:Program) (T:TypeId):Prop:=∃fs n,tin P T=some ⟨.st fs,2,n,some (.agg #[.pointer none,.slice none 0 0])⟩∧(fs.all fun f=>(tin P f.1).isSome)=true
section
variable {P:Program} {o:Oper} {σ:ASt}
theorem Y7 {T e:TypeId}{fr:Id}(ho:o.op=.alloc T) (hz:Zi P T) (hf:σ.mem.get fr=none):A3 P o σ ⟨[],[(fr,.gen (NW T e ByteArray.empty))],.ptr fr 0⟩:=by
 obtain⟨fs,sb,hz,_⟩:=hz
 intro Γ σ' a w ow κ hag hr
 have hf':σ'.mem.get fr=none:=by rw[hag.2.2 fr (by simp),hf]
 have st:Step σ'.mem [(fr,.gen (NW T e ByteArray.empty))] w ow κ (w.alloc (.cells #[.pointer none,.slice none 0 0] T)) (B3 ow [] fr (some w.heap.size)) (AX κ fr (.pointer (some ⟨w.heap.size,0,none⟩))) :=
  Step.make (ks:=[]) rfl rfl rfl (by simp) hf' (by simp) rfl (fun b hb _=>Below.heap_alloc w _ b hb) (fun b hb=>by cases hb;exact⟨by simp,.inl (Nat.le_refl _)⟩) hr.owns
 refine⟨.pointer (some ⟨w.heap.size,0,none⟩),_,_,_,.inl ?_,hr.step (E:=⟨[],[(fr,.gen (NW T e ByteArray.empty))],.ptr fr 0⟩) st ⟨rfl,.gen (NW T e ByteArray.empty),AF (ks:=[]) (by simp),fun _=>⟨w.heap.size,by simp[AX],rfl⟩⟩ (fun i hi o' ho'=>?_) o.dst⟩
 ·unfold execOp
  rw[ho]
  simp[Instr.alloc,Cc hz,newVar,newRow]
  rfl
 ·have hi':i=fr:=by simpa using hi
  subst hi'
  cases (AF (m:=σ'.mem) (ks:=[]) (fr:=i) (obj:=.gen (NW T e ByteArray.empty)) (by simp)).symm.trans ho'
  refine Xb (b:=w.heap.size) (p:=.pointer none) (v:=.slice none 0 0) (by simp[AX]) ⟨.inl rfl,by simp[B3],heap_alloc_new w _,by simp[Value.ownBlock],fun g hg=>by simp[Value.ownBlock]at hg,?_⟩
  exact World.ownsRow_nil _ _ _ _
theorem Vf {T e:TypeId}{y q:Operand}{i:Id}(ho:o.op=.store T y q) (hz:Zi P T) (hy:σ.ev y=.ptr i 0) (hq:σ.ev q=.agg [.c (.raw (.pointer none)),.nils]) (hi:σ.mem.get i=some (.gen (NW T e ByteArray.empty))) :
  A3 P o σ ⟨[],[(i,.gen (NW T e ByteArray.empty))],.skip⟩:=by
 obtain⟨fs,sb,hz,_⟩:=hz
 intro Γ σ' a w ow κ hag hr
 have hi':σ'.mem.get i=some (.gen (NW T e ByteArray.empty)):=by rw[hag.2.2 i (by simp),hi]
 obtain⟨_,o1,k1,k2⟩:=hag.ev hr (by rw[ho];simp[Op.operands]) hy
 rw[hi']at k1
 cases k1
 obtain⟨b0,e1,e2⟩:=k2 rfl
 obtain⟨vs,q1,q2,_⟩:=hag.ev hr (by rw[ho];simp[Op.operands]) hq
 obtain⟨v1,r1,rfl,⟨rfl,_⟩,v2,r2,rfl,h2,hr2⟩:=q2
 simp only[AR]at h2
 subst h2
 simp only[ARs]at hr2
 subst hr2
 obtain⟨b,p,v,g1,g2⟩:=Xa (hr.objs i _ hi')
 obtain rfl:b0=b:=by
  have:=e1.symm.trans g1
  simpa using this
 have hrun:=AG hz g2.cells (off:=0) (v:=.agg (List.toArray [Value.pointer none,.slice none 0 0])) (us:=[.pointer none,.slice none 0 0]) rfl rfl (by simp) (by intro u hu;simp at hu;rcases hu with rfl | rfl<;>rfl)
 have hput:Aj (#[p,v]:Array Value).toList 0 [Value.pointer none,.slice none 0 0]=[.pointer none,.slice none 0 0]:=by simp[Aj]
 rw[hput]at hrun
 have st:Step σ'.mem [(i,.gen (NW T e ByteArray.empty))] w ow κ (w.setRow b0 [Value.pointer none,.slice none 0 0].toArray) ow κ :=
  Step.write rfl rfl rfl (by simp) hi' rfl rfl (fun b' hb' hne=>setRow_other w b0 b' _ (fun e=>hne (by rw[e];exact g2.mine))) (fun b i hb=>(hr.own b i hb).1)
 refine⟨undef,_,ow,κ,.inr ⟨?_,rfl⟩,hr.step (E:=⟨[],[(i,.gen (NW T e ByteArray.empty))],.skip⟩) st rfl (fun j hj o' ho'=>?_) o.dst⟩
 ·unfold execOp
  rw[ho]
  simp[Instr.storeAt,Instr.sureAddr,e2,q1,hrun]
 ·have hji:j=i:=by simpa using hj
  subst hji
  have:o'=.gen (NW T e ByteArray.empty):=by
   have:(σ'.mem.puts [(j,AO.gen (NW T e ByteArray.empty))]).get j=some o':=ho'
   simp[Mem.puts,Mem.get_put]at this
   exact this.symm
  subst this
  exact Xb (p:=.pointer none) (v:=.slice none 0 0) g1 ⟨.inl rfl,g2.mine,setRow_heap w b0 _ _ T _ g2.cells,by simp[Value.ownBlock],fun g hg=>by simp[Value.ownBlock]at hg,World.ownsRow_nil _ _ _ _⟩
end
section
variable {P:Program} {σ τ:ASt} {ops:Array Oper} {r:List Oper} {fs:List AEff} {K:ASt→List AEff→Prop} {E:AEff} {d:Option Tmp} {ty':TypeId} {pos:String} {af:Array Edge} {gd:Option (Nat×Bool)}
theorem b7 {T:TypeId}(e:TypeId) (hz:Zi P T) (hg:AB ops σ ⟨d,.alloc T,ty',pos,af,gd⟩=some true) (hf:σ.mem.get (σ.fresh ⟨d,.alloc T,ty',pos,af,gd⟩)=none)
  (he:(⟨[],[(σ.fresh ⟨d,.alloc T,ty',pos,af,gd⟩,.gen (NW T e ByteArray.empty))],.ptr (σ.fresh ⟨d,.alloc T,ty',pos,af,gd⟩) 0⟩:AEff)=E) (hτ:σ.upd d E=τ) (h:A4 P ops r τ (fs++[E]) K):A4 P ops (⟨d,.alloc T,ty',pos,af,gd⟩::r) σ fs K:=by
 subst he
 exact Ku hg (Y7 rfl hz hf).sound hτ h
theorem WD {T e:TypeId}{y q:Operand}{i:Id}(hz:Zi P T) (hg:AB ops σ ⟨d,.store T y q,ty',pos,af,gd⟩=some true) (hy:σ.ev y=.ptr i 0) (hq:σ.ev q=.agg [.c (.raw (.pointer none)),.nils]) (hi:σ.mem.get i=some (.gen (NW T e ByteArray.empty)))
  (he:(⟨[],[(i,.gen (NW T e ByteArray.empty))],.skip⟩:AEff)=E) (hτ:σ.upd d E=τ) (h:A4 P ops r τ (fs++[E]) K):A4 P ops (⟨d,.store T y q,ty',pos,af,gd⟩::r) σ fs K:=by
 subst he
 exact Ku hg (Vf rfl hz hy hq hi).sound hτ h
theorem XT {T:TypeId}(hz:Zi P T) (hg:AB ops σ ⟨d,.build T #[],ty',pos,af,gd⟩=some true)
  (he:(⟨[],[],.agg [.c (.raw (.pointer none)),.nils]⟩:AEff)=E) (hτ:σ.upd d E=τ) (h:A4 P ops r τ (fs++[E]) K):A4 P ops (⟨d,.build T #[],ty',pos,af,gd⟩::r) σ fs K:=by
 subst he
 obtain⟨fs,n,hz,hf⟩:=hz
 refine Ku hg (Gm rfl ?_).sound hτ h
 unfold Ch
 rw[hz]
 have h0:DF (some (.agg #[.pointer none,.slice none 0 0]))=some [.c (.raw (.pointer none)),.nils]:=rfl
 simp only[h0,hf,if_true,Da,Option.map_some]
end
end
end Go.Proofs.YtllfmaflodbieaaGreatDoor
