/- Texts of this proof: M49 M50 M52. -/
import Derived.Test.YtllfmaflodbieaaGreatDoorKG15uM43
set_option linter.all false
namespace Go.Proofs.YtllfmaflodbieaaGreatDoor
open Go.RowKit
def Sub (s:ByteArray) (i:Nat) (l:List UInt8):Prop:=∃r,s.data.toList.drop i=l++r
theorem LF (s:ByteArray) (i:Nat):bAt s i=match s.data.toList[i]? with | some b=>b.toNat | none=>256:=by
 rcases Nat.lt_or_ge i s.size with h | h
 ·obtain⟨b,h1,h2⟩:=LO h
  have h3:s.data.toList[i]? = some b:=by
   have:s[i]? = some s[i]:=getElem?_pos s i h
   rw[this]at h1
   have hl:i<s.data.toList.length:=by rw[Array.length_toList];exact h
   rw[List.getElem?_eq_getElem hl,Array.getElem_toList]
   exact h1
  rw[h3,h2]
 ·have hl:s.data.toList[i]? = none:=List.getElem?_eq_none (by rw[Array.length_toList];exact h)
  rw[hl,Lw h]
theorem Sub.left {s:ByteArray}{i:Nat}{a b:List UInt8}(h:Sub s i (a++b)):Sub s i a:=by
 obtain⟨r,h⟩:=h
 exact⟨b++r,by rw[h,List.append_assoc]⟩
theorem Sub.right {s:ByteArray}{i:Nat}{a b:List UInt8}(h:Sub s i (a++b)):Sub s (i+a.length) b:=by
 obtain⟨r,h⟩:=h
 refine⟨r,?_⟩
 rw[←List.drop_drop,h,List.append_assoc,List.drop_left]
theorem Sub.tail {s:ByteArray}{i:Nat}{b:UInt8}{l:List UInt8}(h:Sub s i (b::l)):Sub s (i+1) l:=Sub.right (a:=[b]) h
theorem Sub.head {s:ByteArray}{i:Nat}{b:UInt8}{l:List UInt8}(h:Sub s i (b::l)):bAt s i=b.toNat:=by
 obtain⟨r,h⟩:=h
 have:s.data.toList[i]? = some b:=by
  have h1:(s.data.toList.drop i)[0]? = some b:=by rw[h];rfl
  rw[List.getElem?_drop]at h1
  simpa using h1
 rw[LF,this]
theorem Sub.size {s:ByteArray}{i:Nat}{l:List UInt8}(h:Sub s i l) (hl:l≠[]):i+l.length≤s.size:=by
 obtain⟨r,h⟩:=h
 have h1:=congrArg List.length h
 rw[List.length_drop,List.length_append,Array.length_toList]at h1
 have h2:s.data.size=s.size:=rfl
 have h3:=List.length_pos_iff.2 hl
 omega
theorem Zd (s:ByteArray):Sub s 0 s.data.toList:=⟨[],by simp⟩
theorem K5 (a b:ByteArray):(a++b).data.toList=a.data.toList++b.data.toList:=by
 rw[show (a++b).data=a.data++b.data from ByteArray.data_append,Array.toList_append]
theorem JY (a:ByteArray):a.data.toList.length=a.size:=Array.length_toList
theorem Ur {s:ByteArray}{v:V}{i:Nat}:∀(l:List UInt8) (k:Nat),Sub s (i+k) l→N6 s v i (l.map UInt8.toNat) k=.ok v (i+k+l.length)
 | [],k,_=>by simp[N6]
 |b::l,k,h=>by
  have h1:=Ur (v:=v) l (k+1) (by rw[←Nat.add_assoc];exact h.tail)
  simp only[List.map_cons,N6]
  rw[if_pos h.head,h1]
  simp only[List.length_cons]
  congr 1
  omega
theorem Zn (b:UInt8):Je b.toNat=⟨#[b]⟩:=by unfold Je;rw[UInt8.ofNat_toNat]
theorem a66 (out:ByteArray) (b:UInt8) (l:List UInt8):out++⟨(b::l).toArray⟩=out++Je b.toNat++⟨l.toArray⟩:=by
 have e:(⟨(b::l).toArray⟩:ByteArray)=⟨#[b]⟩++⟨l.toArray⟩:=by
  apply ByteArray.ext
  rw[show ((⟨#[b]⟩:ByteArray)++⟨l.toArray⟩).data = #[b]++l.toArray from ByteArray.data_append]
  simp
 rw[Zn,ByteArray.append_assoc,e]
theorem Q2 {s:ByteArray}{f:Nat}:∀(l:List UInt8) (n i:Nat) (out:ByteArray),Sub s i (A6 l++[34])→l.all IZ=true→out.size+l.length≤60→s.size-i<n→N4 s f n i out=.ok (out++⟨l.toArray⟩) (i+(A6 l).length+1)
 |l,0,i,out,_,_,_,hn=>by omega
 | [],n+1,i,out,h,_,hz,hn=>by
  have hb:bAt s i=34:=Sub.head (l:=[]) h
  have hs:=Ll (s:=s) (i:=i) (by omega)
  unfold N4
  rw[if_neg (by omega),if_pos hb,if_neg (by simp at hz;omega)]
  have:out++(⟨([]:List UInt8).toArray⟩:ByteArray)=out:=ByteArray.append_empty
  rw[this]
  rfl
 |b::l,n+1,i,out,h,ha,hz,hn=>by
  simp only[List.all_cons,Bool.and_eq_true]at ha
  obtain⟨hb,ha⟩:=ha
  simp only[List.length_cons]at hz
  have hok:32≤b.toNat∧b.toNat≤126:=by unfold IZ at hb;simpa using hb
  have he:A6 (b::l)=AQ b++A6 l:=rfl
  rw[he]at h
  have hsz:∀x:Nat,(out++Je x).size+l.length≤60:=fun x=>by rw[Nz];omega
  rw[a66]
  by_cases h34:b=34
  ·have e:AQ b=[92,34]:=by unfold AQ;rw[if_pos h34]
   rw[e]at h
   rw[List.append_assoc]at h
   have a0:bAt s i=92:=Sub.head h
   have a1:bAt s (i+1)=34:=Sub.head (Sub.tail h)
   have hs:=Ll (s:=s) (i:=i) (by omega)
   unfold N4
   rw[if_neg (by omega),if_neg (by omega),if_neg (by omega),if_neg (by omega)]
   have hx:R8 s i=.ok 34 (i+2):=by unfold R8;rw[if_pos (.inl a1),a1]
   rw[hx]
   have:=Q2 (f:=f) l n (i+2) (out++Je 34) (Sub.tail (Sub.tail h)) ha (hsz _) (by omega)
   show N4 s f n (i+2) (out++Je 34)=_
   rw[this,he,e,h34]
   simp only[List.length_append,List.length_cons,List.length_nil]
   congr 1
   omega
  by_cases h92:b=92
  ·have e:AQ b=[92,92]:=by unfold AQ;rw[if_neg h34,if_pos h92]
   rw[e]at h
   rw[List.append_assoc]at h
   have a0:bAt s i=92:=Sub.head h
   have a1:bAt s (i+1)=92:=Sub.head (Sub.tail h)
   have hs:=Ll (s:=s) (i:=i) (by omega)
   unfold N4
   rw[if_neg (by omega),if_neg (by omega),if_neg (by omega),if_neg (by omega)]
   have hx:R8 s i=.ok 92 (i+2):=by unfold R8;rw[if_pos (.inr (.inl a1)),a1]
   rw[hx]
   have:=Q2 (f:=f) l n (i+2) (out++Je 92) (Sub.tail (Sub.tail h)) ha (hsz _) (by omega)
   show N4 s f n (i+2) (out++Je 92)=_
   rw[this,he,e,h92]
   simp only[List.length_append,List.length_cons,List.length_nil]
   congr 1
   omega
  ·have e:AQ b=[b]:=by unfold AQ;rw[if_neg h34,if_neg h92]
   rw[e]at h
   rw[List.append_assoc]at h
   have a0:bAt s i=b.toNat:=Sub.head h
   have hs:=Ll (s:=s) (i:=i) (by omega)
   have n34:b.toNat≠34:=fun h=>h34 (UInt8.toNat_inj.1 h)
   have n92:b.toNat≠92:=fun h=>h92 (UInt8.toNat_inj.1 h)
   unfold N4
   rw[if_neg (by omega),if_neg (by omega),if_neg (by omega),if_pos (by omega),a0]
   rw[Q2 (f:=f) l n (i+1) (out++Je b.toNat) (Sub.tail h) ha (hsz _) (by omega),he,e]
   simp only[List.length_append,List.length_cons,List.length_nil]
   congr 1
   omega
theorem LU (t:ByteArray):(HH t).data.toList=34::(A6 t.data.toList++[34]):=by
 unfold HH
 rw[K5,K5]
 simp
theorem Qc {s:ByteArray}{i:Nat}{t:ByteArray}(h:Sub s i (HH t).data.toList) (ht:Fr t=true):Q1 s i=.ok t (i+(HH t).size):=by
 have hl:(HH t).size=(A6 t.data.toList).length+2:=by rw[←JY,LU];simp
 rw[LU]at h
 unfold Fr at ht
 simp only[Bool.and_eq_true,decide_eq_true_eq]at ht
 have hh:=Sub.head h
 unfold Q1
 rw[if_neg (by rw[hh];decide)]
 rw[Q2 (f:=i) t.data.toList (s.size+1) (i+1) ByteArray.empty (Sub.tail h) ht.2 (by rw[JY];simpa using ht.1) (by omega),hl]
 have:ByteArray.empty++(⟨t.data.toList.toArray⟩:ByteArray)=t:=by rw[ByteArray.empty_append]
 rw[this]
 congr 1
 omega
theorem VI {d:Nat}(h:d<10):(UInt8.ofNat (48+d)).toNat=48+d:=by
 rw[UInt8.toNat_ofNat']
 exact Nat.mod_eq_of_lt (by omega)
theorem MH {s:ByteArray}{a:Nat}:∀(m u:Nat),u≤m→Sub s a (Lib.decDigits u)→L7 s a (Lib.decDigits u).length=u∧(∀j,a≤j→j<a+(Lib.decDigits u).length→G0 (bAt s j)=true)∧(u≠0→bAt s a≠48)
 |m,u,hm,h=>by
  by_cases hu:u<10
  ·rw[Lib.decDigits_one hu]at h ⊢
   have hb:=Sub.head h
   rw[VI hu]at hb
   refine⟨?_,fun j h1 h2=>?_,fun h0=>by omega⟩
   ·simp only[List.length_cons,List.length_nil,L7,Nat.add_zero,hb]
    omega
   ·have:j=a:=by simp at h2;omega
    rw[this,hb]
    unfold G0
    simp
    omega
  ·cases m with
   |zero=>omega
   |succ m =>
    have e:Lib.decDigits u=Lib.decDigits (u / 10)++[UInt8.ofNat (48+u % 10)]:=by rw[Lib.decDigits,dif_neg hu]
    rw[e]at h ⊢
    obtain⟨h1,h2,h3⟩:=MH m (u / 10) (by omega) (Sub.left h)
    have hb:=Sub.head (Sub.right h)
    rw[VI (by omega)]at hb
    refine⟨?_,fun j g1 g2=>?_,fun _=>h3 (by omega)⟩
    ·simp only[List.length_append,List.length_cons,List.length_nil,L7,h1,hb]
     omega
    ·simp only[List.length_append,List.length_cons,List.length_nil]at g2
     by_cases hj:j<a+(Lib.decDigits (u / 10)).length
     ·exact h2 j g1 hj
     ·have:j=a+(Lib.decDigits (u / 10)).length:=by omega
      rw[this,hb]
      unfold G0
      simp
      omega
theorem VH {s:ByteArray}:∀(n i:Nat),(∀j,i≤j→j<i+n→G0 (bAt s j)=true)→G0 (bAt s (i+n))=false→Jf s i=i+n
 | 0,i,_,h=>Ow h
 |n+1,i,h1,h2=>by
  rw[RP (h1 i (Nat.le_refl _) (by omega)),VH n (i+1) (fun j g1 g2=>h1 j (by omega) (by omega)) (by rw[show i+1+n=i+(n+1) by omega];exact h2)]
  omega
theorem XM {u:Nat}(h:u≤1000000000000000):Lib.nDigits u≤16:=by
 rcases Nat.lt_or_ge (Lib.nDigits u) 17 with h1 | h1
 ·omega
 ·exfalso
  have key:∀(n v:Nat),n+1≤Lib.nDigits v→10 ^ n≤v∨(n=0):=by
   intro n
   induction n with
   |zero=>intro v _;exact .inr rfl
   |succ n ih =>
    intro v hv
    by_cases hv10:v<10
    ·rw[Lib.nDigits_small hv10]at hv;omega
    ·rw[Lib.nDigits_big hv10]at hv
     rcases ih (v / 10) (by omega) with h | h
     ·refine .inl ?_
      rw[Nat.pow_succ]
      omega
     ·refine .inl ?_
      rw[h]
      omega
  rcases key 16 u h1 with h | h
  ·have:(10:Nat) ^ 16=10000000000000000:=by decide
   omega
  ·omega
def Ol (s:ByteArray) (e:Nat):Prop:=G0 (bAt s e)=false∧JA (bAt s e)=false
theorem a1h {s:ByteArray}{a u:Nat}(h:Sub s a (Lib.decDigits u)) (hs:G0 (bAt s (a+(Lib.decDigits u).length))=false):G0 (bAt s a)=true∧(if bAt s a=48 then a+1 else Jf s a)=a+(Lib.decDigits u).length∧L7 s a (Lib.decDigits u).length=u:=by
 obtain⟨h1,h2,h3⟩:=MH u u (Nat.le_refl _) h
 have hp:1≤(Lib.decDigits u).length:=by rw[Lib.decDigits_length];exact Lib.nDigits_pos u
 refine⟨h2 a (Nat.le_refl _) (by omega),?_,h1⟩
 by_cases hu:u=0
 ·subst hu
  have e:Lib.decDigits 0=[48]:=by rw[Lib.decDigits_one (by decide)];rfl
  rw[e]at h ⊢
  rw[if_pos (show bAt s a=48 from Sub.head h)]
  rfl
 ·rw[if_neg (h3 hu)]
  exact VH _ _ h2 hs
theorem a1m {s:ByteArray}{i:Nat}{n:Int}(hn:-1000000000000000≤n∧n≤1000000000000000) (h:Sub s i (JE n).data.toList) (hs:Ol s (i+(JE n).size)):T9 s i=.ok n (i+(JE n).size):=by
 have hl:(JE n).size=(Lib.itoa n).length:=by rw[←JY];simp[JE]
 have hd:(JE n).data.toList=Lib.itoa n:=by simp[JE]
 rw[hd]at h
 rw[hl]at hs ⊢
 have fin:∀(a u:Nat),CA s i=a→Sub s a (Lib.decDigits u)→u≤1000000000000000→a+(Lib.decDigits u).length=i+(Lib.itoa n).length→Ik s i=n∨True→(bAt s i=45→-((u:Nat):Int)=n)→(bAt s i≠45→((u:Nat):Int)=n)→T9 s i=.ok n (i+(Lib.itoa n).length):=by
  intro a u ha hsub hu hal _ hm hp
  obtain⟨g1,g2,g3⟩:=a1h hsub (by rw[hal];exact hs.1)
  have hE:Ee s i=a+(Lib.decDigits u).length:=by unfold Ee;rw[ha];exact g2
  have hlen:=XM hu
  rw[←Lib.decDigits_length]at hlen
  have hsub':Ee s i-CA s i=(Lib.decDigits u).length:=by rw[hE,ha];omega
  unfold T9
  rw[if_neg (by rw[ha,g1];decide)]
  have hbig:IX s i=false:=by
   unfold IX
   rw[hsub',ha,g3]
   simp
   omega
  rw[if_neg (by rw[hbig];decide),if_neg (by rw[hE,hal,hs.2];decide),hE,hal]
  congr 1
  unfold Ik
  rw[hsub',ha,g3]
  by_cases h45:bAt s i=45
  ·rw[if_pos h45];exact hm h45
  ·rw[if_neg h45];exact hp h45
 unfold Lib.itoa at h
 by_cases h0:n<0
 ·rw[if_pos h0]at h
  have hb:bAt s i=45:=Sub.head h
  refine fin (i+1) n.natAbs (by unfold CA;rw[if_pos hb]) (Sub.tail h) (by omega) ?_ (.inr trivial) (fun _=>by omega) (fun h=>absurd hb h)
  unfold Lib.itoa
  rw[if_pos h0,List.length_cons]
  omega
 ·rw[if_neg h0]at h
  obtain⟨_,h2,_⟩:=MH n.toNat n.toNat (Nat.le_refl _) h
  have hp:1≤(Lib.decDigits n.toNat).length:=by rw[Lib.decDigits_length];exact Lib.nDigits_pos _
  have hd0:=Ix (h2 i (Nat.le_refl _) (by omega))
  have hb:bAt s i≠45:=by omega
  refine fin i n.toNat (by unfold CA;rw[if_neg hb]) h (by omega) ?_ (.inr trivial) (fun h=>absurd h hb) (fun _=>by omega)
  unfold Lib.itoa
  rw[if_neg h0]
def Kc (obj:Bool):List ByteArray→List V→Bool→List UInt8
 |_,[],_=>[if obj then 125 else 93]
 |ks,x::r,first=>(if first then [] else [44])++((if obj then (HH (ks.headD ByteArray.empty)).data.toList++[58] else [])++(x.txt.data.toList++Kc obj ks.tail r false))
theorem Pt (obj:Bool) (ks:List ByteArray) (x:V) (r:List V):Kc obj ks (x::r) false=44::Kc obj ks (x::r) true:=rfl
theorem Ny {kind:Int}{obj:Bool}(hk:obj=true↔kind=6):∀(kids:List V) (keys:List ByteArray),(H0 (bS 44) (Fs kind keys kids)).data.toList++[if obj then 125 else 93]=Kc obj keys kids true
 | [],_=>by simp[Fs,H0,Kc]
 |x::r,keys=>by
  have ih:=Ny hk r keys.tail
  have hp:(if kind=6 then HH (keys.headD ByteArray.empty)++bS 58++x.txt else x.txt).data.toList=(if obj then (HH (keys.headD ByteArray.empty)).data.toList++[58] else [])++x.txt.data.toList:=by
   cases obj with
   |true=>rw[if_pos (hk.1 rfl),if_pos rfl,K5,K5]
   |false=>rw[if_neg (fun h=>by have:=hk.2 h;cases this)];simp
  cases r with
  |nil =>
   simp only[Fs,H0,Kc]
   rw[hp]
   simp
  |cons y r' =>
   simp only[Fs]at ih ⊢
   rw[Mi _ _ (by simp),K5,K5,hp]
   have e:Kc obj keys (x::y::r') true=((if obj then (HH (keys.headD ByteArray.empty)).data.toList++[58] else [])++(x.txt.data.toList++(44::Kc obj keys.tail (y::r') true))):=rfl
   rw[e,←ih]
   simp only[List.append_assoc]
   rfl
theorem OL {t:V}(h:t.right):∃b l,t.txt.data.toList=b::l∧Fb b.toNat=false∧b.toNat≠93∧b.toNat≠125:=by
 have hk:=Mt h
 have hcase:t.kind=0∨t.kind=1∨t.kind=2∨t.kind=3∨t.kind=4∨t.kind=5∨t.kind=6:=by omega
 rcases hcase with h | h | h | h | h | h | h
 ·rw[NC h];exact⟨110,_,rfl,by decide,by decide,by decide⟩
 ·rw[MO h];exact⟨102,_,rfl,by decide,by decide,by decide⟩
 ·rw[ND h];exact⟨116,_,rfl,by decide,by decide,by decide⟩
 ·rw[NT h]
  have hd:(JE t.num).data.toList=Lib.itoa t.num:=by simp[JE]
  rw[hd]
  unfold Lib.itoa
  have dig:∀u:Nat,∃b l,Lib.decDigits u=b::l∧Fb b.toNat=false∧b.toNat≠93∧b.toNat≠125:=by
   intro u
   have hp:1≤(Lib.decDigits u).length:=by rw[Lib.decDigits_length];exact Lib.nDigits_pos u
   have hsub:Sub ⟨(Lib.decDigits u).toArray⟩ 0 (Lib.decDigits u):=⟨[],by simp⟩
   obtain⟨_,h2,_⟩:=MH u u (Nat.le_refl _) hsub
   have h3:=Ix (h2 0 (Nat.le_refl _) (by omega))
   cases he:Lib.decDigits u with
   |nil=>rw[he]at hp;simp at hp
   |cons b l =>
    rw[he]at hsub
    have hb:=Sub.head hsub
    rw[he]at h3
    rw[hb]at h3
    refine⟨b,l,rfl,?_,by omega,by omega⟩
    unfold Fb
    simp
    omega
  split
  ·exact⟨45,_,rfl,by decide,by decide,by decide⟩
  ·exact dig _
 ·rw[NU h,LU];exact⟨34,_,rfl,by decide,by decide,by decide⟩
 ·rw[OK h,K5,K5];exact⟨91,_,rfl,by decide,by decide,by decide⟩
 ·rw[OM h,K5,K5];exact⟨123,_,rfl,by decide,by decide,by decide⟩
theorem MM {s:ByteArray}{i:Nat}{b:UInt8}{l:List UInt8}(h:Sub s i (b::l)) (hb:Fb b.toNat=false):Io s i=i:=KT (by rw[Sub.head h];exact hb)
theorem PY {s:ByteArray}{i:Nat}{t:V}(ht:t.right) {l:List UInt8}(h:Sub s i (t.txt.data.toList++l)):Io s i=i:=by
 obtain⟨b,r,e,hb,_⟩:=OL ht
 rw[e]at h
 exact MM (b:=b) (l:=r++l) h hb
theorem Y4 (obj:Bool) (ks:List ByteArray):∀(kids:List V),∃b l,Kc obj ks kids false=b::l∧Fb b.toNat=false∧G0 b.toNat=false∧JA b.toNat=false
 | []=>by
  cases obj with
  |false=>exact⟨93,_,rfl,by decide,by decide,by decide⟩
  |true=>exact⟨125,_,rfl,by decide,by decide,by decide⟩
 |x::r=>⟨44,_,rfl,by decide,by decide,by decide⟩
theorem Qh {s:ByteArray}{rd:Nat→Rd V}(obj:Bool):∀(kids:List V) (ks:List ByteArray) (n i:Nat) (first:Bool) (K:List ByteArray) (D:List V),Sub s i (Kc obj ks kids first)→s.size-i<n→(obj=true→ks.length=kids.length)→(obj=false→ks=[])→(∀k∈ks,Fr k=true)→(∀x∈kids,x.right) →
  (∀x∈kids,∀j,Sub s j x.txt.data.toList→Ol s (j+x.txt.size)→rd j=.ok x (j+x.txt.size))→KM s rd obj n i first K D=.ok (if obj then Jm (K++ks) (D++kids) else Ir (D++kids)) (i+(Kc obj ks kids first).length)
 |kids,ks,0,i,first,K,D,_,hn,_,_,_,_,_=>by omega
 | [],ks,n+1,i,first,K,D,h,hn,hl,hl0,_,_,_=>by
  have hks:ks=[]:=by
   cases obj with
   |true=>exact List.eq_nil_of_length_eq_zero (hl rfl)
   |false=>exact hl0 rfl
  subst hks
  have hb:bAt s i=(if obj then 125 else 93):=by
   have:=Sub.head (l:=[]) h
   rw[this]
   cases obj<;>rfl
  unfold KM
  rw[if_pos hb,List.append_nil,List.append_nil]
  rfl
 |x::r,ks,n+1,i,first,K,D,h,hn,hl,hl0,hks,hr,hrd=>by
  have hx:=hr x (List.mem_cons_self ..)
  obtain⟨b0,l0,e0,n0,n93,n125⟩:=OL hx
  -- the byte ahead of the element
  have hi:i<s.size:=by
   obtain⟨b,l,e⟩:∃b l,Kc obj ks (x::r) first=b::l:=by
    cases he:Kc obj ks (x::r) first with
    |nil =>
     have:=congrArg List.length he
     unfold Kc at this
     rw[e0]at this
     simp at this
    |cons b l=>exact⟨b,l,rfl⟩
   have:=Sub.size h (by rw[e];simp)
   rw[e]at this
   simp at this
   omega
  obtain⟨j,hj,hsub,hlen,hend,hcom⟩:∃j,(if first then i else Io s (i+1))=j∧Sub s j (Kc obj ks (x::r) true)∧j+(Kc obj ks (x::r) true).length=i+(Kc obj ks (x::r) first).length∧bAt s i≠(if obj then 125 else 93)∧¬(first=false∧bAt s i≠44):=by
   have hne:∀j,Sub s j (Kc obj ks (x::r) true)→bAt s j≠(if obj then 125 else 93)∧Fb (bAt s j)=false:=by
    intro j hj
    cases obj with
    |true =>
     have h1:Sub s j ((HH (ks.headD ByteArray.empty)).data.toList++([58]++(x.txt.data.toList++Kc true ks.tail r false))):=by
      have:Kc true ks (x::r) true=(HH (ks.headD ByteArray.empty)).data.toList++([58]++(x.txt.data.toList++Kc true ks.tail r false)):=by simp[Kc]
      rw[this]at hj
      exact hj
     rw[LU]at h1
     have:=Sub.head (b:=34) (l:=_) h1
     rw[this]
     exact⟨by decide,by decide⟩
    |false =>
     have h1:Sub s j (x.txt.data.toList++Kc false ks.tail r false):=by
      have:Kc false ks (x::r) true=x.txt.data.toList++Kc false ks.tail r false:=by simp[Kc]
      rw[this]at hj
      exact hj
     rw[e0]at h1
     have:=Sub.head (b:=b0) (l:=_) h1
     rw[this]
     exact⟨n93,n0⟩
   cases first with
   |true=>exact⟨i,rfl,h,rfl,(hne i h).1,by simp⟩
   |false =>
    rw[Pt]at h
    have h1:=Sub.head h
    have h2:=Sub.tail h
    refine⟨i+1,KT (hne _ h2).2,h2,?_,by rw[h1];cases obj<;>decide,by rw[h1];decide⟩
    rw[Pt,List.length_cons]
    omega
  unfold KM
  rw[if_neg hend,if_neg hcom,hj]
  obtain⟨k,e,hke,hxs,hkl,hkk⟩:∃k e,(if obj then O7 s j else .ok ByteArray.empty j)=.ok k e∧Sub s e (x.txt.data.toList++Kc obj ks.tail r false)∧e+x.txt.size+(Kc obj ks.tail r false).length=j+(Kc obj ks (x::r) true).length∧(obj=true→ks=k::ks.tail):=by
   cases obj with
   |false =>
    have h1:Kc false ks (x::r) true=x.txt.data.toList++Kc false ks.tail r false:=by simp[Kc]
    rw[h1]at hsub ⊢
    refine⟨_,j,rfl,hsub,?_,by simp⟩
    rw[List.length_append,JY]
    omega
   |true =>
    have h1:Kc true ks (x::r) true=(HH (ks.headD ByteArray.empty)).data.toList++([58]++(x.txt.data.toList++Kc true ks.tail r false)):=by simp[Kc]
    rw[h1]at hsub ⊢
    have hl1:=hl rfl
    cases ks with
    |nil=>simp at hl1
    |cons k ks =>
     have hkr:=Qc (Sub.left hsub) (hks k (List.mem_cons_self ..))
     have h2:=Sub.right hsub
     rw[JY]at h2
     have h58:=Sub.head (b:=58) (l:=_) h2
     have h3:=Sub.tail (b:=58) (l:=_) h2
     refine⟨k,j+(HH k).size+1,?_,h3,?_,fun _=>rfl⟩
     ·show O7 s j=_
      unfold O7
      have hs1:Io s (j+(HH k).size)=j+(HH k).size:=KT (by rw[show bAt s (j+(HH k).size)=(58:UInt8).toNat from h58];decide)
      rw[show Q1 s j=.ok k (j+(HH k).size) from hkr]
      show (if bAt s (Io s (j+(HH k).size))≠58 then Rd.bad 5 (Io s (j+(HH k).size)) else .ok k (Io s (Io s (j+(HH k).size)+1)))=_
      rw[hs1,if_neg (by rw[show bAt s (j+(HH k).size)=(58:UInt8).toNat from h58];decide),show Io s (j+(HH k).size+1)=j+(HH k).size+1 from PY hx h3]
     ·simp only[List.headD_cons,List.tail_cons,List.length_append,JY,List.length_cons,List.length_nil]
      omega
  rw[hke]
  obtain⟨b1,l1,e1,m1,m2,m3⟩:=Y4 obj ks.tail r
  have hnx:=Sub.right hxs
  rw[JY]at hnx
  have hnb:bAt s (e+x.txt.size)=b1.toNat:=by
   rw[e1]at hnx
   exact Sub.head hnx
  have hv:=hrd x (List.mem_cons_self ..) e (Sub.left hxs) ⟨by rw[hnb];exact m2,by rw[hnb];exact m3⟩
  show (match rd e with | .bad c p=>Rd.bad c p | .ok v e2=>KM s rd obj n (Io s e2) false (if obj then K++[k] else K) (D++[v]))=_
  rw[hv]
  show KM s rd obj n (Io s (e+x.txt.size)) false (if obj then K++[k] else K) (D++[x])=_
  rw[KT (by rw[hnb];exact m1)]
  have hek:j≤e:=by
   cases obj with
   |false=>cases hke;exact Nat.le_refl _
   |true =>
    have hf:=Qf (s:=s) (i:=j) (by
     have:=Sub.size hsub (by
      intro hnil
      have:=congrArg List.length hnil
      unfold Kc at this
      rw[e0]at this
      simp at this)
     omega)
    rw[show O7 s j=.ok k e from hke]at hf
    exact Nat.le_of_lt hf.1
  have hji:i≤j:=by
   cases first with
   |true=>rw[←hj];exact Nat.le_refl _
   |false =>
    have:=(Ks (s:=s) (i:=i+1) (by omega)).1
    rw[←hj]
    show i≤Io s (i+1)
    omega
  have hpos:0<x.txt.size:=by rw[←JY,e0];simp
  have ih:=Qh (s:=s) (rd:=rd) obj r ks.tail n (e+x.txt.size) false (if obj then K++[k] else K) (D++[x]) hnx (by omega) (fun ho=>by have:=hl ho;rw[List.length_tail];simp at this;omega) (fun ho=>by rw[hl0 ho];rfl) (fun y hy=>hks y (List.mem_of_mem_tail hy)) (fun y hy=>hr y (List.mem_cons_of_mem _ hy)) (fun y hy=>hrd y (List.mem_cons_of_mem _ hy))
  rw[ih,hkl,hlen]
  congr 1
  cases obj with
  |false=>simp
  |true =>
   have:=hkk rfl
   simp only[if_true]
   rw[List.append_assoc,List.append_assoc]
   conv=>rhs;rw[this]
   rfl
theorem Wz {t:V}(h:t.right) (h6:t.kind=6):Jm t.keys t.kids=t:=by
 obtain⟨ua,_,hl⟩:=KL h h6
 have hu:Up (Kq (KR t)):=by rw[Rp hl];exact a4z ua
 have key:Jm (Kq (KR t)) (MB (KR t))=ovV (KR t):=by
  unfold Jm
  have e:FQ (Kq (KR t))=Kq (KR t):=Zg (LR _) hu fun y=>Kv
  rw[e]
  unfold ovV
  congr 1
  rw[show MB (KR t)=(KR t).map Prod.snd from rfl,show Kq (KR t)=(KR t).map Prod.fst from rfl,List.map_map]
  refine List.map_congr_left fun q hq=>?_
  obtain⟨y,v⟩:=q
  exact QM hu hq
 rw[Rp hl,V3 hl]at key
 rw[key]
 exact (YY h h6).symm
theorem PN {t:V}(h:t.right) (h5:t.kind≠5) (h6:t.kind≠6):t=.mk t.kind t.num t.text [] []:=by
 obtain⟨_,_,_,_,g1,g2⟩:=KB h.1
 have e1:=g1 h6
 have e2:=g2 h5 h6
 cases t with
 |mk k n s ks vs =>
  simp only[V.keys,V.kids]at e1 e2
  subst e1 e2
  rfl
theorem Qu {t:V}{l:List UInt8}(h:t.txt.data.toList=l):t.txt.size=l.length:=by rw[←JY,h]
theorem On {s:ByteArray}:∀(k:Nat) (t:V) (i:Nat),t.right→t.depth≤k→Sub s i t.txt.data.toList→Ol s (i+t.txt.size)→LE k s i=.ok t (i+t.txt.size)
 | 0,t,i,_,hd,_,_=>by
  have:=Mg t
  omega
 |k+1,t,i,ht,hd,h,hs=>by
  have hk:=Mt ht
  obtain⟨b0,l0,e0,n0,n93,n125⟩:=OL ht
  have hi:i<s.size:=by
   have:=Sub.size h (by rw[e0];simp)
   rw[e0]at this
   simp at this
   omega
  obtain⟨_,_,w3,w4,w5,w6⟩:=KB ht.1
  have word:∀(l:List UInt8) (m:Int),t.txt.data.toList=l→t.kind=m→m≠3→m≠4→m≠5→m≠6→N6 s (CP m) i (l.map UInt8.toNat) 0=.ok t (i+t.txt.size):=by
   intro l m hl hm g3 g4 g5 g6
   rw[hl]at h
   rw[Ur l 0 h,Qu hl]
   have:CP m=t:=by
    rw[PN ht (by omega) (by omega),hm,w3 (by omega),w4 (by omega)]
    rfl
   rw[this]
   rfl
  have hcase:t.kind=0∨t.kind=1∨t.kind=2∨t.kind=3∨t.kind=4∨t.kind=5∨t.kind=6:=by omega
  unfold LE
  rw[if_neg (by omega)]
  rcases hcase with h0 | h0 | h0 | h0 | h0 | h0 | h0
  ·have hl:t.txt.data.toList=[110,117,108,108]:=by rw[NC h0];rfl
   have hb:bAt s i=110:=by rw[hl]at h;exact Sub.head h
   rw[if_pos hb]
   exact word _ 0 hl h0 (by decide) (by decide) (by decide) (by decide)
  ·have hl:t.txt.data.toList=[102,97,108,115,101]:=by rw[MO h0];rfl
   have hb:bAt s i=102:=by rw[hl]at h;exact Sub.head h
   rw[if_neg (by omega),if_pos hb]
   exact word _ 1 hl h0 (by decide) (by decide) (by decide) (by decide)
  ·have hl:t.txt.data.toList=[116,114,117,101]:=by rw[ND h0];rfl
   have hb:bAt s i=116:=by rw[hl]at h;exact Sub.head h
   rw[if_neg (by omega),if_neg (by omega),if_pos hb]
   exact word _ 2 hl h0 (by decide) (by decide) (by decide) (by decide)
  ·rw[NT h0]at h hs ⊢
   have hn:=Mu ht
   have hd:(JE t.num).data.toList=Lib.itoa t.num:=by simp[JE]
   have hb:bAt s i=45∨(48≤bAt s i∧bAt s i≤57):=by
    rw[hd]at h
    unfold Lib.itoa at h
    split at h
    ·exact .inl (Sub.head h)
    ·obtain⟨_,h2,_⟩:=MH t.num.toNat t.num.toNat (Nat.le_refl _) h
     have hp:1≤(Lib.decDigits t.num.toNat).length:=by rw[Lib.decDigits_length];exact Lib.nDigits_pos _
     exact .inr (Ix (h2 i (Nat.le_refl _) (by omega)))
   rw[if_neg (by omega),if_neg (by omega),if_neg (by omega),if_neg (by omega),if_neg (by omega),if_neg (by omega),a1m hn h hs]
   have:L2 t.num=t:=by
    rw[PN ht (by omega) (by omega),h0,w4 (by omega)]
    rfl
   show Rd.ok (L2 t.num) _=_
   rw[this]
  ·rw[NU h0]at h ⊢
   have hb:bAt s i=34:=by rw[LU]at h;exact Sub.head h
   rw[if_neg (by omega),if_neg (by omega),if_neg (by omega),if_neg (by omega),if_neg (by omega),if_pos hb,Qc h (Ld ht)]
   have:Jp t.text=t:=by
    rw[PN ht (by omega) (by omega),h0,w3 (by omega)]
    rfl
   show Rd.ok (Jp t.text) _=_
   rw[this]
  ·have hl:t.txt.data.toList=91::Kc false [] t.kids true:=by
    rw[OK h0,K5,K5,List.append_assoc]
    have:=Ny (kind:=t.kind) (obj:=false) ⟨fun h=>Bool.noConfusion h,fun h=>absurd h (by omega)⟩ t.kids t.keys
    rw[w5 (by omega)]at this
    show [91]++_=_
    rw[show t.parts=Fs t.kind [] t.kids by unfold V.parts;rw[w5 (by omega)]]
    rw[←this]
    rfl
   rw[hl]at h
   have hb:bAt s i=91:=Sub.head h
   have hdn:=Mg t
   have h1:=Sub.tail h
   have hsk:Io s (i+1)=i+1:=by
    cases hkk:t.kids with
    |nil=>rw[hkk]at h1;exact MM (b:=93) (l:=[]) h1 (by decide)
    |cons x r =>
     rw[hkk]at h1
     have:Kc false [] (x::r) true=x.txt.data.toList++Kc false [] r false:=by simp[Kc]
     rw[this]at h1
     exact PY (K1 ht (by rw[hkk];simp)) h1
   rw[if_neg (by omega),if_neg (by omega),if_neg (by omega),if_pos hb,hsk]
   rw[Qh (s:=s) (rd:=LE k s) false t.kids [] (s.size+1) (i+1) true [] [] h1 (by omega) (fun h=>by cases h) (fun _=>rfl) (by simp) (fun x hx=>K1 ht hx) (fun x hx j g1 g2=>On k x j (K1 ht hx) (by have:=Kp hx;omega) g1 g2)]
   rw[Qu hl]
   simp only[Bool.false_eq_true,if_false,List.nil_append,List.length_cons]
   rw[←Rc ht.1 h0]
   congr 1
   omega
  ·obtain⟨ua,ta,la⟩:=KL ht h0
   have hl:t.txt.data.toList=123::Kc true t.keys t.kids true:=by
    rw[OM h0,K5,K5,List.append_assoc]
    have:=Ny (kind:=t.kind) (obj:=true) ⟨fun _=>h0,fun _=>rfl⟩ t.kids t.keys
    rw[←this]
    rfl
   rw[hl]at h
   have hb:bAt s i=123:=Sub.head h
   have hdn:=Mg t
   have h1:=Sub.tail h
   have hsk:Io s (i+1)=i+1:=by
    cases hkk:t.kids with
    |nil=>rw[hkk]at h1;exact MM (b:=125) (l:=[]) h1 (by decide)
    |cons x r =>
     rw[hkk]at h1
     have:Kc true t.keys (x::r) true=(HH (t.keys.headD ByteArray.empty)).data.toList++([58]++(x.txt.data.toList++Kc true t.keys.tail r false)):=by simp[Kc]
     rw[this,LU]at h1
     exact MM (b:=34) (l:=_) h1 (by decide)
   rw[if_neg (by omega),if_neg (by omega),if_neg (by omega),if_neg (by omega),if_pos hb,hsk]
   rw[Qh (s:=s) (rd:=LE k s) true t.kids t.keys (s.size+1) (i+1) true [] [] h1 (by omega) (fun _=>la) (fun h=>by cases h) ta (fun x hx=>K1 ht hx) (fun x hx j g1 g2=>On k x j (K1 ht hx) (by have:=Kp hx;omega) g1 g2)]
   rw[Qu hl]
   simp only[if_true,List.nil_append,List.length_cons]
   rw[Wz ht h0]
   congr 1
   omega
theorem VE {s:ByteArray}{t:V}{i:Nat}(ht:t.right) (hz:s.size≤4000) (hi:Io s 0=i) (h:Sub s i t.txt.data.toList) (hs:Ol s (i+t.txt.size)) (he:Io s (i+t.txt.size)=s.size):Kw s=((0,0),some t):=by
 have hc:=ht.2.1
 unfold Kw
 rw[if_neg (by omega),hi,On 20 t i ht ht.2.2 h hs]
 show (if Io s (i+t.txt.size)<s.size then ((5,Io s (i+t.txt.size)),none) else if 200<t.count then ((2,0),none) else ((0,0),some t))=_
 rw[he,if_neg (by omega),if_neg (by omega)]
theorem RM {t:V}(ht:t.right) (hz:t.txt.size≤4000):Kw t.txt=((0,0),some t):=by
 have hend:∀e,e=t.txt.size→bAt t.txt e=256:=fun e he=>Lw (by omega)
 have h0:=Zd t.txt
 have h0':Sub t.txt 0 (t.txt.data.toList++[]):=by rw[List.append_nil];exact h0
 refine VE ht hz (PY ht h0') h0 ⟨by rw[hend _ (by omega)];decide,by rw[hend _ (by omega)];decide⟩ ?_
 rw[Nat.zero_add]
 exact KT (by rw[hend _ rfl];decide)
structure DS where
 pl:Nat
 code:Int
 bad:Nat
def DS.fail (d:DS) (c:Int) (p:Nat):DS:=if d.code=0 then ⟨d.pl,c,p⟩ else d
def DS.go (d:DS) (p:Nat):DS:=⟨p,d.code,d.bad⟩
def DS.skip (s:ByteArray) (d:DS):DS:=d.go (Io s d.pl)
def DS.is (s:ByteArray) (d:DS) (b:Nat):Bool:=decide (d.code=0)&&(bAt s d.pl==b)
def DS.take (s:ByteArray) (d:DS) (b:Nat):DS:=if d.is s b then d.go (d.pl+1) else d
def DS.want (s:ByteArray) (d:DS) (b:Nat):DS:=if d.is s b then d.go (d.pl+1) else d.fail 5 d.pl
def DS.word (s:ByteArray):DS→List Nat→DS
 |d,[]=>d
 |d,b::r=>DS.word s (d.want s b) r
def JD (s:ByteArray) (i b:Nat):V×DS :=
 if G0 (bAt s (CA s i))=false then (CP 0,⟨CA s i,5,CA s i⟩) else if IX s i then (L2 0,⟨Ee s i,3,i⟩) else if JA (bAt s (Ee s i)) then (L2 (Ik s i),⟨Ee s i,3,Ee s i⟩) else (L2 (Ik s i),⟨Ee s i,0,b⟩)
def DS.hex (s:ByteArray) (d:DS):Int×DS:=if d.code=0∧0≤Ji (bAt s d.pl) then (Ji (bAt s d.pl),d.go (d.pl+1)) else (0,d.fail 5 d.pl)
def DS.escape (s:ByteArray) (d:DS):Nat×DS :=
 if d.is s 34 then (34,d.go (d.pl+1)) else if d.is s 92 then (92,d.go (d.pl+1)) else if d.is s 47 then (47,d.go (d.pl+1))
 else
  let d1:=d.word s [117,48,48]
  let h1:=d1.hex s
  let h2:=h1.2.hex s
  let n:=16*h1.1+h2.1
  (n.toNat,if 32≤n∧n≤126 then h2.2 else h2.2.fail 5 d1.pl)
def DS.strGo (s:ByteArray):Nat→DS→ByteArray→ByteArray×DS
 | 0,d,out=>(out,d)
 |n+1,d,out=>if d.code≠0 then (out,d) else if d.is s 34 then (out,d.go (d.pl+1))
  else if s.size≤d.pl∨bAt s d.pl<32∨126<bAt s d.pl then DS.strGo s n (d.fail 5 d.pl) out
  else if d.is s 92 then DS.strGo s n ((d.go (d.pl+1)).escape s).2 (out++Je ((d.go (d.pl+1)).escape s).1)
  else DS.strGo s n (d.go (d.pl+1)) (out++Je (bAt s d.pl))
def DS.str (s:ByteArray) (d:DS):ByteArray×DS :=
 let r:=DS.strGo s (s.size+2) (d.want s 34) ByteArray.empty
 (r.1,if 60<r.1.size then r.2.fail 2 d.pl else r.2)
def DS.listGo {α:Type}(s:ByteArray) (part:DS→α→DS×α) (e:Nat):Nat→DS→α→DS×α
 | 0,d,x=>(d,x)
 |n+1,d,x=>if d.code≠0 then (d,x) else
  if ((part d x).1.skip s).is s e then (((part d x).1.skip s).go (((part d x).1.skip s).pl+1),(part d x).2)
  else DS.listGo s part e n ((((part d x).1.skip s).want s 44).skip s) (part d x).2
def DS.list {α:Type}(s:ByteArray) (part:DS→α→DS×α) (e:Nat) (d:DS) (x:α):DS×α :=
 if (d.skip s).is s e then ((d.skip s).go ((d.skip s).pl+1),x) else DS.listGo s part e (s.size+1) (d.skip s) x
def Jg (rd:DS→V×DS) (d:DS) (x:List V):DS×List V:=((rd d).2,x++[(rd d).1])
def JC (s:ByteArray) (rd:DS→V×DS) (d:DS) (x:List ByteArray×List V):DS×(List ByteArray×List V) :=
 let k:=d.str s
 let r:=rd ((k.2.skip s).want s 58)
 (r.2,(x.1++[k.1],x.2++[r.1]))
def DS.value (s:ByteArray):Nat→DS→V×DS
 | 0,d=>(CP 0,if s.size≤(d.skip s).pl then (d.skip s).fail 5 (d.skip s).pl else (d.skip s).fail 7 (d.skip s).pl)
 |k+1,d =>
  let d:=d.skip s
  let b:=bAt s d.pl
  if s.size≤d.pl then (CP 0,d.fail 5 d.pl) else if d.code≠0 then (CP 0,d)
  else if b=110 then (CP 0,d.word s [110,117,108,108])
  else if b=102 then (CP 1,d.word s [102,97,108,115,101])
  else if b=116 then (CP 2,d.word s [116,114,117,101])
  else if b=45∨G0 b=true then JD s d.pl d.bad
  else if b=34 then (Jp (d.str s).1,(d.str s).2)
  else if b=91 then
   let r:=DS.list s (Jg (DS.value s k)) 93 (d.go (d.pl+1)) []
   (Ir r.2,r.1)
  else if b=123 then
   let r:=DS.list s (JC s (DS.value s k)) 125 (d.go (d.pl+1)) ([],[])
   (Jm r.2.1 r.2.2,r.1)
  else (CP 0,d.fail 5 d.pl)
def Yz (s:ByteArray):(Int×Nat)×Option V :=
 if 4000<s.size then ((2,0),none) else
  let r:=DS.value s 20 ⟨0,0,0⟩
  let d:=r.2.skip s
  let d2:=if d.pl<s.size then d.fail 5 d.pl else d
  if d2.code≠0 then ((d2.code,d2.bad),none) else if 200<r.1.count then ((2,0),none) else ((0,0),some r.1)
end Go.Proofs.YtllfmaflodbieaaGreatDoor
