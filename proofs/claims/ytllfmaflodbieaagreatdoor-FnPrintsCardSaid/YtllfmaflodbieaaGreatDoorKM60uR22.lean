/- Texts of this proof: M60 R22. -/
import Derived.Test.YtllfmaflodbieaaGreatDoorKM47uR21
set_option linter.all false
set_option maxHeartbeats 8000000
namespace Go.Proofs.YtllfmaflodbieaaGreatDoor
open Go.RowKit
def NZ (l:List UInt8):Prop:=∀b∈l,Fb b.toNat=true
theorem Ok {s:ByteArray}:∀(G:List UInt8) (i:Nat) {b:UInt8}{l:List UInt8},NZ G→Sub s i (G++b::l)→Fb b.toNat=false→Io s i=i+G.length
 | [],i,b,l,_,h,hb=>MM h hb
 |g::G,i,b,l,hG,h,hb=>by
  have h1:bAt s i=g.toNat:=Sub.head (b:=g) (l:=G++b::l) h
  rw[Pr (by rw[h1];exact hG g (by simp)),Ok G (i+1) (fun x hx=>hG x (by simp[hx])) (Sub.tail h) hb]
  simp
  omega
def KX (obj:Bool) (A B Z:List UInt8) (f:V→List UInt8):List ByteArray→List V→Bool→List UInt8
 |_,[],_=>[if obj then 125 else 93]
 |ks,x::r,first=>(if first then [] else 44::A)++((if obj then (HH (ks.headD ByteArray.empty)).data.toList++58::B else [])++(f x++((if r.isEmpty then Z else [])++KX obj A B Z f ks.tail r false)))
theorem SJ {obj:Bool}{A B Z:List UInt8}{f:V→List UInt8}(ks:List ByteArray) (x:V) (r:List V):KX obj A B Z f ks (x::r) false=44::(A++KX obj A B Z f ks (x::r) true):=rfl
theorem Ug {A B Z:List UInt8}{f:V→List UInt8}(ks:List ByteArray) (x:V) (r:List V):KX true A B Z f ks (x::r) true=(HH (ks.headD ByteArray.empty)).data.toList++(58::(B++(f x++((if r.isEmpty then Z else [])++KX true A B Z f ks.tail r false)))):=by
 show []++(((HH (ks.headD ByteArray.empty)).data.toList++58::B)++_)=_
 rw[List.nil_append,List.append_assoc]
 rfl
theorem Uf {A B Z:List UInt8}{f:V→List UInt8}(ks:List ByteArray) (x:V) (r:List V):KX false A B Z f ks (x::r) true=f x++((if r.isEmpty then Z else [])++KX false A B Z f ks.tail r false):=rfl
theorem Y3 {obj:Bool}{A B Z:List UInt8}{f:V→List UInt8}(hZ:NZ Z) (ks:List ByteArray) (r:List V):∃G b l,(if r.isEmpty then Z else [])++KX obj A B Z f ks r false=G++b::l∧NZ G∧KX obj A B Z f ks r false=b::l∧Fb b.toNat=false∧G0 b.toNat=false∧JA b.toNat=false∧(if r.isEmpty then Z else [])=G:=by
 cases r with
 |nil=>exact⟨Z,if obj then 125 else 93,[],rfl,hZ,rfl,by cases obj<;>decide,by cases obj<;>decide,by cases obj<;>decide,rfl⟩
 |cons x r=>exact⟨[],44,_,rfl,fun b hb=>(by cases hb),rfl,by decide,by decide,by decide,rfl⟩
theorem QX {obj:Bool}{A B Z:List UInt8}{f:V→List UInt8}(ks:List ByteArray) {x:V}(r:List V) (hx:∃b l,f x=b::l∧Fb b.toNat=false∧b.toNat≠93∧b.toNat≠125):∃b l,KX obj A B Z f ks (x::r) true=b::l∧Fb b.toNat=false∧b.toNat≠(if obj then 125 else 93):=by
 cases obj with
 |true=>rw[Ug,LU];exact⟨34,_,rfl,by decide,by decide⟩
 |false =>
  obtain⟨b,l,e,h1,h2,_⟩:=hx
  rw[Uf,e]
  exact⟨b,_,rfl,h1,h2⟩
theorem X9 {n:Nat}(h:Fb n=true):G0 n=false∧JA n=false:=by
 unfold Fb at h
 simp only[Bool.or_eq_true,beq_iff_eq]at h
 rcases h with ((rfl | rfl) | rfl) | rfl<;>decide
theorem a2o {s:ByteArray}{i:Nat}{G:List UInt8}{b:UInt8}{l:List UInt8}(hG:NZ G) (h:Sub s i (G++b::l)) (h1:G0 b.toNat=false) (h2:JA b.toNat=false):Ol s i:=by
 cases G with
 |nil =>
  have hb:bAt s i=b.toNat:=Sub.head (l:=l) h
  exact⟨by rw[hb];exact h1,by rw[hb];exact h2⟩
 |cons g G =>
  have hb:bAt s i=g.toNat:=Sub.head (l:=G++b::l) h
  have:=X9 (hG g (by simp))
  exact⟨by rw[hb];exact this.1,by rw[hb];exact this.2⟩
theorem Su {s:ByteArray}{rd:Nat→Rd V}(obj:Bool) {A B Z:List UInt8}{f:V→List UInt8}(hA:NZ A) (hB:NZ B) (hZ:NZ Z):∀(kids:List V) (ks:List ByteArray) (n i:Nat) (first:Bool) (K:List ByteArray) (D:List V),Sub s i (KX obj A B Z f ks kids first)→s.size-i<n→(obj=true→ks.length=kids.length)→(obj=false→ks=[])→(∀k∈ks,Fr k=true)→(∀x∈kids,∃b l,f x=b::l∧Fb b.toNat=false∧b.toNat≠93∧b.toNat≠125) →
  (∀x∈kids,∀j,Sub s j (f x)→Ol s (j+(f x).length)→rd j=.ok x (j+(f x).length))→KM s rd obj n i first K D=.ok (if obj then Jm (K++ks) (D++kids) else Ir (D++kids)) (i+(KX obj A B Z f ks kids first).length)
 |kids,ks,0,i,first,K,D,_,hn,_,_,_,_,_=>by omega
 | [],ks,n+1,i,first,K,D,h,hn,hl,hl0,_,_,_=>by
  have hks:ks=[]:=by
   cases obj with
   |true=>exact List.eq_nil_of_length_eq_zero (hl rfl)
   |false=>exact hl0 rfl
  subst hks
  have hb:bAt s i=(if obj then 125 else 93):=by
   have:=Sub.head (l:=[]) h
   rw[this]
   cases obj<;>rfl
  unfold KM
  rw[if_pos hb,List.append_nil,List.append_nil]
  rfl
 |x::r,ks,n+1,i,first,K,D,h,hn,hl,hl0,hks,hr,hrd=>by
  have hx:=hr x (List.mem_cons_self ..)
  obtain⟨bp,lp,ep,np,nend⟩:=QX (obj:=obj) (A:=A) (B:=B) (Z:=Z) ks r hx
  obtain⟨b0,l0,e0,n0,_,_⟩:=hx
  have hi:i<s.size:=by
   obtain⟨b,l,e⟩:∃b l,KX obj A B Z f ks (x::r) first=b::l:=by
    cases first with
    |false=>exact⟨44,_,rfl⟩
    |true=>exact⟨bp,lp,ep⟩
   have:=Sub.size h (by rw[e];simp)
   rw[e]at this
   simp at this
   omega
  obtain⟨j,hj,hij,hsub,hlen,hend,hcom⟩:∃j,(if first then i else Io s (i+1))=j∧i≤j∧Sub s j (KX obj A B Z f ks (x::r) true)∧j+(KX obj A B Z f ks (x::r) true).length=i+(KX obj A B Z f ks (x::r) first).length∧bAt s i≠(if obj then 125 else 93)∧¬(first=false∧bAt s i≠44):=by
   cases first with
   |true =>
    refine⟨i,rfl,Nat.le_refl _,h,rfl,?_,by simp⟩
    rw[ep]at h
    rw[Sub.head h]
    exact nend
   |false =>
    rw[SJ]at h
    have h1:=Sub.head h
    have h2:=Sub.tail h
    refine⟨i+1+A.length,?_,by omega,Sub.right h2,?_,by rw[h1];cases obj<;>decide,by rw[h1];decide⟩
    ·rw[ep]at h2
     show Io s (i+1)=_
     exact Ok A (i+1) hA h2 np
    ·rw[SJ,List.length_cons,List.length_append]
     omega
  unfold KM
  rw[if_neg hend,if_neg hcom,hj]
  obtain⟨k,e,hke,hje,hxs,hkl,hkk⟩:∃k e,(if obj then O7 s j else .ok ByteArray.empty j)=.ok k e∧j≤e∧Sub s e (f x++((if r.isEmpty then Z else [])++KX obj A B Z f ks.tail r false))∧e+((f x).length+((if r.isEmpty then Z else [])++KX obj A B Z f ks.tail r false).length)=j+(KX obj A B Z f ks (x::r) true).length∧(obj=true→ks=k::ks.tail):=by
   cases obj with
   |false =>
    rw[Uf]at hsub ⊢
    refine⟨_,j,rfl,Nat.le_refl _,hsub,?_,by simp⟩
    simp only[List.length_append]
   |true =>
    rw[Ug]at hsub ⊢
    have hl1:=hl rfl
    cases ks with
    |nil=>simp at hl1
    |cons k ks =>
     have hkr:=Qc (Sub.left hsub) (hks k (List.mem_cons_self ..))
     have h2:=Sub.right hsub
     rw[JY]at h2
     have h58:=Sub.head (b:=58) (l:=_) h2
     have h3:=Sub.tail (b:=58) (l:=_) h2
     have h4:=Sub.right h3
     refine⟨k,j+(HH k).size+1+B.length,?_,by omega,h4,?_,fun _=>rfl⟩
     ·show O7 s j=_
      unfold O7
      have hs1:Io s (j+(HH k).size)=j+(HH k).size:=KT (by rw[show bAt s (j+(HH k).size)=(58:UInt8).toNat from h58];decide)
      rw[show Q1 s j=.ok k (j+(HH k).size) from hkr]
      show (if bAt s (Io s (j+(HH k).size))≠58 then Rd.bad 5 (Io s (j+(HH k).size)) else .ok k (Io s (Io s (j+(HH k).size)+1)))=_
      have hs2:Io s (j+(HH k).size+1)=j+(HH k).size+1+B.length:=by
       have h5:=h3
       rw[e0]at h5
       exact Ok B _ hB h5 n0
      rw[hs1,if_neg (by rw[show bAt s (j+(HH k).size)=(58:UInt8).toNat from h58];decide),hs2]
     ·simp only[List.headD_cons,List.tail_cons,List.length_append,JY,List.length_cons]
      omega
  rw[hke]
  obtain⟨G,b1,l1,e1,hG,e2,m1,m2,m3,eG⟩:=Y3 (obj:=obj) (A:=A) (B:=B) (f:=f) hZ ks.tail r
  have hnx:=Sub.right hxs
  have hnx2:=hnx
  rw[e1]at hnx2
  have hv:=hrd x (List.mem_cons_self ..) e (Sub.left hxs) (a2o hG hnx2 m2 m3)
  show (match rd e with | .bad c p=>Rd.bad c p | .ok v e2=>KM s rd obj n (Io s e2) false (if obj then K++[k] else K) (D++[v]))=_
  rw[hv]
  show KM s rd obj n (Io s (e+(f x).length)) false (if obj then K++[k] else K) (D++[x])=_
  rw[Ok G _ hG hnx2 m1]
  have hpos:0<(f x).length:=by rw[e0];simp
  have hnx3:Sub s (e+(f x).length+G.length) (KX obj A B Z f ks.tail r false):=by
   rw[eG]at hnx
   exact Sub.right hnx
  have ih:=Su (s:=s) (rd:=rd) obj (A:=A) (B:=B) (Z:=Z) (f:=f) hA hB hZ r ks.tail n (e+(f x).length+G.length) false (if obj then K++[k] else K) (D++[x]) hnx3 (by omega) (fun ho=>by have:=hl ho;rw[List.length_tail];simp at this;omega) (fun ho=>by rw[hl0 ho];rfl) (fun y hy=>hks y (List.mem_of_mem_tail hy)) (fun y hy=>hr y (List.mem_cons_of_mem _ hy)) (fun y hy=>hrd y (List.mem_cons_of_mem _ hy))
  rw[eG,List.length_append]at hkl
  rw[ih]
  have hfin:e+(f x).length+G.length+(KX obj A B Z f ks.tail r false).length=i+(KX obj A B Z f ks (x::r) first).length:=by omega
  rw[hfin]
  congr 1
  cases obj with
  |false=>simp
  |true =>
   have:=hkk rfl
   simp only[if_true]
   rw[List.append_assoc,List.append_assoc]
   conv=>rhs;rw[this]
   rfl
theorem a1c (n:Nat):(lnB n).data.toList=10::List.replicate n 32:=by
 unfold lnB
 rw[K5]
 unfold Px
 simp
theorem Nu (n:Nat):NZ (lnB n).data.toList:=fun b hb=>by
 rw[a1c]at hb
 rcases List.mem_cons.1 hb with rfl | hb
 ·decide
 ·rw[List.eq_of_mem_replicate hb];decide
theorem WS {kind:Int}{obj:Bool}(hk:obj=true↔kind=6) (d a:Nat) (Z:List UInt8):∀(kids:List V) (keys:List ByteArray),kids≠[]→(H0 (bS 44++lnB a) (R9 d a kind keys kids)).data.toList++(Z++[if obj then 125 else 93])=KX obj (lnB a).data.toList [32] Z (fun x=>(x.pre d a).data.toList) keys kids true
 | [],_,h=>absurd rfl h
 |x::r,keys,_=>by
  have hp:(if kind=6 then HH (keys.headD ByteArray.empty)++⟨#[58,32]⟩++x.pre d a else x.pre d a).data.toList=(if obj then (HH (keys.headD ByteArray.empty)).data.toList++58::[32] else [])++(x.pre d a).data.toList:=by
   cases obj with
   |true=>rw[if_pos (hk.1 rfl),if_pos rfl,K5,K5]
   |false=>rw[if_neg (fun h=>by have:=hk.2 h;cases this)];simp
  cases r with
  |nil =>
   simp only[R9,H0]
   rw[hp]
   simp[KX]
  |cons y r' =>
   have ih:=WS (kind:=kind) (obj:=obj) hk d a Z (y::r') keys.tail (by simp)
   simp only[R9]at ih ⊢
   rw[Mi _ _ (by simp),K5,K5,hp]
   have e:KX obj (lnB a).data.toList [32] Z (fun x=>(x.pre d a).data.toList) keys (x::y::r') true=(if obj then (HH (keys.headD ByteArray.empty)).data.toList++58::[32] else [])++((x.pre d a).data.toList++(44::((lnB a).data.toList++KX obj (lnB a).data.toList [32] Z (fun x=>(x.pre d a).data.toList) keys.tail (y::r') true))):=rfl
   rw[e,←ih,K5]
   simp only[List.append_assoc]
   rfl
theorem Qq {t:V}(h:t.right) (d a:Nat):∃b l,(t.pre d a).data.toList=b::l∧Fb b.toNat=false∧b.toNat≠93∧b.toNat≠125:=by
 by_cases hk:t.kids=[]
 ·rw[Og d a hk]
  exact OL h
 ·rw[Oh d a hk,K5,K5]
  split
  ·exact⟨91,_,rfl,by decide,by decide,by decide⟩
  ·exact⟨123,_,rfl,by decide,by decide,by decide⟩
theorem TQ {t:V}(h:t.right) (hk:t.kids≠[]):t.kind=5∨t.kind=6:=by
 obtain⟨_,_,_,_,_,g2⟩:=KB h.1
 by_cases h5:t.kind=5
 ·exact .inl h5
 ·by_cases h6:t.kind=6
  ·exact .inr h6
  ·exact absurd (g2 h5 h6) hk
theorem a16 {t:V}(h:t.right) (hk:t.kids≠[]) (d a:Nat):(t.pre d a).data.toList=(if t.kind=6 then 123 else 91)::((lnB (a+d)).data.toList++KX (decide (t.kind=6)) (lnB (a+d)).data.toList [32] (lnB a).data.toList (fun x=>(x.pre d (a+d)).data.toList) t.keys t.kids true):=by
 rw[←WS (kind:=t.kind) (by simp) d (a+d) (lnB a).data.toList t.kids t.keys hk,Oh d a hk]
 unfold V.pparts
 rcases TQ h hk with h5 | h6
 ·have n6:¬t.kind=6:=by omega
  rw[if_pos h5,if_pos h5,if_neg n6]
  simp only[K5,n6,decide_false,Bool.false_eq_true,if_false,List.append_assoc]
  rfl
 ·have n5:¬t.kind=5:=by omega
  rw[if_neg n5,if_neg n5,if_pos h6]
  simp only[K5,h6,decide_true,if_true,List.append_assoc]
  rfl
theorem WR {s:ByteArray}{d:Nat}:∀(k:Nat) (t:V) (a i:Nat),t.right→t.depth≤k→Sub s i (t.pre d a).data.toList→Ol s (i+(t.pre d a).size)→LE k s i=.ok t (i+(t.pre d a).size)
 | 0,t,a,i,_,hd,_,_=>by
  have:=Mg t
  omega
 |k+1,t,a,i,ht,hd,h,hs=>by
  by_cases hkk:t.kids=[]
  ·rw[Og d a hkk]at h hs ⊢
   exact On (k+1) t i ht hd h hs
  ·have hl:=a16 ht hkk d a
   have hsz:(t.pre d a).size=1+((lnB (a+d)).data.toList.length+(KX (decide (t.kind=6)) (lnB (a+d)).data.toList [32] (lnB a).data.toList (fun x=>(x.pre d (a+d)).data.toList) t.keys t.kids true).length):=by
    rw[←JY,hl,List.length_cons,List.length_append]
    omega
   rw[hl]at h
   have hb:=Sub.head h
   have h1:=Sub.tail h
   have h2:=Sub.right h1
   have hdn:=Mg t
   have hi:i<s.size:=by
    have:=Sub.size h (by simp)
    simp at this
    omega
   have hsk:Io s (i+1)=i+1+(lnB (a+d)).data.toList.length:=by
    cases hkids:t.kids with
    |nil=>exact absurd hkids hkk
    |cons x r =>
     rw[hkids]at h1
     have hx:x∈t.kids:=by rw[hkids];simp
     have hfx:=Qq (K1 ht hx) d (a+d)
     obtain⟨b,l,e,nb,_⟩:=QX (obj:=decide (t.kind=6)) (A:=(lnB (a+d)).data.toList) (B:=[32]) (Z:=(lnB a).data.toList) (f:=fun x=>(x.pre d (a+d)).data.toList) t.keys (x:=x) r hfx
     rw[e]at h1
     exact Ok _ _ (Nu _) h1 nb
   have hrd:∀x∈t.kids,∀j,Sub s j (x.pre d (a+d)).data.toList→Ol s (j+(x.pre d (a+d)).data.toList.length)→LE k s j=.ok x (j+(x.pre d (a+d)).data.toList.length):=fun x hx j g1 g2=>by
    rw[JY]at g2 ⊢
    exact WR k x (a+d) j (K1 ht hx) (by have:=Kp hx;omega) g1 g2
   have hff:∀x∈t.kids,∃b l,(x.pre d (a+d)).data.toList=b::l∧Fb b.toNat=false∧b.toNat≠93∧b.toNat≠125:=fun x hx=>Qq (K1 ht hx) d (a+d)
   obtain⟨_,_,w3,w4,w5,w6⟩:=KB ht.1
   unfold LE
   rw[if_neg (by omega)]
   rcases TQ ht hkk with h0 | h0
   ·have n6:¬t.kind=6:=by omega
    rw[if_neg n6]at hb
    have hb:bAt s i=91:=hb
    rw[show decide (t.kind=6)=false from decide_eq_false n6,w5 (by omega)]at h2 hsz
    rw[if_neg (by omega),if_neg (by omega),if_neg (by omega),if_pos hb,hsk]
    rw[Su (s:=s) (rd:=LE k s) false (Nu _) (B:=[32]) (fun b hb=>by rw[List.mem_singleton.1 hb];decide) (Nu a) t.kids [] (s.size+1) (i+1+(lnB (a+d)).data.toList.length) true [] [] h2 (by omega) (fun h=>by cases h) (fun _=>rfl) (by simp) hff hrd]
    simp only[Bool.false_eq_true,if_false,List.nil_append]
    rw[←Rc ht.1 h0,hsz]
    congr 1
    omega
   ·obtain⟨ua,ta,la⟩:=KL ht h0
    rw[if_pos h0]at hb
    have hb:bAt s i=123:=hb
    rw[show decide (t.kind=6)=true from decide_eq_true h0]at h2 hsz
    rw[if_neg (by omega),if_neg (by omega),if_neg (by omega),if_neg (by omega),if_pos hb,hsk]
    rw[Su (s:=s) (rd:=LE k s) true (Nu _) (B:=[32]) (fun b hb=>by rw[List.mem_singleton.1 hb];decide) (Nu a) t.kids t.keys (s.size+1) (i+1+(lnB (a+d)).data.toList.length) true [] [] h2 (by omega) (fun _=>la) (fun h=>by cases h) ta hff hrd]
    simp only[if_true,List.nil_append]
    rw[Wz ht h0,hsz]
    congr 1
    omega
theorem Xj {t:V}{d:Nat}(ht:t.right):Kw (t.pre d 0)=if 4000<(t.pre d 0).size then ((2,0),none) else ((0,0),some t):=by
 have hc:=ht.2.1
 by_cases hz:4000<(t.pre d 0).size
 ·rw[if_pos hz]
  unfold Kw
  rw[if_pos hz]
 ·rw[if_neg hz]
  have h0:=Zd (t.pre d 0)
  obtain⟨b,l,e,nb,_⟩:=Qq ht d 0
  have hs0:Io (t.pre d 0) 0=0:=by
   have h1:=h0
   rw[e]at h1
   exact MM h1 nb
  have hend:bAt (t.pre d 0) (0+(t.pre d 0).size)=256:=Lw (by omega)
  unfold Kw
  rw[if_neg hz,hs0,WR 20 t 0 0 ht ht.2.2 h0 ⟨by rw[hend];decide,by rw[hend];decide⟩]
  show (if Io (t.pre d 0) (0+(t.pre d 0).size)<(t.pre d 0).size then ((5,Io (t.pre d 0) (0+(t.pre d 0).size)),none) else if 200<t.count then ((2,0),none) else ((0,0),some t))=_
  rw[KT (by rw[hend];decide),if_neg (by omega),if_neg (by omega)]
set_option maxRecDepth 10000
def Pk (t:V) (d a k:Nat):ByteArray:=if k=0 then ByteArray.empty else lnB a++H0 (bS 44++lnB a) ((t.pparts d a).take k)
theorem b9 {t:V}{d a k:Nat}(hk:k<t.kids.length):Pk t d a (k+1)=if k=0 then lnB a++t.ppart d a k t.kids[k] else Pk t d a k++bS 44++lnB a++t.ppart d a k t.kids[k]:=by
 unfold Pk
 rw[if_neg (by omega),Sg _ (by rw[Lb];exact hk),Qp t d a hk]
 split
 ·rfl
 ·simp only[ByteArray.append_assoc]
theorem Ue {d:Nat}(hd:d≤8) {t:V}{a:Nat}(hr:t.right) (h:a+d*t.depth≤168):(t.pre d a).size≤140000:=by
 have h1:=SI hd _ t a (Nat.le_refl _) hr h
 have:=hr.2.1
 omega
theorem PK {d a:Nat}{t x:V}(hx:x∈t.kids) (h:a+d*t.depth≤168):a+d+d*x.depth≤168:=by
 have h0:=L8 t
 have h1:=Kp hx
 have h2:d*(x.depth+1)≤d*t.depth:=Nat.mul_le_mul_left _ (by omega)
 rw[Nat.mul_add]at h2
 omega
theorem c7 {d:Nat}(hd:d≤8) {t:V}{a:Nat}(hr:t.right) (h:a+d*t.depth≤168) {k:Nat}(hk:k≤t.kids.length):(Pk t d (a+d) k).size≤141000:=by
 have hdk:=L8 t
 have hda':a+d≤168:=by
  have:d*1≤d*t.depth:=Nat.mul_le_mul_left _ (by omega)
  omega
 have h1:=Pm (d:=d) hda' hr (fun x hx=>SI hd _ x (a+d) (Nat.le_refl _) (K1 hr hx) (PK hx h)) k hk
 have h2:=K4 t
 have:=hr.2.1
 unfold Pk
 split
 ·simp
 ·rw[ByteArray.size_append,MY];omega
theorem YP {t:V}(h:t.kids.isEmpty=true):t.kids=[]:=by simpa using h
theorem Ye (d:Nat) (hd:d≤8):∀(n:Nat) (t:V) (deep:Nat),t.count≤n→t.right→deep+t.depth≤20→AC Tryz.prog 61 [Iw t.enc,.c (.int .i64 d),.c (.int .i64 deep)] [] (.c (.str (t.pre d (d*deep)))) []:=by
 intro n
 induction n with
 |zero=>intro t deep hn _;have:=K8 t;omega
 |succ n ih =>
  intro t deep hn ht hdp
  have hda:d*deep+d*t.depth≤168:=by
   have h1:d*(deep+t.depth)≤8*20:=Nat.mul_le_mul hd hdp
   rw[Nat.mul_add]at h1
   omega
  have hlf:=XD t
  have he:=Zv _ t (Nat.le_refl _) ht
  cases hle:t.kids.isEmpty with
  |true =>
   rw[hle]at hlf
   have hk:=YP hle
   rw[Og d (d*deep) hk]
   refine JI Tryz.func61 Tryz.ntmps61 ?_
   refine JV q9 ?_
   refine w7 (Ju [] hlf) q9 ?_
   refine JV hle ?_
   refine w7 (Ju [] he) q9 ?_
   refine JV q9 ?_
   exact JW (Iu []) Tryz.results61
  |false =>
   rw[hle]at hlf
   have hk:t.kids≠[]:=by intro e;rw[e]at hle;simp at hle
   have hkp:0<t.kids.length:=List.length_pos_iff.2 hk
   have ra:=VQ t
   have ga:=Lq t
   have hp:=Sn ht.1 ht.2.1
   have hq:=TR ht.1 ht.2.1
   have hkl:=Kg ht.2.1
   have hlp:((t.kids.map V.enc).map CH).length=t.kids.length:=by simp
   have h0:Pk t d (d*deep+d) 0=ByteArray.empty:=rfl
   have hdd:d*(deep+1)=d*deep+d:=Nat.mul_succ d deep
   have hdk:=L8 t
   have hda':d*deep+d≤168:=by
    have:d*1≤d*t.depth:=Nat.mul_le_mul_left _ (by omega)
    omega
   have hw1:IntKind.i64.wrap ((deep:Int)+1)=((deep+1:Nat):Int):=by rw[IntWalk.i64_in _ (by omega)];simp
   have hw2:IntKind.i64.wrap ((d:Int)*((deep+1:Nat):Int))=((d*deep+d:Nat):Int):=by
    have e:(d:Int)*((deep+1:Nat):Int)=((d*(deep+1):Nat):Int):=by simp
    rw[e,hdd,IntWalk.i64_in _ (by omega)]
   have hw3:IntKind.i64.wrap ((d:Int)*(deep:Int))=((d*deep:Nat):Int):=by
    have e:(d:Int)*(deep:Int)=((d*deep:Nat):Int):=by simp
    rw[e,IntWalk.i64_in _ (by omega)]
   have hli:=YR (d*deep+d) (by omega)
   have hli2:=YR (d*deep) (by omega)
   have hls:=MY (d*deep+d)
   have hls2:=MY (d*deep)
   refine JI Tryz.func61 Tryz.ntmps61 ?_
   refine JV q9 ?_
   refine w7 (Ju [] hlf) q9 ?_
   refine JV hle ?_
   refine w9 (Ja [] hp) q9 ?_
   refine JV q9 ?_
   refine w9 (Ja [] hq) q9 ?_
   refine JV q9 ?_
   refine Jz (κ:=Nat) (fun k=>⟨mkS 0 76 [(0,Iw t.enc),(1,.c (.int .i64 d)),(2,.c (.int .i64 deep)),(7,.c (.sl ((t.kids.map V.enc).map CH))),(8,.c (.sl ((KQ t t.kids.length).map CX))),(9,.c (.str (Pk t d (d*deep+d) k))),(10,.c (.int .i64 k))],[]⟩)
    (fun k=>k≤t.kids.length) (fun k=>t.kids.length-k) 0 (Nat.zero_le _) ?_ ?_
   ·exact JQ (F7.of [] []) h0
   ·intro k hk1
    have hz:=c7 hd ht hda hk1
    by_cases hlt:k<t.kids.length
    ·have hdk1:decide ((k:Int)<(t.kids.length:Int))=true:=by simpa using hlt
     have hw:=JX (k:=k) (by omega)
     have hg:((t.kids.map V.enc).map CH)[k]? = some [.sl (t.kids[k].enc.map CellD.cs)]:=by simp[hlt,CH]
     have hra:B4 ((t.kids.map V.enc).map CH) 1 k=true:=by simp[B4,hlt,CH]
     have hgk:((KQ t t.kids.length).map CX)[k]? = some [.str (t.keyAt k)]:=by simp[KQ,hlt,CX]
     have hrk:B4 ((KQ t t.kids.length).map CX) 1 k=true:=by simp[B4,KQ,hlt,CX]
     have hks:=LY ht k
     have hes:=LV hks
     have hqk:=SK (t.keyAt k) (by omega)
     have hmem:t.kids[k]∈t.kids:=List.getElem_mem hlt
     have hcm:=K7 hmem
     have hck:=K4 t
     have hkd:=PK hmem hda
     have hxs:=Ue hd (K1 ht hmem) hkd
     have hrec:=ih t.kids[k] (deep+1) (by omega) (K1 ht hmem) (by have h9:=Kp hmem;omega)
     rw[hdd]at hrec
     have hnx:=b9 (d:=d) (a:=d*deep+d) hlt
     unfold V.ppart at hnx
     generalize t.kids[k]=x at *
     generalize t.keyAt k=key at *
     generalize hu0:Pk t d (d*deep+d) k=u0 at *
     have key1:∀u1:ByteArray,u1.size≤142000→u1.size+(lnB (d*deep+d)).size≤9223372036854775807∧(u1++lnB (d*deep+d)).size+(HH key).size≤9223372036854775807∧(u1++lnB (d*deep+d)++HH key).size+2≤9223372036854775807∧(u1++lnB (d*deep+d)++HH key++⟨#[58,32]⟩).size+(x.pre d (d*deep+d)).size≤9223372036854775807∧(u1++lnB (d*deep+d)).size+(x.pre d (d*deep+d)).size≤9223372036854775807:=by
      intro u1 h1
      simp only[ByteArray.size_append,SV]
      omega
     rcases Nat.eq_zero_or_pos k with hk0 | hk0
     ·subst hk0
      have hgt:decide (((0:Nat):Int)>0)=false:=by simp
      rw[if_pos rfl]at hnx
      have hu00:u0=ByteArray.empty:=by rw[←hu0];rfl
      subst hu00
      obtain⟨x0,x1,x2,x3,x4⟩:=key1 ByteArray.empty (by simp)
      by_cases h6:t.kind=6
      ·have b6:(t.kind==6)=true:=by simp[h6]
       rw[if_pos h6]at hnx
       have hy:ByteArray.empty++lnB (d*deep+d)++HH key++⟨#[58,32]⟩++x.pre d (d*deep+d)=Pk t d (d*deep+d) (0+1):=by rw[hnx]<;>simp only[ByteArray.append_assoc,ByteArray.empty_append]
       generalize hv0:ByteArray.empty++lnB (d*deep+d)=v0 at *
       generalize hv1:v0++HH key=v1 at *
       generalize hv2:v1++⟨#[58,32]⟩=v2 at *
       refine JV (j5 hlp hdk1 hgt hw1 hw2) ?_
       refine w7 (Ju [] hli) q9 ?_
       refine JV (j7 x0 hv0 ra ga b6 hrk hgk) ?_
       refine w7 (Ju [] hqk) q9 ?_
       refine JV (j7 x1 hv1 x2 hv2 hra hg hw1) ?_
       refine w7 (Ju [] hrec) q9 ?_
       refine JV (j3 x3 hy hw) ?_
       refine⟨0+1,by omega,by omega,?_⟩
       exact JQ (F7.of [] []) q9
      ·have b6:(t.kind==6)=false:=by simp[h6]
       rw[if_neg h6]at hnx
       have hy:ByteArray.empty++lnB (d*deep+d)++x.pre d (d*deep+d)=Pk t d (d*deep+d) (0+1):=by rw[hnx]<;>simp only[ByteArray.append_assoc,ByteArray.empty_append]
       generalize hv0:ByteArray.empty++lnB (d*deep+d)=v0 at *
       refine JV (j5 hlp hdk1 hgt hw1 hw2) ?_
       refine w7 (Ju [] hli) q9 ?_
       refine JV (j8 x0 hv0 ra ga b6 hra hg hw1) ?_
       refine w7 (Ju [] hrec) q9 ?_
       refine JV (j3 x4 hy hw) ?_
       refine⟨0+1,by omega,by omega,?_⟩
       exact JQ (F7.of [] []) q9
     ·have hgt:decide ((k:Int)>0)=true:=by simp;omega
      rw[if_neg (by omega)]at hnx
      have y0:u0.size+1≤9223372036854775807:=by omega
      have hu1s:(u0++bS 44).size≤142000:=by rw[ByteArray.size_append,K9];omega
      obtain⟨x0,x1,x2,x3,x4⟩:=key1 (u0++bS 44) hu1s
      generalize hu1:u0++bS 44=u1 at *
      by_cases h6:t.kind=6
      ·have b6:(t.kind==6)=true:=by simp[h6]
       rw[if_pos h6]at hnx
       have hy:u1++lnB (d*deep+d)++HH key++⟨#[58,32]⟩++x.pre d (d*deep+d)=Pk t d (d*deep+d) (k+1):=by rw[hnx]<;>simp only[ByteArray.append_assoc]
       generalize hv0:u1++lnB (d*deep+d)=v0 at *
       generalize hv1:v0++HH key=v1 at *
       generalize hv2:v1++⟨#[58,32]⟩=v2 at *
       refine JV (j7 hlp hdk1 hgt y0 hu1 hw1 hw2) ?_
       refine w7 (Ju [] hli) q9 ?_
       refine JV (j7 x0 hv0 ra ga b6 hrk hgk) ?_
       refine w7 (Ju [] hqk) q9 ?_
       refine JV (j7 x1 hv1 x2 hv2 hra hg hw1) ?_
       refine w7 (Ju [] hrec) q9 ?_
       refine JV (j3 x3 hy hw) ?_
       refine⟨k+1,by omega,by omega,?_⟩
       exact JQ (F7.of [] []) q9
      ·have b6:(t.kind==6)=false:=by simp[h6]
       rw[if_neg h6]at hnx
       have hy:u1++lnB (d*deep+d)++x.pre d (d*deep+d)=Pk t d (d*deep+d) (k+1):=by rw[hnx]<;>simp only[ByteArray.append_assoc]
       generalize hv0:u1++lnB (d*deep+d)=v0 at *
       refine JV (j7 hlp hdk1 hgt y0 hu1 hw1 hw2) ?_
       refine w7 (Ju [] hli) q9 ?_
       refine JV (j8 x0 hv0 ra ga b6 hra hg hw1) ?_
       refine w7 (Ju [] hrec) q9 ?_
       refine JV (j3 x4 hy hw) ?_
       refine⟨k+1,by omega,by omega,?_⟩
       exact JQ (F7.of [] []) q9
    ·have hdk1:decide ((k:Int)<(t.kids.length:Int))=false:=by simpa using hlt
     obtain rfl:k=t.kids.length:=by omega
     have hall:(t.pparts d (d*deep+d)).take t.kids.length=t.pparts d (d*deep+d):=List.take_of_length_le (Nat.le_of_eq (Lb _ _ _))
     have hoe:Pk t d (d*deep+d) t.kids.length=lnB (d*deep+d)++H0 (bS 44++lnB (d*deep+d)) (t.pparts d (d*deep+d)):=by unfold Pk;rw[if_neg (by omega),hall]
     have hpn:=Oh d (d*deep) hk
     rw[←hoe]at hpn
     generalize Pk t d (d*deep+d) t.kids.length=u0 at *
     have x0:u0.size+(lnB (d*deep)).size≤9223372036854775807:=by omega
     have x1:1+(u0++lnB (d*deep)).size≤9223372036854775807:=by rw[ByteArray.size_append];omega
     by_cases h5:t.kind=5
     ·have b5:(t.kind==5)=true:=by simp[h5]
      rw[if_pos h5,if_pos h5]at hpn
      have x2:(bS 91++(u0++lnB (d*deep))).size+1≤9223372036854775807:=by simp only[ByteArray.size_append,K9];omega
      generalize hv0:u0++lnB (d*deep)=v0 at *
      generalize hv1:bS 91++v0=v1 at *
      have hpe:=hpn.symm
      refine JV (j3 hlp hdk1 hw3) ?_
      refine w7 (Ju [] hli2) q9 ?_
      refine JV (j9 x0 hv0 ra ga b5 x1 hv1 x2 hpe) ?_
      exact JJ (JN [] []) Tryz.results61 hpe
     ·have b5:(t.kind==5)=false:=by simp[h5]
      rw[if_neg h5,if_neg h5]at hpn
      have x2:(bS 123++(u0++lnB (d*deep))).size+1≤9223372036854775807:=by simp only[ByteArray.size_append,K9];omega
      generalize hv0:u0++lnB (d*deep)=v0 at *
      generalize hv1:bS 123++v0=v1 at *
      have hpe:=hpn.symm
      refine JV (j3 hlp hdk1 hw3) ?_
      refine w7 (Ju [] hli2) q9 ?_
      refine JV (j9 x0 hv0 ra ga b5 x1 hv1 x2 hpe) ?_
      exact JJ (JN [] []) Tryz.results61 hpe
end Go.Proofs.YtllfmaflodbieaaGreatDoor
