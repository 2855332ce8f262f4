/- Texts of this proof: M50 M52. -/
import Derived.Test.YtllfmaflodbieaaGreatDoorKE35uM49
set_option linter.all false
namespace Go.Proofs.YtllfmaflodbieaaGreatDoor
open Go.RowKit
def Bc (obj:Bool):List ByteArray→List V→Bool→List UInt8
 |_,[],_=>[if obj then 125 else 93]
 |ks,x::r,first=>(if first then [] else [44])++((if obj then (Dp (ks.headD ByteArray.empty)).data.toList++[58] else [])++(x.txt.data.toList++Bc obj ks.tail r false))
theorem Kb (obj:Bool) (ks:List ByteArray) (x:V) (r:List V):Bc obj ks (x::r) false=44::Bc obj ks (x::r) true:=rfl
theorem H6 {kind:Int}{obj:Bool}(hk:obj=true↔kind=6):∀(kids:List V) (keys:List ByteArray),(DX (bS 44) (Eh kind keys kids)).data.toList++[if obj then 125 else 93]=Bc obj keys kids true
 | [],_=>by simp[Eh,DX,Bc]
 |x::r,keys=>by
  have ih:=H6 hk r keys.tail
  have hp:(if kind=6 then Dp (keys.headD ByteArray.empty)++bS 58++x.txt else x.txt).data.toList=(if obj then (Dp (keys.headD ByteArray.empty)).data.toList++[58] else [])++x.txt.data.toList:=by
   cases obj with
   |true=>rw[if_pos (hk.1 rfl),if_pos rfl,Bi,Bi]
   |false=>rw[if_neg (fun h=>by have:=hk.2 h;cases this)];simp
  cases r with
  |nil =>
   simp only[Eh,DX,Bc]
   rw[hp]
   simp
  |cons y r' =>
   simp only[Eh]at ih ⊢
   rw[JU _ _ (by simp),Bi,Bi,hp]
   have e:Bc obj keys (x::y::r') true=((if obj then (Dp (keys.headD ByteArray.empty)).data.toList++[58] else [])++(x.txt.data.toList++(44::Bc obj keys.tail (y::r') true))):=rfl
   rw[e,←ih]
   simp only[List.append_assoc]
   rfl
theorem LN {t:V}(h:t.right):∃b l,t.txt.data.toList=b::l∧Dd b.toNat=false∧b.toNat≠93∧b.toNat≠125:=by
 have hk:=Gb h
 have hcase:t.kind=0∨t.kind=1∨t.kind=2∨t.kind=3∨t.kind=4∨t.kind=5∨t.kind=6:=by omega
 rcases hcase with h | h | h | h | h | h | h
 ·rw[IN h];exact⟨110,_,rfl,by decide,by decide,by decide⟩
 ·rw[Hc h];exact⟨102,_,rfl,by decide,by decide,by decide⟩
 ·rw[IP h];exact⟨116,_,rfl,by decide,by decide,by decide⟩
 ·rw[KY h]
  have hd:(Jk t.num).data.toList=Lib.itoa t.num:=by simp[Jk]
  rw[hd]
  unfold Lib.itoa
  have dig:∀u:Nat,∃b l,Lib.decDigits u=b::l∧Dd b.toNat=false∧b.toNat≠93∧b.toNat≠125:=by
   intro u
   have hp:1≤(Lib.decDigits u).length:=by rw[Lib.decDigits_length];exact Lib.nDigits_pos u
   have hsub:Sub ⟨(Lib.decDigits u).toArray⟩ 0 (Lib.decDigits u):=⟨[],by simp⟩
   obtain⟨_,h2,_⟩:=FD u u (Nat.le_refl _) hsub
   have h3:=GB (h2 0 (Nat.le_refl _) (by omega))
   cases he:Lib.decDigits u with
   |nil=>rw[he]at hp;simp at hp
   |cons b l =>
    rw[he]at hsub
    have hb:=Sub.head hsub
    rw[he]at h3
    rw[hb]at h3
    refine⟨b,l,rfl,?_,by omega,by omega⟩
    unfold Dd
    simp
    omega
  split
  ·exact⟨45,_,rfl,by decide,by decide,by decide⟩
  ·exact dig _
 ·rw[L0 h,EQ];exact⟨34,_,rfl,by decide,by decide,by decide⟩
 ·rw[KX h,Bi,Bi];exact⟨91,_,rfl,by decide,by decide,by decide⟩
 ·rw[KZ h,Bi,Bi];exact⟨123,_,rfl,by decide,by decide,by decide⟩
theorem Jg {s:ByteArray}{i:Nat}{b:UInt8}{l:List UInt8}(h:Sub s i (b::l)) (hb:Dd b.toNat=false):Aw s i=i:=DW (by rw[Sub.head h];exact hb)
theorem Ox {s:ByteArray}{i:Nat}{t:V}(ht:t.right) {l:List UInt8}(h:Sub s i (t.txt.data.toList++l)):Aw s i=i:=by
 obtain⟨b,r,e,hb,_⟩:=LN ht
 rw[e]at h
 exact Jg (b:=b) (l:=r++l) h hb
theorem VQ (obj:Bool) (ks:List ByteArray):∀(kids:List V),∃b l,Bc obj ks kids false=b::l∧Dd b.toNat=false∧Bx b.toNat=false∧Ld b.toNat=false
 | []=>by
  cases obj with
  |false=>exact⟨93,_,rfl,by decide,by decide,by decide⟩
  |true=>exact⟨125,_,rfl,by decide,by decide,by decide⟩
 |x::r=>⟨44,_,rfl,by decide,by decide,by decide⟩
theorem Ly {s:ByteArray}{rd:Nat→Rd V}(obj:Bool):∀(kids:List V) (ks:List ByteArray) (n i:Nat) (first:Bool) (K:List ByteArray) (D:List V),Sub s i (Bc obj ks kids first)→s.size-i<n→(obj=true→ks.length=kids.length)→(obj=false→ks=[])→(∀k∈ks,AP k=true)→(∀x∈kids,x.right) →
  (∀x∈kids,∀j,Sub s j x.txt.data.toList→Qh s (j+x.txt.size)→rd j=.ok x (j+x.txt.size))→Dx s rd obj n i first K D=.ok (if obj then EJ (K++ks) (D++kids) else Ba (D++kids)) (i+(Bc obj ks kids first).length)
 |kids,ks,0,i,first,K,D,_,hn,_,_,_,_,_=>by omega
 | [],ks,n+1,i,first,K,D,h,hn,hl,hl0,_,_,_=>by
  have hks:ks=[]:=by
   cases obj with
   |true=>exact List.eq_nil_of_length_eq_zero (hl rfl)
   |false=>exact hl0 rfl
  subst hks
  have hb:bAt s i=(if obj then 125 else 93):=by
   have:=Sub.head (l:=[]) h
   rw[this]
   cases obj<;>rfl
  unfold Dx
  rw[if_pos hb,List.append_nil,List.append_nil]
  rfl
 |x::r,ks,n+1,i,first,K,D,h,hn,hl,hl0,hks,hr,hrd=>by
  have hx:=hr x (List.mem_cons_self ..)
  obtain⟨b0,l0,e0,n0,n93,n125⟩:=LN hx
  -- the byte ahead of the element
  have hi:i<s.size:=by
   obtain⟨b,l,e⟩:∃b l,Bc obj ks (x::r) first=b::l:=by
    cases he:Bc obj ks (x::r) first with
    |nil =>
     have:=congrArg List.length he
     unfold Bc at this
     rw[e0]at this
     simp at this
    |cons b l=>exact⟨b,l,rfl⟩
   have:=Sub.size h (by rw[e];simp)
   rw[e]at this
   simp at this
   omega
  obtain⟨j,hj,hsub,hlen,hend,hcom⟩:∃j,(if first then i else Aw s (i+1))=j∧Sub s j (Bc obj ks (x::r) true)∧j+(Bc obj ks (x::r) true).length=i+(Bc obj ks (x::r) first).length∧bAt s i≠(if obj then 125 else 93)∧¬(first=false∧bAt s i≠44):=by
   have hne:∀j,Sub s j (Bc obj ks (x::r) true)→bAt s j≠(if obj then 125 else 93)∧Dd (bAt s j)=false:=by
    intro j hj
    cases obj with
    |true =>
     have h1:Sub s j ((Dp (ks.headD ByteArray.empty)).data.toList++([58]++(x.txt.data.toList++Bc true ks.tail r false))):=by
      have:Bc true ks (x::r) true=(Dp (ks.headD ByteArray.empty)).data.toList++([58]++(x.txt.data.toList++Bc true ks.tail r false)):=by simp[Bc]
      rw[this]at hj
      exact hj
     rw[EQ]at h1
     have:=Sub.head (b:=34) (l:=_) h1
     rw[this]
     exact⟨by decide,by decide⟩
    |false =>
     have h1:Sub s j (x.txt.data.toList++Bc false ks.tail r false):=by
      have:Bc false ks (x::r) true=x.txt.data.toList++Bc false ks.tail r false:=by simp[Bc]
      rw[this]at hj
      exact hj
     rw[e0]at h1
     have:=Sub.head (b:=b0) (l:=_) h1
     rw[this]
     exact⟨n93,n0⟩
   cases first with
   |true=>exact⟨i,rfl,h,rfl,(hne i h).1,by simp⟩
   |false =>
    rw[Kb]at h
    have h1:=Sub.head h
    have h2:=Sub.tail h
    refine⟨i+1,DW (hne _ h2).2,h2,?_,by rw[h1];cases obj<;>decide,by rw[h1];decide⟩
    rw[Kb,List.length_cons]
    omega
  unfold Dx
  rw[if_neg hend,if_neg hcom,hj]
  obtain⟨k,e,hke,hxs,hkl,hkk⟩:∃k e,(if obj then KC s j else .ok ByteArray.empty j)=.ok k e∧Sub s e (x.txt.data.toList++Bc obj ks.tail r false)∧e+x.txt.size+(Bc obj ks.tail r false).length=j+(Bc obj ks (x::r) true).length∧(obj=true→ks=k::ks.tail):=by
   cases obj with
   |false =>
    have h1:Bc false ks (x::r) true=x.txt.data.toList++Bc false ks.tail r false:=by simp[Bc]
    rw[h1]at hsub ⊢
    refine⟨_,j,rfl,hsub,?_,by simp⟩
    rw[List.length_append,Be]
    omega
   |true =>
    have h1:Bc true ks (x::r) true=(Dp (ks.headD ByteArray.empty)).data.toList++([58]++(x.txt.data.toList++Bc true ks.tail r false)):=by simp[Bc]
    rw[h1]at hsub ⊢
    have hl1:=hl rfl
    cases ks with
    |nil=>simp at hl1
    |cons k ks =>
     have hkr:=PA (Sub.left hsub) (hks k (List.mem_cons_self ..))
     have h2:=Sub.right hsub
     rw[Be]at h2
     have h58:=Sub.head (b:=58) (l:=_) h2
     have h3:=Sub.tail (b:=58) (l:=_) h2
     refine⟨k,j+(Dp k).size+1,?_,h3,?_,fun _=>rfl⟩
     ·show KC s j=_
      unfold KC
      have hs1:Aw s (j+(Dp k).size)=j+(Dp k).size:=DW (by rw[show bAt s (j+(Dp k).size)=(58:UInt8).toNat from h58];decide)
      rw[show LK s j=.ok k (j+(Dp k).size) from hkr]
      show (if bAt s (Aw s (j+(Dp k).size))≠58 then Rd.bad 5 (Aw s (j+(Dp k).size)) else .ok k (Aw s (Aw s (j+(Dp k).size)+1)))=_
      rw[hs1,if_neg (by rw[show bAt s (j+(Dp k).size)=(58:UInt8).toNat from h58];decide),show Aw s (j+(Dp k).size+1)=j+(Dp k).size+1 from Ox hx h3]
     ·simp only[List.headD_cons,List.tail_cons,List.length_append,Be,List.length_cons,List.length_nil]
      omega
  rw[hke]
  obtain⟨b1,l1,e1,m1,m2,m3⟩:=VQ obj ks.tail r
  have hnx:=Sub.right hxs
  rw[Be]at hnx
  have hnb:bAt s (e+x.txt.size)=b1.toNat:=by
   rw[e1]at hnx
   exact Sub.head hnx
  have hv:=hrd x (List.mem_cons_self ..) e (Sub.left hxs) ⟨by rw[hnb];exact m2,by rw[hnb];exact m3⟩
  show (match rd e with | .bad c p=>Rd.bad c p | .ok v e2=>Dx s rd obj n (Aw s e2) false (if obj then K++[k] else K) (D++[v]))=_
  rw[hv]
  show Dx s rd obj n (Aw s (e+x.txt.size)) false (if obj then K++[k] else K) (D++[x])=_
  rw[DW (by rw[hnb];exact m1)]
  have hek:j≤e:=by
   cases obj with
   |false=>cases hke;exact Nat.le_refl _
   |true =>
    have hf:=Lp (s:=s) (i:=j) (by
     have:=Sub.size hsub (by
      intro hnil
      have:=congrArg List.length hnil
      unfold Bc at this
      rw[e0]at this
      simp at this)
     omega)
    rw[show KC s j=.ok k e from hke]at hf
    exact Nat.le_of_lt hf.1
  have hji:i≤j:=by
   cases first with
   |true=>rw[←hj];exact Nat.le_refl _
   |false =>
    have:=(C9 (s:=s) (i:=i+1) (by omega)).1
    rw[←hj]
    show i≤Aw s (i+1)
    omega
  have hpos:0<x.txt.size:=by rw[←Be,e0];simp
  have ih:=Ly (s:=s) (rd:=rd) obj r ks.tail n (e+x.txt.size) false (if obj then K++[k] else K) (D++[x]) hnx (by omega) (fun ho=>by have:=hl ho;rw[List.length_tail];simp at this;omega) (fun ho=>by rw[hl0 ho];rfl) (fun y hy=>hks y (List.mem_of_mem_tail hy)) (fun y hy=>hr y (List.mem_cons_of_mem _ hy)) (fun y hy=>hrd y (List.mem_cons_of_mem _ hy))
  rw[ih,hkl,hlen]
  congr 1
  cases obj with
  |false=>simp
  |true =>
   have:=hkk rfl
   simp only[if_true]
   rw[List.append_assoc,List.append_assoc]
   conv=>rhs;rw[this]
   rfl
theorem j0 {t:V}(h:t.right) (h6:t.kind=6):EJ t.keys t.kids=t:=by
 obtain⟨ua,_,hl⟩:=B9 h h6
 have hu:Up (JQ (Eg t)):=by rw[Rv hl];exact OL ua
 have key:EJ (JQ (Eg t)) (Pk (Eg t))=ovV (Eg t):=by
  unfold EJ
  have e:B0 (JQ (Eg t))=JQ (Eg t):=Ug (DL _) hu fun y=>BP
  rw[e]
  unfold ovV
  congr 1
  rw[show Pk (Eg t)=(Eg t).map Prod.snd from rfl,show JQ (Eg t)=(Eg t).map Prod.fst from rfl,List.map_map]
  refine List.map_congr_left fun q hq=>?_
  obtain⟨y,v⟩:=q
  exact Tf hu hq
 rw[Rv hl,X3 hl]at key
 rw[key]
 exact (a1w h h6).symm
theorem O0 {t:V}(h:t.right) (h5:t.kind≠5) (h6:t.kind≠6):t=.mk t.kind t.num t.text [] []:=by
 obtain⟨_,_,_,_,g1,g2⟩:=Bl h.1
 have e1:=g1 h6
 have e2:=g2 h5 h6
 cases t with
 |mk k n s ks vs =>
  simp only[V.keys,V.kids]at e1 e2
  subst e1 e2
  rfl
theorem LI {t:V}{l:List UInt8}(h:t.txt.data.toList=l):t.txt.size=l.length:=by rw[←Be,h]
theorem ON {s:ByteArray}:∀(k:Nat) (t:V) (i:Nat),t.right→t.depth≤k→Sub s i t.txt.data.toList→Qh s (i+t.txt.size)→FA k s i=.ok t (i+t.txt.size)
 | 0,t,i,_,hd,_,_=>by
  have:=EP t
  omega
 |k+1,t,i,ht,hd,h,hs=>by
  have hk:=Gb ht
  obtain⟨b0,l0,e0,n0,n93,n125⟩:=LN ht
  have hi:i<s.size:=by
   have:=Sub.size h (by rw[e0];simp)
   rw[e0]at this
   simp at this
   omega
  obtain⟨_,_,w3,w4,w5,w6⟩:=Bl ht.1
  have word:∀(l:List UInt8) (m:Int),t.txt.data.toList=l→t.kind=m→m≠3→m≠4→m≠5→m≠6→Gi s (En m) i (l.map UInt8.toNat) 0=.ok t (i+t.txt.size):=by
   intro l m hl hm g3 g4 g5 g6
   rw[hl]at h
   rw[Qs l 0 h,LI hl]
   have:En m=t:=by
    rw[O0 ht (by omega) (by omega),hm,w3 (by omega),w4 (by omega)]
    rfl
   rw[this]
   rfl
  have hcase:t.kind=0∨t.kind=1∨t.kind=2∨t.kind=3∨t.kind=4∨t.kind=5∨t.kind=6:=by omega
  unfold FA
  rw[if_neg (by omega)]
  rcases hcase with h0 | h0 | h0 | h0 | h0 | h0 | h0
  ·have hl:t.txt.data.toList=[110,117,108,108]:=by rw[IN h0];rfl
   have hb:bAt s i=110:=by rw[hl]at h;exact Sub.head h
   rw[if_pos hb]
   exact word _ 0 hl h0 (by decide) (by decide) (by decide) (by decide)
  ·have hl:t.txt.data.toList=[102,97,108,115,101]:=by rw[Hc h0];rfl
   have hb:bAt s i=102:=by rw[hl]at h;exact Sub.head h
   rw[if_neg (by omega),if_pos hb]
   exact word _ 1 hl h0 (by decide) (by decide) (by decide) (by decide)
  ·have hl:t.txt.data.toList=[116,114,117,101]:=by rw[IP h0];rfl
   have hb:bAt s i=116:=by rw[hl]at h;exact Sub.head h
   rw[if_neg (by omega),if_neg (by omega),if_pos hb]
   exact word _ 2 hl h0 (by decide) (by decide) (by decide) (by decide)
  ·rw[KY h0]at h hs ⊢
   have hn:=FI ht
   have hd:(Jk t.num).data.toList=Lib.itoa t.num:=by simp[Jk]
   have hb:bAt s i=45∨(48≤bAt s i∧bAt s i≤57):=by
    rw[hd]at h
    unfold Lib.itoa at h
    split at h
    ·exact .inl (Sub.head h)
    ·obtain⟨_,h2,_⟩:=FD t.num.toNat t.num.toNat (Nat.le_refl _) h
     have hp:1≤(Lib.decDigits t.num.toNat).length:=by rw[Lib.decDigits_length];exact Lib.nDigits_pos _
     exact .inr (GB (h2 i (Nat.le_refl _) (by omega)))
   rw[if_neg (by omega),if_neg (by omega),if_neg (by omega),if_neg (by omega),if_neg (by omega),if_neg (by omega),i8 hn h hs]
   have:Ar t.num=t:=by
    rw[O0 ht (by omega) (by omega),h0,w4 (by omega)]
    rfl
   show Rd.ok (Ar t.num) _=_
   rw[this]
  ·rw[L0 h0]at h ⊢
   have hb:bAt s i=34:=by rw[EQ]at h;exact Sub.head h
   rw[if_neg (by omega),if_neg (by omega),if_neg (by omega),if_neg (by omega),if_neg (by omega),if_pos hb,PA h (F0 ht)]
   have:C6 t.text=t:=by
    rw[O0 ht (by omega) (by omega),h0,w3 (by omega)]
    rfl
   show Rd.ok (C6 t.text) _=_
   rw[this]
  ·have hl:t.txt.data.toList=91::Bc false [] t.kids true:=by
    rw[KX h0,Bi,Bi,List.append_assoc]
    have:=H6 (kind:=t.kind) (obj:=false) ⟨fun h=>Bool.noConfusion h,fun h=>absurd h (by omega)⟩ t.kids t.keys
    rw[w5 (by omega)]at this
    show [91]++_=_
    rw[show t.parts=Eh t.kind [] t.kids by unfold V.parts;rw[w5 (by omega)]]
    rw[←this]
    rfl
   rw[hl]at h
   have hb:bAt s i=91:=Sub.head h
   have hdn:=EP t
   have h1:=Sub.tail h
   have hsk:Aw s (i+1)=i+1:=by
    cases hkk:t.kids with
    |nil=>rw[hkk]at h1;exact Jg (b:=93) (l:=[]) h1 (by decide)
    |cons x r =>
     rw[hkk]at h1
     have:Bc false [] (x::r) true=x.txt.data.toList++Bc false [] r false:=by simp[Bc]
     rw[this]at h1
     exact Ox (AQ ht (by rw[hkk];simp)) h1
   rw[if_neg (by omega),if_neg (by omega),if_neg (by omega),if_pos hb,hsk]
   rw[Ly (s:=s) (rd:=FA k s) false t.kids [] (s.size+1) (i+1) true [] [] h1 (by omega) (fun h=>by cases h) (fun _=>rfl) (by simp) (fun x hx=>AQ ht hx) (fun x hx j g1 g2=>ON k x j (AQ ht hx) (by have:=CP hx;omega) g1 g2)]
   rw[LI hl]
   simp only[Bool.false_eq_true,if_false,List.nil_append,List.length_cons]
   rw[←Wl ht.1 h0]
   congr 1
   omega
  ·obtain⟨ua,ta,la⟩:=B9 ht h0
   have hl:t.txt.data.toList=123::Bc true t.keys t.kids true:=by
    rw[KZ h0,Bi,Bi,List.append_assoc]
    have:=H6 (kind:=t.kind) (obj:=true) ⟨fun _=>h0,fun _=>rfl⟩ t.kids t.keys
    rw[←this]
    rfl
   rw[hl]at h
   have hb:bAt s i=123:=Sub.head h
   have hdn:=EP t
   have h1:=Sub.tail h
   have hsk:Aw s (i+1)=i+1:=by
    cases hkk:t.kids with
    |nil=>rw[hkk]at h1;exact Jg (b:=125) (l:=[]) h1 (by decide)
    |cons x r =>
     rw[hkk]at h1
     have:Bc true t.keys (x::r) true=(Dp (t.keys.headD ByteArray.empty)).data.toList++([58]++(x.txt.data.toList++Bc true t.keys.tail r false)):=by simp[Bc]
     rw[this,EQ]at h1
     exact Jg (b:=34) (l:=_) h1 (by decide)
   rw[if_neg (by omega),if_neg (by omega),if_neg (by omega),if_neg (by omega),if_pos hb,hsk]
   rw[Ly (s:=s) (rd:=FA k s) true t.kids t.keys (s.size+1) (i+1) true [] [] h1 (by omega) (fun _=>la) (fun h=>by cases h) ta (fun x hx=>AQ ht hx) (fun x hx j g1 g2=>ON k x j (AQ ht hx) (by have:=CP hx;omega) g1 g2)]
   rw[LI hl]
   simp only[if_true,List.nil_append,List.length_cons]
   rw[j0 ht h0]
   congr 1
   omega
structure DS where
 pl:Nat
 code:Int
 bad:Nat
def DS.fail (d:DS) (c:Int) (p:Nat):DS:=if d.code=0 then ⟨d.pl,c,p⟩ else d
def DS.go (d:DS) (p:Nat):DS:=⟨p,d.code,d.bad⟩
def DS.skip (s:ByteArray) (d:DS):DS:=d.go (Aw s d.pl)
def DS.is (s:ByteArray) (d:DS) (b:Nat):Bool:=decide (d.code=0)&&(bAt s d.pl==b)
def DS.take (s:ByteArray) (d:DS) (b:Nat):DS:=if d.is s b then d.go (d.pl+1) else d
def DS.want (s:ByteArray) (d:DS) (b:Nat):DS:=if d.is s b then d.go (d.pl+1) else d.fail 5 d.pl
def DS.word (s:ByteArray):DS→List Nat→DS
 |d,[]=>d
 |d,b::r=>DS.word s (d.want s b) r
def Oa (s:ByteArray) (i b:Nat):V×DS :=
 if Bx (bAt s (Br s i))=false then (En 0,⟨Br s i,5,Br s i⟩) else if Fm s i then (Ar 0,⟨BO s i,3,i⟩) else if Ld (bAt s (BO s i)) then (Ar (H2 s i),⟨BO s i,3,BO s i⟩) else (Ar (H2 s i),⟨BO s i,0,b⟩)
def DS.hex (s:ByteArray) (d:DS):Int×DS:=if d.code=0∧0≤Cl (bAt s d.pl) then (Cl (bAt s d.pl),d.go (d.pl+1)) else (0,d.fail 5 d.pl)
def DS.escape (s:ByteArray) (d:DS):Nat×DS :=
 if d.is s 34 then (34,d.go (d.pl+1)) else if d.is s 92 then (92,d.go (d.pl+1)) else if d.is s 47 then (47,d.go (d.pl+1))
 else
  let d1:=d.word s [117,48,48]
  let h1:=d1.hex s
  let h2:=h1.2.hex s
  let n:=16*h1.1+h2.1
  (n.toNat,if 32≤n∧n≤126 then h2.2 else h2.2.fail 5 d1.pl)
def DS.strGo (s:ByteArray):Nat→DS→ByteArray→ByteArray×DS
 | 0,d,out=>(out,d)
 |n+1,d,out=>if d.code≠0 then (out,d) else if d.is s 34 then (out,d.go (d.pl+1))
  else if s.size≤d.pl∨bAt s d.pl<32∨126<bAt s d.pl then DS.strGo s n (d.fail 5 d.pl) out
  else if d.is s 92 then DS.strGo s n ((d.go (d.pl+1)).escape s).2 (out++CN ((d.go (d.pl+1)).escape s).1)
  else DS.strGo s n (d.go (d.pl+1)) (out++CN (bAt s d.pl))
def DS.str (s:ByteArray) (d:DS):ByteArray×DS :=
 let r:=DS.strGo s (s.size+2) (d.want s 34) ByteArray.empty
 (r.1,if 60<r.1.size then r.2.fail 2 d.pl else r.2)
def DS.listGo {α:Type}(s:ByteArray) (part:DS→α→DS×α) (e:Nat):Nat→DS→α→DS×α
 | 0,d,x=>(d,x)
 |n+1,d,x=>if d.code≠0 then (d,x) else
  if ((part d x).1.skip s).is s e then (((part d x).1.skip s).go (((part d x).1.skip s).pl+1),(part d x).2)
  else DS.listGo s part e n ((((part d x).1.skip s).want s 44).skip s) (part d x).2
def DS.list {α:Type}(s:ByteArray) (part:DS→α→DS×α) (e:Nat) (d:DS) (x:α):DS×α :=
 if (d.skip s).is s e then ((d.skip s).go ((d.skip s).pl+1),x) else DS.listGo s part e (s.size+1) (d.skip s) x
def El (rd:DS→V×DS) (d:DS) (x:List V):DS×List V:=((rd d).2,x++[(rd d).1])
def CB (s:ByteArray) (rd:DS→V×DS) (d:DS) (x:List ByteArray×List V):DS×(List ByteArray×List V) :=
 let k:=d.str s
 let r:=rd ((k.2.skip s).want s 58)
 (r.2,(x.1++[k.1],x.2++[r.1]))
def DS.value (s:ByteArray):Nat→DS→V×DS
 | 0,d=>(En 0,if s.size≤(d.skip s).pl then (d.skip s).fail 5 (d.skip s).pl else (d.skip s).fail 7 (d.skip s).pl)
 |k+1,d =>
  let d:=d.skip s
  let b:=bAt s d.pl
  if s.size≤d.pl then (En 0,d.fail 5 d.pl) else if d.code≠0 then (En 0,d)
  else if b=110 then (En 0,d.word s [110,117,108,108])
  else if b=102 then (En 1,d.word s [102,97,108,115,101])
  else if b=116 then (En 2,d.word s [116,114,117,101])
  else if b=45∨Bx b=true then Oa s d.pl d.bad
  else if b=34 then (C6 (d.str s).1,(d.str s).2)
  else if b=91 then
   let r:=DS.list s (El (DS.value s k)) 93 (d.go (d.pl+1)) []
   (Ba r.2,r.1)
  else if b=123 then
   let r:=DS.list s (CB s (DS.value s k)) 125 (d.go (d.pl+1)) ([],[])
   (EJ r.2.1 r.2.2,r.1)
  else (En 0,d.fail 5 d.pl)
def Ww (s:ByteArray):(Int×Nat)×Option V :=
 if 4000<s.size then ((2,0),none) else
  let r:=DS.value s 20 ⟨0,0,0⟩
  let d:=r.2.skip s
  let d2:=if d.pl<s.size then d.fail 5 d.pl else d
  if d2.code≠0 then ((d2.code,d2.bad),none) else if 200<r.1.count then ((2,0),none) else ((0,0),some r.1)
end Go.Proofs.YtllfmaflodbieaaGreatDoor
