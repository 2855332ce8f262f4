/- The text of a value is read as the value: elements and members; the whole. -/
import Derived.Test.YtlciedpfjhkkdaaGreatDoorKR14uM49
set_option linter.all false
namespace Go.Proofs.YtlciedpfjhkkdaaGreatDoor
open Go.RowKit
def tailL (obj:Bool):List ByteArray→List V→Bool→List UInt8
 |_,[],_=>[if obj then 125 else 93]
 |ks,x::r,first=>(if first then [] else [44])++((if obj then (encS (ks.headD ByteArray.empty)).data.toList++[58] else [])++(x.txt.data.toList++tailL obj ks.tail r false))
theorem tailL_next (obj:Bool) (ks:List ByteArray) (x:V) (r:List V):tailL obj ks (x::r) false=44::tailL obj ks (x::r) true:=rfl
theorem rest_list {kind:Int}{obj:Bool}(hk:obj=true↔kind=6):∀(kids:List V) (keys:List ByteArray),(joinS (bS 44) (partsT kind keys kids)).data.toList++[if obj then 125 else 93]=tailL obj keys kids true
 | [],_=>by simp[partsT,joinS,tailL]
 |x::r,keys=>by
  have ih:=rest_list hk r keys.tail
  have hp:(if kind=6 then encS (keys.headD ByteArray.empty)++bS 58++x.txt else x.txt).data.toList=(if obj then (encS (keys.headD ByteArray.empty)).data.toList++[58] else [])++x.txt.data.toList:=by
   cases obj with
   |true=>rw[if_pos (hk.1 rfl),if_pos rfl,app_list,app_list]
   |false=>rw[if_neg (fun h=>by have:=hk.2 h;cases this)];simp
  cases r with
  |nil =>
   simp only[partsT,joinS,tailL]
   rw[hp]
   simp
  |cons y r' =>
   simp only[partsT]at ih ⊢
   rw[joinS_cons _ _ (by simp),app_list,app_list,hp]
   have e:tailL obj keys (x::y::r') true=((if obj then (encS (keys.headD ByteArray.empty)).data.toList++[58] else [])++(x.txt.data.toList++(44::tailL obj keys.tail (y::r') true))):=rfl
   rw[e,←ih]
   simp only[List.append_assoc]
   rfl
theorem txt_first {t:V}(h:t.right):∃b l,t.txt.data.toList=b::l∧blankB b.toNat=false∧b.toNat≠93∧b.toNat≠125:=by
 have hk:=right_kind h
 have hcase:t.kind=0∨t.kind=1∨t.kind=2∨t.kind=3∨t.kind=4∨t.kind=5∨t.kind=6:=by omega
 rcases hcase with h | h | h | h | h | h | h
 ·rw[txt_null h];exact⟨110,_,rfl,by decide,by decide,by decide⟩
 ·rw[txt_false h];exact⟨102,_,rfl,by decide,by decide,by decide⟩
 ·rw[txt_true h];exact⟨116,_,rfl,by decide,by decide,by decide⟩
 ·rw[txt_num h]
  have hd:(numS t.num).data.toList=Lib.itoa t.num:=by simp[numS]
  rw[hd]
  unfold Lib.itoa
  have dig:∀u:Nat,∃b l,Lib.decDigits u=b::l∧blankB b.toNat=false∧b.toNat≠93∧b.toNat≠125:=by
   intro u
   have hp:1≤(Lib.decDigits u).length:=by rw[Lib.decDigits_length];exact Lib.nDigits_pos u
   have hsub:Sub ⟨(Lib.decDigits u).toArray⟩ 0 (Lib.decDigits u):=⟨[],by simp⟩
   obtain⟨_,h2,_⟩:=decN_read u u (Nat.le_refl _) hsub
   have h3:=dig_lt (h2 0 (Nat.le_refl _) (by omega))
   cases he:Lib.decDigits u with
   |nil=>rw[he]at hp;simp at hp
   |cons b l =>
    rw[he]at hsub
    have hb:=Sub.head hsub
    rw[he]at h3
    rw[hb]at h3
    refine⟨b,l,rfl,?_,by omega,by omega⟩
    unfold blankB
    simp
    omega
  split
  ·exact⟨45,_,rfl,by decide,by decide,by decide⟩
  ·exact dig _
 ·rw[txt_str h,encS_list];exact⟨34,_,rfl,by decide,by decide,by decide⟩
 ·rw[txt_arr h,app_list,app_list];exact⟨91,_,rfl,by decide,by decide,by decide⟩
 ·rw[txt_obj h,app_list,app_list];exact⟨123,_,rfl,by decide,by decide,by decide⟩
theorem skip_here {s:ByteArray}{i:Nat}{b:UInt8}{l:List UInt8}(h:Sub s i (b::l)) (hb:blankB b.toNat=false):skipB s i=i:=skip_stop (by rw[Sub.head h];exact hb)
theorem skip_txt {s:ByteArray}{i:Nat}{t:V}(ht:t.right) {l:List UInt8}(h:Sub s i (t.txt.data.toList++l)):skipB s i=i:=by
 obtain⟨b,r,e,hb,_⟩:=txt_first ht
 rw[e]at h
 exact skip_here (b:=b) (l:=r++l) h hb
theorem rest_first (obj:Bool) (ks:List ByteArray):∀(kids:List V),∃b l,tailL obj ks kids false=b::l∧blankB b.toNat=false∧digB b.toNat=false∧dotB b.toNat=false
 | []=>by
  cases obj with
  |false=>exact⟨93,_,rfl,by decide,by decide,by decide⟩
  |true=>exact⟨125,_,rfl,by decide,by decide,by decide⟩
 |x::r=>⟨44,_,rfl,by decide,by decide,by decide⟩
theorem many_read {s:ByteArray}{rd:Nat→Rd V}(obj:Bool):∀(kids:List V) (ks:List ByteArray) (n i:Nat) (first:Bool) (K:List ByteArray) (D:List V),Sub s i (tailL obj ks kids first)→s.size-i<n→(obj=true→ks.length=kids.length)→(obj=false→ks=[])→(∀k∈ks,okText k=true)→(∀x∈kids,x.right) →
  (∀x∈kids,∀j,Sub s j x.txt.data.toList→stopB s (j+x.txt.size)→rd j=.ok x (j+x.txt.size))→manyGo s rd obj n i first K D=.ok (if obj then objV (K++ks) (D++kids) else arrV (D++kids)) (i+(tailL obj ks kids first).length)
 |kids,ks,0,i,first,K,D,_,hn,_,_,_,_,_=>by omega
 | [],ks,n+1,i,first,K,D,h,hn,hl,hl0,_,_,_=>by
  have hks:ks=[]:=by
   cases obj with
   |true=>exact List.eq_nil_of_length_eq_zero (hl rfl)
   |false=>exact hl0 rfl
  subst hks
  have hb:bAt s i=(if obj then 125 else 93):=by
   have:=Sub.head (l:=[]) h
   rw[this]
   cases obj<;>rfl
  unfold manyGo
  rw[if_pos hb,List.append_nil,List.append_nil]
  rfl
 |x::r,ks,n+1,i,first,K,D,h,hn,hl,hl0,hks,hr,hrd=>by
  have hx:=hr x (List.mem_cons_self ..)
  obtain⟨b0,l0,e0,n0,n93,n125⟩:=txt_first hx
  -- the byte ahead of the element
  have hi:i<s.size:=by
   obtain⟨b,l,e⟩:∃b l,tailL obj ks (x::r) first=b::l:=by
    cases he:tailL obj ks (x::r) first with
    |nil =>
     have:=congrArg List.length he
     unfold tailL at this
     rw[e0]at this
     simp at this
    |cons b l=>exact⟨b,l,rfl⟩
   have:=Sub.size h (by rw[e];simp)
   rw[e]at this
   simp at this
   omega
  obtain⟨j,hj,hsub,hlen,hend,hcom⟩:∃j,(if first then i else skipB s (i+1))=j∧Sub s j (tailL obj ks (x::r) true)∧j+(tailL obj ks (x::r) true).length=i+(tailL obj ks (x::r) first).length∧bAt s i≠(if obj then 125 else 93)∧¬(first=false∧bAt s i≠44):=by
   have hne:∀j,Sub s j (tailL obj ks (x::r) true)→bAt s j≠(if obj then 125 else 93)∧blankB (bAt s j)=false:=by
    intro j hj
    cases obj with
    |true =>
     have h1:Sub s j ((encS (ks.headD ByteArray.empty)).data.toList++([58]++(x.txt.data.toList++tailL true ks.tail r false))):=by
      have:tailL true ks (x::r) true=(encS (ks.headD ByteArray.empty)).data.toList++([58]++(x.txt.data.toList++tailL true ks.tail r false)):=by simp[tailL]
      rw[this]at hj
      exact hj
     rw[encS_list]at h1
     have:=Sub.head (b:=34) (l:=_) h1
     rw[this]
     exact⟨by decide,by decide⟩
    |false =>
     have h1:Sub s j (x.txt.data.toList++tailL false ks.tail r false):=by
      have:tailL false ks (x::r) true=x.txt.data.toList++tailL false ks.tail r false:=by simp[tailL]
      rw[this]at hj
      exact hj
     rw[e0]at h1
     have:=Sub.head (b:=b0) (l:=_) h1
     rw[this]
     exact⟨n93,n0⟩
   cases first with
   |true=>exact⟨i,rfl,h,rfl,(hne i h).1,by simp⟩
   |false =>
    rw[tailL_next]at h
    have h1:=Sub.head h
    have h2:=Sub.tail h
    refine⟨i+1,skip_stop (hne _ h2).2,h2,?_,by rw[h1];cases obj<;>decide,by rw[h1];decide⟩
    rw[tailL_next,List.length_cons]
    omega
  unfold manyGo
  rw[if_neg hend,if_neg hcom,hj]
  obtain⟨k,e,hke,hxs,hkl,hkk⟩:∃k e,(if obj then keyR s j else .ok ByteArray.empty j)=.ok k e∧Sub s e (x.txt.data.toList++tailL obj ks.tail r false)∧e+x.txt.size+(tailL obj ks.tail r false).length=j+(tailL obj ks (x::r) true).length∧(obj=true→ks=k::ks.tail):=by
   cases obj with
   |false =>
    have h1:tailL false ks (x::r) true=x.txt.data.toList++tailL false ks.tail r false:=by simp[tailL]
    rw[h1]at hsub ⊢
    refine⟨_,j,rfl,hsub,?_,by simp⟩
    rw[List.length_append,len_list]
    omega
   |true =>
    have h1:tailL true ks (x::r) true=(encS (ks.headD ByteArray.empty)).data.toList++([58]++(x.txt.data.toList++tailL true ks.tail r false)):=by simp[tailL]
    rw[h1]at hsub ⊢
    have hl1:=hl rfl
    cases ks with
    |nil=>simp at hl1
    |cons k ks =>
     have hkr:=encS_read (Sub.left hsub) (hks k (List.mem_cons_self ..))
     have h2:=Sub.right hsub
     rw[len_list]at h2
     have h58:=Sub.head (b:=58) (l:=_) h2
     have h3:=Sub.tail (b:=58) (l:=_) h2
     refine⟨k,j+(encS k).size+1,?_,h3,?_,fun _=>rfl⟩
     ·show keyR s j=_
      unfold keyR
      have hs1:skipB s (j+(encS k).size)=j+(encS k).size:=skip_stop (by rw[show bAt s (j+(encS k).size)=(58:UInt8).toNat from h58];decide)
      rw[show strR s j=.ok k (j+(encS k).size) from hkr]
      show (if bAt s (skipB s (j+(encS k).size))≠58 then Rd.bad 5 (skipB s (j+(encS k).size)) else .ok k (skipB s (skipB s (j+(encS k).size)+1)))=_
      rw[hs1,if_neg (by rw[show bAt s (j+(encS k).size)=(58:UInt8).toNat from h58];decide),show skipB s (j+(encS k).size+1)=j+(encS k).size+1 from skip_txt hx h3]
     ·simp only[List.headD_cons,List.tail_cons,List.length_append,len_list,List.length_cons,List.length_nil]
      omega
  rw[hke]
  obtain⟨b1,l1,e1,m1,m2,m3⟩:=rest_first obj ks.tail r
  have hnx:=Sub.right hxs
  rw[len_list]at hnx
  have hnb:bAt s (e+x.txt.size)=b1.toNat:=by
   rw[e1]at hnx
   exact Sub.head hnx
  have hv:=hrd x (List.mem_cons_self ..) e (Sub.left hxs) ⟨by rw[hnb];exact m2,by rw[hnb];exact m3⟩
  show (match rd e with | .bad c p=>Rd.bad c p | .ok v e2=>manyGo s rd obj n (skipB s e2) false (if obj then K++[k] else K) (D++[v]))=_
  rw[hv]
  show manyGo s rd obj n (skipB s (e+x.txt.size)) false (if obj then K++[k] else K) (D++[x])=_
  rw[skip_stop (by rw[hnb];exact m1)]
  have hek:j≤e:=by
   cases obj with
   |false=>cases hke;exact Nat.le_refl _
   |true =>
    have hf:=keyR_fine (s:=s) (i:=j) (by
     have:=Sub.size hsub (by
      intro hnil
      have:=congrArg List.length hnil
      unfold tailL at this
      rw[e0]at this
      simp at this)
     omega)
    rw[show keyR s j=.ok k e from hke]at hf
    exact Nat.le_of_lt hf.1
  have hji:i≤j:=by
   cases first with
   |true=>rw[←hj];exact Nat.le_refl _
   |false =>
    have:=(skip_in (s:=s) (i:=i+1) (by omega)).1
    rw[←hj]
    show i≤skipB s (i+1)
    omega
  have hpos:0<x.txt.size:=by rw[←len_list,e0];simp
  have ih:=many_read (s:=s) (rd:=rd) obj r ks.tail n (e+x.txt.size) false (if obj then K++[k] else K) (D++[x]) hnx (by omega) (fun ho=>by have:=hl ho;rw[List.length_tail];simp at this;omega) (fun ho=>by rw[hl0 ho];rfl) (fun y hy=>hks y (List.mem_of_mem_tail hy)) (fun y hy=>hr y (List.mem_cons_of_mem _ hy)) (fun y hy=>hrd y (List.mem_cons_of_mem _ hy))
  rw[ih,hkl,hlen]
  congr 1
  cases obj with
  |false=>simp
  |true =>
   have:=hkk rfl
   simp only[if_true]
   rw[List.append_assoc,List.append_assoc]
   conv=>rhs;rw[this]
   rfl
theorem objV_own {t:V}(h:t.right) (h6:t.kind=6):objV t.keys t.kids=t:=by
 obtain⟨ua,_,hl⟩:=right_asc h h6
 have hu:Up (fsts (pairsV t)):=by rw[pairs_f hl];exact up_of ua
 have key:objV (fsts (pairsV t)) (snds (pairsV t))=ovV (pairsV t):=by
  unfold objV
  have e:objKeys (fsts (pairsV t))=fsts (pairsV t):=up_eq (objKeys_up _) hu fun y=>objKeys_mem
  rw[e]
  unfold ovV
  congr 1
  rw[show snds (pairsV t)=(pairsV t).map Prod.snd from rfl,show fsts (pairsV t)=(pairsV t).map Prod.fst from rfl,List.map_map]
  refine List.map_congr_left fun q hq=>?_
  obtain⟨y,v⟩:=q
  exact lastKid_mem hu hq
 rw[pairs_f hl,pairs_s hl]at key
 rw[key]
 exact (obj_eta h h6).symm
theorem leaf_eta {t:V}(h:t.right) (h5:t.kind≠5) (h6:t.kind≠6):t=.mk t.kind t.num t.text [] []:=by
 obtain⟨_,_,_,_,g1,g2⟩:=right_shape h.1
 have e1:=g1 h6
 have e2:=g2 h5 h6
 cases t with
 |mk k n s ks vs =>
  simp only[V.keys,V.kids]at e1 e2
  subst e1 e2
  rfl
theorem size_list {t:V}{l:List UInt8}(h:t.txt.data.toList=l):t.txt.size=l.length:=by rw[←len_list,h]
theorem val_read {s:ByteArray}:∀(k:Nat) (t:V) (i:Nat),t.right→t.depth≤k→Sub s i t.txt.data.toList→stopB s (i+t.txt.size)→valR k s i=.ok t (i+t.txt.size)
 | 0,t,i,_,hd,_,_=>by
  have:=depth_node t
  omega
 |k+1,t,i,ht,hd,h,hs=>by
  have hk:=right_kind ht
  obtain⟨b0,l0,e0,n0,n93,n125⟩:=txt_first ht
  have hi:i<s.size:=by
   have:=Sub.size h (by rw[e0];simp)
   rw[e0]at this
   simp at this
   omega
  obtain⟨_,_,w3,w4,w5,w6⟩:=right_shape ht.1
  have word:∀(l:List UInt8) (m:Int),t.txt.data.toList=l→t.kind=m→m≠3→m≠4→m≠5→m≠6→wordR s (kindV m) i (l.map UInt8.toNat) 0=.ok t (i+t.txt.size):=by
   intro l m hl hm g3 g4 g5 g6
   rw[hl]at h
   rw[word_read l 0 h,size_list hl]
   have:kindV m=t:=by
    rw[leaf_eta ht (by omega) (by omega),hm,w3 (by omega),w4 (by omega)]
    rfl
   rw[this]
   rfl
  have hcase:t.kind=0∨t.kind=1∨t.kind=2∨t.kind=3∨t.kind=4∨t.kind=5∨t.kind=6:=by omega
  unfold valR
  rw[if_neg (by omega)]
  rcases hcase with h0 | h0 | h0 | h0 | h0 | h0 | h0
  ·have hl:t.txt.data.toList=[110,117,108,108]:=by rw[txt_null h0];rfl
   have hb:bAt s i=110:=by rw[hl]at h;exact Sub.head h
   rw[if_pos hb]
   exact word _ 0 hl h0 (by decide) (by decide) (by decide) (by decide)
  ·have hl:t.txt.data.toList=[102,97,108,115,101]:=by rw[txt_false h0];rfl
   have hb:bAt s i=102:=by rw[hl]at h;exact Sub.head h
   rw[if_neg (by omega),if_pos hb]
   exact word _ 1 hl h0 (by decide) (by decide) (by decide) (by decide)
  ·have hl:t.txt.data.toList=[116,114,117,101]:=by rw[txt_true h0];rfl
   have hb:bAt s i=116:=by rw[hl]at h;exact Sub.head h
   rw[if_neg (by omega),if_neg (by omega),if_pos hb]
   exact word _ 2 hl h0 (by decide) (by decide) (by decide) (by decide)
  ·rw[txt_num h0]at h hs ⊢
   have hn:=right_num ht
   have hd:(numS t.num).data.toList=Lib.itoa t.num:=by simp[numS]
   have hb:bAt s i=45∨(48≤bAt s i∧bAt s i≤57):=by
    rw[hd]at h
    unfold Lib.itoa at h
    split at h
    ·exact .inl (Sub.head h)
    ·obtain⟨_,h2,_⟩:=decN_read t.num.toNat t.num.toNat (Nat.le_refl _) h
     have hp:1≤(Lib.decDigits t.num.toNat).length:=by rw[Lib.decDigits_length];exact Lib.nDigits_pos _
     exact .inr (dig_lt (h2 i (Nat.le_refl _) (by omega)))
   rw[if_neg (by omega),if_neg (by omega),if_neg (by omega),if_neg (by omega),if_neg (by omega),if_neg (by omega),num_read hn h hs]
   have:numV t.num=t:=by
    rw[leaf_eta ht (by omega) (by omega),h0,w4 (by omega)]
    rfl
   show Rd.ok (numV t.num) _=_
   rw[this]
  ·rw[txt_str h0]at h ⊢
   have hb:bAt s i=34:=by rw[encS_list]at h;exact Sub.head h
   rw[if_neg (by omega),if_neg (by omega),if_neg (by omega),if_neg (by omega),if_neg (by omega),if_pos hb,encS_read h (right_text ht)]
   have:strV t.text=t:=by
    rw[leaf_eta ht (by omega) (by omega),h0,w3 (by omega)]
    rfl
   show Rd.ok (strV t.text) _=_
   rw[this]
  ·have hl:t.txt.data.toList=91::tailL false [] t.kids true:=by
    rw[txt_arr h0,app_list,app_list,List.append_assoc]
    have:=rest_list (kind:=t.kind) (obj:=false) ⟨fun h=>Bool.noConfusion h,fun h=>absurd h (by omega)⟩ t.kids t.keys
    rw[w5 (by omega)]at this
    show [91]++_=_
    rw[show t.parts=partsT t.kind [] t.kids by unfold V.parts;rw[w5 (by omega)]]
    rw[←this]
    rfl
   rw[hl]at h
   have hb:bAt s i=91:=Sub.head h
   have hdn:=depth_node t
   have h1:=Sub.tail h
   have hsk:skipB s (i+1)=i+1:=by
    cases hkk:t.kids with
    |nil=>rw[hkk]at h1;exact skip_here (b:=93) (l:=[]) h1 (by decide)
    |cons x r =>
     rw[hkk]at h1
     have:tailL false [] (x::r) true=x.txt.data.toList++tailL false [] r false:=by simp[tailL]
     rw[this]at h1
     exact skip_txt (right_mem ht (by rw[hkk];simp)) h1
   rw[if_neg (by omega),if_neg (by omega),if_neg (by omega),if_pos hb,hsk]
   rw[many_read (s:=s) (rd:=valR k s) false t.kids [] (s.size+1) (i+1) true [] [] h1 (by omega) (fun h=>by cases h) (fun _=>rfl) (by simp) (fun x hx=>right_mem ht hx) (fun x hx j g1 g2=>val_read k x j (right_mem ht hx) (by have:=depthL_mem hx;omega) g1 g2)]
   rw[size_list hl]
   simp only[Bool.false_eq_true,if_false,List.nil_append,List.length_cons]
   rw[←arr_eta ht.1 h0]
   congr 1
   omega
  ·obtain⟨ua,ta,la⟩:=right_asc ht h0
   have hl:t.txt.data.toList=123::tailL true t.keys t.kids true:=by
    rw[txt_obj h0,app_list,app_list,List.append_assoc]
    have:=rest_list (kind:=t.kind) (obj:=true) ⟨fun _=>h0,fun _=>rfl⟩ t.kids t.keys
    rw[←this]
    rfl
   rw[hl]at h
   have hb:bAt s i=123:=Sub.head h
   have hdn:=depth_node t
   have h1:=Sub.tail h
   have hsk:skipB s (i+1)=i+1:=by
    cases hkk:t.kids with
    |nil=>rw[hkk]at h1;exact skip_here (b:=125) (l:=[]) h1 (by decide)
    |cons x r =>
     rw[hkk]at h1
     have:tailL true t.keys (x::r) true=(encS (t.keys.headD ByteArray.empty)).data.toList++([58]++(x.txt.data.toList++tailL true t.keys.tail r false)):=by simp[tailL]
     rw[this,encS_list]at h1
     exact skip_here (b:=34) (l:=_) h1 (by decide)
   rw[if_neg (by omega),if_neg (by omega),if_neg (by omega),if_neg (by omega),if_pos hb,hsk]
   rw[many_read (s:=s) (rd:=valR k s) true t.kids t.keys (s.size+1) (i+1) true [] [] h1 (by omega) (fun _=>la) (fun h=>by cases h) ta (fun x hx=>right_mem ht hx) (fun x hx j g1 g2=>val_read k x j (right_mem ht hx) (by have:=depthL_mem hx;omega) g1 g2)]
   rw[size_list hl]
   simp only[if_true,List.nil_append,List.length_cons]
   rw[objV_own ht h0]
   congr 1
   omega
theorem decode_read {s:ByteArray}{t:V}{i:Nat}(ht:t.right) (hz:s.size≤4000) (hi:skipB s 0=i) (h:Sub s i t.txt.data.toList) (hs:stopB s (i+t.txt.size)) (he:skipB s (i+t.txt.size)=s.size):decodeR s=((0,0),some t):=by
 have hc:=ht.2.1
 unfold decodeR
 rw[if_neg (by omega),hi,val_read 20 t i ht ht.2.2 h hs]
 show (if skipB s (i+t.txt.size)<s.size then ((5,skipB s (i+t.txt.size)),none) else if 200<t.count then ((2,0),none) else ((0,0),some t))=_
 rw[he,if_neg (by omega),if_neg (by omega)]
theorem decode_own {t:V}(ht:t.right) (hz:t.txt.size≤4000):decodeR t.txt=((0,0),some t):=by
 have hend:∀e,e=t.txt.size→bAt t.txt e=256:=fun e he=>bAt_end (by omega)
 have h0:=sub_all t.txt
 have h0':Sub t.txt 0 (t.txt.data.toList++[]):=by rw[List.append_nil];exact h0
 refine decode_read ht hz (skip_txt ht h0') h0 ⟨by rw[hend _ (by omega)];decide,by rw[hend _ (by omega)];decide⟩ ?_
 rw[Nat.zero_add]
 exact skip_stop (by rw[hend _ rfl];decide)
end Go.Proofs.YtlciedpfjhkkdaaGreatDoor
