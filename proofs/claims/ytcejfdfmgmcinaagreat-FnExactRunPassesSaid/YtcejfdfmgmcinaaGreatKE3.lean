/- Texts of this proof: E16 E17. -/
import Derived.Test.YtcejfdfmgmcinaaGreatKE2
set_option linter.all false
namespace Go.Proofs.YtcejfdfmgmcinaaGreat
section
open Go.RowKit
section
variable {P:Program} {x:List Id} {ops:Array Oper} {r:List Oper} {o:Oper} {σ τ:ASt} {fs:List AEff} {K:ASt→List AEff→Prop} {E:AEff} {Q:X→ASt→Prop}
theorem a2v (hg:CJ ops σ o=some true) (he:eff P σ.ev σ.mem.get (σ.fresh o) o=some E) (hτ:σ.upd o.dst E=τ) (h:Ay P ops r τ (fs++[E]) K):Ay P ops (o::r) σ fs K:=by
 unfold Ay
 rw[hg]
 refine⟨fun _=>?_,fun e=>by cases e⟩
 subst hτ
 exact⟨E,(PD he).sound,h⟩
theorem a2u (hg:CJ ops σ o=some false) (hτ:σ.upd o.dst JR=τ) (h:Ay P ops r τ (fs++[JR]) K):Ay P ops (o::r) σ fs K:=by
 unfold Ay
 rw[hg]
 refine⟨fun e=>(by cases e),fun _=>?_⟩
 subst hτ
 exact h
theorem Od (hg:CJ ops σ o=some true) (hs:FG P o σ E) (hτ:σ.upd o.dst E=τ) (h:Ay P ops r τ (fs++[E]) K):Ay P ops (o::r) σ fs K:=by
 unfold Ay
 rw[hg]
 refine⟨fun _=>?_,fun e=>by cases e⟩
 subst hτ
 exact⟨E,hs,h⟩
theorem Ca (hg:CJ ops σ o=some true) (_:eff P σ.ev σ.mem.get (σ.fresh o) o=none) (hs:FG P o σ E) (hτ:σ.upd o.dst E=τ) (h:Ay P ops r τ (fs++[E]) K):Ay P ops (o::r) σ fs K :=
 Od hg hs hτ h
theorem Jm {d:Option Tmp}{fv:Operand}{args:Array Operand}{tys:Array TypeId}{ty:TypeId}{pos:String}{af:Array Edge}{gd:Option (Nat×Bool)}{ρ:Id→Option Id}{bw:List Id}{fz:List (Id×AO)}{cl:Bool}{ρ':Id→Id}{m:Mem}{res:AV}{m':Mem}{f:FuncId}{caps cargs:List AV}
  (hac:AC P f cargs m res m') (hg:CJ ops σ ⟨d,.call ⟨.value fv,args,tys⟩,ty,pos,af,gd⟩=some true) (hv:σ.ev fv=.clo f caps) (hc:A7 P f=true)
  (hm:BL ρ σ.mem bw cargs (args.toList.map σ.ev++caps)) (hrefs:D3 m cargs=true) (hf:Fits σ ρ bw fz cl ρ' m res m')
  (hτ:σ.upd d (Bl ρ bw fz ρ' m res m')=τ) (h:Ay P ops r τ (fs++[Bl ρ bw fz ρ' m res m']) K):Ay P ops (⟨d,.call ⟨.value fv,args,tys⟩,ty,pos,af,gd⟩::r) σ fs K :=
 Ca hg rfl (N8 rfl hv hc hac hm hrefs hf) hτ h
theorem Fits.data {bw:List Id}{res:AV}(h:res.closed=true) (_:bw=bw):Fits σ (fun _=>none) bw [] true id [] res [] :=
 ⟨⟨by simp,by simp,by simp,by simp,by simp⟩,by simp,by simp,by simp,by simp,by simp,by simp,by simp,by simp,fun _=>⟨h,by simp⟩⟩
theorem A3 {d:Option Tmp}{fv:Operand}{args:Array Operand}{tys:Array TypeId}{ty:TypeId}{pos:String}{af:Array Edge}{gd:Option (Nat×Bool)}(bw:List Id) {res:AV}{f:FuncId}{caps cargs:List AV}
  (hac:AC P f cargs [] res []) (hg:CJ ops σ ⟨d,.call ⟨.value fv,args,tys⟩,ty,pos,af,gd⟩=some true) (hv:σ.ev fv=.clo f caps) (hc:A7 P f=true)
  (hm:BL (fun _=>none) σ.mem bw cargs (args.toList.map σ.ev++caps)) (hrefs:D3 [] cargs=true) (hcl:res.closed=true)
  (hτ:σ.upd d ⟨bw,[],res.ren id⟩=τ) (h:Ay P ops r τ (fs++[⟨bw,[],res.ren id⟩]) K):Ay P ops (⟨d,.call ⟨.value fv,args,tys⟩,ty,pos,af,gd⟩::r) σ fs K :=
 Jm hac hg hv hc hm hrefs (Fits.data hcl rfl) hτ h
def Mj (n:Mem) (bw:List Id):List (Id×AO):=bw.filterMap fun j=>(Gu n bw (.own j)).map fun rows=>(j,.frz rows)
theorem Fits.shared {bw:List Id}{res:AV}{fz:List (Id×AO)}(hfz:Mj σ.mem bw=fz) (hids:fz.map (·.1)=bw) (hnd:bw.Nodup):Fits σ (fun _=>none) bw fz false id [] res []:=by
 subst hfz
 refine⟨⟨by simp,by simp,by simp,by simp,by simp⟩,by simp,by simp,by simp,by simp,by simp,fun p hp=>?_,fun _ j hj=>by rw[hids];exact hj,by rw[hids];exact hnd,fun h=>by cases h⟩
 unfold Mj at hp
 simp only[List.mem_filterMap,Option.map_eq_some_iff]at hp
 obtain⟨j,hj,rows,hr,rfl⟩:=hp
 exact⟨hj,rows,rfl,hr⟩
theorem A4 {d:Option Tmp}{fv:Operand}{args:Array Operand}{tys:Array TypeId}{ty:TypeId}{pos:String}{af:Array Edge}{gd:Option (Nat×Bool)}(bw:List Id) {fz:List (Id×AO)}{res:AV}{f:FuncId}{caps cargs:List AV}
  (hac:AC P f cargs [] res []) (hg:CJ ops σ ⟨d,.call ⟨.value fv,args,tys⟩,ty,pos,af,gd⟩=some true) (hv:σ.ev fv=.clo f caps) (hc:A7 P f=true)
  (hm:BL (fun _=>none) σ.mem bw cargs (args.toList.map σ.ev++caps)) (hrefs:D3 [] cargs=true) (hfz:Mj σ.mem bw=fz) (hids:fz.map (·.1)=bw) (hnd:bw.Nodup)
  (hτ:σ.upd d ⟨bw,fz++[],res.ren id⟩=τ) (h:Ay P ops r τ (fs++[⟨bw,fz++[],res.ren id⟩]) K):Ay P ops (⟨d,.call ⟨.value fv,args,tys⟩,ty,pos,af,gd⟩::r) σ fs K :=
 Jm hac hg hv hc hm hrefs (Fits.shared hfz hids hnd) hτ h
theorem Fits.row {bw:List Id}{i fr:Id}{o:AO}{fz:List (Id×AO)}{cl:Bool}{res:AV}(hf:σ.mem.get fr=none) (hl:o.live=true) (hfz:(if cl then [] else Mj σ.mem bw)=fz) (hids:cl=false→fz.map (·.1)=bw) (hnd:bw.Nodup) (hcl:cl=true→res.closed=true∧o.closed=true):Fits σ (fun _=>none) bw fz cl (fun _=>fr) [] res [(i,o)]:=by
 refine⟨⟨by simp,by simp,by simp,by simp,by simp⟩,by simp,by simp,by simp,by simpa using hl,fun p hp=>?_,fun p hp=>?_,fun h j hj=>by rw[hids h];exact hj,?_,fun h=>⟨(hcl h).1,by simpa using (hcl h).2⟩⟩
 ·have:p=(i,o):=by simpa using hp
  subst this
  exact .inr ⟨rfl,hf⟩
 ·cases cl with
  |true=>simp only[if_true]at hfz;subst hfz;simp at hp
  |false =>
   simp only[Bool.false_eq_true,if_false]at hfz
   subst hfz
   unfold Mj at hp
   simp only[List.mem_filterMap,Option.map_eq_some_iff]at hp
   obtain⟨j,hj,rows,hr,rfl⟩:=hp
   exact⟨hj,rows,rfl,hr⟩
 ·cases cl with
  |true=>simp only[if_true]at hfz;subst hfz;simp
  |false=>rw[hids rfl];exact hnd
theorem a0j (cl:Bool) {d:Option Tmp}{fv:Operand}{args:Array Operand}{tys:Array TypeId}{ty:TypeId}{pos:String}{af:Array Edge}{gd:Option (Nat×Bool)}(bw:List Id) {fz:List (Id×AO)}{res:AV}{i:Id}{ob:AO}{f:FuncId}{caps cargs:List AV}
  (hac:AC P f cargs [] res [(i,ob)]) (hg:CJ ops σ ⟨d,.call ⟨.value fv,args,tys⟩,ty,pos,af,gd⟩=some true) (hv:σ.ev fv=.clo f caps) (hc:A7 P f=true)
  (hm:BL (fun _=>none) σ.mem bw cargs (args.toList.map σ.ev++caps)) (hrefs:D3 [] cargs=true) (hfr:σ.mem.get (σ.fresh ⟨d,.call ⟨.value fv,args,tys⟩,ty,pos,af,gd⟩)=none) (hl:ob.live=true)
  (hfz:(if cl then [] else Mj σ.mem bw)=fz) (hids:cl=false→fz.map (·.1)=bw) (hnd:bw.Nodup) (hcl:cl=true→res.closed=true∧ob.closed=true) (he:(⟨bw,fz++[(σ.fresh ⟨d,.call ⟨.value fv,args,tys⟩,ty,pos,af,gd⟩,ob.ren fun _=>σ.fresh ⟨d,.call ⟨.value fv,args,tys⟩,ty,pos,af,gd⟩)],res.ren fun _=>σ.fresh ⟨d,.call ⟨.value fv,args,tys⟩,ty,pos,af,gd⟩⟩:AEff)=E)
  (hτ:σ.upd d E=τ) (h:Ay P ops r τ (fs++[E]) K):Ay P ops (⟨d,.call ⟨.value fv,args,tys⟩,ty,pos,af,gd⟩::r) σ fs K:=by
 subst he
 exact Jm hac hg hv hc hm hrefs (Fits.row (i:=i) hfr hl hfz hids hnd hcl) hτ h
theorem Pm {a b:Code}(h:awp P x a (fun e τ=>match e with
  | .normal=>awp P x b Q τ
  |e=>Q e τ) σ):awp P x (.seq a b) Q σ:=h
theorem CV {id:Nat}{l:List Oper}(h:Ay P l.toArray l σ [] fun τ _=>Q .normal τ):awp P x (.region id l.toArray false) Q σ:=by
 unfold awp
 have mono:∀(r:List Oper) (σ:ASt) (fs:List AEff),Ay P l.toArray r σ fs (fun τ _=>Q .normal τ)→Ay P l.toArray r σ fs (fun τ es=>(false=true→Iu l.toArray es=true∧GG l.toArray=true)∧Q .normal τ):=by
  intro r
  induction r with
  |nil=>intro σ fs h;exact⟨fun e=>(by cases e),h⟩
  |cons o r ih =>
   intro σ fs h
   unfold Ay at h ⊢
   cases hg:CJ l.toArray σ o with
   |none=>rw[hg]at h;exact h
   |some g =>
    rw[hg]at h
    refine⟨fun e=>?_,fun e=>ih _ _ (h.2 e)⟩
    have:=h.1 e
    obtain⟨E,h1,h2⟩:=this
    exact⟨E,h1,ih _ _ h2⟩
 exact .inl (mono _ _ _ h)
theorem Lz {id:Nat}{l:List Oper}(hord:GG l.toArray=true) (h:Ay P l.toArray l σ [] fun τ es=>Iu l.toArray es=true∧Q .normal τ):awp P x (.region id l.toArray true) Q σ:=by
 unfold awp
 have mono:∀(r:List Oper) (σ:ASt) (fs:List AEff),Ay P l.toArray r σ fs (fun τ es=>Iu l.toArray es=true∧Q .normal τ)→Ay P l.toArray r σ fs (fun τ es=>(true=true→Iu l.toArray es=true∧GG l.toArray=true)∧Q .normal τ):=by
  intro r
  induction r with
  |nil=>intro σ fs h;exact⟨fun _=>⟨h.1,hord⟩,h.2⟩
  |cons o r ih =>
   intro σ fs h
   unfold Ay at h ⊢
   cases hg:CJ l.toArray σ o with
   |none=>rw[hg]at h;exact h
   |some g =>
    rw[hg]at h
    refine⟨fun e=>?_,fun e=>ih _ _ (h.2 e)⟩
    have:=h.1 e
    obtain⟨E,h1,h2⟩:=this
    exact⟨E,h1,ih _ _ h2⟩
 exact .inl (mono _ _ _ h)
theorem FR {id:Nat}{l:List Oper}(h:EZ P l σ fun τ=>Q .normal τ):awp P x (.region id l.toArray false) Q σ:=by
 unfold awp
 exact .inr ⟨rfl,h⟩
theorem JO {K:ASt→Prop}(h:K σ):EZ P [] σ K:=h
theorem Tr {K:ASt→Prop}{d:Option Tmp}{op:Op}{ty:TypeId}{pos:String}{af:Array Edge}{r:List Oper}(h:G3 P ⟨d,op,ty,pos,af,none⟩ σ fun τ=>EZ P r τ K):EZ P (⟨d,op,ty,pos,af,none⟩::r) σ K:=⟨rfl,h⟩
theorem G3.of {o:Oper}{E:AEff}{K:ASt→Prop}(h:FG P o σ E) (hK:K (σ.upd o.dst E)):G3 P o σ K :=
 fun Γ a w hr KK QQ hk=>h Γ σ a w (Gy.refl _ _ _) hr _ _ fun a' w' h'=>hk a' w' _ h' hK
theorem Q4 (h:K σ fs):Ay P ops [] σ fs K:=h
theorem Zy {c:Operand}{a b:Code}{t:Bool}(ht:σ.ev c=.c (.bool t)) (h1:t=true→awp P x a Q σ) (h2:t=false→awp P x b Q σ):awp P x (.cond c a b) Q σ:=by
 unfold awp
 rw[ht]
 exact⟨h1,h2⟩
theorem a3u {c:Operand}{a b:Code}(ht:σ.ev c=.c (.bool true)) (h1:awp P x a Q σ):awp P x (.cond c a b) Q σ:=Zy ht (fun _=>h1) fun e=>by cases e
theorem a1s {c:Operand}{a b:Code}(ht:σ.ev c=.c (.bool false)) (h1:awp P x b Q σ):awp P x (.cond c a b) Q σ:=Zy ht (fun e=>by cases e) fun _=>h1
theorem J3 {id:Nat}{c:Code}(h:awp P x c (fun e τ=>match e with
  | .exit i=>if i=id then Q .normal τ else Q (.exit i) τ
  |e=>Q e τ) σ):awp P x (.block id c) Q σ:=h
theorem Ar {c:Code}{κ:Type}(st:κ→ASt) (I:κ→Prop) (μ:κ→Nat) (k0:κ) (h0:I k0) (hs:Aj x (st k0) σ) (h:∀k,I k→awp P x c (fun e τ=>match e with
  | .normal=>∃k',μ k' < μ k∧I k'∧Aj x (st k') τ
  |e=>Q e τ) (st k)):awp P x (.loop c) Q σ:=by
 refine⟨fun n τ=>∃k,I k∧τ=st k∧n = μ k,⟨μ k0,st k0,⟨k0,h0,rfl,rfl⟩,hs⟩,?_⟩
 rintro n τ ⟨k,hI,rfl,rfl⟩
 have mono:∀(c:Code) (Q Q':X→ASt→Prop) (σ:ASt),(∀e τ,Q e τ→Q' e τ)→awp P x c Q σ→awp P x c Q' σ:=by
  intro c
  induction c with
  |skip=>intro Q Q' σ h g;exact h _ _ g
  |label _=>intro Q Q' σ h g;exact h _ _ g
  |region id ops d =>
   intro Q Q' σ h g
   unfold awp at g ⊢
   have m2:∀(r:List Oper) (σ:ASt) (fs:List AEff),Ay P ops r σ fs (fun τ es=>(d=true→Iu ops es=true∧GG ops=true)∧Q .normal τ)→Ay P ops r σ fs (fun τ es=>(d=true→Iu ops es=true∧GG ops=true)∧Q' .normal τ):=by
    intro r
    induction r with
    |nil=>intro σ fs h';exact⟨h'.1,h _ _ h'.2⟩
    |cons o r ih =>
     intro σ fs h'
     unfold Ay at h' ⊢
     cases hg:CJ ops σ o with
     |none=>rw[hg]at h';exact h'
     |some gg =>
      rw[hg]at h'
      refine⟨fun e=>?_,fun e=>ih _ _ (h'.2 e)⟩
      have:=h'.1 e
      obtain⟨E,h1,h2⟩:=this
      exact⟨E,h1,ih _ _ h2⟩
   rcases g with g | ⟨hd,g⟩
   ·exact .inl (m2 _ _ _ g)
   ·refine .inr ⟨hd,?_⟩
    have m3:∀(r:List Oper) (σ:ASt),EZ P r σ (fun τ=>Q .normal τ)→EZ P r σ (fun τ=>Q' .normal τ):=by
     intro r
     induction r with
     |nil=>intro σ h';exact h _ _ h'
     |cons o r ih =>
      intro σ h'
      exact⟨h'.1,fun Γ a w hr KK QQ hk=>h'.2 Γ a w hr KK QQ fun a' w' τ hr' hK=>hk a' w' τ hr' (ih τ hK)⟩
    exact m3 _ _ g
  |seq a b iha ihb =>
   intro Q Q' σ h g
   refine iha _ _ σ ?_ g
   intro e τ hq
   cases e with
   |normal=>exact ihb _ _ τ h hq
   |exit i=>exact h _ _ hq
   |ret=>exact h _ _ hq
  |cond c a b iha ihb =>
   intro Q Q' σ h g
   unfold awp at g ⊢
   split at g
   ·exact⟨fun e=>iha _ _ σ h (g.1 e),fun e=>ihb _ _ σ h (g.2 e)⟩
   ·exact g
  |block id c ih =>
   intro Q Q' σ h g
   refine ih _ _ σ ?_ g
   intro e τ hq
   cases e with
   |normal=>exact h _ _ hq
   |exit i =>
    simp only at hq ⊢
    split
    ·rename_i he;rw[if_pos he]at hq;exact h _ _ hq
    ·rename_i he;rw[if_neg he]at hq;exact h _ _ hq
   |ret=>exact h _ _ hq
  |loop c ih =>
   intro Q Q' σ h g
   obtain⟨I,h1,h2⟩:=g
   refine⟨I,h1,fun n τ hI=>ih _ _ τ ?_ (h2 n τ hI)⟩
   intro e τ' hq
   cases e with
   |normal=>exact hq
   |exit i=>exact h _ _ hq
   |ret=>exact h _ _ hq
  |exit id=>intro Q Q' σ h g;exact h _ _ g
  |ret=>intro Q Q' σ h g;exact h _ _ g
  |scope c ih=>intro Q Q' σ h g;exact ih _ _ σ h g
  |goto _=>intro Q Q' σ h g;exact g
  |refuse _=>intro Q Q' σ h g;exact g
  |rangeFunc _ _ _ _=>intro Q Q' σ h g;exact g
 refine mono c _ _ _ ?_ (h k hI)
 intro e τ hq
 cases e with
 |normal =>
  obtain⟨k',h1,h2,h3⟩:=hq
  exact⟨μ k',st k',h1,⟨k',h2,rfl,rfl⟩,h3⟩
 |exit i=>exact hq
 |ret=>exact hq
end
end
section
open Go.RowKit
theorem a2c (j:Id):Mem.get [] j=none:=by
 unfold Mem.get
 simp
theorem i9 (i:Id) (o:AO) (m:Mem) (j:Id):Mem.get ((i,o)::m) j=if j=i then some o else Mem.get m j:=by
 simp only[Mem.get,List.lookup_cons]
 by_cases h:j=i
 ·simp[h]
 ·have:(j==i)=false:=by simpa using h
  simp[this,h]
theorem a0u (i:Id) (o:AO) (m:Mem) (j:Id) (p:AO):Mem.put ((i,o)::m) j p=if i=j then (i,p)::m else (i,o)::Mem.put m j p:=by
 simp only[Mem.put]
 by_cases h:i=j
 ·simp[h]
 ·have:(i==j)=false:=by simpa using h
  simp[h]
def sp (n:Nat) (u:List (Nat×AV)):List AV :=
 match u with
 | []=>List.replicate n .undef
 |p::r=>(sp n r).set p.1 p.2
termination_by u.length
theorem OD (n:Nat):sp n []=List.replicate n .undef:=by unfold sp;rfl
theorem Ij (n:Nat) (p:Nat×AV) (u:List (Nat×AV)):sp n (p::u)=(sp n u).set p.1 p.2:=by rw[sp]
theorem OC (n:Nat):∀(u:List (Nat×AV)),(sp n u).length=n
 | []=>by rw[OD,List.length_replicate]
 |p::u=>by rw[Ij,List.length_set,OC n u]
theorem a08 {n d:Nat}(v:AV) (u:List (Nat×AV)) (m:Mem) (h:d<n):(⟨sp n ((d,v)::u),m⟩:ASt).slot d=v:=by
 show (sp n ((d,v)::u)).getD d .undef=v
 rw[Ij,List.getD_eq_getElem?_getD,List.getElem?_set_self (by rw[OC];exact h)]
 rfl
theorem Zb {n d t:Nat}(v:AV) (u:List (Nat×AV)) (m:Mem) (h:(t==d)=false):(⟨sp n ((d,v)::u),m⟩:ASt).slot t=(⟨sp n u,m⟩:ASt).slot t:=by
 show (sp n ((d,v)::u)).getD t .undef=(sp n u).getD t .undef
 rw[Ij,List.getD_eq_getElem?_getD,List.getD_eq_getElem?_getD,List.getElem?_set_ne (fun e:d=t=>by rw[e]at h;simp at h)]
theorem Zc {n t:Nat}(m:Mem):(⟨sp n [],m⟩:ASt).slot t=.undef:=by
 show (sp n []).getD t .undef=.undef
 rw[OD,List.getD_eq_getElem?_getD,List.getElem?_replicate]
 split<;>rfl
def JW:Nat→List AV→List (Nat×AV)
 |_,[]=>[]
 |t,a::r=>(t,a)::JW (t+1) r
theorem X7 (n:Nat):∀(l:List AV) (t:Nat) (i:Nat),t+l.length≤n→(sp n (JW t l)).getD i .undef=if t≤i then l.getD (i-t) .undef else .undef
 | [],t,i,_=>by
  show (sp n []).getD i .undef=_
  rw[OD,List.getD_eq_getElem?_getD,List.getElem?_replicate]
  split<;>split<;>simp
 |a::l,t,i,h=>by
  have h':t+1+l.length≤n:=by simp only[List.length_cons]at h;omega
  show (sp n ((t,a)::JW (t+1) l)).getD i .undef=_
  rw[Ij]
  by_cases hi:i=t
  ·subst hi
   rw[List.getD_eq_getElem?_getD,List.getElem?_set_self (by rw[OC];omega),if_pos (Nat.le_refl _),Nat.sub_self]
   rfl
  ·rw[List.getD_eq_getElem?_getD,List.getElem?_set_ne (fun e=>hi e.symm),←List.getD_eq_getElem?_getD,X7 n l (t+1) i h']
   by_cases h2:t≤i
   ·rw[if_pos (by omega),if_pos h2,show i-t=(i-(t+1))+1 by omega]
    rfl
   ·rw[if_neg (by omega),if_neg h2]
theorem a1a {n:Nat}{args:List AV}(h:args.length≤n):args++List.replicate (n-args.length) .undef=sp n (JW 0 args):=by
 apply List.ext_getElem
 ·rw[OC,List.length_append,List.length_replicate];omega
 ·intro i h1 h2
  have h3:=X7 n args 0 i (by omega)
  rw[if_pos (Nat.zero_le _),Nat.sub_zero,List.getD_eq_getElem?_getD,List.getElem?_eq_getElem h2,Option.getD_some]at h3
  rw[h3]
  by_cases hi:i<args.length
  ·rw[List.getElem_append_left hi,List.getD_eq_getElem?_getD,List.getElem?_eq_getElem hi,Option.getD_some]
  ·rw[List.getElem_append_right (by omega),List.getElem_replicate,List.getD_eq_getElem?_getD,List.getElem?_eq_none (by omega),Option.getD_none]
theorem AC.intro_sp {P:Program}{f:FuncId}{fn:Func}{c:Code}{args:List AV}{m:Mem}{res:AV}{m':Mem}{n:Nat}(hm:P.follows .mixedOrders=true) (hf:P.funcs[f]? = some fn) (hb:fn.body=some c) (hn:fn.ntmps=n) (hl:args.length≤n)
  (h:awp P (m.map (·.1)) c (fun e σ=>match e with
   | .exit _=>False
   |_=>Fe P fn m res m' σ) ⟨sp n (JW 0 args),m⟩):AC P f args m res m':=by
 refine AC.intro hm hf hb ?_
 rw[hn,a1a hl]
 exact h
theorem a4y (l:List AV) (m:Mem):(⟨l,m⟩:ASt).mem=m:=rfl
theorem Sh:(⟨#[]⟩:ByteArray)=ByteArray.empty:=rfl
theorem a4g (σ:ASt) (t:Nat):σ.ev (.tmp t)=σ.slot t:=rfl
theorem a15 (σ:ASt) (f:FuncId):σ.ev (.func f)=.clo f []:=rfl
theorem a4e (σ:ASt) (k:IntKind) (n:Int):σ.ev (.const (.int k n))=.c (.int k n):=rfl
theorem a14 (σ:ASt) (b:Bool):σ.ev (.const (.bool b))=.c (.bool b):=rfl
theorem a4f (σ:ASt) (s:ByteArray):σ.ev (.const (.string s))=.c (.str s):=rfl
theorem a16 (σ:ASt):σ.ev (.const (.slice none 0 0))=.nils:=rfl
theorem a4d (σ:ASt) (cs:Array Value):σ.ev (.const (.agg cs))=if Tw (.agg cs) then vA (.agg cs) else .undef:=rfl
theorem a0v (m:Mem):m.puts []=m:=rfl
theorem YP (m:Mem) (p:Id×AO) (l:List (Id×AO)):m.puts (p::l)=Mem.puts (m.put p.1 p.2) l:=rfl
theorem a20 (i:Id) (o:AO):Mem.put [] i o=[(i,o)]:=rfl
theorem a1m (n:Nat) (u:List (Nat×AV)) (m:Mem) (d:Nat) (E:AEff):(⟨sp n u,m⟩:ASt).upd (some d) E=⟨sp n ((d,E.val)::u),m.puts E.wr⟩:=by rw[Ij];rfl
theorem a1l (l:List AV) (m:Mem) (E:AEff):(⟨l,m⟩:ASt).upd none E=⟨l,m.puts E.wr⟩:=rfl
theorem UQ (σ:ASt) (d:Nat) (op:Op) (ty:TypeId) (pos:String) (af:Array Edge) (g:Option (Nat×Bool)):σ.fresh ⟨some d,op,ty,pos,af,g⟩=(d,I0 σ.mem d 40 0):=rfl
theorem UP (σ:ASt) (op:Op) (ty:TypeId) (pos:String) (af:Array Edge) (g:Option (Nat×Bool)):σ.fresh ⟨none,op,ty,pos,af,g⟩=(0,I0 σ.mem 0 40 0):=rfl
theorem a0z (a:List C) (r:List (List C)) (es:Nat):A8 (a::r) es 0=(a.length==es):=by simp[A8]
theorem a00 (a b:List C) (r:List (List C)) (es:Nat):A8 (a::b::r) es 1=(b.length==es):=by simp[A8]
theorem a01 (a b c:List C) (r:List (List C)) (es:Nat):A8 (a::b::c::r) es 2=(c.length==es):=by simp[A8]
theorem SN {m:Mem}{d k n:Nat}(h:m.get (d,k)=none):I0 m d n k=k:=by
 cases n with
 |zero=>rfl
 |succ n=>unfold I0;rw[h]
theorem SO {m:Mem}{d k n:Nat}(h:(m.get (d,k)).isSome=true) (hn:(n==0)=false):I0 m d n k=I0 m d (n-1) (k+1):=by
 cases n with
 |zero=>simp at hn
 |succ n =>
  obtain⟨o,ho⟩:=Option.isSome_iff_exists.1 h
  rw[I0,ho]
  rfl
theorem Pk {P:Program}{x:List Id}{Q:X→ASt→Prop}{σ:ASt}(h:Q .ret σ):awp P x .ret Q σ:=h
theorem LA {P:Program}{x:List Id}{Q:X→ASt→Prop}{σ:ASt}{id:Nat}(h:Q (.exit id) σ):awp P x (.exit id) Q σ:=h
theorem LB {P:Program}{x:List Id}{Q:X→ASt→Prop}{σ:ASt}(h:Q .normal σ):awp P x .skip Q σ:=h
theorem J4 {P:Program}{x:List Id}{Q:X→ASt→Prop}{σ:ASt}{l:Nat}(h:Q .normal σ):awp P x (.label l) Q σ:=h
theorem J5 {P:Program}{x:List Id}{Q:X→ASt→Prop}{σ:ASt}{c:Code}(h:awp P x c Q σ):awp P x (.scope c) Q σ:=h
theorem A5 {P:Program}{fn:Func}{m:Mem}{res r:AV}{σ:ASt}(bw:List Id) (h:Qd P σ fn.results.toList=some r) (hm:Mat (fun _=>none) σ.mem bw res r) (hr:res.refs []=true):Fe P fn m res [] σ :=
 ⟨r,h,fun _=>none,bw,hm,hr,⟨by simp,by simp,by simp,by simp,by simp⟩,by simp[Mem.get]⟩
def i6 (e:AEff):List Id×List Id:=(e.rd,e.wr.map (·.1))
def a3v (ops:Array Oper) (x y:Oper×(List Id×List Id)):Bool :=
 x.1.apart ops y.1&&x.2.2.all (fun i=>!(y.2.1.contains i)&&!(y.2.2.contains i))&&y.2.2.all (fun i=>!(x.2.1.contains i))
def UV (ops:Array Oper) (fs:List (List Id×List Id)):Bool :=
 let xs:=ops.toList.zip fs
 let ms:=WP ops.toList []
 (List.range xs.length).all fun i=>(List.range i).all fun j=>(ms.getD i 0).testBit j||(match xs[j]?,xs[i]? with | some x,some y=>a3v ops x y | _,_=>true)
theorem UW {ops:Array Oper}{es:List AEff}{fs:List (List Id×List Id)}(hf:es.map i6=fs) (h:UV ops fs=true):Iu ops es=true:=by
 subst hf
 unfold UV at h
 unfold Iu
 have hz:ops.toList.zip (es.map i6)=(ops.toList.zip es).map (Prod.map id i6):=by rw[List.zip_map_right]
 rw[hz]at h
 simp only[List.length_map,List.getElem?_map,List.all_eq_true]at h ⊢
 intro i hi j hj
 have hh:=h i hi j hj
 revert hh
 cases (ops.toList.zip es)[j]?<;>cases (ops.toList.zip es)[i]?<;>exact id
attribute [go_sem] a2c i9 a0u a20 a08 Zb Zc JW a4y Sh a4g a15 a4e a14 a4f a16 a4d a0v YP a1m a1l UQ UP SN SO JR
 eff EN Gc KT Je FK KU Nu LG LH JG WH Jd KR Fg IK QP NA Lx Tw vA AV.cells AV.isCell TI.agg Gz Qf AV.toC OI Qm C4 AV.toS Zo PP PR AV.isStr a0z a00 a01
 List.getD_cons_zero List.getD_cons_succ List.getElem?_cons_zero List.getElem?_cons_succ List.getElem?_nil List.length_cons List.length_nil List.take List.drop List.set List.map_cons List.map_nil List.all_cons List.all_nil List.cons_append List.nil_append List.append_nil
 Option.map_some Option.map_none Option.getD_some Option.getD_none Option.isSome_some Option.isSome_none Value.oneCell' Value.cells Bool.and_true Bool.true_and Bool.and_false Bool.false_and Bool.not_true Bool.not_false Bool.or_true Bool.true_or Bool.or_false Bool.false_or
 cond_true cond_false if_true if_false and_self and_true true_and Bool.false_eq_true
 List.size_toArray Nat.zero_lt_succ forall_eq Int.toNat_natCast List.mem_cons List.not_mem_nil or_false false_or ne_eq not_true_eq_false not_false_eq_true
 Qd YS RK Gu AV.refs D3 AV.closed FH C.closed Ff Bm AV.ren VW AO.ren Mj
 List.filterMap_cons List.filterMap_nil Prod.mk.injEq Option.toList_none Option.toList_some List.isEmpty_nil List.isEmpty_cons List.length_map List.nodup_nil List.nodup_cons List.forall_mem_cons implies_true
end
end Go.Proofs.YtcejfdfmgmcinaaGreat
