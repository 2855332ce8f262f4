/- Texts of this proof: M47 M59 R21. -/
import Derived.Test.YtllfmaflodbieaaGreatDoorKG29uM58
import Derived.Shelf.Strings.Repeat
set_option linter.all false
namespace Go.Proofs.YtllfmaflodbieaaGreatDoor
section
open Go.RowKit
def BB:List Ev→Nat→V→(Int×Nat)×Option V
 | [],_,v=>((0,0),some v)
 | (_,none)::r,i,v=>BB r (i+1) v
 | (p,some t)::r,i,v=>match BT t p v with
  | (_,some u)=>BB r (i+1) u
  | (c,none)=>((c,i),none)
theorem Fi {p:List V}{r:List Ev}{i:Nat}{v:V}:BB ((p,none)::r) i v=BB r (i+1) v:=by
 conv=>lhs;unfold BB
theorem G3 {p:List V}{t u:V}{r:List Ev}{i:Nat}{v:V}{c:Int}(h:BT t p v=(c,some u)):BB ((p,some t)::r) i v=BB r (i+1) u:=by
 conv=>lhs;unfold BB
 rw[h]
theorem Xt {p:List V}{t:V}{r:List Ev}{i:Nat}{v:V}{c:Int}(h:BT t p v=(c,none)):BB ((p,some t)::r) i v=((c,i),none):=by
 conv=>lhs;unfold BB
 rw[h]
inductive Bld (L D:Nat):V→List Ev→V→Prop
 |nil (v:V):Bld L D v [] v
 |skip {v w:V} {p:List V} {r:List Ev}:Bld L D v r w→Bld L D v ((p,none)::r) w
 |put {v u w t:V} {p:List V} {r:List Ev}:BT t p v=Hq u→u.wf→u.count≤L→u.depth≤D→Bld L D u r w→Bld L D v ((p,some t)::r) w
theorem Bld.mono {L D L' D':Nat}(hL:L≤L') (hD:D≤D') {v w:V}{l:List Ev}(h:Bld L D v l w):Bld L' D' v l w:=by
 induction h with
 |nil v=>exact .nil v
 |skip _ ih=>exact .skip ih
 |put h1 h2 h3 h4 _ ih=>exact .put h1 h2 (by omega) (by omega) ih
theorem Bld.app {L D:Nat}{v w x:V}{a b:List Ev}(h:Bld L D v a w) (h2:Bld L D w b x):Bld L D v (a++b) x:=by
 induction h with
 |nil v=>exact h2
 |skip _ ih=>exact .skip (ih h2)
 |put g1 g2 g3 g4 _ ih=>exact .put g1 g2 g3 g4 (ih h2)
theorem Hs {u:V}(h:u.count≤200):Hq u=okR u:=by unfold Hq;rw[if_pos h]
theorem Bld.go {L D:Nat}{v w:V}{l:List Ev}(h:Bld L D v l w) (hL:L≤200):∀i,BB l i v=((0,0),some w):=by
 induction h with
 |nil v=>intro i;rfl
 |skip _ ih=>intro i;rw[Fi];exact ih _
 |put g1 g2 g3 g4 _ ih=>intro i;rw[G3 (g1.trans (Hs (by omega)))];exact ih _
theorem Om:∀(t:V),∃p x r,t.stream=(p,some x)::r
 | .mk kind num text keys kids=>by
  cases kids with
  |nil=>exact⟨_,_,_,R1 rfl⟩
  |cons k ks =>
   obtain⟨p,x,r,h⟩:=Om k
   have e:(V.mk kind num text keys (k::ks)).stream=(k.stream.map (M4 ((V.mk kind num text keys (k::ks)).keyV 0))++Ma (V.mk kind num text keys (k::ks)).keyV 1 ks)++[([(V.mk kind num text keys (k::ks)).keyV ((V.mk kind num text keys (k::ks)).kids.length-1)],none)]:=R2 rfl
   rw[h]at e
   exact⟨_,_,_,e⟩
def a01 (v:V) (P:List V):Prop:=v=Ir P∨(v=Dq∧P=[])
theorem a3u {v:V}{P:List V}(h:a01 v P):(v.kind=5∨v.kind=0)∧v.kids=P:=by
 rcases h with rfl | ⟨rfl,rfl⟩
 ·exact⟨.inl rfl,rfl⟩
 ·exact⟨.inr rfl,rfl⟩
theorem a18 {q:List V}{x v' v:V}{P:List V}(hb:a01 v P) (hl:P.length<200) (hput:BT x q Dq=okR v') (hw:(Ir (P++[v'])).wf) (hd:(Ir (P++[v'])).depth≤20) :
  BT x (L2 (P.length:Int)::q) v=Hq (Ir (P++[v'])):=by
 obtain⟨hk,rfl⟩:=a3u hb
 have hf:BY (L2 (v.kids.length:Int)).num v.kids.length=(v.kids.length:Int):=by
  unfold BY
  rw[show (L2 (v.kids.length:Int)).num=(v.kids.length:Int) from rfl,if_neg (show ¬((v.kids.length:Int)<0) by omega)]
 have hp:Jo v.kids v.kids.length=v.kids++[Dq]:=by
  unfold Jo
  rw[show v.kids.length+1-v.kids.length=1 by omega]
  rfl
 have e:BT x (L2 (v.kids.length:Int)::q) v=I7 v (L2 (v.kids.length:Int)).num (BT x q):=by
  conv=>lhs;unfold BT
  rw[if_pos (show (L2 (v.kids.length:Int)).kind=3 from rfl)]
 rw[e]
 unfold I7
 rw[if_pos hk,hf,if_neg (by omega),if_neg (by omega),Int.toNat_natCast]
 have hg:(Jo v.kids v.kids.length).getD v.kids.length Dq=Dq:=by rw[hp];simp
 rw[hg,hput]
 show Ij (Ir ((Jo v.kids v.kids.length).set v.kids.length v'))=_
 rw[hp,List.set_append_right _ _ (Nat.le_refl _),Nat.sub_self,List.set_cons_zero]
 exact NI hw hd
theorem Uv {P:List V}{u:V}{D:Nat}(hP:wfL P) (hl:P.length<200) (hd:GU P≤D) (hu:u.wf) (hud:u.depth≤D):(Ir (P++[u])).wf∧(Ir (P++[u])).depth≤D+1∧(Ir (P++[u])).count=1+GR P+u.count:=by
 refine⟨Ux (Nc.2 fun x hx=>?_) (by simp;omega),?_,?_⟩
 ·rcases List.mem_append.1 hx with hx | hx
  ·exact Nc.1 hP x hx
  ·rw[List.mem_singleton.1 hx];exact hu
 ·have:GU (P++[u])≤D:=Me fun x hx=>by
   rcases List.mem_append.1 hx with hx | hx
   ·have:=Kp hx;omega
   ·rw[List.mem_singleton.1 hx];exact hud
  simp only[Ir,V.depth]
  omega
 ·simp only[Ir,V.count,Lo]
  omega
theorem y9 {L D:Nat}{P:List V}(hP:wfL P) (hl:P.length<200) (hd:GU P≤D) (hD:D+1≤20) {c c':V}{l:List Ev}(h:Bld L D c l c') :
  Bld (1+GR P+L) (D+1) (Ir (P++[c])) (l.map (M4 (L2 (P.length:Int)))) (Ir (P++[c'])):=by
 induction h with
 |nil v=>exact .nil _
 |skip _ ih=>exact .skip ih
 | @put v u w t p r g1 g2 g3 g4 _ ih =>
  obtain⟨a1,a2,a3⟩:=Uv hP hl hd g2 g4
  have hs:∀y:V,(P++[v]).set P.length y=P++[y]:=fun y=>by rw[List.set_append_right _ _ (Nat.le_refl _),Nat.sub_self,List.set_cons_zero]
  have hi:=a4f (q:=p) (x:=t) (u:=v) (v':=u) (kids:=P++[v]) (i:=P.length) (by simp) (by simp;omega) g1 (by rw[hs];exact a1) (by rw[hs];omega)
  rw[hs,hs]at hi
  exact .put hi a1 (by omega) a2 ih
theorem x9 {L D:Nat}{P:List V}(hP:wfL P) (hl:P.length<200) (hd:GU P≤D) (hD:D+1≤20) (hL:L≤200) {v c':V}(hb:a01 v P) {l:List Ev}(hh:∃p x r,l=(p,some x)::r) (h:Bld L D Dq l c') :
  Bld (1+GR P+L) (D+1) v (l.map (M4 (L2 (P.length:Int)))) (Ir (P++[c'])):=by
 obtain⟨p,x,r,rfl⟩:=hh
 cases h with
 |put g1 g2 g3 g4 g5 =>
  obtain⟨a1,a2,a3⟩:=Uv hP hl hd g2 g4
  exact .put (a18 hb hl (g1.trans (Hs (by omega))) a1 (by omega)) a1 (by omega) a2 (y9 hP hl hd hD g5)
theorem Yr {D:Nat}(hD:D+1≤20):∀(ks P:List V) (v:V),a01 v P→wfL P→wfL ks→P.length+ks.length≤200→GU P≤D→GU ks≤D→GR ks≤200→(∀k∈ks,Bld k.count k.depth Dq k.stream k) →
  ∃w,Bld (1+GR P+GR ks) (D+1) v (Ma (fun i=>L2 (i:Int)) P.length ks) w∧a01 w (P++ks)
 | [],P,v,hb,_,_,_,_,_,_,_=>⟨v,.nil v,by rw[List.append_nil];exact hb⟩
 |k::ks,P,v,hb,hP,hk,hl,hdP,hdk,hc,h=>by
  have d1:k.depth≤D:=Nat.le_trans (Kp (List.mem_cons_self ..)) hdk
  have d2:GU ks≤D:=Me fun x hx=>Nat.le_trans (Kp (List.mem_cons_of_mem _ hx)) hdk
  have hc1:k.count+GR ks≤200:=hc
  have hll:P.length+(ks.length+1)≤200:=hl
  have h1:=x9 hP (by omega) hdP hD (by omega) hb (Om k) ((h k (List.mem_cons_self ..)).mono (Nat.le_refl _) d1)
  obtain⟨a1,a2,a3⟩:=Uv hP (by omega) hdP hk.1 d1
  have hP':wfL (P++[k]):=Nc.2 fun x hx=>by
   rcases List.mem_append.1 hx with hx | hx
   ·exact Nc.1 hP x hx
   ·rw[List.mem_singleton.1 hx];exact hk.1
  have hdP':GU (P++[k])≤D:=Me fun x hx=>by
   rcases List.mem_append.1 hx with hx | hx
   ·have:=Kp hx;omega
   ·rw[List.mem_singleton.1 hx];exact d1
  obtain⟨w,h2,h3⟩:=Yr hD ks (P++[k]) (Ir (P++[k])) (.inl rfl) hP' hk.2 (by simp;omega) hdP' d2 (by omega) fun x hx=>h x (List.mem_cons_of_mem _ hx)
  refine⟨w,?_,?_⟩
  ·have e:(P++[k]).length=P.length+1:=by simp
   rw[e,Lo]at h2
   show Bld _ _ _ (k.stream.map (M4 (L2 (P.length:Int)))++Ma _ (P.length+1) ks) _
   exact (h1.mono (by simp only[GR];omega) (Nat.le_refl _)).app (h2.mono (by simp only[GR];omega) (Nat.le_refl _))
  ·rw[List.append_assoc]at h3
   exact h3
def a3v (v:V) (P:List Lv):Prop:=v=ovV P∨(v=Dq∧P=[])
theorem a19 {q:List V}{x v' v:V}{P:List Lv}{k:ByteArray}(hb:a3v v P) (hu:Up (Kq (P++[(k,v')]))) (hput:BT x q Dq=okR v') (hw:(ovV (P++[(k,v')])).wf) (hd:(ovV (P++[(k,v')])).depth≤20) :
  BT x (Jp k::q) v=Hq (ovV (P++[(k,v')])):=by
 have hu':Up (Kq (P++(k,v')::[])):=hu
 obtain⟨h1,_⟩:=a2w hu'
 have hg:KG v (Jp k).text=okR Dq:=by
  rcases hb with rfl | ⟨rfl,rfl⟩
  ·rw[S2 rfl]
   refine congrArg okR (a4c fun hm=>?_)
   obtain⟨e,he,hk⟩:=List.mem_map.1 hm
   exact a3x (h1 e he) hk
  ·rfl
 have hn:=a5t hu'
 rw[List.append_nil]at hn
 have hkk:v.kind=0∨v.kind=6:=by
  rcases hb with rfl | ⟨rfl,rfl⟩
  ·exact .inr rfl
  ·exact .inl rfl
 have he:Jm (v.keys++[k]) (v.kids++[v'])=ovV (P++[(k,v')]):=by
  rcases hb with rfl | ⟨rfl,rfl⟩
  ·exact hn
  ·exact hn
 unfold BT
 rw[if_neg (Zc k),hg]
 show (match BT x q Dq with
  | (_,some r)=>I8 _ _ r
  | (c,none)=>(c,none))=_
 rw[hput]
 show I8 _ _ v'=_
 unfold I8
 rw[if_pos hkk,show (Jp k).text=k from rfl,he]
 exact NI hw hd
theorem a1u {P:List Lv}{k:ByteArray}{u:V}{D:Nat}(hu:Up (Kq (P++[(k,u)]))) (hP:Vo D P) (hl:P.length<200) (hk:Fr k=true) (hw:u.wf) (hd:u.depth≤D):(ovV (P++[(k,u)])).wf∧(ovV (P++[(k,u)])).depth≤D+1∧(ovV (P++[(k,u)])).count=1+Nm P+u.count:=by
 have hf:Vo D (P++[(k,u)]):=fun e he=>by
  rcases List.mem_append.1 he with he | he
  ·exact hP e he
  ·rw[List.mem_singleton.1 he];exact⟨hk,hw,hd⟩
 obtain⟨h1,h2⟩:=a5s hu hf (by simp;omega)
 refine⟨h1,h2,?_⟩
 rw[WG,UH,O1]
 show 1+(Nm P+(u.count+0))=_
 omega
theorem Q5 {P:List Lv}{k:ByteArray}{u v:V}(h:Up (Kq (P++[(k,u)]))):Up (Kq (P++[(k,v)])):=by
 rw[MW,Oy]at h ⊢
 exact h
theorem z7 {L D:Nat}{P:List Lv}{k:ByteArray}(hk:Fr k=true) (hP:Vo D P) (hl:P.length<200) (hD:D+1≤20) {c c':V}(hu:Up (Kq (P++[(k,c)]))) {l:List Ev}(h:Bld L D c l c') :
  Bld (1+Nm P+L) (D+1) (ovV (P++[(k,c)])) (l.map (M4 (Jp k))) (ovV (P++[(k,c')])):=by
 induction h with
 |nil v=>exact .nil _
 |skip _ ih=>exact .skip (ih hu)
 | @put v u w t p r g1 g2 g3 g4 _ ih =>
  obtain⟨a1,a2,a3⟩:=a1u (Q5 hu) hP hl hk g2 g4
  have hi:=a4g (q:=p) (x:=t) (u:=v) (v':=u) (L:=P) (R:=[]) (k:=k) hu g1 a1 (by omega)
  exact .put hi a1 (by omega) a2 (ih (Q5 hu))
theorem z6 {L D:Nat}{P:List Lv}{k:ByteArray}(hk:Fr k=true) (hP:Vo D P) (hl:P.length<200) (hD:D+1≤20) (hL:L≤200) {v c':V}(hu:Up (Kq (P++[(k,c')]))) (hb:a3v v P) {l:List Ev}(hh:∃p x r,l=(p,some x)::r) (h:Bld L D Dq l c') :
  Bld (1+Nm P+L) (D+1) v (l.map (M4 (Jp k))) (ovV (P++[(k,c')])):=by
 obtain⟨p,x,r,rfl⟩:=hh
 cases h with
 |put g1 g2 g3 g4 g5 =>
  obtain⟨a1,a2,a3⟩:=a1u (Q5 hu) hP hl hk g2 g4
  exact .put (a19 hb (Q5 hu) (g1.trans (Hs (by omega))) a1 (by omega)) a1 (by omega) a2 (z7 hk hP hl hD (Q5 hu) g5)
theorem a2x {a b:List Lv}(h:Up (Kq (a++b))):Up (Kq a):=by
 rw[MW]at h
 exact (List.pairwise_append.1 (show List.Pairwise _ _ from h)).1
theorem Ys {D:Nat}(hD:D+1≤20) (key:Nat→V):∀(ks P:List Lv) (v:V),a3v v P→Up (Kq (P++ks))→Vo D P→Vo D ks→P.length+ks.length≤200→Nm ks≤200→(∀j (hj:j<ks.length),key (P.length+j)=Jp ks[j].1)→(∀e∈ks,Bld e.2.count e.2.depth Dq e.2.stream e.2) →
  ∃w,Bld (1+Nm P+Nm ks) (D+1) v (Ma key P.length (MB ks)) w∧a3v w (P++ks)
 | [],P,v,hb,_,_,_,_,_,_,_=>⟨v,.nil v,by rw[List.append_nil];exact hb⟩
 | (k,u)::ks,P,v,hb,hup,hP,hk,hl,hc,hkey,h=>by
  obtain⟨k1,k2,k3⟩:Fr k=true∧u.wf∧u.depth≤D:=hk (k,u) (List.mem_cons_self ..)
  have hc1:u.count+Nm ks≤200:=hc
  have hll:P.length+(ks.length+1)≤200:=hl
  have hup1:Up (Kq ((P++[(k,u)])++ks)):=by rw[List.append_assoc];exact hup
  have hu1:=a2x hup1
  have hkey0:key P.length=Jp k:=hkey 0 (by simp)
  have hb1:Bld u.count u.depth Dq u.stream u:=h (k,u) (List.mem_cons_self ..)
  have h1:=z6 k1 hP (by omega) hD (by omega) hu1 hb (Om u) (hb1.mono (Nat.le_refl _) k3)
  have hP':Vo D (P++[(k,u)]):=fun e he=>by
   rcases List.mem_append.1 he with he | he
   ·exact hP e he
   ·rw[List.mem_singleton.1 he];exact⟨k1,k2,k3⟩
  obtain⟨w,h2,h3⟩:=Ys hD key ks (P++[(k,u)]) (ovV (P++[(k,u)])) (.inl rfl) hup1 hP' (fun e he=>hk e (List.mem_cons_of_mem _ he)) (by simp;omega) (by omega) (fun j hj=>by
   have:=hkey (j+1) (by simp;omega)
   simp only[List.length_append,List.length_singleton]
   rw[show P.length+1+j=P.length+(j+1) by omega,this]
   rfl) fun x hx=>h x (List.mem_cons_of_mem _ hx)
  refine⟨w,?_,?_⟩
  ·have e:(P++[(k,u)]).length=P.length+1:=by simp
   rw[e,UH,O1]at h2
   have h2':Bld (1+(Nm P+(u.count+0))+Nm ks) (D+1) (ovV (P++[(k,u)])) (Ma key (P.length+1) (MB ks)) w:=h2
   rw[q8]
   show Bld _ _ _ (u.stream.map (M4 (key P.length))++Ma key (P.length+1) (MB ks)) _
   rw[hkey0]
   exact (h1.mono (by rw[O1];omega) (Nat.le_refl _)).app (h2'.mono (by rw[O1];omega) (Nat.le_refl _))
  ·rw[List.append_assoc]at h3
   exact h3
theorem ST:∀(n:Nat) (t:V),t.count≤n→t.right→Bld t.count t.depth Dq t.stream t
 | 0,t,hn,_=>by have:=K8 t;omega
 |n+1,t,hn,ht=>by
  have hcn:=Xg t
  have hdn:=Mg t
  have hkl:=Kg ht.2.1
  have hc2:=ht.2.1
  have hd2:=ht.2.2
  cases he:t.kids.isEmpty with
  |true =>
   rw[R1 he]
   refine .put (u:=t) ?_ ht.1 (Nat.le_refl _) (Nat.le_refl _) (.nil t)
   rw[Hs hc2]
   rfl
  |false =>
   rw[R2 he]
   have hne:t.kids≠[]:=fun e=>by rw[e]at he;cases he
   have hkid:∀k∈t.kids,Bld k.count k.depth Dq k.stream k:=fun k hk=>ST n k (by have:=K7 hk;omega) (K1 ht hk)
   have hwk:wfL t.kids:=Nc.2 fun k hk=>(K1 ht hk).1
   obtain⟨D,hDe⟩:∃D,t.depth=D+1:=⟨GU t.kids,by omega⟩
   by_cases h6:t.kind=6
   ·obtain⟨ua,ta,la⟩:=KL ht h6
    have hs:=V3 la
    have hcp:Nm (KR t)=GR t.kids:=by unfold Nm;rw[hs]
    have hlp:(KR t).length=t.kids.length:=by unfold KR;rw[List.length_zip];omega
    obtain⟨w,h1,h2⟩:=Ys (D:=D) (by omega) t.keyV (KR t) [] Dq (.inr ⟨rfl,rfl⟩) (by rw[List.nil_append,Rp la];exact a4z ua) (fun e he=>absurd he (by simp)) (fun e he=>by
      obtain⟨m1,m2⟩:=U9 ht h6 he
      have:=Kp m2
      exact⟨ta _ m1,(K1 ht m2).1,by omega⟩) (by simp only[List.length_nil];omega) (by omega) (fun j hj=>by
      have hj':j<t.kids.length:=by omega
      obtain⟨hk',e⟩:=Mj (Lc ht) h6 hj'
      show t.keyV (0+j)=_
      rw[Nat.zero_add]
      unfold V.keyV
      rw[if_pos h6,e]
      have hz:(KR t)[j].1=t.keys[j]:=by simp[KR]
      rw[hz]) fun e he=>hkid _ (U9 ht h6 he).2
    rw[hs,hcp]at h1
    have hw:w=t:=by
     rw[List.nil_append]at h2
     rcases h2 with rfl | ⟨_,hp⟩
     ·exact (YY ht h6).symm
     ·rw[hp]at hlp
      exact absurd (List.eq_nil_of_length_eq_zero hlp.symm) hne
    subst hw
    rw[hDe]
    exact (h1.mono (by show 1+0+_≤_;omega) (Nat.le_refl _)).app (.skip (.nil _))
   ·have h5:t.kind=5:=Classical.byContradiction fun h=>hne ((KB ht.1).2.2.2.2.2 h h6)
    have hkey:t.keyV=fun i:Nat=>L2 (i:Int):=by funext i;unfold V.keyV;rw[if_neg h6]
    obtain⟨w,h1,h2⟩:=Yr (D:=D) (by omega) t.kids [] Dq (.inr ⟨rfl,rfl⟩) trivial hwk (by simp only[List.length_nil];omega) (by simp[GU]) (by omega) (by omega) hkid
    have hw:w=t:=by
     rw[List.nil_append]at h2
     rcases h2 with rfl | ⟨_,hp⟩
     ·exact (Rc ht.1 h5).symm
     ·exact absurd hp hne
    subst hw
    rw[hkey,hDe]
    exact (h1.mono (by show 1+0+_≤_;omega) (Nat.le_refl _)).app (.skip (.nil _))
theorem W3 {t:V}(ht:t.right):BB t.stream 0 Dq=((0,0),some t):=(ST t.count t (Nat.le_refl _) ht).go ht.2.1 0
def LQ (l:List Ev):List (List V×V):=l.filterMap fun e=>e.2.map fun x=>(e.1,x)
theorem Sq (a b:List Ev):LQ (a++b)=LQ a++LQ b:=by unfold LQ;rw[List.filterMap_append]
theorem NK (k:V):∀l:List Ev,LQ (l.map (M4 k))=(LQ l).map fun p=>(k::p.1,p.2)
 | []=>rfl
 | (p,none)::l=>by
  have:=NK k l
  unfold LQ at this ⊢
  simp only[List.map_cons,M4,List.filterMap_cons,Option.map_none]
  exact this
 | (p,some x)::l=>by
  have:=NK k l
  unfold LQ at this ⊢
  simp only[List.map_cons,M4,List.filterMap_cons,Option.map_some]
  rw[this]
mutual
theorem P2:∀(t:V) (ahead:List V),(t.paths ahead).filter (fun p=>!M7 p)=(LQ t.stream).map fun p=>(ahead++p.1,p.2)
 | .mk kind num text keys kids,ahead=>by
  rw[PU]
  unfold V.stream
  cases hk:kids with
  |nil=>simp[LQ,M7,La,V.kids]
  |cons k ks =>
   have h:=O9 (V.mk kind num text keys kids).keyV kids 0 ahead
   rw[hk]at h
   rw[if_neg (by simp),Sq]
   rw[List.filter_cons_of_neg (by simp[M7,V.kids])]
   rw[show LQ [([(V.mk kind num text keys (k::ks)).keyV ((k::ks).length-1)],none)]=[] from rfl,List.append_nil]
   exact h
theorem O9 (key:Nat→V):∀(ks:List V) (i:Nat) (ahead:List V),(La key i ks ahead).filter (fun p=>!M7 p)=(LQ (Ma key i ks)).map fun p=>(ahead++p.1,p.2)
 | [],_,_=>rfl
 |k::ks,i,ahead=>by
  have h1:=P2 k (ahead++[key i])
  have h2:=O9 key ks (i+1) ahead
  unfold La Ma
  rw[List.filter_append,Sq,List.map_append,h1,h2,NK,List.map_map]
  congr 1
  refine List.map_congr_left fun p _=>?_
  simp
end
theorem Ss (t:V):Ke t=LQ t.stream:=by
 unfold Ke
 rw[P2]
 simp
def Qr:List (List V×V)→V→Option V
 | [],v=>some v
 |p::l,v=>match BT p.2 p.1 v with
  | (_,some u)=>Qr l u
  | (_,none)=>none
theorem Pn:∀(l:List Ev) (i:Nat) (v w:V) (c:Int×Nat),BB l i v=(c,some w)→Qr (LQ l) v=some w
 | [],i,v,w,c,h=>by
  unfold BB at h
  cases h
  rfl
 | (p,none)::l,i,v,w,c,h=>by
  rw[Fi]at h
  exact Pn l _ v w c h
 | (p,some x)::l,i,v,w,c,h=>by
  cases hs:BT x p v with
  |mk c' y =>
   cases y with
   |none=>rw[Xt hs]at h;cases h
   |some u =>
    rw[G3 hs]at h
    have:=Pn l _ u w c h
    show Qr ((p,x)::LQ l) v=some w
    unfold Qr
    rw[hs]
    exact this
def M5 (p:List V×V):ByteArray:=KF p.1++RT++p.2.txt
theorem QG {s:ByteArray}:∀(l:List (List V×V)) (k:Nat) (v w:V),(∀p∈l,FlatOk p (M5 p)∧(M5 p).size≤4000)→Qr l v=some w→L4 (Ke w)=s→KN s (l.map M5) k v=((0,0),some w)
 | [],k,v,w,_,h,hs=>by
  cases h
  show KN s [] k v=_
  unfold KN
  rw[if_pos hs]
 |p::l,k,v,w,hl,h,hs=>by
  obtain⟨h1,h2⟩:=hl p (by simp)
  have hp:=(OA h2).2 h1
  unfold Qr at h
  cases hq:BT p.2 p.1 v with
  |mk c y =>
   rw[hq]at h
   cases y with
   |none=>cases h
   |some u =>
    rw[List.map_cons,Un hp hq]
    exact QG l (k+1) u w (fun q hq=>hl q (by simp[hq])) h hs
theorem U0:∀{p:List V},(∀k∈p,Ni k)→NM (M9 p)
 | [],_=>fun b hb=>by cases hb
 |k::p,h=>by
  unfold M9
  rw[List.flatMap_cons]
  exact KE (KE (a:=[91]) (Kl (by decide)) (KE (Sv _ k (Nat.le_refl _) (h k (by simp)).1) (Kl (by decide)))) (U0 fun x hx=>h x (by simp[hx]))
theorem ZV {p:List V×V}(h:FlatOk p (M5 p)):NM (M5 p).data.toList:=by
 rw[Qe h]
 exact KE (a:=[46]) (Kl (by decide)) (KE (KE (U0 h.keys) (Kl (by decide))) (Sv _ p.2 (Nat.le_refl _) h.right))
theorem TD:∀(l:List (List V×V)) (a:ByteArray),(l.foldl (fun a p=>a++P1 p) a).data.toList=a.data.toList++(l.map M5).flatMap (fun x=>x.data.toList++[10])
 | [],a=>by simp
 |p::l,a=>by
  rw[List.foldl_cons,TD l,K5]
  have:(P1 p).data.toList=(M5 p).data.toList++[10]:=by
   unfold P1 M5
   rw[K5]
  rw[this]
  simp
theorem ZQ {t:V}(ht:t.right) {p:List V×V}(hp:p∈Ke t):FlatOk p (M5 p):=by
 have h:=YQ ht hp
 have hf:=(List.mem_filter.1 hp).2
 exact⟨by simpa [M7] using hf,h.sk,by have:=h.len;omega,h.right,rfl⟩
theorem T8 {X:List ByteArray}{x:ByteArray}(h:x∈X):x.size≤(X.flatMap (fun x=>x.data.toList++[10])).length:=by
 induction X with
 |nil=>cases h
 |cons y X ih =>
  rw[List.flatMap_cons,List.length_append,List.length_append,JY]
  rcases List.mem_cons.1 h with rfl | h
  ·omega
  ·have:=ih h
   omega
theorem X3 {t:V}(ht:t.right):ON (L4 (Ke t))=if 4000<(L4 (Ke t)).size then ((2,0),none) else ((0,0),some t):=by
 unfold ON
 split
 ·rfl
 ·rename_i hsz
  have hok:=fun p hp=>ZQ (p:=p) ht hp
  have hput:=Pn _ _ _ _ _ (W3 ht)
  rw[←Ss]at hput
  have h1:(L4 (Ke t)).data.toList.drop 0=((Ke t).map M5).flatMap (fun x=>x.data.toList++[10]):=by
   rw[List.drop_zero]
   unfold L4
   rw[TD]
   rfl
  have hlen:(L4 (Ke t)).size=(((Ke t).map M5).flatMap (fun x=>x.data.toList++[10])).length:=by rw[←JY,←h1,List.drop_zero]
  have hl:NL (L4 (Ke t))=(Ke t).map M5:=Ws _ 0 (fun x hx=>by
   obtain⟨p,hp,rfl⟩:=List.mem_map.1 hx
   exact ZV (hok p hp)) h1 (Nat.zero_le _)
  rw[hl]
  refine QG (Ke t) 0 Dq t (fun p hp=>⟨hok p hp,?_⟩) hput rfl
  have:=T8 (List.mem_map.2 ⟨p,hp,rfl⟩:M5 p∈(Ke t).map M5)
  omega
end
section
open Go.RowKit Go.Shelf
def Z6:Ren where
 f:=fun x=>match x with
  | 105=>109
  | 212=>165
  | 99=>87
  | 165=>166
  | 166=>37
  | 170=>167
  | 169=>39
  | 263=>211
  | 264=>212
  | 206=>148
  | 240=>75
  | 241=>213
  | 276=>136
  | 277=>255
  |n=>n
 t:=fun x=>match x with
  | 9=>9
  | 3=>3
  | 4=>4
  | 20=>20
  | 0=>0
  | 46=>194
  | 109=>195
  | 5=>5
  | 72=>60
  | 76=>63
  | 51=>233
  | 146=>247
  | 53=>249
  | 148=>250
  | 70=>58
  | 37=>29
  | 75=>62
  | 127=>113
  | 164=>174
  | 80=>65
  |n=>n
 g:=fun x=>match x with
  |n=>n
theorem a2a:Lays.n105 Tryz.prog Z6 where
 mixed:=C6
 f99:=by kernel_rfl
 f105:=by kernel_rfl
 f165:=by kernel_rfl
 f166:=by kernel_rfl
 f169:=by kernel_rfl
 f170:=by kernel_rfl
 f206:=by kernel_rfl
 f212:=by kernel_rfl
 f240:=by kernel_rfl
 f241:=by kernel_rfl
 f263:=by kernel_rfl
 f264:=by kernel_rfl
 f276:=by kernel_rfl
 f277:=by kernel_rfl
 t0:=Tryz.underlying0
 a0:=Tryz.isAgg0
 z0:=Tryz.sizeOf0
 v0:=Tryz.zeroValue0
 t3:=Tryz.underlying3
 a3:=Tryz.isAgg3
 z3:=Tryz.sizeOf3
 v3:=Tryz.zeroValue3
 t4:=Tryz.underlying4
 a4:=Tryz.isAgg4
 z4:=Tryz.sizeOf4
 v4:=Tryz.zeroValue4
 t5:=Tryz.underlying5
 a5:=Tryz.isAgg5
 z5:=Tryz.sizeOf5
 v5:=Tryz.zeroValue5
 t9:=Tryz.underlying9
 a9:=Tryz.isAgg9
 z9:=Tryz.sizeOf9
 v9:=Tryz.zeroValue9
 t20:=Tryz.underlying20
 a20:=Tryz.isAgg20
 z20:=Tryz.sizeOf20
 v20:=Tryz.zeroValue20
 t37:=Tryz.underlying29
 a37:=Tryz.isAgg29
 z37:=Tryz.sizeOf29
 v37:=Tryz.zeroValue29
 t46:=Tryz.underlying194
 a46:=Tryz.isAgg194
 z46:=Tryz.sizeOf194
 v46:=Tryz.zeroValue194
 t51:=Tryz.underlying233
 a51:=Tryz.isAgg233
 z51:=Tryz.sizeOf233
 v51:=Tryz.zeroValue233
 t53:=Tryz.underlying249
 a53:=Tryz.isAgg249
 z53:=Tryz.sizeOf249
 v53:=Tryz.zeroValue249
 t70:=Tryz.underlying58
 a70:=Tryz.isAgg58
 z70:=Tryz.sizeOf58
 v70:=Tryz.zeroValue58
 t72:=Tryz.underlying60
 a72:=Tryz.isAgg60
 z72:=Tryz.sizeOf60
 v72:=Tryz.zeroValue60
 t75:=Tryz.underlying62
 a75:=Tryz.isAgg62
 z75:=Tryz.sizeOf62
 v75:=Tryz.zeroValue62
 t76:=Tryz.underlying63
 a76:=Tryz.isAgg63
 z76:=Tryz.sizeOf63
 v76:=Tryz.zeroValue63
 t109:=Tryz.underlying195
 a109:=Tryz.isAgg195
 z109:=Tryz.sizeOf195
 v109:=Tryz.zeroValue195
 t127:=Tryz.underlying113
 a127:=Tryz.isAgg113
 z127:=Tryz.sizeOf113
 v127:=Tryz.zeroValue113
 t146:=Tryz.underlying247
 a146:=Tryz.isAgg247
 z146:=Tryz.sizeOf247
 v146:=Tryz.zeroValue247
 t148:=Tryz.underlying250
 a148:=Tryz.isAgg250
 z148:=Tryz.sizeOf250
 v148:=Tryz.zeroValue250
 t164:=Tryz.underlying174
 a164:=Tryz.isAgg174
 z164:=Tryz.sizeOf174
 v164:=Tryz.zeroValue174
theorem j0:Builder.Extra Tryz.prog Z6 where
 sizeBuilder:=by kernel_rfl
 liesBuilder:=by kernel_rfl
 t5:=Tryz.underlying5
 a5:=Tryz.isAgg5
 z5:=Tryz.sizeOf5
 v5:=Tryz.zeroValue5
 infoByte:=by kernel_rfl
 cellsByte:=by kernel_rfl
 sizeByte:=by kernel_rfl
 neB5:=by decide
def Px (n:Nat):ByteArray:=⟨(List.replicate n (32:UInt8)).toArray⟩
def lnB (n:Nat):ByteArray:=bS 10++Px n
theorem Q8 (n:Nat):(Px n).size=n:=by
 show (List.replicate n (32:UInt8)).toArray.size=n
 simp
theorem MY (n:Nat):(lnB n).size=n+1:=by unfold lnB;rw[ByteArray.size_append,Q8,K9];omega
theorem Zo (n:Nat):Px n++bS 32=Px (n+1):=by
 unfold Px
 rw[show (bS 32:ByteArray)=⟨[32].toArray⟩ from rfl,Lg,←List.replicate_succ']
theorem a1d (n:Nat):lnB n++bS 32=lnB (n+1):=by unfold lnB;rw[ByteArray.append_assoc,Zo]
theorem Ui (n:Nat) (hn:n≤1000000):AC Tryz.prog 109 [.c (.str (bS 32)),.c (.int .i64 n)] [] (.c (.str (Px n))) []:=by
 refine AC.of_calls fun S w κ vs hv=>?_
 obtain⟨v,vs',rfl,⟨rfl,_⟩,v2,vs2,rfl,⟨rfl,_⟩,rfl⟩:=hv
 refine (Any.strings_Repeat a2a j0 (bS 32) n w (by omega) (by rw[K9];omega)).mono ?_
 rintro e w' ⟨rfl,hb⟩
 have e1:∀n,Lib.repeatL (bS 32).data.toList n=List.replicate n 32:=by
  intro n
  induction n with
  |zero=>rfl
  |succ n ih=>rw[Lib.repeatL,ih];rfl
 exact⟨hb,_,rfl,fun T _ _=>⟨by rw[e1];rfl,rfl⟩⟩
set_option maxRecDepth 10000
theorem YR (n:Nat) (hn:n≤1000000):AC Tryz.prog 115 [.c (.int .i64 n)] [] (.c (.str (lnB n))) []:=by
 have h0:lnB 0=⟨#[10]⟩:=rfl
 have h00:n-0=n:=by omega
 refine JI Tryz.func115 Tryz.ntmps115 ?_
 refine JV q9 ?_
 refine Jz (κ:=Nat) (fun k=>⟨mkS 0 11 [(0,.c (.int .i64 ((n-k:Nat):Int))),(3,.c (.str (lnB k)))],[]⟩) (fun k=>k≤n) (fun k=>n-k) 0 (Nat.zero_le _) ?_ ?_
 ·exact JQ (F7.of [] []) (j2 h0 h00)
 ·intro k hk
  by_cases hlt:k<n
  ·have hd:decide (((n-k:Nat):Int)>0)=true:=by simp;omega
   have hw:IntKind.i64.wrap (((n-k:Nat):Int)-1)=((n-(k+1):Nat):Int):=by rw[IntWalk.i64_in _ (by omega)];omega
   have hs:(lnB k).size+1≤9223372036854775807:=by rw[MY];omega
   have hn2:=a1d k
   refine JV (j4 hd hs hn2 hw) ?_
   refine⟨k+1,by omega,by omega,?_⟩
   exact JQ (F7.of [] []) q9
  ·have hd:decide (((n-k:Nat):Int)>0)=false:=by simp;omega
   obtain rfl:k=n:=by omega
   refine JV hd ?_
   exact JJ (JN [] []) Tryz.results115 hd
mutual
def V.pre (d a:Nat):V→ByteArray
 | .mk kind num text keys kids=>match kids with
  | []=>V.txt (.mk kind num text keys [])
  |x::r=>(if kind=5 then bS 91 else bS 123)++(lnB (a+d)++H0 (bS 44++lnB (a+d)) (R9 d (a+d) kind keys (x::r))++lnB a)++(if kind=5 then bS 93 else bS 125)
def R9 (d a:Nat) (kind:Int) (keys:List ByteArray):List V→List ByteArray
 | []=>[]
 |x::r=>(if kind=6 then HH (keys.headD ByteArray.empty)++⟨#[58,32]⟩++x.pre d a else x.pre d a)::R9 d a kind keys.tail r
end
def V.ppart (t:V) (d a i:Nat) (x:V):ByteArray:=if t.kind=6 then HH (t.keyAt i)++⟨#[58,32]⟩++x.pre d a else x.pre d a
def V.pparts (t:V) (d a:Nat):List ByteArray:=R9 d a t.kind t.keys t.kids
theorem WQ (d a:Nat) (kind:Int):∀(kids:List V) (keys:List ByteArray),(R9 d a kind keys kids).length=kids.length
 | [],_=>by simp[R9]
 |x::r,keys=>by simp[R9,WQ d a kind r]
theorem Lb (t:V) (d a:Nat):(t.pparts d a).length=t.kids.length:=WQ _ _ _ _ _
theorem WP (d a:Nat) (kind:Int):∀(kids:List V) (keys:List ByteArray) (i:Nat) (h:i<kids.length),(R9 d a kind keys kids)[i]? = some (if kind=6 then HH ((keys.drop i).headD ByteArray.empty)++⟨#[58,32]⟩++kids[i].pre d a else kids[i].pre d a)
 | [],_,i,h=>by simp at h
 |x::r,keys,0,_=>by simp[R9]
 |x::r,keys,i+1,h=>by
  have h1:=WP d a kind r keys.tail i (by simpa using h)
  simp only[R9,List.getElem?_cons_succ,h1,List.getElem_cons_succ]
  rw[show keys.tail.drop i=keys.drop (i+1) by cases keys<;>simp]
theorem Qp (t:V) (d a:Nat) {i:Nat}(h:i<t.kids.length):(t.pparts d a)[i]'(by rw[Lb];exact h)=t.ppart d a i t.kids[i]:=by
 have h1:(t.pparts d a)[i]? = some (t.ppart d a i t.kids[i]):=by
  unfold V.pparts V.ppart
  rw[WP d a t.kind t.kids t.keys i h]
  unfold V.keyAt
  split<;>rfl
 rw[List.getElem?_eq_getElem (by rw[Lb];exact h)]at h1
 exact Option.some.inj h1
theorem Og {t:V}(d a:Nat) (h:t.kids=[]):t.pre d a=t.txt:=by
 cases t with
 |mk k n s ks vs =>
  simp only[Rk]at h
  subst h
  simp[V.pre]
theorem Oh {t:V}(d a:Nat) (h:t.kids≠[]):t.pre d a=(if t.kind=5 then bS 91 else bS 123)++(lnB (a+d)++H0 (bS 44++lnB (a+d)) (t.pparts d (a+d))++lnB a)++(if t.kind=5 then bS 93 else bS 125):=by
 cases t with
 |mk k n s ks vs =>
  cases vs with
  |nil=>exact absurd rfl h
  |cons x r=>rfl
theorem SV (a b:UInt8):(⟨#[a,b]⟩:ByteArray).size=2:=rfl
theorem Pm {t:V}{d a:Nat}(ha:a≤168) (hr:t.right) (ih:∀x∈t.kids,(x.pre d a).size+300≤700*x.count):∀m,m≤t.kids.length→(H0 (bS 44++lnB a) ((t.pparts d a).take m)).size≤700*GR t.kids:=by
 intro m hm
 refine Nat.le_trans (Pg _ _) ?_
 have h5:(bS 44++lnB a).size=a+2:=by rw[ByteArray.size_append,MY,K9];omega
 simp only[h5]
 have key:∀m,m≤t.kids.length→(((t.pparts d a).take m).map fun x=>x.size+(a+2)).sum≤700*GR (t.kids.take m):=by
  intro m
  induction m with
  |zero=>intro _;simp
  |succ m ihm =>
   intro hm
   have h1:=ihm (by omega)
   have hm':m<t.kids.length:=by omega
   have hmem:t.kids[m]∈t.kids:=List.getElem_mem hm'
   have h2:=ih _ hmem
   have h3:=LV (LY hr m)
   rw[List.take_succ_eq_append_getElem (by rw[Lb];omega),List.take_succ_eq_append_getElem hm',Qp t d a hm',List.map_append,List.sum_append,Lo]
   have h4:(t.ppart d a m t.kids[m]).size+(a+2)≤700*t.kids[m].count:=by
    unfold V.ppart
    split
    ·rw[ByteArray.size_append,ByteArray.size_append,SV];omega
    ·omega
   simp only[List.map_cons,List.map_nil,List.sum_cons,List.sum_nil]
   omega
 have h1:=key m hm
 have h2:=M3 t.kids m
 omega
theorem SI {d:Nat}(hd:d≤8):∀(n:Nat) (t:V) (a:Nat),t.count≤n→t.right→a+d*t.depth≤168→(t.pre d a).size+300≤700*t.count:=by
 intro n
 induction n with
 |zero=>intro t a hn _ _;have:=K8 t;omega
 |succ n ih =>
  intro t a hn hr hda
  have hp:=K8 t
  have hcc:=K4 t
  by_cases hk:t.kids=[]
  ·rw[Og d a hk]
   have:=SW _ t (Nat.le_refl _) hr
   have h1:GR t.kids=0:=by rw[hk];rfl
   omega
  ·have hdk:=L8 t
   have hda':a+d≤168:=by
    have:d*1≤d*t.depth:=Nat.mul_le_mul_left _ (by omega)
    omega
   have hparts:=Pm (d:=d) hda' hr (fun x hx=>ih x (a+d) (by have:=K7 hx;omega) (K1 hr hx) (by
    have h1:=Kp hx
    have h2:d*(x.depth+1)≤d*t.depth:=Nat.mul_le_mul_left _ (by omega)
    rw[Nat.mul_add]at h2
    omega)) t.kids.length (Nat.le_refl _)
   rw[List.take_of_length_le (by rw[Lb];exact Nat.le_refl _)]at hparts
   rw[Oh d a hk]
   have e1:(if t.kind=5 then bS 91 else bS 123:ByteArray).size=1:=by split<;>rfl
   have e2:(if t.kind=5 then bS 93 else bS 125:ByteArray).size=1:=by split<;>rfl
   simp only[ByteArray.size_append,e1,e2,MY]
   omega
end
end Go.Proofs.YtllfmaflodbieaaGreatDoor
