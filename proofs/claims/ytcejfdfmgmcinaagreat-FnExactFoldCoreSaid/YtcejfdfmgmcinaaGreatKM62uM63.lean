/- Texts of this proof: M62 M63. -/
import Derived.Test.YtcejfdfmgmcinaaGreatKM61uG42
set_option linter.all false
namespace Go.Proofs.YtcejfdfmgmcinaaGreat
open Go.RowKit
def Dl (n:Nat) (f:Nat→List Int→List Int):List Int→List Int→List Int
 | [],out=>out
 |k::r,out=>if out.length≤n then Dl n f r (f k.toNat out) else out
def CY (L:List CoD) (n:Nat):Nat→Nat→List Int→List Int
 | 0,_,out=>out
 |f+1,i,out=>match L[i]? with
  |some d=>Dl n (CY L n f) d.named out++[(i:Int)]
  |none=>out
theorem Mq {n:Nat}{f:Nat→List Int→List Int}{m:Nat}(hf:∀k out,out.length≤n→(f k out).length≤n+m):∀(ks out:List Int),out.length≤n+m→(Dl n f ks out).length≤n+m
 | [],out,h=>h
 |k::r,out,h=>by
  unfold Dl
  split
  ·rename_i h1
   exact Mq hf r _ (hf _ _ h1)
  ·exact h
theorem Kk {L:List CoD}{n:Nat}:∀(f i:Nat) (out:List Int),out.length≤n→(CY L n f i out).length≤n+f
 | 0,_,out,h=>h
 |f+1,i,out,h=>by
  unfold CY
  cases L[i]? with
  |none=>simp only;omega
  |some d =>
   have:=Mq (n:=n) (f:=CY L n f) (m:=f) (fun k out h=>Kk f k out h) d.named out (by omega)
   simp only[List.length_append,List.length_singleton]
   omega
def rng (m:Nat):List Int:=(List.range m).map fun (x:Nat)=>(x:Int)
theorem Ji (m:Nat):(rng m).length=m:=by unfold rng;simp
theorem Oj (m:Nat):rng (m+1)=rng m++[(m:Int)]:=by unfold rng;rw[List.range_succ,List.map_append];rfl
theorem v6 (m k:Nat) (h:k≤m):(rng m).take k=rng k:=by
 unfold rng
 rw[←List.map_take,List.take_range,Nat.min_eq_left h]
theorem a15 {m k:Nat}(h:k<m):(rng m)[k]? = some (k:Int):=by unfold rng;simp[h]
theorem GC {n:Nat}{f:Nat→List Int→List Int}(hf:∀k out,out <+: f k out):∀(ks out:List Int),out <+: Dl n f ks out
 | [],out=>List.prefix_refl _
 |k::r,out=>by
  unfold Dl
  split
  ·exact (hf k.toNat out).trans (GC hf r _)
  ·exact List.prefix_refl _
theorem Kl {L:List CoD}{n:Nat}:∀(f i:Nat) (out:List Int),out <+: CY L n f i out
 | 0,_,out=>List.prefix_refl _
 |f+1,i,out=>by
  unfold CY
  cases L[i]? with
  |none=>exact List.prefix_refl _
  |some d=>exact (GC (fun k out=>Kl f k out) d.named out).trans (List.prefix_append _ _)
theorem WK {out:List Int}{m:Nat}(h:out <+: rng m):out=rng out.length∧out.length≤m:=by
 have h1:=h.length_le
 rw[Ji]at h1
 have h2:=List.prefix_iff_eq_take.1 h
 rw[v6 _ _ h1]at h2
 exact⟨h2,h1⟩
theorem O9 {L:List CoD}{n:Nat}:∀(t:CT) (b f:Nat),t.ok→Seg L b t→t.size≤f→b+t.size≤n+1→CY L n f (b+t.size-1) (rng b)=rng (b+t.size)
 | .mk op num val kids,b,0,_,_,hn,_=>by
  have:=(CT.mk op num val kids).size_pos
  omega
 | .mk op num val kids,b,f+1,ho,hs,hn,hz=>by
  unfold CT.ok at ho
  obtain⟨_,hl,hk⟩:=ho
  have hr:=hs.root
  rw[CT.size]at hn hz ⊢
  have e:b+(Aj kids+1)-1=b+Aj kids:=by omega
  rw[e]
  unfold CY
  rw[hr]
  dsimp only
  rw[GB (by rw[D6,hl])]
  have key:∀(l:List CT) (b:Nat),(∀t∈l,t∈kids)→OG L b l→Aj l≤f→b+Aj l≤n→Dl n (CY L n f) ((As b l).map fun (x:Nat)=>(x:Int)) (rng b)=rng (b+Aj l):=by
   intro l
   induction l with
   |nil=>intro b _ _ _ _;rw[As,Aj];rfl
   |cons t l ih =>
    intro b hm hs hz hb
    rw[Aj]at hz hb ⊢
    have tp:=t.size_pos
    rw[As,List.map_cons]
    unfold Dl
    rw[if_pos (by rw[Ji];omega),Int.toNat_natCast,O9 t b f (B6.1 hk t (hm t (by simp))) hs.head (by omega) (by omega),ih (b+t.size) (fun x hx=>hm x (by simp[hx])) hs.tail (by omega) (by omega),Nat.add_assoc]
  rw[key kids b (fun t ht=>ht) hs.kids (by omega) (by omega),←Nat.add_assoc,Oj]
termination_by t b f=>f
theorem MY {f:Nat→Int}(ys:List Int):∀(xs:List Int) (e:Int) (b:Nat),C1 f xs e=b→C1 f (xs++ys) e=C1 f ys b
 | [],e,b,h=>by unfold C1 at h;subst h;rfl
 |o::r,e,b,h=>by
  unfold C1 at h
  rw[List.cons_append]
  conv=>lhs;unfold C1
  split at h
  ·omega
  ·rename_i h1
   split at h
   ·omega
   ·rename_i h2
    rw[if_neg h1,if_neg h2,MY ys r _ b h]
theorem Pm {L:List CoD}{n:Nat}(hL:∀(k:Nat) (h:k<L.length),CoOk L[k] k):∀(f i m:Nat) (out:List Int),i<f→i<L.length→CY L n f i out=rng m→m≤n+1→∃b:Nat,out=rng b∧C3 L f i=b∧m=i+1
 | 0,i,m,out,hf,_,_,_=>by omega
 |f+1,i,m,out,hf,hi,h,hm=>by
  have ho:=hL i hi
  unfold CY at h
  unfold C3
  rw[List.getElem?_eq_getElem hi]at h ⊢
  dsimp only at h ⊢
  have hah:=ho.ahead
  generalize L[i].named=ks at *
  have h0:0<m:=by
   rcases Nat.eq_zero_or_pos m with e | e
   ·subst e
    have:=congrArg List.length h
    rw[List.length_append,Ji]at this
    simp at this
   ·exact e
  obtain⟨m',rfl⟩:∃m',m=m'+1:=⟨m-1,by omega⟩
  rw[Oj]at h
  obtain⟨h1,h2⟩:=List.append_inj' h rfl
  have h2':(i:Int)=m':=by simpa using h2
  have h2:i=m':=by omega
  have key:∀(ks out:List Int) (m:Nat),(∀x∈ks,0≤x∧x<(i:Int))→m≤n→Dl n (CY L n f) ks out=rng m→∃b:Nat,out=rng b∧C1 (C3 L f) ks.reverse m=b:=by
   intro ks
   induction ks with
   |nil=>intro out m _ _ h;exact⟨m,h,rfl⟩
   |cons k r ih =>
    intro out m hk hm h
    have hp:=GC (n:=n) (fun k out=>Kl (L:=L) (n:=n) f k out) (k::r) out
    rw[h]at hp
    obtain⟨hp1,hp2⟩:=WK hp
    unfold Dl at h
    rw[if_pos (by omega)]at h
    obtain⟨b1,e1,e2⟩:=ih _ m (fun x hx=>hk x (by simp[hx])) hm h
    obtain⟨k0,k1⟩:=hk k (by simp)
    have hp3:=GC (n:=n) (fun k out=>Kl (L:=L) (n:=n) f k out) r (CY L n f k.toNat out)
    rw[h,e1]at hp3
    have hb1:=(WK hp3).2
    rw[Ji]at hb1
    obtain⟨b,c1,c2,c3⟩:=Pm hL f k.toNat b1 out (by omega) (by omega) e1 (by omega)
    refine⟨b,c1,?_⟩
    rw[List.reverse_cons,MY [k] _ _ b1 e2]
    unfold C1
    rw[if_neg (by omega),c2,if_neg (by omega)]
    rfl
  obtain⟨b,c1,c2⟩:=key ks out m' hah (by omega) h1
  subst h2
  exact⟨b,c1,c2,rfl⟩
theorem Tq {L:List CoD}(hL:∀(k:Nat) (h:k<L.length),CoOk L[k] k) (hn:1≤L.length):CY L L.length L.length (L.length-1) []=rng L.length↔C3 L L.length (L.length-1)=0:=by
 constructor
 ·intro h
  obtain⟨b,h1,h2,_⟩:=Pm hL L.length (L.length-1) L.length [] (by omega) (by omega) h (by omega)
  have:b=0:=by
   have:=congrArg List.length h1
   rw[Ji]at this
   simpa using this.symm
  rw[h2,this]
  rfl
 ·intro h
  obtain⟨t,t1,t2,t3⟩:=RU hL L.length (L.length-1) 0 h
  have:=O9 (n:=L.length) t 0 L.length t1 t2 (by omega) (by omega)
  rw[show 0+t.size-1=L.length-1 by omega,show 0+t.size=L.length by omega]at this
  exact this
def Dw (op num:Int) (k:Nat) (slots:List Int):List Int:=if (op=14∧k=1)∨(op=13∧k=2) then slots++[num] else slots
mutual
def CT.known:CT→List Int→Bool
 | .mk op num _ kids,slots=>if op=15 then slots.contains num else Cy op num 0 kids slots
def Cy (op num:Int) (k:Nat):List CT→List Int→Bool
 | [],_=>true
 |t::r,slots=>t.known (Dw op num k slots)&&Cy op num (k+1) r slots
end
mutual
def CT.depth:CT→Nat
 | .mk _ _ _ kids=>AY kids+1
def AY:List CT→Nat
 | []=>0
 |t::r=>max t.depth (AY r)
end
def B9 (L:List CoD):Nat→Nat→Nat
 | 0,_=>0
 |f+1,i=>match L[i]? with
  |some d=>(d.named.map fun k=>B9 L f k.toNat).foldl max 0+1
  |none=>0
mutual
theorem CT.depth_size:∀t:CT,t.depth≤t.size
 | .mk op num val kids=>by
  have:=HF kids
  rw[CT.depth,CT.size]
  omega
theorem HF:∀l:List CT,AY l≤Aj l
 | []=>by rw[AY];exact Nat.zero_le _
 |t::r=>by
  have:=t.depth_size
  have:=HF r
  rw[AY,Aj]
  omega
end
theorem Xz (l:List Nat):∀a:Nat,l.foldl max a=max a (l.foldl max 0):=by
 induction l with
 |nil=>intro a;simp
 |cons x r ih=>intro a;rw[List.foldl_cons,List.foldl_cons,ih (max a x),ih (max 0 x)];omega
theorem EQ {L:List CoD}:∀(t:CT) (b f:Nat),t.ok→Seg L b t→t.size≤f→B9 L f (b+t.size-1)=t.depth
 | .mk op num val kids,b,0,_,_,hn=>by
  have:=(CT.mk op num val kids).size_pos
  omega
 | .mk op num val kids,b,f+1,ho,hs,hn=>by
  unfold CT.ok at ho
  obtain⟨_,hl,hk⟩:=ho
  have hr:=hs.root
  rw[CT.size]at hn ⊢
  have e:b+(Aj kids+1)-1=b+Aj kids:=by omega
  rw[e]
  unfold B9
  rw[hr]
  dsimp only
  rw[GB (by rw[D6,hl]),List.map_map,CT.depth]
  have key:∀(l:List CT) (b:Nat),(∀t∈l,t∈kids)→OG L b l→Aj l≤f→((As b l).map fun (x:Nat)=>B9 L f x).foldl max 0=AY l:=by
   intro l
   induction l with
   |nil=>intro b _ _ _;rw[As,AY];rfl
   |cons t l ih =>
    intro b hm hs hz
    rw[Aj]at hz
    have tp:=t.size_pos
    rw[As,List.map_cons,List.foldl_cons,Xz,ih (b+t.size) (fun x hx=>hm x (by simp[hx])) hs.tail (by omega),EQ t b f (B6.1 hk t (hm t (by simp))) hs.head (by omega),AY]
    omega
  have:=key kids b (fun t ht=>ht) hs.kids (by omega)
  have e2:((fun k:Int=>B9 L f k.toNat) ∘ fun (x:Nat)=>(x:Int))=fun (x:Nat)=>B9 L f x:=by
   funext x
   simp
  rw[e2,this]
termination_by t b f=>f
mutual
theorem W4 {L:List CoD}:∀(t:CT) (b i:Nat),t.ok→Seg L b t→b≤i→i<b+t.size→∃(s:CT) (c:Nat),s.ok∧Seg L c s∧c+s.size=i+1∧s.depth≤t.depth
 | .mk op num val kids,b,i,ho,hs,h1,h2=>by
  by_cases he:i=b+Aj kids
  ·exact⟨.mk op num val kids,b,ho,hs,by rw[CT.size];omega,Nat.le_refl _⟩
  ·unfold CT.ok at ho
   obtain⟨_,hl,hk⟩:=ho
   rw[CT.size]at h2
   obtain⟨s,c,s1,s2,s3,s4⟩:=WU kids b i hk hs.kids h1 (by omega)
   exact⟨s,c,s1,s2,s3,by rw[CT.depth];omega⟩
theorem WU {L:List CoD}:∀(l:List CT) (b i:Nat),FP l→OG L b l→b≤i→i<b+Aj l→∃(s:CT) (c:Nat),s.ok∧Seg L c s∧c+s.size=i+1∧s.depth≤AY l
 | [],b,i,_,_,h1,h2=>by rw[Aj]at h2;omega
 |t::r,b,i,ho,hs,h1,h2=>by
  unfold FP at ho
  rw[Aj]at h2
  rw[AY]
  by_cases h:i<b+t.size
  ·obtain⟨s,c,s1,s2,s3,s4⟩:=W4 t b i ho.1 hs.head h1 h
   exact⟨s,c,s1,s2,s3,by omega⟩
  ·obtain⟨s,c,s1,s2,s3,s4⟩:=WU r (b+t.size) i ho.2 hs.tail (by omega) (by omega)
   exact⟨s,c,s1,s2,s3,by omega⟩
end
theorem Uo {L:List CoD}{t:CT}(ho:t.ok) (hs:Seg L 0 t) (hn:t.size=L.length) {i:Nat}(hi:i<L.length):B9 L L.length i≤t.depth:=by
 obtain⟨s,c,s1,s2,s3,s4⟩:=W4 t 0 i ho hs (Nat.zero_le _) (by omega)
 have:=EQ s c L.length s1 s2 (by omega)
 rw[show c+s.size-1=i by omega]at this
 omega
def Fx (L:List CoD):Int:=if L.length<1∨900<L.length then 2 else if D3 0 L≠0 then D3 0 L else if C3 L L.length (L.length-1)≠0 then 1 else 0
def TU (t:CT):Int:=if t.known []=false then 4 else if 120<t.depth then 7 else 0
theorem K6 {L:List CoD}(h:Fx L=0):1≤L.length∧L.length≤900∧(∀(k:Nat) (h:k<L.length),CoOk L[k] k)∧∃t:CT,t.ok∧Seg L 0 t∧t.size=L.length∧L=t.flat 0:=by
 unfold Fx at h
 split at h
 ·exact absurd h (by decide)
 ·rename_i h1
  split at h
  ·rename_i h2
   exact absurd h h2
  ·rename_i h2
   split at h
   ·exact absurd h (by decide)
   ·rename_i h3
    have hc:D3 0 L=0:=by simpa using h2
    have hb:C3 L L.length (L.length-1)=0:=by simpa using h3
    have hL:∀(k:Nat) (h:k<L.length),CoOk L[k] k:=fun k hk=>by
     have:=Gx L 0 hc k hk
     rw[Nat.zero_add]at this
     exact Iy this
    obtain⟨t,t1,t2,t3⟩:=RU hL L.length (L.length-1) 0 hb
    refine⟨by omega,by omega,hL,t,t1,t2,by omega,?_⟩
    obtain⟨R,hR⟩:=t2
    have:=congrArg List.length hR
    rw[List.length_drop,List.length_append,CT.flat_len]at this
    have h0:R=[]:=List.eq_nil_of_length_eq_zero (by omega)
    rw[h0,List.append_nil,List.drop_zero]at hR
    exact hR
def Ei (b:Nat) (d:CoD):CoD:=⟨d.op,if 0<Au d.op then d.a+b else d.a,if 1<Au d.op then d.b+b else d.b,if 2<Au d.op then d.c+b else d.c,d.num,d.val⟩
theorem M7 (b:Nat):∀(l:List CT) (c:Nat),As (b+c) l=(As c l).map (b+·)
 | [],c=>by rw[As,As];rfl
 |t::r,c=>by
  have:=t.size_pos
  rw[As,As,List.map_cons,Nat.add_assoc,M7 b r]
  congr 1
  omega
theorem Tj (b:Nat) {op num:Int}{val:List CellD}{ends:List Nat}(h:ends.length=Au op):B8 op num val (ends.map (b+·))=Ei b (B8 op num val ends):=by
 have hal:=Bz op
 unfold Ei B8
 dsimp only
 rw[←h]at hal ⊢
 match ends,hal with
 | [],_=>rfl
 | [x],_=>simp;omega
 | [x,y],_=>simp;omega
 | [x,y,z],_=>simp;omega
 |a::b::c::e::r,h=>simp at h
mutual
theorem Ny (b:Nat):∀(t:CT) (c:Nat),t.ok→t.flat (b+c)=(t.flat c).map (Ei b)
 | .mk op num val kids,c,h=>by
  unfold CT.ok at h
  rw[CT.flat,CT.flat,KR b kids c h.2.2,List.map_append,M7,Tj b (by rw[D6,h.2.1])]
  rfl
theorem KR (b:Nat):∀(l:List CT) (c:Nat),FP l→B3 (b+c) l=(B3 c l).map (Ei b)
 | [],c,_=>by rw[B3,B3];rfl
 |t::r,c,h=>by
  unfold FP at h
  rw[B3,B3,List.map_append,Ny b t c h.1,Nat.add_assoc,KR b r (c+t.size) h.2]
end
theorem Xs {t:CT}(h:t.ok) (b:Nat):t.flat b=(t.flat 0).map (Ei b):=Ny b t 0 h
def CT.top (t:CT):CoD:=B8 t.op t.num t.val (As 0 t.kids)
theorem CT.flat_top (t:CT):t.flat 0=B3 0 t.kids++[t.top]:=by cases t;rw[CT.flat];rfl
mutual
def CT.rw (F:Int→Int→List CellD→List CT→Option CT):CT→CT×Nat
 | .mk op num val kids=>match F op num val (rwL F kids).1 with
  |some q=>(q,(rwL F kids).2+1)
  |none=>(.mk op num val (rwL F kids).1,(rwL F kids).2)
def rwL (F:Int→Int→List CellD→List CT→Option CT):List CT→List CT×Nat
 | []=>([],0)
 |t::r=>((t.rw F).1::(rwL F r).1,(t.rw F).2+(rwL F r).2)
end
theorem MU (F:Int→Int→List CellD→List CT→Option CT):∀l:List CT,(rwL F l).1.length=l.length
 | []=>by rw[rwL]
 |t::r=>by rw[rwL,List.length_cons,MU F r,List.length_cons]
def Jr (F:Int→Int→List CellD→List CT→Option CT):Prop:=∀op num val kids q,(CT.mk op num val kids).ok→F op num val kids=some q→q.ok∧q.size≤(CT.mk op num val kids).size
mutual
theorem y9 {F:Int→Int→List CellD→List CT→Option CT}(hF:Jr F):∀t:CT,t.ok→(t.rw F).1.ok∧(t.rw F).1.size≤t.size∧(t.rw F).2≤t.size
 | .mk op num val kids,h=>by
  unfold CT.ok at h
  obtain⟨h1,h2,h3⟩:=h
  obtain⟨k1,k2,k3⟩:=RL hF kids h3
  have hl:=MU F kids
  have hk:(CT.mk op num val (rwL F kids).1).ok:=by unfold CT.ok;exact⟨h1,by rw[hl,h2],k1⟩
  rw[CT.rw]
  cases hf:F op num val (rwL F kids).1 with
  |none =>
   refine⟨hk,?_,?_⟩
   ·simp only[CT.size];omega
   ·simp only[CT.size];omega
  |some q =>
   obtain⟨q1,q2⟩:=hF _ _ _ _ _ hk hf
   rw[CT.size]at q2
   refine⟨q1,?_,?_⟩
   ·simp only[CT.size];omega
   ·simp only[CT.size];omega
theorem RL {F:Int→Int→List CellD→List CT→Option CT}(hF:Jr F):∀l:List CT,FP l→FP (rwL F l).1∧Aj (rwL F l).1≤Aj l∧(rwL F l).2≤Aj l
 | [],_=>by rw[rwL];exact⟨by unfold FP;trivial,Nat.le_refl _,Nat.zero_le _⟩
 |t::r,h=>by
  unfold FP at h
  obtain⟨a1,a2,a3⟩:=y9 hF t h.1
  obtain⟨b1,b2,b3⟩:=RL hF r h.2
  rw[rwL]
  refine⟨by unfold FP;exact⟨a1,b1⟩,?_,?_⟩
  ·simp only[Aj];omega
  ·simp only[Aj];omega
end
end Go.Proofs.YtcejfdfmgmcinaaGreat
