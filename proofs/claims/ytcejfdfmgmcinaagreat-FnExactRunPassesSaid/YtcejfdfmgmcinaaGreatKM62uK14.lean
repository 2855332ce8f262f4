/- Texts of this proof: M62 M63 K03 K13 K14. -/
import Derived.Test.YtcejfdfmgmcinaaGreatKK02
import Derived.RangeFuncNested
import Derived.RangeFuncBound
import Derived.RangeFuncCalls
import Derived.Test.YtcejfdfmgmcinaaGreatKK12
set_option linter.all false
namespace Go.Proofs.YtcejfdfmgmcinaaGreat
section
open Go.RowKit
def Db (n:Nat) (f:Nat→List Int→List Int):List Int→List Int→List Int
 | [],out=>out
 |k::r,out=>if out.length≤n then Db n f r (f k.toNat out) else out
def CO (L:List CoD) (n:Nat):Nat→Nat→List Int→List Int
 | 0,_,out=>out
 |f+1,i,out=>match L[i]? with
  |some d=>Db n (CO L n f) d.named out++[(i:Int)]
  |none=>out
theorem Mz {n:Nat}{f:Nat→List Int→List Int}{m:Nat}(hf:∀k out,out.length≤n→(f k out).length≤n+m):∀(ks out:List Int),out.length≤n+m→(Db n f ks out).length≤n+m
 | [],out,h=>h
 |k::r,out,h=>by
  unfold Db
  split
  ·rename_i h1
   exact Mz hf r _ (hf _ _ h1)
  ·exact h
theorem Kp {L:List CoD}{n:Nat}:∀(f i:Nat) (out:List Int),out.length≤n→(CO L n f i out).length≤n+f
 | 0,_,out,h=>h
 |f+1,i,out,h=>by
  unfold CO
  cases L[i]? with
  |none=>simp only;omega
  |some d =>
   have:=Mz (n:=n) (f:=CO L n f) (m:=f) (fun k out h=>Kp f k out h) d.named out (by omega)
   simp only[List.length_append,List.length_singleton]
   omega
def rng (m:Nat):List Int:=(List.range m).map fun (x:Nat)=>(x:Int)
theorem Jp (m:Nat):(rng m).length=m:=by unfold rng;simp
theorem Oq (m:Nat):rng (m+1)=rng m++[(m:Int)]:=by unfold rng;rw[List.range_succ,List.map_append];rfl
theorem a0y (m k:Nat) (h:k≤m):(rng m).take k=rng k:=by
 unfold rng
 rw[←List.map_take,List.take_range,Nat.min_eq_left h]
theorem a22 {m k:Nat}(h:k<m):(rng m)[k]? = some (k:Int):=by unfold rng;simp[h]
theorem GE {n:Nat}{f:Nat→List Int→List Int}(hf:∀k out,out <+: f k out):∀(ks out:List Int),out <+: Db n f ks out
 | [],out=>List.prefix_refl _
 |k::r,out=>by
  unfold Db
  split
  ·exact (hf k.toNat out).trans (GE hf r _)
  ·exact List.prefix_refl _
theorem Kq {L:List CoD}{n:Nat}:∀(f i:Nat) (out:List Int),out <+: CO L n f i out
 | 0,_,out=>List.prefix_refl _
 |f+1,i,out=>by
  unfold CO
  cases L[i]? with
  |none=>exact List.prefix_refl _
  |some d=>exact (GE (fun k out=>Kq f k out) d.named out).trans (List.prefix_append _ _)
theorem WV {out:List Int}{m:Nat}(h:out <+: rng m):out=rng out.length∧out.length≤m:=by
 have h1:=h.length_le
 rw[Jp]at h1
 have h2:=List.prefix_iff_eq_take.1 h
 rw[a0y _ _ h1]at h2
 exact⟨h2,h1⟩
theorem Og {L:List CoD}{n:Nat}:∀(t:CT) (b f:Nat),t.ok→Seg L b t→t.size≤f→b+t.size≤n+1→CO L n f (b+t.size-1) (rng b)=rng (b+t.size)
 | .mk op num val kids,b,0,_,_,hn,_=>by
  have:=(CT.mk op num val kids).size_pos
  omega
 | .mk op num val kids,b,f+1,ho,hs,hn,hz=>by
  unfold CT.ok at ho
  obtain⟨_,hl,hk⟩:=ho
  have hr:=hs.root
  rw[CT.size]at hn hz ⊢
  have e:b+(Ah kids+1)-1=b+Ah kids:=by omega
  rw[e]
  unfold CO
  rw[hr]
  dsimp only
  rw[GD (by rw[Df,hl])]
  have key:∀(l:List CT) (b:Nat),(∀t∈l,t∈kids)→OL L b l→Ah l≤f→b+Ah l≤n→Db n (CO L n f) ((Az b l).map fun (x:Nat)=>(x:Int)) (rng b)=rng (b+Ah l):=by
   intro l
   induction l with
   |nil=>intro b _ _ _ _;rw[Az,Ah];rfl
   |cons t l ih =>
    intro b hm hs hz hb
    rw[Ah]at hz hb ⊢
    have tp:=t.size_pos
    rw[Az,List.map_cons]
    unfold Db
    rw[if_pos (by rw[Jp];omega),Int.toNat_natCast,Og t b f (B4.1 hk t (hm t (by simp))) hs.head (by omega) (by omega),ih (b+t.size) (fun x hx=>hm x (by simp[hx])) hs.tail (by omega) (by omega),Nat.add_assoc]
  rw[key kids b (fun t ht=>ht) hs.kids (by omega) (by omega),←Nat.add_assoc,Oq]
termination_by t b f=>f
theorem N4 {f:Nat→Int}(ys:List Int):∀(xs:List Int) (e:Int) (b:Nat),BY f xs e=b→BY f (xs++ys) e=BY f ys b
 | [],e,b,h=>by unfold BY at h;subst h;rfl
 |o::r,e,b,h=>by
  unfold BY at h
  rw[List.cons_append]
  conv=>lhs;unfold BY
  split at h
  ·omega
  ·rename_i h1
   split at h
   ·omega
   ·rename_i h2
    rw[if_neg h1,if_neg h2,N4 ys r _ b h]
theorem Ps {L:List CoD}{n:Nat}(hL:∀(k:Nat) (h:k<L.length),CoOk L[k] k):∀(f i m:Nat) (out:List Int),i<f→i<L.length→CO L n f i out=rng m→m≤n+1→∃b:Nat,out=rng b∧C0 L f i=b∧m=i+1
 | 0,i,m,out,hf,_,_,_=>by omega
 |f+1,i,m,out,hf,hi,h,hm=>by
  have ho:=hL i hi
  unfold CO at h
  unfold C0
  rw[List.getElem?_eq_getElem hi]at h ⊢
  dsimp only at h ⊢
  have hah:=ho.ahead
  generalize L[i].named=ks at *
  have h0:0<m:=by
   rcases Nat.eq_zero_or_pos m with e | e
   ·subst e
    have:=congrArg List.length h
    rw[List.length_append,Jp]at this
    simp at this
   ·exact e
  obtain⟨m',rfl⟩:∃m',m=m'+1:=⟨m-1,by omega⟩
  rw[Oq]at h
  obtain⟨h1,h2⟩:=List.append_inj' h rfl
  have h2':(i:Int)=m':=by simpa using h2
  have h2:i=m':=by omega
  have key:∀(ks out:List Int) (m:Nat),(∀x∈ks,0≤x∧x<(i:Int))→m≤n→Db n (CO L n f) ks out=rng m→∃b:Nat,out=rng b∧BY (C0 L f) ks.reverse m=b:=by
   intro ks
   induction ks with
   |nil=>intro out m _ _ h;exact⟨m,h,rfl⟩
   |cons k r ih =>
    intro out m hk hm h
    have hp:=GE (n:=n) (fun k out=>Kq (L:=L) (n:=n) f k out) (k::r) out
    rw[h]at hp
    obtain⟨hp1,hp2⟩:=WV hp
    unfold Db at h
    rw[if_pos (by omega)]at h
    obtain⟨b1,e1,e2⟩:=ih _ m (fun x hx=>hk x (by simp[hx])) hm h
    obtain⟨k0,k1⟩:=hk k (by simp)
    have hp3:=GE (n:=n) (fun k out=>Kq (L:=L) (n:=n) f k out) r (CO L n f k.toNat out)
    rw[h,e1]at hp3
    have hb1:=(WV hp3).2
    rw[Jp]at hb1
    obtain⟨b,c1,c2,c3⟩:=Ps hL f k.toNat b1 out (by omega) (by omega) e1 (by omega)
    refine⟨b,c1,?_⟩
    rw[List.reverse_cons,N4 [k] _ _ b1 e2]
    unfold BY
    rw[if_neg (by omega),c2,if_neg (by omega)]
    rfl
  obtain⟨b,c1,c2⟩:=key ks out m' hah (by omega) h1
  subst h2
  exact⟨b,c1,c2,rfl⟩
theorem TA {L:List CoD}(hL:∀(k:Nat) (h:k<L.length),CoOk L[k] k) (hn:1≤L.length):CO L L.length L.length (L.length-1) []=rng L.length↔C0 L L.length (L.length-1)=0:=by
 constructor
 ·intro h
  obtain⟨b,h1,h2,_⟩:=Ps hL L.length (L.length-1) L.length [] (by omega) (by omega) h (by omega)
  have:b=0:=by
   have:=congrArg List.length h1
   rw[Jp]at this
   simpa using this.symm
  rw[h2,this]
  rfl
 ·intro h
  obtain⟨t,t1,t2,t3⟩:=S5 hL L.length (L.length-1) 0 h
  have:=Og (n:=L.length) t 0 L.length t1 t2 (by omega) (by omega)
  rw[show 0+t.size-1=L.length-1 by omega,show 0+t.size=L.length by omega]at this
  exact this
def Dn (op num:Int) (k:Nat) (slots:List Int):List Int:=if (op=14∧k=1)∨(op=13∧k=2) then slots++[num] else slots
mutual
def CT.known:CT→List Int→Bool
 | .mk op num _ kids,slots=>if op=15 then slots.contains num else Cq op num 0 kids slots
def Cq (op num:Int) (k:Nat):List CT→List Int→Bool
 | [],_=>true
 |t::r,slots=>t.known (Dn op num k slots)&&Cq op num (k+1) r slots
end
mutual
def CT.depth:CT→Nat
 | .mk _ _ _ kids=>AX kids+1
def AX:List CT→Nat
 | []=>0
 |t::r=>max t.depth (AX r)
end
def B7 (L:List CoD):Nat→Nat→Nat
 | 0,_=>0
 |f+1,i=>match L[i]? with
  |some d=>(d.named.map fun k=>B7 L f k.toNat).foldl max 0+1
  |none=>0
mutual
theorem CT.depth_size:∀t:CT,t.depth≤t.size
 | .mk op num val kids=>by
  have:=HN kids
  rw[CT.depth,CT.size]
  omega
theorem HN:∀l:List CT,AX l≤Ah l
 | []=>by rw[AX];exact Nat.zero_le _
 |t::r=>by
  have:=t.depth_size
  have:=HN r
  rw[AX,Ah]
  omega
end
theorem XQ (l:List Nat):∀a:Nat,l.foldl max a=max a (l.foldl max 0):=by
 induction l with
 |nil=>intro a;simp
 |cons x r ih=>intro a;rw[List.foldl_cons,List.foldl_cons,ih (max a x),ih (max 0 x)];omega
theorem EM {L:List CoD}:∀(t:CT) (b f:Nat),t.ok→Seg L b t→t.size≤f→B7 L f (b+t.size-1)=t.depth
 | .mk op num val kids,b,0,_,_,hn=>by
  have:=(CT.mk op num val kids).size_pos
  omega
 | .mk op num val kids,b,f+1,ho,hs,hn=>by
  unfold CT.ok at ho
  obtain⟨_,hl,hk⟩:=ho
  have hr:=hs.root
  rw[CT.size]at hn ⊢
  have e:b+(Ah kids+1)-1=b+Ah kids:=by omega
  rw[e]
  unfold B7
  rw[hr]
  dsimp only
  rw[GD (by rw[Df,hl]),List.map_map,CT.depth]
  have key:∀(l:List CT) (b:Nat),(∀t∈l,t∈kids)→OL L b l→Ah l≤f→((Az b l).map fun (x:Nat)=>B7 L f x).foldl max 0=AX l:=by
   intro l
   induction l with
   |nil=>intro b _ _ _;rw[Az,AX];rfl
   |cons t l ih =>
    intro b hm hs hz
    rw[Ah]at hz
    have tp:=t.size_pos
    rw[Az,List.map_cons,List.foldl_cons,XQ,ih (b+t.size) (fun x hx=>hm x (by simp[hx])) hs.tail (by omega),EM t b f (B4.1 hk t (hm t (by simp))) hs.head (by omega),AX]
    omega
  have:=key kids b (fun t ht=>ht) hs.kids (by omega)
  have e2:((fun k:Int=>B7 L f k.toNat) ∘ fun (x:Nat)=>(x:Int))=fun (x:Nat)=>B7 L f x:=by
   funext x
   simp
  rw[e2,this]
termination_by t b f=>f
mutual
theorem Wh {L:List CoD}:∀(t:CT) (b i:Nat),t.ok→Seg L b t→b≤i→i<b+t.size→∃(s:CT) (c:Nat),s.ok∧Seg L c s∧c+s.size=i+1∧s.depth≤t.depth
 | .mk op num val kids,b,i,ho,hs,h1,h2=>by
  by_cases he:i=b+Ah kids
  ·exact⟨.mk op num val kids,b,ho,hs,by rw[CT.size];omega,Nat.le_refl _⟩
  ·unfold CT.ok at ho
   obtain⟨_,hl,hk⟩:=ho
   rw[CT.size]at h2
   obtain⟨s,c,s1,s2,s3,s4⟩:=X8 kids b i hk hs.kids h1 (by omega)
   exact⟨s,c,s1,s2,s3,by rw[CT.depth];omega⟩
theorem X8 {L:List CoD}:∀(l:List CT) (b i:Nat),FO l→OL L b l→b≤i→i<b+Ah l→∃(s:CT) (c:Nat),s.ok∧Seg L c s∧c+s.size=i+1∧s.depth≤AX l
 | [],b,i,_,_,h1,h2=>by rw[Ah]at h2;omega
 |t::r,b,i,ho,hs,h1,h2=>by
  unfold FO at ho
  rw[Ah]at h2
  rw[AX]
  by_cases h:i<b+t.size
  ·obtain⟨s,c,s1,s2,s3,s4⟩:=Wh t b i ho.1 hs.head h1 h
   exact⟨s,c,s1,s2,s3,by omega⟩
  ·obtain⟨s,c,s1,s2,s3,s4⟩:=X8 r (b+t.size) i ho.2 hs.tail (by omega) (by omega)
   exact⟨s,c,s1,s2,s3,by omega⟩
end
theorem UB {L:List CoD}{t:CT}(ho:t.ok) (hs:Seg L 0 t) (hn:t.size=L.length) {i:Nat}(hi:i<L.length):B7 L L.length i≤t.depth:=by
 obtain⟨s,c,s1,s2,s3,s4⟩:=Wh t 0 i ho hs (Nat.zero_le _) (by omega)
 have:=EM s c L.length s1 s2 (by omega)
 rw[show c+s.size-1=i by omega]at this
 omega
def Ft (L:List CoD):Int:=if L.length<1∨900<L.length then 2 else if CQ 0 L≠0 then CQ 0 L else if C0 L L.length (L.length-1)≠0 then 1 else 0
def U5 (t:CT):Int:=if t.known []=false then 4 else if 120<t.depth then 7 else 0
theorem Kd {L:List CoD}(h:Ft L=0):1≤L.length∧L.length≤900∧(∀(k:Nat) (h:k<L.length),CoOk L[k] k)∧∃t:CT,t.ok∧Seg L 0 t∧t.size=L.length∧L=t.flat 0:=by
 unfold Ft at h
 split at h
 ·exact absurd h (by decide)
 ·rename_i h1
  split at h
  ·rename_i h2
   exact absurd h h2
  ·rename_i h2
   split at h
   ·exact absurd h (by decide)
   ·rename_i h3
    have hc:CQ 0 L=0:=by simpa using h2
    have hb:C0 L L.length (L.length-1)=0:=by simpa using h3
    have hL:∀(k:Nat) (h:k<L.length),CoOk L[k] k:=fun k hk=>by
     have:=GA L 0 hc k hk
     rw[Nat.zero_add]at this
     exact ID this
    obtain⟨t,t1,t2,t3⟩:=S5 hL L.length (L.length-1) 0 hb
    refine⟨by omega,by omega,hL,t,t1,t2,by omega,?_⟩
    obtain⟨R,hR⟩:=t2
    have:=congrArg List.length hR
    rw[List.length_drop,List.length_append,CT.flat_len]at this
    have h0:R=[]:=List.eq_nil_of_length_eq_zero (by omega)
    rw[h0,List.append_nil,List.drop_zero]at hR
    exact hR
def Ec (b:Nat) (d:CoD):CoD:=⟨d.op,if 0<Au d.op then d.a+b else d.a,if 1<Au d.op then d.b+b else d.b,if 2<Au d.op then d.c+b else d.c,d.num,d.val⟩
theorem Me (b:Nat):∀(l:List CT) (c:Nat),Az (b+c) l=(Az c l).map (b+·)
 | [],c=>by rw[Az,Az];rfl
 |t::r,c=>by
  have:=t.size_pos
  rw[Az,Az,List.map_cons,Nat.add_assoc,Me b r]
  congr 1
  omega
theorem Tt (b:Nat) {op num:Int}{val:List CellD}{ends:List Nat}(h:ends.length=Au op):B9 op num val (ends.map (b+·))=Ec b (B9 op num val ends):=by
 have hal:=Bx op
 unfold Ec B9
 dsimp only
 rw[←h]at hal ⊢
 match ends,hal with
 | [],_=>rfl
 | [x],_=>simp;omega
 | [x,y],_=>simp;omega
 | [x,y,z],_=>simp;omega
 |a::b::c::e::r,h=>simp at h
mutual
theorem NF (b:Nat):∀(t:CT) (c:Nat),t.ok→t.flat (b+c)=(t.flat c).map (Ec b)
 | .mk op num val kids,c,h=>by
  unfold CT.ok at h
  rw[CT.flat,CT.flat,KZ b kids c h.2.2,List.map_append,Me,Tt b (by rw[Df,h.2.1])]
  rfl
theorem KZ (b:Nat):∀(l:List CT) (c:Nat),FO l→B5 (b+c) l=(B5 c l).map (Ec b)
 | [],c,_=>by rw[B5,B5];rfl
 |t::r,c,h=>by
  unfold FO at h
  rw[B5,B5,List.map_append,NF b t c h.1,Nat.add_assoc,KZ b r (c+t.size) h.2]
end
theorem XI {t:CT}(h:t.ok) (b:Nat):t.flat b=(t.flat 0).map (Ec b):=NF b t 0 h
def CT.top (t:CT):CoD:=B9 t.op t.num t.val (Az 0 t.kids)
theorem CT.flat_top (t:CT):t.flat 0=B5 0 t.kids++[t.top]:=by cases t;rw[CT.flat];rfl
mutual
def CT.rw (F:Int→Int→List CellD→List CT→Option CT):CT→CT×Nat
 | .mk op num val kids=>match F op num val (rwL F kids).1 with
  |some q=>(q,(rwL F kids).2+1)
  |none=>(.mk op num val (rwL F kids).1,(rwL F kids).2)
def rwL (F:Int→Int→List CellD→List CT→Option CT):List CT→List CT×Nat
 | []=>([],0)
 |t::r=>((t.rw F).1::(rwL F r).1,(t.rw F).2+(rwL F r).2)
end
theorem N0 (F:Int→Int→List CellD→List CT→Option CT):∀l:List CT,(rwL F l).1.length=l.length
 | []=>by rw[rwL]
 |t::r=>by rw[rwL,List.length_cons,N0 F r,List.length_cons]
def JA (F:Int→Int→List CellD→List CT→Option CT):Prop:=∀op num val kids q,(CT.mk op num val kids).ok→F op num val kids=some q→q.ok∧q.size≤(CT.mk op num val kids).size
mutual
theorem X5 {F:Int→Int→List CellD→List CT→Option CT}(hF:JA F):∀t:CT,t.ok→(t.rw F).1.ok∧(t.rw F).1.size≤t.size∧(t.rw F).2≤t.size
 | .mk op num val kids,h=>by
  unfold CT.ok at h
  obtain⟨h1,h2,h3⟩:=h
  obtain⟨k1,k2,k3⟩:=RS hF kids h3
  have hl:=N0 F kids
  have hk:(CT.mk op num val (rwL F kids).1).ok:=by unfold CT.ok;exact⟨h1,by rw[hl,h2],k1⟩
  rw[CT.rw]
  cases hf:F op num val (rwL F kids).1 with
  |none =>
   refine⟨hk,?_,?_⟩
   ·simp only[CT.size];omega
   ·simp only[CT.size];omega
  |some q =>
   obtain⟨q1,q2⟩:=hF _ _ _ _ _ hk hf
   rw[CT.size]at q2
   refine⟨q1,?_,?_⟩
   ·simp only[CT.size];omega
   ·simp only[CT.size];omega
theorem RS {F:Int→Int→List CellD→List CT→Option CT}(hF:JA F):∀l:List CT,FO l→FO (rwL F l).1∧Ah (rwL F l).1≤Ah l∧(rwL F l).2≤Ah l
 | [],_=>by rw[rwL];exact⟨by unfold FO;trivial,Nat.le_refl _,Nat.zero_le _⟩
 |t::r,h=>by
  unfold FO at h
  obtain⟨a1,a2,a3⟩:=X5 hF t h.1
  obtain⟨b1,b2,b3⟩:=RS hF r h.2
  rw[rwL]
  refine⟨by unfold FO;exact⟨a1,b1⟩,?_,?_⟩
  ·simp only[Ah];omega
  ·simp only[Ah];omega
end
set_option maxRecDepth 10000
theorem Ed {a b:Int}(h:a≠b):(a==b)=false:=beq_eq_false_iff_ne.2 h
theorem JB {a b:Int}(h:a=b):(a != b)=false:=by simp[h]
theorem E9 {a b:Int}(h:a≠b):(a != b)=true:=by simp[h]
theorem GZ {a b:Int}(h:a=b):(a==b)=true:=by simp[h]
theorem Ty {op:Int}(h1:1≤op) (h2:op≤17):op=1∨op=2∨op=3∨op=4∨op=5∨op=6∨op=7∨op=8∨op=9∨op=10∨op=11∨op=12∨op=13∨op=14∨op=15∨op=16∨op=17:=by omega
theorem G0 (op:Int) (h1:1≤op) (h2:op≤17):AC Tryz.prog 133 [.c (.int .i64 op)] [] (.c (.int .i64 (Au op:Nat))) []:=by
 rcases Ty h1 h2 with rfl | rfl | rfl | rfl | rfl | rfl | rfl | rfl | rfl | rfl | rfl | rfl | rfl | rfl | rfl | rfl | rfl
 all_goals
  first | (show AC _ _ _ _ (.c (.int .i64 0)) _) | (show AC _ _ _ _ (.c (.int .i64 2)) _) | (show AC _ _ _ _ (.c (.int .i64 1)) _) | (show AC _ _ _ _ (.c (.int .i64 3)) _)
  refine AA Tryz.func133 Tryz.ntmps133 ?_
  refine Aq q9 ?_
  exact Ag (A5 []) Tryz.results133
def CoD.kid (d:CoD) (k:Nat):Int:=if k=0 then d.a else if k=1 then d.b else d.c
theorem IQ (d:CoD) (k:Nat) (hk:k<3):AC Tryz.prog 135 [d.av,.c (.int .i64 k)] [] (.c (.int .i64 (d.kid k))) []:=by
 have q0:(((0:Nat):Int)==0)=true:=rfl
 have q1:(((1:Nat):Int)==0)=false:=rfl
 have q2:(((2:Nat):Int)==0)=false:=rfl
 have q3:(((1:Nat):Int)==1)=true:=rfl
 have q4:(((2:Nat):Int)==1)=false:=rfl
 have:k=0∨k=1∨k=2:=by omega
 rcases this with rfl | rfl | rfl
 ·show AC _ _ _ _ (.c (.int .i64 d.a)) _
  refine A6 Tryz.func135 Tryz.ntmps135 (j5 q0 q1 q2 q3 q4) ?_
  exact Ag (A5 []) Tryz.results135
 ·show AC _ _ _ _ (.c (.int .i64 d.b)) _
  refine A6 Tryz.func135 Tryz.ntmps135 (j5 q0 q1 q2 q3 q4) ?_
  exact Ag (A5 []) Tryz.results135
 ·show AC _ _ _ _ (.c (.int .i64 d.c)) _
  refine A6 Tryz.func135 Tryz.ntmps135 (j5 q0 q1 q2 q3 q4) ?_
  exact Ag (A5 []) Tryz.results135
def IV (op:Int):Int:=if op=6∨op=16 then 1 else 0
def Gn (op:Int):Int:=if op=6 then 11 else if op=13∨op=14∨op=15 then 59 else if op=16 then 8 else 0
theorem Yj (op:Int) (h1:1≤op) (h2:op≤17):AC Tryz.prog 214 [.c (.int .i64 op)] [] (.tup [.c (.int .i64 (IV op)),.c (.int .i64 (Gn op))]) []:=by
 rcases Ty h1 h2 with rfl | rfl | rfl | rfl | rfl | rfl | rfl | rfl | rfl | rfl | rfl | rfl | rfl | rfl | rfl | rfl | rfl
 all_goals
  first | (show AC _ _ _ _ (.tup [.c (.int .i64 0),.c (.int .i64 0)]) _) | (show AC _ _ _ _ (.tup [.c (.int .i64 1),.c (.int .i64 11)]) _) | (show AC _ _ _ _ (.tup [.c (.int .i64 0),.c (.int .i64 59)]) _) | (show AC _ _ _ _ (.tup [.c (.int .i64 1),.c (.int .i64 8)]) _)
  refine AA Tryz.func214 Tryz.ntmps214 ?_
  refine Aq q9 ?_
  exact Ag (A5 []) Tryz.results214
theorem Tg (op:Int):AC Tryz.prog 215 [.c (.int .i64 op)] [] (.c (.bool (BX op))) []:=by
 unfold BX
 cases h1:(op==2)<;>cases h2:(op==11)
 all_goals
  refine A6 Tryz.func215 Tryz.ntmps215 (j2 h1 h2) ?_
  exact Ag (A5 []) Tryz.results215
theorem KN (op:Int) (h1:1≤op) (h2:op≤17):AC Tryz.prog 261 [.c (.int .i64 op)] [] (.c (.int .i64 (Au op:Nat))) []:=by
 rcases Ty h1 h2 with rfl | rfl | rfl | rfl | rfl | rfl | rfl | rfl | rfl | rfl | rfl | rfl | rfl | rfl | rfl | rfl | rfl
 all_goals
  first | (show AC _ _ _ _ (.c (.int .i64 0)) _) | (show AC _ _ _ _ (.c (.int .i64 2)) _) | (show AC _ _ _ _ (.c (.int .i64 1)) _) | (show AC _ _ _ _ (.c (.int .i64 3)) _)
  refine AA Tryz.func261 Tryz.ntmps261 ?_
  refine Aq q9 ?_
  exact Ag (A5 []) Tryz.results261
theorem JE (d:CoD):AC Tryz.prog 217 [d.av] [] (.c (.bool (BX d.op))) []:=by
 unfold BX
 cases h1:(d.op==2)<;>cases h2:(d.op==11)
 all_goals
  refine A6 Tryz.func217 Tryz.ntmps217 (j2 h1 h2) ?_
  exact Ag (A5 []) Tryz.results217
theorem OS (d:CoD) (h1:1≤d.op) (h2:d.op≤17):AC Tryz.prog 285 [d.av] [] (.c (.bool (EP d.op))) []:=by
 obtain⟨op,a,b,c,num,val⟩:=d
 dsimp only at h1 h2
 rcases Ty h1 h2 with rfl | rfl | rfl | rfl | rfl | rfl | rfl | rfl | rfl | rfl | rfl | rfl | rfl | rfl | rfl | rfl | rfl
 all_goals
  first | (show AC _ _ _ _ (.c (.bool false)) _) | (show AC _ _ _ _ (.c (.bool true)) _)
  refine AA Tryz.func285 Tryz.ntmps285 ?_
  refine Aq q9 ?_
  exact Ag (A5 []) Tryz.results285
theorem Rm (d:CoD) (h1:1≤d.op) (h2:d.op≤17):AC Tryz.prog 218 [d.av] [] (.c (.bool (FA d))) []:=by
 obtain⟨op,a,b,c,num,val⟩:=d
 dsimp only at h1 h2
 have w1:=ED num 1 11
 have w2:=ED num 0 59
 have w3:=ED num 1 8
 rcases Ty h1 h2 with rfl | rfl | rfl | rfl | rfl | rfl | rfl | rfl | rfl | rfl | rfl | rfl | rfl | rfl | rfl | rfl | rfl
 ·show AC _ _ _ _ (.c (.bool true)) _
  refine AA Tryz.func218 Tryz.ntmps218 ?_
  refine Aq q9 ?_
  exact Ag (A5 []) Tryz.results218
 ·show AC _ _ _ _ (.c (.bool true)) _
  refine AA Tryz.func218 Tryz.ntmps218 ?_
  refine Aq q9 ?_
  exact Ag (A5 []) Tryz.results218
 ·show AC _ _ _ _ (.c (.bool true)) _
  refine AA Tryz.func218 Tryz.ntmps218 ?_
  refine Aq q9 ?_
  exact Ag (A5 []) Tryz.results218
 ·show AC _ _ _ _ (.c (.bool true)) _
  refine AA Tryz.func218 Tryz.ntmps218 ?_
  refine Aq q9 ?_
  exact Ag (A5 []) Tryz.results218
 ·show AC _ _ _ _ (.c (.bool true)) _
  refine AA Tryz.func218 Tryz.ntmps218 ?_
  refine Aq q9 ?_
  exact Ag (A5 []) Tryz.results218
 ·show AC _ _ _ _ (.c (.bool (decide (num≥1)&&decide (num≤11)))) _
  refine AA Tryz.func218 Tryz.ntmps218 ?_
  refine Aq q9 ?_
  refine v7 (A3 [] w1) q9 q9 ?_
  exact Ag (A5 []) Tryz.results218
 ·show AC _ _ _ _ (.c (.bool true)) _
  refine AA Tryz.func218 Tryz.ntmps218 ?_
  refine Aq q9 ?_
  exact Ag (A5 []) Tryz.results218
 ·show AC _ _ _ _ (.c (.bool true)) _
  refine AA Tryz.func218 Tryz.ntmps218 ?_
  refine Aq q9 ?_
  exact Ag (A5 []) Tryz.results218
 ·show AC _ _ _ _ (.c (.bool true)) _
  refine AA Tryz.func218 Tryz.ntmps218 ?_
  refine Aq q9 ?_
  exact Ag (A5 []) Tryz.results218
 ·show AC _ _ _ _ (.c (.bool true)) _
  refine AA Tryz.func218 Tryz.ntmps218 ?_
  refine Aq q9 ?_
  exact Ag (A5 []) Tryz.results218
 ·show AC _ _ _ _ (.c (.bool true)) _
  refine AA Tryz.func218 Tryz.ntmps218 ?_
  refine Aq q9 ?_
  exact Ag (A5 []) Tryz.results218
 ·show AC _ _ _ _ (.c (.bool true)) _
  refine AA Tryz.func218 Tryz.ntmps218 ?_
  refine Aq q9 ?_
  exact Ag (A5 []) Tryz.results218
 ·show AC _ _ _ _ (.c (.bool (decide (num≥0)&&decide (num≤59)))) _
  refine AA Tryz.func218 Tryz.ntmps218 ?_
  refine Aq q9 ?_
  refine v7 (A3 [] w2) q9 q9 ?_
  exact Ag (A5 []) Tryz.results218
 ·show AC _ _ _ _ (.c (.bool (decide (num≥0)&&decide (num≤59)))) _
  refine AA Tryz.func218 Tryz.ntmps218 ?_
  refine Aq q9 ?_
  refine v7 (A3 [] w2) q9 q9 ?_
  exact Ag (A5 []) Tryz.results218
 ·show AC _ _ _ _ (.c (.bool (decide (num≥0)&&decide (num≤59)))) _
  refine AA Tryz.func218 Tryz.ntmps218 ?_
  refine Aq q9 ?_
  refine v7 (A3 [] w2) q9 q9 ?_
  exact Ag (A5 []) Tryz.results218
 ·show AC _ _ _ _ (.c (.bool (decide (num≥1)&&decide (num≤8)))) _
  refine AA Tryz.func218 Tryz.ntmps218 ?_
  refine Aq q9 ?_
  refine v7 (A3 [] w3) q9 q9 ?_
  exact Ag (A5 []) Tryz.results218
 ·show AC _ _ _ _ (.c (.bool true)) _
  refine AA Tryz.func218 Tryz.ntmps218 ?_
  refine Aq q9 ?_
  exact Ag (A5 []) Tryz.results218
end
section
open Go.RowKit Go.Shelf
attribute [local go_sem] Oper.semAt_some
theorem AC.calls_row {P:Program}{f:FuncId}{args:List AV}{ex:Bool}{es:Nat}{e:TypeId}{rows:List (List C)}(h:AC P f args [] (.own (0,0)) [((0,0),.row ex es e rows)]) {w:World}{S:Nat→Prop}{vals:List Value}
  (hv:∀(T:Nat→Prop),(∀b,S b→T b)→∀κ,ARs w T [] κ args vals):Calls P f vals.toArray w fun e1 w'=>Below w.heap.size w w'∧∃v T vrows bs,e1=.returned v∧An w' T rows vrows bs∧(∀x∈vrows,x.length=es)∧w'.ownsRow w.heap.size e es v rows.length vrows.flatten:=by
 let Γ:Ctx:=⟨w,S,fun _=>none,fun _=>.bool false,[]⟩
 have hE:Entry Γ []:=⟨fun i o hi=>(by simp[Mem.get]at hi),fun b i hb=>(by cases hb),rfl⟩
 refine (h Γ vals hE (hv _ (fun b hb=>⟨rfl,.inl hb⟩) _)).mono ?_
 rintro e1 w' ⟨v,ow,κ,rfl,hx⟩
 refine⟨⟨hx.os,hx.tape,hx.output,hx.size,fun b hb=>(hx.frame b hb rfl).1⟩,?_⟩
 obtain⟨h1,o,ho,hk⟩:=hx.res
 have ho':o=.row ex es e rows:=by
  have:(Mem.get [((0,0),AO.row ex es e rows)] (0,0))=some (AO.row ex es e rows):=rfl
  rw[this]at ho
  exact (Option.some.inj ho).symm
 subst ho'
 have hvk:=hk (by simp)
 subst hvk
 obtain⟨vrows,bs,r1,_,r3,r4,_,r6⟩:=hx.objs (0,0) _ rfl
 refine⟨κ (0,0),_,vrows,bs,rfl,r1,r3,r4.1,?_⟩
 rcases r4.2 with r | ⟨g,cap,cur,e1,_,r⟩
 ·exact .inl r
 ·refine .inr ⟨g,cap,cur,e1,?_,r⟩
  by_cases hg:g<w.heap.size
  ·have:=(hx.frame g hg rfl).2
   rw[r6 g (by rw[e1];simp[Value.ownBlock])]at this
   cases this
  ·exact Nat.le_of_not_lt hg
theorem t8 (l:List Int) {w:World}{T:Nat→Prop}:∀{vrows:List (List Value)}{bs:List Nat},An w T (l.map As) vrows bs→vrows=l.map fun z=>[Value.int .i64 z]:=by
 induction l with
 |nil=>intro vrows bs h;exact h.1
 |cons z l ih =>
  intro vrows bs h
  obtain⟨v,vs',b1,b2,rfl,_,h1,h2⟩:=h
  obtain⟨u,us,c1,c2,rfl,_,⟨rfl,_⟩,h3,_⟩:=h1
  subst h3
  rw[ih h2]
  rfl
theorem XJ (l:List Int):(l.map fun z=>[Value.int .i64 z]).flatten=l.map (Value.int .i64):=by
 induction l with
 |nil=>rfl
 |cons z l ih=>simp only[List.map_cons,List.flatten_cons,ih];rfl
theorem a2g {w:World}{base:Nat}{e:TypeId}{v:Value}{zs:List Int}(h:w.ownsRow base e 1 v zs.length (zs.map (Value.int .i64))):∃A cap b,v=.slice A zs.length cap∧(zs=[]∨(base≤b∧b<w.heap.size))∧JT b w A zs:=by
 rcases h.2 with⟨rfl,h1⟩ | ⟨g,cap,cur,rfl,hg,hh,h1⟩
 ·have:zs=[]:=by
   cases zs with
   |nil=>rfl
   |cons z l=>simp at h1
  subst this
  exact⟨_,_,0,rfl,.inl rfl,.inl rfl⟩
 ·refine⟨_,cap,g,rfl,.inr ⟨hg,(Array.getElem?_eq_some_iff.1 hh).1⟩,.inr ⟨0,rfl,fun j hj=>?_⟩⟩
  have hlen:=h.1
  have hcur:cur[j]? = some (.int .i64 (zs.getD j 0)):=by
   have h2:=h1.2.2.2
   have h3:(cur.toList.take (zs.length*1))[j]? = (zs.map (Value.int .i64))[j]?:=by rw[h2]
   rw[List.getElem?_take,if_pos (by omega),List.getElem?_map,List.getElem?_eq_getElem hj]at h3
   rw[←Array.getElem?_toList,h3,List.getD_eq_getElem?_getD,List.getElem?_eq_getElem hj]
   rfl
  simp[World.cell?,hh,hcur]
set_option maxRecDepth 10000
theorem O8 (d:CoD) (h1:1≤d.op) (h2:d.op≤17):AC Tryz.prog 191 [d.av] [] (.own (0,0)) [((0,0),.row false 1 2 (d.named.map As))]:=by
 have har:=Bx d.op
 have hp:Au d.op≤([[C.int .i64 d.a],[C.int .i64 d.b],[C.int .i64 d.c]]:List (List C)).length:=har
 have hpi:(Au d.op:Int)≤(([[C.int .i64 d.a],[C.int .i64 d.b],[C.int .i64 d.c]]:List (List C)).length:Int):=Int.ofNat_le.2 har
 have hp0:(0:Int)≤(Au d.op:Int):=by omega
 have hfin:([[C.int .i64 d.a],[C.int .i64 d.b],[C.int .i64 d.c]]).take (Au d.op)=d.named.map As:=by
  unfold CoD.named CoD.all
  rw[List.map_take]
  rfl
 refine A6 Tryz.func191 Tryz.ntmps191 q9 ?_
 refine w7 (A3 [] (KN d.op h1 h2)) q9 ?_
 ((with_reducible apply Q8);(iterate 10 (focus (first | exact⟨hp0,hpi⟩ | (simp only[go_sem,Nat.reduceEqDiff,Nat.reduceAdd,Nat.reduceSub,Nat.reduceLeDiff,Nat.reduceMul,Nat.reduceBEq,Nat.reduceLT,Int.reduceToNat,reduceCtorEq];first | done | exact rfl | (and_intros<;>rfl)) | exact rfl | decide))))
 refine Ab q9 ?_
 exact Aa (A9 [((0,0),(13,0))] []) Tryz.results191 hfin
attribute [local go_sem] Oper.semAt_some
def Hv (w:World) (S:Nat→Prop) (A:Option Addr) (L:List CoD):Prop:=L=[]∨∃vrows,Row w S 6 A vrows∧An w S (L.map CoD.cs) vrows []
theorem Hv.keep {w w':World}{S:Nat→Prop}{A:Option Addr}{L:List CoD}(hb:Below w.heap.size w w'):Hv w S A L→Hv w' S A L
 | .inl h=>.inl h
 | .inr ⟨vrows,h1,h2⟩=>.inr ⟨vrows,Row.mono hb.size (fun b hS hl=>⟨hb.block b hl,hS⟩) h1,An.keep hb.size (fun b hS hl=>⟨hb.block b hl,hS⟩) (by simp) h2⟩
theorem QJ {w:World}{S:Nat→Prop}:∀{rows:List (List C)}{vrows:List (List Value)},An w S rows vrows []→∀{k:Nat}{r:List C},rows[k]? = some r→∃v,vrows[k]? = some v∧CRs w S r v []
 | [],vrows,h,k,r,hk=>by simp at hk
 |c::cs,vrows,h,k,r,hk=>by
  obtain⟨v,vs',b1,b2,rfl,hb,h1,h2⟩:=h
  have hb':b1=[]∧b2=[]:=by simpa using hb.symm
  obtain⟨rfl,rfl⟩:=hb'
  cases k with
  |zero =>
   simp at hk
   subst hk
   exact⟨v,rfl,h1⟩
  |succ k =>
   obtain⟨u,h3,h4⟩:=QJ h2 (k:=k) (r:=r) (by simpa using hk)
   exact⟨u,by simpa using h3,h4⟩
theorem ZL {w:World}{S:Nat→Prop}{v:Value}{L:List CoD}(h:CR w S (.sl (L.map CoD.cs)) v []):∃A cap,v=.slice A L.length cap∧Hv w S A L:=by
 obtain⟨es,A,cap,vrows,rfl,_,_,h4,h5,_⟩:=h
 refine⟨A,cap,by rw[List.length_map],?_⟩
 cases L with
 |nil=>exact .inl rfl
 |cons d L =>
  obtain⟨v,h6,h7⟩:=QJ h5 (k:=0) (r:=d.cs) rfl
  have h8:v.length=6:=by
   obtain⟨_,_,_,_,rfl,_,_,_,_,_,_,rfl,_,_,_,_,_,_,rfl,_,_,_,_,_,_,rfl,_,_,_,_,_,_,rfl,_,_,_,_,_,_,rfl,_,_,rfl,_⟩:=h7
   rfl
  have h9:=h4.1 v (List.mem_of_getElem? h6)
  obtain rfl:es=6:=by omega
  exact .inr ⟨vrows,h4,h5⟩
theorem Hv.node {w:World}{S:Nat→Prop}{A:Option Addr}{L:List CoD}(h:Hv w S A L) {k:Nat}(hk:k<L.length) :
  ∃b off Av cv,A=some ⟨b,off,none⟩∧b<w.heap.size∧(w.cell? ⟨b,off+k*6,none⟩=some (.int .i64 L[k].op)∧w.cell? ⟨b,off+k*6+1,none⟩=some (.int .i64 L[k].a)∧w.cell? ⟨b,off+k*6+2,none⟩=some (.int .i64 L[k].b)∧w.cell? ⟨b,off+k*6+3,none⟩=some (.int .i64 L[k].c)∧w.cell? ⟨b,off+k*6+4,none⟩=some (.int .i64 L[k].num)∧w.cell? ⟨b,off+k*6+5,none⟩=some (.slice Av L[k].val.length cv)) ∧
   CR w S (.sl (L[k].val.map CellD.cs)) (.slice Av L[k].val.length cv) []:=by
 rcases h with rfl | ⟨vrows,h1,h2⟩
 ·simp at hk
 ·obtain⟨v,h3,h4⟩:=QJ h2 (k:=k) (r:=L[k].cs) (by simp[hk])
  obtain⟨b,off,rfl,hS,hl,hc⟩:=h1.2 (by have:=(List.getElem?_eq_some_iff.1 h3).1;omega)
  obtain⟨_,_,b1,r1,rfl,e1,⟨rfl,rfl⟩,_,_,b2,r2,rfl,e2,⟨rfl,rfl⟩,_,_,b3,r3,rfl,e3,⟨rfl,rfl⟩,_,_,b4,r4,rfl,e4,⟨rfl,rfl⟩,_,_,b5,r5,rfl,e5,⟨rfl,rfl⟩,u,_,b6,r6,rfl,e6,hu,rfl,rfl⟩:=h4
  rw[List.nil_append]at e1 e2 e3 e4 e5
  rw[←e5,←e4,←e3,←e2,←e1,List.append_nil]at e6
  subst e6
  obtain⟨es,Av,cv,vr,hue,q1,q2,q3,q4,q5⟩:=hu
  rw[List.length_map]at hue
  subst hue
  have hh:=hc k _ h3
  refine⟨b,off,Av,cv,rfl,hl,⟨hh 0 _ rfl,hh 1 _ rfl,hh 2 _ rfl,hh 3 _ rfl,hh 4 _ rfl,hh 5 _ rfl⟩,es,Av,cv,vr,by rw[List.length_map],?_,q2,q3,q4,q5⟩
  rw[List.length_map];rw[List.length_map]at q1;exact q1
theorem YC {w w':World}{S T:Nat→Prop}{κ:Id→Value}{d:CoD}{Av:Option Addr}{cv:Nat}(h:CR w S (.sl (d.val.map CellD.cs)) (.slice Av d.val.length cv) []) (hb:Below w.heap.size w w') (hT:∀b,S b→T b) :
  ARs w' T [] κ [d.av] [.agg #[.int .i64 d.op,.int .i64 d.a,.int .i64 d.b,.int .i64 d.c,.int .i64 d.num,.slice Av d.val.length cv]]:=by
 have h':=CR.keep hb.size (fun b hS hl=>⟨hb.block b hl,hT b hS⟩) (by simp) h
 refine⟨_,_,rfl,⟨[.int .i64 d.op,.int .i64 d.a,.int .i64 d.b,.int .i64 d.c,.int .i64 d.num,.slice Av d.val.length cv],rfl,⟨_,_,rfl,⟨rfl,rfl⟩,_,_,rfl,⟨rfl,rfl⟩,_,_,rfl,⟨rfl,rfl⟩,_,_,rfl,⟨rfl,rfl⟩,_,_,rfl,⟨rfl,rfl⟩,_,_,rfl,h',rfl⟩,?_⟩,rfl⟩
 intro u hu
 simp only[List.mem_cons,List.not_mem_nil,or_false]at hu
 rcases hu with rfl | rfl | rfl | rfl | rfl | rfl<;>rfl
end
end Go.Proofs.YtcejfdfmgmcinaaGreat
