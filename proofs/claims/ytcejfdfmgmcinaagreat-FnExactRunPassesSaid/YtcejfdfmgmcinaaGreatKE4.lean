/- Texts of this proof: E18 E19. -/
import Derived.Test.YtcejfdfmgmcinaaGreatKT01
set_option linter.all false
namespace Go.Proofs.YtcejfdfmgmcinaaGreat
section
open Go.RowKit
def mkS (_ n:Nat) (l:List (Nat×AV)):List AV:=sp n l
theorem a4z (t n:Nat) (l:List (Nat×AV)):mkS t n l=sp n l:=rfl
def rn (l:List (Id×Id)) (i:Id):Option Id:=(l.lookup i)
theorem a5f (i:Id):rn [] i=none:=rfl
theorem a21 (a b:Id) (l:List (Id×Id)) (i:Id):rn ((a,b)::l) i=if i=a then some b else rn l i:=by
 unfold rn
 rw[List.lookup_cons]
 by_cases h:i=a
 ·simp[h]
 ·have:(i==a)=false:=by simpa using h
  simp[this,h]
def Qs (ρ:Id→Option Id) (n:Mem) (bw:List Id):Mem→Prop
 | []=>True
 |p::r=>En ρ n bw p.1 p.2∧Qs ρ n bw r
theorem MatM.of {ρ:Id→Option Id}{bw:List Id}{m n:Mem}(h:Qs ρ n bw m) (hr:(m.all fun p=>p.2.refs m)=true) (hnd:(m.map (·.1)).Nodup)
  (hinj:(m.filterMap fun p=>if p.2.live then ρ p.1 else none).Nodup) (hbw:∀j,j∈(m.filterMap fun p=>if p.2.live then ρ p.1 else none)→j ∉ bw):MatM ρ bw m n:=by
 have hobj:∀(l:Mem),Qs ρ n bw l→∀p,p∈l→En ρ n bw p.1 p.2:=by
  intro l
  induction l with
  |nil=>intro _ p hp;simp at hp
  |cons q l ih =>
   intro hl p hp
   rcases List.mem_cons.1 hp with rfl | hp
   ·exact hl.1
   ·exact ih hl.2 p hp
 refine⟨hobj m h,fun p hp=>List.all_eq_true.1 hr p hp,fun p q hp hq h1 h2 j g1 g2=>?_,fun p hp h1 j g1=>hbw j (List.mem_filterMap.2 ⟨p,hp,by simp[h1,g1]⟩),hnd⟩
 have key:∀(l:Mem),(l.filterMap fun p=>if p.2.live then ρ p.1 else none).Nodup→p∈l→q∈l→p.1=q.1:=by
  intro l
  induction l with
  |nil=>intro _ hp;simp at hp
  |cons r l ih =>
   intro hn hp hq
   have hn':(l.filterMap fun p=>if p.2.live then ρ p.1 else none).Nodup:=by
    simp only[List.filterMap_cons]at hn
    split at hn
    ·exact hn
    ·exact (List.nodup_cons.1 hn).2
   rcases List.mem_cons.1 hp with e1 | hp'
   ·rcases List.mem_cons.1 hq with e2 | hq'
    ·rw[e1,e2]
    ·exfalso
     rw[←e1]at hn
     simp only[List.filterMap_cons,h1,if_true,g1,List.nodup_cons]at hn
     exact hn.1 (List.mem_filterMap.2 ⟨q,hq',by simp[h2,g2]⟩)
   ·rcases List.mem_cons.1 hq with e2 | hq'
    ·exfalso
     rw[←e2]at hn
     simp only[List.filterMap_cons,h2,if_true,g2,List.nodup_cons]at hn
     exact hn.1 (List.mem_filterMap.2 ⟨p,hp',by simp[h1,g1]⟩)
    ·exact ih hn' hp' hq'
 exact key m hinj hp hq
def Qt (ρ:Id→Option Id) (n:Mem) (bw:List Id) (σ:ASt):List (Nat×AV)→Prop
 | []=>True
 |p::r=>Mat ρ n bw p.2 (σ.slot p.1)∧Qt ρ n bw σ r
theorem O5 {ρ:Id→Option Id}{n:Mem}{bw:List Id}:∀{k:Nat}{ys:List AV},ys.length=k→BL ρ n bw (List.replicate k .undef) ys
 | 0,ys,h=>by
  have:ys=[]:=List.eq_nil_of_length_eq_zero h
  subst this
  simp[BL]
 |k+1,[],h=>by simp at h
 |k+1,y::ys,h=>by
  rw[List.replicate_succ]
  simp only[BL]
  exact⟨y,ys,rfl,by simp[Mat],O5 (by simpa using h)⟩
theorem Tq {ρ:Id→Option Id}{n:Mem}{bw:List Id}{v:AV}:∀{xs ys:List AV}{t:Nat},BL ρ n bw xs ys→Mat ρ n bw v (ys.getD t .undef)→BL ρ n bw (xs.set t v) ys
 | [],ys,t,h,_=>by simpa using h
 |x::xs,ys,0,h,hv=>by
  simp only[BL,List.set_cons_zero]at h ⊢
  obtain⟨y,ys',rfl,_,h2⟩:=h
  exact⟨y,ys',rfl,by simpa using hv,h2⟩
 |x::xs,ys,t+1,h,hv=>by
  simp only[BL,List.set_cons_succ]at h ⊢
  obtain⟨y,ys',rfl,h1,h2⟩:=h
  exact⟨y,ys',rfl,h1,Tq h2 (by simpa using hv)⟩
theorem WQ {ρ:Id→Option Id}{m:Mem}{bw:List Id}{n:Nat}{σ:ASt}(hl:σ.slots.length=n):∀{l:List (Nat×AV)},Qt ρ m bw σ l→BL ρ m bw (sp n l) σ.slots
 | [],_=>by rw[OD];exact O5 hl
 |p::l,h=>by rw[Ij];exact Tq (WQ hl h.2) h.1
theorem Ok (m:Mem):∀(k:Nat),D3 m (List.replicate k .undef)=true
 | 0=>rfl
 |k+1=>by rw[List.replicate_succ,D3,Ok m k];rfl
theorem TF {m:Mem}{v:AV}(hv:v.refs m=true):∀{l:List AV}{t:Nat},D3 m l=true→D3 m (l.set t v)=true
 | [],t,h=>by simpa using h
 |x::l,0,h=>by
  simp only[D3,Bool.and_eq_true,List.set_cons_zero]at h ⊢
  exact⟨hv,h.2⟩
 |x::l,t+1,h=>by
  simp only[D3,Bool.and_eq_true,List.set_cons_succ]at h ⊢
  exact⟨h.1,TF hv h.2⟩
theorem WX {m:Mem}{n:Nat}:∀{l:List (Nat×AV)},(l.all fun p=>p.2.refs m)=true→D3 m (sp n l)=true
 | [],_=>by rw[OD];exact Ok m n
 |p::l,h=>by
  simp only[List.all_cons,Bool.and_eq_true]at h
  rw[Ij]
  exact TF h.1 (WX h.2)
theorem Aj.of {x:List Id}{n t:Nat}{l u:List (Nat×AV)}{m m':Mem}(ρ:List (Id×Id)) (bw:List Id) (h:Qt (rn ρ) m' bw ⟨sp n u,m'⟩ l) (hr:(l.all fun p=>p.2.refs m)=true) (h1:Qs (rn ρ) m' bw m) (h2:(m.all fun p=>p.2.refs m)=true) (h3:(m.map (·.1)).Nodup)
  (h4:(m.filterMap fun p=>if p.2.live then rn ρ p.1 else none).Nodup) (h5:∀j,j∈(m.filterMap fun p=>if p.2.live then rn ρ p.1 else none)→j ∉ bw) (h6:∀i,i∈x→rn ρ i=some i∧(m.get i).isSome=true):Aj x ⟨mkS t n l,m⟩ ⟨sp n u,m'⟩ :=
 ⟨rn ρ,bw,⟨WQ (σ:=⟨sp n u,m'⟩) (OC n u) h,WX hr,MatM.of h1 h2 h3 h4 h5⟩,h6⟩
theorem A9 {P:Program}{fn:Func}{m:Mem}{res r:AV}{m':Mem}{σ:ASt}(ρ:List (Id×Id)) (bw:List Id) (h:Qd P σ fn.results.toList=some r) (hm:Mat (rn ρ) σ.mem bw res r) (hr:res.refs m'=true) (h1:Qs (rn ρ) σ.mem bw m') (h2:(m'.all fun p=>p.2.refs m')=true) (h3:(m'.map (·.1)).Nodup)
  (h4:(m'.filterMap fun p=>if p.2.live then rn ρ p.1 else none).Nodup) (h5:∀j,j∈(m'.filterMap fun p=>if p.2.live then rn ρ p.1 else none)→j ∉ bw) (h6:∀p,p∈m→(m'.get p.1).isSome=true→rn ρ p.1=some p.1):Fe P fn m res m' σ :=
 ⟨r,h,rn ρ,bw,hm,hr,MatM.of h1 h2 h3 h4 h5,h6⟩
section
variable {ρ:Id→Option Id} {n:Mem} {bw:List Id}
theorem y7:BL ρ n bw [] []↔True:=by simp[BL]
theorem Yq (x y:AV) (xs ys:List AV):BL ρ n bw (x::xs) (y::ys)↔(Mat ρ n bw x y∧BL ρ n bw xs ys):=by
 simp only[BL,List.cons.injEq]
 constructor
 ·rintro⟨a,b,⟨rfl,rfl⟩,h⟩;exact h
 ·intro h;exact⟨y,ys,⟨rfl,rfl⟩,h⟩
theorem Yp (y:AV):Mat ρ n bw .undef y↔True:=by simp[Mat]
theorem a4o (x y:C):Mat ρ n bw (.c x) (.c y)↔y=x:=by simp[Mat,Gu]
theorem a4p (rows:List (List C)):Mat ρ n bw (.c (.sl rows)) .nils↔rows=[]:=by
 simp[Mat,Gu]
theorem a4q (rows:List (List C)) (j:Id):Mat ρ n bw (.c (.sl rows)) (.own j)↔Gu n bw (.own j)=some rows:=by
 simp[Mat]
theorem a4n (xs ys:List AV):Mat ρ n bw (.agg xs) (.agg ys)↔BL ρ n bw xs ys:=by simp[Mat]
theorem a4x (xs ys:List AV):Mat ρ n bw (.tup xs) (.tup ys)↔BL ρ n bw xs ys:=by simp[Mat]
theorem a4w (i j:Id) (a b:Nat):Mat ρ n bw (.ptr i a) (.ptr j b)↔(ρ i=some j∧b=a):=by
 simp only[Mat,AV.ptr.injEq]
 constructor
 ·rintro⟨k,h1,rfl,rfl⟩;exact⟨h1,rfl⟩
 ·rintro⟨h1,rfl⟩;exact⟨j,h1,rfl,rfl⟩
theorem a4v (i j:Id):Mat ρ n bw (.own i) (.own j)↔ρ i=some j:=by
 simp only[Mat]
 cases h:ρ i with
 |none=>simp
 |some k=>simp[eq_comm]
theorem a4u (i:Id):Mat ρ n bw (.own i) .nils↔ρ i=none:=by
 simp only[Mat]
 cases h:ρ i with
 |none=>simp
 |some k=>simp
theorem a4t:Mat ρ n bw .nils .nils↔True:=by simp[Mat]
theorem a4s (f g:FuncId) (xs ys:List AV):Mat ρ n bw (.clo f xs) (.clo g ys)↔(g=f∧BL ρ n bw xs ys):=by
 simp only[Mat,AV.clo.injEq]
 constructor
 ·rintro⟨k,⟨h1,rfl⟩,h2⟩;exact⟨h1,h2⟩
 ·rintro⟨h1,h2⟩;exact⟨ys,⟨h1,rfl⟩,h2⟩
theorem a4r (r1 r2:List (List C)) (i j a b:Nat):Mat ρ n bw (.elem r1 i a) (.elem r2 j b)↔(r2=r1∧j=i∧b=a):=by simp[Mat]
theorem CM {α:Type}(f:α→List C) (hf:∀x,Cn (f x)=f x):∀(l:List α),AT (l.map f)=l.map f
 | []=>rfl
 |x::l=>by simp[AT,hf x,CM f hf l]
end
attribute [go_sem] y7 Yq Yp a4o a4p a4q a4n a4x a4w a4v a4u a4t a4s a4r AT Cn C.forget
section
variable {ρ:Id→Option Id} {n:Mem} {bw:List Id}
theorem x8 (i:Id) (cells:List AV):En ρ n bw i (.box cells)↔(match ρ i with
  |some j=>(match n.get j with
   |some (.box cells')=>BL ρ n bw cells cells'
   |_=>False)
  |none=>False):=by
 simp only[En]
 cases ρ i with
 |none=>simp
 |some j =>
  simp only[Option.some.injEq]
  constructor
  ·rintro⟨j',c,rfl,h1,h2⟩
   rw[h1]
   exact h2
  ·intro h
   split at h
   ·rename_i c hc
    exact⟨j,c,rfl,hc,h⟩
   ·exact h.elim
theorem y6 (i:Id) (ex:Bool) (es:Nat) (e:TypeId) (rows:List (List C)):En ρ n bw i (.row ex es e rows)↔(match ρ i with
  |some j=>(match n.get j with
   |some (.row ex' es' e' rows')=>(ex'&&!ex)=false∧es'=es∧e'=e∧rows'=rows
   |_=>False)
  |none=>rows=[]):=by
 simp only[En]
 cases ρ i with
 |none=>simp
 |some j =>
  simp only
  cases hg:n.get j with
  |none=>simp
  |some o =>
   cases o with
   |row ex' es' e' rows' =>
    simp only[Option.some.injEq,AO.row.injEq]
    cases ex<;>cases ex'<;>simp
   |box _=>simp
   |frz _=>simp
   |rown _=>simp
   |lent _ _ _ _ _ _=>simp
   |blk _ _=>simp
   |gen _=>simp
   |dead=>simp
theorem v8 (i:Id) (R:Nat→Value→List (List Value)→Obj→Prop) (rows:List (List C)):En ρ n bw i (.blk R rows)↔(match ρ i with
  |some j=>(match n.get j with
   |some (.blk R' rows')=>R'=R∧rows'=rows
   |_=>False)
  |none=>False):=by
 simp only[En]
 cases ρ i with
 |none=>simp
 |some j =>
  simp only[Option.some.injEq]
  constructor
  ·rintro⟨j',rfl,h⟩
   rw[h]
   exact⟨rfl,rfl⟩
  ·intro h
   split at h
   ·rename_i R' rows' hg
    obtain⟨rfl,rfl⟩:=h
    exact⟨j,rfl,hg⟩
   ·exact h.elim
theorem x9 (i:Id) (R:Value→List (Nat×Obj)→Prop):En ρ n bw i (.gen R)↔(match ρ i with
  |some j=>(match n.get j with
   |some (.gen R')=>R'=R
   |_=>False)
  |none=>False):=by
 simp only[En]
 cases ρ i with
 |none=>simp
 |some j =>
  simp only[Option.some.injEq]
  constructor
  ·rintro⟨j',rfl,h⟩
   rw[h]
  ·intro h
   split at h
   ·rename_i R' hg
    subst h
    exact⟨j,rfl,hg⟩
   ·exact h.elim
theorem Yo (i:Id):En ρ n bw i .dead↔True:=by simp[En]
end
attribute [go_sem] a4z Qt a5f a21 Qs x8 y6 v8 x9 Yo AO.refs AO.live
end
section
open Go.RowKit
section
variable {P:Program} {ops:Array Oper} {r:List Oper} {σ τ:ASt} {fs:List AEff} {K:ASt→List AEff→Prop} {E:AEff}
theorem Fits.own {j:Id}{ex:Bool}{es:Nat}{e:TypeId}{rows:List (List C)}{o':AO}{res:AV}(hm:σ.mem.get j=some (.row ex es e rows)) (hl:o'.live=true) :
  Fits σ (rn [((0,0),j)]) [] [] false (fun _=>j) [((0,0),.row ex es e rows)] res [((0,0),o')]:=by
 have hr:rn [((0,0),j)] (0,0)=some j:=rfl
 refine⟨⟨?_,?_,?_,?_,by simp⟩,?_,by simp,by simp,?_,?_,by simp,by simp,by simp,fun h=>by cases h⟩
 ·intro p hp
  have:p=((0,0),.row ex es e rows):=by simpa using hp
  subst this
  simp only[En,hr]
  exact .inl hm
 ·intro p hp
  have:p=((0,0),.row ex es e rows):=by simpa using hp
  subst this
  rfl
 ·intro p q hp hq _ _ _ _ _
  have h1:p=((0,0),.row ex es e rows):=by simpa using hp
  have h2:q=((0,0),.row ex es e rows):=by simpa using hq
  rw[h1,h2]
 ·intro p _ _ _ _
  simp
 ·intro p hp
  have:p=((0,0),.row ex es e rows):=by simpa using hp
  subst this
  rfl
 ·intro p hp
  have:p=((0,0),o'):=by simpa using hp
  subst this
  exact hl
 ·intro p hp
  have:p=((0,0),o'):=by simpa using hp
  subst this
  exact .inl ⟨_,rfl,hr⟩
theorem Oe {d:Option Tmp}{fv:Operand}{args:Array Operand}{tys:Array TypeId}{ty:TypeId}{pos:String}{af:Array Edge}{gd:Option (Nat×Bool)}(j:Id) {ex:Bool}{es:Nat}{e:TypeId}{rows:List (List C)}{o':AO}{res:AV}{f:FuncId}{caps cargs:List AV}
  (hac:AC P f cargs [((0,0),.row ex es e rows)] res [((0,0),o')]) (hg:CJ ops σ ⟨d,.call ⟨.value fv,args,tys⟩,ty,pos,af,gd⟩=some true) (hv:σ.ev fv=.clo f caps) (hc:A7 P f=true)
  (hm:BL (rn [((0,0),j)]) σ.mem [] cargs (args.toList.map σ.ev++caps)) (hrefs:D3 [((0,0),.row ex es e rows)] cargs=true) (hget:σ.mem.get j=some (.row ex es e rows)) (hl:o'.live=true)
  (he:(⟨[],[(j,.dead),(j,o'.ren fun _=>j)],res.ren fun _=>j⟩:AEff)=E)
  (hτ:σ.upd d E=τ) (h:Ay P ops r τ (fs++[E]) K):Ay P ops (⟨d,.call ⟨.value fv,args,tys⟩,ty,pos,af,gd⟩::r) σ fs K:=by
 subst he
 exact Jm hac hg hv hc hm hrefs (Fits.own hget hl) hτ h
end
end
end Go.Proofs.YtcejfdfmgmcinaaGreat
