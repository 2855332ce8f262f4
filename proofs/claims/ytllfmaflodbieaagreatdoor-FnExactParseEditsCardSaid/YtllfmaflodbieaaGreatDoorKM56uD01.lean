/- Texts of this proof: M56 E38 D01. -/
import Derived.Test.YtllfmaflodbieaaGreatDoorKM53
import Derived.Test.YtllfmaflodbieaaGreatDoorKR16uR19
import Derived.Laws.StructEq
import Derived.WideLaws
set_option linter.all false
set_option maxHeartbeats 8000000
namespace Go.Proofs.YtllfmaflodbieaaGreatDoor
section
open Go.RowKit
def BG (s:ByteArray):Option (V×ByteArray):=match Cq 20 s (Af s 0) with
 | .ok v e=>if 200<v.count then none else some (v,s.extract e s.size)
 | .bad _ _=>none
def JL (s:ByteArray):List CellD×ByteArray:=match BG s with
 |some (v,r)=>(v.enc,r)
 |none=>([],ByteArray.empty)
theorem H4 {a b:ByteArray}(h:a=b):(a.toList==b.toList)=true:=by rw[h];simp
theorem J1 {a b:ByteArray}(h:a≠b):(a.toList==b.toList)=false:=by
 cases hq:(a.toList==b.toList) with
 |false=>rfl
 |true=>exact absurd (AA (by simpa using hq)) h
def AW (s:ByteArray):ByteArray×ByteArray :=
 if Lib.indexByte s.data.toList 32<0 then (s,ByteArray.empty) else (s.extract 0 (Lib.indexByte s.data.toList 32).toNat,s.extract ((Lib.indexByte s.data.toList 32).toNat+1) s.size)
def Hj:ByteArray:=⟨#[115,101,116]⟩
def Fl (s:ByteArray):EditD :=
 if (AW s).1=Hj then ⟨1,(JL (AW s).2).1,(JL (JL (AW s).2).2).1⟩ else ⟨2,(JL (AW s).2).1,[]⟩
def DE (s:ByteArray):Option EditD:=if Ac (Fl s)=0∧D9 (Fl s)=s then some (Fl s) else none
theorem O5 {a b:ByteArray}(h:a.data.toList=b.data.toList):a=b:=by
 apply ByteArray.ext
 exact Array.toList_inj.1 h
theorem OX {s:ByteArray}{e:Nat}{l:List UInt8}(h:s.data.toList.drop e=l):s.extract e s.size=⟨l.toArray⟩:=by
 apply O5
 rw[CJ,List.take_of_length_le (by rw[AL];exact Nat.le_refl _),h]
theorem KX {s:ByteArray}{e:Nat}{a l:List UInt8}(h:s.data.toList=a++l) (he:a.length=e):s.extract 0 e=⟨a.toArray⟩:=by
 apply O5
 rw[CJ,h,List.drop_zero]
 subst he
 simp
theorem Iq {s:ByteArray}{e:Nat}{b:UInt8}{l:List UInt8}(h:s.data.toList.drop e=b::l):bAt s e=b.toNat:=Sub.head (l:=l) ⟨[],by rw[h];simp⟩
theorem WC {s:ByteArray}{e:Nat}(h:s.data.toList.drop e=[]):s.size≤e:=by
 have:=congrArg List.length h
 rw[List.length_drop,AL]at this
 have h2:s.size-e=0:=this
 omega
def VV:List UInt8→Prop
 | []=>True
 |b::_=>AP b.toNat=false∧G6 b.toNat=false
theorem XM {s:ByteArray}{e:Nat}{l:List UInt8}(h:s.data.toList.drop e=l) (hl:VV l):MH s e:=by
 cases l with
 |nil=>unfold MH;rw[BX (WC h)];exact⟨by decide,by decide⟩
 |cons b l=>unfold MH;rw[Iq h];exact hl
theorem KJ {s:ByteArray}{i:Nat}{t:V}{l:List UInt8}(h:s.data.toList.drop i=t.txt.data.toList++l):s.data.toList.drop (i+t.txt.size)=l:=by
 rw[←List.drop_drop,h,←AL]
 simp
theorem NE {s:ByteArray}{i:Nat}{t:V}{l:List UInt8}(ht:t.right) (h:s.data.toList.drop i=t.txt.data.toList++l) (hl:VV l):Cq 20 s i=.ok t (i+t.txt.size)∧Af s i=i :=
 ⟨Lb 20 t i ht ht.2.2 ⟨l,h⟩ (XM (KJ h) hl),Lk ht (l:=l) ⟨[],by rw[h,List.append_nil]⟩⟩
theorem Jh {s:ByteArray}{i:Nat}{t:V}{l:List UInt8}(ht:t.right) (hi:Af s 0=Af s i) (h:s.data.toList.drop i=t.txt.data.toList++l) (hl:VV l):BG s=some (t,⟨l.toArray⟩):=by
 obtain⟨h1,h2⟩:=NE ht h hl
 have hc:=ht.2.1
 unfold BG
 rw[hi,h2,h1]
 dsimp only
 rw[if_neg (by omega),OX (KJ h)]
theorem DF {s:ByteArray}{t:V}{r:ByteArray}(h:BG s=some (t,r)):JL s=(t.enc,r):=by unfold JL;rw[h]
theorem FR {s:ByteArray}(h:BG s=none):JL s=([],ByteArray.empty):=by unfold JL;rw[h]
theorem MC : ∀ {a r : List UInt8}, (∀ b ∈ a, (b == 32) = false) → Lib.indexByte (a ++ 32 :: r) 32 = a.length
  | [], r, _ => rfl
  | b :: a, r, h => by
    have h1 := MC (r := r) fun x hx => h x (List.mem_cons_of_mem _ hx)
    have h2 := h b (by simp)
    rw [List.cons_append]
    unfold Lib.indexByte
    rw [h2, h1, if_neg (by simp), if_neg (by have : ((a.length : Int) == -1) = false := by rw [beq_eq_false_iff_ne]; omega
                                             rw [this]; simp)]
    simp
theorem QF : ∀ l : List UInt8, Lib.indexByte l 32 = -1 ∨ ∃ i : Nat, Lib.indexByte l 32 = i ∧ i < l.length
  | [] => .inl rfl
  | b :: l => by
    unfold Lib.indexByte
    split
    · exact .inr ⟨0, rfl, by simp⟩
    · rcases QF l with h | ⟨i, h, hi⟩
      · rw [h]; exact .inl rfl
      · rw [h, if_neg (by have : ((i : Int) == -1) = false := by rw [beq_eq_false_iff_ne]; omega
                          rw [this]; simp)]
        exact .inr ⟨i + 1, by omega, by simp; omega⟩
theorem Wj {s:ByteArray}{a r:List UInt8}(h:s.data.toList=a++32::r) (ha:∀b∈a,(b==32)=false):AW s=(⟨a.toArray⟩,⟨r.toArray⟩):=by
 have hx:=MC (r:=r) ha
 unfold AW
 rw[h,hx,if_neg (by omega)]
 rw[show ((a.length:Int)).toNat=a.length from Int.toNat_natCast _,KX h rfl,OX (e:=a.length+1) (l:=r) (by rw[h,show a++32::r=(a++[32])++r by simp,show a.length+1=(a++[32]).length by simp,List.drop_left])]
theorem MW {d:EditD}(h2:d.op=2) {q:V}(hq:dec d.path=(0,some q)):(D9 d).data.toList=[100,114,111,112]++32::q.txt.data.toList:=by
 unfold D9
 rw[if_pos h2,FQ hq,Bl]
 rfl
theorem PU {d:EditD}(h2:d.op=1) {q u:V}(hq:dec d.path=(0,some q)) (hu:dec d.x=(0,some u)):(D9 d).data.toList=[115,101,116]++32::(q.txt.data.toList++32::u.txt.data.toList):=by
 unfold D9
 rw[if_neg (by omega),FQ hq,FQ hu,Bl,Bl,Bl]
 simp[Gf,bS]
theorem KU {d:EditD}(h:Ac d=0) (h2:d.op=2):d.x=[]:=by
 unfold Ac at h
 rw[if_neg (by simp[h2])]at h
 split at h
 ·rename_i c hp
  rcases BP d.path with⟨_,_,_,_,_,_,_,hpd⟩ | ⟨c',hc0,hpd⟩
  ·rw[hpd]at hp;cases hp
  ·rw[hpd]at hp;cases hp;exact absurd h hc0
 ·rw[if_neg (by simp[h2])]at h
  split at h
  ·omega
  ·rename_i hn
   exact List.eq_nil_of_length_eq_zero (by omega)
theorem P6 {d:EditD}(h:Ac d=0):Fl (D9 d)=d:=by
 obtain⟨⟨q,hq,hqe,hqr⟩,hx⟩:=Ca h
 rcases hx with h2 | ⟨h2,u,hu,hue,hur⟩
 ·have hl:=MW h2 hq
  have hc:=Wj hl (by decide)
  have hd:=DF (Jh (s:=⟨q.txt.data.toList.toArray⟩) (i:=0) (l:=[]) hqr rfl (by simp) trivial)
  unfold Fl
  rw[hc]
  dsimp only
  rw[hd,if_neg (by decide)]
  have:=KU h h2
  cases d
  simp only at this h2 hqe ⊢
  rw[this,h2,hqe]
 ·have hl:=PU h2 hq hu
  have hc:=Wj hl (by decide)
  have hd:=DF (Jh (s:=⟨(q.txt.data.toList++32::u.txt.data.toList).toArray⟩) (i:=0) (l:=32::u.txt.data.toList) hqr rfl (by simp) ⟨by decide,by decide⟩)
  have hdl:((⟨(32::u.txt.data.toList).toArray⟩:ByteArray)).data.toList.drop 1=u.txt.data.toList++[]:=by simp
  have hb:bAt (⟨(32::u.txt.data.toList).toArray⟩:ByteArray) 0=32:=Iq (e:=0) (b:=32) (l:=u.txt.data.toList) (by simp)
  have hd2:=DF (Jh (s:=⟨(32::u.txt.data.toList).toArray⟩) (i:=1) (l:=[]) hur (FE (by rw[hb];decide)) hdl trivial)
  unfold Fl
  rw[hc]
  dsimp only
  rw[hd]
  dsimp only
  rw[hd2,if_pos (show (⟨#[115,101,116]⟩:ByteArray)=Hj from rfl)]
  cases d
  simp only at h2 hqe hue ⊢
  rw[h2,hqe,hue]
theorem Dd {s:ByteArray}{d:EditD}:DE s=some d↔Ac d=0∧D9 d=s:=by
 constructor
 ·intro h
  unfold DE at h
  split at h
  ·rename_i hh
   injection h with h
   subst h
   exact hh
  ·cases h
 ·rintro⟨h1,rfl⟩
  unfold DE
  rw[P6 h1,if_pos ⟨h1,rfl⟩]
theorem FA {s:ByteArray}(h:DE s=none) {d:EditD}(hd:Ac d=0):D9 d≠s:=fun he=>by
 rw[Dd.2 ⟨hd,he⟩]at h
 cases h
theorem QU {s:ByteArray}{d:EditD}(h:DE s=some d) (h2:d.op=2):∃q,d=⟨2,q.enc,[]⟩∧q.right∧dec q.enc=(0,some q)∧5<s.size∧s.extract 0 5=FX∧Cq 20 s 5=.ok q s.size:=by
 obtain⟨h1,hs⟩:=Dd.1 h
 obtain⟨⟨q,hq,hqe,hqr⟩,_⟩:=Ca h1
 have hl:=MW h2 hq
 rw[hs]at hl
 have hx:=KU h1 h2
 have hl5:s.data.toList.drop 5=q.txt.data.toList++[]:=by rw[hl];simp
 obtain⟨v1,_⟩:=NE hqr hl5 trivial
 have hsz:s.size=5+q.txt.size:=by rw[←AL,hl,←AL];simp;omega
 obtain⟨b,l,hb,_⟩:=GE hqr
 have hp:0<q.txt.size:=by rw[←AL,hb];simp
 refine⟨q,?_,hqr,J9 hqr,by omega,KX (a:=[100,114,111,112,32]) (l:=q.txt.data.toList) (by rw[hl];rfl) rfl,by rw[v1,hsz]⟩
 cases d
 simp only at h2 hqe hx ⊢
 rw[h2,hqe,hx]
theorem TT {s:ByteArray}{d:EditD}(h:DE s=some d) (h2:d.op=1):∃q u e,d=⟨1,q.enc,u.enc⟩∧q.right∧u.right∧4<s.size∧s.extract 0 4=Gf∧s.extract 0 5≠FX∧Cq 20 s 4=.ok q e∧e<s.size∧bAt s e=32∧Cq 20 s (e+1)=.ok u s.size:=by
 obtain⟨h1,hs⟩:=Dd.1 h
 obtain⟨⟨q,hq,hqe,hqr⟩,hx⟩:=Ca h1
 rcases hx with h3 | ⟨_,u,hu,hue,hur⟩
 ·omega
 have hl:=PU h2 hq hu
 rw[hs]at hl
 have hl4:s.data.toList.drop 4=q.txt.data.toList++32::u.txt.data.toList:=by rw[hl];simp
 obtain⟨v1,_⟩:=NE hqr hl4 ⟨by decide,by decide⟩
 have hle:=KJ hl4
 have hl5:s.data.toList.drop (4+q.txt.size+1)=u.txt.data.toList++[]:=by rw[←List.drop_drop,hle];simp
 obtain⟨v2,_⟩:=NE hur hl5 trivial
 have hsz:s.size=4+q.txt.size+1+u.txt.size:=by rw[←AL,hl,←AL,←AL];simp;omega
 have h4:s.extract 0 4=Gf:=KX (a:=[115,101,116,32]) (l:=q.txt.data.toList++32::u.txt.data.toList) (by rw[hl];rfl) rfl
 refine⟨q,u,4+q.txt.size,?_,hqr,hur,by omega,h4,?_,v1,by omega,Iq hle,by rw[v2,hsz]⟩
 ·cases d
  simp only at h2 hqe hue ⊢
  rw[h2,hqe,hue]
 ·intro h5
  have e1:=congrArg (fun x=>bAt x 0) h5
  have e2:bAt (s.extract 0 5) 0=115:=by
   rw[RX (by omega) (by omega)]
   exact Iq (e:=0) (b:=115) (l:=[101,116]++32::(q.txt.data.toList++32::u.txt.data.toList)) (by rw[hl];rfl)
  rw[e2]at e1
  exact absurd e1 (by decide)
def G3:List ByteArray→List EditD→List EditD×Option Nat
 | [],acc=>(acc,none)
 |s::r,acc=>match DE s with
  |none=>(acc,some acc.length)
  |some d=>G3 r (acc++[d])
def CD (s:ByteArray):Int×Nat×List EditD :=
 if 4000<s.size then (2,0,[]) else match G3 (D7 s) [] with
 | (_,some k)=>(5,k,[])
 | (l,none)=>if 100<l.length then (2,0,[]) else (0,0,l)
theorem R4 {l:List EditD}(h:∀d∈l,Ac d=0):Dh l=if 100<l.length then 2 else 0:=by
 unfold Dh
 have:∀l:List EditD,(∀d∈l,Ac d=0)→Cy l=0:=by
  intro l
  induction l with
  |nil=>intro _;rfl
  |cons d l ih =>
   intro h
   unfold Cy
   rw[h d (by simp),if_neg (by simp)]
   exact ih fun x hx=>h x (List.mem_cons_of_mem _ hx)
 rw[this l h]
theorem JZ:∀(L:List ByteArray) (acc:List EditD),(∀d∈acc,Ac d=0)→∀d∈(G3 L acc).1,Ac d=0
 | [],acc,h=>h
 |s::r,acc,h=>by
  unfold G3
  cases hd:DE s with
  |none=>exact h
  |some d =>
   refine JZ r _ fun x hx=>?_
   rcases List.mem_append.1 hx with hx | hx
   ·exact h x hx
   ·rw[List.mem_singleton.1 hx];exact (Dd.1 hd).1
theorem EL {d:EditD}(h:Ac d=0):d.path.length≤200∧d.x.length≤200:=by
 obtain⟨⟨q,hq,hqe,hqr⟩,hx⟩:=Ca h
 have h1:=hqr.2.1
 refine⟨by rw[hqe,Bv];exact h1,?_⟩
 rcases hx with h2 | ⟨h2,u,hu,hue,hur⟩
 ·rw[KU h h2];exact Nat.zero_le _
 ·have h3:=hur.2.1
  rw[hue,Bv];exact h3
theorem CI {s:ByteArray}{v:V}{r:ByteArray}(h:BG s=some (v,r)):∃e,Cq 20 s (Af s 0)=.ok v e∧v.right∧e≤s.size∧r=s.extract e s.size∧r.size≤s.size:=by
 have hf:=C2 (s:=s) 20 (Af s 0) (AM (Nat.zero_le _)).2.1
 unfold BG at h
 split at h
 ·rename_i v' e hR
  rw[hR]at hf
  obtain⟨_,f2,f3,f4,f5,f6⟩:=hf
  split at h
  ·cases h
  ·rename_i hc
   cases h
   exact⟨e,hR,⟨f6 (by omega),by omega,f4⟩,f2,rfl,by rw[E2 (Nat.le_refl _)];omega⟩
 ·cases h
theorem JI:BG ByteArray.empty=none:=by
 cases h:BG ByteArray.empty with
 |none=>rfl
 |some p =>
  obtain⟨v,r⟩:=p
  obtain⟨e,hR,_,he,_⟩:=CI h
  have hf:=C2 (s:=ByteArray.empty) 20 (Af ByteArray.empty 0) (AM (Nat.zero_le _)).2.1
  rw[hR]at hf
  have h1:(ByteArray.empty:ByteArray).size=0:=rfl
  have:=hf.1
  omega
theorem DL (s:ByteArray):(AW s).2.size≤s.size:=by
 unfold AW
 split
 ·exact Nat.zero_le _
 ·dsimp only
  rw[E2 (Nat.le_refl _)]
  omega
theorem EF {d:EditD}(h:Ac d=0):d.path≠[]∧(d.op=1→d.x≠[]):=by
 obtain⟨⟨q,hq,hqe,hqr⟩,hx⟩:=Ca h
 have hne:∀t:V,t.enc≠[]:=fun t ht=>by
  have h1:=Bv t
  have h2:=Bc t
  rw[ht]at h1
  simp at h1
  omega
 refine⟨by rw[hqe];exact hne q,fun h1=>?_⟩
 rcases hx with h2 | ⟨_,u,hu,hue,hur⟩
 ·omega
 ·rw[hue];exact hne u
theorem Lg (s:ByteArray):(∃v r u r2,(AW s).1=Hj∧BG (AW s).2=some (v,r)∧BG r=some (u,r2)∧Fl s=⟨1,v.enc,u.enc⟩)∨(∃v r,(AW s).1=Hj∧BG (AW s).2=some (v,r)∧BG r=none∧Fl s=⟨1,v.enc,[]⟩) ∨
  ((AW s).1=Hj∧BG (AW s).2=none∧Fl s=⟨1,[],[]⟩)∨(∃v r,(AW s).1≠Hj∧BG (AW s).2=some (v,r)∧Fl s=⟨2,v.enc,[]⟩)∨((AW s).1≠Hj∧BG (AW s).2=none∧Fl s=⟨2,[],[]⟩):=by
 unfold Fl
 by_cases h:(AW s).1=Hj
 ·rw[if_pos h]
  cases h1:BG (AW s).2 with
  |none=>rw[FR h1,FR JI];exact .inr (.inr (.inl ⟨h,rfl,rfl⟩))
  |some p =>
   obtain⟨v,r⟩:=p
   rw[DF h1]
   dsimp only
   cases h2:BG r with
   |none=>rw[FR h2];exact .inr (.inl ⟨v,r,h,rfl,h2,rfl⟩)
   |some p =>
    obtain⟨u,r2⟩:=p
    rw[DF h2]
    exact .inl ⟨v,r,u,r2,h,rfl,h2,rfl⟩
 ·rw[if_neg h]
  cases h1:BG (AW s).2 with
  |none=>rw[FR h1];exact .inr (.inr (.inr (.inr ⟨h,rfl,rfl⟩)))
  |some p =>
   obtain⟨v,r⟩:=p
   rw[DF h1]
   exact .inr (.inr (.inr (.inl ⟨v,r,h,rfl,rfl⟩)))
theorem FF (s:ByteArray):∀(n f i:Nat),(Ct s n f i).length≤n+1
 | 0,f,i=>by
  unfold Ct
  split<;>simp
 |n+1,f,i=>by
  unfold Ct
  split
  ·have:=FF s n (i+1) (i+1)
   rw[List.length_cons]
   omega
  ·have:=FF s n f (i+1)
   omega
end
section
open Go.RowKit
def Jb:Value→List (Nat×Obj)→Prop:=fun v l=>l=[]∧v.oneCell'=true∧∃t x,v=.iface t x
section
variable {P:Program} {o:Oper} {σ:ASt}
theorem WI {t t':TypeId}{y z:Operand}{k:IntKind}{a b:Int}{s u:ByteArray}{r:Bool}(ho:o.op=.binOp .neq t y z t') (hy:σ.ev y=.agg [.c (.int k a),.c (.str s)]) (hz:σ.ev z=.agg [.c (.int k b),.c (.str u)])
  (hm:P.eqGuardType P.depth t=false) (hq:∀w,(Op.equalIn 10000 t (.agg #[.int k a,.string s]) (.agg #[.int k b,.string u])).run P w=.ok r w):Al P o σ ⟨[],[],.c (.bool (!r))⟩:=by
 refine Al.pure fun Γ σ' a' w ow κ hag hr=>?_
 obtain⟨vs,e1,h1,_⟩:=hag.ev hr (by rw[ho];simp[Op.operands]) hy
 obtain⟨us,e2,h2,_⟩:=hag.ev hr (by rw[ho];simp[Op.operands]) hz
 simp only[ARs,AR,CR]at h1 h2
 obtain⟨_,_,rfl,⟨rfl,_⟩,_,_,rfl,⟨rfl,_⟩,rfl⟩:=h1
 obtain⟨_,_,rfl,⟨rfl,_⟩,_,_,rfl,⟨rfl,_⟩,rfl⟩:=h2
 refine⟨.bool (!r),?_,rfl,rfl⟩
 unfold execOp
 rw[ho]
 simp[e1,e2,run_eqGuard_agg _ _ _ _ _ _ _ hm,run_neq_struct,hq]
theorem Ut {op:BinOp}{t t':TypeId}{y z:Operand}{i:Id}{x:AV}(ho:o.op=.binOp op t y z t') (hy:σ.ev y=.own i) (hz:σ.ev z=.c (.raw .nilIface)) (hi:σ.mem.get i=some (.gen Jb))
  (ht:P.underlying t=some (.interface (P.methodsAt t))) (he:DC op false=some x):Al P o σ ⟨[i],[],x⟩:=by
 refine Al.pure fun Γ σ' a w ow κ hag hr=>?_
 have hi':σ'.mem.get i=some (.gen Jb):=by rw[hag.2.1 i (by simp),hi]
 obtain⟨_,o1,k1,k2⟩:=hag.ev hr (by rw[ho];simp[Op.operands]) hy
 rw[hi']at k1
 cases k1
 have e1:=k2 (by simp)
 have e2:=(hag.ev hr (by rw[ho];simp[Op.operands]) hz).1
 obtain⟨l,_,_,_,q,x',hx⟩:=hr.objs i _ hi'
 rw[hx]at e1
 refine DW (b:=false) ho he e1 e2 (fun op=>?_) (run_eql_held_nil w t q x' ht) (run_neq_held_nil w t q x' ht)
 unfold eqGuard
 cases op<;>simp
theorem U7 {op:BinOp}{t t':TypeId}{y:Operand}{q:Value}{x:AV}(ho:o.op=.binOp op t y (.const q) t') (hy:σ.ev y=.c (.raw .nilIface)) (hz:σ.ev (.const q)=.c (.raw .nilIface))
  (ht:P.underlying t=some (.interface (P.methodsAt t))) (he:DC op true=some x):Al P o σ ⟨[],[],x⟩:=by
 refine Al.pure fun Γ σ' a w ow κ hag hr=>?_
 have e1:=(hag.ev hr (by rw[ho];simp[Op.operands]) hy).1
 have e2:=(hag.ev hr (by rw[ho];simp[Op.operands]) hz).1
 refine DW (b:=true) ho he e1 e2 (fun op=>?_) (run_eql_nil_nil w t ht) (run_neq_nil_nil w t ht)
 unfold eqGuard
 cases op<;>simp
end
section
variable {P:Program} {σ τ:ASt} {ops:Array Oper} {r:List Oper} {fs:List AEff} {K:ASt→List AEff→Prop} {E:AEff} {d:Option Tmp} {ty':TypeId} {pos:String} {af:Array Edge} {gd:Option (Nat×Bool)}
theorem Zj {t t':TypeId}{y z:Operand}{k:IntKind}{a b:Int}{s u:ByteArray}{q:Bool}(hm:P.eqGuardType P.depth t=false) (hq:∀w,(Op.equalIn 10000 t (.agg #[.int k a,.string s]) (.agg #[.int k b,.string u])).run P w=.ok q w)
  (hg:Bi ops σ ⟨d,.binOp .neq t y z t',ty',pos,af,gd⟩=some true) (hy:σ.ev y=.agg [.c (.int k a),.c (.str s)]) (hz:σ.ev z=.agg [.c (.int k b),.c (.str u)])
  (hE:(⟨[],[],.c (.bool (!q))⟩:AEff)=E) (hτ:σ.upd d E=τ) (h:Ad P ops r τ (fs++[E]) K):Ad P ops (⟨d,.binOp .neq t y z t',ty',pos,af,gd⟩::r) σ fs K:=by
 subst hE
 exact Bt hg (WI rfl hy hz hm hq).sound hτ h
theorem Q2 {op:BinOp}{t t':TypeId}{y z:Operand}{i:Id}{x:AV}(ht:P.underlying t=some (.interface (P.methodsAt t))) (hg:Bi ops σ ⟨d,.binOp op t y z t',ty',pos,af,gd⟩=some true) (hy:σ.ev y=.own i) (hz:σ.ev z=.c (.raw .nilIface)) (hi:σ.mem.get i=some (.gen Jb)) (he:DC op false=some x)
  (hE:(⟨[i],[],x⟩:AEff)=E) (hτ:σ.upd d E=τ) (h:Ad P ops r τ (fs++[E]) K):Ad P ops (⟨d,.binOp op t y z t',ty',pos,af,gd⟩::r) σ fs K:=by
 subst hE
 exact Bt hg (Ut rfl hy hz hi ht he).sound hτ h
theorem Fi {op:BinOp}{t t':TypeId}{y:Operand}{q:Value}{x:AV}(ht:P.underlying t=some (.interface (P.methodsAt t))) (hg:Bi ops σ ⟨d,.binOp op t y (.const q) t',ty',pos,af,gd⟩=some true) (hy:σ.ev y=.c (.raw .nilIface)) (hz:σ.ev (.const q)=.c (.raw .nilIface)) (he:DC op true=some x)
  (hE:(⟨[],[],x⟩:AEff)=E) (hτ:σ.upd d E=τ) (h:Ad P ops r τ (fs++[E]) K):Ad P ops (⟨d,.binOp op t y (.const q) t',ty',pos,af,gd⟩::r) σ fs K:=by
 subst hE
 exact Bt hg (U7 rfl hy hz ht he).sound hτ h
end
end
section
open Go.RowKit
set_option maxRecDepth 10000
theorem Qe (n m:Nat):((n:Int)==(m:Int))=(n==m):=by
 rw[Bool.eq_iff_iff];simp;omega
theorem Lm (n:Nat):C9 n=((((n:Int)==32)||((n:Int)==9))||((n:Int)==10)||((n:Int)==13)):=by
 unfold C9
 rw[Bool.eq_iff_iff];simp;omega
theorem Qa (n:Nat):AP n=(decide ((n:Int)≥48)&&decide ((n:Int)≤57)):=by
 unfold AP
 rw[Bool.eq_iff_iff];simp;omega
theorem Rp (n:Nat):AC Tryz.prog 226 [.c (.int .u8 n)] [] (.c (.bool (C9 n))) []:=by
 rw[Lm]
 generalize (n:Int)=z
 cases h1:z==32
 ·cases h2:z==9
  ·cases h3:z==10
   ·cases h4:z==13
    all_goals
     refine A6 Tryz.func226 Tryz.ntmps226 ?_
     refine A0 (j4 h1 h2 h3 h4) ?_
     exact Am (A7 []) Tryz.results226
   ·refine A6 Tryz.func226 Tryz.ntmps226 ?_
    refine A0 (j3 h1 h2 h3) ?_
    exact Am (A7 []) Tryz.results226
  ·refine A6 Tryz.func226 Tryz.ntmps226 ?_
   refine A0 (j2 h1 h2) ?_
   exact Am (A7 []) Tryz.results226
 ·refine A6 Tryz.func226 Tryz.ntmps226 ?_
  refine A0 h1 ?_
  exact Am (A7 []) Tryz.results226
theorem He (n:Nat):AC Tryz.prog 228 [.c (.int .u8 n)] [] (.c (.bool (AP n))) []:=by
 rw[Qa]
 generalize (n:Int)=z
 cases h1:decide (z≥48)
 ·refine A6 Tryz.func228 Tryz.ntmps228 ?_
  refine A0 h1 ?_
  exact Am (A7 []) Tryz.results228
 ·cases h2:decide (z≤57)
  all_goals
   refine A6 Tryz.func228 Tryz.ntmps228 ?_
   refine A0 (j2 h1 h2) ?_
   exact Am (A7 []) Tryz.results228
theorem Dc (s:ByteArray) (hs:s.size≤1000000) (i:Nat) (hi:i≤s.size):AC Tryz.prog 188 [.c (.str s),.c (.int .i64 i)] [] (.c (.int .i64 (Af s i))) []:=by
 refine A6 Tryz.func188 Tryz.ntmps188 ?_
 refine A0 trivial ?_
 refine AG (κ:=Nat) (fun j=>⟨mkS 0 18 [(0,.c (.str s)),(1,.c (.int .i64 j))],[]⟩) (fun j=>j≤s.size∧Af s j=Af s i) (fun j=>s.size-j) i ⟨hi,rfl⟩ ?_ ?_
 ·exact Aq (As.of [] []) hi
 ·rintro j ⟨hj,hsk⟩
  by_cases hlt:j<s.size
  ·have hdk:decide ((j:Int)<(s.size:Int))=true:=by simpa using hlt
   have hw:=Ae (k:=j) (by omega)
   obtain⟨b,hg,hb⟩:=Aw hlt
   have hbl:=Rp b.toNat
   rw[←hb]at hbl
   have hbn:((b.toNat:Nat):Int)=((bAt s j:Nat):Int):=by rw[hb]
   cases hbk:C9 (bAt s j) with
   |true =>
    rw[hbk]at hbl
    refine A0 (j3 hdk hg hbn) ?_
    refine w7 (A3 [] hbl) trivial ?_
    refine A0 hw ?_
    refine⟨j+1,by omega,⟨by omega,by rw[←FE hbk,hsk]⟩,?_⟩
    exact Aq (As.of [] []) hw
   |false =>
    rw[hbk]at hbl
    have he:=Ci hbk
    rw[he]at hsk
    subst hsk
    refine A0 (j3 hdk hg hbn) ?_
    refine w7 (A3 [] hbl) trivial ?_
    refine A0 trivial ?_
    exact Am (A7 []) Tryz.results188
  ·have hdk:decide ((j:Int)<(s.size:Int))=false:=by simpa using hlt
   have he:=Ci (s:=s) (i:=j) (by rw[BX (by omega)];rfl)
   rw[he]at hsk
   subst hsk
   refine A0 hdk ?_
   exact Am (A7 []) Tryz.results188
end
end Go.Proofs.YtllfmaflodbieaaGreatDoor
