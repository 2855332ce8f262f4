/- Texts of this proof: M56 M58 E38 D01 D02 D03 D06 D08 D09 D34. -/
import Derived.Test.YtllfmaflodbieaaGreatDoorKM53
import Derived.Test.YtllfmaflodbieaaGreatDoorKR17uR19
import Derived.Laws.StructEq
import Derived.WideLaws
import Derived.Laws.Strings3
set_option linter.all false
namespace Go.Proofs.YtllfmaflodbieaaGreatDoor
section
open Go.RowKit
def Ck (s:ByteArray):Option (V×ByteArray):=match FA 20 s (Aw s 0) with
 | .ok v e=>if 200<v.count then none else some (v,s.extract e s.size)
 | .bad _ _=>none
def M6 (s:ByteArray):List CellD×ByteArray:=match Ck s with
 |some (v,r)=>(v.enc,r)
 |none=>([],ByteArray.empty)
theorem N6 {a b:ByteArray}(h:a=b):(a.toList==b.toList)=true:=by rw[h];simp
theorem S9 {a b:ByteArray}(h:a≠b):(a.toList==b.toList)=false:=by
 cases hq:(a.toList==b.toList) with
 |false=>rfl
 |true=>exact absurd (Ay (by simpa using hq)) h
def Bn (s:ByteArray):ByteArray×ByteArray :=
 if Lib.indexByte s.data.toList 32<0 then (s,ByteArray.empty) else (s.extract 0 (Lib.indexByte s.data.toList 32).toNat,s.extract ((Lib.indexByte s.data.toList 32).toNat+1) s.size)
def K8:ByteArray:=⟨#[115,101,116]⟩
def GX (s:ByteArray):EditD :=
 if (Bn s).1=K8 then ⟨1,(M6 (Bn s).2).1,(M6 (M6 (Bn s).2).2).1⟩ else ⟨2,(M6 (Bn s).2).1,[]⟩
def Jx (s:ByteArray):Option EditD:=if Al (GX s)=0∧DK (GX s)=s then some (GX s) else none
theorem MS {a b:ByteArray}(h:a.data.toList=b.data.toList):a=b:=by
 apply ByteArray.ext
 exact Array.toList_inj.1 h
theorem SL {s:ByteArray}{e:Nat}{l:List UInt8}(h:s.data.toList.drop e=l):s.extract e s.size=⟨l.toArray⟩:=by
 apply MS
 rw[Dq,List.take_of_length_le (by rw[Be];exact Nat.le_refl _),h]
theorem Zz {s:ByteArray}{e:Nat}{a l:List UInt8}(h:s.data.toList=a++l) (he:a.length=e):s.extract 0 e=⟨a.toArray⟩:=by
 apply MS
 rw[Dq,h,List.drop_zero]
 subst he
 simp
theorem Kh {s:ByteArray}{e:Nat}{b:UInt8}{l:List UInt8}(h:s.data.toList.drop e=b::l):bAt s e=b.toNat:=Sub.head (l:=l) ⟨[],by rw[h];simp⟩
theorem SA {s:ByteArray}{e:Nat}(h:s.data.toList.drop e=[]):s.size≤e:=by
 have:=congrArg List.length h
 rw[List.length_drop,Be]at this
 have h2:s.size-e=0:=this
 omega
def y7:List UInt8→Prop
 | []=>True
 |b::_=>Bx b.toNat=false∧Ld b.toNat=false
theorem a2e {s:ByteArray}{e:Nat}{l:List UInt8}(h:s.data.toList.drop e=l) (hl:y7 l):Qh s e:=by
 cases l with
 |nil=>unfold Qh;rw[Eu (SA h)];exact⟨by decide,by decide⟩
 |cons b l=>unfold Qh;rw[Kh h];exact hl
theorem SB {s:ByteArray}{i:Nat}{t:V}{l:List UInt8}(h:s.data.toList.drop i=t.txt.data.toList++l):s.data.toList.drop (i+t.txt.size)=l:=by
 rw[←List.drop_drop,h,←Be]
 simp
theorem a4y {s:ByteArray}{i:Nat}{t:V}{l:List UInt8}(ht:t.right) (h:s.data.toList.drop i=t.txt.data.toList++l) (hl:y7 l):FA 20 s i=.ok t (i+t.txt.size)∧Aw s i=i :=
 ⟨ON 20 t i ht ht.2.2 ⟨l,h⟩ (a2e (SB h) hl),Ox ht (l:=l) ⟨[],by rw[h,List.append_nil]⟩⟩
theorem Ln {s:ByteArray}{i:Nat}{t:V}{l:List UInt8}(ht:t.right) (hi:Aw s 0=Aw s i) (h:s.data.toList.drop i=t.txt.data.toList++l) (hl:y7 l):Ck s=some (t,⟨l.toArray⟩):=by
 obtain⟨h1,h2⟩:=a4y ht h hl
 have hc:=ht.2.1
 unfold Ck
 rw[hi,h2,h1]
 dsimp only
 rw[if_neg (by omega),SL (SB h)]
theorem ER {s:ByteArray}{t:V}{r:ByteArray}(h:Ck s=some (t,r)):M6 s=(t.enc,r):=by unfold M6;rw[h]
theorem Hu {s:ByteArray}(h:Ck s=none):M6 s=([],ByteArray.empty):=by unfold M6;rw[h]
theorem PJ : ∀ {a r : List UInt8}, (∀ b ∈ a, (b == 32) = false) → Lib.indexByte (a ++ 32 :: r) 32 = a.length
  | [], r, _ => rfl
  | b :: a, r, h => by
    have h1 := PJ (r := r) fun x hx => h x (List.mem_cons_of_mem _ hx)
    have h2 := h b (by simp)
    rw [List.cons_append]
    unfold Lib.indexByte
    rw [h2, h1, if_neg (by simp), if_neg (by have : ((a.length : Int) == -1) = false := by rw [beq_eq_false_iff_ne]; omega
                                             rw [this]; simp)]
    simp
theorem SZ : ∀ l : List UInt8, Lib.indexByte l 32 = -1 ∨ ∃ i : Nat, Lib.indexByte l 32 = i ∧ i < l.length
  | [] => .inl rfl
  | b :: l => by
    unfold Lib.indexByte
    split
    · exact .inr ⟨0, rfl, by simp⟩
    · rcases SZ l with h | ⟨i, h, hi⟩
      · rw [h]; exact .inl rfl
      · rw [h, if_neg (by have : ((i : Int) == -1) = false := by rw [beq_eq_false_iff_ne]; omega
                          rw [this]; simp)]
        exact .inr ⟨i + 1, by omega, by simp; omega⟩
theorem Zo {s:ByteArray}{a r:List UInt8}(h:s.data.toList=a++32::r) (ha:∀b∈a,(b==32)=false):Bn s=(⟨a.toArray⟩,⟨r.toArray⟩):=by
 have hx:=PJ (r:=r) ha
 unfold Bn
 rw[h,hx,if_neg (by omega)]
 rw[show ((a.length:Int)).toNat=a.length from Int.toNat_natCast _,Zz h rfl,SL (e:=a.length+1) (l:=r) (by rw[h,show a++32::r=(a++[32])++r by simp,show a.length+1=(a++[32]).length by simp,List.drop_left])]
theorem PS {d:EditD}(h2:d.op=2) {q:V}(hq:dec d.path=(0,some q)):(DK d).data.toList=[100,114,111,112]++32::q.txt.data.toList:=by
 unfold DK
 rw[if_pos h2,HY hq,Bi]
 rfl
theorem Tj {d:EditD}(h2:d.op=1) {q u:V}(hq:dec d.path=(0,some q)) (hu:dec d.x=(0,some u)):(DK d).data.toList=[115,101,116]++32::(q.txt.data.toList++32::u.txt.data.toList):=by
 unfold DK
 rw[if_neg (by omega),HY hq,HY hu,Bi,Bi,Bi]
 simp[U1,bS]
theorem QM {d:EditD}(h:Al d=0) (h2:d.op=2):d.x=[]:=by
 unfold Al at h
 rw[if_neg (by simp[h2])]at h
 split at h
 ·rename_i c hp
  rcases Du d.path with⟨_,_,_,_,_,_,_,hpd⟩ | ⟨c',hc0,hpd⟩
  ·rw[hpd]at hp;cases hp
  ·rw[hpd]at hp;cases hp;exact absurd h hc0
 ·rw[if_neg (by simp[h2])]at h
  split at h
  ·omega
  ·rename_i hn
   exact List.eq_nil_of_length_eq_zero (by omega)
theorem Ti {d:EditD}(h:Al d=0):GX (DK d)=d:=by
 obtain⟨⟨q,hq,hqe,hqr⟩,hx⟩:=DG h
 rcases hx with h2 | ⟨h2,u,hu,hue,hur⟩
 ·have hl:=PS h2 hq
  have hc:=Zo hl (by decide)
  have hd:=ER (Ln (s:=⟨q.txt.data.toList.toArray⟩) (i:=0) (l:=[]) hqr rfl (by simp) trivial)
  unfold GX
  rw[hc]
  dsimp only
  rw[hd,if_neg (by decide)]
  have:=QM h h2
  cases d
  simp only at this h2 hqe ⊢
  rw[this,h2,hqe]
 ·have hl:=Tj h2 hq hu
  have hc:=Zo hl (by decide)
  have hd:=ER (Ln (s:=⟨(q.txt.data.toList++32::u.txt.data.toList).toArray⟩) (i:=0) (l:=32::u.txt.data.toList) hqr rfl (by simp) ⟨by decide,by decide⟩)
  have hdl:((⟨(32::u.txt.data.toList).toArray⟩:ByteArray)).data.toList.drop 1=u.txt.data.toList++[]:=by simp
  have hb:bAt (⟨(32::u.txt.data.toList).toArray⟩:ByteArray) 0=32:=Kh (e:=0) (b:=32) (l:=u.txt.data.toList) (by simp)
  have hd2:=ER (Ln (s:=⟨(32::u.txt.data.toList).toArray⟩) (i:=1) (l:=[]) hur (Ka (by rw[hb];decide)) hdl trivial)
  unfold GX
  rw[hc]
  dsimp only
  rw[hd]
  dsimp only
  rw[hd2,if_pos (show (⟨#[115,101,116]⟩:ByteArray)=K8 from rfl)]
  cases d
  simp only at h2 hqe hue ⊢
  rw[h2,hqe,hue]
theorem J6 {s:ByteArray}{d:EditD}:Jx s=some d↔Al d=0∧DK d=s:=by
 constructor
 ·intro h
  unfold Jx at h
  split at h
  ·rename_i hh
   injection h with h
   subst h
   exact hh
  ·cases h
 ·rintro⟨h1,rfl⟩
  unfold Jx
  rw[Ti h1,if_pos ⟨h1,rfl⟩]
theorem O1 {s:ByteArray}(h:Jx s=none) {d:EditD}(hd:Al d=0):DK d≠s:=fun he=>by
 rw[J6.2 ⟨hd,he⟩]at h
 cases h
def Ij:List ByteArray→List EditD→List EditD×Option Nat
 | [],acc=>(acc,none)
 |s::r,acc=>match Jx s with
  |none=>(acc,some acc.length)
  |some d=>Ij r (acc++[d])
def Fi (s:ByteArray):Int×Nat×List EditD :=
 if 4000<s.size then (2,0,[]) else match Ij (GH s) [] with
 | (_,some k)=>(5,k,[])
 | (l,none)=>if 100<l.length then (2,0,[]) else (0,0,l)
theorem Vo {l:List EditD}(h:∀d∈l,Al d=0):Bk l=if 100<l.length then 2 else 0:=by
 unfold Bk
 have:∀l:List EditD,(∀d∈l,Al d=0)→CZ l=0:=by
  intro l
  induction l with
  |nil=>intro _;rfl
  |cons d l ih =>
   intro h
   unfold CZ
   rw[h d (by simp),if_neg (by simp)]
   exact ih fun x hx=>h x (List.mem_cons_of_mem _ hx)
 rw[this l h]
theorem Np {d:EditD}(h:Al d=0):d.path.length≤200∧d.x.length≤200:=by
 obtain⟨⟨q,hq,hqe,hqr⟩,hx⟩:=DG h
 have h1:=hqr.2.1
 refine⟨by rw[hqe,Bb];exact h1,?_⟩
 rcases hx with h2 | ⟨h2,u,hu,hue,hur⟩
 ·rw[QM h h2];exact Nat.zero_le _
 ·have h3:=hur.2.1
  rw[hue,Bb];exact h3
theorem DI {s:ByteArray}{v:V}{r:ByteArray}(h:Ck s=some (v,r)):∃e,FA 20 s (Aw s 0)=.ok v e∧v.right∧e≤s.size∧r=s.extract e s.size∧r.size≤s.size:=by
 have hf:=F1 (s:=s) 20 (Aw s 0) (C9 (Nat.zero_le _)).2.1
 unfold Ck at h
 split at h
 ·rename_i v' e hR
  rw[hR]at hf
  obtain⟨_,f2,f3,f4,f5,f6⟩:=hf
  split at h
  ·cases h
  ·rename_i hc
   cases h
   exact⟨e,hR,⟨f6 (by omega),by omega,f4⟩,f2,rfl,by rw[FW (Nat.le_refl _)];omega⟩
 ·cases h
theorem M7:Ck ByteArray.empty=none:=by
 cases h:Ck ByteArray.empty with
 |none=>rfl
 |some p =>
  obtain⟨v,r⟩:=p
  obtain⟨e,hR,_,he,_⟩:=DI h
  have hf:=F1 (s:=ByteArray.empty) 20 (Aw ByteArray.empty 0) (C9 (Nat.zero_le _)).2.1
  rw[hR]at hf
  have h1:(ByteArray.empty:ByteArray).size=0:=rfl
  have:=hf.1
  omega
theorem EN (s:ByteArray):(Bn s).2.size≤s.size:=by
 unfold Bn
 split
 ·exact Nat.zero_le _
 ·dsimp only
  rw[FW (Nat.le_refl _)]
  omega
theorem FV {d:EditD}(h:Al d=0):d.path≠[]∧(d.op=1→d.x≠[]):=by
 obtain⟨⟨q,hq,hqe,hqr⟩,hx⟩:=DG h
 have hne:∀t:V,t.enc≠[]:=fun t ht=>by
  have h1:=Bb t
  have h2:=AY t
  rw[ht]at h1
  simp at h1
  omega
 refine⟨by rw[hqe];exact hne q,fun h1=>?_⟩
 rcases hx with h2 | ⟨_,u,hu,hue,hur⟩
 ·omega
 ·rw[hue];exact hne u
theorem Nq (s:ByteArray):(∃v r u r2,(Bn s).1=K8∧Ck (Bn s).2=some (v,r)∧Ck r=some (u,r2)∧GX s=⟨1,v.enc,u.enc⟩)∨(∃v r,(Bn s).1=K8∧Ck (Bn s).2=some (v,r)∧Ck r=none∧GX s=⟨1,v.enc,[]⟩) ∨
  ((Bn s).1=K8∧Ck (Bn s).2=none∧GX s=⟨1,[],[]⟩)∨(∃v r,(Bn s).1≠K8∧Ck (Bn s).2=some (v,r)∧GX s=⟨2,v.enc,[]⟩)∨((Bn s).1≠K8∧Ck (Bn s).2=none∧GX s=⟨2,[],[]⟩):=by
 unfold GX
 by_cases h:(Bn s).1=K8
 ·rw[if_pos h]
  cases h1:Ck (Bn s).2 with
  |none=>rw[Hu h1,Hu M7];exact .inr (.inr (.inl ⟨h,rfl,rfl⟩))
  |some p =>
   obtain⟨v,r⟩:=p
   rw[ER h1]
   dsimp only
   cases h2:Ck r with
   |none=>rw[Hu h2];exact .inr (.inl ⟨v,r,h,rfl,h2,rfl⟩)
   |some p =>
    obtain⟨u,r2⟩:=p
    rw[ER h2]
    exact .inl ⟨v,r,u,r2,h,rfl,h2,rfl⟩
 ·rw[if_neg h]
  cases h1:Ck (Bn s).2 with
  |none=>rw[Hu h1];exact .inr (.inr (.inr (.inr ⟨h,rfl,rfl⟩)))
  |some p =>
   obtain⟨v,r⟩:=p
   rw[ER h1]
   exact .inr (.inr (.inr (.inl ⟨v,r,h,rfl,rfl⟩)))
theorem JW (s:ByteArray):∀(n f i:Nat),(Dw s n f i).length≤n+1
 | 0,f,i=>by
  unfold Dw
  split<;>simp
 |n+1,f,i=>by
  unfold Dw
  split
  ·have:=JW s n (i+1) (i+1)
   rw[List.length_cons]
   omega
  ·have:=JW s n f (i+1)
   omega
def I9 (l:List UInt8):Prop:=∀b∈l,b≠10
theorem Cn {a b:List UInt8}(ha:I9 a) (hb:I9 b):I9 (a++b):=fun x hx=>by
 rcases List.mem_append.1 hx with h | h
 ·exact ha x h
 ·exact hb x h
theorem Bt {l:List UInt8}(h:l.all (fun b=>b != 10)=true):I9 l:=fun b hb=>by simpa using List.all_eq_true.1 h b hb
theorem d8 {l:List UInt8}(h:l.all Dy=true):I9 (AU l):=fun b hb=>by
 unfold AU at hb
 obtain⟨c,hc,hb⟩:=List.mem_flatMap.1 hb
 have hc1:=List.all_eq_true.1 h c hc
 have hc2:c≠10:=by rintro rfl;exact absurd hc1 (by decide)
 unfold DD at hb
 split at hb
 ·simp at hb;rcases hb with rfl | rfl<;>decide
 ·split at hb
  ·simp at hb;subst hb;decide
  ·simp at hb;subst hb;exact hc2
theorem Tt {s:ByteArray}(h:AP s=true):I9 (Dp s).data.toList:=by
 rw[EQ]
 have h1:s.data.toList.all Dy=true:=by
  unfold AP at h
  simp only[Bool.and_eq_true]at h
  exact h.2
 exact Cn (a:=[34]) (Bt (by decide)) (Cn (d8 h1) (Bt (by decide)))
theorem Mm (n:Nat):I9 (Lib.decDigits n):=fun b hb=>by
 obtain⟨j,hj,rfl⟩:=List.getElem_of_mem hb
 have hs:Sub ⟨(Lib.decDigits n).toArray⟩ 0 (Lib.decDigits n):=⟨[],by simp⟩
 have h1:=(FD n n (Nat.le_refl _) hs).2.1 j (Nat.zero_le _) (by omega)
 rw[Ew]at h1
 simp only[List.getElem?_eq_getElem hj]at h1
 intro h
 rw[h]at h1
 exact absurd h1 (by decide)
theorem d9 (n:Int):I9 (Jk n).data.toList:=by
 show I9 (Lib.itoa n)
 by_cases h:n<0
 ·rw[T1 h]
  exact Cn (a:=[45]) (Bt (by decide)) (Mm _)
 ·rw[NJ h]
  exact Mm _
theorem G3 {obj:Bool}:∀(kids:List V) (ks:List ByteArray) (first:Bool),(obj=true→ks.length=kids.length)→(∀k∈ks,AP k=true)→(∀x∈kids,I9 x.txt.data.toList)→I9 (Bc obj ks kids first)
 | [],ks,first,_,_,_=>by
  cases obj
  ·exact Bt (by rfl)
  ·exact Bt (by rfl)
 |x::r,ks,first,hl,hk,hx=>by
  have h1:=hx x (by simp)
  have hc:I9 [44]:=Bt (by decide)
  have hh:I9 (Bc obj ks (x::r) true):=by
   cases obj with
   |false =>
    have h2:=G3 (obj:=false) r ks false (fun h=>by cases h) hk (fun y hy=>hx y (by simp[hy]))
    have e:Bc false ks (x::r) true=x.txt.data.toList++Bc false ks.tail r false:=by simp[Bc]
    have h3:=G3 (obj:=false) r ks.tail false (fun h=>by cases h) (fun k hk'=>hk k (List.mem_of_mem_tail hk')) (fun y hy=>hx y (by simp[hy]))
    rw[e]
    exact Cn h1 h3
   |true =>
    cases ks with
    |nil=>simp at hl
    |cons k ks =>
     have h2:=G3 (obj:=true) r ks false (fun _=>by have:=hl rfl;simpa using this) (fun y hy=>hk y (by simp[hy])) (fun y hy=>hx y (by simp[hy]))
     have e:Bc true (k::ks) (x::r) true=(Dp k).data.toList++([58]++(x.txt.data.toList++Bc true ks r false)):=by simp[Bc]
     rw[e]
     exact Cn (Tt (hk k (by simp))) (Cn (Bt (by decide)) (Cn h1 h2))
  cases first with
  |true=>exact hh
  |false=>rw[Kb];exact Cn (a:=[44]) hc hh
theorem O9:∀(n:Nat) (t:V),t.count≤n→t.right→I9 t.txt.data.toList
 | 0,t,hn,_=>by have:=AY t;omega
 |n+1,t,hn,ht=>by
  have hk:=Gb ht
  have ih:∀x∈t.kids,I9 x.txt.data.toList:=fun x hx=>O9 n x (by have h1:=BB hx;have h2:=AK t;omega) (AQ ht hx)
  have hcase:t.kind=0∨t.kind=1∨t.kind=2∨t.kind=3∨t.kind=4∨t.kind=5∨t.kind=6:=by omega
  rcases hcase with h | h | h | h | h | h | h
  ·rw[IN h];exact Bt (by decide)
  ·rw[Hc h];exact Bt (by decide)
  ·rw[IP h];exact Bt (by decide)
  ·rw[KY h];exact d9 _
  ·rw[L0 h];exact Tt (F0 ht)
  ·have hl:t.txt.data.toList=91::Bc false t.keys t.kids true:=by
    rw[KX h,Bi,Bi,List.append_assoc]
    have:=H6 (kind:=t.kind) (obj:=false) ⟨fun h=>(by cases h),fun h6=>(by omega)⟩ t.kids t.keys
    unfold V.parts
    rw[←this]
    rfl
   rw[hl]
   have hks:t.keys=[]:=by
    have he:=Wl ht.1 h
    rw[he]
    rfl
   exact Cn (a:=[91]) (Bt (by decide)) (G3 t.kids t.keys true (fun h=>by cases h) (by rw[hks];simp) ih)
  ·obtain⟨ua,ta,la⟩:=B9 ht h
   have hl:t.txt.data.toList=123::Bc true t.keys t.kids true:=by
    rw[KZ h,Bi,Bi,List.append_assoc]
    have:=H6 (kind:=t.kind) (obj:=true) ⟨fun _=>h,fun _=>rfl⟩ t.kids t.keys
    rw[←this]
    rfl
   rw[hl]
   exact Cn (a:=[123]) (Bt (by decide)) (G3 t.kids t.keys true (fun _=>la) ta ih)
theorem WX {s:ByteArray}:∀(x:List UInt8) (n f:Nat) (r:List UInt8),s.data.toList.drop f=x++10::r→I9 x→x.length<n→nlB s n f=f+x.length∧0<nlN s n f
 | [],n,f,r,h,_,hn=>by
  obtain⟨n,rfl⟩:∃m,n=m+1:=⟨n-1,by simp at hn;omega⟩
  have hb:bAt s f=10:=Kh (b:=10) (l:=r) h
  unfold nlB nlN
  rw[if_pos hb,if_pos hb]
  exact⟨rfl,by omega⟩
 |b::x,n,f,r,h,hx,hn=>by
  obtain⟨n,rfl⟩:∃m,n=m+1:=⟨n-1,by simp at hn;omega⟩
  have hb:bAt s f=b.toNat:=Kh (l:=x++10::r) h
  have hb2:bAt s f≠10:=by
   rw[hb]
   intro h10
   exact hx b (by simp) (UInt8.toNat_inj.1 h10)
  have h1:s.data.toList.drop (f+1)=x++10::r:=by rw[←List.drop_drop,h];rfl
  obtain⟨g1,g2⟩:=WX x n (f+1) r h1 (fun y hy=>hx y (by simp[hy])) (by simp at hn;omega)
  unfold nlB nlN
  rw[if_neg hb2,if_neg hb2,g1]
  exact⟨by simp;omega,by omega⟩
theorem Tk {s:ByteArray}:∀(X:List ByteArray) (f:Nat),(∀x∈X,I9 x.data.toList)→s.data.toList.drop f=X.flatMap (fun x=>x.data.toList++[10])→f≤s.size→Dw s (s.size-f) f f=X
 | [],f,_,h,hf=>by
  have:=SA h
  rw[show s.size-f=0 by omega,Dw,if_neg (by omega)]
 |x::X,f,hx,h,hf=>by
  have h1:s.data.toList.drop f=x.data.toList++10::X.flatMap (fun x=>x.data.toList++[10]):=by rw[h,List.flatMap_cons];simp
  have hl:=congrArg List.length h1
  rw[List.length_drop,List.length_append,List.length_cons,Be,Be]at hl
  obtain⟨g1,g2⟩:=WX x.data.toList (s.size-f) f _ h1 (hx x (by simp)) (by rw[Be];omega)
  rw[Be]at g1
  have h2:s.data.toList.drop (f+x.size+1)=X.flatMap (fun x=>x.data.toList++[10]):=by
   rw[Nat.add_assoc,←List.drop_drop,h1,←Be,←List.drop_drop,List.drop_left]
   rfl
  rw[IA s _ _ _ g2,g1,show f+(s.size-f)-(f+x.size+1)=s.size-(f+x.size+1) by omega,Tk X (f+x.size+1) (fun y hy=>hx y (by simp[hy])) h2 (by omega)]
  congr 1
  apply MS
  rw[Dq,List.drop_take,h1]
  have:f+x.size-f=x.data.toList.length:=by rw[Be];omega
  rw[this]
  simp
theorem Lk:∀(l:List EditD) (a:ByteArray),(l.foldl (fun a d=>a++lnS d) a).data.toList=a.data.toList++(l.map DK).flatMap (fun x=>x.data.toList++[10])
 | [],a=>by simp
 |d::l,a=>by
  rw[List.foldl_cons,Lk l,Bi]
  unfold lnS
  rw[Bi]
  simp
theorem XZ {d:EditD}(h:Al d=0):I9 (DK d).data.toList:=by
 obtain⟨⟨q,hq,_,hqr⟩,hx⟩:=DG h
 have h1:=O9 _ q (Nat.le_refl _) hqr
 rcases hx with h2 | ⟨h2,u,hu,_,hur⟩
 ·rw[PS h2 hq]
  exact Cn (Bt (by decide)) (Cn (a:=[32]) (Bt (by decide)) h1)
 ·rw[Tj h2 hq hu]
  exact Cn (Bt (by decide)) (Cn (a:=[32]) (Bt (by decide)) (Cn h1 (Cn (a:=[32]) (Bt (by decide)) (O9 _ u (Nat.le_refl _) hur))))
theorem UX {l:List EditD}(h:∀d∈l,Al d=0):GH (CK l)=l.map DK:=by
 have h1:(CK l).data.toList.drop 0=(l.map DK).flatMap (fun x=>x.data.toList++[10]):=by
  rw[List.drop_zero]
  unfold CK
  rw[Lk]
  rfl
 exact Tk (l.map DK) 0 (fun x hx=>by obtain⟨d,hd,rfl⟩:=List.mem_map.1 hx;exact XZ (h d hd)) h1 (Nat.zero_le _)
theorem Nr:∀(l acc:List EditD),(∀d∈l,Al d=0)→Ij (l.map DK) acc=(acc++l,none)
 | [],acc,_=>by simp[Ij]
 |d::l,acc,h=>by
  rw[List.map_cons,Ij,J6.2 ⟨h d (by simp),rfl⟩]
  dsimp only
  rw[Nr l _ fun x hx=>h x (by simp[hx])]
  simp
theorem VJ {l:List EditD}(h:Bk l=0):Fi (CK l)=if 4000<(CK l).size then (2,0,[]) else (0,0,l):=by
 obtain⟨hl,hd⟩:=JN h
 unfold Fi
 rw[UX hd,Nr l [] hd,List.nil_append]
 dsimp only
 rw[if_neg (show ¬100<l.length by omega)]
theorem UW (l:List EditD):CK l=ByteArray.empty↔l=[]:=by
 constructor
 ·intro h
  cases l with
  |nil=>rfl
  |cons d l =>
   exfalso
   have h1:=congrArg (fun x:ByteArray=>x.data.toList.length) h
   unfold CK at h1
   simp only[Lk]at h1
   simp at h1
 ·rintro rfl;rfl
end
section
open Go.RowKit
def Lj:Value→List (Nat×Obj)→Prop:=fun v l=>l=[]∧v.oneCell'=true∧∃t x,v=.iface t x
section
variable {P:Program} {o:Oper} {σ:ASt}
theorem a6j {t t':TypeId}{y z:Operand}{k:IntKind}{a b:Int}{s u:ByteArray}{r:Bool}(ho:o.op=.binOp .neq t y z t') (hy:σ.ev y=.agg [.c (.int k a),.c (.str s)]) (hz:σ.ev z=.agg [.c (.int k b),.c (.str u)])
  (hm:P.eqGuardType P.depth t=false) (hq:∀w,(Op.equalIn 10000 t (.agg #[.int k a,.string s]) (.agg #[.int k b,.string u])).run P w=.ok r w):An P o σ ⟨[],[],.c (.bool (!r))⟩:=by
 refine An.pure fun Γ σ' a' w ow κ hag hr=>?_
 obtain⟨vs,e1,h1,_⟩:=hag.ev hr (by rw[ho];simp[Op.operands]) hy
 obtain⟨us,e2,h2,_⟩:=hag.ev hr (by rw[ho];simp[Op.operands]) hz
 simp only[ARs,AR,CR]at h1 h2
 obtain⟨_,_,rfl,⟨rfl,_⟩,_,_,rfl,⟨rfl,_⟩,rfl⟩:=h1
 obtain⟨_,_,rfl,⟨rfl,_⟩,_,_,rfl,⟨rfl,_⟩,rfl⟩:=h2
 refine⟨.bool (!r),?_,rfl,rfl⟩
 unfold execOp
 rw[ho]
 simp[e1,e2,run_eqGuard_agg _ _ _ _ _ _ _ hm,run_neq_struct,hq]
theorem Yx {op:BinOp}{t t':TypeId}{y z:Operand}{i:Id}{x:AV}(ho:o.op=.binOp op t y z t') (hy:σ.ev y=.own i) (hz:σ.ev z=.c (.raw .nilIface)) (hi:σ.mem.get i=some (.gen Lj))
  (ht:P.underlying t=some (.interface (P.methodsAt t))) (he:EK op false=some x):An P o σ ⟨[i],[],x⟩:=by
 refine An.pure fun Γ σ' a w ow κ hag hr=>?_
 have hi':σ'.mem.get i=some (.gen Lj):=by rw[hag.2.1 i (by simp),hi]
 obtain⟨_,o1,k1,k2⟩:=hag.ev hr (by rw[ho];simp[Op.operands]) hy
 rw[hi']at k1
 cases k1
 have e1:=k2 (by simp)
 have e2:=(hag.ev hr (by rw[ho];simp[Op.operands]) hz).1
 obtain⟨l,_,_,_,q,x',hx⟩:=hr.objs i _ hi'
 rw[hx]at e1
 refine F7 (b:=false) ho he e1 e2 (fun op=>?_) (run_eql_held_nil w t q x' ht) (run_neq_held_nil w t q x' ht)
 unfold eqGuard
 cases op<;>simp
theorem YD {op:BinOp}{t t':TypeId}{y:Operand}{q:Value}{x:AV}(ho:o.op=.binOp op t y (.const q) t') (hy:σ.ev y=.c (.raw .nilIface)) (hz:σ.ev (.const q)=.c (.raw .nilIface))
  (ht:P.underlying t=some (.interface (P.methodsAt t))) (he:EK op true=some x):An P o σ ⟨[],[],x⟩:=by
 refine An.pure fun Γ σ' a w ow κ hag hr=>?_
 have e1:=(hag.ev hr (by rw[ho];simp[Op.operands]) hy).1
 have e2:=(hag.ev hr (by rw[ho];simp[Op.operands]) hz).1
 refine F7 (b:=true) ho he e1 e2 (fun op=>?_) (run_eql_nil_nil w t ht) (run_neq_nil_nil w t ht)
 unfold eqGuard
 cases op<;>simp
end
section
variable {P:Program} {σ τ:ASt} {ops:Array Oper} {r:List Oper} {fs:List AEff} {K:ASt→List AEff→Prop} {E:AEff} {d:Option Tmp} {ty':TypeId} {pos:String} {af:Array Edge} {gd:Option (Nat×Bool)}
theorem a5t {t t':TypeId}{y z:Operand}{k:IntKind}{a b:Int}{s u:ByteArray}{q:Bool}(hm:P.eqGuardType P.depth t=false) (hq:∀w,(Op.equalIn 10000 t (.agg #[.int k a,.string s]) (.agg #[.int k b,.string u])).run P w=.ok q w)
  (hg:BM ops σ ⟨d,.binOp .neq t y z t',ty',pos,af,gd⟩=some true) (hy:σ.ev y=.agg [.c (.int k a),.c (.str s)]) (hz:σ.ev z=.agg [.c (.int k b),.c (.str u)])
  (hE:(⟨[],[],.c (.bool (!q))⟩:AEff)=E) (hτ:σ.upd d E=τ) (h:Ah P ops r τ (fs++[E]) K):Ah P ops (⟨d,.binOp .neq t y z t',ty',pos,af,gd⟩::r) σ fs K:=by
 subst hE
 exact BV hg (a6j rfl hy hz hm hq).sound hτ h
theorem TB {op:BinOp}{t t':TypeId}{y z:Operand}{i:Id}{x:AV}(ht:P.underlying t=some (.interface (P.methodsAt t))) (hg:BM ops σ ⟨d,.binOp op t y z t',ty',pos,af,gd⟩=some true) (hy:σ.ev y=.own i) (hz:σ.ev z=.c (.raw .nilIface)) (hi:σ.mem.get i=some (.gen Lj)) (he:EK op false=some x)
  (hE:(⟨[i],[],x⟩:AEff)=E) (hτ:σ.upd d E=τ) (h:Ah P ops r τ (fs++[E]) K):Ah P ops (⟨d,.binOp op t y z t',ty',pos,af,gd⟩::r) σ fs K:=by
 subst hE
 exact BV hg (Yx rfl hy hz hi ht he).sound hτ h
theorem H5 {op:BinOp}{t t':TypeId}{y:Operand}{q:Value}{x:AV}(ht:P.underlying t=some (.interface (P.methodsAt t))) (hg:BM ops σ ⟨d,.binOp op t y (.const q) t',ty',pos,af,gd⟩=some true) (hy:σ.ev y=.c (.raw .nilIface)) (hz:σ.ev (.const q)=.c (.raw .nilIface)) (he:EK op true=some x)
  (hE:(⟨[],[],x⟩:AEff)=E) (hτ:σ.upd d E=τ) (h:Ah P ops r τ (fs++[E]) K):Ah P ops (⟨d,.binOp op t y (.const q) t',ty',pos,af,gd⟩::r) σ fs K:=by
 subst hE
 exact BV hg (YD rfl hy hz ht he).sound hτ h
end
end
section
open Go.RowKit
set_option maxRecDepth 10000
theorem Zh (n m:Nat):((n:Int)==(m:Int))=(n==m):=by
 rw[Bool.eq_iff_iff];simp;omega
theorem Uy (n:Nat):Dd n=((((n:Int)==32)||((n:Int)==9))||((n:Int)==10)||((n:Int)==13)):=by
 unfold Dd
 rw[Bool.eq_iff_iff];simp;omega
theorem Zt (n:Nat):Bx n=(decide ((n:Int)≥48)&&decide ((n:Int)≤57)):=by
 unfold Bx
 rw[Bool.eq_iff_iff];simp;omega
set_option maxRecDepth 10000
theorem Qm {n:Int}(h0:0≤n) (h1:n<256):IntKind.u8.wrap n=n:=IntWalk.u8_in _ (by omega)
theorem Lo {n:Int}(h0:-9223372036854775808≤n) (h1:n≤9223372036854775807):IntKind.i64.wrap n=n:=IntWalk.i64_in _ (by omega)
set_option maxRecDepth 10000
theorem Qu {a b:Nat}(h:a+b<9000000000000000000):IntKind.i64.wrap ((a:Int)+(b:Int))=((a+b:Nat):Int):=by
 rw[Lo (by omega) (by omega)];omega
set_option maxRecDepth 10000
theorem So {s t:ByteArray}{a c:Nat}:∀k,(∀j,j<k→bAt s (a+j)=bAt t (c+j))→Dg s a k=Dg t c k
 | 0,_=>rfl
 |k+1,h=>by
  simp only[Dg]
  rw[So k fun j hj=>h j (by omega),h k (by omega)]
theorem Pf (s:ByteArray) (i:Nat) (hi:i<s.size) (hd:Bx (bAt s (Br s i))=true):∃(m:Bool) (u:ByteArray),0<(s.extract i (BO s i)).size∧(s.extract i (BO s i)).size≤s.size∧(bAt (s.extract i (BO s i)) 0==45)=m∧(if m then (s.extract i (BO s i)).extract 1 (s.extract i (BO s i)).size else s.extract i (BO s i))=u∧0<u.size∧(∀j,j<u.size→Bx (bAt u j)=true) ∧
  Fm s i=decide (16<u.size∨1000000000000000<Dg u 0 u.size)∧H2 s i=(if m then -((Dg u 0 u.size:Nat):Int) else ((Dg u 0 u.size:Nat):Int)):=by
 obtain⟨h1,h2,h3⟩:=MW hi hd
 obtain⟨g1,g2,g3⟩:=MV hi
 have hts:=FW (s:=s) (a:=i) h2
 have hat:∀k,i+k<BO s i→bAt (s.extract i (BO s i)) k=bAt s (i+k):=fun k hk=>Zy h2 hk
 have hA:(bAt s i=45∧Br s i=i+1)∨(bAt s i≠45∧Br s i=i):=by
  unfold Br
  by_cases h:bAt s i=45
  ·exact .inl ⟨h,if_pos h⟩
  ·exact .inr ⟨h,if_neg h⟩
 obtain⟨m,hm⟩:∃m,(bAt (s.extract i (BO s i)) 0==45)=m:=⟨_,rfl⟩
 obtain⟨u,hu⟩:∃u,(if m then (s.extract i (BO s i)).extract 1 (s.extract i (BO s i)).size else s.extract i (BO s i))=u:=⟨_,rfl⟩
 have hm0:=hm
 rw[hat 0 (by omega)]at hm0
 rw[Nat.add_zero]at hm0
 have hus:u.size=BO s i-Br s i∧∀j,j<u.size→bAt u j=bAt s (Br s i+j):=by
  rcases hA with⟨h45,hA⟩ | ⟨h45,hA⟩
  ·have hmt:m=true:=by rw[←hm0];simpa using h45
   subst hmt
   simp only[if_true]at hu
   have hsz:u.size=BO s i-Br s i:=by rw[←hu,FW (Nat.le_refl _),hts];omega
   refine⟨hsz,fun j hj=>?_⟩
   rw[←hu,Zy (Nat.le_refl _) (by omega),hat (1+j) (by omega)]
   congr 1
   omega
  ·have hmt:m=false:=by rw[←hm0];simpa using h45
   subst hmt
   simp only[Bool.false_eq_true,if_false]at hu
   subst hu
   refine⟨by rw[hts,hA],fun j hj=>?_⟩
   rw[hat j (by omega),hA]
 obtain⟨hus,hub⟩:=hus
 have hdec:Dg u 0 u.size=Dg s (Br s i) (BO s i-Br s i):=by
  rw[hus]
  exact So _ fun j hj=>by rw[Nat.zero_add];exact hub j (by omega)
 refine⟨m,u,by omega,by omega,hm,hu,by omega,fun j hj=>by rw[hub j hj];exact h3 _ (by omega) (by omega),?_,?_⟩
 ·unfold Fm
  rw[hdec,hus]
  simp
 ·unfold H2
  rw[hdec]
  have e2:(m=true)=(bAt s i=45):=by rw[←hm0];simp
  simp only[e2]
set_option maxRecDepth 10000
theorem SY {s:ByteArray}{j:Nat}(h:s.size≤j):Cl (bAt s j) = -1:=by rw[Eu h];rfl
set_option maxRecDepth 10000
theorem a2h {s:ByteArray}{i:Nat}(h:i<s.size):s.extract i (i+1)=CN (bAt s i):=by
 obtain⟨b,h1,h2⟩:=Ea h
 rw[h2]
 unfold CN
 have h3:=h1
 rw[getElem?_pos s i h]at h3
 cases h3
 apply ByteArray.ext
 apply Array.toList_inj.1
 rw[show (⟨#[UInt8.ofNat s[i].toNat]⟩:ByteArray).data = #[UInt8.ofNat s[i].toNat] from rfl,UInt8.ofNat_toNat]
 show (s.extract i (i+1)).data.toList=[s[i]]
 rw[Dq,List.take_succ_eq_append_getElem (by simpa using h),List.drop_append_of_le_length (by simp;omega),List.drop_eq_nil_of_le (by rw[List.length_take];exact Nat.min_le_left _ _)]
 rfl
set_option maxRecDepth 10000
theorem GU (l:List CellD):(⟨2,l,[]⟩:EditD).av=.agg [.c (.int .i64 2),.c (.sl (l.map CellD.cs)),.c (.sl [])]:=rfl
theorem H8 (l m:List CellD):(⟨1,l,m⟩:EditD).av=.agg [.c (.int .i64 1),.c (.sl (l.map CellD.cs)),.c (.sl (m.map CellD.cs))]:=rfl
end
end Go.Proofs.YtllfmaflodbieaaGreatDoor
