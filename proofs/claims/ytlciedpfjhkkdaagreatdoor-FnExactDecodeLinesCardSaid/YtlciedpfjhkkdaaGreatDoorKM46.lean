/- Reading a value off a text, the plain mathematics: what is read is small, right and ends within the text. -/
import Derived.Test.YtlciedpfjhkkdaaGreatDoorKM45uM29
set_option linter.all false
namespace Go.Proofs.YtlciedpfjhkkdaaGreatDoor
open Go.RowKit
def FC (c:Int):Prop:=c=2∨c=3∨c=5∨c=7
theorem AS {c:Int}(h:FC c):c≠0:=by unfold FC at h;omega
def Rd.fine {α:Type}(s:ByteArray) (i:Nat) (P:α→Nat→Prop):Rd α→Prop
 | .ok v e=>i<e∧e≤s.size∧P v e
 | .bad c p=>FC c∧i≤p∧p≤s.size
theorem rd5:FC 5:=.inr (.inr (.inl rfl))
theorem EM {s:ByteArray}{i:Nat}(h:i<s.size):bAt s i<256:=by
 obtain⟨b,_,h2⟩:=Ar h
 rw[h2];exact b.toNat_lt
theorem BV {s:ByteArray}{i:Nat}(h:bAt s i≠256):i<s.size:=C5 (by have:=Sm s i;omega)
theorem Gr {s:ByteArray}{i:Nat}(h:i<s.size):i≤Au s i∧Au s i≤i+1∧Au s i≤s.size:=by
 unfold Au
 split
 ·exact⟨by omega,Nat.le_refl _,by omega⟩
 ·exact⟨Nat.le_refl _,by omega,by omega⟩
theorem Gb {s:ByteArray}{i:Nat}(h:i<s.size) (hd:AJ (bAt s (Au s i))=true):Au s i<AF s i∧AF s i≤s.size∧∀j,Au s i≤j→j<AF s i→AJ (bAt s j)=true:=by
 have hlt:=C5 (s:=s) (i:=Au s i) (by have:=DL hd;omega)
 unfold AF
 by_cases h0:bAt s (Au s i)=48
 ·rw[if_pos h0]
  refine⟨by omega,by omega,fun j h1 h2=>?_⟩
  have:j=Au s i:=by omega
  rw[this];exact hd
 ·rw[if_neg h0]
  obtain⟨h1,h2,_,h3⟩:=Ht (s:=s) (i:=Au s i) (by omega)
  refine⟨?_,h2,h3⟩
  rw[HX hd]
  have:=(Ht (s:=s) (i:=Au s i+1) (by omega)).1
  omega
theorem PJ {s:ByteArray}{i:Nat}(h:D3 s i=false):-1000000000000000≤Dy s i∧Dy s i≤1000000000000000:=by
 have h2:AU s (Au s i) (AF s i-Au s i)≤1000000000000000:=by
  unfold D3 at h
  have:=(Bool.or_eq_false_iff.1 h).2
  simpa using this
 unfold Dy
 split<;>omega
theorem OO {s:ByteArray}{i:Nat}(h:i<s.size):(KM s i).fine s i fun n _=>-1000000000000000≤n∧n≤1000000000000000:=by
 obtain⟨ha,ha',ha2⟩:=Gr h
 unfold KM
 cases hd:AJ (bAt s (Au s i)) with
 |false=>exact⟨rd5,ha,ha2⟩
 |true =>
  obtain⟨h1,h2,_⟩:=Gb h hd
  simp only[Bool.true_eq_false,if_false]
  cases hb:D3 s i with
  |true=>exact⟨.inr (.inl rfl),Nat.le_refl _,by omega⟩
  |false =>
   simp only[Bool.false_eq_true,if_false]
   split
   ·exact⟨.inr (.inl rfl),by omega,h2⟩
   ·exact⟨by omega,h2,PJ hb⟩
theorem ET {n:Nat}(h:¬AL n<0):48≤n∧n≤102∧AL n≤15∧0≤AL n:=by
 unfold AL at *
 unfold AJ at *
 by_cases h1:48≤n<;>by_cases h2:n≤57<;>by_cases h3:97≤n<;>by_cases h4:n≤102<;>by_cases h5:65≤n<;>by_cases h6:n≤70<;>simp[h1,h2,h3,h4,h5,h6]at h ⊢<;>omega
theorem GN {s:ByteArray}{i:Nat}(h:i<s.size):(Eb s i).fine s i fun b _=>32≤b∧b≤126:=by
 unfold Eb
 split
 ·rename_i h1
  have hlt:=BV (s:=s) (i:=i+1) (by omega)
  exact⟨by omega,by omega,by omega,by omega⟩
 split
 ·exact⟨rd5,by omega,by omega⟩
 rename_i h0 h1
 have hlt:=BV (s:=s) (i:=i+1) (by omega)
 split
 ·exact⟨rd5,by omega,by omega⟩
 rename_i h2
 have hlt2:=BV (s:=s) (i:=i+2) (by omega)
 split
 ·exact⟨rd5,by omega,by omega⟩
 rename_i h3
 have hlt3:=BV (s:=s) (i:=i+3) (by omega)
 split
 ·exact⟨rd5,by omega,by omega⟩
 rename_i h4
 have g4:=ET h4
 have hlt4:=BV (s:=s) (i:=i+4) (by omega)
 split
 ·exact⟨rd5,by omega,by omega⟩
 rename_i h5
 have g5:=ET h5
 have hlt5:=BV (s:=s) (i:=i+5) (by omega)
 split
 ·exact⟨by omega,by omega,by omega,by omega⟩
 ·exact⟨rd5,by omega,by omega⟩
def N3 (t:ByteArray):Prop:=t.data.toList.all KP=true
theorem MY:N3 ByteArray.empty:=by unfold N3;rfl
theorem JK {t:ByteArray}(h:N3 t) {n:Nat}(h1:32≤n) (h2:n≤126):N3 (t++Bx n):=by
 unfold N3 at *
 have hb:KP (UInt8.ofNat n)=true:=by
  have:(UInt8.ofNat n).toNat=n:=by
   rw[UInt8.toNat_ofNat']
   exact Nat.mod_eq_of_lt (by omega)
  unfold KP
  rw[this]
  simp[h1,h2]
 have hd:(t++Bx n).data=t.data++#[UInt8.ofNat n]:=ByteArray.data_append
 rw[hd,Array.toList_append,List.all_append,h]
 simp[hb]
theorem EV (n:Nat):(Bx n).size=1:=rfl
theorem Dh (t:ByteArray) (n:Nat):(t++Bx n).size=t.size+1:=by rw[ByteArray.size_append,EV]
theorem N1 {s:ByteArray}{from_:Nat}:∀(n i:Nat) (out:ByteArray),s.size-i<n→from_<i→i≤s.size→N3 out→(Dx s from_ n i out).fine s from_ fun t _=>BR t=true:=by
 intro n
 induction n with
 |zero=>intro i out hn;omega
 |succ n ih =>
  intro i out hn hf hi ho
  unfold Dx
  split
  ·exact⟨rd5,by omega,Nat.le_refl _⟩
  split
  ·split
   ·exact⟨.inl rfl,Nat.le_refl _,by omega⟩
   ·rename_i h60
    refine⟨by omega,by omega,?_⟩
    show BR out=true
    unfold BR
    unfold N3 at ho
    rw[ho]
    simp
    omega
  split
  ·exact⟨rd5,by omega,hi⟩
  rename_i h1 h2 h3
  split
  ·exact ih (i+1) _ (by omega) (by omega) (by omega) (JK ho (by omega) (by omega))
  ·have he:=GN (s:=s) (i:=i) (by omega)
   cases hr:Eb s i with
   |bad c p =>
    rw[hr]at he
    exact⟨he.1,by have:=he.2.1;omega,he.2.2⟩
   |ok b e =>
    rw[hr]at he
    obtain⟨g1,g2,g3,g4⟩:=he
    exact ih e _ (by omega) (by omega) g2 (JK ho g3 g4)
theorem Df {s:ByteArray}{i:Nat}(hi:i≤s.size):(Dl s i).fine s i fun t _=>BR t=true:=by
 unfold Dl
 split
 ·exact⟨rd5,Nat.le_refl _,hi⟩
 ·rename_i h
  have hlt:=BV (s:=s) (i:=i) (by omega)
  exact N1 _ _ _ (by omega) (by omega) (by omega) MY
theorem HU {s:ByteArray}{v:V}{i:Nat}:∀(l:List Nat) (k:Nat),(∀b∈l,b<256)→i+k≤s.size→(l≠[]∨0<k)→(C3 s v i l k).fine s i fun x _=>x=v
 | [],k,_,h,hk=>by
  unfold C3
  refine⟨?_,h,rfl⟩
  rcases hk with hk | hk
  ·exact absurd rfl hk
  ·omega
 |b::r,k,hb,h,hk=>by
  unfold C3
  split
  ·rename_i hbe
   have h1:=hb b (by simp)
   have hlt:=C5 (s:=s) (i:=i+k) (by omega)
   exact HU r (k+1) (fun x hx=>hb x (by simp[hx])) (by omega) (.inr (by omega))
  ·exact⟨rd5,by omega,h⟩
theorem Jg {s:ByteArray}{i:Nat}(hi:i≤s.size):(HP s i).fine s i fun t _=>BR t=true:=by
 unfold HP
 have h:=Df hi
 cases hr:Dl s i with
 |bad c p=>rw[hr]at h;exact h
 |ok k e =>
  rw[hr]at h
  obtain⟨h1,h2,h3⟩:=h
  obtain⟨g1,g2,_⟩:=AA h2
  show (if bAt s (Aa s e)≠58 then Rd.bad 5 (Aa s e) else .ok k (Aa s (Aa s e+1))).fine s i _
  split
  ·exact⟨rd5,by omega,g2⟩
  ·rename_i h4
   have hlt:=BV (s:=s) (i:=Aa s e) (by omega)
   obtain⟨g3,g4,_⟩:=AA (s:=s) (i:=Aa s e+1) (by omega)
   exact⟨by omega,g4,h3⟩
def rdV (k i:Nat) (v:V) (e:Nat):Prop:=v.fit∧v.depth≤k∧v.count≤e-i∧(v.count≤200→v.wf)
theorem Mf {s:ByteArray}{k:Nat}{rd:Nat→Rd V}(hrd:∀i,i≤s.size→(rd i).fine s i (rdV k i)) (i0:Nat) (obj:Bool):∀(n i:Nat) (first:Bool) (keys:List ByteArray) (kids:List V),s.size-i<n→i0<i→i≤s.size→(obj=true→keys.length=kids.length)→(∀x∈keys,BR x=true)→(∀v∈kids,v.fit∧v.depth≤k∧(v.count≤200→v.wf))→Am kids+i0+1≤i→(B0 s rd obj n i first keys kids).fine s i0 (rdV (k+1) i0):=by
 intro n
 induction n with
 |zero=>intro i first keys kids hn;omega
 |succ n ih =>
  intro i first keys kids hn h0 hi hl hks hvs hc
  unfold B0
  by_cases hend:bAt s i=(if obj then 125 else 93)
  ·rw[if_pos hend]
   have hlt:=BV (s:=s) (i:=i) (by rw[hend];cases obj<;>decide)
   refine⟨by omega,by omega,?_⟩
   have hfit:∀v∈kids,v.fit:=fun v hv=>(hvs v hv).1
   have hdep:∀v∈kids,v.depth≤k:=fun v hv=>(hvs v hv).2.1
   cases obj with
   |false =>
    refine⟨Rt hfit,?_,?_,fun h200=>?_⟩
    ·show CC kids+1≤k+1
     have:=JX hdep
     omega
    ·show Am kids+1≤i+1-i0
     omega
    ·have hcc:Am kids+1≤200:=h200
     have hcl:=BH kids
     exact Sz (Kg.2 fun v hv=>(hvs v hv).2.2 (by have:=CM hv;omega)) (by omega)
   |true =>
    have hl':=hl rfl
    have hmem:∀v∈(AI keys).map (AB keys kids),v∈kids:=fun v hv=>by
     obtain⟨x,hx,rfl⟩:=List.mem_map.1 hv
     obtain⟨j,_,_,h3⟩:=Eh (kids:=kids) hl' (BD.1 hx)
     exact List.mem_of_getElem? h3
    have hcl:Am ((AI keys).map (AB keys kids))≤Am kids:=FK _ keys kids hl' rfl
    refine⟨S3 hl' (fun x hx=>JD (hks x hx)) hfit,?_,?_,fun h200=>?_⟩
    ·show CC ((AI keys).map (AB keys kids))+1≤k+1
     have:=JX fun v hv=>hdep v (hmem v hv)
     omega
    ·show Am ((AI keys).map (AB keys kids))+1≤i+1-i0
     omega
    ·have hcc:Am ((AI keys).map (AB keys kids))+1≤200:=h200
     have hln:=BH ((AI keys).map (AB keys kids))
     refine SC (List.length_map _).symm (fun x hx=>hks x (BD.1 hx)) (Em _) (fun v hv=>(hvs v (hmem v hv)).2.2 (by have:=CM hv;omega)) (by omega)
  rw[if_neg hend]
  by_cases hcomma:first=false∧bAt s i≠44
  ·rw[if_pos hcomma];exact⟨rd5,by omega,hi⟩
  rw[if_neg hcomma]
  have hj:∃j,(if first then i else Aa s (i+1))=j∧i≤j∧j≤s.size:=by
   cases first with
   |true=>exact⟨i,rfl,Nat.le_refl _,hi⟩
   |false =>
    have hb:bAt s i=44:=Classical.byContradiction fun h=>hcomma ⟨rfl,h⟩
    have hlt:=BV (s:=s) (i:=i) (by omega)
    obtain⟨g1,g2,_⟩:=AA (s:=s) (i:=i+1) (by omega)
    exact⟨Aa s (i+1),rfl,by omega,g2⟩
  obtain⟨j,hje,hj1,hj2⟩:=hj
  rw[hje]
  have hk:∃r,(if obj then HP s j else .ok ByteArray.empty j)=r∧(match r with | .bad c p=>FC c∧i0≤p∧p≤s.size | .ok x e=>j≤e∧e≤s.size∧BR x=true):=by
   cases obj with
   |false=>exact⟨_,rfl,Nat.le_refl _,hj2,Co⟩
   |true =>
    refine⟨_,rfl,?_⟩
    have hkf:=Jg hj2
    show (match HP s j with | .bad c p=>FC c∧i0≤p∧p≤s.size | .ok x e=>j≤e∧e≤s.size∧BR x=true)
    cases hkr:HP s j with
    |bad c p=>rw[hkr]at hkf;exact⟨hkf.1,by have:=hkf.2.1;omega,hkf.2.2⟩
    |ok x e=>rw[hkr]at hkf;exact⟨by have:=hkf.1;omega,hkf.2.1,hkf.2.2⟩
  obtain⟨r,hre,hr⟩:=hk
  rw[hre]
  cases r with
  |bad c p=>exact hr
  |ok x e =>
   obtain⟨h1,h2,h3⟩:=hr
   have hv:=hrd e h2
   show (match rd e with | .bad c p=>Rd.bad c p | .ok v e2=>B0 s rd obj n (Aa s e2) false (if obj then keys++[x] else keys) (kids++[v])).fine s i0 _
   cases hve:rd e with
   |bad c p=>rw[hve]at hv;exact⟨hv.1,by have:=hv.2.1;omega,hv.2.2⟩
   |ok v e2 =>
    rw[hve]at hv
    obtain⟨g1,g2,g3,g4,g5,g6⟩:=hv
    obtain⟨k1,k2,_⟩:=AA g2
    refine ih (Aa s e2) false _ _ (by omega) (by omega) k2 ?_ ?_ ?_ ?_
    ·intro ho
     subst ho
     simp[hl rfl]
    ·intro y hy
     cases obj with
     |false=>exact hks y hy
     |true =>
      rcases List.mem_append.1 hy with hy | hy
      ·exact hks y hy
      ·rw[List.mem_singleton.1 hy];exact h3
    ·intro y hy
     rcases List.mem_append.1 hy with hy | hy
     ·exact hvs y hy
     ·rw[List.mem_singleton.1 hy];exact⟨g3,g4,g6⟩
    ·rw[CY]
     omega
theorem Qb {k i e:Nat}(m:Int) (h0:m=0∨m=1∨m=2) (h:i<e):rdV (k+1) i (Bs m) e:=by
 refine⟨⟨Nat.zero_le _,by simp,fun _=>rfl,fun h=>absurd h (by omega),fun _=>rfl,trivial⟩,?_,?_,fun _=>?_⟩
 ·show CC []+1≤k+1
  simp[CC]
 ·show Am []+1≤e-i
  simp only[Am]
  omega
 ·refine⟨?_,by simp[GD];omega,trivial⟩
  rcases h0 with rfl | rfl | rfl<;>decide +kernel
theorem Rh {k i e:Nat}{t:ByteArray}(ht:BR t=true) (h:i<e):rdV (k+1) i (J7 t) e:=by
 refine⟨⟨by have:=JD ht;show t.size≤200;omega,by simp,fun _=>rfl,fun h=>absurd h (by decide),fun _=>rfl,trivial⟩,?_,?_,fun _=>(N4 ht).1⟩
 ·show CC []+1≤k+1
  simp[CC]
 ·show Am []+1≤e-i
  simp only[Am]
  omega
theorem Rl {k i e:Nat}{n:Int}(hn:-1000000000000000≤n∧n≤1000000000000000) (h:i<e):rdV (k+1) i (FT n) e:=by
 refine⟨⟨Nat.zero_le _,by simp,fun _=>rfl,fun h=>absurd h (by decide),fun _=>rfl,trivial⟩,?_,?_,fun _=>(MV hn).1⟩
 ·show CC []+1≤k+1
  simp[CC]
 ·show Am []+1≤e-i
  simp only[Am]
  omega
theorem BQ {s:ByteArray}:∀(k i:Nat),i≤s.size→(Cn k s i).fine s i (rdV k i)
 | 0,i,h=>by
  unfold Cn
  split
  ·exact⟨rd5,h,Nat.le_refl _⟩
  ·exact⟨.inr (.inr (.inr rfl)),Nat.le_refl _,by omega⟩
 |k+1,i,h=>by
  have hw:∀(m:Int) (l:List Nat),(m=0∨m=1∨m=2)→(∀b∈l,b<256)→l≠[]→(C3 s (Bs m) i l 0).fine s i (rdV (k+1) i):=by
   intro m l hm hb hl
   have hf:=HU (s:=s) (v:=Bs m) (i:=i) l 0 hb (by omega) (.inl hl)
   cases hr:C3 s (Bs m) i l 0 with
   |bad c p=>rw[hr]at hf;exact hf
   |ok v e =>
    rw[hr]at hf
    obtain⟨h1,h2,rfl⟩:=hf
    exact⟨h1,h2,Qb m hm h1⟩
  have hm:∀obj:Bool,i<s.size→(B0 s (Cn k s) obj (s.size+1) (Aa s (i+1)) true [] []).fine s i (rdV (k+1) i):=by
   intro obj hlt
   obtain⟨g1,g2,_⟩:=AA (s:=s) (i:=i+1) (by omega)
   exact Mf (fun j hj=>BQ k j hj) i obj _ _ _ _ _ (by omega) (by omega) g2 (fun _=>rfl) (by simp) (by simp) (by simp only[Am];omega)
  unfold Cn
  split
  ·exact⟨rd5,h,Nat.le_refl _⟩
  rename_i hlt
  split
  ·exact hw 0 _ (.inl rfl) (by simp) (by simp)
  split
  ·exact hw 1 _ (.inr (.inl rfl)) (by simp) (by simp)
  split
  ·exact hw 2 _ (.inr (.inr rfl)) (by simp) (by simp)
  split
  ·exact hm false (by omega)
  split
  ·exact hm true (by omega)
  split
  ·have hf:=Df h
   cases hr:Dl s i with
   |bad c p=>rw[hr]at hf;exact hf
   |ok t e =>
    rw[hr]at hf
    exact⟨hf.1,hf.2.1,Rh hf.2.2 hf.1⟩
  ·have hf:=OO (s:=s) (i:=i) (by omega)
   cases hr:KM s i with
   |bad c p=>rw[hr]at hf;exact hf
   |ok t e =>
    rw[hr]at hf
    exact⟨hf.1,hf.2.1,Rl hf.2.2 hf.1⟩
theorem E5 {s:ByteArray}{v:V}{c:Int×Nat}(h:Ba s=(c,some v)):c=(0,0)∧v.right∧v.fit:=by
 unfold Ba at h
 split at h
 ·cases h
 have hf:=BQ (s:=s) 20 (Aa s 0) (AA (Nat.zero_le _)).2.1
 cases hr:Cn 20 s (Aa s 0) with
 |bad c p=>rw[hr]at h;cases h
 |ok u e =>
  rw[hr]at h hf
  simp only at h
  split at h
  ·cases h
  split at h
  ·cases h
  ·rename_i h200
   cases h
   obtain⟨_,_,h1,h2,_,h3⟩:=hf
   exact⟨rfl,⟨h3 (by omega),by omega,h2⟩,h1⟩
theorem EL {s:ByteArray}{c:Int×Nat}(h:Ba s=(c,none)):FC c.1∧c.2≤s.size:=by
 unfold Ba at h
 split at h
 ·cases h;exact⟨.inl rfl,Nat.zero_le _⟩
 have hf:=BQ (s:=s) 20 (Aa s 0) (AA (Nat.zero_le _)).2.1
 cases hr:Cn 20 s (Aa s 0) with
 |bad c p=>rw[hr]at h hf;cases h;exact⟨hf.1,hf.2.2⟩
 |ok u e =>
  rw[hr]at h hf
  simp only at h
  split at h
  ·rename_i h2
   cases h
   exact⟨rd5,by show Aa s e≤s.size;omega⟩
  split at h
  ·cases h;exact⟨.inl rfl,Nat.zero_le _⟩
  ·cases h
end Go.Proofs.YtlciedpfjhkkdaaGreatDoor
