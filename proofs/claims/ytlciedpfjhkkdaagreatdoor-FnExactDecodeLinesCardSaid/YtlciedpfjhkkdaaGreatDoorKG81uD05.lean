/- Texts of this proof: G81 R09 G26 R14 H99 G64 G65 G66 G34 G31 M38 M49 D03 D04 E39 M51 D05. -/
import Derived.Test.YtlciedpfjhkkdaaGreatDoorKG22uG9
import Derived.Shelf.Strconv.Itoa4
import Derived.Test.YtlciedpfjhkkdaaGreatDoorKE35uD02
import Derived.Lib.ItoaLen
import Derived.Lib.ItoaMem
import Derived.Test.YtlciedpfjhkkdaaGreatDoorKR07uR08
import Derived.Deep.RegionLaw
import Derived.Shelf.RegionOpenPlain
import Derived.Laws.Strings3
set_option linter.all false
set_option maxHeartbeats 8000000
namespace Go.Proofs.YtlciedpfjhkkdaaGreatDoor
section
open Go.RowKit
set_option maxRecDepth 10000
theorem RN (k:Int):(V.mk k 0 ByteArray.empty [] []).enc.map CellD.cs=[[.int .i64 k,.int .i64 0,.str ByteArray.empty,.str ByteArray.empty,.int .i64 0]]:=rfl
end
section
open Go.RowKit Go.Shelf
def TF (n:Int):ByteArray:=⟨(Lib.itoa n).toArray⟩
end
section
open Go.RowKit
set_option maxRecDepth 10000
theorem Ri (n lo hi:Int):AC Tryz.prog 115 [.c (.int .i64 n),.c (.int .i64 lo),.c (.int .i64 hi)] [] (.c (.bool (decide (n≥lo)&&decide (n≤hi)))) []:=by
 cases h1:decide (n≥lo)<;>cases h2:decide (n≤hi)
 all_goals
  refine A7 Tryz.func115 Tryz.ntmps115 ?_
  refine A0 (j2 h1 h2) ?_
  exact Al (A6 []) Tryz.results115
def PV (sep:ByteArray):List ByteArray→ByteArray
 | []=>ByteArray.empty
 |x::r=>match r with
  | []=>x
  |_=>x++sep++PV sep r
def Tn:ByteArray:=⟨#[110,117,108,108]⟩
def Si:ByteArray:=⟨#[102,97,108,115,101]⟩
def Ta:ByteArray:=⟨#[116,114,117,101]⟩
abbrev bS (b:UInt8):ByteArray:=⟨#[b]⟩
mutual
def V.txt:V→ByteArray
 | .mk kind num text keys kids=>if kind=0 then Tn else if kind=1 then Si else if kind=2 then Ta else if kind=3 then TF num else if kind=4 then Rw text
  else if kind=5 then bS 91++PV (bS 44) (ML kind keys kids)++bS 93 else bS 123++PV (bS 44) (ML kind keys kids)++bS 125
def ML (kind:Int) (keys:List ByteArray):List V→List ByteArray
 | []=>[]
 |x::r=>(if kind=6 then Rw (keys.headD ByteArray.empty)++bS 58++x.txt else x.txt)::ML kind keys.tail r
end
def V.part (t:V) (i:Nat) (x:V):ByteArray:=if t.kind=6 then Rw (t.keyAt i)++bS 58++x.txt else x.txt
theorem TR (l:List (List CellD)):Bj (l.map F7)=true:=by
 induction l with
 |nil=>rfl
 |cons c l ih=>simp only[List.map_cons,Bj,ih,Bool.and_true,F7,E8,C.closed,G5]
theorem TS (l:List (List CellD)):AX (l.map F7)=l.map An:=by
 induction l with
 |nil=>rfl
 |cons c l ih=>simp only[List.map_cons,AX,ih,F7,Bu,C.forget,Gk,An]
attribute [go_sem] TR TS
set_option maxRecDepth 10000
def EditD.cs (d:EditD):List C:=[.int .i64 d.op,.sl (d.path.map CellD.cs),.sl (d.x.map CellD.cs)]
def EditD.os (d:EditD):List C:=[.int .i64 d.op,.osl (d.path.map CellD.cs),.osl (d.x.map CellD.cs)]
def EditD.av (d:EditD):AV:=.agg [.c (.int .i64 d.op),.c (.sl (d.path.map CellD.cs)),.c (.sl (d.x.map CellD.cs))]
theorem KH (l:List EditD):AX (l.map EditD.os)=l.map EditD.cs:=by
 induction l with
 |nil=>rfl
 |cons d l ih=>simp only[List.map_cons,AX,ih,EditD.os,EditD.cs,Bu,C.forget,Gk]
theorem K2 (l:List EditD):Bj (l.map EditD.os)=true:=by
 induction l with
 |nil=>rfl
 |cons d l ih=>simp only[List.map_cons,Bj,ih,Bool.and_true,EditD.os,E8,C.closed,G5]
theorem Pr (l:List EditD):((l.map EditD.os).all fun r=>r.length==3)=true:=by simp[EditD.os]
attribute [go_sem] KH K2 Pr EditD.av
set_option maxRecDepth 10000
theorem Ln (ps:List V) (hc:(CX ps).count≤500000):AC Tryz.prog 98 [.c (.sl ((ps.map V.enc).map An))] [] (.c (.sl ((CX ps).enc.map CellD.cs))) []:=by
 have h:=MF ps hc
 (apply (AC.says [] [(0,0)] h);(focus (simp only[go_sem,Nat.reduceEqDiff,Nat.reduceAdd,Nat.reduceSub,Nat.reduceLeDiff,Nat.reduceMul,Nat.reduceBEq,Nat.reduceLT,Int.reduceToNat,reduceCtorEq];try (and_intros<;>rfl)));(focus exact rfl);(focus (simp only[go_sem,Nat.reduceEqDiff,Nat.reduceAdd,Nat.reduceSub,Nat.reduceLeDiff,Nat.reduceMul,Nat.reduceBEq,Nat.reduceLT,Int.reduceToNat,reduceCtorEq];try (and_intros<;>rfl)));(focus exact rfl);(iterate 4 (focus (simp[go_sem];done))))
set_option maxRecDepth 10000
theorem GZ {q:V}(h:q.right):AC Tryz.prog 40 [q.av] [] (.own (0,0)) [((0,0),.row false 5 94 (q.enc.map CellD.cs))] :=
 QX q.count q (Nat.le_refl _) (by have:=h.2.1;omega) (Mp h)
def TH (t:V):Int×Option V:=if t.count≤200 then okR t else TB 2
def Sub (s:ByteArray) (i:Nat) (l:List UInt8):Prop:=∃r,s.data.toList.drop i=l++r
theorem CU (s:ByteArray) (i:Nat):bAt s i=match s.data.toList[i]? with | some b=>b.toNat | none=>256:=by
 rcases Nat.lt_or_ge i s.size with h | h
 ·obtain⟨b,h1,h2⟩:=Ar h
  have h3:s.data.toList[i]? = some b:=by
   have:s[i]? = some s[i]:=getElem?_pos s i h
   rw[this]at h1
   have hl:i<s.data.toList.length:=by rw[Array.length_toList];exact h
   rw[List.getElem?_eq_getElem hl,Array.getElem_toList]
   exact h1
  rw[h3,h2]
 ·have hl:s.data.toList[i]? = none:=List.getElem?_eq_none (by rw[Array.length_toList];exact h)
  rw[hl,Bn h]
theorem Sub.right {s:ByteArray}{i:Nat}{a b:List UInt8}(h:Sub s i (a++b)):Sub s (i+a.length) b:=by
 obtain⟨r,h⟩:=h
 refine⟨r,?_⟩
 rw[←List.drop_drop,h,List.append_assoc,List.drop_left]
theorem Sub.tail {s:ByteArray}{i:Nat}{b:UInt8}{l:List UInt8}(h:Sub s i (b::l)):Sub s (i+1) l:=Sub.right (a:=[b]) h
theorem Sub.size {s:ByteArray}{i:Nat}{l:List UInt8}(h:Sub s i l) (hl:l≠[]):i+l.length≤s.size:=by
 obtain⟨r,h⟩:=h
 have h1:=congrArg List.length h
 rw[List.length_drop,List.length_append,Array.length_toList]at h1
 have h2:s.data.size=s.size:=rfl
 have h3:=List.length_pos_iff.2 hl
 omega
theorem CZ (a:ByteArray):a.data.toList.length=a.size:=Array.length_toList
set_option maxRecDepth 10000
def rdA (R:Rd V) (x:ByteArray):AV:=match R with
 | .ok v e=>CV (.c (.sl (v.enc.map CellD.cs))) x e
 | .bad c p=>AP c p
theorem CL {a b:Nat}(h:a+b<9000000000000000000):IntKind.i64.wrap ((a:Int)+(b:Int))=((a+b:Nat):Int):=by
 rw[C4 (by omega) (by omega)];omega
theorem GL (s:ByteArray) (hs:s.size≤1000000) (i:Nat) (hi:i≤s.size) (w:ByteArray) (hw:w.size≤100) (m:Int) :
  AC Tryz.prog 73 [.c (.str s),.c (.int .i64 i),.c (.str w),.c (.int .i64 m)] [] (rdA (C3 s (Bs m) i (w.data.toList.map UInt8.toNat) 0) ByteArray.empty) []:=by
 have hlen:(w.data.toList.map UInt8.toNat).length=w.size:=by simp
 obtain⟨l,hl⟩:∃l,w.data.toList.map UInt8.toNat=l:=⟨_,rfl⟩
 rw[hl]at hlen ⊢
 obtain⟨R,hR⟩:∃R,C3 s (Bs m) i l 0=R:=⟨_,rfl⟩
 rw[hR]
 refine A7 Tryz.func73 Tryz.ntmps73 ?_
 refine A0 trivial ?_
 refine AH (κ:=Nat) (fun k=>⟨mkS 0 45 [(0,.c (.str s)),(1,.c (.int .i64 i)),(2,.c (.str w)),(3,.c (.int .i64 m)),(8,.ptr (8,0) 0),(9,.c (.int .i64 k))],[((8,0),.box [.nils,.c (.str ByteArray.empty),.c (.int .i64 0),.c (.int .i64 0),.c (.int .i64 0)])]⟩)
  (fun k=>k≤w.size∧C3 s (Bs m) i (l.drop k) k=R) (fun k=>w.size-k) 0 ⟨Nat.zero_le _,hR⟩ ?_ ?_
 ·exact Ao (Ay.of [((8,0),(8,0))] []) hi
 ·rintro k ⟨hk,hgo⟩
  by_cases hlt:k<w.size
  ·have hdk:decide ((k:Int)<(w.size:Int))=true:=by simpa using hlt
   have hwk:=Ae (k:=k) (by omega)
   have hwp:=CL (a:=i) (b:=k) (by omega)
   obtain⟨b,hb,hb2⟩:=Ar hlt
   have hlk:l[k]? = some b.toNat:=by
    have:=CU w k
    rw[←hl,List.getElem?_map]
    cases hq:w.data.toList[k]? with
    |none=>rw[List.getElem?_eq_none_iff,CZ]at hq;omega
    |some b' =>
     rw[hq,hb2]at this
     simp only at this
     rw[Option.map_some,this]
   obtain⟨hkl,hke⟩:=List.getElem?_eq_some_iff.1 hlk
   rw[List.drop_eq_getElem_cons hkl,hke]at hgo
   simp only[C3]at hgo
   have hbad:=AZ 5 (i+k)
   by_cases hin:i+k<s.size
   ·have hge:decide (((i+k:Nat):Int)≥(s.size:Int))=false:=by simp;omega
    obtain⟨b1,h1,h2⟩:=Ar hin
    rw[h2]at hgo
    by_cases heq:b1.toNat=b.toNat
    ·rw[if_pos heq]at hgo
     have hne:(((b1.toNat:Nat):Int) != ((b.toNat:Nat):Int))=false:=by simp[heq]
     refine A0 (j7 hdk hwp hge h1 hb hne hwk) ?_
     refine⟨k+1,by omega,⟨by omega,hgo⟩,?_⟩
     exact Ao (Ay.of [((8,0),(8,0))] []) hwk
    ·rw[if_neg heq]at hgo
     subst hgo
     have hne:(((b1.toNat:Nat):Int) != ((b.toNat:Nat):Int))=true:=by simp;omega
     unfold rdA
     unfold AP at hbad ⊢
     refine A0 (j6 hdk hwp hge h1 hb hne) ?_
     refine w7 (A4 [] hbad) trivial ?_
     refine A0 trivial ?_
     exact Al (A6 []) Tryz.results73
   ·have hge:decide (((i+k:Nat):Int)≥(s.size:Int))=true:=by simp;omega
    rw[Bn (by omega),if_neg (by have:=b.toNat_lt;omega)]at hgo
    subst hgo
    unfold rdA
    unfold AP at hbad ⊢
    refine A0 (j3 hdk hwp hge) ?_
    refine w7 (A4 [] hbad) trivial ?_
    refine A0 trivial ?_
    exact Al (A6 []) Tryz.results73
  ·have hdk:decide ((k:Int)<(w.size:Int))=false:=by simpa using hlt
   have hkw:k=w.size:=by omega
   rw[List.drop_eq_nil_of_le (by omega)]at hgo
   simp only[C3]at hgo
   subst hgo
   have hwp:=CL (a:=i) (b:=w.size) (by omega)
   have hme:=RN m
   unfold rdA CV Bs
   rw[hkw]at hdk ⊢
   refine A0 (j2 hdk hwp) ?_
   exact Ad (Ac [] [(39,0)]) Tryz.results73 hme
set_option maxRecDepth 10000
theorem M7 (s:ByteArray) (hs:s.size≤1000000) (i:Nat) (hi:i<s.size) (hd:AJ (bAt s (Au s i))=true):AC Tryz.prog 132 [.c (.str s),.c (.int .i64 i)] [] (.tup [.c (.int .i64 (AF s i)),.c (.int .i64 0)]) []:=by
 have ha0:=C5 (s:=s) (i:=Au s i) (by have:=DL hd;omega)
 have hdi:decide ((i:Int)<(s.size:Int))=true:=by simpa using hi
 obtain⟨b,hg,hb⟩:=Ar hi
 obtain⟨b2,hg2,hb2⟩:=Ar ha0
 have hdg:=Fr b2.toNat
 rw[←hb2,hd]at hdg
 have hbn2:((b2.toNat:Nat):Int)=((bAt s (Au s i):Nat):Int):=by rw[hb2]
 have hbn:((b.toNat:Nat):Int)=((bAt s i:Nat):Int):=by rw[hb]
 have hwi:=Ae (k:=i) (by omega)
 have hga:decide (((Au s i:Nat):Int)≥(s.size:Int))=false:=by simp;omega
 have hwa:=Ae (k:=Au s i) (by omega)
 have hEz:bAt s (Au s i)=48→AF s i=Au s i+1:=fun h=>by unfold AF;rw[if_pos h]
 have hEn:bAt s (Au s i)≠48→CA s (Au s i)=AF s i:=fun h=>by unfold AF;rw[if_neg h]
 have fin:∀a,Au s i=a→∀j,a≤j→j≤s.size→CA s j=AF s i→True:=fun _ _ _ _ _ _=>trivial
 clear fin
 have hA:(bAt s i=45∧Au s i=i+1)∨(bAt s i≠45∧Au s i=i):=by
  unfold Au
  by_cases h:bAt s i=45
  ·exact .inl ⟨h,if_pos h⟩
  ·exact .inr ⟨h,if_neg h⟩
 generalize Au s i=a at *
 generalize AF s i=e at *
 rcases hA with⟨h45,hA⟩ | ⟨h45,hA⟩
 all_goals
  first
   |have q45:(((bAt s i:Nat):Int)==45)=true:=by simp;omega
   |have q45:(((bAt s i:Nat):Int)==45)=false:=by simp;omega
  subst hA
  by_cases h48:b2.toNat=48
  ·have q48:(((b2.toNat:Nat):Int)==48)=true:=by simp;omega
   have r48:=q48
   rw[hbn2]at r48
   have he:=hEz (by omega)
   subst he
   refine A7 Tryz.func132 Tryz.ntmps132 ?_
   refine A0 (j8 hdi hg hbn q45 hwi hga hg2 hbn2) ?_
   refine w7 (A4 [] hdg) trivial ?_
   refine A0 (j4 hg2 hbn2 r48 hwa) ?_
   exact Al (A6 []) Tryz.results132
  ·have q48:(((b2.toNat:Nat):Int)==48)=false:=by simp;omega
   have r48:=q48
   rw[hbn2]at r48
   have he:=hEn (by omega)
   refine A7 Tryz.func132 Tryz.ntmps132 ?_
   refine A0 (j8 hdi hg hbn q45 hwi hga hg2 hbn2) ?_
   refine w7 (A4 [] hdg) trivial ?_
   refine A0 (j3 hg2 hbn2 r48) ?_
   refine AH (κ:=Nat) (fun j=>⟨mkS 0 49 [(0,.c (.str s)),(1,.c (.int .i64 j))],[]⟩) (fun j=>j≤s.size∧CA s j=e) (fun j=>s.size-j) _ ⟨by omega,he⟩ ?_ ?_
   ·exact Ao (Ay.of [] []) he
   ·rintro j ⟨hj,hje⟩
    by_cases hlt:j<s.size
    ·have hdk:decide ((j:Int)<(s.size:Int))=true:=by simpa using hlt
     have hwj:=Ae (k:=j) (by omega)
     obtain⟨b3,hg3,hb3⟩:=Ar hlt
     have hdg3:=Fr b3.toNat
     have hbn3:((b3.toNat:Nat):Int)=((bAt s j:Nat):Int):=by rw[hb3]
     rw[←hb3]at hdg3
     cases hdb:AJ (bAt s j) with
     |true =>
      rw[hdb]at hdg3
      refine A0 (j3 hdk hg3 hbn3) ?_
      refine w7 (A4 [] hdg3) trivial ?_
      refine A0 hwj ?_
      refine⟨j+1,by omega,⟨by omega,by rw[←HX hdb,hje]⟩,?_⟩
      exact Ao (Ay.of [] []) hwj
     |false =>
      rw[hdb]at hdg3
      rw[E1 hdb]at hje
      subst hje
      refine A0 (j3 hdk hg3 hbn3) ?_
      refine w7 (A4 [] hdg3) trivial ?_
      refine A0 trivial ?_
      exact Al (A6 []) Tryz.results132
    ·have hdk:decide ((j:Int)<(s.size:Int))=false:=by simpa using hlt
     rw[E1 (by rw[Bn (by omega)];rfl)]at hje
     subst hje
     refine A0 hdk ?_
     exact Al (A6 []) Tryz.results132
theorem KN (s:ByteArray) (hs:s.size≤1000000) (i:Nat) (hi:i<s.size) (hd:AJ (bAt s (Au s i))=false):AC Tryz.prog 132 [.c (.str s),.c (.int .i64 i)] [] (.tup [.c (.int .i64 (-1)),.c (.int .i64 (Au s i))]) []:=by
 have hdi:decide ((i:Int)<(s.size:Int))=true:=by simpa using hi
 obtain⟨b,hg,hb⟩:=Ar hi
 have hbn:((b.toNat:Nat):Int)=((bAt s i:Nat):Int):=by rw[hb]
 have hwi:=Ae (k:=i) (by omega)
 have hA:(bAt s i=45∧Au s i=i+1)∨(bAt s i≠45∧Au s i=i):=by
  unfold Au
  by_cases h:bAt s i=45
  ·exact .inl ⟨h,if_pos h⟩
  ·exact .inr ⟨h,if_neg h⟩
 generalize Au s i=a at *
 by_cases ha0:a<s.size
 ·obtain⟨b2,hg2,hb2⟩:=Ar ha0
  have hdg:=Fr b2.toNat
  rw[←hb2,hd]at hdg
  have hbn2:((b2.toNat:Nat):Int)=((bAt s a:Nat):Int):=by rw[hb2]
  have hga:decide (((a:Nat):Int)≥(s.size:Int))=false:=by simp;omega
  rcases hA with⟨h45,hA⟩ | ⟨h45,hA⟩
  all_goals
   first
    |have q45:(((bAt s i:Nat):Int)==45)=true:=by simp;omega
    |have q45:(((bAt s i:Nat):Int)==45)=false:=by simp;omega
   subst hA
   refine A7 Tryz.func132 Tryz.ntmps132 ?_
   refine A0 (j8 hdi hg hbn q45 hwi hga hg2 hbn2) ?_
   refine w7 (A4 [] hdg) trivial ?_
   refine A0 trivial ?_
   exact Al (A6 []) Tryz.results132
 ·have hga:decide (((a:Nat):Int)≥(s.size:Int))=true:=by simp;omega
  rcases hA with⟨h45,hA⟩ | ⟨h45,hA⟩
  ·have q45:(((bAt s i:Nat):Int)==45)=true:=by simp;omega
   subst hA
   refine A7 Tryz.func132 Tryz.ntmps132 ?_
   refine A0 (j6 hdi hg hbn q45 hwi hga) ?_
   exact Al (A6 []) Tryz.results132
  ·omega
end
section
open Go.RowKit
section
variable {P:Program} {o:Oper} {σ:ASt} {t:TypeId}
theorem Lt {x lo:Operand}{s:ByteArray}{i:Int}(ho:o.op=.slice t x (some lo) none none) (hx:σ.ev x=.c (.str s)) (hlo:σ.ev lo=.c (.int .i64 i)) (ht:P.underlying t=some .string)
  (h0:0≤i) (h1:i≤s.size):Ag P o σ ⟨[],[],.c (.str (s.extract i.toNat s.size))⟩:=by
 refine Ag.pure fun Γ σ' a w ow κ hag hr=>?_
 have e1:=AR.str (hag.ev hr (by rw[ho];simp[Op.operands]) hx)
 have e2:=(hag.ev hr (by rw[ho];simp[Op.operands]) hlo).1
 refine⟨.string (s.extract i.toNat s.size),?_,⟨rfl,rfl⟩⟩
 have hrun:=run_slice_string_from_if (P:=P) w t s .i64 i ht
 rw[if_pos ⟨h0,h1⟩]at hrun
 unfold execOp
 rw[ho]
 simp[e1,e2,hrun,run_sliceAt_string _ t _ _ _ _ ht]
end
section
variable {P:Program} {σ τ:ASt} {ops:Array Oper} {r:List Oper} {fs:List AEff} {K:ASt→List AEff→Prop} {E:AEff} {d:Option Tmp} {ty':TypeId} {pos:String} {af:Array Edge} {gd:Option (Nat×Bool)}
theorem I7 {t:TypeId}{x lo:Operand}{s y:ByteArray}{i:Int}(hy:s.extract i.toNat s.size=y) (h0:0≤i) (h1:i≤s.size) (ht:P.underlying t=some .string)
  (hg:AY ops σ ⟨d,.slice t x (some lo) none none,ty',pos,af,gd⟩=some true) (hx:σ.ev x=.c (.str s)) (hlo:σ.ev lo=.c (.int .i64 i))
  (hE:(⟨[],[],.c (.str y)⟩:AEff)=E) (hτ:σ.upd d E=τ) (h:A9 P ops r τ (fs++[E]) K):A9 P ops (⟨d,.slice t x (some lo) none none,ty',pos,af,gd⟩::r) σ fs K:=by
 subst hE hy
 exact B7 hg (Lt rfl hx hlo ht h0 h1).sound hτ h
end
end
section
open Go.RowKit
theorem DU {s:ByteArray}{a e:Nat}(h:e≤s.size):(s.extract a e).size=e-a:=by
 rw[ByteArray.size_extract]
 omega
theorem Cq (s:ByteArray) (a e:Nat):(s.extract a e).data.toList=(s.data.toList.take e).drop a:=by
 rw[Lib.extract_data,List.drop_take]
theorem Qa {s:ByteArray}{a e k:Nat}(h:e≤s.size) (hk:a+k<e):bAt (s.extract a e) k=bAt s (a+k):=by
 rw[CU,CU,Cq,List.getElem?_drop,List.getElem?_take]
 rw[if_pos hk]
set_option maxRecDepth 10000
theorem NM {s:ByteArray}{a k:Nat}(hk:k≤16) (h:∀j,a≤j→j<a+k→AJ (bAt s j)=true):AU s a k<10000000000000000:=by
 have h1:=NT k h
 have h2:(10:Nat) ^ k≤10 ^ 16:=Nat.pow_le_pow_right (by decide) hk
 have h3:(10:Nat) ^ 16=10000000000000000:=by decide
 omega
theorem MO {s:ByteArray}{a k:Nat}(hk:k≤16) (h:∀j,a≤j→j<a+k→AJ (bAt s j)=true) {b:Nat}(hb:48≤b∧b≤57) :
  IntKind.i64.wrap ((AU s a k:Int)*10)=((AU s a k*10:Nat):Int)∧IntKind.u8.wrap ((b:Int)-48)=((b-48:Nat):Int)∧IntKind.i64.wrap ((b-48:Nat):Int)=((b-48:Nat):Int)∧IntKind.i64.wrap (((AU s a k*10:Nat):Int)+((b-48:Nat):Int))=((AU s a k*10+(b-48):Nat):Int):=by
 have h1:=NM hk h
 refine⟨?_,?_,C4 (by omega) (by omega),?_⟩
 ·rw[C4 (by omega) (by omega)];omega
 ·rw[Ez (by omega) (by omega)];omega
 ·rw[C4 (by omega) (by omega)];omega
end
end Go.Proofs.YtlciedpfjhkkdaaGreatDoor
