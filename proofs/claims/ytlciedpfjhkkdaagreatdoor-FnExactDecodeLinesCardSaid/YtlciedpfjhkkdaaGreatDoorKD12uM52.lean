/- Texts of this proof: D12 M52. -/
import Derived.Test.YtlciedpfjhkkdaaGreatDoorKD10uD11
set_option linter.all false
set_option maxHeartbeats 8000000
namespace Go.Proofs.YtlciedpfjhkkdaaGreatDoor
open Go.RowKit
set_option maxRecDepth 10000
theorem QY (s:ByteArray) (hs:s.size≤100000):∀(k d:Nat),d+k=20→∀i,i≤s.size→∃x,AC Tryz.prog 37 [.c (.str s),.c (.int .i64 i),.c (.int .i64 d)] [] (rdA (Cn k s i) x) []:=by
 intro k
 have hs':s.size≤1000000:=by omega
 induction k with
 |zero =>
  intro d hd i hi
  refine⟨ByteArray.empty,?_⟩
  have hdd:decide ((d:Int)≥20)=true:=decide_eq_true (by omega)
  unfold Cn
  by_cases hlt:s.size≤i
  ·have hdg:decide ((i:Int)≥(s.size:Int))=true:=decide_eq_true (by omega)
   have hbad:=AZ 5 s.size
   rw[if_pos hlt]
   unfold rdA
   unfold AP at hbad ⊢
   refine A7 Tryz.func37 Tryz.ntmps37 ?_
   refine A0 hdg ?_
   refine w7 (A4 [] hbad) trivial ?_
   refine A0 trivial ?_
   exact Al (A6 []) Tryz.results37
  ·have hdg:decide ((i:Int)≥(s.size:Int))=false:=decide_eq_false (by omega)
   have hbad:=AZ 7 i
   rw[if_neg hlt]
   unfold rdA
   unfold AP at hbad ⊢
   refine A7 Tryz.func37 Tryz.ntmps37 ?_
   refine A0 (j2 hdg hdd) ?_
   refine w7 (A4 [] hbad) trivial ?_
   refine A0 trivial ?_
   exact Al (A6 []) Tryz.results37
 |succ k ih =>
  intro d hd i hi
  have hdd:decide ((d:Int)≥20)=false:=decide_eq_false (by omega)
  by_cases hlt:s.size≤i
  ·refine⟨ByteArray.empty,?_⟩
   have hdg:decide ((i:Int)≥(s.size:Int))=true:=decide_eq_true (by omega)
   have hbad:=AZ 5 s.size
   unfold Cn
   rw[if_pos hlt]
   unfold rdA
   unfold AP at hbad ⊢
   refine A7 Tryz.func37 Tryz.ntmps37 ?_
   refine A0 hdg ?_
   refine w7 (A4 [] hbad) trivial ?_
   refine A0 trivial ?_
   exact Al (A6 []) Tryz.results37
  ·have hdg:decide ((i:Int)≥(s.size:Int))=false:=decide_eq_false (by omega)
   have hi':i<s.size:=by omega
   obtain⟨b,hg,hb⟩:=Ar hi'
   have hbn:((b.toNat:Nat):Int)=((bAt s i:Nat):Int):=by rw[hb]
   have hone:=fun j hj=>ih (d+1) (by omega) j hj
   have hrd:=fun j hj=>BQ (s:=s) k j hj
   have hwn:=GL s hs' i hi ⟨#[110,117,108,108]⟩ (by decide) 0
   have hwf:=GL s hs' i hi ⟨#[102,97,108,115,101]⟩ (by decide) 1
   have hwt:=GL s hs' i hi ⟨#[116,114,117,101]⟩ (by decide) 2
   have hwhole:=Nb s hs' i hi'
   have harr:=fun h=>Nd s hs i d (by omega) hi' h (Cn k s) hone k hrd
   have hobj:=fun h=>MW s hs i d (by omega) hi' h (Cn k s) hone k hrd
   have hstr:=H8 s hs' i hi'
   have f110:=fun n=>decide_eq_false (p:=bAt s i=n)
   clear f110
   unfold Cn
   rw[if_neg hlt]
   by_cases h110:bAt s i=110
   ·have e110:(((bAt s i:Nat):Int)==110)=true:=by simp[h110]
    rw[if_pos h110]
    refine⟨ByteArray.empty,?_⟩
    change AC _ _ _ _ (rdA (C3 s (Bs 0) i [110,117,108,108] 0) ByteArray.empty) _ at hwn
    cases hR:C3 s (Bs 0) i [110,117,108,108] 0 with
    |ok v e =>
     rw[hR]at hwn
     unfold rdA CV at hwn ⊢
     refine A7 Tryz.func37 Tryz.ntmps37 ?_
     refine A0 (j5 hdg hdd hg hbn e110) ?_
     refine w9 (Ah [] hwn) trivial ?_
     refine A0 trivial ?_
     exact Al (A6 []) Tryz.results37
    |bad c p =>
     rw[hR]at hwn
     unfold rdA at hwn ⊢
     unfold AP at hwn ⊢
     refine A7 Tryz.func37 Tryz.ntmps37 ?_
     refine A0 (j5 hdg hdd hg hbn e110) ?_
     refine w9 (Ah [] hwn) trivial ?_
     refine A0 trivial ?_
     exact Al (A6 []) Tryz.results37
   have e110:(((bAt s i:Nat):Int)==110)=false:=by simp;omega
   rw[if_neg h110]
   by_cases h102:bAt s i=102
   ·have e102:(((bAt s i:Nat):Int)==102)=true:=by simp[h102]
    rw[if_pos h102]
    refine⟨ByteArray.empty,?_⟩
    change AC _ _ _ _ (rdA (C3 s (Bs 1) i [102,97,108,115,101] 0) ByteArray.empty) _ at hwf
    cases hR:C3 s (Bs 1) i [102,97,108,115,101] 0 with
    |ok v e =>
     rw[hR]at hwf
     unfold rdA CV at hwf ⊢
     refine A7 Tryz.func37 Tryz.ntmps37 ?_
     refine A0 (j6 hdg hdd hg hbn e110 e102) ?_
     refine w9 (Ah [] hwf) trivial ?_
     refine A0 trivial ?_
     exact Al (A6 []) Tryz.results37
    |bad c p =>
     rw[hR]at hwf
     unfold rdA at hwf ⊢
     unfold AP at hwf ⊢
     refine A7 Tryz.func37 Tryz.ntmps37 ?_
     refine A0 (j6 hdg hdd hg hbn e110 e102) ?_
     refine w9 (Ah [] hwf) trivial ?_
     refine A0 trivial ?_
     exact Al (A6 []) Tryz.results37
   have e102:(((bAt s i:Nat):Int)==102)=false:=by simp;omega
   rw[if_neg h102]
   by_cases h116:bAt s i=116
   ·have e116:(((bAt s i:Nat):Int)==116)=true:=by simp[h116]
    rw[if_pos h116]
    refine⟨ByteArray.empty,?_⟩
    change AC _ _ _ _ (rdA (C3 s (Bs 2) i [116,114,117,101] 0) ByteArray.empty) _ at hwt
    cases hR:C3 s (Bs 2) i [116,114,117,101] 0 with
    |ok v e =>
     rw[hR]at hwt
     unfold rdA CV at hwt ⊢
     refine A7 Tryz.func37 Tryz.ntmps37 ?_
     refine A0 (j7 hdg hdd hg hbn e110 e102 e116) ?_
     refine w9 (Ah [] hwt) trivial ?_
     refine A0 trivial ?_
     exact Al (A6 []) Tryz.results37
    |bad c p =>
     rw[hR]at hwt
     unfold rdA at hwt ⊢
     unfold AP at hwt ⊢
     refine A7 Tryz.func37 Tryz.ntmps37 ?_
     refine A0 (j7 hdg hdd hg hbn e110 e102 e116) ?_
     refine w9 (Ah [] hwt) trivial ?_
     refine A0 trivial ?_
     exact Al (A6 []) Tryz.results37
   have e116:(((bAt s i:Nat):Int)==116)=false:=by simp;omega
   rw[if_neg h116]
   by_cases h91:bAt s i=91
   ·have e91:(((bAt s i:Nat):Int)==91)=true:=by simp[h91]
    rw[if_pos h91]
    refine⟨ByteArray.empty,?_⟩
    have harr:=harr h91
    cases hR:B0 s (Cn k s) false (s.size+1) (Aa s (i+1)) true [] [] with
    |ok v e =>
     rw[hR]at harr
     unfold rdA CV at harr ⊢
     refine A7 Tryz.func37 Tryz.ntmps37 ?_
     refine A0 (j8 hdg hdd hg hbn e110 e102 e116 e91) ?_
     refine w9 (Ah [] harr) trivial ?_
     refine A0 trivial ?_
     exact Al (A6 []) Tryz.results37
    |bad c p =>
     rw[hR]at harr
     unfold rdA at harr ⊢
     unfold AP at harr ⊢
     refine A7 Tryz.func37 Tryz.ntmps37 ?_
     refine A0 (j8 hdg hdd hg hbn e110 e102 e116 e91) ?_
     refine w9 (Ah [] harr) trivial ?_
     refine A0 trivial ?_
     exact Al (A6 []) Tryz.results37
   have e91:(((bAt s i:Nat):Int)==91)=false:=by simp;omega
   rw[if_neg h91]
   by_cases h123:bAt s i=123
   ·have e123:(((bAt s i:Nat):Int)==123)=true:=by simp[h123]
    rw[if_pos h123]
    refine⟨ByteArray.empty,?_⟩
    have hobj:=hobj h123
    cases hR:B0 s (Cn k s) true (s.size+1) (Aa s (i+1)) true [] [] with
    |ok v e =>
     rw[hR]at hobj
     unfold rdA CV at hobj ⊢
     refine A7 Tryz.func37 Tryz.ntmps37 ?_
     refine A0 (j9 hdg hdd hg hbn e110 e102 e116 e91 e123) ?_
     refine w9 (Ah [] hobj) trivial ?_
     refine A0 trivial ?_
     exact Al (A6 []) Tryz.results37
    |bad c p =>
     rw[hR]at hobj
     unfold rdA at hobj ⊢
     unfold AP at hobj ⊢
     refine A7 Tryz.func37 Tryz.ntmps37 ?_
     refine A0 (j9 hdg hdd hg hbn e110 e102 e116 e91 e123) ?_
     refine w9 (Ah [] hobj) trivial ?_
     refine A0 trivial ?_
     exact Al (A6 []) Tryz.results37
   have e123:(((bAt s i:Nat):Int)==123)=false:=by simp;omega
   rw[if_neg h123]
   by_cases h34:bAt s i=34
   ·have e34:(((bAt s i:Nat):Int)==34)=true:=by simp[h34]
    rw[if_pos h34]
    have hsr:Dl s i=Dx s i (s.size+1) (i+1) ByteArray.empty:=by unfold Dl;rw[if_neg (by simp[h34])]
    have hsf:=Df (s:=s) hi
    rw[←hsr]at hstr
    cases hR:Dl s i with
    |ok t e =>
     rw[hR]at hstr
     refine⟨t,?_⟩
     have hl1:=Lf t
     unfold rdT CV at hstr
     simp only
     unfold rdA CV
     refine A7 Tryz.func37 Tryz.ntmps37 ?_
     refine A0 (j10 hdg hdd hg hbn e110 e102 e116 e91 e123 e34) ?_
     have h00:((0:Int)==0)=true:=rfl
     refine w9 (Ah [] hstr) trivial ?_
     refine A0 h00 ?_
     refine w9 (Ah [] hl1) trivial ?_
     refine A0 trivial ?_
     exact Al (A6 []) Tryz.results37
    |bad c p =>
     rw[hR]at hstr hsf
     refine⟨ByteArray.empty,?_⟩
     have hc0:(c==0)=false:=by simpa using AS hsf.1
     unfold rdT at hstr
     simp only
     unfold rdA
     unfold AP at hstr ⊢
     refine A7 Tryz.func37 Tryz.ntmps37 ?_
     refine A0 (j10 hdg hdd hg hbn e110 e102 e116 e91 e123 e34) ?_
     refine w9 (Ah [] hstr) trivial ?_
     refine A0 hc0 ?_
     exact Al (A6 []) Tryz.results37
   have e34:(((bAt s i:Nat):Int)==34)=false:=by simp;omega
   rw[if_neg h34]
   refine⟨ByteArray.empty,?_⟩
   change AC _ _ _ _ (rdA (NA s i) ByteArray.empty) _
   cases hR:NA s i with
   |ok v e =>
    rw[hR]at hwhole
    unfold rdA CV at hwhole ⊢
    refine A7 Tryz.func37 Tryz.ntmps37 ?_
    refine A0 (j10 hdg hdd hg hbn e110 e102 e116 e91 e123 e34) ?_
    refine w9 (Ah [] hwhole) trivial ?_
    refine A0 trivial ?_
    exact Al (A6 []) Tryz.results37
   |bad c p =>
    rw[hR]at hwhole
    unfold rdA at hwhole ⊢
    unfold AP at hwhole ⊢
    refine A7 Tryz.func37 Tryz.ntmps37 ?_
    refine A0 (j10 hdg hdd hg hbn e110 e102 e116 e91 e123 e34) ?_
    refine w9 (Ah [] hwhole) trivial ?_
    refine A0 trivial ?_
    exact Al (A6 []) Tryz.results37
def L7 (r:(Int×Nat)×Option V):AV:=match r.2 with
 |none=>.agg [.c (.int .i64 r.1.1),.c (.int .i64 r.1.2),.nils]
 |some v=>.agg [.c (.int .i64 0),.c (.int .i64 0),.c (.sl (v.enc.map CellD.cs))]
theorem F3 (s:ByteArray) (hs:s.size≤9000000000000000000):AC Tryz.prog 9 [.c (.str s)] [] (L7 (Ba s)) []:=by
 have h00:((0:Int) != 0)=false:=rfl
 unfold Ba
 by_cases h4:4000<s.size
 ·have g4:decide ((s.size:Int)>4000)=true:=decide_eq_true (by omega)
  rw[if_pos h4]
  unfold L7
  show AC _ _ _ _ (.agg [.c (.int .i64 2),.c (.int .i64 0),.nils]) _
  refine A7 Tryz.func9 Tryz.ntmps9 ?_
  refine A0 g4 ?_
  exact Al (A6 []) Tryz.results9
 ·have g4:decide ((s.size:Int)>4000)=false:=decide_eq_false (by omega)
  rw[if_neg h4]
  have hs':s.size≤1000000:=by omega
  have hsk:=BP s hs' 0 (Nat.zero_le _)
  obtain⟨_,g2,_⟩:=AA (s:=s) (i:=0) (Nat.zero_le _)
  obtain⟨x,hone⟩:=QY s (by omega) 20 0 rfl (Aa s 0) g2
  have hf:=BQ (s:=s) 20 (Aa s 0) g2
  cases hR:Cn 20 s (Aa s 0) with
  |bad c p =>
   rw[hR]at hone hf
   have hc0:(c != 0)=true:=by simpa using AS hf.1
   simp only
   unfold L7
   unfold rdA at hone
   unfold AP at hone
   refine A7 Tryz.func9 Tryz.ntmps9 ?_
   refine A0 g4 ?_
   refine w7 (A4 [] hsk) trivial ?_
   refine A0 trivial ?_
   refine w9 (Ah [] hone) trivial ?_
   refine A0 hc0 ?_
   exact Al (A6 []) Tryz.results9
  |ok v e =>
   rw[hR]at hone hf
   obtain⟨_,f2,_⟩:=hf
   have hsk2:=BP s hs' e f2
   simp only
   unfold rdA CV at hone
   have hlen:(v.enc.map CellD.cs).length=v.count:=by rw[List.length_map,D8]
   have hlen2:v.enc.length=v.count:=D8 v
   by_cases hlt:Aa s e<s.size
   ·have gl:decide (((Aa s e:Nat):Int)<(s.size:Int))=true:=by simpa using hlt
    rw[if_pos hlt]
    unfold L7
    refine A7 Tryz.func9 Tryz.ntmps9 ?_
    refine A0 g4 ?_
    refine w7 (A4 [] hsk) trivial ?_
    refine A0 trivial ?_
    refine w9 (Ah [] hone) trivial ?_
    refine A0 h00 ?_
    refine w7 (A4 [] hsk2) trivial ?_
    refine A0 gl ?_
    exact Al (A6 []) Tryz.results9
   ·have gl:decide (((Aa s e:Nat):Int)<(s.size:Int))=false:=by simpa using hlt
    rw[if_neg hlt]
    by_cases h200:200<v.count
    ·have g200:decide ((v.count:Int)>200)=true:=decide_eq_true (by omega)
     rw[if_pos h200]
     unfold L7
     show AC _ _ _ _ (.agg [.c (.int .i64 2),.c (.int .i64 0),.nils]) _
     refine A7 Tryz.func9 Tryz.ntmps9 ?_
     refine A0 g4 ?_
     refine w7 (A4 [] hsk) trivial ?_
     refine A0 trivial ?_
     refine w9 (Ah [] hone) trivial ?_
     refine A0 h00 ?_
     refine w7 (A4 [] hsk2) trivial ?_
     refine A0 (j3 gl hlen2 g200) ?_
     exact Al (A6 []) Tryz.results9
    ·have g200:decide ((v.count:Int)>200)=false:=decide_eq_false (by omega)
     rw[if_neg h200]
     unfold L7
     refine A7 Tryz.func9 Tryz.ntmps9 ?_
     refine A0 g4 ?_
     refine w7 (A4 [] hsk) trivial ?_
     refine A0 trivial ?_
     refine w9 (Ah [] hone) trivial ?_
     refine A0 h00 ?_
     refine w7 (A4 [] hsk2) trivial ?_
     refine A0 (j3 gl hlen2 g200) ?_
     exact Al (A6 []) Tryz.results9
structure DS where
 pl:Nat
 code:Int
 bad:Nat
def DS.fail (d:DS) (c:Int) (p:Nat):DS:=if d.code=0 then ⟨d.pl,c,p⟩ else d
def DS.go (d:DS) (p:Nat):DS:=⟨p,d.code,d.bad⟩
def DS.skip (s:ByteArray) (d:DS):DS:=d.go (Aa s d.pl)
def DS.is (s:ByteArray) (d:DS) (b:Nat):Bool:=decide (d.code=0)&&(bAt s d.pl==b)
def DS.take (s:ByteArray) (d:DS) (b:Nat):DS:=if d.is s b then d.go (d.pl+1) else d
def DS.want (s:ByteArray) (d:DS) (b:Nat):DS:=if d.is s b then d.go (d.pl+1) else d.fail 5 d.pl
def DS.word (s:ByteArray):DS→List Nat→DS
 |d,[]=>d
 |d,b::r=>DS.word s (d.want s b) r
def Ih (s:ByteArray) (i b:Nat):V×DS :=
 if AJ (bAt s (Au s i))=false then (Bs 0,⟨Au s i,5,Au s i⟩) else if D3 s i then (FT 0,⟨AF s i,3,i⟩) else if FW (bAt s (AF s i)) then (FT (Dy s i),⟨AF s i,3,AF s i⟩) else (FT (Dy s i),⟨AF s i,0,b⟩)
def DS.hex (s:ByteArray) (d:DS):Int×DS:=if d.code=0∧0≤AL (bAt s d.pl) then (AL (bAt s d.pl),d.go (d.pl+1)) else (0,d.fail 5 d.pl)
def DS.escape (s:ByteArray) (d:DS):Nat×DS :=
 if d.is s 34 then (34,d.go (d.pl+1)) else if d.is s 92 then (92,d.go (d.pl+1)) else if d.is s 47 then (47,d.go (d.pl+1))
 else
  let d1:=d.word s [117,48,48]
  let h1:=d1.hex s
  let h2:=h1.2.hex s
  let n:=16*h1.1+h2.1
  (n.toNat,if 32≤n∧n≤126 then h2.2 else h2.2.fail 5 d1.pl)
def DS.strGo (s:ByteArray):Nat→DS→ByteArray→ByteArray×DS
 | 0,d,out=>(out,d)
 |n+1,d,out=>if d.code≠0 then (out,d) else if d.is s 34 then (out,d.go (d.pl+1))
  else if s.size≤d.pl∨bAt s d.pl<32∨126<bAt s d.pl then DS.strGo s n (d.fail 5 d.pl) out
  else if d.is s 92 then DS.strGo s n ((d.go (d.pl+1)).escape s).2 (out++Bx ((d.go (d.pl+1)).escape s).1)
  else DS.strGo s n (d.go (d.pl+1)) (out++Bx (bAt s d.pl))
def DS.str (s:ByteArray) (d:DS):ByteArray×DS :=
 let r:=DS.strGo s (s.size+2) (d.want s 34) ByteArray.empty
 (r.1,if 60<r.1.size then r.2.fail 2 d.pl else r.2)
def DS.listGo {α:Type}(s:ByteArray) (part:DS→α→DS×α) (e:Nat):Nat→DS→α→DS×α
 | 0,d,x=>(d,x)
 |n+1,d,x=>if d.code≠0 then (d,x) else
  if ((part d x).1.skip s).is s e then (((part d x).1.skip s).go (((part d x).1.skip s).pl+1),(part d x).2)
  else DS.listGo s part e n ((((part d x).1.skip s).want s 44).skip s) (part d x).2
def DS.list {α:Type}(s:ByteArray) (part:DS→α→DS×α) (e:Nat) (d:DS) (x:α):DS×α :=
 if (d.skip s).is s e then ((d.skip s).go ((d.skip s).pl+1),x) else DS.listGo s part e (s.size+1) (d.skip s) x
def Ck (rd:DS→V×DS) (d:DS) (x:List V):DS×List V:=((rd d).2,x++[(rd d).1])
def Bg (s:ByteArray) (rd:DS→V×DS) (d:DS) (x:List ByteArray×List V):DS×(List ByteArray×List V) :=
 let k:=d.str s
 let r:=rd ((k.2.skip s).want s 58)
 (r.2,(x.1++[k.1],x.2++[r.1]))
def DS.value (s:ByteArray):Nat→DS→V×DS
 | 0,d=>(Bs 0,if s.size≤(d.skip s).pl then (d.skip s).fail 5 (d.skip s).pl else (d.skip s).fail 7 (d.skip s).pl)
 |k+1,d =>
  let d:=d.skip s
  let b:=bAt s d.pl
  if s.size≤d.pl then (Bs 0,d.fail 5 d.pl) else if d.code≠0 then (Bs 0,d)
  else if b=110 then (Bs 0,d.word s [110,117,108,108])
  else if b=102 then (Bs 1,d.word s [102,97,108,115,101])
  else if b=116 then (Bs 2,d.word s [116,114,117,101])
  else if b=45∨AJ b=true then Ih s d.pl d.bad
  else if b=34 then (J7 (d.str s).1,(d.str s).2)
  else if b=91 then
   let r:=DS.list s (Ck (DS.value s k)) 93 (d.go (d.pl+1)) []
   (CX r.2,r.1)
  else if b=123 then
   let r:=DS.list s (Bg s (DS.value s k)) 125 (d.go (d.pl+1)) ([],[])
   (Gu r.2.1 r.2.2,r.1)
  else (Bs 0,d.fail 5 d.pl)
def O2 (s:ByteArray):(Int×Nat)×Option V :=
 if 4000<s.size then ((2,0),none) else
  let r:=DS.value s 20 ⟨0,0,0⟩
  let d:=r.2.skip s
  let d2:=if d.pl<s.size then d.fail 5 d.pl else d
  if d2.code≠0 then ((d2.code,d2.bad),none) else if 200<r.1.count then ((2,0),none) else ((0,0),some r.1)
end Go.Proofs.YtlciedpfjhkkdaaGreatDoor
