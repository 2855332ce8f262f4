/- Texts of this proof: D12 D34. -/
import Derived.Test.YtllfmaflodbieaaGreatDoorKD10uD11
set_option linter.all false
set_option maxHeartbeats 8000000
namespace Go.Proofs.YtllfmaflodbieaaGreatDoor
open Go.RowKit
set_option maxRecDepth 10000
theorem Fw (s:ByteArray) (hs:s.size≤100000):∀(k d:Nat),d+k=20→∀i,i≤s.size→∃x,AC Tryz.prog 66 [.c (.str s),.c (.int .i64 i),.c (.int .i64 d)] [] (rdA (Cq k s i) x) []:=by
 intro k
 have hs':s.size≤1000000:=by omega
 induction k with
 |zero =>
  intro d hd i hi
  refine⟨ByteArray.empty,?_⟩
  have hdd:decide ((d:Int)≥20)=true:=decide_eq_true (by omega)
  unfold Cq
  by_cases hlt:s.size≤i
  ·have hdg:decide ((i:Int)≥(s.size:Int))=true:=decide_eq_true (by omega)
   have hbad:=Bs 5 s.size
   rw[if_pos hlt]
   unfold rdA
   unfold B9 at hbad ⊢
   refine A6 Tryz.func66 Tryz.ntmps66 ?_
   refine A0 hdg ?_
   refine w7 (A3 [] hbad) trivial ?_
   refine A0 trivial ?_
   exact Am (A7 []) Tryz.results66
  ·have hdg:decide ((i:Int)≥(s.size:Int))=false:=decide_eq_false (by omega)
   have hbad:=Bs 7 i
   rw[if_neg hlt]
   unfold rdA
   unfold B9 at hbad ⊢
   refine A6 Tryz.func66 Tryz.ntmps66 ?_
   refine A0 (j2 hdg hdd) ?_
   refine w7 (A3 [] hbad) trivial ?_
   refine A0 trivial ?_
   exact Am (A7 []) Tryz.results66
 |succ k ih =>
  intro d hd i hi
  have hdd:decide ((d:Int)≥20)=false:=decide_eq_false (by omega)
  by_cases hlt:s.size≤i
  ·refine⟨ByteArray.empty,?_⟩
   have hdg:decide ((i:Int)≥(s.size:Int))=true:=decide_eq_true (by omega)
   have hbad:=Bs 5 s.size
   unfold Cq
   rw[if_pos hlt]
   unfold rdA
   unfold B9 at hbad ⊢
   refine A6 Tryz.func66 Tryz.ntmps66 ?_
   refine A0 hdg ?_
   refine w7 (A3 [] hbad) trivial ?_
   refine A0 trivial ?_
   exact Am (A7 []) Tryz.results66
  ·have hdg:decide ((i:Int)≥(s.size:Int))=false:=decide_eq_false (by omega)
   have hi':i<s.size:=by omega
   obtain⟨b,hg,hb⟩:=Aw hi'
   have hbn:((b.toNat:Nat):Int)=((bAt s i:Nat):Int):=by rw[hb]
   have hone:=fun j hj=>ih (d+1) (by omega) j hj
   have hrd:=fun j hj=>C2 (s:=s) k j hj
   have hwn:=Jk s hs' i hi ⟨#[110,117,108,108]⟩ (by decide) 0
   have hwf:=Jk s hs' i hi ⟨#[102,97,108,115,101]⟩ (by decide) 1
   have hwt:=Jk s hs' i hi ⟨#[116,114,117,101]⟩ (by decide) 2
   have hwhole:=Ro s hs' i hi'
   have harr:=fun h=>QN s hs i d (by omega) hi' h (Cq k s) hone k hrd
   have hobj:=fun h=>RA s hs i d (by omega) hi' h (Cq k s) hone k hrd
   have hstr:=K6 s hs' i hi'
   have f110:=fun n=>decide_eq_false (p:=bAt s i=n)
   clear f110
   unfold Cq
   rw[if_neg hlt]
   by_cases h110:bAt s i=110
   ·have e110:(((bAt s i:Nat):Int)==110)=true:=by simp[h110]
    rw[if_pos h110]
    refine⟨ByteArray.empty,?_⟩
    change AC _ _ _ _ (rdA (Ck s (BZ 0) i [110,117,108,108] 0) ByteArray.empty) _ at hwn
    cases hR:Ck s (BZ 0) i [110,117,108,108] 0 with
    |ok v e =>
     rw[hR]at hwn
     unfold rdA Dk at hwn ⊢
     refine A6 Tryz.func66 Tryz.ntmps66 ?_
     refine A0 (j5 hdg hdd hg hbn e110) ?_
     refine w9 (Aa [] hwn) trivial ?_
     refine A0 trivial ?_
     exact Am (A7 []) Tryz.results66
    |bad c p =>
     rw[hR]at hwn
     unfold rdA at hwn ⊢
     unfold B9 at hwn ⊢
     refine A6 Tryz.func66 Tryz.ntmps66 ?_
     refine A0 (j5 hdg hdd hg hbn e110) ?_
     refine w9 (Aa [] hwn) trivial ?_
     refine A0 trivial ?_
     exact Am (A7 []) Tryz.results66
   have e110:(((bAt s i:Nat):Int)==110)=false:=by simp;omega
   rw[if_neg h110]
   by_cases h102:bAt s i=102
   ·have e102:(((bAt s i:Nat):Int)==102)=true:=by simp[h102]
    rw[if_pos h102]
    refine⟨ByteArray.empty,?_⟩
    change AC _ _ _ _ (rdA (Ck s (BZ 1) i [102,97,108,115,101] 0) ByteArray.empty) _ at hwf
    cases hR:Ck s (BZ 1) i [102,97,108,115,101] 0 with
    |ok v e =>
     rw[hR]at hwf
     unfold rdA Dk at hwf ⊢
     refine A6 Tryz.func66 Tryz.ntmps66 ?_
     refine A0 (j6 hdg hdd hg hbn e110 e102) ?_
     refine w9 (Aa [] hwf) trivial ?_
     refine A0 trivial ?_
     exact Am (A7 []) Tryz.results66
    |bad c p =>
     rw[hR]at hwf
     unfold rdA at hwf ⊢
     unfold B9 at hwf ⊢
     refine A6 Tryz.func66 Tryz.ntmps66 ?_
     refine A0 (j6 hdg hdd hg hbn e110 e102) ?_
     refine w9 (Aa [] hwf) trivial ?_
     refine A0 trivial ?_
     exact Am (A7 []) Tryz.results66
   have e102:(((bAt s i:Nat):Int)==102)=false:=by simp;omega
   rw[if_neg h102]
   by_cases h116:bAt s i=116
   ·have e116:(((bAt s i:Nat):Int)==116)=true:=by simp[h116]
    rw[if_pos h116]
    refine⟨ByteArray.empty,?_⟩
    change AC _ _ _ _ (rdA (Ck s (BZ 2) i [116,114,117,101] 0) ByteArray.empty) _ at hwt
    cases hR:Ck s (BZ 2) i [116,114,117,101] 0 with
    |ok v e =>
     rw[hR]at hwt
     unfold rdA Dk at hwt ⊢
     refine A6 Tryz.func66 Tryz.ntmps66 ?_
     refine A0 (j7 hdg hdd hg hbn e110 e102 e116) ?_
     refine w9 (Aa [] hwt) trivial ?_
     refine A0 trivial ?_
     exact Am (A7 []) Tryz.results66
    |bad c p =>
     rw[hR]at hwt
     unfold rdA at hwt ⊢
     unfold B9 at hwt ⊢
     refine A6 Tryz.func66 Tryz.ntmps66 ?_
     refine A0 (j7 hdg hdd hg hbn e110 e102 e116) ?_
     refine w9 (Aa [] hwt) trivial ?_
     refine A0 trivial ?_
     exact Am (A7 []) Tryz.results66
   have e116:(((bAt s i:Nat):Int)==116)=false:=by simp;omega
   rw[if_neg h116]
   by_cases h91:bAt s i=91
   ·have e91:(((bAt s i:Nat):Int)==91)=true:=by simp[h91]
    rw[if_pos h91]
    refine⟨ByteArray.empty,?_⟩
    have harr:=harr h91
    cases hR:Bd s (Cq k s) false (s.size+1) (Af s (i+1)) true [] [] with
    |ok v e =>
     rw[hR]at harr
     unfold rdA Dk at harr ⊢
     refine A6 Tryz.func66 Tryz.ntmps66 ?_
     refine A0 (j8 hdg hdd hg hbn e110 e102 e116 e91) ?_
     refine w9 (Aa [] harr) trivial ?_
     refine A0 trivial ?_
     exact Am (A7 []) Tryz.results66
    |bad c p =>
     rw[hR]at harr
     unfold rdA at harr ⊢
     unfold B9 at harr ⊢
     refine A6 Tryz.func66 Tryz.ntmps66 ?_
     refine A0 (j8 hdg hdd hg hbn e110 e102 e116 e91) ?_
     refine w9 (Aa [] harr) trivial ?_
     refine A0 trivial ?_
     exact Am (A7 []) Tryz.results66
   have e91:(((bAt s i:Nat):Int)==91)=false:=by simp;omega
   rw[if_neg h91]
   by_cases h123:bAt s i=123
   ·have e123:(((bAt s i:Nat):Int)==123)=true:=by simp[h123]
    rw[if_pos h123]
    refine⟨ByteArray.empty,?_⟩
    have hobj:=hobj h123
    cases hR:Bd s (Cq k s) true (s.size+1) (Af s (i+1)) true [] [] with
    |ok v e =>
     rw[hR]at hobj
     unfold rdA Dk at hobj ⊢
     refine A6 Tryz.func66 Tryz.ntmps66 ?_
     refine A0 (j9 hdg hdd hg hbn e110 e102 e116 e91 e123) ?_
     refine w9 (Aa [] hobj) trivial ?_
     refine A0 trivial ?_
     exact Am (A7 []) Tryz.results66
    |bad c p =>
     rw[hR]at hobj
     unfold rdA at hobj ⊢
     unfold B9 at hobj ⊢
     refine A6 Tryz.func66 Tryz.ntmps66 ?_
     refine A0 (j9 hdg hdd hg hbn e110 e102 e116 e91 e123) ?_
     refine w9 (Aa [] hobj) trivial ?_
     refine A0 trivial ?_
     exact Am (A7 []) Tryz.results66
   have e123:(((bAt s i:Nat):Int)==123)=false:=by simp;omega
   rw[if_neg h123]
   by_cases h34:bAt s i=34
   ·have e34:(((bAt s i:Nat):Int)==34)=true:=by simp[h34]
    rw[if_pos h34]
    have hsr:E4 s i=CU s i (s.size+1) (i+1) ByteArray.empty:=by unfold E4;rw[if_neg (by simp[h34])]
    have hsf:=Ep (s:=s) hi
    rw[←hsr]at hstr
    cases hR:E4 s i with
    |ok t e =>
     rw[hR]at hstr
     refine⟨t,?_⟩
     have hl1:=Po t
     unfold rdT Dk at hstr
     simp only
     unfold rdA Dk
     refine A6 Tryz.func66 Tryz.ntmps66 ?_
     refine A0 (j10 hdg hdd hg hbn e110 e102 e116 e91 e123 e34) ?_
     have h00:((0:Int)==0)=true:=rfl
     refine w9 (Aa [] hstr) trivial ?_
     refine A0 h00 ?_
     refine w9 (Aa [] hl1) trivial ?_
     refine A0 trivial ?_
     exact Am (A7 []) Tryz.results66
    |bad c p =>
     rw[hR]at hstr hsf
     refine⟨ByteArray.empty,?_⟩
     have hc0:(c==0)=false:=by simpa using Bq hsf.1
     unfold rdT at hstr
     simp only
     unfold rdA
     unfold B9 at hstr ⊢
     refine A6 Tryz.func66 Tryz.ntmps66 ?_
     refine A0 (j10 hdg hdd hg hbn e110 e102 e116 e91 e123 e34) ?_
     refine w9 (Aa [] hstr) trivial ?_
     refine A0 hc0 ?_
     exact Am (A7 []) Tryz.results66
   have e34:(((bAt s i:Nat):Int)==34)=false:=by simp;omega
   rw[if_neg h34]
   refine⟨ByteArray.empty,?_⟩
   change AC _ _ _ _ (rdA (T4 s i) ByteArray.empty) _
   cases hR:T4 s i with
   |ok v e =>
    rw[hR]at hwhole
    unfold rdA Dk at hwhole ⊢
    refine A6 Tryz.func66 Tryz.ntmps66 ?_
    refine A0 (j10 hdg hdd hg hbn e110 e102 e116 e91 e123 e34) ?_
    refine w9 (Aa [] hwhole) trivial ?_
    refine A0 trivial ?_
    exact Am (A7 []) Tryz.results66
   |bad c p =>
    rw[hR]at hwhole
    unfold rdA at hwhole ⊢
    unfold B9 at hwhole ⊢
    refine A6 Tryz.func66 Tryz.ntmps66 ?_
    refine A0 (j10 hdg hdd hg hbn e110 e102 e116 e91 e123 e34) ?_
    refine w9 (Aa [] hwhole) trivial ?_
    refine A0 trivial ?_
    exact Am (A7 []) Tryz.results66
set_option maxRecDepth 10000
theorem D8 (l:List CellD):(⟨2,l,[]⟩:EditD).av=.agg [.c (.int .i64 2),.c (.sl (l.map CellD.cs)),.c (.sl [])]:=rfl
theorem Dv (l m:List CellD):(⟨1,l,m⟩:EditD).av=.agg [.c (.int .i64 1),.c (.sl (l.map CellD.cs)),.c (.sl (m.map CellD.cs))]:=rfl
theorem YS {s:ByteArray}{i e:Nat}{v:V}(hi:i≤s.size) (h:Cq 20 s i=.ok v e):i<e∧e≤s.size∧v.count≤s.size:=by
 have hf:=C2 (s:=s) 20 i hi
 rw[h]at hf
 obtain⟨h1,h2,_,_,h3,_⟩:=hf
 exact⟨h1,h2,by omega⟩
theorem QL (s:ByteArray) (hs:s.size≤100000) {d:EditD}(h:DE s=some d):AC Tryz.prog 29 [.c (.str s)] [] (.tup [d.av,.c (.bool true)]) []:=by
 obtain⟨hc,hl⟩:=Dd.1 h
 have h00:((0:Int) != 0)=false:=rfl
 have h11:((1:Int)==1)=true:=rfl
 have h21:((2:Int)==1)=false:=rfl
 have z5:GR s.size (some (AV.c (C.int IntKind.i64 5)))=some 5:=rfl
 have z4:GR s.size (some (AV.c (C.int IntKind.i64 4)))=some 4:=rfl
 have hed:=FW d
 rw[hc]at hed
 have hln:=Gc hc
 rw[hl]at hln
 have hq9:(s.toList==s.toList)=true:=H4 rfl
 obtain⟨_,hop⟩:=Ca hc
 rcases hop with h2 | ⟨h1,_⟩
 ·obtain⟨q,rfl,hqr,hdq,g1,g2,g3⟩:=QU h h2
  obtain⟨x,hone⟩:=Fw s hs 20 0 rfl 5 (by omega)
  rw[g3]at hone
  unfold rdA Dk at hone
  rw[D8]at hed hln ⊢
  have hpf:=E3 q.enc
  have hp0:(Bn q.enc).1=0:=by
   unfold Ac at hc
   rcases BP q.enc with⟨_,_,_,_,_,_,_,hpd⟩ | ⟨c',hc0,hpd⟩
   ·rw[hpd]
   ·rw[hpd]at hc
    simp at hc
    exact absurd hc hc0
  rw[hp0]at hpf
  have c5:decide ((s.size:Int)>5)=true:=decide_eq_true (by omega)
  have c6:5≤s.size:=by omega
  have e5:=H4 g2
  unfold FX at e5
  refine A6 Tryz.func29 Tryz.ntmps29 ?_
  refine A0 (j4 c5 c6 e5 z5) ?_
  refine w9 (Aa [] hone) trivial ?_
  refine A0 h00 ?_
  refine w7 (A3 [] hpf) trivial ?_
  refine A0 (j3 h11 h21 h00) ?_
  refine w7 (A3 [] hed) trivial ?_
  refine A0 h00 ?_
  refine w7 (A3 [] hln) trivial ?_
  refine A0 hq9 ?_
  exact A9 (A8 [] []) Tryz.results29 h00
 ·obtain⟨q,u,e,rfl,hqr,hur,g1,g2,g3,g4,g5,g6,g7⟩:=TT h h1
  obtain⟨x,hone⟩:=Fw s hs 20 0 rfl 4 (by omega)
  rw[g4]at hone
  obtain⟨x2,htwo⟩:=Fw s hs 20 0 rfl (e+1) (by omega)
  rw[g7]at htwo
  unfold rdA Dk at hone htwo
  rw[Dv]at hed hln ⊢
  have hpf:=E3 q.enc
  have hp0:(Bn q.enc).1=0:=by
   unfold Ac at hc
   rcases BP q.enc with⟨_,_,_,_,_,_,_,hpd⟩ | ⟨c',hc0,hpd⟩
   ·rw[hpd]
   ·rw[hpd]at hc
    simp at hc
    exact absurd hc hc0
  rw[hp0]at hpf
  have c4:decide ((s.size:Int)>4)=true:=decide_eq_true (by omega)
  have c6:4≤s.size:=by omega
  have e4:=H4 g2
  have e5:=J1 g3
  unfold FX at e5
  unfold Gf at e4
  have cge:decide ((e:Int)≥(s.size:Int))=false:=decide_eq_false (by omega)
  have hwe:=Ae (k:=e) (by omega)
  obtain⟨b,hg,hb⟩:=Aw g5
  have hbb:(((b.toNat:Nat):Int) != 32)=false:=by rw[←hb,g6];rfl
  by_cases h5:5<s.size
  ·have c5:decide ((s.size:Int)>5)=true:=decide_eq_true (by omega)
   have c7:5≤s.size:=by omega
   refine A6 Tryz.func29 Tryz.ntmps29 ?_
   refine A0 (j8 c5 c7 e5 z5 c4 c6 e4 z4) ?_
   refine w9 (Aa [] hone) trivial ?_
   refine A0 h00 ?_
   refine w7 (A3 [] hpf) trivial ?_
   refine A0 (j7 h11 h21 h00 cge hg hbb hwe) ?_
   refine w9 (Aa [] htwo) trivial ?_
   refine A0 h00 ?_
   refine w7 (A3 [] hed) trivial ?_
   refine A0 h00 ?_
   refine w7 (A3 [] hln) trivial ?_
   refine A0 hq9 ?_
   exact A9 (A8 [] []) Tryz.results29 h00
  ·have c5:decide ((s.size:Int)>5)=false:=decide_eq_false (by omega)
   refine A6 Tryz.func29 Tryz.ntmps29 ?_
   refine A0 (j5 c5 c4 c6 e4 z4) ?_
   refine w9 (Aa [] hone) trivial ?_
   refine A0 h00 ?_
   refine w7 (A3 [] hpf) trivial ?_
   refine A0 (j7 h11 h21 h00 cge hg hbb hwe) ?_
   refine w9 (Aa [] htwo) trivial ?_
   refine A0 h00 ?_
   refine w7 (A3 [] hed) trivial ?_
   refine A0 h00 ?_
   refine w7 (A3 [] hln) trivial ?_
   refine A0 hq9 ?_
   exact A9 (A8 [] []) Tryz.results29 h00
theorem Md (s:ByteArray) (hs:s.size≤100000) (h:DE s=none) (h5:5<s.size) (hd:s.extract 0 5=FX):∃a x y,AC Tryz.prog 29 [.c (.str s)] [] (.tup [.agg [.c (.int .i64 a),.c (.sl x),.c (.sl y)],.c (.bool false)]) []:=by
 have h00:((0:Int) != 0)=false:=rfl
 have h11:((1:Int)==1)=true:=rfl
 have h21:((2:Int)==1)=false:=rfl
 have z5:GR s.size (some (AV.c (C.int IntKind.i64 5)))=some 5:=rfl
 have z4:GR s.size (some (AV.c (C.int IntKind.i64 4)))=some 4:=rfl
 have c5:decide ((s.size:Int)>5)=true:=decide_eq_true (by omega)
 have c6:5≤s.size:=by omega
 have e5:=H4 hd
 unfold FX at e5
 obtain⟨x,hone⟩:=Fw s hs 20 0 rfl 5 (by omega)
 cases hR:Cq 20 s 5 with
 |bad c p =>
  have hf:=C2 (s:=s) 20 5 c6
  rw[hR]at hf hone
  have hc0:(c != 0)=true:=by simpa using Bq hf.1
  unfold rdA B9 at hone
  refine⟨2,[],[],?_⟩
  refine A6 Tryz.func29 Tryz.ntmps29 ?_
  refine A0 (j4 c5 c6 e5 z5) ?_
  refine w9 (Aa [] hone) trivial ?_
  refine A0 hc0 ?_
  exact A9 (A8 [] []) Tryz.results29 hc0
 |ok q e =>
  rw[hR]at hone
  unfold rdA Dk at hone
  have hpf:=E3 q.enc
  have hed:=FW ⟨2,q.enc,[]⟩
  rw[D8]at hed
  cases hc:((Bn q.enc).1 != 0) with
  |true =>
   refine⟨2,[],[],?_⟩
   refine A6 Tryz.func29 Tryz.ntmps29 ?_
   refine A0 (j4 c5 c6 e5 z5) ?_
   refine w9 (Aa [] hone) trivial ?_
   refine A0 h00 ?_
   refine w7 (A3 [] hpf) trivial ?_
   refine A0 (j3 h11 h21 hc) ?_
   exact A9 (A8 [] []) Tryz.results29 hc
  |false =>
   cases hk:(Ac ⟨2,q.enc,[]⟩==0) with
   |false =>
    generalize Ac _=k at *
    refine⟨2,q.enc.map CellD.cs,[],?_⟩
    refine A6 Tryz.func29 Tryz.ntmps29 ?_
    refine A0 (j4 c5 c6 e5 z5) ?_
    refine w9 (Aa [] hone) trivial ?_
    refine A0 h00 ?_
    refine w7 (A3 [] hpf) trivial ?_
    refine A0 (j3 h11 h21 hc) ?_
    refine w7 (A3 [] hed) trivial ?_
    refine A0 hk ?_
    exact A9 (A8 [] []) Tryz.results29 hk
   |true =>
    have hk0:Ac ⟨2,q.enc,[]⟩=0:=by simpa using hk
    have hln:=Gc hk0
    rw[D8]at hln
    have hne:=J1 (FA h hk0)
    generalize D9 _=ln at *
    generalize Ac _=k at *
    refine⟨2,q.enc.map CellD.cs,[],?_⟩
    refine A6 Tryz.func29 Tryz.ntmps29 ?_
    refine A0 (j4 c5 c6 e5 z5) ?_
    refine w9 (Aa [] hone) trivial ?_
    refine A0 h00 ?_
    refine w7 (A3 [] hpf) trivial ?_
    refine A0 (j3 h11 h21 hc) ?_
    refine w7 (A3 [] hed) trivial ?_
    refine A0 hk ?_
    refine w7 (A3 [] hln) trivial ?_
    refine A0 hne ?_
    exact A9 (A8 [] []) Tryz.results29 hne
theorem NN (s:ByteArray) (hs:s.size≤100000) (h:DE s=none) (hw5:(decide ((s.size:Int)>5)=true∧5≤s.size∧((s.extract 0 5).toList==(⟨#[100,114,111,112,32]⟩:ByteArray).toList)=false)∨decide ((s.size:Int)>5)=false) (h4:4<s.size) (hd:s.extract 0 4=Gf):∃a x y,AC Tryz.prog 29 [.c (.str s)] [] (.tup [.agg [.c (.int .i64 a),.c (.sl x),.c (.sl y)],.c (.bool false)]) []:=by
 have h00:((0:Int) != 0)=false:=rfl
 have h11:((1:Int)==1)=true:=rfl
 have h21:((2:Int)==1)=false:=rfl
 have z5:GR s.size (some (AV.c (C.int IntKind.i64 5)))=some 5:=rfl
 have z4:GR s.size (some (AV.c (C.int IntKind.i64 4)))=some 4:=rfl
 have c4:decide ((s.size:Int)>4)=true:=decide_eq_true (by omega)
 have c6:4≤s.size:=by omega
 have e4:=H4 hd
 unfold Gf at e4
 obtain⟨x,hone⟩:=Fw s hs 20 0 rfl 4 (by omega)
 cases hR:Cq 20 s 4 with
 |bad c p =>
  have hf:=C2 (s:=s) 20 4 c6
  rw[hR]at hf hone
  have hc0:(c != 0)=true:=by simpa using Bq hf.1
  unfold rdA B9 at hone
  refine⟨1,[],[],?_⟩
  rcases hw5 with⟨c5,c7,e5⟩ | c5
  rotate_left
  refine A6 Tryz.func29 Tryz.ntmps29 ?_
  refine A0 (j5 c5 c4 c6 e4 z4) ?_
  rotate_left
  refine A6 Tryz.func29 Tryz.ntmps29 ?_
  refine A0 (j8 c5 c7 e5 z5 c4 c6 e4 z4) ?_
  all_goals
   refine w9 (Aa [] hone) trivial ?_
   refine A0 hc0 ?_
   exact A9 (A8 [] []) Tryz.results29 hc0
 |ok q e =>
  rw[hR]at hone
  unfold rdA Dk at hone
  obtain⟨_,hes,_⟩:=YS c6 hR
  have hpf:=E3 q.enc
  cases hc:((Bn q.enc).1 != 0) with
  |true =>
   refine⟨1,[],[],?_⟩
   rcases hw5 with⟨c5,c7,e5⟩ | c5
   rotate_left
   refine A6 Tryz.func29 Tryz.ntmps29 ?_
   refine A0 (j5 c5 c4 c6 e4 z4) ?_
   rotate_left
   refine A6 Tryz.func29 Tryz.ntmps29 ?_
   refine A0 (j8 c5 c7 e5 z5 c4 c6 e4 z4) ?_
   all_goals
    refine w9 (Aa [] hone) trivial ?_
    refine A0 h00 ?_
    refine w7 (A3 [] hpf) trivial ?_
    refine A0 (j3 h11 h21 hc) ?_
    exact A9 (A8 [] []) Tryz.results29 hc
  |false =>
   by_cases hlt:e<s.size
   ·have cge:decide ((e:Int)≥(s.size:Int))=false:=decide_eq_false (by omega)
    obtain⟨b,hg,hb⟩:=Aw hlt
    have hwe:=Ae (k:=e) (by omega)
    cases hbb:(((b.toNat:Nat):Int) != 32) with
    |true =>
     refine⟨1,q.enc.map CellD.cs,[],?_⟩
     rcases hw5 with⟨c5,c7,e5⟩ | c5
     rotate_left
     refine A6 Tryz.func29 Tryz.ntmps29 ?_
     refine A0 (j5 c5 c4 c6 e4 z4) ?_
     rotate_left
     refine A6 Tryz.func29 Tryz.ntmps29 ?_
     refine A0 (j8 c5 c7 e5 z5 c4 c6 e4 z4) ?_
     all_goals
      refine w9 (Aa [] hone) trivial ?_
      refine A0 h00 ?_
      refine w7 (A3 [] hpf) trivial ?_
      refine A0 (j6 h11 h21 hc cge hg hbb) ?_
      exact A9 (A8 [] []) Tryz.results29 hbb
    |false =>
     obtain⟨x2,htwo⟩:=Fw s hs 20 0 rfl (e+1) (by omega)
     cases hR2:Cq 20 s (e+1) with
     |bad c p =>
      have hf:=C2 (s:=s) 20 (e+1) (by omega)
      rw[hR2]at hf htwo
      have hc0:(c != 0)=true:=by simpa using Bq hf.1
      unfold rdA B9 at htwo
      refine⟨1,q.enc.map CellD.cs,[],?_⟩
      rcases hw5 with⟨c5,c7,e5⟩ | c5
      rotate_left
      refine A6 Tryz.func29 Tryz.ntmps29 ?_
      refine A0 (j5 c5 c4 c6 e4 z4) ?_
      rotate_left
      refine A6 Tryz.func29 Tryz.ntmps29 ?_
      refine A0 (j8 c5 c7 e5 z5 c4 c6 e4 z4) ?_
      all_goals
       refine w9 (Aa [] hone) trivial ?_
       refine A0 h00 ?_
       refine w7 (A3 [] hpf) trivial ?_
       refine A0 (j7 h11 h21 hc cge hg hbb hwe) ?_
       refine w9 (Aa [] htwo) trivial ?_
       refine A0 hc0 ?_
       exact A9 (A8 [] []) Tryz.results29 hc0
     |ok u e2 =>
      rw[hR2]at htwo
      unfold rdA Dk at htwo
      have hed:=FW ⟨1,q.enc,u.enc⟩
      rw[Dv]at hed
      cases hk:(Ac ⟨1,q.enc,u.enc⟩==0) with
      |false =>
       generalize Ac _=k at *
       refine⟨1,q.enc.map CellD.cs,u.enc.map CellD.cs,?_⟩
       rcases hw5 with⟨c5,c7,e5⟩ | c5
       rotate_left
       refine A6 Tryz.func29 Tryz.ntmps29 ?_
       refine A0 (j5 c5 c4 c6 e4 z4) ?_
       rotate_left
       refine A6 Tryz.func29 Tryz.ntmps29 ?_
       refine A0 (j8 c5 c7 e5 z5 c4 c6 e4 z4) ?_
       all_goals
        refine w9 (Aa [] hone) trivial ?_
        refine A0 h00 ?_
        refine w7 (A3 [] hpf) trivial ?_
        refine A0 (j7 h11 h21 hc cge hg hbb hwe) ?_
        refine w9 (Aa [] htwo) trivial ?_
        refine A0 h00 ?_
        refine w7 (A3 [] hed) trivial ?_
        refine A0 hk ?_
        exact A9 (A8 [] []) Tryz.results29 hk
      |true =>
       have hk0:Ac ⟨1,q.enc,u.enc⟩=0:=by simpa using hk
       have hln:=Gc hk0
       rw[Dv]at hln
       have hne:=J1 (FA h hk0)
       generalize D9 _=ln at *
       generalize Ac _=k at *
       refine⟨1,q.enc.map CellD.cs,u.enc.map CellD.cs,?_⟩
       rcases hw5 with⟨c5,c7,e5⟩ | c5
       rotate_left
       refine A6 Tryz.func29 Tryz.ntmps29 ?_
       refine A0 (j5 c5 c4 c6 e4 z4) ?_
       rotate_left
       refine A6 Tryz.func29 Tryz.ntmps29 ?_
       refine A0 (j8 c5 c7 e5 z5 c4 c6 e4 z4) ?_
       all_goals
        refine w9 (Aa [] hone) trivial ?_
        refine A0 h00 ?_
        refine w7 (A3 [] hpf) trivial ?_
        refine A0 (j7 h11 h21 hc cge hg hbb hwe) ?_
        refine w9 (Aa [] htwo) trivial ?_
        refine A0 h00 ?_
        refine w7 (A3 [] hed) trivial ?_
        refine A0 hk ?_
        refine w7 (A3 [] hln) trivial ?_
        refine A0 hne ?_
        exact A9 (A8 [] []) Tryz.results29 hne
   ·have cge:decide ((e:Int)≥(s.size:Int))=true:=decide_eq_true (by omega)
    refine⟨1,q.enc.map CellD.cs,[],?_⟩
    rcases hw5 with⟨c5,c7,e5⟩ | c5
    rotate_left
    refine A6 Tryz.func29 Tryz.ntmps29 ?_
    refine A0 (j5 c5 c4 c6 e4 z4) ?_
    rotate_left
    refine A6 Tryz.func29 Tryz.ntmps29 ?_
    refine A0 (j8 c5 c7 e5 z5 c4 c6 e4 z4) ?_
    all_goals
     refine w9 (Aa [] hone) trivial ?_
     refine A0 h00 ?_
     refine w7 (A3 [] hpf) trivial ?_
     refine A0 (j4 h11 h21 hc cge) ?_
     exact A9 (A8 [] []) Tryz.results29 cge
theorem Py (s:ByteArray) (hs:s.size≤100000) (h:DE s=none):∃a x y,AC Tryz.prog 29 [.c (.str s)] [] (.tup [.agg [.c (.int .i64 a),.c (.sl x),.c (.sl y)],.c (.bool false)]) []:=by
 have h11:((1:Int)==1)=true:=rfl
 have h21:((2:Int)==1)=false:=rfl
 have z5:GR s.size (some (AV.c (C.int IntKind.i64 5)))=some 5:=rfl
 have z4:GR s.size (some (AV.c (C.int IntKind.i64 4)))=some 4:=rfl
 by_cases h5:5<s.size∧s.extract 0 5=FX
 ·exact Md s hs h h5.1 h5.2
 ·have hw5:(decide ((s.size:Int)>5)=true∧5≤s.size∧((s.extract 0 5).toList==(⟨#[100,114,111,112,32]⟩:ByteArray).toList)=false)∨decide ((s.size:Int)>5)=false:=by
   by_cases hs5:5<s.size
   ·exact .inl ⟨decide_eq_true (by omega),by omega,J1 fun e=>h5 ⟨hs5,e⟩⟩
   ·exact .inr (decide_eq_false (by omega))
  by_cases h4:4<s.size∧s.extract 0 4=Gf
  ·exact NN s hs h hw5 h4.1 h4.2
  ·have hw4:(decide ((s.size:Int)>4)=true∧4≤s.size∧((s.extract 0 4).toList==(⟨#[115,101,116,32]⟩:ByteArray).toList)=false)∨decide ((s.size:Int)>4)=false:=by
    by_cases hs5:4<s.size
    ·exact .inl ⟨decide_eq_true (by omega),by omega,J1 fun e=>h4 ⟨hs5,e⟩⟩
    ·exact .inr (decide_eq_false (by omega))
   rcases hw4 with⟨c4,c6,e4⟩ | c4
   ·rcases hw5 with⟨c5,c7,e5⟩ | c5
    ·refine⟨0,[],[],?_⟩
     refine A6 Tryz.func29 Tryz.ntmps29 ?_
     refine A0 (j8 c5 c7 e5 z5 c4 c6 e4 z4) ?_
     exact A9 (A8 [] []) Tryz.results29 c4
    ·refine⟨0,[],[],?_⟩
     refine A6 Tryz.func29 Tryz.ntmps29 ?_
     refine A0 (j5 c5 c4 c6 e4 z4) ?_
     exact A9 (A8 [] []) Tryz.results29 c4
   ·rcases hw5 with⟨c5,c7,e5⟩ | c5
    ·exfalso
     simp at c4 c5
     omega
    ·refine⟨0,[],[],?_⟩
     refine A6 Tryz.func29 Tryz.ntmps29 ?_
     refine A0 (j2 c5 c4) ?_
     exact A9 (A8 [] []) Tryz.results29 c4
end Go.Proofs.YtllfmaflodbieaaGreatDoor
