/- Texts of this proof: D12 M52. -/
import Derived.Test.YtlciedpfjhkkdaaGreatDoorKD10uD11
set_option linter.all false
set_option maxHeartbeats 8000000
namespace Go.Proofs.YtlciedpfjhkkdaaGreatDoor
open Go.RowKit
set_option maxRecDepth 10000
theorem l2One_ac (s:ByteArray) (hs:s.size≤100000):∀(k d:Nat),d+k=20→∀i,i≤s.size→∃x,AC Tryz.prog 37 [.c (.str s),.c (.int .i64 i),.c (.int .i64 d)] [] (rdA (valR k s i) x) []:=by
 intro k
 have hs':s.size≤1000000:=by omega
 induction k with
 |zero =>
  intro d hd i hi
  refine⟨ByteArray.empty,?_⟩
  have hdd:decide ((d:Int)≥20)=true:=decide_eq_true (by omega)
  unfold valR
  by_cases hlt:s.size≤i
  ·have hdg:decide ((i:Int)≥(s.size:Int))=true:=decide_eq_true (by omega)
   have hbad:=l2Bad_ac 5 s.size
   rw[if_pos hlt]
   unfold rdA
   unfold rdBad at hbad ⊢
   refine wEnter Tryz.func37 Tryz.ntmps37 ?_
   refine wRUN hdg ?_
   refine w7 (op_data [] hbad) trivial ?_
   refine wRUN trivial ?_
   exact wRet (ret_data []) Tryz.results37
  ·have hdg:decide ((i:Int)≥(s.size:Int))=false:=decide_eq_false (by omega)
   have hbad:=l2Bad_ac 7 i
   rw[if_neg hlt]
   unfold rdA
   unfold rdBad at hbad ⊢
   refine wEnter Tryz.func37 Tryz.ntmps37 ?_
   refine wRUN (j2 hdg hdd) ?_
   refine w7 (op_data [] hbad) trivial ?_
   refine wRUN trivial ?_
   exact wRet (ret_data []) Tryz.results37
 |succ k ih =>
  intro d hd i hi
  have hdd:decide ((d:Int)≥20)=false:=decide_eq_false (by omega)
  by_cases hlt:s.size≤i
  ·refine⟨ByteArray.empty,?_⟩
   have hdg:decide ((i:Int)≥(s.size:Int))=true:=decide_eq_true (by omega)
   have hbad:=l2Bad_ac 5 s.size
   unfold valR
   rw[if_pos hlt]
   unfold rdA
   unfold rdBad at hbad ⊢
   refine wEnter Tryz.func37 Tryz.ntmps37 ?_
   refine wRUN hdg ?_
   refine w7 (op_data [] hbad) trivial ?_
   refine wRUN trivial ?_
   exact wRet (ret_data []) Tryz.results37
  ·have hdg:decide ((i:Int)≥(s.size:Int))=false:=decide_eq_false (by omega)
   have hi':i<s.size:=by omega
   obtain⟨b,hg,hb⟩:=bAt_in hi'
   have hbn:((b.toNat:Nat):Int)=((bAt s i:Nat):Int):=by rw[hb]
   have hone:=fun j hj=>ih (d+1) (by omega) j hj
   have hrd:=fun j hj=>valR_fine (s:=s) k j hj
   have hwn:=l2Word_ac s hs' i hi ⟨#[110,117,108,108]⟩ (by decide) 0
   have hwf:=l2Word_ac s hs' i hi ⟨#[102,97,108,115,101]⟩ (by decide) 1
   have hwt:=l2Word_ac s hs' i hi ⟨#[116,114,117,101]⟩ (by decide) 2
   have hwhole:=l2Whole_ac s hs' i hi'
   have harr:=fun h=>l2ManyA_ac s hs i d (by omega) hi' h (valR k s) hone k hrd
   have hobj:=fun h=>l2ManyO_ac s hs i d (by omega) hi' h (valR k s) hone k hrd
   have hstr:=l2String_ac s hs' i hi'
   have f110:=fun n=>decide_eq_false (p:=bAt s i=n)
   clear f110
   unfold valR
   rw[if_neg hlt]
   by_cases h110:bAt s i=110
   ·have e110:(((bAt s i:Nat):Int)==110)=true:=by simp[h110]
    rw[if_pos h110]
    refine⟨ByteArray.empty,?_⟩
    change AC _ _ _ _ (rdA (wordR s (kindV 0) i [110,117,108,108] 0) ByteArray.empty) _ at hwn
    cases hR:wordR s (kindV 0) i [110,117,108,108] 0 with
    |ok v e =>
     rw[hR]at hwn
     unfold rdA rdOk at hwn ⊢
     refine wEnter Tryz.func37 Tryz.ntmps37 ?_
     refine wRUN (j5 hdg hdd hg hbn e110) ?_
     refine w9 (op_shared [] hwn) trivial ?_
     refine wRUN trivial ?_
     exact wRet (ret_data []) Tryz.results37
    |bad c p =>
     rw[hR]at hwn
     unfold rdA at hwn ⊢
     unfold rdBad at hwn ⊢
     refine wEnter Tryz.func37 Tryz.ntmps37 ?_
     refine wRUN (j5 hdg hdd hg hbn e110) ?_
     refine w9 (op_shared [] hwn) trivial ?_
     refine wRUN trivial ?_
     exact wRet (ret_data []) Tryz.results37
   have e110:(((bAt s i:Nat):Int)==110)=false:=by simp;omega
   rw[if_neg h110]
   by_cases h102:bAt s i=102
   ·have e102:(((bAt s i:Nat):Int)==102)=true:=by simp[h102]
    rw[if_pos h102]
    refine⟨ByteArray.empty,?_⟩
    change AC _ _ _ _ (rdA (wordR s (kindV 1) i [102,97,108,115,101] 0) ByteArray.empty) _ at hwf
    cases hR:wordR s (kindV 1) i [102,97,108,115,101] 0 with
    |ok v e =>
     rw[hR]at hwf
     unfold rdA rdOk at hwf ⊢
     refine wEnter Tryz.func37 Tryz.ntmps37 ?_
     refine wRUN (j6 hdg hdd hg hbn e110 e102) ?_
     refine w9 (op_shared [] hwf) trivial ?_
     refine wRUN trivial ?_
     exact wRet (ret_data []) Tryz.results37
    |bad c p =>
     rw[hR]at hwf
     unfold rdA at hwf ⊢
     unfold rdBad at hwf ⊢
     refine wEnter Tryz.func37 Tryz.ntmps37 ?_
     refine wRUN (j6 hdg hdd hg hbn e110 e102) ?_
     refine w9 (op_shared [] hwf) trivial ?_
     refine wRUN trivial ?_
     exact wRet (ret_data []) Tryz.results37
   have e102:(((bAt s i:Nat):Int)==102)=false:=by simp;omega
   rw[if_neg h102]
   by_cases h116:bAt s i=116
   ·have e116:(((bAt s i:Nat):Int)==116)=true:=by simp[h116]
    rw[if_pos h116]
    refine⟨ByteArray.empty,?_⟩
    change AC _ _ _ _ (rdA (wordR s (kindV 2) i [116,114,117,101] 0) ByteArray.empty) _ at hwt
    cases hR:wordR s (kindV 2) i [116,114,117,101] 0 with
    |ok v e =>
     rw[hR]at hwt
     unfold rdA rdOk at hwt ⊢
     refine wEnter Tryz.func37 Tryz.ntmps37 ?_
     refine wRUN (j7 hdg hdd hg hbn e110 e102 e116) ?_
     refine w9 (op_shared [] hwt) trivial ?_
     refine wRUN trivial ?_
     exact wRet (ret_data []) Tryz.results37
    |bad c p =>
     rw[hR]at hwt
     unfold rdA at hwt ⊢
     unfold rdBad at hwt ⊢
     refine wEnter Tryz.func37 Tryz.ntmps37 ?_
     refine wRUN (j7 hdg hdd hg hbn e110 e102 e116) ?_
     refine w9 (op_shared [] hwt) trivial ?_
     refine wRUN trivial ?_
     exact wRet (ret_data []) Tryz.results37
   have e116:(((bAt s i:Nat):Int)==116)=false:=by simp;omega
   rw[if_neg h116]
   by_cases h91:bAt s i=91
   ·have e91:(((bAt s i:Nat):Int)==91)=true:=by simp[h91]
    rw[if_pos h91]
    refine⟨ByteArray.empty,?_⟩
    have harr:=harr h91
    cases hR:manyGo s (valR k s) false (s.size+1) (skipB s (i+1)) true [] [] with
    |ok v e =>
     rw[hR]at harr
     unfold rdA rdOk at harr ⊢
     refine wEnter Tryz.func37 Tryz.ntmps37 ?_
     refine wRUN (j8 hdg hdd hg hbn e110 e102 e116 e91) ?_
     refine w9 (op_shared [] harr) trivial ?_
     refine wRUN trivial ?_
     exact wRet (ret_data []) Tryz.results37
    |bad c p =>
     rw[hR]at harr
     unfold rdA at harr ⊢
     unfold rdBad at harr ⊢
     refine wEnter Tryz.func37 Tryz.ntmps37 ?_
     refine wRUN (j8 hdg hdd hg hbn e110 e102 e116 e91) ?_
     refine w9 (op_shared [] harr) trivial ?_
     refine wRUN trivial ?_
     exact wRet (ret_data []) Tryz.results37
   have e91:(((bAt s i:Nat):Int)==91)=false:=by simp;omega
   rw[if_neg h91]
   by_cases h123:bAt s i=123
   ·have e123:(((bAt s i:Nat):Int)==123)=true:=by simp[h123]
    rw[if_pos h123]
    refine⟨ByteArray.empty,?_⟩
    have hobj:=hobj h123
    cases hR:manyGo s (valR k s) true (s.size+1) (skipB s (i+1)) true [] [] with
    |ok v e =>
     rw[hR]at hobj
     unfold rdA rdOk at hobj ⊢
     refine wEnter Tryz.func37 Tryz.ntmps37 ?_
     refine wRUN (j9 hdg hdd hg hbn e110 e102 e116 e91 e123) ?_
     refine w9 (op_shared [] hobj) trivial ?_
     refine wRUN trivial ?_
     exact wRet (ret_data []) Tryz.results37
    |bad c p =>
     rw[hR]at hobj
     unfold rdA at hobj ⊢
     unfold rdBad at hobj ⊢
     refine wEnter Tryz.func37 Tryz.ntmps37 ?_
     refine wRUN (j9 hdg hdd hg hbn e110 e102 e116 e91 e123) ?_
     refine w9 (op_shared [] hobj) trivial ?_
     refine wRUN trivial ?_
     exact wRet (ret_data []) Tryz.results37
   have e123:(((bAt s i:Nat):Int)==123)=false:=by simp;omega
   rw[if_neg h123]
   by_cases h34:bAt s i=34
   ·have e34:(((bAt s i:Nat):Int)==34)=true:=by simp[h34]
    rw[if_pos h34]
    have hsr:strR s i=strGo s i (s.size+1) (i+1) ByteArray.empty:=by unfold strR;rw[if_neg (by simp[h34])]
    have hsf:=strR_fine (s:=s) hi
    rw[←hsr]at hstr
    cases hR:strR s i with
    |ok t e =>
     rw[hR]at hstr
     refine⟨t,?_⟩
     have hl1:=l1String_ac t
     unfold rdT rdOk at hstr
     simp only
     unfold rdA rdOk
     refine wEnter Tryz.func37 Tryz.ntmps37 ?_
     refine wRUN (j10 hdg hdd hg hbn e110 e102 e116 e91 e123 e34) ?_
     have h00:((0:Int)==0)=true:=rfl
     refine w9 (op_shared [] hstr) trivial ?_
     refine wRUN h00 ?_
     refine w9 (op_shared [] hl1) trivial ?_
     refine wRUN trivial ?_
     exact wRet (ret_data []) Tryz.results37
    |bad c p =>
     rw[hR]at hstr hsf
     refine⟨ByteArray.empty,?_⟩
     have hc0:(c==0)=false:=by simpa using rdCode_ne hsf.1
     unfold rdT at hstr
     simp only
     unfold rdA
     unfold rdBad at hstr ⊢
     refine wEnter Tryz.func37 Tryz.ntmps37 ?_
     refine wRUN (j10 hdg hdd hg hbn e110 e102 e116 e91 e123 e34) ?_
     refine w9 (op_shared [] hstr) trivial ?_
     refine wRUN hc0 ?_
     exact wRet (ret_data []) Tryz.results37
   have e34:(((bAt s i:Nat):Int)==34)=false:=by simp;omega
   rw[if_neg h34]
   refine⟨ByteArray.empty,?_⟩
   change AC _ _ _ _ (rdA (numRd s i) ByteArray.empty) _
   cases hR:numRd s i with
   |ok v e =>
    rw[hR]at hwhole
    unfold rdA rdOk at hwhole ⊢
    refine wEnter Tryz.func37 Tryz.ntmps37 ?_
    refine wRUN (j10 hdg hdd hg hbn e110 e102 e116 e91 e123 e34) ?_
    refine w9 (op_shared [] hwhole) trivial ?_
    refine wRUN trivial ?_
    exact wRet (ret_data []) Tryz.results37
   |bad c p =>
    rw[hR]at hwhole
    unfold rdA at hwhole ⊢
    unfold rdBad at hwhole ⊢
    refine wEnter Tryz.func37 Tryz.ntmps37 ?_
    refine wRUN (j10 hdg hdd hg hbn e110 e102 e116 e91 e123 e34) ?_
    refine w9 (op_shared [] hwhole) trivial ?_
    refine wRUN trivial ?_
    exact wRet (ret_data []) Tryz.results37
def decA (r:(Int×Nat)×Option V):AV:=match r.2 with
 |none=>.agg [.c (.int .i64 r.1.1),.c (.int .i64 r.1.2),.nils]
 |some v=>.agg [.c (.int .i64 0),.c (.int .i64 0),.c (.sl (v.enc.map CellD.cs))]
theorem specDecode_ac (s:ByteArray) (hs:s.size≤9000000000000000000):AC Tryz.prog 9 [.c (.str s)] [] (decA (decodeR s)) []:=by
 have h00:((0:Int) != 0)=false:=rfl
 unfold decodeR
 by_cases h4:4000<s.size
 ·have g4:decide ((s.size:Int)>4000)=true:=decide_eq_true (by omega)
  rw[if_pos h4]
  unfold decA
  show AC _ _ _ _ (.agg [.c (.int .i64 2),.c (.int .i64 0),.nils]) _
  refine wEnter Tryz.func9 Tryz.ntmps9 ?_
  refine wRUN g4 ?_
  exact wRet (ret_data []) Tryz.results9
 ·have g4:decide ((s.size:Int)>4000)=false:=decide_eq_false (by omega)
  rw[if_neg h4]
  have hs':s.size≤1000000:=by omega
  have hsk:=l2Skip_ac s hs' 0 (Nat.zero_le _)
  obtain⟨_,g2,_⟩:=skip_in (s:=s) (i:=0) (Nat.zero_le _)
  obtain⟨x,hone⟩:=l2One_ac s (by omega) 20 0 rfl (skipB s 0) g2
  have hf:=valR_fine (s:=s) 20 (skipB s 0) g2
  cases hR:valR 20 s (skipB s 0) with
  |bad c p =>
   rw[hR]at hone hf
   have hc0:(c != 0)=true:=by simpa using rdCode_ne hf.1
   simp only
   unfold decA
   unfold rdA at hone
   unfold rdBad at hone
   refine wEnter Tryz.func9 Tryz.ntmps9 ?_
   refine wRUN g4 ?_
   refine w7 (op_data [] hsk) trivial ?_
   refine wRUN trivial ?_
   refine w9 (op_shared [] hone) trivial ?_
   refine wRUN hc0 ?_
   exact wRet (ret_data []) Tryz.results9
  |ok v e =>
   rw[hR]at hone hf
   obtain⟨_,f2,_⟩:=hf
   have hsk2:=l2Skip_ac s hs' e f2
   simp only
   unfold rdA rdOk at hone
   have hlen:(v.enc.map CellD.cs).length=v.count:=by rw[List.length_map,enc_len]
   have hlen2:v.enc.length=v.count:=enc_len v
   by_cases hlt:skipB s e<s.size
   ·have gl:decide (((skipB s e:Nat):Int)<(s.size:Int))=true:=by simpa using hlt
    rw[if_pos hlt]
    unfold decA
    refine wEnter Tryz.func9 Tryz.ntmps9 ?_
    refine wRUN g4 ?_
    refine w7 (op_data [] hsk) trivial ?_
    refine wRUN trivial ?_
    refine w9 (op_shared [] hone) trivial ?_
    refine wRUN h00 ?_
    refine w7 (op_data [] hsk2) trivial ?_
    refine wRUN gl ?_
    exact wRet (ret_data []) Tryz.results9
   ·have gl:decide (((skipB s e:Nat):Int)<(s.size:Int))=false:=by simpa using hlt
    rw[if_neg hlt]
    by_cases h200:200<v.count
    ·have g200:decide ((v.count:Int)>200)=true:=decide_eq_true (by omega)
     rw[if_pos h200]
     unfold decA
     show AC _ _ _ _ (.agg [.c (.int .i64 2),.c (.int .i64 0),.nils]) _
     refine wEnter Tryz.func9 Tryz.ntmps9 ?_
     refine wRUN g4 ?_
     refine w7 (op_data [] hsk) trivial ?_
     refine wRUN trivial ?_
     refine w9 (op_shared [] hone) trivial ?_
     refine wRUN h00 ?_
     refine w7 (op_data [] hsk2) trivial ?_
     refine wRUN (j3 gl hlen2 g200) ?_
     exact wRet (ret_data []) Tryz.results9
    ·have g200:decide ((v.count:Int)>200)=false:=decide_eq_false (by omega)
     rw[if_neg h200]
     unfold decA
     refine wEnter Tryz.func9 Tryz.ntmps9 ?_
     refine wRUN g4 ?_
     refine w7 (op_data [] hsk) trivial ?_
     refine wRUN trivial ?_
     refine w9 (op_shared [] hone) trivial ?_
     refine wRUN h00 ?_
     refine w7 (op_data [] hsk2) trivial ?_
     refine wRUN (j3 gl hlen2 g200) ?_
     exact wRet (ret_data []) Tryz.results9
structure DS where
 pl:Nat
 code:Int
 bad:Nat
def DS.fail (d:DS) (c:Int) (p:Nat):DS:=if d.code=0 then ⟨d.pl,c,p⟩ else d
def DS.go (d:DS) (p:Nat):DS:=⟨p,d.code,d.bad⟩
def DS.skip (s:ByteArray) (d:DS):DS:=d.go (skipB s d.pl)
def DS.is (s:ByteArray) (d:DS) (b:Nat):Bool:=decide (d.code=0)&&(bAt s d.pl==b)
def DS.take (s:ByteArray) (d:DS) (b:Nat):DS:=if d.is s b then d.go (d.pl+1) else d
def DS.want (s:ByteArray) (d:DS) (b:Nat):DS:=if d.is s b then d.go (d.pl+1) else d.fail 5 d.pl
def DS.word (s:ByteArray):DS→List Nat→DS
 |d,[]=>d
 |d,b::r=>DS.word s (d.want s b) r
def numI (s:ByteArray) (i b:Nat):V×DS :=
 if digB (bAt s (numA s i))=false then (kindV 0,⟨numA s i,5,numA s i⟩) else if numBig s i then (numV 0,⟨numE s i,3,i⟩) else if dotB (bAt s (numE s i)) then (numV (numV' s i),⟨numE s i,3,numE s i⟩) else (numV (numV' s i),⟨numE s i,0,b⟩)
def DS.hex (s:ByteArray) (d:DS):Int×DS:=if d.code=0∧0≤hexB (bAt s d.pl) then (hexB (bAt s d.pl),d.go (d.pl+1)) else (0,d.fail 5 d.pl)
def DS.escape (s:ByteArray) (d:DS):Nat×DS :=
 if d.is s 34 then (34,d.go (d.pl+1)) else if d.is s 92 then (92,d.go (d.pl+1)) else if d.is s 47 then (47,d.go (d.pl+1))
 else
  let d1:=d.word s [117,48,48]
  let h1:=d1.hex s
  let h2:=h1.2.hex s
  let n:=16*h1.1+h2.1
  (n.toNat,if 32≤n∧n≤126 then h2.2 else h2.2.fail 5 d1.pl)
def DS.strGo (s:ByteArray):Nat→DS→ByteArray→ByteArray×DS
 | 0,d,out=>(out,d)
 |n+1,d,out=>if d.code≠0 then (out,d) else if d.is s 34 then (out,d.go (d.pl+1))
  else if s.size≤d.pl∨bAt s d.pl<32∨126<bAt s d.pl then DS.strGo s n (d.fail 5 d.pl) out
  else if d.is s 92 then DS.strGo s n ((d.go (d.pl+1)).escape s).2 (out++bOne ((d.go (d.pl+1)).escape s).1)
  else DS.strGo s n (d.go (d.pl+1)) (out++bOne (bAt s d.pl))
def DS.str (s:ByteArray) (d:DS):ByteArray×DS :=
 let r:=DS.strGo s (s.size+2) (d.want s 34) ByteArray.empty
 (r.1,if 60<r.1.size then r.2.fail 2 d.pl else r.2)
def DS.listGo {α:Type}(s:ByteArray) (part:DS→α→DS×α) (e:Nat):Nat→DS→α→DS×α
 | 0,d,x=>(d,x)
 |n+1,d,x=>if d.code≠0 then (d,x) else
  if ((part d x).1.skip s).is s e then (((part d x).1.skip s).go (((part d x).1.skip s).pl+1),(part d x).2)
  else DS.listGo s part e n ((((part d x).1.skip s).want s 44).skip s) (part d x).2
def DS.list {α:Type}(s:ByteArray) (part:DS→α→DS×α) (e:Nat) (d:DS) (x:α):DS×α :=
 if (d.skip s).is s e then ((d.skip s).go ((d.skip s).pl+1),x) else DS.listGo s part e (s.size+1) (d.skip s) x
def elemP (rd:DS→V×DS) (d:DS) (x:List V):DS×List V:=((rd d).2,x++[(rd d).1])
def memP (s:ByteArray) (rd:DS→V×DS) (d:DS) (x:List ByteArray×List V):DS×(List ByteArray×List V) :=
 let k:=d.str s
 let r:=rd ((k.2.skip s).want s 58)
 (r.2,(x.1++[k.1],x.2++[r.1]))
def DS.value (s:ByteArray):Nat→DS→V×DS
 | 0,d=>(kindV 0,if s.size≤(d.skip s).pl then (d.skip s).fail 5 (d.skip s).pl else (d.skip s).fail 7 (d.skip s).pl)
 |k+1,d =>
  let d:=d.skip s
  let b:=bAt s d.pl
  if s.size≤d.pl then (kindV 0,d.fail 5 d.pl) else if d.code≠0 then (kindV 0,d)
  else if b=110 then (kindV 0,d.word s [110,117,108,108])
  else if b=102 then (kindV 1,d.word s [102,97,108,115,101])
  else if b=116 then (kindV 2,d.word s [116,114,117,101])
  else if b=45∨digB b=true then numI s d.pl d.bad
  else if b=34 then (strV (d.str s).1,(d.str s).2)
  else if b=91 then
   let r:=DS.list s (elemP (DS.value s k)) 93 (d.go (d.pl+1)) []
   (arrV r.2,r.1)
  else if b=123 then
   let r:=DS.list s (memP s (DS.value s k)) 125 (d.go (d.pl+1)) ([],[])
   (objV r.2.1 r.2.2,r.1)
  else (kindV 0,d.fail 5 d.pl)
def decodeI (s:ByteArray):(Int×Nat)×Option V :=
 if 4000<s.size then ((2,0),none) else
  let r:=DS.value s 20 ⟨0,0,0⟩
  let d:=r.2.skip s
  let d2:=if d.pl<s.size then d.fail 5 d.pl else d
  if d2.code≠0 then ((d2.code,d2.bad),none) else if 200<r.1.count then ((2,0),none) else ((0,0),some r.1)
end Go.Proofs.YtlciedpfjhkkdaaGreatDoor
