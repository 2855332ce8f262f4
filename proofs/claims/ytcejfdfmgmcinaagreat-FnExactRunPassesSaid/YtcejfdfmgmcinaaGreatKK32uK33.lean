/- Texts of this proof: K32 K33. -/
import Derived.Test.YtcejfdfmgmcinaaGreatKK31
set_option linter.all false
set_option maxHeartbeats 8000000
namespace Go.Proofs.YtcejfdfmgmcinaaGreat
open Go.RowKit
set_option maxRecDepth 10000
theorem Fk:MK none DA false:=.inr ⟨rfl,rfl⟩
theorem DD {q:PT}(h:q.fine):MK (some q.ct) q true:=.inl ⟨rfl,h,rfl⟩
theorem a3o {p:PT}(h:p.fine) (ha:Au p.d.op=1):∃a,p.kids=[a]∧a.fine:=by
 have hl:=PT.fine_len h
 rw[ha]at hl
 obtain⟨a,hk⟩:=List.length_eq_one_iff.1 hl
 exact⟨a,hk,PT.fine_kid h (by rw[hk];simp)⟩
theorem p9 {p:PT}(h:p.fine) (ha:Au p.d.op=2):∃a b,p.kids=[a,b]∧a.fine∧b.fine:=by
 have hl:=PT.fine_len h
 rw[ha]at hl
 match hk:p.kids,hl with
 | [a,b],_=>exact⟨a,b,rfl,PT.fine_kid h (by rw[hk];simp),PT.fine_kid h (by rw[hk];simp)⟩
theorem a3p {p:PT}(h:p.fine) (ha:Au p.d.op=3):∃a b c,p.kids=[a,b,c]∧a.fine∧b.fine∧c.fine:=by
 have hl:=PT.fine_len h
 rw[ha]at hl
 match hk:p.kids,hl with
 | [a,b,c],_=>exact⟨a,b,c,rfl,PT.fine_kid h (by rw[hk];simp),PT.fine_kid h (by rw[hk];simp),PT.fine_kid h (by rw[hk];simp)⟩
theorem a5p {p:PT}(h:p.fine) (ha:Au p.d.op=0):p.kids=[]:=by
 have hl:=PT.fine_len h
 rw[ha]at hl
 exact List.eq_nil_of_length_eq_zero hl
theorem d9 {op num:Int}{val:List CellD}{l:List CT}(n6:op≠6) (n7:op≠7) (n12:op≠12) (n11:op≠11) (n10:op≠10):CS op num val l=none:=by
 unfold CS
 split
 ·rw[if_neg n10]
 ·split
  ·first | rfl | rw[if_neg n6,if_neg n7,if_neg n11]
  ·rfl
 ·rw[if_neg (fun h=>n12 h.1)]
 ·rfl
theorem UM {p:PT}(h:p.fine):∃q b,MK (CS p.d.op p.d.num p.d.val (ctL p.kids)) q b∧AC Tryz.prog 62 [p.av] [] (Iy (q,b)) []:=by
 have hl3:=PE h
 by_cases h2:p.d.op=6∨p.d.op=7∨p.d.op=11
 ·have har:Au p.d.op=2:=by rcases h2 with e | e | e<;>rw[e]<;>rfl
  obtain⟨a,b,hk,ha,hb⟩:=p9 h har
  have hT:CS p.d.op p.d.num p.d.val (ctL p.kids)=if a.d.op=2∧b.d.op=2 then (if p.d.op=6 then ET (JZ p.d.num (vOf a.ct.val) (vOf b.ct.val)) else if p.d.op=7 then ET (Cu (vOf a.ct.val) (vOf b.ct.val)) else if p.d.op=11 then ET (Dw (vOf a.ct.val) (vOf p.d.val).text (vOf b.ct.val)) else none) else none:=by
   rw[hk,ctL,ctL,ctL]
   unfold CS
   dsimp only
   rw[Ga,Ga]
  rw[hT]
  by_cases hc:a.d.op=2∧b.d.op=2
  ·rw[if_pos hc]
   obtain⟨v,hv,ev,ev'⟩:=F8 ha hc.1
   obtain⟨u,hu,eu,eu'⟩:=F8 hb hc.2
   rw[ev',eu']
   rcases h2 with e | e | e
   ·rw[if_pos e]
    exact⟨_,_,Fs (Qz _ hv hu),e7 e hk hc.1 hc.2 hv hu ev eu⟩
   ·rw[if_neg (by omega),if_pos e]
    exact⟨_,_,Fs (L4 hv _),e8 e hk hc.1 hc.2 hv hu ev eu⟩
   ·rw[if_neg (by omega),if_neg (by omega),if_pos e]
    obtain⟨t,ht,e3,_⟩:=(PT.fine_node h).hasVal (by rw[e];rfl)
    rw[e3,N2 ht]
    exact⟨_,_,Fs (Jr hv hu (Du ht)),XP e hk hc.1 hc.2 hv hu ev eu ht e3 (Du ht)⟩
  ·rw[if_neg hc]
   have hn:((p.kids.take 2).all fun x=>x.d.op==2)=false:=by
    rw[hk]
    cases hb:([a,b].take 2).all fun x=>x.d.op==2 with
    |false=>rfl
    |true =>
     simp at hb
     exact absurd hb hc
   have hk2:2≤p.kids.length:=by rw[hk];simp
   refine⟨DA,false,Fk,?_⟩
   rcases h2 with e | e | e
   ·exact d7 e hl3 hk2 hn
   ·exact d8 e hl3 hk2 hn
   ·exact XN e hl3 hk2 hn
 by_cases h12:p.d.op=12
 ·obtain⟨a,b,c,hk,ha,hb,hcf⟩:=a3p h (by rw[h12];rfl)
  have hT:CS p.d.op p.d.num p.d.val (ctL p.kids)=if a.d.op=2 then some (if CE (vOf a.ct.val) then b.ct else c.ct) else none:=by
   rw[hk,ctL,ctL,ctL,ctL,h12]
   unfold CS
   dsimp only
   rw[Ga]
   simp only[true_and]
  rw[hT]
  by_cases hc:a.d.op=2
  ·rw[if_pos hc]
   obtain⟨v,hv,ev,ev'⟩:=F8 ha hc
   rw[ev']
   cases ht:CE v with
   |true=>exact⟨b,true,DD hb,SI h12 hk hc hv ev ht⟩
   |false=>exact⟨c,true,DD hcf,R8 h12 hk hc hv ev ht⟩
  ·rw[if_neg hc]
   exact⟨DA,false,Fk,XO h12 hl3 (by rw[hk];simp) (by rw[hk];simp[hc])⟩
 by_cases h10:p.d.op=10
 ·obtain⟨a,hk,ha⟩:=a3o h (by rw[h10];rfl)
  have hT:CS p.d.op p.d.num p.d.val (ctL p.kids)=if a.d.op=17 then some (AH (AY [])) else if a.d.op=2 then ET (Co (AY [vOf a.ct.val])) else none:=by
   rw[hk,ctL,ctL,h10]
   unfold CS
   dsimp only
   rw[Ga,if_pos rfl]
  rw[hT]
  by_cases hc:a.d.op=17
  ·rw[if_pos hc,←K4]
   exact⟨_,true,DD (KL LX),XL h10 hk hc⟩
  ·rw[if_neg hc]
   by_cases hc2:a.d.op=2
   ·rw[if_pos hc2]
    obtain⟨v,hv,ev,ev'⟩:=F8 ha hc2
    rw[ev']
    exact⟨_,_,Fs (El (J7 fun x hx=>by rw[List.mem_singleton.1 hx];exact Cd hv)),b9 h10 hk hc2 hv ev⟩
   ·rw[if_neg hc2]
    exact⟨DA,false,Fk,XM h10 hk hc2 hc⟩
 ·exact⟨DA,false,by rw[d9 (by omega) (by omega) (by omega) (by omega) (by omega)];exact Fk,a4l (by omega) (by omega) (by omega) (by omega) (by omega)⟩
theorem VT {p:PT}(h:p.fine):∃q b,MK (GH p.d.op (ctL p.kids)) q b∧AC Tryz.prog 65 [p.av] [] (Iy (q,b)) []:=by
 by_cases h3:p.d.op=3
 ·obtain⟨a,b,hk,ha,hb⟩:=p9 h (by rw[h3];rfl)
  have hT:GH p.d.op (ctL p.kids)=if a.d.op=1 then some b.ct else if b.d.op=1 then some a.ct else if a.d.op=2∧b.d.op=2 then some b.ct else if a.d.op=2∧b.d.op=16 then ET (C8 b.d.num (vOf a.ct.val)) else none:=by
   rw[hk,ctL,ctL,ctL,h3]
   unfold GH
   dsimp only
   rw[if_pos rfl,Ga,Ga,a4b]
  rw[hT]
  by_cases c1:a.d.op=1
  ·rw[if_pos c1];exact⟨b,true,DD hb,a49 h3 hk c1⟩
  by_cases c2:b.d.op=1
  ·rw[if_neg c1,if_pos c2];exact⟨a,true,DD ha,a5a h3 hk c1 c2⟩
  rw[if_neg c1,if_neg c2]
  by_cases c3:a.d.op=2
  ·by_cases c4:b.d.op=2
   ·rw[if_pos ⟨c3,c4⟩];exact⟨b,true,DD hb,a5b h3 hk c1 c2 c3 c4⟩
   ·rw[if_neg (fun h=>c4 h.2)]
    by_cases c5:b.d.op=16
    ·rw[if_pos ⟨c3,c5⟩]
     obtain⟨v,hv,ev,ev'⟩:=F8 ha c3
     rw[ev']
     exact⟨_,_,Fs (Gm _ hv),YN h3 hk c3 c5 hv ev⟩
    ·rw[if_neg (fun h=>c5 h.2)]
     exact⟨DA,false,Fk,a5d h3 hk c1 c2 c3 c4 c5⟩
  ·rw[if_neg (fun h=>c3 h.1),if_neg (fun h=>c3 h.1)]
   exact⟨DA,false,Fk,a5c h3 hk c1 c2 c3⟩
 ·refine⟨DA,false,?_,a2z h3⟩
  have:GH p.d.op (ctL p.kids)=none:=by
   unfold GH
   split
   ·rw[if_neg h3]
   ·rfl
  rw[this]
  exact Fk
theorem Nw:Da.ct=Bo:=by unfold Da;rw[PT.ct,ctL];rfl
theorem QS:Da.fine:=by
 refine⟨by rw[Nw];exact SB,?_⟩
 unfold Da PT.zero MJ
 exact⟨fun _=>rfl,fun _=>rfl,fun _=>rfl,trivial⟩
theorem H5 {op:Int}{f:Bool}(h:(op==17)=f):MK (if op=17 then some Bo else none) Da f:=by
 cases f with
 |true=>rw[if_pos (by simpa using h),←Nw];exact DD QS
 |false=>rw[if_neg (by simpa using h)];exact .inr ⟨rfl,rfl⟩
theorem a48 {q:PT}(hq:q.fine) {op:Int}{f:Bool}(h:(op==17)=f):MK (if op=17 then some q.ct else none) q f:=by
 cases f with
 |true=>rw[if_pos (by simpa using h)];exact DD hq
 |false=>rw[if_neg (by simpa using h)];exact .inr ⟨rfl,rfl⟩
theorem Ux {p:PT}(h:p.fine):∃q b,MK (Ee p.d.op (ctL p.kids)) q b∧AC Tryz.prog 74 [p.av] [] (Iy (q,b)) []:=by
 have hop:=Ty (PT.fine_node h).kind.1 (PT.fine_node h).kind.2
 by_cases h0:p.d.op=1∨p.d.op=2∨p.d.op=15∨p.d.op=16∨p.d.op=17
 ·have hk:=a5p h (by rcases h0 with e | e | e | e | e<;>rw[e]<;>rfl)
  exact⟨DA,false,by rw[hk,ctL];exact Fk,Xz h0 hk⟩
 by_cases h1:p.d.op=8∨p.d.op=9∨p.d.op=10
 ·obtain⟨a,hk,ha⟩:=a3o h (by rcases h1 with e | e | e<;>rw[e]<;>rfl)
  by_cases e:p.d.op=10
  ·exact⟨DA,false,by rw[hk,ctL,ctL,e];exact Fk,a1z e hk rfl⟩
  ·have hT:Ee p.d.op (ctL p.kids)=if a.d.op=17 then some Bo else none:=by
    rw[hk,ctL,ctL]
    unfold Ee
    dsimp only
    rw[if_pos (by omega),Ga]
   exact⟨Da,_,by rw[hT];exact H5 rfl,ZP (by omega) hk rfl⟩
 by_cases h3:p.d.op=12∨p.d.op=13
 ·obtain⟨a,b,c,hk,ha,hb,hc⟩:=a3p h (by rcases h3 with e | e<;>rw[e]<;>rfl)
  rcases h3 with e | e
  ·exact⟨Da,_,by rw[hk,ctL,ctL,ctL,ctL,e];exact H5 (op:=a.ct.op) (by rw[Ga]),a10 e hk rfl rfl⟩
  ·exact⟨Da,_,by rw[hk,ctL,ctL,ctL,ctL,e];exact H5 (op:=b.ct.op) (by rw[Ga]),a11 e hk rfl rfl⟩
 have h2:p.d.op=3∨p.d.op=4∨p.d.op=5∨p.d.op=6∨p.d.op=7∨p.d.op=11∨p.d.op=14:=by omega
 obtain⟨a,b,hk,ha,hb⟩:=p9 h (by rcases h2 with e | e | e | e | e | e | e<;>rw[e]<;>rfl)
 by_cases e:p.d.op=6
 ·exact⟨Da,_,by rw[hk,ctL,ctL,ctL,e];exact H5 (op:=b.ct.op) (by rw[Ga]),a4c e hk rfl rfl⟩
 by_cases e:p.d.op=4
 ·have hT:Ee p.d.op (ctL p.kids)=if a.d.op=17 then some b.ct else if b.d.op=17 then some a.ct else none:=by
   rw[hk,ctL,ctL,ctL,e,←Ga,←Ga];rfl
  rw[hT]
  cases hf:a.d.op==17 with
  |true=>rw[if_pos (by simpa using hf)];exact⟨b,true,DD hb,Sq e hk hf rfl⟩
  |false=>rw[if_neg (by simpa using hf)];exact⟨a,_,a48 ha rfl,QK e hk hf rfl⟩
 by_cases e:p.d.op=5
 ·have hT:Ee p.d.op (ctL p.kids)=if a.d.op=17 then some b.ct else if a.d.op=2 then some (if CE (vOf a.ct.val) then a.ct else b.ct) else none:=by
   rw[hk,ctL,ctL,ctL,e,←Ga];rfl
  rw[hT]
  cases hf:a.d.op==17 with
  |true =>
   have h17:a.d.op=17:=by simpa using hf
   rw[if_pos h17];exact⟨b,true,DD hb,QL e hk hf rfl (by omega)⟩
  |false =>
   rw[if_neg (by simpa using hf)]
   by_cases c2:a.d.op=2
   ·rw[if_pos c2]
    obtain⟨v,hv,ev,ev'⟩:=F8 ha c2
    rw[ev']
    cases ht:CE v with
    |true=>exact⟨a,true,DD ha,Sr e hk hf rfl c2 hv ev ht⟩
    |false=>exact⟨b,true,DD hb,QM e hk hf rfl c2 hv ev ht⟩
   ·rw[if_neg c2]
    exact⟨b,false,.inr ⟨rfl,rfl⟩,Uy e hk hf rfl c2⟩
 have hT:Ee p.d.op (ctL p.kids)=if a.d.op=17 then some Bo else none:=by
  rw[hk,ctL,ctL,ctL]
  unfold Ee
  dsimp only
  rw[if_pos (by omega),Ga]
 exact⟨Da,_,by rw[hT];exact H5 rfl,ZQ (by omega) hk rfl rfl⟩
set_option maxRecDepth 10000
theorem Oa {op num:Int}{val:List CellD}(h:NodeOk op num val):val.length≤1000000:=by
 cases hv:BX op with
 |false=>rw[h.noVal hv];simp
 |true =>
  obtain⟨t,ht,rfl,_⟩:=h.hasVal hv
  rw[CY]
  have:=ht.2.1
  omega
def F4 (d:CoD) (ends:List Nat) (k j:Nat):Int:=if j<k then ((ends[j]?.getD 0:Nat):Int) else d.kid j
theorem FT {d:CoD}{ends:List Nat}{k j:Nat}(h:j≠k):F4 d ends (k+1) j=F4 d ends k j:=by
 unfold F4
 by_cases h1:j<k
 ·rw[if_pos h1,if_pos (by omega)]
 ·rw[if_neg h1,if_neg (by omega)]
theorem ZZ {d:CoD}{ends:List Nat}{k e:Nat}(h:ends[k]? = some e):F4 d ends (k+1) k=(e:Int):=by
 unfold F4
 rw[if_pos (by omega),h]
 rfl
theorem XK (d:CoD) (ends:List Nat):F4 d ends 0 0=d.a∧F4 d ends 0 1=d.b∧F4 d ends 0 2=d.c:=by
 unfold F4 CoD.kid
 simp
theorem YD {d:CoD}{kids:List PT}(h:(PT.mk d kids).zero) {ends:List Nat}(he:ends.length=kids.length) (hl:kids.length≤3) :
  B9 d.op d.num d.val ends=⟨d.op,F4 d ends kids.length 0,F4 d ends kids.length 1,F4 d ends kids.length 2,d.num,d.val⟩:=by
 rw[a0b h he hl]
 rfl
def Dj (L:List CoD) (kids:List PT) (k:Nat):List CoD:=L++B5 L.length (ctL (kids.take k))
theorem Nm (l:List PT) (k:Nat):ctL (l.take k)=(ctL l).take k:=by rw[GB,GB,List.map_take]
theorem KP {l:List PT}{k:Nat}(h:k<l.length):(ctL l)[k]'(by rw[FJ];exact h)=l[k].ct:=by
 have:(ctL l)[k]? = some l[k].ct:=by rw[GB,List.getElem?_map,List.getElem?_eq_getElem h];rfl
 exact (List.getElem?_eq_some_iff.1 this).2
theorem Ji (L:List CoD) (kids:List PT) (k:Nat):(Dj L kids k).length=L.length+Ah ((ctL kids).take k):=by
 unfold Dj
 rw[List.length_append,F3,Nm]
theorem Kf (L:List CoD) {kids:List PT}{k:Nat}(h:k<kids.length):Dj L kids k++kids[k].ct.flat (Dj L kids k).length=Dj L kids (k+1):=by
 rw[Ji]
 unfold Dj
 rw[List.append_assoc,Nm,Nm,List.take_succ_eq_append_getElem (by rw[FJ];exact h),HY,KP h,B5,B5,List.append_nil]
theorem r9 (L:List CoD) {kids:List PT}{k:Nat}(h:k<kids.length):(Az L.length (ctL kids))[k]? = some ((Dj L kids (k+1)).length-1):=by
 rw[F2 _ _ _ (by rw[FJ];exact h),KP h,Ji,D5 _ (by rw[FJ];exact h),KP h,Nat.add_assoc]
theorem a1x (d:CoD) (kids:List PT):(PT.mk d kids).ct.size=Ah (ctL kids)+1:=by rw[PT.ct,CT.size]
theorem UL (L:List CoD) (d:CoD) (kids:List PT):L++(PT.mk d kids).ct.flat L.length=Dj L kids kids.length++[B9 d.op d.num d.val (Az L.length (ctL kids))]:=by
 unfold Dj
 rw[PT.ct,CT.flat,List.take_length,List.append_assoc]
theorem Q3 : ∀ (n : Nat) (p : PT), p.ct.size ≤ n → p.fine → ∀ L : List CoD, L.length + p.ct.size ≤ 900000 → AC Tryz.prog 117 [p.av, .own (0, 0)] [((0, 0), .row true 6 87 (L.map CoD.os))] (.own (1, 0)) [((1, 0), .row true 6 87 ((L ++ p.ct.flat L.length).map CoD.os))]
  | 0, p, hn, _, _, _ => by have := p.ct.size_pos; omega
  | n + 1, .mk d kids, hn, h, L, hL => by
    have hl3 : kids.length ≤ 3 := PE h
    have hcl := ON d.val (Oa (PT.fine_node h))
    have hln : (kids.map PT.cs).length = kids.length := by simp
    have hsz := a1x d kids
    have hnode := YD h.2 (ends := Az L.length (ctL kids)) (by rw [Df, FJ]) hl3
    have hlast : (Dj L kids kids.length).map CoD.os ++ [[.int .i64 d.op, .int .i64 (F4 d (Az L.length (ctL kids)) kids.length 0), .int .i64 (F4 d (Az L.length (ctL kids)) kids.length 1), .int .i64 (F4 d (Az L.length (ctL kids)) kids.length 2), .int .i64 d.num, .osl (d.val.map CellD.cs)]] = (L ++ (PT.mk d kids).ct.flat L.length).map CoD.os := by
      have hfn : L ++ (PT.mk d kids).ct.flat L.length = Dj L kids kids.length ++ [B9 d.op d.num d.val (Az L.length (ctL kids))] := UL L d kids
      rw [hfn, hnode, List.map_append]
      rfl
    obtain ⟨z0, z1, z2⟩ := XK d (Az L.length (ctL kids))
    have hz0 : (Dj L kids 0).map CoD.os = L.map CoD.os := by unfold Dj; rw [List.take_zero, ctL, B5, List.append_nil]
    have hll : (Dj L kids kids.length).length + 1 ≤ 1000000 := by
      rw [Ji, List.take_of_length_le (by rw [FJ]; exact Nat.le_refl _)]
      omega
    show AC _ _ [.agg [.c (.int .i64 d.op), .c (.int .i64 d.a), .c (.int .i64 d.b), .c (.int .i64 d.c), .c (.int .i64 d.num), .c (.sl (d.val.map CellD.cs)), .c (.sl (kids.map PT.cs))], .own (0, 0)] _ _ _
    (refine AC.intro_spx [] DG Tryz.func117 rfl Tryz.ntmps117 (Nat.le_of_ble_eq_true rfl) rfl rfl ?_; simp only [go_sem, Nat.reduceAdd])
    refine Ab q9 ?_
    refine v12 (AU [] hcl) q9 hln ?_
    refine Ar (κ := Nat) (fun k => ⟨mkS 0 41 [(1, .own (99, 0)), (2, .ptr (2, 0) 0), (4, .nils), (5, .ptr (5, 0) 0), (15, .c (.sl (kids.map PT.cs))), (16, .c (.int .i64 kids.length)), (17, .c (.int .i64 k))],
        [((2, 0), .box [.c (.int .i64 d.op), .c (.int .i64 d.a), .c (.int .i64 d.b), .c (.int .i64 d.c), .c (.int .i64 d.num), .c (.sl (d.val.map CellD.cs)), .c (.sl (kids.map PT.cs))]),
         ((5, 0), .box [.c (.int .i64 d.op), .c (.int .i64 (F4 d (Az L.length (ctL kids)) k 0)), .c (.int .i64 (F4 d (Az L.length (ctL kids)) k 1)), .c (.int .i64 (F4 d (Az L.length (ctL kids)) k 2)), .c (.int .i64 d.num), .own (12, 0)]),
         ((12, 0), .row false 5 80 (d.val.map CellD.cs)), ((99, 0), .row true 6 87 ((Dj L kids k).map CoD.os))]⟩)
      (fun k => k ≤ kids.length) (fun k => kids.length - k) 0 (Nat.zero_le _) ?_ ?_
    · exact Ac (Aj.of [((2, 0), (2, 0)), ((5, 0), (5, 0)), ((12, 0), (12, 0)), ((99, 0), (0, 0))] []) (j4 z0 z1 z2 hz0)
    intro k hk
    by_cases hlt : k < kids.length
    · have hdk : decide ((k : Int) < (kids.length : Int)) = true := decide_eq_true (by omega)
      have hw := Ad (k := k) (by omega)
      obtain ⟨hr0, hg0⟩ := VU kids hlt
      have hkz : kids[k].ct.size ≤ Ah (ctL kids) := by
        rw [← KP hlt]
        exact Et (List.getElem_mem _)
      have hps : (Dj L kids k).length + kids[k].ct.size ≤ 900000 := by
        have h1 := D5 (ctL kids) (k := k) (by rw [FJ]; exact hlt)
        have h2 := Di (ctL kids) (k + 1)
        rw [KP hlt] at h1
        rw [Ji]
        omega
      have ih := Q3 n kids[k] (by omega) (PT.fine_kid h (by exact List.getElem_mem hlt)) (Dj L kids k) hps
      rw [Kf _ hlt] at ih
      have hsc := IG (Dj L kids (k + 1))
      have he : (Az L.length (ctL kids))[k]? = some ((Dj L kids (k + 1)).length - 1) := r9 L hlt
      have hpl : 1 ≤ (Dj L kids (k + 1)).length := by
        rw [← Kf _ hlt, List.length_append, CT.flat_len]
        have := kids[k].ct.size_pos
        omega
      have hpu : (Dj L kids (k + 1)).length ≤ 1000000 := by
        rw [← Kf _ hlt, List.length_append, CT.flat_len]
        omega
      have hwl : IntKind.i64.wrap (((Dj L kids (k + 1)).length : Int) - 1) = (((Dj L kids (k + 1)).length - 1 : Nat) : Int) := by rw [IntWalk.i64_in _ (by omega)]; omega
      have hnew := ZZ (d := d) he
      have h0k : (0 : Int) ≤ (k : Int) := by omega
      have hc3 : k = 0 ∨ k = 1 ∨ k = 2 := by omega
      unfold PT.av at ih
      generalize kids[k].d = e at *
      generalize kids[k].kids.map PT.cs = Pe at *
      clear hnode hlast hz0 hsz hps he hll z0 z1 z2
      rcases hc3 with hc | hc | hc
      · have hkt : ((k : Nat) : Int).toNat = 0 := by omega
        have q1 := FT (d := d) (ends := Az L.length (ctL kids)) (k := k) (j := 1) (by omega)
        have q2 := FT (d := d) (ends := Az L.length (ctL kids)) (k := k) (j := 2) (by omega)
        have qn : F4 d (Az L.length (ctL kids)) (k + 1) 0 = (((Dj L kids (k + 1)).length - 1 : Nat) : Int) := by
          have := hnew
          rwa [show F4 d (Az L.length (ctL kids)) (k + 1) k = F4 d (Az L.length (ctL kids)) (k + 1) 0 from by rw [hc]] at this
        clear hnew hc
        refine Ab (j3 hdk hr0 hg0) ?_
        refine v10 (MX (99, 0) ih) q9 q9 ?_
        ((with_reducible apply VJ); (iterate 9 (focus (first | (simp only [go_sem, Nat.reduceEqDiff, Nat.reduceAdd, Nat.reduceSub, Nat.reduceLeDiff, Nat.reduceMul, Nat.reduceBEq, Nat.reduceLT, Int.reduceToNat, reduceCtorEq]; first | done | exact rfl | (and_intros <;> rfl)) | exact rfl | decide))))
        refine Ab q9 ?_
        ((with_reducible apply Oc); (iterate 9 (focus (first | (simp only [go_sem, Nat.reduceEqDiff, Nat.reduceAdd, Nat.reduceSub, Nat.reduceLeDiff, Nat.reduceMul, Nat.reduceBEq, Nat.reduceLT, Int.reduceToNat, reduceCtorEq, h0k, hkt]; first | done | exact rfl | (and_intros <;> rfl)) | exact rfl | decide))))
        refine Ab hkt ?_
        refine v7 (A3 [(24, 0)] hsc) q9 (j2 hwl hw) ?_
        refine ⟨k + 1, by omega, by omega, ?_⟩
        exact Ac (Aj.of [((2, 0), (2, 0)), ((5, 0), (5, 0)), ((12, 0), (12, 0)), ((99, 0), (24, 0))] []) (j3 q1 q2 qn)
      · have hkt : ((k : Nat) : Int).toNat = 1 := by omega
        have q0 := FT (d := d) (ends := Az L.length (ctL kids)) (k := k) (j := 0) (by omega)
        have q2 := FT (d := d) (ends := Az L.length (ctL kids)) (k := k) (j := 2) (by omega)
        have qn : F4 d (Az L.length (ctL kids)) (k + 1) 1 = (((Dj L kids (k + 1)).length - 1 : Nat) : Int) := by
          have := hnew
          rwa [show F4 d (Az L.length (ctL kids)) (k + 1) k = F4 d (Az L.length (ctL kids)) (k + 1) 1 from by rw [hc]] at this
        clear hnew hc
        refine Ab (j3 hdk hr0 hg0) ?_
        refine v10 (MX (99, 0) ih) q9 q9 ?_
        ((with_reducible apply VJ); (iterate 9 (focus (first | (simp only [go_sem, Nat.reduceEqDiff, Nat.reduceAdd, Nat.reduceSub, Nat.reduceLeDiff, Nat.reduceMul, Nat.reduceBEq, Nat.reduceLT, Int.reduceToNat, reduceCtorEq]; first | done | exact rfl | (and_intros <;> rfl)) | exact rfl | decide))))
        refine Ab q9 ?_
        ((with_reducible apply Oc); (iterate 9 (focus (first | (simp only [go_sem, Nat.reduceEqDiff, Nat.reduceAdd, Nat.reduceSub, Nat.reduceLeDiff, Nat.reduceMul, Nat.reduceBEq, Nat.reduceLT, Int.reduceToNat, reduceCtorEq, h0k, hkt]; first | done | exact rfl | (and_intros <;> rfl)) | exact rfl | decide))))
        refine Ab hkt ?_
        refine v7 (A3 [(24, 0)] hsc) q9 (j2 hwl hw) ?_
        refine ⟨k + 1, by omega, by omega, ?_⟩
        exact Ac (Aj.of [((2, 0), (2, 0)), ((5, 0), (5, 0)), ((12, 0), (12, 0)), ((99, 0), (24, 0))] []) (j3 q0 q2 qn)
      · have hkt : ((k : Nat) : Int).toNat = 2 := by omega
        have q0 := FT (d := d) (ends := Az L.length (ctL kids)) (k := k) (j := 0) (by omega)
        have q1 := FT (d := d) (ends := Az L.length (ctL kids)) (k := k) (j := 1) (by omega)
        have qn : F4 d (Az L.length (ctL kids)) (k + 1) 2 = (((Dj L kids (k + 1)).length - 1 : Nat) : Int) := by
          have := hnew
          rwa [show F4 d (Az L.length (ctL kids)) (k + 1) k = F4 d (Az L.length (ctL kids)) (k + 1) 2 from by rw [hc]] at this
        clear hnew hc
        refine Ab (j3 hdk hr0 hg0) ?_
        refine v10 (MX (99, 0) ih) q9 q9 ?_
        ((with_reducible apply VJ); (iterate 9 (focus (first | (simp only [go_sem, Nat.reduceEqDiff, Nat.reduceAdd, Nat.reduceSub, Nat.reduceLeDiff, Nat.reduceMul, Nat.reduceBEq, Nat.reduceLT, Int.reduceToNat, reduceCtorEq]; first | done | exact rfl | (and_intros <;> rfl)) | exact rfl | decide))))
        refine Ab q9 ?_
        ((with_reducible apply Oc); (iterate 9 (focus (first | (simp only [go_sem, Nat.reduceEqDiff, Nat.reduceAdd, Nat.reduceSub, Nat.reduceLeDiff, Nat.reduceMul, Nat.reduceBEq, Nat.reduceLT, Int.reduceToNat, reduceCtorEq, h0k, hkt]; first | done | exact rfl | (and_intros <;> rfl)) | exact rfl | decide))))
        refine Ab hkt ?_
        refine v7 (A3 [(24, 0)] hsc) q9 (j2 hwl hw) ?_
        refine ⟨k + 1, by omega, by omega, ?_⟩
        exact Ac (Aj.of [((2, 0), (2, 0)), ((5, 0), (5, 0)), ((12, 0), (12, 0)), ((99, 0), (24, 0))] []) (j3 q0 q1 qn)
    · have hdk : decide ((k : Int) < (kids.length : Int)) = false := decide_eq_false (by omega)
      have hke : k = kids.length := by omega
      subst hke
      refine Ab (j2 hdk hll) ?_
      exact Aa (A9 [((1, 0), (40, 0))] []) Tryz.results117 hlast
theorem AC.of_nil {P:Program}{f:FuncId}{args args':List AV}{ex:Bool}{es:Nat}{e:TypeId}{res:AV}{m':Mem}(h:AC P f args [((0,0),.row ex es e [])] res m')
  (ha:∀(w:World) (S:Nat→Prop) (κ κ':Id→Value) (vs:List Value),κ' (0,0)=.slice none 0 0→ARs w S [] κ args' vs→ARs w S [((0,0),.row ex es e [])] κ' args vs):AC P f args' [] res m':=by
 intro Γ vals hE hA
 let κ':Id→Value:=fun i=>if i=(0,0) then .slice none 0 0 else Γ.κ i
 have hk:κ' (0,0)=.slice none 0 0:=if_pos rfl
 have hE':Entry { Γ with κ:=κ',ext:=[(0,0)] } [((0,0),.row ex es e [])]:=by
  refine⟨fun i o hi=>?_,fun b i hb=>?_,rfl⟩
  ·by_cases h0:i=(0,0)
   ·subst h0
    have:o=.row ex es e []:=(Option.some.inj hi).symm
    subst this
    refine⟨[],[],⟨rfl,rfl⟩,fun _=>rfl,by simp,?_,?_,?_⟩
    ·show World.ownsRow _ _ _ _ (κ' (0,0)) _ _
     rw[hk]
     exact World.ownsRow_nil _ _ _ _
    ·show ((κ' (0,0)).ownBlock.toList++[]).Nodup
     rw[hk]
     simp[Value.ownBlock]
    ·intro b hb
     have hb':b∈(κ' (0,0)).ownBlock.toList++[]:=hb
     rw[hk]at hb'
     simp[Value.ownBlock]at hb'
   ·have hb:(i==(0,0))=false:=by simpa using h0
    simp[Mem.get,List.lookup_cons,hb]at hi
  ·obtain⟨_,o,h1,_⟩:=hE.own b i hb
   simp[Mem.get]at h1
 refine (h _ vals hE' (ha _ _ _ _ _ hk hA)).mono ?_
 rintro e1 w' ⟨v,ow,κ,rfl,hx⟩
 exact⟨v,ow,κ,rfl,hx.res,hx.objs,hx.own,hx.os,hx.tape,hx.output,hx.size,hx.frame,fun i o o' hi=>by simp[Mem.get]at hi⟩
theorem YE (n:Nat) (p:PT) (hn:p.ct.size≤n) (hf:p.fine) (hs:p.ct.size≤900000):AC Tryz.prog 117 [p.av,.nils] [] (.own (0,0)) [((0,0),.row true 6 87 (([]++p.ct.flat 0).map CoD.os))]:=by
 have h:=AC.of_nil (args':=[p.av,.nils]) (Q3 n p hn hf [] (by simpa using hs)) fun w S κ κ' vs hk hv=>by
  obtain⟨v,vs',rfl,⟨us,h1,h2,h3⟩,u,us',rfl,h4,h5⟩:=hv
  exact⟨v,_,rfl,⟨us,h1,ARs.of_CRs (ARs.data (cs:=[_,_,_,_,_,_,_]) h2),h3⟩,u,us',rfl,⟨by rw[show u=.slice none 0 0 from h4];rfl,_,rfl,fun _=>by rw[hk];exact h4⟩,h5⟩
 exact wAS (AC.says [((0,0),(1,0))] [] h ) q9
end Go.Proofs.YtcejfdfmgmcinaaGreat
