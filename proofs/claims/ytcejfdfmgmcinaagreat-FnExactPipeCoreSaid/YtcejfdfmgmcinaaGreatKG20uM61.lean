/- Texts of this proof: G20 G21 G22 M13 G35 G40 M61. -/
import Derived.Test.YtcejfdfmgmcinaaGreatKM2
import Derived.Test.YtcejfdfmgmcinaaGreatKG10uG33
set_option linter.all false
set_option maxHeartbeats 8000000
namespace Go.Proofs.YtcejfdfmgmcinaaGreat
open Go.RowKit
def Dq (c:Int) (t:V):AV:=.agg [.c (.int .i64 c),.c (.int .i64 t.kind),.c (.int .i64 t.num),.c (.str t.text),.c (.sl (t.keys.map Ad)),.c (.sl (t.kids.map V.cs))]
def FM (r:Int×Option V):AV:=match r.2 with
 |some t=>Dq 0 t
 |none=>Dq r.1 BG
theorem i6 (c:Int) (t:V):Dq c t=.agg [.c (.int .i64 c),.c (.int .i64 t.kind),.c (.int .i64 t.num),.c (.str t.text),.c (.sl (t.keys.map Ad)),.c (.sl (t.kids.map V.cs))]:=rfl
theorem KG (c:Int):Dq c BG=.agg [.c (.int .i64 c),.c (.int .i64 0),.c (.int .i64 0),.c (.str ByteArray.empty),.c (.sl []),.c (.sl [])]:=rfl
theorem Vn (t:V):FM (okR t)=Dq 0 t:=rfl
theorem Z1 (c:Int):FM (Ek c)=Dq c BG:=rfl
theorem YK:BG.av=.agg [.c (.int .i64 0),.c (.int .i64 0),.c (.str ByteArray.empty),.c (.sl []),.c (.sl [])]:=rfl
attribute [go_sem] i6
set_option maxRecDepth 10000
theorem b9:AC Tryz.prog 251 [] [] BG.av []:=by
 rw[YK]
 refine A7 Tryz.func251 Tryz.ntmps251 q9 ?_
 exact Aj (A5 []) Tryz.results251
theorem D2 (c:Int):AC Tryz.prog 199 [.c (.int .i64 c)] [] (Dq c BG) []:=by
 rw[KG]
 refine A7 Tryz.func199 Tryz.ntmps199 q9 ?_
 exact Aj (A5 []) Tryz.results199
theorem QT:∀(m:Nat) (t:V),t.count≤m→t.count≤500000→AC Tryz.prog 279 [t.av] [] (.c (.int .i64 t.count)) []:=by
 intro m
 induction m with
 |zero=>intro t hm _;have:=Cq t;omega
 |succ m ih =>
  intro t hm hM
  have hkc:=AN t
  have hkl:=Bq t.kids
  obtain⟨R,hR⟩:∃R:Nat→Nat,∀k,R k=1+Am (t.kids.take k):=⟨_,fun _=>rfl⟩
  have h0:R 0=1:=by rw[hR];simp[Am]
  refine A7 Tryz.func279 Tryz.ntmps279 q9 ?_
  refine Ar (κ:=Nat) (fun k=>⟨mkS 0 19 [(1,.ptr (1,0) 0),(3,.c (.int .i64 (R k))),(7,.c (.sl (t.kids.map V.cs))),(8,.c (.int .i64 t.kids.length)),(9,.c (.int .i64 k))],
    [((1,0),.box [.c (.int .i64 t.kind),.c (.int .i64 t.num),.c (.str t.text),.c (.sl (t.keys.map Ad)),.c (.sl (t.kids.map V.cs))])]⟩)
   (fun k=>k≤t.kids.length) (fun k=>t.kids.length-k) 0 (Nat.zero_le _) ?_ ?_
  ·exact Ab (Ah.of [((1,0),(1,0))] []) h0
  ·intro k hk
   by_cases hlt:k<t.kids.length
   ·have hd:decide ((k:Int)<(t.kids.length:Int))=true:=by simpa using hlt
    have hr:Aa (t.kids.map V.cs) 5 k=true:=by simp[Aa,hlt,V.cs_eq]
    have hg:(t.kids.map V.cs)[k]? = some t.kids[k].cs:=by simp[hlt]
    have hmem:=Ct (List.getElem_mem hlt)
    have hRk:R (k+1)=R k+t.kids[k].count:=by rw[hR,hR,List.take_succ_eq_append_getElem hlt,HI];omega
    have hRl:R (k+1)≤t.count:=by rw[hR];have:=E6 t.kids (k+1);omega
    have hw:=Af (k:=k) (by omega)
    generalize t.kids[k]=u at *
    have hi:=ih u (by omega) (by omega)
    have hs:IntKind.i64.wrap ((R k:Int)+(u.count:Int))=((R (k+1):Nat):Int):=by rw[IntWalk.i64_in _ (by omega)];omega
    refine Ac (j3 hd hr hg) ?_
    refine v7 (A3 [] hi) q9 (j2 hs hw) ?_
    refine⟨k+1,by omega,by omega,?_⟩
    exact Ab (Ah.of [((1,0),(1,0))] []) hs
   ·have hd:decide ((k:Int)<(t.kids.length:Int))=false:=by simpa using hlt
    have hke:R k=t.count:=by rw[hR,List.take_of_length_le (by omega)];omega
    refine Ac hd ?_
    exact A5 [] (by simp only[Tryz.results279,go_sem,Nat.reduceBEq,Nat.reduceLT];exact rfl) (by simp only[go_sem,Nat.reduceEqDiff,Nat.reduceAdd,Nat.reduceSub,Nat.reduceLeDiff,Nat.reduceMul,Nat.reduceBEq,Nat.reduceLT,Int.reduceToNat,reduceCtorEq,hke]) rfl
theorem EQ {s:ByteArray}(h:Br s=true):s.size≤60:=by
 unfold Br at h
 simp only[Bool.and_eq_true,decide_eq_true_eq]at h
 exact h.1
theorem Sd {t:V}(h:t.right):E2 t.enc:=by
 intro c hc
 have h1:=EL t ByteArray.empty h.1 Bm c hc
 have h2:=Ih h1
 exact⟨by have:=EQ h2.1;omega,by have:=EQ h2.2;omega⟩
theorem XI {t:V}(h:t.right):AC Tryz.prog 206 [t.av] [] (.c (.int .i64 0)) []:=by
 have hc:=h.2.1
 have h1:=QT t.count t (Nat.le_refl _) (by omega)
 have h2:=LY t.count t (Nat.le_refl _) (by omega) (Jv h)
 have h3:=Km t.enc (Sd h) (t:=t) (by rw[Ix h])
 have hd:decide ((t.count:Int)>200)=false:=by simp;omega
 refine A7 Tryz.func206 Tryz.ntmps206 q9 ?_
 refine v7 (A3 [] h1) q9 hd ?_
 refine w12 (AU [] h2) q9 ?_
 refine v9 (A4 [(10,0)] h3) q9 q9 ?_
 exact Aj (A5 []) Tryz.results206
theorem D8 {t:V}(h:t.right):AC Tryz.prog 126 [t.av] [] (Dq 0 t) []:=by
 have h1:=XI h
 have h0:((0:Int) != 0)=false:=rfl
 refine A7 Tryz.func126 Tryz.ntmps126 q9 ?_
 refine v7 (A3 [] h1) q9 h0 ?_
 exact Aj (A5 []) Tryz.results126
set_option maxRecDepth 10000
def E4 (ks:List ByteArray) (key:ByteArray):Nat:=ks.findIdx fun k=>!Bh k key
theorem QL (ks:List ByteArray) (key:ByteArray):E4 ks key≤ks.length:=List.findIdx_le_length
theorem VN {ks:List ByteArray}{key:ByteArray}{t:Nat}(h:t<E4 ks key):Bh (ks[t]'(by have:=QL ks key;omega)) key=true:=by
 have:=List.not_of_lt_findIdx h
 simpa using this
def CQ (ks:List ByteArray) (key:ByteArray):Bool:=if h:E4 ks key<ks.length then ks[E4 ks key].toList==key.toList else false
set_option maxRecDepth 10000
theorem Fl (n lo hi:Int):AC Tryz.prog 72 [.c (.int .i64 n),.c (.int .i64 lo),.c (.int .i64 hi)] [] (.c (.bool (decide (n≥lo)&&decide (n≤hi)))) []:=by
 cases h1:decide (n≥lo)<;>cases h2:decide (n≤hi)
 all_goals
  refine A7 Tryz.func72 Tryz.ntmps72 (j2 h1 h2) ?_
  exact Aj (A5 []) Tryz.results72
theorem Nb {t:V}(h:t.right):(⟨t.kind,t.num,t.text,ByteArray.empty,t.kids.length⟩:CellD).code=0:=by
 refine EL t ByteArray.empty h.1 Bm _ ?_
 rw[CS]
 simp
theorem DD {t:V}(h:t.right):-1000000000000000≤t.num∧t.num≤1000000000000000:=by
 have hc:=Nb h
 unfold CellD.code AP at hc
 have hr:cR t.num (t.kids.length:Int)=false:=by
  cases hh:cR t.num (t.kids.length:Int)
  ·rfl
  ·simp only[hh]at hc
   split at hc
   ·omega
   ·split at hc
    ·omega
    ·simp at hc
 simp[cR,inB]at hr
 omega
theorem Ey {t:V}(h:t.right):Br t.text=true:=(Ih (Nb h)).1
theorem Cf (c:Int) (t:V):FM (c,some t)=Dq 0 t:=rfl
theorem Ce (c:Int):FM (c,none)=Dq c BG:=rfl
structure InD where
 op:Int
 arg:Int
 val:List CellD
def BO (n lo hi:Int):Bool:=decide (n≥lo)&&decide (n≤hi)
set_option maxRecDepth 10000
def InD.cs (d:InD):List C:=[.int .i64 d.op,.int .i64 d.arg,.sl (d.val.map CellD.cs)]
def InD.av (d:InD):AV:=.agg [.c (.int .i64 d.op),.c (.int .i64 d.arg),.c (.sl (d.val.map CellD.cs))]
attribute [go_sem] InD.av
set_option maxRecDepth 10000
def InD.os (d:InD):List C:=[.int .i64 d.op,.int .i64 d.arg,.osl (d.val.map CellD.cs)]
theorem Ta (l:List InD):AQ (l.map InD.os)=l.map InD.cs:=by
 induction l with
 |nil=>rfl
 |cons d l ih=>simp only[List.map_cons,AQ,ih,InD.os,InD.cs,Cb,C.forget,Dy]
theorem ST (l:List InD):Bn (l.map InD.os)=true:=by
 induction l with
 |nil=>rfl
 |cons d l ih=>simp only[List.map_cons,Bn,ih,Bool.and_true,InD.os,ED,C.closed,Dx]
theorem Zy (l:List InD):((l.map InD.os).all fun r=>r.length==3)=true:=by simp[InD.os]
attribute [go_sem] Ta ST Zy
theorem S8 (l:List CellD):G4 (l.map CellD.cs)=true:=by
 induction l with
 |nil=>rfl
 |cons c l ih=>simp only[List.map_cons,G4,ih,Bool.and_true,CellD.cs,Gg,C.plain,Bool.and_self]
structure CoD where
 op:Int
 a:Int
 b:Int
 c:Int
 num:Int
 val:List CellD
def An (op:Int):Nat :=
 if op=3∨op=4∨op=5∨op=6∨op=7∨op=11∨op=14 then 2 else if op=8∨op=9∨op=10 then 1 else if op=12∨op=13 then 3 else 0
theorem Bl (op:Int):An op≤3:=by unfold An;split<;>(try split)<;>(try split)<;>omega
def CoD.all (d:CoD):List Int:=[d.a,d.b,d.c]
def CoD.named (d:CoD):List Int:=d.all.take (An d.op)
theorem CoD.named_len (d:CoD):d.named.length=An d.op:=by
 unfold CoD.named CoD.all
 rw[List.length_take]
 have:=Bl d.op
 simp
 omega
def BQ (op:Int):Bool:=op==2||op==11
def Eb (op:Int):Bool:=op==6||op==13||op==14||op==15||op==16
def EW (d:CoD):Bool:=if d.op=6 then BO d.num 1 11 else if d.op=13∨d.op=14∨d.op=15 then BO d.num 0 59 else if d.op=16 then BO d.num 1 8 else true
def CU (ar i:Int) (k:Nat) (x:Int):Bool:=if (k:Int)<ar then BO x 0 (i-1) else x==0
def D7 (d:CoD) (i:Int):Bool:=CU (An d.op) i 0 d.a&&CU (An d.op) i 1 d.b&&CU (An d.op) i 2 d.c
def Fy (d:CoD) (i:Int):Bool:=D7 d i&&(Eb d.op||d.num==0)&&(BQ d.op||d.val.length==0)
def Ej (d:CoD):Int:=match (dec d.val).2 with
 |some t=>t.kind
 |none=>4
def CJ (d:CoD) (i:Int):Int :=
 if BO d.op 1 17=false then 6 else if Fy d i=false then 1 else if BQ d.op&&((dec d.val).1 != 0) then (dec d.val).1 else if d.op==11&&(Ej d != 4) then 6 else if EW d then 0 else 3
def Cw (i:Nat):List CoD→Int
 | []=>0
 |d::r=>if CJ d i=0 then Cw (i+1) r else CJ d i
theorem JO (l:List CoD) {k:Nat}(h:k<l.length):Cw k (l.drop k)=if CJ l[k] k=0 then Cw (k+1) (l.drop (k+1)) else CJ l[k] k:=by
 rw[List.drop_eq_getElem_cons h]
 rfl
theorem FX:∀(l:List CoD) (i:Nat),Cw i l=0→∀(k:Nat) (h:k<l.length),CJ l[k] ((i+k:Nat):Int)=0
 | [],_,_,k,h=>absurd h (by simp)
 |d::r,i,hh,k,h=>by
  unfold Cw at hh
  split at hh
  ·rename_i h0
   cases k with
   |zero=>simpa using h0
   |succ k =>
    have:=FX r (i+1) hh k (by simpa using h)
    have e:i+1+k=i+(k+1):=by omega
    rw[e]at this
    simpa using this
  ·rename_i h0
   exact absurd hh h0
structure CoOk (d:CoD) (i:Nat):Prop where
 op:1≤d.op∧d.op≤17
 fields:D7 d i=true
 num:Eb d.op=true∨d.num=0
 noVal:BQ d.op=false→d.val=[]
 val:BQ d.op=true→∃t:V,t.right∧d.val=t.enc∧(d.op=11→t.kind=4)
 numOk:EW d=true
theorem HF {d:CoD}{i:Nat}(h:CJ d i=0):CoOk d i:=by
 unfold CJ at h
 split at h
 ·exact absurd h (by decide)
 ·rename_i h1
  split at h
  ·exact absurd h (by decide)
  ·rename_i h2
   have hb:BO d.op 1 17=true:=by simpa using h1
   have hf:Fy d i=true:=by simpa using h2
   unfold BO at hb
   simp at hb
   unfold Fy at hf
   simp only[Bool.and_eq_true,Bool.or_eq_true,beq_iff_eq]at hf
   obtain⟨⟨f1,f2⟩,f3⟩:=hf
   split at h
   ·rename_i h3
    simp at h3
    exact absurd h h3.2
   ·rename_i h3
    split at h
    ·exact absurd h (by decide)
    ·rename_i h4
     split at h
     ·rename_i h5
      refine⟨⟨hb.1,hb.2⟩,f1,f2,fun hv=>?_,fun hv=>?_,h5⟩
      ·rcases f3 with f3 | f3
       ·rw[hv]at f3;cases f3
       ·exact List.eq_nil_of_length_eq_zero f3
      ·have h0:(dec d.val).1=0:=by
        simp[hv]at h3
        exact h3
       rcases Gu d.val with⟨t,ht⟩ | ⟨c,hc,ht⟩
       ·obtain⟨e1,w1,w2,w3⟩:=SX ht
        refine⟨t,⟨w1,w2,w3⟩,e1,fun h11=>?_⟩
        have hk:Ej d=t.kind:=by unfold Ej;rw[ht]
        rw[hk]at h4
        simp[h11]at h4
        exact h4
       ·rw[ht]at h0;exact absurd h0 hc
     ·exact absurd h (by decide)
theorem CoOk.ahead {d:CoD}{i:Nat}(h:CoOk d i):∀x∈d.named,0≤x∧x<(i:Int):=by
 have hf:=h.fields
 unfold D7 CU at hf
 simp only[Bool.and_eq_true]at hf
 obtain⟨⟨f1,f2⟩,f3⟩:=hf
 have hal:=Bl d.op
 have bt:∀x:Int,BO x 0 ((i:Int)-1)=true→0≤x∧x<(i:Int):=fun x hx=>by
  unfold BO at hx
  simp at hx
  omega
 intro x hx
 unfold CoD.named CoD.all at hx
 have hc:An d.op=0∨An d.op=1∨An d.op=2∨An d.op=3:=by omega
 rcases hc with e | e | e | e<;>rw[e]at hx f1 f2 f3
 ·simp at hx
 ·simp at hx f1
  subst hx
  exact bt _ f1
 ·simp at hx f1 f2
  rcases hx with rfl | rfl
  ·exact bt _ f1
  ·exact bt _ f2
 ·simp at hx f1 f2 f3
  rcases hx with rfl | rfl | rfl
  ·exact bt _ f1
  ·exact bt _ f2
  ·exact bt _ f3
theorem CoOk.zeros {d:CoD}{i:Nat}(h:CoOk d i):(An d.op<1→d.a=0)∧(An d.op<2→d.b=0)∧(An d.op<3→d.c=0):=by
 have hf:=h.fields
 unfold D7 CU at hf
 simp only[Bool.and_eq_true]at hf
 obtain⟨⟨f1,f2⟩,f3⟩:=hf
 refine⟨fun e=>?_,fun e=>?_,fun e=>?_⟩
 ·rw[if_neg (by omega)]at f1;simpa using f1
 ·rw[if_neg (by omega)]at f2;simpa using f2
 ·rw[if_neg (by omega)]at f3;simpa using f3
def BL (f:Nat→Int):List Int→Int→Int
 | [],b=>b
 |o::r,b=>if o≠b-1 then -1 else if f o.toNat<0 then -1 else BL f r (f o.toNat)
def BN (L:List CoD):Nat→Nat→Int
 | 0,_=>-1
 |n+1,i=>match L[i]? with
  |some d=>BL (BN L n) d.named.reverse i
  |none=>-1
inductive CT where
 |mk (op num:Int) (val:List CellD) (kids:List CT)
def CT.op:CT→Int | .mk op _ _ _=>op
def CT.num:CT→Int | .mk _ num _ _=>num
def CT.val:CT→List CellD | .mk _ _ val _=>val
def CT.kids:CT→List CT | .mk _ _ _ kids=>kids
def B3 (op num:Int) (val:List CellD) (ends:List Nat):CoD:=⟨op,(ends[0]?.getD 0:Nat),(ends[1]?.getD 0:Nat),(ends[2]?.getD 0:Nat),num,val⟩
mutual
def CT.flat (b:Nat):CT→List CoD
 | .mk op num val kids=>AZ b kids++[B3 op num val (Au b kids)]
def AZ (b:Nat):List CT→List CoD
 | []=>[]
 |t::r=>t.flat b++AZ (b+t.size) r
def CT.size:CT→Nat
 | .mk _ _ _ kids=>Ae kids+1
def Ae:List CT→Nat
 | []=>0
 |t::r=>t.size+Ae r
def Au (b:Nat):List CT→List Nat
 | []=>[]
 |t::r=>(b+t.size-1)::Au (b+t.size) r
end
mutual
theorem CT.flat_len:∀(t:CT) (b:Nat),(t.flat b).length=t.size
 | .mk op num val kids,b=>by
  rw[CT.flat,List.length_append,Ep kids b,CT.size]
  rfl
theorem Ep:∀(l:List CT) (b:Nat),(AZ b l).length=Ae l
 | [],b=>by rw[AZ,Ae];rfl
 |t::r,b=>by rw[AZ,List.length_append,CT.flat_len t b,Ep r,Ae]
end
theorem CT.size_pos (t:CT):1≤t.size:=by
 cases t
 rw[CT.size]
 omega
theorem CL:∀(l:List CT) (b:Nat),(Au b l).length=l.length
 | [],b=>by rw[Au];rfl
 |t::r,b=>by rw[Au,List.length_cons,CL r,List.length_cons]
structure NodeOk (op num:Int) (val:List CellD):Prop where
 kind:1≤op∧op≤17
 hasNum:Eb op=true∨num=0
 noVal:BQ op=false→val=[]
 hasVal:BQ op=true→∃t:V,t.right∧val=t.enc∧(op=11→t.kind=4)
 numOk:EW ⟨op,0,0,0,num,val⟩=true
theorem CoOk.node {d:CoD}{i:Nat}(h:CoOk d i):NodeOk d.op d.num d.val:=⟨h.op,h.num,h.noVal,h.val,h.numOk⟩
mutual
def CT.ok:CT→Prop
 | .mk op num val kids=>NodeOk op num val∧kids.length=An op∧F7 kids
def F7:List CT→Prop
 | []=>True
 |t::r=>t.ok∧F7 r
end
theorem AY:∀{l:List CT},F7 l↔∀t∈l,t.ok
 | []=>by unfold F7;simp
 |t::r=>by unfold F7;rw[AY];simp
theorem Hc:∀(l r:List CT),Ae (l++r)=Ae l+Ae r
 | [],r=>by rw[List.nil_append,Ae];omega
 |t::l,r=>by rw[List.cons_append,Ae,Hc l r,Ae];omega
theorem GW:∀(l r:List CT) (b:Nat),AZ b (l++r)=AZ b l++AZ (b+Ae l) r
 | [],r,b=>by rw[List.nil_append,AZ,Ae];rfl
 |t::l,r,b=>by rw[List.cons_append,AZ,GW l r,AZ,Ae,List.append_assoc,Nat.add_assoc]
theorem Ku:∀(l r:List CT) (b:Nat),Au b (l++r)=Au b l++Au (b+Ae l) r
 | [],r,b=>by rw[List.nil_append,Au,Ae];rfl
 |t::l,r,b=>by rw[List.cons_append,Au,Ku l r,Au,Ae,List.cons_append,Nat.add_assoc]
def Seg (L:List CoD) (b:Nat) (t:CT):Prop:=∃R,L.drop b=t.flat b++R
def NA (L:List CoD) (b:Nat) (l:List CT):Prop:=∃R,L.drop b=AZ b l++R
theorem Seg.kids {L:List CoD}{b:Nat}{op num:Int}{val:List CellD}{kids:List CT}(h:Seg L b (.mk op num val kids)):NA L b kids:=by
 obtain⟨R,h⟩:=h
 exact⟨[B3 op num val (Au b kids)]++R,by rw[h,CT.flat,List.append_assoc]⟩
theorem NA.head {L:List CoD}{b:Nat}{t:CT}{r:List CT}(h:NA L b (t::r)):Seg L b t:=by
 obtain⟨R,h⟩:=h
 exact⟨AZ (b+t.size) r++R,by rw[h,AZ,List.append_assoc]⟩
theorem NA.tail {L:List CoD}{b:Nat}{t:CT}{r:List CT}(h:NA L b (t::r)):NA L (b+t.size) r:=by
 obtain⟨R,h⟩:=h
 refine⟨R,?_⟩
 rw[←List.drop_drop,h,AZ,List.append_assoc,←t.flat_len b,List.drop_left]
theorem Seg.root {L:List CoD}{b:Nat}{op num:Int}{val:List CellD}{kids:List CT}(h:Seg L b (.mk op num val kids)):L[b+Ae kids]? = some (B3 op num val (Au b kids)):=by
 obtain⟨R,h⟩:=h
 have h1:(L.drop b)[Ae kids]? = some (B3 op num val (Au b kids)):=by
  rw[h,CT.flat,List.append_assoc,List.getElem?_append_right (by rw[Ep];exact Nat.le_refl _),Ep,Nat.sub_self]
  rfl
 rw[List.getElem?_drop]at h1
 exact h1
theorem Seg.size {L:List CoD}{b:Nat}{t:CT}(h:Seg L b t):b+t.size≤L.length:=by
 obtain⟨R,h⟩:=h
 have h1:=congrArg List.length h
 rw[List.length_drop,List.length_append,CT.flat_len]at h1
 have:=t.size_pos
 omega
theorem G1 {op num:Int}{val:List CellD}{ends:List Nat}(h:ends.length=An op):(B3 op num val ends).named=ends.map fun (x:Nat)=>(x:Int):=by
 have hal:=Bl op
 unfold CoD.named CoD.all B3
 show List.take (An op) _=_
 rw[←h]
 rw[←h]at hal
 match ends,hal with
 | [],_=>rfl
 | [a],_=>rfl
 | [a,b],_=>rfl
 | [a,b,c],_=>rfl
 |a::b::c::e::r,h=>simp at h
theorem ZZ {d:CoD}{i:Nat}(h:CoOk d i) {ends:List Nat}(he:d.named=ends.map fun (x:Nat)=>(x:Int)):d=B3 d.op d.num d.val ends:=by
 obtain⟨z1,z2,z3⟩:=h.zeros
 have hal:=Bl d.op
 have hl:=d.named_len
 unfold CoD.named CoD.all at he
 unfold B3
 have hc:An d.op=0∨An d.op=1∨An d.op=2∨An d.op=3:=by omega
 obtain⟨op,a,b,c,num,val⟩:=d
 dsimp only at *
 rcases hc with e | e | e | e<;>rw[e]at he hl z1 z2 z3
 ·have:=z1 (by omega);have:=z2 (by omega);have:=z3 (by omega);subst_vars
  simp at he
  subst he
  rfl
 ·have:=z2 (by omega);have:=z3 (by omega);subst_vars
  match ends,he with
  | [x],he=>simp at he;subst he;rfl
  | [],he=>simp at he
  |x::y::r,he=>simp at he
 ·have:=z3 (by omega);subst_vars
  match ends,he with
  | [x,y],he=>simp at he;obtain⟨rfl,rfl⟩:=he;rfl
  | [],he=>simp at he
  | [x],he=>simp at he
  |x::y::z::r,he=>simp at he
 ·match ends,he with
  | [x,y,z],he=>simp at he;obtain⟨rfl,rfl,rfl⟩:=he;rfl
  | [],he=>simp at he
  | [x],he=>simp at he
  | [x,y],he=>simp at he
  |x::y::z::w::r,he=>simp at he
theorem SC {L:List CoD}{f:Nat→Int}(hf:∀(o:Nat),0≤f o→∃t:CT,t.ok∧Seg L (f o).toNat t∧(f o).toNat+t.size=o+1):∀(ks:List Int) (e:Nat) (b:Nat),(∀o∈ks,0≤o)→BL f ks e=b →
  ∃l:List CT,F7 l∧L.drop b=AZ b l++L.drop e∧b+Ae l=e∧ks.reverse=(Au b l).map fun (x:Nat)=>(x:Int)
 | [],e,b,_,h=>by
  have:e=b:=by unfold BL at h;omega
  subst this
  exact⟨[],by unfold F7;trivial,by rw[AZ];rfl,by rw[Ae];rfl,by rw[Au];rfl⟩
 |o::r,e,b,hks,h=>by
  have h0:=hks o (by simp)
  unfold BL at h
  split at h
  ·omega
  ·rename_i ho
   split at h
   ·omega
   ·rename_i hn
    have ho:o=(e:Int)-1:=by omega
    obtain⟨t,t1,t2,t3⟩:=hf o.toNat (by omega)
    obtain⟨b',hb'⟩:∃b':Nat,f o.toNat=(b':Int):=⟨(f o.toNat).toNat,by omega⟩
    rw[hb']at h t2 t3
    rw[Int.toNat_natCast]at t2 t3
    have tp:=t.size_pos
    have he:o.toNat+1=e:=by omega
    obtain⟨l,l1,l2,l3,l4⟩:=SC hf r b' b (fun x hx=>hks x (by simp[hx])) h
    obtain⟨R,t2⟩:=t2
    have hR:R=L.drop e:=by
     have:(L.drop b').drop t.size=R:=by rw[t2,←t.flat_len b',List.drop_left]
     rw[←this,List.drop_drop]
     congr 1
     omega
    refine⟨l++[t],AY.2 fun x hx=>?_,?_,?_,?_⟩
    ·rcases List.mem_append.1 hx with hx | hx
     ·exact AY.1 l1 x hx
     ·rw[List.mem_singleton.1 hx];exact t1
    ·rw[GW,l3,l2,t2,hR,AZ,AZ,List.append_nil,List.append_assoc]
    ·rw[Hc,Ae,Ae];omega
    ·rw[List.reverse_cons,l4,Ku,List.map_append,l3,Au,Au]
     congr 1
     simp
     omega
theorem QA {L:List CoD}(hL:∀(k:Nat) (h:k<L.length),CoOk L[k] k):∀(n i b:Nat),BN L n i=b→∃t:CT,t.ok∧Seg L b t∧b+t.size=i+1
 | 0,i,b,h=>by unfold BN at h;omega
 |n+1,i,b,h=>by
  unfold BN at h
  cases hd:L[i]? with
  |none=>rw[hd]at h;simp only at h;omega
  |some d =>
   rw[hd]at h
   simp only at h
   obtain⟨hi,hdi⟩:=List.getElem?_eq_some_iff.1 hd
   have ho:CoOk d i:=by have:=hL i hi;rw[hdi]at this;exact this
   obtain⟨l,l1,l2,l3,l4⟩:=SC (L:=L) (f:=BN L n) (fun o h0=>by
    obtain⟨t,t1,t2,t3⟩:=QA hL n o (BN L n o).toNat (by omega)
    exact⟨t,t1,t2,t3⟩) d.named.reverse i b (fun o ho'=>(ho.ahead o (List.mem_reverse.1 ho')).1) h
   rw[List.reverse_reverse]at l4
   have hlen:l.length=An d.op:=by
    have:=congrArg List.length l4
    rw[d.named_len,List.length_map,CL]at this
    omega
   refine⟨.mk d.op d.num d.val l,?_,?_,?_⟩
   ·unfold CT.ok
    exact⟨ho.node,hlen,l1⟩
   ·refine⟨L.drop (i+1),?_⟩
    rw[l2,CT.flat,List.append_assoc,←ZZ ho l4,List.drop_eq_getElem_cons hi,hdi]
    rfl
   ·rw[CT.size];omega
end Go.Proofs.YtcejfdfmgmcinaaGreat
