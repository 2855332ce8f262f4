/- Texts of this proof: M61 G25 G26 M14 G38 G42. -/
import Derived.Test.YtcejfdfmgmcinaaGreatKG20uG40
set_option linter.all false
set_option maxHeartbeats 8000000
namespace Go.Proofs.YtcejfdfmgmcinaaGreat
open Go.RowKit
structure CoD where
 op:Int
 a:Int
 b:Int
 c:Int
 num:Int
 val:List CellD
def Au (op:Int):Nat :=
 if op=3∨op=4∨op=5∨op=6∨op=7∨op=11∨op=14 then 2 else if op=8∨op=9∨op=10 then 1 else if op=12∨op=13 then 3 else 0
theorem Bx (op:Int):Au op≤3:=by unfold Au;split<;>(try split)<;>(try split)<;>omega
def CoD.all (d:CoD):List Int:=[d.a,d.b,d.c]
def CoD.named (d:CoD):List Int:=d.all.take (Au d.op)
theorem CoD.named_len (d:CoD):d.named.length=Au d.op:=by
 unfold CoD.named CoD.all
 rw[List.length_take]
 have:=Bx d.op
 simp
 omega
def BX (op:Int):Bool:=op==2||op==11
def EP (op:Int):Bool:=op==6||op==13||op==14||op==15||op==16
def FA (d:CoD):Bool:=if d.op=6 then C1 d.num 1 11 else if d.op=13∨d.op=14∨d.op=15 then C1 d.num 0 59 else if d.op=16 then C1 d.num 1 8 else true
def Dl (ar i:Int) (k:Nat) (x:Int):Bool:=if (k:Int)<ar then C1 x 0 (i-1) else x==0
def Dz (d:CoD) (i:Int):Bool:=Dl (Au d.op) i 0 d.a&&Dl (Au d.op) i 1 d.b&&Dl (Au d.op) i 2 d.c
def Gf (d:CoD) (i:Int):Bool:=Dz d i&&(EP d.op||d.num==0)&&(BX d.op||d.val.length==0)
def EX (d:CoD):Int:=match (dec d.val).2 with
 |some t=>t.kind
 |none=>4
def Dd (d:CoD) (i:Int):Int :=
 if C1 d.op 1 17=false then 6 else if Gf d i=false then 1 else if BX d.op&&((dec d.val).1 != 0) then (dec d.val).1 else if d.op==11&&(EX d != 4) then 6 else if FA d then 0 else 3
def CQ (i:Nat):List CoD→Int
 | []=>0
 |d::r=>if Dd d i=0 then CQ (i+1) r else Dd d i
theorem KO (l:List CoD) {k:Nat}(h:k<l.length):CQ k (l.drop k)=if Dd l[k] k=0 then CQ (k+1) (l.drop (k+1)) else Dd l[k] k:=by
 rw[List.drop_eq_getElem_cons h]
 rfl
theorem GA:∀(l:List CoD) (i:Nat),CQ i l=0→∀(k:Nat) (h:k<l.length),Dd l[k] ((i+k:Nat):Int)=0
 | [],_,_,k,h=>absurd h (by simp)
 |d::r,i,hh,k,h=>by
  unfold CQ at hh
  split at hh
  ·rename_i h0
   cases k with
   |zero=>simpa using h0
   |succ k =>
    have:=GA r (i+1) hh k (by simpa using h)
    have e:i+1+k=i+(k+1):=by omega
    rw[e]at this
    simpa using this
  ·rename_i h0
   exact absurd hh h0
structure CoOk (d:CoD) (i:Nat):Prop where
 op:1≤d.op∧d.op≤17
 fields:Dz d i=true
 num:EP d.op=true∨d.num=0
 noVal:BX d.op=false→d.val=[]
 val:BX d.op=true→∃t:V,t.right∧d.val=t.enc∧(d.op=11→t.kind=4)
 numOk:FA d=true
theorem ID {d:CoD}{i:Nat}(h:Dd d i=0):CoOk d i:=by
 unfold Dd at h
 split at h
 ·exact absurd h (by decide)
 ·rename_i h1
  split at h
  ·exact absurd h (by decide)
  ·rename_i h2
   have hb:C1 d.op 1 17=true:=by simpa using h1
   have hf:Gf d i=true:=by simpa using h2
   unfold C1 at hb
   simp at hb
   unfold Gf at hf
   simp only[Bool.and_eq_true,Bool.or_eq_true,beq_iff_eq]at hf
   obtain⟨⟨f1,f2⟩,f3⟩:=hf
   split at h
   ·rename_i h3
    simp at h3
    exact absurd h h3.2
   ·rename_i h3
    split at h
    ·exact absurd h (by decide)
    ·rename_i h4
     split at h
     ·rename_i h5
      refine⟨⟨hb.1,hb.2⟩,f1,f2,fun hv=>?_,fun hv=>?_,h5⟩
      ·rcases f3 with f3 | f3
       ·rw[hv]at f3;cases f3
       ·exact List.eq_nil_of_length_eq_zero f3
      ·have h0:(dec d.val).1=0:=by
        simp[hv]at h3
        exact h3
       rcases H4 d.val with⟨t,ht⟩ | ⟨c,hc,ht⟩
       ·obtain⟨e1,w1,w2,w3⟩:=Uz ht
        refine⟨t,⟨w1,w2,w3⟩,e1,fun h11=>?_⟩
        have hk:EX d=t.kind:=by unfold EX;rw[ht]
        rw[hk]at h4
        simp[h11]at h4
        exact h4
       ·rw[ht]at h0;exact absurd h0 hc
     ·exact absurd h (by decide)
theorem CoOk.ahead {d:CoD}{i:Nat}(h:CoOk d i):∀x∈d.named,0≤x∧x<(i:Int):=by
 have hf:=h.fields
 unfold Dz Dl at hf
 simp only[Bool.and_eq_true]at hf
 obtain⟨⟨f1,f2⟩,f3⟩:=hf
 have hal:=Bx d.op
 have bt:∀x:Int,C1 x 0 ((i:Int)-1)=true→0≤x∧x<(i:Int):=fun x hx=>by
  unfold C1 at hx
  simp at hx
  omega
 intro x hx
 unfold CoD.named CoD.all at hx
 have hc:Au d.op=0∨Au d.op=1∨Au d.op=2∨Au d.op=3:=by omega
 rcases hc with e | e | e | e<;>rw[e]at hx f1 f2 f3
 ·simp at hx
 ·simp at hx f1
  subst hx
  exact bt _ f1
 ·simp at hx f1 f2
  rcases hx with rfl | rfl
  ·exact bt _ f1
  ·exact bt _ f2
 ·simp at hx f1 f2 f3
  rcases hx with rfl | rfl | rfl
  ·exact bt _ f1
  ·exact bt _ f2
  ·exact bt _ f3
theorem CoOk.zeros {d:CoD}{i:Nat}(h:CoOk d i):(Au d.op<1→d.a=0)∧(Au d.op<2→d.b=0)∧(Au d.op<3→d.c=0):=by
 have hf:=h.fields
 unfold Dz Dl at hf
 simp only[Bool.and_eq_true]at hf
 obtain⟨⟨f1,f2⟩,f3⟩:=hf
 refine⟨fun e=>?_,fun e=>?_,fun e=>?_⟩
 ·rw[if_neg (by omega)]at f1;simpa using f1
 ·rw[if_neg (by omega)]at f2;simpa using f2
 ·rw[if_neg (by omega)]at f3;simpa using f3
def BY (f:Nat→Int):List Int→Int→Int
 | [],b=>b
 |o::r,b=>if o≠b-1 then -1 else if f o.toNat<0 then -1 else BY f r (f o.toNat)
def C0 (L:List CoD):Nat→Nat→Int
 | 0,_=>-1
 |n+1,i=>match L[i]? with
  |some d=>BY (C0 L n) d.named.reverse i
  |none=>-1
inductive CT where
 |mk (op num:Int) (val:List CellD) (kids:List CT)
def CT.op:CT→Int | .mk op _ _ _=>op
def CT.num:CT→Int | .mk _ num _ _=>num
def CT.val:CT→List CellD | .mk _ _ val _=>val
def CT.kids:CT→List CT | .mk _ _ _ kids=>kids
def B9 (op num:Int) (val:List CellD) (ends:List Nat):CoD:=⟨op,(ends[0]?.getD 0:Nat),(ends[1]?.getD 0:Nat),(ends[2]?.getD 0:Nat),num,val⟩
mutual
def CT.flat (b:Nat):CT→List CoD
 | .mk op num val kids=>B5 b kids++[B9 op num val (Az b kids)]
def B5 (b:Nat):List CT→List CoD
 | []=>[]
 |t::r=>t.flat b++B5 (b+t.size) r
def CT.size:CT→Nat
 | .mk _ _ _ kids=>Ah kids+1
def Ah:List CT→Nat
 | []=>0
 |t::r=>t.size+Ah r
def Az (b:Nat):List CT→List Nat
 | []=>[]
 |t::r=>(b+t.size-1)::Az (b+t.size) r
end
mutual
theorem CT.flat_len:∀(t:CT) (b:Nat),(t.flat b).length=t.size
 | .mk op num val kids,b=>by
  rw[CT.flat,List.length_append,F3 kids b,CT.size]
  rfl
theorem F3:∀(l:List CT) (b:Nat),(B5 b l).length=Ah l
 | [],b=>by rw[B5,Ah];rfl
 |t::r,b=>by rw[B5,List.length_append,CT.flat_len t b,F3 r,Ah]
end
theorem CT.size_pos (t:CT):1≤t.size:=by
 cases t
 rw[CT.size]
 omega
theorem Df:∀(l:List CT) (b:Nat),(Az b l).length=l.length
 | [],b=>by rw[Az];rfl
 |t::r,b=>by rw[Az,List.length_cons,Df r,List.length_cons]
structure NodeOk (op num:Int) (val:List CellD):Prop where
 kind:1≤op∧op≤17
 hasNum:EP op=true∨num=0
 noVal:BX op=false→val=[]
 hasVal:BX op=true→∃t:V,t.right∧val=t.enc∧(op=11→t.kind=4)
 numOk:FA ⟨op,0,0,0,num,val⟩=true
theorem CoOk.node {d:CoD}{i:Nat}(h:CoOk d i):NodeOk d.op d.num d.val:=⟨h.op,h.num,h.noVal,h.val,h.numOk⟩
mutual
def CT.ok:CT→Prop
 | .mk op num val kids=>NodeOk op num val∧kids.length=Au op∧FO kids
def FO:List CT→Prop
 | []=>True
 |t::r=>t.ok∧FO r
end
theorem B4:∀{l:List CT},FO l↔∀t∈l,t.ok
 | []=>by unfold FO;simp
 |t::r=>by unfold FO;rw[B4];simp
theorem Ii:∀(l r:List CT),Ah (l++r)=Ah l+Ah r
 | [],r=>by rw[List.nil_append,Ah];omega
 |t::l,r=>by rw[List.cons_append,Ah,Ii l r,Ah];omega
theorem HY:∀(l r:List CT) (b:Nat),B5 b (l++r)=B5 b l++B5 (b+Ah l) r
 | [],r,b=>by rw[List.nil_append,B5,Ah];rfl
 |t::l,r,b=>by rw[List.cons_append,B5,HY l r,B5,Ah,List.append_assoc,Nat.add_assoc]
theorem LI:∀(l r:List CT) (b:Nat),Az b (l++r)=Az b l++Az (b+Ah l) r
 | [],r,b=>by rw[List.nil_append,Az,Ah];rfl
 |t::l,r,b=>by rw[List.cons_append,Az,LI l r,Az,Ah,List.cons_append,Nat.add_assoc]
def Seg (L:List CoD) (b:Nat) (t:CT):Prop:=∃R,L.drop b=t.flat b++R
def OL (L:List CoD) (b:Nat) (l:List CT):Prop:=∃R,L.drop b=B5 b l++R
theorem Seg.kids {L:List CoD}{b:Nat}{op num:Int}{val:List CellD}{kids:List CT}(h:Seg L b (.mk op num val kids)):OL L b kids:=by
 obtain⟨R,h⟩:=h
 exact⟨[B9 op num val (Az b kids)]++R,by rw[h,CT.flat,List.append_assoc]⟩
theorem OL.head {L:List CoD}{b:Nat}{t:CT}{r:List CT}(h:OL L b (t::r)):Seg L b t:=by
 obtain⟨R,h⟩:=h
 exact⟨B5 (b+t.size) r++R,by rw[h,B5,List.append_assoc]⟩
theorem OL.tail {L:List CoD}{b:Nat}{t:CT}{r:List CT}(h:OL L b (t::r)):OL L (b+t.size) r:=by
 obtain⟨R,h⟩:=h
 refine⟨R,?_⟩
 rw[←List.drop_drop,h,B5,List.append_assoc,←t.flat_len b,List.drop_left]
theorem Seg.root {L:List CoD}{b:Nat}{op num:Int}{val:List CellD}{kids:List CT}(h:Seg L b (.mk op num val kids)):L[b+Ah kids]? = some (B9 op num val (Az b kids)):=by
 obtain⟨R,h⟩:=h
 have h1:(L.drop b)[Ah kids]? = some (B9 op num val (Az b kids)):=by
  rw[h,CT.flat,List.append_assoc,List.getElem?_append_right (by rw[F3];exact Nat.le_refl _),F3,Nat.sub_self]
  rfl
 rw[List.getElem?_drop]at h1
 exact h1
theorem Seg.size {L:List CoD}{b:Nat}{t:CT}(h:Seg L b t):b+t.size≤L.length:=by
 obtain⟨R,h⟩:=h
 have h1:=congrArg List.length h
 rw[List.length_drop,List.length_append,CT.flat_len]at h1
 have:=t.size_pos
 omega
theorem GD {op num:Int}{val:List CellD}{ends:List Nat}(h:ends.length=Au op):(B9 op num val ends).named=ends.map fun (x:Nat)=>(x:Int):=by
 have hal:=Bx op
 unfold CoD.named CoD.all B9
 show List.take (Au op) _=_
 rw[←h]
 rw[←h]at hal
 match ends,hal with
 | [],_=>rfl
 | [a],_=>rfl
 | [a,b],_=>rfl
 | [a,b,c],_=>rfl
 |a::b::c::e::r,h=>simp at h
theorem a2o {d:CoD}{i:Nat}(h:CoOk d i) {ends:List Nat}(he:d.named=ends.map fun (x:Nat)=>(x:Int)):d=B9 d.op d.num d.val ends:=by
 obtain⟨z1,z2,z3⟩:=h.zeros
 have hal:=Bx d.op
 have hl:=d.named_len
 unfold CoD.named CoD.all at he
 unfold B9
 have hc:Au d.op=0∨Au d.op=1∨Au d.op=2∨Au d.op=3:=by omega
 obtain⟨op,a,b,c,num,val⟩:=d
 dsimp only at *
 rcases hc with e | e | e | e<;>rw[e]at he hl z1 z2 z3
 ·have:=z1 (by omega);have:=z2 (by omega);have:=z3 (by omega);subst_vars
  simp at he
  subst he
  rfl
 ·have:=z2 (by omega);have:=z3 (by omega);subst_vars
  match ends,he with
  | [x],he=>simp at he;subst he;rfl
  | [],he=>simp at he
  |x::y::r,he=>simp at he
 ·have:=z3 (by omega);subst_vars
  match ends,he with
  | [x,y],he=>simp at he;obtain⟨rfl,rfl⟩:=he;rfl
  | [],he=>simp at he
  | [x],he=>simp at he
  |x::y::z::r,he=>simp at he
 ·match ends,he with
  | [x,y,z],he=>simp at he;obtain⟨rfl,rfl,rfl⟩:=he;rfl
  | [],he=>simp at he
  | [x],he=>simp at he
  | [x,y],he=>simp at he
  |x::y::z::w::r,he=>simp at he
theorem Ub {L:List CoD}{f:Nat→Int}(hf:∀(o:Nat),0≤f o→∃t:CT,t.ok∧Seg L (f o).toNat t∧(f o).toNat+t.size=o+1):∀(ks:List Int) (e:Nat) (b:Nat),(∀o∈ks,0≤o)→BY f ks e=b →
  ∃l:List CT,FO l∧L.drop b=B5 b l++L.drop e∧b+Ah l=e∧ks.reverse=(Az b l).map fun (x:Nat)=>(x:Int)
 | [],e,b,_,h=>by
  have:e=b:=by unfold BY at h;omega
  subst this
  exact⟨[],by unfold FO;trivial,by rw[B5];rfl,by rw[Ah];rfl,by rw[Az];rfl⟩
 |o::r,e,b,hks,h=>by
  have h0:=hks o (by simp)
  unfold BY at h
  split at h
  ·omega
  ·rename_i ho
   split at h
   ·omega
   ·rename_i hn
    have ho:o=(e:Int)-1:=by omega
    obtain⟨t,t1,t2,t3⟩:=hf o.toNat (by omega)
    obtain⟨b',hb'⟩:∃b':Nat,f o.toNat=(b':Int):=⟨(f o.toNat).toNat,by omega⟩
    rw[hb']at h t2 t3
    rw[Int.toNat_natCast]at t2 t3
    have tp:=t.size_pos
    have he:o.toNat+1=e:=by omega
    obtain⟨l,l1,l2,l3,l4⟩:=Ub hf r b' b (fun x hx=>hks x (by simp[hx])) h
    obtain⟨R,t2⟩:=t2
    have hR:R=L.drop e:=by
     have:(L.drop b').drop t.size=R:=by rw[t2,←t.flat_len b',List.drop_left]
     rw[←this,List.drop_drop]
     congr 1
     omega
    refine⟨l++[t],B4.2 fun x hx=>?_,?_,?_,?_⟩
    ·rcases List.mem_append.1 hx with hx | hx
     ·exact B4.1 l1 x hx
     ·rw[List.mem_singleton.1 hx];exact t1
    ·rw[HY,l3,l2,t2,hR,B5,B5,List.append_nil,List.append_assoc]
    ·rw[Ii,Ah,Ah];omega
    ·rw[List.reverse_cons,l4,LI,List.map_append,l3,Az,Az]
     congr 1
     simp
     omega
theorem S5 {L:List CoD}(hL:∀(k:Nat) (h:k<L.length),CoOk L[k] k):∀(n i b:Nat),C0 L n i=b→∃t:CT,t.ok∧Seg L b t∧b+t.size=i+1
 | 0,i,b,h=>by unfold C0 at h;omega
 |n+1,i,b,h=>by
  unfold C0 at h
  cases hd:L[i]? with
  |none=>rw[hd]at h;simp only at h;omega
  |some d =>
   rw[hd]at h
   simp only at h
   obtain⟨hi,hdi⟩:=List.getElem?_eq_some_iff.1 hd
   have ho:CoOk d i:=by have:=hL i hi;rw[hdi]at this;exact this
   obtain⟨l,l1,l2,l3,l4⟩:=Ub (L:=L) (f:=C0 L n) (fun o h0=>by
    obtain⟨t,t1,t2,t3⟩:=S5 hL n o (C0 L n o).toNat (by omega)
    exact⟨t,t1,t2,t3⟩) d.named.reverse i b (fun o ho'=>(ho.ahead o (List.mem_reverse.1 ho')).1) h
   rw[List.reverse_reverse]at l4
   have hlen:l.length=Au d.op:=by
    have:=congrArg List.length l4
    rw[d.named_len,List.length_map,Df]at this
    omega
   refine⟨.mk d.op d.num d.val l,?_,?_,?_⟩
   ·unfold CT.ok
    exact⟨ho.node,hlen,l1⟩
   ·refine⟨L.drop (i+1),?_⟩
    rw[l2,CT.flat,List.append_assoc,←a2o ho l4,List.drop_eq_getElem_cons hi,hdi]
    rfl
   ·rw[CT.size];omega
set_option maxRecDepth 10000
theorem Ck (c:Int):AC Tryz.prog 90 [.c (.int .i64 c)] [] (.agg [.c (.int .i64 c),.nils]) []:=by
 refine A6 Tryz.func90 Tryz.ntmps90 q9 ?_
 exact Ag (A5 []) Tryz.results90
theorem SD:BD.enc.map CellD.cs=[[.int .i64 0,.int .i64 0,.str ByteArray.empty,.str ByteArray.empty,.int .i64 0]]:=rfl
theorem FZ:AC Tryz.prog 223 [] [] (.own (0,0)) [((0,0),.row false 5 80 (BD.enc.map CellD.cs))]:=by
 rw[SD]
 refine A6 Tryz.func223 Tryz.ntmps223 q9 ?_
 exact Aa (A9 [((0,0),(2,0))] []) Tryz.results223 @SD
def vrA (r:Int×Option V):AV:=match r.2 with
 |some t=>.agg [.c (.int .i64 0),.c (.sl (t.enc.map CellD.cs))]
 |none=>.agg [.c (.int .i64 r.1),.c (.sl [])]
theorem BF (c:Int) (t:V):vrA (c,some t)=.agg [.c (.int .i64 0),.c (.sl (t.enc.map CellD.cs))]:=rfl
theorem Bu (c:Int):vrA (c,none)=.agg [.c (.int .i64 c),.c (.sl [])]:=rfl
theorem BG (t:V):vrA (okR t)=.agg [.c (.int .i64 0),.c (.sl (t.enc.map CellD.cs))]:=rfl
theorem DP (c:Int):vrA (Eo c)=.agg [.c (.int .i64 c),.c (.sl [])]:=rfl
theorem q7 {t:V}(h:t.right) (key:ByteArray):AC Tryz.prog 346 [AF t.enc,.c (.str key)] [] (vrA (Cg t key)) []:=by
 have hr0:A8 (t.enc.map CellD.cs) 5 0=true:=by unfold A8;rw[show (0:Int).toNat=0 from rfl,AL];rfl
 have hg0:=AL t
 by_cases h0:t.kind=0
 ·have hr:Cg t key=okR BD:=by unfold Cg;rw[if_pos h0]
  have hb:(t.kind==0)=true:=by simpa using h0
  rw[hr,BG]
  refine A6 Tryz.func346 Tryz.ntmps346 (j3 hr0 hg0 hb) ?_
  refine v12 (BB [] FZ) q9 q9 ?_
  exact Aa (A9 [] [(12,0)]) Tryz.results346 hb
 ·have hb:(t.kind==0)=false:=by simpa using h0
  by_cases h6:t.kind=6
  ·have hb6:(t.kind != 6)=false:=by simpa using h6
   obtain⟨hs,_,hkl⟩:=DI h h6
   have hkn:=BH h.2.1
   have hkeys:=FW h.1 h.2.1
   have hparts:=D6 h.1 h.2.1
   have hkat:∀i (hi:i<t.keys.length),t.keyAt i=t.keys[i]:=fun i hi=>by
    unfold V.keyAt
    rw[if_pos h6,List.drop_eq_getElem_cons hi]
    rfl
   have hr:Cg t key=okR (t.member key):=by unfold Cg;rw[if_neg h0,if_pos h6]
   rw[hr,BG]
   refine A6 Tryz.func346 Tryz.ntmps346 (j4 hr0 hg0 hb hb6) ?_
   refine v9 (A4 [] hkeys) q9 q9 ?_
   refine Ar (κ:=Nat) (fun k=>⟨mkS 0 42 [(0,AF t.enc),(1,.c (.str key)),(4,.ptr (4,0) 0),(5,.c (.sl ((BK t t.kids.length).map Ae))),(6,.c (.int .i64 k))],[((4,0),.box [.c (.int .i64 0),.nils])]⟩)
    (fun k=>k≤t.kids.length∧∀j (hj:j<t.keys.length),j<k→t.keys[j].toList≠key.toList) (fun k=>t.kids.length-k) 0 ⟨Nat.zero_le _,by intro j _ hj;omega⟩ ?_ ?_
   ·exact Ac (Aj.of [((4,0),(4,0))] []) hb
   ·rintro k ⟨hk,hno⟩
    have hkol:(BK t t.kids.length).length=t.kids.length:=I2 t _
    by_cases hlt:k<t.kids.length
    ·have hd:decide ((k:Int)<(t.kids.length:Int))=true:=by simpa using hlt
     have hw:=Ad (k:=k) (by omega)
     have hr2:A8 ((BK t t.kids.length).map Ae) 1 k=true:=by simp[A8,BK,hlt,Ae]
     have hg2:((BK t t.kids.length).map Ae)[k]? = some [.str t.keys[k]]:=by simp[BK,hlt,Ae,hkat k (by omega)]
     have hr3:A8 ((t.kids.map V.enc).map Al) 1 k=true:=by simp[A8,hlt,Al]
     have hg3:((t.kids.map V.enc).map Al)[k]? = some [.sl (t.kids[k].enc.map CellD.cs)]:=by simp[hlt,Al]
     cases he:t.keys[k].toList==key.toList with
     |true =>
      have hm:t.member key=t.kids[k]:=by
       unfold V.member Fh
       rw[List.findIdx?_eq_some_iff_getElem.2 ⟨by omega,he,fun j hj=>by simpa using hno j (by omega) hj⟩]
       simp only
       rw[List.getD_eq_getElem?_getD,List.getElem?_eq_getElem hlt,Option.getD_some]
      rw[hm]
      generalize t.kids[k]=u at *
      refine Ab (j5 hkol hd hr2 hg2 he) ?_
      refine v9 (A4 [] hparts) q9 (j2 hr3 hg3) ?_
      exact Ag (A5 []) Tryz.results346
     |false =>
      refine Ab (j6 hkol hd hr2 hg2 he hw) ?_
      refine⟨k+1,by omega,⟨by omega,fun j hj hjk=>?_⟩,?_⟩
      ·by_cases hjk':j=k
       ·subst hjk';simpa using he
       ·exact hno j hj (by omega)
      ·exact Ac (Aj.of [((4,0),(4,0))] []) hb
    ·have hd:decide ((k:Int)<(t.kids.length:Int))=false:=by simpa using hlt
     have hm:t.member key=BD:=by
      unfold V.member Fh
      rw[List.findIdx?_eq_none_iff.2 fun x hx=>by
       obtain⟨i,hi,rfl⟩:=List.getElem_of_mem hx
       simpa using hno i hi (by omega)]
     rw[hm]
     refine Ab (j2 hkol hd) ?_
     refine v12 (BB [] FZ) q9 q9 ?_
     exact Aa (A9 [] [(40,0)]) Tryz.results346 hb
  ·have hr:Cg t key=Eo 6:=by unfold Cg;rw[if_neg h0,if_neg h6]
   have hb6:(t.kind != 6)=true:=by simpa using h6
   rw[hr,DP]
   refine A6 Tryz.func346 Tryz.ntmps346 (j4 hr0 hg0 hb hb6) ?_
   refine v7 (A3 [] (Ck 6)) q9 q9 ?_
   exact Ag (A5 []) Tryz.results346
set_option maxRecDepth 10000
theorem I5 (n lo hi:Int):AC Tryz.prog 67 [.c (.int .i64 n),.c (.int .i64 lo),.c (.int .i64 hi)] [] (.c (.bool (decide (n≥lo)&&decide (n≤hi)))) []:=by
 cases h1:decide (n≥lo)<;>cases h2:decide (n≤hi)
 all_goals
  refine A6 Tryz.func67 Tryz.ntmps67 (j2 h1 h2) ?_
  exact Ag (A5 []) Tryz.results67
theorem Vd {t:V}(h:t.right) (n:Int) (hn:-1000000000000000≤n∧n≤1000000000000000):AC Tryz.prog 347 [AF t.enc,.c (.int .i64 n)] [] (vrA (BN t n)) []:=by
 have hkl:=BH h.2.1
 have hr0:A8 (t.enc.map CellD.cs) 5 0=true:=by unfold A8;rw[show (0:Int).toNat=0 from rfl,AL];rfl
 have hg0:=AL t
 by_cases h0:t.kind=0
 ·have hr:BN t n=okR BD:=by unfold BN;rw[if_pos h0]
  have hb:(t.kind==0)=true:=by simpa using h0
  rw[hr,BG]
  refine A6 Tryz.func347 Tryz.ntmps347 (j3 hr0 hg0 hb) ?_
  refine v12 (BB [] FZ) q9 q9 ?_
  exact Aa (A9 [] [(10,0)]) Tryz.results347 hb
 ·have hb:(t.kind==0)=false:=by simpa using h0
  by_cases h5:t.kind=5
  ·have hb5:(t.kind != 5)=false:=by simpa using h5
   have hwm:IntKind.i64.wrap ((t.kids.length:Int)-1)=(t.kids.length:Int)-1:=IntWalk.i64_in _ (by omega)
   have hwi:=I5 (CZ n t.kids.length) 0 ((t.kids.length:Int)-1)
   have hparts:=D6 h.1 h.2.1
   have hsplit:(decide (n<0)=true∧IntKind.i64.wrap (n+(t.kids.length:Int))=CZ n t.kids.length)∨(decide (n<0)=false∧n=CZ n t.kids.length):=by
    unfold CZ
    by_cases hneg:n<0
    ·rw[if_pos hneg]
     exact .inl ⟨by simpa using hneg,IntWalk.i64_in _ (by omega)⟩
    ·rw[if_neg hneg]
     exact .inr ⟨by simpa using hneg,rfl⟩
   cases hin:(decide (CZ n t.kids.length≥0)&&decide (CZ n t.kids.length≤(t.kids.length:Int)-1)) with
   |false =>
    rw[hin]at hwi
    have hr:BN t n=okR BD:=by
     unfold BN
     rw[if_neg h0,if_pos h5,if_neg]
     simp at hin
     omega
    rw[hr,BG]
    generalize CZ n t.kids.length=q at *
    rcases hsplit with⟨hd,hwa⟩ | ⟨hd,rfl⟩
    ·refine A6 Tryz.func347 Tryz.ntmps347 (j7 hr0 hg0 hb hb5 hd hwa hwm) ?_
     refine v7 (A3 [] hwi) q9 q9 ?_
     refine v12 (BB [] FZ) q9 q9 ?_
     exact Aa (A9 [] [(34,0)]) Tryz.results347 hb
    ·refine A6 Tryz.func347 Tryz.ntmps347 (j6 hr0 hg0 hb hb5 hd hwm) ?_
     refine v7 (A3 [] hwi) q9 q9 ?_
     refine v12 (BB [] FZ) q9 q9 ?_
     exact Aa (A9 [] [(34,0)]) Tryz.results347 hb
   |true =>
    rw[hin]at hwi
    simp at hin
    obtain⟨p,hp,hpl⟩:∃p:Nat,CZ n t.kids.length=p∧p<t.kids.length:=⟨(CZ n t.kids.length).toNat,by omega,by omega⟩
    have hr:BN t n=okR t.kids[p]:=by
     unfold BN
     rw[if_neg h0,if_pos h5,hp,if_pos (by omega),Int.toNat_natCast,List.getD_eq_getElem?_getD,List.getElem?_eq_getElem hpl,Option.getD_some]
    have hr3:A8 ((t.kids.map V.enc).map Al) 1 p=true:=by simp[A8,hpl,Al]
    have hg3:((t.kids.map V.enc).map Al)[p]? = some [.sl (t.kids[p].enc.map CellD.cs)]:=by simp[hpl,Al]
    rw[hr,BG]
    generalize t.kids[p]=u at *
    rw[hp]at hwi hsplit
    rcases hsplit with⟨hd,hwa⟩ | ⟨hd,rfl⟩
    ·refine A6 Tryz.func347 Tryz.ntmps347 (j7 hr0 hg0 hb hb5 hd hwa hwm) ?_
     refine v7 (A3 [] hwi) q9 q9 ?_
     refine v9 (A4 [] hparts) q9 (j2 hr3 hg3) ?_
     exact Ag (A5 []) Tryz.results347
    ·refine A6 Tryz.func347 Tryz.ntmps347 (j6 hr0 hg0 hb hb5 hd hwm) ?_
     refine v7 (A3 [] hwi) q9 q9 ?_
     refine v9 (A4 [] hparts) q9 (j2 hr3 hg3) ?_
     exact Ag (A5 []) Tryz.results347
  ·have hr:BN t n=Eo 6:=by unfold BN;rw[if_neg h0,if_neg h5]
   have hb5:(t.kind != 5)=true:=by simpa using h5
   rw[hr,DP]
   refine A6 Tryz.func347 Tryz.ntmps347 (j4 hr0 hg0 hb hb5) ?_
   refine v7 (A3 [] (Ck 6)) q9 q9 ?_
   exact Ag (A5 []) Tryz.results347
theorem a2j {t k:V}(h:t.right) (hk:k.right):AC Tryz.prog 288 [AF t.enc,AF k.enc] [] (vrA (Cu t k)) []:=by
 have hr0:A8 (k.enc.map CellD.cs) 5 0=true:=by unfold A8;rw[show (0:Int).toNat=0 from rfl,AL];rfl
 have hg0:=AL k
 by_cases h4:k.kind=4
 ·have hb:(k.kind==4)=true:=by simpa using h4
  have hr:Cu t k=Cg t k.text:=by unfold Cu;rw[if_pos h4]
  have hg:=q7 h k.text
  rw[hr]
  generalize Cg t k.text=r at *
  rcases r with⟨c,_ | u⟩
  all_goals
   simp only[BF,Bu]at hg ⊢
   refine A6 Tryz.func288 Tryz.ntmps288 (j3 hr0 hg0 hb) ?_
   refine v9 (A4 [] hg) q9 q9 ?_
   exact Ag (A5 []) Tryz.results288
 ·have hb:(k.kind==4)=false:=by simpa using h4
  by_cases h3:k.kind=3
  ·have hb3:(k.kind==3)=true:=by simpa using h3
   have hr:Cu t k=BN t k.num:=by unfold Cu;rw[if_neg h4,if_pos h3]
   have hg:=Vd h k.num (Cs hk)
   rw[hr]
   generalize BN t k.num=r at *
   rcases r with⟨c,_ | u⟩
   all_goals
    simp only[BF,Bu]at hg ⊢
    refine A6 Tryz.func288 Tryz.ntmps288 (j4 hr0 hg0 hb hb3) ?_
    refine v9 (A4 [] hg) q9 q9 ?_
    exact Ag (A5 []) Tryz.results288
  ·have hb3:(k.kind==3)=false:=by simpa using h3
   have hr:Cu t k=Eo 6:=by unfold Cu;rw[if_neg h4,if_neg h3]
   rw[hr,DP]
   refine A6 Tryz.func288 Tryz.ntmps288 (j4 hr0 hg0 hb hb3) ?_
   refine v7 (A3 [] (Ck 6)) q9 q9 ?_
   exact Ag (A5 []) Tryz.results288
def S8 (n:Nat) (b:Int) (out:List Int):Prop:=out.length=n∧∀v∈out,-1≤v∧v≤b
theorem S8.get {n:Nat}{b:Int}{out:List Int}(h:S8 n b out) (hb:0≤b) (m:Nat):-1≤out.getD m 0∧out.getD m 0≤b:=by
 rw[List.getD_eq_getElem?_getD]
 by_cases hm:m<out.length
 ·rw[List.getElem?_eq_getElem hm,Option.getD_some]
  exact h.2 _ (List.getElem_mem hm)
 ·rw[List.getElem?_eq_none (by omega),Option.getD_none]
  omega
theorem S8.set {n:Nat}{b:Int}{out:List Int}(h:S8 n b out) {m:Nat}{x:Int}(hx:-1≤x∧x≤b):S8 n b (out.set m x):=by
 refine⟨by rw[List.length_set];exact h.1,fun v hv=>?_⟩
 rcases List.mem_or_eq_of_mem_set hv with hv | rfl
 ·exact h.2 v hv
 ·exact hx
theorem S8.up {n:Nat}{b c:Int}{out:List Int}(h:S8 n b out) (hc:b≤c):S8 n c out:=⟨h.1,fun v hv=>by have:=h.2 v hv;omega⟩
set_option maxRecDepth 10000
theorem PO {out:List Int}{m:Nat}(h:m<out.length):A8 (out.map As) 1 m=true:=by simp[A8,h,As]
theorem SX {out:List Int}{m:Nat}(h:m<out.length):(out.map As)[m]? = some [.int .i64 (out.getD m 0)]:=by
 rw[List.getD_eq_getElem?_getD,List.getElem?_eq_getElem h,Option.getD_some]
 simp[h,As]
theorem m9 (out:List Int) (m:Nat) (x:Int):(out.map As).set m [.int .i64 x]=(out.set m x).map As:=by rw[List.map_set];rfl
theorem RJ (x y:Int):C4 [C.int .i64 x] 0 [.int .i64 y]=[.int .i64 y]:=rfl
theorem Sj (l:List Int):Bm (l.map As)=true:=by
 induction l with
 |nil=>rfl
 |cons x l ih=>simp only[List.map_cons,Bm,ih,Bool.and_true];rfl
attribute [go_sem] Sj
set_option maxRecDepth 10000
abbrev Cr (l:List Int):AV:=.c (.sl (l.map As))
theorem SF (l:List Int) (hl:l.length≤1048576):AC Tryz.prog 24 [Cr l,Cr l] [] (.c (.bool true)) []:=by
 have hln:(l.map As).length=l.length:=by simp
 have hne:((l.length:Int) != (l.length:Int))=false:=by simp
 refine A6 Tryz.func24 Tryz.ntmps24 (j2 hln hne) ?_
 refine Ar (κ:=Nat) (fun k=>⟨mkS 0 26 [(0,Cr l),(1,Cr l),(5,.c (.int .i64 k))],[]⟩)
  (fun k=>k≤l.length) (fun k=>l.length-k) 0 (Nat.zero_le _) ?_ ?_
 ·exact Ac (Aj.of [] []) hne
 ·intro k hk
  by_cases hlt:k<l.length
  ·have hdk:decide ((k:Int)<(l.length:Int))=true:=by simpa using hlt
   have hw:=Ad (k:=k) (by omega)
   have hr:=PO (out:=l) (m:=k) hlt
   have hg:=SX (out:=l) (m:=k) hlt
   have he:(l.getD k 0 != l.getD k 0)=false:=by simp
   refine Ab (j6 hln hdk hr hg he hw) ?_
   refine⟨k+1,by omega,by omega,?_⟩
   exact Ac (Aj.of [] []) hw
  ·have hdk:decide ((k:Int)<(l.length:Int))=false:=by simpa using hlt
   exact FC (j2 hln hdk) (A5 []) Tryz.results24
def Lh (K n:Nat):List Int:=(List.range n).map fun i=>((K+i:Nat):Int)
theorem LP (K n:Nat):(Lh K n).length=n:=by simp[Lh]
def Es (K:Nat) (l:List Int) (k:Nat):List Int:=Lh K k++l.drop k
theorem Vo {K:Nat}{l:List Int}{k:Nat}(h:k≤l.length):(Es K l k).length=l.length:=by simp[Es,LP];omega
theorem Tn {K:Nat}{l:List Int}{k:Nat}(h:k<l.length):(Es K l k).set k ((K+k:Nat):Int)=Es K l (k+1):=by
 unfold Es
 have hd:(l.drop k).set 0 ((K+k:Nat):Int)=((K+k:Nat):Int)::l.drop (k+1):=by rw[List.drop_eq_getElem_cons h];rfl
 have hs:Lh K (k+1)=Lh K k++[((K+k:Nat):Int)]:=by simp[Lh,List.range_succ]
 rw[List.set_append_right _ _ (by rw[LP];omega),LP,Nat.sub_self,hd,hs]
 simp
theorem P2 (l:List Int) (K es:Nat) (e:TypeId) (hes:l≠[]→es=1) (hK:K+l.length≤3000000000) :
  AC Tryz.prog 25 [.own (0,0),.c (.int .i64 K)] [((0,0),.row false es e (l.map As))] (.c (.int .i64 ((K+l.length:Nat):Int))) [((0,0),.row false es e ((Lh K l.length).map As))]:=by
 have h0:Es K l 0=l:=by simp[Es,Lh]
 have h00:((K+0:Nat):Int)=(K:Int):=rfl
 refine A6 Tryz.func25 Tryz.ntmps25 q9 ?_
 refine Ar (κ:=Nat) (fun k=>⟨mkS 0 19 [(0,.own (0,0)),(1,.c (.int .i64 ((K+k:Nat):Int))),(5,.c (.int .i64 k))],[((0,0),.row false es e ((Es K l k).map As))]⟩)
  (fun k=>k≤l.length) (fun k=>l.length-k) 0 (Nat.zero_le _) ?_ ?_
 ·exact Ac (Aj.of [((0,0),(0,0))] []) (j2 h0 h00)
 ·intro k hk
  have hml:=Vo (K:=K) hk
  have hll:((Es K l k).map As).length=l.length:=by rw[List.length_map,hml]
  by_cases hlt:k<l.length
  ·have h5:es=1:=hes (by intro h;rw[h]at hlt;simp at hlt)
   subst h5
   have hd:decide ((k:Int)<(l.length:Int))=true:=by simpa using hlt
   have hw:=Ad (k:=k) (by omega)
   have hw2:=Ad (k:=K+k) (by omega)
   have hr:=PO (out:=Es K l k) (m:=k) (by rw[hml];exact hlt)
   have hg:=SX (out:=Es K l k) (m:=k) (by rw[hml];exact hlt)
   have hs:((Es K l k).map As).set k [.int .i64 ((K+k:Nat):Int)]=(Es K l (k+1)).map As:=by rw[m9,Tn hlt]
   have hn1:((K+(k+1):Nat):Int)=((K+k+1:Nat):Int):=rfl
   generalize hM:((K+k:Nat):Int)=M at *
   refine Ab (j8 hll hd hr hg @RJ hs hw hw2) ?_
   refine⟨k+1,by omega,by omega,?_⟩
   exact Ac (Aj.of [((0,0),(0,0))] []) hn1
  ·have hd:decide ((k:Int)<(l.length:Int))=false:=by simpa using hlt
   have hke:k=l.length:=by omega
   have hall:Es K l k=Lh K l.length:=by rw[hke];simp[Es]
   refine Ab (j2 hll hd) ?_
   subst hke
   exact Aa (A9 [((0,0),(0,0))] []) Tryz.results25 hall
end Go.Proofs.YtcejfdfmgmcinaaGreat
