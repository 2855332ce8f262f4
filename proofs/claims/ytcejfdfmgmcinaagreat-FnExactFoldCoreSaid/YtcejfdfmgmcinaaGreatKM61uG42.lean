/- Texts of this proof: M61 G25 G26 M14 G42. -/
import Derived.Test.YtcejfdfmgmcinaaGreatKG20uG40
set_option linter.all false
set_option maxHeartbeats 8000000
namespace Go.Proofs.YtcejfdfmgmcinaaGreat
open Go.RowKit
structure CoD where
 op:Int
 a:Int
 b:Int
 c:Int
 num:Int
 val:List CellD
def Au (op:Int):Nat :=
 if op=3∨op=4∨op=5∨op=6∨op=7∨op=11∨op=14 then 2 else if op=8∨op=9∨op=10 then 1 else if op=12∨op=13 then 3 else 0
theorem Bz (op:Int):Au op≤3:=by unfold Au;split<;>(try split)<;>(try split)<;>omega
def CoD.all (d:CoD):List Int:=[d.a,d.b,d.c]
def CoD.named (d:CoD):List Int:=d.all.take (Au d.op)
theorem CoD.named_len (d:CoD):d.named.length=Au d.op:=by
 unfold CoD.named CoD.all
 rw[List.length_take]
 have:=Bz d.op
 simp
 omega
def C7 (op:Int):Bool:=op==2||op==11
def ET (op:Int):Bool:=op==6||op==13||op==14||op==15||op==16
def FE (d:CoD):Bool:=if d.op=6 then C4 d.num 1 11 else if d.op=13∨d.op=14∨d.op=15 then C4 d.num 0 59 else if d.op=16 then C4 d.num 1 8 else true
def Du (ar i:Int) (k:Nat) (x:Int):Bool:=if (k:Int)<ar then C4 x 0 (i-1) else x==0
def DG (d:CoD) (i:Int):Bool:=Du (Au d.op) i 0 d.a&&Du (Au d.op) i 1 d.b&&Du (Au d.op) i 2 d.c
def Gb (d:CoD) (i:Int):Bool:=DG d i&&(ET d.op||d.num==0)&&(C7 d.op||d.val.length==0)
def F3 (d:CoD):Int:=match (dec d.val).2 with
 |some t=>t.kind
 |none=>4
def Dn (d:CoD) (i:Int):Int :=
 if C4 d.op 1 17=false then 6 else if Gb d i=false then 1 else if C7 d.op&&((dec d.val).1 != 0) then (dec d.val).1 else if d.op==11&&(F3 d != 4) then 6 else if FE d then 0 else 3
def D3 (i:Nat):List CoD→Int
 | []=>0
 |d::r=>if Dn d i=0 then D3 (i+1) r else Dn d i
theorem KH (l:List CoD) {k:Nat}(h:k<l.length):D3 k (l.drop k)=if Dn l[k] k=0 then D3 (k+1) (l.drop (k+1)) else Dn l[k] k:=by
 rw[List.drop_eq_getElem_cons h]
 rfl
theorem Gx:∀(l:List CoD) (i:Nat),D3 i l=0→∀(k:Nat) (h:k<l.length),Dn l[k] ((i+k:Nat):Int)=0
 | [],_,_,k,h=>absurd h (by simp)
 |d::r,i,hh,k,h=>by
  unfold D3 at hh
  split at hh
  ·rename_i h0
   cases k with
   |zero=>simpa using h0
   |succ k =>
    have:=Gx r (i+1) hh k (by simpa using h)
    have e:i+1+k=i+(k+1):=by omega
    rw[e]at this
    simpa using this
  ·rename_i h0
   exact absurd hh h0
structure CoOk (d:CoD) (i:Nat):Prop where
 op:1≤d.op∧d.op≤17
 fields:DG d i=true
 num:ET d.op=true∨d.num=0
 noVal:C7 d.op=false→d.val=[]
 val:C7 d.op=true→∃t:V,t.right∧d.val=t.enc∧(d.op=11→t.kind=4)
 numOk:FE d=true
theorem Iy {d:CoD}{i:Nat}(h:Dn d i=0):CoOk d i:=by
 unfold Dn at h
 split at h
 ·exact absurd h (by decide)
 ·rename_i h1
  split at h
  ·exact absurd h (by decide)
  ·rename_i h2
   have hb:C4 d.op 1 17=true:=by simpa using h1
   have hf:Gb d i=true:=by simpa using h2
   unfold C4 at hb
   simp at hb
   unfold Gb at hf
   simp only[Bool.and_eq_true,Bool.or_eq_true,beq_iff_eq]at hf
   obtain⟨⟨f1,f2⟩,f3⟩:=hf
   split at h
   ·rename_i h3
    simp at h3
    exact absurd h h3.2
   ·rename_i h3
    split at h
    ·exact absurd h (by decide)
    ·rename_i h4
     split at h
     ·rename_i h5
      refine⟨⟨hb.1,hb.2⟩,f1,f2,fun hv=>?_,fun hv=>?_,h5⟩
      ·rcases f3 with f3 | f3
       ·rw[hv]at f3;cases f3
       ·exact List.eq_nil_of_length_eq_zero f3
      ·have h0:(dec d.val).1=0:=by
        simp[hv]at h3
        exact h3
       rcases GZ d.val with⟨t,ht⟩ | ⟨c,hc,ht⟩
       ·obtain⟨e1,w1,w2,w3⟩:=Um ht
        refine⟨t,⟨w1,w2,w3⟩,e1,fun h11=>?_⟩
        have hk:F3 d=t.kind:=by unfold F3;rw[ht]
        rw[hk]at h4
        simp[h11]at h4
        exact h4
       ·rw[ht]at h0;exact absurd h0 hc
     ·exact absurd h (by decide)
theorem CoOk.ahead {d:CoD}{i:Nat}(h:CoOk d i):∀x∈d.named,0≤x∧x<(i:Int):=by
 have hf:=h.fields
 unfold DG Du at hf
 simp only[Bool.and_eq_true]at hf
 obtain⟨⟨f1,f2⟩,f3⟩:=hf
 have hal:=Bz d.op
 have bt:∀x:Int,C4 x 0 ((i:Int)-1)=true→0≤x∧x<(i:Int):=fun x hx=>by
  unfold C4 at hx
  simp at hx
  omega
 intro x hx
 unfold CoD.named CoD.all at hx
 have hc:Au d.op=0∨Au d.op=1∨Au d.op=2∨Au d.op=3:=by omega
 rcases hc with e | e | e | e<;>rw[e]at hx f1 f2 f3
 ·simp at hx
 ·simp at hx f1
  subst hx
  exact bt _ f1
 ·simp at hx f1 f2
  rcases hx with rfl | rfl
  ·exact bt _ f1
  ·exact bt _ f2
 ·simp at hx f1 f2 f3
  rcases hx with rfl | rfl | rfl
  ·exact bt _ f1
  ·exact bt _ f2
  ·exact bt _ f3
theorem CoOk.zeros {d:CoD}{i:Nat}(h:CoOk d i):(Au d.op<1→d.a=0)∧(Au d.op<2→d.b=0)∧(Au d.op<3→d.c=0):=by
 have hf:=h.fields
 unfold DG Du at hf
 simp only[Bool.and_eq_true]at hf
 obtain⟨⟨f1,f2⟩,f3⟩:=hf
 refine⟨fun e=>?_,fun e=>?_,fun e=>?_⟩
 ·rw[if_neg (by omega)]at f1;simpa using f1
 ·rw[if_neg (by omega)]at f2;simpa using f2
 ·rw[if_neg (by omega)]at f3;simpa using f3
def C1 (f:Nat→Int):List Int→Int→Int
 | [],b=>b
 |o::r,b=>if o≠b-1 then -1 else if f o.toNat<0 then -1 else C1 f r (f o.toNat)
def C3 (L:List CoD):Nat→Nat→Int
 | 0,_=>-1
 |n+1,i=>match L[i]? with
  |some d=>C1 (C3 L n) d.named.reverse i
  |none=>-1
inductive CT where
 |mk (op num:Int) (val:List CellD) (kids:List CT)
def CT.op:CT→Int | .mk op _ _ _=>op
def CT.num:CT→Int | .mk _ num _ _=>num
def CT.val:CT→List CellD | .mk _ _ val _=>val
def CT.kids:CT→List CT | .mk _ _ _ kids=>kids
def B8 (op num:Int) (val:List CellD) (ends:List Nat):CoD:=⟨op,(ends[0]?.getD 0:Nat),(ends[1]?.getD 0:Nat),(ends[2]?.getD 0:Nat),num,val⟩
mutual
def CT.flat (b:Nat):CT→List CoD
 | .mk op num val kids=>B3 b kids++[B8 op num val (As b kids)]
def B3 (b:Nat):List CT→List CoD
 | []=>[]
 |t::r=>t.flat b++B3 (b+t.size) r
def CT.size:CT→Nat
 | .mk _ _ _ kids=>Aj kids+1
def Aj:List CT→Nat
 | []=>0
 |t::r=>t.size+Aj r
def As (b:Nat):List CT→List Nat
 | []=>[]
 |t::r=>(b+t.size-1)::As (b+t.size) r
end
mutual
theorem CT.flat_len:∀(t:CT) (b:Nat),(t.flat b).length=t.size
 | .mk op num val kids,b=>by
  rw[CT.flat,List.length_append,F8 kids b,CT.size]
  rfl
theorem F8:∀(l:List CT) (b:Nat),(B3 b l).length=Aj l
 | [],b=>by rw[B3,Aj];rfl
 |t::r,b=>by rw[B3,List.length_append,CT.flat_len t b,F8 r,Aj]
end
theorem CT.size_pos (t:CT):1≤t.size:=by
 cases t
 rw[CT.size]
 omega
theorem D6:∀(l:List CT) (b:Nat),(As b l).length=l.length
 | [],b=>by rw[As];rfl
 |t::r,b=>by rw[As,List.length_cons,D6 r,List.length_cons]
structure NodeOk (op num:Int) (val:List CellD):Prop where
 kind:1≤op∧op≤17
 hasNum:ET op=true∨num=0
 noVal:C7 op=false→val=[]
 hasVal:C7 op=true→∃t:V,t.right∧val=t.enc∧(op=11→t.kind=4)
 numOk:FE ⟨op,0,0,0,num,val⟩=true
theorem CoOk.node {d:CoD}{i:Nat}(h:CoOk d i):NodeOk d.op d.num d.val:=⟨h.op,h.num,h.noVal,h.val,h.numOk⟩
mutual
def CT.ok:CT→Prop
 | .mk op num val kids=>NodeOk op num val∧kids.length=Au op∧FP kids
def FP:List CT→Prop
 | []=>True
 |t::r=>t.ok∧FP r
end
theorem B6:∀{l:List CT},FP l↔∀t∈l,t.ok
 | []=>by unfold FP;simp
 |t::r=>by unfold FP;rw[B6];simp
theorem Ib:∀(l r:List CT),Aj (l++r)=Aj l+Aj r
 | [],r=>by rw[List.nil_append,Aj];omega
 |t::l,r=>by rw[List.cons_append,Aj,Ib l r,Aj];omega
theorem HL:∀(l r:List CT) (b:Nat),B3 b (l++r)=B3 b l++B3 (b+Aj l) r
 | [],r,b=>by rw[List.nil_append,B3,Aj];rfl
 |t::l,r,b=>by rw[List.cons_append,B3,HL l r,B3,Aj,List.append_assoc,Nat.add_assoc]
theorem LD:∀(l r:List CT) (b:Nat),As b (l++r)=As b l++As (b+Aj l) r
 | [],r,b=>by rw[List.nil_append,As,Aj];rfl
 |t::l,r,b=>by rw[List.cons_append,As,LD l r,As,Aj,List.cons_append,Nat.add_assoc]
def Seg (L:List CoD) (b:Nat) (t:CT):Prop:=∃R,L.drop b=t.flat b++R
def OG (L:List CoD) (b:Nat) (l:List CT):Prop:=∃R,L.drop b=B3 b l++R
theorem Seg.kids {L:List CoD}{b:Nat}{op num:Int}{val:List CellD}{kids:List CT}(h:Seg L b (.mk op num val kids)):OG L b kids:=by
 obtain⟨R,h⟩:=h
 exact⟨[B8 op num val (As b kids)]++R,by rw[h,CT.flat,List.append_assoc]⟩
theorem OG.head {L:List CoD}{b:Nat}{t:CT}{r:List CT}(h:OG L b (t::r)):Seg L b t:=by
 obtain⟨R,h⟩:=h
 exact⟨B3 (b+t.size) r++R,by rw[h,B3,List.append_assoc]⟩
theorem OG.tail {L:List CoD}{b:Nat}{t:CT}{r:List CT}(h:OG L b (t::r)):OG L (b+t.size) r:=by
 obtain⟨R,h⟩:=h
 refine⟨R,?_⟩
 rw[←List.drop_drop,h,B3,List.append_assoc,←t.flat_len b,List.drop_left]
theorem Seg.root {L:List CoD}{b:Nat}{op num:Int}{val:List CellD}{kids:List CT}(h:Seg L b (.mk op num val kids)):L[b+Aj kids]? = some (B8 op num val (As b kids)):=by
 obtain⟨R,h⟩:=h
 have h1:(L.drop b)[Aj kids]? = some (B8 op num val (As b kids)):=by
  rw[h,CT.flat,List.append_assoc,List.getElem?_append_right (by rw[F8];exact Nat.le_refl _),F8,Nat.sub_self]
  rfl
 rw[List.getElem?_drop]at h1
 exact h1
theorem Seg.size {L:List CoD}{b:Nat}{t:CT}(h:Seg L b t):b+t.size≤L.length:=by
 obtain⟨R,h⟩:=h
 have h1:=congrArg List.length h
 rw[List.length_drop,List.length_append,CT.flat_len]at h1
 have:=t.size_pos
 omega
theorem GB {op num:Int}{val:List CellD}{ends:List Nat}(h:ends.length=Au op):(B8 op num val ends).named=ends.map fun (x:Nat)=>(x:Int):=by
 have hal:=Bz op
 unfold CoD.named CoD.all B8
 show List.take (Au op) _=_
 rw[←h]
 rw[←h]at hal
 match ends,hal with
 | [],_=>rfl
 | [a],_=>rfl
 | [a,b],_=>rfl
 | [a,b,c],_=>rfl
 |a::b::c::e::r,h=>simp at h
theorem a1r {d:CoD}{i:Nat}(h:CoOk d i) {ends:List Nat}(he:d.named=ends.map fun (x:Nat)=>(x:Int)):d=B8 d.op d.num d.val ends:=by
 obtain⟨z1,z2,z3⟩:=h.zeros
 have hal:=Bz d.op
 have hl:=d.named_len
 unfold CoD.named CoD.all at he
 unfold B8
 have hc:Au d.op=0∨Au d.op=1∨Au d.op=2∨Au d.op=3:=by omega
 obtain⟨op,a,b,c,num,val⟩:=d
 dsimp only at *
 rcases hc with e | e | e | e<;>rw[e]at he hl z1 z2 z3
 ·have:=z1 (by omega);have:=z2 (by omega);have:=z3 (by omega);subst_vars
  simp at he
  subst he
  rfl
 ·have:=z2 (by omega);have:=z3 (by omega);subst_vars
  match ends,he with
  | [x],he=>simp at he;subst he;rfl
  | [],he=>simp at he
  |x::y::r,he=>simp at he
 ·have:=z3 (by omega);subst_vars
  match ends,he with
  | [x,y],he=>simp at he;obtain⟨rfl,rfl⟩:=he;rfl
  | [],he=>simp at he
  | [x],he=>simp at he
  |x::y::z::r,he=>simp at he
 ·match ends,he with
  | [x,y,z],he=>simp at he;obtain⟨rfl,rfl,rfl⟩:=he;rfl
  | [],he=>simp at he
  | [x],he=>simp at he
  | [x,y],he=>simp at he
  |x::y::z::w::r,he=>simp at he
theorem TZ {L:List CoD}{f:Nat→Int}(hf:∀(o:Nat),0≤f o→∃t:CT,t.ok∧Seg L (f o).toNat t∧(f o).toNat+t.size=o+1):∀(ks:List Int) (e:Nat) (b:Nat),(∀o∈ks,0≤o)→C1 f ks e=b →
  ∃l:List CT,FP l∧L.drop b=B3 b l++L.drop e∧b+Aj l=e∧ks.reverse=(As b l).map fun (x:Nat)=>(x:Int)
 | [],e,b,_,h=>by
  have:e=b:=by unfold C1 at h;omega
  subst this
  exact⟨[],by unfold FP;trivial,by rw[B3];rfl,by rw[Aj];rfl,by rw[As];rfl⟩
 |o::r,e,b,hks,h=>by
  have h0:=hks o (by simp)
  unfold C1 at h
  split at h
  ·omega
  ·rename_i ho
   split at h
   ·omega
   ·rename_i hn
    have ho:o=(e:Int)-1:=by omega
    obtain⟨t,t1,t2,t3⟩:=hf o.toNat (by omega)
    obtain⟨b',hb'⟩:∃b':Nat,f o.toNat=(b':Int):=⟨(f o.toNat).toNat,by omega⟩
    rw[hb']at h t2 t3
    rw[Int.toNat_natCast]at t2 t3
    have tp:=t.size_pos
    have he:o.toNat+1=e:=by omega
    obtain⟨l,l1,l2,l3,l4⟩:=TZ hf r b' b (fun x hx=>hks x (by simp[hx])) h
    obtain⟨R,t2⟩:=t2
    have hR:R=L.drop e:=by
     have:(L.drop b').drop t.size=R:=by rw[t2,←t.flat_len b',List.drop_left]
     rw[←this,List.drop_drop]
     congr 1
     omega
    refine⟨l++[t],B6.2 fun x hx=>?_,?_,?_,?_⟩
    ·rcases List.mem_append.1 hx with hx | hx
     ·exact B6.1 l1 x hx
     ·rw[List.mem_singleton.1 hx];exact t1
    ·rw[HL,l3,l2,t2,hR,B3,B3,List.append_nil,List.append_assoc]
    ·rw[Ib,Aj,Aj];omega
    ·rw[List.reverse_cons,l4,LD,List.map_append,l3,As,As]
     congr 1
     simp
     omega
theorem RU {L:List CoD}(hL:∀(k:Nat) (h:k<L.length),CoOk L[k] k):∀(n i b:Nat),C3 L n i=b→∃t:CT,t.ok∧Seg L b t∧b+t.size=i+1
 | 0,i,b,h=>by unfold C3 at h;omega
 |n+1,i,b,h=>by
  unfold C3 at h
  cases hd:L[i]? with
  |none=>rw[hd]at h;simp only at h;omega
  |some d =>
   rw[hd]at h
   simp only at h
   obtain⟨hi,hdi⟩:=List.getElem?_eq_some_iff.1 hd
   have ho:CoOk d i:=by have:=hL i hi;rw[hdi]at this;exact this
   obtain⟨l,l1,l2,l3,l4⟩:=TZ (L:=L) (f:=C3 L n) (fun o h0=>by
    obtain⟨t,t1,t2,t3⟩:=RU hL n o (C3 L n o).toNat (by omega)
    exact⟨t,t1,t2,t3⟩) d.named.reverse i b (fun o ho'=>(ho.ahead o (List.mem_reverse.1 ho')).1) h
   rw[List.reverse_reverse]at l4
   have hlen:l.length=Au d.op:=by
    have:=congrArg List.length l4
    rw[d.named_len,List.length_map,D6]at this
    omega
   refine⟨.mk d.op d.num d.val l,?_,?_,?_⟩
   ·unfold CT.ok
    exact⟨ho.node,hlen,l1⟩
   ·refine⟨L.drop (i+1),?_⟩
    rw[l2,CT.flat,List.append_assoc,←a1r ho l4,List.drop_eq_getElem_cons hi,hdi]
    rfl
   ·rw[CT.size];omega
set_option maxRecDepth 10000
theorem Cq (c:Int):AC Tryz.prog 90 [.c (.int .i64 c)] [] (.agg [.c (.int .i64 c),.nils]) []:=by
 refine A7 Tryz.func90 Tryz.ntmps90 ?_
 refine A3 q9 ?_
 exact Ad (A6 []) Tryz.results90
theorem St:BE.enc.map CellD.cs=[[.int .i64 0,.int .i64 0,.str ByteArray.empty,.str ByteArray.empty,.int .i64 0]]:=rfl
theorem FX:AC Tryz.prog 223 [] [] (.own (0,0)) [((0,0),.row false 5 80 (BE.enc.map CellD.cs))]:=by
 rw[St]
 refine A7 Tryz.func223 Tryz.ntmps223 ?_
 refine A3 q9 ?_
 exact Ab (Aa [((0,0),(2,0))] []) Tryz.results223 @St
def vrA (r:Int×Option V):AV:=match r.2 with
 |some t=>.agg [.c (.int .i64 0),.c (.sl (t.enc.map CellD.cs))]
 |none=>.agg [.c (.int .i64 r.1),.c (.sl [])]
theorem BG (c:Int) (t:V):vrA (c,some t)=.agg [.c (.int .i64 0),.c (.sl (t.enc.map CellD.cs))]:=rfl
theorem Bv (c:Int):vrA (c,none)=.agg [.c (.int .i64 c),.c (.sl [])]:=rfl
theorem BH (t:V):vrA (okR t)=.agg [.c (.int .i64 0),.c (.sl (t.enc.map CellD.cs))]:=rfl
theorem DS (c:Int):vrA (Ew c)=.agg [.c (.int .i64 c),.c (.sl [])]:=rfl
theorem ZR {t:V}(h:t.right) (key:ByteArray):AC Tryz.prog 346 [AH t.enc,.c (.str key)] [] (vrA (Cm t key)) []:=by
 have hr0:A9 (t.enc.map CellD.cs) 5 0=true:=by unfold A9;rw[show (0:Int).toNat=0 from rfl,AL];rfl
 have hg0:=AL t
 by_cases h0:t.kind=0
 ·have hr:Cm t key=okR BE:=by unfold Cm;rw[if_pos h0]
  have hb:(t.kind==0)=true:=by simpa using h0
  rw[hr,BH]
  refine A7 Tryz.func346 Tryz.ntmps346 ?_
  refine A3 (j3 hr0 hg0 hb) ?_
  refine w12 (C9 [] FX) q9 ?_
  refine A3 q9 ?_
  exact Ab (Aa [] [(12,0)]) Tryz.results346 hb
 ·have hb:(t.kind==0)=false:=by simpa using h0
  by_cases h6:t.kind=6
  ·have hb6:(t.kind != 6)=false:=by simpa using h6
   obtain⟨hs,_,hkl⟩:=DM h h6
   have hkn:=BI h.2.1
   have hkeys:=FU h.1 h.2.1
   have hparts:=Dg h.1 h.2.1
   have hkat:∀i (hi:i<t.keys.length),t.keyAt i=t.keys[i]:=fun i hi=>by
    unfold V.keyAt
    rw[if_pos h6,List.drop_eq_getElem_cons hi]
    rfl
   have hr:Cm t key=okR (t.member key):=by unfold Cm;rw[if_neg h0,if_pos h6]
   rw[hr,BH]
   refine A7 Tryz.func346 Tryz.ntmps346 ?_
   refine A3 (j4 hr0 hg0 hb hb6) ?_
   refine w9 (A5 [] hkeys) q9 ?_
   refine A3 q9 ?_
   refine Ay (κ:=Nat) (fun k=>⟨mkS 0 42 [(0,AH t.enc),(1,.c (.str key)),(4,.ptr (4,0) 0),(5,.c (.sl ((BN t t.kids.length).map Ag))),(6,.c (.int .i64 k))],[((4,0),.box [.c (.int .i64 0),.nils])]⟩)
    (fun k=>k≤t.kids.length∧∀j (hj:j<t.keys.length),j<k→t.keys[j].toList≠key.toList) (fun k=>t.kids.length-k) 0 ⟨Nat.zero_le _,by intro j _ hj;omega⟩ ?_ ?_
   ·exact Af (Am.of [((4,0),(4,0))] []) hb
   ·rintro k ⟨hk,hno⟩
    have hkol:(BN t t.kids.length).length=t.kids.length:=HS t _
    by_cases hlt:k<t.kids.length
    ·have hd:decide ((k:Int)<(t.kids.length:Int))=true:=by simpa using hlt
     have hw:=Ah (k:=k) (by omega)
     have hr2:A9 ((BN t t.kids.length).map Ag) 1 k=true:=by simp[A9,BN,hlt,Ag]
     have hg2:((BN t t.kids.length).map Ag)[k]? = some [.str t.keys[k]]:=by simp[BN,hlt,Ag,hkat k (by omega)]
     have hr3:A9 ((t.kids.map V.enc).map Al) 1 k=true:=by simp[A9,hlt,Al]
     have hg3:((t.kids.map V.enc).map Al)[k]? = some [.sl (t.kids[k].enc.map CellD.cs)]:=by simp[hlt,Al]
     cases he:t.keys[k].toList==key.toList with
     |true =>
      have hm:t.member key=t.kids[k]:=by
       unfold V.member Fo
       rw[List.findIdx?_eq_some_iff_getElem.2 ⟨by omega,he,fun j hj=>by simpa using hno j (by omega) hj⟩]
       simp only
       rw[List.getD_eq_getElem?_getD,List.getElem?_eq_getElem hlt,Option.getD_some]
      rw[hm]
      generalize t.kids[k]=u at *
      refine A3 (j5 hkol hd hr2 hg2 he) ?_
      refine w9 (A5 [] hparts) q9 ?_
      refine A3 (j2 hr3 hg3) ?_
      exact Ad (A6 []) Tryz.results346
     |false =>
      refine A3 (j6 hkol hd hr2 hg2 he hw) ?_
      refine⟨k+1,by omega,⟨by omega,fun j hj hjk=>?_⟩,?_⟩
      ·by_cases hjk':j=k
       ·subst hjk';simpa using he
       ·exact hno j hj (by omega)
      ·exact Af (Am.of [((4,0),(4,0))] []) hb
    ·have hd:decide ((k:Int)<(t.kids.length:Int))=false:=by simpa using hlt
     have hm:t.member key=BE:=by
      unfold V.member Fo
      rw[List.findIdx?_eq_none_iff.2 fun x hx=>by
       obtain⟨i,hi,rfl⟩:=List.getElem_of_mem hx
       simpa using hno i hi (by omega)]
     rw[hm]
     refine A3 (j2 hkol hd) ?_
     refine w12 (C9 [] FX) q9 ?_
     refine A3 q9 ?_
     exact Ab (Aa [] [(40,0)]) Tryz.results346 hb
  ·have hr:Cm t key=Ew 6:=by unfold Cm;rw[if_neg h0,if_neg h6]
   have hb6:(t.kind != 6)=true:=by simpa using h6
   rw[hr,DS]
   refine A7 Tryz.func346 Tryz.ntmps346 ?_
   refine A3 (j4 hr0 hg0 hb hb6) ?_
   refine w7 (A4 [] (Cq 6)) q9 ?_
   refine A3 q9 ?_
   exact Ad (A6 []) Tryz.results346
set_option maxRecDepth 10000
theorem L5 (n lo hi:Int):AC Tryz.prog 67 [.c (.int .i64 n),.c (.int .i64 lo),.c (.int .i64 hi)] [] (.c (.bool (decide (n≥lo)&&decide (n≤hi)))) []:=by
 cases h1:decide (n≥lo)<;>cases h2:decide (n≤hi)
 all_goals
  refine A7 Tryz.func67 Tryz.ntmps67 ?_
  refine A3 (j2 h1 h2) ?_
  exact Ad (A6 []) Tryz.results67
theorem V2 {t:V}(h:t.right) (n:Int) (hn:-1000000000000000≤n∧n≤1000000000000000):AC Tryz.prog 347 [AH t.enc,.c (.int .i64 n)] [] (vrA (BR t n)) []:=by
 have hkl:=BI h.2.1
 have hr0:A9 (t.enc.map CellD.cs) 5 0=true:=by unfold A9;rw[show (0:Int).toNat=0 from rfl,AL];rfl
 have hg0:=AL t
 by_cases h0:t.kind=0
 ·have hr:BR t n=okR BE:=by unfold BR;rw[if_pos h0]
  have hb:(t.kind==0)=true:=by simpa using h0
  rw[hr,BH]
  refine A7 Tryz.func347 Tryz.ntmps347 ?_
  refine A3 (j3 hr0 hg0 hb) ?_
  refine w12 (C9 [] FX) q9 ?_
  refine A3 q9 ?_
  exact Ab (Aa [] [(10,0)]) Tryz.results347 hb
 ·have hb:(t.kind==0)=false:=by simpa using h0
  by_cases h5:t.kind=5
  ·have hb5:(t.kind != 5)=false:=by simpa using h5
   have hwm:IntKind.i64.wrap ((t.kids.length:Int)-1)=(t.kids.length:Int)-1:=IntWalk.i64_in _ (by omega)
   have hwi:=L5 (Dc n t.kids.length) 0 ((t.kids.length:Int)-1)
   have hparts:=Dg h.1 h.2.1
   have hsplit:(decide (n<0)=true∧IntKind.i64.wrap (n+(t.kids.length:Int))=Dc n t.kids.length)∨(decide (n<0)=false∧n=Dc n t.kids.length):=by
    unfold Dc
    by_cases hneg:n<0
    ·rw[if_pos hneg]
     exact .inl ⟨by simpa using hneg,IntWalk.i64_in _ (by omega)⟩
    ·rw[if_neg hneg]
     exact .inr ⟨by simpa using hneg,rfl⟩
   cases hin:(decide (Dc n t.kids.length≥0)&&decide (Dc n t.kids.length≤(t.kids.length:Int)-1)) with
   |false =>
    rw[hin]at hwi
    have hr:BR t n=okR BE:=by
     unfold BR
     rw[if_neg h0,if_pos h5,if_neg]
     simp at hin
     omega
    rw[hr,BH]
    generalize Dc n t.kids.length=q at *
    rcases hsplit with⟨hd,hwa⟩ | ⟨hd,rfl⟩
    ·refine A7 Tryz.func347 Tryz.ntmps347 ?_
     refine A3 (j7 hr0 hg0 hb hb5 hd hwa hwm) ?_
     refine w7 (A4 [] hwi) q9 ?_
     refine A3 q9 ?_
     refine w12 (C9 [] FX) q9 ?_
     refine A3 q9 ?_
     exact Ab (Aa [] [(34,0)]) Tryz.results347 hb
    ·refine A7 Tryz.func347 Tryz.ntmps347 ?_
     refine A3 (j6 hr0 hg0 hb hb5 hd hwm) ?_
     refine w7 (A4 [] hwi) q9 ?_
     refine A3 q9 ?_
     refine w12 (C9 [] FX) q9 ?_
     refine A3 q9 ?_
     exact Ab (Aa [] [(34,0)]) Tryz.results347 hb
   |true =>
    rw[hin]at hwi
    simp at hin
    obtain⟨p,hp,hpl⟩:∃p:Nat,Dc n t.kids.length=p∧p<t.kids.length:=⟨(Dc n t.kids.length).toNat,by omega,by omega⟩
    have hr:BR t n=okR t.kids[p]:=by
     unfold BR
     rw[if_neg h0,if_pos h5,hp,if_pos (by omega),Int.toNat_natCast,List.getD_eq_getElem?_getD,List.getElem?_eq_getElem hpl,Option.getD_some]
    have hr3:A9 ((t.kids.map V.enc).map Al) 1 p=true:=by simp[A9,hpl,Al]
    have hg3:((t.kids.map V.enc).map Al)[p]? = some [.sl (t.kids[p].enc.map CellD.cs)]:=by simp[hpl,Al]
    rw[hr,BH]
    generalize t.kids[p]=u at *
    rw[hp]at hwi hsplit
    rcases hsplit with⟨hd,hwa⟩ | ⟨hd,rfl⟩
    ·refine A7 Tryz.func347 Tryz.ntmps347 ?_
     refine A3 (j7 hr0 hg0 hb hb5 hd hwa hwm) ?_
     refine w7 (A4 [] hwi) q9 ?_
     refine A3 q9 ?_
     refine w9 (A5 [] hparts) q9 ?_
     refine A3 (j2 hr3 hg3) ?_
     exact Ad (A6 []) Tryz.results347
    ·refine A7 Tryz.func347 Tryz.ntmps347 ?_
     refine A3 (j6 hr0 hg0 hb hb5 hd hwm) ?_
     refine w7 (A4 [] hwi) q9 ?_
     refine A3 q9 ?_
     refine w9 (A5 [] hparts) q9 ?_
     refine A3 (j2 hr3 hg3) ?_
     exact Ad (A6 []) Tryz.results347
  ·have hr:BR t n=Ew 6:=by unfold BR;rw[if_neg h0,if_neg h5]
   have hb5:(t.kind != 5)=true:=by simpa using h5
   rw[hr,DS]
   refine A7 Tryz.func347 Tryz.ntmps347 ?_
   refine A3 (j4 hr0 hg0 hb hb5) ?_
   refine w7 (A4 [] (Cq 6)) q9 ?_
   refine A3 q9 ?_
   exact Ad (A6 []) Tryz.results347
theorem a1m {t k:V}(h:t.right) (hk:k.right):AC Tryz.prog 288 [AH t.enc,AH k.enc] [] (vrA (CB t k)) []:=by
 have hr0:A9 (k.enc.map CellD.cs) 5 0=true:=by unfold A9;rw[show (0:Int).toNat=0 from rfl,AL];rfl
 have hg0:=AL k
 by_cases h4:k.kind=4
 ·have hb:(k.kind==4)=true:=by simpa using h4
  have hr:CB t k=Cm t k.text:=by unfold CB;rw[if_pos h4]
  have hg:=ZR h k.text
  rw[hr]
  generalize Cm t k.text=r at *
  rcases r with⟨c,_ | u⟩
  all_goals
   simp only[BG,Bv]at hg ⊢
   refine A7 Tryz.func288 Tryz.ntmps288 ?_
   refine A3 (j3 hr0 hg0 hb) ?_
   refine w9 (A5 [] hg) q9 ?_
   refine A3 q9 ?_
   exact Ad (A6 []) Tryz.results288
 ·have hb:(k.kind==4)=false:=by simpa using h4
  by_cases h3:k.kind=3
  ·have hb3:(k.kind==3)=true:=by simpa using h3
   have hr:CB t k=BR t k.num:=by unfold CB;rw[if_neg h4,if_pos h3]
   have hg:=V2 h k.num (Cz hk)
   rw[hr]
   generalize BR t k.num=r at *
   rcases r with⟨c,_ | u⟩
   all_goals
    simp only[BG,Bv]at hg ⊢
    refine A7 Tryz.func288 Tryz.ntmps288 ?_
    refine A3 (j4 hr0 hg0 hb hb3) ?_
    refine w9 (A5 [] hg) q9 ?_
    refine A3 q9 ?_
    exact Ad (A6 []) Tryz.results288
  ·have hb3:(k.kind==3)=false:=by simpa using h3
   have hr:CB t k=Ew 6:=by unfold CB;rw[if_neg h4,if_neg h3]
   rw[hr,DS]
   refine A7 Tryz.func288 Tryz.ntmps288 ?_
   refine A3 (j4 hr0 hg0 hb hb3) ?_
   refine w7 (A4 [] (Cq 6)) q9 ?_
   refine A3 q9 ?_
   exact Ad (A6 []) Tryz.results288
def RY (n:Nat) (b:Int) (out:List Int):Prop:=out.length=n∧∀v∈out,-1≤v∧v≤b
theorem RY.get {n:Nat}{b:Int}{out:List Int}(h:RY n b out) (hb:0≤b) (m:Nat):-1≤out.getD m 0∧out.getD m 0≤b:=by
 rw[List.getD_eq_getElem?_getD]
 by_cases hm:m<out.length
 ·rw[List.getElem?_eq_getElem hm,Option.getD_some]
  exact h.2 _ (List.getElem_mem hm)
 ·rw[List.getElem?_eq_none (by omega),Option.getD_none]
  omega
theorem RY.set {n:Nat}{b:Int}{out:List Int}(h:RY n b out) {m:Nat}{x:Int}(hx:-1≤x∧x≤b):RY n b (out.set m x):=by
 refine⟨by rw[List.length_set];exact h.1,fun v hv=>?_⟩
 rcases List.mem_or_eq_of_mem_set hv with hv | rfl
 ·exact h.2 v hv
 ·exact hx
theorem RY.up {n:Nat}{b c:Int}{out:List Int}(h:RY n b out) (hc:b≤c):RY n c out:=⟨h.1,fun v hv=>by have:=h.2 v hv;omega⟩
set_option maxRecDepth 10000
abbrev IQ (l:List Int):AV:=.c (.sl (l.map AB))
end Go.Proofs.YtcejfdfmgmcinaaGreat
