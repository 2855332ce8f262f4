/- Texts of this proof: G29 G30 D40. -/
import Derived.Test.YtllfmaflodbieaaGreatDoorKD39
set_option linter.all false
set_option maxHeartbeats 8000000
namespace Go.Proofs.YtllfmaflodbieaaGreatDoor
open Go.RowKit
set_option maxRecDepth 10000
theorem a0s (l:List (List CellD)):((l.map Xw).all fun r=>r.length==1)=true:=by simp[Xw]
attribute [go_sem] a0s
set_option maxRecDepth 10000
theorem Wj (t:V):AC Tryz.prog 78 [Ce t.enc] [] (.c (.bool t.kids.isEmpty)) []:=by
 have hr0:Aj (t.enc.map CellD.cs) 5 0=true:=by unfold Aj;rw[show (0:Int).toNat=0 from rfl,Dp];rfl
 have hg0:=Dp t
 have h0:(((t.kids.length:Int))==0)=t.kids.isEmpty:=by cases t.kids<;>simp;omega
 refine A6 Tryz.func78 Tryz.ntmps78 ?_
 refine A0 (j2 hr0 hg0) ?_
 exact A7 [] (by simp only[Tryz.results78,go_sem,Nat.reduceBEq,Nat.reduceLT];exact rfl) (by simp only[go_sem,Nat.reduceEqDiff,Nat.reduceAdd,Nat.reduceSub,Nat.reduceLeDiff,Nat.reduceMul,Nat.reduceBEq,Nat.reduceLT,Int.reduceToNat,reduceCtorEq,h0]) rfl
def a2n (ahead:List V) (e:Ev):Ev:=(ahead++e.1,e.2)
def a2o (ahead:List V) (l:List Ev):List (List C):=((l.map (a2n ahead)).map fun e=>(evV e).enc).map Xw
theorem p8 (ahead:List V) (l:List Ev):(a2o ahead l).length=l.length:=by simp[a2o]
theorem p7 (ahead:List V) (l:List Ev):BA (a2o ahead l)=true:=TT _
theorem a11 (ahead:List V) (l:List Ev):((a2o ahead l).all fun r=>r.length==1)=true:=a0s _
attribute [go_sem] p8 p7 a11
set_option maxRecDepth 10000
theorem a17 {s:ByteArray}{p:List V×V}(h:FlatOk p s) (n:Nat) (hn:p.1.length<n):∃i,Hq s n 1 []=some (p.1,i)∧i+3≤s.size∧s.extract i (i+3)=JZ∧Cq 20 s (i+3)=.ok p.2 s.size:=by
 have hl:=L0 h
 have hl1:s.data.toList.drop 1=Cy p.1++32::([61,32]++p.2.txt.data.toList):=by rw[hl];simp
 have ht:=a01 p.1 n 1 [] ([61,32]++p.2.txt.data.toList) h.keys hl1 hn
 have hl2:s.data.toList.drop (1+(Cy p.1).length)=[32,61,32]++p.2.txt.data.toList:=by rw[←List.drop_drop,hl1,List.drop_left];rfl
 have hl3:s.data.toList.drop (1+(Cy p.1).length+3)=p.2.txt.data.toList++[]:=by rw[←List.drop_drop,hl2];simp
 obtain⟨v1,_⟩:=NE h.right hl3 trivial
 have hsz:s.size=1+(Cy p.1).length+3+p.2.txt.size:=by rw[←AL,hl,←AL];simp;omega
 refine⟨1+(Cy p.1).length,by rw[ht,List.nil_append],by omega,?_,by rw[v1,hsz]⟩
 apply O5
 rw[CJ,List.drop_take,hl2]
 simp[JZ]
theorem n9 {s:ByteArray}{i e:Nat}{v:V}(hi:i≤s.size) (h:Cq 20 s i=.ok v e):i<e∧e≤s.size∧v.fit∧v.depth≤20∧v.count≤e-i∧(v.count≤200→v.wf):=by
 have hf:=C2 (s:=s) 20 i hi
 rw[h]at hf
 exact⟨hf.1,hf.2.1,hf.2.2.1,hf.2.2.2.1,hf.2.2.2.2.1,hf.2.2.2.2.2⟩
theorem Mf:∀(l:List V) (v:V),An (l++[v])=An l+v.count
 | [],v=>by simp[An]
 |x::l,v=>by
  rw[List.cons_append]
  simp only[An]
  rw[Mf l v]
  omega
theorem t8 {v:V}(h:v.kids.isEmpty=true) (hd:v.depth≤20) (hw:v.count≤200→v.wf):v.right:=by
 have hc:v.count=1:=by
  cases v with
  |mk a b c d k =>
   simp only[V.kids,List.isEmpty_iff]at h
   subst h
   rfl
 exact⟨hw (by omega),by omega,hd⟩
theorem ZX {p:List V}(h:∀k∈p,FV k) (hl:p.length≤199):(DB p).right∧Bn (DB p).enc=(0,some (DB p).kids)∧(DB p).kids.any BM=false:=by
 obtain⟨h1,h2,h3⟩:=EH h
 have hr:(DB p).right:=⟨Y4 h3 (by omega),by simp only[DB,V.count];omega,by simp only[DB,V.depth];omega⟩
 have hb:p.any BM=false:=by
  rw[List.any_eq_false]
  intro q hq
  unfold BM
  rcases (h q hq).2.2.2 with h | h<;>simp[h]
 refine⟨hr,?_,hb⟩
 rw[Ga hr.1 hr.2.1 hr.2.2]
 show (if ((5:Int) != 5||p.any BM)=true then _ else (0,some p))=_
 rw[hb]
 rfl
theorem a1q {p:List V}(hf:(DB p).fit) (h:(Bn (DB p).enc).1=0):(∀k∈p,FV k)∧p.length≤199∧(DB p).right∧Bn (DB p).enc=(0,some (DB p).kids)∧(DB p).kids.any BM=false:=by
 have hr:(DB p).right:=by
  apply a0u hf
  unfold Bn at h
  rcases Fg (DB p).enc with⟨t,ht⟩ | ⟨c,hc,hd⟩
  ·rw[ht]
  ·rw[hd]at h
   exact absurd h hc
 have hb:p.any BM=false:=by
  rw[Ga hr.1 hr.2.1 hr.2.2]at h
  cases hq:p.any BM with
  |false=>rfl
  |true =>
   exfalso
   change (if ((5:Int) != 5||p.any BM)=true then ((6:Int),(none:Option (List V))) else (0,some p)).1=0 at h
   rw[hq]at h
   simp at h
 have hk:∀k∈p,FV k:=fun k hk=>by
  have h1:=List.any_eq_false.1 hb k hk
  unfold BM at h1
  have h2:k.kind=4∨k.kind=3:=by
   simp only[Bool.and_eq_true,bne_iff_ne,ne_eq,not_and,Decidable.not_not]at h1
   by_cases h4:k.kind=4
   ·exact .inl h4
   ·exact .inr (h1 h4)
  exact m9 (Cg hr hk) h2
 have hl:p.length≤199:=by
  have h1:=(EH hk).1
  have h2:=hr.2.1
  simp only[DB,V.count]at h2
  omega
 exact⟨hk,hl,ZX hk hl⟩
theorem r7 (s:ByteArray) (hs:s.size≤4000) {p:List V×V}(h:FX s=some p):AC Tryz.prog 42 [.c (.str s)] [] (.tup [.c (.sl ((p.1.map V.enc).map AD)),.c (.sl (p.2.enc.map CellD.cs)),.c (.bool true)]) []:=by
 have hfo:=(Gq hs).1 h
 obtain⟨pa,v⟩:=p
 have hl:=L0 hfo
 have hpl:=Lp pa
 dsimp only at hl ⊢
 have h0:1+(Cy pa).length≤s.size:=by rw[←AL,hl];simp;omega
 have h46:bAt s 0=46:=Iq (e:=0) (b:=46) (by rw[List.drop_zero];exact hl)
 obtain⟨i0,hR,h3,hx3,hv3⟩:=a17 hfo (s.size+1) (by dsimp only;omega)
 dsimp only at hR
 obtain⟨R,hR0⟩:∃R,R=some (pa,i0):=⟨_,rfl⟩
 rw[←hR0]at hR
 have h00:((0:Int) != 0)=false:=rfl
 have hlen0:((s.size:Int)==0)=false:=by rw[beq_eq_false_iff_ne];omega
 obtain⟨bf,hgf,hbf⟩:=Aw (s:=s) (i:=0) (by omega)
 have hg0:s[(0:Nat)]? = some bf:=hgf
 have e46:(((bf.toNat:Nat):Int) != 46)=false:=by rw[←hbf,h46];rfl
 refine A6 Tryz.func42 Tryz.ntmps42 ?_
 refine A0 (j3 hlen0 hg0 e46) ?_
 refine AG (κ:=Nat×List V×Nat) (fun x=>⟨mkS 0 111 [(0,.c (.str s)),(5,.own (98,0)),(6,.c (.int .i64 x.2.2))],[((98,0),.row false 1 36 ((x.2.1.map V.enc).map AD))]⟩)
  (fun x=>s.size-x.2.2<x.1∧x.2.2≤s.size∧An x.2.1≤x.2.2∧x.2.1.length≤x.2.2∧(∀k∈x.2.1,k.fit)∧Hq s x.1 x.2.2 x.2.1=R) (fun x=>s.size+1-x.2.2) (s.size+1,[],1) ⟨by dsimp only;omega,by dsimp only;omega,Nat.zero_le _,Nat.zero_le _,by simp,hR⟩ ?_ ?_
 ·exact Aq (As.of [((98,0),(10,0))] []) @List.map_nil.{0,0}
 ·rintro⟨n,acc,i⟩ ⟨hn,hi,hcl,hal,hfit,hgo⟩
  dsimp only at hn hi hcl hal hfit hgo ⊢
  obtain⟨n,rfl⟩:∃m,n=m+1:=⟨n-1,by omega⟩
  unfold Hq at hgo
  by_cases h91:bAt s i=91
  ·rw[if_pos h91]at hgo
   have hlt:i<s.size:=BW (by omega)
   have hdk:decide ((i:Int)<(s.size:Int))=true:=decide_eq_true (by omega)
   obtain⟨b,hg,hb⟩:=Aw hlt
   have e91:(((b.toNat:Nat):Int)==91)=true:=by rw[←hb,h91];rfl
   have hw1:=Ae (k:=i) (by omega)
   obtain⟨x1,hone⟩:=Fw s (by omega) 20 0 rfl (i+1) (by omega)
   cases hR1:Cq 20 s (i+1) with
   |bad c q =>
    rw[hR1]at hgo hone
    dsimp only at hgo
    rw[←hgo]at hR0
    cases hR0
   |ok v e =>
    rw[hR1]at hgo hone
    dsimp only at hgo
    obtain⟨he1,he2,hvf,hvd,hvc⟩:=n9 (show i+1≤s.size by omega) hR1
    unfold rdA Dk at hone
    by_cases h93:bAt s e=93
    ·rw[if_pos h93]at hgo
     have hlt2:e<s.size:=BW (by omega)
     have cge:decide ((e:Int)≥(s.size:Int))=false:=decide_eq_false (by omega)
     obtain⟨b2,hg2,hb2⟩:=Aw hlt2
     have e93:(((b2.toNat:Nat):Int) != 93)=false:=by rw[←hb2,h93];rfl
     have hw2:=Ae (k:=e) (by omega)
     have hol:acc.length+1≤1000000:=by omega
     have hrow:((acc++[v]).map V.enc).map AD=(acc.map V.enc).map AD++[[.sl (v.enc.map CellD.cs)]]:=by simp[AD]
     have hcl2:An (acc++[v])=An acc+v.count:=Mf acc v
     refine A0 (j4 hdk hg e91 hw1) ?_
     refine w9 (Aa [] hone) trivial ?_
     refine A0 (j6 h00 cge hg2 e93 hol hw2) ?_
     refine⟨(n,acc++[v],e+1),by dsimp only;omega,⟨by dsimp only;omega,by dsimp only;omega,by dsimp only;omega,by dsimp only;rw[List.length_append,List.length_singleton];omega,fun k hk=>?_,hgo⟩,?_⟩
     ·rcases List.mem_append.1 hk with hk | hk
      ·exact hfit k hk
      ·rw[List.mem_singleton.1 hk];exact hvf
     exact Aq (As.of [((98,0),(54,0))] []) (j2 hw2 hrow)
    ·rw[if_neg h93]at hgo
     rw[←hgo]at hR0
     cases hR0
  ·rw[if_neg h91]at hgo
   have hst:(decide ((i:Int)<(s.size:Int))=false∧s.size≤i∧True)∨(decide ((i:Int)<(s.size:Int))=true∧∃b:UInt8,s[i]? = some b∧(((b.toNat:Nat):Int)==91)=false):=by
    by_cases hlt:i<s.size
    ·obtain⟨b,hg,hb⟩:=Aw hlt
     exact .inr ⟨decide_eq_true (by omega),b,hg,by rw[←hb];simp;omega⟩
    ·exact .inl ⟨decide_eq_false (by omega),by omega,trivial⟩
   have hw3:IntKind.i64.wrap ((i:Int)+3)=((i+3:Nat):Int):=by rw[CG (by omega) (by omega)];omega
   rw[hR0]at hgo
   injection hgo with hgo
   obtain⟨hacc,rfl⟩:=Prod.mk.inj hgo
   rcases hst with⟨hdk,hsz,_⟩ | ⟨hdk,b,hg,e91⟩
   ·omega
   obtain⟨x2,htwo⟩:=Fw s (by omega) 20 0 rfl (i+3) h3
   rw[hv3]at htwo
   unfold rdA Dk at htwo
   have c3:decide (((i+3:Nat):Int)>(s.size:Int))=false:=decide_eq_false (by omega)
   have c4:i≤i+3:=by omega
   have c5:i+3≤s.size:=h3
   have e3:=H4 hx3
   unfold JZ at e3
   generalize hL:s.extract i (i+3)=L3 at *
   have harr:=QB acc (by simp only[DB,V.count];omega)
   have hpf:=E3 (DB acc).enc
   have hacc':=hacc.symm
   subst hacc'
   have hleaf:=hfo.leaf
   have hkeys:=hfo.keys
   have hp199:=hfo.len
   have hvr:=hfo.right
   have htxt:=hfo.text
   dsimp only at hleaf hkeys hp199 hvr htxt hv3
   have hlf:=Wj v
   rw[hleaf]at hlf
   have hes:((s.size:Int) != (s.size:Int))=false:=by simp
   obtain⟨har,hpd,hbk⟩:=ZX hkeys hp199
   have hpc:((Bn (DB pa).enc).1 != 0)=false:=by rw[hpd];rfl
   have hpt:=FW har hpd hbk
   have hen:=MI _ v (Nat.le_refl _) hvr
   change AC _ _ _ _ (.agg [.c (.int .i64 0),.c (.str (AW pa))]) _ at hpt
   have hps:=Ee (fun k hk=>(hkeys k hk).1) pa.length (Nat.le_refl _)
   rw[List.take_length]at hps
   have hvs:=En hvr
   have e4:(⟨#[32,61,32]⟩:ByteArray).size=3:=rfl
   have y1:(AW pa).size+3≤9223372036854775807:=by omega
   have y2:(AW pa++⟨#[32,61,32]⟩).size+v.txt.size≤9223372036854775807:=by rw[ByteArray.size_append,e4];omega
   have hne2:((AW pa++⟨#[32,61,32]⟩++v.txt).toList==s.toList)=true:=H4 htxt
   clear htxt hfo hR0 hR
   generalize (Bn (DB pa).enc).1=kp at *
   generalize hu1:AW pa++⟨#[32,61,32]⟩=u1 at *
   generalize hu2:u1++v.txt=u2 at *
   refine A0 (j9 hdk hg e91 hw3 c3 c4 c5 hL e3) ?_
   refine w9 (Aa [] htwo) trivial ?_
   refine A0 trivial ?_
   refine w9 (Aa [(98,0)] harr) trivial ?_
   refine A0 (j2 h00 hes) ?_
   refine w7 (A3 [] hlf) trivial ?_
   refine A0 trivial ?_
   refine w7 (A3 [] hpf) trivial ?_
   refine A0 hpc ?_
   refine w7 (A3 [] hpt) trivial ?_
   refine A0 (j2 y1 hu1) ?_
   refine w7 (A3 [] hen) trivial ?_
   refine A0 (j3 y2 hu2 hne2) ?_
   exact A9 (A8 [] [(98,0)]) Tryz.results42 hne2
theorem d9 (s:ByteArray) (hs:s.size≤4000) (h:FX s=none) (h46:bAt s 0=46):AC Tryz.prog 42 [.c (.str s)] [] (.tup [.undef,.undef,.c (.bool false)]) []:=by
 have hfo:=Xj hs h
 have h0:0<s.size:=BW (by omega)
 obtain⟨R,hR⟩:∃R,Hq s (s.size+1) 1 []=R:=⟨_,rfl⟩
 have h00:((0:Int) != 0)=false:=rfl
 have hlen0:((s.size:Int)==0)=false:=by rw[beq_eq_false_iff_ne];omega
 obtain⟨bf,hgf,hbf⟩:=Aw (s:=s) (i:=0) (by omega)
 have hg0:s[(0:Nat)]? = some bf:=hgf
 have e46:(((bf.toNat:Nat):Int) != 46)=false:=by rw[←hbf,h46];rfl
 refine A6 Tryz.func42 Tryz.ntmps42 ?_
 refine A0 (j3 hlen0 hg0 e46) ?_
 refine AG (κ:=Nat×List V×Nat) (fun x=>⟨mkS 0 111 [(0,.c (.str s)),(5,.own (98,0)),(6,.c (.int .i64 x.2.2))],[((98,0),.row false 1 36 ((x.2.1.map V.enc).map AD))]⟩)
  (fun x=>s.size-x.2.2<x.1∧x.2.2≤s.size∧An x.2.1≤x.2.2∧x.2.1.length≤x.2.2∧(∀k∈x.2.1,k.fit)∧Hq s x.1 x.2.2 x.2.1=R) (fun x=>s.size+1-x.2.2) (s.size+1,[],1) ⟨by dsimp only;omega,by dsimp only;omega,Nat.zero_le _,Nat.zero_le _,by simp,hR⟩ ?_ ?_
 ·exact Aq (As.of [((98,0),(10,0))] []) @List.map_nil.{0,0}
 ·rintro⟨n,acc,i⟩ ⟨hn,hi,hcl,hal,hfit,hgo⟩
  dsimp only at hn hi hcl hal hfit hgo ⊢
  obtain⟨n,rfl⟩:∃m,n=m+1:=⟨n-1,by omega⟩
  unfold Hq at hgo
  by_cases h91:bAt s i=91
  ·rw[if_pos h91]at hgo
   have hlt:i<s.size:=BW (by omega)
   have hdk:decide ((i:Int)<(s.size:Int))=true:=decide_eq_true (by omega)
   obtain⟨b,hg,hb⟩:=Aw hlt
   have e91:(((b.toNat:Nat):Int)==91)=true:=by rw[←hb,h91];rfl
   have hw1:=Ae (k:=i) (by omega)
   obtain⟨x1,hone⟩:=Fw s (by omega) 20 0 rfl (i+1) (by omega)
   cases hR1:Cq 20 s (i+1) with
   |bad c q =>
    rw[hR1]at hgo hone
    have hf:=C2 (s:=s) 20 (i+1) (by omega)
    rw[hR1]at hf
    have hc0:(c != 0)=true:=by simpa using Bq hf.1
    unfold rdA B9 at hone
    refine A0 (j4 hdk hg e91 hw1) ?_
    refine w9 (Aa [] hone) trivial ?_
    refine A0 hc0 ?_
    exact A9 (A8 [] []) Tryz.results42 hc0
   |ok v e =>
    rw[hR1]at hgo hone
    dsimp only at hgo
    obtain⟨he1,he2,hvf,hvd,hvc⟩:=n9 (show i+1≤s.size by omega) hR1
    unfold rdA Dk at hone
    by_cases h93:bAt s e=93
    ·rw[if_pos h93]at hgo
     have hlt2:e<s.size:=BW (by omega)
     have cge:decide ((e:Int)≥(s.size:Int))=false:=decide_eq_false (by omega)
     obtain⟨b2,hg2,hb2⟩:=Aw hlt2
     have e93:(((b2.toNat:Nat):Int) != 93)=false:=by rw[←hb2,h93];rfl
     have hw2:=Ae (k:=e) (by omega)
     have hol:acc.length+1≤1000000:=by omega
     have hrow:((acc++[v]).map V.enc).map AD=(acc.map V.enc).map AD++[[.sl (v.enc.map CellD.cs)]]:=by simp[AD]
     have hcl2:An (acc++[v])=An acc+v.count:=Mf acc v
     refine A0 (j4 hdk hg e91 hw1) ?_
     refine w9 (Aa [] hone) trivial ?_
     refine A0 (j6 h00 cge hg2 e93 hol hw2) ?_
     refine⟨(n,acc++[v],e+1),by dsimp only;omega,⟨by dsimp only;omega,by dsimp only;omega,by dsimp only;omega,by dsimp only;rw[List.length_append,List.length_singleton];omega,fun k hk=>?_,hgo⟩,?_⟩
     ·rcases List.mem_append.1 hk with hk | hk
      ·exact hfit k hk
      ·rw[List.mem_singleton.1 hk];exact hvf
     exact Aq (As.of [((98,0),(54,0))] []) (j2 hw2 hrow)
    ·rw[if_neg h93]at hgo
     by_cases hlt2:e<s.size
     ·have cge:decide ((e:Int)≥(s.size:Int))=false:=decide_eq_false (by omega)
      obtain⟨b2,hg2,hb2⟩:=Aw hlt2
      have e93:(((b2.toNat:Nat):Int) != 93)=true:=by rw[←hb2];simp;omega
      refine A0 (j4 hdk hg e91 hw1) ?_
      refine w9 (Aa [] hone) trivial ?_
      refine A0 (j4 h00 cge hg2 e93) ?_
      exact A9 (A8 [] []) Tryz.results42 cge
     ·have cge:decide ((e:Int)≥(s.size:Int))=true:=decide_eq_true (by omega)
      refine A0 (j4 hdk hg e91 hw1) ?_
      refine w9 (Aa [] hone) trivial ?_
      refine A0 (j2 h00 cge) ?_
      exact A9 (A8 [] []) Tryz.results42 cge
  ·rw[if_neg h91]at hgo
   have hst:(decide ((i:Int)<(s.size:Int))=false∧s.size≤i∧True)∨(decide ((i:Int)<(s.size:Int))=true∧∃b:UInt8,s[i]? = some b∧(((b.toNat:Nat):Int)==91)=false):=by
    by_cases hlt:i<s.size
    ·obtain⟨b,hg,hb⟩:=Aw hlt
     exact .inr ⟨decide_eq_true (by omega),b,hg,by rw[←hb];simp;omega⟩
    ·exact .inl ⟨decide_eq_false (by omega),by omega,trivial⟩
   have hw3:IntKind.i64.wrap ((i:Int)+3)=((i+3:Nat):Int):=by rw[CG (by omega) (by omega)];omega
   by_cases h3:i+3≤s.size
   ·rcases hst with⟨hdk,hsz,_⟩ | ⟨hdk,b,hg,e91⟩
    ·omega
    have c3:decide (((i+3:Nat):Int)>(s.size:Int))=false:=decide_eq_false (by omega)
    have c4:i≤i+3:=by omega
    have c5:i+3≤s.size:=h3
    generalize hL:s.extract i (i+3)=L3 at *
    by_cases he:L3=JZ
    ·have e3:=H4 he
     unfold JZ at e3
     obtain⟨x2,htwo⟩:=Fw s (by omega) 20 0 rfl (i+3) h3
     have harr:=QB acc (by simp only[DB,V.count];omega)
     have hfa:(DB acc).fit:=Xs hfit
     cases hR2:Cq 20 s (i+3) with
     |bad c q =>
      rw[hR2]at htwo
      have hf:=C2 (s:=s) 20 (i+3) h3
      rw[hR2]at hf
      have hc0:(c != 0)=true:=by simpa using Bq hf.1
      unfold rdA B9 at htwo
      refine A0 (j9 hdk hg e91 hw3 c3 c4 c5 hL e3) ?_
      refine w9 (Aa [] htwo) trivial ?_
      refine A0 trivial ?_
      refine w9 (Aa [(98,0)] harr) trivial ?_
      refine A0 hc0 ?_
      exact A9 (A8 [] []) Tryz.results42 hc0
     |ok v e =>
      rw[hR2]at htwo
      obtain⟨he1,he2,hvf,hvd,hvc,hvw⟩:=n9 h3 hR2
      unfold rdA Dk at htwo
      have hlf:=Wj v
      cases hes:((e:Int) != (s.size:Int)) with
      |true =>
       refine A0 (j9 hdk hg e91 hw3 c3 c4 c5 hL e3) ?_
       refine w9 (Aa [] htwo) trivial ?_
       refine A0 trivial ?_
       refine w9 (Aa [(98,0)] harr) trivial ?_
       refine A0 (j2 h00 hes) ?_
       exact A9 (A8 [] []) Tryz.results42 hes
      |false =>
       cases hleaf:v.kids.isEmpty with
       |false =>
        rw[hleaf]at hlf
        refine A0 (j9 hdk hg e91 hw3 c3 c4 c5 hL e3) ?_
        refine w9 (Aa [] htwo) trivial ?_
        refine A0 trivial ?_
        refine w9 (Aa [(98,0)] harr) trivial ?_
        refine A0 (j2 h00 hes) ?_
        refine w7 (A3 [] hlf) trivial ?_
        refine A0 trivial ?_
        exact A9 (A8 [] []) Tryz.results42 hes
       |true =>
        rw[hleaf]at hlf
        have hpf:=E3 (DB acc).enc
        cases hpc:((Bn (DB acc).enc).1 != 0) with
        |true =>
         generalize (Bn (DB acc).enc).1=kp at *
         refine A0 (j9 hdk hg e91 hw3 c3 c4 c5 hL e3) ?_
         refine w9 (Aa [] htwo) trivial ?_
         refine A0 trivial ?_
         refine w9 (Aa [(98,0)] harr) trivial ?_
         refine A0 (j2 h00 hes) ?_
         refine w7 (A3 [] hlf) trivial ?_
         refine A0 trivial ?_
         refine w7 (A3 [] hpf) trivial ?_
         refine A0 hpc ?_
         exact A9 (A8 [] []) Tryz.results42 hpc
        |false =>
         obtain⟨hkeys,hp199,har,hpd,hbk⟩:=a1q hfa (by simpa using hpc)
         have hvr:v.right:=t8 hleaf hvd hvw
         have hpt:=FW har hpd hbk
         have hen:=MI _ v (Nat.le_refl _) hvr
         change AC _ _ _ _ (.agg [.c (.int .i64 0),.c (.str (AW acc))]) _ at hpt
         have hps:=Ee (fun k hk=>(hkeys k hk).1) acc.length (Nat.le_refl _)
         rw[List.take_length]at hps
         have hvs:=En hvr
         have e4:(⟨#[32,61,32]⟩:ByteArray).size=3:=rfl
         have y1:(AW acc).size+3≤9223372036854775807:=by omega
         have y2:(AW acc++⟨#[32,61,32]⟩).size+v.txt.size≤9223372036854775807:=by rw[ByteArray.size_append,e4];omega
         have hne2:((AW acc++⟨#[32,61,32]⟩++v.txt).toList==s.toList)=false:=J1 fun e=>hfo (acc,v) ⟨hleaf,hkeys,hp199,hvr,e⟩
         generalize (Bn (DB acc).enc).1=kp at *
         generalize hu1:AW acc++⟨#[32,61,32]⟩=u1 at *
         generalize hu2:u1++v.txt=u2 at *
         refine A0 (j9 hdk hg e91 hw3 c3 c4 c5 hL e3) ?_
         refine w9 (Aa [] htwo) trivial ?_
         refine A0 trivial ?_
         refine w9 (Aa [(98,0)] harr) trivial ?_
         refine A0 (j2 h00 hes) ?_
         refine w7 (A3 [] hlf) trivial ?_
         refine A0 trivial ?_
         refine w7 (A3 [] hpf) trivial ?_
         refine A0 hpc ?_
         refine w7 (A3 [] hpt) trivial ?_
         refine A0 (j2 y1 hu1) ?_
         refine w7 (A3 [] hen) trivial ?_
         refine A0 (j3 y2 hu2 hne2) ?_
         exact A9 (A8 [] []) Tryz.results42 hne2
    ·have e3:=J1 he
     unfold JZ at e3
     refine A0 (j9 hdk hg e91 hw3 c3 c4 c5 hL e3) ?_
     exact A9 (A8 [] []) Tryz.results42 e3
   ·have c3:decide (((i+3:Nat):Int)>(s.size:Int))=true:=decide_eq_true (by omega)
    rcases hst with⟨hdk,hsz,_⟩ | ⟨hdk,b,hg,e91⟩
    ·refine A0 (j3 hdk hw3 c3) ?_
     exact A9 (A8 [] []) Tryz.results42 c3
    ·refine A0 (j5 hdk hg e91 hw3 c3) ?_
     exact A9 (A8 [] []) Tryz.results42 c3
theorem q9 (s:ByteArray) (hs:s.size≤4000) (h:FX s=none):AC Tryz.prog 42 [.c (.str s)] [] (.tup [.undef,.undef,.c (.bool false)]) []:=by
 by_cases h46:bAt s 0=46
 ·exact d9 s hs h h46
 ·by_cases h0:0<s.size
  ·have hlen0:((s.size:Int)==0)=false:=by rw[beq_eq_false_iff_ne];omega
   obtain⟨bf,hgf,hbf⟩:=Aw (s:=s) (i:=0) (by omega)
   have hg0:s[(0:Nat)]? = some bf:=hgf
   have e46:(((bf.toNat:Nat):Int) != 46)=true:=by rw[←hbf];simp;omega
   refine A6 Tryz.func42 Tryz.ntmps42 ?_
   refine A0 (j3 hlen0 hg0 e46) ?_
   exact A9 (A8 [] []) Tryz.results42 hlen0
  ·have hlen0:((s.size:Int)==0)=true:=by rw[beq_iff_eq];omega
   refine A6 Tryz.func42 Tryz.ntmps42 ?_
   refine A0 hlen0 ?_
   exact A9 (A8 [] []) Tryz.results42 hlen0
end Go.Proofs.YtllfmaflodbieaaGreatDoor
