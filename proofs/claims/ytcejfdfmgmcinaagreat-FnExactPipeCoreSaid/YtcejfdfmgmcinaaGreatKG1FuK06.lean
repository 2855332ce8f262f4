/- Texts of this proof: G1F G1H K05 K06. -/
import Derived.Test.YtcejfdfmgmcinaaGreatKK35uG1E
set_option linter.all false
set_option maxHeartbeats 8000000
namespace Go.Proofs.YtcejfdfmgmcinaaGreat
open Go.RowKit
set_option maxRecDepth 10000
def AW (l:List V):List (List C):=(l.map V.enc).map Ag
theorem Iz (l:List V):(AW l).length=l.length:=by simp[AW]
theorem Se {l:List V}{k:Nat}(h:k<l.length):Aa (AW l) 1 (k:Int)=true∧(AW l)[k]? = some [.sl (l[k].enc.map CellD.cs)]:=⟨by simp[Aa,AW,h,Ag],by simp[AW,h,Ag]⟩
theorem OX (l:List V):((AW l).all fun r=>r.length==1)=true:=by simp[AW,Ag]
theorem Xd (a b:List V):AW (a++b)=AW a++AW b:=by simp[AW]
theorem Nf (x:V) (b:List V):AW (x::b)=[.sl (x.enc.map CellD.cs)]::AW b:=rfl
theorem Uq (l:List V) (q:Nat):(AW l).take q=AW (l.take q):=by simp[AW]
theorem Uo (l:List V) (q:Nat):(AW l).drop q=AW (l.drop q):=by simp[AW]
theorem PM (l:List V):AQ (AW l)=AW l:=by
 induction l with
 |nil=>rfl
 |cons x l ih=>simp only[Nf,AQ,ih,Cb,C.forget,Dy]
attribute [go_sem] PM OX
theorem TJ {t:V}(h:t.kind≠5):AC Tryz.prog 297 [AB t.enc] [] (.agg [.c (.int .i64 6),.c (.sl [])]) []:=by
 have ra:=Ci t
 have ga:=AJ t
 have b5:(t.kind != 5)=true:=by simpa using h
 have h1:=C6 6
 refine A7 Tryz.func297 Tryz.ntmps297 (j3 ra ga b5) ?_
 refine v9 (A4 [] h1) Dp Dp ?_
 exact A9 (A8 [] []) Tryz.results297 ra
theorem Wt {t:V}(ht:t.right) (h5:t.kind=5):AC Tryz.prog 297 [AB t.enc] [] (.agg [.c (.int .i64 0),.c (.sl ((B4 (Az t.kids)).enc.map CellD.cs))]) []:=by
 have ra:=Ci t
 have ga:=AJ t
 have b5:(t.kind != 5)=false:=by simp[h5]
 have hps:=CE ht.1 ht.2.1
 rw[show (t.kids.map V.enc).map Ag=AW t.kids from rfl]at hps
 have hr:∀x∈t.kids,x.right:=fun x hx=>Bf ht hx
 have hM:=ht.2.1
 have hkc:=AN t
 have hkl:=Bq t.kids
 have hcs:(B4 (Az t.kids)).count≤500000:=by
  have:=Jy ht
  unfold Eh at this
  rw[if_pos h5]at this
  have:=this.2.2.1
  omega
 have h3:=Dn (Az t.kids) hcs
 rw[show ((Az t.kids).map V.enc).map Ag=AW (Az t.kids) from rfl]at h3
 generalize hA:(B4 (Az t.kids)).enc=d at *
 refine A7 Tryz.func297 Tryz.ntmps297 (j3 ra ga b5) ?_
 refine v9 (A4 [] hps) q9 q9 ?_
 have hl200:t.kids.length≤200:=by omega
 clear hkc hkl
 generalize t.kids=l at *
 have hlm:=Iz l
 have hs0:AW (Az [])=[]:=by simp[Az,AW]
 refine Ar (κ:=Nat) (fun k=>⟨mkS 0 59 [(0,AB t.enc),(2,.ptr (2,0) 0),(3,.c (.sl (AW l))),(4,.c (.sl (AW (Az (l.take k))))),(5,.c (.int .i64 k))],[((2,0),.box [.c (.int .i64 0),.nils])]⟩)
  (fun k=>k≤l.length) (fun k=>l.length-k) 0 (Nat.zero_le _) ?_ ?_
 ·exact Ab (Ah.of [((2,0),(2,0))] [(15,0)]) hs0
 ·intro k hk
  by_cases hlt:k<l.length
  ·have hd1:decide ((k:Int)<(l.length:Int))=true:=decide_eq_true (by omega)
   obtain⟨hr0,hg0⟩:=Se hlt
   have hw:=Af (k:=k) (by omega)
   have hxr:=hr _ (List.getElem_mem hlt)
   have hnext:=fun q h1 h2=>Rr (X:=l) hlt (q:=q) h1 h2
   have hsort:=C3 (l.take k)
   have hmem:∀u∈Az (l.take k),u.right:=fun u hu=>hr _ (List.mem_of_mem_take (P0.1 hu))
   have hTl:(Az (l.take k)).length=k:=by rw[Ez,List.length_take];omega
   generalize hT:Az (l.take k)=T at *
   generalize l[k]=x at *
   have hTm:=Iz T
   refine Ac (j3 hlm hd1 hTm) ?_
   refine Ar (κ:=Nat) (fun j=>⟨mkS 0 59 [(0,AB t.enc),(2,.ptr (2,0) 0),(3,.c (.sl (AW l))),(4,.c (.sl (AW T))),(5,.c (.int .i64 k)),(6,.c (.int .i64 j))],[((2,0),.box [.c (.int .i64 0),.nils])]⟩)
    (fun j=>j≤T.length∧∀w∈T.drop j,leV x w) (fun j=>j) T.length ⟨Nat.le_refl _,by simp⟩ ?_ ?_
   ·exact Ab (Ah.of [((2,0),(2,0))] []) hTm
   ·rintro j ⟨hj,hge⟩
    have hall:=OX T
    have hjl:(j:Int)≤(T.length:Int):=by omega
    have fin:(∀u∈T.take j,leV u x)→AW (T.take j)++[[.sl (x.enc.map CellD.cs)]]++AW (T.drop j)=AW (Az (l.take (k+1))):=fun h=>by
     rw[←hnext j h hge,Xd,Nf,List.append_assoc]
     rfl
    have ht1:=Uq T j
    have hd2:=Uo T j
    have q1:(AW (T.take j)).length=j:=by rw[Iz,List.length_take];omega
    have q2:(AW (T.drop j)).length=T.length-j:=by rw[Iz,List.length_drop]
    have hb1:(AW (T.take j)).length≤1000000:=by omega
    have hb2:(AW (T.take j)).length+1≤1000000:=by omega
    have hb3:(AW (T.take j)++[[C.sl (x.enc.map CellD.cs)]]).length+(AW (T.drop j)).length≤1000000:=by rw[List.length_append];simp only[List.length_cons,List.length_nil];omega
    have hjl2:j≤(AW T).length∧(AW T).length≤(AW T).length:=by omega
    have hj0':0≤j∧j≤(AW T).length:=by omega
    have htl:(AW T).take (AW T).length=AW T:=List.take_length
    have hb0:0+(AW (T.take j)).length≤1000000:=by omega
    have hb00:([]:List (List C)).length+(AW (T.take j)).length≤1000000:=by simp only[List.length_nil];omega
    have hb4:1+(AW T).length≤1000000:=by omega
    have hb5:(AW T).length+1≤1000000:=by omega
    have hb6:(AW (T.take j)).length+1+(AW (T.drop j)).length≤1000000:=by omega
    have hcl:Lv (AW T).length (some (AV.c (C.int IntKind.i64 (j:Int))))=some j:=by simp[Lv]
    have hcm:Lv 0 (some (AV.c (C.int IntKind.i64 (j:Int))))=some j:=by simp[Lv]
    by_cases hj0:j=0
    ·subst hj0
     have hdj:decide (((0:Nat):Int)>0)=false:=rfl
     have hrow:=fin (by simp)
     have hrow0:[[C.sl (x.enc.map CellD.cs)]]++AW T=AW (Az (l.take (k+1))):=by simpa [AW] using hrow
     have hrow1:[C.sl (x.enc.map CellD.cs)]::AW T=AW (Az (l.take (k+1))):=hrow0
     refine Ac (j2 (j12 hdj hr0 hg0 hcl hcm hjl2 hj0' ht1 hd2 hb1 hb2 hb3) (j4 hb4 hb5 htl hw)) ?_
     refine⟨k+1,by omega,by omega,?_⟩
     exact Ab (Ah.of [((2,0),(2,0))] [(55,0)]) (j2 hrow0 hrow1)
    ·have hdj:decide ((j:Int)>0)=true:=decide_eq_true (by omega)
     have hwj:IntKind.i64.wrap ((j:Int)-1)=((j-1:Nat):Int):=by rw[CD (by omega) (by omega)];omega
     have hjm:j-1<T.length:=by omega
     obtain⟨hr1,hg1⟩:=Se hjm
     have hyr:=hmem _ (List.getElem_mem hjm)
     have hcmp:=H0 _ T[j-1] x (Nat.le_refl _) hyr hxr
     by_cases hgt:T[j-1].cmp x>0
     ·have hdc:decide (T[j-1].cmp x>0)=true:=decide_eq_true hgt
      have hge':∀w∈T.drop (j-1),leV x w:=fun w hw=>by
       rw[List.drop_eq_getElem_cons hjm,show j-1+1=j by omega]at hw
       rcases List.mem_cons.1 hw with rfl | hw
       ·unfold leV;have:=Hv (T[j-1]) x;omega
       ·exact hge w hw
      generalize T[j-1]=y at *
      refine Ac (j6 hdj hwj hr1 hg1 hr0 hg0) ?_
      refine v7 (A3 [] hcmp) q9 (j2 hdc hwj) ?_
      refine⟨j-1,by omega,⟨by omega,hge'⟩,?_⟩
      exact Ab (Ah.of [((2,0),(2,0))] []) hwj
     ·have hdc:decide (T[j-1].cmp x>0)=false:=decide_eq_false hgt
      have hrow:=fin fun u hu=>by
       have h2:=LR hsort hjm u (by rw[show j-1+1=j by omega];exact hu)
       exact DW h2 (by unfold leV;omega)
      generalize T[j-1]=y at *
      refine Ac (j6 hdj hwj hr1 hg1 hr0 hg0) ?_
      refine v7 (A3 [] hcmp) q9 (j2 (j12 hdc hr0 hg0 hcl hcm hjl2 hj0' ht1 hd2 hb1 hb2 hb3) (j6 hb6 hb0 hb00 htl hw @List.nil_append.{0})) ?_
      refine⟨k+1,by omega,by omega,?_⟩
      exact Ab (Ah.of [((2,0),(2,0))] [(55,0)]) hrow
  ·have hd1:decide ((k:Int)<(l.length:Int))=false:=decide_eq_false (by omega)
   have hke:l.take k=l:=List.take_of_length_le (by omega)
   rw[hke]
   refine Ac (j2 hlm hd1) ?_
   refine v9 (A4 [] h3) q9 q9 ?_
   exact A9 (A8 [] []) Tryz.results297 hd1
set_option maxRecDepth 10000
theorem Ws {t:V}(ht:t.right):AC Tryz.prog 297 [AB t.enc] [] (vrA (Eh t)) []:=by
 unfold Eh
 by_cases h5:t.kind=5
 ·rw[if_pos h5];exact Wt ht h5
 ·rw[if_neg h5];exact TJ h5
theorem ZV (d:Int) {t:V}(ht:t.right) (h18:1≤d∧d≤8):AC Tryz.prog 227 [.c (.int .i64 d),AB t.enc] [] (vrA (BX d t)) []:=by
 have c1:=RM ht
 have c2:=Wr ht
 have c3:=Ww ht
 have c4:=Ws ht
 have c5:=Yr ht
 have c6:=TH t.num
 have c7:=Wx ht
 have c8:=C6 1
 have c9:=C6 6
 have ra:=Ci t
 have ga:=AJ t
 have hok:=FG d ht
 have hcase:d=1∨d=2∨d=3∨d=4∨d=5∨d=6∨d=7∨d=8:=by omega
 rcases hcase with rfl | rfl | rfl | rfl | rfl | rfl | rfl | rfl
 ·rw[show BX 1 t=EH t from rfl]at *
  rcases B7 hok with⟨v,e,_⟩ | ⟨c,_,e⟩
  all_goals
   rw[e]at c1 ⊢
   simp only[Bp,Bj,Bt]at c1 ⊢
   refine AK Tryz.func227 Tryz.ntmps227 ?_
   refine AE q9 ?_
   refine v9 (A4 [] c1) q9 q9 ?_
   exact A9 (A8 [] []) Tryz.results227 hok
 ·rw[show BX 2 t=IS t from rfl]at *
  rcases B7 hok with⟨v,e,_⟩ | ⟨c,_,e⟩
  all_goals
   rw[e]at c2 ⊢
   simp only[Bp,Bj,Bt]at c2 ⊢
   refine AK Tryz.func227 Tryz.ntmps227 ?_
   refine AE q9 ?_
   refine v9 (A4 [] c2) q9 q9 ?_
   exact A9 (A8 [] []) Tryz.results227 hok
 ·rw[show BX 3 t=Lt t from rfl]at *
  rcases B7 hok with⟨v,e,_⟩ | ⟨c,_,e⟩
  all_goals
   rw[e]at c3 ⊢
   simp only[Bp,Bj,Bt]at c3 ⊢
   refine AK Tryz.func227 Tryz.ntmps227 ?_
   refine AE q9 ?_
   refine v9 (A4 [] c3) q9 q9 ?_
   exact A9 (A8 [] []) Tryz.results227 hok
 ·rw[show BX 4 t=Eh t from rfl]at *
  rcases B7 hok with⟨v,e,_⟩ | ⟨c,_,e⟩
  all_goals
   rw[e]at c4 ⊢
   simp only[Bp,Bj,Bt]at c4 ⊢
   refine AK Tryz.func227 Tryz.ntmps227 ?_
   refine AE q9 ?_
   refine v9 (A4 [] c4) q9 q9 ?_
   exact A9 (A8 [] []) Tryz.results227 hok
 ·rw[show BX 5 t=NY t from rfl]at *
  rcases B7 hok with⟨v,e,_⟩ | ⟨c,_,e⟩
  all_goals
   rw[e]at c5 ⊢
   simp only[Bp,Bj,Bt]at c5 ⊢
   refine AK Tryz.func227 Tryz.ntmps227 ?_
   refine AE q9 ?_
   refine v9 (A4 [] c5) q9 q9 ?_
   exact A9 (A8 [] []) Tryz.results227 hok
 ·rw[show BX 6 t=Ev t from rfl]at *
  unfold Ev at *
  by_cases h3:t.kind=3
  ·rw[if_pos h3]at *
   have b3:(t.kind != 3)=false:=by simp[h3]
   rcases B7 hok with⟨v,e,_⟩ | ⟨c,_,e⟩
   all_goals
    rw[e]at c6 ⊢
    simp only[Bp,Bj,Bt]at c6 ⊢
    refine AK Tryz.func227 Tryz.ntmps227 ?_
    refine AE (j3 ra ga b3) ?_
    refine v9 (A4 [] c6) q9 q9 ?_
    exact A9 (A8 [] []) Tryz.results227 hok
  ·rw[if_neg h3]at *
   have b3:(t.kind != 3)=true:=by simpa using h3
   rw[Dj]
   refine AK Tryz.func227 Tryz.ntmps227 ?_
   refine AE (j3 ra ga b3) ?_
   refine v9 (A4 [] c9) Dp Dp ?_
   exact A9 (A8 [] []) Tryz.results227 b3
 ·rw[show BX 7 t=JQ t from rfl]at *
  rcases B7 hok with⟨v,e,_⟩ | ⟨c,_,e⟩
  all_goals
   rw[e]at c7 ⊢
   simp only[Bp,Bj,Bt]at c7 ⊢
   refine AK Tryz.func227 Tryz.ntmps227 ?_
   refine AE q9 ?_
   refine v9 (A4 [] c7) q9 q9 ?_
   exact A9 (A8 [] []) Tryz.results227 hok
 ·rw[show BX 8 t=Ek 1 from rfl,Dj]
  refine AK Tryz.func227 Tryz.ntmps227 ?_
  refine AE q9 ?_
  refine v9 (A4 [] c8) Dp Dp ?_
  exact A9 (A8 [] []) Tryz.results227 hok
set_option maxRecDepth 10000
abbrev N5 (t:CT):AV:=AA (t.flat 0)
def AD (t:CT):List C:=[.sl ((t.flat 0).map CoD.cs)]
abbrev CF (ts:List CT):AV:=.c (.sl (ts.map AD))
theorem a1o (t:CT):((t.flat 0).map CoD.cs)[t.size-1]? = some t.top.cs:=by
 have hl:=t.flat_len 0
 have hp:=t.size_pos
 rw[CT.flat_top]at hl ⊢
 rw[List.length_append]at hl
 simp only[List.length_singleton]at hl
 rw[List.map_append,List.getElem?_append_right (by rw[List.length_map];omega),List.length_map,show t.size-1-(AZ 0 t.kids).length=0 by omega]
 rfl
theorem Cs (t:CT) (hz:t.size≤1000000):AC Tryz.prog 329 [N5 t] [] t.top.av []:=by
 have hp:=t.size_pos
 have hln:=t.flat_len 0
 have htop:=a1o t
 unfold N5
 generalize t.flat 0=L at *
 have hi:t.size-1<L.length:=by omega
 obtain⟨hr,hg⟩:=E5 L hi
 have hgt:L[t.size-1].cs=t.top.cs:=by
  rw[List.getElem?_map,List.getElem?_eq_getElem hi]at htop
  exact Option.some.inj htop
 have hg:(L.map CoD.cs)[t.size-1]? = some [.int .i64 t.top.op,.int .i64 t.top.a,.int .i64 t.top.b,.int .i64 t.top.c,.int .i64 t.top.num,.sl (t.top.val.map CellD.cs)]:=htop
 have hw:IntKind.i64.wrap ((t.size:Int)-1)=((t.size-1:Nat):Int):=by rw[IntWalk.i64_in _ (by omega)];omega
 clear htop hgt
 generalize t.top=d,t.size-1=q at *
 refine A7 Tryz.func329 Tryz.ntmps329 (j4 hln hw hr hg) ?_
 exact Aj (A5 []) Tryz.results329
theorem SW (v:V):(AG v).flat 0=[⟨2,0,0,0,0,v.enc⟩]:=by
 unfold AG
 rw[CT.flat,AZ,Au]
 rfl
theorem L8 (v:V):AC Tryz.prog 330 [AB v.enc] [] (N5 (AG v)) []:=by
 have hf:=SW v
 rw[show N5 (AG v)=.c (.sl [[C.int .i64 2,C.int .i64 0,C.int .i64 0,C.int .i64 0,C.int .i64 0,C.sl (v.enc.map CellD.cs)]]) by unfold N5 AA;rw[hf];rfl]
 refine A7 Tryz.func330 Tryz.ntmps330 q9 ?_
 exact A9 (A8 [] [(5,0)]) Tryz.results330 hf
def Hs (o:Option CT) (L:List CoD) (b:Bool):Prop:=(b=true∧∃q,o=some q∧L=q.flat 0)∨(b=false∧o=none)
def BA (L:List CoD) (b:Bool):AV:=.tup [AA L,.c (.bool b)]
theorem FC (r:Int×Option V) (hr:CH r):∃L b,Hs (FD r) L b∧AC Tryz.prog 331 [vrA r] [] (BA L b) []:=by
 obtain⟨c,o⟩:=r
 cases o with
 |some v =>
  obtain⟨rfl,hv⟩:=hr
  have h00:((0:Int) != 0)=false:=rfl
  have hc:=L8 v
  refine⟨(AG v).flat 0,true,.inl ⟨rfl,_,rfl,rfl⟩,?_⟩
  rw[Bp]
  unfold BA
  refine A7 Tryz.func331 Tryz.ntmps331 h00 ?_
  refine v9 (A4 [] hc) q9 q9 ?_
  exact A9 (A8 [] []) Tryz.results331 h00
 |none =>
  have hc:c≠0:=hr
  have h0:(c != 0)=true:=by simpa using hc
  have hn:([]:List CoD).map CoD.cs=[]:=rfl
  refine⟨[],false,.inr ⟨rfl,rfl⟩,?_⟩
  rw[Bj]
  unfold BA
  refine A7 Tryz.func331 Tryz.ntmps331 h0 ?_
  exact A9 (A8 [] []) Tryz.results331 hn
theorem Lc {t:V}(h:t.right):AC Tryz.prog 229 [AB t.enc] [] (.c (.bool (F8 t))) []:=by
 have hr0:Aa (t.enc.map CellD.cs) 5 0=true:=by unfold Aa;rw[show (0:Int).toNat=0 from rfl,AJ];rfl
 have hg0:=AJ t
 have hk:=V9 h
 have hb:decide (t.kind>1)=F8 t:=by
  unfold F8
  have hc:t.kind=0∨t.kind=1∨1<t.kind:=by omega
  rcases hc with e | e | e
  ·rw[e];rfl
  ·rw[e];rfl
  ·rw[decide_eq_true (by omega)]
   simp
   omega
 refine A7 Tryz.func229 Tryz.ntmps229 (j3 hr0 hg0 hb) ?_
 exact Aj (A5 []) Tryz.results229
theorem C2 (ts:List CT) {k:Nat}(h:k<ts.length):Aa (ts.map AD) 1 k=true∧(ts.map AD)[k]? = some [.sl ((ts[k].flat 0).map CoD.cs)]:=⟨by simp[Aa,h,AD],by simp[h,AD]⟩
theorem DT (v:V):AC Tryz.prog 329 [N5 (AG v)] [] (.agg [.c (.int .i64 2),.c (.int .i64 0),.c (.int .i64 0),.c (.int .i64 0),.c (.int .i64 0),.c (.sl (v.enc.map CellD.cs))]) []:=Cs (AG v) (by rw[J8];omega)
theorem YM {op:Int}(h:An op=1):op=8∨op=9∨op=10:=by
 unfold An at h
 split at h
 ·omega
 ·split at h
  ·assumption
  ·split at h<;>omega
theorem YQ {op:Int}(h:An op=2):op=3∨op=4∨op=5∨op=6∨op=7∨op=11∨op=14:=by
 unfold An at h
 split at h
 ·omega
 ·split at h
  ·omega
  ·split at h<;>omega
theorem S5 {op:Int}(h:An op=3):op=12∨op=13:=by
 unfold An at h
 split at h
 ·omega
 ·split at h
  ·omega
  ·split at h
   ·assumption
   ·omega
theorem GG (r:Int×Option V):∃c l,vrA r=.agg [.c (.int .i64 c),.c (.sl l)]:=by
 obtain⟨c,o⟩:=r
 cases o with
 |some t=>exact⟨_,_,rfl⟩
 |none=>exact⟨_,_,rfl⟩
def HY (op num:Int) (val:List CellD):AV:=.agg [.c (.int .i64 op),.c (.int .i64 0),.c (.int .i64 0),.c (.int .i64 0),.c (.int .i64 num),.c (.sl (val.map CellD.cs))]
attribute [go_sem] HY
theorem Rz {op num:Int}{val:List CellD}{a:CT}(ho:An op=1) (ha:a.ok) (hz:a.size≤900):∃L b,Hs (DU op num val [a]) L b∧AC Tryz.prog 257 [HY op num val,CF [a]] [] (BA L b) []:=by
 have ht:=Cs a (by omega)
 have hto:a.top.op=a.op:=rfl
 obtain⟨hr0,hg0⟩:=C2 [a] (k:=0) (by simp)
 have hln:([a].map AD).length=1:=rfl
 have h12:((1:Int) != 2)=true:=rfl
 have hn:([]:List CoD).map CoD.cs=[]:=rfl
 simp only[List.getElem_cons_zero]at hg0
 rcases YM ho with rfl | rfl | rfl
 ·refine⟨[],false,.inr ⟨rfl,by unfold DU;dsimp only;rw[if_neg (by decide)]⟩,?_⟩
  generalize [a].map AD=P,a.top=A,(a.flat 0).map CoD.cs=F at *
  unfold BA
  refine A7 Tryz.func257 Tryz.ntmps257 (j2 hr0 hg0) ?_
  refine w9 (A4 [] ht) q9 ?_
  refine AE (j2 hln h12) ?_
  exact A9 (A8 [] []) Tryz.results257 hn
 ·refine⟨[],false,.inr ⟨rfl,by unfold DU;dsimp only;rw[if_neg (by decide)]⟩,?_⟩
  generalize [a].map AD=P,a.top=A,(a.flat 0).map CoD.cs=F at *
  unfold BA
  refine A7 Tryz.func257 Tryz.ntmps257 (j2 hr0 hg0) ?_
  refine w9 (A4 [] ht) q9 ?_
  refine AE (j2 hln h12) ?_
  exact A9 (A8 [] []) Tryz.results257 hn
 ·by_cases h17:a.op=17
  ·have k17:(a.top.op==17)=true:=by rw[hto,h17];rfl
   have hc:=L8 (B4 [])
   unfold N5 at hc
   have he:(B4 []).enc=[⟨5,0,ByteArray.empty,ByteArray.empty,0⟩]:=rfl
   have hrow:[[C.int .i64 5,C.int .i64 0,C.str ByteArray.empty,C.str ByteArray.empty,C.int .i64 0]]=(B4 []).enc.map CellD.cs:=rfl
   refine⟨(AG (B4 [])).flat 0,true,.inl ⟨rfl,_,by unfold DU;dsimp only;rw[if_pos rfl,if_pos h17],rfl⟩,?_⟩
   clear he
   generalize [a].map AD=P,a.top=A,(a.flat 0).map CoD.cs=F,(AG (B4 [])).flat 0=R,(B4 []).enc=X at *
   unfold BA
   refine A7 Tryz.func257 Tryz.ntmps257 (j2 hr0 hg0) ?_
   refine w9 (A4 [] ht) q9 ?_
   refine AE (j2 k17 hrow) ?_
   refine v9 (A4 [(34,0)] hc) q9 q9 ?_
   exact A9 (A8 [] []) Tryz.results257 k17
  ·have k17:(a.top.op==17)=false:=by rw[hto];simpa using h17
   by_cases h2:a.op=2
   ·obtain⟨v,hv,_,e,rfl⟩:=CK ha h2
    have ht:=DT v
    have hfit:(B4 [v]).fit:=LI fun x hx=>by rw[List.mem_singleton.1 hx];exact Cx hv
    have hcnt:(B4 [v]).count≤500000:=by have:=hv.2.1;show Am [v]+1≤_;simp[Am];omega
    have h1:=Dn [v] hcnt
    have h3:=DV (B4 [v])
    obtain⟨L,b,hL,hm⟩:=FC (CM (B4 [v])) (EG hfit)
    refine⟨L,b,by unfold DU;dsimp only;rw[if_pos rfl,if_neg h17,if_pos h2,e];exact hL,?_⟩
    have q1:((2:Int)==17)=false:=rfl
    have q2:((2:Int) != 2)=false:=rfl
    have hrow:[[C.sl (v.enc.map CellD.cs)]]=([v].map V.enc).map Ag:=rfl
    have hy2:AQ (([v].map V.enc).map Ag)=([v].map V.enc).map Ag:=by rw[←hrow];rfl
    clear hfit hcnt hL
    generalize [AG v].map AD=P,((AG v).flat 0).map CoD.cs=F at *
    obtain⟨gc,gl,hg⟩:=GG (CM (B4 [v]))
    rw[hg]at h3 hm
    clear hg
    generalize (B4 [v]).enc=X,([v].map V.enc).map Ag=Y,v.enc=W at *
    unfold BA at hm ⊢
    refine A7 Tryz.func257 Tryz.ntmps257 (j2 hr0 hg0) ?_
    refine w9 (A4 [] ht) q9 ?_
    refine AE (j3 q1 q2 hrow) ?_
    refine v9 (A4 [(41,0)] h1) hy2 q9 ?_
    refine v9 (A4 [] h3) q9 q9 ?_
    refine v9 (A4 [] hm) q9 q9 ?_
    exact A9 (A8 [] []) Tryz.results257 q1
   ·have k2:(a.top.op != 2)=true:=by rw[hto];simpa using h2
    refine⟨[],false,.inr ⟨rfl,by unfold DU;dsimp only;rw[if_pos rfl,if_neg h17,if_neg h2]⟩,?_⟩
    generalize [a].map AD=P,a.top=A,(a.flat 0).map CoD.cs=F at *
    unfold BA
    refine A7 Tryz.func257 Tryz.ntmps257 (j2 hr0 hg0) ?_
    refine w9 (A4 [] ht) q9 ?_
    refine AE (j2 k17 k2) ?_
    exact A9 (A8 [] []) Tryz.results257 hn
set_option maxRecDepth 10000
theorem IW:Hs none [] false:=.inr ⟨rfl,rfl⟩
theorem FR (q:CT):Hs (some q) (q.flat 0) true:=.inl ⟨rfl,q,rfl,rfl⟩
theorem RA {op num:Int}{val:List CellD}{a b:CT}(hn:(CT.mk op num val [a,b]).ok) (hz:(CT.mk op num val [a,b]).size≤900):∃L c,Hs (DU op num val [a,b]) L c∧AC Tryz.prog 257 [HY op num val,CF [a,b]] [] (BA L c) []:=by
 simp only[CT.size,Ae]at hz
 unfold CT.ok at hn
 obtain⟨hno,hal,hk⟩:=hn
 rw[AY]at hk
 have ha:=hk a (by simp)
 have hb:=hk b (by simp)
 have hops:=YQ hal.symm
 have ht:=Cs a (by omega)
 have hu:=Cs b (by omega)
 have hto:a.top.op=a.op:=rfl
 have huo:b.top.op=b.op:=rfl
 obtain⟨hr0,hg0⟩:=C2 [a,b] (k:=0) (by simp)
 obtain⟨hr1,hg1⟩:=C2 [a,b] (k:=1) (by simp)
 simp only[List.getElem_cons_zero,List.getElem_cons_succ]at hg0 hg1
 have hln:([a,b].map AD).length=2:=rfl
 have h22:((2:Int) != 2)=false:=rfl
 have h22c:(((2:Nat):Int) != 2)=false:=rfl
 have k12:(op==12)=false:=DH (by omega)
 have k10:(op==10)=false:=DH (by omega)
 have hnil:([]:List CoD).map CoD.cs=[]:=rfl
 by_cases h1:a.op=2
 ·by_cases h2:b.op=2
  ·obtain⟨v,hv,_,ev,rfl⟩:=CK ha h1
   obtain⟨u,hu',_,eu,rfl⟩:=CK hb h2
   have ht:=DT v
   have hu:=DT u
   have hfold:DU op num val [AG v,AG u]=(if op=6 then FD (QJ num v u) else if op=7 then FD (Es v u) else if op=11 then FD (G8 v (vOf val).text u) else none):=by
    unfold DU
    dsimp only
    rw[if_pos ⟨h1,h2⟩,ev,eu]
   rw[hfold]
   by_cases k6:op=6
   ·subst k6
    have hno2:=hno.numOk
    unfold EW BO at hno2
    simp at hno2
    have hB:=RL num hno2 hv hu'
    obtain⟨L,c,hL,hm⟩:=FC (QJ num v u) (XS num hv hu')
    refine⟨L,c,by rw[if_pos rfl];exact hL,?_⟩
    clear hL hfold hno
    generalize [AG v,AG u].map AD=P at *
    generalize ((AG v).flat 0).map CoD.cs=Fa,((AG u).flat 0).map CoD.cs=Fb at *
    obtain⟨gc,gl,hg⟩:=GG (QJ num v u)
    rw[hg]at hB hm
    clear hg
    generalize v.enc=Wv,u.enc=Wu at *
    unfold BA at hm ⊢
    refine A7 Tryz.func257 Tryz.ntmps257 (j2 hr0 hg0) ?_
    refine w9 (A4 [] ht) q9 ?_
    refine AE (j5 hln h22c h22 hr1 hg1) ?_
    refine v9 (A4 [] hu) q9 (j3 h22 hr1 hg1) ?_
    refine w9 (A4 [] hu) q9 ?_
    refine AE q9 ?_
    refine v9 (A4 [] hB) q9 q9 ?_
    refine v9 (A4 [] hm) q9 q9 ?_
    exact A9 (A8 [] []) Tryz.results257 h22
   ·by_cases k7:op=7
    ·subst k7
     have hB:=ZU hv hu'
     obtain⟨L,c,hL,hm⟩:=FC (Es v u) (Rl hv u)
     refine⟨L,c,by rw[if_neg (by decide),if_pos rfl];exact hL,?_⟩
     clear hL hfold hno
     generalize [AG v,AG u].map AD=P at *
     generalize ((AG v).flat 0).map CoD.cs=Fa,((AG u).flat 0).map CoD.cs=Fb at *
     obtain⟨gc,gl,hg⟩:=GG (Es v u)
     rw[hg]at hB hm
     clear hg
     generalize v.enc=Wv,u.enc=Wu at *
     unfold BA at hm ⊢
     refine A7 Tryz.func257 Tryz.ntmps257 (j2 hr0 hg0) ?_
     refine w9 (A4 [] ht) q9 ?_
     refine AE (j5 hln h22c h22 hr1 hg1) ?_
     refine v9 (A4 [] hu) q9 (j3 h22 hr1 hg1) ?_
     refine w9 (A4 [] hu) q9 ?_
     refine AE q9 ?_
     refine v9 (A4 [] hB) q9 q9 ?_
     refine v9 (A4 [] hm) q9 q9 ?_
     exact A9 (A8 [] []) Tryz.results257 h22
    ·by_cases k11:op=11
     ·subst k11
      obtain⟨t,htr,e3,_⟩:=hno.hasVal rfl
      subst e3
      have hB:=NX hv hu' t.text (Ey htr)
      obtain⟨L,c,hL,hm⟩:=FC (G8 v t.text u) (OY hv hu' (Ey htr))
      have hrv:Aa (t.enc.map CellD.cs) 5 0=true:=by unfold Aa;rw[show (0:Int).toNat=0 from rfl,AJ];rfl
      have hgv:=AJ t
      refine⟨L,c,by rw[if_neg (by decide),if_neg (by decide),if_pos rfl,QC htr];exact hL,?_⟩
      clear hL hfold hno
      generalize [AG v,AG u].map AD=P at *
      generalize ((AG v).flat 0).map CoD.cs=Fa,((AG u).flat 0).map CoD.cs=Fb at *
      obtain⟨gc,gl,hg⟩:=GG (G8 v t.text u)
      rw[hg]at hB hm
      clear hg
      generalize v.enc=Wv,u.enc=Wu at *
      unfold BA at hm ⊢
      refine A7 Tryz.func257 Tryz.ntmps257 (j2 hr0 hg0) ?_
      refine w9 (A4 [] ht) q9 ?_
      refine AE (j5 hln h22c h22 hr1 hg1) ?_
      refine v9 (A4 [] hu) q9 (j3 h22 hr1 hg1) ?_
      refine w9 (A4 [] hu) q9 ?_
      refine AE (j2 hrv hgv) ?_
      refine v9 (A4 [] hB) q9 q9 ?_
      refine v9 (A4 [] hm) q9 q9 ?_
      exact A9 (A8 [] []) Tryz.results257 h22
     ·have x6:=DH k6
      have x7:=DH k7
      have x11:=DH k11
      refine⟨[],false,by rw[if_neg k6,if_neg k7,if_neg k11];exact IW,?_⟩
      clear hfold
      generalize [AG v,AG u].map AD=P at *
      generalize ((AG v).flat 0).map CoD.cs=Fa,((AG u).flat 0).map CoD.cs=Fb at *
      unfold BA
      refine A7 Tryz.func257 Tryz.ntmps257 (j2 hr0 hg0) ?_
      refine v9 (A4 [] ht) q9 (j7 k12 k10 hln h22c h22 hr1 hg1) ?_
      refine v9 (A4 [] hu) q9 (j3 h22 hr1 hg1) ?_
      refine v9 (A4 [] hu) q9 (j3 x6 x7 x11) ?_
      exact A9 (A8 [] []) Tryz.results257 hnil
  ·have m1:(a.top.op != 2)=false:=IG h1
   have m2:(b.top.op != 2)=true:=DS h2
   refine⟨[],false,by unfold DU;dsimp only;rw[if_neg (fun h=>h2 h.2)];exact IW,?_⟩
   generalize [a,b].map AD=P at *
   generalize a.top=A,b.top=B,(a.flat 0).map CoD.cs=Fa,(b.flat 0).map CoD.cs=Fb at *
   unfold BA
   refine A7 Tryz.func257 Tryz.ntmps257 (j2 hr0 hg0) ?_
   refine v9 (A4 [] ht) q9 (j8 k12 k10 hln h22c h22 m1 hr1 hg1) ?_
   refine v9 (A4 [] hu) q9 m2 ?_
   exact A9 (A8 [] []) Tryz.results257 hnil
 ·have m1:(a.top.op != 2)=true:=DS h1
  refine⟨[],false,by unfold DU;dsimp only;rw[if_neg (fun h=>h1 h.1)];exact IW,?_⟩
  generalize [a,b].map AD=P at *
  generalize a.top=A,(a.flat 0).map CoD.cs=Fa,(b.flat 0).map CoD.cs=Fb at *
  unfold BA
  refine A7 Tryz.func257 Tryz.ntmps257 (j2 hr0 hg0) ?_
  refine v9 (A4 [] ht) q9 (j6 k12 k10 hln h22c h22 m1) ?_
  exact A9 (A8 [] []) Tryz.results257 hnil
theorem NN {op num:Int}{val:List CellD}{a b c:CT}(hn:(CT.mk op num val [a,b,c]).ok) (hz:(CT.mk op num val [a,b,c]).size≤900):∃L r,Hs (DU op num val [a,b,c]) L r∧AC Tryz.prog 257 [HY op num val,CF [a,b,c]] [] (BA L r) []:=by
 simp only[CT.size,Ae]at hz
 unfold CT.ok at hn
 obtain⟨hno,hal,hk⟩:=hn
 rw[AY]at hk
 have ha:=hk a (by simp)
 have ht:=Cs a (by omega)
 have hto:a.top.op=a.op:=rfl
 obtain⟨hr0,hg0⟩:=C2 [a,b,c] (k:=0) (by simp)
 obtain⟨hr1,hg1⟩:=C2 [a,b,c] (k:=1) (by simp)
 obtain⟨hr2,hg2⟩:=C2 [a,b,c] (k:=2) (by simp)
 simp only[List.getElem_cons_zero,List.getElem_cons_succ]at hg0 hg1 hg2
 have hln:([a,b,c].map AD).length=3:=rfl
 have h32:((3:Int) != 2)=true:=rfl
 have h32c:(((3:Nat):Int) != 2)=true:=rfl
 have hnil:([]:List CoD).map CoD.cs=[]:=rfl
 rcases S5 hal.symm with rfl | rfl
 ·by_cases h1:a.op=2
  ·obtain⟨v,hv,_,ev,rfl⟩:=CK ha h1
   have ht:=DT v
   have hT:=Lc hv
   have h22:((2:Int) != 2)=false:=rfl
   have hfold:DU 12 num val [AG v,b,c]=some (if F8 v then b else c):=by unfold DU;dsimp only;rw[if_pos ⟨rfl,h1⟩,ev]
   rw[hfold]
   cases htr:F8 v with
   |true =>
    rw[htr]at hT
    refine⟨b.flat 0,true,by rw[if_pos rfl];exact FR b,?_⟩
    generalize [AG v,b,c].map AD=P at *
    generalize ((AG v).flat 0).map CoD.cs=Fa,v.enc=Wv at *
    unfold BA
    refine A7 Tryz.func257 Tryz.ntmps257 (j2 hr0 hg0) ?_
    refine w9 (A4 [] ht) q9 ?_
    refine AE h22 ?_
    refine v7 (A3 [] hT) q9 (j2 hr1 hg1) ?_
    exact A9 (A8 [] []) Tryz.results257 h22
   |false =>
    rw[htr]at hT
    refine⟨c.flat 0,true,by rw[if_neg (by decide)];exact FR c,?_⟩
    generalize [AG v,b,c].map AD=P at *
    generalize ((AG v).flat 0).map CoD.cs=Fa,v.enc=Wv at *
    unfold BA
    refine A7 Tryz.func257 Tryz.ntmps257 (j2 hr0 hg0) ?_
    refine w9 (A4 [] ht) q9 ?_
    refine AE h22 ?_
    refine v7 (A3 [] hT) q9 (j2 hr2 hg2) ?_
    exact A9 (A8 [] []) Tryz.results257 h22
  ·have m1:(a.top.op != 2)=true:=DS h1
   refine⟨[],false,by unfold DU;dsimp only;rw[if_neg (fun h=>h1 h.2)];exact IW,?_⟩
   generalize [a,b,c].map AD=P at *
   generalize a.top=A,(a.flat 0).map CoD.cs=Fa at *
   unfold BA
   refine A7 Tryz.func257 Tryz.ntmps257 (j2 hr0 hg0) ?_
   refine w9 (A4 [] ht) q9 ?_
   refine AE m1 ?_
   exact A9 (A8 [] []) Tryz.results257 hnil
 ·refine⟨[],false,by unfold DU;dsimp only;rw[if_neg (fun h=>absurd h.1 (by decide))];exact IW,?_⟩
  generalize [a,b,c].map AD=P at *
  generalize a.top=A,(a.flat 0).map CoD.cs=Fa at *
  unfold BA
  refine A7 Tryz.func257 Tryz.ntmps257 (j2 hr0 hg0) ?_
  refine w9 (A4 [] ht) q9 ?_
  refine AE (j3 hln h32c h32) ?_
  exact A9 (A8 [] []) Tryz.results257 hnil
end Go.Proofs.YtcejfdfmgmcinaaGreat
