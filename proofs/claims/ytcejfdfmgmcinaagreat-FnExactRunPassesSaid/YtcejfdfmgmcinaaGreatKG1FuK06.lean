/- Texts of this proof: G1F G1H K05 K06. -/
import Derived.Test.YtcejfdfmgmcinaaGreatKK34uG1E
set_option linter.all false
set_option maxHeartbeats 8000000
namespace Go.Proofs.YtcejfdfmgmcinaaGreat
open Go.RowKit
set_option maxRecDepth 10000
def B2 (l:List V):List (List C):=(l.map V.enc).map Al
theorem Jq (l:List V):(B2 l).length=l.length:=by simp[B2]
theorem TJ {l:List V}{k:Nat}(h:k<l.length):A8 (B2 l) 1 (k:Int)=true∧(B2 l)[k]? = some [.sl (l[k].enc.map CellD.cs)]:=⟨by simp[A8,B2,h,Al],by simp[B2,h,Al]⟩
theorem Qh (l:List V):((B2 l).all fun r=>r.length==1)=true:=by simp[B2,Al]
theorem YV (a b:List V):B2 (a++b)=B2 a++B2 b:=by simp[B2]
theorem Ot (x:V) (b:List V):B2 (x::b)=[.sl (x.enc.map CellD.cs)]::B2 b:=rfl
theorem W0 (l:List V) (q:Nat):(B2 l).take q=B2 (l.take q):=by simp[B2]
theorem VZ (l:List V) (q:Nat):(B2 l).drop q=B2 (l.drop q):=by simp[B2]
theorem Rd (l:List V):AT (B2 l)=B2 l:=by
 induction l with
 |nil=>rfl
 |cons x l ih=>simp only[Ot,AT,ih,Cn,C.forget,E4]
attribute [go_sem] Rd Qh
theorem Vj {t:V}(h:t.kind≠5):AC Tryz.prog 297 [AF t.enc] [] (.agg [.c (.int .i64 6),.c (.sl [])]) []:=by
 have ra:=Cx t
 have ga:=AL t
 have b5:(t.kind != 5)=true:=by simpa using h
 have h1:=Ck 6
 refine A6 Tryz.func297 Tryz.ntmps297 (j3 ra ga b5) ?_
 refine v9 (A4 [] h1) DV DV ?_
 exact Aa (A9 [] []) Tryz.results297 ra
theorem Yf {t:V}(ht:t.right) (h5:t.kind=5):AC Tryz.prog 297 [AF t.enc] [] (.agg [.c (.int .i64 0),.c (.sl ((AY (AD t.kids)).enc.map CellD.cs))]) []:=by
 have ra:=Cx t
 have ga:=AL t
 have b5:(t.kind != 5)=false:=by simp[h5]
 have hps:=D6 ht.1 ht.2.1
 rw[show (t.kids.map V.enc).map Al=B2 t.kids from rfl]at hps
 have hr:∀x∈t.kids,x.right:=fun x hx=>Bb ht hx
 have hM:=ht.2.1
 have hkc:=AP t
 have hkl:=Bq t.kids
 have hcs:(AY (AD t.kids)).count≤500000:=by
  have:=Kt ht
  unfold EV at this
  rw[if_pos h5]at this
  have:=this.2.2.1
  omega
 have h3:=DU (AD t.kids) hcs
 rw[show ((AD t.kids).map V.enc).map Al=B2 (AD t.kids) from rfl]at h3
 generalize hA:(AY (AD t.kids)).enc=d at *
 refine A6 Tryz.func297 Tryz.ntmps297 (j3 ra ga b5) ?_
 refine v9 (A4 [] hps) q9 q9 ?_
 have hl200:t.kids.length≤200:=by omega
 clear hkc hkl
 generalize t.kids=l at *
 have hlm:=Jq l
 have hs0:B2 (AD [])=[]:=by simp[AD,B2]
 refine Ar (κ:=Nat) (fun k=>⟨mkS 0 59 [(0,AF t.enc),(2,.ptr (2,0) 0),(3,.c (.sl (B2 l))),(4,.c (.sl (B2 (AD (l.take k))))),(5,.c (.int .i64 k))],[((2,0),.box [.c (.int .i64 0),.nils])]⟩)
  (fun k=>k≤l.length) (fun k=>l.length-k) 0 (Nat.zero_le _) ?_ ?_
 ·exact Ac (Aj.of [((2,0),(2,0))] [(15,0)]) hs0
 ·intro k hk
  by_cases hlt:k<l.length
  ·have hd1:decide ((k:Int)<(l.length:Int))=true:=decide_eq_true (by omega)
   obtain⟨hr0,hg0⟩:=TJ hlt
   have hw:=Ad (k:=k) (by omega)
   have hxr:=hr _ (List.getElem_mem hlt)
   have hnext:=fun q h1 h2=>SW (X:=l) hlt (q:=q) h1 h2
   have hsort:=Ch (l.take k)
   have hmem:∀u∈AD (l.take k),u.right:=fun u hu=>hr _ (List.mem_of_mem_take (Qk.1 hu))
   have hTl:(AD (l.take k)).length=k:=by rw[Fc,List.length_take];omega
   generalize hT:AD (l.take k)=T at *
   generalize l[k]=x at *
   have hTm:=Jq T
   refine Ab (j3 hlm hd1 hTm) ?_
   refine Ar (κ:=Nat) (fun j=>⟨mkS 0 59 [(0,AF t.enc),(2,.ptr (2,0) 0),(3,.c (.sl (B2 l))),(4,.c (.sl (B2 T))),(5,.c (.int .i64 k)),(6,.c (.int .i64 j))],[((2,0),.box [.c (.int .i64 0),.nils])]⟩)
    (fun j=>j≤T.length∧∀w∈T.drop j,leV x w) (fun j=>j) T.length ⟨Nat.le_refl _,by simp⟩ ?_ ?_
   ·exact Ac (Aj.of [((2,0),(2,0))] []) hTm
   ·rintro j ⟨hj,hge⟩
    have hall:=Qh T
    have hjl:(j:Int)≤(T.length:Int):=by omega
    have fin:(∀u∈T.take j,leV u x)→B2 (T.take j)++[[.sl (x.enc.map CellD.cs)]]++B2 (T.drop j)=B2 (AD (l.take (k+1))):=fun h=>by
     rw[←hnext j h hge,YV,Ot,List.append_assoc]
     rfl
    have ht1:=W0 T j
    have hd2:=VZ T j
    have q1:(B2 (T.take j)).length=j:=by rw[Jq,List.length_take];omega
    have q2:(B2 (T.drop j)).length=T.length-j:=by rw[Jq,List.length_drop]
    have hb1:(B2 (T.take j)).length≤1000000:=by omega
    have hb2:(B2 (T.take j)).length+1≤1000000:=by omega
    have hb3:(B2 (T.take j)++[[C.sl (x.enc.map CellD.cs)]]).length+(B2 (T.drop j)).length≤1000000:=by rw[List.length_append];simp only[List.length_cons,List.length_nil];omega
    have hjl2:j≤(B2 T).length∧(B2 T).length≤(B2 T).length:=by omega
    have hj0':0≤j∧j≤(B2 T).length:=by omega
    have htl:(B2 T).take (B2 T).length=B2 T:=List.take_length
    have hb0:0+(B2 (T.take j)).length≤1000000:=by omega
    have hb00:([]:List (List C)).length+(B2 (T.take j)).length≤1000000:=by simp only[List.length_nil];omega
    have hb4:1+(B2 T).length≤1000000:=by omega
    have hb5:(B2 T).length+1≤1000000:=by omega
    have hb6:(B2 (T.take j)).length+1+(B2 (T.drop j)).length≤1000000:=by omega
    have hcl:MN (B2 T).length (some (AV.c (C.int IntKind.i64 (j:Int))))=some j:=by simp[MN]
    have hcm:MN 0 (some (AV.c (C.int IntKind.i64 (j:Int))))=some j:=by simp[MN]
    by_cases hj0:j=0
    ·subst hj0
     have hdj:decide (((0:Nat):Int)>0)=false:=rfl
     have hrow:=fin (by simp)
     have hrow0:[[C.sl (x.enc.map CellD.cs)]]++B2 T=B2 (AD (l.take (k+1))):=by simpa [B2] using hrow
     have hrow1:[C.sl (x.enc.map CellD.cs)]::B2 T=B2 (AD (l.take (k+1))):=hrow0
     refine Ab (j2 (j12 hdj hr0 hg0 hcl hcm hjl2 hj0' ht1 hd2 hb1 hb2 hb3) (j4 hb4 hb5 htl hw)) ?_
     refine⟨k+1,by omega,by omega,?_⟩
     exact Ac (Aj.of [((2,0),(2,0))] [(55,0)]) (j2 hrow0 hrow1)
    ·have hdj:decide ((j:Int)>0)=true:=decide_eq_true (by omega)
     have hwj:IntKind.i64.wrap ((j:Int)-1)=((j-1:Nat):Int):=by rw[C9 (by omega) (by omega)];omega
     have hjm:j-1<T.length:=by omega
     obtain⟨hr1,hg1⟩:=TJ hjm
     have hyr:=hmem _ (List.getElem_mem hjm)
     have hcmp:=I3 _ T[j-1] x (Nat.le_refl _) hyr hxr
     by_cases hgt:T[j-1].cmp x>0
     ·have hdc:decide (T[j-1].cmp x>0)=true:=decide_eq_true hgt
      have hge':∀w∈T.drop (j-1),leV x w:=fun w hw=>by
       rw[List.drop_eq_getElem_cons hjm,show j-1+1=j by omega]at hw
       rcases List.mem_cons.1 hw with rfl | hw
       ·unfold leV;have:=IB (T[j-1]) x;omega
       ·exact hge w hw
      generalize T[j-1]=y at *
      refine Ab (j6 hdj hwj hr1 hg1 hr0 hg0) ?_
      refine v7 (A3 [] hcmp) q9 (j2 hdc hwj) ?_
      refine⟨j-1,by omega,⟨by omega,hge'⟩,?_⟩
      exact Ac (Aj.of [((2,0),(2,0))] []) hwj
     ·have hdc:decide (T[j-1].cmp x>0)=false:=decide_eq_false hgt
      have hrow:=fin fun u hu=>by
       have h2:=N1 hsort hjm u (by rw[show j-1+1=j by omega];exact hu)
       exact Ex h2 (by unfold leV;omega)
      generalize T[j-1]=y at *
      refine Ab (j6 hdj hwj hr1 hg1 hr0 hg0) ?_
      refine v7 (A3 [] hcmp) q9 (j2 (j12 hdc hr0 hg0 hcl hcm hjl2 hj0' ht1 hd2 hb1 hb2 hb3) (j6 hb6 hb0 hb00 htl hw @List.nil_append.{0})) ?_
      refine⟨k+1,by omega,by omega,?_⟩
      exact Ac (Aj.of [((2,0),(2,0))] [(55,0)]) hrow
  ·have hd1:decide ((k:Int)<(l.length:Int))=false:=decide_eq_false (by omega)
   have hke:l.take k=l:=List.take_of_length_le (by omega)
   rw[hke]
   refine Ab (j2 hlm hd1) ?_
   refine v9 (A4 [] h3) q9 q9 ?_
   exact Aa (A9 [] []) Tryz.results297 hd1
set_option maxRecDepth 10000
theorem Ye {t:V}(ht:t.right):AC Tryz.prog 297 [AF t.enc] [] (vrA (EV t)) []:=by
 unfold EV
 by_cases h5:t.kind=5
 ·rw[if_pos h5];exact Yf ht h5
 ·rw[if_neg h5];exact Vj h5
theorem a2k (d:Int) {t:V}(ht:t.right) (h18:1≤d∧d≤8):AC Tryz.prog 227 [.c (.int .i64 d),AF t.enc] [] (vrA (C8 d t)) []:=by
 have c1:=Tf ht
 have c2:=Yd ht
 have c3:=Yg ht
 have c4:=Ye ht
 have c5:=r7 ht
 have c6:=Vi t.num
 have c7:=Yh ht
 have c8:=Ck 1
 have c9:=Ck 6
 have ra:=Cx t
 have ga:=AL t
 have hok:=Gm d ht
 have hcase:d=1∨d=2∨d=3∨d=4∨d=5∨d=6∨d=7∨d=8:=by omega
 rcases hcase with rfl | rfl | rfl | rfl | rfl | rfl | rfl | rfl
 ·rw[show C8 1 t=Fj t from rfl]at *
  rcases Bc hok with⟨v,e,_⟩ | ⟨c,_,e⟩
  all_goals
   rw[e]at c1 ⊢
   simp only[BF,Bu,BG]at c1 ⊢
   refine AA Tryz.func227 Tryz.ntmps227 ?_
   refine Aq q9 ?_
   refine v9 (A4 [] c1) q9 q9 ?_
   exact Aa (A9 [] []) Tryz.results227 hok
 ·rw[show C8 2 t=JL t from rfl]at *
  rcases Bc hok with⟨v,e,_⟩ | ⟨c,_,e⟩
  all_goals
   rw[e]at c2 ⊢
   simp only[BF,Bu,BG]at c2 ⊢
   refine AA Tryz.func227 Tryz.ntmps227 ?_
   refine Aq q9 ?_
   refine v9 (A4 [] c2) q9 q9 ?_
   exact Aa (A9 [] []) Tryz.results227 hok
 ·rw[show C8 3 t=MI t from rfl]at *
  rcases Bc hok with⟨v,e,_⟩ | ⟨c,_,e⟩
  all_goals
   rw[e]at c3 ⊢
   simp only[BF,Bu,BG]at c3 ⊢
   refine AA Tryz.func227 Tryz.ntmps227 ?_
   refine Aq q9 ?_
   refine v9 (A4 [] c3) q9 q9 ?_
   exact Aa (A9 [] []) Tryz.results227 hok
 ·rw[show C8 4 t=EV t from rfl]at *
  rcases Bc hok with⟨v,e,_⟩ | ⟨c,_,e⟩
  all_goals
   rw[e]at c4 ⊢
   simp only[BF,Bu,BG]at c4 ⊢
   refine AA Tryz.func227 Tryz.ntmps227 ?_
   refine Aq q9 ?_
   refine v9 (A4 [] c4) q9 q9 ?_
   exact Aa (A9 [] []) Tryz.results227 hok
 ·rw[show C8 5 t=Pd t from rfl]at *
  rcases Bc hok with⟨v,e,_⟩ | ⟨c,_,e⟩
  all_goals
   rw[e]at c5 ⊢
   simp only[BF,Bu,BG]at c5 ⊢
   refine AA Tryz.func227 Tryz.ntmps227 ?_
   refine Aq q9 ?_
   refine v9 (A4 [] c5) q9 q9 ?_
   exact Aa (A9 [] []) Tryz.results227 hok
 ·rw[show C8 6 t=F7 t from rfl]at *
  unfold F7 at *
  by_cases h3:t.kind=3
  ·rw[if_pos h3]at *
   have b3:(t.kind != 3)=false:=by simp[h3]
   rcases Bc hok with⟨v,e,_⟩ | ⟨c,_,e⟩
   all_goals
    rw[e]at c6 ⊢
    simp only[BF,Bu,BG]at c6 ⊢
    refine AA Tryz.func227 Tryz.ntmps227 ?_
    refine Aq (j3 ra ga b3) ?_
    refine v9 (A4 [] c6) q9 q9 ?_
    exact Aa (A9 [] []) Tryz.results227 hok
  ·rw[if_neg h3]at *
   have b3:(t.kind != 3)=true:=by simpa using h3
   rw[DP]
   refine AA Tryz.func227 Tryz.ntmps227 ?_
   refine Aq (j3 ra ga b3) ?_
   refine v9 (A4 [] c9) DV DV ?_
   exact Aa (A9 [] []) Tryz.results227 b3
 ·rw[show C8 7 t=KQ t from rfl]at *
  rcases Bc hok with⟨v,e,_⟩ | ⟨c,_,e⟩
  all_goals
   rw[e]at c7 ⊢
   simp only[BF,Bu,BG]at c7 ⊢
   refine AA Tryz.func227 Tryz.ntmps227 ?_
   refine Aq q9 ?_
   refine v9 (A4 [] c7) q9 q9 ?_
   exact Aa (A9 [] []) Tryz.results227 hok
 ·rw[show C8 8 t=Eo 1 from rfl,DP]
  refine AA Tryz.func227 Tryz.ntmps227 ?_
  refine Aq q9 ?_
  refine v9 (A4 [] c8) DV DV ?_
  exact Aa (A9 [] []) Tryz.results227 hok
set_option maxRecDepth 10000
abbrev Oj (t:CT):AV:=AE (t.flat 0)
def AG (t:CT):List C:=[.sl ((t.flat 0).map CoD.cs)]
abbrev D8 (ts:List CT):AV:=.c (.sl (ts.map AG))
theorem a5l (t:CT):((t.flat 0).map CoD.cs)[t.size-1]? = some t.top.cs:=by
 have hl:=t.flat_len 0
 have hp:=t.size_pos
 rw[CT.flat_top]at hl ⊢
 rw[List.length_append]at hl
 simp only[List.length_singleton]at hl
 rw[List.map_append,List.getElem?_append_right (by rw[List.length_map];omega),List.length_map,show t.size-1-(B5 0 t.kids).length=0 by omega]
 rfl
theorem CK (t:CT) (hz:t.size≤1000000):AC Tryz.prog 329 [Oj t] [] t.top.av []:=by
 have hp:=t.size_pos
 have hln:=t.flat_len 0
 have htop:=a5l t
 unfold Oj
 generalize t.flat 0=L at *
 have hi:t.size-1<L.length:=by omega
 obtain⟨hr,hg⟩:=EJ L hi
 have hgt:L[t.size-1].cs=t.top.cs:=by
  rw[List.getElem?_map,List.getElem?_eq_getElem hi]at htop
  exact Option.some.inj htop
 have hg:(L.map CoD.cs)[t.size-1]? = some [.int .i64 t.top.op,.int .i64 t.top.a,.int .i64 t.top.b,.int .i64 t.top.c,.int .i64 t.top.num,.sl (t.top.val.map CellD.cs)]:=htop
 have hw:IntKind.i64.wrap ((t.size:Int)-1)=((t.size-1:Nat):Int):=by rw[IntWalk.i64_in _ (by omega)];omega
 clear htop hgt
 generalize t.top=d,t.size-1=q at *
 refine A6 Tryz.func329 Tryz.ntmps329 (j4 hln hw hr hg) ?_
 exact Ag (A5 []) Tryz.results329
theorem Uw (v:V):(AH v).flat 0=[⟨2,0,0,0,0,v.enc⟩]:=by
 unfold AH
 rw[CT.flat,B5,Az]
 rfl
theorem Mq (v:V):AC Tryz.prog 330 [AF v.enc] [] (Oj (AH v)) []:=by
 have hf:=Uw v
 rw[show Oj (AH v)=.c (.sl [[C.int .i64 2,C.int .i64 0,C.int .i64 0,C.int .i64 0,C.int .i64 0,C.sl (v.enc.map CellD.cs)]]) by unfold Oj AE;rw[hf];rfl]
 refine A6 Tryz.func330 Tryz.ntmps330 q9 ?_
 exact Aa (A9 [] [(5,0)]) Tryz.results330 hf
def Iw (o:Option CT) (L:List CoD) (b:Bool):Prop:=(b=true∧∃q,o=some q∧L=q.flat 0)∨(b=false∧o=none)
def BO (L:List CoD) (b:Bool):AV:=.tup [AE L,.c (.bool b)]
theorem Gj (r:Int×Option V) (hr:CH r):∃L b,Iw (ET r) L b∧AC Tryz.prog 331 [vrA r] [] (BO L b) []:=by
 obtain⟨c,o⟩:=r
 cases o with
 |some v =>
  obtain⟨rfl,hv⟩:=hr
  have h00:((0:Int) != 0)=false:=rfl
  have hc:=Mq v
  refine⟨(AH v).flat 0,true,.inl ⟨rfl,_,rfl,rfl⟩,?_⟩
  rw[BF]
  unfold BO
  refine A6 Tryz.func331 Tryz.ntmps331 h00 ?_
  refine v9 (A4 [] hc) q9 q9 ?_
  exact Aa (A9 [] []) Tryz.results331 h00
 |none =>
  have hc:c≠0:=hr
  have h0:(c != 0)=true:=by simpa using hc
  have hn:([]:List CoD).map CoD.cs=[]:=rfl
  refine⟨[],false,.inr ⟨rfl,rfl⟩,?_⟩
  rw[Bu]
  unfold BO
  refine A6 Tryz.func331 Tryz.ntmps331 h0 ?_
  exact Aa (A9 [] []) Tryz.results331 hn
theorem Mu {t:V}(h:t.right):AC Tryz.prog 229 [AF t.enc] [] (.c (.bool (CE t))) []:=by
 have hr0:A8 (t.enc.map CellD.cs) 5 0=true:=by unfold A8;rw[show (0:Int).toNat=0 from rfl,AL];rfl
 have hg0:=AL t
 have hk:=WM h
 have hb:decide (t.kind>1)=CE t:=by
  unfold CE
  have hc:t.kind=0∨t.kind=1∨1<t.kind:=by omega
  rcases hc with e | e | e
  ·rw[e];rfl
  ·rw[e];rfl
  ·rw[decide_eq_true (by omega)]
   simp
   omega
 refine A6 Tryz.func229 Tryz.ntmps229 (j3 hr0 hg0 hb) ?_
 exact Ag (A5 []) Tryz.results229
theorem Cf (ts:List CT) {k:Nat}(h:k<ts.length):A8 (ts.map AG) 1 k=true∧(ts.map AG)[k]? = some [.sl ((ts[k].flat 0).map CoD.cs)]:=⟨by simp[A8,h,AG],by simp[h,AG]⟩
theorem Eu (v:V):AC Tryz.prog 329 [Oj (AH v)] [] (.agg [.c (.int .i64 2),.c (.int .i64 0),.c (.int .i64 0),.c (.int .i64 0),.c (.int .i64 0),.c (.sl (v.enc.map CellD.cs))]) []:=CK (AH v) (by rw[K5];omega)
theorem a0h {op:Int}(h:Au op=1):op=8∨op=9∨op=10:=by
 unfold Au at h
 split at h
 ·omega
 ·split at h
  ·assumption
  ·split at h<;>omega
theorem a0l {op:Int}(h:Au op=2):op=3∨op=4∨op=5∨op=6∨op=7∨op=11∨op=14:=by
 unfold Au at h
 split at h
 ·omega
 ·split at h
  ·omega
  ·split at h<;>omega
theorem Tz {op:Int}(h:Au op=3):op=12∨op=13:=by
 unfold Au at h
 split at h
 ·omega
 ·split at h
  ·omega
  ·split at h
   ·assumption
   ·omega
theorem Hs (r:Int×Option V):∃c l,vrA r=.agg [.c (.int .i64 c),.c (.sl l)]:=by
 obtain⟨c,o⟩:=r
 cases o with
 |some t=>exact⟨_,_,rfl⟩
 |none=>exact⟨_,_,rfl⟩
def IT (op num:Int) (val:List CellD):AV:=.agg [.c (.int .i64 op),.c (.int .i64 0),.c (.int .i64 0),.c (.int .i64 0),.c (.int .i64 num),.c (.sl (val.map CellD.cs))]
attribute [go_sem] IT
theorem T5 {op num:Int}{val:List CellD}{a:CT}(ho:Au op=1) (ha:a.ok) (hz:a.size≤900):∃L b,Iw (CS op num val [a]) L b∧AC Tryz.prog 257 [IT op num val,D8 [a]] [] (BO L b) []:=by
 have ht:=CK a (by omega)
 have hto:a.top.op=a.op:=rfl
 obtain⟨hr0,hg0⟩:=Cf [a] (k:=0) (by simp)
 have hln:([a].map AG).length=1:=rfl
 have h12:((1:Int) != 2)=true:=rfl
 have hn:([]:List CoD).map CoD.cs=[]:=rfl
 simp only[List.getElem_cons_zero]at hg0
 rcases a0h ho with rfl | rfl | rfl
 ·refine⟨[],false,.inr ⟨rfl,by unfold CS;dsimp only;rw[if_neg (by decide)]⟩,?_⟩
  generalize [a].map AG=P,a.top=A,(a.flat 0).map CoD.cs=F at *
  unfold BO
  refine A6 Tryz.func257 Tryz.ntmps257 (j2 hr0 hg0) ?_
  refine w9 (A4 [] ht) q9 ?_
  refine Aq (j2 hln h12) ?_
  exact Aa (A9 [] []) Tryz.results257 hn
 ·refine⟨[],false,.inr ⟨rfl,by unfold CS;dsimp only;rw[if_neg (by decide)]⟩,?_⟩
  generalize [a].map AG=P,a.top=A,(a.flat 0).map CoD.cs=F at *
  unfold BO
  refine A6 Tryz.func257 Tryz.ntmps257 (j2 hr0 hg0) ?_
  refine w9 (A4 [] ht) q9 ?_
  refine Aq (j2 hln h12) ?_
  exact Aa (A9 [] []) Tryz.results257 hn
 ·by_cases h17:a.op=17
  ·have k17:(a.top.op==17)=true:=by rw[hto,h17];rfl
   have hc:=Mq (AY [])
   unfold Oj at hc
   have he:(AY []).enc=[⟨5,0,ByteArray.empty,ByteArray.empty,0⟩]:=rfl
   have hrow:[[C.int .i64 5,C.int .i64 0,C.str ByteArray.empty,C.str ByteArray.empty,C.int .i64 0]]=(AY []).enc.map CellD.cs:=rfl
   refine⟨(AH (AY [])).flat 0,true,.inl ⟨rfl,_,by unfold CS;dsimp only;rw[if_pos rfl,if_pos h17],rfl⟩,?_⟩
   clear he
   generalize [a].map AG=P,a.top=A,(a.flat 0).map CoD.cs=F,(AH (AY [])).flat 0=R,(AY []).enc=X at *
   unfold BO
   refine A6 Tryz.func257 Tryz.ntmps257 (j2 hr0 hg0) ?_
   refine w9 (A4 [] ht) q9 ?_
   refine Aq (j2 k17 hrow) ?_
   refine v9 (A4 [(34,0)] hc) q9 q9 ?_
   exact Aa (A9 [] []) Tryz.results257 k17
  ·have k17:(a.top.op==17)=false:=by rw[hto];simpa using h17
   by_cases h2:a.op=2
   ·obtain⟨v,hv,_,e,rfl⟩:=De ha h2
    have ht:=Eu v
    have hfit:(AY [v]).fit:=J7 fun x hx=>by rw[List.mem_singleton.1 hx];exact Cd hv
    have hcnt:(AY [v]).count≤500000:=by have:=hv.2.1;show Aw [v]+1≤_;simp[Aw];omega
    have h1:=DU [v] hcnt
    have h3:=Ew (AY [v])
    obtain⟨L,b,hL,hm⟩:=Gj (Co (AY [v])) (El hfit)
    refine⟨L,b,by unfold CS;dsimp only;rw[if_pos rfl,if_neg h17,if_pos h2,e];exact hL,?_⟩
    have q1:((2:Int)==17)=false:=rfl
    have q2:((2:Int) != 2)=false:=rfl
    have hrow:[[C.sl (v.enc.map CellD.cs)]]=([v].map V.enc).map Al:=rfl
    have hy2:AT (([v].map V.enc).map Al)=([v].map V.enc).map Al:=by rw[←hrow];rfl
    clear hfit hcnt hL
    generalize [AH v].map AG=P,((AH v).flat 0).map CoD.cs=F at *
    obtain⟨gc,gl,hg⟩:=Hs (Co (AY [v]))
    rw[hg]at h3 hm
    clear hg
    generalize (AY [v]).enc=X,([v].map V.enc).map Al=Y,v.enc=W at *
    unfold BO at hm ⊢
    refine A6 Tryz.func257 Tryz.ntmps257 (j2 hr0 hg0) ?_
    refine w9 (A4 [] ht) q9 ?_
    refine Aq (j3 q1 q2 hrow) ?_
    refine v9 (A4 [(41,0)] h1) hy2 q9 ?_
    refine v9 (A4 [] h3) q9 q9 ?_
    refine v9 (A4 [] hm) q9 q9 ?_
    exact Aa (A9 [] []) Tryz.results257 q1
   ·have k2:(a.top.op != 2)=true:=by rw[hto];simpa using h2
    refine⟨[],false,.inr ⟨rfl,by unfold CS;dsimp only;rw[if_pos rfl,if_neg h17,if_neg h2]⟩,?_⟩
    generalize [a].map AG=P,a.top=A,(a.flat 0).map CoD.cs=F at *
    unfold BO
    refine A6 Tryz.func257 Tryz.ntmps257 (j2 hr0 hg0) ?_
    refine w9 (A4 [] ht) q9 ?_
    refine Aq (j2 k17 k2) ?_
    exact Aa (A9 [] []) Tryz.results257 hn
set_option maxRecDepth 10000
theorem JP:Iw none [] false:=.inr ⟨rfl,rfl⟩
theorem Gv (q:CT):Iw (some q) (q.flat 0) true:=.inl ⟨rfl,q,rfl,rfl⟩
theorem T6 {op num:Int}{val:List CellD}{a b:CT}(hn:(CT.mk op num val [a,b]).ok) (hz:(CT.mk op num val [a,b]).size≤900):∃L c,Iw (CS op num val [a,b]) L c∧AC Tryz.prog 257 [IT op num val,D8 [a,b]] [] (BO L c) []:=by
 simp only[CT.size,Ah]at hz
 unfold CT.ok at hn
 obtain⟨hno,hal,hk⟩:=hn
 rw[B4]at hk
 have ha:=hk a (by simp)
 have hb:=hk b (by simp)
 have hops:=a0l hal.symm
 have ht:=CK a (by omega)
 have hu:=CK b (by omega)
 have hto:a.top.op=a.op:=rfl
 have huo:b.top.op=b.op:=rfl
 obtain⟨hr0,hg0⟩:=Cf [a,b] (k:=0) (by simp)
 obtain⟨hr1,hg1⟩:=Cf [a,b] (k:=1) (by simp)
 simp only[List.getElem_cons_zero,List.getElem_cons_succ]at hg0 hg1
 have hln:([a,b].map AG).length=2:=rfl
 have h22:((2:Int) != 2)=false:=rfl
 have h22c:(((2:Nat):Int) != 2)=false:=rfl
 have k12:(op==12)=false:=Ed (by omega)
 have k10:(op==10)=false:=Ed (by omega)
 have hnil:([]:List CoD).map CoD.cs=[]:=rfl
 by_cases h1:a.op=2
 ·by_cases h2:b.op=2
  ·obtain⟨v,hv,_,ev,rfl⟩:=De ha h1
   obtain⟨u,hu',_,eu,rfl⟩:=De hb h2
   have ht:=Eu v
   have hu:=Eu u
   have hfold:CS op num val [AH v,AH u]=(if op=6 then ET (JZ num v u) else if op=7 then ET (Cu v u) else if op=11 then ET (Dw v (vOf val).text u) else none):=by
    unfold CS
    dsimp only
    rw[if_pos ⟨h1,h2⟩,ev,eu]
   rw[hfold]
   by_cases k6:op=6
   ·subst k6
    have hno2:=hno.numOk
    unfold FA C1 at hno2
    simp at hno2
    have hB:=Te num hno2 hv hu'
    obtain⟨L,c,hL,hm⟩:=Gj (JZ num v u) (Qz num hv hu')
    refine⟨L,c,by rw[if_pos rfl];exact hL,?_⟩
    clear hL hfold hno
    generalize [AH v,AH u].map AG=P at *
    generalize ((AH v).flat 0).map CoD.cs=Fa,((AH u).flat 0).map CoD.cs=Fb at *
    obtain⟨gc,gl,hg⟩:=Hs (JZ num v u)
    rw[hg]at hB hm
    clear hg
    generalize v.enc=Wv,u.enc=Wu at *
    unfold BO at hm ⊢
    refine A6 Tryz.func257 Tryz.ntmps257 (j2 hr0 hg0) ?_
    refine w9 (A4 [] ht) q9 ?_
    refine Aq (j5 hln h22c h22 hr1 hg1) ?_
    refine v9 (A4 [] hu) q9 (j3 h22 hr1 hg1) ?_
    refine w9 (A4 [] hu) q9 ?_
    refine Aq q9 ?_
    refine v9 (A4 [] hB) q9 q9 ?_
    refine v9 (A4 [] hm) q9 q9 ?_
    exact Aa (A9 [] []) Tryz.results257 h22
   ·by_cases k7:op=7
    ·subst k7
     have hB:=a2j hv hu'
     obtain⟨L,c,hL,hm⟩:=Gj (Cu v u) (L4 hv u)
     refine⟨L,c,by rw[if_neg (by decide),if_pos rfl];exact hL,?_⟩
     clear hL hfold hno
     generalize [AH v,AH u].map AG=P at *
     generalize ((AH v).flat 0).map CoD.cs=Fa,((AH u).flat 0).map CoD.cs=Fb at *
     obtain⟨gc,gl,hg⟩:=Hs (Cu v u)
     rw[hg]at hB hm
     clear hg
     generalize v.enc=Wv,u.enc=Wu at *
     unfold BO at hm ⊢
     refine A6 Tryz.func257 Tryz.ntmps257 (j2 hr0 hg0) ?_
     refine w9 (A4 [] ht) q9 ?_
     refine Aq (j5 hln h22c h22 hr1 hg1) ?_
     refine v9 (A4 [] hu) q9 (j3 h22 hr1 hg1) ?_
     refine w9 (A4 [] hu) q9 ?_
     refine Aq q9 ?_
     refine v9 (A4 [] hB) q9 q9 ?_
     refine v9 (A4 [] hm) q9 q9 ?_
     exact Aa (A9 [] []) Tryz.results257 h22
    ·by_cases k11:op=11
     ·subst k11
      obtain⟨t,htr,e3,_⟩:=hno.hasVal rfl
      subst e3
      have hB:=P9 hv hu' t.text (Du htr)
      obtain⟨L,c,hL,hm⟩:=Gj (Dw v t.text u) (Jr hv hu' (Du htr))
      have hrv:A8 (t.enc.map CellD.cs) 5 0=true:=by unfold A8;rw[show (0:Int).toNat=0 from rfl,AL];rfl
      have hgv:=AL t
      refine⟨L,c,by rw[if_neg (by decide),if_neg (by decide),if_pos rfl,N2 htr];exact hL,?_⟩
      clear hL hfold hno
      generalize [AH v,AH u].map AG=P at *
      generalize ((AH v).flat 0).map CoD.cs=Fa,((AH u).flat 0).map CoD.cs=Fb at *
      obtain⟨gc,gl,hg⟩:=Hs (Dw v t.text u)
      rw[hg]at hB hm
      clear hg
      generalize v.enc=Wv,u.enc=Wu at *
      unfold BO at hm ⊢
      refine A6 Tryz.func257 Tryz.ntmps257 (j2 hr0 hg0) ?_
      refine w9 (A4 [] ht) q9 ?_
      refine Aq (j5 hln h22c h22 hr1 hg1) ?_
      refine v9 (A4 [] hu) q9 (j3 h22 hr1 hg1) ?_
      refine w9 (A4 [] hu) q9 ?_
      refine Aq (j2 hrv hgv) ?_
      refine v9 (A4 [] hB) q9 q9 ?_
      refine v9 (A4 [] hm) q9 q9 ?_
      exact Aa (A9 [] []) Tryz.results257 h22
     ·have x6:=Ed k6
      have x7:=Ed k7
      have x11:=Ed k11
      refine⟨[],false,by rw[if_neg k6,if_neg k7,if_neg k11];exact JP,?_⟩
      clear hfold
      generalize [AH v,AH u].map AG=P at *
      generalize ((AH v).flat 0).map CoD.cs=Fa,((AH u).flat 0).map CoD.cs=Fb at *
      unfold BO
      refine A6 Tryz.func257 Tryz.ntmps257 (j2 hr0 hg0) ?_
      refine v9 (A4 [] ht) q9 (j7 k12 k10 hln h22c h22 hr1 hg1) ?_
      refine v9 (A4 [] hu) q9 (j3 h22 hr1 hg1) ?_
      refine v9 (A4 [] hu) q9 (j3 x6 x7 x11) ?_
      exact Aa (A9 [] []) Tryz.results257 hnil
  ·have m1:(a.top.op != 2)=false:=JB h1
   have m2:(b.top.op != 2)=true:=E9 h2
   refine⟨[],false,by unfold CS;dsimp only;rw[if_neg (fun h=>h2 h.2)];exact JP,?_⟩
   generalize [a,b].map AG=P at *
   generalize a.top=A,b.top=B,(a.flat 0).map CoD.cs=Fa,(b.flat 0).map CoD.cs=Fb at *
   unfold BO
   refine A6 Tryz.func257 Tryz.ntmps257 (j2 hr0 hg0) ?_
   refine v9 (A4 [] ht) q9 (j8 k12 k10 hln h22c h22 m1 hr1 hg1) ?_
   refine v9 (A4 [] hu) q9 m2 ?_
   exact Aa (A9 [] []) Tryz.results257 hnil
 ·have m1:(a.top.op != 2)=true:=E9 h1
  refine⟨[],false,by unfold CS;dsimp only;rw[if_neg (fun h=>h1 h.1)];exact JP,?_⟩
  generalize [a,b].map AG=P at *
  generalize a.top=A,(a.flat 0).map CoD.cs=Fa,(b.flat 0).map CoD.cs=Fb at *
  unfold BO
  refine A6 Tryz.func257 Tryz.ntmps257 (j2 hr0 hg0) ?_
  refine v9 (A4 [] ht) q9 (j6 k12 k10 hln h22c h22 m1) ?_
  exact Aa (A9 [] []) Tryz.results257 hnil
theorem P0 {op num:Int}{val:List CellD}{a b c:CT}(hn:(CT.mk op num val [a,b,c]).ok) (hz:(CT.mk op num val [a,b,c]).size≤900):∃L r,Iw (CS op num val [a,b,c]) L r∧AC Tryz.prog 257 [IT op num val,D8 [a,b,c]] [] (BO L r) []:=by
 simp only[CT.size,Ah]at hz
 unfold CT.ok at hn
 obtain⟨hno,hal,hk⟩:=hn
 rw[B4]at hk
 have ha:=hk a (by simp)
 have ht:=CK a (by omega)
 have hto:a.top.op=a.op:=rfl
 obtain⟨hr0,hg0⟩:=Cf [a,b,c] (k:=0) (by simp)
 obtain⟨hr1,hg1⟩:=Cf [a,b,c] (k:=1) (by simp)
 obtain⟨hr2,hg2⟩:=Cf [a,b,c] (k:=2) (by simp)
 simp only[List.getElem_cons_zero,List.getElem_cons_succ]at hg0 hg1 hg2
 have hln:([a,b,c].map AG).length=3:=rfl
 have h32:((3:Int) != 2)=true:=rfl
 have h32c:(((3:Nat):Int) != 2)=true:=rfl
 have hnil:([]:List CoD).map CoD.cs=[]:=rfl
 rcases Tz hal.symm with rfl | rfl
 ·by_cases h1:a.op=2
  ·obtain⟨v,hv,_,ev,rfl⟩:=De ha h1
   have ht:=Eu v
   have hT:=Mu hv
   have h22:((2:Int) != 2)=false:=rfl
   have hfold:CS 12 num val [AH v,b,c]=some (if CE v then b else c):=by unfold CS;dsimp only;rw[if_pos ⟨rfl,h1⟩,ev]
   rw[hfold]
   cases htr:CE v with
   |true =>
    rw[htr]at hT
    refine⟨b.flat 0,true,by rw[if_pos rfl];exact Gv b,?_⟩
    generalize [AH v,b,c].map AG=P at *
    generalize ((AH v).flat 0).map CoD.cs=Fa,v.enc=Wv at *
    unfold BO
    refine A6 Tryz.func257 Tryz.ntmps257 (j2 hr0 hg0) ?_
    refine w9 (A4 [] ht) q9 ?_
    refine Aq h22 ?_
    refine v7 (A3 [] hT) q9 (j2 hr1 hg1) ?_
    exact Aa (A9 [] []) Tryz.results257 h22
   |false =>
    rw[htr]at hT
    refine⟨c.flat 0,true,by rw[if_neg (by decide)];exact Gv c,?_⟩
    generalize [AH v,b,c].map AG=P at *
    generalize ((AH v).flat 0).map CoD.cs=Fa,v.enc=Wv at *
    unfold BO
    refine A6 Tryz.func257 Tryz.ntmps257 (j2 hr0 hg0) ?_
    refine w9 (A4 [] ht) q9 ?_
    refine Aq h22 ?_
    refine v7 (A3 [] hT) q9 (j2 hr2 hg2) ?_
    exact Aa (A9 [] []) Tryz.results257 h22
  ·have m1:(a.top.op != 2)=true:=E9 h1
   refine⟨[],false,by unfold CS;dsimp only;rw[if_neg (fun h=>h1 h.2)];exact JP,?_⟩
   generalize [a,b,c].map AG=P at *
   generalize a.top=A,(a.flat 0).map CoD.cs=Fa at *
   unfold BO
   refine A6 Tryz.func257 Tryz.ntmps257 (j2 hr0 hg0) ?_
   refine w9 (A4 [] ht) q9 ?_
   refine Aq m1 ?_
   exact Aa (A9 [] []) Tryz.results257 hnil
 ·refine⟨[],false,by unfold CS;dsimp only;rw[if_neg (fun h=>absurd h.1 (by decide))];exact JP,?_⟩
  generalize [a,b,c].map AG=P at *
  generalize a.top=A,(a.flat 0).map CoD.cs=Fa at *
  unfold BO
  refine A6 Tryz.func257 Tryz.ntmps257 (j2 hr0 hg0) ?_
  refine w9 (A4 [] ht) q9 ?_
  refine Aq (j3 hln h32c h32) ?_
  exact Aa (A9 [] []) Tryz.results257 hnil
end Go.Proofs.YtcejfdfmgmcinaaGreat
