/- Texts of this proof: G1F G1H. -/
import Derived.Test.YtcejfdfmgmcinaaGreatKK35uG1E
set_option linter.all false
set_option maxHeartbeats 8000000
namespace Go.Proofs.YtcejfdfmgmcinaaGreat
open Go.RowKit
set_option maxRecDepth 10000
def B2 (l:List V):List (List C):=(l.map V.enc).map Al
theorem Jj (l:List V):(B2 l).length=l.length:=by simp[B2]
theorem TA {l:List V}{k:Nat}(h:k<l.length):A9 (B2 l) 1 (k:Int)=true∧(B2 l)[k]? = some [.sl (l[k].enc.map CellD.cs)]:=⟨by simp[A9,B2,h,Al],by simp[B2,h,Al]⟩
theorem Qc (l:List V):((B2 l).all fun r=>r.length==1)=true:=by simp[B2,Al]
theorem Yz (a b:List V):B2 (a++b)=B2 a++B2 b:=by simp[B2]
theorem Ok (x:V) (b:List V):B2 (x::b)=[.sl (x.enc.map CellD.cs)]::B2 b:=rfl
theorem VN (l:List V) (q:Nat):(B2 l).take q=B2 (l.take q):=by simp[B2]
theorem VK (l:List V) (q:Nat):(B2 l).drop q=B2 (l.drop q):=by simp[B2]
theorem QZ (l:List V):AU (B2 l)=B2 l:=by
 induction l with
 |nil=>rfl
 |cons x l ih=>simp only[Ok,AU,ih,Cv,C.forget,Ea]
attribute [go_sem] QZ Qc
theorem V8 {t:V}(h:t.kind≠5):AC Tryz.prog 297 [AH t.enc] [] (.agg [.c (.int .i64 6),.c (.sl [])]) []:=by
 have ra:=CE t
 have ga:=AL t
 have b5:(t.kind != 5)=true:=by simpa using h
 have h1:=Cq 6
 refine A7 Tryz.func297 Tryz.ntmps297 ?_
 refine A3 (j3 ra ga b5) ?_
 refine w9 (A5 [] h1) E0 ?_
 refine A3 E0 ?_
 exact Ab (Aa [] []) Tryz.results297 ra
theorem XU {t:V}(ht:t.right) (h5:t.kind=5):AC Tryz.prog 297 [AH t.enc] [] (.agg [.c (.int .i64 0),.c (.sl ((AZ (AG t.kids)).enc.map CellD.cs))]) []:=by
 have ra:=CE t
 have ga:=AL t
 have b5:(t.kind != 5)=false:=by simp[h5]
 have hps:=Dg ht.1 ht.2.1
 rw[show (t.kids.map V.enc).map Al=B2 t.kids from rfl]at hps
 have hr:∀x∈t.kids,x.right:=fun x hx=>Bd ht hx
 have hM:=ht.2.1
 have hkc:=AP t
 have hkl:=Br t.kids
 have hcs:(AZ (AG t.kids)).count≤500000:=by
  have:=Ko ht
  unfold F0 at this
  rw[if_pos h5]at this
  have:=this.2.2.1
  omega
 have h3:=DZ (AG t.kids) hcs
 rw[show ((AG t.kids).map V.enc).map Al=B2 (AG t.kids) from rfl]at h3
 generalize hA:(AZ (AG t.kids)).enc=d at *
 refine A7 Tryz.func297 Tryz.ntmps297 ?_
 refine A3 (j3 ra ga b5) ?_
 refine w9 (A5 [] hps) q9 ?_
 refine A3 q9 ?_
 have hl200:t.kids.length≤200:=by omega
 clear hkc hkl
 generalize t.kids=l at *
 have hlm:=Jj l
 have hs0:B2 (AG [])=[]:=by simp[AG,B2]
 refine Ay (κ:=Nat) (fun k=>⟨mkS 0 59 [(0,AH t.enc),(2,.ptr (2,0) 0),(3,.c (.sl (B2 l))),(4,.c (.sl (B2 (AG (l.take k))))),(5,.c (.int .i64 k))],[((2,0),.box [.c (.int .i64 0),.nils])]⟩)
  (fun k=>k≤l.length) (fun k=>l.length-k) 0 (Nat.zero_le _) ?_ ?_
 ·exact Af (Am.of [((2,0),(2,0))] [(15,0)]) hs0
 ·intro k hk
  by_cases hlt:k<l.length
  ·have hd1:decide ((k:Int)<(l.length:Int))=true:=decide_eq_true (by omega)
   obtain⟨hr0,hg0⟩:=TA hlt
   have hw:=Ah (k:=k) (by omega)
   have hxr:=hr _ (List.getElem_mem hlt)
   have hnext:=fun q h1 h2=>SN (X:=l) hlt (q:=q) h1 h2
   have hsort:=Cn (l.take k)
   have hmem:∀u∈AG (l.take k),u.right:=fun u hu=>hr _ (List.mem_of_mem_take (Qe.1 hu))
   have hTl:(AG (l.take k)).length=k:=by rw[Fh,List.length_take];omega
   generalize hT:AG (l.take k)=T at *
   generalize l[k]=x at *
   have hTm:=Jj T
   refine A3 (j3 hlm hd1 hTm) ?_
   refine Ay (κ:=Nat) (fun j=>⟨mkS 0 59 [(0,AH t.enc),(2,.ptr (2,0) 0),(3,.c (.sl (B2 l))),(4,.c (.sl (B2 T))),(5,.c (.int .i64 k)),(6,.c (.int .i64 j))],[((2,0),.box [.c (.int .i64 0),.nils])]⟩)
    (fun j=>j≤T.length∧∀w∈T.drop j,leV x w) (fun j=>j) T.length ⟨Nat.le_refl _,by simp⟩ ?_ ?_
   ·exact Af (Am.of [((2,0),(2,0))] []) hTm
   ·rintro j ⟨hj,hge⟩
    have hall:=Qc T
    have hjl:(j:Int)≤(T.length:Int):=by omega
    have fin:(∀u∈T.take j,leV u x)→B2 (T.take j)++[[.sl (x.enc.map CellD.cs)]]++B2 (T.drop j)=B2 (AG (l.take (k+1))):=fun h=>by
     rw[←hnext j h hge,Yz,Ok,List.append_assoc]
     rfl
    have ht1:=VN T j
    have hd2:=VK T j
    have q1:(B2 (T.take j)).length=j:=by rw[Jj,List.length_take];omega
    have q2:(B2 (T.drop j)).length=T.length-j:=by rw[Jj,List.length_drop]
    have hb1:(B2 (T.take j)).length≤1000000:=by omega
    have hb2:(B2 (T.take j)).length+1≤1000000:=by omega
    have hb3:(B2 (T.take j)++[[C.sl (x.enc.map CellD.cs)]]).length+(B2 (T.drop j)).length≤1000000:=by rw[List.length_append];simp only[List.length_cons,List.length_nil];omega
    have hjl2:j≤(B2 T).length∧(B2 T).length≤(B2 T).length:=by omega
    have hj0':0≤j∧j≤(B2 T).length:=by omega
    have htl:(B2 T).take (B2 T).length=B2 T:=List.take_length
    have hb0:0+(B2 (T.take j)).length≤1000000:=by omega
    have hb00:([]:List (List C)).length+(B2 (T.take j)).length≤1000000:=by simp only[List.length_nil];omega
    have hb4:1+(B2 T).length≤1000000:=by omega
    have hb5:(B2 T).length+1≤1000000:=by omega
    have hb6:(B2 (T.take j)).length+1+(B2 (T.drop j)).length≤1000000:=by omega
    have hcl:MF (B2 T).length (some (AV.c (C.int IntKind.i64 (j:Int))))=some j:=by simp[MF]
    have hcm:MF 0 (some (AV.c (C.int IntKind.i64 (j:Int))))=some j:=by simp[MF]
    by_cases hj0:j=0
    ·subst hj0
     have hdj:decide (((0:Nat):Int)>0)=false:=rfl
     have hrow:=fin (by simp)
     have hrow0:[[C.sl (x.enc.map CellD.cs)]]++B2 T=B2 (AG (l.take (k+1))):=by simpa [B2] using hrow
     have hrow1:[C.sl (x.enc.map CellD.cs)]::B2 T=B2 (AG (l.take (k+1))):=hrow0
     refine A3 (j2 (j12 hdj hr0 hg0 hcl hcm hjl2 hj0' ht1 hd2 hb1 hb2 hb3) (j4 hb4 hb5 htl hw)) ?_
     refine⟨k+1,by omega,by omega,?_⟩
     exact Af (Am.of [((2,0),(2,0))] [(55,0)]) (j2 hrow0 hrow1)
    ·have hdj:decide ((j:Int)>0)=true:=decide_eq_true (by omega)
     have hwj:IntKind.i64.wrap ((j:Int)-1)=((j-1:Nat):Int):=by rw[Cf (by omega) (by omega)];omega
     have hjm:j-1<T.length:=by omega
     obtain⟨hr1,hg1⟩:=TA hjm
     have hyr:=hmem _ (List.getElem_mem hjm)
     have hcmp:=HW _ T[j-1] x (Nat.le_refl _) hyr hxr
     by_cases hgt:T[j-1].cmp x>0
     ·have hdc:decide (T[j-1].cmp x>0)=true:=decide_eq_true hgt
      have hge':∀w∈T.drop (j-1),leV x w:=fun w hw=>by
       rw[List.drop_eq_getElem_cons hjm,show j-1+1=j by omega]at hw
       rcases List.mem_cons.1 hw with rfl | hw
       ·unfold leV;have:=Iw (T[j-1]) x;omega
       ·exact hge w hw
      generalize T[j-1]=y at *
      refine A3 (j6 hdj hwj hr1 hg1 hr0 hg0) ?_
      refine w7 (A4 [] hcmp) q9 ?_
      refine A3 (j2 hdc hwj) ?_
      refine⟨j-1,by omega,⟨by omega,hge'⟩,?_⟩
      exact Af (Am.of [((2,0),(2,0))] []) hwj
     ·have hdc:decide (T[j-1].cmp x>0)=false:=decide_eq_false hgt
      have hrow:=fin fun u hu=>by
       have h2:=MV hsort hjm u (by rw[show j-1+1=j by omega];exact hu)
       exact EC h2 (by unfold leV;omega)
      generalize T[j-1]=y at *
      refine A3 (j6 hdj hwj hr1 hg1 hr0 hg0) ?_
      refine w7 (A4 [] hcmp) q9 ?_
      refine A3 (j2 (j12 hdc hr0 hg0 hcl hcm hjl2 hj0' ht1 hd2 hb1 hb2 hb3) (j6 hb6 hb0 hb00 htl hw @List.nil_append.{0})) ?_
      refine⟨k+1,by omega,by omega,?_⟩
      exact Af (Am.of [((2,0),(2,0))] [(55,0)]) hrow
  ·have hd1:decide ((k:Int)<(l.length:Int))=false:=decide_eq_false (by omega)
   have hke:l.take k=l:=List.take_of_length_le (by omega)
   rw[hke]
   refine A3 (j2 hlm hd1) ?_
   refine w9 (A5 [] h3) q9 ?_
   refine A3 q9 ?_
   exact Ab (Aa [] []) Tryz.results297 hd1
set_option maxRecDepth 10000
theorem XT {t:V}(ht:t.right):AC Tryz.prog 297 [AH t.enc] [] (vrA (F0 t)) []:=by
 unfold F0
 by_cases h5:t.kind=5
 ·rw[if_pos h5];exact XU ht h5
 ·rw[if_neg h5];exact V8 h5
theorem a1n (d:Int) {t:V}(ht:t.right) (h18:1≤d∧d≤8):AC Tryz.prog 227 [.c (.int .i64 d),AH t.enc] [] (vrA (Ce d t)) []:=by
 have c1:=T6 ht
 have c2:=XS ht
 have c3:=XV ht
 have c4:=XT ht
 have c5:=ZT ht
 have c6:=V7 t.num
 have c7:=XW ht
 have c8:=Cq 1
 have c9:=Cq 6
 have ra:=CE t
 have ga:=AL t
 have hok:=Gi d ht
 have hcase:d=1∨d=2∨d=3∨d=4∨d=5∨d=6∨d=7∨d=8:=by omega
 rcases hcase with rfl | rfl | rfl | rfl | rfl | rfl | rfl | rfl
 ·rw[show Ce 1 t=Fq t from rfl]at *
  rcases Be hok with⟨v,e,_⟩ | ⟨c,_,e⟩
  all_goals
   rw[e]at c1 ⊢
   simp only[BG,Bv,BH]at c1 ⊢
   refine A7 Tryz.func227 Tryz.ntmps227 ?_
   refine Ac q9 ?_
   refine w9 (A5 [] c1) q9 ?_
   refine A3 q9 ?_
   exact Ab (Aa [] []) Tryz.results227 hok
 ·rw[show Ce 2 t=JE t from rfl]at *
  rcases Be hok with⟨v,e,_⟩ | ⟨c,_,e⟩
  all_goals
   rw[e]at c2 ⊢
   simp only[BG,Bv,BH]at c2 ⊢
   refine A7 Tryz.func227 Tryz.ntmps227 ?_
   refine Ac q9 ?_
   refine w9 (A5 [] c2) q9 ?_
   refine A3 q9 ?_
   exact Ab (Aa [] []) Tryz.results227 hok
 ·rw[show Ce 3 t=MA t from rfl]at *
  rcases Be hok with⟨v,e,_⟩ | ⟨c,_,e⟩
  all_goals
   rw[e]at c3 ⊢
   simp only[BG,Bv,BH]at c3 ⊢
   refine A7 Tryz.func227 Tryz.ntmps227 ?_
   refine Ac q9 ?_
   refine w9 (A5 [] c3) q9 ?_
   refine A3 q9 ?_
   exact Ab (Aa [] []) Tryz.results227 hok
 ·rw[show Ce 4 t=F0 t from rfl]at *
  rcases Be hok with⟨v,e,_⟩ | ⟨c,_,e⟩
  all_goals
   rw[e]at c4 ⊢
   simp only[BG,Bv,BH]at c4 ⊢
   refine A7 Tryz.func227 Tryz.ntmps227 ?_
   refine Ac q9 ?_
   refine w9 (A5 [] c4) q9 ?_
   refine A3 q9 ?_
   exact Ab (Aa [] []) Tryz.results227 hok
 ·rw[show Ce 5 t=P5 t from rfl]at *
  rcases Be hok with⟨v,e,_⟩ | ⟨c,_,e⟩
  all_goals
   rw[e]at c5 ⊢
   simp only[BG,Bv,BH]at c5 ⊢
   refine A7 Tryz.func227 Tryz.ntmps227 ?_
   refine Ac q9 ?_
   refine w9 (A5 [] c5) q9 ?_
   refine A3 q9 ?_
   exact Ab (Aa [] []) Tryz.results227 hok
 ·rw[show Ce 6 t=Fe t from rfl]at *
  unfold Fe at *
  by_cases h3:t.kind=3
  ·rw[if_pos h3]at *
   have b3:(t.kind != 3)=false:=by simp[h3]
   rcases Be hok with⟨v,e,_⟩ | ⟨c,_,e⟩
   all_goals
    rw[e]at c6 ⊢
    simp only[BG,Bv,BH]at c6 ⊢
    refine A7 Tryz.func227 Tryz.ntmps227 ?_
    refine Ac (j3 ra ga b3) ?_
    refine w9 (A5 [] c6) q9 ?_
    refine A3 q9 ?_
    exact Ab (Aa [] []) Tryz.results227 hok
  ·rw[if_neg h3]at *
   have b3:(t.kind != 3)=true:=by simpa using h3
   rw[DS]
   refine A7 Tryz.func227 Tryz.ntmps227 ?_
   refine Ac (j3 ra ga b3) ?_
   refine w9 (A5 [] c9) E0 ?_
   refine A3 E0 ?_
   exact Ab (Aa [] []) Tryz.results227 b3
 ·rw[show Ce 7 t=KI t from rfl]at *
  rcases Be hok with⟨v,e,_⟩ | ⟨c,_,e⟩
  all_goals
   rw[e]at c7 ⊢
   simp only[BG,Bv,BH]at c7 ⊢
   refine A7 Tryz.func227 Tryz.ntmps227 ?_
   refine Ac q9 ?_
   refine w9 (A5 [] c7) q9 ?_
   refine A3 q9 ?_
   exact Ab (Aa [] []) Tryz.results227 hok
 ·rw[show Ce 8 t=Ew 1 from rfl,DS]
  refine A7 Tryz.func227 Tryz.ntmps227 ?_
  refine Ac q9 ?_
  refine w9 (A5 [] c8) E0 ?_
  refine A3 E0 ?_
  exact Ab (Aa [] []) Tryz.results227 hok
end Go.Proofs.YtcejfdfmgmcinaaGreat
