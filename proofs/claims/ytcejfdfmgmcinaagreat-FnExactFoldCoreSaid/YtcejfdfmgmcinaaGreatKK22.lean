/- The reference's l10Dead. Printed by gen_k22.py. -/
import Derived.Test.YtcejfdfmgmcinaaGreatKK05uK07
set_option linter.all false
set_option maxHeartbeats 8000000
namespace Go.Proofs.YtcejfdfmgmcinaaGreat
open Go.RowKit
set_option maxRecDepth 10000
theorem BM:AD (AA.flat 0)=.c (.sl [[C.int .i64 17,C.int .i64 0,C.int .i64 0,C.int .i64 0,C.int .i64 0,C.sl []]]):=rfl
theorem En (L:List CoD):Iu none L false:=.inr ⟨rfl,rfl⟩
theorem SU {op num:Int}{val:List CellD}{a:CT}(ho:Au op=1) (hz:a.size≤900):∃L r,Iu (B5 op [a]) L r∧AC Tryz.prog 259 [IN op num val,Di [a]] [] (AW L r) []:=by
 have ht:=CU a (by omega)
 obtain⟨hr0,hg0⟩:=Cl [a] (k:=0) (by simp)
 simp only[List.getElem_cons_zero]at hg0
 have hln:([a].map Ar).length=1:=rfl
 have hgt:decide (((1:Nat):Int)>1)=false:=rfl
 have hnil:([]:List CoD).map CoD.cs=[]:=rfl
 rcases l8 ho with rfl | rfl | rfl
 ·by_cases ha:a.op=17
  ·have ma:(a.top.op==17)=true:=BL ha
   refine⟨AA.flat 0,true,by unfold B5;dsimp only;rw[if_pos (by decide),if_pos ha];exact Ct AA,?_⟩
   generalize [a].map Ar=P at *
   generalize a.top=A at *
   generalize (a.flat 0).map CoD.cs=Fa at *
   unfold AW
   rw[BM]
   refine A7 Tryz.func259 Tryz.ntmps259 ?_
   refine A3 (j2 hr0 hg0) ?_
   refine w9 (A5 [] ht) q9 ?_
   refine Ac (j3 ma hln hgt) ?_
   exact Ab (Aa [] [(11,0)]) Tryz.results259 hnil
  ·have ma:(a.top.op==17)=false:=Bh ha
   refine⟨AA.flat 0,false,by unfold B5;dsimp only;rw[if_pos (by decide),if_neg ha];exact En _,?_⟩
   generalize [a].map Ar=P at *
   generalize a.top=A at *
   generalize (a.flat 0).map CoD.cs=Fa at *
   unfold AW
   rw[BM]
   refine A7 Tryz.func259 Tryz.ntmps259 ?_
   refine A3 (j2 hr0 hg0) ?_
   refine w9 (A5 [] ht) q9 ?_
   refine Ac (j3 ma hln hgt) ?_
   exact Ab (Aa [] [(11,0)]) Tryz.results259 hnil
 ·by_cases ha:a.op=17
  ·have ma:(a.top.op==17)=true:=BL ha
   refine⟨AA.flat 0,true,by unfold B5;dsimp only;rw[if_pos (by decide),if_pos ha];exact Ct AA,?_⟩
   generalize [a].map Ar=P at *
   generalize a.top=A at *
   generalize (a.flat 0).map CoD.cs=Fa at *
   unfold AW
   rw[BM]
   refine A7 Tryz.func259 Tryz.ntmps259 ?_
   refine A3 (j2 hr0 hg0) ?_
   refine w9 (A5 [] ht) q9 ?_
   refine Ac (j3 ma hln hgt) ?_
   exact Ab (Aa [] [(11,0)]) Tryz.results259 hnil
  ·have ma:(a.top.op==17)=false:=Bh ha
   refine⟨AA.flat 0,false,by unfold B5;dsimp only;rw[if_pos (by decide),if_neg ha];exact En _,?_⟩
   generalize [a].map Ar=P at *
   generalize a.top=A at *
   generalize (a.flat 0).map CoD.cs=Fa at *
   unfold AW
   rw[BM]
   refine A7 Tryz.func259 Tryz.ntmps259 ?_
   refine A3 (j2 hr0 hg0) ?_
   refine w9 (A5 [] ht) q9 ?_
   refine Ac (j3 ma hln hgt) ?_
   exact Ab (Aa [] [(11,0)]) Tryz.results259 hnil
 ·have hd:B5 10 [a]=none:=by unfold B5;dsimp only;rw[if_neg (by decide)]
  rw[hd]
  by_cases ha:a.op=17
  ·have ma:(a.top.op==17)=true:=BL ha
   refine⟨[],false,En _,?_⟩
   generalize [a].map Ar=P at *
   generalize a.top=A at *
   generalize (a.flat 0).map CoD.cs=Fa at *
   unfold AW
   refine A7 Tryz.func259 Tryz.ntmps259 ?_
   refine A3 (j2 hr0 hg0) ?_
   refine w9 (A5 [] ht) q9 ?_
   refine Ac (j3 ma hln hgt) ?_
   exact Ab (Aa [] []) Tryz.results259 hnil
  ·have ma:(a.top.op==17)=false:=Bh ha
   refine⟨[],false,En _,?_⟩
   generalize [a].map Ar=P at *
   generalize a.top=A at *
   generalize (a.flat 0).map CoD.cs=Fa at *
   unfold AW
   refine A7 Tryz.func259 Tryz.ntmps259 ?_
   refine A3 (j2 hr0 hg0) ?_
   refine w9 (A5 [] ht) q9 ?_
   refine Ac (j3 ma hln hgt) ?_
   exact Ab (Aa [] []) Tryz.results259 hnil
theorem OU {op num:Int}{val:List CellD}{a b c:CT}(ho:Au op=3) (hz:a.size+b.size≤900):∃L r,Iu (B5 op [a,b,c]) L r∧AC Tryz.prog 259 [IN op num val,Di [a,b,c]] [] (AW L r) []:=by
 have ht:=CU a (by omega)
 have hu:=CU b (by omega)
 obtain⟨hr0,hg0⟩:=Cl [a,b,c] (k:=0) (by simp)
 obtain⟨hr1,hg1⟩:=Cl [a,b,c] (k:=1) (by simp)
 simp only[List.getElem_cons_zero,List.getElem_cons_succ]at hg0 hg1
 have hln:([a,b,c].map Ar).length=3:=rfl
 have hgt:decide (((3:Nat):Int)>1)=true:=rfl
 have hnil:([]:List CoD).map CoD.cs=[]:=rfl
 rcases Tp ho with rfl | rfl
 ·by_cases ha:a.op=17
  ·have ma:(a.top.op==17)=true:=BL ha
   by_cases hb:b.op=17
   ·have mb:(b.top.op==17)=true:=BL hb
    refine⟨AA.flat 0,true,by unfold B5;dsimp only;rw[if_pos rfl,if_pos ha];exact Ct AA,?_⟩
    generalize [a,b,c].map Ar=P at *
    generalize a.top=A at *
    generalize (a.flat 0).map CoD.cs=Fa at *
    generalize b.top=B at *
    generalize (b.flat 0).map CoD.cs=Fb at *
    unfold AW
    rw[BM]
    refine A7 Tryz.func259 Tryz.ntmps259 ?_
    refine A3 (j2 hr0 hg0) ?_
    refine w9 (A5 [] ht) q9 ?_
    refine Ac (j5 ma hln hgt hr1 hg1) ?_
    refine w9 (A5 [] hu) q9 ?_
    refine Ac (j6 ma mb hr0 hg0 hr1 hg1) ?_
    exact Ab (Aa [] [(11,0)]) Tryz.results259 hnil
   ·have mb:(b.top.op==17)=false:=Bh hb
    refine⟨AA.flat 0,true,by unfold B5;dsimp only;rw[if_pos rfl,if_pos ha];exact Ct AA,?_⟩
    generalize [a,b,c].map Ar=P at *
    generalize a.top=A at *
    generalize (a.flat 0).map CoD.cs=Fa at *
    generalize b.top=B at *
    generalize (b.flat 0).map CoD.cs=Fb at *
    unfold AW
    rw[BM]
    refine A7 Tryz.func259 Tryz.ntmps259 ?_
    refine A3 (j2 hr0 hg0) ?_
    refine w9 (A5 [] ht) q9 ?_
    refine Ac (j5 ma hln hgt hr1 hg1) ?_
    refine w9 (A5 [] hu) q9 ?_
    refine Ac (j6 ma mb hr0 hg0 hr1 hg1) ?_
    exact Ab (Aa [] [(11,0)]) Tryz.results259 hnil
  ·have ma:(a.top.op==17)=false:=Bh ha
   by_cases hb:b.op=17
   ·have mb:(b.top.op==17)=true:=BL hb
    refine⟨AA.flat 0,false,by unfold B5;dsimp only;rw[if_pos rfl,if_neg ha];exact En _,?_⟩
    generalize [a,b,c].map Ar=P at *
    generalize a.top=A at *
    generalize (a.flat 0).map CoD.cs=Fa at *
    generalize b.top=B at *
    generalize (b.flat 0).map CoD.cs=Fb at *
    unfold AW
    rw[BM]
    refine A7 Tryz.func259 Tryz.ntmps259 ?_
    refine A3 (j2 hr0 hg0) ?_
    refine w9 (A5 [] ht) q9 ?_
    refine Ac (j5 ma hln hgt hr1 hg1) ?_
    refine w9 (A5 [] hu) q9 ?_
    refine Ac (j6 ma mb hr0 hg0 hr1 hg1) ?_
    exact Ab (Aa [] [(11,0)]) Tryz.results259 hnil
   ·have mb:(b.top.op==17)=false:=Bh hb
    refine⟨AA.flat 0,false,by unfold B5;dsimp only;rw[if_pos rfl,if_neg ha];exact En _,?_⟩
    generalize [a,b,c].map Ar=P at *
    generalize a.top=A at *
    generalize (a.flat 0).map CoD.cs=Fa at *
    generalize b.top=B at *
    generalize (b.flat 0).map CoD.cs=Fb at *
    unfold AW
    rw[BM]
    refine A7 Tryz.func259 Tryz.ntmps259 ?_
    refine A3 (j2 hr0 hg0) ?_
    refine w9 (A5 [] ht) q9 ?_
    refine Ac (j5 ma hln hgt hr1 hg1) ?_
    refine w9 (A5 [] hu) q9 ?_
    refine Ac (j6 ma mb hr0 hg0 hr1 hg1) ?_
    exact Ab (Aa [] [(11,0)]) Tryz.results259 hnil
 ·by_cases ha:a.op=17
  ·have ma:(a.top.op==17)=true:=BL ha
   by_cases hb:b.op=17
   ·have mb:(b.top.op==17)=true:=BL hb
    refine⟨AA.flat 0,true,by unfold B5;dsimp only;rw[if_neg (by decide),if_pos rfl,if_pos hb];exact Ct AA,?_⟩
    generalize [a,b,c].map Ar=P at *
    generalize a.top=A at *
    generalize (a.flat 0).map CoD.cs=Fa at *
    generalize b.top=B at *
    generalize (b.flat 0).map CoD.cs=Fb at *
    unfold AW
    rw[BM]
    refine A7 Tryz.func259 Tryz.ntmps259 ?_
    refine A3 (j2 hr0 hg0) ?_
    refine w9 (A5 [] ht) q9 ?_
    refine Ac (j5 ma hln hgt hr1 hg1) ?_
    refine w9 (A5 [] hu) q9 ?_
    refine Ac (j6 ma mb hr0 hg0 hr1 hg1) ?_
    exact Ab (Aa [] [(11,0)]) Tryz.results259 hnil
   ·have mb:(b.top.op==17)=false:=Bh hb
    refine⟨AA.flat 0,false,by unfold B5;dsimp only;rw[if_neg (by decide),if_pos rfl,if_neg hb];exact En _,?_⟩
    generalize [a,b,c].map Ar=P at *
    generalize a.top=A at *
    generalize (a.flat 0).map CoD.cs=Fa at *
    generalize b.top=B at *
    generalize (b.flat 0).map CoD.cs=Fb at *
    unfold AW
    rw[BM]
    refine A7 Tryz.func259 Tryz.ntmps259 ?_
    refine A3 (j2 hr0 hg0) ?_
    refine w9 (A5 [] ht) q9 ?_
    refine Ac (j5 ma hln hgt hr1 hg1) ?_
    refine w9 (A5 [] hu) q9 ?_
    refine Ac (j6 ma mb hr0 hg0 hr1 hg1) ?_
    exact Ab (Aa [] [(11,0)]) Tryz.results259 hnil
  ·have ma:(a.top.op==17)=false:=Bh ha
   by_cases hb:b.op=17
   ·have mb:(b.top.op==17)=true:=BL hb
    refine⟨AA.flat 0,true,by unfold B5;dsimp only;rw[if_neg (by decide),if_pos rfl,if_pos hb];exact Ct AA,?_⟩
    generalize [a,b,c].map Ar=P at *
    generalize a.top=A at *
    generalize (a.flat 0).map CoD.cs=Fa at *
    generalize b.top=B at *
    generalize (b.flat 0).map CoD.cs=Fb at *
    unfold AW
    rw[BM]
    refine A7 Tryz.func259 Tryz.ntmps259 ?_
    refine A3 (j2 hr0 hg0) ?_
    refine w9 (A5 [] ht) q9 ?_
    refine Ac (j5 ma hln hgt hr1 hg1) ?_
    refine w9 (A5 [] hu) q9 ?_
    refine Ac (j6 ma mb hr0 hg0 hr1 hg1) ?_
    exact Ab (Aa [] [(11,0)]) Tryz.results259 hnil
   ·have mb:(b.top.op==17)=false:=Bh hb
    refine⟨AA.flat 0,false,by unfold B5;dsimp only;rw[if_neg (by decide),if_pos rfl,if_neg hb];exact En _,?_⟩
    generalize [a,b,c].map Ar=P at *
    generalize a.top=A at *
    generalize (a.flat 0).map CoD.cs=Fa at *
    generalize b.top=B at *
    generalize (b.flat 0).map CoD.cs=Fb at *
    unfold AW
    rw[BM]
    refine A7 Tryz.func259 Tryz.ntmps259 ?_
    refine A3 (j2 hr0 hg0) ?_
    refine w9 (A5 [] ht) q9 ?_
    refine Ac (j5 ma hln hgt hr1 hg1) ?_
    refine w9 (A5 [] hu) q9 ?_
    refine Ac (j6 ma mb hr0 hg0 hr1 hg1) ?_
    exact Ab (Aa [] [(11,0)]) Tryz.results259 hnil
theorem SV {op num:Int}{val:List CellD}{a b:CT}(ho:Au op=2) (hok:a.ok) (hz:a.size+b.size≤900):∃L r,Iu (B5 op [a,b]) L r∧AC Tryz.prog 259 [IN op num val,Di [a,b]] [] (AW L r) []:=by
 have ht:=CU a (by omega)
 have hu:=CU b (by omega)
 obtain⟨hr0,hg0⟩:=Cl [a,b] (k:=0) (by simp)
 obtain⟨hr1,hg1⟩:=Cl [a,b] (k:=1) (by simp)
 simp only[List.getElem_cons_zero,List.getElem_cons_succ]at hg0 hg1
 have hln:([a,b].map Ar).length=2:=rfl
 have hgt:decide (((2:Nat):Int)>1)=true:=rfl
 have hnil:([]:List CoD).map CoD.cs=[]:=rfl
 rcases p8 ho with rfl | rfl | rfl | rfl | rfl | rfl | rfl
 ·by_cases ha:a.op=17
  ·have ma:(a.top.op==17)=true:=BL ha
   by_cases hb:b.op=17
   ·have mb:(b.top.op==17)=true:=BL hb
    refine⟨AA.flat 0,true,by unfold B5;dsimp only;rw[if_pos (by decide),if_pos ha];exact Ct AA,?_⟩
    generalize [a,b].map Ar=P at *
    generalize a.top=A at *
    generalize (a.flat 0).map CoD.cs=Fa at *
    generalize b.top=B at *
    generalize (b.flat 0).map CoD.cs=Fb at *
    unfold AW
    rw[BM]
    refine A7 Tryz.func259 Tryz.ntmps259 ?_
    refine A3 (j2 hr0 hg0) ?_
    refine w9 (A5 [] ht) q9 ?_
    refine Ac (j5 ma hln hgt hr1 hg1) ?_
    refine w9 (A5 [] hu) q9 ?_
    refine Ac (j6 ma mb hr0 hg0 hr1 hg1) ?_
    exact Ab (Aa [] [(11,0)]) Tryz.results259 hnil
   ·have mb:(b.top.op==17)=false:=Bh hb
    refine⟨AA.flat 0,true,by unfold B5;dsimp only;rw[if_pos (by decide),if_pos ha];exact Ct AA,?_⟩
    generalize [a,b].map Ar=P at *
    generalize a.top=A at *
    generalize (a.flat 0).map CoD.cs=Fa at *
    generalize b.top=B at *
    generalize (b.flat 0).map CoD.cs=Fb at *
    unfold AW
    rw[BM]
    refine A7 Tryz.func259 Tryz.ntmps259 ?_
    refine A3 (j2 hr0 hg0) ?_
    refine w9 (A5 [] ht) q9 ?_
    refine Ac (j5 ma hln hgt hr1 hg1) ?_
    refine w9 (A5 [] hu) q9 ?_
    refine Ac (j6 ma mb hr0 hg0 hr1 hg1) ?_
    exact Ab (Aa [] [(11,0)]) Tryz.results259 hnil
  ·have ma:(a.top.op==17)=false:=Bh ha
   by_cases hb:b.op=17
   ·have mb:(b.top.op==17)=true:=BL hb
    refine⟨AA.flat 0,false,by unfold B5;dsimp only;rw[if_pos (by decide),if_neg ha];exact En _,?_⟩
    generalize [a,b].map Ar=P at *
    generalize a.top=A at *
    generalize (a.flat 0).map CoD.cs=Fa at *
    generalize b.top=B at *
    generalize (b.flat 0).map CoD.cs=Fb at *
    unfold AW
    rw[BM]
    refine A7 Tryz.func259 Tryz.ntmps259 ?_
    refine A3 (j2 hr0 hg0) ?_
    refine w9 (A5 [] ht) q9 ?_
    refine Ac (j5 ma hln hgt hr1 hg1) ?_
    refine w9 (A5 [] hu) q9 ?_
    refine Ac (j6 ma mb hr0 hg0 hr1 hg1) ?_
    exact Ab (Aa [] [(11,0)]) Tryz.results259 hnil
   ·have mb:(b.top.op==17)=false:=Bh hb
    refine⟨AA.flat 0,false,by unfold B5;dsimp only;rw[if_pos (by decide),if_neg ha];exact En _,?_⟩
    generalize [a,b].map Ar=P at *
    generalize a.top=A at *
    generalize (a.flat 0).map CoD.cs=Fa at *
    generalize b.top=B at *
    generalize (b.flat 0).map CoD.cs=Fb at *
    unfold AW
    rw[BM]
    refine A7 Tryz.func259 Tryz.ntmps259 ?_
    refine A3 (j2 hr0 hg0) ?_
    refine w9 (A5 [] ht) q9 ?_
    refine Ac (j5 ma hln hgt hr1 hg1) ?_
    refine w9 (A5 [] hu) q9 ?_
    refine Ac (j6 ma mb hr0 hg0 hr1 hg1) ?_
    exact Ab (Aa [] [(11,0)]) Tryz.results259 hnil
 ·by_cases ha:a.op=17
  ·have ma:(a.top.op==17)=true:=BL ha
   by_cases hb:b.op=17
   ·have mb:(b.top.op==17)=true:=BL hb
    refine⟨b.flat 0,true,by unfold B5;dsimp only;rw[if_neg (by decide),if_neg (by decide),if_pos rfl,if_pos ha];exact Ct b,?_⟩
    generalize [a,b].map Ar=P at *
    generalize a.top=A at *
    generalize (a.flat 0).map CoD.cs=Fa at *
    generalize b.top=B at *
    generalize (b.flat 0).map CoD.cs=Fb at *
    unfold AW
    refine A7 Tryz.func259 Tryz.ntmps259 ?_
    refine A3 (j2 hr0 hg0) ?_
    refine w9 (A5 [] ht) q9 ?_
    refine Ac (j5 ma hln hgt hr1 hg1) ?_
    refine w9 (A5 [] hu) q9 ?_
    refine Ac (j6 ma mb hr0 hg0 hr1 hg1) ?_
    exact Ab (Aa [] []) Tryz.results259 hnil
   ·have mb:(b.top.op==17)=false:=Bh hb
    refine⟨b.flat 0,true,by unfold B5;dsimp only;rw[if_neg (by decide),if_neg (by decide),if_pos rfl,if_pos ha];exact Ct b,?_⟩
    generalize [a,b].map Ar=P at *
    generalize a.top=A at *
    generalize (a.flat 0).map CoD.cs=Fa at *
    generalize b.top=B at *
    generalize (b.flat 0).map CoD.cs=Fb at *
    unfold AW
    refine A7 Tryz.func259 Tryz.ntmps259 ?_
    refine A3 (j2 hr0 hg0) ?_
    refine w9 (A5 [] ht) q9 ?_
    refine Ac (j5 ma hln hgt hr1 hg1) ?_
    refine w9 (A5 [] hu) q9 ?_
    refine Ac (j6 ma mb hr0 hg0 hr1 hg1) ?_
    exact Ab (Aa [] []) Tryz.results259 hnil
  ·have ma:(a.top.op==17)=false:=Bh ha
   by_cases hb:b.op=17
   ·have mb:(b.top.op==17)=true:=BL hb
    refine⟨a.flat 0,true,by unfold B5;dsimp only;rw[if_neg (by decide),if_neg (by decide),if_pos rfl,if_neg ha,if_pos hb];exact Ct a,?_⟩
    generalize [a,b].map Ar=P at *
    generalize a.top=A at *
    generalize (a.flat 0).map CoD.cs=Fa at *
    generalize b.top=B at *
    generalize (b.flat 0).map CoD.cs=Fb at *
    unfold AW
    refine A7 Tryz.func259 Tryz.ntmps259 ?_
    refine A3 (j2 hr0 hg0) ?_
    refine w9 (A5 [] ht) q9 ?_
    refine Ac (j5 ma hln hgt hr1 hg1) ?_
    refine w9 (A5 [] hu) q9 ?_
    refine Ac (j6 ma mb hr0 hg0 hr1 hg1) ?_
    exact Ab (Aa [] []) Tryz.results259 hnil
   ·have mb:(b.top.op==17)=false:=Bh hb
    refine⟨a.flat 0,false,by unfold B5;dsimp only;rw[if_neg (by decide),if_neg (by decide),if_pos rfl,if_neg ha,if_neg hb];exact En _,?_⟩
    generalize [a,b].map Ar=P at *
    generalize a.top=A at *
    generalize (a.flat 0).map CoD.cs=Fa at *
    generalize b.top=B at *
    generalize (b.flat 0).map CoD.cs=Fb at *
    unfold AW
    refine A7 Tryz.func259 Tryz.ntmps259 ?_
    refine A3 (j2 hr0 hg0) ?_
    refine w9 (A5 [] ht) q9 ?_
    refine Ac (j5 ma hln hgt hr1 hg1) ?_
    refine w9 (A5 [] hu) q9 ?_
    refine Ac (j6 ma mb hr0 hg0 hr1 hg1) ?_
    exact Ab (Aa [] []) Tryz.results259 hnil
 ·by_cases hb:b.op=17
  ·have mb:(b.top.op==17)=true:=BL hb
   by_cases ha:a.op=17
   ·have ma:(a.top.op==17)=true:=BL ha
    refine⟨b.flat 0,true,by unfold B5;dsimp only;rw[if_neg (by decide),if_neg (by decide),if_neg (by decide),if_pos rfl,if_pos ha];exact Ct b,?_⟩
    generalize [a,b].map Ar=P at *
    generalize a.top=A at *
    generalize (a.flat 0).map CoD.cs=Fa at *
    generalize b.top=B at *
    generalize (b.flat 0).map CoD.cs=Fb at *
    unfold AW
    refine A7 Tryz.func259 Tryz.ntmps259 ?_
    refine A3 (j2 hr0 hg0) ?_
    refine w9 (A5 [] ht) q9 ?_
    refine Ac (j5 ma hln hgt hr1 hg1) ?_
    refine w9 (A5 [] hu) q9 ?_
    refine Ac (j6 ma mb hr0 hg0 hr1 hg1) ?_
    exact Ab (Aa [] []) Tryz.results259 hnil
   ·have ma:(a.top.op==17)=false:=Bh ha
    by_cases h2:a.op=2
    ·obtain⟨v,hv,_,ev,rfl⟩:=D4 hok h2
     have ht:=DV v
     have hT:=IJ hv
     have ma:((2:Int)==17)=false:=rfl
     have m2:((2:Int) != 2)=false:=rfl
     cases htr:CM v
     ·rw[htr]at hT
      refine⟨b.flat 0,true,by unfold B5;dsimp only;rw[if_neg (by decide),if_neg (by decide),if_neg (by decide),if_pos rfl,if_neg ha,if_pos h2,ev,htr];exact Ct _,?_⟩
      clear htr
      generalize [AE v,b].map Ar=P at *
      generalize ((AE v).flat 0).map CoD.cs=Fa at *
      generalize v.enc=Wv at *
      generalize b.top=B at *
      generalize (b.flat 0).map CoD.cs=Fb at *
      unfold AW
      refine A7 Tryz.func259 Tryz.ntmps259 ?_
      refine A3 (j2 hr0 hg0) ?_
      refine w9 (A5 [] ht) q9 ?_
      refine Ac (j5 ma hln hgt hr1 hg1) ?_
      refine w9 (A5 [] hu) q9 ?_
      refine Ac (j7 ma mb hr0 hg0 hr1 hg1 m2) ?_
      refine w7 (A4 [] hT) q9 ?_
      refine A3 (j4 hr0 hg0 hr1 hg1) ?_
      exact Ab (Aa [] []) Tryz.results259 hnil
     ·rw[htr]at hT
      refine⟨(AE v).flat 0,true,by unfold B5;dsimp only;rw[if_neg (by decide),if_neg (by decide),if_neg (by decide),if_pos rfl,if_neg ha,if_pos h2,ev,htr];exact Ct _,?_⟩
      clear htr
      generalize [AE v,b].map Ar=P at *
      generalize ((AE v).flat 0).map CoD.cs=Fa at *
      generalize v.enc=Wv at *
      generalize b.top=B at *
      generalize (b.flat 0).map CoD.cs=Fb at *
      unfold AW
      refine A7 Tryz.func259 Tryz.ntmps259 ?_
      refine A3 (j2 hr0 hg0) ?_
      refine w9 (A5 [] ht) q9 ?_
      refine Ac (j5 ma hln hgt hr1 hg1) ?_
      refine w9 (A5 [] hu) q9 ?_
      refine Ac (j7 ma mb hr0 hg0 hr1 hg1 m2) ?_
      refine w7 (A4 [] hT) q9 ?_
      refine A3 (j4 hr0 hg0 hr1 hg1) ?_
      exact Ab (Aa [] []) Tryz.results259 hnil
    ·have m2:(a.top.op != 2)=true:=Ek h2
     refine⟨[],false,by unfold B5;dsimp only;rw[if_neg (by decide),if_neg (by decide),if_neg (by decide),if_pos rfl,if_neg ha,if_neg h2];exact En _,?_⟩
     generalize [a,b].map Ar=P at *
     generalize a.top=A at *
     generalize (a.flat 0).map CoD.cs=Fa at *
     generalize b.top=B at *
     generalize (b.flat 0).map CoD.cs=Fb at *
     unfold AW
     refine A7 Tryz.func259 Tryz.ntmps259 ?_
     refine A3 (j2 hr0 hg0) ?_
     refine w9 (A5 [] ht) q9 ?_
     refine Ac (j5 ma hln hgt hr1 hg1) ?_
     refine w9 (A5 [] hu) q9 ?_
     refine Ac (j7 ma mb hr0 hg0 hr1 hg1 m2) ?_
     exact Ab (Aa [] []) Tryz.results259 hnil
  ·have mb:(b.top.op==17)=false:=Bh hb
   by_cases ha:a.op=17
   ·have ma:(a.top.op==17)=true:=BL ha
    refine⟨b.flat 0,true,by unfold B5;dsimp only;rw[if_neg (by decide),if_neg (by decide),if_neg (by decide),if_pos rfl,if_pos ha];exact Ct b,?_⟩
    generalize [a,b].map Ar=P at *
    generalize a.top=A at *
    generalize (a.flat 0).map CoD.cs=Fa at *
    generalize b.top=B at *
    generalize (b.flat 0).map CoD.cs=Fb at *
    unfold AW
    refine A7 Tryz.func259 Tryz.ntmps259 ?_
    refine A3 (j2 hr0 hg0) ?_
    refine w9 (A5 [] ht) q9 ?_
    refine Ac (j5 ma hln hgt hr1 hg1) ?_
    refine w9 (A5 [] hu) q9 ?_
    refine Ac (j6 ma mb hr0 hg0 hr1 hg1) ?_
    exact Ab (Aa [] []) Tryz.results259 hnil
   ·have ma:(a.top.op==17)=false:=Bh ha
    by_cases h2:a.op=2
    ·obtain⟨v,hv,_,ev,rfl⟩:=D4 hok h2
     have ht:=DV v
     have hT:=IJ hv
     have ma:((2:Int)==17)=false:=rfl
     have m2:((2:Int) != 2)=false:=rfl
     cases htr:CM v
     ·rw[htr]at hT
      refine⟨b.flat 0,true,by unfold B5;dsimp only;rw[if_neg (by decide),if_neg (by decide),if_neg (by decide),if_pos rfl,if_neg ha,if_pos h2,ev,htr];exact Ct _,?_⟩
      clear htr
      generalize [AE v,b].map Ar=P at *
      generalize ((AE v).flat 0).map CoD.cs=Fa at *
      generalize v.enc=Wv at *
      generalize b.top=B at *
      generalize (b.flat 0).map CoD.cs=Fb at *
      unfold AW
      refine A7 Tryz.func259 Tryz.ntmps259 ?_
      refine A3 (j2 hr0 hg0) ?_
      refine w9 (A5 [] ht) q9 ?_
      refine Ac (j5 ma hln hgt hr1 hg1) ?_
      refine w9 (A5 [] hu) q9 ?_
      refine Ac (j7 ma mb hr0 hg0 hr1 hg1 m2) ?_
      refine w7 (A4 [] hT) q9 ?_
      refine A3 (j4 hr0 hg0 hr1 hg1) ?_
      exact Ab (Aa [] []) Tryz.results259 hnil
     ·rw[htr]at hT
      refine⟨(AE v).flat 0,true,by unfold B5;dsimp only;rw[if_neg (by decide),if_neg (by decide),if_neg (by decide),if_pos rfl,if_neg ha,if_pos h2,ev,htr];exact Ct _,?_⟩
      clear htr
      generalize [AE v,b].map Ar=P at *
      generalize ((AE v).flat 0).map CoD.cs=Fa at *
      generalize v.enc=Wv at *
      generalize b.top=B at *
      generalize (b.flat 0).map CoD.cs=Fb at *
      unfold AW
      refine A7 Tryz.func259 Tryz.ntmps259 ?_
      refine A3 (j2 hr0 hg0) ?_
      refine w9 (A5 [] ht) q9 ?_
      refine Ac (j5 ma hln hgt hr1 hg1) ?_
      refine w9 (A5 [] hu) q9 ?_
      refine Ac (j7 ma mb hr0 hg0 hr1 hg1 m2) ?_
      refine w7 (A4 [] hT) q9 ?_
      refine A3 (j4 hr0 hg0 hr1 hg1) ?_
      exact Ab (Aa [] []) Tryz.results259 hnil
    ·have m2:(a.top.op != 2)=true:=Ek h2
     refine⟨[],false,by unfold B5;dsimp only;rw[if_neg (by decide),if_neg (by decide),if_neg (by decide),if_pos rfl,if_neg ha,if_neg h2];exact En _,?_⟩
     generalize [a,b].map Ar=P at *
     generalize a.top=A at *
     generalize (a.flat 0).map CoD.cs=Fa at *
     generalize b.top=B at *
     generalize (b.flat 0).map CoD.cs=Fb at *
     unfold AW
     refine A7 Tryz.func259 Tryz.ntmps259 ?_
     refine A3 (j2 hr0 hg0) ?_
     refine w9 (A5 [] ht) q9 ?_
     refine Ac (j5 ma hln hgt hr1 hg1) ?_
     refine w9 (A5 [] hu) q9 ?_
     refine Ac (j7 ma mb hr0 hg0 hr1 hg1 m2) ?_
     exact Ab (Aa [] []) Tryz.results259 hnil
 ·by_cases ha:a.op=17
  ·have ma:(a.top.op==17)=true:=BL ha
   by_cases hb:b.op=17
   ·have mb:(b.top.op==17)=true:=BL hb
    refine⟨AA.flat 0,true,by unfold B5;dsimp only;rw[if_neg (by decide),if_pos rfl,if_pos hb];exact Ct AA,?_⟩
    generalize [a,b].map Ar=P at *
    generalize a.top=A at *
    generalize (a.flat 0).map CoD.cs=Fa at *
    generalize b.top=B at *
    generalize (b.flat 0).map CoD.cs=Fb at *
    unfold AW
    rw[BM]
    refine A7 Tryz.func259 Tryz.ntmps259 ?_
    refine A3 (j2 hr0 hg0) ?_
    refine w9 (A5 [] ht) q9 ?_
    refine Ac (j5 ma hln hgt hr1 hg1) ?_
    refine w9 (A5 [] hu) q9 ?_
    refine Ac (j6 ma mb hr0 hg0 hr1 hg1) ?_
    exact Ab (Aa [] [(11,0)]) Tryz.results259 hnil
   ·have mb:(b.top.op==17)=false:=Bh hb
    refine⟨AA.flat 0,false,by unfold B5;dsimp only;rw[if_neg (by decide),if_pos rfl,if_neg hb];exact En _,?_⟩
    generalize [a,b].map Ar=P at *
    generalize a.top=A at *
    generalize (a.flat 0).map CoD.cs=Fa at *
    generalize b.top=B at *
    generalize (b.flat 0).map CoD.cs=Fb at *
    unfold AW
    rw[BM]
    refine A7 Tryz.func259 Tryz.ntmps259 ?_
    refine A3 (j2 hr0 hg0) ?_
    refine w9 (A5 [] ht) q9 ?_
    refine Ac (j5 ma hln hgt hr1 hg1) ?_
    refine w9 (A5 [] hu) q9 ?_
    refine Ac (j6 ma mb hr0 hg0 hr1 hg1) ?_
    exact Ab (Aa [] [(11,0)]) Tryz.results259 hnil
  ·have ma:(a.top.op==17)=false:=Bh ha
   by_cases hb:b.op=17
   ·have mb:(b.top.op==17)=true:=BL hb
    refine⟨AA.flat 0,true,by unfold B5;dsimp only;rw[if_neg (by decide),if_pos rfl,if_pos hb];exact Ct AA,?_⟩
    generalize [a,b].map Ar=P at *
    generalize a.top=A at *
    generalize (a.flat 0).map CoD.cs=Fa at *
    generalize b.top=B at *
    generalize (b.flat 0).map CoD.cs=Fb at *
    unfold AW
    rw[BM]
    refine A7 Tryz.func259 Tryz.ntmps259 ?_
    refine A3 (j2 hr0 hg0) ?_
    refine w9 (A5 [] ht) q9 ?_
    refine Ac (j5 ma hln hgt hr1 hg1) ?_
    refine w9 (A5 [] hu) q9 ?_
    refine Ac (j6 ma mb hr0 hg0 hr1 hg1) ?_
    exact Ab (Aa [] [(11,0)]) Tryz.results259 hnil
   ·have mb:(b.top.op==17)=false:=Bh hb
    refine⟨AA.flat 0,false,by unfold B5;dsimp only;rw[if_neg (by decide),if_pos rfl,if_neg hb];exact En _,?_⟩
    generalize [a,b].map Ar=P at *
    generalize a.top=A at *
    generalize (a.flat 0).map CoD.cs=Fa at *
    generalize b.top=B at *
    generalize (b.flat 0).map CoD.cs=Fb at *
    unfold AW
    rw[BM]
    refine A7 Tryz.func259 Tryz.ntmps259 ?_
    refine A3 (j2 hr0 hg0) ?_
    refine w9 (A5 [] ht) q9 ?_
    refine Ac (j5 ma hln hgt hr1 hg1) ?_
    refine w9 (A5 [] hu) q9 ?_
    refine Ac (j6 ma mb hr0 hg0 hr1 hg1) ?_
    exact Ab (Aa [] [(11,0)]) Tryz.results259 hnil
 ·by_cases ha:a.op=17
  ·have ma:(a.top.op==17)=true:=BL ha
   by_cases hb:b.op=17
   ·have mb:(b.top.op==17)=true:=BL hb
    refine⟨AA.flat 0,true,by unfold B5;dsimp only;rw[if_pos (by decide),if_pos ha];exact Ct AA,?_⟩
    generalize [a,b].map Ar=P at *
    generalize a.top=A at *
    generalize (a.flat 0).map CoD.cs=Fa at *
    generalize b.top=B at *
    generalize (b.flat 0).map CoD.cs=Fb at *
    unfold AW
    rw[BM]
    refine A7 Tryz.func259 Tryz.ntmps259 ?_
    refine A3 (j2 hr0 hg0) ?_
    refine w9 (A5 [] ht) q9 ?_
    refine Ac (j5 ma hln hgt hr1 hg1) ?_
    refine w9 (A5 [] hu) q9 ?_
    refine Ac (j6 ma mb hr0 hg0 hr1 hg1) ?_
    exact Ab (Aa [] [(11,0)]) Tryz.results259 hnil
   ·have mb:(b.top.op==17)=false:=Bh hb
    refine⟨AA.flat 0,true,by unfold B5;dsimp only;rw[if_pos (by decide),if_pos ha];exact Ct AA,?_⟩
    generalize [a,b].map Ar=P at *
    generalize a.top=A at *
    generalize (a.flat 0).map CoD.cs=Fa at *
    generalize b.top=B at *
    generalize (b.flat 0).map CoD.cs=Fb at *
    unfold AW
    rw[BM]
    refine A7 Tryz.func259 Tryz.ntmps259 ?_
    refine A3 (j2 hr0 hg0) ?_
    refine w9 (A5 [] ht) q9 ?_
    refine Ac (j5 ma hln hgt hr1 hg1) ?_
    refine w9 (A5 [] hu) q9 ?_
    refine Ac (j6 ma mb hr0 hg0 hr1 hg1) ?_
    exact Ab (Aa [] [(11,0)]) Tryz.results259 hnil
  ·have ma:(a.top.op==17)=false:=Bh ha
   by_cases hb:b.op=17
   ·have mb:(b.top.op==17)=true:=BL hb
    refine⟨AA.flat 0,false,by unfold B5;dsimp only;rw[if_pos (by decide),if_neg ha];exact En _,?_⟩
    generalize [a,b].map Ar=P at *
    generalize a.top=A at *
    generalize (a.flat 0).map CoD.cs=Fa at *
    generalize b.top=B at *
    generalize (b.flat 0).map CoD.cs=Fb at *
    unfold AW
    rw[BM]
    refine A7 Tryz.func259 Tryz.ntmps259 ?_
    refine A3 (j2 hr0 hg0) ?_
    refine w9 (A5 [] ht) q9 ?_
    refine Ac (j5 ma hln hgt hr1 hg1) ?_
    refine w9 (A5 [] hu) q9 ?_
    refine Ac (j6 ma mb hr0 hg0 hr1 hg1) ?_
    exact Ab (Aa [] [(11,0)]) Tryz.results259 hnil
   ·have mb:(b.top.op==17)=false:=Bh hb
    refine⟨AA.flat 0,false,by unfold B5;dsimp only;rw[if_pos (by decide),if_neg ha];exact En _,?_⟩
    generalize [a,b].map Ar=P at *
    generalize a.top=A at *
    generalize (a.flat 0).map CoD.cs=Fa at *
    generalize b.top=B at *
    generalize (b.flat 0).map CoD.cs=Fb at *
    unfold AW
    rw[BM]
    refine A7 Tryz.func259 Tryz.ntmps259 ?_
    refine A3 (j2 hr0 hg0) ?_
    refine w9 (A5 [] ht) q9 ?_
    refine Ac (j5 ma hln hgt hr1 hg1) ?_
    refine w9 (A5 [] hu) q9 ?_
    refine Ac (j6 ma mb hr0 hg0 hr1 hg1) ?_
    exact Ab (Aa [] [(11,0)]) Tryz.results259 hnil
 ·by_cases ha:a.op=17
  ·have ma:(a.top.op==17)=true:=BL ha
   by_cases hb:b.op=17
   ·have mb:(b.top.op==17)=true:=BL hb
    refine⟨AA.flat 0,true,by unfold B5;dsimp only;rw[if_pos (by decide),if_pos ha];exact Ct AA,?_⟩
    generalize [a,b].map Ar=P at *
    generalize a.top=A at *
    generalize (a.flat 0).map CoD.cs=Fa at *
    generalize b.top=B at *
    generalize (b.flat 0).map CoD.cs=Fb at *
    unfold AW
    rw[BM]
    refine A7 Tryz.func259 Tryz.ntmps259 ?_
    refine A3 (j2 hr0 hg0) ?_
    refine w9 (A5 [] ht) q9 ?_
    refine Ac (j5 ma hln hgt hr1 hg1) ?_
    refine w9 (A5 [] hu) q9 ?_
    refine Ac (j6 ma mb hr0 hg0 hr1 hg1) ?_
    exact Ab (Aa [] [(11,0)]) Tryz.results259 hnil
   ·have mb:(b.top.op==17)=false:=Bh hb
    refine⟨AA.flat 0,true,by unfold B5;dsimp only;rw[if_pos (by decide),if_pos ha];exact Ct AA,?_⟩
    generalize [a,b].map Ar=P at *
    generalize a.top=A at *
    generalize (a.flat 0).map CoD.cs=Fa at *
    generalize b.top=B at *
    generalize (b.flat 0).map CoD.cs=Fb at *
    unfold AW
    rw[BM]
    refine A7 Tryz.func259 Tryz.ntmps259 ?_
    refine A3 (j2 hr0 hg0) ?_
    refine w9 (A5 [] ht) q9 ?_
    refine Ac (j5 ma hln hgt hr1 hg1) ?_
    refine w9 (A5 [] hu) q9 ?_
    refine Ac (j6 ma mb hr0 hg0 hr1 hg1) ?_
    exact Ab (Aa [] [(11,0)]) Tryz.results259 hnil
  ·have ma:(a.top.op==17)=false:=Bh ha
   by_cases hb:b.op=17
   ·have mb:(b.top.op==17)=true:=BL hb
    refine⟨AA.flat 0,false,by unfold B5;dsimp only;rw[if_pos (by decide),if_neg ha];exact En _,?_⟩
    generalize [a,b].map Ar=P at *
    generalize a.top=A at *
    generalize (a.flat 0).map CoD.cs=Fa at *
    generalize b.top=B at *
    generalize (b.flat 0).map CoD.cs=Fb at *
    unfold AW
    rw[BM]
    refine A7 Tryz.func259 Tryz.ntmps259 ?_
    refine A3 (j2 hr0 hg0) ?_
    refine w9 (A5 [] ht) q9 ?_
    refine Ac (j5 ma hln hgt hr1 hg1) ?_
    refine w9 (A5 [] hu) q9 ?_
    refine Ac (j6 ma mb hr0 hg0 hr1 hg1) ?_
    exact Ab (Aa [] [(11,0)]) Tryz.results259 hnil
   ·have mb:(b.top.op==17)=false:=Bh hb
    refine⟨AA.flat 0,false,by unfold B5;dsimp only;rw[if_pos (by decide),if_neg ha];exact En _,?_⟩
    generalize [a,b].map Ar=P at *
    generalize a.top=A at *
    generalize (a.flat 0).map CoD.cs=Fa at *
    generalize b.top=B at *
    generalize (b.flat 0).map CoD.cs=Fb at *
    unfold AW
    rw[BM]
    refine A7 Tryz.func259 Tryz.ntmps259 ?_
    refine A3 (j2 hr0 hg0) ?_
    refine w9 (A5 [] ht) q9 ?_
    refine Ac (j5 ma hln hgt hr1 hg1) ?_
    refine w9 (A5 [] hu) q9 ?_
    refine Ac (j6 ma mb hr0 hg0 hr1 hg1) ?_
    exact Ab (Aa [] [(11,0)]) Tryz.results259 hnil
 ·by_cases ha:a.op=17
  ·have ma:(a.top.op==17)=true:=BL ha
   by_cases hb:b.op=17
   ·have mb:(b.top.op==17)=true:=BL hb
    refine⟨AA.flat 0,true,by unfold B5;dsimp only;rw[if_pos (by decide),if_pos ha];exact Ct AA,?_⟩
    generalize [a,b].map Ar=P at *
    generalize a.top=A at *
    generalize (a.flat 0).map CoD.cs=Fa at *
    generalize b.top=B at *
    generalize (b.flat 0).map CoD.cs=Fb at *
    unfold AW
    rw[BM]
    refine A7 Tryz.func259 Tryz.ntmps259 ?_
    refine A3 (j2 hr0 hg0) ?_
    refine w9 (A5 [] ht) q9 ?_
    refine Ac (j5 ma hln hgt hr1 hg1) ?_
    refine w9 (A5 [] hu) q9 ?_
    refine Ac (j6 ma mb hr0 hg0 hr1 hg1) ?_
    exact Ab (Aa [] [(11,0)]) Tryz.results259 hnil
   ·have mb:(b.top.op==17)=false:=Bh hb
    refine⟨AA.flat 0,true,by unfold B5;dsimp only;rw[if_pos (by decide),if_pos ha];exact Ct AA,?_⟩
    generalize [a,b].map Ar=P at *
    generalize a.top=A at *
    generalize (a.flat 0).map CoD.cs=Fa at *
    generalize b.top=B at *
    generalize (b.flat 0).map CoD.cs=Fb at *
    unfold AW
    rw[BM]
    refine A7 Tryz.func259 Tryz.ntmps259 ?_
    refine A3 (j2 hr0 hg0) ?_
    refine w9 (A5 [] ht) q9 ?_
    refine Ac (j5 ma hln hgt hr1 hg1) ?_
    refine w9 (A5 [] hu) q9 ?_
    refine Ac (j6 ma mb hr0 hg0 hr1 hg1) ?_
    exact Ab (Aa [] [(11,0)]) Tryz.results259 hnil
  ·have ma:(a.top.op==17)=false:=Bh ha
   by_cases hb:b.op=17
   ·have mb:(b.top.op==17)=true:=BL hb
    refine⟨AA.flat 0,false,by unfold B5;dsimp only;rw[if_pos (by decide),if_neg ha];exact En _,?_⟩
    generalize [a,b].map Ar=P at *
    generalize a.top=A at *
    generalize (a.flat 0).map CoD.cs=Fa at *
    generalize b.top=B at *
    generalize (b.flat 0).map CoD.cs=Fb at *
    unfold AW
    rw[BM]
    refine A7 Tryz.func259 Tryz.ntmps259 ?_
    refine A3 (j2 hr0 hg0) ?_
    refine w9 (A5 [] ht) q9 ?_
    refine Ac (j5 ma hln hgt hr1 hg1) ?_
    refine w9 (A5 [] hu) q9 ?_
    refine Ac (j6 ma mb hr0 hg0 hr1 hg1) ?_
    exact Ab (Aa [] [(11,0)]) Tryz.results259 hnil
   ·have mb:(b.top.op==17)=false:=Bh hb
    refine⟨AA.flat 0,false,by unfold B5;dsimp only;rw[if_pos (by decide),if_neg ha];exact En _,?_⟩
    generalize [a,b].map Ar=P at *
    generalize a.top=A at *
    generalize (a.flat 0).map CoD.cs=Fa at *
    generalize b.top=B at *
    generalize (b.flat 0).map CoD.cs=Fb at *
    unfold AW
    rw[BM]
    refine A7 Tryz.func259 Tryz.ntmps259 ?_
    refine A3 (j2 hr0 hg0) ?_
    refine w9 (A5 [] ht) q9 ?_
    refine Ac (j5 ma hln hgt hr1 hg1) ?_
    refine w9 (A5 [] hu) q9 ?_
    refine Ac (j6 ma mb hr0 hg0 hr1 hg1) ?_
    exact Ab (Aa [] [(11,0)]) Tryz.results259 hnil
end Go.Proofs.YtcejfdfmgmcinaaGreat
