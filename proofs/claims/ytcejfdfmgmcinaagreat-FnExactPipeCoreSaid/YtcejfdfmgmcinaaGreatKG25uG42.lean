/- Texts of this proof: G25 G26 M14 G42. -/
import Derived.Test.YtcejfdfmgmcinaaGreatKG20uM61
set_option linter.all false
set_option maxHeartbeats 8000000
namespace Go.Proofs.YtcejfdfmgmcinaaGreat
open Go.RowKit
set_option maxRecDepth 10000
theorem C6 (c:Int):AC Tryz.prog 90 [.c (.int .i64 c)] [] (.agg [.c (.int .i64 c),.nils]) []:=by
 refine A7 Tryz.func90 Tryz.ntmps90 q9 ?_
 exact Aj (A5 []) Tryz.results90
theorem Rc:BG.enc.map CellD.cs=[[.int .i64 0,.int .i64 0,.str ByteArray.empty,.str ByteArray.empty,.int .i64 0]]:=rfl
theorem Fi:AC Tryz.prog 223 [] [] (.own (0,0)) [((0,0),.row false 5 80 (BG.enc.map CellD.cs))]:=by
 rw[Rc]
 refine A7 Tryz.func223 Tryz.ntmps223 q9 ?_
 exact A9 (A8 [((0,0),(2,0))] []) Tryz.results223 @Rc
def vrA (r:Int×Option V):AV:=match r.2 with
 |some t=>.agg [.c (.int .i64 0),.c (.sl (t.enc.map CellD.cs))]
 |none=>.agg [.c (.int .i64 r.1),.c (.sl [])]
theorem Bp (c:Int) (t:V):vrA (c,some t)=.agg [.c (.int .i64 0),.c (.sl (t.enc.map CellD.cs))]:=rfl
theorem Bj (c:Int):vrA (c,none)=.agg [.c (.int .i64 c),.c (.sl [])]:=rfl
theorem Bt (t:V):vrA (okR t)=.agg [.c (.int .i64 0),.c (.sl (t.enc.map CellD.cs))]:=rfl
theorem Dj (c:Int):vrA (Ek c)=.agg [.c (.int .i64 c),.c (.sl [])]:=rfl
theorem Yp {t:V}(h:t.right) (key:ByteArray):AC Tryz.prog 346 [AB t.enc,.c (.str key)] [] (vrA (DN t key)) []:=by
 have hr0:Aa (t.enc.map CellD.cs) 5 0=true:=by unfold Aa;rw[show (0:Int).toNat=0 from rfl,AJ];rfl
 have hg0:=AJ t
 by_cases h0:t.kind=0
 ·have hr:DN t key=okR BG:=by unfold DN;rw[if_pos h0]
  have hb:(t.kind==0)=true:=by simpa using h0
  rw[hr,Bt]
  refine A7 Tryz.func346 Tryz.ntmps346 (j3 hr0 hg0 hb) ?_
  refine v12 (BS [] Fi) q9 q9 ?_
  exact A9 (A8 [] [(12,0)]) Tryz.results346 hb
 ·have hb:(t.kind==0)=false:=by simpa using h0
  by_cases h6:t.kind=6
  ·have hb6:(t.kind != 6)=false:=by simpa using h6
   obtain⟨hs,_,hkl⟩:=DC h h6
   have hkn:=BV h.2.1
   have hkeys:=Ff h.1 h.2.1
   have hparts:=CE h.1 h.2.1
   have hkat:∀i (hi:i<t.keys.length),t.keyAt i=t.keys[i]:=fun i hi=>by
    unfold V.keyAt
    rw[if_pos h6,List.drop_eq_getElem_cons hi]
    rfl
   have hr:DN t key=okR (t.member key):=by unfold DN;rw[if_neg h0,if_pos h6]
   rw[hr,Bt]
   refine A7 Tryz.func346 Tryz.ntmps346 (j4 hr0 hg0 hb hb6) ?_
   refine v9 (A4 [] hkeys) q9 q9 ?_
   refine Ar (κ:=Nat) (fun k=>⟨mkS 0 42 [(0,AB t.enc),(1,.c (.str key)),(4,.ptr (4,0) 0),(5,.c (.sl ((Bw t t.kids.length).map Ad))),(6,.c (.int .i64 k))],[((4,0),.box [.c (.int .i64 0),.nils])]⟩)
    (fun k=>k≤t.kids.length∧∀j (hj:j<t.keys.length),j<k→t.keys[j].toList≠key.toList) (fun k=>t.kids.length-k) 0 ⟨Nat.zero_le _,by intro j _ hj;omega⟩ ?_ ?_
   ·exact Ab (Ah.of [((4,0),(4,0))] []) hb
   ·rintro k ⟨hk,hno⟩
    have hkol:(Bw t t.kids.length).length=t.kids.length:=GZ t _
    by_cases hlt:k<t.kids.length
    ·have hd:decide ((k:Int)<(t.kids.length:Int))=true:=by simpa using hlt
     have hw:=Af (k:=k) (by omega)
     have hr2:Aa ((Bw t t.kids.length).map Ad) 1 k=true:=by simp[Aa,Bw,hlt,Ad]
     have hg2:((Bw t t.kids.length).map Ad)[k]? = some [.str t.keys[k]]:=by simp[Bw,hlt,Ad,hkat k (by omega)]
     have hr3:Aa ((t.kids.map V.enc).map Ag) 1 k=true:=by simp[Aa,hlt,Ag]
     have hg3:((t.kids.map V.enc).map Ag)[k]? = some [.sl (t.kids[k].enc.map CellD.cs)]:=by simp[hlt,Ag]
     cases he:t.keys[k].toList==key.toList with
     |true =>
      have hm:t.member key=t.kids[k]:=by
       unfold V.member JX
       rw[List.findIdx?_eq_some_iff_getElem.2 ⟨by omega,he,fun j hj=>by simpa using hno j (by omega) hj⟩]
       simp only
       rw[List.getD_eq_getElem?_getD,List.getElem?_eq_getElem hlt,Option.getD_some]
      rw[hm]
      generalize t.kids[k]=u at *
      refine Ac (j5 hkol hd hr2 hg2 he) ?_
      refine v9 (A4 [] hparts) q9 (j2 hr3 hg3) ?_
      exact Aj (A5 []) Tryz.results346
     |false =>
      refine Ac (j6 hkol hd hr2 hg2 he hw) ?_
      refine⟨k+1,by omega,⟨by omega,fun j hj hjk=>?_⟩,?_⟩
      ·by_cases hjk':j=k
       ·subst hjk';simpa using he
       ·exact hno j hj (by omega)
      ·exact Ab (Ah.of [((4,0),(4,0))] []) hb
    ·have hd:decide ((k:Int)<(t.kids.length:Int))=false:=by simpa using hlt
     have hm:t.member key=BG:=by
      unfold V.member JX
      rw[List.findIdx?_eq_none_iff.2 fun x hx=>by
       obtain⟨i,hi,rfl⟩:=List.getElem_of_mem hx
       simpa using hno i hi (by omega)]
     rw[hm]
     refine Ac (j2 hkol hd) ?_
     refine v12 (BS [] Fi) q9 q9 ?_
     exact A9 (A8 [] [(40,0)]) Tryz.results346 hb
  ·have hr:DN t key=Ek 6:=by unfold DN;rw[if_neg h0,if_neg h6]
   have hb6:(t.kind != 6)=true:=by simpa using h6
   rw[hr,Dj]
   refine A7 Tryz.func346 Tryz.ntmps346 (j4 hr0 hg0 hb hb6) ?_
   refine v7 (A3 [] (C6 6)) q9 q9 ?_
   exact Aj (A5 []) Tryz.results346
set_option maxRecDepth 10000
theorem K7 (n lo hi:Int):AC Tryz.prog 67 [.c (.int .i64 n),.c (.int .i64 lo),.c (.int .i64 hi)] [] (.c (.bool (decide (n≥lo)&&decide (n≤hi)))) []:=by
 cases h1:decide (n≥lo)<;>cases h2:decide (n≤hi)
 all_goals
  refine A7 Tryz.func67 Tryz.ntmps67 (j2 h1 h2) ?_
  exact Aj (A5 []) Tryz.results67
theorem TC {t:V}(h:t.right) (n:Int) (hn:-1000000000000000≤n∧n≤1000000000000000):AC Tryz.prog 347 [AB t.enc,.c (.int .i64 n)] [] (vrA (Dh t n)) []:=by
 have hkl:=BV h.2.1
 have hr0:Aa (t.enc.map CellD.cs) 5 0=true:=by unfold Aa;rw[show (0:Int).toNat=0 from rfl,AJ];rfl
 have hg0:=AJ t
 by_cases h0:t.kind=0
 ·have hr:Dh t n=okR BG:=by unfold Dh;rw[if_pos h0]
  have hb:(t.kind==0)=true:=by simpa using h0
  rw[hr,Bt]
  refine A7 Tryz.func347 Tryz.ntmps347 (j3 hr0 hg0 hb) ?_
  refine v12 (BS [] Fi) q9 q9 ?_
  exact A9 (A8 [] [(10,0)]) Tryz.results347 hb
 ·have hb:(t.kind==0)=false:=by simpa using h0
  by_cases h5:t.kind=5
  ·have hb5:(t.kind != 5)=false:=by simpa using h5
   have hwm:IntKind.i64.wrap ((t.kids.length:Int)-1)=(t.kids.length:Int)-1:=IntWalk.i64_in _ (by omega)
   have hwi:=K7 (DM n t.kids.length) 0 ((t.kids.length:Int)-1)
   have hparts:=CE h.1 h.2.1
   have hsplit:(decide (n<0)=true∧IntKind.i64.wrap (n+(t.kids.length:Int))=DM n t.kids.length)∨(decide (n<0)=false∧n=DM n t.kids.length):=by
    unfold DM
    by_cases hneg:n<0
    ·rw[if_pos hneg]
     exact .inl ⟨by simpa using hneg,IntWalk.i64_in _ (by omega)⟩
    ·rw[if_neg hneg]
     exact .inr ⟨by simpa using hneg,rfl⟩
   cases hin:(decide (DM n t.kids.length≥0)&&decide (DM n t.kids.length≤(t.kids.length:Int)-1)) with
   |false =>
    rw[hin]at hwi
    have hr:Dh t n=okR BG:=by
     unfold Dh
     rw[if_neg h0,if_pos h5,if_neg]
     simp at hin
     omega
    rw[hr,Bt]
    generalize DM n t.kids.length=q at *
    rcases hsplit with⟨hd,hwa⟩ | ⟨hd,rfl⟩
    ·refine A7 Tryz.func347 Tryz.ntmps347 (j7 hr0 hg0 hb hb5 hd hwa hwm) ?_
     refine v7 (A3 [] hwi) q9 q9 ?_
     refine v12 (BS [] Fi) q9 q9 ?_
     exact A9 (A8 [] [(34,0)]) Tryz.results347 hb
    ·refine A7 Tryz.func347 Tryz.ntmps347 (j6 hr0 hg0 hb hb5 hd hwm) ?_
     refine v7 (A3 [] hwi) q9 q9 ?_
     refine v12 (BS [] Fi) q9 q9 ?_
     exact A9 (A8 [] [(34,0)]) Tryz.results347 hb
   |true =>
    rw[hin]at hwi
    simp at hin
    obtain⟨p,hp,hpl⟩:∃p:Nat,DM n t.kids.length=p∧p<t.kids.length:=⟨(DM n t.kids.length).toNat,by omega,by omega⟩
    have hr:Dh t n=okR t.kids[p]:=by
     unfold Dh
     rw[if_neg h0,if_pos h5,hp,if_pos (by omega),Int.toNat_natCast,List.getD_eq_getElem?_getD,List.getElem?_eq_getElem hpl,Option.getD_some]
    have hr3:Aa ((t.kids.map V.enc).map Ag) 1 p=true:=by simp[Aa,hpl,Ag]
    have hg3:((t.kids.map V.enc).map Ag)[p]? = some [.sl (t.kids[p].enc.map CellD.cs)]:=by simp[hpl,Ag]
    rw[hr,Bt]
    generalize t.kids[p]=u at *
    rw[hp]at hwi hsplit
    rcases hsplit with⟨hd,hwa⟩ | ⟨hd,rfl⟩
    ·refine A7 Tryz.func347 Tryz.ntmps347 (j7 hr0 hg0 hb hb5 hd hwa hwm) ?_
     refine v7 (A3 [] hwi) q9 q9 ?_
     refine v9 (A4 [] hparts) q9 (j2 hr3 hg3) ?_
     exact Aj (A5 []) Tryz.results347
    ·refine A7 Tryz.func347 Tryz.ntmps347 (j6 hr0 hg0 hb hb5 hd hwm) ?_
     refine v7 (A3 [] hwi) q9 q9 ?_
     refine v9 (A4 [] hparts) q9 (j2 hr3 hg3) ?_
     exact Aj (A5 []) Tryz.results347
  ·have hr:Dh t n=Ek 6:=by unfold Dh;rw[if_neg h0,if_neg h5]
   have hb5:(t.kind != 5)=true:=by simpa using h5
   rw[hr,Dj]
   refine A7 Tryz.func347 Tryz.ntmps347 (j4 hr0 hg0 hb hb5) ?_
   refine v7 (A3 [] (C6 6)) q9 q9 ?_
   exact Aj (A5 []) Tryz.results347
theorem ZU {t k:V}(h:t.right) (hk:k.right):AC Tryz.prog 288 [AB t.enc,AB k.enc] [] (vrA (Es t k)) []:=by
 have hr0:Aa (k.enc.map CellD.cs) 5 0=true:=by unfold Aa;rw[show (0:Int).toNat=0 from rfl,AJ];rfl
 have hg0:=AJ k
 by_cases h4:k.kind=4
 ·have hb:(k.kind==4)=true:=by simpa using h4
  have hr:Es t k=DN t k.text:=by unfold Es;rw[if_pos h4]
  have hg:=Yp h k.text
  rw[hr]
  generalize DN t k.text=r at *
  rcases r with⟨c,_ | u⟩
  all_goals
   simp only[Bp,Bj]at hg ⊢
   refine A7 Tryz.func288 Tryz.ntmps288 (j3 hr0 hg0 hb) ?_
   refine v9 (A4 [] hg) q9 q9 ?_
   exact Aj (A5 []) Tryz.results288
 ·have hb:(k.kind==4)=false:=by simpa using h4
  by_cases h3:k.kind=3
  ·have hb3:(k.kind==3)=true:=by simpa using h3
   have hr:Es t k=Dh t k.num:=by unfold Es;rw[if_neg h4,if_pos h3]
   have hg:=TC h k.num (DD hk)
   rw[hr]
   generalize Dh t k.num=r at *
   rcases r with⟨c,_ | u⟩
   all_goals
    simp only[Bp,Bj]at hg ⊢
    refine A7 Tryz.func288 Tryz.ntmps288 (j4 hr0 hg0 hb hb3) ?_
    refine v9 (A4 [] hg) q9 q9 ?_
    exact Aj (A5 []) Tryz.results288
  ·have hb3:(k.kind==3)=false:=by simpa using h3
   have hr:Es t k=Ek 6:=by unfold Es;rw[if_neg h4,if_neg h3]
   rw[hr,Dj]
   refine A7 Tryz.func288 Tryz.ntmps288 (j4 hr0 hg0 hb hb3) ?_
   refine v7 (A3 [] (C6 6)) q9 q9 ?_
   exact Aj (A5 []) Tryz.results288
def QF (n:Nat) (b:Int) (out:List Int):Prop:=out.length=n∧∀v∈out,-1≤v∧v≤b
theorem QF.get {n:Nat}{b:Int}{out:List Int}(h:QF n b out) (hb:0≤b) (m:Nat):-1≤out.getD m 0∧out.getD m 0≤b:=by
 rw[List.getD_eq_getElem?_getD]
 by_cases hm:m<out.length
 ·rw[List.getElem?_eq_getElem hm,Option.getD_some]
  exact h.2 _ (List.getElem_mem hm)
 ·rw[List.getElem?_eq_none (by omega),Option.getD_none]
  omega
theorem QF.set {n:Nat}{b:Int}{out:List Int}(h:QF n b out) {m:Nat}{x:Int}(hx:-1≤x∧x≤b):QF n b (out.set m x):=by
 refine⟨by rw[List.length_set];exact h.1,fun v hv=>?_⟩
 rcases List.mem_or_eq_of_mem_set hv with hv | rfl
 ·exact h.2 v hv
 ·exact hx
theorem QF.up {n:Nat}{b c:Int}{out:List Int}(h:QF n b out) (hc:b≤c):QF n c out:=⟨h.1,fun v hv=>by have:=h.2 v hv;omega⟩
set_option maxRecDepth 10000
abbrev I1 (l:List Int):AV:=.c (.sl (l.map Aw))
end Go.Proofs.YtcejfdfmgmcinaaGreat
