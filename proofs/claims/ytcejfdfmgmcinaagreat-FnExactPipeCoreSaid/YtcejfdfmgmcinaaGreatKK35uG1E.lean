/- Texts of this proof: K35 G1D G1E. -/
import Derived.Test.YtcejfdfmgmcinaaGreatKK33uK34
set_option linter.all false
set_option maxHeartbeats 8000000
namespace Go.Proofs.YtcejfdfmgmcinaaGreat
open Go.RowKit
set_option maxRecDepth 10000
noncomputable def E1 (L:List CoD):CT:=by
 classical
 exact if h:EM L=0 then Classical.choose (Jf h).2.2.2 else .mk 0 0 [] []
theorem Ei {L:List CoD}(h:EM L=0):1≤L.length∧L.length≤900∧(E1 L).ok∧Seg L 0 (E1 L)∧(E1 L).size=L.length∧L=(E1 L).flat 0:=by
 obtain⟨h1,h2,_,_⟩:=Jf h
 unfold E1
 rw[dif_pos h]
 obtain⟨c1,c2,c3,c4⟩:=Classical.choose_spec (Jf h).2.2.2
 exact⟨h1,h2,c1,c2,c3,c4⟩
noncomputable def D6 (L:List CoD):Int:=C4 L (E1 L)
theorem J7 {L:List CoD}(h:D6 L=0):EM L=0:=by
 unfold D6 C4 at h
 split at h
 ·rename_i h1;exact absurd h h1
 ·rename_i h1;simpa using h1
theorem K1 {L:List CoD}(hl:L.length≤1048576) (hz:∀d∈L,E2 d.val):AC Tryz.prog 69 [AA L] [] (.c (.int .i64 (D6 L))) [] :=
 Rp L hl hz (E1 L) fun h=>⟨(Ei h).2.2.1,(Ei h).2.2.2.1,(Ei h).2.2.2.2.1⟩
theorem Kj {L:List CoD}(hl:L.length≤1048576):AC Tryz.prog 66 [AA L] [] (.c (.int .i64 (D6 L))) [] :=
 So L hl (E1 L) fun h=>⟨(Ei h).2.2.1,(Ei h).2.2.2.1,(Ei h).2.2.2.2.1⟩
noncomputable def JR (F:Int→Int→List CellD→List CT→Option CT) (L:List CoD):Nat:=((E1 L).rw F).2
noncomputable def E8 (F:Int→Int→List CellD→List CT→Option CT) (L:List CoD):List CoD:=((E1 L).rw F).1.flat 0
theorem YU {f:FuncId}{L:List CoD}(hl:L.length≤1048576) (hz:∀d∈L,E2 d.val) (h:D6 L≠0):AC Tryz.prog 61 [AA L,.clo f []] [] (.agg [.c (.int .i64 (D6 L)),.c (.int .i64 0),.nils]) []:=by
 have hc:=K1 hl hz
 have hb:(D6 L != 0)=true:=DS h
 generalize D6 L=c at *
 refine A7 Tryz.func61 Tryz.ntmps61 q9 ?_
 refine v7 (A3 [] hc) q9 hb ?_
 exact Aj (A5 []) Tryz.results61
theorem i7 {f:FuncId}(hcal:A6 Tryz.prog f=true) {F:Int→Int→List CellD→List CT→Option CT}(hF:IF F) (hf:SL f F) {L:List CoD}(hz:∀d∈L,E2 d.val) (h:D6 L=0) :
  AC Tryz.prog 61 [AA L,.clo f []] [] (.agg [.c (.int .i64 0),.c (.int .i64 (JR F L)),.own (0,0)]) [((0,0),.row true 6 87 ((E8 F L).map CoD.os))]:=by
 obtain⟨h1,h2,t1,t2,t3,t4⟩:=Ei (J7 h)
 have hc:=K1 (L:=L) (by omega) hz
 rw[h]at hc
 have h00:((0:Int) != 0)=false:=rfl
 obtain⟨q,q1,q2,q3,q4⟩:=Vl hcal hf h2 (E1 L).size (E1 L) 0 (Nat.le_refl _) t1 t2
 have hrd:=q4 0 (by omega)
 have hsz:=HH L
 have hqs:q.ct.size≤900000:=by
  rw[q2]
  have:=(Zc hF (E1 L) t1).2.1
  omega
 have hn:=WS q.ct.size q (Nat.le_refl _) q1 hqs
 have hres:([]++q.ct.flat 0).map CoD.os=(E8 F L).map CoD.os:=by rw[q2];rfl
 rw[hres]at hn
 have hwl:IntKind.i64.wrap ((L.length:Int)-1)=((L.length-1:Nat):Int):=by rw[IntWalk.i64_in _ (by omega)];omega
 rw[show 0+(E1 L).size-1=L.length-1 by omega,show 0+((E1 L).rw F).2=JR F L by unfold JR;omega]at hrd
 replace hrd:AC Tryz.prog 116 [.ptr (0,0) 0,.c (.int .i64 ((L.length-1:Nat):Int))] [((0,0),.box [AA L,.c (.int .i64 0),.clo f []])] q.av [((0,0),.box [AA L,.c (.int .i64 (JR F L:Nat)),.clo f []])]:=hrd
 clear q4 q3 q2 q1 hres hqs
 unfold PT.av at *
 generalize q.d=d,q.kids.map PT.cs=P,JR F L=m,(E8 F L).map CoD.os=R at *
 refine A7 Tryz.func61 Tryz.ntmps61 q9 ?_
 refine v7 (A3 [] hc) q9 h00 ?_
 refine v7 (A3 [] hsz) q9 hwl ?_
 refine Ca (As [((0,0),(17,0))] [((0,0),(17,0))] hrd) q9 q9 ?_
 refine v12 (AU [] hn) q9 q9 ?_
 exact A9 (A8 [((0,0),(28,0))] []) Tryz.results61 hwl
theorem Qg:SL 65 fun op _ _ kids=>FK op kids:=fun _ h=>Ui h
def IX (op _num:Int) (_val:List CellD) (kids:List CT):Option CT:=FK op kids
theorem PS {L:List CoD}(hl:L.length≤1048576) (hz:∀d∈L,E2 d.val) (h:D6 L≠0):AC Tryz.prog 20 [AA L] [] (.agg [.c (.int .i64 (D6 L)),.c (.int .i64 0),.nils]) []:=by
 have hp:=YU (f:=65) hl hz h
 generalize D6 L=c at *
 refine A7 Tryz.func20 Tryz.ntmps20 q9 ?_
 refine v7 (A3 [] hp) q9 q9 ?_
 exact Aj (A5 []) Tryz.results20
theorem Rq {L:List CoD}(hz:∀d∈L,E2 d.val) (h:D6 L=0):AC Tryz.prog 20 [AA L] [] (.agg [.c (.int .i64 0),.c (.int .i64 (JR IX L)),.own (0,0)]) [((0,0),.row true 6 87 ((E8 IX L).map CoD.os))]:=by
 have hp:=i7 (F:=IX) (f:=65) rfl N7 Qg hz h
 generalize JR IX L=m,(E8 IX L).map CoD.os=R at *
 refine A7 Tryz.func20 Tryz.ntmps20 q9 ?_
 refine v12 (AU [] hp) q9 q9 ?_
 exact A9 (A8 [((0,0),(4,0))] []) Tryz.results20 h
set_option maxRecDepth 10000
theorem H1 (k m:Int) (t y:ByteArray) (n:Int):AC Tryz.prog 159 [.agg [.c (.int .i64 k),.c (.int .i64 m),.c (.str t),.c (.str y),.c (.int .i64 n)]] [] (.c (.bool (k==5||k==6))) []:=by
 cases h5:k==5 with
 |true =>
  rw[Bool.true_or]
  refine A7 Tryz.func159 Tryz.ntmps159 h5 ?_
  exact A9 (A8 [] []) Tryz.results159 h5
 |false =>
  rw[Bool.false_or]
  refine A7 Tryz.func159 Tryz.ntmps159 h5 ?_
  exact A9 (A8 [] []) Tryz.results159 h5
theorem RM {t:V}(ht:t.right):AC Tryz.prog 294 [AB t.enc] [] (vrA (EH t)) []:=by
 have ra:=Ci t
 have ga:=AJ t
 have hn:=FO ht
 have hs:=EQ (Ey ht)
 unfold EH
 by_cases k0:t.kind=0
 ·have b0:(t.kind==0)=true:=by simpa using k0
  have h1:=BW 0
  rw[if_pos k0,Bt]
  refine A7 Tryz.func294 Tryz.ntmps294 (j3 ra ga b0) ?_
  refine v9 (A4 [] h1) q9 q9 ?_
  exact A9 (A8 [] []) Tryz.results294 b0
 ·have b0:(t.kind==0)=false:=by simpa using k0
  rw[if_neg k0]
  by_cases k3:t.kind=3
  ·have b3:(t.kind==3)=true:=by simpa using k3
   have h1:=BW (EV t.num)
   have h2:=KC t.num (by omega)
   have ha:max t.num (-t.num)=EV t.num:=by unfold EV;omega
   rw[if_pos k3,Bt,ha]
   refine A7 Tryz.func294 Tryz.ntmps294 (j4 ra ga b0 b3) ?_
   refine w7 (A3 [] h2) q9 ?_
   refine v9 (A4 [] h1) q9 q9 ?_
   exact A9 (A8 [] []) Tryz.results294 b0
  ·have b3:(t.kind==3)=false:=by simpa using k3
   rw[if_neg k3]
   by_cases k4:t.kind=4
   ·have b4:(t.kind==4)=true:=by simpa using k4
    have h1:=BW (t.text.size:Int)
    rw[if_pos k4,Bt]
    refine A7 Tryz.func294 Tryz.ntmps294 (j5 ra ga b0 b3 b4) ?_
    refine v9 (A4 [] h1) q9 q9 ?_
    exact A9 (A8 [] []) Tryz.results294 b0
   ·have b4:(t.kind==4)=false:=by simpa using k4
    rw[if_neg k4]
    by_cases k5:t.kind=5
    ·have b5:(t.kind==5)=true:=by simpa using k5
     have h1:=BW (t.kids.length:Int)
     rw[if_pos (.inl k5),Bt]
     refine A7 Tryz.func294 Tryz.ntmps294 (j6 ra ga b0 b3 b4 b5) ?_
     refine v9 (A4 [] h1) q9 q9 ?_
     exact A9 (A8 [] []) Tryz.results294 b0
    ·have b5:(t.kind==5)=false:=by simpa using k5
     by_cases k6:t.kind=6
     ·have b6:(t.kind==6)=true:=by simpa using k6
      have h1:=BW (t.kids.length:Int)
      rw[if_pos (.inr k6),Bt]
      refine A7 Tryz.func294 Tryz.ntmps294 (j7 ra ga b0 b3 b4 b5 b6) ?_
      refine v9 (A4 [] h1) q9 q9 ?_
      exact A9 (A8 [] []) Tryz.results294 b0
     ·have b6:(t.kind==6)=false:=by simpa using k6
      have h1:=C6 6
      rw[if_neg (fun h=>h.elim k5 k6),Dj]
      refine A7 Tryz.func294 Tryz.ntmps294 (j7 ra ga b0 b3 b4 b5 b6) ?_
      refine v9 (A4 [] h1) Dp Dp ?_
      exact A9 (A8 [] []) Tryz.results294 b0
theorem Ww {t:V}(ht:t.right):AC Tryz.prog 296 [AB t.enc] [] (vrA (Lt t)) []:=by
 have ra:=Ci t
 have ga:=AJ t
 obtain⟨k0,k6⟩:=V9 ht
 have hk:=HS (MD t.kind)
 unfold Lt
 rw[Bt]
 generalize hd:t.kind=k at *
 have hcase:k=0∨k=1∨k=2∨k=3∨k=4∨k=5∨k=6:=by omega
 rcases hcase with rfl | rfl | rfl | rfl | rfl | rfl | rfl
 all_goals
  refine A7 Tryz.func296 Tryz.ntmps296 (j2 ra ga) ?_
  refine v9 (A4 [] hk) q9 q9 ?_
  exact A9 (A8 [] []) Tryz.results296 ra
theorem TH (n:Int):AC Tryz.prog 299 [.c (.int .i64 n)] [] (vrA (I6 n)) []:=by
 unfold I6
 by_cases hb:n>199
 ·have hd:decide (n>199)=true:=decide_eq_true hb
  have h1:=C6 3
  rw[if_pos hb,Dj]
  refine A7 Tryz.func299 Tryz.ntmps299 hd ?_
  refine v9 (A4 [] h1) Dp Dp ?_
  exact A9 (A8 [] []) Tryz.results299 hd
 ·have hd:decide (n>199)=false:=decide_eq_false hb
  have hnn:n.toNat≤199:=by omega
  have h3:=Dn (BB n.toNat) (by have:=(CY (Gy (n:=n.toNat) (by omega)) (by rw[De];omega)).2.1;omega)
  rw[if_neg hb,Bt]
  generalize hA:(B4 (BB n.toNat)).enc=d at *
  refine A7 Tryz.func299 Tryz.ntmps299 hd ?_
  refine Ar (κ:=Nat) (fun k=>⟨mkS 0 22 [(0,.c (.int .i64 n)),(2,.ptr (2,0) 0),(3,.own (99,0)),(4,.c (.int .i64 k))],[((2,0),.box [.c (.int .i64 0),.nils]),((99,0),.row false 1 50 (((BB k).map V.enc).map Ag))]⟩)
   (fun k=>k≤n.toNat) (fun k=>n.toNat-k) 0 (Nat.zero_le _) ?_ ?_
  ·exact Ab (Ah.of [((2,0),(2,0)),((99,0),(8,0))] []) hd
  ·intro k hk
   by_cases hlt:k<n.toNat
   ·have hd1:decide ((k:Int)<n)=true:=decide_eq_true (by omega)
    have hw:=Af (k:=k) (by omega)
    have hi:=BW (k:Int)
    have hs:=H5 k
    have hl:(BB k).length=k:=De k
    have hrow:((BB k).map V.enc).map Ag++[[.sl ((C8 (k:Int)).enc.map CellD.cs)]]=((BB (k+1)).map V.enc).map Ag:=by rw[hs];simp[Ag]
    have hol:(((BB k).map V.enc).map Ag).length+1≤1000000:=by simp only[List.length_map];omega
    clear hs hl
    generalize ((BB k).map V.enc).map Ag=R0 at *
    generalize (C8 (k:Int)).enc.map CellD.cs=U0 at *
    refine Ac hd1 ?_
    refine v9 (A4 [] hi) q9 (j2 hol hw) ?_
    refine⟨k+1,by omega,by omega,?_⟩
    exact Ab (Ah.of [((2,0),(2,0)),((99,0),(18,0))] []) hrow
   ·have hd1:decide ((k:Int)<n)=false:=decide_eq_false (by omega)
    have hke:k=n.toNat:=by omega
    subst hke
    refine Ac hd1 ?_
    refine v9 (A4 [(99,0)] h3) q9 q9 ?_
    exact A9 (A8 [] []) Tryz.results299 hd1
set_option maxRecDepth 10000
theorem OB {t:V}(h:¬(t.kind=5∨t.kind=6)):(t.kind==5||t.kind==6)=false:=by
 cases hb:(t.kind==5||t.kind==6) with
 |false=>rfl
 |true=>exact absurd (by simpa using hb) h
theorem TE {t:V}(h:¬(t.kind=5∨t.kind=6)):AC Tryz.prog 295 [AB t.enc] [] (.agg [.c (.int .i64 6),.c (.sl [])]) []:=by
 have ra:=Ci t
 have ga:=AJ t
 have hh:=H1 t.kind t.num t.text ByteArray.empty t.kids.length
 rw[OB h]at hh
 have h1:=C6 6
 refine A7 Tryz.func295 Tryz.ntmps295 (j2 ra ga) ?_
 refine v7 (A3 [] hh) q9 q9 ?_
 refine v9 (A4 [] h1) Dp Dp ?_
 exact A9 (A8 [] []) Tryz.results295 ra
theorem TF {t:V}(ht:t.right) (h6:t.kind=6):AC Tryz.prog 295 [AB t.enc] [] (vrA (okR (B4 (t.keys.map CG)))) []:=by
 have ra:=Ci t
 have ga:=AJ t
 have hh:=H1 t.kind t.num t.text ByteArray.empty t.kids.length
 have b6:(t.kind==6)=true:=by simpa using h6
 have b56:(t.kind==5||t.kind==6)=true:=by simp[h6]
 rw[b56]at hh
 have hks:=Ff ht.1 ht.2.1
 have hM:=ht.2.1
 have hkc:=AN t
 have hkl:=Bq t.kids
 obtain⟨_,hko,hke⟩:=DC ht h6
 have ho:=Et ht h6
 have hko2:Bw t t.kids.length=t.keys:=ho
 rw[hko2]at hks
 have h3:=Dn (t.keys.map CG) (by have:=(CY (Qu hko) (by rw[List.length_map];omega)).2.1;omega)
 have hll:t.keys.length≤200:=by omega
 rw[Bt]
 generalize hA:(B4 (t.keys.map CG)).enc=d at *
 refine A7 Tryz.func295 Tryz.ntmps295 (j2 ra ga) ?_
 refine v7 (A3 [] hh) q9 q9 ?_
 refine v9 (A4 [] hks) q9 q9 ?_
 generalize hl:t.keys=l at *
 have hlm:(l.map Ad).length=l.length:=by simp
 refine Ar (κ:=Nat) (fun k=>⟨mkS 0 42 [(0,AB t.enc),(2,.ptr (2,0) 0),(3,.own (99,0)),(4,.c (.sl (l.map Ad))),(5,.c (.int .i64 k))],[((2,0),.box [.c (.int .i64 0),.nils]),((99,0),.row false 1 50 ((((l.take k).map CG).map V.enc).map Ag))]⟩)
  (fun k=>k≤l.length) (fun k=>l.length-k) 0 (Nat.zero_le _) ?_ ?_
 ·exact Ab (Ah.of [((2,0),(2,0)),((99,0),(12,0))] []) hM
 ·intro k hk
  by_cases hlt:k<l.length
  ·have hd1:decide ((k:Int)<(l.length:Int))=true:=decide_eq_true (by omega)
   have hr:Aa (l.map Ad) 1 (k:Int)=true:=by simp[Aa,hlt,Ad]
   have hg:(l.map Ad)[k]? = some [.str l[k]]:=by simp[hlt,Ad]
   have hw:=Af (k:=k) (by omega)
   have hi:=HS l[k]
   have hol2:(l.take k).length+1≤1000000:=by rw[List.length_take];omega
   have hrow:((((l.take k).map CG).map V.enc).map Ag)++[[.sl ((CG l[k]).enc.map CellD.cs)]]=((((l.take (k+1)).map CG).map V.enc).map Ag):=by rw[List.take_succ_eq_append_getElem hlt];simp only[List.map_append,List.map_cons,List.map_nil,Ag]
   have hol:((((l.take k).map CG).map V.enc).map Ag).length+1≤1000000:=by simp only[List.length_map];exact hol2
   generalize (((l.take k).map CG).map V.enc).map Ag=R0,l[k]=s at *
   generalize (CG s).enc.map CellD.cs=U0 at *
   refine Ac (j7 hlm hd1 ra ga b6 hr hg) ?_
   refine v9 (A4 [] hi) q9 (j2 hol hw) ?_
   refine⟨k+1,by omega,by omega,?_⟩
   exact Ab (Ah.of [((2,0),(2,0)),((99,0),(33,0))] []) hrow
  ·have hd1:decide ((k:Int)<(l.length:Int))=false:=decide_eq_false (by omega)
   have hke:l.take k=l:=List.take_of_length_le (by omega)
   rw[hke]
   refine Ac (j2 hlm hd1) ?_
   refine v9 (A4 [(99,0)] h3) q9 q9 ?_
   exact A9 (A8 [] []) Tryz.results295 hd1
theorem TD {t:V}(ht:t.right) (h5:t.kind=5):AC Tryz.prog 295 [AB t.enc] [] (vrA (okR (B4 (BB t.kids.length)))) []:=by
 have ra:=Ci t
 have ga:=AJ t
 have hh:=H1 t.kind t.num t.text ByteArray.empty t.kids.length
 have b6:(t.kind==6)=false:=by simp[h5]
 have b56:(t.kind==5||t.kind==6)=true:=by simp[h5]
 rw[b56]at hh
 have hks:=Ff ht.1 ht.2.1
 have hM:=ht.2.1
 have hkc:=AN t
 have hkl:=Bq t.kids
 have hlen:=GZ t t.kids.length
 have h3:=Dn (BB t.kids.length) (by have:=(CY (Gy (n:=t.kids.length) (by omega)) (by rw[De];omega)).2.1;omega)
 rw[Bt]
 generalize hA:(B4 (BB t.kids.length)).enc=d at *
 generalize Bw t t.kids.length=ks at *
 have hlm:(ks.map Ad).length=t.kids.length:=by rw[List.length_map];exact hlen
 have hnn:t.kids.length≤200:=by omega
 refine A7 Tryz.func295 Tryz.ntmps295 (j2 ra ga) ?_
 refine v7 (A3 [] hh) q9 q9 ?_
 refine v9 (A4 [] hks) q9 q9 ?_
 generalize hn:t.kids.length=n at *
 refine Ar (κ:=Nat) (fun k=>⟨mkS 0 42 [(0,AB t.enc),(2,.ptr (2,0) 0),(3,.own (99,0)),(4,.c (.sl (ks.map Ad))),(5,.c (.int .i64 k))],[((2,0),.box [.c (.int .i64 0),.nils]),((99,0),.row false 1 50 (((BB k).map V.enc).map Ag))]⟩)
  (fun k=>k≤n) (fun k=>n-k) 0 (Nat.zero_le _) ?_ ?_
 ·exact Ab (Ah.of [((2,0),(2,0)),((99,0),(12,0))] []) hM
 ·intro k hk
  by_cases hlt:k<n
  ·have hd1:decide ((k:Int)<(n:Int))=true:=decide_eq_true (by omega)
   have hw:=Af (k:=k) (by omega)
   have hi:=BW (k:Int)
   have hs:=H5 k
   have hl:(BB k).length=k:=De k
   have hrow:((BB k).map V.enc).map Ag++[[.sl ((C8 (k:Int)).enc.map CellD.cs)]]=((BB (k+1)).map V.enc).map Ag:=by rw[hs];simp[Ag]
   have hol:(((BB k).map V.enc).map Ag).length+1≤1000000:=by simp only[List.length_map];omega
   clear hs hl
   generalize ((BB k).map V.enc).map Ag=R0 at *
   generalize (C8 (k:Int)).enc.map CellD.cs=U0 at *
   refine Ac (j5 hlm hd1 ra ga b6) ?_
   refine v9 (A4 [] hi) q9 (j2 hol hw) ?_
   refine⟨k+1,by omega,by omega,?_⟩
   exact Ab (Ah.of [((2,0),(2,0)),((99,0),(38,0))] []) hrow
  ·have hd1:decide ((k:Int)<(n:Int))=false:=decide_eq_false (by omega)
   have hke:k=n:=by omega
   subst hke
   refine Ac (j2 hlm hd1) ?_
   refine v9 (A4 [(99,0)] h3) q9 q9 ?_
   exact A9 (A8 [] []) Tryz.results295 hd1
theorem Wr {t:V}(ht:t.right):AC Tryz.prog 295 [AB t.enc] [] (vrA (IS t)) []:=by
 unfold IS
 by_cases h6:t.kind=6
 ·rw[if_pos h6];exact TF ht h6
 ·rw[if_neg h6]
  by_cases h5:t.kind=5
  ·rw[if_pos h5];exact TD ht h5
  ·rw[if_neg h5];exact TE fun h=>h.elim h5 h6
theorem Yr {t:V}(ht:t.right):AC Tryz.prog 298 [AB t.enc] [] (vrA (NY t)) []:=by
 have ra:=Ci t
 have ga:=AJ t
 have hh:=H1 t.kind t.num t.text ByteArray.empty t.kids.length
 unfold NY
 by_cases h56:t.kind=5∨t.kind=6
 ·have b56:(t.kind==5||t.kind==6)=true:=by simpa using h56
  rw[b56]at hh
  rw[if_pos h56]
  have hps:=CE ht.1 ht.2.1
  have hnl:=TG
  have hr:∀x∈t.kids,x.right:=fun x hx=>Bf ht hx
  have hM:=(Da ht).2
  obtain⟨r,hS⟩:∃r,J0 BG t.kids=r:=⟨_,rfl⟩
  rw[hS]
  refine A7 Tryz.func298 Tryz.ntmps298 (j2 ra ga) ?_
  refine v7 (A3 [] hh) q9 q9 ?_
  refine v9 (A4 [] hnl) q9 q9 ?_
  refine v9 (A4 [] hps) q9 q9 ?_
  generalize t.kids=l at *
  have hlm:((l.map V.enc).map Ag).length=l.length:=by simp
  refine Ar (κ:=Nat×V) (fun q=>⟨mkS 0 34 [(2,.ptr (2,0) 0),(3,.ptr (3,0) 0),(4,.c (.sl ((l.map V.enc).map Ag))),(5,.c (.int .i64 q.1))],[((2,0),.box [.c (.int .i64 0),.nils]),((3,0),.box [.c (.int .i64 0),AB q.2.enc])]⟩)
   (fun q=>q.1≤l.length∧q.2.right∧J0 q.2 (l.drop q.1)=r) (fun q=>l.length-q.1) (0,BG) ⟨Nat.zero_le _,Dr,hS⟩ ?_ ?_
  ·exact Ab (Ah.of [((2,0),(2,0)),((3,0),(3,0))] []) hM
  ·rintro⟨k,a⟩ ⟨hk,ha,hs⟩
   dsimp only at hk ha hs ⊢
   by_cases hlt:k<l.length
   ·have hd:decide ((k:Int)<(l.length:Int))=true:=by simpa using hlt
    have hrw:Aa ((l.map V.enc).map Ag) 1 k=true:=by simp[Aa,hlt,Ag]
    have hgt:((l.map V.enc).map Ag)[k]? = some [.sl (l[k].enc.map CellD.cs)]:=by simp[hlt,Ag]
    have hw:=Af (k:=k) (by omega)
    have hur:=hr _ (List.getElem_mem hlt)
    rw[List.drop_eq_getElem_cons hlt]at hs
    have hadd:=RK ha hur
    have hao:=Ph ha hur
    simp only[J0]at hs
    generalize l[k]=u at *
    rcases B7 hao with⟨v,e,hv⟩ | ⟨c,hc,e⟩
    ·rw[e]at hs
     have h00:((0:Int) != 0)=false:=rfl
     rw[e,Bp]at hadd
     refine Ac (j4 hlm hd hrw hgt) ?_
     refine v9 (A4 [] hadd) q9 (j2 h00 hw) ?_
     refine⟨(k+1,v),by dsimp only;omega,⟨by dsimp only;omega,hv,hs⟩,?_⟩
     exact Ab (Ah.of [((2,0),(2,0)),((3,0),(3,0))] []) hw
    ·rw[e]at hs
     have hs':r=(c,none):=hs.symm
     subst hs'
     have hcb:(c != 0)=true:=by simpa using hc
     rw[e,Bj]at hadd
     rw[Bj]
     refine Ac (j4 hlm hd hrw hgt) ?_
     refine v9 (A4 [] hadd) q9 hcb ?_
     exact A9 (A8 [] []) Tryz.results298 hcb
   ·have hd:decide ((k:Int)<(l.length:Int))=false:=by simpa using hlt
    rw[List.drop_eq_nil_of_le (by omega)]at hs
    have hs':r=okR a:=hs.symm
    subst hs'
    rw[Bt]
    refine Ac (j2 hlm hd) ?_
    exact A9 (A8 [] []) Tryz.results298 hd
 ·rw[OB h56]at hh
  rw[if_neg h56,Dj]
  have h1:=C6 6
  refine A7 Tryz.func298 Tryz.ntmps298 (j2 ra ga) ?_
  refine v7 (A3 [] hh) q9 q9 ?_
  refine v9 (A4 [] h1) Dp Dp ?_
  exact A9 (A8 [] []) Tryz.results298 ra
end Go.Proofs.YtcejfdfmgmcinaaGreat
