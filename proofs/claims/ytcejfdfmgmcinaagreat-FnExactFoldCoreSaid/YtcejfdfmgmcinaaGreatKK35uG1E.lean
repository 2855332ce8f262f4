/- Texts of this proof: K35 G1D G1E. -/
import Derived.Test.YtcejfdfmgmcinaaGreatKK34
set_option linter.all false
set_option maxHeartbeats 8000000
namespace Go.Proofs.YtcejfdfmgmcinaaGreat
open Go.RowKit
set_option maxRecDepth 10000
noncomputable def EI (L:List CoD):CT:=by
 classical
 exact if h:Fx L=0 then Classical.choose (K6 h).2.2.2 else .mk 0 0 [] []
theorem F2 {L:List CoD}(h:Fx L=0):1≤L.length∧L.length≤900∧(EI L).ok∧Seg L 0 (EI L)∧(EI L).size=L.length∧L=(EI L).flat 0:=by
 obtain⟨h1,h2,_,_⟩:=K6 h
 unfold EI
 rw[dif_pos h]
 obtain⟨c1,c2,c3,c4⟩:=Classical.choose_spec (K6 h).2.2.2
 exact⟨h1,h2,c1,c2,c3,c4⟩
noncomputable def CD (L:List CoD):Int:=Co L (EI L)
theorem JX {L:List CoD}(h:CD L=0):Fx L=0:=by
 unfold CD Co at h
 split at h
 ·rename_i h1;exact absurd h h1
 ·rename_i h1;simpa using h1
theorem KW {L:List CoD}(hl:L.length≤1048576) (hz:∀d∈L,Ej d.val):AC Tryz.prog 69 [AD L] [] (.c (.int .i64 (CD L))) [] :=
 SK L hl hz (EI L) fun h=>⟨(F2 h).2.2.1,(F2 h).2.2.2.1,(F2 h).2.2.2.2.1⟩
theorem Ll {L:List CoD}(hl:L.length≤1048576):AC Tryz.prog 66 [AD L] [] (.c (.int .i64 (CD L))) [] :=
 TL L hl (EI L) fun h=>⟨(F2 h).2.2.1,(F2 h).2.2.2.1,(F2 h).2.2.2.2.1⟩
noncomputable def Ir (F:Int→Int→List CellD→List CT→Option CT) (L:List CoD):Nat:=((EI L).rw F).2
noncomputable def DW (F:Int→Int→List CellD→List CT→Option CT) (L:List CoD):List CoD:=((EI L).rw F).1.flat 0
theorem Ts {f:FuncId}{L:List CoD}(hl:L.length≤1048576) (hz:∀d∈L,Ej d.val) (h:CD L≠0):AC Tryz.prog 61 [AD L,.clo f []] [] (.agg [.c (.int .i64 (CD L)),.c (.int .i64 0),.nils]) []:=by
 have hc:=KW hl hz
 have hb:(CD L != 0)=true:=Ek h
 generalize CD L=c at *
 refine A7 Tryz.func61 Tryz.ntmps61 ?_
 refine A3 q9 ?_
 refine w7 (A4 [] hc) q9 ?_
 refine A3 hb ?_
 exact Ad (A6 []) Tryz.results61
theorem WI {f:FuncId}(hcal:A8 Tryz.prog f=true) {F:Int→Int→List CellD→List CT→Option CT}(hF:Jr F) (hf:Ls f F) {L:List CoD}(hz:∀d∈L,Ej d.val) (h:CD L=0) :
  AC Tryz.prog 61 [AD L,.clo f []] [] (.agg [.c (.int .i64 0),.c (.int .i64 (Ir F L)),.own (0,0)]) [((0,0),.row true 6 87 ((DW F L).map CoD.os))]:=by
 obtain⟨h1,h2,t1,t2,t3,t4⟩:=F2 (JX h)
 have hc:=KW (L:=L) (by omega) hz
 rw[h]at hc
 have h00:((0:Int) != 0)=false:=rfl
 obtain⟨q,q1,q2,q3,q4⟩:=WL hcal hf h2 (EI L).size (EI L) 0 (Nat.le_refl _) t1 t2
 have hrd:=q4 0 (by omega)
 have hsz:=Gw L
 have hqs:q.ct.size≤900000:=by
  rw[q2]
  have:=(y9 hF (EI L) t1).2.1
  omega
 have hn:=Yj q.ct.size q (Nat.le_refl _) q1 hqs
 have hres:([]++q.ct.flat 0).map CoD.os=(DW F L).map CoD.os:=by rw[q2];rfl
 rw[hres]at hn
 have hwl:IntKind.i64.wrap ((L.length:Int)-1)=((L.length-1:Nat):Int):=by rw[IntWalk.i64_in _ (by omega)];omega
 rw[show 0+(EI L).size-1=L.length-1 by omega,show 0+((EI L).rw F).2=Ir F L by unfold Ir;omega]at hrd
 replace hrd:AC Tryz.prog 116 [.ptr (0,0) 0,.c (.int .i64 ((L.length-1:Nat):Int))] [((0,0),.box [AD L,.c (.int .i64 0),.clo f []])] q.av [((0,0),.box [AD L,.c (.int .i64 (Ir F L:Nat)),.clo f []])]:=hrd
 clear q4 q3 q2 q1 hres hqs
 unfold PT.av at *
 generalize q.d=d at *
 generalize q.kids.map PT.cs=P at *
 generalize Ir F L=m at *
 generalize (DW F L).map CoD.os=R at *
 refine A7 Tryz.func61 Tryz.ntmps61 ?_
 refine A3 q9 ?_
 refine w7 (A4 [] hc) q9 ?_
 refine A3 h00 ?_
 refine w7 (A4 [] hsz) q9 ?_
 refine A3 hwl ?_
 refine Bx (An [((0,0),(17,0))] [((0,0),(17,0))] hrd) q9 ?_
 refine A3 q9 ?_
 refine w12 (AS [] hn) q9 ?_
 refine A3 q9 ?_
 exact Ab (Aa [((0,0),(28,0))] []) Tryz.results61 hwl
theorem QV:Ls 62 C6:=fun _ h=>UA h
theorem Rb {L:List CoD}(hl:L.length≤1048576) (hz:∀d∈L,Ej d.val) (h:CD L≠0):AC Tryz.prog 13 [AD L] [] (.agg [.c (.int .i64 (CD L)),.c (.int .i64 0),.nils]) []:=by
 have hp:=Ts (f:=62) hl hz h
 generalize CD L=c at *
 refine A7 Tryz.func13 Tryz.ntmps13 ?_
 refine A3 q9 ?_
 refine w7 (A4 [] hp) q9 ?_
 refine A3 q9 ?_
 exact Ad (A6 []) Tryz.results13
theorem SL {L:List CoD}(hz:∀d∈L,Ej d.val) (h:CD L=0):AC Tryz.prog 13 [AD L] [] (.agg [.c (.int .i64 0),.c (.int .i64 (Ir C6 L)),.own (0,0)]) [((0,0),.row true 6 87 ((DW C6 L).map CoD.os))]:=by
 have hp:=WI (f:=62) rfl NB QV hz h
 generalize Ir C6 L=m at *
 generalize (DW C6 L).map CoD.os=R at *
 refine A7 Tryz.func13 Tryz.ntmps13 ?_
 refine A3 q9 ?_
 refine w12 (AS [] hp) q9 ?_
 refine A3 q9 ?_
 exact Ab (Aa [((0,0),(4,0))] []) Tryz.results13 h
set_option maxRecDepth 10000
theorem HX (k m:Int) (t y:ByteArray) (n:Int):AC Tryz.prog 159 [.agg [.c (.int .i64 k),.c (.int .i64 m),.c (.str t),.c (.str y),.c (.int .i64 n)]] [] (.c (.bool (k==5||k==6))) []:=by
 cases h5:k==5 with
 |true =>
  rw[Bool.true_or]
  refine A7 Tryz.func159 Tryz.ntmps159 ?_
  refine A3 h5 ?_
  exact Ab (Aa [] []) Tryz.results159 h5
 |false =>
  rw[Bool.false_or]
  refine A7 Tryz.func159 Tryz.ntmps159 ?_
  refine A3 h5 ?_
  exact Ab (Aa [] []) Tryz.results159 h5
theorem T6 {t:V}(ht:t.right):AC Tryz.prog 294 [AH t.enc] [] (vrA (Fq t)) []:=by
 have ra:=CE t
 have ga:=AL t
 have hn:=Gp ht
 have hs:=E1 (DB ht)
 unfold Fq
 by_cases k0:t.kind=0
 ·have b0:(t.kind==0)=true:=by simpa using k0
  have h1:=Cd 0
  rw[if_pos k0,BH]
  refine A7 Tryz.func294 Tryz.ntmps294 ?_
  refine A3 (j3 ra ga b0) ?_
  refine w9 (A5 [] h1) q9 ?_
  refine A3 q9 ?_
  exact Ab (Aa [] []) Tryz.results294 b0
 ·have b0:(t.kind==0)=false:=by simpa using k0
  rw[if_neg k0]
  by_cases k3:t.kind=3
  ·have b3:(t.kind==3)=true:=by simpa using k3
   have h1:=Cd (DN t.num)
   have h2:=LK t.num (by omega)
   have ha:max t.num (-t.num)=DN t.num:=by unfold DN;omega
   rw[if_pos k3,BH,ha]
   refine A7 Tryz.func294 Tryz.ntmps294 ?_
   refine A3 (j4 ra ga b0 b3) ?_
   refine w7 (A4 [] h2) q9 ?_
   refine w9 (A5 [] h1) q9 ?_
   refine A3 q9 ?_
   exact Ab (Aa [] []) Tryz.results294 b0
  ·have b3:(t.kind==3)=false:=by simpa using k3
   rw[if_neg k3]
   by_cases k4:t.kind=4
   ·have b4:(t.kind==4)=true:=by simpa using k4
    have h1:=Cd (t.text.size:Int)
    rw[if_pos k4,BH]
    refine A7 Tryz.func294 Tryz.ntmps294 ?_
    refine A3 (j5 ra ga b0 b3 b4) ?_
    refine w9 (A5 [] h1) q9 ?_
    refine A3 q9 ?_
    exact Ab (Aa [] []) Tryz.results294 b0
   ·have b4:(t.kind==4)=false:=by simpa using k4
    rw[if_neg k4]
    by_cases k5:t.kind=5
    ·have b5:(t.kind==5)=true:=by simpa using k5
     have h1:=Cd (t.kids.length:Int)
     rw[if_pos (.inl k5),BH]
     refine A7 Tryz.func294 Tryz.ntmps294 ?_
     refine A3 (j6 ra ga b0 b3 b4 b5) ?_
     refine w9 (A5 [] h1) q9 ?_
     refine A3 q9 ?_
     exact Ab (Aa [] []) Tryz.results294 b0
    ·have b5:(t.kind==5)=false:=by simpa using k5
     by_cases k6:t.kind=6
     ·have b6:(t.kind==6)=true:=by simpa using k6
      have h1:=Cd (t.kids.length:Int)
      rw[if_pos (.inr k6),BH]
      refine A7 Tryz.func294 Tryz.ntmps294 ?_
      refine A3 (j7 ra ga b0 b3 b4 b5 b6) ?_
      refine w9 (A5 [] h1) q9 ?_
      refine A3 q9 ?_
      exact Ab (Aa [] []) Tryz.results294 b0
     ·have b6:(t.kind==6)=false:=by simpa using k6
      have h1:=Cq 6
      rw[if_neg (fun h=>h.elim k5 k6),DS]
      refine A7 Tryz.func294 Tryz.ntmps294 ?_
      refine A3 (j7 ra ga b0 b3 b4 b5 b6) ?_
      refine w9 (A5 [] h1) E0 ?_
      refine A3 E0 ?_
      exact Ab (Aa [] []) Tryz.results294 b0
theorem XV {t:V}(ht:t.right):AC Tryz.prog 296 [AH t.enc] [] (vrA (MA t)) []:=by
 have ra:=CE t
 have ga:=AL t
 obtain⟨k0,k6⟩:=WB ht
 have hk:=II (NK t.kind)
 unfold MA
 rw[BH]
 generalize hd:t.kind=k at *
 have hcase:k=0∨k=1∨k=2∨k=3∨k=4∨k=5∨k=6:=by omega
 rcases hcase with rfl | rfl | rfl | rfl | rfl | rfl | rfl
 all_goals
  refine A7 Tryz.func296 Tryz.ntmps296 ?_
  refine A3 (j2 ra ga) ?_
  refine w9 (A5 [] hk) q9 ?_
  refine A3 q9 ?_
  exact Ab (Aa [] []) Tryz.results296 ra
theorem V7 (n:Int):AC Tryz.prog 299 [.c (.int .i64 n)] [] (vrA (IV n)) []:=by
 unfold IV
 by_cases hb:n>199
 ·have hd:decide (n>199)=true:=decide_eq_true hb
  have h1:=Cq 3
  rw[if_pos hb,DS]
  refine A7 Tryz.func299 Tryz.ntmps299 ?_
  refine A3 hd ?_
  refine w9 (A5 [] h1) E0 ?_
  refine A3 E0 ?_
  exact Ab (Aa [] []) Tryz.results299 hd
 ·have hd:decide (n>199)=false:=decide_eq_false hb
  have hnn:n.toNat≤199:=by omega
  have h3:=DZ (BS n.toNat) (by have:=(Dy (H3 (n:=n.toNat) (by omega)) (by rw[DL];omega)).2.1;omega)
  rw[if_neg hb,BH]
  generalize hA:(AZ (BS n.toNat)).enc=d at *
  refine A7 Tryz.func299 Tryz.ntmps299 ?_
  refine A3 hd ?_
  refine Ay (κ:=Nat) (fun k=>⟨mkS 0 22 [(0,.c (.int .i64 n)),(2,.ptr (2,0) 0),(3,.own (99,0)),(4,.c (.int .i64 k))],[((2,0),.box [.c (.int .i64 0),.nils]),((99,0),.row false 1 50 (((BS k).map V.enc).map Al))]⟩)
   (fun k=>k≤n.toNat) (fun k=>n.toNat-k) 0 (Nat.zero_le _) ?_ ?_
  ·exact Af (Am.of [((2,0),(2,0)),((99,0),(8,0))] []) hd
  ·intro k hk
   by_cases hlt:k<n.toNat
   ·have hd1:decide ((k:Int)<n)=true:=decide_eq_true (by omega)
    have hw:=Ah (k:=k) (by omega)
    have hi:=Cd (k:Int)
    have hs:=I2 k
    have hl:(BS k).length=k:=DL k
    have hrow:((BS k).map V.enc).map Al++[[.sl ((Cb (k:Int)).enc.map CellD.cs)]]=((BS (k+1)).map V.enc).map Al:=by rw[hs];simp[Al]
    have hol:(((BS k).map V.enc).map Al).length+1≤1000000:=by simp only[List.length_map];omega
    clear hs hl
    generalize ((BS k).map V.enc).map Al=R0 at *
    generalize (Cb (k:Int)).enc.map CellD.cs=U0 at *
    refine A3 hd1 ?_
    refine w9 (A5 [] hi) q9 ?_
    refine A3 (j2 hol hw) ?_
    refine⟨k+1,by omega,by omega,?_⟩
    exact Af (Am.of [((2,0),(2,0)),((99,0),(18,0))] []) hrow
   ·have hd1:decide ((k:Int)<n)=false:=decide_eq_false (by omega)
    have hke:k=n.toNat:=by omega
    subst hke
    refine A3 hd1 ?_
    refine w9 (A5 [(99,0)] h3) q9 ?_
    refine A3 q9 ?_
    exact Ab (Aa [] []) Tryz.results299 hd1
set_option maxRecDepth 10000
theorem PO {t:V}(h:¬(t.kind=5∨t.kind=6)):(t.kind==5||t.kind==6)=false:=by
 cases hb:(t.kind==5||t.kind==6) with
 |false=>rfl
 |true=>exact absurd (by simpa using hb) h
theorem V4 {t:V}(h:¬(t.kind=5∨t.kind=6)):AC Tryz.prog 295 [AH t.enc] [] (.agg [.c (.int .i64 6),.c (.sl [])]) []:=by
 have ra:=CE t
 have ga:=AL t
 have hh:=HX t.kind t.num t.text ByteArray.empty t.kids.length
 rw[PO h]at hh
 have h1:=Cq 6
 refine A7 Tryz.func295 Tryz.ntmps295 ?_
 refine A3 (j2 ra ga) ?_
 refine w7 (A4 [] hh) q9 ?_
 refine A3 q9 ?_
 refine w9 (A5 [] h1) E0 ?_
 refine A3 E0 ?_
 exact Ab (Aa [] []) Tryz.results295 ra
theorem V5 {t:V}(ht:t.right) (h6:t.kind=6):AC Tryz.prog 295 [AH t.enc] [] (vrA (okR (AZ (t.keys.map Dj)))) []:=by
 have ra:=CE t
 have ga:=AL t
 have hh:=HX t.kind t.num t.text ByteArray.empty t.kids.length
 have b6:(t.kind==6)=true:=by simpa using h6
 have b56:(t.kind==5||t.kind==6)=true:=by simp[h6]
 rw[b56]at hh
 have hks:=FU ht.1 ht.2.1
 have hM:=ht.2.1
 have hkc:=AP t
 have hkl:=Br t.kids
 obtain⟨_,hko,hke⟩:=DM ht h6
 have ho:=F9 ht h6
 have hko2:BN t t.kids.length=t.keys:=ho
 rw[hko2]at hks
 have h3:=DZ (t.keys.map Dj) (by have:=(Dy (RN hko) (by rw[List.length_map];omega)).2.1;omega)
 have hll:t.keys.length≤200:=by omega
 rw[BH]
 generalize hA:(AZ (t.keys.map Dj)).enc=d at *
 refine A7 Tryz.func295 Tryz.ntmps295 ?_
 refine A3 (j2 ra ga) ?_
 refine w7 (A4 [] hh) q9 ?_
 refine A3 q9 ?_
 refine w9 (A5 [] hks) q9 ?_
 refine A3 q9 ?_
 generalize hl:t.keys=l at *
 have hlm:(l.map Ag).length=l.length:=by simp
 refine Ay (κ:=Nat) (fun k=>⟨mkS 0 42 [(0,AH t.enc),(2,.ptr (2,0) 0),(3,.own (99,0)),(4,.c (.sl (l.map Ag))),(5,.c (.int .i64 k))],[((2,0),.box [.c (.int .i64 0),.nils]),((99,0),.row false 1 50 ((((l.take k).map Dj).map V.enc).map Al))]⟩)
  (fun k=>k≤l.length) (fun k=>l.length-k) 0 (Nat.zero_le _) ?_ ?_
 ·exact Af (Am.of [((2,0),(2,0)),((99,0),(12,0))] []) hM
 ·intro k hk
  by_cases hlt:k<l.length
  ·have hd1:decide ((k:Int)<(l.length:Int))=true:=decide_eq_true (by omega)
   have hr:A9 (l.map Ag) 1 (k:Int)=true:=by simp[A9,hlt,Ag]
   have hg:(l.map Ag)[k]? = some [.str l[k]]:=by simp[hlt,Ag]
   have hw:=Ah (k:=k) (by omega)
   have hi:=II l[k]
   have hol2:(l.take k).length+1≤1000000:=by rw[List.length_take];omega
   have hrow:((((l.take k).map Dj).map V.enc).map Al)++[[.sl ((Dj l[k]).enc.map CellD.cs)]]=((((l.take (k+1)).map Dj).map V.enc).map Al):=by rw[List.take_succ_eq_append_getElem hlt];simp only[List.map_append,List.map_cons,List.map_nil,Al]
   have hol:((((l.take k).map Dj).map V.enc).map Al).length+1≤1000000:=by simp only[List.length_map];exact hol2
   generalize (((l.take k).map Dj).map V.enc).map Al=R0 at *
   generalize l[k]=s at *
   generalize (Dj s).enc.map CellD.cs=U0 at *
   refine A3 (j7 hlm hd1 ra ga b6 hr hg) ?_
   refine w9 (A5 [] hi) q9 ?_
   refine A3 (j2 hol hw) ?_
   refine⟨k+1,by omega,by omega,?_⟩
   exact Af (Am.of [((2,0),(2,0)),((99,0),(33,0))] []) hrow
  ·have hd1:decide ((k:Int)<(l.length:Int))=false:=decide_eq_false (by omega)
   have hke:l.take k=l:=List.take_of_length_le (by omega)
   rw[hke]
   refine A3 (j2 hlm hd1) ?_
   refine w9 (A5 [(99,0)] h3) q9 ?_
   refine A3 q9 ?_
   exact Ab (Aa [] []) Tryz.results295 hd1
theorem V3 {t:V}(ht:t.right) (h5:t.kind=5):AC Tryz.prog 295 [AH t.enc] [] (vrA (okR (AZ (BS t.kids.length)))) []:=by
 have ra:=CE t
 have ga:=AL t
 have hh:=HX t.kind t.num t.text ByteArray.empty t.kids.length
 have b6:(t.kind==6)=false:=by simp[h5]
 have b56:(t.kind==5||t.kind==6)=true:=by simp[h5]
 rw[b56]at hh
 have hks:=FU ht.1 ht.2.1
 have hM:=ht.2.1
 have hkc:=AP t
 have hkl:=Br t.kids
 have hlen:=HS t t.kids.length
 have h3:=DZ (BS t.kids.length) (by have:=(Dy (H3 (n:=t.kids.length) (by omega)) (by rw[DL];omega)).2.1;omega)
 rw[BH]
 generalize hA:(AZ (BS t.kids.length)).enc=d at *
 generalize BN t t.kids.length=ks at *
 have hlm:(ks.map Ag).length=t.kids.length:=by rw[List.length_map];exact hlen
 have hnn:t.kids.length≤200:=by omega
 refine A7 Tryz.func295 Tryz.ntmps295 ?_
 refine A3 (j2 ra ga) ?_
 refine w7 (A4 [] hh) q9 ?_
 refine A3 q9 ?_
 refine w9 (A5 [] hks) q9 ?_
 refine A3 q9 ?_
 generalize hn:t.kids.length=n at *
 refine Ay (κ:=Nat) (fun k=>⟨mkS 0 42 [(0,AH t.enc),(2,.ptr (2,0) 0),(3,.own (99,0)),(4,.c (.sl (ks.map Ag))),(5,.c (.int .i64 k))],[((2,0),.box [.c (.int .i64 0),.nils]),((99,0),.row false 1 50 (((BS k).map V.enc).map Al))]⟩)
  (fun k=>k≤n) (fun k=>n-k) 0 (Nat.zero_le _) ?_ ?_
 ·exact Af (Am.of [((2,0),(2,0)),((99,0),(12,0))] []) hM
 ·intro k hk
  by_cases hlt:k<n
  ·have hd1:decide ((k:Int)<(n:Int))=true:=decide_eq_true (by omega)
   have hw:=Ah (k:=k) (by omega)
   have hi:=Cd (k:Int)
   have hs:=I2 k
   have hl:(BS k).length=k:=DL k
   have hrow:((BS k).map V.enc).map Al++[[.sl ((Cb (k:Int)).enc.map CellD.cs)]]=((BS (k+1)).map V.enc).map Al:=by rw[hs];simp[Al]
   have hol:(((BS k).map V.enc).map Al).length+1≤1000000:=by simp only[List.length_map];omega
   clear hs hl
   generalize ((BS k).map V.enc).map Al=R0 at *
   generalize (Cb (k:Int)).enc.map CellD.cs=U0 at *
   refine A3 (j5 hlm hd1 ra ga b6) ?_
   refine w9 (A5 [] hi) q9 ?_
   refine A3 (j2 hol hw) ?_
   refine⟨k+1,by omega,by omega,?_⟩
   exact Af (Am.of [((2,0),(2,0)),((99,0),(38,0))] []) hrow
  ·have hd1:decide ((k:Int)<(n:Int))=false:=decide_eq_false (by omega)
   have hke:k=n:=by omega
   subst hke
   refine A3 (j2 hlm hd1) ?_
   refine w9 (A5 [(99,0)] h3) q9 ?_
   refine A3 q9 ?_
   exact Ab (Aa [] []) Tryz.results295 hd1
theorem XS {t:V}(ht:t.right):AC Tryz.prog 295 [AH t.enc] [] (vrA (JE t)) []:=by
 unfold JE
 by_cases h6:t.kind=6
 ·rw[if_pos h6];exact V5 ht h6
 ·rw[if_neg h6]
  by_cases h5:t.kind=5
  ·rw[if_pos h5];exact V3 ht h5
  ·rw[if_neg h5];exact V4 fun h=>h.elim h5 h6
theorem ZT {t:V}(ht:t.right):AC Tryz.prog 298 [AH t.enc] [] (vrA (P5 t)) []:=by
 have ra:=CE t
 have ga:=AL t
 have hh:=HX t.kind t.num t.text ByteArray.empty t.kids.length
 unfold P5
 by_cases h56:t.kind=5∨t.kind=6
 ·have b56:(t.kind==5||t.kind==6)=true:=by simpa using h56
  rw[b56]at hh
  rw[if_pos h56]
  have hps:=Dg ht.1 ht.2.1
  have hnl:=V6
  have hr:∀x∈t.kids,x.right:=fun x hx=>Bd ht hx
  have hM:=(De ht).2
  obtain⟨r,hS⟩:∃r,JM BE t.kids=r:=⟨_,rfl⟩
  rw[hS]
  refine A7 Tryz.func298 Tryz.ntmps298 ?_
  refine A3 (j2 ra ga) ?_
  refine w7 (A4 [] hh) q9 ?_
  refine A3 q9 ?_
  refine w9 (A5 [] hnl) q9 ?_
  refine A3 q9 ?_
  refine w9 (A5 [] hps) q9 ?_
  refine A3 q9 ?_
  generalize t.kids=l at *
  have hlm:((l.map V.enc).map Al).length=l.length:=by simp
  refine Ay (κ:=Nat×V) (fun q=>⟨mkS 0 34 [(2,.ptr (2,0) 0),(3,.ptr (3,0) 0),(4,.c (.sl ((l.map V.enc).map Al))),(5,.c (.int .i64 q.1))],[((2,0),.box [.c (.int .i64 0),.nils]),((3,0),.box [.c (.int .i64 0),AH q.2.enc])]⟩)
   (fun q=>q.1≤l.length∧q.2.right∧JM q.2 (l.drop q.1)=r) (fun q=>l.length-q.1) (0,BE) ⟨Nat.zero_le _,CZ,hS⟩ ?_ ?_
  ·exact Af (Am.of [((2,0),(2,0)),((3,0),(3,0))] []) hM
  ·rintro⟨k,a⟩ ⟨hk,ha,hs⟩
   dsimp only at hk ha hs ⊢
   by_cases hlt:k<l.length
   ·have hd:decide ((k:Int)<(l.length:Int))=true:=by simpa using hlt
    have hrw:A9 ((l.map V.enc).map Al) 1 k=true:=by simp[A9,hlt,Al]
    have hgt:((l.map V.enc).map Al)[k]? = some [.sl (l[k].enc.map CellD.cs)]:=by simp[hlt,Al]
    have hw:=Ah (k:=k) (by omega)
    have hur:=hr _ (List.getElem_mem hlt)
    rw[List.drop_eq_getElem_cons hlt]at hs
    have hadd:=T4 ha hur
    have hao:=Qp ha hur
    simp only[JM]at hs
    generalize l[k]=u at *
    rcases Be hao with⟨v,e,hv⟩ | ⟨c,hc,e⟩
    ·rw[e]at hs
     have h00:((0:Int) != 0)=false:=rfl
     rw[e,BG]at hadd
     refine A3 (j4 hlm hd hrw hgt) ?_
     refine w9 (A5 [] hadd) q9 ?_
     refine A3 (j2 h00 hw) ?_
     refine⟨(k+1,v),by dsimp only;omega,⟨by dsimp only;omega,hv,hs⟩,?_⟩
     exact Af (Am.of [((2,0),(2,0)),((3,0),(3,0))] []) hw
    ·rw[e]at hs
     have hs':r=(c,none):=hs.symm
     subst hs'
     have hcb:(c != 0)=true:=by simpa using hc
     rw[e,Bv]at hadd
     rw[Bv]
     refine A3 (j4 hlm hd hrw hgt) ?_
     refine w9 (A5 [] hadd) q9 ?_
     refine A3 hcb ?_
     exact Ab (Aa [] []) Tryz.results298 hcb
   ·have hd:decide ((k:Int)<(l.length:Int))=false:=by simpa using hlt
    rw[List.drop_eq_nil_of_le (by omega)]at hs
    have hs':r=okR a:=hs.symm
    subst hs'
    rw[BH]
    refine A3 (j2 hlm hd) ?_
    exact Ab (Aa [] []) Tryz.results298 hd
 ·rw[PO h56]at hh
  rw[if_neg h56,DS]
  have h1:=Cq 6
  refine A7 Tryz.func298 Tryz.ntmps298 ?_
  refine A3 (j2 ra ga) ?_
  refine w7 (A4 [] hh) q9 ?_
  refine A3 q9 ?_
  refine w9 (A5 [] h1) E0 ?_
  refine A3 E0 ?_
  exact Ab (Aa [] []) Tryz.results298 ra
end Go.Proofs.YtcejfdfmgmcinaaGreat
