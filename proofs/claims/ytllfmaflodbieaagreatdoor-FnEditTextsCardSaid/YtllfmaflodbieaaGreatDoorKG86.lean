/- spec.l13DrawPath, by the engine. Printed by gen_drawpath.py. -/
import Derived.Test.YtllfmaflodbieaaGreatDoorKG83uM29
set_option linter.all false
set_option maxHeartbeats 8000000
namespace Go.Proofs.YtllfmaflodbieaaGreatDoor
open Go.RowKit
set_option maxRecDepth 10000
theorem FJ {L:List V}{i:Nat}(h:i<L.length):Ae ((L.map V.enc).map A9) 1 ((i:Nat):Int)=true∧((L.map V.enc).map A9)[i]? = some [.sl (L[i].enc.map CellD.cs)]:=⟨by simp[Ae,h,A9],by simp[h,A9]⟩
theorem Fj {L:List (List V)}{i:Nat}(h:i<L.length):Ae (L.map BC) 1 ((i:Nat):Int)=true∧(L.map BC)[i]? = some [.sl ((L[i].map V.enc).map A9)]:=⟨by simp[Ae,h,BC],by simp[h,BC]⟩
theorem Em (P:List V) (q:V):(P.map V.enc).map A9++[[C.sl (q.enc.map CellD.cs)]]=((P++[q]).map V.enc).map A9:=by rw[List.map_append,List.map_append];rfl
theorem J0 (P:List V) (n:Nat):((P.map V.enc).map A9).take n=((P.take n).map V.enc).map A9:=by rw[List.map_take,List.map_take]
theorem CH {P:List V}(h:∀q∈P,CG q) (hl:P.length≤100):(Ba P).count≤500000:=by have:=(G8 h hl).2.1;omega
abbrev AI (bs:List Nat) (a:Nat) (xs:List CellD) (P:List V) (a':Nat):Prop:=AC Tryz.prog 135 [.ptr (0,0) 0,Aq xs] (D6 bs a) (.own (0,1)) [((0,0),Wd bs a'),((0,1),.row false 5 115 ((Ba P).enc.map CellD.cs))]
theorem OU (bs:List Nat) (hb:Bs bs) (a:Nat) (ha:a≤800000) (xs:List CellD) (hx:(dec xs).1≠0)
  (h3:(Af bs a 3==0)=false) (h30:(Af bs (a+1) 30==0)=false)
  (hall:∀x∈([]:List V),CG x):AI bs a xs ([]:List V) (a+2):=by
 have hf:=C0 xs
 have h00:((dec xs).1==0)=false:=by simpa using hx
 generalize (dec xs).1=fx at *
 have c3:=Am bs hb a 3 (by omega) (by omega)
 rw[h3]at c3
 have c30:=Am bs hb (a+1) 30 (by omega) (by omega)
 rw[h30]at c30
 have har:=BU ([]:List V) (CH hall (by simp))
 have hcut:([]:List V).length≤15:=by simp
 simp only[List.map_cons,List.map_nil,A9]at har
 have dl0:decide (((0:Nat):Int)>15)=false:=rfl
 have dl1:decide (((1:Nat):Int)>15)=false:=rfl
 have dl2:decide (((2:Nat):Int)>15)=false:=rfl
 have dl3:decide (((0+1:Nat):Int)>15)=false:=rfl
 have dl4:decide (((0+1+1:Nat):Int)>15)=false:=rfl
 have hd15:decide ((([]:List V).length:Int)>15)=false:=decide_eq_false (by omega)
 have hmn:(([]:List V).map V.enc).map A9=[]:=rfl
 unfold AI
 generalize (Ba ([]:List V)).enc=FE at *
 refine A5 Tryz.func135 Tryz.ntmps135 ?_
 refine A3 q9 ?_
 refine w7 (A8 [] hf) q9 ?_
 refine A3 h00 ?_
 refine A7 (A0 [((0,0),(0,0))] [((0,0),(0,0))] c3) q9 ?_
 refine A3 hmn ?_
 refine A7 (A0 [((0,0),(0,0))] [((0,0),(0,0))] c30) q9 ?_
 refine A3 (j8 dl0 dl1 dl2 dl3 dl4 @List.nil_append.{0} @List.cons_append.{0} hmn) ?_
 refine w12 (Au [(7,0)] har) q9 ?_
 refine A3 q9 ?_
 exact Ab (Aa [((0,0),(0,0)),((0,1),(56,0))] []) Tryz.results135 h00
theorem OV (bs:List Nat) (hb:Bs bs) (a:Nat) (ha:a≤800000) (xs:List CellD) (hx:(dec xs).1≠0)
  (h3:(Af bs a 3==0)=false) (h30:(Af bs (a+1) 30==0)=true) (p:Int) (hp:D4 bs (a+2) [200,199,-9]=p)
  (hall:∀x∈([Ar p]:List V),CG x):AI bs a xs ([Ar p]:List V) (a+3):=by
 have hf:=C0 xs
 have h00:((dec xs).1==0)=false:=by simpa using hx
 generalize (dec xs).1=fx at *
 have c3:=Am bs hb a 3 (by omega) (by omega)
 rw[h3]at c3
 have c30:=Am bs hb (a+1) 30 (by omega) (by omega)
 rw[h30]at c30
 have pc:=CI bs hb (a+2) [200,199,-9] (by simp) (by simp) (by omega)
 rw[hp]at pc
 simp only[List.map_cons,List.map_nil,BT]at pc
 have npc:=Bd p
 have har:=BU ([Ar p]:List V) (CH hall (by simp))
 have hcut:([Ar p]:List V).length≤15:=by simp
 simp only[List.map_cons,List.map_nil,A9]at har
 have dl0:decide (((0:Nat):Int)>15)=false:=rfl
 have dl1:decide (((1:Nat):Int)>15)=false:=rfl
 have dl2:decide (((2:Nat):Int)>15)=false:=rfl
 have dl3:decide (((0+1:Nat):Int)>15)=false:=rfl
 have dl4:decide (((0+1+1:Nat):Int)>15)=false:=rfl
 have hd15:decide ((([Ar p]:List V).length:Int)>15)=false:=decide_eq_false (by omega)
 have hmn:(([]:List V).map V.enc).map A9=[]:=rfl
 unfold AI
 generalize (Ba ([Ar p]:List V)).enc=FE at *
 generalize (Ar p).enc=PE at *
 refine A5 Tryz.func135 Tryz.ntmps135 ?_
 refine A3 q9 ?_
 refine w7 (A8 [] hf) q9 ?_
 refine A3 h00 ?_
 refine A7 (A0 [((0,0),(0,0))] [((0,0),(0,0))] c3) q9 ?_
 refine A3 hmn ?_
 refine A7 (A0 [((0,0),(0,0))] [((0,0),(0,0))] c30) q9 ?_
 refine A3 (j8 dl0 dl1 dl2 dl3 dl4 @List.nil_append.{0} @List.cons_append.{0} hmn) ?_
 refine AW (Az [(45,0)] [((0,0),(0,0))] [((0,0),(0,0))] pc) q9 ?_
 refine A3 h00 ?_
 refine w9 (A6 [] npc) q9 ?_
 refine A3 (j8 dl0 dl1 dl2 dl3 dl4 @List.nil_append.{0} @List.cons_append.{0} hmn) ?_
 refine w12 (Au [(49,0)] har) q9 ?_
 refine A3 q9 ?_
 exact Ab (Aa [((0,0),(0,0)),((0,1),(56,0))] []) Tryz.results135 h00
theorem OW (bs:List Nat) (hb:Bs bs) (a:Nat) (ha:a≤800000) (xs:List CellD) (hx:(dec xs).1≠0)
  (h3:(Af bs a 3==0)=true) (h30:(Af bs (a+4) 30==0)=false) (q:V) (hq:[C6 (D5 bs (a+1)),Ar ((Af bs (a+2) 5:Nat)-2:Int)][Af bs (a+3) 2]? = some q)
  (hall:∀x∈([q]:List V),CG x):AI bs a xs ([q]:List V) (a+5):=by
 have hf:=C0 xs
 have h00:((dec xs).1==0)=false:=by simpa using hx
 generalize (dec xs).1=fx at *
 have c3:=Am bs hb a 3 (by omega) (by omega)
 rw[h3]at c3
 have c30:=Am bs hb (a+4) 30 (by omega) (by omega)
 rw[h30]at c30
 have kc:=G1 bs hb (a+1) (by omega)
 have sc:=Da (D5 bs (a+1))
 have nc:=AB bs hb (a+2) 5 (by omega) (by omega)
 have hy5:=AD bs (a+2) (n:=5) (by omega)
 have wc:IntKind.i64.wrap ((Af bs (a+2) 5:Nat)-2:Int)=((Af bs (a+2) 5:Nat)-2:Int):=IntWalk.i64_in _ (by omega)
 have nmc:=Bd ((Af bs (a+2) 5:Nat)-2:Int)
 have n2:=AB bs hb (a+3) 2 (by omega) (by omega)
 have hlt2:=AD bs (a+3) (n:=2) (by omega)
 obtain⟨k0,k1⟩:=FJ (L:=[C6 (D5 bs (a+1)),Ar ((Af bs (a+2) 5:Nat)-2:Int)]) hlt2
 rw[List.getElem?_eq_getElem (by exact hlt2),Option.some.injEq]at hq
 rw[hq]at k1
 simp only[List.map_cons,List.map_nil,A9]at k0 k1
 generalize (C6 (D5 bs (a+1))).enc=E1 at *
 generalize (Ar ((Af bs (a+2) 5:Nat)-2:Int)).enc=E2 at *
 obtain⟨z5,hz5⟩:∃z5:Int,((Af bs (a+2) 5:Nat)-2:Int)=z5:=⟨_,rfl⟩
 have wc5:IntKind.i64.wrap ((Af bs (a+2) 5:Nat)-2:Int)=z5:=by rw[wc];exact hz5
 clear wc
 rw[hz5]at nmc
 generalize D5 bs (a+1)=s at *
 generalize Af bs (a+3) 2=i2 at *
 have har:=BU ([q]:List V) (CH hall (by simp))
 have hcut:([q]:List V).length≤15:=by simp
 simp only[List.map_cons,List.map_nil,A9]at har
 have dl0:decide (((0:Nat):Int)>15)=false:=rfl
 have dl1:decide (((1:Nat):Int)>15)=false:=rfl
 have dl2:decide (((2:Nat):Int)>15)=false:=rfl
 have dl3:decide (((0+1:Nat):Int)>15)=false:=rfl
 have dl4:decide (((0+1+1:Nat):Int)>15)=false:=rfl
 have hd15:decide ((([q]:List V).length:Int)>15)=false:=decide_eq_false (by omega)
 have hmn:(([]:List V).map V.enc).map A9=[]:=rfl
 unfold AI
 generalize (Ba ([q]:List V)).enc=FE at *
 refine A5 Tryz.func135 Tryz.ntmps135 ?_
 refine A3 q9 ?_
 refine w7 (A8 [] hf) q9 ?_
 refine A3 h00 ?_
 refine A7 (A0 [((0,0),(0,0))] [((0,0),(0,0))] c3) q9 ?_
 refine A3 hmn ?_
 refine A7 (A0 [((0,0),(0,0))] [((0,0),(0,0))] kc) q9 ?_
 refine A3 h00 ?_
 refine w9 (A6 [] sc) q9 ?_
 refine A3 h00 ?_
 refine A7 (A0 [((0,0),(0,0))] [((0,0),(0,0))] nc) q9 ?_
 refine A3 wc5 ?_
 refine w9 (A6 [] nmc) q9 ?_
 refine A3 h00 ?_
 refine A7 (A0 [((0,0),(0,0))] [((0,0),(0,0))] n2) q9 ?_
 refine A3 (j10 k0 k1 dl0 dl1 dl2 dl3 dl4 @List.nil_append.{0} @List.cons_append.{0} hmn) ?_
 refine A7 (A0 [((0,0),(0,0))] [((0,0),(0,0))] c30) q9 ?_
 refine A3 (j8 dl0 dl1 dl2 dl3 dl4 @List.nil_append.{0} @List.cons_append.{0} hmn) ?_
 refine w12 (Au [(38,0)] har) q9 ?_
 refine A3 q9 ?_
 exact Ab (Aa [((0,0),(0,0)),((0,1),(56,0))] []) Tryz.results135 h00
theorem OX (bs:List Nat) (hb:Bs bs) (a:Nat) (ha:a≤800000) (xs:List CellD) (hx:(dec xs).1≠0)
  (h3:(Af bs a 3==0)=true) (h30:(Af bs (a+4) 30==0)=true) (q:V) (hq:[C6 (D5 bs (a+1)),Ar ((Af bs (a+2) 5:Nat)-2:Int)][Af bs (a+3) 2]? = some q) (p:Int) (hp:D4 bs (a+5) [200,199,-9]=p)
  (hall:∀x∈([q,Ar p]:List V),CG x):AI bs a xs ([q,Ar p]:List V) (a+6):=by
 have hf:=C0 xs
 have h00:((dec xs).1==0)=false:=by simpa using hx
 generalize (dec xs).1=fx at *
 have c3:=Am bs hb a 3 (by omega) (by omega)
 rw[h3]at c3
 have c30:=Am bs hb (a+4) 30 (by omega) (by omega)
 rw[h30]at c30
 have kc:=G1 bs hb (a+1) (by omega)
 have sc:=Da (D5 bs (a+1))
 have nc:=AB bs hb (a+2) 5 (by omega) (by omega)
 have hy5:=AD bs (a+2) (n:=5) (by omega)
 have wc:IntKind.i64.wrap ((Af bs (a+2) 5:Nat)-2:Int)=((Af bs (a+2) 5:Nat)-2:Int):=IntWalk.i64_in _ (by omega)
 have nmc:=Bd ((Af bs (a+2) 5:Nat)-2:Int)
 have n2:=AB bs hb (a+3) 2 (by omega) (by omega)
 have hlt2:=AD bs (a+3) (n:=2) (by omega)
 obtain⟨k0,k1⟩:=FJ (L:=[C6 (D5 bs (a+1)),Ar ((Af bs (a+2) 5:Nat)-2:Int)]) hlt2
 rw[List.getElem?_eq_getElem (by exact hlt2),Option.some.injEq]at hq
 rw[hq]at k1
 simp only[List.map_cons,List.map_nil,A9]at k0 k1
 generalize (C6 (D5 bs (a+1))).enc=E1 at *
 generalize (Ar ((Af bs (a+2) 5:Nat)-2:Int)).enc=E2 at *
 obtain⟨z5,hz5⟩:∃z5:Int,((Af bs (a+2) 5:Nat)-2:Int)=z5:=⟨_,rfl⟩
 have wc5:IntKind.i64.wrap ((Af bs (a+2) 5:Nat)-2:Int)=z5:=by rw[wc];exact hz5
 clear wc
 rw[hz5]at nmc
 generalize D5 bs (a+1)=s at *
 generalize Af bs (a+3) 2=i2 at *
 have pc:=CI bs hb (a+5) [200,199,-9] (by simp) (by simp) (by omega)
 rw[hp]at pc
 simp only[List.map_cons,List.map_nil,BT]at pc
 have npc:=Bd p
 have har:=BU ([q,Ar p]:List V) (CH hall (by simp))
 have hcut:([q,Ar p]:List V).length≤15:=by simp
 simp only[List.map_cons,List.map_nil,A9]at har
 have dl0:decide (((0:Nat):Int)>15)=false:=rfl
 have dl1:decide (((1:Nat):Int)>15)=false:=rfl
 have dl2:decide (((2:Nat):Int)>15)=false:=rfl
 have dl3:decide (((0+1:Nat):Int)>15)=false:=rfl
 have dl4:decide (((0+1+1:Nat):Int)>15)=false:=rfl
 have hd15:decide ((([q,Ar p]:List V).length:Int)>15)=false:=decide_eq_false (by omega)
 have hmn:(([]:List V).map V.enc).map A9=[]:=rfl
 unfold AI
 generalize (Ba ([q,Ar p]:List V)).enc=FE at *
 generalize (Ar p).enc=PE at *
 refine A5 Tryz.func135 Tryz.ntmps135 ?_
 refine A3 q9 ?_
 refine w7 (A8 [] hf) q9 ?_
 refine A3 h00 ?_
 refine A7 (A0 [((0,0),(0,0))] [((0,0),(0,0))] c3) q9 ?_
 refine A3 hmn ?_
 refine A7 (A0 [((0,0),(0,0))] [((0,0),(0,0))] kc) q9 ?_
 refine A3 h00 ?_
 refine w9 (A6 [] sc) q9 ?_
 refine A3 h00 ?_
 refine A7 (A0 [((0,0),(0,0))] [((0,0),(0,0))] nc) q9 ?_
 refine A3 wc5 ?_
 refine w9 (A6 [] nmc) q9 ?_
 refine A3 h00 ?_
 refine A7 (A0 [((0,0),(0,0))] [((0,0),(0,0))] n2) q9 ?_
 refine A3 (j10 k0 k1 dl0 dl1 dl2 dl3 dl4 @List.nil_append.{0} @List.cons_append.{0} hmn) ?_
 refine A7 (A0 [((0,0),(0,0))] [((0,0),(0,0))] c30) q9 ?_
 refine A3 (j8 dl0 dl1 dl2 dl3 dl4 @List.nil_append.{0} @List.cons_append.{0} hmn) ?_
 refine AW (Az [(45,0)] [((0,0),(0,0))] [((0,0),(0,0))] pc) q9 ?_
 refine A3 h00 ?_
 refine w9 (A6 [] npc) q9 ?_
 refine A3 (j8 dl0 dl1 dl2 dl3 dl4 @List.nil_append.{0} @List.cons_append.{0} hmn) ?_
 refine w12 (Au [(49,0)] har) q9 ?_
 refine A3 q9 ?_
 exact Ab (Aa [((0,0),(0,0)),((0,1),(56,0))] []) Tryz.results135 h00
theorem OY (bs:List Nat) (hb:Bs bs) (a:Nat) (ha:a≤800000) {t:V}(ht:t.right) (P0:List V) (hP0:(AJ false (t.paths []))[Af bs a (AJ false (t.paths [])).length]? = some P0) (hlen:0<(AJ false (t.paths [])).length∧(AJ false (t.paths [])).length≤200) (hs0:∀q∈P0,CG q) (hl0:P0.length≤20)
  (h3:(Af bs (a+1) 3==0)=false) (h30:(Af bs (a+2) 30==0)=false) (hcut:P0.length≤15)
  (hall:∀x∈P0,CG x):AI bs a t.enc P0 (a+3):=by
 have hf:=C0 t.enc
 rw[Cz ht]at hf
 have hal:=Eo false t.count t [] (Nat.le_refl _) ht.2.1 ht.1 (by have:=ht.2.1;simp;omega)
 have hal2:AC Tryz.prog 201 [Aq t.enc,.c (.sl []),.c (.bool false)] [] (.c (.sl ((AJ false (t.paths [])).map BC))) []:=hal
 have hn0:=AB bs hb a (AJ false (t.paths [])).length (by omega) (by omega)
 have hlt:=AD bs a hlen.1
 obtain⟨hr0,hg0⟩:=Fj hlt
 rw[List.getElem?_eq_getElem hlt,Option.some.injEq]at hP0
 rw[hP0]at hg0
 generalize Af bs a (AJ false (t.paths [])).length=i0 at *
 have hlm:((AJ false (t.paths [])).map BC).length=(AJ false (t.paths [])).length:=by simp
 clear hP0 hlt
 generalize hLP:(AJ false (t.paths [])).length=LP at *
 generalize (AJ false (t.paths [])).map BC=RP at *
 have h00:((0:Int)==0)=true:=rfl
 have hz0:P0.length+1≤1000000:=by omega
 have hz1:0+P0.length≤1000000:=by omega
 have hzz:P0.length+1+1≤1000000:=by omega
 have c3:=Am bs hb (a+1) 3 (by omega) (by omega)
 rw[h3]at c3
 have c30:=Am bs hb (a+2) 30 (by omega) (by omega)
 rw[h30]at c30
 have hlq:P0.length≤30:=by omega
 have har:=BU P0 (CH hall (by omega))
 have hd15:decide ((P0.length:Int)>15)=false:=decide_eq_false (by omega)
 have hlenP:((P0.map V.enc).map A9).length=P0.length:=by simp
 have hmn:(([]:List V).map V.enc).map A9=[]:=rfl
 have hfg:AE ((P0.map V.enc).map A9)=(P0.map V.enc).map A9:=Ca _
 unfold AI
 generalize (Ba P0).enc=FE at *
 refine A5 Tryz.func135 Tryz.ntmps135 ?_
 refine A3 q9 ?_
 refine w7 (A8 [] hf) q9 ?_
 refine A3 h00 ?_
 refine w9 (A6 [] hal2) q9 ?_
 refine A3 hlm ?_
 refine A7 (A0 [((0,0),(0,0))] [((0,0),(0,0))] hn0) q9 ?_
 refine A3 (j2 hr0 hg0) ?_
 refine A7 (A0 [((0,0),(0,0))] [((0,0),(0,0))] c3) q9 ?_
 refine A3 (j4 hz0 hz1 hzz hlm) ?_
 refine A7 (A0 [((0,0),(0,0))] [((0,0),(0,0))] c30) q9 ?_
 refine A3 (j5 hz0 hz1 hzz hd15 hlenP) ?_
 refine w12 (Au [] har) hfg ?_
 refine A3 q9 ?_
 exact Ab (Aa [((0,0),(0,0)),((0,1),(56,0))] []) Tryz.results135 h00
theorem OZ (bs:List Nat) (hb:Bs bs) (a:Nat) (ha:a≤800000) {t:V}(ht:t.right) (P0:List V) (hP0:(AJ false (t.paths []))[Af bs a (AJ false (t.paths [])).length]? = some P0) (hlen:0<(AJ false (t.paths [])).length∧(AJ false (t.paths [])).length≤200) (hs0:∀q∈P0,CG q) (hl0:P0.length≤20)
  (h3:(Af bs (a+1) 3==0)=false) (h30:(Af bs (a+2) 30==0)=false) (hcut:P0.length>15)
  (hall:∀x∈P0,CG x):AI bs a t.enc (P0.take 15) (a+3):=by
 have hf:=C0 t.enc
 rw[Cz ht]at hf
 have hal:=Eo false t.count t [] (Nat.le_refl _) ht.2.1 ht.1 (by have:=ht.2.1;simp;omega)
 have hal2:AC Tryz.prog 201 [Aq t.enc,.c (.sl []),.c (.bool false)] [] (.c (.sl ((AJ false (t.paths [])).map BC))) []:=hal
 have hn0:=AB bs hb a (AJ false (t.paths [])).length (by omega) (by omega)
 have hlt:=AD bs a hlen.1
 obtain⟨hr0,hg0⟩:=Fj hlt
 rw[List.getElem?_eq_getElem hlt,Option.some.injEq]at hP0
 rw[hP0]at hg0
 generalize Af bs a (AJ false (t.paths [])).length=i0 at *
 have hlm:((AJ false (t.paths [])).map BC).length=(AJ false (t.paths [])).length:=by simp
 clear hP0 hlt
 generalize hLP:(AJ false (t.paths [])).length=LP at *
 generalize (AJ false (t.paths [])).map BC=RP at *
 have h00:((0:Int)==0)=true:=rfl
 have hz0:P0.length+1≤1000000:=by omega
 have hz1:0+P0.length≤1000000:=by omega
 have hzz:P0.length+1+1≤1000000:=by omega
 have c3:=Am bs hb (a+1) 3 (by omega) (by omega)
 rw[h3]at c3
 have c30:=Am bs hb (a+2) 30 (by omega) (by omega)
 rw[h30]at c30
 have hlq:P0.length≤30:=by omega
 have har:=BU (P0.take 15) (CH (KQ hall 15) (by rw[List.length_take];omega))
 have hd15:decide ((P0.length:Int)>15)=true:=decide_eq_true (by omega)
 have hlenP:((P0.map V.enc).map A9).length=P0.length:=by simp
 have hi0:(0:Int)≤15:=by decide
 have hi1:(15:Int)≤(P0.length:Int):=by omega
 have hi2:15≤P0.length:=by omega
 have htk:=J0 P0 15
 have hcb:Hl P0.length (some (AV.c (C.int IntKind.i64 15)))=some 15:=by simp[Hl]
 have hc2:(0≤15∧15≤P0.length)=True:=eq_true ⟨by omega,hi2⟩
 have hdz:∀l:List (List C),l.drop 0=l:=fun l=>rfl
 have hmn:(([]:List V).map V.enc).map A9=[]:=rfl
 have hfg:AE (((P0.take 15).map V.enc).map A9)=((P0.take 15).map V.enc).map A9:=Ca _
 unfold AI
 generalize (Ba (P0.take 15)).enc=FE at *
 generalize hR3:((P0.take 15).map V.enc).map A9=R3 at *
 refine A5 Tryz.func135 Tryz.ntmps135 ?_
 refine A3 q9 ?_
 refine w7 (A8 [] hf) q9 ?_
 refine A3 h00 ?_
 refine w9 (A6 [] hal2) q9 ?_
 refine A3 hlm ?_
 refine A7 (A0 [((0,0),(0,0))] [((0,0),(0,0))] hn0) q9 ?_
 refine A3 (j2 hr0 hg0) ?_
 refine A7 (A0 [((0,0),(0,0))] [((0,0),(0,0))] c3) q9 ?_
 refine A3 (j4 hz0 hz1 hzz hlm) ?_
 refine A7 (A0 [((0,0),(0,0))] [((0,0),(0,0))] c30) q9 ?_
 refine A3 (j5 hz0 hz1 hzz hd15 hlenP) ?_
 refine A3 (j8 hi0 hi1 hi2 hlenP htk hcb hc2 hdz) ?_
 refine w12 (Au [] har) hfg ?_
 refine A3 q9 ?_
 exact Ab (Aa [((0,0),(0,0)),((0,1),(56,0))] []) Tryz.results135 h00
theorem P1 (bs:List Nat) (hb:Bs bs) (a:Nat) (ha:a≤800000) {t:V}(ht:t.right) (P0:List V) (hP0:(AJ false (t.paths []))[Af bs a (AJ false (t.paths [])).length]? = some P0) (hlen:0<(AJ false (t.paths [])).length∧(AJ false (t.paths [])).length≤200) (hs0:∀q∈P0,CG q) (hl0:P0.length≤20)
  (h3:(Af bs (a+1) 3==0)=false) (h30:(Af bs (a+2) 30==0)=true) (p:Int) (hp:D4 bs (a+3) [200,199,-9]=p) (hcut:(P0++[Ar p]).length≤15)
  (hall:∀x∈(P0++[Ar p]),CG x):AI bs a t.enc (P0++[Ar p]) (a+4):=by
 have hf:=C0 t.enc
 rw[Cz ht]at hf
 have hal:=Eo false t.count t [] (Nat.le_refl _) ht.2.1 ht.1 (by have:=ht.2.1;simp;omega)
 have hal2:AC Tryz.prog 201 [Aq t.enc,.c (.sl []),.c (.bool false)] [] (.c (.sl ((AJ false (t.paths [])).map BC))) []:=hal
 have hn0:=AB bs hb a (AJ false (t.paths [])).length (by omega) (by omega)
 have hlt:=AD bs a hlen.1
 obtain⟨hr0,hg0⟩:=Fj hlt
 rw[List.getElem?_eq_getElem hlt,Option.some.injEq]at hP0
 rw[hP0]at hg0
 generalize Af bs a (AJ false (t.paths [])).length=i0 at *
 have hlm:((AJ false (t.paths [])).map BC).length=(AJ false (t.paths [])).length:=by simp
 clear hP0 hlt
 generalize hLP:(AJ false (t.paths [])).length=LP at *
 generalize (AJ false (t.paths [])).map BC=RP at *
 have h00:((0:Int)==0)=true:=rfl
 have hz0:P0.length+1≤1000000:=by omega
 have hz1:0+P0.length≤1000000:=by omega
 have hzz:P0.length+1+1≤1000000:=by omega
 have c3:=Am bs hb (a+1) 3 (by omega) (by omega)
 rw[h3]at c3
 have c30:=Am bs hb (a+2) 30 (by omega) (by omega)
 rw[h30]at c30
 have pc:=CI bs hb (a+3) [200,199,-9] (by simp) (by simp) (by omega)
 rw[hp]at pc
 simp only[List.map_cons,List.map_nil,BT]at pc
 have npc:=Bd p
 have hrow2:=Em P0 (Ar p)
 have hlq:(P0++[Ar p]).length≤30:=by simp;omega
 have har:=BU (P0++[Ar p]) (CH hall (by omega))
 have hd15:decide (((P0++[Ar p]).length:Int)>15)=false:=decide_eq_false (by omega)
 have hlenP:(((P0++[Ar p]).map V.enc).map A9).length=(P0++[Ar p]).length:=by simp
 have hmn:(([]:List V).map V.enc).map A9=[]:=rfl
 have hfg:AE (((P0++[Ar p]).map V.enc).map A9)=((P0++[Ar p]).map V.enc).map A9:=Ca _
 unfold AI
 generalize (Ba (P0++[Ar p])).enc=FE at *
 generalize (Ar p).enc=PE at *
 generalize hL2:(P0++[Ar p]).length=L2 at *
 generalize hR2:((P0++[Ar p]).map V.enc).map A9=R2 at *
 refine A5 Tryz.func135 Tryz.ntmps135 ?_
 refine A3 q9 ?_
 refine w7 (A8 [] hf) q9 ?_
 refine A3 h00 ?_
 refine w9 (A6 [] hal2) q9 ?_
 refine A3 hlm ?_
 refine A7 (A0 [((0,0),(0,0))] [((0,0),(0,0))] hn0) q9 ?_
 refine A3 (j2 hr0 hg0) ?_
 refine A7 (A0 [((0,0),(0,0))] [((0,0),(0,0))] c3) q9 ?_
 refine A3 (j4 hz0 hz1 hzz hlm) ?_
 refine A7 (A0 [((0,0),(0,0))] [((0,0),(0,0))] c30) q9 ?_
 refine A3 (j5 hz0 hz1 hzz hd15 hlenP) ?_
 refine AW (Az [(45,0)] [((0,0),(0,0))] [((0,0),(0,0))] pc) q9 ?_
 refine A3 (j4 hz0 hz1 hzz h00) ?_
 refine w9 (A6 [] npc) q9 ?_
 refine A3 (j6 hz0 hz1 hzz hrow2 hd15 hlenP) ?_
 refine w12 (Au [(49,0)] har) hfg ?_
 refine A3 q9 ?_
 exact Ab (Aa [((0,0),(0,0)),((0,1),(56,0))] []) Tryz.results135 h00
theorem P2 (bs:List Nat) (hb:Bs bs) (a:Nat) (ha:a≤800000) {t:V}(ht:t.right) (P0:List V) (hP0:(AJ false (t.paths []))[Af bs a (AJ false (t.paths [])).length]? = some P0) (hlen:0<(AJ false (t.paths [])).length∧(AJ false (t.paths [])).length≤200) (hs0:∀q∈P0,CG q) (hl0:P0.length≤20)
  (h3:(Af bs (a+1) 3==0)=false) (h30:(Af bs (a+2) 30==0)=true) (p:Int) (hp:D4 bs (a+3) [200,199,-9]=p) (hcut:(P0++[Ar p]).length>15)
  (hall:∀x∈(P0++[Ar p]),CG x):AI bs a t.enc ((P0++[Ar p]).take 15) (a+4):=by
 have hf:=C0 t.enc
 rw[Cz ht]at hf
 have hal:=Eo false t.count t [] (Nat.le_refl _) ht.2.1 ht.1 (by have:=ht.2.1;simp;omega)
 have hal2:AC Tryz.prog 201 [Aq t.enc,.c (.sl []),.c (.bool false)] [] (.c (.sl ((AJ false (t.paths [])).map BC))) []:=hal
 have hn0:=AB bs hb a (AJ false (t.paths [])).length (by omega) (by omega)
 have hlt:=AD bs a hlen.1
 obtain⟨hr0,hg0⟩:=Fj hlt
 rw[List.getElem?_eq_getElem hlt,Option.some.injEq]at hP0
 rw[hP0]at hg0
 generalize Af bs a (AJ false (t.paths [])).length=i0 at *
 have hlm:((AJ false (t.paths [])).map BC).length=(AJ false (t.paths [])).length:=by simp
 clear hP0 hlt
 generalize hLP:(AJ false (t.paths [])).length=LP at *
 generalize (AJ false (t.paths [])).map BC=RP at *
 have h00:((0:Int)==0)=true:=rfl
 have hz0:P0.length+1≤1000000:=by omega
 have hz1:0+P0.length≤1000000:=by omega
 have hzz:P0.length+1+1≤1000000:=by omega
 have c3:=Am bs hb (a+1) 3 (by omega) (by omega)
 rw[h3]at c3
 have c30:=Am bs hb (a+2) 30 (by omega) (by omega)
 rw[h30]at c30
 have pc:=CI bs hb (a+3) [200,199,-9] (by simp) (by simp) (by omega)
 rw[hp]at pc
 simp only[List.map_cons,List.map_nil,BT]at pc
 have npc:=Bd p
 have hrow2:=Em P0 (Ar p)
 have hlq:(P0++[Ar p]).length≤30:=by simp;omega
 have har:=BU ((P0++[Ar p]).take 15) (CH (KQ hall 15) (by rw[List.length_take];omega))
 have hd15:decide (((P0++[Ar p]).length:Int)>15)=true:=decide_eq_true (by omega)
 have hlenP:(((P0++[Ar p]).map V.enc).map A9).length=(P0++[Ar p]).length:=by simp
 have hi0:(0:Int)≤15:=by decide
 have hi1:(15:Int)≤((P0++[Ar p]).length:Int):=by omega
 have hi2:15≤(P0++[Ar p]).length:=by omega
 have htk:=J0 (P0++[Ar p]) 15
 have hcb:Hl (P0++[Ar p]).length (some (AV.c (C.int IntKind.i64 15)))=some 15:=by simp[Hl]
 have hc2:(0≤15∧15≤(P0++[Ar p]).length)=True:=eq_true ⟨by omega,hi2⟩
 have hdz:∀l:List (List C),l.drop 0=l:=fun l=>rfl
 have hmn:(([]:List V).map V.enc).map A9=[]:=rfl
 have hfg:AE ((((P0++[Ar p]).take 15).map V.enc).map A9)=(((P0++[Ar p]).take 15).map V.enc).map A9:=Ca _
 unfold AI
 generalize (Ba ((P0++[Ar p]).take 15)).enc=FE at *
 generalize hR3:(((P0++[Ar p]).take 15).map V.enc).map A9=R3 at *
 generalize (Ar p).enc=PE at *
 generalize hL2:(P0++[Ar p]).length=L2 at *
 generalize hR2:((P0++[Ar p]).map V.enc).map A9=R2 at *
 refine A5 Tryz.func135 Tryz.ntmps135 ?_
 refine A3 q9 ?_
 refine w7 (A8 [] hf) q9 ?_
 refine A3 h00 ?_
 refine w9 (A6 [] hal2) q9 ?_
 refine A3 hlm ?_
 refine A7 (A0 [((0,0),(0,0))] [((0,0),(0,0))] hn0) q9 ?_
 refine A3 (j2 hr0 hg0) ?_
 refine A7 (A0 [((0,0),(0,0))] [((0,0),(0,0))] c3) q9 ?_
 refine A3 (j4 hz0 hz1 hzz hlm) ?_
 refine A7 (A0 [((0,0),(0,0))] [((0,0),(0,0))] c30) q9 ?_
 refine A3 (j5 hz0 hz1 hzz hd15 hlenP) ?_
 refine AW (Az [(45,0)] [((0,0),(0,0))] [((0,0),(0,0))] pc) q9 ?_
 refine A3 (j4 hz0 hz1 hzz h00) ?_
 refine w9 (A6 [] npc) q9 ?_
 refine A3 (j6 hz0 hz1 hzz hrow2 hd15 hlenP) ?_
 ((with_reducible apply Ja);(iterate 10 (focus (first | (simp only[go_sem,Nat.reduceEqDiff,Nat.reduceAdd,Nat.reduceSub,Nat.reduceLeDiff,Nat.reduceMul,Nat.reduceBEq,Nat.reduceLT,Int.reduceToNat,reduceCtorEq,hi0,hi1,hlenP,htk];first | done | exact rfl | (and_intros<;>rfl)) | exact rfl | decide))))
 refine A3 (j5 hi0 hi1 hi2 hlenP htk) ?_
 refine w12 (Au [(54,0)] har) hfg ?_
 refine A3 q9 ?_
 exact Ab (Aa [((0,0),(0,0)),((0,1),(56,0))] []) Tryz.results135 h00
theorem P3 (bs:List Nat) (hb:Bs bs) (a:Nat) (ha:a≤800000) {t:V}(ht:t.right) (P0:List V) (hP0:(AJ false (t.paths []))[Af bs a (AJ false (t.paths [])).length]? = some P0) (hlen:0<(AJ false (t.paths [])).length∧(AJ false (t.paths [])).length≤200) (hs0:∀q∈P0,CG q) (hl0:P0.length≤20)
  (h3:(Af bs (a+1) 3==0)=true) (h30:(Af bs (a+5) 30==0)=false) (q:V) (hq:[C6 (D5 bs (a+2)),Ar ((Af bs (a+3) 5:Nat)-2:Int)][Af bs (a+4) 2]? = some q) (hcut:(P0++[q]).length≤15)
  (hall:∀x∈(P0++[q]),CG x):AI bs a t.enc (P0++[q]) (a+6):=by
 have hf:=C0 t.enc
 rw[Cz ht]at hf
 have hal:=Eo false t.count t [] (Nat.le_refl _) ht.2.1 ht.1 (by have:=ht.2.1;simp;omega)
 have hal2:AC Tryz.prog 201 [Aq t.enc,.c (.sl []),.c (.bool false)] [] (.c (.sl ((AJ false (t.paths [])).map BC))) []:=hal
 have hn0:=AB bs hb a (AJ false (t.paths [])).length (by omega) (by omega)
 have hlt:=AD bs a hlen.1
 obtain⟨hr0,hg0⟩:=Fj hlt
 rw[List.getElem?_eq_getElem hlt,Option.some.injEq]at hP0
 rw[hP0]at hg0
 generalize Af bs a (AJ false (t.paths [])).length=i0 at *
 have hlm:((AJ false (t.paths [])).map BC).length=(AJ false (t.paths [])).length:=by simp
 clear hP0 hlt
 generalize hLP:(AJ false (t.paths [])).length=LP at *
 generalize (AJ false (t.paths [])).map BC=RP at *
 have h00:((0:Int)==0)=true:=rfl
 have hz0:P0.length+1≤1000000:=by omega
 have hz1:0+P0.length≤1000000:=by omega
 have hzz:P0.length+1+1≤1000000:=by omega
 have c3:=Am bs hb (a+1) 3 (by omega) (by omega)
 rw[h3]at c3
 have c30:=Am bs hb (a+5) 30 (by omega) (by omega)
 rw[h30]at c30
 have kc:=G1 bs hb (a+2) (by omega)
 have sc:=Da (D5 bs (a+2))
 have nc:=AB bs hb (a+3) 5 (by omega) (by omega)
 have hy5:=AD bs (a+3) (n:=5) (by omega)
 have wc:IntKind.i64.wrap ((Af bs (a+3) 5:Nat)-2:Int)=((Af bs (a+3) 5:Nat)-2:Int):=IntWalk.i64_in _ (by omega)
 have nmc:=Bd ((Af bs (a+3) 5:Nat)-2:Int)
 have n2:=AB bs hb (a+4) 2 (by omega) (by omega)
 have hlt2:=AD bs (a+4) (n:=2) (by omega)
 obtain⟨k0,k1⟩:=FJ (L:=[C6 (D5 bs (a+2)),Ar ((Af bs (a+3) 5:Nat)-2:Int)]) hlt2
 rw[List.getElem?_eq_getElem (by exact hlt2),Option.some.injEq]at hq
 rw[hq]at k1
 simp only[List.map_cons,List.map_nil,A9]at k0 k1
 generalize (C6 (D5 bs (a+2))).enc=E1 at *
 generalize (Ar ((Af bs (a+3) 5:Nat)-2:Int)).enc=E2 at *
 obtain⟨z5,hz5⟩:∃z5:Int,((Af bs (a+3) 5:Nat)-2:Int)=z5:=⟨_,rfl⟩
 have wc5:IntKind.i64.wrap ((Af bs (a+3) 5:Nat)-2:Int)=z5:=by rw[wc];exact hz5
 clear wc
 rw[hz5]at nmc
 generalize D5 bs (a+2)=s at *
 generalize Af bs (a+4) 2=i2 at *
 have hrow1:=Em P0 q
 have hq1:0+(P0++[q]).length≤1000000:=by simp;omega
 have hq2:0+(P0.length+1)≤1000000:=by omega
 have hq3:(P0++[q]).length+1≤1000000:=by simp;omega
 have hlq:(P0++[q]).length≤30:=by simp;omega
 have har:=BU (P0++[q]) (CH hall (by omega))
 have hd15:decide (((P0++[q]).length:Int)>15)=false:=decide_eq_false (by omega)
 have hlenP:(((P0++[q]).map V.enc).map A9).length=(P0++[q]).length:=by simp
 have hmn:(([]:List V).map V.enc).map A9=[]:=rfl
 have hfg:AE (((P0++[q]).map V.enc).map A9)=((P0++[q]).map V.enc).map A9:=Ca _
 unfold AI
 generalize (Ba (P0++[q])).enc=FE at *
 generalize hL2:(P0++[q]).length=L2 at *
 generalize hR2:((P0++[q]).map V.enc).map A9=R2 at *
 refine A5 Tryz.func135 Tryz.ntmps135 ?_
 refine A3 q9 ?_
 refine w7 (A8 [] hf) q9 ?_
 refine A3 h00 ?_
 refine w9 (A6 [] hal2) q9 ?_
 refine A3 hlm ?_
 refine A7 (A0 [((0,0),(0,0))] [((0,0),(0,0))] hn0) q9 ?_
 refine A3 (j2 hr0 hg0) ?_
 refine A7 (A0 [((0,0),(0,0))] [((0,0),(0,0))] c3) q9 ?_
 refine A3 (j7 hz0 hz1 hzz hq1 hq2 hq3 hlm) ?_
 refine A7 (A0 [((0,0),(0,0))] [((0,0),(0,0))] kc) q9 ?_
 refine A3 (j7 hz0 hz1 hzz hq1 hq2 hq3 h00) ?_
 refine w9 (A6 [] sc) q9 ?_
 refine A3 (j7 hz0 hz1 hzz hq1 hq2 hq3 h00) ?_
 refine A7 (A0 [((0,0),(0,0))] [((0,0),(0,0))] nc) q9 ?_
 refine A3 (j7 hz0 hz1 hzz hq1 hq2 hq3 wc5) ?_
 refine w9 (A6 [] nmc) q9 ?_
 refine A3 (j7 hz0 hz1 hzz hq1 hq2 hq3 h00) ?_
 refine A7 (A0 [((0,0),(0,0))] [((0,0),(0,0))] n2) q9 ?_
 refine A3 (j9 hz0 hz1 hzz hq1 hq2 hq3 k0 k1 hrow1) ?_
 refine A7 (A0 [((0,0),(0,0))] [((0,0),(0,0))] c30) q9 ?_
 refine A3 (j9 hz0 hz1 hzz hq1 hq2 hq3 hd15 hlenP hrow1) ?_
 refine w12 (Au [(38,0)] har) hfg ?_
 refine A3 q9 ?_
 exact Ab (Aa [((0,0),(0,0)),((0,1),(56,0))] []) Tryz.results135 h00
theorem P4 (bs:List Nat) (hb:Bs bs) (a:Nat) (ha:a≤800000) {t:V}(ht:t.right) (P0:List V) (hP0:(AJ false (t.paths []))[Af bs a (AJ false (t.paths [])).length]? = some P0) (hlen:0<(AJ false (t.paths [])).length∧(AJ false (t.paths [])).length≤200) (hs0:∀q∈P0,CG q) (hl0:P0.length≤20)
  (h3:(Af bs (a+1) 3==0)=true) (h30:(Af bs (a+5) 30==0)=false) (q:V) (hq:[C6 (D5 bs (a+2)),Ar ((Af bs (a+3) 5:Nat)-2:Int)][Af bs (a+4) 2]? = some q) (hcut:(P0++[q]).length>15)
  (hall:∀x∈(P0++[q]),CG x):AI bs a t.enc ((P0++[q]).take 15) (a+6):=by
 have hf:=C0 t.enc
 rw[Cz ht]at hf
 have hal:=Eo false t.count t [] (Nat.le_refl _) ht.2.1 ht.1 (by have:=ht.2.1;simp;omega)
 have hal2:AC Tryz.prog 201 [Aq t.enc,.c (.sl []),.c (.bool false)] [] (.c (.sl ((AJ false (t.paths [])).map BC))) []:=hal
 have hn0:=AB bs hb a (AJ false (t.paths [])).length (by omega) (by omega)
 have hlt:=AD bs a hlen.1
 obtain⟨hr0,hg0⟩:=Fj hlt
 rw[List.getElem?_eq_getElem hlt,Option.some.injEq]at hP0
 rw[hP0]at hg0
 generalize Af bs a (AJ false (t.paths [])).length=i0 at *
 have hlm:((AJ false (t.paths [])).map BC).length=(AJ false (t.paths [])).length:=by simp
 clear hP0 hlt
 generalize hLP:(AJ false (t.paths [])).length=LP at *
 generalize (AJ false (t.paths [])).map BC=RP at *
 have h00:((0:Int)==0)=true:=rfl
 have hz0:P0.length+1≤1000000:=by omega
 have hz1:0+P0.length≤1000000:=by omega
 have hzz:P0.length+1+1≤1000000:=by omega
 have c3:=Am bs hb (a+1) 3 (by omega) (by omega)
 rw[h3]at c3
 have c30:=Am bs hb (a+5) 30 (by omega) (by omega)
 rw[h30]at c30
 have kc:=G1 bs hb (a+2) (by omega)
 have sc:=Da (D5 bs (a+2))
 have nc:=AB bs hb (a+3) 5 (by omega) (by omega)
 have hy5:=AD bs (a+3) (n:=5) (by omega)
 have wc:IntKind.i64.wrap ((Af bs (a+3) 5:Nat)-2:Int)=((Af bs (a+3) 5:Nat)-2:Int):=IntWalk.i64_in _ (by omega)
 have nmc:=Bd ((Af bs (a+3) 5:Nat)-2:Int)
 have n2:=AB bs hb (a+4) 2 (by omega) (by omega)
 have hlt2:=AD bs (a+4) (n:=2) (by omega)
 obtain⟨k0,k1⟩:=FJ (L:=[C6 (D5 bs (a+2)),Ar ((Af bs (a+3) 5:Nat)-2:Int)]) hlt2
 rw[List.getElem?_eq_getElem (by exact hlt2),Option.some.injEq]at hq
 rw[hq]at k1
 simp only[List.map_cons,List.map_nil,A9]at k0 k1
 generalize (C6 (D5 bs (a+2))).enc=E1 at *
 generalize (Ar ((Af bs (a+3) 5:Nat)-2:Int)).enc=E2 at *
 obtain⟨z5,hz5⟩:∃z5:Int,((Af bs (a+3) 5:Nat)-2:Int)=z5:=⟨_,rfl⟩
 have wc5:IntKind.i64.wrap ((Af bs (a+3) 5:Nat)-2:Int)=z5:=by rw[wc];exact hz5
 clear wc
 rw[hz5]at nmc
 generalize D5 bs (a+2)=s at *
 generalize Af bs (a+4) 2=i2 at *
 have hrow1:=Em P0 q
 have hq1:0+(P0++[q]).length≤1000000:=by simp;omega
 have hq2:0+(P0.length+1)≤1000000:=by omega
 have hq3:(P0++[q]).length+1≤1000000:=by simp;omega
 have hlq:(P0++[q]).length≤30:=by simp;omega
 have har:=BU ((P0++[q]).take 15) (CH (KQ hall 15) (by rw[List.length_take];omega))
 have hd15:decide (((P0++[q]).length:Int)>15)=true:=decide_eq_true (by omega)
 have hlenP:(((P0++[q]).map V.enc).map A9).length=(P0++[q]).length:=by simp
 have hi0:(0:Int)≤15:=by decide
 have hi1:(15:Int)≤((P0++[q]).length:Int):=by omega
 have hi2:15≤(P0++[q]).length:=by omega
 have htk:=J0 (P0++[q]) 15
 have hcb:Hl (P0++[q]).length (some (AV.c (C.int IntKind.i64 15)))=some 15:=by simp[Hl]
 have hc2:(0≤15∧15≤(P0++[q]).length)=True:=eq_true ⟨by omega,hi2⟩
 have hdz:∀l:List (List C),l.drop 0=l:=fun l=>rfl
 have hmn:(([]:List V).map V.enc).map A9=[]:=rfl
 have hfg:AE ((((P0++[q]).take 15).map V.enc).map A9)=(((P0++[q]).take 15).map V.enc).map A9:=Ca _
 unfold AI
 generalize (Ba ((P0++[q]).take 15)).enc=FE at *
 generalize hR3:(((P0++[q]).take 15).map V.enc).map A9=R3 at *
 generalize hL2:(P0++[q]).length=L2 at *
 generalize hR2:((P0++[q]).map V.enc).map A9=R2 at *
 refine A5 Tryz.func135 Tryz.ntmps135 ?_
 refine A3 q9 ?_
 refine w7 (A8 [] hf) q9 ?_
 refine A3 h00 ?_
 refine w9 (A6 [] hal2) q9 ?_
 refine A3 hlm ?_
 refine A7 (A0 [((0,0),(0,0))] [((0,0),(0,0))] hn0) q9 ?_
 refine A3 (j2 hr0 hg0) ?_
 refine A7 (A0 [((0,0),(0,0))] [((0,0),(0,0))] c3) q9 ?_
 refine A3 (j7 hz0 hz1 hzz hq1 hq2 hq3 hlm) ?_
 refine A7 (A0 [((0,0),(0,0))] [((0,0),(0,0))] kc) q9 ?_
 refine A3 (j7 hz0 hz1 hzz hq1 hq2 hq3 h00) ?_
 refine w9 (A6 [] sc) q9 ?_
 refine A3 (j7 hz0 hz1 hzz hq1 hq2 hq3 h00) ?_
 refine A7 (A0 [((0,0),(0,0))] [((0,0),(0,0))] nc) q9 ?_
 refine A3 (j7 hz0 hz1 hzz hq1 hq2 hq3 wc5) ?_
 refine w9 (A6 [] nmc) q9 ?_
 refine A3 (j7 hz0 hz1 hzz hq1 hq2 hq3 h00) ?_
 refine A7 (A0 [((0,0),(0,0))] [((0,0),(0,0))] n2) q9 ?_
 refine A3 (j9 hz0 hz1 hzz hq1 hq2 hq3 k0 k1 hrow1) ?_
 refine A7 (A0 [((0,0),(0,0))] [((0,0),(0,0))] c30) q9 ?_
 refine A3 (j9 hz0 hz1 hzz hq1 hq2 hq3 hd15 hlenP hrow1) ?_
 ((with_reducible apply Ja);(iterate 10 (focus (first | (simp only[go_sem,Nat.reduceEqDiff,Nat.reduceAdd,Nat.reduceSub,Nat.reduceLeDiff,Nat.reduceMul,Nat.reduceBEq,Nat.reduceLT,Int.reduceToNat,reduceCtorEq,hi0,hi1,hlenP,htk];first | done | exact rfl | (and_intros<;>rfl)) | exact rfl | decide))))
 refine A3 (j5 hi0 hi1 hi2 hlenP htk) ?_
 refine w12 (Au [(54,0)] har) hfg ?_
 refine A3 q9 ?_
 exact Ab (Aa [((0,0),(0,0)),((0,1),(56,0))] []) Tryz.results135 h00
theorem P5 (bs:List Nat) (hb:Bs bs) (a:Nat) (ha:a≤800000) {t:V}(ht:t.right) (P0:List V) (hP0:(AJ false (t.paths []))[Af bs a (AJ false (t.paths [])).length]? = some P0) (hlen:0<(AJ false (t.paths [])).length∧(AJ false (t.paths [])).length≤200) (hs0:∀q∈P0,CG q) (hl0:P0.length≤20)
  (h3:(Af bs (a+1) 3==0)=true) (h30:(Af bs (a+5) 30==0)=true) (q:V) (hq:[C6 (D5 bs (a+2)),Ar ((Af bs (a+3) 5:Nat)-2:Int)][Af bs (a+4) 2]? = some q) (p:Int) (hp:D4 bs (a+6) [200,199,-9]=p) (hcut:((P0++[q])++[Ar p]).length≤15)
  (hall:∀x∈((P0++[q])++[Ar p]),CG x):AI bs a t.enc ((P0++[q])++[Ar p]) (a+7):=by
 have hf:=C0 t.enc
 rw[Cz ht]at hf
 have hal:=Eo false t.count t [] (Nat.le_refl _) ht.2.1 ht.1 (by have:=ht.2.1;simp;omega)
 have hal2:AC Tryz.prog 201 [Aq t.enc,.c (.sl []),.c (.bool false)] [] (.c (.sl ((AJ false (t.paths [])).map BC))) []:=hal
 have hn0:=AB bs hb a (AJ false (t.paths [])).length (by omega) (by omega)
 have hlt:=AD bs a hlen.1
 obtain⟨hr0,hg0⟩:=Fj hlt
 rw[List.getElem?_eq_getElem hlt,Option.some.injEq]at hP0
 rw[hP0]at hg0
 generalize Af bs a (AJ false (t.paths [])).length=i0 at *
 have hlm:((AJ false (t.paths [])).map BC).length=(AJ false (t.paths [])).length:=by simp
 clear hP0 hlt
 generalize hLP:(AJ false (t.paths [])).length=LP at *
 generalize (AJ false (t.paths [])).map BC=RP at *
 have h00:((0:Int)==0)=true:=rfl
 have hz0:P0.length+1≤1000000:=by omega
 have hz1:0+P0.length≤1000000:=by omega
 have hzz:P0.length+1+1≤1000000:=by omega
 have c3:=Am bs hb (a+1) 3 (by omega) (by omega)
 rw[h3]at c3
 have c30:=Am bs hb (a+5) 30 (by omega) (by omega)
 rw[h30]at c30
 have kc:=G1 bs hb (a+2) (by omega)
 have sc:=Da (D5 bs (a+2))
 have nc:=AB bs hb (a+3) 5 (by omega) (by omega)
 have hy5:=AD bs (a+3) (n:=5) (by omega)
 have wc:IntKind.i64.wrap ((Af bs (a+3) 5:Nat)-2:Int)=((Af bs (a+3) 5:Nat)-2:Int):=IntWalk.i64_in _ (by omega)
 have nmc:=Bd ((Af bs (a+3) 5:Nat)-2:Int)
 have n2:=AB bs hb (a+4) 2 (by omega) (by omega)
 have hlt2:=AD bs (a+4) (n:=2) (by omega)
 obtain⟨k0,k1⟩:=FJ (L:=[C6 (D5 bs (a+2)),Ar ((Af bs (a+3) 5:Nat)-2:Int)]) hlt2
 rw[List.getElem?_eq_getElem (by exact hlt2),Option.some.injEq]at hq
 rw[hq]at k1
 simp only[List.map_cons,List.map_nil,A9]at k0 k1
 generalize (C6 (D5 bs (a+2))).enc=E1 at *
 generalize (Ar ((Af bs (a+3) 5:Nat)-2:Int)).enc=E2 at *
 obtain⟨z5,hz5⟩:∃z5:Int,((Af bs (a+3) 5:Nat)-2:Int)=z5:=⟨_,rfl⟩
 have wc5:IntKind.i64.wrap ((Af bs (a+3) 5:Nat)-2:Int)=z5:=by rw[wc];exact hz5
 clear wc
 rw[hz5]at nmc
 generalize D5 bs (a+2)=s at *
 generalize Af bs (a+4) 2=i2 at *
 have hrow1:=Em P0 q
 have hq1:0+(P0++[q]).length≤1000000:=by simp;omega
 have hq2:0+(P0.length+1)≤1000000:=by omega
 have hq3:(P0++[q]).length+1≤1000000:=by simp;omega
 have pc:=CI bs hb (a+6) [200,199,-9] (by simp) (by simp) (by omega)
 rw[hp]at pc
 simp only[List.map_cons,List.map_nil,BT]at pc
 have npc:=Bd p
 have hrow2:=Em (P0++[q]) (Ar p)
 have hlq:((P0++[q])++[Ar p]).length≤30:=by simp;omega
 have har:=BU ((P0++[q])++[Ar p]) (CH hall (by omega))
 have hd15:decide ((((P0++[q])++[Ar p]).length:Int)>15)=false:=decide_eq_false (by omega)
 have hlenP:((((P0++[q])++[Ar p]).map V.enc).map A9).length=((P0++[q])++[Ar p]).length:=by simp
 have hmn:(([]:List V).map V.enc).map A9=[]:=rfl
 have hfg:AE ((((P0++[q])++[Ar p]).map V.enc).map A9)=(((P0++[q])++[Ar p]).map V.enc).map A9:=Ca _
 unfold AI
 generalize (Ba ((P0++[q])++[Ar p])).enc=FE at *
 generalize (Ar p).enc=PE at *
 generalize hL2:((P0++[q])++[Ar p]).length=L2 at *
 generalize hR2:(((P0++[q])++[Ar p]).map V.enc).map A9=R2 at *
 refine A5 Tryz.func135 Tryz.ntmps135 ?_
 refine A3 q9 ?_
 refine w7 (A8 [] hf) q9 ?_
 refine A3 h00 ?_
 refine w9 (A6 [] hal2) q9 ?_
 refine A3 hlm ?_
 refine A7 (A0 [((0,0),(0,0))] [((0,0),(0,0))] hn0) q9 ?_
 refine A3 (j2 hr0 hg0) ?_
 refine A7 (A0 [((0,0),(0,0))] [((0,0),(0,0))] c3) q9 ?_
 refine A3 (j7 hz0 hz1 hzz hq1 hq2 hq3 hlm) ?_
 refine A7 (A0 [((0,0),(0,0))] [((0,0),(0,0))] kc) q9 ?_
 refine A3 (j7 hz0 hz1 hzz hq1 hq2 hq3 h00) ?_
 refine w9 (A6 [] sc) q9 ?_
 refine A3 (j7 hz0 hz1 hzz hq1 hq2 hq3 h00) ?_
 refine A7 (A0 [((0,0),(0,0))] [((0,0),(0,0))] nc) q9 ?_
 refine A3 (j7 hz0 hz1 hzz hq1 hq2 hq3 wc5) ?_
 refine w9 (A6 [] nmc) q9 ?_
 refine A3 (j7 hz0 hz1 hzz hq1 hq2 hq3 h00) ?_
 refine A7 (A0 [((0,0),(0,0))] [((0,0),(0,0))] n2) q9 ?_
 refine A3 (j9 hz0 hz1 hzz hq1 hq2 hq3 k0 k1 hrow1) ?_
 refine A7 (A0 [((0,0),(0,0))] [((0,0),(0,0))] c30) q9 ?_
 refine A3 (j9 hz0 hz1 hzz hq1 hq2 hq3 hd15 hlenP hrow1) ?_
 refine AW (Az [(45,0)] [((0,0),(0,0))] [((0,0),(0,0))] pc) q9 ?_
 refine A3 (j7 hz0 hz1 hzz hq1 hq2 hq3 h00) ?_
 refine w9 (A6 [] npc) q9 ?_
 refine A3 (j9 hz0 hz1 hzz hq1 hq2 hq3 hrow2 hd15 hlenP) ?_
 refine w12 (Au [(49,0)] har) hfg ?_
 refine A3 q9 ?_
 exact Ab (Aa [((0,0),(0,0)),((0,1),(56,0))] []) Tryz.results135 h00
theorem P6 (bs:List Nat) (hb:Bs bs) (a:Nat) (ha:a≤800000) {t:V}(ht:t.right) (P0:List V) (hP0:(AJ false (t.paths []))[Af bs a (AJ false (t.paths [])).length]? = some P0) (hlen:0<(AJ false (t.paths [])).length∧(AJ false (t.paths [])).length≤200) (hs0:∀q∈P0,CG q) (hl0:P0.length≤20)
  (h3:(Af bs (a+1) 3==0)=true) (h30:(Af bs (a+5) 30==0)=true) (q:V) (hq:[C6 (D5 bs (a+2)),Ar ((Af bs (a+3) 5:Nat)-2:Int)][Af bs (a+4) 2]? = some q) (p:Int) (hp:D4 bs (a+6) [200,199,-9]=p) (hcut:((P0++[q])++[Ar p]).length>15)
  (hall:∀x∈((P0++[q])++[Ar p]),CG x):AI bs a t.enc (((P0++[q])++[Ar p]).take 15) (a+7):=by
 have hf:=C0 t.enc
 rw[Cz ht]at hf
 have hal:=Eo false t.count t [] (Nat.le_refl _) ht.2.1 ht.1 (by have:=ht.2.1;simp;omega)
 have hal2:AC Tryz.prog 201 [Aq t.enc,.c (.sl []),.c (.bool false)] [] (.c (.sl ((AJ false (t.paths [])).map BC))) []:=hal
 have hn0:=AB bs hb a (AJ false (t.paths [])).length (by omega) (by omega)
 have hlt:=AD bs a hlen.1
 obtain⟨hr0,hg0⟩:=Fj hlt
 rw[List.getElem?_eq_getElem hlt,Option.some.injEq]at hP0
 rw[hP0]at hg0
 generalize Af bs a (AJ false (t.paths [])).length=i0 at *
 have hlm:((AJ false (t.paths [])).map BC).length=(AJ false (t.paths [])).length:=by simp
 clear hP0 hlt
 generalize hLP:(AJ false (t.paths [])).length=LP at *
 generalize (AJ false (t.paths [])).map BC=RP at *
 have h00:((0:Int)==0)=true:=rfl
 have hz0:P0.length+1≤1000000:=by omega
 have hz1:0+P0.length≤1000000:=by omega
 have hzz:P0.length+1+1≤1000000:=by omega
 have c3:=Am bs hb (a+1) 3 (by omega) (by omega)
 rw[h3]at c3
 have c30:=Am bs hb (a+5) 30 (by omega) (by omega)
 rw[h30]at c30
 have kc:=G1 bs hb (a+2) (by omega)
 have sc:=Da (D5 bs (a+2))
 have nc:=AB bs hb (a+3) 5 (by omega) (by omega)
 have hy5:=AD bs (a+3) (n:=5) (by omega)
 have wc:IntKind.i64.wrap ((Af bs (a+3) 5:Nat)-2:Int)=((Af bs (a+3) 5:Nat)-2:Int):=IntWalk.i64_in _ (by omega)
 have nmc:=Bd ((Af bs (a+3) 5:Nat)-2:Int)
 have n2:=AB bs hb (a+4) 2 (by omega) (by omega)
 have hlt2:=AD bs (a+4) (n:=2) (by omega)
 obtain⟨k0,k1⟩:=FJ (L:=[C6 (D5 bs (a+2)),Ar ((Af bs (a+3) 5:Nat)-2:Int)]) hlt2
 rw[List.getElem?_eq_getElem (by exact hlt2),Option.some.injEq]at hq
 rw[hq]at k1
 simp only[List.map_cons,List.map_nil,A9]at k0 k1
 generalize (C6 (D5 bs (a+2))).enc=E1 at *
 generalize (Ar ((Af bs (a+3) 5:Nat)-2:Int)).enc=E2 at *
 obtain⟨z5,hz5⟩:∃z5:Int,((Af bs (a+3) 5:Nat)-2:Int)=z5:=⟨_,rfl⟩
 have wc5:IntKind.i64.wrap ((Af bs (a+3) 5:Nat)-2:Int)=z5:=by rw[wc];exact hz5
 clear wc
 rw[hz5]at nmc
 generalize D5 bs (a+2)=s at *
 generalize Af bs (a+4) 2=i2 at *
 have hrow1:=Em P0 q
 have hq1:0+(P0++[q]).length≤1000000:=by simp;omega
 have hq2:0+(P0.length+1)≤1000000:=by omega
 have hq3:(P0++[q]).length+1≤1000000:=by simp;omega
 have pc:=CI bs hb (a+6) [200,199,-9] (by simp) (by simp) (by omega)
 rw[hp]at pc
 simp only[List.map_cons,List.map_nil,BT]at pc
 have npc:=Bd p
 have hrow2:=Em (P0++[q]) (Ar p)
 have hlq:((P0++[q])++[Ar p]).length≤30:=by simp;omega
 have har:=BU (((P0++[q])++[Ar p]).take 15) (CH (KQ hall 15) (by rw[List.length_take];omega))
 have hd15:decide ((((P0++[q])++[Ar p]).length:Int)>15)=true:=decide_eq_true (by omega)
 have hlenP:((((P0++[q])++[Ar p]).map V.enc).map A9).length=((P0++[q])++[Ar p]).length:=by simp
 have hi0:(0:Int)≤15:=by decide
 have hi1:(15:Int)≤(((P0++[q])++[Ar p]).length:Int):=by omega
 have hi2:15≤((P0++[q])++[Ar p]).length:=by omega
 have htk:=J0 ((P0++[q])++[Ar p]) 15
 have hcb:Hl ((P0++[q])++[Ar p]).length (some (AV.c (C.int IntKind.i64 15)))=some 15:=by simp[Hl]
 have hc2:(0≤15∧15≤((P0++[q])++[Ar p]).length)=True:=eq_true ⟨by omega,hi2⟩
 have hdz:∀l:List (List C),l.drop 0=l:=fun l=>rfl
 have hmn:(([]:List V).map V.enc).map A9=[]:=rfl
 have hfg:AE (((((P0++[q])++[Ar p]).take 15).map V.enc).map A9)=((((P0++[q])++[Ar p]).take 15).map V.enc).map A9:=Ca _
 unfold AI
 generalize (Ba (((P0++[q])++[Ar p]).take 15)).enc=FE at *
 generalize hR3:((((P0++[q])++[Ar p]).take 15).map V.enc).map A9=R3 at *
 generalize (Ar p).enc=PE at *
 generalize hL2:((P0++[q])++[Ar p]).length=L2 at *
 generalize hR2:(((P0++[q])++[Ar p]).map V.enc).map A9=R2 at *
 refine A5 Tryz.func135 Tryz.ntmps135 ?_
 refine A3 q9 ?_
 refine w7 (A8 [] hf) q9 ?_
 refine A3 h00 ?_
 refine w9 (A6 [] hal2) q9 ?_
 refine A3 hlm ?_
 refine A7 (A0 [((0,0),(0,0))] [((0,0),(0,0))] hn0) q9 ?_
 refine A3 (j2 hr0 hg0) ?_
 refine A7 (A0 [((0,0),(0,0))] [((0,0),(0,0))] c3) q9 ?_
 refine A3 (j7 hz0 hz1 hzz hq1 hq2 hq3 hlm) ?_
 refine A7 (A0 [((0,0),(0,0))] [((0,0),(0,0))] kc) q9 ?_
 refine A3 (j7 hz0 hz1 hzz hq1 hq2 hq3 h00) ?_
 refine w9 (A6 [] sc) q9 ?_
 refine A3 (j7 hz0 hz1 hzz hq1 hq2 hq3 h00) ?_
 refine A7 (A0 [((0,0),(0,0))] [((0,0),(0,0))] nc) q9 ?_
 refine A3 (j7 hz0 hz1 hzz hq1 hq2 hq3 wc5) ?_
 refine w9 (A6 [] nmc) q9 ?_
 refine A3 (j7 hz0 hz1 hzz hq1 hq2 hq3 h00) ?_
 refine A7 (A0 [((0,0),(0,0))] [((0,0),(0,0))] n2) q9 ?_
 refine A3 (j9 hz0 hz1 hzz hq1 hq2 hq3 k0 k1 hrow1) ?_
 refine A7 (A0 [((0,0),(0,0))] [((0,0),(0,0))] c30) q9 ?_
 refine A3 (j9 hz0 hz1 hzz hq1 hq2 hq3 hd15 hlenP hrow1) ?_
 refine AW (Az [(45,0)] [((0,0),(0,0))] [((0,0),(0,0))] pc) q9 ?_
 refine A3 (j7 hz0 hz1 hzz hq1 hq2 hq3 h00) ?_
 refine w9 (A6 [] npc) q9 ?_
 refine A3 (j9 hz0 hz1 hzz hq1 hq2 hq3 hrow2 hd15 hlenP) ?_
 ((with_reducible apply Ja);(iterate 10 (focus (first | (simp only[go_sem,Nat.reduceEqDiff,Nat.reduceAdd,Nat.reduceSub,Nat.reduceLeDiff,Nat.reduceMul,Nat.reduceBEq,Nat.reduceLT,Int.reduceToNat,reduceCtorEq,hi0,hi1,hlenP,htk];first | done | exact rfl | (and_intros<;>rfl)) | exact rfl | decide))))
 refine A3 (j5 hi0 hi1 hi2 hlenP htk) ?_
 refine w12 (Au [(54,0)] har) hfg ?_
 refine A3 q9 ?_
 exact Ab (Aa [((0,0),(0,0)),((0,1),(56,0))] []) Tryz.results135 h00
end Go.Proofs.YtllfmaflodbieaaGreatDoor
