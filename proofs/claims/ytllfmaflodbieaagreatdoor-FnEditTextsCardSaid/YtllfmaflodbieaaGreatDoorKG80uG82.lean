/- Texts of this proof: G80 G81 G82. -/
import Derived.Test.YtllfmaflodbieaaGreatDoorKE34uM28
set_option linter.all false
set_option maxHeartbeats 8000000
namespace Go.Proofs.YtllfmaflodbieaaGreatDoor
open Go.RowKit
set_option maxRecDepth 10000
abbrev Wd (bs:List Nat) (a:Nat):AO:=.box [.c (.sl (bs.map CO)),.c (.int .i64 (a:Int))]
abbrev D6 (bs:List Nat) (a:Nat):Mem:=[((0,0),Wd bs a)]
def Bs (bs:List Nat):Prop:=bs.length≤1048576∧∀b∈bs,b<256
theorem Ta (bs:List Nat):AC Tryz.prog 53 [.c (.sl (bs.map CO))] [] (.ptr (0,0) 0) (D6 bs 0):=by
 have h0:((0:Nat):Int)=0:=rfl
 refine A5 Tryz.func53 Tryz.ntmps53 ?_
 refine A3 q9 ?_
 exact Ab (Aa [((0,0),(5,0))] []) Tryz.results53 h0
theorem EH {x:Int}{n:Nat}(h:x=(n:Int)) (hn:n<9000000000000000000):IntKind.i64.wrap x=(n:Int):=by
 rw[IntWalk.i64_in _ (by omega)];exact h
theorem U8 (a b:Nat):Int.tmod (a:Int) (b:Int)=((a % b:Nat):Int):=rfl
theorem a5n (a b:Nat):Int.tdiv (a:Int) (b:Int)=((a / b:Nat):Int):=rfl
theorem Sc {bs:List Nat}(h:Bs bs) {i:Nat}(hi:i<bs.length):∃u:Nat,Ae (bs.map CO) 1 ((i:Nat):Int)=true∧(bs.map CO)[i]? = some [.int .u8 (u:Int)]∧bs.getD i 0=u∧u<256:=by
 refine⟨bs[i],by simp[Ae,hi,CO],by simp[hi,CO],by rw[List.getD_eq_getElem?_getD,List.getElem?_eq_getElem hi,Option.getD_some],h.2 _ (List.getElem_mem hi)⟩
theorem AB (bs:List Nat) (hb:Bs bs) (a n:Nat) (ha:a≤1000000) (hn:n≤1000000):AC Tryz.prog 102 [.ptr (0,0) 0,.c (.int .i64 (n:Int))] (D6 bs a) (.c (.int .i64 (Af bs a n))) (D6 bs (a+1)):=by
 have hw1:=AA (k:=a) (by omega)
 have hs1:IntKind.i64.wrap (((a+1:Nat):Int)-1)=(a:Int):=EH (by omega) (by omega)
 have hln:(bs.map CO).length=bs.length:=by simp
 unfold Af
 by_cases h1:n<1
 ·rw[if_pos h1]
  have hd:decide ((n:Int)<1)=true:=decide_eq_true (by omega)
  have h0:((0:Nat):Int)=0:=rfl
  refine A5 Tryz.func102 Tryz.ntmps102 ?_
  refine A3 (j2 hw1 hd) ?_
  exact Ab (Aa [((0,0),(0,0))] []) Tryz.results102 h0
 ·rw[if_neg h1]
  have hd:decide ((n:Int)<1)=false:=decide_eq_false (by omega)
  have hn0:((n:Int)=0)=False:=by simp;omega
  by_cases h2:bs=[]
  ·rw[if_pos h2]
   have hk:((bs.length:Int)==0)=true:=by rw[h2];rfl
   have hm:IntKind.i64.wrap ((a:Int)*7)=((a*7:Nat):Int):=EH (by omega) (by omega)
   have ht:=U8 (a*7) n
   generalize hx:a*7 % n=x at *
   refine A5 Tryz.func102 Tryz.ntmps102 ?_
   refine A3 (j8 hw1 hd hs1 hln hk hm hn0 ht) ?_
   exact Ab (Aa [((0,0),(0,0))] []) Tryz.results102 hx
  ·rw[if_neg h2]
   have hlp:0<bs.length:=List.length_pos_iff.2 h2
   have hk:((bs.length:Int)==0)=false:=by simp;exact h2
   have hk0:((bs.length:Int)=0)=False:=by simp;exact h2
   obtain⟨u,r1,g1,d1,b1⟩:=Sc hb (Nat.mod_lt a hlp)
   obtain⟨v,r2,g2,d2,b2⟩:=Sc hb (Nat.mod_lt (a+1) hlp)
   have t1:=U8 a bs.length
   have t2:=U8 (a+1) bs.length
   have q1:=a5n a bs.length
   have q2:IntKind.i64.wrap (((a / bs.length:Nat):Int))=((a / bs.length:Nat):Int):=EH rfl (by have:=Nat.div_le_self a bs.length;omega)
   have hq:=Nat.div_le_self a bs.length
   rw[d1,d2]
   generalize a / bs.length=e at *
   generalize a % bs.length=i1 at *
   generalize (a+1) % bs.length=i2 at *
   have c1:IntKind.i64.wrap (u:Int)=(u:Int):=EH rfl (by omega)
   have c2:IntKind.i64.wrap (v:Int)=(v:Int):=EH rfl (by omega)
   have m1:IntKind.i64.wrap ((e:Int)*37)=((e*37:Nat):Int):=EH (by omega) (by omega)
   have p1:IntKind.i64.wrap ((u:Int)+((e*37:Nat):Int))=((u+e*37:Nat):Int):=EH (by omega) (by omega)
   by_cases h3:n≤200
   ·rw[if_pos h3]
    have hg:decide ((n:Int)>200)=false:=decide_eq_false (by omega)
    have ht:=U8 (u+e*37) n
    generalize u+e*37=y at *
    generalize hx:y % n=x at *
    refine A5 Tryz.func102 Tryz.ntmps102 ?_
    refine A3 (j2 (j12 hw1 hd hs1 hln hk hk0 t1 r1 g1 c1 q1 q2) (j5 m1 p1 hg hn0 ht)) ?_
    exact Ab (Aa [((0,0),(0,0))] []) Tryz.results102 hx
   ·rw[if_neg h3]
    have hg:decide ((n:Int)>200)=true:=decide_eq_true (by omega)
    have m2:IntKind.i64.wrap (((u+e*37:Nat):Int)*251)=(((u+e*37)*251:Nat):Int):=EH (by omega) (by omega)
    have m3:IntKind.i64.wrap ((v:Int)*13)=((v*13:Nat):Int):=EH (by omega) (by omega)
    have p2:IntKind.i64.wrap ((((u+e*37)*251:Nat):Int)+((v*13:Nat):Int))=(((u+e*37)*251+v*13:Nat):Int):=EH (by omega) (by omega)
    have p3:IntKind.i64.wrap ((((u+e*37)*251+v*13:Nat):Int)+(a:Int))=(((u+e*37)*251+v*13+a:Nat):Int):=EH (by omega) (by omega)
    have ht:=U8 ((u+e*37)*251+v*13+a) n
    generalize hx:((u+e*37)*251+v*13+a) % n=x at *
    refine A5 Tryz.func102 Tryz.ntmps102 ?_
    refine A3 (j2 (j12 hw1 hd hs1 hln hk hk0 t1 r1 g1 c1 q1 q2) (j2 (j12 m1 p1 hg t2 r2 g2 c2 m2 m3 p2 p3 hn0) ht)) ?_
    exact Ab (Aa [((0,0),(0,0))] []) Tryz.results102 hx
theorem Am (bs:List Nat) (hb:Bs bs) (a n:Nat) (ha:a≤1000000) (hn:n≤1000000):AC Tryz.prog 134 [.ptr (0,0) 0,.c (.int .i64 (n:Int))] (D6 bs a) (.c (.bool (Af bs a n==0))) (D6 bs (a+1)):=by
 have hc:=AB bs hb a n ha hn
 have he:(((Af bs a n:Nat):Int)==0)=(Af bs a n==0):=by
  rw[Bool.eq_iff_iff];simp
 generalize Af bs a n=x at *
 refine A5 Tryz.func134 Tryz.ntmps134 ?_
 refine A3 q9 ?_
 refine A7 (A0 [((0,0),(0,0))] [((0,0),(0,0))] hc) q9 ?_
 refine A3 he ?_
 exact Ab (Aa [((0,0),(0,0))] []) Tryz.results134 he
theorem s8 {l:List Int}{i:Nat}(h:i<l.length):Ae (l.map BT) 1 ((i:Nat):Int)=true∧(l.map BT)[i]? = some [.int .i64 l[i]]:=⟨by simp[Ae,h,BT],by simp[h,BT]⟩
theorem CI (bs:List Nat) (hb:Bs bs) (a:Nat) (l:List Int) (hl:l≠[]) (hll:l.length≤1000) (ha:a≤1000000):AC Tryz.prog 55 [.ptr (0,0) 0,.c (.sl (l.map BT))] (D6 bs a) (.c (.int .i64 (D4 bs a l))) (D6 bs (a+1)):=by
 have hc:=AB bs hb a l.length ha (by omega)
 have hln:(l.map BT).length=l.length:=by simp
 have hlt:=AD bs a (List.length_pos_iff.2 hl)
 have hp:D4 bs a l=l[Af bs a l.length]:=by
  unfold D4
  rw[List.getD_eq_getElem?_getD,List.getElem?_eq_getElem hlt,Option.getD_some]
 rw[hp]
 obtain⟨hr0,hg0⟩:=s8 hlt
 generalize hx:l[Af bs a l.length]=x at *
 generalize Af bs a l.length=i at *
 refine A5 Tryz.func55 Tryz.ntmps55 ?_
 refine A3 hln ?_
 refine A7 (A0 [((0,0),(0,0))] [((0,0),(0,0))] hc) q9 ?_
 refine A3 (j2 hr0 hg0) ?_
 exact Ab (Aa [((0,0),(0,0))] []) Tryz.results55 hx
theorem Je {L:List ByteArray}{i:Nat}(h:i<L.length):Ae (L.map Ac) 1 ((i:Nat):Int)=true∧(L.map Ac)[i]? = some [.str L[i]]:=by
 exact⟨by simp[Ae,h,Ac],by simp[h,Ac]⟩
theorem XW (bs:List Nat) (hb:Bs bs) (a:Nat) (ha:a≤1000000):AC Tryz.prog 161 [.ptr (0,0) 0] (D6 bs a) (.c (.str (JD bs a))) (D6 bs (a+1)):=by
 have hc:=AB bs hb a 8 ha (by omega)
 have hlt:=AD bs a (n:=8) (by omega)
 obtain⟨hr0,hg0⟩:=Je (L:=OQ) hlt
 have hp:JD bs a=OQ[Af bs a 8]:=by
  unfold JD
  rw[List.getD_eq_getElem?_getD,List.getElem?_eq_getElem (by exact hlt),Option.getD_some]
 rw[hp]
 generalize hx:OQ[Af bs a 8]=x at *
 generalize Af bs a 8=i at *
 unfold OQ at hr0 hg0
 simp only[List.map_cons,List.map_nil,Ac]at hr0 hg0
 refine A5 Tryz.func161 Tryz.ntmps161 ?_
 refine A3 q9 ?_
 refine A7 (A0 [((0,0),(0,0))] [((0,0),(0,0))] hc) q9 ?_
 refine A3 (j2 hr0 hg0) ?_
 exact Ab (Aa [((0,0),(0,0))] []) Tryz.results161 hx
theorem G1 (bs:List Nat) (hb:Bs bs) (a:Nat) (ha:a≤1000000):AC Tryz.prog 162 [.ptr (0,0) 0] (D6 bs a) (.c (.str (D5 bs a))) (D6 bs (a+1)):=by
 have hc:=AB bs hb a 4 ha (by omega)
 have hlt:=AD bs a (n:=4) (by omega)
 obtain⟨hr0,hg0⟩:=Je (L:=Fe) hlt
 have hp:D5 bs a=Fe[Af bs a 4]:=by
  unfold D5
  rw[List.getD_eq_getElem?_getD,List.getElem?_eq_getElem (by exact hlt),Option.getD_some]
 rw[hp]
 generalize hx:Fe[Af bs a 4]=x at *
 generalize Af bs a 4=i at *
 unfold Fe at hr0 hg0
 simp only[List.map_cons,List.map_nil,Ac]at hr0 hg0
 refine A5 Tryz.func162 Tryz.ntmps162 ?_
 refine A3 q9 ?_
 refine A7 (A0 [((0,0),(0,0))] [((0,0),(0,0))] hc) q9 ?_
 refine A3 (j2 hr0 hg0) ?_
 exact Ab (Aa [((0,0),(0,0))] []) Tryz.results162 hx
set_option maxRecDepth 10000
theorem Ri (n:Int):AC Tryz.prog 160 [.c (.int .i64 n)] [] (.own (0,0)) [((0,0),.row false 5 115 ((Ar n).enc.map CellD.cs))]:=by
 have he:(Ar n).enc.map CellD.cs=[[.int .i64 3,.int .i64 n,.str ByteArray.empty,.str ByteArray.empty,.int .i64 0]]:=rfl
 refine A5 Tryz.func160 Tryz.ntmps160 ?_
 refine A3 q9 ?_
 exact Ab (Aa [((0,0),(5,0))] []) Tryz.results160 he
theorem Rj (s:ByteArray):AC Tryz.prog 126 [.c (.str s)] [] (.own (0,0)) [((0,0),.row false 5 115 ((C6 s).enc.map CellD.cs))]:=by
 have he:(C6 s).enc.map CellD.cs=[[.int .i64 4,.int .i64 0,.str s,.str ByteArray.empty,.int .i64 0]]:=rfl
 refine A5 Tryz.func126 Tryz.ntmps126 ?_
 refine A3 q9 ?_
 exact Ab (Aa [((0,0),(5,0))] []) Tryz.results126 he
abbrev Wi (bs:List Nat) (r:V×Nat):Mem:=[((0,0),Wd bs r.2),((0,1),.row false 5 115 (r.1.enc.map CellD.cs))]
theorem E9 (k:Int):(V.mk k 0 ByteArray.empty [] []).enc.map CellD.cs=[[.int .i64 k,.int .i64 0,.str ByteArray.empty,.str ByteArray.empty,.int .i64 0]]:=rfl
theorem KE (bs:List Nat) (hb:Bs bs) (a:Nat) (ha:a≤900000) (dp:Int) (b:Bool) (hdp:decide (dp≤1)=b) (k:Nat) (hk:k=if b=true∧Af bs a 10>6 then Af bs a 10-5 else Af bs a 10) (h6:k≤6) :
  AC Tryz.prog 101 [.ptr (0,0) 0,.c (.int .i64 dp)] (D6 bs a) (.own (0,1)) (Wi bs (Jw bs k (a+1))):=by
 have hc:=AB bs hb a 10 (by omega) (by omega)
 have hlt:=AD bs a (n:=10) (by omega)
 generalize Af bs a 10=r at *
 have n1:=AB bs hb (a+1) 9 (by omega) (by omega)
 have n2:=AB bs hb (a+2) 9 (by omega) (by omega)
 have n3:=AB bs hb (a+3) 40 (by omega) (by omega)
 have x3:=AD bs (a+3) (n:=40) (by omega)
 have n4:=CI bs hb (a+4) [(Af bs (a+1) 9:Int),(Af bs (a+2) 9:Int),-(Af bs (a+3) 40:Int),1000000000000000] (by simp) (by simp) (by omega)
 have n5:=Ri (D4 bs (a+4) [(Af bs (a+1) 9:Int),(Af bs (a+2) 9:Int),-(Af bs (a+3) 40:Int),1000000000000000])
 have n6:=XW bs hb (a+1) (by omega)
 have n7:=Rj (JD bs (a+1))
 have hneg:IntKind.i64.wrap (0-(Af bs (a+3) 40:Int)) = -(Af bs (a+3) 40:Int):=by rw[IntWalk.i64_in _ (by omega)];omega
 have hnum:∀k:Nat,3≤k→k≤5→Jw bs k (a+1)=(Ar (D4 bs (a+4) [(Af bs (a+1) 9:Int),(Af bs (a+2) 9:Int),-(Af bs (a+3) 40:Int),1000000000000000]),a+5):=fun k h1 h2=>by
  unfold Jw
  rw[if_neg (by omega),if_pos h2]
 have hstr:Jw bs 6 (a+1)=(C6 (JD bs (a+1)),a+2):=rfl
 have hmk:∀k:Nat,k≤2→Jw bs k (a+1)=(V.mk k 0 ByteArray.empty [] [],a+1):=fun k h=>by
  unfold Jw
  rw[if_pos h]
 simp only[List.map_cons,List.map_nil,BT]at n4
 generalize Af bs (a+1) 9=y1 at *
 generalize Af bs (a+2) 9=y2 at *
 generalize Af bs (a+3) 40=y3 at *
 generalize D4 bs (a+4) _=y4 at *
 generalize JD bs (a+1)=y5 at *
 have hs7:IntKind.i64.wrap (7-5)=2:=by decide
 have hs8:IntKind.i64.wrap (8-5)=3:=by decide
 have hs9:IntKind.i64.wrap (9-5)=4:=by decide
 have h10:r=0∨r=1∨r=2∨r=3∨r=4∨r=5∨r=6∨r=7∨r=8∨r=9:=by omega
 obtain⟨z,hz⟩:∃z:Int,(r:Int)=z:=⟨_,rfl⟩
 rw[hz]at hc
 by_cases hk2:k≤2
 ·rw[hmk k hk2]
  obtain⟨kz,hkz⟩:∃kz:Int,(k:Int)=kz:=⟨_,rfl⟩
  rw[hkz]
  have hrr:(b=false∧z=kz)∨(b=true∧z=kz)∨(b=true∧z=7∧kz=2):=by
   by_cases hr6:r>6<;>cases b<;>simp[hr6]at hk ⊢<;>omega
  have hkk:kz=0∨kz=1∨kz=2:=by omega
  rcases hrr with⟨rfl,rfl⟩ | ⟨rfl,rfl⟩ | ⟨rfl,rfl,rfl⟩
  ·rcases hkk with rfl | rfl | rfl
   all_goals
    refine A5 Tryz.func101 Tryz.ntmps101 ?_
    refine A3 q9 ?_
    refine A7 (A0 [((0,0),(0,0))] [((0,0),(0,0))] hc) q9 ?_
    refine a6g hdp ?_
    exact Ab (Aa [((0,0),(0,0)),((0,1),(28,0))] []) Tryz.results101 @E9
  ·rcases hkk with rfl | rfl | rfl
   all_goals
    refine A5 Tryz.func101 Tryz.ntmps101 ?_
    refine A3 q9 ?_
    refine A7 (A0 [((0,0),(0,0))] [((0,0),(0,0))] hc) q9 ?_
    refine a6g hdp ?_
    exact Ab (Aa [((0,0),(0,0)),((0,1),(28,0))] []) Tryz.results101 @E9
  ·refine A5 Tryz.func101 Tryz.ntmps101 ?_
   refine A3 q9 ?_
   refine A7 (A0 [((0,0),(0,0))] [((0,0),(0,0))] hc) q9 ?_
   refine a6g (j2 hdp hs7) ?_
   exact Ab (Aa [((0,0),(0,0)),((0,1),(28,0))] []) Tryz.results101 @E9
 ·by_cases hk5:k≤5
  ·rw[hnum k (by omega) hk5]
   have hrr:(b=false∧(z=3∨z=4∨z=5))∨(b=true∧(z=3∨z=4∨z=5∨z=8∨z=9)):=by
    by_cases hr6:r>6<;>cases b<;>simp[hr6]at hk ⊢<;>omega
   rcases hrr with⟨rfl,hr⟩ | ⟨rfl,hr⟩
   ·rcases hr with rfl | rfl | rfl
    all_goals
     refine A5 Tryz.func101 Tryz.ntmps101 ?_
     refine A3 q9 ?_
     refine A7 (A0 [((0,0),(0,0))] [((0,0),(0,0))] hc) q9 ?_
     refine a6g hdp ?_
     refine A7 (A0 [((0,0),(0,0))] [((0,0),(0,0))] n1) q9 ?_
     refine A3 q9 ?_
     refine A7 (A0 [((0,0),(0,0))] [((0,0),(0,0))] n2) q9 ?_
     refine A3 q9 ?_
     refine A7 (A0 [((0,0),(0,0))] [((0,0),(0,0))] n3) q9 ?_
     refine A3 hneg ?_
     refine AW (Az [(41,0)] [((0,0),(0,0))] [((0,0),(0,0))] n4) q9 ?_
     refine A3 q9 ?_
     refine w12 (Au [] n5) q9 ?_
     refine A3 q9 ?_
     exact Ab (Aa [((0,0),(0,0)),((0,1),(43,0))] []) Tryz.results101 hdp
   ·rcases hr with rfl | rfl | rfl | rfl | rfl
    all_goals
     refine A5 Tryz.func101 Tryz.ntmps101 ?_
     refine A3 q9 ?_
     refine A7 (A0 [((0,0),(0,0))] [((0,0),(0,0))] hc) q9 ?_
     refine a6g (j3 hdp hs8 hs9) ?_
     refine A7 (A0 [((0,0),(0,0))] [((0,0),(0,0))] n1) q9 ?_
     refine A3 q9 ?_
     refine A7 (A0 [((0,0),(0,0))] [((0,0),(0,0))] n2) q9 ?_
     refine A3 q9 ?_
     refine A7 (A0 [((0,0),(0,0))] [((0,0),(0,0))] n3) q9 ?_
     refine A3 hneg ?_
     refine AW (Az [(41,0)] [((0,0),(0,0))] [((0,0),(0,0))] n4) q9 ?_
     refine A3 q9 ?_
     refine w12 (Au [] n5) q9 ?_
     refine A3 q9 ?_
     exact Ab (Aa [((0,0),(0,0)),((0,1),(43,0))] []) Tryz.results101 hdp
  ·have hk6:k=6:=by omega
   rw[hk6,hstr]
   have hr:z=6:=by by_cases hr6:r>6<;>cases b<;>simp[hr6]at hk<;>omega
   subst hr
   cases b with
   |false =>
    refine A5 Tryz.func101 Tryz.ntmps101 ?_
    refine A3 q9 ?_
    refine A7 (A0 [((0,0),(0,0))] [((0,0),(0,0))] hc) q9 ?_
    refine a6g hdp ?_
    refine A7 (A0 [((0,0),(0,0))] [((0,0),(0,0))] n6) q9 ?_
    refine A3 q9 ?_
    refine w12 (Au [] n7) q9 ?_
    refine A3 q9 ?_
    exact Ab (Aa [((0,0),(0,0)),((0,1),(48,0))] []) Tryz.results101 hdp
   |true =>
    refine A5 Tryz.func101 Tryz.ntmps101 ?_
    refine A3 q9 ?_
    refine A7 (A0 [((0,0),(0,0))] [((0,0),(0,0))] hc) q9 ?_
    refine a6g hdp ?_
    refine A7 (A0 [((0,0),(0,0))] [((0,0),(0,0))] n6) q9 ?_
    refine A3 q9 ?_
    refine w12 (Au [] n7) q9 ?_
    refine A3 q9 ?_
    exact Ab (Aa [((0,0),(0,0)),((0,1),(48,0))] []) Tryz.results101 hdp
set_option maxRecDepth 10000
def Z4 (bs:List Nat) (d:Nat):Prop:=∀a,a+EI d≤900000→AC Tryz.prog 101 [.ptr (0,0) 0,.c (.int .i64 ((d+1:Nat):Int))] (D6 bs a) (.own (0,1)) (Wi bs (BH bs d a))
theorem Tb (bs:List Nat) (hb:Bs bs) {d:Nat}(hd:d≤4) (ih:Z4 bs d) (a:Nat) (ha:a+EI (d+1)≤900000) (hk:Af bs a 10=7∨Af bs a 10=8) :
  AC Tryz.prog 101 [.ptr (0,0) 0,.c (.int .i64 ((d+2:Nat):Int))] (D6 bs a) (.own (0,1)) (Wi bs (Ba (DE (BH bs d) (Af bs (a+1) 4) (a+2)).1,(DE (BH bs d) (Af bs (a+1) 4) (a+2)).2)):=by
 have hb1:EI (d+1)=5+3*(1+EI d):=rfl
 have hc:=AB bs hb a 10 (by omega) (by omega)
 have n1:=AB bs hb (a+1) 4 (by omega) (by omega)
 have hn:=AD bs (a+1) (n:=4) (by omega)
 have hok:=F8 bs d
 have hcc:GR d≤400:=by
  have:d=0∨d=1∨d=2∨d=3∨d=4:=by omega
  rcases this with rfl | rfl | rfl | rfl | rfl<;>decide
 obtain⟨g1,g2,g3,g4,g5,g6⟩:=Nm hok (Af bs (a+1) 4) (a+2)
 have hdp:decide (((d+2:Nat):Int)≤1)=false:=decide_eq_false (by omega)
 have hdw:IntKind.i64.wrap (((d+2:Nat):Int)-1)=((d+1:Nat):Int):=EH (by omega) (by omega)
 have hm1:Af bs (a+1) 4*GR d≤3*GR d:=Nat.mul_le_mul_right _ (by omega)
 obtain⟨q,hq⟩:∃q,DE (BH bs d) (Af bs (a+1) 4) (a+2)=q:=⟨_,rfl⟩
 rw[hq]at g1 g2 g3 g4 g5 g6 ⊢
 have har:=BU q.1 (by simp only[Ba,V.count];omega)
 generalize Af bs (a+1) 4=n at *
 have hz:(([]:List V).map V.enc).map G6=[]:=rfl
 obtain⟨z,hzr⟩:∃z:Int,((Af bs a 10:Nat):Int)=z:=⟨_,rfl⟩
 rw[hzr]at hc
 have hzz:z=7∨z=8:=by omega
 rcases hzz with rfl | rfl
 all_goals
  refine A5 Tryz.func101 Tryz.ntmps101 ?_
  refine A3 q9 ?_
  refine A7 (A0 [((0,0),(0,0))] [((0,0),(0,0))] hc) q9 ?_
  refine a6g hdp ?_
  refine A7 (A0 [((0,0),(0,0))] [((0,0),(0,0))] n1) q9 ?_
  refine A3 q9 ?_
  refine AZ (κ:=List V×Nat×Nat) (fun x=>⟨mkS 0 91 [(0,.ptr (0,0) 0),(1,.c (.int .i64 ((d+2:Nat):Int))),(6,.own (99,0)),(7,.c (.int .i64 (x.2.1:Int)))],
    [((0,0),Wd bs x.2.2),((99,0),.row true 1 36 ((x.1.map V.enc).map G6))]⟩)
   (fun x=>x.1.length+x.2.1≤3∧x.2.2+x.2.1*EI d≤a+2+3*EI d∧x.1++(DE (BH bs d) x.2.1 x.2.2).1=q.1∧(DE (BH bs d) x.2.1 x.2.2).2=q.2) (fun x=>x.2.1) ([],n,a+2) ⟨by show 0+n≤3;omega,Nat.add_le_add_left (Nat.mul_le_mul_right _ (show n≤3 by omega)) _,by rw[List.nil_append,hq],by rw[hq]⟩ ?_ ?_
  ·exact As (AH.of [((0,0),(0,0)),((99,0),(52,0))] []) hz
  ·rintro⟨vs,m,a1⟩ ⟨i1,i2,i3,i4⟩
   dsimp only at i1 i2 i3 i4 ⊢
   cases m with
   |zero =>
    have e1:vs=q.1:=by rw[←i3];simp[DE]
    have e2:a1=q.2:=i4
    rw[e1,e2]
    have h0:decide (((0:Nat):Int)>0)=false:=rfl
    generalize q.1=qs at *
    generalize q.2=q2 at *
    refine A3 h0 ?_
    refine w12 (Au [(99,0)] har) q9 ?_
    refine A3 q9 ?_
    exact Ab (Aa [((0,0),(0,0)),((0,1),(67,0))] []) Tryz.results101 hdp
   |succ m =>
    rw[Nat.succ_mul]at i2
    have ihc:=ih a1 (by omega)
    obtain⟨o1,o2,o3,o4,o5⟩:=hok a1
    have h0:decide (((m+1:Nat):Int)>0)=true:=decide_eq_true (by omega)
    have hw:IntKind.i64.wrap (((m+1:Nat):Int)-1)=(m:Int):=EH (by omega) (by omega)
    have hol:vs.length+1≤1000000:=by omega
    have i3':(vs++[(BH bs d a1).1])++(DE (BH bs d) m (BH bs d a1).2).1=q.1:=by rw[List.append_assoc];exact i3
    have i4':(DE (BH bs d) m (BH bs d a1).2).2=q.2:=i4
    generalize BH bs d a1=v at *
    have hrow:(vs.map V.enc).map G6++[[C.osl (v.1.enc.map CellD.cs)]]=((vs++[v.1]).map V.enc).map G6:=by rw[List.map_append,List.map_append];rfl
    refine A3 (j2 h0 hdw) ?_
    refine A7 (A0 [((0,0),(0,0))] [((0,0),(0,0)),((0,1),(63,0))] ihc) q9 ?_
    refine A3 (j2 hol hw) ?_
    refine⟨(vs++[v.1],m,v.2),by dsimp only;omega,⟨by dsimp only;simp;omega,by dsimp only;omega,i3',i4'⟩,?_⟩
    dsimp only
    rw[←hrow]
    exact As (AH.of [((0,0),(0,0)),((99,0),(65,0))] []) hol
theorem Tc (bs:List Nat) (hb:Bs bs) {d:Nat}(hd:d≤4) (ih:Z4 bs d) (a:Nat) (ha:a+EI (d+1)≤900000) (hk:Af bs a 10=9) :
  AC Tryz.prog 101 [.ptr (0,0) 0,.c (.int .i64 ((d+2:Nat):Int))] (D6 bs a) (.own (0,1)) (Wi bs (EJ (Ch bs (BH bs d) (Af bs (a+1) 4) (a+2)).1 (Ch bs (BH bs d) (Af bs (a+1) 4) (a+2)).2.1,(Ch bs (BH bs d) (Af bs (a+1) 4) (a+2)).2.2)):=by
 have hb1:EI (d+1)=5+3*(1+EI d):=rfl
 have hc:=AB bs hb a 10 (by omega) (by omega)
 have n1:=AB bs hb (a+1) 4 (by omega) (by omega)
 have hn:=AD bs (a+1) (n:=4) (by omega)
 have hok:=F8 bs d
 have hcc:GR d≤400:=by
  have:d=0∨d=1∨d=2∨d=3∨d=4:=by omega
  rcases this with rfl | rfl | rfl | rfl | rfl<;>decide
 obtain⟨g1,g0,g7,g2,g3,g4,g5,g6⟩:=Nl bs hok (Af bs (a+1) 4) (a+2)
 have hdp:decide (((d+2:Nat):Int)≤1)=false:=decide_eq_false (by omega)
 have hdw:IntKind.i64.wrap (((d+2:Nat):Int)-1)=((d+1:Nat):Int):=EH (by omega) (by omega)
 have hm1:Af bs (a+1) 4*GR d≤3*GR d:=Nat.mul_le_mul_right _ (by omega)
 obtain⟨q,hq⟩:∃q,Ch bs (BH bs d) (Af bs (a+1) 4) (a+2)=q:=⟨_,rfl⟩
 rw[hq]at g1 g0 g7 g2 g3 g4 g5 g6 ⊢
 have har:=Iw q.1 q.2.1 (by omega) (by omega)
 generalize Af bs (a+1) 4=n at *
 have hz:(([]:List V).map V.enc).map G6=[]:=rfl
 have hz1:([]:List ByteArray).map Ac=[]:=rfl
 have hzr:((Af bs a 10:Nat):Int)=9:=by omega
 rw[hzr]at hc
 refine A5 Tryz.func101 Tryz.ntmps101 ?_
 refine A3 q9 ?_
 refine A7 (A0 [((0,0),(0,0))] [((0,0),(0,0))] hc) q9 ?_
 refine a6g hdp ?_
 refine A7 (A0 [((0,0),(0,0))] [((0,0),(0,0))] n1) q9 ?_
 refine A3 q9 ?_
 refine AZ (κ:=List ByteArray×List V×Nat×Nat) (fun x=>⟨mkS 0 91 [(0,.ptr (0,0) 0),(1,.c (.int .i64 ((d+2:Nat):Int))),(8,.own (98,0)),(9,.own (99,0)),(10,.c (.int .i64 (x.2.2.1:Int)))],
   [((0,0),Wd bs x.2.2.2),((98,0),.row false 1 9 (x.1.map Ac)),((99,0),.row true 1 36 ((x.2.1.map V.enc).map G6))]⟩)
  (fun x=>x.1.length+x.2.2.1≤3∧x.2.1.length=x.1.length∧x.2.2.2+x.2.2.1*(EI d+1)≤a+2+3*(EI d+1)∧x.1++(Ch bs (BH bs d) x.2.2.1 x.2.2.2).1=q.1∧x.2.1++(Ch bs (BH bs d) x.2.2.1 x.2.2.2).2.1=q.2.1∧(Ch bs (BH bs d) x.2.2.1 x.2.2.2).2.2=q.2.2) (fun x=>x.2.2.1) ([],[],n,a+2) ⟨by show 0+n≤3;omega,rfl,Nat.add_le_add_left (Nat.mul_le_mul_right _ (show n≤3 by omega)) _,by rw[List.nil_append,hq],by rw[List.nil_append,hq],by rw[hq]⟩ ?_ ?_
 ·exact As (AH.of [((0,0),(0,0)),((98,0),(68,0)),((99,0),(69,0))] []) (j2 hz hz1)
 ·rintro⟨ks,vs,m,a1⟩ ⟨i1,i0,i2,i3,i5,i4⟩
  dsimp only at i1 i0 i2 i3 i4 i5 ⊢
  cases m with
  |zero =>
   have e1:ks=q.1:=by rw[←i3];simp[Ch]
   have e3:vs=q.2.1:=by rw[←i5];simp[Ch]
   have e2:a1=q.2.2:=i4
   rw[e1,e2,e3]
   have h0:decide (((0:Nat):Int)>0)=false:=rfl
   generalize q.1=qk at *
   generalize q.2.1=qs at *
   generalize q.2.2=q2 at *
   refine A3 h0 ?_
   refine w12 (Au [(98,0),(99,0)] har) q9 ?_
   refine A3 q9 ?_
   exact Ab (Aa [((0,0),(0,0)),((0,1),(90,0))] []) Tryz.results101 hdp
  |succ m =>
   rw[Nat.succ_mul]at i2
   have kc:=G1 bs hb a1 (by omega)
   have ihc:=ih (a1+1) (by omega)
   obtain⟨o1,o2,o3,o4,o5⟩:=hok (a1+1)
   have h0:decide (((m+1:Nat):Int)>0)=true:=decide_eq_true (by omega)
   have hw:IntKind.i64.wrap (((m+1:Nat):Int)-1)=(m:Int):=EH (by omega) (by omega)
   have hol:vs.length+1≤1000000:=by omega
   have hol2:ks.length+1≤1000000:=by omega
   have i3':(ks++[D5 bs a1])++(Ch bs (BH bs d) m (BH bs d (a1+1)).2).1=q.1:=by rw[List.append_assoc];exact i3
   have i5':(vs++[(BH bs d (a1+1)).1])++(Ch bs (BH bs d) m (BH bs d (a1+1)).2).2.1=q.2.1:=by rw[List.append_assoc];exact i5
   have i4':(Ch bs (BH bs d) m (BH bs d (a1+1)).2).2.2=q.2.2:=i4
   generalize BH bs d (a1+1)=v at *
   generalize D5 bs a1=kn at *
   have hrow:(vs.map V.enc).map G6++[[C.osl (v.1.enc.map CellD.cs)]]=((vs++[v.1]).map V.enc).map G6:=by rw[List.map_append,List.map_append];rfl
   have hrow2:ks.map Ac++[[C.str kn]]=(ks++[kn]).map Ac:=by rw[List.map_append];rfl
   refine A3 (j2 h0 hdw) ?_
   refine A7 (A0 [((0,0),(0,0))] [((0,0),(0,0))] kc) q9 ?_
   refine A3 (j2 hol2 hdw) ?_
   refine A7 (A0 [((0,0),(0,0))] [((0,0),(0,0)),((0,1),(85,0))] ihc) q9 ?_
   refine A3 (j2 hol hw) ?_
   refine⟨(ks++[kn],vs++[v.1],m,v.2),by dsimp only;omega,⟨by dsimp only;simp;omega,by dsimp only;simp[i0],by dsimp only;omega,i3',i5',i4'⟩,?_⟩
   dsimp only
   rw[←hrow,←hrow2]
   exact As (AH.of [((0,0),(0,0)),((98,0),(80,0)),((99,0),(87,0))] []) hol
theorem Ed (bs:List Nat) (hb:Bs bs):∀d,d≤4→Z4 bs d
 | 0,_=>fun a ha=>by
  have hk:=(KD bs 0 a).2 rfl
  unfold BH
  have hb1:EI 0=5:=rfl
  exact KE bs hb a (by omega) _ true (by decide) _ (by unfold Ju;simp) hk
 |d+1,hd=>fun a ha=>by
  have ih:=Ed bs hb d (by omega)
  have hk:=(KD bs (d+1) a).1
  have hkr:Ju bs (d+1) a=Af bs a 10:=by unfold Ju;simp
  have hb1:EI (d+1)=5+3*(1+EI d):=rfl
  unfold BH
  rw[hkr]at hk ⊢
  split
  ·rename_i h6
   exact KE bs hb a (by omega) _ false (decide_eq_false (by omega)) _ (by simp) h6
  ·split
   ·exact Tb bs hb (by omega) ih a ha (by omega)
   ·exact Tc bs hb (by omega) ih a ha (by omega)
end Go.Proofs.YtllfmaflodbieaaGreatDoor
