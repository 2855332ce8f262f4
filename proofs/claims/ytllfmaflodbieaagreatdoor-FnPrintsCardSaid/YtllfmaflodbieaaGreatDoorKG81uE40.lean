/- Texts of this proof: G81 D03 D06 D08 D09 E40. -/
import Derived.Test.YtllfmaflodbieaaGreatDoorKE38uG80
import Derived.Laws.Strings3
import Derived.Lib.IfaceEq
import Derived.Lib.IfaceNeq
set_option linter.all false
set_option maxHeartbeats 8000000
namespace Go.Proofs.YtllfmaflodbieaaGreatDoor
section
open Go.RowKit
set_option maxRecDepth 10000
theorem UU (n:Int):AC Tryz.prog 160 [.c (.int .i64 n)] [] (.own (0,0)) [((0,0),.row false 5 115 ((L2 n).enc.map CellD.cs))]:=by
 have he:(L2 n).enc.map CellD.cs=[[.int .i64 3,.int .i64 n,.str ByteArray.empty,.str ByteArray.empty,.int .i64 0]]:=rfl
 refine JI Tryz.func160 Tryz.ntmps160 ?_
 refine JV q9 ?_
 exact JJ (JN [((0,0),(5,0))] []) Tryz.results160 he
theorem UV (s:ByteArray):AC Tryz.prog 126 [.c (.str s)] [] (.own (0,0)) [((0,0),.row false 5 115 ((Jp s).enc.map CellD.cs))]:=by
 have he:(Jp s).enc.map CellD.cs=[[.int .i64 4,.int .i64 0,.str s,.str ByteArray.empty,.int .i64 0]]:=rfl
 refine JI Tryz.func126 Tryz.ntmps126 ?_
 refine JV q9 ?_
 exact JJ (JN [((0,0),(5,0))] []) Tryz.results126 he
abbrev a22 (bs:List Nat) (r:V×Nat):Mem:=[((0,0),a2m bs r.2),((0,1),.row false 5 115 (r.1.enc.map CellD.cs))]
theorem LM (k:Int):(V.mk k 0 ByteArray.empty [] []).enc.map CellD.cs=[[.int .i64 k,.int .i64 0,.str ByteArray.empty,.str ByteArray.empty,.int .i64 0]]:=rfl
theorem PM (bs:List Nat) (hb:M2 bs) (a:Nat) (ha:a≤900000) (dp:Int) (b:Bool) (hdp:decide (dp≤1)=b) (k:Nat) (hk:k=if b=true∧K0 bs a 10>6 then K0 bs a 10-5 else K0 bs a 10) (h6:k≤6) :
  AC Tryz.prog 101 [.ptr (0,0) 0,.c (.int .i64 dp)] (OP bs a) (.own (0,1)) (a22 bs (OZ bs k (a+1))):=by
 have hc:=Km bs hb a 10 (by omega) (by omega)
 have hlt:=Kn bs a (n:=10) (by omega)
 generalize K0 bs a 10=r at *
 have n1:=Km bs hb (a+1) 9 (by omega) (by omega)
 have n2:=Km bs hb (a+2) 9 (by omega) (by omega)
 have n3:=Km bs hb (a+3) 40 (by omega) (by omega)
 have x3:=Kn bs (a+3) (n:=40) (by omega)
 have n4:=Nt bs hb (a+4) [(K0 bs (a+1) 9:Int),(K0 bs (a+2) 9:Int),-(K0 bs (a+3) 40:Int),1000000000000000] (by simp) (by simp) (by omega)
 have n5:=UU (N9 bs (a+4) [(K0 bs (a+1) 9:Int),(K0 bs (a+2) 9:Int),-(K0 bs (a+3) 40:Int),1000000000000000])
 have n6:=ZO bs hb (a+1) (by omega)
 have n7:=UV (P5 bs (a+1))
 have hneg:IntKind.i64.wrap (0-(K0 bs (a+3) 40:Int)) = -(K0 bs (a+3) 40:Int):=by rw[IntWalk.i64_in _ (by omega)];omega
 have hnum:∀k:Nat,3≤k→k≤5→OZ bs k (a+1)=(L2 (N9 bs (a+4) [(K0 bs (a+1) 9:Int),(K0 bs (a+2) 9:Int),-(K0 bs (a+3) 40:Int),1000000000000000]),a+5):=fun k h1 h2=>by
  unfold OZ
  rw[if_neg (by omega),if_pos h2]
 have hstr:OZ bs 6 (a+1)=(Jp (P5 bs (a+1)),a+2):=rfl
 have hmk:∀k:Nat,k≤2→OZ bs k (a+1)=(V.mk k 0 ByteArray.empty [] [],a+1):=fun k h=>by
  unfold OZ
  rw[if_pos h]
 simp only[List.map_cons,List.map_nil,Dd]at n4
 generalize K0 bs (a+1) 9=y1 at *
 generalize K0 bs (a+2) 9=y2 at *
 generalize K0 bs (a+3) 40=y3 at *
 generalize N9 bs (a+4) _=y4 at *
 generalize P5 bs (a+1)=y5 at *
 have hs7:IntKind.i64.wrap (7-5)=2:=by decide
 have hs8:IntKind.i64.wrap (8-5)=3:=by decide
 have hs9:IntKind.i64.wrap (9-5)=4:=by decide
 have h10:r=0∨r=1∨r=2∨r=3∨r=4∨r=5∨r=6∨r=7∨r=8∨r=9:=by omega
 obtain⟨z,hz⟩:∃z:Int,(r:Int)=z:=⟨_,rfl⟩
 rw[hz]at hc
 by_cases hk2:k≤2
 ·rw[hmk k hk2]
  obtain⟨kz,hkz⟩:∃kz:Int,(k:Int)=kz:=⟨_,rfl⟩
  rw[hkz]
  have hrr:(b=false∧z=kz)∨(b=true∧z=kz)∨(b=true∧z=7∧kz=2):=by
   by_cases hr6:r>6<;>cases b<;>simp[hr6]at hk ⊢<;>omega
  have hkk:kz=0∨kz=1∨kz=2:=by omega
  rcases hrr with⟨rfl,rfl⟩ | ⟨rfl,rfl⟩ | ⟨rfl,rfl,rfl⟩
  ·rcases hkk with rfl | rfl | rfl
   all_goals
    refine JI Tryz.func101 Tryz.ntmps101 ?_
    refine JV q9 ?_
    refine JO (Im [((0,0),(0,0))] [((0,0),(0,0))] hc) q9 ?_
    refine a62 hdp ?_
    exact JJ (JN [((0,0),(0,0)),((0,1),(28,0))] []) Tryz.results101 @LM
  ·rcases hkk with rfl | rfl | rfl
   all_goals
    refine JI Tryz.func101 Tryz.ntmps101 ?_
    refine JV q9 ?_
    refine JO (Im [((0,0),(0,0))] [((0,0),(0,0))] hc) q9 ?_
    refine a62 hdp ?_
    exact JJ (JN [((0,0),(0,0)),((0,1),(28,0))] []) Tryz.results101 @LM
  ·refine JI Tryz.func101 Tryz.ntmps101 ?_
   refine JV q9 ?_
   refine JO (Im [((0,0),(0,0))] [((0,0),(0,0))] hc) q9 ?_
   refine a62 (j2 hdp hs7) ?_
   exact JJ (JN [((0,0),(0,0)),((0,1),(28,0))] []) Tryz.results101 @LM
 ·by_cases hk5:k≤5
  ·rw[hnum k (by omega) hk5]
   have hrr:(b=false∧(z=3∨z=4∨z=5))∨(b=true∧(z=3∨z=4∨z=5∨z=8∨z=9)):=by
    by_cases hr6:r>6<;>cases b<;>simp[hr6]at hk ⊢<;>omega
   rcases hrr with⟨rfl,hr⟩ | ⟨rfl,hr⟩
   ·rcases hr with rfl | rfl | rfl
    all_goals
     refine JI Tryz.func101 Tryz.ntmps101 ?_
     refine JV q9 ?_
     refine JO (Im [((0,0),(0,0))] [((0,0),(0,0))] hc) q9 ?_
     refine a62 hdp ?_
     refine JO (Im [((0,0),(0,0))] [((0,0),(0,0))] n1) q9 ?_
     refine JV q9 ?_
     refine JO (Im [((0,0),(0,0))] [((0,0),(0,0))] n2) q9 ?_
     refine JV q9 ?_
     refine JO (Im [((0,0),(0,0))] [((0,0),(0,0))] n3) q9 ?_
     refine JV hneg ?_
     refine KC (K6 [(41,0)] [((0,0),(0,0))] [((0,0),(0,0))] n4) q9 ?_
     refine JV q9 ?_
     refine w12 (Kj [] n5) q9 ?_
     refine JV q9 ?_
     exact JJ (JN [((0,0),(0,0)),((0,1),(43,0))] []) Tryz.results101 hdp
   ·rcases hr with rfl | rfl | rfl | rfl | rfl
    all_goals
     refine JI Tryz.func101 Tryz.ntmps101 ?_
     refine JV q9 ?_
     refine JO (Im [((0,0),(0,0))] [((0,0),(0,0))] hc) q9 ?_
     refine a62 (j3 hdp hs8 hs9) ?_
     refine JO (Im [((0,0),(0,0))] [((0,0),(0,0))] n1) q9 ?_
     refine JV q9 ?_
     refine JO (Im [((0,0),(0,0))] [((0,0),(0,0))] n2) q9 ?_
     refine JV q9 ?_
     refine JO (Im [((0,0),(0,0))] [((0,0),(0,0))] n3) q9 ?_
     refine JV hneg ?_
     refine KC (K6 [(41,0)] [((0,0),(0,0))] [((0,0),(0,0))] n4) q9 ?_
     refine JV q9 ?_
     refine w12 (Kj [] n5) q9 ?_
     refine JV q9 ?_
     exact JJ (JN [((0,0),(0,0)),((0,1),(43,0))] []) Tryz.results101 hdp
  ·have hk6:k=6:=by omega
   rw[hk6,hstr]
   have hr:z=6:=by by_cases hr6:r>6<;>cases b<;>simp[hr6]at hk<;>omega
   subst hr
   cases b with
   |false =>
    refine JI Tryz.func101 Tryz.ntmps101 ?_
    refine JV q9 ?_
    refine JO (Im [((0,0),(0,0))] [((0,0),(0,0))] hc) q9 ?_
    refine a62 hdp ?_
    refine JO (Im [((0,0),(0,0))] [((0,0),(0,0))] n6) q9 ?_
    refine JV q9 ?_
    refine w12 (Kj [] n7) q9 ?_
    refine JV q9 ?_
    exact JJ (JN [((0,0),(0,0)),((0,1),(48,0))] []) Tryz.results101 hdp
   |true =>
    refine JI Tryz.func101 Tryz.ntmps101 ?_
    refine JV q9 ?_
    refine JO (Im [((0,0),(0,0))] [((0,0),(0,0))] hc) q9 ?_
    refine a62 hdp ?_
    refine JO (Im [((0,0),(0,0))] [((0,0),(0,0))] n6) q9 ?_
    refine JV q9 ?_
    refine w12 (Kj [] n7) q9 ?_
    refine JV q9 ?_
    exact JJ (JN [((0,0),(0,0)),((0,1),(48,0))] []) Tryz.results101 hdp
set_option maxRecDepth 10000
theorem Ut {a b:Nat}(h:a+b<9000000000000000000):IntKind.i64.wrap ((a:Int)+(b:Int))=((a+b:Nat):Int):=by
 rw[S5 (by omega) (by omega)];omega
set_option maxRecDepth 10000
theorem Vz {s t:ByteArray}{a c:Nat}:∀k,(∀j,j<k→bAt s (a+j)=bAt t (c+j))→L7 s a k=L7 t c k
 | 0,_=>rfl
 |k+1,h=>by
  simp only[L7]
  rw[Vz k fun j hj=>h j (by omega),h k (by omega)]
theorem Ta (s:ByteArray) (i:Nat) (hi:i<s.size) (hd:G0 (bAt s (CA s i))=true):∃(m:Bool) (u:ByteArray),0<(s.extract i (Ee s i)).size∧(s.extract i (Ee s i)).size≤s.size∧(bAt (s.extract i (Ee s i)) 0==45)=m∧(if m then (s.extract i (Ee s i)).extract 1 (s.extract i (Ee s i)).size else s.extract i (Ee s i))=u∧0<u.size∧(∀j,j<u.size→G0 (bAt u j)=true) ∧
  IX s i=decide (16<u.size∨1000000000000000<L7 u 0 u.size)∧Ik s i=(if m then -((L7 u 0 u.size:Nat):Int) else ((L7 u 0 u.size:Nat):Int)):=by
 obtain⟨h1,h2,h3⟩:=Ro hi hd
 obtain⟨g1,g2,g3⟩:=Rn hi
 have hts:=LI (s:=s) (a:=i) h2
 have hat:∀k,i+k<Ee s i→bAt (s.extract i (Ee s i)) k=bAt s (i+k):=fun k hk=>a0q h2 hk
 have hA:(bAt s i=45∧CA s i=i+1)∨(bAt s i≠45∧CA s i=i):=by
  unfold CA
  by_cases h:bAt s i=45
  ·exact .inl ⟨h,if_pos h⟩
  ·exact .inr ⟨h,if_neg h⟩
 obtain⟨m,hm⟩:∃m,(bAt (s.extract i (Ee s i)) 0==45)=m:=⟨_,rfl⟩
 obtain⟨u,hu⟩:∃u,(if m then (s.extract i (Ee s i)).extract 1 (s.extract i (Ee s i)).size else s.extract i (Ee s i))=u:=⟨_,rfl⟩
 have hm0:=hm
 rw[hat 0 (by omega)]at hm0
 rw[Nat.add_zero]at hm0
 have hus:u.size=Ee s i-CA s i∧∀j,j<u.size→bAt u j=bAt s (CA s i+j):=by
  rcases hA with⟨h45,hA⟩ | ⟨h45,hA⟩
  ·have hmt:m=true:=by rw[←hm0];simpa using h45
   subst hmt
   simp only[if_true]at hu
   have hsz:u.size=Ee s i-CA s i:=by rw[←hu,LI (Nat.le_refl _),hts];omega
   refine⟨hsz,fun j hj=>?_⟩
   rw[←hu,a0q (Nat.le_refl _) (by omega),hat (1+j) (by omega)]
   congr 1
   omega
  ·have hmt:m=false:=by rw[←hm0];simpa using h45
   subst hmt
   simp only[Bool.false_eq_true,if_false]at hu
   subst hu
   refine⟨by rw[hts,hA],fun j hj=>?_⟩
   rw[hat j (by omega),hA]
 obtain⟨hus,hub⟩:=hus
 have hdec:L7 u 0 u.size=L7 s (CA s i) (Ee s i-CA s i):=by
  rw[hus]
  exact Vz _ fun j hj=>by rw[Nat.zero_add];exact hub j (by omega)
 refine⟨m,u,by omega,by omega,hm,hu,by omega,fun j hj=>by rw[hub j hj];exact h3 _ (by omega) (by omega),?_,?_⟩
 ·unfold IX
  rw[hdec,hus]
  simp
 ·unfold Ik
  rw[hdec]
  have e2:(m=true)=(bAt s i=45):=by rw[←hm0];simp
  simp only[e2]
set_option maxRecDepth 10000
theorem W8 {s:ByteArray}{j:Nat}(h:s.size≤j):Ji (bAt s j) = -1:=by rw[Lw h];rfl
set_option maxRecDepth 10000
theorem a4n {s:ByteArray}{i:Nat}(h:i<s.size):s.extract i (i+1)=Je (bAt s i):=by
 obtain⟨b,h1,h2⟩:=LO h
 rw[h2]
 unfold Je
 have h3:=h1
 rw[getElem?_pos s i h]at h3
 cases h3
 apply ByteArray.ext
 apply Array.toList_inj.1
 rw[show (⟨#[UInt8.ofNat s[i].toNat]⟩:ByteArray).data = #[UInt8.ofNat s[i].toNat] from rfl,UInt8.ofNat_toNat]
 show (s.extract i (i+1)).data.toList=[s[i]]
 rw[L1,List.take_succ_eq_append_getElem (by simpa using h),List.drop_append_of_le_length (by simp;omega),List.drop_eq_nil_of_le (by rw[List.length_take];exact Nat.min_le_left _ _)]
 rfl
end
section
open Go.RowKit
section
variable {P:Program} {o:Oper} {σ:ASt}
theorem WX {t:TypeId}{x:Operand}{k:IntKind}{n:Int}(ho:o.op=.makeInterface t x) (hx:σ.ev x=.c (.int k n)) (hc:P.concrete t=true):A3 P o σ ⟨[],[],.c (.raw (.iface t (.int k n)))⟩:=by
 refine A3.pure fun Γ σ' a w ow κ hag hr=>?_
 have e1:=AR.int (hag.ev hr (by rw[ho];simp[Op.operands]) hx)
 refine⟨.iface t (.int k n),?_,⟨rfl,rfl,rfl⟩⟩
 unfold execOp
 rw[ho]
 simp[e1,run_makeInterface _ _ _ hc]
theorem Ya {op:BinOp}{t t':TypeId}{y:Operand}{q:Value}{tx:TypeId}{u:Value}{x:AV}(ho:o.op=.binOp op t y (.const q) t') (hy:σ.ev y=.c (.raw (.iface tx u))) (hz:σ.ev (.const q)=.c (.raw .nilIface))
  (ht:P.underlying t=some (.interface (P.methodsAt t))) (he:C5 op false=some x):A3 P o σ ⟨[],[],x⟩:=by
 refine A3.pure fun Γ σ' a w ow κ hag hr=>?_
 have e1:=(hag.ev hr (by rw[ho];simp[Op.operands]) hy).1
 have e2:=(hag.ev hr (by rw[ho];simp[Op.operands]) hz).1
 refine C1 (b:=false) ho he e1 e2 (fun op=>?_) (run_eql_held_nil w t tx u ht) (run_neq_held_nil w t tx u ht)
 unfold eqGuard
 cases op<;>simp
theorem p8 {op:BinOp}{t t':TypeId}{y z:Operand}{tx:TypeId}{k q:IntKind}{m n:Int}{ms:Array (String×TypeId)}{x:AV}{b:Bool}(ho:o.op=.binOp op t y z t') (hy:σ.ev y=.c (.raw (.iface tx (.int k m)))) (hz:σ.ev z=.c (.raw (.iface tx (.int k n))))
  (ht:P.underlying t=some (.interface ms)) (hc:(P.info? tx).map (·.comparable)=some true) (hu:P.underlying tx=some (.int q)) (hg:∀op w,(eqGuard op t y z (.iface tx (.int k m)) (.iface tx (.int k n))).run P w=.ok () w) (hb:(m==n)=b) (he:C5 op b=some x):A3 P o σ ⟨[],[],x⟩:=by
 refine A3.pure fun Γ σ' a w ow κ hag hr=>?_
 have e1:=(hag.ev hr (by rw[ho];simp[Op.operands]) hy).1
 have e2:=(hag.ev hr (by rw[ho];simp[Op.operands]) hz).1
 subst hb
 exact C1 ho he e1 e2 (fun op=>hg op w) (Lib.run_eql_iface_int w m n ht hc hu) (Lib.run_neq_iface_int w m n ht hc hu)
theorem a2g {op:BinOp}{t t':TypeId}{y z:Operand}{k k':IntKind}{m n:Int}{c:C}{u:Value}(ho:o.op=.binOp op t y z t') (hy:σ.ev y=.c (.int k m)) (hz:σ.ev z=.c (.int k' n))
  (hg:∀w,(eqGuard op t y z (.int k m) (.int k' n)).run P w=.ok () w) (hq:∀w,(binOp op t (.int k m) (.int k' n)).run P w=.ok u w) (hc:∀w S,CR w S c u []):A3 P o σ ⟨[],[],.c c⟩:=by
 refine A3.pure fun Γ σ' a w ow κ hag hr=>?_
 have e1:=AR.int (hag.ev hr (by rw[ho];simp[Op.operands]) hy)
 have e2:=AR.int (hag.ev hr (by rw[ho];simp[Op.operands]) hz)
 refine⟨u,?_,hc _ _⟩
 unfold execOp
 rw[ho]
 simp only[e1,e2,Sem.run_bind,hg,hq,Result.andThen_ok,Sem.run_pure]
theorem Vt (s:ByteArray) (cap j:Nat) (h:j<s.size):(bytesRow s cap)[j]? = some (.int .u8 ((s.data.toList[j]'(by simpa using h)).toNat:Int)):=by
 have h1:j<(s.data.map fun b=>Value.int .u8 b.toNat).size:=by simpa using h
 unfold bytesRow
 rw[Array.getElem?_append_left h1]
 simp
 exact⟨_,Array.getElem?_eq_getElem (by simpa using h),rfl⟩
theorem m9 {src dst e:TypeId}{x:Operand}{s:ByteArray}(ho:o.op=.convert src dst x) (hx:σ.ev x=.c (.str s)) (hs:P.underlying src=some .string) (hd:P.underlying dst=some (.slice e)) (he:P.underlying e=some (.int .u8)) :
  A3 P o σ ⟨[],[],.c (.sl (Kb s.data.toList))⟩:=by
 intro Γ σ' a w ow κ hag hr
 have e1:=AR.str (hag.ev hr (by rw[ho];simp[Op.operands]) hx)
 have hrun:=run_bytes_of_string (P:=P) w src dst e s hs hd he
 generalize hcp:grownCap w s.size 0 e=cap at hrun
 obtain⟨w',hw'⟩:∃w',w.drew.alloc (.cells (bytesRow s cap) e ((bytesRow s cap).size,(bytesRow s cap).size+1))=w':=⟨_,rfl⟩
 rw[hw']at hrun
 have hheap:w'.heap=w.heap.push (.cells (bytesRow s cap) e ((bytesRow s cap).size,(bytesRow s cap).size+1)):=by rw[←hw'];rfl
 have hold:∀b,b<w.heap.size→w'.heap[b]? = w.heap[b]?:=fun b hb=>by rw[hheap,Array.getElem?_push_lt hb,Array.getElem?_eq_getElem hb]
 have hnew:w'.heap[w.heap.size]? = some (.cells (bytesRow s cap) e ((bytesRow s cap).size,(bytesRow s cap).size+1)):=by rw[hheap];simp
 have hno:ow w.heap.size=none:=by
  cases h:ow w.heap.size with
  |none=>rfl
  |some i=>have:=(hr.own _ _ h).1;omega
 have hsz:w'.heap.size=w.heap.size+1:=by rw[hheap];simp
 have st:Step σ'.mem [] w ow κ w' ow κ:=⟨by rw[←hw'];rfl,by rw[←hw'];rfl,by rw[←hw'];rfl,by omega,fun b hb _=>⟨hold b hb,rfl⟩,fun b i hb=>.inl ⟨by simp,hb⟩,fun _ _ _=>rfl,fun i hi=>by simp at hi⟩
 have hcell:∀j (hj:j<s.data.toList.length),w'.cell? ⟨w.heap.size,j,none⟩=some (.int .u8 ((s.data.toList[j]).toNat:Int)):=fun j hj=>by
  have h1:=Vt s cap j (by simpa using hj)
  unfold World.cell?
  simp only[hnew]
  simpa using h1
 have hres:CR w' (Γ.sees ow) (.sl (Kb s.data.toList)) (.slice (some ⟨w.heap.size,0,none⟩) s.size cap) []:=by
  have hlen:(Kb s.data.toList).length=s.size:=by simp[Kb]
  refine⟨1,some ⟨w.heap.size,0,none⟩,cap,s.data.toList.map fun b=>[.int .u8 (b.toNat:Int)],by rw[hlen],by rw[hlen,←hcp];exact grownCap_ge w _ _ _,trivial,?_,?_,rfl⟩
  ·refine⟨fun x hx=>?_,fun hn=>⟨w.heap.size,0,rfl,⟨hno,.inr (.inl hr.size)⟩,by omega,fun i x hx j u hu=>?_⟩⟩
   ·obtain⟨b,_,rfl⟩:=List.mem_map.1 hx
    rfl
   ·rw[List.getElem?_map]at hx
    cases hq:s.data.toList[i]? with
    |none=>rw[hq]at hx;cases hx
    |some b =>
     rw[hq]at hx
     simp only[Option.map_some,Option.some.injEq]at hx
     subst hx
     obtain⟨hi,hb⟩:=List.getElem?_eq_some_iff.1 hq
     cases j with
     |zero =>
      simp only[List.getElem?_cons_zero,Option.some.injEq]at hu
      subst hu
      have:=hcell i hi
      rw[hb]at this
      simpa using this
     |succ j=>simp at hu
  ·have:∀l:List UInt8,A0 w' (Γ.sees ow) (Kb l) (l.map fun b=>[Value.int .u8 (b.toNat:Int)]) []:=by
    intro l
    induction l with
    |nil=>simp[Kb,A0]
    |cons b l ih =>
     simp only[Kb,List.map_cons,A0]
     exact⟨_,_,[],[],rfl,rfl,⟨_,_,[],[],rfl,rfl,⟨rfl,rfl⟩,rfl,rfl⟩,ih⟩
   exact this _
 refine⟨_,w',ow,κ,.inl ?_,hr.step (E:=⟨[],[],.c (.sl (Kb s.data.toList))⟩) st hres (fun i hi=>by simp at hi) o.dst⟩
 unfold execOp
 rw[ho]
 simp[e1,hrun]
theorem n9 {src dst e t:TypeId}{x:Operand}{i:Id}(ho:o.op=.convert src dst x) (hx:σ.ev x=.own i) (hs:P.underlying src=some (.slice e)) (he:P.underlying e=some (.int .u8)) (hd:P.underlying dst=some .string)
  (hi:σ.mem.get i=some (.row false 1 t [])):A3 P o σ ⟨[i],[],.c (.str ByteArray.empty)⟩:=by
 refine A3.pure fun Γ σ' a w ow κ hag hr=>?_
 have hi':σ'.mem.get i=some (.row false 1 t []):=by rw[hag.2.1 i (by simp),hi]
 obtain⟨_,o1,k1,k2⟩:=hag.ev hr (by rw[ho];simp[Op.operands]) hx
 rw[hi']at k1
 cases k1
 have e1:=k2 (by simp)
 obtain⟨vrows,bs,h1,h2,h3,h4,h5,h6⟩:=hr.objs i _ hi'
 obtain⟨_,⟨h7,h8⟩ | ⟨b,cap,cs,h7,_⟩⟩:=h4
 ·refine⟨.string ByteArray.empty,?_,⟨rfl,rfl⟩⟩
  have hrun:=run_convert_bytes_nil (P:=P) (w:=w) src e hs he 0 0 dst hd
  unfold execOp
  rw[ho]
  simp[e1,h7,hrun]
 ·refine⟨.string ByteArray.empty,?_,⟨rfl,rfl⟩⟩
  have hrun:(convert src dst (.slice (some ⟨b,0,none⟩) 0 cap)).run P w=.ok (.string ByteArray.empty) w:=run_convert_bytes_back (P:=P) w src dst e ⟨b,0,none⟩ cap [] hs he hd (fun j hj=>by simp at hj)
  have h7':κ i=.slice (some ⟨b,0,none⟩) 0 cap:=h7
  unfold execOp
  rw[ho]
  simp[e1,h7',hrun]
end
section
variable {P:Program} {σ τ:ASt} {ops:Array Oper} {r:List Oper} {fs:List AEff} {K:ASt→List AEff→Prop} {E:AEff} {d:Option Tmp} {ty':TypeId} {pos:String} {af:Array Edge} {gd:Option (Nat×Bool)}
theorem LS {t:TypeId}{x:Operand}{k:IntKind}{n:Int}(hc:P.concrete t=true) (hg:AB ops σ ⟨d,.makeInterface t x,ty',pos,af,gd⟩=some true) (hx:σ.ev x=.c (.int k n))
  (hE:(⟨[],[],.c (.raw (.iface t (.int k n)))⟩:AEff)=E) (hτ:σ.upd d E=τ) (h:A4 P ops r τ (fs++[E]) K):A4 P ops (⟨d,.makeInterface t x,ty',pos,af,gd⟩::r) σ fs K:=by
 subst hE
 exact Ku hg (WX rfl hx hc).sound hτ h
theorem OF {op:BinOp}{t t':TypeId}{y:Operand}{q:Value}{tx:TypeId}{u:Value}{x:AV}(ht:P.underlying t=some (.interface (P.methodsAt t))) (hg:AB ops σ ⟨d,.binOp op t y (.const q) t',ty',pos,af,gd⟩=some true) (hy:σ.ev y=.c (.raw (.iface tx u))) (hz:σ.ev (.const q)=.c (.raw .nilIface)) (he:C5 op false=some x)
  (hE:(⟨[],[],x⟩:AEff)=E) (hτ:σ.upd d E=τ) (h:A4 P ops r τ (fs++[E]) K):A4 P ops (⟨d,.binOp op t y (.const q) t',ty',pos,af,gd⟩::r) σ fs K:=by
 subst hE
 exact Ku hg (Ya rfl hy hz ht he).sound hτ h
theorem Sy {op:BinOp}{t t':TypeId}{y z:Operand}{tx:TypeId}{k q:IntKind}{m n:Int}{ms:Array (String×TypeId)}{x:AV}{b:Bool}(ht:P.underlying t=some (.interface ms)) (hc:(P.info? tx).map (·.comparable)=some true) (hu:P.underlying tx=some (.int q))
  (hg:AB ops σ ⟨d,.binOp op t y z t',ty',pos,af,gd⟩=some true) (hy:σ.ev y=.c (.raw (.iface tx (.int k m)))) (hz:σ.ev z=.c (.raw (.iface tx (.int k n)))) (hgu:∀op w,(eqGuard op t y z (.iface tx (.int k m)) (.iface tx (.int k n))).run P w=.ok () w) (hb:(m==n)=b) (he:C5 op b=some x)
  (hE:(⟨[],[],x⟩:AEff)=E) (hτ:σ.upd d E=τ) (h:A4 P ops r τ (fs++[E]) K):A4 P ops (⟨d,.binOp op t y z t',ty',pos,af,gd⟩::r) σ fs K:=by
 subst hE
 exact Ku hg (p8 rfl hy hz ht hc hu hgu hb he).sound hτ h
theorem Z2 {op:BinOp}{t t':TypeId}{y z:Operand}{k k':IntKind}{m n:Int}{c:C}{u:Value}(hq:∀w,(binOp op t (.int k m) (.int k' n)).run P w=.ok u w) (hc:∀w S,CR w S c u []) (hgu:∀w,(eqGuard op t y z (.int k m) (.int k' n)).run P w=.ok () w)
  (hg:AB ops σ ⟨d,.binOp op t y z t',ty',pos,af,gd⟩=some true) (hy:σ.ev y=.c (.int k m)) (hz:σ.ev z=.c (.int k' n))
  (hE:(⟨[],[],.c c⟩:AEff)=E) (hτ:σ.upd d E=τ) (h:A4 P ops r τ (fs++[E]) K):A4 P ops (⟨d,.binOp op t y z t',ty',pos,af,gd⟩::r) σ fs K:=by
 subst hE
 exact Ku hg (a2g rfl hy hz hgu hq hc).sound hτ h
theorem a1p {src dst e:TypeId}{x:Operand}{s:ByteArray}{rows:List (List C)}(hy:Kb s.data.toList=rows) (hs:P.underlying src=some .string) (hd:P.underlying dst=some (.slice e)) (he:P.underlying e=some (.int .u8))
  (hg:AB ops σ ⟨d,.convert src dst x,ty',pos,af,gd⟩=some true) (hx:σ.ev x=.c (.str s))
  (hE:(⟨[],[],.c (.sl rows)⟩:AEff)=E) (hτ:σ.upd d E=τ) (h:A4 P ops r τ (fs++[E]) K):A4 P ops (⟨d,.convert src dst x,ty',pos,af,gd⟩::r) σ fs K:=by
 subst hE hy
 exact Ku hg (m9 rfl hx hs hd he).sound hτ h
theorem PR {src dst e t:TypeId}{x:Operand}{i:Id}{y:ByteArray}(l:List UInt8) (hy:(⟨l.toArray⟩:ByteArray)=y) (hs:P.underlying src=some (.slice e)) (he:P.underlying e=some (.int .u8)) (hd:P.underlying dst=some .string)
  (hg:AB ops σ ⟨d,.convert src dst x,ty',pos,af,gd⟩=some true) (hx:σ.ev x=.own i) (hi:σ.mem.get i=some (.row false 1 t (Kb l)))
  (hE:(⟨[i],[],.c (.str y)⟩:AEff)=E) (hτ:σ.upd d E=τ) (h:A4 P ops r τ (fs++[E]) K):A4 P ops (⟨d,.convert src dst x,ty',pos,af,gd⟩::r) σ fs K:=by
 subst hE hy
 cases l with
 |nil=>exact Ku hg (n9 rfl hx hs he hd hi).sound hτ h
 |cons b l=>exact Ku hg (WW (b::l) (by simp) rfl hx hs he hd hi).sound hτ h
end
theorem YC (σ:ASt):σ.ev (.const .nilIface)=.c (.raw .nilIface):=rfl
attribute [go_sem] YC
end
end Go.Proofs.YtllfmaflodbieaaGreatDoor
