/- Texts of this proof: E40 D13. -/
import Derived.Test.YtllfmaflodbieaaGreatDoorKM56uD34
import Derived.Lib.IfaceEq
import Derived.Lib.IfaceNeq
set_option linter.all false
set_option maxHeartbeats 8000000
namespace Go.Proofs.YtllfmaflodbieaaGreatDoor
section
open Go.RowKit
section
variable {P:Program} {o:Oper} {σ:ASt}
theorem TX {t:TypeId}{x:Operand}{k:IntKind}{n:Int}(ho:o.op=.makeInterface t x) (hx:σ.ev x=.c (.int k n)) (hc:P.concrete t=true):An P o σ ⟨[],[],.c (.raw (.iface t (.int k n)))⟩:=by
 refine An.pure fun Γ σ' a w ow κ hag hr=>?_
 have e1:=AR.int (hag.ev hr (by rw[ho];simp[Op.operands]) hx)
 refine⟨.iface t (.int k n),?_,⟨rfl,rfl,rfl⟩⟩
 unfold execOp
 rw[ho]
 simp[e1,run_makeInterface _ _ _ hc]
theorem W2 {op:BinOp}{t t':TypeId}{y:Operand}{q:Value}{tx:TypeId}{u:Value}{x:AV}(ho:o.op=.binOp op t y (.const q) t') (hy:σ.ev y=.c (.raw (.iface tx u))) (hz:σ.ev (.const q)=.c (.raw .nilIface))
  (ht:P.underlying t=some (.interface (P.methodsAt t))) (he:EK op false=some x):An P o σ ⟨[],[],x⟩:=by
 refine An.pure fun Γ σ' a w ow κ hag hr=>?_
 have e1:=(hag.ev hr (by rw[ho];simp[Op.operands]) hy).1
 have e2:=(hag.ev hr (by rw[ho];simp[Op.operands]) hz).1
 refine F7 (b:=false) ho he e1 e2 (fun op=>?_) (run_eql_held_nil w t tx u ht) (run_neq_held_nil w t tx u ht)
 unfold eqGuard
 cases op<;>simp
theorem YF {op:BinOp}{t t':TypeId}{y z:Operand}{tx:TypeId}{k q:IntKind}{m n:Int}{ms:Array (String×TypeId)}{x:AV}{b:Bool}(ho:o.op=.binOp op t y z t') (hy:σ.ev y=.c (.raw (.iface tx (.int k m)))) (hz:σ.ev z=.c (.raw (.iface tx (.int k n))))
  (ht:P.underlying t=some (.interface ms)) (hc:(P.info? tx).map (·.comparable)=some true) (hu:P.underlying tx=some (.int q)) (hg:∀op w,(eqGuard op t y z (.iface tx (.int k m)) (.iface tx (.int k n))).run P w=.ok () w) (hb:(m==n)=b) (he:EK op b=some x):An P o σ ⟨[],[],x⟩:=by
 refine An.pure fun Γ σ' a w ow κ hag hr=>?_
 have e1:=(hag.ev hr (by rw[ho];simp[Op.operands]) hy).1
 have e2:=(hag.ev hr (by rw[ho];simp[Op.operands]) hz).1
 subst hb
 exact F7 ho he e1 e2 (fun op=>hg op w) (Lib.run_eql_iface_int w m n ht hc hu) (Lib.run_neq_iface_int w m n ht hc hu)
theorem a6k {op:BinOp}{t t':TypeId}{y z:Operand}{k k':IntKind}{m n:Int}{c:C}{u:Value}(ho:o.op=.binOp op t y z t') (hy:σ.ev y=.c (.int k m)) (hz:σ.ev z=.c (.int k' n))
  (hg:∀w,(eqGuard op t y z (.int k m) (.int k' n)).run P w=.ok () w) (hq:∀w,(binOp op t (.int k m) (.int k' n)).run P w=.ok u w) (hc:∀w S,CR w S c u []):An P o σ ⟨[],[],.c c⟩:=by
 refine An.pure fun Γ σ' a w ow κ hag hr=>?_
 have e1:=AR.int (hag.ev hr (by rw[ho];simp[Op.operands]) hy)
 have e2:=AR.int (hag.ev hr (by rw[ho];simp[Op.operands]) hz)
 refine⟨u,?_,hc _ _⟩
 unfold execOp
 rw[ho]
 simp only[e1,e2,Sem.run_bind,hg,hq,Result.andThen_ok,Sem.run_pure]
theorem Sb (s:ByteArray) (cap j:Nat) (h:j<s.size):(bytesRow s cap)[j]? = some (.int .u8 ((s.data.toList[j]'(by simpa using h)).toNat:Int)):=by
 have h1:j<(s.data.map fun b=>Value.int .u8 b.toNat).size:=by simpa using h
 unfold bytesRow
 rw[Array.getElem?_append_left h1]
 simp
 exact⟨_,Array.getElem?_eq_getElem (by simpa using h),rfl⟩
theorem Ys {src dst e:TypeId}{x:Operand}{s:ByteArray}(ho:o.op=.convert src dst x) (hx:σ.ev x=.c (.str s)) (hs:P.underlying src=some .string) (hd:P.underlying dst=some (.slice e)) (he:P.underlying e=some (.int .u8)) :
  An P o σ ⟨[],[],.c (.sl (Bj s.data.toList))⟩:=by
 intro Γ σ' a w ow κ hag hr
 have e1:=AR.str (hag.ev hr (by rw[ho];simp[Op.operands]) hx)
 have hrun:=run_bytes_of_string (P:=P) w src dst e s hs hd he
 generalize hcp:grownCap w s.size 0 e=cap at hrun
 obtain⟨w',hw'⟩:∃w',w.drew.alloc (.cells (bytesRow s cap) e ((bytesRow s cap).size,(bytesRow s cap).size+1))=w':=⟨_,rfl⟩
 rw[hw']at hrun
 have hheap:w'.heap=w.heap.push (.cells (bytesRow s cap) e ((bytesRow s cap).size,(bytesRow s cap).size+1)):=by rw[←hw'];rfl
 have hold:∀b,b<w.heap.size→w'.heap[b]? = w.heap[b]?:=fun b hb=>by rw[hheap,Array.getElem?_push_lt hb,Array.getElem?_eq_getElem hb]
 have hnew:w'.heap[w.heap.size]? = some (.cells (bytesRow s cap) e ((bytesRow s cap).size,(bytesRow s cap).size+1)):=by rw[hheap];simp
 have hno:ow w.heap.size=none:=by
  cases h:ow w.heap.size with
  |none=>rfl
  |some i=>have:=(hr.own _ _ h).1;omega
 have hsz:w'.heap.size=w.heap.size+1:=by rw[hheap];simp
 have st:Step σ'.mem [] w ow κ w' ow κ:=⟨by rw[←hw'];rfl,by rw[←hw'];rfl,by rw[←hw'];rfl,by omega,fun b hb _=>⟨hold b hb,rfl⟩,fun b i hb=>.inl ⟨by simp,hb⟩,fun _ _ _=>rfl,fun i hi=>by simp at hi⟩
 have hcell:∀j (hj:j<s.data.toList.length),w'.cell? ⟨w.heap.size,j,none⟩=some (.int .u8 ((s.data.toList[j]).toNat:Int)):=fun j hj=>by
  have h1:=Sb s cap j (by simpa using hj)
  unfold World.cell?
  simp only[hnew]
  simpa using h1
 have hres:CR w' (Γ.sees ow) (.sl (Bj s.data.toList)) (.slice (some ⟨w.heap.size,0,none⟩) s.size cap) []:=by
  have hlen:(Bj s.data.toList).length=s.size:=by simp[Bj]
  refine⟨1,some ⟨w.heap.size,0,none⟩,cap,s.data.toList.map fun b=>[.int .u8 (b.toNat:Int)],by rw[hlen],by rw[hlen,←hcp];exact grownCap_ge w _ _ _,trivial,?_,?_,rfl⟩
  ·refine⟨fun x hx=>?_,fun hn=>⟨w.heap.size,0,rfl,⟨hno,.inr (.inl hr.size)⟩,by omega,fun i x hx j u hu=>?_⟩⟩
   ·obtain⟨b,_,rfl⟩:=List.mem_map.1 hx
    rfl
   ·rw[List.getElem?_map]at hx
    cases hq:s.data.toList[i]? with
    |none=>rw[hq]at hx;cases hx
    |some b =>
     rw[hq]at hx
     simp only[Option.map_some,Option.some.injEq]at hx
     subst hx
     obtain⟨hi,hb⟩:=List.getElem?_eq_some_iff.1 hq
     cases j with
     |zero =>
      simp only[List.getElem?_cons_zero,Option.some.injEq]at hu
      subst hu
      have:=hcell i hi
      rw[hb]at this
      simpa using this
     |succ j=>simp at hu
  ·have:∀l:List UInt8,Aj w' (Γ.sees ow) (Bj l) (l.map fun b=>[Value.int .u8 (b.toNat:Int)]) []:=by
    intro l
    induction l with
    |nil=>simp[Bj,Aj]
    |cons b l ih =>
     simp only[Bj,List.map_cons,Aj]
     exact⟨_,_,[],[],rfl,rfl,⟨_,_,[],[],rfl,rfl,⟨rfl,rfl⟩,rfl,rfl⟩,ih⟩
   exact this _
 refine⟨_,w',ow,κ,.inl ?_,hr.step (E:=⟨[],[],.c (.sl (Bj s.data.toList))⟩) st hres (fun i hi=>by simp at hi) o.dst⟩
 unfold execOp
 rw[ho]
 simp[e1,hrun]
theorem Yu {src dst e t:TypeId}{x:Operand}{i:Id}(ho:o.op=.convert src dst x) (hx:σ.ev x=.own i) (hs:P.underlying src=some (.slice e)) (he:P.underlying e=some (.int .u8)) (hd:P.underlying dst=some .string)
  (hi:σ.mem.get i=some (.row false 1 t [])):An P o σ ⟨[i],[],.c (.str ByteArray.empty)⟩:=by
 refine An.pure fun Γ σ' a w ow κ hag hr=>?_
 have hi':σ'.mem.get i=some (.row false 1 t []):=by rw[hag.2.1 i (by simp),hi]
 obtain⟨_,o1,k1,k2⟩:=hag.ev hr (by rw[ho];simp[Op.operands]) hx
 rw[hi']at k1
 cases k1
 have e1:=k2 (by simp)
 obtain⟨vrows,bs,h1,h2,h3,h4,h5,h6⟩:=hr.objs i _ hi'
 obtain⟨_,⟨h7,h8⟩ | ⟨b,cap,cs,h7,_⟩⟩:=h4
 ·refine⟨.string ByteArray.empty,?_,⟨rfl,rfl⟩⟩
  have hrun:=run_convert_bytes_nil (P:=P) (w:=w) src e hs he 0 0 dst hd
  unfold execOp
  rw[ho]
  simp[e1,h7,hrun]
 ·refine⟨.string ByteArray.empty,?_,⟨rfl,rfl⟩⟩
  have hrun:(convert src dst (.slice (some ⟨b,0,none⟩) 0 cap)).run P w=.ok (.string ByteArray.empty) w:=run_convert_bytes_back (P:=P) w src dst e ⟨b,0,none⟩ cap [] hs he hd (fun j hj=>by simp at hj)
  have h7':κ i=.slice (some ⟨b,0,none⟩) 0 cap:=h7
  unfold execOp
  rw[ho]
  simp[e1,h7',hrun]
end
section
variable {P:Program} {σ τ:ASt} {ops:Array Oper} {r:List Oper} {fs:List AEff} {K:ASt→List AEff→Prop} {E:AEff} {d:Option Tmp} {ty':TypeId} {pos:String} {af:Array Edge} {gd:Option (Nat×Bool)}
theorem Ef {t:TypeId}{x:Operand}{k:IntKind}{n:Int}(hc:P.concrete t=true) (hg:BM ops σ ⟨d,.makeInterface t x,ty',pos,af,gd⟩=some true) (hx:σ.ev x=.c (.int k n))
  (hE:(⟨[],[],.c (.raw (.iface t (.int k n)))⟩:AEff)=E) (hτ:σ.upd d E=τ) (h:Ah P ops r τ (fs++[E]) K):Ah P ops (⟨d,.makeInterface t x,ty',pos,af,gd⟩::r) σ fs K:=by
 subst hE
 exact BV hg (TX rfl hx hc).sound hτ h
theorem Jb {op:BinOp}{t t':TypeId}{y:Operand}{q:Value}{tx:TypeId}{u:Value}{x:AV}(ht:P.underlying t=some (.interface (P.methodsAt t))) (hg:BM ops σ ⟨d,.binOp op t y (.const q) t',ty',pos,af,gd⟩=some true) (hy:σ.ev y=.c (.raw (.iface tx u))) (hz:σ.ev (.const q)=.c (.raw .nilIface)) (he:EK op false=some x)
  (hE:(⟨[],[],x⟩:AEff)=E) (hτ:σ.upd d E=τ) (h:Ah P ops r τ (fs++[E]) K):Ah P ops (⟨d,.binOp op t y (.const q) t',ty',pos,af,gd⟩::r) σ fs K:=by
 subst hE
 exact BV hg (W2 rfl hy hz ht he).sound hτ h
theorem Oc {op:BinOp}{t t':TypeId}{y z:Operand}{tx:TypeId}{k q:IntKind}{m n:Int}{ms:Array (String×TypeId)}{x:AV}{b:Bool}(ht:P.underlying t=some (.interface ms)) (hc:(P.info? tx).map (·.comparable)=some true) (hu:P.underlying tx=some (.int q))
  (hg:BM ops σ ⟨d,.binOp op t y z t',ty',pos,af,gd⟩=some true) (hy:σ.ev y=.c (.raw (.iface tx (.int k m)))) (hz:σ.ev z=.c (.raw (.iface tx (.int k n)))) (hgu:∀op w,(eqGuard op t y z (.iface tx (.int k m)) (.iface tx (.int k n))).run P w=.ok () w) (hb:(m==n)=b) (he:EK op b=some x)
  (hE:(⟨[],[],x⟩:AEff)=E) (hτ:σ.upd d E=τ) (h:Ah P ops r τ (fs++[E]) K):Ah P ops (⟨d,.binOp op t y z t',ty',pos,af,gd⟩::r) σ fs K:=by
 subst hE
 exact BV hg (YF rfl hy hz ht hc hu hgu hb he).sound hτ h
theorem X1 {op:BinOp}{t t':TypeId}{y z:Operand}{k k':IntKind}{m n:Int}{c:C}{u:Value}(hq:∀w,(binOp op t (.int k m) (.int k' n)).run P w=.ok u w) (hc:∀w S,CR w S c u []) (hgu:∀w,(eqGuard op t y z (.int k m) (.int k' n)).run P w=.ok () w)
  (hg:BM ops σ ⟨d,.binOp op t y z t',ty',pos,af,gd⟩=some true) (hy:σ.ev y=.c (.int k m)) (hz:σ.ev z=.c (.int k' n))
  (hE:(⟨[],[],.c c⟩:AEff)=E) (hτ:σ.upd d E=τ) (h:Ah P ops r τ (fs++[E]) K):Ah P ops (⟨d,.binOp op t y z t',ty',pos,af,gd⟩::r) σ fs K:=by
 subst hE
 exact BV hg (a6k rfl hy hz hgu hq hc).sound hτ h
theorem o6 {src dst e:TypeId}{x:Operand}{s:ByteArray}{rows:List (List C)}(hy:Bj s.data.toList=rows) (hs:P.underlying src=some .string) (hd:P.underlying dst=some (.slice e)) (he:P.underlying e=some (.int .u8))
  (hg:BM ops σ ⟨d,.convert src dst x,ty',pos,af,gd⟩=some true) (hx:σ.ev x=.c (.str s))
  (hE:(⟨[],[],.c (.sl rows)⟩:AEff)=E) (hτ:σ.upd d E=τ) (h:Ah P ops r τ (fs++[E]) K):Ah P ops (⟨d,.convert src dst x,ty',pos,af,gd⟩::r) σ fs K:=by
 subst hE hy
 exact BV hg (Ys rfl hx hs hd he).sound hτ h
theorem KH {src dst e t:TypeId}{x:Operand}{i:Id}{y:ByteArray}(l:List UInt8) (hy:(⟨l.toArray⟩:ByteArray)=y) (hs:P.underlying src=some (.slice e)) (he:P.underlying e=some (.int .u8)) (hd:P.underlying dst=some .string)
  (hg:BM ops σ ⟨d,.convert src dst x,ty',pos,af,gd⟩=some true) (hx:σ.ev x=.own i) (hi:σ.mem.get i=some (.row false 1 t (Bj l)))
  (hE:(⟨[i],[],.c (.str y)⟩:AEff)=E) (hτ:σ.upd d E=τ) (h:Ah P ops r τ (fs++[E]) K):Ah P ops (⟨d,.convert src dst x,ty',pos,af,gd⟩::r) σ fs K:=by
 subst hE hy
 cases l with
 |nil=>exact BV hg (Yu rfl hx hs he hd hi).sound hτ h
 |cons b l=>exact BV hg (TV (b::l) (by simp) rfl hx hs he hd hi).sound hτ h
end
theorem WB (σ:ASt):σ.ev (.const .nilIface)=.c (.raw .nilIface):=rfl
attribute [go_sem] WB
end
section
open Go.RowKit
set_option maxRecDepth 10000
def a42 (s:ByteArray) (d:DS):AO:=.box [.c (.str s),.c (.int .i64 d.pl),.c (.int .i64 d.code),.c (.int .i64 d.bad)]
abbrev dsM (s:ByteArray) (d:DS):Mem:=[((0,0),a42 s d)]
theorem AM (s:ByteArray) (d:DS):dsM s d=[((0,0),.box [.c (.str s),.c (.int .i64 d.pl),.c (.int .i64 d.code),.c (.int .i64 d.bad)])]:=rfl
theorem Vb (n:Nat):AC Tryz.prog 221 [.c (.int .u8 n)] [] (.c (.bool (Dd n))) []:=by
 rw[Uy]
 generalize (n:Int)=z
 cases h1:z==32
 ·cases h2:z==9
  ·cases h3:z==10
   ·cases h4:z==13
    all_goals
     refine A5 Tryz.func221 Tryz.ntmps221 ?_
     refine A3 (j4 h1 h2 h3 h4) ?_
     exact AL (Ad []) Tryz.results221
   ·refine A5 Tryz.func221 Tryz.ntmps221 ?_
    refine A3 (j3 h1 h2 h3) ?_
    exact AL (Ad []) Tryz.results221
  ·refine A5 Tryz.func221 Tryz.ntmps221 ?_
   refine A3 (j2 h1 h2) ?_
   exact AL (Ad []) Tryz.results221
 ·refine A5 Tryz.func221 Tryz.ntmps221 ?_
  refine A3 h1 ?_
  exact AL (Ad []) Tryz.results221
theorem Pj (s:ByteArray) (hs:s.size≤1000000) (i:Nat) (hi:i≤s.size):AC Tryz.prog 182 [.c (.str s),.c (.int .i64 i)] [] (.c (.int .i64 (Aw s i))) []:=by
 refine A5 Tryz.func182 Tryz.ntmps182 ?_
 refine A3 q9 ?_
 refine AZ (κ:=Nat) (fun j=>⟨mkS 0 18 [(0,.c (.str s)),(1,.c (.int .i64 j))],[]⟩) (fun j=>j≤s.size∧Aw s j=Aw s i) (fun j=>s.size-j) i ⟨hi,rfl⟩ ?_ ?_
 ·exact As (AH.of [] []) hi
 ·rintro j ⟨hj,hsk⟩
  by_cases hlt:j<s.size
  ·have hdk:decide ((j:Int)<(s.size:Int))=true:=by simpa using hlt
   have hw:=AA (k:=j) (by omega)
   obtain⟨b,hg,hb⟩:=Ea hlt
   have hbl:=Vb b.toNat
   rw[←hb]at hbl
   have hbn:((b.toNat:Nat):Int)=((bAt s j:Nat):Int):=by rw[hb]
   cases hbk:Dd (bAt s j) with
   |true =>
    rw[hbk]at hbl
    refine A3 (j3 hdk hg hbn) ?_
    refine w7 (A8 [] hbl) q9 ?_
    refine A3 hw ?_
    refine⟨j+1,by omega,⟨by omega,by rw[←Ka hbk,hsk]⟩,?_⟩
    exact As (AH.of [] []) hw
   |false =>
    rw[hbk]at hbl
    have he:=DW hbk
    rw[he]at hsk
    subst hsk
    refine A3 (j3 hdk hg hbn) ?_
    refine w7 (A8 [] hbl) q9 ?_
    refine A3 q9 ?_
    exact AL (Ad []) Tryz.results182
  ·have hdk:decide ((j:Int)<(s.size:Int))=false:=by simpa using hlt
   have he:=DW (s:=s) (i:=j) (by rw[Eu (by omega)];rfl)
   rw[he]at hsk
   subst hsk
   refine A3 hdk ?_
   exact AL (Ad []) Tryz.results182
theorem JT (n:Nat):AC Tryz.prog 173 [.c (.int .u8 n)] [] (.c (.bool (Bx n))) []:=by
 rw[Zt]
 generalize (n:Int)=z
 cases h1:decide (z≥48)
 ·refine A5 Tryz.func173 Tryz.ntmps173 ?_
  refine A3 h1 ?_
  exact AL (Ad []) Tryz.results173
 ·cases h2:decide (z≤57)
  all_goals
   refine A5 Tryz.func173 Tryz.ntmps173 ?_
   refine A3 (j2 h1 h2) ?_
   exact AL (Ad []) Tryz.results173
theorem Sx (s:ByteArray) (hs:s.size≤1000000) (i:Nat) (hi:i≤s.size):AC Tryz.prog 215 [.c (.str s),.c (.int .i64 i)] [] (.c (.int .i64 ((Fb s i-i:Nat):Int))) []:=by
 obtain⟨e1,e2,e3,e4⟩:=ML hi
 refine A5 Tryz.func215 Tryz.ntmps215 ?_
 refine A3 q9 ?_
 refine AZ (κ:=Nat) (fun j=>⟨mkS 0 23 [(0,.c (.str s)),(1,.c (.int .i64 i)),(5,.c (.int .i64 j))],[]⟩) (fun j=>i+j≤Fb s i) (fun j=>s.size-(i+j)) 0 e1 ?_ ?_
 ·exact As (AH.of [] []) q9
 ·intro j hj
  have hwp:=Qu (a:=i) (b:=j) (by omega)
  have hw:=AA (k:=j) (by omega)
  by_cases hlt:i+j<s.size
  ·have hdk:decide (((i+j:Nat):Int)<(s.size:Int))=true:=decide_eq_true (by omega)
   obtain⟨b,hg,hb⟩:=Ea hlt
   have hbl:=JT b.toNat
   rw[←hb]at hbl
   have hbn:((b.toNat:Nat):Int)=((bAt s (i+j):Nat):Int):=by rw[hb]
   by_cases hend:i+j=Fb s i
   ·have hbk:Bx (bAt s (i+j))=false:=by rw[hend];exact e3
    have hres:Fb s i-i=j:=by omega
    rw[hbk]at hbl
    rw[hres]
    refine A3 (j4 hwp hdk hg hbn) ?_
    refine w7 (A8 [] hbl) q9 ?_
    refine A3 q9 ?_
    exact AL (Ad []) Tryz.results215
   ·have hbk:Bx (bAt s (i+j))=true:=e4 _ (by omega) (by omega)
    rw[hbk]at hbl
    refine A3 (j4 hwp hdk hg hbn) ?_
    refine w7 (A8 [] hbl) q9 ?_
    refine A3 hw ?_
    refine⟨j+1,by omega,by omega,?_⟩
    exact As (AH.of [] []) hw
  ·have hdk:decide (((i+j:Nat):Int)<(s.size:Int))=false:=decide_eq_false (by omega)
   have hres:Fb s i-i=j:=by omega
   rw[hres]
   refine A3 (j2 hwp hdk) ?_
   exact AL (Ad []) Tryz.results215
theorem a1h {n:Nat}(hn:n<256):decide (0≤Cl n)=((Bx n||(decide ((n:Int)≥97)&&decide ((n:Int)≤102)))||(decide ((n:Int)≥65)&&decide ((n:Int)≤70))):=by
 rw[Bool.eq_iff_iff]
 unfold Cl Bx
 simp only[Bool.and_eq_true,decide_eq_true_eq,Bool.or_eq_true]
 by_cases h1:48≤n<;>by_cases h2:n≤57<;>by_cases h3:97≤n<;>by_cases h4:n≤102<;>by_cases h5:65≤n<;>by_cases h6:n≤70<;>simp[h1,h2,h3,h4,h5,h6]<;>omega
theorem ZM (n:Nat) (hn:n<256):AC Tryz.prog 292 [.c (.int .u8 n)] [] (.c (.bool (decide (0≤Cl n)))) []:=by
 rw[a1h hn]
 have hd:=JT n
 cases h0:Bx n with
 |true =>
  rw[h0]at hd
  refine A5 Tryz.func292 Tryz.ntmps292 ?_
  refine A3 q9 ?_
  refine w7 (A8 [] hd) q9 ?_
  refine A3 q9 ?_
  exact AL (Ad []) Tryz.results292
 |false =>
  rw[h0]at hd
  generalize (n:Int)=z at *
  cases h1:decide (z≥97)<;>cases h2:decide (z≤102)<;>cases h3:decide (z≥65)<;>cases h4:decide (z≤70)
  all_goals
   refine A5 Tryz.func292 Tryz.ntmps292 ?_
   refine A3 q9 ?_
   refine w7 (A8 [] hd) q9 ?_
   refine A3 (j4 h1 h2 h3 h4) ?_
   exact AL (Ad []) Tryz.results292
theorem CT (s:ByteArray) (d:DS) (c:Int) (p:Nat):AC Tryz.prog 119 [.ptr (0,0) 0,.c (.int .i64 c),.c (.int .i64 p)] (dsM s d) (.tup []) (dsM s (d.fail c p)):=by
 unfold DS.fail
 obtain⟨pl,code,bad⟩:=d
 by_cases h:code=0
 ·subst h
  simp only[if_true,AM]
  have h00:((0:Int)==0)=true:=rfl
  refine A5 Tryz.func119 Tryz.ntmps119 ?_
  refine A3 h00 ?_
  exact Ab (Aa [((0,0),(0,0))] []) Tryz.results119 q9
 ·have hc:(code==0)=false:=by simpa using h
  simp only[if_neg h,AM]
  refine A5 Tryz.func119 Tryz.ntmps119 ?_
  refine A3 hc ?_
  exact Ab (Aa [((0,0),(0,0))] []) Tryz.results119 hc
theorem a43 (s:ByteArray) (d:DS) (hd:d.pl≤s.size) (b:Nat) (hb:b<256):AC Tryz.prog 220 [.ptr (0,0) 0,.c (.int .u8 b)] (dsM s d) (.c (.bool (d.is s b))) (dsM s d):=by
 unfold DS.is
 obtain⟨pl,code,bad⟩:=d
 simp only at hd ⊢
 simp only[AM]
 by_cases h:code=0
 ·subst h
  simp only[decide_true,Bool.true_and]
  have h00:((0:Int)==0)=true:=rfl
  by_cases hlt:pl<s.size
  ·have hdk:decide ((pl:Int)<(s.size:Int))=true:=by simpa using hlt
   obtain⟨b1,hg,hb1⟩:=Ea hlt
   have hq:(((b1.toNat:Nat):Int)==((b:Nat):Int))=(bAt s pl==b):=by rw[hb1];exact Zh _ _
   refine A5 Tryz.func220 Tryz.ntmps220 ?_
   refine A3 (j4 h00 hdk hg hq) ?_
   exact Ab (Aa [((0,0),(0,0))] []) Tryz.results220 hdk
  ·have hdk:decide ((pl:Int)<(s.size:Int))=false:=by simpa using hlt
   have hq:(bAt s pl==b)=false:=by rw[Eu (by omega)];simp;omega
   rw[hq]
   refine A5 Tryz.func220 Tryz.ntmps220 ?_
   refine A3 (j2 h00 hdk) ?_
   exact Ab (Aa [((0,0),(0,0))] []) Tryz.results220 hdk
 ·have hc:(code==0)=false:=by simpa using h
  simp only[h,decide_false,Bool.false_and]
  refine A5 Tryz.func220 Tryz.ntmps220 ?_
  refine A3 hc ?_
  exact Ab (Aa [((0,0),(0,0))] []) Tryz.results220 hc
theorem PO {s:ByteArray}{d:DS}{b:Nat}(hb:b<256) (h:d.is s b=true):d.pl<s.size∧d.code=0∧bAt s d.pl=b:=by
 unfold DS.is at h
 simp only[Bool.and_eq_true,decide_eq_true_eq,beq_iff_eq]at h
 exact⟨EM (by omega),h.1,h.2⟩
theorem EG (s:ByteArray) (hs:s.size≤1000000) (d:DS) (hd:d.pl≤s.size) (b:Nat) (hb:b<256):AC Tryz.prog 177 [.ptr (0,0) 0,.c (.int .u8 b)] (dsM s d) (.c (.bool (d.is s b))) (dsM s (d.take s b)):=by
 have hi:=a43 s d hd b hb
 unfold DS.take
 cases h:d.is s b with
 |true =>
  rw[h]at hi
  obtain⟨h1,_,_⟩:=PO hb h
  simp only[if_true]
  unfold DS.go
  simp only[AM]at hi ⊢
  generalize d.pl=pl at *
  have hw:=AA (k:=pl) (by omega)
  refine A5 Tryz.func177 Tryz.ntmps177 ?_
  refine A3 q9 ?_
  refine A7 (A0 [((0,0),(0,0))] [((0,0),(0,0))] hi) q9 ?_
  refine A3 hw ?_
  exact Ab (Aa [((0,0),(0,0))] []) Tryz.results177 hw
 |false =>
  rw[h]at hi
  simp only[Bool.false_eq_true,if_false]
  simp only[AM]at hi ⊢
  refine A5 Tryz.func177 Tryz.ntmps177 ?_
  refine A3 q9 ?_
  refine A7 (A0 [((0,0),(0,0))] [((0,0),(0,0))] hi) q9 ?_
  refine A3 q9 ?_
  exact Ab (Aa [((0,0),(0,0))] []) Tryz.results177 h
theorem L3 (s:ByteArray) (hs:s.size≤1000000) (d:DS) (hd:d.pl≤s.size) (b:Nat) (hb:b<256):AC Tryz.prog 181 [.ptr (0,0) 0,.c (.int .u8 b)] (dsM s d) (.tup []) (dsM s (d.want s b)):=by
 have ht:=EG s hs d hd b hb
 have hf:=CT s d 5 d.pl
 unfold DS.take at ht
 unfold DS.want
 cases h:d.is s b with
 |true =>
  rw[h]at ht
  simp only[if_true]at ht ⊢
  generalize d.go (d.pl+1)=d2 at *
  simp only[AM]at ht ⊢
  refine A5 Tryz.func181 Tryz.ntmps181 ?_
  refine A3 q9 ?_
  refine A7 (A0 [((0,0),(0,0))] [((0,0),(0,0))] ht) q9 ?_
  refine A3 q9 ?_
  exact Ab (Aa [((0,0),(0,0))] []) Tryz.results181 h
 |false =>
  rw[h]at ht
  simp only[Bool.false_eq_true,if_false]at ht ⊢
  generalize d.fail 5 d.pl=d2 at *
  simp only[AM]at ht hf ⊢
  refine A5 Tryz.func181 Tryz.ntmps181 ?_
  refine A3 q9 ?_
  refine A7 (A0 [((0,0),(0,0))] [((0,0),(0,0))] ht) q9 ?_
  refine A3 q9 ?_
  refine A7 (A0 [((0,0),(0,0))] [((0,0),(0,0))] hf) q9 ?_
  refine A3 q9 ?_
  exact Ab (Aa [((0,0),(0,0))] []) Tryz.results181 h
theorem Fz (s:ByteArray) (hs:s.size≤1000000) (d:DS) (hd:d.pl≤s.size):AC Tryz.prog 118 [.ptr (0,0) 0] (dsM s d) (.tup []) (dsM s (d.skip s)):=by
 have hk:=Pj s hs d.pl hd
 unfold DS.skip DS.go
 simp only[AM]
 generalize Aw s d.pl=e at *
 generalize d.pl=pl at *
 refine A5 Tryz.func118 Tryz.ntmps118 ?_
 refine A3 q9 ?_
 refine w7 (A8 [] hk) q9 ?_
 refine A3 q9 ?_
 exact Ab (Aa [((0,0),(0,0))] []) Tryz.results118 hd
theorem DA (d:DS) (c:Int) (p:Nat):(d.fail c p).pl=d.pl:=by unfold DS.fail;split<;>rfl
theorem Gz {s:ByteArray}{d:DS}{b:Nat}(hb:b<256) (h:d.pl≤s.size):d.pl≤(d.want s b).pl∧(d.want s b).pl≤s.size∧(d.want s b).pl≤d.pl+1:=by
 unfold DS.want
 cases hi:d.is s b with
 |true =>
  obtain⟨h1,_,_⟩:=PO hb hi
  simp only[if_true]
  unfold DS.go
  exact⟨Nat.le_succ _,h1,Nat.le_refl _⟩
 |false =>
  simp only[Bool.false_eq_true,if_false]
  rw[DA]
  exact⟨Nat.le_refl _,h,Nat.le_succ _⟩
theorem CU {s:ByteArray}{d:DS}(h:d.pl≤s.size):d.pl≤(d.skip s).pl∧(d.skip s).pl≤s.size:=⟨(C9 h).1,(C9 h).2.1⟩
theorem L4 {s:ByteArray}:∀{l:List Nat}{d:DS},(∀b∈l,b<256)→d.pl≤s.size→d.pl≤(d.word s l).pl∧(d.word s l).pl≤s.size
 | [],_,_,h=>⟨Nat.le_refl _,h⟩
 |b::r,d,hb,h=>by
  obtain⟨h1,h2,_⟩:=Gz (hb b (by simp)) h
  obtain⟨g1,g2⟩:=L4 (l:=r) (fun x hx=>hb x (by simp[hx])) h2
  unfold DS.word
  exact⟨by omega,g2⟩
theorem Qt {s:ByteArray}:∀(l:List Nat) (d:DS) (b:Nat),d.word s (l++[b])=(d.word s l).want s b
 | [],_,_=>rfl
 |a::l,d,b=>by
  show (d.want s a).word s (l++[b])=((d.want s a).word s l).want s b
  exact Qt l _ b
theorem N1 (s:ByteArray) (hs:s.size≤1000000) (d:DS) (hd:d.pl≤s.size) (w:ByteArray) (hw:w.size≤100):AC Tryz.prog 171 [.ptr (0,0) 0,.c (.str w)] (dsM s d) (.tup []) (dsM s (d.word s (w.data.toList.map UInt8.toNat))):=by
 have hlen:(w.data.toList.map UInt8.toNat).length=w.size:=by simp
 obtain⟨l,hl⟩:∃l,w.data.toList.map UInt8.toNat=l:=⟨_,rfl⟩
 have hlb:∀b∈l,b<256:=fun b hb=>by
  rw[←hl]at hb
  obtain⟨x,_,rfl⟩:=List.mem_map.1 hb
  exact x.toNat_lt
 have hat:∀k (hk:k<w.size),∃b:UInt8,w[k]? = some b∧l[k]? = some b.toNat:=fun k hk=>by
  obtain⟨b,hb,hb2⟩:=Ea hk
  refine⟨b,hb,?_⟩
  have:=Ew w k
  rw[←hl,List.getElem?_map]
  cases hq:w.data.toList[k]? with
  |none=>rw[List.getElem?_eq_none_iff,Be]at hq;omega
  |some b' =>
   rw[hq,hb2]at this
   simp only at this
   rw[Option.map_some,this]
 rw[hl]at hlen ⊢
 have hz:d.word s (l.take 0)=d:=by rw[List.take_zero];rfl
 simp only[AM]
 refine A5 Tryz.func171 Tryz.ntmps171 ?_
 refine A3 q9 ?_
 refine AZ (κ:=Nat) (fun k=>⟨mkS 0 16 [(0,.ptr (0,0) 0),(1,.c (.str w)),(6,.c (.int .i64 w.size)),(7,.c (.int .i64 k))],dsM s (d.word s (l.take k))⟩) (fun k=>k≤w.size) (fun k=>w.size-k) 0 (Nat.zero_le _) ?_ ?_
 ·simp only[hz,AM]
  exact As (AH.of [((0,0),(0,0))] []) hd
 ·intro k hk
  by_cases hlt:k<w.size
  ·have hdk:decide ((k:Int)<(w.size:Int))=true:=by simpa using hlt
   have hwk:=AA (k:=k) (by omega)
   obtain⟨b,hg,hlk⟩:=hat k hlt
   obtain⟨hkl,hke⟩:=List.getElem?_eq_some_iff.1 hlk
   have hnext:d.word s (l.take (k+1))=(d.word s (l.take k)).want s b.toNat:=by rw[List.take_succ_eq_append_getElem hkl,hke,Qt]
   have hp:=(L4 (s:=s) (l:=l.take k) (d:=d) (fun x hx=>hlb x (List.mem_of_mem_take hx)) hd).2
   have hwa:=L3 s hs (d.word s (l.take k)) hp b.toNat b.toNat_lt
   rw[←hnext]at hwa
   obtain⟨d2,hd2⟩:∃d2,d.word s (l.take (k+1))=d2:=⟨_,rfl⟩
   rw[hd2]at hwa
   simp only[AM]at hwa ⊢
   refine A3 (j2 hdk hg) ?_
   refine A7 (A0 [((0,0),(0,0))] [((0,0),(0,0))] hwa) q9 ?_
   refine A3 hwk ?_
   refine⟨k+1,by omega,by omega,?_⟩
   exact As (AH.of [((0,0),(0,0))] []) (j2 hwk hd2)
  ·have hdk:decide ((k:Int)<(w.size:Int))=false:=by simpa using hlt
   have hke:l.take k=l:=List.take_of_length_le (by omega)
   simp only[hke,AM]
   refine A3 hdk ?_
   exact Ab (Aa [((0,0),(0,0))] []) Tryz.results171 hdk
end
end Go.Proofs.YtllfmaflodbieaaGreatDoor
