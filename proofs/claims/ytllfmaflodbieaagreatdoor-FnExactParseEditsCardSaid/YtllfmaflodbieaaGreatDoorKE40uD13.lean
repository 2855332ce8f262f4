/- Texts of this proof: E40 D13. -/
import Derived.Lib.IfaceEq
import Derived.Lib.IfaceNeq
import Derived.Test.YtllfmaflodbieaaGreatDoorKD12uD34
set_option linter.all false
set_option maxHeartbeats 8000000
namespace Go.Proofs.YtllfmaflodbieaaGreatDoor
section
open Go.RowKit
section
variable {P:Program} {o:Oper} {σ:ASt}
theorem Pw {t:TypeId}{x:Operand}{k:IntKind}{n:Int}(ho:o.op=.makeInterface t x) (hx:σ.ev x=.c (.int k n)) (hc:P.concrete t=true):Al P o σ ⟨[],[],.c (.raw (.iface t (.int k n)))⟩:=by
 refine Al.pure fun Γ σ' a w ow κ hag hr=>?_
 have e1:=AR.int (hag.ev hr (by rw[ho];simp[Op.operands]) hx)
 refine⟨.iface t (.int k n),?_,⟨rfl,rfl,rfl⟩⟩
 unfold execOp
 rw[ho]
 simp[e1,run_makeInterface _ _ _ hc]
theorem Rz {op:BinOp}{t t':TypeId}{y:Operand}{q:Value}{tx:TypeId}{u:Value}{x:AV}(ho:o.op=.binOp op t y (.const q) t') (hy:σ.ev y=.c (.raw (.iface tx u))) (hz:σ.ev (.const q)=.c (.raw .nilIface))
  (ht:P.underlying t=some (.interface (P.methodsAt t))) (he:DC op false=some x):Al P o σ ⟨[],[],x⟩:=by
 refine Al.pure fun Γ σ' a w ow κ hag hr=>?_
 have e1:=(hag.ev hr (by rw[ho];simp[Op.operands]) hy).1
 have e2:=(hag.ev hr (by rw[ho];simp[Op.operands]) hz).1
 refine DW (b:=false) ho he e1 e2 (fun op=>?_) (run_eql_held_nil w t tx u ht) (run_neq_held_nil w t tx u ht)
 unfold eqGuard
 cases op<;>simp
theorem UP {op:BinOp}{t t':TypeId}{y z:Operand}{tx:TypeId}{k q:IntKind}{m n:Int}{ms:Array (String×TypeId)}{x:AV}{b:Bool}(ho:o.op=.binOp op t y z t') (hy:σ.ev y=.c (.raw (.iface tx (.int k m)))) (hz:σ.ev z=.c (.raw (.iface tx (.int k n))))
  (ht:P.underlying t=some (.interface ms)) (hc:(P.info? tx).map (·.comparable)=some true) (hu:P.underlying tx=some (.int q)) (hg:∀op w,(eqGuard op t y z (.iface tx (.int k m)) (.iface tx (.int k n))).run P w=.ok () w) (hb:(m==n)=b) (he:DC op b=some x):Al P o σ ⟨[],[],x⟩:=by
 refine Al.pure fun Γ σ' a w ow κ hag hr=>?_
 have e1:=(hag.ev hr (by rw[ho];simp[Op.operands]) hy).1
 have e2:=(hag.ev hr (by rw[ho];simp[Op.operands]) hz).1
 subst hb
 exact DW ho he e1 e2 (fun op=>hg op w) (Lib.run_eql_iface_int w m n ht hc hu) (Lib.run_neq_iface_int w m n ht hc hu)
theorem W5 {op:BinOp}{t t':TypeId}{y z:Operand}{k k':IntKind}{m n:Int}{c:C}{u:Value}(ho:o.op=.binOp op t y z t') (hy:σ.ev y=.c (.int k m)) (hz:σ.ev z=.c (.int k' n))
  (hg:∀w,(eqGuard op t y z (.int k m) (.int k' n)).run P w=.ok () w) (hq:∀w,(binOp op t (.int k m) (.int k' n)).run P w=.ok u w) (hc:∀w S,CR w S c u []):Al P o σ ⟨[],[],.c c⟩:=by
 refine Al.pure fun Γ σ' a w ow κ hag hr=>?_
 have e1:=AR.int (hag.ev hr (by rw[ho];simp[Op.operands]) hy)
 have e2:=AR.int (hag.ev hr (by rw[ho];simp[Op.operands]) hz)
 refine⟨u,?_,hc _ _⟩
 unfold execOp
 rw[ho]
 simp only[e1,e2,Sem.run_bind,hg,hq,Result.andThen_ok,Sem.run_pure]
theorem PL (s:ByteArray) (cap j:Nat) (h:j<s.size):(bytesRow s cap)[j]? = some (.int .u8 ((s.data.toList[j]'(by simpa using h)).toNat:Int)):=by
 have h1:j<(s.data.map fun b=>Value.int .u8 b.toNat).size:=by simpa using h
 unfold bytesRow
 rw[Array.getElem?_append_left h1]
 simp
 exact⟨_,Array.getElem?_eq_getElem (by simpa using h),rfl⟩
theorem TN {src dst e:TypeId}{x:Operand}{s:ByteArray}(ho:o.op=.convert src dst x) (hx:σ.ev x=.c (.str s)) (hs:P.underlying src=some .string) (hd:P.underlying dst=some (.slice e)) (he:P.underlying e=some (.int .u8)) :
  Al P o σ ⟨[],[],.c (.sl (AF s.data.toList))⟩:=by
 intro Γ σ' a w ow κ hag hr
 have e1:=AR.str (hag.ev hr (by rw[ho];simp[Op.operands]) hx)
 have hrun:=run_bytes_of_string (P:=P) w src dst e s hs hd he
 generalize hcp:grownCap w s.size 0 e=cap at hrun
 obtain⟨w',hw'⟩:∃w',w.drew.alloc (.cells (bytesRow s cap) e ((bytesRow s cap).size,(bytesRow s cap).size+1))=w':=⟨_,rfl⟩
 rw[hw']at hrun
 have hheap:w'.heap=w.heap.push (.cells (bytesRow s cap) e ((bytesRow s cap).size,(bytesRow s cap).size+1)):=by rw[←hw'];rfl
 have hold:∀b,b<w.heap.size→w'.heap[b]? = w.heap[b]?:=fun b hb=>by rw[hheap,Array.getElem?_push_lt hb,Array.getElem?_eq_getElem hb]
 have hnew:w'.heap[w.heap.size]? = some (.cells (bytesRow s cap) e ((bytesRow s cap).size,(bytesRow s cap).size+1)):=by rw[hheap];simp
 have hno:ow w.heap.size=none:=by
  cases h:ow w.heap.size with
  |none=>rfl
  |some i=>have:=(hr.own _ _ h).1;omega
 have hsz:w'.heap.size=w.heap.size+1:=by rw[hheap];simp
 have st:Step σ'.mem [] w ow κ w' ow κ:=⟨by rw[←hw'];rfl,by rw[←hw'];rfl,by rw[←hw'];rfl,by omega,fun b hb _=>⟨hold b hb,rfl⟩,fun b i hb=>.inl ⟨by simp,hb⟩,fun _ _ _=>rfl,fun i hi=>by simp at hi⟩
 have hcell:∀j (hj:j<s.data.toList.length),w'.cell? ⟨w.heap.size,j,none⟩=some (.int .u8 ((s.data.toList[j]).toNat:Int)):=fun j hj=>by
  have h1:=PL s cap j (by simpa using hj)
  unfold World.cell?
  simp only[hnew]
  simpa using h1
 have hres:CR w' (Γ.sees ow) (.sl (AF s.data.toList)) (.slice (some ⟨w.heap.size,0,none⟩) s.size cap) []:=by
  have hlen:(AF s.data.toList).length=s.size:=by simp[AF]
  refine⟨1,some ⟨w.heap.size,0,none⟩,cap,s.data.toList.map fun b=>[.int .u8 (b.toNat:Int)],by rw[hlen],by rw[hlen,←hcp];exact grownCap_ge w _ _ _,trivial,?_,?_,rfl⟩
  ·refine⟨fun x hx=>?_,fun hn=>⟨w.heap.size,0,rfl,⟨hno,.inr (.inl hr.size)⟩,by omega,fun i x hx j u hu=>?_⟩⟩
   ·obtain⟨b,_,rfl⟩:=List.mem_map.1 hx
    rfl
   ·rw[List.getElem?_map]at hx
    cases hq:s.data.toList[i]? with
    |none=>rw[hq]at hx;cases hx
    |some b =>
     rw[hq]at hx
     simp only[Option.map_some,Option.some.injEq]at hx
     subst hx
     obtain⟨hi,hb⟩:=List.getElem?_eq_some_iff.1 hq
     cases j with
     |zero =>
      simp only[List.getElem?_cons_zero,Option.some.injEq]at hu
      subst hu
      have:=hcell i hi
      rw[hb]at this
      simpa using this
     |succ j=>simp at hu
  ·have:∀l:List UInt8,Ag w' (Γ.sees ow) (AF l) (l.map fun b=>[Value.int .u8 (b.toNat:Int)]) []:=by
    intro l
    induction l with
    |nil=>simp[AF,Ag]
    |cons b l ih =>
     simp only[AF,List.map_cons,Ag]
     exact⟨_,_,[],[],rfl,rfl,⟨_,_,[],[],rfl,rfl,⟨rfl,rfl⟩,rfl,rfl⟩,ih⟩
   exact this _
 refine⟨_,w',ow,κ,.inl ?_,hr.step (E:=⟨[],[],.c (.sl (AF s.data.toList))⟩) st hres (fun i hi=>by simp at hi) o.dst⟩
 unfold execOp
 rw[ho]
 simp[e1,hrun]
theorem Us {src dst e t:TypeId}{x:Operand}{i:Id}(ho:o.op=.convert src dst x) (hx:σ.ev x=.own i) (hs:P.underlying src=some (.slice e)) (he:P.underlying e=some (.int .u8)) (hd:P.underlying dst=some .string)
  (hi:σ.mem.get i=some (.row false 1 t [])):Al P o σ ⟨[i],[],.c (.str ByteArray.empty)⟩:=by
 refine Al.pure fun Γ σ' a w ow κ hag hr=>?_
 have hi':σ'.mem.get i=some (.row false 1 t []):=by rw[hag.2.1 i (by simp),hi]
 obtain⟨_,o1,k1,k2⟩:=hag.ev hr (by rw[ho];simp[Op.operands]) hx
 rw[hi']at k1
 cases k1
 have e1:=k2 (by simp)
 obtain⟨vrows,bs,h1,h2,h3,h4,h5,h6⟩:=hr.objs i _ hi'
 obtain⟨_,⟨h7,h8⟩ | ⟨b,cap,cs,h7,_⟩⟩:=h4
 ·refine⟨.string ByteArray.empty,?_,⟨rfl,rfl⟩⟩
  have hrun:=run_convert_bytes_nil (P:=P) (w:=w) src e hs he 0 0 dst hd
  unfold execOp
  rw[ho]
  simp[e1,h7,hrun]
 ·refine⟨.string ByteArray.empty,?_,⟨rfl,rfl⟩⟩
  have hrun:(convert src dst (.slice (some ⟨b,0,none⟩) 0 cap)).run P w=.ok (.string ByteArray.empty) w:=run_convert_bytes_back (P:=P) w src dst e ⟨b,0,none⟩ cap [] hs he hd (fun j hj=>by simp at hj)
  have h7':κ i=.slice (some ⟨b,0,none⟩) 0 cap:=h7
  unfold execOp
  rw[ho]
  simp[e1,h7',hrun]
end
section
variable {P:Program} {σ τ:ASt} {ops:Array Oper} {r:List Oper} {fs:List AEff} {K:ASt→List AEff→Prop} {E:AEff} {d:Option Tmp} {ty':TypeId} {pos:String} {af:Array Edge} {gd:Option (Nat×Bool)}
theorem D3 {t:TypeId}{x:Operand}{k:IntKind}{n:Int}(hc:P.concrete t=true) (hg:Bi ops σ ⟨d,.makeInterface t x,ty',pos,af,gd⟩=some true) (hx:σ.ev x=.c (.int k n))
  (hE:(⟨[],[],.c (.raw (.iface t (.int k n)))⟩:AEff)=E) (hτ:σ.upd d E=τ) (h:Ad P ops r τ (fs++[E]) K):Ad P ops (⟨d,.makeInterface t x,ty',pos,af,gd⟩::r) σ fs K:=by
 subst hE
 exact Bt hg (Pw rfl hx hc).sound hτ h
theorem GJ {op:BinOp}{t t':TypeId}{y:Operand}{q:Value}{tx:TypeId}{u:Value}{x:AV}(ht:P.underlying t=some (.interface (P.methodsAt t))) (hg:Bi ops σ ⟨d,.binOp op t y (.const q) t',ty',pos,af,gd⟩=some true) (hy:σ.ev y=.c (.raw (.iface tx u))) (hz:σ.ev (.const q)=.c (.raw .nilIface)) (he:DC op false=some x)
  (hE:(⟨[],[],x⟩:AEff)=E) (hτ:σ.upd d E=τ) (h:Ad P ops r τ (fs++[E]) K):Ad P ops (⟨d,.binOp op t y (.const q) t',ty',pos,af,gd⟩::r) σ fs K:=by
 subst hE
 exact Bt hg (Rz rfl hy hz ht he).sound hτ h
theorem KG {op:BinOp}{t t':TypeId}{y z:Operand}{tx:TypeId}{k q:IntKind}{m n:Int}{ms:Array (String×TypeId)}{x:AV}{b:Bool}(ht:P.underlying t=some (.interface ms)) (hc:(P.info? tx).map (·.comparable)=some true) (hu:P.underlying tx=some (.int q))
  (hg:Bi ops σ ⟨d,.binOp op t y z t',ty',pos,af,gd⟩=some true) (hy:σ.ev y=.c (.raw (.iface tx (.int k m)))) (hz:σ.ev z=.c (.raw (.iface tx (.int k n)))) (hgu:∀op w,(eqGuard op t y z (.iface tx (.int k m)) (.iface tx (.int k n))).run P w=.ok () w) (hb:(m==n)=b) (he:DC op b=some x)
  (hE:(⟨[],[],x⟩:AEff)=E) (hτ:σ.upd d E=τ) (h:Ad P ops r τ (fs++[E]) K):Ad P ops (⟨d,.binOp op t y z t',ty',pos,af,gd⟩::r) σ fs K:=by
 subst hE
 exact Bt hg (UP rfl hy hz ht hc hu hgu hb he).sound hτ h
theorem SH {op:BinOp}{t t':TypeId}{y z:Operand}{k k':IntKind}{m n:Int}{c:C}{u:Value}(hq:∀w,(binOp op t (.int k m) (.int k' n)).run P w=.ok u w) (hc:∀w S,CR w S c u []) (hgu:∀w,(eqGuard op t y z (.int k m) (.int k' n)).run P w=.ok () w)
  (hg:Bi ops σ ⟨d,.binOp op t y z t',ty',pos,af,gd⟩=some true) (hy:σ.ev y=.c (.int k m)) (hz:σ.ev z=.c (.int k' n))
  (hE:(⟨[],[],.c c⟩:AEff)=E) (hτ:σ.upd d E=τ) (h:Ad P ops r τ (fs++[E]) K):Ad P ops (⟨d,.binOp op t y z t',ty',pos,af,gd⟩::r) σ fs K:=by
 subst hE
 exact Bt hg (W5 rfl hy hz hgu hq hc).sound hτ h
theorem W9 {src dst e:TypeId}{x:Operand}{s:ByteArray}{rows:List (List C)}(hy:AF s.data.toList=rows) (hs:P.underlying src=some .string) (hd:P.underlying dst=some (.slice e)) (he:P.underlying e=some (.int .u8))
  (hg:Bi ops σ ⟨d,.convert src dst x,ty',pos,af,gd⟩=some true) (hx:σ.ev x=.c (.str s))
  (hE:(⟨[],[],.c (.sl rows)⟩:AEff)=E) (hτ:σ.upd d E=τ) (h:Ad P ops r τ (fs++[E]) K):Ad P ops (⟨d,.convert src dst x,ty',pos,af,gd⟩::r) σ fs K:=by
 subst hE hy
 exact Bt hg (TN rfl hx hs hd he).sound hτ h
theorem IP {src dst e t:TypeId}{x:Operand}{i:Id}{y:ByteArray}(l:List UInt8) (hy:(⟨l.toArray⟩:ByteArray)=y) (hs:P.underlying src=some (.slice e)) (he:P.underlying e=some (.int .u8)) (hd:P.underlying dst=some .string)
  (hg:Bi ops σ ⟨d,.convert src dst x,ty',pos,af,gd⟩=some true) (hx:σ.ev x=.own i) (hi:σ.mem.get i=some (.row false 1 t (AF l)))
  (hE:(⟨[i],[],.c (.str y)⟩:AEff)=E) (hτ:σ.upd d E=τ) (h:Ad P ops r τ (fs++[E]) K):Ad P ops (⟨d,.convert src dst x,ty',pos,af,gd⟩::r) σ fs K:=by
 subst hE hy
 cases l with
 |nil=>exact Bt hg (Us rfl hx hs he hd hi).sound hτ h
 |cons b l=>exact Bt hg (Pp (b::l) (by simp) rfl hx hs he hd hi).sound hτ h
end
theorem ST (σ:ASt):σ.ev (.const .nilIface)=.c (.raw .nilIface):=rfl
attribute [go_sem] ST
end
section
open Go.RowKit
set_option maxRecDepth 10000
def Z2 (s:ByteArray) (d:DS):AO:=.box [.c (.str s),.c (.int .i64 d.pl),.c (.int .i64 d.code),.c (.int .i64 d.bad)]
abbrev dsM (s:ByteArray) (d:DS):Mem:=[((0,0),Z2 s d)]
theorem Au (s:ByteArray) (d:DS):dsM s d=[((0,0),.box [.c (.str s),.c (.int .i64 d.pl),.c (.int .i64 d.code),.c (.int .i64 d.bad)])]:=rfl
theorem Ru (n:Nat):AC Tryz.prog 221 [.c (.int .u8 n)] [] (.c (.bool (C9 n))) []:=by
 rw[Lm]
 generalize (n:Int)=z
 cases h1:z==32
 ·cases h2:z==9
  ·cases h3:z==10
   ·cases h4:z==13
    all_goals
     refine A6 Tryz.func221 Tryz.ntmps221 ?_
     refine A0 (j4 h1 h2 h3 h4) ?_
     exact Am (A7 []) Tryz.results221
   ·refine A6 Tryz.func221 Tryz.ntmps221 ?_
    refine A0 (j3 h1 h2 h3) ?_
    exact Am (A7 []) Tryz.results221
  ·refine A6 Tryz.func221 Tryz.ntmps221 ?_
   refine A0 (j2 h1 h2) ?_
   exact Am (A7 []) Tryz.results221
 ·refine A6 Tryz.func221 Tryz.ntmps221 ?_
  refine A0 h1 ?_
  exact Am (A7 []) Tryz.results221
theorem Ma (s:ByteArray) (hs:s.size≤1000000) (i:Nat) (hi:i≤s.size):AC Tryz.prog 182 [.c (.str s),.c (.int .i64 i)] [] (.c (.int .i64 (Af s i))) []:=by
 refine A6 Tryz.func182 Tryz.ntmps182 ?_
 refine A0 trivial ?_
 refine AG (κ:=Nat) (fun j=>⟨mkS 0 18 [(0,.c (.str s)),(1,.c (.int .i64 j))],[]⟩) (fun j=>j≤s.size∧Af s j=Af s i) (fun j=>s.size-j) i ⟨hi,rfl⟩ ?_ ?_
 ·exact Aq (As.of [] []) hi
 ·rintro j ⟨hj,hsk⟩
  by_cases hlt:j<s.size
  ·have hdk:decide ((j:Int)<(s.size:Int))=true:=by simpa using hlt
   have hw:=Ae (k:=j) (by omega)
   obtain⟨b,hg,hb⟩:=Aw hlt
   have hbl:=Ru b.toNat
   rw[←hb]at hbl
   have hbn:((b.toNat:Nat):Int)=((bAt s j:Nat):Int):=by rw[hb]
   cases hbk:C9 (bAt s j) with
   |true =>
    rw[hbk]at hbl
    refine A0 (j3 hdk hg hbn) ?_
    refine w7 (A3 [] hbl) trivial ?_
    refine A0 hw ?_
    refine⟨j+1,by omega,⟨by omega,by rw[←FE hbk,hsk]⟩,?_⟩
    exact Aq (As.of [] []) hw
   |false =>
    rw[hbk]at hbl
    have he:=Ci hbk
    rw[he]at hsk
    subst hsk
    refine A0 (j3 hdk hg hbn) ?_
    refine w7 (A3 [] hbl) trivial ?_
    refine A0 trivial ?_
    exact Am (A7 []) Tryz.results182
  ·have hdk:decide ((j:Int)<(s.size:Int))=false:=by simpa using hlt
   have he:=Ci (s:=s) (i:=j) (by rw[BX (by omega)];rfl)
   rw[he]at hsk
   subst hsk
   refine A0 hdk ?_
   exact Am (A7 []) Tryz.results182
theorem HH (n:Nat):AC Tryz.prog 173 [.c (.int .u8 n)] [] (.c (.bool (AP n))) []:=by
 rw[Qa]
 generalize (n:Int)=z
 cases h1:decide (z≥48)
 ·refine A6 Tryz.func173 Tryz.ntmps173 ?_
  refine A0 h1 ?_
  exact Am (A7 []) Tryz.results173
 ·cases h2:decide (z≤57)
  all_goals
   refine A6 Tryz.func173 Tryz.ntmps173 ?_
   refine A0 (j2 h1 h2) ?_
   exact Am (A7 []) Tryz.results173
theorem OF (s:ByteArray) (hs:s.size≤1000000) (i:Nat) (hi:i≤s.size):AC Tryz.prog 215 [.c (.str s),.c (.int .i64 i)] [] (.c (.int .i64 ((Dm s i-i:Nat):Int))) []:=by
 obtain⟨e1,e2,e3,e4⟩:=Kg hi
 refine A6 Tryz.func215 Tryz.ntmps215 ?_
 refine A0 trivial ?_
 refine AG (κ:=Nat) (fun j=>⟨mkS 0 23 [(0,.c (.str s)),(1,.c (.int .i64 i)),(5,.c (.int .i64 j))],[]⟩) (fun j=>i+j≤Dm s i) (fun j=>s.size-(i+j)) 0 e1 ?_ ?_
 ·exact Aq (As.of [] []) trivial
 ·intro j hj
  have hwp:=DH (a:=i) (b:=j) (by omega)
  have hw:=Ae (k:=j) (by omega)
  by_cases hlt:i+j<s.size
  ·have hdk:decide (((i+j:Nat):Int)<(s.size:Int))=true:=decide_eq_true (by omega)
   obtain⟨b,hg,hb⟩:=Aw hlt
   have hbl:=HH b.toNat
   rw[←hb]at hbl
   have hbn:((b.toNat:Nat):Int)=((bAt s (i+j):Nat):Int):=by rw[hb]
   by_cases hend:i+j=Dm s i
   ·have hbk:AP (bAt s (i+j))=false:=by rw[hend];exact e3
    have hres:Dm s i-i=j:=by omega
    rw[hbk]at hbl
    rw[hres]
    refine A0 (j4 hwp hdk hg hbn) ?_
    refine w7 (A3 [] hbl) trivial ?_
    refine A0 trivial ?_
    exact Am (A7 []) Tryz.results215
   ·have hbk:AP (bAt s (i+j))=true:=e4 _ (by omega) (by omega)
    rw[hbk]at hbl
    refine A0 (j4 hwp hdk hg hbn) ?_
    refine w7 (A3 [] hbl) trivial ?_
    refine A0 hw ?_
    refine⟨j+1,by omega,by omega,?_⟩
    exact Aq (As.of [] []) hw
  ·have hdk:decide (((i+j:Nat):Int)<(s.size:Int))=false:=decide_eq_false (by omega)
   have hres:Dm s i-i=j:=by omega
   rw[hres]
   refine A0 (j2 hwp hdk) ?_
   exact Am (A7 []) Tryz.results215
theorem Xx {n:Nat}(hn:n<256):decide (0≤B8 n)=((AP n||(decide ((n:Int)≥97)&&decide ((n:Int)≤102)))||(decide ((n:Int)≥65)&&decide ((n:Int)≤70))):=by
 rw[Bool.eq_iff_iff]
 unfold B8 AP
 simp only[Bool.and_eq_true,decide_eq_true_eq,Bool.or_eq_true]
 by_cases h1:48≤n<;>by_cases h2:n≤57<;>by_cases h3:97≤n<;>by_cases h4:n≤102<;>by_cases h5:65≤n<;>by_cases h6:n≤70<;>simp[h1,h2,h3,h4,h5,h6]<;>omega
theorem V5 (n:Nat) (hn:n<256):AC Tryz.prog 292 [.c (.int .u8 n)] [] (.c (.bool (decide (0≤B8 n)))) []:=by
 rw[Xx hn]
 have hd:=HH n
 cases h0:AP n with
 |true =>
  rw[h0]at hd
  refine A6 Tryz.func292 Tryz.ntmps292 ?_
  refine A0 trivial ?_
  refine w7 (A3 [] hd) trivial ?_
  refine A0 trivial ?_
  exact Am (A7 []) Tryz.results292
 |false =>
  rw[h0]at hd
  generalize (n:Int)=z at *
  cases h1:decide (z≥97)<;>cases h2:decide (z≤102)<;>cases h3:decide (z≥65)<;>cases h4:decide (z≤70)
  all_goals
   refine A6 Tryz.func292 Tryz.ntmps292 ?_
   refine A0 trivial ?_
   refine w7 (A3 [] hd) trivial ?_
   refine A0 (j4 h1 h2 h3 h4) ?_
   exact Am (A7 []) Tryz.results292
theorem Cd (s:ByteArray) (d:DS) (c:Int) (p:Nat):AC Tryz.prog 119 [.ptr (0,0) 0,.c (.int .i64 c),.c (.int .i64 p)] (dsM s d) (.tup []) (dsM s (d.fail c p)):=by
 unfold DS.fail
 obtain⟨pl,code,bad⟩:=d
 by_cases h:code=0
 ·subst h
  simp only[if_true,Au]
  have h00:((0:Int)==0)=true:=rfl
  refine A6 Tryz.func119 Tryz.ntmps119 ?_
  refine A0 h00 ?_
  exact A9 (A8 [((0,0),(0,0))] []) Tryz.results119 trivial
 ·have hc:(code==0)=false:=by simpa using h
  simp only[if_neg h,Au]
  refine A6 Tryz.func119 Tryz.ntmps119 ?_
  refine A0 hc ?_
  exact A9 (A8 [((0,0),(0,0))] []) Tryz.results119 hc
theorem Zb (s:ByteArray) (d:DS) (hd:d.pl≤s.size) (b:Nat) (hb:b<256):AC Tryz.prog 220 [.ptr (0,0) 0,.c (.int .u8 b)] (dsM s d) (.c (.bool (d.is s b))) (dsM s d):=by
 unfold DS.is
 obtain⟨pl,code,bad⟩:=d
 simp only at hd ⊢
 simp only[Au]
 by_cases h:code=0
 ·subst h
  simp only[decide_true,Bool.true_and]
  have h00:((0:Int)==0)=true:=rfl
  by_cases hlt:pl<s.size
  ·have hdk:decide ((pl:Int)<(s.size:Int))=true:=by simpa using hlt
   obtain⟨b1,hg,hb1⟩:=Aw hlt
   have hq:(((b1.toNat:Nat):Int)==((b:Nat):Int))=(bAt s pl==b):=by rw[hb1];exact Qe _ _
   refine A6 Tryz.func220 Tryz.ntmps220 ?_
   refine A0 (j4 h00 hdk hg hq) ?_
   exact A9 (A8 [((0,0),(0,0))] []) Tryz.results220 hdk
  ·have hdk:decide ((pl:Int)<(s.size:Int))=false:=by simpa using hlt
   have hq:(bAt s pl==b)=false:=by rw[BX (by omega)];simp;omega
   rw[hq]
   refine A6 Tryz.func220 Tryz.ntmps220 ?_
   refine A0 (j2 h00 hdk) ?_
   exact A9 (A8 [((0,0),(0,0))] []) Tryz.results220 hdk
 ·have hc:(code==0)=false:=by simpa using h
  simp only[h,decide_false,Bool.false_and]
  refine A6 Tryz.func220 Tryz.ntmps220 ?_
  refine A0 hc ?_
  exact A9 (A8 [((0,0),(0,0))] []) Tryz.results220 hc
theorem MA {s:ByteArray}{d:DS}{b:Nat}(hb:b<256) (h:d.is s b=true):d.pl<s.size∧d.code=0∧bAt s d.pl=b:=by
 unfold DS.is at h
 simp only[Bool.and_eq_true,decide_eq_true_eq,beq_iff_eq]at h
 exact⟨CP (by omega),h.1,h.2⟩
theorem Dn (s:ByteArray) (hs:s.size≤1000000) (d:DS) (hd:d.pl≤s.size) (b:Nat) (hb:b<256):AC Tryz.prog 177 [.ptr (0,0) 0,.c (.int .u8 b)] (dsM s d) (.c (.bool (d.is s b))) (dsM s (d.take s b)):=by
 have hi:=Zb s d hd b hb
 unfold DS.take
 cases h:d.is s b with
 |true =>
  rw[h]at hi
  obtain⟨h1,_,_⟩:=MA hb h
  simp only[if_true]
  unfold DS.go
  simp only[Au]at hi ⊢
  generalize d.pl=pl at *
  have hw:=Ae (k:=pl) (by omega)
  refine A6 Tryz.func177 Tryz.ntmps177 ?_
  refine A0 trivial ?_
  refine Ah (A4 [((0,0),(0,0))] [((0,0),(0,0))] hi) trivial ?_
  refine A0 hw ?_
  exact A9 (A8 [((0,0),(0,0))] []) Tryz.results177 hw
 |false =>
  rw[h]at hi
  simp only[Bool.false_eq_true,if_false]
  simp only[Au]at hi ⊢
  refine A6 Tryz.func177 Tryz.ntmps177 ?_
  refine A0 trivial ?_
  refine Ah (A4 [((0,0),(0,0))] [((0,0),(0,0))] hi) trivial ?_
  refine A0 trivial ?_
  exact A9 (A8 [((0,0),(0,0))] []) Tryz.results177 h
theorem I9 (s:ByteArray) (hs:s.size≤1000000) (d:DS) (hd:d.pl≤s.size) (b:Nat) (hb:b<256):AC Tryz.prog 181 [.ptr (0,0) 0,.c (.int .u8 b)] (dsM s d) (.tup []) (dsM s (d.want s b)):=by
 have ht:=Dn s hs d hd b hb
 have hf:=Cd s d 5 d.pl
 unfold DS.take at ht
 unfold DS.want
 cases h:d.is s b with
 |true =>
  rw[h]at ht
  simp only[if_true]at ht ⊢
  generalize d.go (d.pl+1)=d2 at *
  simp only[Au]at ht ⊢
  refine A6 Tryz.func181 Tryz.ntmps181 ?_
  refine A0 trivial ?_
  refine Ah (A4 [((0,0),(0,0))] [((0,0),(0,0))] ht) trivial ?_
  refine A0 trivial ?_
  exact A9 (A8 [((0,0),(0,0))] []) Tryz.results181 h
 |false =>
  rw[h]at ht
  simp only[Bool.false_eq_true,if_false]at ht ⊢
  generalize d.fail 5 d.pl=d2 at *
  simp only[Au]at ht hf ⊢
  refine A6 Tryz.func181 Tryz.ntmps181 ?_
  refine A0 trivial ?_
  refine Ah (A4 [((0,0),(0,0))] [((0,0),(0,0))] ht) trivial ?_
  refine A0 trivial ?_
  refine Ah (A4 [((0,0),(0,0))] [((0,0),(0,0))] hf) trivial ?_
  refine A0 trivial ?_
  exact A9 (A8 [((0,0),(0,0))] []) Tryz.results181 h
theorem Em (s:ByteArray) (hs:s.size≤1000000) (d:DS) (hd:d.pl≤s.size):AC Tryz.prog 118 [.ptr (0,0) 0] (dsM s d) (.tup []) (dsM s (d.skip s)):=by
 have hk:=Ma s hs d.pl hd
 unfold DS.skip DS.go
 simp only[Au]
 generalize Af s d.pl=e at *
 generalize d.pl=pl at *
 refine A6 Tryz.func118 Tryz.ntmps118 ?_
 refine A0 trivial ?_
 refine w7 (A3 [] hk) trivial ?_
 refine A0 trivial ?_
 exact A9 (A8 [((0,0),(0,0))] []) Tryz.results118 hd
theorem CC (d:DS) (c:Int) (p:Nat):(d.fail c p).pl=d.pl:=by unfold DS.fail;split<;>rfl
theorem EQ {s:ByteArray}{d:DS}{b:Nat}(hb:b<256) (h:d.pl≤s.size):d.pl≤(d.want s b).pl∧(d.want s b).pl≤s.size∧(d.want s b).pl≤d.pl+1:=by
 unfold DS.want
 cases hi:d.is s b with
 |true =>
  obtain⟨h1,_,_⟩:=MA hb hi
  simp only[if_true]
  unfold DS.go
  exact⟨Nat.le_succ _,h1,Nat.le_refl _⟩
 |false =>
  simp only[Bool.false_eq_true,if_false]
  rw[CC]
  exact⟨Nat.le_refl _,h,Nat.le_succ _⟩
theorem Cc {s:ByteArray}{d:DS}(h:d.pl≤s.size):d.pl≤(d.skip s).pl∧(d.skip s).pl≤s.size:=⟨(AM h).1,(AM h).2.1⟩
theorem Il {s:ByteArray}:∀{l:List Nat}{d:DS},(∀b∈l,b<256)→d.pl≤s.size→d.pl≤(d.word s l).pl∧(d.word s l).pl≤s.size
 | [],_,_,h=>⟨Nat.le_refl _,h⟩
 |b::r,d,hb,h=>by
  obtain⟨h1,h2,_⟩:=EQ (hb b (by simp)) h
  obtain⟨g1,g2⟩:=Il (l:=r) (fun x hx=>hb x (by simp[hx])) h2
  unfold DS.word
  exact⟨by omega,g2⟩
theorem N0 {s:ByteArray}:∀(l:List Nat) (d:DS) (b:Nat),d.word s (l++[b])=(d.word s l).want s b
 | [],_,_=>rfl
 |a::l,d,b=>by
  show (d.want s a).word s (l++[b])=((d.want s a).word s l).want s b
  exact N0 l _ b
theorem Kf (s:ByteArray) (hs:s.size≤1000000) (d:DS) (hd:d.pl≤s.size) (w:ByteArray) (hw:w.size≤100):AC Tryz.prog 171 [.ptr (0,0) 0,.c (.str w)] (dsM s d) (.tup []) (dsM s (d.word s (w.data.toList.map UInt8.toNat))):=by
 have hlen:(w.data.toList.map UInt8.toNat).length=w.size:=by simp
 obtain⟨l,hl⟩:∃l,w.data.toList.map UInt8.toNat=l:=⟨_,rfl⟩
 have hlb:∀b∈l,b<256:=fun b hb=>by
  rw[←hl]at hb
  obtain⟨x,_,rfl⟩:=List.mem_map.1 hb
  exact x.toNat_lt
 have hat:∀k (hk:k<w.size),∃b:UInt8,w[k]? = some b∧l[k]? = some b.toNat:=fun k hk=>by
  obtain⟨b,hb,hb2⟩:=Aw hk
  refine⟨b,hb,?_⟩
  have:=DA w k
  rw[←hl,List.getElem?_map]
  cases hq:w.data.toList[k]? with
  |none=>rw[List.getElem?_eq_none_iff,AL]at hq;omega
  |some b' =>
   rw[hq,hb2]at this
   simp only at this
   rw[Option.map_some,this]
 rw[hl]at hlen ⊢
 have hz:d.word s (l.take 0)=d:=by rw[List.take_zero];rfl
 simp only[Au]
 refine A6 Tryz.func171 Tryz.ntmps171 ?_
 refine A0 trivial ?_
 refine AG (κ:=Nat) (fun k=>⟨mkS 0 16 [(0,.ptr (0,0) 0),(1,.c (.str w)),(6,.c (.int .i64 w.size)),(7,.c (.int .i64 k))],dsM s (d.word s (l.take k))⟩) (fun k=>k≤w.size) (fun k=>w.size-k) 0 (Nat.zero_le _) ?_ ?_
 ·simp only[hz,Au]
  exact Aq (As.of [((0,0),(0,0))] []) hd
 ·intro k hk
  by_cases hlt:k<w.size
  ·have hdk:decide ((k:Int)<(w.size:Int))=true:=by simpa using hlt
   have hwk:=Ae (k:=k) (by omega)
   obtain⟨b,hg,hlk⟩:=hat k hlt
   obtain⟨hkl,hke⟩:=List.getElem?_eq_some_iff.1 hlk
   have hnext:d.word s (l.take (k+1))=(d.word s (l.take k)).want s b.toNat:=by rw[List.take_succ_eq_append_getElem hkl,hke,N0]
   have hp:=(Il (s:=s) (l:=l.take k) (d:=d) (fun x hx=>hlb x (List.mem_of_mem_take hx)) hd).2
   have hwa:=I9 s hs (d.word s (l.take k)) hp b.toNat b.toNat_lt
   rw[←hnext]at hwa
   obtain⟨d2,hd2⟩:∃d2,d.word s (l.take (k+1))=d2:=⟨_,rfl⟩
   rw[hd2]at hwa
   simp only[Au]at hwa ⊢
   refine A0 (j2 hdk hg) ?_
   refine Ah (A4 [((0,0),(0,0))] [((0,0),(0,0))] hwa) trivial ?_
   refine A0 hwk ?_
   refine⟨k+1,by omega,by omega,?_⟩
   exact Aq (As.of [((0,0),(0,0))] []) (j2 hwk hd2)
  ·have hdk:decide ((k:Int)<(w.size:Int))=false:=by simpa using hlt
   have hke:l.take k=l:=List.take_of_length_le (by omega)
   simp only[hke,Au]
   refine A0 hdk ?_
   exact A9 (A8 [((0,0),(0,0))] []) Tryz.results171 hdk
end
end Go.Proofs.YtllfmaflodbieaaGreatDoor
