/- Texts of this proof: E40 D13. -/
import Derived.Lib.IfaceEq
import Derived.Lib.IfaceNeq
import Derived.Test.YtlciedpfjhkkdaaGreatDoorKM53
set_option linter.all false
set_option maxHeartbeats 8000000
namespace Go.Proofs.YtlciedpfjhkkdaaGreatDoor
section
open Go.RowKit
section
variable {P:Program} {o:Oper} {σ:ASt}
theorem run_mkIface {t:TypeId}{x:Operand}{k:IntKind}{n:Int}(ho:o.op=.makeInterface t x) (hx:σ.ev x=.c (.int k n)) (hc:P.concrete t=true):OpRun P o σ ⟨[],[],.c (.raw (.iface t (.int k n)))⟩:=by
 refine OpRun.pure fun Γ σ' a w ow κ hag hr=>?_
 have e1:=AR.int (hag.ev hr (by rw[ho];simp[Op.operands]) hx)
 refine⟨.iface t (.int k n),?_,⟨rfl,rfl,rfl⟩⟩
 unfold execOp
 rw[ho]
 simp[e1,run_makeInterface _ _ _ hc]
theorem run_rawNil {op:BinOp}{t t':TypeId}{y:Operand}{q:Value}{tx:TypeId}{u:Value}{x:AV}(ho:o.op=.binOp op t y (.const q) t') (hy:σ.ev y=.c (.raw (.iface tx u))) (hz:σ.ev (.const q)=.c (.raw .nilIface))
  (ht:P.underlying t=some (.interface (P.methodsAt t))) (he:effEq op false=some x):OpRun P o σ ⟨[],[],x⟩:=by
 refine OpRun.pure fun Γ σ' a w ow κ hag hr=>?_
 have e1:=(hag.ev hr (by rw[ho];simp[Op.operands]) hy).1
 have e2:=(hag.ev hr (by rw[ho];simp[Op.operands]) hz).1
 refine run_eqv (b:=false) ho he e1 e2 (fun op=>?_) (run_eql_held_nil w t tx u ht) (run_neq_held_nil w t tx u ht)
 unfold eqGuard
 cases op<;>simp
theorem run_rawEq {op:BinOp}{t t':TypeId}{y z:Operand}{tx:TypeId}{k q:IntKind}{m n:Int}{ms:Array (String×TypeId)}{x:AV}{b:Bool}(ho:o.op=.binOp op t y z t') (hy:σ.ev y=.c (.raw (.iface tx (.int k m)))) (hz:σ.ev z=.c (.raw (.iface tx (.int k n))))
  (ht:P.underlying t=some (.interface ms)) (hc:(P.info? tx).map (·.comparable)=some true) (hu:P.underlying tx=some (.int q)) (hg:∀op w,(eqGuard op t y z (.iface tx (.int k m)) (.iface tx (.int k n))).run P w=.ok () w) (hb:(m==n)=b) (he:effEq op b=some x):OpRun P o σ ⟨[],[],x⟩:=by
 refine OpRun.pure fun Γ σ' a w ow κ hag hr=>?_
 have e1:=(hag.ev hr (by rw[ho];simp[Op.operands]) hy).1
 have e2:=(hag.ev hr (by rw[ho];simp[Op.operands]) hz).1
 subst hb
 exact run_eqv ho he e1 e2 (fun op=>hg op w) (Lib.run_eql_iface_int w m n ht hc hu) (Lib.run_neq_iface_int w m n ht hc hu)
theorem run_num2 {op:BinOp}{t t':TypeId}{y z:Operand}{k k':IntKind}{m n:Int}{c:C}{u:Value}(ho:o.op=.binOp op t y z t') (hy:σ.ev y=.c (.int k m)) (hz:σ.ev z=.c (.int k' n))
  (hg:∀w,(eqGuard op t y z (.int k m) (.int k' n)).run P w=.ok () w) (hq:∀w,(binOp op t (.int k m) (.int k' n)).run P w=.ok u w) (hc:∀w S,CR w S c u []):OpRun P o σ ⟨[],[],.c c⟩:=by
 refine OpRun.pure fun Γ σ' a w ow κ hag hr=>?_
 have e1:=AR.int (hag.ev hr (by rw[ho];simp[Op.operands]) hy)
 have e2:=AR.int (hag.ev hr (by rw[ho];simp[Op.operands]) hz)
 refine⟨u,?_,hc _ _⟩
 unfold execOp
 rw[ho]
 simp only[e1,e2,Sem.run_bind,hg,hq,Result.andThen_ok,Sem.run_pure]
theorem bytesRow_at (s:ByteArray) (cap j:Nat) (h:j<s.size):(bytesRow s cap)[j]? = some (.int .u8 ((s.data.toList[j]'(by simpa using h)).toNat:Int)):=by
 have h1:j<(s.data.map fun b=>Value.int .u8 b.toNat).size:=by simpa using h
 unfold bytesRow
 rw[Array.getElem?_append_left h1]
 simp
 exact⟨_,Array.getElem?_eq_getElem (by simpa using h),rfl⟩
theorem run_bytes {src dst e:TypeId}{x:Operand}{s:ByteArray}(ho:o.op=.convert src dst x) (hx:σ.ev x=.c (.str s)) (hs:P.underlying src=some .string) (hd:P.underlying dst=some (.slice e)) (he:P.underlying e=some (.int .u8)) :
  OpRun P o σ ⟨[],[],.c (.sl (byteRows s.data.toList))⟩:=by
 intro Γ σ' a w ow κ hag hr
 have e1:=AR.str (hag.ev hr (by rw[ho];simp[Op.operands]) hx)
 have hrun:=run_bytes_of_string (P:=P) w src dst e s hs hd he
 generalize hcp:grownCap w s.size 0 e=cap at hrun
 obtain⟨w',hw'⟩:∃w',w.drew.alloc (.cells (bytesRow s cap) e ((bytesRow s cap).size,(bytesRow s cap).size+1))=w':=⟨_,rfl⟩
 rw[hw']at hrun
 have hheap:w'.heap=w.heap.push (.cells (bytesRow s cap) e ((bytesRow s cap).size,(bytesRow s cap).size+1)):=by rw[←hw'];rfl
 have hold:∀b,b<w.heap.size→w'.heap[b]? = w.heap[b]?:=fun b hb=>by rw[hheap,Array.getElem?_push_lt hb,Array.getElem?_eq_getElem hb]
 have hnew:w'.heap[w.heap.size]? = some (.cells (bytesRow s cap) e ((bytesRow s cap).size,(bytesRow s cap).size+1)):=by rw[hheap];simp
 have hno:ow w.heap.size=none:=by
  cases h:ow w.heap.size with
  |none=>rfl
  |some i=>have:=(hr.own _ _ h).1;omega
 have hsz:w'.heap.size=w.heap.size+1:=by rw[hheap];simp
 have st:Step σ'.mem [] w ow κ w' ow κ:=⟨by rw[←hw'];rfl,by rw[←hw'];rfl,by rw[←hw'];rfl,by omega,fun b hb _=>⟨hold b hb,rfl⟩,fun b i hb=>.inl ⟨by simp,hb⟩,fun _ _ _=>rfl,fun i hi=>by simp at hi⟩
 have hcell:∀j (hj:j<s.data.toList.length),w'.cell? ⟨w.heap.size,j,none⟩=some (.int .u8 ((s.data.toList[j]).toNat:Int)):=fun j hj=>by
  have h1:=bytesRow_at s cap j (by simpa using hj)
  unfold World.cell?
  simp only[hnew]
  simpa using h1
 have hres:CR w' (Γ.sees ow) (.sl (byteRows s.data.toList)) (.slice (some ⟨w.heap.size,0,none⟩) s.size cap) []:=by
  have hlen:(byteRows s.data.toList).length=s.size:=by simp[byteRows]
  refine⟨1,some ⟨w.heap.size,0,none⟩,cap,s.data.toList.map fun b=>[.int .u8 (b.toNat:Int)],by rw[hlen],by rw[hlen,←hcp];exact grownCap_ge w _ _ _,trivial,?_,?_,rfl⟩
  ·refine⟨fun x hx=>?_,fun hn=>⟨w.heap.size,0,rfl,⟨hno,.inr (.inl hr.size)⟩,by omega,fun i x hx j u hu=>?_⟩⟩
   ·obtain⟨b,_,rfl⟩:=List.mem_map.1 hx
    rfl
   ·rw[List.getElem?_map]at hx
    cases hq:s.data.toList[i]? with
    |none=>rw[hq]at hx;cases hx
    |some b =>
     rw[hq]at hx
     simp only[Option.map_some,Option.some.injEq]at hx
     subst hx
     obtain⟨hi,hb⟩:=List.getElem?_eq_some_iff.1 hq
     cases j with
     |zero =>
      simp only[List.getElem?_cons_zero,Option.some.injEq]at hu
      subst hu
      have:=hcell i hi
      rw[hb]at this
      simpa using this
     |succ j=>simp at hu
  ·have:∀l:List UInt8,CRss w' (Γ.sees ow) (byteRows l) (l.map fun b=>[Value.int .u8 (b.toNat:Int)]) []:=by
    intro l
    induction l with
    |nil=>simp[byteRows,CRss]
    |cons b l ih =>
     simp only[byteRows,List.map_cons,CRss]
     exact⟨_,_,[],[],rfl,rfl,⟨_,_,[],[],rfl,rfl,⟨rfl,rfl⟩,rfl,rfl⟩,ih⟩
   exact this _
 refine⟨_,w',ow,κ,.inl ?_,hr.step (E:=⟨[],[],.c (.sl (byteRows s.data.toList))⟩) st hres (fun i hi=>by simp at hi) o.dst⟩
 unfold execOp
 rw[ho]
 simp[e1,hrun]
theorem run_conv0 {src dst e t:TypeId}{x:Operand}{i:Id}(ho:o.op=.convert src dst x) (hx:σ.ev x=.own i) (hs:P.underlying src=some (.slice e)) (he:P.underlying e=some (.int .u8)) (hd:P.underlying dst=some .string)
  (hi:σ.mem.get i=some (.row false 1 t [])):OpRun P o σ ⟨[i],[],.c (.str ByteArray.empty)⟩:=by
 refine OpRun.pure fun Γ σ' a w ow κ hag hr=>?_
 have hi':σ'.mem.get i=some (.row false 1 t []):=by rw[hag.2.1 i (by simp),hi]
 obtain⟨_,o1,k1,k2⟩:=hag.ev hr (by rw[ho];simp[Op.operands]) hx
 rw[hi']at k1
 cases k1
 have e1:=k2 (by simp)
 obtain⟨vrows,bs,h1,h2,h3,h4,h5,h6⟩:=hr.objs i _ hi'
 obtain⟨_,⟨h7,h8⟩ | ⟨b,cap,cs,h7,_⟩⟩:=h4
 ·refine⟨.string ByteArray.empty,?_,⟨rfl,rfl⟩⟩
  have hrun:=run_convert_bytes_nil (P:=P) (w:=w) src e hs he 0 0 dst hd
  unfold execOp
  rw[ho]
  simp[e1,h7,hrun]
 ·refine⟨.string ByteArray.empty,?_,⟨rfl,rfl⟩⟩
  have hrun:(convert src dst (.slice (some ⟨b,0,none⟩) 0 cap)).run P w=.ok (.string ByteArray.empty) w:=run_convert_bytes_back (P:=P) w src dst e ⟨b,0,none⟩ cap [] hs he hd (fun j hj=>by simp at hj)
  have h7':κ i=.slice (some ⟨b,0,none⟩) 0 cap:=h7
  unfold execOp
  rw[ho]
  simp[e1,h7',hrun]
end
section
variable {P:Program} {σ τ:ASt} {ops:Array Oper} {r:List Oper} {fs:List AEff} {K:ASt→List AEff→Prop} {E:AEff} {d:Option Tmp} {ty':TypeId} {pos:String} {af:Array Edge} {gd:Option (Nat×Bool)}
theorem op_mkIface {t:TypeId}{x:Operand}{k:IntKind}{n:Int}(hc:P.concrete t=true) (hg:gate ops σ ⟨d,.makeInterface t x,ty',pos,af,gd⟩=some true) (hx:σ.ev x=.c (.int k n))
  (hE:(⟨[],[],.c (.raw (.iface t (.int k n)))⟩:AEff)=E) (hτ:σ.upd d E=τ) (h:awpOps P ops r τ (fs++[E]) K):awpOps P ops (⟨d,.makeInterface t x,ty',pos,af,gd⟩::r) σ fs K:=by
 subst hE
 exact op_known hg (run_mkIface rfl hx hc).sound hτ h
theorem op_rawNil {op:BinOp}{t t':TypeId}{y:Operand}{q:Value}{tx:TypeId}{u:Value}{x:AV}(ht:P.underlying t=some (.interface (P.methodsAt t))) (hg:gate ops σ ⟨d,.binOp op t y (.const q) t',ty',pos,af,gd⟩=some true) (hy:σ.ev y=.c (.raw (.iface tx u))) (hz:σ.ev (.const q)=.c (.raw .nilIface)) (he:effEq op false=some x)
  (hE:(⟨[],[],x⟩:AEff)=E) (hτ:σ.upd d E=τ) (h:awpOps P ops r τ (fs++[E]) K):awpOps P ops (⟨d,.binOp op t y (.const q) t',ty',pos,af,gd⟩::r) σ fs K:=by
 subst hE
 exact op_known hg (run_rawNil rfl hy hz ht he).sound hτ h
theorem op_rawEq {op:BinOp}{t t':TypeId}{y z:Operand}{tx:TypeId}{k q:IntKind}{m n:Int}{ms:Array (String×TypeId)}{x:AV}{b:Bool}(ht:P.underlying t=some (.interface ms)) (hc:(P.info? tx).map (·.comparable)=some true) (hu:P.underlying tx=some (.int q))
  (hg:gate ops σ ⟨d,.binOp op t y z t',ty',pos,af,gd⟩=some true) (hy:σ.ev y=.c (.raw (.iface tx (.int k m)))) (hz:σ.ev z=.c (.raw (.iface tx (.int k n)))) (hgu:∀op w,(eqGuard op t y z (.iface tx (.int k m)) (.iface tx (.int k n))).run P w=.ok () w) (hb:(m==n)=b) (he:effEq op b=some x)
  (hE:(⟨[],[],x⟩:AEff)=E) (hτ:σ.upd d E=τ) (h:awpOps P ops r τ (fs++[E]) K):awpOps P ops (⟨d,.binOp op t y z t',ty',pos,af,gd⟩::r) σ fs K:=by
 subst hE
 exact op_known hg (run_rawEq rfl hy hz ht hc hu hgu hb he).sound hτ h
theorem op_num2 {op:BinOp}{t t':TypeId}{y z:Operand}{k k':IntKind}{m n:Int}{c:C}{u:Value}(hq:∀w,(binOp op t (.int k m) (.int k' n)).run P w=.ok u w) (hc:∀w S,CR w S c u []) (hgu:∀w,(eqGuard op t y z (.int k m) (.int k' n)).run P w=.ok () w)
  (hg:gate ops σ ⟨d,.binOp op t y z t',ty',pos,af,gd⟩=some true) (hy:σ.ev y=.c (.int k m)) (hz:σ.ev z=.c (.int k' n))
  (hE:(⟨[],[],.c c⟩:AEff)=E) (hτ:σ.upd d E=τ) (h:awpOps P ops r τ (fs++[E]) K):awpOps P ops (⟨d,.binOp op t y z t',ty',pos,af,gd⟩::r) σ fs K:=by
 subst hE
 exact op_known hg (run_num2 rfl hy hz hgu hq hc).sound hτ h
theorem op_bytes {src dst e:TypeId}{x:Operand}{s:ByteArray}{rows:List (List C)}(hy:byteRows s.data.toList=rows) (hs:P.underlying src=some .string) (hd:P.underlying dst=some (.slice e)) (he:P.underlying e=some (.int .u8))
  (hg:gate ops σ ⟨d,.convert src dst x,ty',pos,af,gd⟩=some true) (hx:σ.ev x=.c (.str s))
  (hE:(⟨[],[],.c (.sl rows)⟩:AEff)=E) (hτ:σ.upd d E=τ) (h:awpOps P ops r τ (fs++[E]) K):awpOps P ops (⟨d,.convert src dst x,ty',pos,af,gd⟩::r) σ fs K:=by
 subst hE hy
 exact op_known hg (run_bytes rfl hx hs hd he).sound hτ h
theorem op_convB {src dst e t:TypeId}{x:Operand}{i:Id}{y:ByteArray}(l:List UInt8) (hy:(⟨l.toArray⟩:ByteArray)=y) (hs:P.underlying src=some (.slice e)) (he:P.underlying e=some (.int .u8)) (hd:P.underlying dst=some .string)
  (hg:gate ops σ ⟨d,.convert src dst x,ty',pos,af,gd⟩=some true) (hx:σ.ev x=.own i) (hi:σ.mem.get i=some (.row false 1 t (byteRows l)))
  (hE:(⟨[i],[],.c (.str y)⟩:AEff)=E) (hτ:σ.upd d E=τ) (h:awpOps P ops r τ (fs++[E]) K):awpOps P ops (⟨d,.convert src dst x,ty',pos,af,gd⟩::r) σ fs K:=by
 subst hE hy
 cases l with
 |nil=>exact op_known hg (run_conv0 rfl hx hs he hd hi).sound hτ h
 |cons b l=>exact op_known hg (run_conv (b::l) (by simp) rfl hx hs he hd hi).sound hτ h
end
theorem ev_nilI (σ:ASt):σ.ev (.const .nilIface)=.c (.raw .nilIface):=rfl
attribute [go_sem] ev_nilI
end
section
open Go.RowKit
set_option maxRecDepth 10000
def boxD (s:ByteArray) (d:DS):AO:=.box [.c (.str s),.c (.int .i64 d.pl),.c (.int .i64 d.code),.c (.int .i64 d.bad)]
abbrev dsM (s:ByteArray) (d:DS):Mem:=[((0,0),boxD s d)]
theorem dsM_eq (s:ByteArray) (d:DS):dsM s d=[((0,0),.box [.c (.str s),.c (.int .i64 d.pl),.c (.int .i64 d.code),.c (.int .i64 d.bad)])]:=rfl
theorem isBlank_ac (n:Nat):AC Tryz.prog 186 [.c (.int .u8 n)] [] (.c (.bool (blankB n))) []:=by
 rw[blank_cast]
 generalize (n:Int)=z
 cases h1:z==32
 ·cases h2:z==9
  ·cases h3:z==10
   ·cases h4:z==13
    all_goals
     refine wEnter Tryz.func186 Tryz.ntmps186 ?_
     refine wRUN (j4 h1 h2 h3 h4) ?_
     exact wRet (ret_data []) Tryz.results186
   ·refine wEnter Tryz.func186 Tryz.ntmps186 ?_
    refine wRUN (j3 h1 h2 h3) ?_
    exact wRet (ret_data []) Tryz.results186
  ·refine wEnter Tryz.func186 Tryz.ntmps186 ?_
   refine wRUN (j2 h1 h2) ?_
   exact wRet (ret_data []) Tryz.results186
 ·refine wEnter Tryz.func186 Tryz.ntmps186 ?_
  refine wRUN h1 ?_
  exact wRet (ret_data []) Tryz.results186
theorem skipBlanks_ac (s:ByteArray) (hs:s.size≤1000000) (i:Nat) (hi:i≤s.size):AC Tryz.prog 147 [.c (.str s),.c (.int .i64 i)] [] (.c (.int .i64 (skipB s i))) []:=by
 refine wEnter Tryz.func147 Tryz.ntmps147 ?_
 refine wRUN trivial ?_
 refine a_loop (κ:=Nat) (fun j=>⟨mkS 0 18 [(0,.c (.str s)),(1,.c (.int .i64 j))],[]⟩) (fun j=>j≤s.size∧skipB s j=skipB s i) (fun j=>s.size-j) i ⟨hi,rfl⟩ ?_ ?_
 ·exact wSays (Says.of [] []) hi
 ·rintro j ⟨hj,hsk⟩
  by_cases hlt:j<s.size
  ·have hdk:decide ((j:Int)<(s.size:Int))=true:=by simpa using hlt
   have hw:=wrap_succ (k:=j) (by omega)
   obtain⟨b,hg,hb⟩:=bAt_in hlt
   have hbl:=isBlank_ac b.toNat
   rw[←hb]at hbl
   have hbn:((b.toNat:Nat):Int)=((bAt s j:Nat):Int):=by rw[hb]
   cases hbk:blankB (bAt s j) with
   |true =>
    rw[hbk]at hbl
    refine wRUN (j3 hdk hg hbn) ?_
    refine w7 (op_data [] hbl) trivial ?_
    refine wRUN hw ?_
    refine⟨j+1,by omega,⟨by omega,by rw[←skip_blank hbk,hsk]⟩,?_⟩
    exact wSays (Says.of [] []) hw
   |false =>
    rw[hbk]at hbl
    have he:=skip_stop hbk
    rw[he]at hsk
    subst hsk
    refine wRUN (j3 hdk hg hbn) ?_
    refine w7 (op_data [] hbl) trivial ?_
    refine wRUN trivial ?_
    exact wRet (ret_data []) Tryz.results147
  ·have hdk:decide ((j:Int)<(s.size:Int))=false:=by simpa using hlt
   have he:=skip_stop (s:=s) (i:=j) (by rw[bAt_end (by omega)];rfl)
   rw[he]at hsk
   subst hsk
   refine wRUN hdk ?_
   exact wRet (ret_data []) Tryz.results147
theorem isDigit_ac (n:Nat):AC Tryz.prog 136 [.c (.int .u8 n)] [] (.c (.bool (digB n))) []:=by
 rw[dig_cast]
 generalize (n:Int)=z
 cases h1:decide (z≥48)
 ·refine wEnter Tryz.func136 Tryz.ntmps136 ?_
  refine wRUN h1 ?_
  exact wRet (ret_data []) Tryz.results136
 ·cases h2:decide (z≤57)
  all_goals
   refine wEnter Tryz.func136 Tryz.ntmps136 ?_
   refine wRUN (j2 h1 h2) ?_
   exact wRet (ret_data []) Tryz.results136
theorem digitsAt_ac (s:ByteArray) (hs:s.size≤1000000) (i:Nat) (hi:i≤s.size):AC Tryz.prog 180 [.c (.str s),.c (.int .i64 i)] [] (.c (.int .i64 ((digE s i-i:Nat):Int))) []:=by
 obtain⟨e1,e2,e3,e4⟩:=digE_in hi
 refine wEnter Tryz.func180 Tryz.ntmps180 ?_
 refine wRUN trivial ?_
 refine a_loop (κ:=Nat) (fun j=>⟨mkS 0 23 [(0,.c (.str s)),(1,.c (.int .i64 i)),(5,.c (.int .i64 j))],[]⟩) (fun j=>i+j≤digE s i) (fun j=>s.size-(i+j)) 0 e1 ?_ ?_
 ·exact wSays (Says.of [] []) trivial
 ·intro j hj
  have hwp:=wrap_plus (a:=i) (b:=j) (by omega)
  have hw:=wrap_succ (k:=j) (by omega)
  by_cases hlt:i+j<s.size
  ·have hdk:decide (((i+j:Nat):Int)<(s.size:Int))=true:=decide_eq_true (by omega)
   obtain⟨b,hg,hb⟩:=bAt_in hlt
   have hbl:=isDigit_ac b.toNat
   rw[←hb]at hbl
   have hbn:((b.toNat:Nat):Int)=((bAt s (i+j):Nat):Int):=by rw[hb]
   by_cases hend:i+j=digE s i
   ·have hbk:digB (bAt s (i+j))=false:=by rw[hend];exact e3
    have hres:digE s i-i=j:=by omega
    rw[hbk]at hbl
    rw[hres]
    refine wRUN (j4 hwp hdk hg hbn) ?_
    refine w7 (op_data [] hbl) trivial ?_
    refine wRUN trivial ?_
    exact wRet (ret_data []) Tryz.results180
   ·have hbk:digB (bAt s (i+j))=true:=e4 _ (by omega) (by omega)
    rw[hbk]at hbl
    refine wRUN (j4 hwp hdk hg hbn) ?_
    refine w7 (op_data [] hbl) trivial ?_
    refine wRUN hw ?_
    refine⟨j+1,by omega,by omega,?_⟩
    exact wSays (Says.of [] []) hw
  ·have hdk:decide (((i+j:Nat):Int)<(s.size:Int))=false:=decide_eq_false (by omega)
   have hres:digE s i-i=j:=by omega
   rw[hres]
   refine wRUN (j2 hwp hdk) ?_
   exact wRet (ret_data []) Tryz.results180
theorem hex_dig {n:Nat}(hn:n<256):decide (0≤hexB n)=((digB n||(decide ((n:Int)≥97)&&decide ((n:Int)≤102)))||(decide ((n:Int)≥65)&&decide ((n:Int)≤70))):=by
 rw[Bool.eq_iff_iff]
 unfold hexB digB
 simp only[Bool.and_eq_true,decide_eq_true_eq,Bool.or_eq_true]
 by_cases h1:48≤n<;>by_cases h2:n≤57<;>by_cases h3:97≤n<;>by_cases h4:n≤102<;>by_cases h5:65≤n<;>by_cases h6:n≤70<;>simp[h1,h2,h3,h4,h5,h6]<;>omega
theorem isHex_ac (n:Nat) (hn:n<256):AC Tryz.prog 236 [.c (.int .u8 n)] [] (.c (.bool (decide (0≤hexB n)))) []:=by
 rw[hex_dig hn]
 have hd:=isDigit_ac n
 cases h0:digB n with
 |true =>
  rw[h0]at hd
  refine wEnter Tryz.func236 Tryz.ntmps236 ?_
  refine wRUN trivial ?_
  refine w7 (op_data [] hd) trivial ?_
  refine wRUN trivial ?_
  exact wRet (ret_data []) Tryz.results236
 |false =>
  rw[h0]at hd
  generalize (n:Int)=z at *
  cases h1:decide (z≥97)<;>cases h2:decide (z≤102)<;>cases h3:decide (z≥65)<;>cases h4:decide (z≤70)
  all_goals
   refine wEnter Tryz.func236 Tryz.ntmps236 ?_
   refine wRUN trivial ?_
   refine w7 (op_data [] hd) trivial ?_
   refine wRUN (j4 h1 h2 h3 h4) ?_
   exact wRet (ret_data []) Tryz.results236
theorem fail_ac (s:ByteArray) (d:DS) (c:Int) (p:Nat):AC Tryz.prog 81 [.ptr (0,0) 0,.c (.int .i64 c),.c (.int .i64 p)] (dsM s d) (.tup []) (dsM s (d.fail c p)):=by
 unfold DS.fail
 obtain⟨pl,code,bad⟩:=d
 by_cases h:code=0
 ·subst h
  simp only[if_true,dsM_eq]
  have h00:((0:Int)==0)=true:=rfl
  refine wEnter Tryz.func81 Tryz.ntmps81 ?_
  refine wRUN h00 ?_
  exact wRetOf (ret_of [((0,0),(0,0))] []) Tryz.results81 trivial
 ·have hc:(code==0)=false:=by simpa using h
  simp only[if_neg h,dsM_eq]
  refine wEnter Tryz.func81 Tryz.ntmps81 ?_
  refine wRUN hc ?_
  exact wRetOf (ret_of [((0,0),(0,0))] []) Tryz.results81 hc
theorem is_ac (s:ByteArray) (d:DS) (hd:d.pl≤s.size) (b:Nat) (hb:b<256):AC Tryz.prog 184 [.ptr (0,0) 0,.c (.int .u8 b)] (dsM s d) (.c (.bool (d.is s b))) (dsM s d):=by
 unfold DS.is
 obtain⟨pl,code,bad⟩:=d
 simp only at hd ⊢
 simp only[dsM_eq]
 by_cases h:code=0
 ·subst h
  simp only[decide_true,Bool.true_and]
  have h00:((0:Int)==0)=true:=rfl
  by_cases hlt:pl<s.size
  ·have hdk:decide ((pl:Int)<(s.size:Int))=true:=by simpa using hlt
   obtain⟨b1,hg,hb1⟩:=bAt_in hlt
   have hq:(((b1.toNat:Nat):Int)==((b:Nat):Int))=(bAt s pl==b):=by rw[hb1];exact cast_beq _ _
   refine wEnter Tryz.func184 Tryz.ntmps184 ?_
   refine wRUN (j4 h00 hdk hg hq) ?_
   exact wRetOf (ret_of [((0,0),(0,0))] []) Tryz.results184 hdk
  ·have hdk:decide ((pl:Int)<(s.size:Int))=false:=by simpa using hlt
   have hq:(bAt s pl==b)=false:=by rw[bAt_end (by omega)];simp;omega
   rw[hq]
   refine wEnter Tryz.func184 Tryz.ntmps184 ?_
   refine wRUN (j2 h00 hdk) ?_
   exact wRetOf (ret_of [((0,0),(0,0))] []) Tryz.results184 hdk
 ·have hc:(code==0)=false:=by simpa using h
  simp only[h,decide_false,Bool.false_and]
  refine wEnter Tryz.func184 Tryz.ntmps184 ?_
  refine wRUN hc ?_
  exact wRetOf (ret_of [((0,0),(0,0))] []) Tryz.results184 hc
theorem is_lt {s:ByteArray}{d:DS}{b:Nat}(hb:b<256) (h:d.is s b=true):d.pl<s.size∧d.code=0∧bAt s d.pl=b:=by
 unfold DS.is at h
 simp only[Bool.and_eq_true,decide_eq_true_eq,beq_iff_eq]at h
 exact⟨bAt_lt (by omega),h.1,h.2⟩
theorem take_ac (s:ByteArray) (hs:s.size≤1000000) (d:DS) (hd:d.pl≤s.size) (b:Nat) (hb:b<256):AC Tryz.prog 140 [.ptr (0,0) 0,.c (.int .u8 b)] (dsM s d) (.c (.bool (d.is s b))) (dsM s (d.take s b)):=by
 have hi:=is_ac s d hd b hb
 unfold DS.take
 cases h:d.is s b with
 |true =>
  rw[h]at hi
  obtain⟨h1,_,_⟩:=is_lt hb h
  simp only[if_true]
  unfold DS.go
  simp only[dsM_eq]at hi ⊢
  generalize d.pl=pl at *
  have hw:=wrap_succ (k:=pl) (by omega)
  refine wEnter Tryz.func140 Tryz.ntmps140 ?_
  refine wRUN trivial ?_
  refine wCall (op_any_call [((0,0),(0,0))] [((0,0),(0,0))] hi) trivial ?_
  refine wRUN hw ?_
  exact wRetOf (ret_of [((0,0),(0,0))] []) Tryz.results140 hw
 |false =>
  rw[h]at hi
  simp only[Bool.false_eq_true,if_false]
  simp only[dsM_eq]at hi ⊢
  refine wEnter Tryz.func140 Tryz.ntmps140 ?_
  refine wRUN trivial ?_
  refine wCall (op_any_call [((0,0),(0,0))] [((0,0),(0,0))] hi) trivial ?_
  refine wRUN trivial ?_
  exact wRetOf (ret_of [((0,0),(0,0))] []) Tryz.results140 h
theorem want_ac (s:ByteArray) (hs:s.size≤1000000) (d:DS) (hd:d.pl≤s.size) (b:Nat) (hb:b<256):AC Tryz.prog 145 [.ptr (0,0) 0,.c (.int .u8 b)] (dsM s d) (.tup []) (dsM s (d.want s b)):=by
 have ht:=take_ac s hs d hd b hb
 have hf:=fail_ac s d 5 d.pl
 unfold DS.take at ht
 unfold DS.want
 cases h:d.is s b with
 |true =>
  rw[h]at ht
  simp only[if_true]at ht ⊢
  generalize d.go (d.pl+1)=d2 at *
  simp only[dsM_eq]at ht ⊢
  refine wEnter Tryz.func145 Tryz.ntmps145 ?_
  refine wRUN trivial ?_
  refine wCall (op_any_call [((0,0),(0,0))] [((0,0),(0,0))] ht) trivial ?_
  refine wRUN trivial ?_
  exact wRetOf (ret_of [((0,0),(0,0))] []) Tryz.results145 h
 |false =>
  rw[h]at ht
  simp only[Bool.false_eq_true,if_false]at ht ⊢
  generalize d.fail 5 d.pl=d2 at *
  simp only[dsM_eq]at ht hf ⊢
  refine wEnter Tryz.func145 Tryz.ntmps145 ?_
  refine wRUN trivial ?_
  refine wCall (op_any_call [((0,0),(0,0))] [((0,0),(0,0))] ht) trivial ?_
  refine wRUN trivial ?_
  refine wCall (op_any_call [((0,0),(0,0))] [((0,0),(0,0))] hf) trivial ?_
  refine wRUN trivial ?_
  exact wRetOf (ret_of [((0,0),(0,0))] []) Tryz.results145 h
theorem skip_ac (s:ByteArray) (hs:s.size≤1000000) (d:DS) (hd:d.pl≤s.size):AC Tryz.prog 80 [.ptr (0,0) 0] (dsM s d) (.tup []) (dsM s (d.skip s)):=by
 have hk:=skipBlanks_ac s hs d.pl hd
 unfold DS.skip DS.go
 simp only[dsM_eq]
 generalize skipB s d.pl=e at *
 generalize d.pl=pl at *
 refine wEnter Tryz.func80 Tryz.ntmps80 ?_
 refine wRUN trivial ?_
 refine w7 (op_data [] hk) trivial ?_
 refine wRUN trivial ?_
 exact wRetOf (ret_of [((0,0),(0,0))] []) Tryz.results80 hd
theorem fail_pl (d:DS) (c:Int) (p:Nat):(d.fail c p).pl=d.pl:=by unfold DS.fail;split<;>rfl
theorem want_pl {s:ByteArray}{d:DS}{b:Nat}(hb:b<256) (h:d.pl≤s.size):d.pl≤(d.want s b).pl∧(d.want s b).pl≤s.size∧(d.want s b).pl≤d.pl+1:=by
 unfold DS.want
 cases hi:d.is s b with
 |true =>
  obtain⟨h1,_,_⟩:=is_lt hb hi
  simp only[if_true]
  unfold DS.go
  exact⟨Nat.le_succ _,h1,Nat.le_refl _⟩
 |false =>
  simp only[Bool.false_eq_true,if_false]
  rw[fail_pl]
  exact⟨Nat.le_refl _,h,Nat.le_succ _⟩
theorem skip_pl {s:ByteArray}{d:DS}(h:d.pl≤s.size):d.pl≤(d.skip s).pl∧(d.skip s).pl≤s.size:=⟨(skip_in h).1,(skip_in h).2.1⟩
theorem word_pl {s:ByteArray}:∀{l:List Nat}{d:DS},(∀b∈l,b<256)→d.pl≤s.size→d.pl≤(d.word s l).pl∧(d.word s l).pl≤s.size
 | [],_,_,h=>⟨Nat.le_refl _,h⟩
 |b::r,d,hb,h=>by
  obtain⟨h1,h2,_⟩:=want_pl (hb b (by simp)) h
  obtain⟨g1,g2⟩:=word_pl (l:=r) (fun x hx=>hb x (by simp[hx])) h2
  unfold DS.word
  exact⟨by omega,g2⟩
theorem word_snoc {s:ByteArray}:∀(l:List Nat) (d:DS) (b:Nat),d.word s (l++[b])=(d.word s l).want s b
 | [],_,_=>rfl
 |a::l,d,b=>by
  show (d.want s a).word s (l++[b])=((d.want s a).word s l).want s b
  exact word_snoc l _ b
theorem word_ac (s:ByteArray) (hs:s.size≤1000000) (d:DS) (hd:d.pl≤s.size) (w:ByteArray) (hw:w.size≤100):AC Tryz.prog 134 [.ptr (0,0) 0,.c (.str w)] (dsM s d) (.tup []) (dsM s (d.word s (w.data.toList.map UInt8.toNat))):=by
 have hlen:(w.data.toList.map UInt8.toNat).length=w.size:=by simp
 obtain⟨l,hl⟩:∃l,w.data.toList.map UInt8.toNat=l:=⟨_,rfl⟩
 have hlb:∀b∈l,b<256:=fun b hb=>by
  rw[←hl]at hb
  obtain⟨x,_,rfl⟩:=List.mem_map.1 hb
  exact x.toNat_lt
 have hat:∀k (hk:k<w.size),∃b:UInt8,w[k]? = some b∧l[k]? = some b.toNat:=fun k hk=>by
  obtain⟨b,hb,hb2⟩:=bAt_in hk
  refine⟨b,hb,?_⟩
  have:=bAt_list w k
  rw[←hl,List.getElem?_map]
  cases hq:w.data.toList[k]? with
  |none=>rw[List.getElem?_eq_none_iff,len_list]at hq;omega
  |some b' =>
   rw[hq,hb2]at this
   simp only at this
   rw[Option.map_some,this]
 rw[hl]at hlen ⊢
 have hz:d.word s (l.take 0)=d:=by rw[List.take_zero];rfl
 simp only[dsM_eq]
 refine wEnter Tryz.func134 Tryz.ntmps134 ?_
 refine wRUN trivial ?_
 refine a_loop (κ:=Nat) (fun k=>⟨mkS 0 16 [(0,.ptr (0,0) 0),(1,.c (.str w)),(6,.c (.int .i64 w.size)),(7,.c (.int .i64 k))],dsM s (d.word s (l.take k))⟩) (fun k=>k≤w.size) (fun k=>w.size-k) 0 (Nat.zero_le _) ?_ ?_
 ·simp only[hz,dsM_eq]
  exact wSays (Says.of [((0,0),(0,0))] []) hd
 ·intro k hk
  by_cases hlt:k<w.size
  ·have hdk:decide ((k:Int)<(w.size:Int))=true:=by simpa using hlt
   have hwk:=wrap_succ (k:=k) (by omega)
   obtain⟨b,hg,hlk⟩:=hat k hlt
   obtain⟨hkl,hke⟩:=List.getElem?_eq_some_iff.1 hlk
   have hnext:d.word s (l.take (k+1))=(d.word s (l.take k)).want s b.toNat:=by rw[List.take_succ_eq_append_getElem hkl,hke,word_snoc]
   have hp:=(word_pl (s:=s) (l:=l.take k) (d:=d) (fun x hx=>hlb x (List.mem_of_mem_take hx)) hd).2
   have hwa:=want_ac s hs (d.word s (l.take k)) hp b.toNat b.toNat_lt
   rw[←hnext]at hwa
   obtain⟨d2,hd2⟩:∃d2,d.word s (l.take (k+1))=d2:=⟨_,rfl⟩
   rw[hd2]at hwa
   simp only[dsM_eq]at hwa ⊢
   refine wRUN (j2 hdk hg) ?_
   refine wCall (op_any_call [((0,0),(0,0))] [((0,0),(0,0))] hwa) trivial ?_
   refine wRUN hwk ?_
   refine⟨k+1,by omega,by omega,?_⟩
   exact wSays (Says.of [((0,0),(0,0))] []) (j2 hwk hd2)
  ·have hdk:decide ((k:Int)<(w.size:Int))=false:=by simpa using hlt
   have hke:l.take k=l:=List.take_of_length_le (by omega)
   simp only[hke,dsM_eq]
   refine wRUN hdk ?_
   exact wRetOf (ret_of [((0,0),(0,0))] []) Tryz.results134 hdk
end
end Go.Proofs.YtlciedpfjhkkdaaGreatDoor
