/- The engine: values held by an interface, made and compared; []byte(s); string(b) of no bytes; operations of two numbers whose result is known. -/
import Derived.Test.YtlciedpfjhkkdaaGreatDoorKG81uD05
import Derived.Lib.IfaceEq
import Derived.Lib.IfaceNeq
set_option linter.all false
namespace Go.Proofs.YtlciedpfjhkkdaaGreatDoor
open Go.RowKit
section
variable {P:Program} {o:Oper} {σ:ASt}
theorem KU {t:TypeId}{x:Operand}{k:IntKind}{n:Int}(ho:o.op=.makeInterface t x) (hx:σ.ev x=.c (.int k n)) (hc:P.concrete t=true):Ag P o σ ⟨[],[],.c (.raw (.iface t (.int k n)))⟩:=by
 refine Ag.pure fun Γ σ' a w ow κ hag hr=>?_
 have e1:=AR.int (hag.ev hr (by rw[ho];simp[Op.operands]) hx)
 refine⟨.iface t (.int k n),?_,⟨rfl,rfl,rfl⟩⟩
 unfold execOp
 rw[ho]
 simp[e1,run_makeInterface _ _ _ hc]
theorem Nw {op:BinOp}{t t':TypeId}{y:Operand}{q:Value}{tx:TypeId}{u:Value}{x:AV}(ho:o.op=.binOp op t y (.const q) t') (hy:σ.ev y=.c (.raw (.iface tx u))) (hz:σ.ev (.const q)=.c (.raw .nilIface))
  (ht:P.underlying t=some (.interface (P.methodsAt t))) (he:Cy op false=some x):Ag P o σ ⟨[],[],x⟩:=by
 refine Ag.pure fun Γ σ' a w ow κ hag hr=>?_
 have e1:=(hag.ev hr (by rw[ho];simp[Op.operands]) hy).1
 have e2:=(hag.ev hr (by rw[ho];simp[Op.operands]) hz).1
 refine CS (b:=false) ho he e1 e2 (fun op=>?_) (run_eql_held_nil w t tx u ht) (run_neq_held_nil w t tx u ht)
 unfold eqGuard
 cases op<;>simp
theorem Pz {op:BinOp}{t t':TypeId}{y z:Operand}{tx:TypeId}{k q:IntKind}{m n:Int}{ms:Array (String×TypeId)}{x:AV}{b:Bool}(ho:o.op=.binOp op t y z t') (hy:σ.ev y=.c (.raw (.iface tx (.int k m)))) (hz:σ.ev z=.c (.raw (.iface tx (.int k n))))
  (ht:P.underlying t=some (.interface ms)) (hc:(P.info? tx).map (·.comparable)=some true) (hu:P.underlying tx=some (.int q)) (hg:∀op w,(eqGuard op t y z (.iface tx (.int k m)) (.iface tx (.int k n))).run P w=.ok () w) (hb:(m==n)=b) (he:Cy op b=some x):Ag P o σ ⟨[],[],x⟩:=by
 refine Ag.pure fun Γ σ' a w ow κ hag hr=>?_
 have e1:=(hag.ev hr (by rw[ho];simp[Op.operands]) hy).1
 have e2:=(hag.ev hr (by rw[ho];simp[Op.operands]) hz).1
 subst hb
 exact CS ho he e1 e2 (fun op=>hg op w) (Lib.run_eql_iface_int w m n ht hc hu) (Lib.run_neq_iface_int w m n ht hc hu)
theorem Qt {op:BinOp}{t t':TypeId}{y z:Operand}{k k':IntKind}{m n:Int}{c:C}{u:Value}(ho:o.op=.binOp op t y z t') (hy:σ.ev y=.c (.int k m)) (hz:σ.ev z=.c (.int k' n))
  (hg:∀w,(eqGuard op t y z (.int k m) (.int k' n)).run P w=.ok () w) (hq:∀w,(binOp op t (.int k m) (.int k' n)).run P w=.ok u w) (hc:∀w S,CR w S c u []):Ag P o σ ⟨[],[],.c c⟩:=by
 refine Ag.pure fun Γ σ' a w ow κ hag hr=>?_
 have e1:=AR.int (hag.ev hr (by rw[ho];simp[Op.operands]) hy)
 have e2:=AR.int (hag.ev hr (by rw[ho];simp[Op.operands]) hz)
 refine⟨u,?_,hc _ _⟩
 unfold execOp
 rw[ho]
 simp only[e1,e2,Sem.run_bind,hg,hq,Result.andThen_ok,Sem.run_pure]
theorem Lc (s:ByteArray) (cap j:Nat) (h:j<s.size):(bytesRow s cap)[j]? = some (.int .u8 ((s.data.toList[j]'(by simpa using h)).toNat:Int)):=by
 have h1:j<(s.data.map fun b=>Value.int .u8 b.toNat).size:=by simpa using h
 unfold bytesRow
 rw[Array.getElem?_append_left h1]
 simp
 exact⟨_,Array.getElem?_eq_getElem (by simpa using h),rfl⟩
theorem P2 {src dst e:TypeId}{x:Operand}{s:ByteArray}(ho:o.op=.convert src dst x) (hx:σ.ev x=.c (.str s)) (hs:P.underlying src=some .string) (hd:P.underlying dst=some (.slice e)) (he:P.underlying e=some (.int .u8)) :
  Ag P o σ ⟨[],[],.c (.sl (AD s.data.toList))⟩:=by
 intro Γ σ' a w ow κ hag hr
 have e1:=AR.str (hag.ev hr (by rw[ho];simp[Op.operands]) hx)
 have hrun:=run_bytes_of_string (P:=P) w src dst e s hs hd he
 generalize hcp:grownCap w s.size 0 e=cap at hrun
 obtain⟨w',hw'⟩:∃w',w.drew.alloc (.cells (bytesRow s cap) e ((bytesRow s cap).size,(bytesRow s cap).size+1))=w':=⟨_,rfl⟩
 rw[hw']at hrun
 have hheap:w'.heap=w.heap.push (.cells (bytesRow s cap) e ((bytesRow s cap).size,(bytesRow s cap).size+1)):=by rw[←hw'];rfl
 have hold:∀b,b<w.heap.size→w'.heap[b]? = w.heap[b]?:=fun b hb=>by rw[hheap,Array.getElem?_push_lt hb,Array.getElem?_eq_getElem hb]
 have hnew:w'.heap[w.heap.size]? = some (.cells (bytesRow s cap) e ((bytesRow s cap).size,(bytesRow s cap).size+1)):=by rw[hheap];simp
 have hno:ow w.heap.size=none:=by
  cases h:ow w.heap.size with
  |none=>rfl
  |some i=>have:=(hr.own _ _ h).1;omega
 have hsz:w'.heap.size=w.heap.size+1:=by rw[hheap];simp
 have st:Step σ'.mem [] w ow κ w' ow κ:=⟨by rw[←hw'];rfl,by rw[←hw'];rfl,by rw[←hw'];rfl,by omega,fun b hb _=>⟨hold b hb,rfl⟩,fun b i hb=>.inl ⟨by simp,hb⟩,fun _ _ _=>rfl,fun i hi=>by simp at hi⟩
 have hcell:∀j (hj:j<s.data.toList.length),w'.cell? ⟨w.heap.size,j,none⟩=some (.int .u8 ((s.data.toList[j]).toNat:Int)):=fun j hj=>by
  have h1:=Lc s cap j (by simpa using hj)
  unfold World.cell?
  simp only[hnew]
  simpa using h1
 have hres:CR w' (Γ.sees ow) (.sl (AD s.data.toList)) (.slice (some ⟨w.heap.size,0,none⟩) s.size cap) []:=by
  have hlen:(AD s.data.toList).length=s.size:=by simp[AD]
  refine⟨1,some ⟨w.heap.size,0,none⟩,cap,s.data.toList.map fun b=>[.int .u8 (b.toNat:Int)],by rw[hlen],by rw[hlen,←hcp];exact grownCap_ge w _ _ _,trivial,?_,?_,rfl⟩
  ·refine⟨fun x hx=>?_,fun hn=>⟨w.heap.size,0,rfl,⟨hno,.inr (.inl hr.size)⟩,by omega,fun i x hx j u hu=>?_⟩⟩
   ·obtain⟨b,_,rfl⟩:=List.mem_map.1 hx
    rfl
   ·rw[List.getElem?_map]at hx
    cases hq:s.data.toList[i]? with
    |none=>rw[hq]at hx;cases hx
    |some b =>
     rw[hq]at hx
     simp only[Option.map_some,Option.some.injEq]at hx
     subst hx
     obtain⟨hi,hb⟩:=List.getElem?_eq_some_iff.1 hq
     cases j with
     |zero =>
      simp only[List.getElem?_cons_zero,Option.some.injEq]at hu
      subst hu
      have:=hcell i hi
      rw[hb]at this
      simpa using this
     |succ j=>simp at hu
  ·have:∀l:List UInt8,Ab w' (Γ.sees ow) (AD l) (l.map fun b=>[Value.int .u8 (b.toNat:Int)]) []:=by
    intro l
    induction l with
    |nil=>simp[AD,Ab]
    |cons b l ih =>
     simp only[AD,List.map_cons,Ab]
     exact⟨_,_,[],[],rfl,rfl,⟨_,_,[],[],rfl,rfl,⟨rfl,rfl⟩,rfl,rfl⟩,ih⟩
   exact this _
 refine⟨_,w',ow,κ,.inl ?_,hr.step (E:=⟨[],[],.c (.sl (AD s.data.toList))⟩) st hres (fun i hi=>by simp at hi) o.dst⟩
 unfold execOp
 rw[ho]
 simp[e1,hrun]
theorem Pu {src dst e t:TypeId}{x:Operand}{i:Id}(ho:o.op=.convert src dst x) (hx:σ.ev x=.own i) (hs:P.underlying src=some (.slice e)) (he:P.underlying e=some (.int .u8)) (hd:P.underlying dst=some .string)
  (hi:σ.mem.get i=some (.row false 1 t [])):Ag P o σ ⟨[i],[],.c (.str ByteArray.empty)⟩:=by
 refine Ag.pure fun Γ σ' a w ow κ hag hr=>?_
 have hi':σ'.mem.get i=some (.row false 1 t []):=by rw[hag.2.1 i (by simp),hi]
 obtain⟨_,o1,k1,k2⟩:=hag.ev hr (by rw[ho];simp[Op.operands]) hx
 rw[hi']at k1
 cases k1
 have e1:=k2 (by simp)
 obtain⟨vrows,bs,h1,h2,h3,h4,h5,h6⟩:=hr.objs i _ hi'
 obtain⟨_,⟨h7,h8⟩ | ⟨b,cap,cs,h7,_⟩⟩:=h4
 ·refine⟨.string ByteArray.empty,?_,⟨rfl,rfl⟩⟩
  have hrun:=run_convert_bytes_nil (P:=P) (w:=w) src e hs he 0 0 dst hd
  unfold execOp
  rw[ho]
  simp[e1,h7,hrun]
 ·refine⟨.string ByteArray.empty,?_,⟨rfl,rfl⟩⟩
  have hrun:(convert src dst (.slice (some ⟨b,0,none⟩) 0 cap)).run P w=.ok (.string ByteArray.empty) w:=run_convert_bytes_back (P:=P) w src dst e ⟨b,0,none⟩ cap [] hs he hd (fun j hj=>by simp at hj)
  have h7':κ i=.slice (some ⟨b,0,none⟩) 0 cap:=h7
  unfold execOp
  rw[ho]
  simp[e1,h7',hrun]
end
section
variable {P:Program} {σ τ:ASt} {ops:Array Oper} {r:List Oper} {fs:List AEff} {K:ASt→List AEff→Prop} {E:AEff} {d:Option Tmp} {ty':TypeId} {pos:String} {af:Array Edge} {gd:Option (Nat×Bool)}
theorem Cf {t:TypeId}{x:Operand}{k:IntKind}{n:Int}(hc:P.concrete t=true) (hg:AY ops σ ⟨d,.makeInterface t x,ty',pos,af,gd⟩=some true) (hx:σ.ev x=.c (.int k n))
  (hE:(⟨[],[],.c (.raw (.iface t (.int k n)))⟩:AEff)=E) (hτ:σ.upd d E=τ) (h:A9 P ops r τ (fs++[E]) K):A9 P ops (⟨d,.makeInterface t x,ty',pos,af,gd⟩::r) σ fs K:=by
 subst hE
 exact B7 hg (KU rfl hx hc).sound hτ h
theorem EU {op:BinOp}{t t':TypeId}{y:Operand}{q:Value}{tx:TypeId}{u:Value}{x:AV}(ht:P.underlying t=some (.interface (P.methodsAt t))) (hg:AY ops σ ⟨d,.binOp op t y (.const q) t',ty',pos,af,gd⟩=some true) (hy:σ.ev y=.c (.raw (.iface tx u))) (hz:σ.ev (.const q)=.c (.raw .nilIface)) (he:Cy op false=some x)
  (hE:(⟨[],[],x⟩:AEff)=E) (hτ:σ.upd d E=τ) (h:A9 P ops r τ (fs++[E]) K):A9 P ops (⟨d,.binOp op t y (.const q) t',ty',pos,af,gd⟩::r) σ fs K:=by
 subst hE
 exact B7 hg (Nw rfl hy hz ht he).sound hτ h
theorem Iv {op:BinOp}{t t':TypeId}{y z:Operand}{tx:TypeId}{k q:IntKind}{m n:Int}{ms:Array (String×TypeId)}{x:AV}{b:Bool}(ht:P.underlying t=some (.interface ms)) (hc:(P.info? tx).map (·.comparable)=some true) (hu:P.underlying tx=some (.int q))
  (hg:AY ops σ ⟨d,.binOp op t y z t',ty',pos,af,gd⟩=some true) (hy:σ.ev y=.c (.raw (.iface tx (.int k m)))) (hz:σ.ev z=.c (.raw (.iface tx (.int k n)))) (hgu:∀op w,(eqGuard op t y z (.iface tx (.int k m)) (.iface tx (.int k n))).run P w=.ok () w) (hb:(m==n)=b) (he:Cy op b=some x)
  (hE:(⟨[],[],x⟩:AEff)=E) (hτ:σ.upd d E=τ) (h:A9 P ops r τ (fs++[E]) K):A9 P ops (⟨d,.binOp op t y z t',ty',pos,af,gd⟩::r) σ fs K:=by
 subst hE
 exact B7 hg (Pz rfl hy hz ht hc hu hgu hb he).sound hτ h
theorem NO {op:BinOp}{t t':TypeId}{y z:Operand}{k k':IntKind}{m n:Int}{c:C}{u:Value}(hq:∀w,(binOp op t (.int k m) (.int k' n)).run P w=.ok u w) (hc:∀w S,CR w S c u []) (hgu:∀w,(eqGuard op t y z (.int k m) (.int k' n)).run P w=.ok () w)
  (hg:AY ops σ ⟨d,.binOp op t y z t',ty',pos,af,gd⟩=some true) (hy:σ.ev y=.c (.int k m)) (hz:σ.ev z=.c (.int k' n))
  (hE:(⟨[],[],.c c⟩:AEff)=E) (hτ:σ.upd d E=τ) (h:A9 P ops r τ (fs++[E]) K):A9 P ops (⟨d,.binOp op t y z t',ty',pos,af,gd⟩::r) σ fs K:=by
 subst hE
 exact B7 hg (Qt rfl hy hz hgu hq hc).sound hτ h
theorem Q9 {src dst e:TypeId}{x:Operand}{s:ByteArray}{rows:List (List C)}(hy:AD s.data.toList=rows) (hs:P.underlying src=some .string) (hd:P.underlying dst=some (.slice e)) (he:P.underlying e=some (.int .u8))
  (hg:AY ops σ ⟨d,.convert src dst x,ty',pos,af,gd⟩=some true) (hx:σ.ev x=.c (.str s))
  (hE:(⟨[],[],.c (.sl rows)⟩:AEff)=E) (hτ:σ.upd d E=τ) (h:A9 P ops r τ (fs++[E]) K):A9 P ops (⟨d,.convert src dst x,ty',pos,af,gd⟩::r) σ fs K:=by
 subst hE hy
 exact B7 hg (P2 rfl hx hs hd he).sound hτ h
theorem G9 {src dst e t:TypeId}{x:Operand}{i:Id}{y:ByteArray}(l:List UInt8) (hy:(⟨l.toArray⟩:ByteArray)=y) (hs:P.underlying src=some (.slice e)) (he:P.underlying e=some (.int .u8)) (hd:P.underlying dst=some .string)
  (hg:AY ops σ ⟨d,.convert src dst x,ty',pos,af,gd⟩=some true) (hx:σ.ev x=.own i) (hi:σ.mem.get i=some (.row false 1 t (AD l)))
  (hE:(⟨[i],[],.c (.str y)⟩:AEff)=E) (hτ:σ.upd d E=τ) (h:A9 P ops r τ (fs++[E]) K):A9 P ops (⟨d,.convert src dst x,ty',pos,af,gd⟩::r) σ fs K:=by
 subst hE hy
 cases l with
 |nil=>exact B7 hg (Pu rfl hx hs he hd hi).sound hτ h
 |cons b l=>exact B7 hg (Mi (b::l) (by simp) rfl hx hs he hd hi).sound hτ h
end
theorem Ob (σ:ASt):σ.ev (.const .nilIface)=.c (.raw .nilIface):=rfl
attribute [go_sem] Ob
end Go.Proofs.YtlciedpfjhkkdaaGreatDoor
