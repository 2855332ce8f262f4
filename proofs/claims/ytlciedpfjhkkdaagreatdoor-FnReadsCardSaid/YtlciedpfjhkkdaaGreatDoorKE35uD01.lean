/- Texts of this proof: E35 E38 D01. -/
import Derived.Laws.IdiomStrings
import Derived.Laws.Strings2
import Derived.Laws.Slices
import Derived.Lib.AppendStr
import Derived.Lib.Builder
import Derived.Laws.StructEq
import Derived.WideLaws
import Derived.Test.YtlciedpfjhkkdaaGreatDoorKM28uM46
set_option linter.all false
set_option maxHeartbeats 8000000
namespace Go.Proofs.YtlciedpfjhkkdaaGreatDoor
section
open Go.RowKit
section
variable {P:Program} {o:Oper} {σ:ASt} {src dst e t:TypeId}
def byteRows (l:List UInt8):List (List C):=l.map fun b=>[.int .u8 (b.toNat:Int)]
theorem byte_row {w:World}{S:Nat→Prop}{b:UInt8}{vr:List Value}{bs:List Nat}(h:CRs w S [.int .u8 (b.toNat:Int)] vr bs):vr=[.int .u8 (b.toNat:Int)]:=by
 simp only[CRs,CR]at h
 obtain⟨v,vs',b1,b2,rfl,_,⟨rfl,_⟩,rfl,_⟩:=h
 rfl
theorem run_conv {x:Operand}{i:Id}(l:List UInt8) (hl:l≠[]) (ho:o.op=.convert src dst x) (hx:σ.ev x=.own i) (hs:P.underlying src=some (.slice e)) (he:P.underlying e=some (.int .u8)) (hd:P.underlying dst=some .string)
  (hi:σ.mem.get i=some (.row false 1 t (byteRows l))):OpRun P o σ ⟨[i],[],.c (.str ⟨l.toArray⟩)⟩:=by
 refine OpRun.pure fun Γ σ' a w ow κ hag hr=>?_
 have hi':σ'.mem.get i=some (.row false 1 t (byteRows l)):=by rw[hag.2.1 i (by simp),hi]
 obtain⟨_,o1,k1,k2⟩:=hag.ev hr (by rw[ho];simp[Op.operands]) hx
 rw[hi']at k1
 cases k1
 have e1:=k2 (by simp)
 obtain⟨vrows,bs,h1,h2,h3,h4,h5,h6⟩:=hr.objs i _ hi'
 have hlen:=CRss.length h1
 have hrl:(byteRows l).length=l.length:=by simp[byteRows]
 have hl0:0<l.length:=List.length_pos_iff.2 hl
 obtain⟨A,cap,hA,hc1,hc2,hrow⟩:=Row.of_owns h3 (n:=(byteRows l).length) (by omega) (.inl Nat.one_pos) h4 (T:=fun _=>True) (fun _ _=>trivial)
 obtain⟨b,off,rfl,_,_,hcl⟩:=hrow.2 (by omega)
 refine⟨.string ⟨l.toArray⟩,?_,⟨rfl,rfl⟩⟩
 have hc:∀j (hj:j<l.length),w.cell? ((⟨b,off,none⟩:Addr).add j)=some (.int .u8 (l[j].toNat:Int)):=by
  intro j hj
  obtain⟨vr,b',g1,g2,_⟩:=CRss.at_ h1 (i:=j) (row:=[.int .u8 (l[j].toNat:Int)]) (by simp[byteRows,hj])
  have g3:=byte_row g2
  subst g3
  have:=hcl j _ g1 0 _ rfl
  by_cases hj0:j=0
  ·subst hj0
   simpa [Addr.add] using this
  ·simpa [Addr.add,hj0] using this
 have hrun:=run_convert_bytes_back w src dst e ⟨b,off,none⟩ cap l hs he hd hc
 unfold execOp
 rw[ho]
 rw[hrl]at hA
 simp[e1,hA,hrun]
theorem run_sub {x lo hi:Operand}{s:ByteArray}{i j:Int}(ho:o.op=.slice t x (some lo) (some hi) none) (hx:σ.ev x=.c (.str s)) (hlo:σ.ev lo=.c (.int .i64 i)) (hhi:σ.ev hi=.c (.int .i64 j)) (ht:P.underlying t=some .string)
  (h0:0≤i) (h1:i≤j) (h2:j≤s.size):OpRun P o σ ⟨[],[],.c (.str (s.extract i.toNat j.toNat))⟩:=by
 refine OpRun.pure fun Γ σ' a w ow κ hag hr=>?_
 have e1:=AR.str (hag.ev hr (by rw[ho];simp[Op.operands]) hx)
 have e2:=(hag.ev hr (by rw[ho];simp[Op.operands]) hlo).1
 have e3:=(hag.ev hr (by rw[ho];simp[Op.operands]) hhi).1
 refine⟨.string (s.extract i.toNat j.toNat),?_,⟨rfl,rfl⟩⟩
 have hrun:=run_slice_string (P:=P) w t s .i64 .i64 i j ht h0 h1 h2
 unfold execOp
 rw[ho]
 simp[e1,e2,e3,hrun,run_sliceAt_string _ t _ _ _ _ ht]
end
section
variable {P:Program} {σ τ:ASt} {ops:Array Oper} {r:List Oper} {fs:List AEff} {K:ASt→List AEff→Prop} {E:AEff} {src dst e t:TypeId} {d:Option Tmp} {ty':TypeId} {pos:String} {af:Array Edge} {gd:Option (Nat×Bool)}
theorem op_conv {x:Operand}{i:Id}{y:ByteArray}(l:List UInt8) (hy:(⟨l.toArray⟩:ByteArray)=y) (hl:l≠[]) (hs:P.underlying src=some (.slice e)) (he:P.underlying e=some (.int .u8)) (hd:P.underlying dst=some .string)
  (hg:gate ops σ ⟨d,.convert src dst x,ty',pos,af,gd⟩=some true) (hn:eff P σ.ev σ.mem.get (σ.fresh ⟨d,.convert src dst x,ty',pos,af,gd⟩) ⟨d,.convert src dst x,ty',pos,af,gd⟩=none) (hx:σ.ev x=.own i) (hi:σ.mem.get i=some (.row false 1 t (byteRows l)))
  (hE:(⟨[i],[],.c (.str y)⟩:AEff)=E) (hτ:σ.upd d E=τ) (h:awpOps P ops r τ (fs++[E]) K):awpOps P ops (⟨d,.convert src dst x,ty',pos,af,gd⟩::r) σ fs K:=by
 subst hE hy
 exact op_sound hg hn (run_conv l hl rfl hx hs he hd hi).sound hτ h
theorem op_sub {t:TypeId}{x lo hi:Operand}{s y:ByteArray}{i j:Int}(hy:s.extract i.toNat j.toNat=y) (h0:0≤i) (h1:i≤j) (h2:j≤s.size) (ht:P.underlying t=some .string)
  (hg:gate ops σ ⟨d,.slice t x (some lo) (some hi) none,ty',pos,af,gd⟩=some true) (hn:eff P σ.ev σ.mem.get (σ.fresh ⟨d,.slice t x (some lo) (some hi) none,ty',pos,af,gd⟩) ⟨d,.slice t x (some lo) (some hi) none,ty',pos,af,gd⟩=none) (hx:σ.ev x=.c (.str s)) (hlo:σ.ev lo=.c (.int .i64 i)) (hhi:σ.ev hi=.c (.int .i64 j))
  (hE:(⟨[],[],.c (.str y)⟩:AEff)=E) (hτ:σ.upd d E=τ) (h:awpOps P ops r τ (fs++[E]) K):awpOps P ops (⟨d,.slice t x (some lo) (some hi) none,ty',pos,af,gd⟩::r) σ fs K:=by
 subst hE hy
 exact op_sound hg hn (run_sub rfl hx hlo hhi ht h0 h1 h2).sound hτ h
end
end
section
open Go.RowKit
def errR:Value→List (Nat×Obj)→Prop:=fun v l=>l=[]∧v.oneCell'=true∧∃t x,v=.iface t x
section
variable {P:Program} {o:Oper} {σ:ASt}
theorem run_neqS {t t':TypeId}{y z:Operand}{k:IntKind}{a b:Int}{s u:ByteArray}{r:Bool}(ho:o.op=.binOp .neq t y z t') (hy:σ.ev y=.agg [.c (.int k a),.c (.str s)]) (hz:σ.ev z=.agg [.c (.int k b),.c (.str u)])
  (hm:P.eqGuardType P.depth t=false) (hq:∀w,(Op.equalIn 10000 t (.agg #[.int k a,.string s]) (.agg #[.int k b,.string u])).run P w=.ok r w):OpRun P o σ ⟨[],[],.c (.bool (!r))⟩:=by
 refine OpRun.pure fun Γ σ' a' w ow κ hag hr=>?_
 obtain⟨vs,e1,h1,_⟩:=hag.ev hr (by rw[ho];simp[Op.operands]) hy
 obtain⟨us,e2,h2,_⟩:=hag.ev hr (by rw[ho];simp[Op.operands]) hz
 simp only[ARs,AR,CR]at h1 h2
 obtain⟨_,_,rfl,⟨rfl,_⟩,_,_,rfl,⟨rfl,_⟩,rfl⟩:=h1
 obtain⟨_,_,rfl,⟨rfl,_⟩,_,_,rfl,⟨rfl,_⟩,rfl⟩:=h2
 refine⟨.bool (!r),?_,rfl,rfl⟩
 unfold execOp
 rw[ho]
 simp[e1,e2,run_eqGuard_agg _ _ _ _ _ _ _ hm,run_neq_struct,hq]
theorem run_errEq {op:BinOp}{t t':TypeId}{y z:Operand}{i:Id}{x:AV}(ho:o.op=.binOp op t y z t') (hy:σ.ev y=.own i) (hz:σ.ev z=.c (.raw .nilIface)) (hi:σ.mem.get i=some (.gen errR))
  (ht:P.underlying t=some (.interface (P.methodsAt t))) (he:effEq op false=some x):OpRun P o σ ⟨[i],[],x⟩:=by
 refine OpRun.pure fun Γ σ' a w ow κ hag hr=>?_
 have hi':σ'.mem.get i=some (.gen errR):=by rw[hag.2.1 i (by simp),hi]
 obtain⟨_,o1,k1,k2⟩:=hag.ev hr (by rw[ho];simp[Op.operands]) hy
 rw[hi']at k1
 cases k1
 have e1:=k2 (by simp)
 have e2:=(hag.ev hr (by rw[ho];simp[Op.operands]) hz).1
 obtain⟨l,_,_,_,q,x',hx⟩:=hr.objs i _ hi'
 rw[hx]at e1
 refine run_eqv (b:=false) ho he e1 e2 (fun op=>?_) (run_eql_held_nil w t q x' ht) (run_neq_held_nil w t q x' ht)
 unfold eqGuard
 cases op<;>simp
theorem run_nilEq {op:BinOp}{t t':TypeId}{y:Operand}{q:Value}{x:AV}(ho:o.op=.binOp op t y (.const q) t') (hy:σ.ev y=.c (.raw .nilIface)) (hz:σ.ev (.const q)=.c (.raw .nilIface))
  (ht:P.underlying t=some (.interface (P.methodsAt t))) (he:effEq op true=some x):OpRun P o σ ⟨[],[],x⟩:=by
 refine OpRun.pure fun Γ σ' a w ow κ hag hr=>?_
 have e1:=(hag.ev hr (by rw[ho];simp[Op.operands]) hy).1
 have e2:=(hag.ev hr (by rw[ho];simp[Op.operands]) hz).1
 refine run_eqv (b:=true) ho he e1 e2 (fun op=>?_) (run_eql_nil_nil w t ht) (run_neq_nil_nil w t ht)
 unfold eqGuard
 cases op<;>simp
end
section
variable {P:Program} {σ τ:ASt} {ops:Array Oper} {r:List Oper} {fs:List AEff} {K:ASt→List AEff→Prop} {E:AEff} {d:Option Tmp} {ty':TypeId} {pos:String} {af:Array Edge} {gd:Option (Nat×Bool)}
theorem op_neqS {t t':TypeId}{y z:Operand}{k:IntKind}{a b:Int}{s u:ByteArray}{q:Bool}(hm:P.eqGuardType P.depth t=false) (hq:∀w,(Op.equalIn 10000 t (.agg #[.int k a,.string s]) (.agg #[.int k b,.string u])).run P w=.ok q w)
  (hg:gate ops σ ⟨d,.binOp .neq t y z t',ty',pos,af,gd⟩=some true) (hy:σ.ev y=.agg [.c (.int k a),.c (.str s)]) (hz:σ.ev z=.agg [.c (.int k b),.c (.str u)])
  (hE:(⟨[],[],.c (.bool (!q))⟩:AEff)=E) (hτ:σ.upd d E=τ) (h:awpOps P ops r τ (fs++[E]) K):awpOps P ops (⟨d,.binOp .neq t y z t',ty',pos,af,gd⟩::r) σ fs K:=by
 subst hE
 exact op_known hg (run_neqS rfl hy hz hm hq).sound hτ h
theorem op_errEq {op:BinOp}{t t':TypeId}{y z:Operand}{i:Id}{x:AV}(ht:P.underlying t=some (.interface (P.methodsAt t))) (hg:gate ops σ ⟨d,.binOp op t y z t',ty',pos,af,gd⟩=some true) (hy:σ.ev y=.own i) (hz:σ.ev z=.c (.raw .nilIface)) (hi:σ.mem.get i=some (.gen errR)) (he:effEq op false=some x)
  (hE:(⟨[i],[],x⟩:AEff)=E) (hτ:σ.upd d E=τ) (h:awpOps P ops r τ (fs++[E]) K):awpOps P ops (⟨d,.binOp op t y z t',ty',pos,af,gd⟩::r) σ fs K:=by
 subst hE
 exact op_known hg (run_errEq rfl hy hz hi ht he).sound hτ h
theorem op_nilEq {op:BinOp}{t t':TypeId}{y:Operand}{q:Value}{x:AV}(ht:P.underlying t=some (.interface (P.methodsAt t))) (hg:gate ops σ ⟨d,.binOp op t y (.const q) t',ty',pos,af,gd⟩=some true) (hy:σ.ev y=.c (.raw .nilIface)) (hz:σ.ev (.const q)=.c (.raw .nilIface)) (he:effEq op true=some x)
  (hE:(⟨[],[],x⟩:AEff)=E) (hτ:σ.upd d E=τ) (h:awpOps P ops r τ (fs++[E]) K):awpOps P ops (⟨d,.binOp op t y (.const q) t',ty',pos,af,gd⟩::r) σ fs K:=by
 subst hE
 exact op_known hg (run_nilEq rfl hy hz ht he).sound hτ h
end
end
section
open Go.RowKit
set_option maxRecDepth 10000
theorem cast_beq (n m:Nat):((n:Int)==(m:Int))=(n==m):=by
 rw[Bool.eq_iff_iff];simp;omega
theorem blank_cast (n:Nat):blankB n=((((n:Int)==32)||((n:Int)==9))||((n:Int)==10)||((n:Int)==13)):=by
 unfold blankB
 rw[Bool.eq_iff_iff];simp;omega
theorem dig_cast (n:Nat):digB n=(decide ((n:Int)≥48)&&decide ((n:Int)≤57)):=by
 unfold digB
 rw[Bool.eq_iff_iff];simp;omega
theorem l2Blank_ac (n:Nat):AC Tryz.prog 78 [.c (.int .u8 n)] [] (.c (.bool (blankB n))) []:=by
 rw[blank_cast]
 generalize (n:Int)=z
 cases h1:z==32
 ·cases h2:z==9
  ·cases h3:z==10
   ·cases h4:z==13
    all_goals
     refine wEnter Tryz.func78 Tryz.ntmps78 ?_
     refine wRUN (j4 h1 h2 h3 h4) ?_
     exact wRet (ret_data []) Tryz.results78
   ·refine wEnter Tryz.func78 Tryz.ntmps78 ?_
    refine wRUN (j3 h1 h2 h3) ?_
    exact wRet (ret_data []) Tryz.results78
  ·refine wEnter Tryz.func78 Tryz.ntmps78 ?_
   refine wRUN (j2 h1 h2) ?_
   exact wRet (ret_data []) Tryz.results78
 ·refine wEnter Tryz.func78 Tryz.ntmps78 ?_
  refine wRUN h1 ?_
  exact wRet (ret_data []) Tryz.results78
theorem l2Digit_ac (n:Nat):AC Tryz.prog 179 [.c (.int .u8 n)] [] (.c (.bool (digB n))) []:=by
 rw[dig_cast]
 generalize (n:Int)=z
 cases h1:decide (z≥48)
 ·refine wEnter Tryz.func179 Tryz.ntmps179 ?_
  refine wRUN h1 ?_
  exact wRet (ret_data []) Tryz.results179
 ·cases h2:decide (z≤57)
  all_goals
   refine wEnter Tryz.func179 Tryz.ntmps179 ?_
   refine wRUN (j2 h1 h2) ?_
   exact wRet (ret_data []) Tryz.results179
theorem l2Skip_ac (s:ByteArray) (hs:s.size≤1000000) (i:Nat) (hi:i≤s.size):AC Tryz.prog 38 [.c (.str s),.c (.int .i64 i)] [] (.c (.int .i64 (skipB s i))) []:=by
 refine wEnter Tryz.func38 Tryz.ntmps38 ?_
 refine wRUN trivial ?_
 refine a_loop (κ:=Nat) (fun j=>⟨mkS 0 18 [(0,.c (.str s)),(1,.c (.int .i64 j))],[]⟩) (fun j=>j≤s.size∧skipB s j=skipB s i) (fun j=>s.size-j) i ⟨hi,rfl⟩ ?_ ?_
 ·exact wSays (Says.of [] []) hi
 ·rintro j ⟨hj,hsk⟩
  by_cases hlt:j<s.size
  ·have hdk:decide ((j:Int)<(s.size:Int))=true:=by simpa using hlt
   have hw:=wrap_succ (k:=j) (by omega)
   obtain⟨b,hg,hb⟩:=bAt_in hlt
   have hbl:=l2Blank_ac b.toNat
   rw[←hb]at hbl
   have hbn:((b.toNat:Nat):Int)=((bAt s j:Nat):Int):=by rw[hb]
   cases hbk:blankB (bAt s j) with
   |true =>
    rw[hbk]at hbl
    refine wRUN (j3 hdk hg hbn) ?_
    refine w7 (op_data [] hbl) trivial ?_
    refine wRUN hw ?_
    refine⟨j+1,by omega,⟨by omega,by rw[←skip_blank hbk,hsk]⟩,?_⟩
    exact wSays (Says.of [] []) hw
   |false =>
    rw[hbk]at hbl
    have he:=skip_stop hbk
    rw[he]at hsk
    subst hsk
    refine wRUN (j3 hdk hg hbn) ?_
    refine w7 (op_data [] hbl) trivial ?_
    refine wRUN trivial ?_
    exact wRet (ret_data []) Tryz.results38
  ·have hdk:decide ((j:Int)<(s.size:Int))=false:=by simpa using hlt
   have he:=skip_stop (s:=s) (i:=j) (by rw[bAt_end (by omega)];rfl)
   rw[he]at hsk
   subst hsk
   refine wRUN hdk ?_
   exact wRet (ret_data []) Tryz.results38
end
end Go.Proofs.YtlciedpfjhkkdaaGreatDoor
