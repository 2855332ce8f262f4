/- Texts of this proof: E35 E38 D01 D02. -/
import Derived.Laws.IdiomStrings
import Derived.Laws.Strings2
import Derived.Laws.Slices
import Derived.Lib.AppendStr
import Derived.Lib.Builder
import Derived.Laws.StructEq
import Derived.WideLaws
import Derived.Test.YtlciedpfjhkkdaaGreatDoorKM46
set_option linter.all false
set_option maxHeartbeats 8000000
namespace Go.Proofs.YtlciedpfjhkkdaaGreatDoor
section
open Go.RowKit
section
variable {P:Program} {o:Oper} {σ:ASt} {src dst e t:TypeId}
def AD (l:List UInt8):List (List C):=l.map fun b=>[.int .u8 (b.toNat:Int)]
theorem R3 {w:World}{S:Nat→Prop}{b:UInt8}{vr:List Value}{bs:List Nat}(h:CRs w S [.int .u8 (b.toNat:Int)] vr bs):vr=[.int .u8 (b.toNat:Int)]:=by
 simp only[CRs,CR]at h
 obtain⟨v,vs',b1,b2,rfl,_,⟨rfl,_⟩,rfl,_⟩:=h
 rfl
theorem Mi {x:Operand}{i:Id}(l:List UInt8) (hl:l≠[]) (ho:o.op=.convert src dst x) (hx:σ.ev x=.own i) (hs:P.underlying src=some (.slice e)) (he:P.underlying e=some (.int .u8)) (hd:P.underlying dst=some .string)
  (hi:σ.mem.get i=some (.row false 1 t (AD l))):Ag P o σ ⟨[i],[],.c (.str ⟨l.toArray⟩)⟩:=by
 refine Ag.pure fun Γ σ' a w ow κ hag hr=>?_
 have hi':σ'.mem.get i=some (.row false 1 t (AD l)):=by rw[hag.2.1 i (by simp),hi]
 obtain⟨_,o1,k1,k2⟩:=hag.ev hr (by rw[ho];simp[Op.operands]) hx
 rw[hi']at k1
 cases k1
 have e1:=k2 (by simp)
 obtain⟨vrows,bs,h1,h2,h3,h4,h5,h6⟩:=hr.objs i _ hi'
 have hlen:=Ab.length h1
 have hrl:(AD l).length=l.length:=by simp[AD]
 have hl0:0<l.length:=List.length_pos_iff.2 hl
 obtain⟨A,cap,hA,hc1,hc2,hrow⟩:=Row.of_owns h3 (n:=(AD l).length) (by omega) (.inl Nat.one_pos) h4 (T:=fun _=>True) (fun _ _=>trivial)
 obtain⟨b,off,rfl,_,_,hcl⟩:=hrow.2 (by omega)
 refine⟨.string ⟨l.toArray⟩,?_,⟨rfl,rfl⟩⟩
 have hc:∀j (hj:j<l.length),w.cell? ((⟨b,off,none⟩:Addr).add j)=some (.int .u8 (l[j].toNat:Int)):=by
  intro j hj
  obtain⟨vr,b',g1,g2,_⟩:=Ab.at_ h1 (i:=j) (row:=[.int .u8 (l[j].toNat:Int)]) (by simp[AD,hj])
  have g3:=R3 g2
  subst g3
  have:=hcl j _ g1 0 _ rfl
  by_cases hj0:j=0
  ·subst hj0
   simpa [Addr.add] using this
  ·simpa [Addr.add,hj0] using this
 have hrun:=run_convert_bytes_back w src dst e ⟨b,off,none⟩ cap l hs he hd hc
 unfold execOp
 rw[ho]
 rw[hrl]at hA
 simp[e1,hA,hrun]
theorem RG {x lo hi:Operand}{s:ByteArray}{i j:Int}(ho:o.op=.slice t x (some lo) (some hi) none) (hx:σ.ev x=.c (.str s)) (hlo:σ.ev lo=.c (.int .i64 i)) (hhi:σ.ev hi=.c (.int .i64 j)) (ht:P.underlying t=some .string)
  (h0:0≤i) (h1:i≤j) (h2:j≤s.size):Ag P o σ ⟨[],[],.c (.str (s.extract i.toNat j.toNat))⟩:=by
 refine Ag.pure fun Γ σ' a w ow κ hag hr=>?_
 have e1:=AR.str (hag.ev hr (by rw[ho];simp[Op.operands]) hx)
 have e2:=(hag.ev hr (by rw[ho];simp[Op.operands]) hlo).1
 have e3:=(hag.ev hr (by rw[ho];simp[Op.operands]) hhi).1
 refine⟨.string (s.extract i.toNat j.toNat),?_,⟨rfl,rfl⟩⟩
 have hrun:=run_slice_string (P:=P) w t s .i64 .i64 i j ht h0 h1 h2
 unfold execOp
 rw[ho]
 simp[e1,e2,e3,hrun,run_sliceAt_string _ t _ _ _ _ ht]
end
section
variable {P:Program} {σ τ:ASt} {ops:Array Oper} {r:List Oper} {fs:List AEff} {K:ASt→List AEff→Prop} {E:AEff} {src dst e t:TypeId} {d:Option Tmp} {ty':TypeId} {pos:String} {af:Array Edge} {gd:Option (Nat×Bool)}
theorem RW {x:Operand}{i:Id}{y:ByteArray}(l:List UInt8) (hy:(⟨l.toArray⟩:ByteArray)=y) (hl:l≠[]) (hs:P.underlying src=some (.slice e)) (he:P.underlying e=some (.int .u8)) (hd:P.underlying dst=some .string)
  (hg:AY ops σ ⟨d,.convert src dst x,ty',pos,af,gd⟩=some true) (hn:eff P σ.ev σ.mem.get (σ.fresh ⟨d,.convert src dst x,ty',pos,af,gd⟩) ⟨d,.convert src dst x,ty',pos,af,gd⟩=none) (hx:σ.ev x=.own i) (hi:σ.mem.get i=some (.row false 1 t (AD l)))
  (hE:(⟨[i],[],.c (.str y)⟩:AEff)=E) (hτ:σ.upd d E=τ) (h:A9 P ops r τ (fs++[E]) K):A9 P ops (⟨d,.convert src dst x,ty',pos,af,gd⟩::r) σ fs K:=by
 subst hE hy
 exact Bz hg hn (Mi l hl rfl hx hs he hd hi).sound hτ h
theorem Ds {t:TypeId}{x lo hi:Operand}{s y:ByteArray}{i j:Int}(hy:s.extract i.toNat j.toNat=y) (h0:0≤i) (h1:i≤j) (h2:j≤s.size) (ht:P.underlying t=some .string)
  (hg:AY ops σ ⟨d,.slice t x (some lo) (some hi) none,ty',pos,af,gd⟩=some true) (hn:eff P σ.ev σ.mem.get (σ.fresh ⟨d,.slice t x (some lo) (some hi) none,ty',pos,af,gd⟩) ⟨d,.slice t x (some lo) (some hi) none,ty',pos,af,gd⟩=none) (hx:σ.ev x=.c (.str s)) (hlo:σ.ev lo=.c (.int .i64 i)) (hhi:σ.ev hi=.c (.int .i64 j))
  (hE:(⟨[],[],.c (.str y)⟩:AEff)=E) (hτ:σ.upd d E=τ) (h:A9 P ops r τ (fs++[E]) K):A9 P ops (⟨d,.slice t x (some lo) (some hi) none,ty',pos,af,gd⟩::r) σ fs K:=by
 subst hE hy
 exact Bz hg hn (RG rfl hx hlo hhi ht h0 h1 h2).sound hτ h
end
end
section
open Go.RowKit
def GB:Value→List (Nat×Obj)→Prop:=fun v l=>l=[]∧v.oneCell'=true∧∃t x,v=.iface t x
section
variable {P:Program} {o:Oper} {σ:ASt}
theorem QC {t t':TypeId}{y z:Operand}{k:IntKind}{a b:Int}{s u:ByteArray}{r:Bool}(ho:o.op=.binOp .neq t y z t') (hy:σ.ev y=.agg [.c (.int k a),.c (.str s)]) (hz:σ.ev z=.agg [.c (.int k b),.c (.str u)])
  (hm:P.eqGuardType P.depth t=false) (hq:∀w,(Op.equalIn 10000 t (.agg #[.int k a,.string s]) (.agg #[.int k b,.string u])).run P w=.ok r w):Ag P o σ ⟨[],[],.c (.bool (!r))⟩:=by
 refine Ag.pure fun Γ σ' a' w ow κ hag hr=>?_
 obtain⟨vs,e1,h1,_⟩:=hag.ev hr (by rw[ho];simp[Op.operands]) hy
 obtain⟨us,e2,h2,_⟩:=hag.ev hr (by rw[ho];simp[Op.operands]) hz
 simp only[ARs,AR,CR]at h1 h2
 obtain⟨_,_,rfl,⟨rfl,_⟩,_,_,rfl,⟨rfl,_⟩,rfl⟩:=h1
 obtain⟨_,_,rfl,⟨rfl,_⟩,_,_,rfl,⟨rfl,_⟩,rfl⟩:=h2
 refine⟨.bool (!r),?_,rfl,rfl⟩
 unfold execOp
 rw[ho]
 simp[e1,e2,run_eqGuard_agg _ _ _ _ _ _ _ hm,run_neq_struct,hq]
theorem Pp {op:BinOp}{t t':TypeId}{y z:Operand}{i:Id}{x:AV}(ho:o.op=.binOp op t y z t') (hy:σ.ev y=.own i) (hz:σ.ev z=.c (.raw .nilIface)) (hi:σ.mem.get i=some (.gen GB))
  (ht:P.underlying t=some (.interface (P.methodsAt t))) (he:Cy op false=some x):Ag P o σ ⟨[i],[],x⟩:=by
 refine Ag.pure fun Γ σ' a w ow κ hag hr=>?_
 have hi':σ'.mem.get i=some (.gen GB):=by rw[hag.2.1 i (by simp),hi]
 obtain⟨_,o1,k1,k2⟩:=hag.ev hr (by rw[ho];simp[Op.operands]) hy
 rw[hi']at k1
 cases k1
 have e1:=k2 (by simp)
 have e2:=(hag.ev hr (by rw[ho];simp[Op.operands]) hz).1
 obtain⟨l,_,_,_,q,x',hx⟩:=hr.objs i _ hi'
 rw[hx]at e1
 refine CS (b:=false) ho he e1 e2 (fun op=>?_) (run_eql_held_nil w t q x' ht) (run_neq_held_nil w t q x' ht)
 unfold eqGuard
 cases op<;>simp
theorem Pm {op:BinOp}{t t':TypeId}{y:Operand}{q:Value}{x:AV}(ho:o.op=.binOp op t y (.const q) t') (hy:σ.ev y=.c (.raw .nilIface)) (hz:σ.ev (.const q)=.c (.raw .nilIface))
  (ht:P.underlying t=some (.interface (P.methodsAt t))) (he:Cy op true=some x):Ag P o σ ⟨[],[],x⟩:=by
 refine Ag.pure fun Γ σ' a w ow κ hag hr=>?_
 have e1:=(hag.ev hr (by rw[ho];simp[Op.operands]) hy).1
 have e2:=(hag.ev hr (by rw[ho];simp[Op.operands]) hz).1
 refine CS (b:=true) ho he e1 e2 (fun op=>?_) (run_eql_nil_nil w t ht) (run_neq_nil_nil w t ht)
 unfold eqGuard
 cases op<;>simp
end
section
variable {P:Program} {σ τ:ASt} {ops:Array Oper} {r:List Oper} {fs:List AEff} {K:ASt→List AEff→Prop} {E:AEff} {d:Option Tmp} {ty':TypeId} {pos:String} {af:Array Edge} {gd:Option (Nat×Bool)}
theorem Tz {t t':TypeId}{y z:Operand}{k:IntKind}{a b:Int}{s u:ByteArray}{q:Bool}(hm:P.eqGuardType P.depth t=false) (hq:∀w,(Op.equalIn 10000 t (.agg #[.int k a,.string s]) (.agg #[.int k b,.string u])).run P w=.ok q w)
  (hg:AY ops σ ⟨d,.binOp .neq t y z t',ty',pos,af,gd⟩=some true) (hy:σ.ev y=.agg [.c (.int k a),.c (.str s)]) (hz:σ.ev z=.agg [.c (.int k b),.c (.str u)])
  (hE:(⟨[],[],.c (.bool (!q))⟩:AEff)=E) (hτ:σ.upd d E=τ) (h:A9 P ops r τ (fs++[E]) K):A9 P ops (⟨d,.binOp .neq t y z t',ty',pos,af,gd⟩::r) σ fs K:=by
 subst hE
 exact B7 hg (QC rfl hy hz hm hq).sound hτ h
theorem LT {op:BinOp}{t t':TypeId}{y z:Operand}{i:Id}{x:AV}(ht:P.underlying t=some (.interface (P.methodsAt t))) (hg:AY ops σ ⟨d,.binOp op t y z t',ty',pos,af,gd⟩=some true) (hy:σ.ev y=.own i) (hz:σ.ev z=.c (.raw .nilIface)) (hi:σ.mem.get i=some (.gen GB)) (he:Cy op false=some x)
  (hE:(⟨[i],[],x⟩:AEff)=E) (hτ:σ.upd d E=τ) (h:A9 P ops r τ (fs++[E]) K):A9 P ops (⟨d,.binOp op t y z t',ty',pos,af,gd⟩::r) σ fs K:=by
 subst hE
 exact B7 hg (Pp rfl hy hz hi ht he).sound hτ h
theorem E4 {op:BinOp}{t t':TypeId}{y:Operand}{q:Value}{x:AV}(ht:P.underlying t=some (.interface (P.methodsAt t))) (hg:AY ops σ ⟨d,.binOp op t y (.const q) t',ty',pos,af,gd⟩=some true) (hy:σ.ev y=.c (.raw .nilIface)) (hz:σ.ev (.const q)=.c (.raw .nilIface)) (he:Cy op true=some x)
  (hE:(⟨[],[],x⟩:AEff)=E) (hτ:σ.upd d E=τ) (h:A9 P ops r τ (fs++[E]) K):A9 P ops (⟨d,.binOp op t y (.const q) t',ty',pos,af,gd⟩::r) σ fs K:=by
 subst hE
 exact B7 hg (Pm rfl hy hz ht he).sound hτ h
end
end
section
open Go.RowKit
set_option maxRecDepth 10000
theorem M5 (n m:Nat):((n:Int)==(m:Int))=(n==m):=by
 rw[Bool.eq_iff_iff];simp;omega
theorem I9 (n:Nat):Ce n=((((n:Int)==32)||((n:Int)==9))||((n:Int)==10)||((n:Int)==13)):=by
 unfold Ce
 rw[Bool.eq_iff_iff];simp;omega
theorem Li (n:Nat):AJ n=(decide ((n:Int)≥48)&&decide ((n:Int)≤57)):=by
 unfold AJ
 rw[Bool.eq_iff_iff];simp;omega
theorem My (n:Nat):AC Tryz.prog 78 [.c (.int .u8 n)] [] (.c (.bool (Ce n))) []:=by
 rw[I9]
 generalize (n:Int)=z
 cases h1:z==32
 ·cases h2:z==9
  ·cases h3:z==10
   ·cases h4:z==13
    all_goals
     refine A7 Tryz.func78 Tryz.ntmps78 ?_
     refine A0 (j4 h1 h2 h3 h4) ?_
     exact Al (A6 []) Tryz.results78
   ·refine A7 Tryz.func78 Tryz.ntmps78 ?_
    refine A0 (j3 h1 h2 h3) ?_
    exact Al (A6 []) Tryz.results78
  ·refine A7 Tryz.func78 Tryz.ntmps78 ?_
   refine A0 (j2 h1 h2) ?_
   exact Al (A6 []) Tryz.results78
 ·refine A7 Tryz.func78 Tryz.ntmps78 ?_
  refine A0 h1 ?_
  exact Al (A6 []) Tryz.results78
theorem Fr (n:Nat):AC Tryz.prog 179 [.c (.int .u8 n)] [] (.c (.bool (AJ n))) []:=by
 rw[Li]
 generalize (n:Int)=z
 cases h1:decide (z≥48)
 ·refine A7 Tryz.func179 Tryz.ntmps179 ?_
  refine A0 h1 ?_
  exact Al (A6 []) Tryz.results179
 ·cases h2:decide (z≤57)
  all_goals
   refine A7 Tryz.func179 Tryz.ntmps179 ?_
   refine A0 (j2 h1 h2) ?_
   exact Al (A6 []) Tryz.results179
theorem BP (s:ByteArray) (hs:s.size≤1000000) (i:Nat) (hi:i≤s.size):AC Tryz.prog 38 [.c (.str s),.c (.int .i64 i)] [] (.c (.int .i64 (Aa s i))) []:=by
 refine A7 Tryz.func38 Tryz.ntmps38 ?_
 refine A0 trivial ?_
 refine AH (κ:=Nat) (fun j=>⟨mkS 0 18 [(0,.c (.str s)),(1,.c (.int .i64 j))],[]⟩) (fun j=>j≤s.size∧Aa s j=Aa s i) (fun j=>s.size-j) i ⟨hi,rfl⟩ ?_ ?_
 ·exact Ao (Ay.of [] []) hi
 ·rintro j ⟨hj,hsk⟩
  by_cases hlt:j<s.size
  ·have hdk:decide ((j:Int)<(s.size:Int))=true:=by simpa using hlt
   have hw:=Ae (k:=j) (by omega)
   obtain⟨b,hg,hb⟩:=Ar hlt
   have hbl:=My b.toNat
   rw[←hb]at hbl
   have hbn:((b.toNat:Nat):Int)=((bAt s j:Nat):Int):=by rw[hb]
   cases hbk:Ce (bAt s j) with
   |true =>
    rw[hbk]at hbl
    refine A0 (j3 hdk hg hbn) ?_
    refine w7 (A4 [] hbl) trivial ?_
    refine A0 hw ?_
    refine⟨j+1,by omega,⟨by omega,by rw[←Fo hbk,hsk]⟩,?_⟩
    exact Ao (Ay.of [] []) hw
   |false =>
    rw[hbk]at hbl
    have he:=CI hbk
    rw[he]at hsk
    subst hsk
    refine A0 (j3 hdk hg hbn) ?_
    refine w7 (A4 [] hbl) trivial ?_
    refine A0 trivial ?_
    exact Al (A6 []) Tryz.results38
  ·have hdk:decide ((j:Int)<(s.size:Int))=false:=by simpa using hlt
   have he:=CI (s:=s) (i:=j) (by rw[Bn (by omega)];rfl)
   rw[he]at hsk
   subst hsk
   refine A0 hdk ?_
   exact Al (A6 []) Tryz.results38
set_option maxRecDepth 10000
theorem Ez {n:Int}(h0:0≤n) (h1:n<256):IntKind.u8.wrap n=n:=IntWalk.u8_in _ (by omega)
theorem C4 {n:Int}(h0:-9223372036854775808≤n) (h1:n≤9223372036854775807):IntKind.i64.wrap n=n:=IntWalk.i64_in _ (by omega)
def CV (v:AV) (t:ByteArray) (e:Nat):AV:=.agg [v,.c (.str t),.c (.int .i64 e),.c (.int .i64 0),.c (.int .i64 0)]
def AP (c:Int) (p:Nat):AV:=.agg [.nils,.c (.str ByteArray.empty),.c (.int .i64 0),.c (.int .i64 c),.c (.int .i64 p)]
theorem AZ (c:Int) (p:Nat):AC Tryz.prog 72 [.c (.int .i64 c),.c (.int .i64 p)] [] (AP c p) []:=by
 unfold AP
 refine A7 Tryz.func72 Tryz.ntmps72 ?_
 refine A0 trivial ?_
 exact Al (A6 []) Tryz.results72
theorem Ib (n:Nat) (hn:n<256):AC Tryz.prog 178 [.c (.int .u8 n)] [] (.c (.int .i64 (AL n))) []:=by
 have hcase:n<48∨(48≤n∧n≤57)∨(58≤n∧n<65)∨(65≤n∧n≤70)∨(71≤n∧n<97)∨(97≤n∧n≤102)∨103≤n:=by omega
 unfold AL AJ
 rcases hcase with h | h | h | h | h | h | h
 ·have g48:decide ((n:Int)≥48)=false:=by simp;omega
  have g97:decide ((n:Int)≥97)=false:=by simp;omega
  have g65:decide ((n:Int)≥65)=false:=by simp;omega
  have m1:decide (48≤n)=false:=by simp;omega
  have m2:decide (n≤57)=true:=by simp;omega
  have m3:decide (97≤n)=false:=by simp;omega
  have m4:decide (n≤102)=true:=by simp;omega
  have m5:decide (65≤n)=false:=by simp;omega
  have m6:decide (n≤70)=true:=by simp;omega
  simp only[m1,m2,m3,m4,m5,m6,Bool.true_and,Bool.false_and,Bool.and_true,Bool.and_false,if_true,Bool.false_eq_true,if_false]
  refine A7 Tryz.func178 Tryz.ntmps178 ?_
  refine A0 (j3 g48 g97 g65) ?_
  exact Al (A6 []) Tryz.results178
 ·have g48:decide ((n:Int)≥48)=true:=by simp;omega
  have l57:decide ((n:Int)≤57)=true:=by simp;omega
  have m1:decide (48≤n)=true:=by simp;omega
  have m2:decide (n≤57)=true:=by simp;omega
  have m3:decide (97≤n)=false:=by simp;omega
  have m4:decide (n≤102)=true:=by simp;omega
  have m5:decide (65≤n)=false:=by simp;omega
  have m6:decide (n≤70)=true:=by simp;omega
  have w1:IntKind.u8.wrap ((n:Int)-48)=(n:Int)-48:=Ez (by omega) (by omega)
  have w2:IntKind.i64.wrap ((n:Int)-48)=(n:Int)-48:=C4 (by omega) (by omega)
  simp only[m1,m2,m3,m4,m5,m6,Bool.true_and,Bool.false_and,Bool.and_true,Bool.and_false,if_true,Bool.false_eq_true,if_false]
  refine A7 Tryz.func178 Tryz.ntmps178 ?_
  (repeat (first | (with_reducible first | refine Fg ?_ | refine Bi ?_ | refine CN ?_ | refine CP ?_) | ((with_reducible apply DJ);(iterate 2 (focus (first | (simp only[go_sem,Nat.reduceEqDiff,Nat.reduceAdd,Nat.reduceSub,Nat.reduceLeDiff,Nat.reduceMul,Nat.reduceBEq,Nat.reduceLT,Int.reduceToNat,reduceCtorEq,g48,l57,w1,w2];first | done | exact rfl | (and_intros<;>rfl)) | exact rfl | decide)))) | ((with_reducible refine Fh ?_);dsimp only;try ((with_reducible apply DN);(focus (simp only[go_sem];exact rfl));(focus decide))) | ((with_reducible first | refine Fe ?_ | refine DK ?_ | refine CO ?_);dsimp only) | ((with_reducible refine DQ ?_);dsimp only;simp only[if_true,if_false,Nat.reduceEqDiff]) | ((with_reducible apply Je);(focus (simp only[go_sem,Nat.reduceBEq,Nat.reduceLT,g48,l57,w1,w2];exact rfl));dsimp only[cond_true,cond_false]) | ((with_reducible refine DI ?_ ?_);(focus exact rfl))))
  exact Al (A6 []) Tryz.results178
 ·have g48:decide ((n:Int)≥48)=true:=by simp;omega
  have l57:decide ((n:Int)≤57)=false:=by simp;omega
  have g97:decide ((n:Int)≥97)=false:=by simp;omega
  have g65:decide ((n:Int)≥65)=false:=by simp;omega
  have m1:decide (48≤n)=true:=by simp;omega
  have m2:decide (n≤57)=false:=by simp;omega
  have m3:decide (97≤n)=false:=by simp;omega
  have m4:decide (n≤102)=true:=by simp;omega
  have m5:decide (65≤n)=false:=by simp;omega
  have m6:decide (n≤70)=true:=by simp;omega
  simp only[m1,m2,m3,m4,m5,m6,Bool.true_and,Bool.false_and,Bool.and_true,Bool.and_false,if_true,Bool.false_eq_true,if_false]
  refine A7 Tryz.func178 Tryz.ntmps178 ?_
  refine A0 (j4 g48 l57 g97 g65) ?_
  exact Al (A6 []) Tryz.results178
 ·have g48:decide ((n:Int)≥48)=true:=by simp;omega
  have l57:decide ((n:Int)≤57)=false:=by simp;omega
  have g97:decide ((n:Int)≥97)=false:=by simp;omega
  have g65:decide ((n:Int)≥65)=true:=by simp;omega
  have l70:decide ((n:Int)≤70)=true:=by simp;omega
  have m1:decide (48≤n)=true:=by simp;omega
  have m2:decide (n≤57)=false:=by simp;omega
  have m3:decide (97≤n)=false:=by simp;omega
  have m4:decide (n≤102)=true:=by simp;omega
  have m5:decide (65≤n)=true:=by simp;omega
  have m6:decide (n≤70)=true:=by simp;omega
  have w1:IntKind.u8.wrap ((n:Int)-65)=(n:Int)-65:=Ez (by omega) (by omega)
  have w2:IntKind.i64.wrap ((n:Int)-65)=(n:Int)-65:=C4 (by omega) (by omega)
  have w3:IntKind.i64.wrap ((n:Int)-65+10)=(n:Int)-55:=by rw[C4 (by omega) (by omega)];omega
  simp only[m1,m2,m3,m4,m5,m6,Bool.true_and,Bool.false_and,Bool.and_true,Bool.and_false,if_true,Bool.false_eq_true,if_false]
  refine A7 Tryz.func178 Tryz.ntmps178 ?_
  (repeat (first | (with_reducible first | refine Fg ?_ | refine Bi ?_ | refine CN ?_ | refine CP ?_) | ((with_reducible apply DJ);(iterate 2 (focus (first | (simp only[go_sem,Nat.reduceEqDiff,Nat.reduceAdd,Nat.reduceSub,Nat.reduceLeDiff,Nat.reduceMul,Nat.reduceBEq,Nat.reduceLT,Int.reduceToNat,reduceCtorEq,g48,l57,g97,g65,l70,w1,w2,w3];first | done | exact rfl | (and_intros<;>rfl)) | exact rfl | decide)))) | ((with_reducible refine Fh ?_);dsimp only;try ((with_reducible apply DN);(focus (simp only[go_sem];exact rfl));(focus decide))) | ((with_reducible first | refine Fe ?_ | refine DK ?_ | refine CO ?_);dsimp only) | ((with_reducible refine DQ ?_);dsimp only;simp only[if_true,if_false,Nat.reduceEqDiff]) | ((with_reducible apply Je);(focus (simp only[go_sem,Nat.reduceBEq,Nat.reduceLT,g48,l57,g97,g65,l70,w1,w2,w3];exact rfl));dsimp only[cond_true,cond_false]) | ((with_reducible refine DI ?_ ?_);(focus exact rfl))))
  exact Al (A6 []) Tryz.results178
 ·have g48:decide ((n:Int)≥48)=true:=by simp;omega
  have l57:decide ((n:Int)≤57)=false:=by simp;omega
  have g97:decide ((n:Int)≥97)=false:=by simp;omega
  have g65:decide ((n:Int)≥65)=true:=by simp;omega
  have l70:decide ((n:Int)≤70)=false:=by simp;omega
  have m1:decide (48≤n)=true:=by simp;omega
  have m2:decide (n≤57)=false:=by simp;omega
  have m3:decide (97≤n)=false:=by simp;omega
  have m4:decide (n≤102)=true:=by simp;omega
  have m5:decide (65≤n)=true:=by simp;omega
  have m6:decide (n≤70)=false:=by simp;omega
  simp only[m1,m2,m3,m4,m5,m6,Bool.true_and,Bool.false_and,Bool.and_true,Bool.and_false,if_true,Bool.false_eq_true,if_false]
  refine A7 Tryz.func178 Tryz.ntmps178 ?_
  refine A0 (j5 g48 l57 g97 g65 l70) ?_
  exact Al (A6 []) Tryz.results178
 ·have g48:decide ((n:Int)≥48)=true:=by simp;omega
  have l57:decide ((n:Int)≤57)=false:=by simp;omega
  have g97:decide ((n:Int)≥97)=true:=by simp;omega
  have l102:decide ((n:Int)≤102)=true:=by simp;omega
  have m1:decide (48≤n)=true:=by simp;omega
  have m2:decide (n≤57)=false:=by simp;omega
  have m3:decide (97≤n)=true:=by simp;omega
  have m4:decide (n≤102)=true:=by simp;omega
  have m5:decide (65≤n)=true:=by simp;omega
  have m6:decide (n≤70)=false:=by simp;omega
  have w1:IntKind.u8.wrap ((n:Int)-97)=(n:Int)-97:=Ez (by omega) (by omega)
  have w2:IntKind.i64.wrap ((n:Int)-97)=(n:Int)-97:=C4 (by omega) (by omega)
  have w3:IntKind.i64.wrap ((n:Int)-97+10)=(n:Int)-87:=by rw[C4 (by omega) (by omega)];omega
  simp only[m1,m2,m3,m4,m5,m6,Bool.true_and,Bool.false_and,Bool.and_true,Bool.and_false,if_true,Bool.false_eq_true,if_false]
  refine A7 Tryz.func178 Tryz.ntmps178 ?_
  (repeat (first | (with_reducible first | refine Fg ?_ | refine Bi ?_ | refine CN ?_ | refine CP ?_) | ((with_reducible apply DJ);(iterate 2 (focus (first | (simp only[go_sem,Nat.reduceEqDiff,Nat.reduceAdd,Nat.reduceSub,Nat.reduceLeDiff,Nat.reduceMul,Nat.reduceBEq,Nat.reduceLT,Int.reduceToNat,reduceCtorEq,g48,l57,g97,l102,w1,w2,w3];first | done | exact rfl | (and_intros<;>rfl)) | exact rfl | decide)))) | ((with_reducible refine Fh ?_);dsimp only;try ((with_reducible apply DN);(focus (simp only[go_sem];exact rfl));(focus decide))) | ((with_reducible first | refine Fe ?_ | refine DK ?_ | refine CO ?_);dsimp only) | ((with_reducible refine DQ ?_);dsimp only;simp only[if_true,if_false,Nat.reduceEqDiff]) | ((with_reducible apply Je);(focus (simp only[go_sem,Nat.reduceBEq,Nat.reduceLT,g48,l57,g97,l102,w1,w2,w3];exact rfl));dsimp only[cond_true,cond_false]) | ((with_reducible refine DI ?_ ?_);(focus exact rfl))))
  exact Al (A6 []) Tryz.results178
 ·have g48:decide ((n:Int)≥48)=true:=by simp;omega
  have l57:decide ((n:Int)≤57)=false:=by simp;omega
  have g97:decide ((n:Int)≥97)=true:=by simp;omega
  have l102:decide ((n:Int)≤102)=false:=by simp;omega
  have g65:decide ((n:Int)≥65)=true:=by simp;omega
  have l70:decide ((n:Int)≤70)=false:=by simp;omega
  have m1:decide (48≤n)=true:=by simp;omega
  have m2:decide (n≤57)=false:=by simp;omega
  have m3:decide (97≤n)=true:=by simp;omega
  have m4:decide (n≤102)=false:=by simp;omega
  have m5:decide (65≤n)=true:=by simp;omega
  have m6:decide (n≤70)=false:=by simp;omega
  simp only[m1,m2,m3,m4,m5,m6,Bool.true_and,Bool.false_and,Bool.and_true,Bool.and_false,if_true,Bool.false_eq_true,if_false]
  refine A7 Tryz.func178 Tryz.ntmps178 ?_
  refine A0 (j6 g48 l57 g97 l102 g65 l70) ?_
  exact Al (A6 []) Tryz.results178
end
end Go.Proofs.YtlciedpfjhkkdaaGreatDoor
