/- Texts of this proof: E35 R09 R10 R11 R12 R14 M49. -/
import Derived.Laws.Strings2
import Derived.Laws.Slices
import Derived.Shelf.Strconv.Itoa4
import Derived.Lib.ItoaLen
import Derived.Lib.ItoaMem
import Derived.Test.YtllfmaflodbieaaGreatDoorKR06uR08
import Derived.Test.YtllfmaflodbieaaGreatDoorKM45uM46
import Derived.Test.YtllfmaflodbieaaGreatDoorKG87uM44
set_option linter.all false
namespace Go.Proofs.YtllfmaflodbieaaGreatDoor
section
open Go.RowKit
section
variable {P:Program} {o:Oper} {σ:ASt} {src dst e t:TypeId}
def Bj (l:List UInt8):List (List C):=l.map fun b=>[.int .u8 (b.toNat:Int)]
theorem Zg {w:World}{S:Nat→Prop}{b:UInt8}{vr:List Value}{bs:List Nat}(h:CRs w S [.int .u8 (b.toNat:Int)] vr bs):vr=[.int .u8 (b.toNat:Int)]:=by
 simp only[CRs,CR]at h
 obtain⟨v,vs',b1,b2,rfl,_,⟨rfl,_⟩,rfl,_⟩:=h
 rfl
theorem TV {x:Operand}{i:Id}(l:List UInt8) (hl:l≠[]) (ho:o.op=.convert src dst x) (hx:σ.ev x=.own i) (hs:P.underlying src=some (.slice e)) (he:P.underlying e=some (.int .u8)) (hd:P.underlying dst=some .string)
  (hi:σ.mem.get i=some (.row false 1 t (Bj l))):An P o σ ⟨[i],[],.c (.str ⟨l.toArray⟩)⟩:=by
 refine An.pure fun Γ σ' a w ow κ hag hr=>?_
 have hi':σ'.mem.get i=some (.row false 1 t (Bj l)):=by rw[hag.2.1 i (by simp),hi]
 obtain⟨_,o1,k1,k2⟩:=hag.ev hr (by rw[ho];simp[Op.operands]) hx
 rw[hi']at k1
 cases k1
 have e1:=k2 (by simp)
 obtain⟨vrows,bs,h1,h2,h3,h4,h5,h6⟩:=hr.objs i _ hi'
 have hlen:=Aj.length h1
 have hrl:(Bj l).length=l.length:=by simp[Bj]
 have hl0:0<l.length:=List.length_pos_iff.2 hl
 obtain⟨A,cap,hA,hc1,hc2,hrow⟩:=Row.of_owns h3 (n:=(Bj l).length) (by omega) (.inl Nat.one_pos) h4 (T:=fun _=>True) (fun _ _=>trivial)
 obtain⟨b,off,rfl,_,_,hcl⟩:=hrow.2 (by omega)
 refine⟨.string ⟨l.toArray⟩,?_,⟨rfl,rfl⟩⟩
 have hc:∀j (hj:j<l.length),w.cell? ((⟨b,off,none⟩:Addr).add j)=some (.int .u8 (l[j].toNat:Int)):=by
  intro j hj
  obtain⟨vr,b',g1,g2,_⟩:=Aj.at_ h1 (i:=j) (row:=[.int .u8 (l[j].toNat:Int)]) (by simp[Bj,hj])
  have g3:=Zg g2
  subst g3
  have:=hcl j _ g1 0 _ rfl
  by_cases hj0:j=0
  ·subst hj0
   simpa [Addr.add] using this
  ·simpa [Addr.add,hj0] using this
 have hrun:=run_convert_bytes_back w src dst e ⟨b,off,none⟩ cap l hs he hd hc
 unfold execOp
 rw[ho]
 rw[hrl]at hA
 simp[e1,hA,hrun]
theorem a2a {x lo hi:Operand}{s:ByteArray}{i j:Int}(ho:o.op=.slice t x (some lo) (some hi) none) (hx:σ.ev x=.c (.str s)) (hlo:σ.ev lo=.c (.int .i64 i)) (hhi:σ.ev hi=.c (.int .i64 j)) (ht:P.underlying t=some .string)
  (h0:0≤i) (h1:i≤j) (h2:j≤s.size):An P o σ ⟨[],[],.c (.str (s.extract i.toNat j.toNat))⟩:=by
 refine An.pure fun Γ σ' a w ow κ hag hr=>?_
 have e1:=AR.str (hag.ev hr (by rw[ho];simp[Op.operands]) hx)
 have e2:=(hag.ev hr (by rw[ho];simp[Op.operands]) hlo).1
 have e3:=(hag.ev hr (by rw[ho];simp[Op.operands]) hhi).1
 refine⟨.string (s.extract i.toNat j.toNat),?_,⟨rfl,rfl⟩⟩
 have hrun:=run_slice_string (P:=P) w t s .i64 .i64 i j ht h0 h1 h2
 unfold execOp
 rw[ho]
 simp[e1,e2,e3,hrun,run_sliceAt_string _ t _ _ _ _ ht]
end
section
variable {P:Program} {σ τ:ASt} {ops:Array Oper} {r:List Oper} {fs:List AEff} {K:ASt→List AEff→Prop} {E:AEff} {src dst e t:TypeId} {d:Option Tmp} {ty':TypeId} {pos:String} {af:Array Edge} {gd:Option (Nat×Bool)}
theorem a5q {x:Operand}{i:Id}{y:ByteArray}(l:List UInt8) (hy:(⟨l.toArray⟩:ByteArray)=y) (hl:l≠[]) (hs:P.underlying src=some (.slice e)) (he:P.underlying e=some (.int .u8)) (hd:P.underlying dst=some .string)
  (hg:BM ops σ ⟨d,.convert src dst x,ty',pos,af,gd⟩=some true) (hn:eff P σ.ev σ.mem.get (σ.fresh ⟨d,.convert src dst x,ty',pos,af,gd⟩) ⟨d,.convert src dst x,ty',pos,af,gd⟩=none) (hx:σ.ev x=.own i) (hi:σ.mem.get i=some (.row false 1 t (Bj l)))
  (hE:(⟨[i],[],.c (.str y)⟩:AEff)=E) (hτ:σ.upd d E=τ) (h:Ah P ops r τ (fs++[E]) K):Ah P ops (⟨d,.convert src dst x,ty',pos,af,gd⟩::r) σ fs K:=by
 subst hE hy
 exact Co hg hn (TV l hl rfl hx hs he hd hi).sound hτ h
theorem Rt {t:TypeId}{x lo hi:Operand}{s y:ByteArray}{i j:Int}(hy:s.extract i.toNat j.toNat=y) (h0:0≤i) (h1:i≤j) (h2:j≤s.size) (ht:P.underlying t=some .string)
  (hg:BM ops σ ⟨d,.slice t x (some lo) (some hi) none,ty',pos,af,gd⟩=some true) (hn:eff P σ.ev σ.mem.get (σ.fresh ⟨d,.slice t x (some lo) (some hi) none,ty',pos,af,gd⟩) ⟨d,.slice t x (some lo) (some hi) none,ty',pos,af,gd⟩=none) (hx:σ.ev x=.c (.str s)) (hlo:σ.ev lo=.c (.int .i64 i)) (hhi:σ.ev hi=.c (.int .i64 j))
  (hE:(⟨[],[],.c (.str y)⟩:AEff)=E) (hτ:σ.upd d E=τ) (h:Ah P ops r τ (fs++[E]) K):Ah P ops (⟨d,.slice t x (some lo) (some hi) none,ty',pos,af,gd⟩::r) σ fs K:=by
 subst hE hy
 exact Co hg hn (a2a rfl hx hlo hhi ht h0 h1 h2).sound hτ h
end
end
section
open Go.RowKit Go.Shelf
def UU:Ren where
 f:=fun x=>match x with
  | 173=>149
  | 246=>204
  | 283=>244
  | 284=>245
  | 285=>246
  | 286=>247
  | 129=>271
  | 317=>270
  | 318=>272
  | 319=>273
  | 320=>274
  | 337=>293
  | 338=>294
  |n=>n
 t:=fun x=>match x with
  | 2=>2
  | 3=>3
  | 9=>9
  | 4=>4
  | 171=>269
  | 0=>0
  | 53=>249
  | 37=>29
  | 5=>5
  | 173=>272
  | 212=>290
  | 51=>233
  | 20=>20
  | 213=>291
  | 46=>194
  | 232=>345
  | 233=>346
  |n=>n
 g:=fun x=>match x with
  | 17=>1
  | 18=>4
  | 19=>5
  |n=>n
theorem SP:LaysM.n173 Tryz.prog UU where
 mixed:=BF
 f129:=by kernel_rfl
 f173:=by kernel_rfl
 f246:=by kernel_rfl
 f283:=by kernel_rfl
 f284:=by kernel_rfl
 f285:=by kernel_rfl
 f286:=by kernel_rfl
 f317:=by kernel_rfl
 f318:=by kernel_rfl
 f319:=by kernel_rfl
 f320:=by kernel_rfl
 f337:=by kernel_rfl
 f338:=by kernel_rfl
 t0:=Tryz.underlying0
 a0:=Tryz.isAgg0
 z0:=Tryz.sizeOf0
 v0:=Tryz.zeroValue0
 t2:=Tryz.underlying2
 a2:=Tryz.isAgg2
 z2:=Tryz.sizeOf2
 v2:=Tryz.zeroValue2
 t3:=Tryz.underlying3
 a3:=Tryz.isAgg3
 z3:=Tryz.sizeOf3
 v3:=Tryz.zeroValue3
 t4:=Tryz.underlying4
 a4:=Tryz.isAgg4
 z4:=Tryz.sizeOf4
 v4:=Tryz.zeroValue4
 t5:=Tryz.underlying5
 a5:=Tryz.isAgg5
 z5:=Tryz.sizeOf5
 v5:=Tryz.zeroValue5
 t9:=Tryz.underlying9
 a9:=Tryz.isAgg9
 z9:=Tryz.sizeOf9
 v9:=Tryz.zeroValue9
 t20:=Tryz.underlying20
 a20:=Tryz.isAgg20
 z20:=Tryz.sizeOf20
 v20:=Tryz.zeroValue20
 t37:=Tryz.underlying29
 a37:=Tryz.isAgg29
 z37:=Tryz.sizeOf29
 v37:=Tryz.zeroValue29
 t46:=Tryz.underlying194
 a46:=Tryz.isAgg194
 z46:=Tryz.sizeOf194
 v46:=Tryz.zeroValue194
 t51:=Tryz.underlying233
 a51:=Tryz.isAgg233
 z51:=Tryz.sizeOf233
 v51:=Tryz.zeroValue233
 t53:=Tryz.underlying249
 a53:=Tryz.isAgg249
 z53:=Tryz.sizeOf249
 v53:=Tryz.zeroValue249
 t171:=Tryz.underlying269
 a171:=Tryz.isAgg269
 z171:=Tryz.sizeOf269
 v171:=Tryz.zeroValue269
 t173:=Tryz.underlying272
 a173:=Tryz.isAgg272
 z173:=Tryz.sizeOf272
 v173:=Tryz.zeroValue272
 t212:=Tryz.underlying290
 a212:=Tryz.isAgg290
 z212:=Tryz.sizeOf290
 v212:=Tryz.zeroValue290
 t213:=Tryz.underlying291
 a213:=Tryz.isAgg291
 z213:=Tryz.sizeOf291
 t232:=Tryz.underlying345
 a232:=Tryz.isAgg345
 z232:=Tryz.sizeOf345
 v232:=Tryz.zeroValue345
 t233:=Tryz.underlying346
 a233:=Tryz.isAgg346
 z233:=Tryz.sizeOf346
 v233:=Tryz.zeroValue346
 g17:=by kernel_rfl
 g18:=by kernel_rfl
 g19:=by kernel_rfl
 i0:=by kernel_rfl
 i2:=by kernel_rfl
 i3:=by kernel_rfl
 i4:=by kernel_rfl
 i5:=by kernel_rfl
 i9:=by kernel_rfl
 i20:=by kernel_rfl
 i37:=by kernel_rfl
 i46:=by kernel_rfl
 i51:=by kernel_rfl
 i53:=by kernel_rfl
 i171:=by kernel_rfl
 i173:=by kernel_rfl
 i212:=by kernel_rfl
 i232:=by kernel_rfl
 i233:=by kernel_rfl
 m17:=by kernel_rfl
 m18:=by kernel_rfl
 m19:=by kernel_rfl
def MH (o : Obj) (b : Nat) (_ : Value) (_ : List (List Value)) (obj : Obj) : Prop := obj = o ∧ Tryz.prog.globalNamed "internal/strconv.uint64pow10" = some b ∧ ∀ w : World, w.heap[b]? = some obj → Lib.TabIs Tryz.prog w "internal/strconv.uint64pow10" .u64 Lib.pow10Tab
abbrev Jn (o:Obj):Mem:=[((8,0),.blk (MH o) [])]
theorem AC.of_tab {o:Obj}{f:FuncId}{args:List AV}{res:AV}
  (h : ∀ (S : Nat → Prop) (w : World) (m : Mem) (κ : Id → Value) (Bv : List Value), Lib.TabIs Tryz.prog w "internal/strconv.uint64pow10" .u64 Lib.pow10Tab → ARs w S m κ args Bv → Calls Tryz.prog f Bv.toArray w fun e w' => Below w.heap.size w w' ∧ ∃ v, e = .returned v ∧ ∀ T : Nat → Prop, (∀ b, S b → T b) → (∀ b, w.heap.size ≤ b → T b) → AR w' T m κ res v) : AC Tryz.prog f args (Jn o) res (Jn o) := by
 intro Γ Bv hE hA
 obtain⟨b,obj,vrows,h1,h2,h3,h4⟩:=hE.objs (8,0) _ rfl
 refine (h _ _ _ _ _ (h4.2.2 _ h2) hA).mono ?_
 rintro e w' ⟨hb,v,rfl,hv⟩
 have hlt:∀b i,Γ.ow b=some i→b < Γ.w.heap.size:=fun b i hbi=>(hE.own b i hbi).1
 have hnone:∀b,Γ.w.heap.size≤b→Γ.ow b=none:=by
  intro b hb
  cases hbi:Γ.ow b with
  |none=>rfl
  |some i=>have:=hlt b i hbi;omega
 refine⟨v,Γ.ow,Γ.κ,rfl,⟨hv _ (fun _ h=>h) (fun b hb=>⟨hnone b hb,.inr (.inl hb)⟩),?_,?_,hb.os,hb.tape,hb.output,hb.size,fun b hl ho=>⟨hb.block b hl,ho⟩,fun i o1 o2 _ _=>rfl⟩⟩
 ·intro i o' hi
  obtain⟨rfl,rfl⟩:i=(8,0)∧o'=.blk (MH o) []:=by
   simp only[Mem.get,List.lookup_cons,List.lookup_nil]at hi
   by_cases hq:i=(8,0)
   ·subst hq
    simpa [eq_comm] using hi
   ·have:(i==((8,0):Id))=false:=by simpa using hq
    rw[this]at hi
    cases hi
  refine⟨b,obj,vrows,h1,(hb.block b (hlt b _ h1)).trans h2,?_,h4⟩
  simp only[Aj]at h3 ⊢
  exact h3
 ·intro b i hbi
  obtain⟨k1,o1,k2,k3⟩:=hE.own b i hbi
  exact⟨Nat.lt_of_lt_of_le k1 hb.size,o1,k2,k3⟩
def Jk (n:Int):ByteArray:=⟨(Lib.itoa n).toArray⟩
theorem Rb {o:Obj}(n:Int) (h0:-9223372036854775808≤n) (h1:n≤9223372036854775807):AC Tryz.prog 149 [.c (.int .i64 n),.c (.int .i64 10)] (Jn o) (.c (.str (Jk n))) (Jn o):=by
 refine AC.of_tab fun S w m κ Bv ht hv=>?_
 obtain⟨v,vs,rfl,⟨rfl,_⟩,u,us,rfl,⟨rfl,_⟩,rfl⟩:=hv
 refine (Any.strconv_FormatInt_10 SP n h0 h1 w ht).mono ?_
 rintro e w' ⟨rfl,k,os,rfl⟩
 exact⟨⟨rfl,rfl,rfl,by simp[Sort.grow],fun b hb=>Sort.heap_grow_old (w.drewN k) os hb⟩,_,rfl,fun T _ _=>⟨rfl,rfl⟩⟩
end
section
open Go.RowKit
set_option maxRecDepth 10000
theorem JC (a b:List UInt8):(⟨a.toArray⟩:ByteArray)++⟨b.toArray⟩=⟨(a++b).toArray⟩:=by
 apply ByteArray.ext
 simp
theorem NJ {n:Int}(h:¬n<0):Lib.itoa n=Lib.decDigits n.toNat:=by unfold Lib.itoa;rw[if_neg h]
theorem T1 {n:Int}(h:n<0):Lib.itoa n=45::Lib.decDigits n.natAbs:=by unfold Lib.itoa;rw[if_pos h]
set_option maxRecDepth 10000
theorem I4 (s:ByteArray) (hs:s.size≤1000000):AC Tryz.prog 108 [.c (.str s)] [] (.c (.str (Dp s))) []:=by
 refine AC.of_calls fun S w κ vs hv=>?_
 obtain⟨v,vs',rfl,⟨rfl,_⟩,rfl⟩:=hv
 refine (Kt s hs w).mono ?_
 rintro e w' ⟨rfl,hb⟩
 exact⟨hb,_,rfl,fun T _ _=>⟨rfl,rfl⟩⟩
set_option maxRecDepth 10000
theorem D1 (b:UInt8):(⟨#[b]⟩:ByteArray).size=1:=rfl
theorem Y7 {n:Int}(h:-1000000000000000≤n∧n≤1000000000000000):(Jk n).size≤21:=by
 have h1:=Lib.itoa_length_le n (by omega) (by omega)
 show (Lib.itoa n).toArray.size≤21
 simpa using h1
theorem Li {s:ByteArray}(h:s.size≤60):(Dp s).size≤122:=by
 have h1:=Ip s.data.toList
 have h2:cz s.data.toList≤s.data.toList.length:=List.length_filter_le _ _
 have h3:s.data.toList.length=s.size:=Array.length_toList
 unfold Dp
 rw[ByteArray.size_append,ByteArray.size_append,D1]
 have:(⟨(AU s.data.toList).toArray⟩:ByteArray).size=(AU s.data.toList).length:=by show (AU s.data.toList).toArray.size=_;simp
 omega
def DX (sep:ByteArray):List ByteArray→ByteArray
 | []=>ByteArray.empty
 |x::r=>match r with
  | []=>x
  |_=>x++sep++DX sep r
theorem JU (sep x:ByteArray) {r:List ByteArray}(h:r≠[]):DX sep (x::r)=x++sep++DX sep r:=by
 cases r with
 |nil=>exact absurd rfl h
 |cons y r=>rfl
theorem NL (sep:ByteArray):∀l:List ByteArray,(DX sep l).size≤(l.map fun x=>x.size+sep.size).sum
 | []=>Nat.zero_le _
 | [y]=>by simp[DX]
 |y::z::r=>by
  have h1:=NL sep (z::r)
  rw[JU sep y (by simp),ByteArray.size_append,ByteArray.size_append,List.map_cons,List.sum_cons]
  omega
def WY:ByteArray:=⟨#[110,117,108,108]⟩
def R7:ByteArray:=⟨#[102,97,108,115,101]⟩
def Xb:ByteArray:=⟨#[116,114,117,101]⟩
abbrev bS (b:UInt8):ByteArray:=⟨#[b]⟩
mutual
def V.txt:V→ByteArray
 | .mk kind num text keys kids=>if kind=0 then WY else if kind=1 then R7 else if kind=2 then Xb else if kind=3 then Jk num else if kind=4 then Dp text
  else if kind=5 then bS 91++DX (bS 44) (Eh kind keys kids)++bS 93 else bS 123++DX (bS 44) (Eh kind keys kids)++bS 125
def Eh (kind:Int) (keys:List ByteArray):List V→List ByteArray
 | []=>[]
 |x::r=>(if kind=6 then Dp (keys.headD ByteArray.empty)++bS 58++x.txt else x.txt)::Eh kind keys.tail r
end
def V.part (t:V) (i:Nat) (x:V):ByteArray:=if t.kind=6 then Dp (t.keyAt i)++bS 58++x.txt else x.txt
def V.parts (t:V):List ByteArray:=Eh t.kind t.keys t.kids
theorem Oj (kind:Int):∀(kids:List V) (keys:List ByteArray),(Eh kind keys kids).length=kids.length
 | [],_=>by simp[Eh]
 |x::r,keys=>by simp[Eh,Oj kind r]
theorem EX (t:V):t.parts.length=t.kids.length:=Oj _ _ _
theorem Oi (kind:Int):∀(kids:List V) (keys:List ByteArray) (i:Nat) (h:i<kids.length),(Eh kind keys kids)[i]? = some (if kind=6 then Dp ((keys.drop i).headD ByteArray.empty)++bS 58++kids[i].txt else kids[i].txt)
 | [],_,i,h=>by simp at h
 |x::r,keys,0,_=>by simp[Eh]
 |x::r,keys,i+1,h=>by
  have h1:=Oi kind r keys.tail i (by simpa using h)
  simp only[Eh,List.getElem?_cons_succ,h1,List.getElem_cons_succ]
  rw[show keys.tail.drop i=keys.drop (i+1) by cases keys<;>simp]
theorem Yk (t:V) {i:Nat}(h:i<t.kids.length):t.parts[i]? = some (t.part i t.kids[i]):=by
 have h1:=Oi t.kind t.kids t.keys i h
 unfold V.parts V.part
 rw[h1]
 unfold V.keyAt
 split<;>rfl
theorem TM (t:V) {i:Nat}(h:i<t.kids.length):t.parts[i]'(by rw[EX];exact h)=t.part i t.kids[i]:=by
 have h1:=Yk t h
 rw[List.getElem?_eq_getElem (by rw[EX];exact h)]at h1
 exact Option.some.inj h1
theorem KX {t:V}(h:t.kind=5):t.txt=bS 91++DX (bS 44) t.parts++bS 93:=by
 cases t;simp only[F6]at h;subst h;rfl
theorem KZ {t:V}(h:t.kind=6):t.txt=bS 123++DX (bS 44) t.parts++bS 125:=by
 cases t;simp only[F6]at h;subst h;rfl
theorem IN {t:V}(h:t.kind=0):t.txt=WY:=by cases t;simp only[F6]at h;subst h;rfl
theorem Hc {t:V}(h:t.kind=1):t.txt=R7:=by cases t;simp only[F6]at h;subst h;rfl
theorem IP {t:V}(h:t.kind=2):t.txt=Xb:=by cases t;simp only[F6]at h;subst h;rfl
theorem KY {t:V}(h:t.kind=3):t.txt=Jk t.num:=by cases t;simp only[F6]at h;subst h;rfl
theorem L0 {t:V}(h:t.kind=4):t.txt=Dp t.text:=by cases t;simp only[F6]at h;subst h;rfl
theorem Gb {t:V}(h:t.right):0≤t.kind∧t.kind≤6:=by
 have hc:=K7 h
 unfold CellD.code AN at hc
 cases hh:inB t.kind 0 6
 ·simp[hh]at hc
 ·simp[inB]at hh
  omega
theorem Ms {t:V}(h:t.right) (i:Nat):(t.keyAt i).size≤60:=by
 unfold V.keyAt
 split
 ·rename_i h6
  rcases Nat.lt_or_ge i t.keys.length with hi | hi
  ·rw[List.drop_eq_getElem_cons hi]
   exact Fg ((B9 h h6).2.1 _ (List.getElem_mem hi))
  ·rw[List.drop_eq_nil_of_le hi];exact Nat.zero_le _
 ·exact Nat.zero_le _
theorem Q6 {t:V}(hr:t.right) (ih:∀x∈t.kids,x.txt.size+124≤250*x.count):∀m,m≤t.kids.length→(DX (bS 44) (t.parts.take m)).size≤250*Ag t.kids:=by
 intro m hm
 refine Nat.le_trans (NL _ _) ?_
 have key:∀m,m≤t.kids.length→((t.parts.take m).map fun x=>x.size+(bS 44).size).sum≤250*Ag (t.kids.take m):=by
  intro m
  induction m with
  |zero=>intro _;simp
  |succ m ihm =>
   intro hm
   have h1:=ihm (by omega)
   have hm':m<t.kids.length:=by omega
   have hmem:t.kids[m]∈t.kids:=List.getElem_mem hm'
   have h2:=ih _ hmem
   have h3:=Li (Ms hr m)
   rw[List.take_succ_eq_append_getElem (by rw[EX];omega),List.take_succ_eq_append_getElem hm',TM t hm',List.map_append,List.sum_append,Gl]
   have h4:(t.part m t.kids[m]).size+1≤250*t.kids[m].count:=by
    unfold V.part
    split
    ·rw[ByteArray.size_append,ByteArray.size_append,D1];omega
    ·omega
   have h5:(bS 44).size=1:=rfl
   simp only[h5]at h1
   simp only[List.map_cons,List.map_nil,List.sum_cons,List.sum_nil,h5]
   omega
 have h1:=key m hm
 have h2:=FR t.kids m
 omega
theorem Uc:∀(n:Nat) (t:V),t.count≤n→t.right→t.txt.size+124≤250*t.count:=by
 intro n
 induction n with
 |zero=>intro t hn _;have:=AY t;omega
 |succ n ih =>
  intro t hn hr
  have hp:=AY t
  have hk:=Gb hr
  have hcc:=AK t
  have hparts:=Q6 hr (fun x hx=>ih x (by have:=BB hx;omega) (AQ hr hx)) t.kids.length (Nat.le_refl _)
  rw[List.take_of_length_le (by rw[EX];exact Nat.le_refl _)]at hparts
  have hcase:t.kind=0∨t.kind=1∨t.kind=2∨t.kind=3∨t.kind=4∨t.kind=5∨t.kind=6:=by omega
  rcases hcase with h | h | h | h | h | h | h
  ·rw[IN h];have:WY.size=4:=rfl;omega
  ·rw[Hc h];have:R7.size=5:=rfl;omega
  ·rw[IP h];have:Xb.size=4:=rfl;omega
  ·rw[KY h];have:=Y7 (FI hr);omega
  ·rw[L0 h];have:=Li (Fg (F0 hr));omega
  ·rw[KX h,ByteArray.size_append,ByteArray.size_append,D1,D1];omega
  ·rw[KZ h,ByteArray.size_append,ByteArray.size_append,D1,D1];omega
theorem He {t:V}(h:t.right):t.txt.size≤50000:=by
 have h1:=Uc _ t (Nat.le_refl _) h
 have:=h.2.1
 omega
theorem XR {t:V}(h:t.right) {k:Nat}(hk:k≤t.kids.length):(DX (bS 44) (t.parts.take k)).size≤50000:=by
 have h1:=Q6 h (fun x hx=>Uc _ x (Nat.le_refl _) (AQ h hx)) k hk
 have h2:=AK t
 have:=h.2.1
 omega
def Sub (s:ByteArray) (i:Nat) (l:List UInt8):Prop:=∃r,s.data.toList.drop i=l++r
theorem Ew (s:ByteArray) (i:Nat):bAt s i=match s.data.toList[i]? with | some b=>b.toNat | none=>256:=by
 rcases Nat.lt_or_ge i s.size with h | h
 ·obtain⟨b,h1,h2⟩:=Ea h
  have h3:s.data.toList[i]? = some b:=by
   have:s[i]? = some s[i]:=getElem?_pos s i h
   rw[this]at h1
   have hl:i<s.data.toList.length:=by rw[Array.length_toList];exact h
   rw[List.getElem?_eq_getElem hl,Array.getElem_toList]
   exact h1
  rw[h3,h2]
 ·have hl:s.data.toList[i]? = none:=List.getElem?_eq_none (by rw[Array.length_toList];exact h)
  rw[hl,Eu h]
theorem Sub.left {s:ByteArray}{i:Nat}{a b:List UInt8}(h:Sub s i (a++b)):Sub s i a:=by
 obtain⟨r,h⟩:=h
 exact⟨b++r,by rw[h,List.append_assoc]⟩
theorem Sub.right {s:ByteArray}{i:Nat}{a b:List UInt8}(h:Sub s i (a++b)):Sub s (i+a.length) b:=by
 obtain⟨r,h⟩:=h
 refine⟨r,?_⟩
 rw[←List.drop_drop,h,List.append_assoc,List.drop_left]
theorem Sub.tail {s:ByteArray}{i:Nat}{b:UInt8}{l:List UInt8}(h:Sub s i (b::l)):Sub s (i+1) l:=Sub.right (a:=[b]) h
theorem Sub.head {s:ByteArray}{i:Nat}{b:UInt8}{l:List UInt8}(h:Sub s i (b::l)):bAt s i=b.toNat:=by
 obtain⟨r,h⟩:=h
 have:s.data.toList[i]? = some b:=by
  have h1:(s.data.toList.drop i)[0]? = some b:=by rw[h];rfl
  rw[List.getElem?_drop]at h1
  simpa using h1
 rw[Ew,this]
theorem Sub.size {s:ByteArray}{i:Nat}{l:List UInt8}(h:Sub s i l) (hl:l≠[]):i+l.length≤s.size:=by
 obtain⟨r,h⟩:=h
 have h1:=congrArg List.length h
 rw[List.length_drop,List.length_append,Array.length_toList]at h1
 have h2:s.data.size=s.size:=rfl
 have h3:=List.length_pos_iff.2 hl
 omega
theorem Bi (a b:ByteArray):(a++b).data.toList=a.data.toList++b.data.toList:=by
 rw[show (a++b).data=a.data++b.data from ByteArray.data_append,Array.toList_append]
theorem Be (a:ByteArray):a.data.toList.length=a.size:=Array.length_toList
theorem Qs {s:ByteArray}{v:V}{i:Nat}:∀(l:List UInt8) (k:Nat),Sub s (i+k) l→Gi s v i (l.map UInt8.toNat) k=.ok v (i+k+l.length)
 | [],k,_=>by simp[Gi]
 |b::l,k,h=>by
  have h1:=Qs (v:=v) l (k+1) (by rw[←Nat.add_assoc];exact h.tail)
  simp only[List.map_cons,Gi]
  rw[if_pos h.head,h1]
  simp only[List.length_cons]
  congr 1
  omega
theorem Xn (b:UInt8):CN b.toNat=⟨#[b]⟩:=by unfold CN;rw[UInt8.ofNat_toNat]
theorem YL (out:ByteArray) (b:UInt8) (l:List UInt8):out++⟨(b::l).toArray⟩=out++CN b.toNat++⟨l.toArray⟩:=by
 have e:(⟨(b::l).toArray⟩:ByteArray)=⟨#[b]⟩++⟨l.toArray⟩:=by
  apply ByteArray.ext
  rw[show ((⟨#[b]⟩:ByteArray)++⟨l.toArray⟩).data = #[b]++l.toArray from ByteArray.data_append]
  simp
 rw[Xn,ByteArray.append_assoc,e]
theorem KV {s:ByteArray}{f:Nat}:∀(l:List UInt8) (n i:Nat) (out:ByteArray),Sub s i (AU l++[34])→l.all Dy=true→out.size+l.length≤60→s.size-i<n→Gg s f n i out=.ok (out++⟨l.toArray⟩) (i+(AU l).length+1)
 |l,0,i,out,_,_,_,hn=>by omega
 | [],n+1,i,out,h,_,hz,hn=>by
  have hb:bAt s i=34:=Sub.head (l:=[]) h
  have hs:=Dz (s:=s) (i:=i) (by omega)
  unfold Gg
  rw[if_neg (by omega),if_pos hb,if_neg (by simp at hz;omega)]
  have:out++(⟨([]:List UInt8).toArray⟩:ByteArray)=out:=ByteArray.append_empty
  rw[this]
  rfl
 |b::l,n+1,i,out,h,ha,hz,hn=>by
  simp only[List.all_cons,Bool.and_eq_true]at ha
  obtain⟨hb,ha⟩:=ha
  simp only[List.length_cons]at hz
  have hok:32≤b.toNat∧b.toNat≤126:=by unfold Dy at hb;simpa using hb
  have he:AU (b::l)=DD b++AU l:=rfl
  rw[he]at h
  have hsz:∀x:Nat,(out++CN x).size+l.length≤60:=fun x=>by rw[H9];omega
  rw[YL]
  by_cases h34:b=34
  ·have e:DD b=[92,34]:=by unfold DD;rw[if_pos h34]
   rw[e]at h
   rw[List.append_assoc]at h
   have a0:bAt s i=92:=Sub.head h
   have a1:bAt s (i+1)=34:=Sub.head (Sub.tail h)
   have hs:=Dz (s:=s) (i:=i) (by omega)
   unfold Gg
   rw[if_neg (by omega),if_neg (by omega),if_neg (by omega),if_neg (by omega)]
   have hx:MC s i=.ok 34 (i+2):=by unfold MC;rw[if_pos (.inl a1),a1]
   rw[hx]
   have:=KV (f:=f) l n (i+2) (out++CN 34) (Sub.tail (Sub.tail h)) ha (hsz _) (by omega)
   show Gg s f n (i+2) (out++CN 34)=_
   rw[this,he,e,h34]
   simp only[List.length_append,List.length_cons,List.length_nil]
   congr 1
   omega
  by_cases h92:b=92
  ·have e:DD b=[92,92]:=by unfold DD;rw[if_neg h34,if_pos h92]
   rw[e]at h
   rw[List.append_assoc]at h
   have a0:bAt s i=92:=Sub.head h
   have a1:bAt s (i+1)=92:=Sub.head (Sub.tail h)
   have hs:=Dz (s:=s) (i:=i) (by omega)
   unfold Gg
   rw[if_neg (by omega),if_neg (by omega),if_neg (by omega),if_neg (by omega)]
   have hx:MC s i=.ok 92 (i+2):=by unfold MC;rw[if_pos (.inr (.inl a1)),a1]
   rw[hx]
   have:=KV (f:=f) l n (i+2) (out++CN 92) (Sub.tail (Sub.tail h)) ha (hsz _) (by omega)
   show Gg s f n (i+2) (out++CN 92)=_
   rw[this,he,e,h92]
   simp only[List.length_append,List.length_cons,List.length_nil]
   congr 1
   omega
  ·have e:DD b=[b]:=by unfold DD;rw[if_neg h34,if_neg h92]
   rw[e]at h
   rw[List.append_assoc]at h
   have a0:bAt s i=b.toNat:=Sub.head h
   have hs:=Dz (s:=s) (i:=i) (by omega)
   have n34:b.toNat≠34:=fun h=>h34 (UInt8.toNat_inj.1 h)
   have n92:b.toNat≠92:=fun h=>h92 (UInt8.toNat_inj.1 h)
   unfold Gg
   rw[if_neg (by omega),if_neg (by omega),if_neg (by omega),if_pos (by omega),a0]
   rw[KV (f:=f) l n (i+1) (out++CN b.toNat) (Sub.tail h) ha (hsz _) (by omega),he,e]
   simp only[List.length_append,List.length_cons,List.length_nil]
   congr 1
   omega
theorem EQ (t:ByteArray):(Dp t).data.toList=34::(AU t.data.toList++[34]):=by
 unfold Dp
 rw[Bi,Bi]
 simp
theorem PA {s:ByteArray}{i:Nat}{t:ByteArray}(h:Sub s i (Dp t).data.toList) (ht:AP t=true):LK s i=.ok t (i+(Dp t).size):=by
 have hl:(Dp t).size=(AU t.data.toList).length+2:=by rw[←Be,EQ];simp
 rw[EQ]at h
 unfold AP at ht
 simp only[Bool.and_eq_true,decide_eq_true_eq]at ht
 have hh:=Sub.head h
 unfold LK
 rw[if_neg (by rw[hh];decide)]
 rw[KV (f:=i) t.data.toList (s.size+1) (i+1) ByteArray.empty (Sub.tail h) ht.2 (by rw[Be];simpa using ht.1) (by omega),hl]
 have:ByteArray.empty++(⟨t.data.toList.toArray⟩:ByteArray)=t:=by rw[ByteArray.empty_append]
 rw[this]
 congr 1
 omega
theorem Sw {d:Nat}(h:d<10):(UInt8.ofNat (48+d)).toNat=48+d:=by
 rw[UInt8.toNat_ofNat']
 exact Nat.mod_eq_of_lt (by omega)
theorem FD {s:ByteArray}{a:Nat}:∀(m u:Nat),u≤m→Sub s a (Lib.decDigits u)→Dg s a (Lib.decDigits u).length=u∧(∀j,a≤j→j<a+(Lib.decDigits u).length→Bx (bAt s j)=true)∧(u≠0→bAt s a≠48)
 |m,u,hm,h=>by
  by_cases hu:u<10
  ·rw[Lib.decDigits_one hu]at h ⊢
   have hb:=Sub.head h
   rw[Sw hu]at hb
   refine⟨?_,fun j h1 h2=>?_,fun h0=>by omega⟩
   ·simp only[List.length_cons,List.length_nil,Dg,Nat.add_zero,hb]
    omega
   ·have:j=a:=by simp at h2;omega
    rw[this,hb]
    unfold Bx
    simp
    omega
  ·cases m with
   |zero=>omega
   |succ m =>
    have e:Lib.decDigits u=Lib.decDigits (u / 10)++[UInt8.ofNat (48+u % 10)]:=by rw[Lib.decDigits,dif_neg hu]
    rw[e]at h ⊢
    obtain⟨h1,h2,h3⟩:=FD m (u / 10) (by omega) (Sub.left h)
    have hb:=Sub.head (Sub.right h)
    rw[Sw (by omega)]at hb
    refine⟨?_,fun j g1 g2=>?_,fun _=>h3 (by omega)⟩
    ·simp only[List.length_append,List.length_cons,List.length_nil,Dg,h1,hb]
     omega
    ·simp only[List.length_append,List.length_cons,List.length_nil]at g2
     by_cases hj:j<a+(Lib.decDigits (u / 10)).length
     ·exact h2 j g1 hj
     ·have:j=a+(Lib.decDigits (u / 10)).length:=by omega
      rw[this,hb]
      unfold Bx
      simp
      omega
theorem Sv {s:ByteArray}:∀(n i:Nat),(∀j,i≤j→j<i+n→Bx (bAt s j)=true)→Bx (bAt s (i+n))=false→Fb s i=i+n
 | 0,i,_,h=>IX h
 |n+1,i,h1,h2=>by
  rw[Nk (h1 i (Nat.le_refl _) (by omega)),Sv n (i+1) (fun j g1 g2=>h1 j (by omega) (by omega)) (by rw[show i+1+n=i+(n+1) by omega];exact h2)]
  omega
theorem Vu {u:Nat}(h:u≤1000000000000000):Lib.nDigits u≤16:=by
 rcases Nat.lt_or_ge (Lib.nDigits u) 17 with h1 | h1
 ·omega
 ·exfalso
  have key:∀(n v:Nat),n+1≤Lib.nDigits v→10 ^ n≤v∨(n=0):=by
   intro n
   induction n with
   |zero=>intro v _;exact .inr rfl
   |succ n ih =>
    intro v hv
    by_cases hv10:v<10
    ·rw[Lib.nDigits_small hv10]at hv;omega
    ·rw[Lib.nDigits_big hv10]at hv
     rcases ih (v / 10) (by omega) with h | h
     ·refine .inl ?_
      rw[Nat.pow_succ]
      omega
     ·refine .inl ?_
      rw[h]
      omega
  rcases key 16 u h1 with h | h
  ·have:(10:Nat) ^ 16=10000000000000000:=by decide
   omega
  ·omega
def Qh (s:ByteArray) (e:Nat):Prop:=Bx (bAt s e)=false∧Ld (bAt s e)=false
theorem c8 {s:ByteArray}{a u:Nat}(h:Sub s a (Lib.decDigits u)) (hs:Bx (bAt s (a+(Lib.decDigits u).length))=false):Bx (bAt s a)=true∧(if bAt s a=48 then a+1 else Fb s a)=a+(Lib.decDigits u).length∧Dg s a (Lib.decDigits u).length=u:=by
 obtain⟨h1,h2,h3⟩:=FD u u (Nat.le_refl _) h
 have hp:1≤(Lib.decDigits u).length:=by rw[Lib.decDigits_length];exact Lib.nDigits_pos u
 refine⟨h2 a (Nat.le_refl _) (by omega),?_,h1⟩
 by_cases hu:u=0
 ·subst hu
  have e:Lib.decDigits 0=[48]:=by rw[Lib.decDigits_one (by decide)];rfl
  rw[e]at h ⊢
  rw[if_pos (show bAt s a=48 from Sub.head h)]
  rfl
 ·rw[if_neg (h3 hu)]
  exact Sv _ _ h2 hs
theorem i8 {s:ByteArray}{i:Nat}{n:Int}(hn:-1000000000000000≤n∧n≤1000000000000000) (h:Sub s i (Jk n).data.toList) (hs:Qh s (i+(Jk n).size)):Pe s i=.ok n (i+(Jk n).size):=by
 have hl:(Jk n).size=(Lib.itoa n).length:=by rw[←Be];simp[Jk]
 have hd:(Jk n).data.toList=Lib.itoa n:=by simp[Jk]
 rw[hd]at h
 rw[hl]at hs ⊢
 have fin:∀(a u:Nat),Br s i=a→Sub s a (Lib.decDigits u)→u≤1000000000000000→a+(Lib.decDigits u).length=i+(Lib.itoa n).length→H2 s i=n∨True→(bAt s i=45→-((u:Nat):Int)=n)→(bAt s i≠45→((u:Nat):Int)=n)→Pe s i=.ok n (i+(Lib.itoa n).length):=by
  intro a u ha hsub hu hal _ hm hp
  obtain⟨g1,g2,g3⟩:=c8 hsub (by rw[hal];exact hs.1)
  have hE:BO s i=a+(Lib.decDigits u).length:=by unfold BO;rw[ha];exact g2
  have hlen:=Vu hu
  rw[←Lib.decDigits_length]at hlen
  have hsub':BO s i-Br s i=(Lib.decDigits u).length:=by rw[hE,ha];omega
  unfold Pe
  rw[if_neg (by rw[ha,g1];decide)]
  have hbig:Fm s i=false:=by
   unfold Fm
   rw[hsub',ha,g3]
   simp
   omega
  rw[if_neg (by rw[hbig];decide),if_neg (by rw[hE,hal,hs.2];decide),hE,hal]
  congr 1
  unfold H2
  rw[hsub',ha,g3]
  by_cases h45:bAt s i=45
  ·rw[if_pos h45];exact hm h45
  ·rw[if_neg h45];exact hp h45
 unfold Lib.itoa at h
 by_cases h0:n<0
 ·rw[if_pos h0]at h
  have hb:bAt s i=45:=Sub.head h
  refine fin (i+1) n.natAbs (by unfold Br;rw[if_pos hb]) (Sub.tail h) (by omega) ?_ (.inr trivial) (fun _=>by omega) (fun h=>absurd hb h)
  unfold Lib.itoa
  rw[if_pos h0,List.length_cons]
  omega
 ·rw[if_neg h0]at h
  obtain⟨_,h2,_⟩:=FD n.toNat n.toNat (Nat.le_refl _) h
  have hp:1≤(Lib.decDigits n.toNat).length:=by rw[Lib.decDigits_length];exact Lib.nDigits_pos _
  have hd0:=GB (h2 i (Nat.le_refl _) (by omega))
  have hb:bAt s i≠45:=by omega
  refine fin i n.toNat (by unfold Br;rw[if_neg hb]) h (by omega) ?_ (.inr trivial) (fun h=>absurd h hb) (fun _=>by omega)
  unfold Lib.itoa
  rw[if_neg h0]
end
end Go.Proofs.YtllfmaflodbieaaGreatDoor
