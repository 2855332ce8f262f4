/- What the program's reader takes from Go's library: strings.TrimPrefix, strings.IndexByte, strconv.ParseInt at base ten; the two errors of strconv that are laid. -/
import Derived.Test.YtllfmaflodbieaaGreatDoorKE40uD13
import Derived.Shelf.Strconv.ParseIntPublic10
import Derived.Shelf.Strings.Prefix
import Derived.Shelf.Strings.Search1
set_option linter.all false
namespace Go.Proofs.YtllfmaflodbieaaGreatDoor
open Go.RowKit Go.Shelf
def a0c:Ren where
 f:=fun x=>match x with
  | 101=>86
  | 208=>147
  | 206=>148
  |n=>n
 t:=fun x=>match x with
  | 9=>9
  | 4=>4
  | 3=>3
  |n=>n
 g:=fun x=>match x with
  |n=>n
theorem YW:Lays.n101 Tryz.prog a0c where
 mixed:=BF
 f101:=by kernel_rfl
 f206:=by kernel_rfl
 f208:=by kernel_rfl
 t3:=Tryz.underlying3
 a3:=Tryz.isAgg3
 z3:=Tryz.sizeOf3
 v3:=Tryz.zeroValue3
 t4:=Tryz.underlying4
 a4:=Tryz.isAgg4
 z4:=Tryz.sizeOf4
 v4:=Tryz.zeroValue4
 t9:=Tryz.underlying9
 a9:=Tryz.isAgg9
 z9:=Tryz.sizeOf9
 v9:=Tryz.zeroValue9
def XP:Ren where
 f:=fun x=>match x with
  | 217=>232
  | 266=>261
  |n=>n
 t:=fun x=>match x with
  | 9=>9
  | 5=>5
  | 3=>3
  |n=>n
 g:=fun x=>match x with
  |n=>n
theorem V8:Lays.n217 Tryz.prog XP where
 mixed:=BF
 f217:=by kernel_rfl
 f266:=by kernel_rfl
 t3:=Tryz.underlying3
 a3:=Tryz.isAgg3
 z3:=Tryz.sizeOf3
 v3:=Tryz.zeroValue3
 t5:=Tryz.underlying5
 a5:=Tryz.isAgg5
 z5:=Tryz.sizeOf5
 v5:=Tryz.zeroValue5
 t9:=Tryz.underlying9
 a9:=Tryz.isAgg9
 z9:=Tryz.sizeOf9
 v9:=Tryz.zeroValue9
def Yj:Ren where
 f:=fun x=>match x with
  | 174=>256
  | 247=>290
  | 245=>291
  | 287=>306
  | 279=>307
  | 280=>308
  | 281=>309
  | 282=>310
  | 321=>321
  | 322=>322
  | 316=>323
  | 171=>325
  | 205=>324
  | 243=>333
  | 246=>204
  | 283=>244
  | 284=>245
  | 285=>246
  | 286=>247
  | 129=>271
  | 317=>270
  | 318=>272
  | 319=>273
  | 320=>274
  | 337=>293
  | 338=>294
  |n=>n
 t:=fun x=>match x with
  | 9=>9
  | 3=>3
  | 2=>2
  | 75=>62
  | 85=>279
  | 4=>4
  | 167=>339
  | 5=>5
  | 53=>249
  | 175=>340
  | 46=>194
  | 168=>342
  | 37=>29
  | 0=>0
  | 210=>360
  | 21=>21
  | 127=>113
  | 145=>365
  | 143=>363
  | 171=>269
  | 173=>272
  | 212=>290
  | 51=>233
  | 20=>20
  | 213=>291
  | 232=>345
  | 233=>346
  | 80=>65
  |n=>n
 g:=fun x=>match x with
  | 15=>6
  | 16=>7
  | 17=>1
  | 18=>4
  | 19=>5
  |n=>n
theorem HQ:LaysC.n174 Tryz.prog Yj where
 mixed:=BF
 f129:=by kernel_rfl
 f171:=by kernel_rfl
 f174:=by kernel_rfl
 f205:=by kernel_rfl
 f243:=by kernel_rfl
 f245:=by kernel_rfl
 f246:=by kernel_rfl
 f247:=by kernel_rfl
 f279:=by kernel_rfl
 f280:=by kernel_rfl
 f281:=by kernel_rfl
 f282:=by kernel_rfl
 f283:=by kernel_rfl
 f284:=by kernel_rfl
 f285:=by kernel_rfl
 f286:=by kernel_rfl
 f287:=by kernel_rfl
 f316:=by kernel_rfl
 f317:=by kernel_rfl
 f318:=by kernel_rfl
 f319:=by kernel_rfl
 f320:=by kernel_rfl
 f321:=by kernel_rfl
 f322:=by kernel_rfl
 f337:=by kernel_rfl
 f338:=by kernel_rfl
 t0:=Tryz.underlying0
 a0:=Tryz.isAgg0
 z0:=Tryz.sizeOf0
 v0:=Tryz.zeroValue0
 t2:=Tryz.underlying2
 a2:=Tryz.isAgg2
 z2:=Tryz.sizeOf2
 v2:=Tryz.zeroValue2
 t3:=Tryz.underlying3
 a3:=Tryz.isAgg3
 z3:=Tryz.sizeOf3
 v3:=Tryz.zeroValue3
 t4:=Tryz.underlying4
 a4:=Tryz.isAgg4
 z4:=Tryz.sizeOf4
 v4:=Tryz.zeroValue4
 t5:=Tryz.underlying5
 a5:=Tryz.isAgg5
 z5:=Tryz.sizeOf5
 v5:=Tryz.zeroValue5
 t9:=Tryz.underlying9
 a9:=Tryz.isAgg9
 z9:=Tryz.sizeOf9
 v9:=Tryz.zeroValue9
 t20:=Tryz.underlying20
 a20:=Tryz.isAgg20
 z20:=Tryz.sizeOf20
 v20:=Tryz.zeroValue20
 t21:=Tryz.underlying21
 a21:=Tryz.isAgg21
 z21:=Tryz.sizeOf21
 v21:=Tryz.zeroValue21
 t37:=Tryz.underlying29
 a37:=Tryz.isAgg29
 z37:=Tryz.sizeOf29
 v37:=Tryz.zeroValue29
 t46:=Tryz.underlying194
 a46:=Tryz.isAgg194
 z46:=Tryz.sizeOf194
 v46:=Tryz.zeroValue194
 t51:=Tryz.underlying233
 a51:=Tryz.isAgg233
 z51:=Tryz.sizeOf233
 v51:=Tryz.zeroValue233
 t53:=Tryz.underlying249
 a53:=Tryz.isAgg249
 z53:=Tryz.sizeOf249
 v53:=Tryz.zeroValue249
 t75:=Tryz.underlying62
 a75:=Tryz.isAgg62
 z75:=Tryz.sizeOf62
 v75:=Tryz.zeroValue62
 t85:=Tryz.underlying279
 a85:=Tryz.isAgg279
 z85:=Tryz.sizeOf279
 v85:=Tryz.zeroValue279
 t127:=Tryz.underlying113
 a127:=Tryz.isAgg113
 z127:=Tryz.sizeOf113
 v127:=Tryz.zeroValue113
 t143:=Tryz.underlying363
 a143:=Tryz.isAgg363
 z143:=Tryz.sizeOf363
 v143:=Tryz.zeroValue363
 t145:=Tryz.underlying365
 a145:=Tryz.isAgg365
 z145:=Tryz.sizeOf365
 v145:=Tryz.zeroValue365
 t167:=Tryz.underlying339
 a167:=Tryz.isAgg339
 z167:=Tryz.sizeOf339
 v167:=Tryz.zeroValue339
 t168:=Tryz.underlying342
 a168:=Tryz.isAgg342
 z168:=Tryz.sizeOf342
 v168:=Tryz.zeroValue342
 t171:=Tryz.underlying269
 a171:=Tryz.isAgg269
 z171:=Tryz.sizeOf269
 v171:=Tryz.zeroValue269
 t173:=Tryz.underlying272
 a173:=Tryz.isAgg272
 z173:=Tryz.sizeOf272
 v173:=Tryz.zeroValue272
 t175:=Tryz.underlying340
 a175:=Tryz.isAgg340
 z175:=Tryz.sizeOf340
 v175:=Tryz.zeroValue340
 t210:=Tryz.underlying360
 a210:=Tryz.isAgg360
 z210:=Tryz.sizeOf360
 v210:=Tryz.zeroValue360
 t212:=Tryz.underlying290
 a212:=Tryz.isAgg290
 z212:=Tryz.sizeOf290
 v212:=Tryz.zeroValue290
 t213:=Tryz.underlying291
 a213:=Tryz.isAgg291
 z213:=Tryz.sizeOf291
 t232:=Tryz.underlying345
 a232:=Tryz.isAgg345
 z232:=Tryz.sizeOf345
 v232:=Tryz.zeroValue345
 t233:=Tryz.underlying346
 a233:=Tryz.isAgg346
 z233:=Tryz.sizeOf346
 v233:=Tryz.zeroValue346
 g15:=by kernel_rfl
 g16:=by kernel_rfl
 g17:=by kernel_rfl
 g18:=by kernel_rfl
 g19:=by kernel_rfl
 t80:=Tryz.underlying65
 a80:=Tryz.isAgg65
 z80:=Tryz.sizeOf65
 v80:=Tryz.zeroValue65
 i0:=by kernel_rfl
 i2:=by kernel_rfl
 i3:=by kernel_rfl
 i4:=by kernel_rfl
 i5:=by kernel_rfl
 i9:=by kernel_rfl
 i20:=by kernel_rfl
 i21:=by kernel_rfl
 i37:=by kernel_rfl
 i46:=by kernel_rfl
 i51:=by kernel_rfl
 i53:=by kernel_rfl
 i75:=by kernel_rfl
 i80:=by kernel_rfl
 i85:=by kernel_rfl
 i127:=by kernel_rfl
 i143:=by kernel_rfl
 i145:=by kernel_rfl
 i167:=by kernel_rfl
 i168:=by kernel_rfl
 i171:=by kernel_rfl
 i173:=by kernel_rfl
 i175:=by kernel_rfl
 i210:=by kernel_rfl
 i212:=by kernel_rfl
 i232:=by kernel_rfl
 i233:=by kernel_rfl
 m15:=by kernel_rfl
 m16:=by kernel_rfl
 m17:=by kernel_rfl
 m18:=by kernel_rfl
 m19:=by kernel_rfl
 c0:=by kernel_rfl
 c2:=by kernel_rfl
 c3:=by kernel_rfl
 c4:=by kernel_rfl
 c5:=by kernel_rfl
 c9:=by kernel_rfl
 c20:=by kernel_rfl
 c21:=by kernel_rfl
 c37:=by kernel_rfl
 c46:=by kernel_rfl
 c51:=by kernel_rfl
 c53:=by kernel_rfl
 c75:=by kernel_rfl
 c80:=by kernel_rfl
 c85:=by kernel_rfl
 c127:=by kernel_rfl
 c143:=by kernel_rfl
 c145:=by kernel_rfl
 c167:=by kernel_rfl
 c168:=by kernel_rfl
 c171:=by kernel_rfl
 c173:=by kernel_rfl
 c175:=by kernel_rfl
 c210:=by kernel_rfl
 c212:=by kernel_rfl
 c213:=by kernel_rfl
 c232:=by kernel_rfl
 c233:=by kernel_rfl
theorem YX (t:ByteArray) (h0:0<t.size) {m:Bool}{u:ByteArray}(hm:(bAt t 0==45)=m) (hu:(if m then t.extract 1 t.size else t)=u):(⟨(Lib.trimPrefix t.data.toList [45]).toArray⟩:ByteArray)=u:=by
 have hz:=Ew t 0
 rw[hz]at hm
 have hlen:=Be t
 cases hl:t.data.toList with
 |nil=>rw[hl]at hlen;simp at hlen;omega
 |cons b r =>
  rw[hl]at hm
  simp only[List.getElem?_cons_zero]at hm
  unfold Lib.trimPrefix
  have hp:Lib.hasPrefix (b::r) [45]=m:=by
   rw[←hm,Bool.eq_iff_iff]
   simp[Lib.hasPrefix]
   constructor
   ·intro h;rw[←h];rfl
   ·intro h;exact UInt8.toNat_inj.1 h.symm
  rw[hp]
  apply ByteArray.ext
  apply Array.toList_inj.1
  cases m with
  |true =>
   simp only[if_true]at hu ⊢
   rw[←hu]
   show List.drop 1 (b::r)=(t.extract 1 t.size).data.toList
   rw[Dq,hl,List.take_of_length_le (by rw[←hl,hlen];exact Nat.le_refl _)]
  |false =>
   simp only[Bool.false_eq_true,if_false]at hu ⊢
   rw[←hu,hl]
theorem a2n (t:ByteArray) (h0:0<t.size) {m:Bool}{u:ByteArray}(hm:(bAt t 0==45)=m) (hu:(if m then t.extract 1 t.size else t)=u):AC Tryz.prog 86 [.c (.str t),.c (.str ⟨#[45]⟩)] [] (.c (.str u)) []:=by
 refine AC.of_calls fun S w κ vs hv=>?_
 obtain⟨v,vs',rfl,⟨rfl,_⟩,v2,vs2,rfl,⟨rfl,_⟩,rfl⟩:=hv
 refine (Any.strings_TrimPrefix YW t ⟨#[45]⟩ w).mono ?_
 rintro e w' ⟨rfl,rfl⟩
 refine⟨Below.refl _ _,_,rfl,fun T _ _=>⟨?_,rfl⟩⟩
 rw[←YX t h0 hm hu]
def UI (n:Nat):Int:=Lib.indexByte [46,101,69] (UInt8.ofNat n)
theorem a0z {n:Nat}(hn:n<256):decide (UI n≥0)=Ld n:=by
 have:∀k:Fin 256,decide (UI k.val≥0)=Ld k.val:=by decide +kernel
 exact this ⟨n,hn⟩
theorem Rl (n:Nat) (hn:n<256):AC Tryz.prog 232 [.c (.str ⟨#[46,101,69]⟩),.c (.int .u8 n)] [] (.c (.int .i64 (UI n))) []:=by
 refine AC.of_calls fun S w κ vs hv=>?_
 obtain⟨v,vs',rfl,⟨rfl,_⟩,v2,vs2,rfl,⟨rfl,_⟩,rfl⟩:=hv
 refine (Any.stringslite_IndexByte V8 ⟨#[46,101,69]⟩ (n:Int) w).mono ?_
 rintro e w' ⟨rfl,rfl⟩
 exact⟨Below.refl _ _,_,rfl,fun T _ _=>⟨rfl,rfl⟩⟩
theorem Rf (n:Nat) (hn:n<256):AC Tryz.prog 217 [.c (.str ⟨#[46,101,69]⟩),.c (.int .u8 n)] [] (.c (.int .i64 (UI n))) []:=by
 have h:=Rl n hn
 refine A5 Tryz.func217 Tryz.ntmps217 ?_
 refine A3 q9 ?_
 refine w7 (A8 [] h) q9 ?_
 refine A3 q9 ?_
 exact AL (Ad []) Tryz.results217
def SX (o:Obj):Prop:=∀(w:World) (b:Nat),w.heap[b]? = some o→∃ev,w.cell? ⟨b,0,none⟩=some ev∧(ev=.nilIface∨∃te pe,ev=.iface te pe)
def D8 (o1 o2:Obj):Value→List (Nat×Obj)→Prop:=fun _ l=>l=[(6,o1),(7,o2)]∧SX o1∧SX o2
abbrev Kv (o1 o2:Obj):Mem:=[((8,1),.gen (D8 o1 o2))]
theorem SH {o1 o2:Obj}{i:Id}{o:AO}(h:Mem.get (Kv o1 o2) i=some o):i=(8,1)∧o=.gen (D8 o1 o2):=by
 simp only[Mem.get,List.lookup_cons,List.lookup_nil]at h
 by_cases hq:i=(8,1)
 ·subst hq
  simpa [eq_comm] using h
 ·have:(i==((8,1):Id))=false:=by simpa using hq
  rw[this]at h
  cases h
theorem AC.of_errsG {o1 o2:Obj}{f:FuncId}{args:List AV}{res:AV}(mk:Value→Value) (hres:∀(w:World) (S:Nat→Prop) (m:Mem) (κ:Id→Value),m.get (1,0)=some (.gen Lj)→(κ (1,0)).oneCell'=true→AR w S m κ res (mk (κ (1,0))))
  (h:∀(S:Nat→Prop) (w:World) (m:Mem) (κ:Id→Value) (Bv:List Value),(∃ev,w.cell? ⟨6,0,none⟩=some ev∧(ev=.nilIface∨∃te pe,ev=.iface te pe))→(∃ev,w.cell? ⟨7,0,none⟩=some ev∧(ev=.nilIface∨∃te pe,ev=.iface te pe))→ARs w S m κ args Bv →
   Calls Tryz.prog f Bv.toArray w fun e w'=>Below w.heap.size w w'∧∃t x,e=.returned (mk (.iface t x))) :
  AC Tryz.prog f args (Kv o1 o2) res [((8,1),.gen (D8 o1 o2)),((1,0),.gen Lj)]:=by
 intro Γ Bv hE hA
 obtain⟨l,h1,h2,h3,h4⟩:=hE.objs (8,1) _ rfl
 subst h2
 have hb1:=h1 _ (List.mem_cons_self ..)
 have hb2:=h1 (7,o2) (by simp)
 refine (h _ _ _ _ _ (h3 _ _ hb1.2) (h4 _ _ hb2.2) hA).mono ?_
 rintro e w' ⟨hb,t,x,rfl⟩
 have hlt:∀b i,Γ.ow b=some i→b < Γ.w.heap.size:=fun b i hbi=>(hE.own b i hbi).1
 have hget:∀i o,Mem.get [((8,1),AO.gen (D8 o1 o2)),((1,0),.gen Lj)] i=some o→(i=(8,1)∧o=.gen (D8 o1 o2))∨(i=(1,0)∧o=.gen Lj):=by
  intro i o hi
  simp only[Mem.get,List.lookup_cons,List.lookup_nil]at hi
  by_cases hq:i=(8,1)
  ·subst hq
   exact .inl ⟨rfl,by simpa [eq_comm] using hi⟩
  ·have e1:(i==((8,1):Id))=false:=by simpa using hq
   rw[e1]at hi
   by_cases hq2:i=(1,0)
   ·subst hq2
    exact .inr ⟨rfl,by simpa [eq_comm] using hi⟩
   ·have e2:(i==((1,0):Id))=false:=by simpa using hq2
    rw[e2]at hi
    cases hi
 let κ':Id→Value:=fun i=>if i=(1,0) then .iface t x else Γ.κ i
 refine⟨_,Γ.ow,κ',rfl,⟨?_,?_,?_,hb.os,hb.tape,hb.output,hb.size,fun b hl ho=>⟨hb.block b hl,ho⟩,fun i o1' o2' g1 g2=>?_⟩⟩
 ·have h9:=hres w' (Γ.sees Γ.ow) [((8,1),.gen (D8 o1 o2)),((1,0),.gen Lj)] κ' rfl
  have h8:κ' (1,0)=.iface t x:=by simp[κ']
  rw[h8]at h9
  have h9:=h9 rfl
  exact h9
 ·intro i o hi
  rcases hget i o hi with⟨rfl,rfl⟩ | ⟨rfl,rfl⟩
  ·exact⟨_,fun p hp=>⟨(h1 p hp).1,(hb.block p.1 (hlt _ _ (h1 p hp).1)).trans (h1 p hp).2⟩,rfl,h3,h4⟩
  ·refine⟨[],fun p hp=>by simp at hp,rfl,?_,t,x,?_⟩
   ·show (κ' (1,0)).oneCell'=true
    simp only[κ',if_true]
    rfl
   ·show κ' (1,0)=_
    simp[κ']
 ·intro b i hbi
  obtain⟨k1,o1',k2,k3⟩:=hE.own b i hbi
  obtain⟨rfl,rfl⟩:=SH k2
  exact⟨Nat.lt_of_lt_of_le k1 hb.size,_,rfl,k3⟩
 ·obtain⟨rfl,_⟩:=SH g1
  show (if ((8,1):Id)=(1,0) then _ else _)=_
  rw[if_neg (by decide)]
theorem AC.of_errs {o1 o2:Obj}{f:FuncId}{args:List AV}{n:Int}
  (h:∀(S:Nat→Prop) (w:World) (m:Mem) (κ:Id→Value) (Bv:List Value),(∃ev,w.cell? ⟨6,0,none⟩=some ev∧(ev=.nilIface∨∃te pe,ev=.iface te pe))→(∃ev,w.cell? ⟨7,0,none⟩=some ev∧(ev=.nilIface∨∃te pe,ev=.iface te pe))→ARs w S m κ args Bv →
   Calls Tryz.prog f Bv.toArray w fun e w'=>Below w.heap.size w w'∧∃t x,e=.returned (.tuple #[.int .i64 n,.iface t x])) :
  AC Tryz.prog f args (Kv o1 o2) (.tup [.c (.int .i64 n),.own (1,0)]) [((8,1),.gen (D8 o1 o2)),((1,0),.gen Lj)] :=
 AC.of_errsG (fun v=>.tuple #[.int .i64 n,v]) (fun w S m κ hm hk=>⟨[.int .i64 n,κ (1,0)],rfl,_,_,rfl,⟨rfl,rfl⟩,_,_,rfl,⟨hk,_,hm,fun _=>rfl⟩,rfl⟩) h
theorem AC.of_errs1 {o1 o2:Obj}{f:FuncId}{args:List AV}
  (h:∀(S:Nat→Prop) (w:World) (m:Mem) (κ:Id→Value) (Bv:List Value),(∃ev,w.cell? ⟨6,0,none⟩=some ev∧(ev=.nilIface∨∃te pe,ev=.iface te pe))→(∃ev,w.cell? ⟨7,0,none⟩=some ev∧(ev=.nilIface∨∃te pe,ev=.iface te pe))→ARs w S m κ args Bv →
   Calls Tryz.prog f Bv.toArray w fun e w'=>Below w.heap.size w w'∧∃t x,e=.returned (.iface t x)) :
  AC Tryz.prog f args (Kv o1 o2) (.own (1,0)) [((8,1),.gen (D8 o1 o2)),((1,0),.gen Lj)] :=
 AC.of_errsG id (fun w S m κ hm hk=>⟨hk,_,hm,fun _=>rfl⟩) h
def Kn (a:Nat) (l:List UInt8):Nat:=l.foldl (fun a c=>a*10+(c.toNat-48)) a
theorem Wu:∀(l:List UInt8) (a:Nat),a≤Kn a l
 | [],a=>Nat.le_refl a
 |c::r,a=>by
  have:=Wu r (a*10+(c.toNat-48))
  show a≤Kn (a*10+(c.toNat-48)) r
  omega
theorem Xy (a:Nat) (l:List UInt8) (c:UInt8):Kn a (l++[c])=Kn a l*10+(c.toNat-48):=by unfold Kn;rw[List.foldl_append];rfl
theorem Px (u:ByteArray):∀k,k≤u.size→Dg u 0 k=Kn 0 (u.data.toList.take k)
 | 0,_=>by simp[Dg,Kn]
 |k+1,h=>by
  have hl:k<u.data.toList.length:=by rw[Be];omega
  rw[List.take_succ_eq_append_getElem hl,Xy,←Px u k (by omega)]
  simp only[Dg,Nat.zero_add]
  rw[Ew,List.getElem?_eq_getElem hl]
theorem Jy (M:Nat):∀(l:List UInt8) (a:Nat),(∀c∈l,Bx c.toNat=true)→(Lib.parseUintM M a l=.ok (Kn a l))∨(Lib.parseUintM M a l=.range∧(M<Kn a l∨1844674407370955162≤Kn a l))
 | [],a,_=>.inl rfl
 |c::r,a,h=>by
  have hc:=GB (h c (by simp))
  have ih:=Jy M r (a*10+(c.toNat-48)) (fun x hx=>h x (by simp[hx]))
  have hle:=Wu r (a*10+(c.toNat-48))
  unfold Lib.parseUintM
  rw[if_pos hc]
  show (_=Lib.NumEnd.ok (Kn (a*10+(c.toNat-48)) r))∨(_∧(M<Kn (a*10+(c.toNat-48)) r∨1844674407370955162≤Kn (a*10+(c.toNat-48)) r))
  by_cases h1:1844674407370955162≤a
  ·rw[if_pos h1];exact .inr ⟨rfl,.inr (by omega)⟩
  ·rw[if_neg h1]
   by_cases h2:M<a*10+(c.toNat-48)
   ·rw[if_pos h2];exact .inr ⟨rfl,.inl (by omega)⟩
   ·rw[if_neg h2];exact ih
theorem TK (t:ByteArray) (h0:0<t.size) {m:Bool}{u:ByteArray}(hm:(bAt t 0==45)=m) (hu:(if m then t.extract 1 t.size else t)=u) (hu0:0<u.size) (hd:∀j,j<u.size→Bx (bAt u j)=true) :
  (Lib.parseIntB 64 t.data.toList=.ok (if m then -((Dg u 0 u.size:Nat):Int) else ((Dg u 0 u.size:Nat):Int)))∨(Lib.parseIntB 64 t.data.toList=.range∧1000000000000000<Dg u 0 u.size):=by
 have hdl:∀c∈u.data.toList,Bx c.toNat=true:=fun c hc=>by
  obtain⟨j,hj,rfl⟩:=List.getElem_of_mem hc
  have:=hd j (by rw[←Be];exact hj)
  rw[Ew,List.getElem?_eq_getElem hj]at this
  exact this
 have hN:Dg u 0 u.size=Kn 0 u.data.toList:=by rw[Px u _ (Nat.le_refl _),List.take_of_length_le (by rw[Be];exact Nat.le_refl _)]
 have hune:u.data.toList≠[]:=fun h=>by have:=Be u;rw[h]at this;simp at this;omega
 have hB:(Lib.parseUintB 64 u.data.toList=.ok (Dg u 0 u.size))∨(Lib.parseUintB 64 u.data.toList=.range∧1000000000000000<Dg u 0 u.size):=by
  unfold Lib.parseUintB
  rw[if_neg hune,hN]
  rcases Jy (2 ^ 64-1) u.data.toList 0 hdl with h | ⟨h1,h2⟩
  ·exact .inl h
  ·exact .inr ⟨h1,by omega⟩
 have hlen:=Be t
 have hz:=Ew t 0
 rw[hz]at hm
 cases hl:t.data.toList with
 |nil=>rw[hl]at hlen;simp at hlen;omega
 |cons b r =>
  rw[hl]at hm
  simp only[List.getElem?_cons_zero]at hm
  cases m with
  |true =>
   simp only[if_true]at hu ⊢
   have hb:b=45:=UInt8.toNat_inj.1 (by simpa using hm)
   have hr:u.data.toList=r:=by
    rw[←hu,Dq,hl,List.take_of_length_le (by rw[←hl,hlen];exact Nat.le_refl _)]
    rfl
   subst hb
   rw[Lib.parseIntB_minus,←hr]
   rcases hB with h | ⟨h1,h2⟩
   ·rw[h]
    unfold Lib.signedC
    simp only
    by_cases hc:2 ^ (64-1)<Dg u 0 u.size
    ·rw[if_pos hc];exact .inr ⟨rfl,by omega⟩
    ·rw[if_neg hc];exact .inl rfl
   ·rw[h1]
    exact .inr ⟨rfl,h2⟩
  |false =>
   simp only[Bool.false_eq_true,if_false]at hu ⊢
   have hb45:b.toNat≠45:=by simpa using hm
   subst hu
   have hbd:=GB (hdl b (by rw[hl];simp))
   rw[Lib.parseIntB_plain 64 b r (by omega) hb45,←hl]
   rcases hB with h | ⟨h1,h2⟩
   ·rw[h]
    unfold Lib.signlessC
    simp only
    by_cases hc:2 ^ (64-1)≤Dg t 0 t.size
    ·rw[if_pos hc];exact .inr ⟨rfl,by omega⟩
    ·rw[if_neg hc];exact .inl rfl
   ·rw[h1]
    exact .inr ⟨rfl,h2⟩
theorem TL (t:ByteArray) (hs:t.size≤1000000) (v:Int) (h:Lib.parseIntB 64 t.data.toList=.ok v):AC Tryz.prog 256 [.c (.str t),.c (.int .i64 10),.c (.int .i64 64)] [] (.tup [.c (.int .i64 v),.c (.raw .nilIface)]) []:=by
 refine AC.of_calls fun S w κ vs hv=>?_
 obtain⟨v1,vs',rfl,⟨rfl,_⟩,v2,vs2,rfl,⟨rfl,_⟩,v3,vs3,rfl,⟨rfl,_⟩,rfl⟩:=hv
 refine (Any.strconv_ParseInt_10_at64_ok HQ t (by omega) v h w).mono ?_
 rintro e w' ⟨rfl,hw⟩
 refine⟨?_,_,rfl,fun T _ _=>⟨[.int .i64 v,.nilIface],rfl,_,_,rfl,⟨rfl,rfl⟩,_,_,rfl,⟨rfl,rfl,rfl⟩,rfl⟩⟩
 rcases hw with rfl | ⟨t2,rfl⟩
 ·exact Below.refl _ _
 ·exact⟨rfl,rfl,rfl,by rw[Lib.bytesWorld_size];omega,fun j hj=>Lib.bytesWorld_at_old w _ t2 j hj⟩
theorem Oh {o1 o2:Obj}(t:ByteArray) (hs:t.size≤1000000) (h:Lib.parseIntB 64 t.data.toList=.range):AC Tryz.prog 256 [.c (.str t),.c (.int .i64 10),.c (.int .i64 64)] (Kv o1 o2) (.tup [.c (.int .i64 (Lib.intSat 64 t.data.toList)),.own (1,0)]) [((8,1),.gen (D8 o1 o2)),((1,0),.gen Lj)]:=by
 refine AC.of_errs fun S w m κ vs h1 h2 hv=>?_
 obtain⟨v1,vs',rfl,⟨rfl,_⟩,v2,vs2,rfl,⟨rfl,_⟩,v3,vs3,rfl,⟨rfl,_⟩,rfl⟩:=hv
 obtain⟨ev,hev,hev2⟩:=h2
 refine (Any.strconv_ParseInt_10_at64_range HQ t (by omega) h ev w hev hev2).mono ?_
 rintro e w' ⟨N,rfl,_,_,hb⟩
 exact⟨hb,_,_,rfl⟩
end Go.Proofs.YtllfmaflodbieaaGreatDoor
