/- Texts of this proof: D15 D16. -/
import Derived.Test.YtlciedpfjhkkdaaGreatDoorKD14
set_option linter.all false
set_option maxHeartbeats 8000000
namespace Go.Proofs.YtlciedpfjhkkdaaGreatDoor
section
open Go.RowKit
set_option maxRecDepth 10000
variable {o1 o2:Obj}
def numA2 (m:Bool) (u:ByteArray):AV:=if 16<u.size∨1000000000000000<decN u 0 u.size then .tup [.c (.int .i64 0),.c (.int .i64 3)] else .tup [.c (.int .i64 (if m then -((decN u 0 u.size:Nat):Int) else ((decN u 0 u.size:Nat):Int))),.c (.int .i64 0)]
theorem ifaceT:Tryz.prog.underlying 183=some (.interface (Tryz.prog.methodsAt 183)):=by kernel_rfl
theorem numberOf_ac (t:ByteArray) (hs:t.size≤1000000) (h0:0<t.size) {m:Bool}{u:ByteArray}(hm:(bAt t 0==45)=m) (hu:(if m then t.extract 1 t.size else t)=u) (hu0:0<u.size) (hd:∀j,j<u.size→digB (bAt u j)=true) :
  AC Tryz.prog 181 [.c (.str t)] (errM o1 o2) (numA2 m u) (errM o1 o2):=by
 have htr:=trim_ac t h0 hm hu
 unfold numA2
 rcases parseB_text t h0 hm hu hu0 hd with hp | ⟨hp,hbig⟩
 ·have hpa:=parse_ok_ac t hs _ hp
  have hz:(-1000000000000000≤(if m=true then -((decN u 0 u.size:Nat):Int) else ((decN u 0 u.size:Nat):Int))∧(if m=true then -((decN u 0 u.size:Nat):Int) else ((decN u 0 u.size:Nat):Int))≤1000000000000000)↔¬1000000000000000<decN u 0 u.size:=by
   cases m
   ·simp only[Bool.false_eq_true,if_false];omega
   ·simp only[if_true];omega
  generalize (if m=true then -((decN u 0 u.size:Nat):Int) else ((decN u 0 u.size:Nat):Int))=z at *
  generalize decN u 0 u.size=dn at *
  have hwi:=within_ac z (-1000000000000000) 1000000000000000
  by_cases h16:16<u.size
  ·have g16:decide ((u.size:Int)>16)=true:=decide_eq_true (by omega)
   rw[if_pos (.inl h16)]
   refine wEnter Tryz.func181 Tryz.ntmps181 ?_
   refine wRUN trivial ?_
   refine w7 (op_data [] hpa) trivial ?_
   refine wRUN trivial ?_
   refine w6 (op_nilEq ifaceT) trivial ?_
   refine wRUN trivial ?_
   refine w7 (op_data [] htr) trivial ?_
   refine wRUN g16 ?_
   exact wRetOf (ret_of [((8,1),(8,1))] []) Tryz.results181 h16
  ·have g16:decide ((u.size:Int)>16)=false:=decide_eq_false (by omega)
   by_cases hbig:1000000000000000<dn
   ·have hb:(decide (z≥-1000000000000000)&&decide (z≤1000000000000000))=false:=by
     rw[Bool.eq_false_iff]
     intro h
     simp only[Bool.and_eq_true,decide_eq_true_eq]at h
     exact hz.1 ⟨h.1,h.2⟩ hbig
    rw[hb]at hwi
    rw[if_pos (.inr hbig)]
    refine wEnter Tryz.func181 Tryz.ntmps181 ?_
    refine wRUN trivial ?_
    refine w7 (op_data [] hpa) trivial ?_
    refine wRUN trivial ?_
    refine w6 (op_nilEq ifaceT) trivial ?_
    refine wRUN trivial ?_
    refine w7 (op_data [] htr) trivial ?_
    refine wRUN g16 ?_
    refine w7 (op_data [] hwi) trivial ?_
    refine wRUN trivial ?_
    exact wRetOf (ret_of [((8,1),(8,1))] []) Tryz.results181 h16
   ·have hb:(decide (z≥-1000000000000000)&&decide (z≤1000000000000000))=true:=by
     obtain⟨q1,q2⟩:=hz.2 hbig
     simp only[Bool.and_eq_true,decide_eq_true_eq]
     exact⟨q1,q2⟩
    rw[hb]at hwi
    rw[if_neg (by omega)]
    refine wEnter Tryz.func181 Tryz.ntmps181 ?_
    refine wRUN trivial ?_
    refine w7 (op_data [] hpa) trivial ?_
    refine wRUN trivial ?_
    refine w6 (op_nilEq ifaceT) trivial ?_
    refine wRUN trivial ?_
    refine w7 (op_data [] htr) trivial ?_
    refine wRUN g16 ?_
    refine w7 (op_data [] hwi) trivial ?_
    refine wRUN trivial ?_
    exact wRetOf (ret_of [((8,1),(8,1))] []) Tryz.results181 h16
 ·have hpa:=parse_range_ac (o1:=o1) (o2:=o2) t hs hp
  rw[if_pos (.inr hbig)]
  refine wEnter Tryz.func181 Tryz.ntmps181 ?_
  refine wRUN trivial ?_
  refine wCall (op_any_call [((8,1),(8,1))] [((8,1),(8,1)),((1,0),(8,0))] hpa) trivial ?_
  refine wRUN trivial ?_
  refine w7 (op_errEq ifaceT) trivial ?_
  refine wRUN trivial ?_
  exact wRetOf (ret_of [((8,1),(8,1))] []) Tryz.results181 hbig
theorem fail_okB (i b:Nat) (c:Int) (p:Nat):(⟨i,0,b⟩:DS).fail c p=⟨i,c,p⟩:=rfl
abbrev dsE (o1 o2:Obj) (s:ByteArray) (d:DS):Mem:=[((0,0),boxD s d),((8,1),.gen (errsR o1 o2))]
theorem dsE_eq (o1 o2:Obj) (s:ByteArray) (d:DS):dsE o1 o2 s d=[((0,0),.box [.c (.str s),.c (.int .i64 d.pl),.c (.int .i64 d.code),.c (.int .i64 d.bad)]),((8,1),.gen (errsR o1 o2))]:=rfl
theorem number_rd_ac (s:ByteArray) (hs:s.size≤1000000) (i:Nat) (hi:i<s.size) (bb:Nat):AC Tryz.prog 137 [.ptr (0,0) 0] (dsE o1 o2 s ⟨i,0,bb⟩) (numI s i bb).1.av (dsE o1 o2 s (numI s i bb).2):=by
 have t3:=Tryz.underlying9
 have htk:=take_ac s hs ⟨i,0,bb⟩ (by show i≤s.size;omega) 45 (by decide)
 have hA:(⟨i,0,bb⟩:DS).take s 45=⟨numA s i,0,bb⟩:=by
  unfold DS.take numA
  rw[show (⟨i,0,bb⟩:DS).is s 45=(bAt s i==45) by unfold DS.is;simp]
  by_cases h:bAt s i=45<;>simp[h,DS.go]
 rw[hA]at htk
 obtain⟨b0,hb0⟩:∃b,(⟨i,0,bb⟩:DS).is s 45=b:=⟨_,rfl⟩
 rw[hb0]at htk
 obtain⟨ha1,_,ha2⟩:=numA_le hi
 have hda:=digitsAt_ac s hs (numA s i) ha2
 obtain⟨de1,de2,de3,de4⟩:=digE_in ha2
 unfold numI
 cases hd:digB (bAt s (numA s i)) with
 |false =>
  rw[digE_stop hd]at hda
  have hf:=fail_ac s ⟨numA s i,0,bb⟩ 5 (numA s i)
  have hz:((((numA s i-numA s i:Nat):Nat):Int)==0)=true:=by simp
  simp only[if_true]
  rw[fail_okB]at hf
  simp only[dsM_eq,dsE_eq]at htk hf ⊢
  generalize numA s i=a at *
  refine wEnter Tryz.func137 Tryz.ntmps137 ?_
  refine wRUN trivial ?_
  refine wCall (op_any_call [((0,0),(0,0))] [((0,0),(0,0))] htk) trivial ?_
  refine wRUN trivial ?_
  refine w7 (op_data [] hda) trivial ?_
  refine wRUN hz ?_
  refine wCall (op_any_call [((0,0),(0,0))] [((0,0),(0,0))] hf) trivial ?_
  refine wRUN trivial ?_
  exact wRetOf (ret_of [((0,0),(0,0)),((8,1),(8,1))] []) Tryz.results137 hz
 |true =>
  obtain⟨he1,he2,_⟩:=numE_in hi hd
  have hz:(((digE s (numA s i)-numA s i:Nat):Int)==0)=false:=by
   have:digE s (numA s i)≠numA s i:=fun h=>by rw[h,hd]at de3;cases de3
   simp
   omega
  have hal:=bAt_lt (s:=s) (i:=numA s i) (by have:=dig_lt hd;omega)
  obtain⟨b,hg,hb⟩:=bAt_in hal
  have hbn:((b.toNat:Nat):Int)=((bAt s (numA s i):Nat):Int):=by rw[hb]
  have hcase:((((bAt s (numA s i):Nat):Int)==48)=true∧IntKind.i64.wrap (((numA s i:Nat):Int)+1)=((numE s i:Nat):Int))∨((((bAt s (numA s i):Nat):Int)==48)=false∧IntKind.i64.wrap (((numA s i:Nat):Int)+((digE s (numA s i)-numA s i:Nat):Int))=((numE s i:Nat):Int)):=by
   unfold numE
   by_cases h:bAt s (numA s i)=48
   ·refine .inl ⟨by simp[h],?_⟩
    rw[if_pos h]
    exact wrap_succ (by omega)
   ·refine .inr ⟨by simp;omega,?_⟩
    rw[if_neg h,wrap_plus (by omega)]
    congr 1
    omega
  obtain⟨m,u,p1,p2,hm,hu,hu0,hd2,hB,hV⟩:=numText_parts s i hi hd
  have hno:=numberOf_ac (o1:=o1) (o2:=o2) (s.extract i (numE s i)) (by omega) p1 hm hu hu0 hd2
  have hno2:AC Tryz.prog 181 [.c (.str (s.extract i (numE s i)))] (errM o1 o2) (if numBig s i then .tup [.c (.int .i64 0),.c (.int .i64 3)] else .tup [.c (.int .i64 (numV' s i)),.c (.int .i64 0)]) (errM o1 o2):=by
   rw[hB,hV]
   unfold numA2 at hno
   simpa using hno
  clear hno hB hV
  have hdot:(∃b2:UInt8,decide (((numE s i:Nat):Int)<(s.size:Int))=true∧s[numE s i]? = some b2∧decide (dotI b2.toNat≥0)=true∧dotB (bAt s (numE s i))=true)∨(∃b2:UInt8,decide (((numE s i:Nat):Int)<(s.size:Int))=true∧s[numE s i]? = some b2∧decide (dotI b2.toNat≥0)=false∧dotB (bAt s (numE s i))=false)∨(decide (((numE s i:Nat):Int)<(s.size:Int))=false∧dotB (bAt s (numE s i))=false):=by
   by_cases hlt:numE s i<s.size
   ·obtain⟨b2,hg2,hb2⟩:=bAt_in hlt
    have hdi:=dotI_ge (n:=b2.toNat) b2.toNat_lt
    rw[←hb2]at hdi
    have gl:decide (((numE s i:Nat):Int)<(s.size:Int))=true:=decide_eq_true (by omega)
    cases hq:dotB (bAt s (numE s i)) with
    |true=>exact .inl ⟨b2,gl,hg2,by rw[←hb2,hdi,hq],rfl⟩
    |false=>exact .inr (.inl ⟨b2,gl,hg2,by rw[←hb2,hdi,hq],rfl⟩)
   ·exact .inr (.inr ⟨decide_eq_false (by omega),by rw[bAt_end (by omega)];rfl⟩)
  have hib:∀b2:UInt8,AC Tryz.prog 182 [.c (.str ⟨#[46,101,69]⟩),.c (.int .u8 (b2.toNat:Nat))] [] (.c (.int .i64 (dotI b2.toNat))) []:=fun b2=>indexByte_ac _ b2.toNat_lt
  have h00:((0:Int) != 0)=false:=rfl
  have h30:((3:Int) != 0)=true:=rfl
  have hf1:=fail_ac s ⟨numE s i,0,bb⟩ 3 i
  have hf2:=fail_ac s ⟨numE s i,3,i⟩ 3 (numE s i)
  have hf3:=fail_ac s ⟨numE s i,0,bb⟩ 3 (numE s i)
  rw[fail_okB]at hf1 hf3
  rw[fail_err (by simp)]at hf2
  have hn0:=number_ac 0
  have hnv:=number_ac (numV' s i)
  simp only[Bool.true_eq_false,if_false]
  generalize numV' s i=z at *
  generalize bAt s (numA s i)=ba at *
  generalize dotB (bAt s (numE s i))=db at *
  generalize digE s (numA s i)=ea at *
  generalize numA s i=a at *
  generalize numE s i=e at *
  cases hB:numBig s i with
  |true =>
   rw[hB]at hno2
   simp only[if_true]at hno2 ⊢
   simp only[dsM_eq,dsE_eq]at htk hf1 hf2 hf3 ⊢
   rcases hcase with⟨q48,hwe⟩ | ⟨q48,hwe⟩
   all_goals
    rcases hdot with⟨b2,gl,hg2,gd,_⟩ | ⟨b2,gl,hg2,gd,_⟩ | ⟨gl,_⟩
    all_goals
     refine wEnter Tryz.func137 Tryz.ntmps137 ?_
     refine wRUN trivial ?_
     refine wCall (op_any_call [((0,0),(0,0))] [((0,0),(0,0))] htk) trivial ?_
     refine wRUN trivial ?_
     refine w7 (op_data [] hda) trivial ?_
     refine wRUN (j5 hz hg hbn q48 hwe) ?_
     refine w7 (op_sub (y:=s.extract i e) (i:=(i:Int)) (j:=(e:Int)) (s:=s) rfl (by omega) (by omega) (by omega) t3) trivial ?_
     refine wRUN trivial ?_
     refine wCall (op_any_call [((8,1),(8,1))] [((8,1),(8,1))] hno2) trivial ?_
     refine wRUN h30 ?_
     refine wCall (op_any_call [((0,0),(0,0))] [((0,0),(0,0))] hf1) trivial ?_
    ·refine wRUN (j2 gl hg2) ?_
     refine w7 (op_data [] (hib b2)) trivial ?_
     refine wRUN gd ?_
     refine wCall (op_any_call [((0,0),(0,0))] [((0,0),(0,0))] hf2) trivial ?_
     refine wRUN trivial ?_
     refine w9 (op_shared [] hn0) trivial ?_
     refine wRUN trivial ?_
     exact wRetOf (ret_of [((0,0),(0,0)),((8,1),(8,1))] []) Tryz.results137 hz
    ·refine wRUN (j2 gl hg2) ?_
     refine w7 (op_data [] (hib b2)) trivial ?_
     refine wRUN gd ?_
     refine w9 (op_shared [] hn0) trivial ?_
     refine wRUN trivial ?_
     exact wRetOf (ret_of [((0,0),(0,0)),((8,1),(8,1))] []) Tryz.results137 hz
    ·refine wRUN gl ?_
     refine w9 (op_shared [] hn0) trivial ?_
     refine wRUN trivial ?_
     exact wRetOf (ret_of [((0,0),(0,0)),((8,1),(8,1))] []) Tryz.results137 hz
  |false =>
   rw[hB]at hno2
   simp only[Bool.false_eq_true,if_false]at hno2 ⊢
   simp only[dsM_eq,dsE_eq]at htk hf1 hf2 hf3
   rcases hcase with⟨q48,hwe⟩ | ⟨q48,hwe⟩
   all_goals
    rcases hdot with⟨b2,gl,hg2,gd,rfl⟩ | ⟨b2,gl,hg2,gd,rfl⟩ | ⟨gl,rfl⟩
    all_goals
     simp only[if_true,Bool.false_eq_true,if_false,dsE_eq]
     refine wEnter Tryz.func137 Tryz.ntmps137 ?_
     refine wRUN trivial ?_
     refine wCall (op_any_call [((0,0),(0,0))] [((0,0),(0,0))] htk) trivial ?_
     refine wRUN trivial ?_
     refine w7 (op_data [] hda) trivial ?_
     refine wRUN (j5 hz hg hbn q48 hwe) ?_
     refine w7 (op_sub (y:=s.extract i e) (i:=(i:Int)) (j:=(e:Int)) (s:=s) rfl (by omega) (by omega) (by omega) t3) trivial ?_
     refine wRUN trivial ?_
     refine wCall (op_any_call [((8,1),(8,1))] [((8,1),(8,1))] hno2) trivial ?_
    ·refine wRUN (j3 h00 gl hg2) ?_
     refine w7 (op_data [] (hib b2)) trivial ?_
     refine wRUN gd ?_
     refine wCall (op_any_call [((0,0),(0,0))] [((0,0),(0,0))] hf3) trivial ?_
     refine wRUN trivial ?_
     refine w9 (op_shared [] hnv) trivial ?_
     refine wRUN trivial ?_
     exact wRetOf (ret_of [((0,0),(0,0)),((8,1),(8,1))] []) Tryz.results137 hz
    ·refine wRUN (j3 h00 gl hg2) ?_
     refine w7 (op_data [] (hib b2)) trivial ?_
     refine wRUN gd ?_
     refine w9 (op_shared [] hnv) trivial ?_
     refine wRUN trivial ?_
     exact wRetOf (ret_of [((0,0),(0,0)),((8,1),(8,1))] []) Tryz.results137 hz
    ·refine wRUN (j2 h00 gl) ?_
     refine w9 (op_shared [] hnv) trivial ?_
     refine wRUN trivial ?_
     exact wRetOf (ret_of [((0,0),(0,0)),((8,1),(8,1))] []) Tryz.results137 hz
end
section
open Go.RowKit Go.Shelf
set_option maxRecDepth 10000
variable {o1 o2:Obj}
abbrev synV:Value:=.iface 282 (.int .i64 2)
def lowN (n:Nat):Int:=Go.bits .or .u8 (n:Int) 32
theorem lower_ac (n:Nat):AC Tryz.prog 276 [.c (.int .u8 n)] [] (.c (.int .u8 (lowN n))) []:=by
 refine AC.of_calls fun S w κ vs hv=>?_
 obtain⟨v,vs',rfl,⟨rfl,_⟩,rfl⟩:=hv
 refine (Any.internal_strconv_lower { parse_lays with } (n:Int) w).mono ?_
 rintro e w' ⟨rfl,rfl⟩
 exact⟨Below.refl _ _,_,rfl,fun T _ _=>⟨rfl,rfl⟩⟩
theorem toError_ac (f s:ByteArray) (hs:s.size≤1000000) (a b:Int):AC Tryz.prog 233 [.c (.str f),.c (.str s),.c (.int .i64 a),.c (.int .i64 b),.c (.raw synV)] (errM o1 o2) (.own (1,0)) [((8,1),.gen (errsR o1 o2)),((1,0),.gen errR)]:=by
 refine AC.of_errs1 fun S w m κ vs h1 h2 hv=>?_
 obtain⟨v1,vs',rfl,⟨rfl,_⟩,v2,vs2,rfl,⟨rfl,_⟩,v3,vs3,rfl,⟨rfl,_⟩,v4,vs4,rfl,⟨rfl,_⟩,v5,vs5,rfl,⟨rfl,_⟩,rfl⟩:=hv
 obtain⟨ev,hev,hev2⟩:=h1
 refine (Any.strconv_toError_syntax { parse_lays with } f s a b ev w (by omega) hev hev2).mono ?_
 rintro e w' ⟨N,rfl,_,_,hb⟩
 exact⟨hb,_,_,rfl⟩
theorem concE:Tryz.prog.concrete 282=true:=by kernel_rfl
theorem one_ne (n:Nat):((bOne n).toList==ByteArray.empty.toList)=false:=by simp[bOne]
theorem one_at {n:Nat}(hn:n<256):∃b:UInt8,(bOne n)[0]? = some b∧((b.toNat:Nat):Int)=(n:Int):=by
 refine⟨UInt8.ofNat n,rfl,?_⟩
 rw[UInt8.toNat_ofNat',Nat.mod_eq_of_lt (by omega)]
def u16A (n:Nat):AV:=if 0≤hexB n then .tup [.c (.int .u64 (hexB n)),.c (.raw .nilIface)] else .tup [.c (.int .u64 0),.c (.raw synV)]
theorem hex_ways {n:Nat}(hn:n<256):(digB n=true∧hexB n=(n:Int)-48)∨(digB n=false∧97≤lowN n∧lowN n≤122∧lowN n-87<16∧hexB n=lowN n-87)∨(digB n=false∧97≤lowN n∧lowN n≤122∧16≤lowN n-87∧hexB n = -1)∨(digB n=false∧97≤lowN n∧122<lowN n∧lowN n<256∧hexB n = -1)∨(digB n=false∧lowN n<97∧0≤lowN n∧hexB n = -1):=by
 have:∀k:Fin 256,(digB k.val=true∧hexB k.val=(k.val:Int)-48)∨(digB k.val=false∧97≤lowN k.val∧lowN k.val≤122∧lowN k.val-87<16∧hexB k.val=lowN k.val-87)∨(digB k.val=false∧97≤lowN k.val∧lowN k.val≤122∧16≤lowN k.val-87∧hexB k.val = -1)∨(digB k.val=false∧97≤lowN k.val∧122<lowN k.val∧lowN k.val<256∧hexB k.val = -1)∨(digB k.val=false∧lowN k.val<97∧0≤lowN k.val∧hexB k.val = -1):=by decide +kernel
 exact this ⟨n,hn⟩
theorem shl64 (w:World) (k:IntKind):(binOp .shl 216 (.int .u64 1) (.int k 64)).run Tryz.prog w=.ok (.int .u64 0) w:=by
 simp only[binOp,Op.shift]
 rfl
theorem shl63 (w:World) (k:IntKind):(binOp .shl 216 (.int .u64 1) (.int k 63)).run Tryz.prog w=.ok (.int .u64 9223372036854775808) w:=by
 simp only[binOp,Op.shift]
 rfl
theorem uint16_ac (n:Nat) (hn:n<256):AC Tryz.prog 258 [.c (.str (bOne n)),.c (.int .i64 16),.c (.int .i64 64)] [] (u16A n) []:=by
 have _a1:=@ev_nilI
 have h1:=one_ne n
 have l1:((16:Int)==0)=false:=rfl
 have l2:decide ((2:Int)≤16)=true:=rfl
 have l3:decide ((16:Int)≤36)=true:=rfl
 have l4:((64:Int)==0)=false:=rfl
 have l5:decide ((64:Int)<0)=false:=rfl
 have l6:decide ((64:Int)>64)=false:=rfl
 have l7:((16:Int)==10)=false:=rfl
 have l8:((16:Int)==16)=true:=rfl
 refine wEnter Tryz.func258 Tryz.ntmps258 ?_
 have w64:IntKind.u64.wrap 64=64:=rfl
 have wm:IntKind.u64.wrap (0-1)=18446744073709551615:=rfl
 have t3:=Tryz.underlying9
 have t1:=Tryz.underlying29
 have t2:=Tryz.underlying5
 have hy:byteRows (bOne n).data.toList=[[.int .u8 (n:Int)]]:=by
  show [[C.int .u8 ((UInt8.ofNat n).toNat:Int)]]=_
  rw[UInt8.toNat_ofNat',Nat.mod_eq_of_lt (by omega)]
 have hlow:=lower_ac n
 refine wRUN (j10 h1 l1 l2 l3 l4 l5 l6 l7 l8 w64) ?_
 refine w5 (op_num2 (m:=1) (n:=64) (c:=.int .u64 0) (fun w=>shl64 w _) (fun w S=>⟨rfl,rfl⟩) (fun w=>rfl)) trivial ?_
 refine wRUN wm ?_
 refine w4 (op_bytes hy t3 t1 t2) trivial ?_
 refine wRUN trivial ?_
 refine a_loop (κ:=Nat) (fun k=>⟨mkS 0 172 [(1,.c (.int .i64 16)),(8,.c (.bool false)),(10,.c (.int .u64 1152921504606846976)),(11,.c (.int .u64 18446744073709551615)),(12,.c (.bool false)),(13,.c (.int .u64 (if k=0 then 0 else hexB n))),(99,.c (.sl [[.int .u8 (n:Int)]])),(100,.c (.int .i64 1)),(101,.c (.int .i64 k))],[]⟩)
  (fun k=>k≤1∧(k=1→0≤hexB n)) (fun k=>1-k) 0 ⟨Nat.zero_le _,fun h=>absurd h (by decide)⟩ ?_ ?_
 ·(apply (Says.of [] []);(iterate 2 ((focus (simp only[go_sem,Nat.reduceEqDiff,Nat.reduceAdd,Nat.reduceSub,Nat.reduceLeDiff,Nat.reduceMul,Nat.reduceBEq,Nat.reduceLT,Int.reduceToNat,reduceCtorEq,if_true];try (and_intros<;>rfl)));(focus exact rfl)));(iterate 4 (focus (simp[go_sem,if_true];done))))
 ·rintro k ⟨hk,hk1⟩
  have hkk:k=0∨k=1:=by omega
  rcases hkk with rfl | rfl
  ·have hr:rowsAt [[C.int .u8 (n:Int)]] 1 ((0:Nat):Int)=true:=by simp[rowsAt]
   have hg:([[C.int .u8 (n:Int)]]:List (List C))[((0:Nat):Int).toNat]? = some [.int .u8 (n:Int)]:=rfl
   have d01:decide (((0:Nat):Int)<1)=true:=rfl
   have w01:IntKind.i64.wrap (((0:Nat):Int)+1)=((1:Nat):Int):=rfl
   have u16:IntKind.u8.wrap 16=16:=rfl
   have v16:IntKind.u64.wrap 16=16:=rfl
   have vz:IntKind.u64.wrap (0*16)=0:=rfl
   have dc:decide ((0:Int)≥1152921504606846976)=false:=rfl
   have e01:(if (0:Nat)=0 then (0:Int) else hexB n)=0:=rfl
   have e11:(if (1:Nat)=0 then (0:Int) else hexB n)=hexB n:=rfl
   have u64:∀z:Int,0≤z→z<1000→IntKind.u64.wrap z=z:=fun z h1 h2=>IntWalk.u64_in _ (by omega)
   unfold u16A
   cases q95:((n:Int)==95)
   all_goals
    rcases hex_ways hn with⟨hd,hx⟩ | ⟨hd,a1,a2,a3,hx⟩ | ⟨hd,a1,a2,a3,hx⟩ | ⟨hd,a1,a2,a3,hx⟩ | ⟨hd,a1,a2,hx⟩
    ·obtain⟨b1,b2⟩:=dig_lt hd
     have g48:decide ((48:Int)≤(n:Int))=true:=decide_eq_true (by omega)
     have g57:decide ((n:Int)≤57)=true:=decide_eq_true (by omega)
     have wd:IntKind.u8.wrap ((n:Int)-48)=(n:Int)-48:=u8_in (by omega) (by omega)
     have gd:decide ((n:Int)-48≥16)=false:=decide_eq_false (by omega)
     have we:=u64 ((n:Int)-48) (by omega) (by omega)
     have wf:=u64 (0+((n:Int)-48)) (by omega) (by omega)
     rw[Int.zero_add]at wf
     have wf2:IntKind.u64.wrap (0+((n:Int)-48))=(n:Int)-48:=by rw[Int.zero_add];exact wf
     have gl:decide ((n:Int)-48<0)=false:=decide_eq_false (by omega)
     have gm:decide ((n:Int)-48>18446744073709551615)=false:=decide_eq_false (by omega)
     refine wRUN (j2 (j12 d01 hr hg q95 g48 g57 wd u16 gd dc v16 vz) (j6 we wf2 gl gm e01 w01)) ?_
     refine⟨1,by omega,⟨Nat.le_refl _,fun _=>by omega⟩,?_⟩
     exact wSays (Says.of [] []) (j3 e11 hx w01)
    ·cases g48:decide ((48:Int)≤(n:Int))<;>cases g57:decide ((n:Int)≤57)
     case true.true =>
      simp only[decide_eq_true_eq]at g48 g57
      exfalso
      unfold digB at hd
      simp at hd
      omega
     all_goals
      generalize lowN n=l at *
      have g97:decide ((97:Int)≤l)=true:=decide_eq_true (by omega)
      have g122:decide (l≤122)=true:=decide_eq_true (by omega)
      have wd1:IntKind.u8.wrap (l-97)=l-97:=u8_in (by omega) (by omega)
      have wd:IntKind.u8.wrap (l-97+10)=l-87:=by rw[u8_in (by omega) (by omega)];omega
      have gd:decide (l-87≥16)=false:=decide_eq_false (by omega)
      have we:=u64 (l-87) (by omega) (by omega)
      have wf2:IntKind.u64.wrap (0+(l-87))=l-87:=by rw[Int.zero_add];exact we
      have gl:decide (l-87<0)=false:=decide_eq_false (by omega)
      have gm:decide (l-87>18446744073709551615)=false:=decide_eq_false (by omega)
      refine wRUN (j6 d01 hr hg q95 g48 g57) ?_
      refine w7 (op_data [] hlow) trivial ?_
      refine wRUN g97 ?_
      refine w7 (op_data [] hlow) trivial ?_
      refine wRUN g122 ?_
      refine w7 (op_data [] hlow) trivial ?_
      refine wRUN (j2 (j12 wd1 wd u16 gd dc v16 vz we wf2 gl gm e01) w01) ?_
      refine⟨1,by omega,⟨Nat.le_refl _,fun _=>by omega⟩,?_⟩
      exact wSays (Says.of [] []) (j3 e11 hx w01)
    ·rw[if_neg (by omega)]
     cases g48:decide ((48:Int)≤(n:Int))<;>cases g57:decide ((n:Int)≤57)
     case true.true =>
      simp only[decide_eq_true_eq]at g48 g57
      exfalso
      unfold digB at hd
      simp at hd
      omega
     all_goals
      generalize lowN n=l at *
      have g97:decide ((97:Int)≤l)=true:=decide_eq_true (by omega)
      have g122:decide (l≤122)=true:=decide_eq_true (by omega)
      have wd1:IntKind.u8.wrap (l-97)=l-97:=u8_in (by omega) (by omega)
      have wd:IntKind.u8.wrap (l-97+10)=l-87:=by rw[u8_in (by omega) (by omega)];omega
      have gd:decide (l-87≥16)=true:=decide_eq_true (by omega)
      refine wRUN (j6 d01 hr hg q95 g48 g57) ?_
      refine w7 (op_data [] hlow) trivial ?_
      refine wRUN g97 ?_
      refine w7 (op_data [] hlow) trivial ?_
      refine wRUN g122 ?_
      refine w7 (op_data [] hlow) trivial ?_
      refine wRUN (j4 wd1 wd u16 gd) ?_
      refine w4 (op_mkIface concE) trivial ?_
      refine wRUN trivial ?_
      exact wRet (ret_data []) Tryz.results258
    ·rw[if_neg (by omega)]
     cases g48:decide ((48:Int)≤(n:Int))<;>cases g57:decide ((n:Int)≤57)
     case true.true =>
      simp only[decide_eq_true_eq]at g48 g57
      exfalso
      unfold digB at hd
      simp at hd
      omega
     all_goals
      generalize lowN n=l at *
      have g97:decide ((97:Int)≤l)=true:=decide_eq_true (by omega)
      have g122:decide (l≤122)=false:=decide_eq_false (by omega)
      refine wRUN (j6 d01 hr hg q95 g48 g57) ?_
      refine w7 (op_data [] hlow) trivial ?_
      refine wRUN g97 ?_
      refine w7 (op_data [] hlow) trivial ?_
      refine wRUN g122 ?_
      refine w4 (op_mkIface concE) trivial ?_
      refine wRUN trivial ?_
      exact wRet (ret_data []) Tryz.results258
    ·rw[if_neg (by omega)]
     cases g48:decide ((48:Int)≤(n:Int))<;>cases g57:decide ((n:Int)≤57)
     case true.true =>
      simp only[decide_eq_true_eq]at g48 g57
      exfalso
      unfold digB at hd
      simp at hd
      omega
     all_goals
      generalize lowN n=l at *
      have g97:decide ((97:Int)≤l)=false:=decide_eq_false (by omega)
      refine wRUN (j6 d01 hr hg q95 g48 g57) ?_
      refine w7 (op_data [] hlow) trivial ?_
      refine wRUN g97 ?_
      refine w4 (op_mkIface concE) trivial ?_
      refine wRUN trivial ?_
      exact wRet (ret_data []) Tryz.results258
  ·have d11:decide (((1:Nat):Int)<1)=false:=rfl
   have e11:(if (1:Nat)=0 then (0:Int) else hexB n)=hexB n:=rfl
   have h0:=hk1 rfl
   unfold u16A
   rw[if_pos h0]
   refine wRUN (j2 d11 e11) ?_
   exact wRet (ret_data []) Tryz.results258
end
end Go.Proofs.YtlciedpfjhkkdaaGreatDoor
