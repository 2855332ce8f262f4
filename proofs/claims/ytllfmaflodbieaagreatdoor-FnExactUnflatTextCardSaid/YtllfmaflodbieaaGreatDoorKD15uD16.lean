/- Texts of this proof: D15 D16. -/
import Derived.Test.YtllfmaflodbieaaGreatDoorKD13uD14
set_option linter.all false
set_option maxHeartbeats 8000000
namespace Go.Proofs.YtllfmaflodbieaaGreatDoor
section
open Go.RowKit
set_option maxRecDepth 10000
variable {o1 o2:Obj}
def VD (m:Bool) (u:ByteArray):AV:=if 16<u.size∨1000000000000000<Bf u 0 u.size then .tup [.c (.int .i64 0),.c (.int .i64 3)] else .tup [.c (.int .i64 (if m then -((Bf u 0 u.size:Nat):Int) else ((Bf u 0 u.size:Nat):Int))),.c (.int .i64 0)]
theorem D6:Tryz.prog.underlying 62=some (.interface (Tryz.prog.methodsAt 62)):=by kernel_rfl
theorem Qk (t:ByteArray) (hs:t.size≤1000000) (h0:0<t.size) {m:Bool}{u:ByteArray}(hm:(bAt t 0==45)=m) (hu:(if m then t.extract 1 t.size else t)=u) (hu0:0<u.size) (hd:∀j,j<u.size→AP (bAt u j)=true) :
  AC Tryz.prog 216 [.c (.str t)] (Ij o1 o2) (VD m u) (Ij o1 o2):=by
 have htr:=WQ t h0 hm hu
 unfold VD
 rcases QG t h0 hm hu hu0 hd with hp | ⟨hp,hbig⟩
 ·have hpa:=Qw t hs _ hp
  have hz:(-1000000000000000≤(if m=true then -((Bf u 0 u.size:Nat):Int) else ((Bf u 0 u.size:Nat):Int))∧(if m=true then -((Bf u 0 u.size:Nat):Int) else ((Bf u 0 u.size:Nat):Int))≤1000000000000000)↔¬1000000000000000<Bf u 0 u.size:=by
   cases m
   ·simp only[Bool.false_eq_true,if_false];omega
   ·simp only[if_true];omega
  generalize (if m=true then -((Bf u 0 u.size:Nat):Int) else ((Bf u 0 u.size:Nat):Int))=z at *
  generalize Bf u 0 u.size=dn at *
  have hwi:=Ms z (-1000000000000000) 1000000000000000
  by_cases h16:16<u.size
  ·have g16:decide ((u.size:Int)>16)=true:=decide_eq_true (by omega)
   rw[if_pos (.inl h16)]
   refine A6 Tryz.func216 Tryz.ntmps216 ?_
   refine A0 trivial ?_
   refine w7 (A3 [] hpa) trivial ?_
   refine A0 trivial ?_
   refine w6 (Fi D6) trivial ?_
   refine A0 trivial ?_
   refine w7 (A3 [] htr) trivial ?_
   refine A0 g16 ?_
   exact A9 (A8 [((8,1),(8,1))] []) Tryz.results216 h16
  ·have g16:decide ((u.size:Int)>16)=false:=decide_eq_false (by omega)
   by_cases hbig:1000000000000000<dn
   ·have hb:(decide (z≥-1000000000000000)&&decide (z≤1000000000000000))=false:=by
     rw[Bool.eq_false_iff]
     intro h
     simp only[Bool.and_eq_true,decide_eq_true_eq]at h
     exact hz.1 ⟨h.1,h.2⟩ hbig
    rw[hb]at hwi
    rw[if_pos (.inr hbig)]
    refine A6 Tryz.func216 Tryz.ntmps216 ?_
    refine A0 trivial ?_
    refine w7 (A3 [] hpa) trivial ?_
    refine A0 trivial ?_
    refine w6 (Fi D6) trivial ?_
    refine A0 trivial ?_
    refine w7 (A3 [] htr) trivial ?_
    refine A0 g16 ?_
    refine w7 (A3 [] hwi) trivial ?_
    refine A0 trivial ?_
    exact A9 (A8 [((8,1),(8,1))] []) Tryz.results216 h16
   ·have hb:(decide (z≥-1000000000000000)&&decide (z≤1000000000000000))=true:=by
     obtain⟨q1,q2⟩:=hz.2 hbig
     simp only[Bool.and_eq_true,decide_eq_true_eq]
     exact⟨q1,q2⟩
    rw[hb]at hwi
    rw[if_neg (by omega)]
    refine A6 Tryz.func216 Tryz.ntmps216 ?_
    refine A0 trivial ?_
    refine w7 (A3 [] hpa) trivial ?_
    refine A0 trivial ?_
    refine w6 (Fi D6) trivial ?_
    refine A0 trivial ?_
    refine w7 (A3 [] htr) trivial ?_
    refine A0 g16 ?_
    refine w7 (A3 [] hwi) trivial ?_
    refine A0 trivial ?_
    exact A9 (A8 [((8,1),(8,1))] []) Tryz.results216 h16
 ·have hpa:=LN (o1:=o1) (o2:=o2) t hs hp
  rw[if_pos (.inr hbig)]
  refine A6 Tryz.func216 Tryz.ntmps216 ?_
  refine A0 trivial ?_
  refine Ah (A4 [((8,1),(8,1))] [((8,1),(8,1)),((1,0),(8,0))] hpa) trivial ?_
  refine A0 trivial ?_
  refine w7 (Q2 D6) trivial ?_
  refine A0 trivial ?_
  exact A9 (A8 [((8,1),(8,1))] []) Tryz.results216 hbig
theorem Ic (i b:Nat) (c:Int) (p:Nat):(⟨i,0,b⟩:DS).fail c p=⟨i,c,p⟩:=rfl
abbrev dsE (o1 o2:Obj) (s:ByteArray) (d:DS):Mem:=[((0,0),Z2 s d),((8,1),.gen (Cf o1 o2))]
theorem Bg (o1 o2:Obj) (s:ByteArray) (d:DS):dsE o1 o2 s d=[((0,0),.box [.c (.str s),.c (.int .i64 d.pl),.c (.int .i64 d.code),.c (.int .i64 d.bad)]),((8,1),.gen (Cf o1 o2))]:=rfl
theorem NA (s:ByteArray) (hs:s.size≤1000000) (i:Nat) (hi:i<s.size) (bb:Nat):AC Tryz.prog 174 [.ptr (0,0) 0] (dsE o1 o2 s ⟨i,0,bb⟩) (KC s i bb).1.av (dsE o1 o2 s (KC s i bb).2):=by
 have t3:=Tryz.underlying9
 have htk:=Dn s hs ⟨i,0,bb⟩ (by show i≤s.size;omega) 45 (by decide)
 have hA:(⟨i,0,bb⟩:DS).take s 45=⟨AB s i,0,bb⟩:=by
  unfold DS.take AB
  rw[show (⟨i,0,bb⟩:DS).is s 45=(bAt s i==45) by unfold DS.is;simp]
  by_cases h:bAt s i=45<;>simp[h,DS.go]
 rw[hA]at htk
 obtain⟨b0,hb0⟩:∃b,(⟨i,0,bb⟩:DS).is s 45=b:=⟨_,rfl⟩
 rw[hb0]at htk
 obtain⟨ha1,_,ha2⟩:=Iw hi
 have hda:=OF s hs (AB s i) ha2
 obtain⟨de1,de2,de3,de4⟩:=Kg ha2
 unfold KC
 cases hd:AP (bAt s (AB s i)) with
 |false =>
  rw[Eo hd]at hda
  have hf:=Cd s ⟨AB s i,0,bb⟩ 5 (AB s i)
  have hz:((((AB s i-AB s i:Nat):Nat):Int)==0)=true:=by simp
  simp only[if_true]
  rw[Ic]at hf
  simp only[Au,Bg]at htk hf ⊢
  generalize AB s i=a at *
  refine A6 Tryz.func174 Tryz.ntmps174 ?_
  refine A0 trivial ?_
  refine Ah (A4 [((0,0),(0,0))] [((0,0),(0,0))] htk) trivial ?_
  refine A0 trivial ?_
  refine w7 (A3 [] hda) trivial ?_
  refine A0 hz ?_
  refine Ah (A4 [((0,0),(0,0))] [((0,0),(0,0))] hf) trivial ?_
  refine A0 trivial ?_
  exact A9 (A8 [((0,0),(0,0)),((8,1),(8,1))] []) Tryz.results174 hz
 |true =>
  obtain⟨he1,he2,_⟩:=IM hi hd
  have hz:(((Dm s (AB s i)-AB s i:Nat):Int)==0)=false:=by
   have:Dm s (AB s i)≠AB s i:=fun h=>by rw[h,hd]at de3;cases de3
   simp
   omega
  have hal:=CP (s:=s) (i:=AB s i) (by have:=DM hd;omega)
  obtain⟨b,hg,hb⟩:=Aw hal
  have hbn:((b.toNat:Nat):Int)=((bAt s (AB s i):Nat):Int):=by rw[hb]
  have hcase:((((bAt s (AB s i):Nat):Int)==48)=true∧IntKind.i64.wrap (((AB s i:Nat):Int)+1)=((AQ s i:Nat):Int))∨((((bAt s (AB s i):Nat):Int)==48)=false∧IntKind.i64.wrap (((AB s i:Nat):Int)+((Dm s (AB s i)-AB s i:Nat):Int))=((AQ s i:Nat):Int)):=by
   unfold AQ
   by_cases h:bAt s (AB s i)=48
   ·refine .inl ⟨by simp[h],?_⟩
    rw[if_pos h]
    exact Ae (by omega)
   ·refine .inr ⟨by simp;omega,?_⟩
    rw[if_neg h,DH (by omega)]
    congr 1
    omega
  obtain⟨m,u,p1,p2,hm,hu,hu0,hd2,hB,hV⟩:=H9 s i hi hd
  have hno:=Qk (o1:=o1) (o2:=o2) (s.extract i (AQ s i)) (by omega) p1 hm hu hu0 hd2
  have hno2:AC Tryz.prog 216 [.c (.str (s.extract i (AQ s i)))] (Ij o1 o2) (if Dx s i then .tup [.c (.int .i64 0),.c (.int .i64 3)] else .tup [.c (.int .i64 (Ef s i)),.c (.int .i64 0)]) (Ij o1 o2):=by
   rw[hB,hV]
   unfold VD at hno
   simpa using hno
  clear hno hB hV
  have hdot:(∃b2:UInt8,decide (((AQ s i:Nat):Int)<(s.size:Int))=true∧s[AQ s i]? = some b2∧decide (Rj b2.toNat≥0)=true∧G6 (bAt s (AQ s i))=true)∨(∃b2:UInt8,decide (((AQ s i:Nat):Int)<(s.size:Int))=true∧s[AQ s i]? = some b2∧decide (Rj b2.toNat≥0)=false∧G6 (bAt s (AQ s i))=false)∨(decide (((AQ s i:Nat):Int)<(s.size:Int))=false∧G6 (bAt s (AQ s i))=false):=by
   by_cases hlt:AQ s i<s.size
   ·obtain⟨b2,hg2,hb2⟩:=Aw hlt
    have hdi:=XK (n:=b2.toNat) b2.toNat_lt
    rw[←hb2]at hdi
    have gl:decide (((AQ s i:Nat):Int)<(s.size:Int))=true:=decide_eq_true (by omega)
    cases hq:G6 (bAt s (AQ s i)) with
    |true=>exact .inl ⟨b2,gl,hg2,by rw[←hb2,hdi,hq],rfl⟩
    |false=>exact .inr (.inl ⟨b2,gl,hg2,by rw[←hb2,hdi,hq],rfl⟩)
   ·exact .inr (.inr ⟨decide_eq_false (by omega),by rw[BX (by omega)];rfl⟩)
  have hib:∀b2:UInt8,AC Tryz.prog 217 [.c (.str ⟨#[46,101,69]⟩),.c (.int .u8 (b2.toNat:Nat))] [] (.c (.int .i64 (Rj b2.toNat))) []:=fun b2=>Ox _ b2.toNat_lt
  have h00:((0:Int) != 0)=false:=rfl
  have h30:((3:Int) != 0)=true:=rfl
  have hf1:=Cd s ⟨AQ s i,0,bb⟩ 3 i
  have hf2:=Cd s ⟨AQ s i,3,i⟩ 3 (AQ s i)
  have hf3:=Cd s ⟨AQ s i,0,bb⟩ 3 (AQ s i)
  rw[Ic]at hf1 hf3
  rw[CZ (by simp)]at hf2
  have hn0:=MF 0
  have hnv:=MF (Ef s i)
  simp only[Bool.true_eq_false,if_false]
  generalize Ef s i=z at *
  generalize bAt s (AB s i)=ba at *
  generalize G6 (bAt s (AQ s i))=db at *
  generalize Dm s (AB s i)=ea at *
  generalize AB s i=a at *
  generalize AQ s i=e at *
  cases hB:Dx s i with
  |true =>
   rw[hB]at hno2
   simp only[if_true]at hno2 ⊢
   simp only[Au,Bg]at htk hf1 hf2 hf3 ⊢
   rcases hcase with⟨q48,hwe⟩ | ⟨q48,hwe⟩
   all_goals
    rcases hdot with⟨b2,gl,hg2,gd,_⟩ | ⟨b2,gl,hg2,gd,_⟩ | ⟨gl,_⟩
    all_goals
     refine A6 Tryz.func174 Tryz.ntmps174 ?_
     refine A0 trivial ?_
     refine Ah (A4 [((0,0),(0,0))] [((0,0),(0,0))] htk) trivial ?_
     refine A0 trivial ?_
     refine w7 (A3 [] hda) trivial ?_
     refine A0 (j5 hz hg hbn q48 hwe) ?_
     refine w7 (Dt (y:=s.extract i e) (i:=(i:Int)) (j:=(e:Int)) (s:=s) rfl (by omega) (by omega) (by omega) t3) trivial ?_
     refine A0 trivial ?_
     refine Ah (A4 [((8,1),(8,1))] [((8,1),(8,1))] hno2) trivial ?_
     refine A0 h30 ?_
     refine Ah (A4 [((0,0),(0,0))] [((0,0),(0,0))] hf1) trivial ?_
    ·refine A0 (j2 gl hg2) ?_
     refine w7 (A3 [] (hib b2)) trivial ?_
     refine A0 gd ?_
     refine Ah (A4 [((0,0),(0,0))] [((0,0),(0,0))] hf2) trivial ?_
     refine A0 trivial ?_
     refine w9 (Aa [] hn0) trivial ?_
     refine A0 trivial ?_
     exact A9 (A8 [((0,0),(0,0)),((8,1),(8,1))] []) Tryz.results174 hz
    ·refine A0 (j2 gl hg2) ?_
     refine w7 (A3 [] (hib b2)) trivial ?_
     refine A0 gd ?_
     refine w9 (Aa [] hn0) trivial ?_
     refine A0 trivial ?_
     exact A9 (A8 [((0,0),(0,0)),((8,1),(8,1))] []) Tryz.results174 hz
    ·refine A0 gl ?_
     refine w9 (Aa [] hn0) trivial ?_
     refine A0 trivial ?_
     exact A9 (A8 [((0,0),(0,0)),((8,1),(8,1))] []) Tryz.results174 hz
  |false =>
   rw[hB]at hno2
   simp only[Bool.false_eq_true,if_false]at hno2 ⊢
   simp only[Au,Bg]at htk hf1 hf2 hf3
   rcases hcase with⟨q48,hwe⟩ | ⟨q48,hwe⟩
   all_goals
    rcases hdot with⟨b2,gl,hg2,gd,rfl⟩ | ⟨b2,gl,hg2,gd,rfl⟩ | ⟨gl,rfl⟩
    all_goals
     simp only[if_true,Bool.false_eq_true,if_false,Bg]
     refine A6 Tryz.func174 Tryz.ntmps174 ?_
     refine A0 trivial ?_
     refine Ah (A4 [((0,0),(0,0))] [((0,0),(0,0))] htk) trivial ?_
     refine A0 trivial ?_
     refine w7 (A3 [] hda) trivial ?_
     refine A0 (j5 hz hg hbn q48 hwe) ?_
     refine w7 (Dt (y:=s.extract i e) (i:=(i:Int)) (j:=(e:Int)) (s:=s) rfl (by omega) (by omega) (by omega) t3) trivial ?_
     refine A0 trivial ?_
     refine Ah (A4 [((8,1),(8,1))] [((8,1),(8,1))] hno2) trivial ?_
    ·refine A0 (j3 h00 gl hg2) ?_
     refine w7 (A3 [] (hib b2)) trivial ?_
     refine A0 gd ?_
     refine Ah (A4 [((0,0),(0,0))] [((0,0),(0,0))] hf3) trivial ?_
     refine A0 trivial ?_
     refine w9 (Aa [] hnv) trivial ?_
     refine A0 trivial ?_
     exact A9 (A8 [((0,0),(0,0)),((8,1),(8,1))] []) Tryz.results174 hz
    ·refine A0 (j3 h00 gl hg2) ?_
     refine w7 (A3 [] (hib b2)) trivial ?_
     refine A0 gd ?_
     refine w9 (Aa [] hnv) trivial ?_
     refine A0 trivial ?_
     exact A9 (A8 [((0,0),(0,0)),((8,1),(8,1))] []) Tryz.results174 hz
    ·refine A0 (j2 h00 gl) ?_
     refine w9 (Aa [] hnv) trivial ?_
     refine A0 trivial ?_
     exact A9 (A8 [((0,0),(0,0)),((8,1),(8,1))] []) Tryz.results174 hz
end
section
open Go.RowKit Go.Shelf
set_option maxRecDepth 10000
variable {o1 o2:Obj}
abbrev Wg:Value:=.iface 339 (.int .i64 2)
def Dq (n:Nat):Int:=Go.bits .or .u8 (n:Int) 32
theorem Vp (n:Nat):AC Tryz.prog 321 [.c (.int .u8 n)] [] (.c (.int .u8 (Dq n))) []:=by
 refine AC.of_calls fun S w κ vs hv=>?_
 obtain⟨v,vs',rfl,⟨rfl,_⟩,rfl⟩:=hv
 refine (Any.internal_strconv_lower { FG with } (n:Int) w).mono ?_
 rintro e w' ⟨rfl,rfl⟩
 exact⟨Below.refl _ _,_,rfl,fun T _ _=>⟨rfl,rfl⟩⟩
theorem QW (f s:ByteArray) (hs:s.size≤1000000) (a b:Int):AC Tryz.prog 291 [.c (.str f),.c (.str s),.c (.int .i64 a),.c (.int .i64 b),.c (.raw Wg)] (Ij o1 o2) (.own (1,0)) [((8,1),.gen (Cf o1 o2)),((1,0),.gen Jb)]:=by
 refine AC.of_errs1 fun S w m κ vs h1 h2 hv=>?_
 obtain⟨v1,vs',rfl,⟨rfl,_⟩,v2,vs2,rfl,⟨rfl,_⟩,v3,vs3,rfl,⟨rfl,_⟩,v4,vs4,rfl,⟨rfl,_⟩,v5,vs5,rfl,⟨rfl,_⟩,rfl⟩:=hv
 obtain⟨ev,hev,hev2⟩:=h1
 refine (Any.strconv_toError_syntax { FG with } f s a b ev w (by omega) hev hev2).mono ?_
 rintro e w' ⟨N,rfl,_,_,hb⟩
 exact⟨hb,_,_,rfl⟩
theorem LZ:Tryz.prog.concrete 339=true:=by kernel_rfl
theorem Vj (n:Nat):((BF n).toList==ByteArray.empty.toList)=false:=by simp[BF]
theorem Ym {n:Nat}(hn:n<256):∃b:UInt8,(BF n)[0]? = some b∧((b.toNat:Nat):Int)=(n:Int):=by
 refine⟨UInt8.ofNat n,rfl,?_⟩
 rw[UInt8.toNat_ofNat',Nat.mod_eq_of_lt (by omega)]
def WW (n:Nat):AV:=if 0≤B8 n then .tup [.c (.int .u64 (B8 n)),.c (.raw .nilIface)] else .tup [.c (.int .u64 0),.c (.raw Wg)]
theorem Vx {n:Nat}(hn:n<256):(AP n=true∧B8 n=(n:Int)-48)∨(AP n=false∧97≤Dq n∧Dq n≤122∧Dq n-87<16∧B8 n=Dq n-87)∨(AP n=false∧97≤Dq n∧Dq n≤122∧16≤Dq n-87∧B8 n = -1)∨(AP n=false∧97≤Dq n∧122<Dq n∧Dq n<256∧B8 n = -1)∨(AP n=false∧Dq n<97∧0≤Dq n∧B8 n = -1):=by
 have:∀k:Fin 256,(AP k.val=true∧B8 k.val=(k.val:Int)-48)∨(AP k.val=false∧97≤Dq k.val∧Dq k.val≤122∧Dq k.val-87<16∧B8 k.val=Dq k.val-87)∨(AP k.val=false∧97≤Dq k.val∧Dq k.val≤122∧16≤Dq k.val-87∧B8 k.val = -1)∨(AP k.val=false∧97≤Dq k.val∧122<Dq k.val∧Dq k.val<256∧B8 k.val = -1)∨(AP k.val=false∧Dq k.val<97∧0≤Dq k.val∧B8 k.val = -1):=by decide +kernel
 exact this ⟨n,hn⟩
theorem YZ (w:World) (k:IntKind):(binOp .shl 249 (.int .u64 1) (.int k 64)).run Tryz.prog w=.ok (.int .u64 0) w:=by
 simp only[binOp,Op.shift]
 rfl
theorem Z6 (w:World) (k:IntKind):(binOp .shl 249 (.int .u64 1) (.int k 63)).run Tryz.prog w=.ok (.int .u64 9223372036854775808) w:=by
 simp only[binOp,Op.shift]
 rfl
theorem TG (n:Nat) (hn:n<256):AC Tryz.prog 306 [.c (.str (BF n)),.c (.int .i64 16),.c (.int .i64 64)] [] (WW n) []:=by
 have _a1:=@ST
 have h1:=Vj n
 have l1:((16:Int)==0)=false:=rfl
 have l2:decide ((2:Int)≤16)=true:=rfl
 have l3:decide ((16:Int)≤36)=true:=rfl
 have l4:((64:Int)==0)=false:=rfl
 have l5:decide ((64:Int)<0)=false:=rfl
 have l6:decide ((64:Int)>64)=false:=rfl
 have l7:((16:Int)==10)=false:=rfl
 have l8:((16:Int)==16)=true:=rfl
 refine A6 Tryz.func306 Tryz.ntmps306 ?_
 have w64:IntKind.u64.wrap 64=64:=rfl
 have wm:IntKind.u64.wrap (0-1)=18446744073709551615:=rfl
 have t3:=Tryz.underlying9
 have t1:=Tryz.underlying29
 have t2:=Tryz.underlying5
 have hy:AF (BF n).data.toList=[[.int .u8 (n:Int)]]:=by
  show [[C.int .u8 ((UInt8.ofNat n).toNat:Int)]]=_
  rw[UInt8.toNat_ofNat',Nat.mod_eq_of_lt (by omega)]
 have hlow:=Vp n
 refine A0 (j10 h1 l1 l2 l3 l4 l5 l6 l7 l8 w64) ?_
 refine w5 (SH (m:=1) (n:=64) (c:=.int .u64 0) (fun w=>YZ w _) (fun w S=>⟨rfl,rfl⟩) (fun w=>rfl)) trivial ?_
 refine A0 wm ?_
 refine w4 (W9 hy t3 t1 t2) trivial ?_
 refine A0 trivial ?_
 refine AG (κ:=Nat) (fun k=>⟨mkS 0 172 [(1,.c (.int .i64 16)),(8,.c (.bool false)),(10,.c (.int .u64 1152921504606846976)),(11,.c (.int .u64 18446744073709551615)),(12,.c (.bool false)),(13,.c (.int .u64 (if k=0 then 0 else B8 n))),(99,.c (.sl [[.int .u8 (n:Int)]])),(100,.c (.int .i64 1)),(101,.c (.int .i64 k))],[]⟩)
  (fun k=>k≤1∧(k=1→0≤B8 n)) (fun k=>1-k) 0 ⟨Nat.zero_le _,fun h=>absurd h (by decide)⟩ ?_ ?_
 ·(apply (As.of [] []);(iterate 2 ((focus (simp only[go_sem,Nat.reduceEqDiff,Nat.reduceAdd,Nat.reduceSub,Nat.reduceLeDiff,Nat.reduceMul,Nat.reduceBEq,Nat.reduceLT,Int.reduceToNat,reduceCtorEq,if_true];try (and_intros<;>rfl)));(focus exact rfl)));(iterate 4 (focus (simp[go_sem,if_true];done))))
 ·rintro k ⟨hk,hk1⟩
  have hkk:k=0∨k=1:=by omega
  rcases hkk with rfl | rfl
  ·have hr:Aj [[C.int .u8 (n:Int)]] 1 ((0:Nat):Int)=true:=by simp[Aj]
   have hg:([[C.int .u8 (n:Int)]]:List (List C))[((0:Nat):Int).toNat]? = some [.int .u8 (n:Int)]:=rfl
   have d01:decide (((0:Nat):Int)<1)=true:=rfl
   have w01:IntKind.i64.wrap (((0:Nat):Int)+1)=((1:Nat):Int):=rfl
   have u16:IntKind.u8.wrap 16=16:=rfl
   have v16:IntKind.u64.wrap 16=16:=rfl
   have vz:IntKind.u64.wrap (0*16)=0:=rfl
   have dc:decide ((0:Int)≥1152921504606846976)=false:=rfl
   have e01:(if (0:Nat)=0 then (0:Int) else B8 n)=0:=rfl
   have e11:(if (1:Nat)=0 then (0:Int) else B8 n)=B8 n:=rfl
   have u64:∀z:Int,0≤z→z<1000→IntKind.u64.wrap z=z:=fun z h1 h2=>IntWalk.u64_in _ (by omega)
   unfold WW
   cases q95:((n:Int)==95)
   all_goals
    rcases Vx hn with⟨hd,hx⟩ | ⟨hd,a1,a2,a3,hx⟩ | ⟨hd,a1,a2,a3,hx⟩ | ⟨hd,a1,a2,a3,hx⟩ | ⟨hd,a1,a2,hx⟩
    ·obtain⟨b1,b2⟩:=DM hd
     have g48:decide ((48:Int)≤(n:Int))=true:=decide_eq_true (by omega)
     have g57:decide ((n:Int)≤57)=true:=decide_eq_true (by omega)
     have wd:IntKind.u8.wrap ((n:Int)-48)=(n:Int)-48:=Gt (by omega) (by omega)
     have gd:decide ((n:Int)-48≥16)=false:=decide_eq_false (by omega)
     have we:=u64 ((n:Int)-48) (by omega) (by omega)
     have wf:=u64 (0+((n:Int)-48)) (by omega) (by omega)
     rw[Int.zero_add]at wf
     have wf2:IntKind.u64.wrap (0+((n:Int)-48))=(n:Int)-48:=by rw[Int.zero_add];exact wf
     have gl:decide ((n:Int)-48<0)=false:=decide_eq_false (by omega)
     have gm:decide ((n:Int)-48>18446744073709551615)=false:=decide_eq_false (by omega)
     refine A0 (j2 (j12 d01 hr hg q95 g48 g57 wd u16 gd dc v16 vz) (j6 we wf2 gl gm e01 w01)) ?_
     refine⟨1,by omega,⟨Nat.le_refl _,fun _=>by omega⟩,?_⟩
     exact Aq (As.of [] []) (j3 e11 hx w01)
    ·cases g48:decide ((48:Int)≤(n:Int))<;>cases g57:decide ((n:Int)≤57)
     case true.true =>
      simp only[decide_eq_true_eq]at g48 g57
      exfalso
      unfold AP at hd
      simp at hd
      omega
     all_goals
      generalize Dq n=l at *
      have g97:decide ((97:Int)≤l)=true:=decide_eq_true (by omega)
      have g122:decide (l≤122)=true:=decide_eq_true (by omega)
      have wd1:IntKind.u8.wrap (l-97)=l-97:=Gt (by omega) (by omega)
      have wd:IntKind.u8.wrap (l-97+10)=l-87:=by rw[Gt (by omega) (by omega)];omega
      have gd:decide (l-87≥16)=false:=decide_eq_false (by omega)
      have we:=u64 (l-87) (by omega) (by omega)
      have wf2:IntKind.u64.wrap (0+(l-87))=l-87:=by rw[Int.zero_add];exact we
      have gl:decide (l-87<0)=false:=decide_eq_false (by omega)
      have gm:decide (l-87>18446744073709551615)=false:=decide_eq_false (by omega)
      refine A0 (j6 d01 hr hg q95 g48 g57) ?_
      refine w7 (A3 [] hlow) trivial ?_
      refine A0 g97 ?_
      refine w7 (A3 [] hlow) trivial ?_
      refine A0 g122 ?_
      refine w7 (A3 [] hlow) trivial ?_
      refine A0 (j2 (j12 wd1 wd u16 gd dc v16 vz we wf2 gl gm e01) w01) ?_
      refine⟨1,by omega,⟨Nat.le_refl _,fun _=>by omega⟩,?_⟩
      exact Aq (As.of [] []) (j3 e11 hx w01)
    ·rw[if_neg (by omega)]
     cases g48:decide ((48:Int)≤(n:Int))<;>cases g57:decide ((n:Int)≤57)
     case true.true =>
      simp only[decide_eq_true_eq]at g48 g57
      exfalso
      unfold AP at hd
      simp at hd
      omega
     all_goals
      generalize Dq n=l at *
      have g97:decide ((97:Int)≤l)=true:=decide_eq_true (by omega)
      have g122:decide (l≤122)=true:=decide_eq_true (by omega)
      have wd1:IntKind.u8.wrap (l-97)=l-97:=Gt (by omega) (by omega)
      have wd:IntKind.u8.wrap (l-97+10)=l-87:=by rw[Gt (by omega) (by omega)];omega
      have gd:decide (l-87≥16)=true:=decide_eq_true (by omega)
      refine A0 (j6 d01 hr hg q95 g48 g57) ?_
      refine w7 (A3 [] hlow) trivial ?_
      refine A0 g97 ?_
      refine w7 (A3 [] hlow) trivial ?_
      refine A0 g122 ?_
      refine w7 (A3 [] hlow) trivial ?_
      refine A0 (j4 wd1 wd u16 gd) ?_
      refine w4 (D3 LZ) trivial ?_
      refine A0 trivial ?_
      exact Am (A7 []) Tryz.results306
    ·rw[if_neg (by omega)]
     cases g48:decide ((48:Int)≤(n:Int))<;>cases g57:decide ((n:Int)≤57)
     case true.true =>
      simp only[decide_eq_true_eq]at g48 g57
      exfalso
      unfold AP at hd
      simp at hd
      omega
     all_goals
      generalize Dq n=l at *
      have g97:decide ((97:Int)≤l)=true:=decide_eq_true (by omega)
      have g122:decide (l≤122)=false:=decide_eq_false (by omega)
      refine A0 (j6 d01 hr hg q95 g48 g57) ?_
      refine w7 (A3 [] hlow) trivial ?_
      refine A0 g97 ?_
      refine w7 (A3 [] hlow) trivial ?_
      refine A0 g122 ?_
      refine w4 (D3 LZ) trivial ?_
      refine A0 trivial ?_
      exact Am (A7 []) Tryz.results306
    ·rw[if_neg (by omega)]
     cases g48:decide ((48:Int)≤(n:Int))<;>cases g57:decide ((n:Int)≤57)
     case true.true =>
      simp only[decide_eq_true_eq]at g48 g57
      exfalso
      unfold AP at hd
      simp at hd
      omega
     all_goals
      generalize Dq n=l at *
      have g97:decide ((97:Int)≤l)=false:=decide_eq_false (by omega)
      refine A0 (j6 d01 hr hg q95 g48 g57) ?_
      refine w7 (A3 [] hlow) trivial ?_
      refine A0 g97 ?_
      refine w4 (D3 LZ) trivial ?_
      refine A0 trivial ?_
      exact Am (A7 []) Tryz.results306
  ·have d11:decide (((1:Nat):Int)<1)=false:=rfl
   have e11:(if (1:Nat)=0 then (0:Int) else B8 n)=B8 n:=rfl
   have h0:=hk1 rfl
   unfold WW
   rw[if_pos h0]
   refine A0 (j2 d11 e11) ?_
   exact Am (A7 []) Tryz.results306
end
end Go.Proofs.YtllfmaflodbieaaGreatDoor
