/- Texts of this proof: D15 D16 D17 D18. -/
import Derived.Test.YtllfmaflodbieaaGreatDoorKD14
set_option linter.all false
set_option maxHeartbeats 8000000
namespace Go.Proofs.YtllfmaflodbieaaGreatDoor
section
open Go.RowKit
set_option maxRecDepth 10000
variable {o1 o2:Obj}
def i6 (m:Bool) (u:ByteArray):AV:=if 16<u.size∨1000000000000000<Dg u 0 u.size then .tup [.c (.int .i64 0),.c (.int .i64 3)] else .tup [.c (.int .i64 (if m then -((Dg u 0 u.size:Nat):Int) else ((Dg u 0 u.size:Nat):Int))),.c (.int .i64 0)]
theorem Ec:Tryz.prog.underlying 62=some (.interface (Tryz.prog.methodsAt 62)):=by kernel_rfl
theorem Tu (t:ByteArray) (hs:t.size≤1000000) (h0:0<t.size) {m:Bool}{u:ByteArray}(hm:(bAt t 0==45)=m) (hu:(if m then t.extract 1 t.size else t)=u) (hu0:0<u.size) (hd:∀j,j<u.size→Bx (bAt u j)=true) :
  AC Tryz.prog 216 [.c (.str t)] (Kv o1 o2) (i6 m u) (Kv o1 o2):=by
 have htr:=a2n t h0 hm hu
 unfold i6
 rcases TK t h0 hm hu hu0 hd with hp | ⟨hp,hbig⟩
 ·have hpa:=TL t hs _ hp
  have hz:(-1000000000000000≤(if m=true then -((Dg u 0 u.size:Nat):Int) else ((Dg u 0 u.size:Nat):Int))∧(if m=true then -((Dg u 0 u.size:Nat):Int) else ((Dg u 0 u.size:Nat):Int))≤1000000000000000)↔¬1000000000000000<Dg u 0 u.size:=by
   cases m
   ·simp only[Bool.false_eq_true,if_false];omega
   ·simp only[if_true];omega
  generalize (if m=true then -((Dg u 0 u.size:Nat):Int) else ((Dg u 0 u.size:Nat):Int))=z at *
  generalize Dg u 0 u.size=dn at *
  have hwi:=Qr z (-1000000000000000) 1000000000000000
  by_cases h16:16<u.size
  ·have g16:decide ((u.size:Int)>16)=true:=decide_eq_true (by omega)
   rw[if_pos (.inl h16)]
   refine A5 Tryz.func216 Tryz.ntmps216 ?_
   refine A3 q9 ?_
   refine w7 (A8 [] hpa) q9 ?_
   refine A3 q9 ?_
   refine w6 (H5 Ec) q9 ?_
   refine A3 q9 ?_
   refine w7 (A8 [] htr) q9 ?_
   refine A3 g16 ?_
   exact Ab (Aa [((8,1),(8,1))] []) Tryz.results216 h16
  ·have g16:decide ((u.size:Int)>16)=false:=decide_eq_false (by omega)
   by_cases hbig:1000000000000000<dn
   ·have hb:(decide (z≥-1000000000000000)&&decide (z≤1000000000000000))=false:=by
     rw[Bool.eq_false_iff]
     intro h
     simp only[Bool.and_eq_true,decide_eq_true_eq]at h
     exact hz.1 ⟨h.1,h.2⟩ hbig
    rw[hb]at hwi
    rw[if_pos (.inr hbig)]
    refine A5 Tryz.func216 Tryz.ntmps216 ?_
    refine A3 q9 ?_
    refine w7 (A8 [] hpa) q9 ?_
    refine A3 q9 ?_
    refine w6 (H5 Ec) q9 ?_
    refine A3 q9 ?_
    refine w7 (A8 [] htr) q9 ?_
    refine A3 g16 ?_
    refine w7 (A8 [] hwi) q9 ?_
    refine A3 q9 ?_
    exact Ab (Aa [((8,1),(8,1))] []) Tryz.results216 h16
   ·have hb:(decide (z≥-1000000000000000)&&decide (z≤1000000000000000))=true:=by
     obtain⟨q1,q2⟩:=hz.2 hbig
     simp only[Bool.and_eq_true,decide_eq_true_eq]
     exact⟨q1,q2⟩
    rw[hb]at hwi
    rw[if_neg (by omega)]
    refine A5 Tryz.func216 Tryz.ntmps216 ?_
    refine A3 q9 ?_
    refine w7 (A8 [] hpa) q9 ?_
    refine A3 q9 ?_
    refine w6 (H5 Ec) q9 ?_
    refine A3 q9 ?_
    refine w7 (A8 [] htr) q9 ?_
    refine A3 g16 ?_
    refine w7 (A8 [] hwi) q9 ?_
    refine A3 q9 ?_
    exact Ab (Aa [((8,1),(8,1))] []) Tryz.results216 h16
 ·have hpa:=Oh (o1:=o1) (o2:=o2) t hs hp
  rw[if_pos (.inr hbig)]
  refine A5 Tryz.func216 Tryz.ntmps216 ?_
  refine A3 q9 ?_
  refine A7 (A0 [((8,1),(8,1))] [((8,1),(8,1)),((1,0),(8,0))] hpa) q9 ?_
  refine A3 q9 ?_
  refine w7 (TB Ec) q9 ?_
  refine A3 q9 ?_
  exact Ab (Aa [((8,1),(8,1))] []) Tryz.results216 hbig
theorem Kx (i b:Nat) (c:Int) (p:Nat):(⟨i,0,b⟩:DS).fail c p=⟨i,c,p⟩:=rfl
abbrev dsE (o1 o2:Obj) (s:ByteArray) (d:DS):Mem:=[((0,0),a42 s d),((8,1),.gen (D8 o1 o2))]
theorem BR (o1 o2:Obj) (s:ByteArray) (d:DS):dsE o1 o2 s d=[((0,0),.box [.c (.str s),.c (.int .i64 d.pl),.c (.int .i64 d.code),.c (.int .i64 d.bad)]),((8,1),.gen (D8 o1 o2))]:=rfl
theorem Rq (s:ByteArray) (hs:s.size≤1000000) (i:Nat) (hi:i<s.size) (bb:Nat):AC Tryz.prog 174 [.ptr (0,0) 0] (dsE o1 o2 s ⟨i,0,bb⟩) (Oa s i bb).1.av (dsE o1 o2 s (Oa s i bb).2):=by
 have t3:=Tryz.underlying9
 have htk:=EG s hs ⟨i,0,bb⟩ (by show i≤s.size;omega) 45 (by decide)
 have hA:(⟨i,0,bb⟩:DS).take s 45=⟨Br s i,0,bb⟩:=by
  unfold DS.take Br
  rw[show (⟨i,0,bb⟩:DS).is s 45=(bAt s i==45) by unfold DS.is;simp]
  by_cases h:bAt s i=45<;>simp[h,DS.go]
 rw[hA]at htk
 obtain⟨b0,hb0⟩:∃b,(⟨i,0,bb⟩:DS).is s 45=b:=⟨_,rfl⟩
 rw[hb0]at htk
 obtain⟨ha1,_,ha2⟩:=MV hi
 have hda:=Sx s hs (Br s i) ha2
 obtain⟨de1,de2,de3,de4⟩:=ML ha2
 unfold Oa
 cases hd:Bx (bAt s (Br s i)) with
 |false =>
  rw[IX hd]at hda
  have hf:=CT s ⟨Br s i,0,bb⟩ 5 (Br s i)
  have hz:((((Br s i-Br s i:Nat):Nat):Int)==0)=true:=by simp
  simp only[if_true]
  rw[Kx]at hf
  simp only[AM,BR]at htk hf ⊢
  generalize Br s i=a at *
  refine A5 Tryz.func174 Tryz.ntmps174 ?_
  refine A3 q9 ?_
  refine A7 (A0 [((0,0),(0,0))] [((0,0),(0,0))] htk) q9 ?_
  refine A3 q9 ?_
  refine w7 (A8 [] hda) q9 ?_
  refine A3 hz ?_
  refine A7 (A0 [((0,0),(0,0))] [((0,0),(0,0))] hf) q9 ?_
  refine A3 q9 ?_
  exact Ab (Aa [((0,0),(0,0)),((8,1),(8,1))] []) Tryz.results174 hz
 |true =>
  obtain⟨he1,he2,_⟩:=MW hi hd
  have hz:(((Fb s (Br s i)-Br s i:Nat):Int)==0)=false:=by
   have:Fb s (Br s i)≠Br s i:=fun h=>by rw[h,hd]at de3;cases de3
   simp
   omega
  have hal:=EM (s:=s) (i:=Br s i) (by have:=GB hd;omega)
  obtain⟨b,hg,hb⟩:=Ea hal
  have hbn:((b.toNat:Nat):Int)=((bAt s (Br s i):Nat):Int):=by rw[hb]
  have hcase:((((bAt s (Br s i):Nat):Int)==48)=true∧IntKind.i64.wrap (((Br s i:Nat):Int)+1)=((BO s i:Nat):Int))∨((((bAt s (Br s i):Nat):Int)==48)=false∧IntKind.i64.wrap (((Br s i:Nat):Int)+((Fb s (Br s i)-Br s i:Nat):Int))=((BO s i:Nat):Int)):=by
   unfold BO
   by_cases h:bAt s (Br s i)=48
   ·refine .inl ⟨by simp[h],?_⟩
    rw[if_pos h]
    exact AA (by omega)
   ·refine .inr ⟨by simp;omega,?_⟩
    rw[if_neg h,Qu (by omega)]
    congr 1
    omega
  obtain⟨m,u,p1,p2,hm,hu,hu0,hd2,hB,hV⟩:=Pf s i hi hd
  have hno:=Tu (o1:=o1) (o2:=o2) (s.extract i (BO s i)) (by omega) p1 hm hu hu0 hd2
  have hno2:AC Tryz.prog 216 [.c (.str (s.extract i (BO s i)))] (Kv o1 o2) (if Fm s i then .tup [.c (.int .i64 0),.c (.int .i64 3)] else .tup [.c (.int .i64 (H2 s i)),.c (.int .i64 0)]) (Kv o1 o2):=by
   rw[hB,hV]
   unfold i6 at hno
   simpa using hno
  clear hno hB hV
  have hdot:(∃b2:UInt8,decide (((BO s i:Nat):Int)<(s.size:Int))=true∧s[BO s i]? = some b2∧decide (UI b2.toNat≥0)=true∧Ld (bAt s (BO s i))=true)∨(∃b2:UInt8,decide (((BO s i:Nat):Int)<(s.size:Int))=true∧s[BO s i]? = some b2∧decide (UI b2.toNat≥0)=false∧Ld (bAt s (BO s i))=false)∨(decide (((BO s i:Nat):Int)<(s.size:Int))=false∧Ld (bAt s (BO s i))=false):=by
   by_cases hlt:BO s i<s.size
   ·obtain⟨b2,hg2,hb2⟩:=Ea hlt
    have hdi:=a0z (n:=b2.toNat) b2.toNat_lt
    rw[←hb2]at hdi
    have gl:decide (((BO s i:Nat):Int)<(s.size:Int))=true:=decide_eq_true (by omega)
    cases hq:Ld (bAt s (BO s i)) with
    |true=>exact .inl ⟨b2,gl,hg2,by rw[←hb2,hdi,hq],rfl⟩
    |false=>exact .inr (.inl ⟨b2,gl,hg2,by rw[←hb2,hdi,hq],rfl⟩)
   ·exact .inr (.inr ⟨decide_eq_false (by omega),by rw[Eu (by omega)];rfl⟩)
  have hib:∀b2:UInt8,AC Tryz.prog 217 [.c (.str ⟨#[46,101,69]⟩),.c (.int .u8 (b2.toNat:Nat))] [] (.c (.int .i64 (UI b2.toNat))) []:=fun b2=>Rf _ b2.toNat_lt
  have h00:((0:Int) != 0)=false:=rfl
  have h30:((3:Int) != 0)=true:=rfl
  have hf1:=CT s ⟨BO s i,0,bb⟩ 3 i
  have hf2:=CT s ⟨BO s i,3,i⟩ 3 (BO s i)
  have hf3:=CT s ⟨BO s i,0,bb⟩ 3 (BO s i)
  rw[Kx]at hf1 hf3
  rw[E6 (by simp)]at hf2
  have hn0:=Q1 0
  have hnv:=Q1 (H2 s i)
  simp only[Bool.true_eq_false,if_false]
  generalize H2 s i=z at *
  generalize bAt s (Br s i)=ba at *
  generalize Ld (bAt s (BO s i))=db at *
  generalize Fb s (Br s i)=ea at *
  generalize Br s i=a at *
  generalize BO s i=e at *
  cases hB:Fm s i with
  |true =>
   rw[hB]at hno2
   simp only[if_true]at hno2 ⊢
   simp only[AM,BR]at htk hf1 hf2 hf3 ⊢
   rcases hcase with⟨q48,hwe⟩ | ⟨q48,hwe⟩
   all_goals
    rcases hdot with⟨b2,gl,hg2,gd,_⟩ | ⟨b2,gl,hg2,gd,_⟩ | ⟨gl,_⟩
    all_goals
     refine A5 Tryz.func174 Tryz.ntmps174 ?_
     refine A3 q9 ?_
     refine A7 (A0 [((0,0),(0,0))] [((0,0),(0,0))] htk) q9 ?_
     refine A3 q9 ?_
     refine w7 (A8 [] hda) q9 ?_
     refine A3 (j5 hz hg hbn q48 hwe) ?_
     refine w7 (Rt (y:=s.extract i e) (i:=(i:Int)) (j:=(e:Int)) (s:=s) rfl (by omega) (by omega) (by omega) t3) q9 ?_
     refine A3 q9 ?_
     refine A7 (A0 [((8,1),(8,1))] [((8,1),(8,1))] hno2) q9 ?_
     refine A3 h30 ?_
     refine A7 (A0 [((0,0),(0,0))] [((0,0),(0,0))] hf1) q9 ?_
    ·refine A3 (j2 gl hg2) ?_
     refine w7 (A8 [] (hib b2)) q9 ?_
     refine A3 gd ?_
     refine A7 (A0 [((0,0),(0,0))] [((0,0),(0,0))] hf2) q9 ?_
     refine A3 q9 ?_
     refine w9 (A6 [] hn0) q9 ?_
     refine A3 q9 ?_
     exact Ab (Aa [((0,0),(0,0)),((8,1),(8,1))] []) Tryz.results174 hz
    ·refine A3 (j2 gl hg2) ?_
     refine w7 (A8 [] (hib b2)) q9 ?_
     refine A3 gd ?_
     refine w9 (A6 [] hn0) q9 ?_
     refine A3 q9 ?_
     exact Ab (Aa [((0,0),(0,0)),((8,1),(8,1))] []) Tryz.results174 hz
    ·refine A3 gl ?_
     refine w9 (A6 [] hn0) q9 ?_
     refine A3 q9 ?_
     exact Ab (Aa [((0,0),(0,0)),((8,1),(8,1))] []) Tryz.results174 hz
  |false =>
   rw[hB]at hno2
   simp only[Bool.false_eq_true,if_false]at hno2 ⊢
   simp only[AM,BR]at htk hf1 hf2 hf3
   rcases hcase with⟨q48,hwe⟩ | ⟨q48,hwe⟩
   all_goals
    rcases hdot with⟨b2,gl,hg2,gd,rfl⟩ | ⟨b2,gl,hg2,gd,rfl⟩ | ⟨gl,rfl⟩
    all_goals
     simp only[if_true,Bool.false_eq_true,if_false,BR]
     refine A5 Tryz.func174 Tryz.ntmps174 ?_
     refine A3 q9 ?_
     refine A7 (A0 [((0,0),(0,0))] [((0,0),(0,0))] htk) q9 ?_
     refine A3 q9 ?_
     refine w7 (A8 [] hda) q9 ?_
     refine A3 (j5 hz hg hbn q48 hwe) ?_
     refine w7 (Rt (y:=s.extract i e) (i:=(i:Int)) (j:=(e:Int)) (s:=s) rfl (by omega) (by omega) (by omega) t3) q9 ?_
     refine A3 q9 ?_
     refine A7 (A0 [((8,1),(8,1))] [((8,1),(8,1))] hno2) q9 ?_
    ·refine A3 (j3 h00 gl hg2) ?_
     refine w7 (A8 [] (hib b2)) q9 ?_
     refine A3 gd ?_
     refine A7 (A0 [((0,0),(0,0))] [((0,0),(0,0))] hf3) q9 ?_
     refine A3 q9 ?_
     refine w9 (A6 [] hnv) q9 ?_
     refine A3 q9 ?_
     exact Ab (Aa [((0,0),(0,0)),((8,1),(8,1))] []) Tryz.results174 hz
    ·refine A3 (j3 h00 gl hg2) ?_
     refine w7 (A8 [] (hib b2)) q9 ?_
     refine A3 gd ?_
     refine w9 (A6 [] hnv) q9 ?_
     refine A3 q9 ?_
     exact Ab (Aa [((0,0),(0,0)),((8,1),(8,1))] []) Tryz.results174 hz
    ·refine A3 (j2 h00 gl) ?_
     refine w9 (A6 [] hnv) q9 ?_
     refine A3 q9 ?_
     exact Ab (Aa [((0,0),(0,0)),((8,1),(8,1))] []) Tryz.results174 hz
end
section
open Go.RowKit Go.Shelf
set_option maxRecDepth 10000
variable {o1 o2:Obj}
abbrev z7:Value:=.iface 339 (.int .i64 2)
def ED (n:Nat):Int:=Go.bits .or .u8 (n:Int) 32
theorem ZU (n:Nat):AC Tryz.prog 321 [.c (.int .u8 n)] [] (.c (.int .u8 (ED n))) []:=by
 refine AC.of_calls fun S w κ vs hv=>?_
 obtain⟨v,vs',rfl,⟨rfl,_⟩,rfl⟩:=hv
 refine (Any.internal_strconv_lower { HQ with } (n:Int) w).mono ?_
 rintro e w' ⟨rfl,rfl⟩
 exact⟨Below.refl _ _,_,rfl,fun T _ _=>⟨rfl,rfl⟩⟩
theorem Wg (f s:ByteArray) (hs:s.size≤1000000) (a b:Int):AC Tryz.prog 291 [.c (.str f),.c (.str s),.c (.int .i64 a),.c (.int .i64 b),.c (.raw z7)] (Kv o1 o2) (.own (1,0)) [((8,1),.gen (D8 o1 o2)),((1,0),.gen Lj)]:=by
 refine AC.of_errs1 fun S w m κ vs h1 h2 hv=>?_
 obtain⟨v1,vs',rfl,⟨rfl,_⟩,v2,vs2,rfl,⟨rfl,_⟩,v3,vs3,rfl,⟨rfl,_⟩,v4,vs4,rfl,⟨rfl,_⟩,v5,vs5,rfl,⟨rfl,_⟩,rfl⟩:=hv
 obtain⟨ev,hev,hev2⟩:=h1
 refine (Any.strconv_toError_syntax { HQ with } f s a b ev w (by omega) hev hev2).mono ?_
 rintro e w' ⟨N,rfl,_,_,hb⟩
 exact⟨hb,_,_,rfl⟩
theorem Nc:Tryz.prog.concrete 339=true:=by kernel_rfl
theorem n9 (n:Nat):((CN n).toList==ByteArray.empty.toList)=false:=by simp[CN]
theorem a4j {n:Nat}(hn:n<256):∃b:UInt8,(CN n)[0]? = some b∧((b.toNat:Nat):Int)=(n:Int):=by
 refine⟨UInt8.ofNat n,rfl,?_⟩
 rw[UInt8.toNat_ofNat',Nat.mod_eq_of_lt (by omega)]
def a2o (n:Nat):AV:=if 0≤Cl n then .tup [.c (.int .u64 (Cl n)),.c (.raw .nilIface)] else .tup [.c (.int .u64 0),.c (.raw z7)]
theorem ZL {n:Nat}(hn:n<256):(Bx n=true∧Cl n=(n:Int)-48)∨(Bx n=false∧97≤ED n∧ED n≤122∧ED n-87<16∧Cl n=ED n-87)∨(Bx n=false∧97≤ED n∧ED n≤122∧16≤ED n-87∧Cl n = -1)∨(Bx n=false∧97≤ED n∧122<ED n∧ED n<256∧Cl n = -1)∨(Bx n=false∧ED n<97∧0≤ED n∧Cl n = -1):=by
 have:∀k:Fin 256,(Bx k.val=true∧Cl k.val=(k.val:Int)-48)∨(Bx k.val=false∧97≤ED k.val∧ED k.val≤122∧ED k.val-87<16∧Cl k.val=ED k.val-87)∨(Bx k.val=false∧97≤ED k.val∧ED k.val≤122∧16≤ED k.val-87∧Cl k.val = -1)∨(Bx k.val=false∧97≤ED k.val∧122<ED k.val∧ED k.val<256∧Cl k.val = -1)∨(Bx k.val=false∧ED k.val<97∧0≤ED k.val∧Cl k.val = -1):=by decide +kernel
 exact this ⟨n,hn⟩
theorem a5j (w:World) (k:IntKind):(binOp .shl 249 (.int .u64 1) (.int k 64)).run Tryz.prog w=.ok (.int .u64 0) w:=by
 simp only[binOp,Op.shift]
 rfl
theorem a5i (w:World) (k:IntKind):(binOp .shl 249 (.int .u64 1) (.int k 63)).run Tryz.prog w=.ok (.int .u64 9223372036854775808) w:=by
 simp only[binOp,Op.shift]
 rfl
theorem YY (n:Nat) (hn:n<256):AC Tryz.prog 306 [.c (.str (CN n)),.c (.int .i64 16),.c (.int .i64 64)] [] (a2o n) []:=by
 have _a1:=@WB
 have h1:=n9 n
 have l1:((16:Int)==0)=false:=rfl
 have l2:decide ((2:Int)≤16)=true:=rfl
 have l3:decide ((16:Int)≤36)=true:=rfl
 have l4:((64:Int)==0)=false:=rfl
 have l5:decide ((64:Int)<0)=false:=rfl
 have l6:decide ((64:Int)>64)=false:=rfl
 have l7:((16:Int)==10)=false:=rfl
 have l8:((16:Int)==16)=true:=rfl
 refine A5 Tryz.func306 Tryz.ntmps306 ?_
 have w64:IntKind.u64.wrap 64=64:=rfl
 have wm:IntKind.u64.wrap (0-1)=18446744073709551615:=rfl
 have t3:=Tryz.underlying9
 have t1:=Tryz.underlying29
 have t2:=Tryz.underlying5
 have hy:Bj (CN n).data.toList=[[.int .u8 (n:Int)]]:=by
  show [[C.int .u8 ((UInt8.ofNat n).toNat:Int)]]=_
  rw[UInt8.toNat_ofNat',Nat.mod_eq_of_lt (by omega)]
 have hlow:=ZU n
 refine A3 (j10 h1 l1 l2 l3 l4 l5 l6 l7 l8 w64) ?_
 refine w5 (X1 (m:=1) (n:=64) (c:=.int .u64 0) (fun w=>a5j w _) (fun w S=>⟨rfl,rfl⟩) (fun w=>rfl)) q9 ?_
 refine A3 wm ?_
 refine w4 (o6 hy t3 t1 t2) q9 ?_
 refine A3 q9 ?_
 refine AZ (κ:=Nat) (fun k=>⟨mkS 0 172 [(1,.c (.int .i64 16)),(8,.c (.bool false)),(10,.c (.int .u64 1152921504606846976)),(11,.c (.int .u64 18446744073709551615)),(12,.c (.bool false)),(13,.c (.int .u64 (if k=0 then 0 else Cl n))),(99,.c (.sl [[.int .u8 (n:Int)]])),(100,.c (.int .i64 1)),(101,.c (.int .i64 k))],[]⟩)
  (fun k=>k≤1∧(k=1→0≤Cl n)) (fun k=>1-k) 0 ⟨Nat.zero_le _,fun h=>absurd h (by decide)⟩ ?_ ?_
 ·(apply (AH.of [] []);(iterate 2 ((focus (simp only[go_sem,Nat.reduceEqDiff,Nat.reduceAdd,Nat.reduceSub,Nat.reduceLeDiff,Nat.reduceMul,Nat.reduceBEq,Nat.reduceLT,Int.reduceToNat,reduceCtorEq,if_true];try (and_intros<;>rfl)));(focus exact rfl)));(iterate 4 (focus (simp[go_sem,if_true];done))))
 ·rintro k ⟨hk,hk1⟩
  have hkk:k=0∨k=1:=by omega
  rcases hkk with rfl | rfl
  ·have hr:Ae [[C.int .u8 (n:Int)]] 1 ((0:Nat):Int)=true:=by simp[Ae]
   have hg:([[C.int .u8 (n:Int)]]:List (List C))[((0:Nat):Int).toNat]? = some [.int .u8 (n:Int)]:=rfl
   have d01:decide (((0:Nat):Int)<1)=true:=rfl
   have w01:IntKind.i64.wrap (((0:Nat):Int)+1)=((1:Nat):Int):=rfl
   have u16:IntKind.u8.wrap 16=16:=rfl
   have v16:IntKind.u64.wrap 16=16:=rfl
   have vz:IntKind.u64.wrap (0*16)=0:=rfl
   have dc:decide ((0:Int)≥1152921504606846976)=false:=rfl
   have e01:(if (0:Nat)=0 then (0:Int) else Cl n)=0:=rfl
   have e11:(if (1:Nat)=0 then (0:Int) else Cl n)=Cl n:=rfl
   have u64:∀z:Int,0≤z→z<1000→IntKind.u64.wrap z=z:=fun z h1 h2=>IntWalk.u64_in _ (by omega)
   unfold a2o
   cases q95:((n:Int)==95)
   all_goals
    rcases ZL hn with⟨hd,hx⟩ | ⟨hd,a1,a2,a3,hx⟩ | ⟨hd,a1,a2,a3,hx⟩ | ⟨hd,a1,a2,a3,hx⟩ | ⟨hd,a1,a2,hx⟩
    ·obtain⟨b1,b2⟩:=GB hd
     have g48:decide ((48:Int)≤(n:Int))=true:=decide_eq_true (by omega)
     have g57:decide ((n:Int)≤57)=true:=decide_eq_true (by omega)
     have wd:IntKind.u8.wrap ((n:Int)-48)=(n:Int)-48:=Qm (by omega) (by omega)
     have gd:decide ((n:Int)-48≥16)=false:=decide_eq_false (by omega)
     have we:=u64 ((n:Int)-48) (by omega) (by omega)
     have wf:=u64 (0+((n:Int)-48)) (by omega) (by omega)
     rw[Int.zero_add]at wf
     have wf2:IntKind.u64.wrap (0+((n:Int)-48))=(n:Int)-48:=by rw[Int.zero_add];exact wf
     have gl:decide ((n:Int)-48<0)=false:=decide_eq_false (by omega)
     have gm:decide ((n:Int)-48>18446744073709551615)=false:=decide_eq_false (by omega)
     refine A3 (j2 (j12 d01 hr hg q95 g48 g57 wd u16 gd dc v16 vz) (j6 we wf2 gl gm e01 w01)) ?_
     refine⟨1,by omega,⟨Nat.le_refl _,fun _=>by omega⟩,?_⟩
     exact As (AH.of [] []) (j3 e11 hx w01)
    ·cases g48:decide ((48:Int)≤(n:Int))<;>cases g57:decide ((n:Int)≤57)
     case true.true =>
      simp only[decide_eq_true_eq]at g48 g57
      exfalso
      unfold Bx at hd
      simp at hd
      omega
     all_goals
      generalize ED n=l at *
      have g97:decide ((97:Int)≤l)=true:=decide_eq_true (by omega)
      have g122:decide (l≤122)=true:=decide_eq_true (by omega)
      have wd1:IntKind.u8.wrap (l-97)=l-97:=Qm (by omega) (by omega)
      have wd:IntKind.u8.wrap (l-97+10)=l-87:=by rw[Qm (by omega) (by omega)];omega
      have gd:decide (l-87≥16)=false:=decide_eq_false (by omega)
      have we:=u64 (l-87) (by omega) (by omega)
      have wf2:IntKind.u64.wrap (0+(l-87))=l-87:=by rw[Int.zero_add];exact we
      have gl:decide (l-87<0)=false:=decide_eq_false (by omega)
      have gm:decide (l-87>18446744073709551615)=false:=decide_eq_false (by omega)
      refine A3 (j6 d01 hr hg q95 g48 g57) ?_
      refine w7 (A8 [] hlow) q9 ?_
      refine A3 g97 ?_
      refine w7 (A8 [] hlow) q9 ?_
      refine A3 g122 ?_
      refine w7 (A8 [] hlow) q9 ?_
      refine A3 (j2 (j12 wd1 wd u16 gd dc v16 vz we wf2 gl gm e01) w01) ?_
      refine⟨1,by omega,⟨Nat.le_refl _,fun _=>by omega⟩,?_⟩
      exact As (AH.of [] []) (j3 e11 hx w01)
    ·rw[if_neg (by omega)]
     cases g48:decide ((48:Int)≤(n:Int))<;>cases g57:decide ((n:Int)≤57)
     case true.true =>
      simp only[decide_eq_true_eq]at g48 g57
      exfalso
      unfold Bx at hd
      simp at hd
      omega
     all_goals
      generalize ED n=l at *
      have g97:decide ((97:Int)≤l)=true:=decide_eq_true (by omega)
      have g122:decide (l≤122)=true:=decide_eq_true (by omega)
      have wd1:IntKind.u8.wrap (l-97)=l-97:=Qm (by omega) (by omega)
      have wd:IntKind.u8.wrap (l-97+10)=l-87:=by rw[Qm (by omega) (by omega)];omega
      have gd:decide (l-87≥16)=true:=decide_eq_true (by omega)
      refine A3 (j6 d01 hr hg q95 g48 g57) ?_
      refine w7 (A8 [] hlow) q9 ?_
      refine A3 g97 ?_
      refine w7 (A8 [] hlow) q9 ?_
      refine A3 g122 ?_
      refine w7 (A8 [] hlow) q9 ?_
      refine A3 (j4 wd1 wd u16 gd) ?_
      refine w4 (Ef Nc) q9 ?_
      refine A3 q9 ?_
      exact AL (Ad []) Tryz.results306
    ·rw[if_neg (by omega)]
     cases g48:decide ((48:Int)≤(n:Int))<;>cases g57:decide ((n:Int)≤57)
     case true.true =>
      simp only[decide_eq_true_eq]at g48 g57
      exfalso
      unfold Bx at hd
      simp at hd
      omega
     all_goals
      generalize ED n=l at *
      have g97:decide ((97:Int)≤l)=true:=decide_eq_true (by omega)
      have g122:decide (l≤122)=false:=decide_eq_false (by omega)
      refine A3 (j6 d01 hr hg q95 g48 g57) ?_
      refine w7 (A8 [] hlow) q9 ?_
      refine A3 g97 ?_
      refine w7 (A8 [] hlow) q9 ?_
      refine A3 g122 ?_
      refine w4 (Ef Nc) q9 ?_
      refine A3 q9 ?_
      exact AL (Ad []) Tryz.results306
    ·rw[if_neg (by omega)]
     cases g48:decide ((48:Int)≤(n:Int))<;>cases g57:decide ((n:Int)≤57)
     case true.true =>
      simp only[decide_eq_true_eq]at g48 g57
      exfalso
      unfold Bx at hd
      simp at hd
      omega
     all_goals
      generalize ED n=l at *
      have g97:decide ((97:Int)≤l)=false:=decide_eq_false (by omega)
      refine A3 (j6 d01 hr hg q95 g48 g57) ?_
      refine w7 (A8 [] hlow) q9 ?_
      refine A3 g97 ?_
      refine w4 (Ef Nc) q9 ?_
      refine A3 q9 ?_
      exact AL (Ad []) Tryz.results306
  ·have d11:decide (((1:Nat):Int)<1)=false:=rfl
   have e11:(if (1:Nat)=0 then (0:Int) else Cl n)=Cl n:=rfl
   have h0:=hk1 rfl
   unfold a2o
   rw[if_pos h0]
   refine A3 (j2 d11 e11) ?_
   exact AL (Ad []) Tryz.results306
end
section
open Go.RowKit Go.Shelf
set_option maxRecDepth 10000
theorem a6d {A Φ G' G:Prop}(f:A) (F:Φ) (h:G') (e:A→Φ→G'→G:=by intro f F hh;apply f;(iterate 3 (focus (first | (simp only[go_sem,Nat.reduceEqDiff,Nat.reduceAdd,Nat.reduceSub,Nat.reduceLeDiff,Nat.reduceMul,Nat.reduceBEq,Nat.reduceLT,Int.reduceToNat,reduceCtorEq];first | done | exact rfl | (and_intros<;>rfl)) | exact rfl | decide)));(focus (exact fun op w=>by unfold eqGuard;cases op<;>rfl));(focus (first | (simp only[go_sem,Nat.reduceEqDiff,Nat.reduceAdd,Nat.reduceSub,Nat.reduceLeDiff,Nat.reduceMul,Nat.reduceBEq,Nat.reduceLT,Int.reduceToNat,reduceCtorEq,F];first | done | exact rfl | (and_intros<;>rfl)) | exact rfl | decide));(iterate 3 (focus (first | (simp only[go_sem,Nat.reduceEqDiff,Nat.reduceAdd,Nat.reduceSub,Nat.reduceLeDiff,Nat.reduceMul,Nat.reduceBEq,Nat.reduceLT,Int.reduceToNat,reduceCtorEq];first | done | exact rfl | (and_intros<;>rfl)) | exact rfl | decide)));exact hh):G:=e f F h
variable {o1 o2:Obj}
theorem a0e:AC Tryz.prog 306 [.c (.str ByteArray.empty),.c (.int .i64 16),.c (.int .i64 64)] [] (.tup [.c (.int .u64 0),.c (.raw z7)]) []:=by
 have h1:(ByteArray.empty.toList==ByteArray.empty.toList)=true:=by simp
 refine A5 Tryz.func306 Tryz.ntmps306 ?_
 refine A3 h1 ?_
 refine w4 (Ef Nc) q9 ?_
 refine A3 q9 ?_
 exact AL (Ad []) Tryz.results306
def XO (n:Nat):AV:=if 0≤Cl n then .tup [.c (.int .i64 (Cl n)),.c (.raw .nilIface)] else .tup [.c (.int .i64 0),.c (.raw z7)]
theorem eqT:(Tryz.prog.info? 339).map (·.comparable)=some true:=by kernel_rfl
theorem a5y:Tryz.prog.underlying 339=some (.int .i64):=by kernel_rfl
theorem T0 (n:Nat) (hn:n<256):AC Tryz.prog 290 [.c (.str (CN n)),.c (.int .i64 16),.c (.int .i64 64)] [] (XO n) []:=by
 have h1:=n9 n
 obtain⟨b,hg,hbn⟩:=a4j hn
 have t3:=Tryz.underlying9
 have tq:=a5y
 have hu:=YY n hn
 have hu0:=a0e
 have hemp:(CN n).extract 1 (CN n).size=ByteArray.empty:=rfl
 have hemp2:(CN n).extract 1 1=ByteArray.empty:=rfl
 have l4:((64:Int)==0)=false:=rfl
 have w63:IntKind.i64.wrap (64-1)=63:=rfl
 have v63:IntKind.u64.wrap 63=63:=rfl
 have n21:((2:Int)==1)=false:=rfl
 have bad:∀e43 e45,((n:Int)==43)=e43→((n:Int)==45)=e45→(e43=true∨e45=true)→XO n=.tup [.c (.int .i64 0),.c (.raw z7)]:=by
  intro e43 e45 h3 h5 h
  have hnn:n=43∨n=45:=by
   rcases h with h | h
   ·rw[h]at h3
    have:(n:Int)=43:=by simpa using h3
    omega
   ·rw[h]at h5
    have:(n:Int)=45:=by simpa using h5
    omega
  unfold XO
  rcases hnn with rfl | rfl<;>rfl
 cases h43:((n:Int)==43) with
 |true =>
  rw[bad _ _ h43 rfl (.inl rfl)]
  refine A5 Tryz.func290 Tryz.ntmps290 ?_
  refine A3 (j6 h1 hg hbn h43 hemp hemp2) ?_
  refine w7 (A8 [] hu0) q9 ?_
  refine A3 q9 ?_
  refine w6 (Jb Ec) q9 ?_
  refine A3 q9 ?_
  refine w4 (Ef Nc) q9 ?_
  refine A3 q9 ?_
  refine a6d (Oc Ec eqT tq) n21 ?_
  refine A3 q9 ?_
  exact AL (Ad []) Tryz.results290
 |false=>cases h45:((n:Int)==45) with
  |true =>
   rw[bad _ _ rfl h45 (.inr rfl)]
   refine A5 Tryz.func290 Tryz.ntmps290 ?_
   refine A3 (j7 h1 hg hbn h43 h45 hemp hemp2) ?_
   refine w7 (A8 [] hu0) q9 ?_
   refine A3 q9 ?_
   refine w6 (Jb Ec) q9 ?_
   refine A3 q9 ?_
   refine w4 (Ef Nc) q9 ?_
   refine A3 q9 ?_
   refine a6d (Oc Ec eqT tq) n21 ?_
   refine A3 q9 ?_
   exact AL (Ad []) Tryz.results290
  |false =>
   unfold a2o at hu
   unfold XO
   by_cases hx:0≤Cl n
   ·have hx16:=MP (Int.not_lt.2 hx)
    rw[if_pos hx]at hu ⊢
    generalize Cl n=x at *
    have gc:decide (x≥9223372036854775808)=false:=decide_eq_false (by omega)
    have wx:IntKind.i64.wrap x=x:=Lo (by omega) (by omega)
    refine A5 Tryz.func290 Tryz.ntmps290 ?_
    refine A3 (j5 h1 hg hbn h43 h45) ?_
    refine w7 (A8 [] hu) q9 ?_
    refine A3 q9 ?_
    refine w6 (H5 Ec) q9 ?_
    refine A3 (j3 l4 w63 v63) ?_
    refine w5 (X1 (m:=1) (n:=63) (c:=.int .u64 9223372036854775808) (fun w=>a5i w _) (fun w S=>⟨rfl,rfl⟩) (fun w=>rfl)) q9 ?_
    refine A3 (j2 gc wx) ?_
    exact AL (Ad []) Tryz.results290
   ·rw[if_neg hx]at hu ⊢
    refine A5 Tryz.func290 Tryz.ntmps290 ?_
    refine A3 (j5 h1 hg hbn h43 h45) ?_
    refine w7 (A8 [] hu) q9 ?_
    refine A3 q9 ?_
    refine w6 (Jb Ec) q9 ?_
    refine A3 q9 ?_
    refine w4 (Ef Nc) q9 ?_
    refine A3 q9 ?_
    refine a6d (Oc Ec eqT tq) n21 ?_
    refine A3 q9 ?_
    exact AL (Ad []) Tryz.results290
theorem VH (n:Nat) (hn:n<256) (hx:0≤Cl n):AC Tryz.prog 256 [.c (.str (CN n)),.c (.int .i64 16),.c (.int .i64 64)] [] (.tup [.c (.int .i64 (Cl n)),.c (.raw .nilIface)]) []:=by
 have h:=T0 n hn
 unfold XO at h
 rw[if_pos hx]at h
 refine A5 Tryz.func256 Tryz.ntmps256 ?_
 refine A3 q9 ?_
 refine w7 (A8 [] h) q9 ?_
 refine A3 q9 ?_
 refine w6 (H5 Ec) q9 ?_
 refine A3 q9 ?_
 exact AL (Ad []) Tryz.results256
theorem TJ (n:Nat) (hn:n<256) (hx:¬0≤Cl n):AC Tryz.prog 256 [.c (.str (CN n)),.c (.int .i64 16),.c (.int .i64 64)] (Kv o1 o2) (.tup [.c (.int .i64 0),.own (1,0)]) [((8,1),.gen (D8 o1 o2)),((1,0),.gen Lj)]:=by
 have h:=T0 n hn
 unfold XO at h
 rw[if_neg hx]at h
 have he:=Wg (o1:=o1) (o2:=o2) ⟨#[80,97,114,115,101,73,110,116]⟩ (CN n) (by rw[Pq];omega) 16 64
 refine A5 Tryz.func256 Tryz.ntmps256 ?_
 refine A3 q9 ?_
 refine w7 (A8 [] h) q9 ?_
 refine A3 q9 ?_
 refine w6 (Jb Ec) q9 ?_
 refine A3 q9 ?_
 refine A7 (A0 [((8,1),(8,1))] [((8,1),(8,1)),((1,0),(23,0))] he) q9 ?_
 refine A3 q9 ?_
 exact Ab (Aa [((8,1),(8,1)),((1,0),(23,0))] []) Tryz.results256 h
end
section
open Go.RowKit
set_option maxRecDepth 10000
variable {o1 o2:Obj}
theorem WK (s:ByteArray) (hs:s.size≤1000000) (d:DS) (hd:d.pl≤s.size):AC Tryz.prog 257 [.ptr (0,0) 0] (dsE o1 o2 s d) (.c (.int .i64 (d.hex s).1)) (dsE o1 o2 s (d.hex s).2):=by
 have t3:=Tryz.underlying9
 have hf:=CT s d 5 d.pl
 unfold DS.hex
 obtain⟨pl,code,bad⟩:=d
 simp only at hd hf ⊢
 by_cases hc:code=0
 ·subst hc
  have h00:((0:Int)==0)=true:=rfl
  rw[Kx]at hf
  rw[Kx]
  by_cases hlt:pl<s.size
  ·have hdk:decide ((pl:Int)<(s.size:Int))=true:=decide_eq_true (by omega)
   obtain⟨b,hg,hb⟩:=Ea hlt
   have hw:=AA (k:=pl) (by omega)
   have hsb:s.extract ((pl:Nat):Int).toNat ((pl+1:Nat):Int).toNat=CN (bAt s pl):=a2h hlt
   have hbb:=S5 hlt
   by_cases hx:0≤Cl (bAt s pl)
   ·have hp:=VH (bAt s pl) hbb hx
    have hih:=ZM b.toNat b.toNat_lt
    rw[←hb,decide_eq_true hx]at hih
    have hbn:((b.toNat:Nat):Int)=((bAt s pl:Nat):Int):=by rw[hb]
    rw[if_pos ⟨rfl,hx⟩]
    simp only[BR]
    unfold DS.go
    generalize Cl (bAt s pl)=x at *
    refine A5 Tryz.func257 Tryz.ntmps257 ?_
    refine A3 (j3 h00 hdk hw) ?_
    refine w7 (Rt (y:=CN (bAt s pl)) (i:=(pl:Int)) (j:=((pl+1:Nat):Int)) (s:=s) hsb (by omega) (by omega) (by omega) t3) q9 ?_
    refine A3 q9 ?_
    refine w7 (A8 [] hp) q9 ?_
    refine A3 q9 ?_
    refine w6 (H5 Ec) q9 ?_
    refine A3 (j2 hg hbn) ?_
    refine w7 (A8 [] hih) q9 ?_
    refine A3 hw ?_
    exact Ab (Aa [((0,0),(0,0)),((8,1),(8,1))] []) Tryz.results257 hw
   ·have hp:=TJ (o1:=o1) (o2:=o2) (bAt s pl) hbb hx
    rw[if_neg (fun h=>hx h.2)]
    simp only[BR,AM]at hf ⊢
    refine A5 Tryz.func257 Tryz.ntmps257 ?_
    refine A3 (j3 h00 hdk hw) ?_
    refine w7 (Rt (y:=CN (bAt s pl)) (i:=(pl:Int)) (j:=((pl+1:Nat):Int)) (s:=s) hsb (by omega) (by omega) (by omega) t3) q9 ?_
    refine A3 q9 ?_
    refine A7 (A0 [((8,1),(8,1))] [((8,1),(8,1)),((1,0),(37,0))] hp) q9 ?_
    refine A3 q9 ?_
    refine w7 (TB Ec) q9 ?_
    refine A3 q9 ?_
    refine A7 (A0 [((0,0),(0,0))] [((0,0),(0,0))] hf) q9 ?_
    refine A3 q9 ?_
    exact Ab (Aa [((0,0),(0,0)),((8,1),(8,1))] []) Tryz.results257 hw
  ·have hdk:decide ((pl:Int)<(s.size:Int))=false:=decide_eq_false (by omega)
   rw[if_neg (fun h=>by rw[SY (by omega)]at h;exact absurd h.2 (by decide))]
   simp only[BR,AM]at hf ⊢
   refine A5 Tryz.func257 Tryz.ntmps257 ?_
   refine A3 (j2 h00 hdk) ?_
   refine A7 (A0 [((0,0),(0,0))] [((0,0),(0,0))] hf) q9 ?_
   refine A3 q9 ?_
   exact Ab (Aa [((0,0),(0,0)),((8,1),(8,1))] []) Tryz.results257 hdk
 ·have hcc:(code==0)=false:=by simpa using hc
  rw[E6 (by exact hc)]at hf
  rw[if_neg (fun h=>hc h.1),E6 (by exact hc)]
  simp only[BR,AM]at hf ⊢
  refine A5 Tryz.func257 Tryz.ntmps257 ?_
  refine A3 hcc ?_
  refine A7 (A0 [((0,0),(0,0))] [((0,0),(0,0))] hf) q9 ?_
  refine A3 q9 ?_
  exact Ab (Aa [((0,0),(0,0)),((8,1),(8,1))] []) Tryz.results257 hcc
theorem MQ {s:ByteArray}(d:DS) (hd:d.pl≤s.size):0≤(d.hex s).1∧(d.hex s).1≤15∧d.pl≤(d.hex s).2.pl∧(d.hex s).2.pl≤s.size:=by
 unfold DS.hex
 split
 ·rename_i h
  have hx:=MP (Int.not_lt.2 h.2)
  have hlt:d.pl<s.size:=by
   rcases Nat.lt_or_ge d.pl s.size with h1 | h1
   ·exact h1
   ·rw[SY h1]at h;exact absurd h.2 (by decide)
  exact⟨h.2,hx.2.2.1,Nat.le_succ _,hlt⟩
 ·exact⟨Int.le_refl 0,(by decide:(0:Int)≤15),by rw[DA];exact Nat.le_refl _,by rw[DA];exact hd⟩
def P9 (k:Nat):Nat:=if k=0 then 34 else if k=1 then 92 else 47
theorem a02 (k:Nat):P9 k<256:=by unfold P9;split;omega;split<;>omega
theorem R5 {s:ByteArray}{d:DS}{k:Nat}(hk:k<3) (hn:∀j,j<k→d.is s (P9 j)=false) (hi:d.is s (P9 k)=true):d.escape s=(P9 k,d.go (d.pl+1)):=by
 have:k=0∨k=1∨k=2:=by omega
 unfold DS.escape
 rcases this with rfl | rfl | rfl
 ·rw[if_pos (show d.is s 34=true from hi)];rfl
 ·rw[if_neg (by rw[show d.is s 34=false from hn 0 (by omega)];decide),if_pos (show d.is s 92=true from hi)];rfl
 ·rw[if_neg (by rw[show d.is s 34=false from hn 0 (by omega)];decide),if_neg (by rw[show d.is s 92=false from hn 1 (by omega)];decide),if_pos (show d.is s 47=true from hi)];rfl
theorem SI {s:ByteArray}{d:DS}(hn:∀j,j<3→d.is s (P9 j)=false):d.escape s=(let d1:=d.word s [117,48,48];let h1:=d1.hex s;let h2:=h1.2.hex s;let n:=16*h1.1+h2.1;(n.toNat,if 32≤n∧n≤126 then h2.2 else h2.2.fail 5 d1.pl)):=by
 unfold DS.escape
 rw[if_neg (by rw[show d.is s 34=false from hn 0 (by omega)];decide),if_neg (by rw[show d.is s 92=false from hn 1 (by omega)];decide),if_neg (by rw[show d.is s 47=false from hn 2 (by omega)];decide)]
theorem UR (s:ByteArray) (hs:s.size≤1000000) (d:DS) (hd:d.pl≤s.size):AC Tryz.prog 219 [.ptr (0,0) 0] (dsE o1 o2 s d) (.c (.int .u8 (d.escape s).1)) (dsE o1 o2 s (d.escape s).2):=by
 obtain⟨R,hR⟩:∃R,d.escape s=R:=⟨_,rfl⟩
 rw[hR]
 have hthree:=@R5 s d
 have hmore:=@SI s d
 rw[hR]at hmore
 simp only[hR]at hthree
 have hrows:∀k,k<3→Ae [[C.int .u8 34],[C.int .u8 92],[C.int .u8 47]] 1 ((k:Nat):Int)=true∧([[C.int .u8 34],[C.int .u8 92],[C.int .u8 47]]:List (List C))[k]? = some [.int .u8 (P9 k:Nat)]:=by
  intro k hk
  have:k=0∨k=1∨k=2:=by omega
  rcases this with rfl | rfl | rfl
  ·exact⟨by decide,rfl⟩
  ·exact⟨by decide,rfl⟩
  ·exact⟨by decide,rfl⟩
 simp only[BR]
 refine A5 Tryz.func219 Tryz.ntmps219 ?_
 refine A3 q9 ?_
 refine AZ (κ:=Nat) (fun k=>⟨mkS 0 38 [(0,.ptr (0,0) 0),(2,.c (.int .u8 0)),(7,.own (7,0)),(8,.c (.int .i64 3)),(9,.c (.int .i64 k))],[((0,0),.box [.c (.str s),.c (.int .i64 d.pl),.c (.int .i64 d.code),.c (.int .i64 d.bad)]),((8,1),.gen (D8 o1 o2)),((7,0),.row false 1 5 [[.int .u8 34],[.int .u8 92],[.int .u8 47]])]⟩)
  (fun k=>k≤3∧∀j,j<k→d.is s (P9 j)=false) (fun k=>3-k) 0 ⟨Nat.zero_le _,fun j hj=>absurd hj (by omega)⟩ ?_ ?_
 ·exact As (AH.of [((0,0),(0,0)),((8,1),(8,1)),((7,0),(7,0))] []) q9
 ·rintro k ⟨hk,hn⟩
  by_cases hlt:k<3
  ·have hdk:decide ((k:Int)<3)=true:=decide_eq_true (by omega)
   have hwk:=AA (k:=k) (by omega)
   obtain⟨hr,hg⟩:=hrows k hlt
   have htk:=EG s hs d hd (P9 k) (a02 k)
   cases hi:d.is s (P9 k) with
   |true =>
    have h3:=hthree hlt hn hi
    unfold DS.take at htk
    rw[hi]at htk
    simp only[if_true]at htk
    subst h3
    simp only[AM]at htk ⊢
    generalize d.go (d.pl+1)=d2 at *
    refine A3 (j3 hdk hr hg) ?_
    refine A7 (A0 [((0,0),(0,0))] [((0,0),(0,0))] htk) q9 ?_
    refine A3 q9 ?_
    exact Ab (Aa [((0,0),(0,0)),((8,1),(8,1))] []) Tryz.results219 hdk
   |false =>
    unfold DS.take at htk
    rw[hi]at htk
    simp only[Bool.false_eq_true,if_false,AM]at htk
    refine A3 (j3 hdk hr hg) ?_
    refine A7 (A0 [((0,0),(0,0))] [((0,0),(0,0))] htk) q9 ?_
    refine A3 hwk ?_
    refine⟨k+1,by omega,⟨by omega,fun j hj=>?_⟩,?_⟩
    ·by_cases hjk:j=k
     ·rw[hjk];exact hi
     ·exact hn j (by omega)
    exact As (AH.of [((0,0),(0,0)),((8,1),(8,1)),((7,0),(7,0))] []) hwk
  ·have hdk:decide ((k:Int)<3)=false:=decide_eq_false (by omega)
   have hm:=hmore (fun j hj=>hn j (by omega))
   have hwd:=N1 s hs d hd ⟨#[117,48,48]⟩ (by decide)
   change AC _ _ _ _ _ (dsM s (d.word s [117,48,48]))at hwd
   have hp1:=(L4 (s:=s) (l:=[117,48,48]) (d:=d) (by decide) hd).2
   simp only at hm
   generalize d.word s [117,48,48]=d1 at *
   have hh1:=WK (o1:=o1) (o2:=o2) s hs d1 hp1
   obtain⟨x1,x2,_,hp2⟩:=MQ d1 hp1
   generalize (d1.hex s).1=x at *
   generalize (d1.hex s).2=d2 at *
   have hh2:=WK (o1:=o1) (o2:=o2) s hs d2 hp2
   obtain⟨y1,y2,_,hp3⟩:=MQ d2 hp2
   generalize (d2.hex s).1=y at *
   generalize (d2.hex s).2=d3 at *
   have wp:IntKind.i64.wrap (16*x)=16*x:=Lo (by omega) (by omega)
   have wq:IntKind.i64.wrap (16*x+y)=16*x+y:=Lo (by omega) (by omega)
   have wu:IntKind.u8.wrap (16*x+y)=(((16*x+y).toNat:Nat):Int):=by rw[Qm (by omega) (by omega)];omega
   have hin:=Qr (16*x+y) 32 126
   subst hm
   simp only
   by_cases hok:32≤16*x+y∧16*x+y≤126
   ·have hb1:(decide (16*x+y≥32)&&decide (16*x+y≤126))=true:=by
     simp only[Bool.and_eq_true,decide_eq_true_eq];exact hok
    rw[hb1]at hin
    rw[if_pos hok]
    simp only[AM,BR]at hwd hh1 hh2 ⊢
    refine A3 hdk ?_
    refine A7 (A0 [((0,0),(0,0))] [((0,0),(0,0))] hwd) q9 ?_
    refine A3 q9 ?_
    refine A7 (A0 [((0,0),(0,0)),((8,1),(8,1))] [((0,0),(0,0)),((8,1),(8,1))] hh1) q9 ?_
    refine A3 wp ?_
    refine A7 (A0 [((0,0),(0,0)),((8,1),(8,1))] [((0,0),(0,0)),((8,1),(8,1))] hh2) q9 ?_
    refine A3 wq ?_
    refine w7 (A8 [] hin) q9 ?_
    refine A3 wu ?_
    exact Ab (Aa [((0,0),(0,0)),((8,1),(8,1))] []) Tryz.results219 hdk
   ·have hb1:(decide (16*x+y≥32)&&decide (16*x+y≤126))=false:=by
     rw[Bool.eq_false_iff]
     intro h
     simp only[Bool.and_eq_true,decide_eq_true_eq]at h
     exact hok h
    rw[hb1]at hin
    rw[if_neg hok]
    have hf:=CT s d3 5 d1.pl
    generalize d3.fail 5 d1.pl=d4 at *
    simp only[AM,BR]at hwd hh1 hh2 hf ⊢
    refine A3 hdk ?_
    refine A7 (A0 [((0,0),(0,0))] [((0,0),(0,0))] hwd) q9 ?_
    refine A3 q9 ?_
    refine A7 (A0 [((0,0),(0,0)),((8,1),(8,1))] [((0,0),(0,0)),((8,1),(8,1))] hh1) q9 ?_
    refine A3 wp ?_
    refine A7 (A0 [((0,0),(0,0)),((8,1),(8,1))] [((0,0),(0,0)),((8,1),(8,1))] hh2) q9 ?_
    refine A3 wq ?_
    refine w7 (A8 [] hin) q9 ?_
    refine A3 q9 ?_
    refine A7 (A0 [((0,0),(0,0))] [((0,0),(0,0))] hf) q9 ?_
    refine A3 wu ?_
    exact Ab (Aa [((0,0),(0,0)),((8,1),(8,1))] []) Tryz.results219 hdk
end
end Go.Proofs.YtllfmaflodbieaaGreatDoor
