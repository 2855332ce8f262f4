/- Texts of this proof: R06 R07 R08. -/
import Derived.Test.YtllfmaflodbieaaGreatDoorKR03uR05
set_option linter.all false
set_option maxHeartbeats 8000000
namespace Go.Proofs.YtllfmaflodbieaaGreatDoor
open Go.RowKit
def LA (w : World) (n A B : Nat) (ns any i : Value) (wr : World) : Prop := Below w.heap.size w wr ∧
  ((i = .int .i64 0 ∧ ns = .int .i64 n ∧ any = .bool false) ∨ (i = .int .i64 1 ∧ ns = .int .i64 ((n + A : Nat) : Int) ∧ any = .bool (decide (A ≠ 0))) ∨
   (i = .int .i64 2 ∧ ns = .int .i64 ((n + A + B : Nat) : Int) ∧ any = .bool (decide (A + B ≠ 0))))
def LC (w:World) (l:List UInt8) (nb N:Nat) (j i:Value) (wr:World):Prop:=Below w.heap.size w wr∧∃k,k≤l.length∧i=.int .i64 k∧j=.int .i64 ((AU (l.take k)).length:Nat)∧Blk wr nb 5 (CF l N k).toArray
set_option maxRecDepth 100000 in
theorem Mz (d n e c e' c':Nat) (s:ByteArray) (w:World) (H:BsrCells w d n e c e' c') (hs:s.size≤1000000) :
  Calls Tryz.prog 360 #[.pointer (some ⟨d,0,none⟩),.string s] w fun x w'=>x=.returned (.string ⟨(AU s.data.toList).toArray⟩)∧Below w.heap.size w w':=by
 have q1:=H.tr
 have y92:((⟨#[92]⟩:ByteArray)[0]).toNat=92:=rfl
 have y34:((⟨#[34]⟩:ByteArray)[0]).toNat=34:=rfl
 have hcz:=Sm s.data.toList
 have hsl:s.data.toList.length=s.size:=Array.length_toList
 have h92:=List.count_le_length (a:=(92:UInt8)) (l:=s.data.toList)
 have h34:=List.count_le_length (a:=(34:UInt8)) (l:=s.data.toList)
 have k92:=Si s 92 _ rfl
 have k34:=Si s 34 _ rfl
 rw[hsl]at h92 h34
 generalize s.data.toList.count 92=A at *
 generalize s.data.toList.count 34=B at *
 go_enter Tryz.func360,Tryz.ntmps360
 by_cases h16:16≤s.size
 ·have hd16:decide ((16:Int)≤(s.size:Int))=true:=decide_eq_true (by omega)
  go_wp2
  go_loopw [5,6,32] (fun ns any i wr=>LA w s.size A B ns any i wr) (fun _ _ i _=>2-(intOf i).toNat)
  case atStart=>exact⟨Below.refl _ _,.inl ⟨rfl,rfl,rfl⟩⟩
  case round =>
   obtain⟨hbw,hcase⟩:=hrel
   have Hr:=H.below hbw
   have q2:=Hr.n0
   have q3:=Hr.n1
   have q4:=Hr.c34
   have q5:=Hr.c92
   have Hbw:=Lib.hid hbw
   clear hbw q1
   rcases hcase with⟨rfl,rfl,rfl⟩ | ⟨rfl,rfl,rfl⟩ | ⟨rfl,rfl,rfl⟩
   ·by_cases hA:A=0
    ·have ha:((A:Int) != 0)=false:=by simp[hA]
     go_wp2_with (go_at_call 194;refine (k92 _).mono ?_;rintro e w' ⟨rfl,rfl⟩)
     go_roundw
     case rel=>exact⟨Hbw.out,.inr (.inl ⟨rfl,by simp[hA],by simp[hA]⟩)⟩
     case measure=>simp[intOf]
    ·have ha:((A:Int) != 0)=true:=by simp[hA]
     go_wp2_with (go_at_call 194;refine (k92 _).mono ?_;rintro e w' ⟨rfl,rfl⟩)
     go_region
     go_wp2
     go_roundw
     case rel=>exact⟨Hbw.out.drew,.inr (.inl ⟨rfl,by simp,by simp[hA]⟩)⟩
     case measure=>simp[intOf]
   ·by_cases hB:B=0
    ·have hb:((B:Int) != 0)=false:=by simp[hB]
     go_wp2_with (go_at_call 194;refine (k34 _).mono ?_;rintro e w' ⟨rfl,rfl⟩)
     go_roundw
     case rel=>exact⟨Hbw.out,.inr (.inr ⟨rfl,by simp[hB],by simp[hB]⟩)⟩
     case measure=>simp[intOf]
    ·have hb:((B:Int) != 0)=true:=by simp[hB]
     go_wp2_with (go_at_call 194;refine (k34 _).mono ?_;rintro e w' ⟨rfl,rfl⟩)
     go_region
     go_wp2
     go_roundw
     case rel=>exact⟨Hbw.out.drew,.inr (.inr ⟨rfl,by simp,by simp[hB]⟩)⟩
     case measure=>simp[intOf]
   ·by_cases hz:A+B=0
    ·have hz':decide (A+B≠0)=false:=by simp[hz]
     rw[hz']
     go_wp2
     go_ret
     exact⟨by rw[R4 _ (by omega)];rfl,Hbw.out⟩
    ·have hz':decide (A+B≠0)=true:=decide_eq_true hz
     rw[hz']
     obtain⟨w1,hw1⟩:∃w1,w1=wr:=⟨_,rfl⟩
     subst hw1
     obtain⟨iu,hiu,hiu2⟩:=Option.map_eq_some_iff.1 (show (Tryz.prog.info? 5).map (fun i=>(i.zero,i.size,i.bytes))=some (some (.int .u8 0),1,1) by kernel_rfl)
     simp only[Prod.mk.injEq]at hiu2
     have hmk:=run_makeSlice (P:=Tryz.prog) w1 29 5 iu _ Tryz.underlying29 hiu hiu2.1 .i64 .i64 ((s.size+A+B:Nat):Int) ((s.size+A+B:Nat):Int) (by omega) (Int.le_refl _) (by rw[hiu2.2.1];omega) (by rw[hiu2.2.2];omega) (by omega)
     rw[hiu2.2.1,Int.toNat_natCast,Nat.mul_one,show (Value.int IntKind.u8 0).cells = #[Value.int .u8 0] from rfl,O4]at hmk
     simp only[Int.natCast_add]at hmk
     have hlenN:(AU s.data.toList).length=s.size+A+B:=by rw[Ip,hsl,hcz];omega
     have Hnb:w.heap.size≤w1.heap.size:=Hbw.out.size
     have HB1:Hid (Blk (w1.alloc (.cells (List.replicate (s.size+A+B) (Value.int .u8 0)).toArray 5)) w1.heap.size 5 (CF s.data.toList (s.size+A+B) 0).toArray):=Lib.hid (by rw[Pr];exact Blk.new _ _ _)
     go_wp2
     go_loopw [13,14] (fun j i w2=>LC w s.data.toList w1.heap.size (s.size+A+B) j i w2) (fun _ i _=>s.size-(intOf i).toNat)
     case atStart=>exact⟨Hbw.out.alloc Hnb _,0,Nat.zero_le _,rfl,rfl,HB1.out⟩
     case round =>
      obtain⟨hb2,k,hk,rfl,rfl,hblk⟩:=hrel
      rw[hsl]at hk
      have Hr2:=H.below hb2
      have Hb2:=Lib.hid hb2
      have hfz:=fun i=>hblk.frozen i
      have hble:=Fc s.data.toList (k+1)
      have hcell:=fun i (h:i<s.size+A+B)=>(hblk.cell i).trans (show (CF s.data.toList (s.size+A+B) k).toArray[i]? = some ((CF s.data.toList (s.size+A+B) k)[i]'(by rw[FO (by omega)];exact h)) by rw[List.getElem?_toArray,List.getElem?_eq_getElem])
      have Hblk:=Lib.hid hblk
      clear hblk hb2
      have hnn:=Rp
      by_cases hlt:k<s.size
      ·have hkl:k<s.data.toList.length:=by omega
       have hnext:=L8 hlenN hkl
       have e1:AU (s.data.toList.take (k+1))=AU (s.data.toList.take k)++DD s.data.toList[k]:=by
        rw[IL hkl,Io]
        congr 1
        simp[AU]
       have hsk:s[k]=s.data.toList[k]:=by simp;rfl
       have Hsk:=Lib.hid hsk
       have h256:((s[k].toNat:Nat):Int)<256:=by have:=(s[k]).toNat_lt;omega
       rw[e1,List.length_append]at hble
       by_cases h34:s.data.toList[k]=34
       ·have hb34:s[k].toNat=34:=by rw[hsk,h34];rfl
        have q4:=Hr2.c34
        have hsn:=IK
        have hbl:(DD s.data.toList[k]).length=2:=by rw[h34];rfl
        have hbv:Gh (DD s.data.toList[k])=[.int .u8 92,.int .u8 34]:=by rw[h34];rfl
        rw[hbl,hlenN]at hble
        rw[hbl,hbv]at hnext
        have hlen1:(AU (s.data.toList.take (k+1))).length=(AU (s.data.toList.take k)).length+2:=by rw[e1,List.length_append,hbl]
        have Hl1:=Lib.hid hlen1
        have hcp:=fun ty=>run_copy_row (P:=Tryz.prog) wr.drew 29 29 ty 5 w1.heap.size (AU (s.data.toList.take k)).length (s.size+A+B-(AU (s.data.toList.take k)).length) (s.size+A+B-(AU (s.data.toList.take k)).length) ⟨e',0,none⟩ 2 c' _ 5 [.int .u8 92,.int .u8 34] Tryz.underlying29 (by rw[hiu];simp[hiu2.2.1]) (CA Hblk.out) (by show 2=min 2 _;omega) (fun j v hj=>by
         match j,hj with
         | 0,hj=>cases hj;rw[E3];exact Hr2.e0'
         | 1,hj=>cases hj;rw[E3];exact Hr2.e1') (by show _+2≤(CF s.data.toList (s.size+A+B) k).toArray.size;rw[List.size_toArray,FO (by omega)];omega) (by simp[Value.oneCell'])
        rw[show ([Value.int .u8 92,Value.int .u8 34]:List Value).length=2 from rfl,show (CF s.data.toList (s.size+A+B) k).toArray.toList=CF s.data.toList (s.size+A+B) k by simp,hnext]at hcp
        have hrow:=setRow_heap wr.drew w1.heap.size _ (CF s.data.toList (s.size+A+B) (k+1)).toArray 5 _ (CA Hblk.out)
        have Hrow:=Lib.hid hrow
        have hbe:Below w.heap.size w (wr.drew.setRow w1.heap.size (CF s.data.toList (s.size+A+B) (k+1)).toArray):=below_setRow Hb2.out.drew Hnb _
        have Hbe:=Lib.hid hbe
        clear hlen1 e1 hsk h34 hbl hbv hcell hnext hrow hbe
        generalize (AU (s.data.toList.take k)).length=J at *
        obtain⟨NB,hNB⟩:∃NB,(CF s.data.toList (s.size+A+B) (k+1)).toArray=NB:=⟨_,rfl⟩
        rw[hNB]at hcp Hrow Hbe
        have HNB:=Lib.hid hNB
        clear hNB
        go_wp2
        go_region
        go_wp2
        go_roundw
        case rel=>exact⟨Hbe.out,k+1,by omega,by simp,by rw[Hl1.out];simp,by rw[HNB.out];exact Hrow.out⟩
        case measure=>simp[intOf];omega
       ·by_cases h92:s.data.toList[k]=92
        ·have hb92:s[k].toNat=92:=by rw[hsk,h92];rfl
         have q4:=Hr2.c92
         have hsn:=IK
         have hbl:(DD s.data.toList[k]).length=2:=by rw[h92];rfl
         have hbv:Gh (DD s.data.toList[k])=[.int .u8 92,.int .u8 92]:=by rw[h92];rfl
         rw[hbl,hlenN]at hble
         rw[hbl,hbv]at hnext
         have hlen1:(AU (s.data.toList.take (k+1))).length=(AU (s.data.toList.take k)).length+2:=by rw[e1,List.length_append,hbl]
         have Hl1:=Lib.hid hlen1
         have hcp:=fun ty=>run_copy_row (P:=Tryz.prog) wr.drew 29 29 ty 5 w1.heap.size (AU (s.data.toList.take k)).length (s.size+A+B-(AU (s.data.toList.take k)).length) (s.size+A+B-(AU (s.data.toList.take k)).length) ⟨e,0,none⟩ 2 c _ 5 [.int .u8 92,.int .u8 92] Tryz.underlying29 (by rw[hiu];simp[hiu2.2.1]) (CA Hblk.out) (by show 2=min 2 _;omega) (fun j v hj=>by
          match j,hj with
          | 0,hj=>cases hj;rw[E3];exact Hr2.e0
          | 1,hj=>cases hj;rw[E3];exact Hr2.e1) (by show _+2≤(CF s.data.toList (s.size+A+B) k).toArray.size;rw[List.size_toArray,FO (by omega)];omega) (by simp[Value.oneCell'])
         rw[show ([Value.int .u8 92,Value.int .u8 92]:List Value).length=2 from rfl,show (CF s.data.toList (s.size+A+B) k).toArray.toList=CF s.data.toList (s.size+A+B) k by simp,hnext]at hcp
         have hrow:=setRow_heap wr.drew w1.heap.size _ (CF s.data.toList (s.size+A+B) (k+1)).toArray 5 _ (CA Hblk.out)
         have Hrow:=Lib.hid hrow
         have hbe:Below w.heap.size w (wr.drew.setRow w1.heap.size (CF s.data.toList (s.size+A+B) (k+1)).toArray):=below_setRow Hb2.out.drew Hnb _
         have Hbe:=Lib.hid hbe
         clear hlen1 e1 hsk h92 hbl hbv hcell hnext hrow hbe
         generalize (AU (s.data.toList.take k)).length=J at *
         obtain⟨NB,hNB⟩:∃NB,(CF s.data.toList (s.size+A+B) (k+1)).toArray=NB:=⟨_,rfl⟩
         rw[hNB]at hcp Hrow Hbe
         have HNB:=Lib.hid hNB
         clear hNB
         go_wp2
         go_region
         go_wp2
         go_roundw
         case rel=>exact⟨Hbe.out,k+1,by omega,by simp,by rw[Hl1.out];simp,by rw[HNB.out];exact Hrow.out⟩
         case measure=>simp[intOf];omega
        ·have hnl:=Hr2.else_ (s[k].toNat) (by omega) (fun h=>h34 (by rw[←hsk];exact UInt8.toNat_inj.1 h)) (fun h=>h92 (by rw[←hsk];exact UInt8.toNat_inj.1 h))
         have hset:=Sa hlenN hkl h34 h92
         have hbl:(DD s.data.toList[k]).length=1:=by unfold DD;rw[if_neg h34,if_neg h92];rfl
         rw[hbl,hlenN]at hble
         obtain⟨x0,hc1⟩:∃x0,wr.cell? ⟨_,(AU (s.data.toList.take k)).length,none⟩=some x0:=⟨_,hcell _ (show (AU (s.data.toList.take k)).length<s.size+A+B by omega)⟩
         have hf1:=hfz (AU (s.data.toList.take k)).length
         clear hcell hfz hnext
         have hlen1:(AU (s.data.toList.take (k+1))).length=(AU (s.data.toList.take k)).length+1:=by rw[e1,List.length_append,hbl]
         have Hset:=Lib.hid hset
         have Hl1:=Lib.hid hlen1
         have H34:=Lib.hid h34
         have H92:=Lib.hid h92
         clear hset hlen1 e1 hsk h34 h92 hbl
         generalize (AU (s.data.toList.take k)).length=J at *
         go_wp2
         go_roundw
         case rel =>
          refine⟨Hb2.out.setCell Hnb _,k+1,by omega,by simp,by rw[Hl1.out];simp,?_⟩
          have:=Hblk.out.set_ J (.int .u8 (s.data.toList[k].toNat:Int))
          rw[Hset.out,←Hsk.out]at this
          exact this
         case measure=>simp[intOf];omega
      ·have hke:k=s.size:=by omega
       have hall:CF s.data.toList (s.size+A+B) k=Gh (AU s.data.toList):=by
        unfold CF
        rw[hke,←hsl,List.take_length,hlenN,hsl,Nat.sub_self,List.replicate_zero,List.append_nil]
       have hcv:=run_convert_bytes_back (P:=Tryz.prog) wr 29 9 5 ⟨w1.heap.size,0,none⟩ (s.size+A+B) (AU s.data.toList) Tryz.underlying29 Tryz.underlying5 Tryz.underlying9 (fun j hj=>by
        have h1:=Hblk.out.cell j
        rw[hall]at h1
        simp[Gh,hj]at h1
        rw[E3]
        exact h1)
       rw[hlenN]at hcv
       clear hcell hfz
       go_wp2
       go_ret
       exact⟨rfl,Hb2.out⟩
 ·have hd16:decide ((16:Int)≤(s.size:Int))=false:=decide_eq_false (by omega)
  have Hbw:=Lib.hid (Below.refl w.heap.size w)
  have q4:=H.c34
  have q5:=H.c92
  have Hr:=H
  have hnn:=Rp
  have hsn:=IK
  go_wp2
  go_loop [5,6,10] (fun ns any i=>∃k,k≤s.size∧i=.int .i64 k∧ns=.int .i64 ((s.size+cz (s.data.toList.take k):Nat):Int)∧any=.bool (decide (cz (s.data.toList.take k)≠0))) (fun _ _ i=>s.size-(intOf i).toNat)
  case atStart=>exact⟨0,Nat.zero_le _,rfl,by simp[cz],by simp[cz]⟩
  case round =>
   obtain⟨k,hk,rfl,rfl,rfl⟩:=hrel
   by_cases hlt:k<s.size
   ·have hkl:k<s.data.toList.length:=by omega
    have hz1:cz (s.data.toList.take (k+1))=cz (s.data.toList.take k)+if spB s.data.toList[k] then 1 else 0:=by rw[IL hkl,QJ,QK]
    have hzl:cz (s.data.toList.take k)≤s.size:=by unfold cz;have:=List.length_filter_le spB (s.data.toList.take k);rw[List.length_take]at this;omega
    have hsk:s[k]=s.data.toList[k]:=by simp;rfl
    have Hsk:=Lib.hid hsk
    have h256:((s[k].toNat:Nat):Int)<256:=by have:=(s[k]).toNat_lt;omega
    by_cases h34:s.data.toList[k]=34
    ·have hb34:s[k].toNat=34:=by rw[hsk,h34];rfl
     rw[if_pos (by rw[h34];rfl)]at hz1
     have Hz1:=Lib.hid hz1
     clear hz1 hsk h34
     generalize cz (s.data.toList.take k)=Z at *
     go_wp2
     go_round
     case rel=>exact⟨k+1,by omega,by simp,by rw[Hz1.out];simp;omega,by rw[Hz1.out];simp⟩
     case measure=>simp[intOf];omega
    ·by_cases h92:s.data.toList[k]=92
     ·have hb92:s[k].toNat=92:=by rw[hsk,h92];rfl
      rw[if_pos (by rw[h92];rfl)]at hz1
      have Hz1:=Lib.hid hz1
      clear hz1 hsk h34 h92
      generalize cz (s.data.toList.take k)=Z at *
      go_wp2
      go_round
      case rel=>exact⟨k+1,by omega,by simp,by rw[Hz1.out];simp;omega,by rw[Hz1.out];simp⟩
      case measure=>simp[intOf];omega
     ·have hnl:=H.else_ (s[k].toNat) (by omega) (fun h=>h34 (by rw[←hsk];exact UInt8.toNat_inj.1 h)) (fun h=>h92 (by rw[←hsk];exact UInt8.toNat_inj.1 h))
      rw[if_neg (by unfold spB;rw[beq_eq_false_iff_ne.2 h34,beq_eq_false_iff_ne.2 h92];decide)]at hz1
      have Hz1:=Lib.hid hz1
      clear hz1 hsk h34 h92
      generalize cz (s.data.toList.take k)=Z at *
      go_wp2
      go_round
      case rel=>exact⟨k+1,by omega,by simp,by rw[Hz1.out,Nat.add_zero],by rw[Hz1.out,Nat.add_zero]⟩
      case measure=>simp[intOf];omega
   ·have hke:k=s.size:=by omega
    have htk:s.data.toList.take k=s.data.toList:=List.take_of_length_le (by omega)
    rw[htk,hcz,←Nat.add_assoc]
    by_cases hz:A+B=0
    ·have hz':decide (A+B≠0)=false:=by simp[hz]
     rw[hz']
     go_wp2
     go_ret
     exact⟨by rw[R4 _ (by omega)];rfl,Below.refl _ _⟩
    ·have hz':decide (A+B≠0)=true:=decide_eq_true hz
     rw[hz']
     clear htk
     obtain⟨iu,hiu,hiu2⟩:=Option.map_eq_some_iff.1 (show (Tryz.prog.info? 5).map (fun i=>(i.zero,i.size,i.bytes))=some (some (.int .u8 0),1,1) by kernel_rfl)
     simp only[Prod.mk.injEq]at hiu2
     have hmk:=run_makeSlice (P:=Tryz.prog) w 29 5 iu _ Tryz.underlying29 hiu hiu2.1 .i64 .i64 ((s.size+A+B:Nat):Int) ((s.size+A+B:Nat):Int) (by omega) (Int.le_refl _) (by rw[hiu2.2.1];omega) (by rw[hiu2.2.2];omega) (by omega)
     rw[hiu2.2.1,Int.toNat_natCast,Nat.mul_one,show (Value.int IntKind.u8 0).cells = #[Value.int .u8 0] from rfl,O4]at hmk
     simp only[Int.natCast_add]at hmk
     have hlenN:(AU s.data.toList).length=s.size+A+B:=by rw[Ip,hsl,hcz];omega
     have Hnb:w.heap.size≤w.heap.size:=Hbw.out.size
     have HB1:Hid (Blk (w.alloc (.cells (List.replicate (s.size+A+B) (Value.int .u8 0)).toArray 5)) w.heap.size 5 (CF s.data.toList (s.size+A+B) 0).toArray):=Lib.hid (by rw[Pr];exact Blk.new _ _ _)
     go_wp2
     go_loopw [13,14] (fun j i w2=>LC w s.data.toList w.heap.size (s.size+A+B) j i w2) (fun _ i _=>s.size-(intOf i).toNat)
     case atStart=>exact⟨Hbw.out.alloc Hnb _,0,Nat.zero_le _,rfl,rfl,HB1.out⟩
     case round =>
      obtain⟨hb2,k,hk,rfl,rfl,hblk⟩:=hrel
      rw[hsl]at hk
      have Hr2:=H.below hb2
      have Hb2:=Lib.hid hb2
      have hfz:=fun i=>hblk.frozen i
      have hble:=Fc s.data.toList (k+1)
      have hcell:=fun i (h:i<s.size+A+B)=>(hblk.cell i).trans (show (CF s.data.toList (s.size+A+B) k).toArray[i]? = some ((CF s.data.toList (s.size+A+B) k)[i]'(by rw[FO (by omega)];exact h)) by rw[List.getElem?_toArray,List.getElem?_eq_getElem])
      have Hblk:=Lib.hid hblk
      clear hblk hb2
      have hnn:=Rp
      by_cases hlt:k<s.size
      ·have hkl:k<s.data.toList.length:=by omega
       have hnext:=L8 hlenN hkl
       have e1:AU (s.data.toList.take (k+1))=AU (s.data.toList.take k)++DD s.data.toList[k]:=by
        rw[IL hkl,Io]
        congr 1
        simp[AU]
       have hsk:s[k]=s.data.toList[k]:=by simp;rfl
       have Hsk:=Lib.hid hsk
       have h256:((s[k].toNat:Nat):Int)<256:=by have:=(s[k]).toNat_lt;omega
       rw[e1,List.length_append]at hble
       by_cases h34:s.data.toList[k]=34
       ·have hb34:s[k].toNat=34:=by rw[hsk,h34];rfl
        have q4:=Hr2.c34
        have hsn:=IK
        have hbl:(DD s.data.toList[k]).length=2:=by rw[h34];rfl
        have hbv:Gh (DD s.data.toList[k])=[.int .u8 92,.int .u8 34]:=by rw[h34];rfl
        rw[hbl,hlenN]at hble
        rw[hbl,hbv]at hnext
        have hlen1:(AU (s.data.toList.take (k+1))).length=(AU (s.data.toList.take k)).length+2:=by rw[e1,List.length_append,hbl]
        have Hl1:=Lib.hid hlen1
        have hcp:=fun ty=>run_copy_row (P:=Tryz.prog) wr.drew 29 29 ty 5 w.heap.size (AU (s.data.toList.take k)).length (s.size+A+B-(AU (s.data.toList.take k)).length) (s.size+A+B-(AU (s.data.toList.take k)).length) ⟨e',0,none⟩ 2 c' _ 5 [.int .u8 92,.int .u8 34] Tryz.underlying29 (by rw[hiu];simp[hiu2.2.1]) (CA Hblk.out) (by show 2=min 2 _;omega) (fun j v hj=>by
         match j,hj with
         | 0,hj=>cases hj;rw[E3];exact Hr2.e0'
         | 1,hj=>cases hj;rw[E3];exact Hr2.e1') (by show _+2≤(CF s.data.toList (s.size+A+B) k).toArray.size;rw[List.size_toArray,FO (by omega)];omega) (by simp[Value.oneCell'])
        rw[show ([Value.int .u8 92,Value.int .u8 34]:List Value).length=2 from rfl,show (CF s.data.toList (s.size+A+B) k).toArray.toList=CF s.data.toList (s.size+A+B) k by simp,hnext]at hcp
        have hrow:=setRow_heap wr.drew w.heap.size _ (CF s.data.toList (s.size+A+B) (k+1)).toArray 5 _ (CA Hblk.out)
        have Hrow:=Lib.hid hrow
        have hbe:Below w.heap.size w (wr.drew.setRow w.heap.size (CF s.data.toList (s.size+A+B) (k+1)).toArray):=below_setRow Hb2.out.drew Hnb _
        have Hbe:=Lib.hid hbe
        clear hlen1 e1 hsk h34 hbl hbv hcell hnext hrow hbe
        generalize (AU (s.data.toList.take k)).length=J at *
        obtain⟨NB,hNB⟩:∃NB,(CF s.data.toList (s.size+A+B) (k+1)).toArray=NB:=⟨_,rfl⟩
        rw[hNB]at hcp Hrow Hbe
        have HNB:=Lib.hid hNB
        clear hNB
        go_wp2
        go_region
        go_wp2
        go_roundw
        case rel=>exact⟨Hbe.out,k+1,by omega,by simp,by rw[Hl1.out];simp,by rw[HNB.out];exact Hrow.out⟩
        case measure=>simp[intOf];omega
       ·by_cases h92:s.data.toList[k]=92
        ·have hb92:s[k].toNat=92:=by rw[hsk,h92];rfl
         have q4:=Hr2.c92
         have hsn:=IK
         have hbl:(DD s.data.toList[k]).length=2:=by rw[h92];rfl
         have hbv:Gh (DD s.data.toList[k])=[.int .u8 92,.int .u8 92]:=by rw[h92];rfl
         rw[hbl,hlenN]at hble
         rw[hbl,hbv]at hnext
         have hlen1:(AU (s.data.toList.take (k+1))).length=(AU (s.data.toList.take k)).length+2:=by rw[e1,List.length_append,hbl]
         have Hl1:=Lib.hid hlen1
         have hcp:=fun ty=>run_copy_row (P:=Tryz.prog) wr.drew 29 29 ty 5 w.heap.size (AU (s.data.toList.take k)).length (s.size+A+B-(AU (s.data.toList.take k)).length) (s.size+A+B-(AU (s.data.toList.take k)).length) ⟨e,0,none⟩ 2 c _ 5 [.int .u8 92,.int .u8 92] Tryz.underlying29 (by rw[hiu];simp[hiu2.2.1]) (CA Hblk.out) (by show 2=min 2 _;omega) (fun j v hj=>by
          match j,hj with
          | 0,hj=>cases hj;rw[E3];exact Hr2.e0
          | 1,hj=>cases hj;rw[E3];exact Hr2.e1) (by show _+2≤(CF s.data.toList (s.size+A+B) k).toArray.size;rw[List.size_toArray,FO (by omega)];omega) (by simp[Value.oneCell'])
         rw[show ([Value.int .u8 92,Value.int .u8 92]:List Value).length=2 from rfl,show (CF s.data.toList (s.size+A+B) k).toArray.toList=CF s.data.toList (s.size+A+B) k by simp,hnext]at hcp
         have hrow:=setRow_heap wr.drew w.heap.size _ (CF s.data.toList (s.size+A+B) (k+1)).toArray 5 _ (CA Hblk.out)
         have Hrow:=Lib.hid hrow
         have hbe:Below w.heap.size w (wr.drew.setRow w.heap.size (CF s.data.toList (s.size+A+B) (k+1)).toArray):=below_setRow Hb2.out.drew Hnb _
         have Hbe:=Lib.hid hbe
         clear hlen1 e1 hsk h92 hbl hbv hcell hnext hrow hbe
         generalize (AU (s.data.toList.take k)).length=J at *
         obtain⟨NB,hNB⟩:∃NB,(CF s.data.toList (s.size+A+B) (k+1)).toArray=NB:=⟨_,rfl⟩
         rw[hNB]at hcp Hrow Hbe
         have HNB:=Lib.hid hNB
         clear hNB
         go_wp2
         go_region
         go_wp2
         go_roundw
         case rel=>exact⟨Hbe.out,k+1,by omega,by simp,by rw[Hl1.out];simp,by rw[HNB.out];exact Hrow.out⟩
         case measure=>simp[intOf];omega
        ·have hnl:=Hr2.else_ (s[k].toNat) (by omega) (fun h=>h34 (by rw[←hsk];exact UInt8.toNat_inj.1 h)) (fun h=>h92 (by rw[←hsk];exact UInt8.toNat_inj.1 h))
         have hset:=Sa hlenN hkl h34 h92
         have hbl:(DD s.data.toList[k]).length=1:=by unfold DD;rw[if_neg h34,if_neg h92];rfl
         rw[hbl,hlenN]at hble
         obtain⟨x0,hc1⟩:∃x0,wr.cell? ⟨_,(AU (s.data.toList.take k)).length,none⟩=some x0:=⟨_,hcell _ (show (AU (s.data.toList.take k)).length<s.size+A+B by omega)⟩
         have hf1:=hfz (AU (s.data.toList.take k)).length
         clear hcell hfz hnext
         have hlen1:(AU (s.data.toList.take (k+1))).length=(AU (s.data.toList.take k)).length+1:=by rw[e1,List.length_append,hbl]
         have Hset:=Lib.hid hset
         have Hl1:=Lib.hid hlen1
         have H34:=Lib.hid h34
         have H92:=Lib.hid h92
         clear hset hlen1 e1 hsk h34 h92 hbl
         generalize (AU (s.data.toList.take k)).length=J at *
         go_wp2
         go_roundw
         case rel =>
          refine⟨Hb2.out.setCell Hnb _,k+1,by omega,by simp,by rw[Hl1.out];simp,?_⟩
          have:=Hblk.out.set_ J (.int .u8 (s.data.toList[k].toNat:Int))
          rw[Hset.out,←Hsk.out]at this
          exact this
         case measure=>simp[intOf];omega
      ·have hke:k=s.size:=by omega
       have hall:CF s.data.toList (s.size+A+B) k=Gh (AU s.data.toList):=by
        unfold CF
        rw[hke,←hsl,List.take_length,hlenN,hsl,Nat.sub_self,List.replicate_zero,List.append_nil]
       have hcv:=run_convert_bytes_back (P:=Tryz.prog) wr 29 9 5 ⟨w.heap.size,0,none⟩ (s.size+A+B) (AU s.data.toList) Tryz.underlying29 Tryz.underlying5 Tryz.underlying9 (fun j hj=>by
        have h1:=Hblk.out.cell j
        rw[hall]at h1
        simp[Gh,hj]at h1
        rw[E3]
        exact h1)
       rw[hlenN]at hcv
       clear hcell hfz
       go_wp2
       go_ret
       exact⟨rfl,Hb2.out⟩
theorem Y4 (fuel : Nat) (p : Option Addr) (W : World) : (method (fuel + 1) 314 (.pointer p) "Replace").run Tryz.prog W = .ok (360, .pointer p) W := by
 obtain ⟨i, hi, hi2⟩ := Option.map_eq_some_iff.1 (show (Tryz.prog.info? 314).map (fun i => (i.methods.find? (·.name == "Replace")).map fun m => (m.path.toList.length, m.func)) = some (some (0, some (360, true))) by kernel_rfl)
 obtain⟨m,hm,hm2⟩:=Option.map_eq_some_iff.1 hi2
 simp only[Prod.mk.injEq,List.length_eq_zero_iff]at hm2
 have hu:=Tryz.underlying314
 simp[method,typeInfo,hi,hm,hm2.1,hm2.2,follow,receiverAt,run_underlying hu,Place.get]
set_option maxRecDepth 100000 in
theorem RJ (b g c:Nat) (s:ByteArray) (hs:s.size≤1000000) (w:World) (x3:Value) (hbl:b<w.heap.size)
  (h0:w.cell? ⟨b,0,none⟩=some (.int .u32 0)) (h1:w.cell? ⟨b,1,none⟩=some (.int .i32 0)) (f0:w.frozen? ⟨b,0,none⟩=false) (f1:w.frozen? ⟨b,1,none⟩=false)
  (hb3:w.cell? ⟨b,3,none⟩=some x3) (f3:w.frozen? ⟨b,3,none⟩=false) (hb4:w.cell? ⟨b,4,none⟩=some (.slice (some ⟨g,0,none⟩) 4 c)) (f4:w.frozen? ⟨b,4,none⟩=false)
  (hg:g<w.heap.size) (hgb:g≠b) (s0:w.cell? ⟨g,0,none⟩=some (.string ⟨#[34]⟩)) (s1:w.cell? ⟨g,1,none⟩=some (.string ⟨#[92,34]⟩)) (s2:w.cell? ⟨g,2,none⟩=some (.string ⟨#[92]⟩)) (s3:w.cell? ⟨g,3,none⟩=some (.string ⟨#[92,92]⟩)) :
  Calls Tryz.prog 164 #[.pointer (some ⟨b,0,none⟩),.string s] w fun x w'=>x=.returned (.string ⟨(AU s.data.toList).toArray⟩)∧Below b w w':=by
 have hmf:∀(fn:Fn) (first cap:Array Value) (w:World),(Instr.makeFunc fn first cap).run Tryz.prog w=.ok (.func fn first cap) w:=fun _ _ _ _=>rfl
 have hbo:=N8 b g c (w.setCell ⟨b,1,none⟩ (.int .i32 1)) x3 (by simpa [World.setCell] using hbl) ((World.cell?_setCell_other _ ⟨b,1,none⟩ ⟨b,3,none⟩ _ (by simp)).trans hb3) (by simp[f3]) ((World.cell?_setCell_other _ ⟨b,1,none⟩ ⟨b,4,none⟩ _ (by simp)).trans hb4) (by simp[f4]) (by simpa [World.setCell] using hg)
  ((World.cell?_setCell_other _ ⟨b,1,none⟩ ⟨g,0,none⟩ _ (by simp[Ne.symm hgb])).trans s0) ((World.cell?_setCell_other _ ⟨b,1,none⟩ ⟨g,1,none⟩ _ (by simp[Ne.symm hgb])).trans s1) ((World.cell?_setCell_other _ ⟨b,1,none⟩ ⟨g,2,none⟩ _ (by simp[Ne.symm hgb])).trans s2) ((World.cell?_setCell_other _ ⟨b,1,none⟩ ⟨g,3,none⟩ _ (by simp[Ne.symm hgb])).trans s3)
 have hdo:=a1y b (.pointer (some ⟨b,0,none⟩)) w _ h0 h1 f0 f1 hbo
 clear hbo
 go_enter Tryz.func164,Tryz.ntmps164
 have hme:=fun fuel p W=>Y4 fuel p W
 go_wp2_with (go_at_call 209;refine hdo.mono ?_;rintro e w2 ⟨rfl,w1,hk,⟨hbw,hsz,hc3,hB⟩,rfl⟩)
 have hms:b<(w.setCell ⟨b,1,none⟩ (.int .i32 1)).heap.size:=by simpa [World.setCell] using hbl
 have hB2:=((hB.setCell (p:=⟨b,0,none⟩) hms (.int .u32 1)).setCell (p:=⟨b,1,none⟩) hms (.int .i32 0)).drew
 rw[show (w.setCell ⟨b,1,none⟩ (.int .i32 1)).heap.size=w.heap.size by simp[World.setCell]]at hB2
 obtain⟨n,e,ce,e',ce',HC⟩:=hB2.cells
 have hlow:Below b w (((w1.setCell ⟨b,0,none⟩ (.int .u32 1)).setCell ⟨b,1,none⟩ (.int .i32 0)).drew) :=
  ((((Below.refl b w).setCell (p:=⟨b,1,none⟩) (Nat.le_refl _) _).trans hbw).setCell (p:=⟨b,0,none⟩) (Nat.le_refl _) _ |>.setCell (p:=⟨b,1,none⟩) (Nat.le_refl _) _).drew
 have hbsz:b≤(((w1.setCell ⟨b,0,none⟩ (.int .u32 1)).setCell ⟨b,1,none⟩ (.int .i32 0)).drew).heap.size:=Nat.le_trans (Nat.le_of_lt hbl) hlow.size
 go_wp2_with (go_at_call 360;refine (Mz _ n e ce e' ce' s _ HC hs).mono ?_;rintro q w3 ⟨rfl,hb3⟩)
 go_ret
 exact⟨rfl,hlow.trans (hb3.mono hbsz)⟩
set_option maxRecDepth 100000 in
theorem Lz (v0:Nat) (w:World) (hv:Blk w v0 9 #[txt #[34],txt #[92,34],txt #[92],txt #[92,92]]) :
  Calls Tryz.prog 163 #[Fp v0 4 4] w fun x w'=>∃b g c,x=.returned (.pointer (some ⟨b,0,none⟩))∧Below w.heap.size w w'∧w.heap.size≤b∧b<w'.heap.size∧g<w'.heap.size∧g≠b ∧
   Blk w' b 245 #[.int .u32 0,.int .i32 0,.int .u32 0,.nilIface,Fp g 4 c]∧w'.cell? ⟨g,0,none⟩=some (txt #[34])∧w'.cell? ⟨g,1,none⟩=some (txt #[92,34])∧w'.cell? ⟨g,2,none⟩=some (txt #[92])∧w'.cell? ⟨g,3,none⟩=some (txt #[92,92]):=by
 have c0:=hv.cell 0
 have c1:=hv.cell 1
 have c2:=hv.cell 2
 have c3:=hv.cell 3
 go_enter Tryz.func163,Tryz.ntmps163
 go_wp2
 go_ret
 have hx:∀(C:Array Value) (j:Nat),j<4→((#[txt #[34],txt #[92,34],txt #[92],txt #[92,92]]:Array Value)++C)[j]? = (#[txt #[34],txt #[92,34],txt #[92],txt #[92,92]]:Array Value)[j]?:=fun C j hj=>Array.getElem?_append_left (by simpa using hj)
 have hG:=fun (C:Array Value) (o:Obj)=>(Blk.new w 9 ((#[txt #[34],txt #[92,34],txt #[92],txt #[92,92]]:Array Value)++C)).alloc o
 refine⟨w.heap.size+1,w.heap.size,(Question.appendCap 4 0 9).cut (w.tape w.drawn (Question.appendCap 4 0 9)),rfl,(((Below.refl _ _).alloc (Nat.le_refl _) _).alloc (by simp) _).drew,by omega,by simp,by simp;omega,by omega,CA ?_,?_,?_,?_,?_⟩
 ·have h1:=fun (o:Obj) (cs:Array Value)=>Blk.new (w.alloc o) 245 cs
  simp only[World.size_alloc]at h1
  exact h1 _ _
 ·exact ((CA (hG _ _)).cell 0).trans (hx _ 0 (by decide))
 ·exact ((CA (hG _ _)).cell 1).trans (hx _ 1 (by decide))
 ·exact ((CA (hG _ _)).cell 2).trans (hx _ 2 (by decide))
 ·exact ((CA (hG _ _)).cell 3).trans (hx _ 3 (by decide))
def Dp (s:ByteArray):ByteArray:=⟨#[34]⟩++⟨(AU s.data.toList).toArray⟩++⟨#[34]⟩
set_option maxRecDepth 100000 in
theorem Kt (s:ByteArray) (hs:s.size≤1000000) (w:World) :
  Calls Tryz.prog 108 #[.string s] w fun x w'=>x=.returned (.string (Dp s))∧Below w.heap.size w w':=by
 have hesz:(AU s.data.toList).length≤2000000:=by
  have h1:=Ip s.data.toList
  have h2:cz s.data.toList≤s.data.toList.length:=List.length_filter_le _ _
  have h3:s.data.toList.length=s.size:=Array.length_toList
  omega
 go_enter Tryz.func108,Tryz.ntmps108
 go_wp2_with (first
  | (go_at_call 163;refine (Lz w.heap.size _ (Blk.new w 9 #[txt #[34],txt #[92,34],txt #[92],txt #[92,92]])).mono ?_;rintro e w1 ⟨b,g,c,rfl,hb,hbl,hbs,hgs,hgb,hB,g0,g1,g2,g3⟩;have Hb:=Lib.hid hb;clear hb)
  | (go_at_call 164;refine (RJ b g c s hs _ .nilIface hbs (hB.cell 0) (hB.cell 1) (hB.frozen 0) (hB.frozen 1) (hB.cell 3) (hB.frozen 3) (hB.cell 4) (hB.frozen 4) hgs hgb g0 g1 g2 g3).mono ?_;rintro q w2 ⟨rfl,hb2⟩;have Hb2:=Lib.hid hb2;clear hb2))
 go_ret
 have h1:Below w.heap.size (w.alloc (.cells #[txt #[34],txt #[92,34],txt #[92],txt #[92,92]] 9)) w1:=Hb.out.mono (by simp)
 have hbl':w.heap.size≤b:=by simp at hbl;omega
 exact⟨rfl,(((Below.refl _ w).alloc (Nat.le_refl _) _).trans h1).trans (Hb2.out.mono hbl')⟩
end Go.Proofs.YtllfmaflodbieaaGreatDoor
