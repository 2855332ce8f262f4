/- Texts of this proof: D24 D28 M55 D29 D35 D36 D38. -/
import Derived.Test.YtllfmaflodbieaaGreatDoorKG69uD23
import Derived.Lib.SplitLaws
import Derived.Lib.IndexBytes
import Derived.Shelf.Strings.Split
set_option linter.all false
set_option maxHeartbeats 8000000
namespace Go.Proofs.YtllfmaflodbieaaGreatDoor
section
open Go.RowKit
set_option maxRecDepth 10000
variable {o1 o2:Obj}
theorem RL (s:ByteArray) (hs:s.size≤9000000000000000000) {c:Int×Nat}(h:Kw s=(c,none)):AC Tryz.prog 62 [.c (.str s)] (MD o1 o2) (.tup [noV,.c (.int .i64 c.1),.c (.int .i64 c.2)]) (MD o1 o2):=by
 unfold Kw at h
 unfold noV
 by_cases h4:4000<s.size
 ·have g4:decide ((s.size:Int)>4000)=true:=decide_eq_true (by omega)
  rw[if_pos h4]at h
  cases h
  refine JI Tryz.func62 Tryz.ntmps62 ?_
  refine JV g4 ?_
  exact JJ (JN [((8,1),(8,1))] []) Tryz.results62 (j3 g4 @Int.natCast_zero @Int.cast_ofNat_Int)
 ·have g4:decide ((s.size:Int)>4000)=false:=decide_eq_false (by omega)
  rw[if_neg h4]at h
  have hv:=OO (o1:=o1) (o2:=o2) s (by omega) 20 1 rfl ⟨0,0,0⟩ (Nat.zero_le _)
  have hin:=(Oo (s:=s) 20 ⟨0,0,0⟩ (Nat.zero_le _)).2
  have hag:=MC (s:=s) 20 0 (Nat.zero_le _)
  have hf:=Lh (s:=s) 20 (Io s 0) (Ks (Nat.zero_le _)).2.1
  cases hR:LE 20 s (Io s 0) with
  |bad c' p =>
   rw[hR]at h hag hf
   simp only at h
   cases h
   obtain⟨a1,a2⟩:=hag
   have hc0:=LD hf.1
   have hsk:=LN s (by omega) (DS.value s 20 ⟨0,0,0⟩).2 hin
   have hsc:=Kd (s:=s) (DS.value s 20 ⟨0,0,0⟩).2
   have hsb:=SQ (s:=s) (DS.value s 20 ⟨0,0,0⟩).2
   have hff:=KO s ((DS.value s 20 ⟨0,0,0⟩).2.skip s) 5 ((DS.value s 20 ⟨0,0,0⟩).2.skip s).pl
   rw[Lr (by rw[hsc,a1];exact hc0)]at hff
   rw[a1]at hsc
   rw[a2]at hsb
   generalize (DS.value s 20 ⟨0,0,0⟩).2.skip s=d2 at *
   generalize (DS.value s 20 ⟨0,0,0⟩).2=d1 at *
   generalize (DS.value s 20 ⟨0,0,0⟩).1=v at *
   have hne:(d2.code != 0)=true:=by rw[hsc];simpa using hc0
   rw[←hsc,←hsb]
   simp only[K2,Kh]at hv hsk hff
   by_cases hlt:d2.pl<s.size
   ·have gl:decide ((d2.pl:Int)<(s.size:Int))=true:=decide_eq_true (by omega)
    refine JI Tryz.func62 Tryz.ntmps62 ?_
    refine JV g4 ?_
    refine KC (K6 [] [((0,0),(13,0)),((8,1),(8,1))] [((0,0),(13,0)),((8,1),(8,1))] hv) (j2 @Int.natCast_zero @Int.cast_ofNat_Int) ?_
    refine JV q9 ?_
    refine JO (Im [((0,0),(13,0))] [((0,0),(13,0))] hsk) q9 ?_
    refine JV gl ?_
    refine JO (Im [((0,0),(13,0))] [((0,0),(13,0))] hff) q9 ?_
    refine JV hne ?_
    exact JJ (JN [((8,1),(8,1))] []) Tryz.results62 gl
   ·have gl:decide ((d2.pl:Int)<(s.size:Int))=false:=decide_eq_false (by omega)
    refine JI Tryz.func62 Tryz.ntmps62 ?_
    refine JV g4 ?_
    refine KC (K6 [] [((0,0),(13,0)),((8,1),(8,1))] [((0,0),(13,0)),((8,1),(8,1))] hv) (j2 @Int.natCast_zero @Int.cast_ofNat_Int) ?_
    refine JV q9 ?_
    refine JO (Im [((0,0),(13,0))] [((0,0),(13,0))] hsk) q9 ?_
    refine JV (j2 gl hne) ?_
    exact JJ (JN [((8,1),(8,1))] []) Tryz.results62 gl
  |ok v e =>
   rw[hR]at h hag hf
   simp only at h
   obtain⟨a1,a2⟩:=hag
   obtain⟨_,he,f1,f2,f3,f4⟩:=hf
   rw[a1,a2]at hv
   have hsk:=LN s (by omega) ⟨e,0,0⟩ he
   rw[KZ]at hsk
   have h00:((0:Int) != 0)=false:=rfl
   have h50:((5:Int) != 0)=true:=rfl
   by_cases hlt:Io s e<s.size
   ·rw[if_pos hlt]at h
    cases h
    have gl:decide (((Io s e:Nat):Int)<(s.size:Int))=true:=decide_eq_true (by omega)
    have hff:=KO s ⟨Io s e,0,0⟩ 5 (Io s e)
    rw[Ox]at hff
    simp only[K2,Kh]at hv hsk hff
    refine JI Tryz.func62 Tryz.ntmps62 ?_
    refine JV g4 ?_
    refine KC (K6 [] [((0,0),(13,0)),((8,1),(8,1))] [((0,0),(13,0)),((8,1),(8,1))] hv) (j2 @Int.natCast_zero @Int.cast_ofNat_Int) ?_
    refine JV q9 ?_
    refine JO (Im [((0,0),(13,0))] [((0,0),(13,0))] hsk) (j2 @Int.natCast_zero @Int.cast_ofNat_Int) ?_
    refine JV gl ?_
    refine JO (Im [((0,0),(13,0))] [((0,0),(13,0))] hff) (j2 @Int.natCast_zero @Int.cast_ofNat_Int) ?_
    refine JV h50 ?_
    exact JJ (JN [((8,1),(8,1))] []) Tryz.results62 gl
   ·rw[if_neg hlt]at h
    have gl:decide (((Io s e:Nat):Int)<(s.size:Int))=false:=decide_eq_false (by omega)
    by_cases h200:200<v.count
    ·rw[if_pos h200]at h
     cases h
     have g200:decide ((v.count:Int)>200)=true:=decide_eq_true (by omega)
     have hc:=Np _ v (Nat.le_refl _) (by omega)
     simp only[K2,Kh]at hv hsk
     refine JI Tryz.func62 Tryz.ntmps62 ?_
     refine JV g4 ?_
     refine KC (K6 [] [((0,0),(13,0)),((8,1),(8,1))] [((0,0),(13,0)),((8,1),(8,1))] hv) (j2 @Int.natCast_zero @Int.cast_ofNat_Int) ?_
     refine JV q9 ?_
     refine JO (Im [((0,0),(13,0))] [((0,0),(13,0))] hsk) (j2 @Int.natCast_zero @Int.cast_ofNat_Int) ?_
     refine JV (j2 gl h00) ?_
     refine w7 (Ju [] hc) q9 ?_
     refine JV g200 ?_
     exact JJ (JN [((8,1),(8,1))] []) Tryz.results62 (j3 gl @Int.natCast_zero @Int.cast_ofNat_Int)
    ·rw[if_neg h200]at h
     cases h
theorem Qa (s:ByteArray) {c:Int×Nat}{v:V}(h:Kw s=(c,some v)):AC Tryz.prog 62 [.c (.str s)] (MD o1 o2) (.tup [v.av,.c (.int .i64 0),.c (.int .i64 0)]) (MD o1 o2):=by
 unfold Kw at h
 by_cases h4:4000<s.size
 ·rw[if_pos h4]at h;cases h
 have g4:decide ((s.size:Int)>4000)=false:=decide_eq_false (by omega)
 rw[if_neg h4]at h
 have hv:=OO (o1:=o1) (o2:=o2) s (by omega) 20 1 rfl ⟨0,0,0⟩ (Nat.zero_le _)
 have hag:=MC (s:=s) 20 0 (Nat.zero_le _)
 have hf:=Lh (s:=s) 20 (Io s 0) (Ks (Nat.zero_le _)).2.1
 cases hR:LE 20 s (Io s 0) with
 |bad c' p=>rw[hR]at h;cases h
 |ok u e =>
  rw[hR]at h hag hf
  simp only at h
  obtain⟨a1,a2⟩:=hag
  obtain⟨_,he,f1,f2,f3,f4⟩:=hf
  rw[a1,a2]at hv
  have hsk:=LN s (by omega) ⟨e,0,0⟩ he
  rw[KZ]at hsk
  have h00:((0:Int) != 0)=false:=rfl
  by_cases hlt:Io s e<s.size
  ·rw[if_pos hlt]at h;cases h
  rw[if_neg hlt]at h
  have gl:decide (((Io s e:Nat):Int)<(s.size:Int))=false:=decide_eq_false (by omega)
  by_cases h200:200<u.count
  ·rw[if_pos h200]at h;cases h
  rw[if_neg h200]at h
  cases h
  have g200:decide ((v.count:Int)>200)=false:=decide_eq_false (by omega)
  have hc:=Np _ v (Nat.le_refl _) (by omega)
  simp only[K2,Kh]at hv hsk
  refine JI Tryz.func62 Tryz.ntmps62 ?_
  refine JV g4 ?_
  refine KC (K6 [] [((0,0),(13,0)),((8,1),(8,1))] [((0,0),(13,0)),((8,1),(8,1))] hv) (j2 @Int.natCast_zero @Int.cast_ofNat_Int) ?_
  refine JV q9 ?_
  refine JO (Im [((0,0),(13,0))] [((0,0),(13,0))] hsk) (j2 @Int.natCast_zero @Int.cast_ofNat_Int) ?_
  refine JV (j2 gl h00) ?_
  refine w7 (Ju [] hc) q9 ?_
  refine JV g200 ?_
  exact JJ (JN [((8,1),(8,1))] []) Tryz.results62 gl
theorem S8 (s:ByteArray) (hs:s.size≤9000000000000000000) {c:Int×Nat}(h:Kw s=(c,none)):AC Tryz.prog 25 [.c (.str s)] (MD o1 o2) (.agg [.c (.int .i64 c.1),.c (.int .i64 c.2),.nils]) (MD o1 o2):=by
 have hd:=RL (o1:=o1) (o2:=o2) s hs h
 have hc:(c.1 != 0)=true:=by simpa using LD (VC h).1
 refine JI Tryz.func25 Tryz.ntmps25 ?_
 refine JV q9 ?_
 refine JO (Im [((8,1),(8,1))] [((8,1),(8,1))] hd) Ki ?_
 refine JV (j2 hc Ki) ?_
 exact JJ (JN [((8,1),(8,1))] []) Tryz.results25 hc
theorem T5 (s:ByteArray) {c:Int×Nat}{v:V}(h:Kw s=(c,some v)):AC Tryz.prog 25 [.c (.str s)] (MD o1 o2) (.agg [.c (.int .i64 0),.c (.int .i64 0),.own (0,0)]) [((0,0),.row false 5 115 (v.enc.map CellD.cs)),((8,1),.gen (KV o1 o2))]:=by
 have hd:=Qa (o1:=o1) (o2:=o2) s h
 obtain⟨_,hr,hf⟩:=RK h
 have hce:=O2 hr
 have h00:((0:Int) != 0)=false:=rfl
 refine JI Tryz.func25 Tryz.ntmps25 ?_
 refine JV q9 ?_
 refine KC (K6 [] [((8,1),(8,1))] [((8,1),(8,1))] hd) q9 ?_
 refine JV h00 ?_
 refine w12 (Kj [] hce) q9 ?_
 refine JV q9 ?_
 exact JJ (JN [((8,1),(8,1)),((0,0),(18,0))] []) Tryz.results25 h00
end
section
open Go.RowKit
set_option maxRecDepth 10000
theorem Ob (s:ByteArray):∀(n f i:Nat),∀x∈Lj s n f i,x.size≤s.size
 | 0,f,i,x,h=>by
  unfold Lj at h
  split at h
  ·simp only[List.mem_singleton]at h
   subst h
   rw[ByteArray.size_extract]
   omega
  ·cases h
 |n+1,f,i,x,h=>by
  unfold Lj at h
  split at h
  ·rcases List.mem_cons.1 h with rfl | h
   ·rw[ByteArray.size_extract];omega
   ·exact Ob s n _ _ x h
  ·exact Ob s n _ _ x h
theorem YA {s:ByteArray}{f:Nat}(h:f<s.size):∃b:UInt8,s.data.toList.drop f=b::s.data.toList.drop (f+1)∧bAt s f=b.toNat:=by
 obtain⟨b,h1,h2⟩:=LO h
 rw[getElem?_pos s f h]at h1
 cases h1
 exact⟨s[f],List.drop_eq_getElem_cons (by simpa using h),h2⟩
theorem Rq (b:UInt8):(b==10)=true↔b.toNat=10:=by
 rw[beq_iff_eq]
 constructor
 ·rintro rfl;rfl
 ·intro h;exact UInt8.toNat_inj.1 h
theorem Ww (s:ByteArray):∀(n f:Nat),f+n=s.size→Lib.indexByte (s.data.toList.drop f) 10=if nlN s n f=0 then -1 else ((nlB s n f-f:Nat):Int)
 | 0,f,h=>by
  rw[List.drop_eq_nil_of_le (by simp;omega)]
  rfl
 |n+1,f,h=>by
  obtain⟨b,h1,h2⟩:=YA (s:=s) (f:=f) (by omega)
  have ih:=Ww s n (f+1) (by omega)
  rw[h1,Lib.indexByte,ih,nlN,nlB]
  by_cases h10:bAt s f=10
  ·have hb:(b==10)=true:=(Rq b).2 (by omega)
   simp[h10,hb]
  ·have hb:(b==10)=false:=by
    cases hq:(b==10) with
    |false=>rfl
    |true=>exact absurd ((Rq b).1 hq) (by omega)
   have hin:=XP s n (f+1)
   by_cases h0:nlN s n (f+1)=0
   ·simp[h10,hb,h0]
   ·simp only[h10,hb,h0,if_false,Nat.zero_add]
    simp
    omega
theorem Wv (s:ByteArray):∀(n f:Nat),f+n=s.size→(s.data.toList.drop f).count 10=nlN s n f
 | 0,f,h=>by
  rw[List.drop_eq_nil_of_le (by simp;omega)]
  rfl
 |n+1,f,h=>by
  obtain⟨b,h1,h2⟩:=YA (s:=s) (f:=f) (by omega)
  have ih:=Wv s n (f+1) (by omega)
  rw[h1,List.count_cons,ih,nlN]
  by_cases h10:bAt s f=10
  ·have hb:(b==10)=true:=(Rq b).2 (by omega)
   simp[h10,hb]
   omega
  ·have hb:(b==10)=false:=by
    cases hq:(b==10) with
    |false=>rfl
    |true=>exact absurd ((Rq b).1 hq) (by omega)
   simp[h10,hb]
theorem YD {s:ByteArray}{f a e:Nat}(hf:f≤s.size) (he:f+e≤s.size):(s.extract f s.size).extract a e=s.extract (f+a) (f+e):=by
 apply ByteArray.ext
 apply Array.toList_inj.1
 have hl:s.data.toList.take s.size=s.data.toList:=List.take_of_length_le (Nat.le_of_eq (by simp))
 rw[L1,L1,L1,hl,List.drop_take,List.drop_take,List.drop_drop]
 congr 1
 omega
theorem PZ (s:ByteArray):∀(k f:Nat),f≤s.size→nlN s (s.size-f) f=k→Lib.splitB (bS 10) 0 k (s.extract f s.size)=Nj s k f
 | 0,f,hf,h=>rfl
 |k+1,f,hf,h=>by
  obtain⟨h1,h2,h3⟩:=XO s (s.size-f) f (by omega)
  have hge:=(XP s (s.size-f) f).1
  have hix:=Ww s (s.size-f) f (by omega)
  have hes:=LI (s:=s) (a:=f) (e:=s.size) (Nat.le_refl _)
  rw[if_neg (by omega)]at hix
  have hl:s.data.toList.take s.size=s.data.toList:=List.take_of_length_le (Nat.le_of_eq (by simp))
  have hi:Lib.indexB (s.extract f s.size) (bS 10)=((nlB s (s.size-f) f-f:Nat):Int):=by
   show Lib.index (s.extract f s.size).data.toList [10]=_
   rw[Lib.index_one,L1,hl,hix]
  have hb1:(bS 10).size=1:=rfl
  rw[Lib.splitB_hit (bS 10) 0 k _ _ hi,hes,hb1,YD hf (by omega),YD hf (by omega),Nj]
  rw[show f+0=f from rfl,show f+(nlB s (s.size-f) f-f+0)=nlB s (s.size-f) f from by omega,show f+(nlB s (s.size-f) f-f+1)=nlB s (s.size-f) f+1 from by omega,show f+(s.size-f)=s.size from by omega]
  rw[show f+(s.size-f)-(nlB s (s.size-f) f+1)=s.size-(nlB s (s.size-f) f+1) from by omega]at h3
  rw[PZ s k _ (by omega) (by omega)]
theorem Yh (s:ByteArray):Q4 (Lib.splitB (bS 10) 0 (Lib.countB s (bS 10)) s)=NL s:=by
 have hc:Lib.countB s (bS 10)=nlN s s.size 0:=by
  have h1:=Wv s s.size 0 (by omega)
  rw[List.drop_zero]at h1
  rw[←h1]
  exact Lib.count_one 10 _
 have h2:=PZ s (nlN s s.size 0) 0 (Nat.zero_le _) rfl
 have h3:s.extract 0 s.size=s:=by
  apply ByteArray.ext
  apply Array.toList_inj.1
  rw[L1,List.drop_zero]
  exact List.take_of_length_le (Nat.le_of_eq (by simp))
 rw[h3]at h2
 rw[hc,h2,a2l]
end
section
open Go.RowKit Go.Shelf
set_option maxRecDepth 10000
def s7:Ren where
 f:=fun x=>match x with
  | 146=>69
  | 221=>129
  | 268=>193
  | 138=>194
  | 143=>195
  | 195=>229
  | 197=>230
  | 218=>231
  | 219=>196
  | 260=>260
  | 217=>232
  | 225=>233
  | 224=>234
  | 267=>235
  | 266=>261
  | 314=>262
  |n=>n
 t:=fun x=>match x with
  | 9=>9
  | 31=>50
  | 3=>3
  | 4=>4
  | 0=>0
  | 105=>263
  | 21=>21
  | 5=>5
  | 46=>194
  | 119=>308
  | 139=>318
  | 138=>317
  | 146=>247
  | 51=>233
  |n=>n
 g:=fun x=>match x with
  | 1=>0
  | 3=>2
  | 4=>3
  |n=>n
theorem Yg:Lays.n146 Tryz.prog s7 where
 mixed:=C6
 f138:=by kernel_rfl
 f143:=by kernel_rfl
 f146:=by kernel_rfl
 f195:=by kernel_rfl
 f197:=by kernel_rfl
 f217:=by kernel_rfl
 f218:=by kernel_rfl
 f219:=by kernel_rfl
 f221:=by kernel_rfl
 f224:=by kernel_rfl
 f225:=by kernel_rfl
 f260:=by kernel_rfl
 f266:=by kernel_rfl
 f267:=by kernel_rfl
 f268:=by kernel_rfl
 f314:=by kernel_rfl
 t0:=Tryz.underlying0
 a0:=Tryz.isAgg0
 z0:=Tryz.sizeOf0
 v0:=Tryz.zeroValue0
 t3:=Tryz.underlying3
 a3:=Tryz.isAgg3
 z3:=Tryz.sizeOf3
 v3:=Tryz.zeroValue3
 t4:=Tryz.underlying4
 a4:=Tryz.isAgg4
 z4:=Tryz.sizeOf4
 v4:=Tryz.zeroValue4
 t5:=Tryz.underlying5
 a5:=Tryz.isAgg5
 z5:=Tryz.sizeOf5
 v5:=Tryz.zeroValue5
 t9:=Tryz.underlying9
 a9:=Tryz.isAgg9
 z9:=Tryz.sizeOf9
 v9:=Tryz.zeroValue9
 t21:=Tryz.underlying21
 a21:=Tryz.isAgg21
 z21:=Tryz.sizeOf21
 v21:=Tryz.zeroValue21
 t31:=Tryz.underlying50
 a31:=Tryz.isAgg50
 z31:=Tryz.sizeOf50
 v31:=Tryz.zeroValue50
 t46:=Tryz.underlying194
 a46:=Tryz.isAgg194
 z46:=Tryz.sizeOf194
 v46:=Tryz.zeroValue194
 t51:=Tryz.underlying233
 a51:=Tryz.isAgg233
 z51:=Tryz.sizeOf233
 v51:=Tryz.zeroValue233
 t105:=Tryz.underlying263
 a105:=Tryz.isAgg263
 z105:=Tryz.sizeOf263
 v105:=Tryz.zeroValue263
 t119:=Tryz.underlying308
 a119:=Tryz.isAgg308
 z119:=Tryz.sizeOf308
 t138:=Tryz.underlying317
 a138:=Tryz.isAgg317
 z138:=Tryz.sizeOf317
 v138:=Tryz.zeroValue317
 t139:=Tryz.underlying318
 a139:=Tryz.isAgg318
 z139:=Tryz.sizeOf318
 v139:=Tryz.zeroValue318
 t146:=Tryz.underlying247
 a146:=Tryz.isAgg247
 z146:=Tryz.sizeOf247
 v146:=Tryz.zeroValue247
 g1:=by kernel_rfl
 g3:=by kernel_rfl
 g4:=by kernel_rfl
theorem r9 {P:Program}{ρ:Ren}(L:Lays.n146 P ρ) (hi9:(P.info? (ρ.t 9)).map (fun i=>(i.zero,i.size,i.bytes))=some (some (.string ByteArray.empty),1,16)) (s:ByteArray) (c:UInt8) (w:World) (hs:s.size<4294967281) :
  Calls P (ρ.f 146) #[.string s,.string ⟨#[c]⟩] w fun e w' =>
   e=.returned (.slice (some ⟨w.heap.size,0,none⟩) (Lib.countB s ⟨#[c]⟩+1) (Lib.countB s ⟨#[c]⟩+1))∧w'=w.alloc (.cells ((Lib.splitB ⟨#[c]⟩ 0 (Lib.countB s ⟨#[c]⟩) s).map Value.string).toArray (ρ.t 9)):=by
 have h1:1≤(⟨#[c]⟩:ByteArray).size:=Nat.le_refl _
 have hle:=Lib.countB_le ⟨#[c]⟩ h1 s.size s (Nat.le_refl _)
 have hlen:=Lib.splitB_all ⟨#[c]⟩ h1 0 _ s rfl
 have hC:Calls P (ρ.f 138) #[.string s,.string ⟨#[c]⟩] w fun e w'=>e=.returned (.int .i64 (Lib.countB s ⟨#[c]⟩))∧w'=w:=by
  refine (Any.strings_Count_one { L with } s c w).mono fun e w' ⟨he,hw⟩=>⟨?_,hw⟩
  rw[he]
  show _=Ending.returned (Value.int .i64 ((Lib.count s.data.toList [c]:Nat):Int))
  rw[Lib.count_one]
  rfl
 have hI:∀(x:ByteArray) (d:Array Value),x.size≤s.size→Calls P (ρ.f 143) #[.string x,.string ⟨#[c]⟩] (w.alloc (.cells d (ρ.t 9))) fun e w'=>e=.returned (.int .i64 (Lib.indexB x ⟨#[c]⟩))∧w'=w.alloc (.cells d (ρ.t 9)):=by
  intro x d _
  refine (Any.strings_Index_one { L with } x c _).mono fun e w' ⟨he,hw⟩=>⟨?_,hw⟩
  rw[he]
  show _=Ending.returned (Value.int .i64 (Lib.index x.data.toList [c]))
  rw[Lib.index_one]
 have c:=Any.strings_genSplit_core { L with } hi9 s ⟨#[c]⟩ 0 (-1) (Lib.countB s ⟨#[c]⟩+1) w hs h1 (Nat.zero_le _) hI hC (by decide) (by decide) (by rw[if_pos (by decide)];omega)
 rw[Nat.add_sub_cancel,hlen]at c
 have e2:=Lib.cellsOf_full (Lib.splitB ⟨#[‹UInt8›]⟩ 0 (Lib.countB s ⟨#[‹UInt8›]⟩) s)
 rw[hlen]at e2
 rw[e2]at c
 have t3:=L.t3;have t9:=L.t9;have t31:=L.t31
 have a3:=L.a3;have a9:=L.a9;have a31:=L.a31
 have z3:=L.z3;have v3:=L.v3;have z9:=L.z9;have v9:=L.v9;have z31:=L.z31;have v31:=L.v31
 have e221:∀args w,(callFunc (ρ.f 221) args).run P w=.ok (.enter (ρ.f 221) args) w:=enters_of L.f221 (by kernel_rfl) rfl
 go_enter L.f146,Body.n146_ntmps ρ
 go_wp2_with (go_at_fn (ρ.f 221);refine c.mono ?_;rintro e w' ⟨rfl,hw⟩;rw[hw])
 go_ret
 exact⟨rfl,rfl⟩
theorem WZ (w:World) (S:Nat→Prop):∀l:List ByteArray,A0 w S (l.map CX) (l.map fun x=>[Value.string x]) []
 | []=>by simp[A0]
 |x::l=>⟨_,_,[],[],rfl,rfl,⟨_,_,[],[],rfl,rfl,⟨rfl,rfl⟩,⟨rfl,rfl⟩⟩,WZ w S l⟩
theorem ZC (l:List ByteArray):(l.map fun x=>[Value.string x]).flatten=l.map Value.string:=by
 induction l with
 |nil=>rfl
 |cons x l ih=>simp[ih]
theorem Yf (s:ByteArray) (hs:s.size≤1048576):AC Tryz.prog 69 [.c (.str s),.c (.str ⟨#[10]⟩)] [] (.own (0,0)) [((0,0),.row false 1 9 ((Lib.splitB (bS 10) 0 (Lib.countB s (bS 10)) s).map CX))]:=by
 refine AC.of_row (O0 _) fun S w κ vs hv=>?_
 obtain⟨v,vs',rfl,⟨rfl,_⟩,v2,vs2,rfl,⟨rfl,_⟩,rfl⟩:=hv
 refine (r9 Yg (by kernel_rfl) s 10 w (by omega)).mono ?_
 rintro e w' ⟨rfl,rfl⟩
 have hlen:=Lib.splitB_all (bS 10) (Nat.le_refl _) 0 _ s rfl
 have hle:=Lib.countB_le (bS 10) (Nat.le_refl _) s.size s (Nat.le_refl _)
 generalize Lib.splitB (bS 10) 0 (Lib.countB s (bS 10)) s=l at *
 generalize Lib.countB s (bS 10)=n at *
 refine⟨(Below.refl _ _).alloc (Nat.le_refl _) _,_,l.map fun x=>[Value.string x],rfl,WZ _ _ l,by simp,?_⟩
 rw[ZC,List.length_map,hlen]
 refine⟨by simp[hlen],.inr ⟨w.heap.size,n+1,(l.map Value.string).toArray,rfl,Nat.le_refl _,heap_alloc_new w _,Nat.le_refl _,?_,?_,?_⟩⟩
 ·simp[maxLen];omega
 ·simp[hlen]
 ·show List.take _ (l.map Value.string)=_
  exact List.take_of_length_le (by simp[hlen])
def Qn (s:ByteArray):List ByteArray:=Lib.splitB (bS 10) 0 (Lib.countB s (bS 10)) s
theorem Va (s:ByteArray):Q4 (Qn s)=NL s:=Yh s
theorem XY (s:ByteArray):0<(Qn s).length∧(Qn s).length≤s.size+1:=by
 have hlen:=Lib.splitB_all (bS 10) (Nat.le_refl _) 0 _ s rfl
 have hle:=Lib.countB_le (bS 10) (Nat.le_refl _) s.size s (Nat.le_refl _)
 unfold Qn
 omega
end
section
open Go.RowKit Go.Shelf
set_option maxRecDepth 10000
variable {o1 o2:Obj}
theorem SL (s:ByteArray) (hs:s.size≤10000) (h:OV s=none):AC Tryz.prog 71 [.c (.str s)] (MD o1 o2) (.tup [.nils,.c (.str ByteArray.empty)]) (MD o1 o2):=by
 have hv:=OO (o1:=o1) (o2:=o2) s hs 20 1 rfl ⟨0,0,0⟩ (Nat.zero_le _)
 have hag:=MC (s:=s) 20 0 (Nat.zero_le _)
 have hf:=Lh (s:=s) 20 (Io s 0) (Ks (Nat.zero_le _)).2.1
 unfold OV at h
 cases hR:LE 20 s (Io s 0) with
 |bad c' p =>
  rw[hR]at hag hf
  obtain⟨a1,a2⟩:=hag
  have hc0:=LD hf.1
  have hne:((DS.value s 20 ⟨0,0,0⟩).2.code != 0)=true:=by rw[a1];simpa using hc0
  generalize (DS.value s 20 ⟨0,0,0⟩).2=d1 at *
  generalize (DS.value s 20 ⟨0,0,0⟩).1=v at *
  simp only[K2,Kh]at hv
  refine JI Tryz.func71 Tryz.ntmps71 ?_
  refine JV q9 ?_
  refine KC (K6 [] [((0,0),(8,0)),((8,1),(8,1))] [((0,0),(8,0)),((8,1),(8,1))] hv) (j2 @Int.natCast_zero @Int.cast_ofNat_Int) ?_
  refine JV hne ?_
  exact JJ (JN [((8,1),(8,1))] []) Tryz.results71 hne
 |ok u e =>
  rw[hR]at h hag hf
  dsimp only at h
  obtain⟨a1,a2⟩:=hag
  obtain⟨_,he,f1,f2,f3,f4⟩:=hf
  rw[a1,a2]at hv
  split at h
  ·rename_i h200
   have g200:decide ((u.count:Int)>200)=true:=decide_eq_true (by omega)
   have hc:=Np _ u (Nat.le_refl _) (by omega)
   have h00:((0:Int) != 0)=false:=rfl
   simp only[K2,Kh]at hv
   refine JI Tryz.func71 Tryz.ntmps71 ?_
   refine JV q9 ?_
   refine KC (K6 [] [((0,0),(8,0)),((8,1),(8,1))] [((0,0),(8,0)),((8,1),(8,1))] hv) (j2 @Int.natCast_zero @Int.cast_ofNat_Int) ?_
   refine JV h00 ?_
   refine w7 (Ju [] hc) q9 ?_
   refine JV g200 ?_
   exact JJ (JN [((8,1),(8,1))] []) Tryz.results71 g200
  ·cases h
theorem Oi (s:ByteArray) (hs:s.size≤10000) {v:V}{r:ByteArray}(h:OV s=some (v,r)):AC Tryz.prog 71 [.c (.str s)] (MD o1 o2) (.tup [.own (0,0),.c (.str r)]) [((0,0),.row false 5 115 (v.enc.map CellD.cs)),((8,1),.gen (KV o1 o2))]:=by
 have hv:=OO (o1:=o1) (o2:=o2) s hs 20 1 rfl ⟨0,0,0⟩ (Nat.zero_le _)
 have hag:=MC (s:=s) 20 0 (Nat.zero_le _)
 obtain⟨e,hR,hr,he,hre,hrs⟩:=Pd h
 rw[hR]at hag
 obtain⟨a1,a2⟩:=hag
 rw[a1,a2]at hv
 have hc200:=hr.2.1
 have g200:decide ((v.count:Int)>200)=false:=decide_eq_false (by omega)
 have hc:=Np _ v (Nat.le_refl _) (by omega)
 have hce:=O2 hr
 have h00:((0:Int) != 0)=false:=rfl
 have hre':s.extract e s.size=r:=hre.symm
 simp only[K2,Kh]at hv
 refine JI Tryz.func71 Tryz.ntmps71 ?_
 refine JV q9 ?_
 refine KC (K6 [] [((0,0),(8,0)),((8,1),(8,1))] [((0,0),(8,0)),((8,1),(8,1))] hv) (j2 @Int.natCast_zero @Int.cast_ofNat_Int) ?_
 refine JV h00 ?_
 refine w7 (Ju [] hc) q9 ?_
 refine JV g200 ?_
 refine w12 (Kj [] hce) q9 ?_
 refine JV (j2 he hre') ?_
 exact JJ (JN [((8,1),(8,1)),((0,0),(22,0))] []) Tryz.results71 h00
end
section
open Go.RowKit
set_option maxRecDepth 10000
variable {o o1 o2:Obj}
abbrev teL (o o1 o2:Obj):Mem:=[((8,0),.blk (Ps o) []),((8,1),.gen (KV o1 o2))]
end
section
open Go.RowKit Go.Shelf
set_option maxRecDepth 10000
variable {o o1 o2:Obj}
def a4e:Ren where
 f:=fun x=>match x with
  | 99=>87
  | 206=>148
  |n=>n
 t:=fun x=>match x with
  | 9=>9
  | 4=>4
  | 3=>3
  |n=>n
 g:=fun x=>match x with
  |n=>n
theorem a15:Lays.n99 Tryz.prog a4e where
 mixed:=C6
 f99:=by kernel_rfl
 f206:=by kernel_rfl
 t3:=Tryz.underlying3
 a3:=Tryz.isAgg3
 z3:=Tryz.sizeOf3
 v3:=Tryz.zeroValue3
 t4:=Tryz.underlying4
 a4:=Tryz.isAgg4
 z4:=Tryz.sizeOf4
 v4:=Tryz.zeroValue4
 t9:=Tryz.underlying9
 a9:=Tryz.isAgg9
 z9:=Tryz.sizeOf9
 v9:=Tryz.zeroValue9
theorem Z5 (t:ByteArray) (b:UInt8):Lib.hasPrefix t.data.toList [b]=(bAt t 0==b.toNat):=by
 rw[LF]
 unfold Lib.hasPrefix
 cases t.data.toList with
 |nil =>
  rw[Bool.eq_iff_iff]
  simp
  have:=b.toNat_lt
  omega
 |cons c l =>
  rw[Bool.eq_iff_iff]
  simp
  constructor
  ·intro h;rw[h]
  ·intro h;exact UInt8.toNat_inj.1 h.symm
theorem a2t (t:ByteArray) (b:UInt8):(⟨(Lib.trimPrefix t.data.toList [b]).toArray⟩:ByteArray)=Ln b.toNat t:=by
 unfold Lib.trimPrefix Ln
 rw[Z5]
 by_cases h:bAt t 0=b.toNat
 ·rw[if_pos (by simp[h]),if_pos h]
  exact (MU (e:=1) rfl).symm
 ·rw[if_neg (by simp[h]),if_neg h]
theorem Yn (t:ByteArray):(⟨(Lib.trimPrefix t.data.toList [32,61,32]).toArray⟩:ByteArray)=N5 t:=by
 unfold Lib.trimPrefix N5
 have he:Lib.hasPrefix t.data.toList [32,61,32]=true↔3≤t.size∧t.extract 0 3=RT:=by
  unfold Lib.hasPrefix
  rw[List.isPrefixOf_iff_prefix]
  constructor
  ·rintro⟨l,hl⟩
   exact⟨by rw[←JY,←hl];simp,RU hl.symm rfl⟩
  ·rintro⟨h1,h2⟩
   refine⟨t.data.toList.drop 3,?_⟩
   have h3:=congrArg (fun x:ByteArray=>x.data.toList) h2
   simp only[L1,List.drop_zero]at h3
   have h4:=List.take_append_drop 3 t.data.toList
   rw[h3]at h4
   exact h4
 by_cases h:3≤t.size∧t.extract 0 3=RT
 ·rw[if_pos (he.2 h),if_pos h]
  exact (MU (e:=3) rfl).symm
 ·rw[if_neg (fun hh=>h (he.1 hh)),if_neg h]
theorem TJ (t:ByteArray):AC Tryz.prog 87 [.c (.str t),.c (.str ⟨#[91]⟩)] [] (.c (.bool (bAt t 0==91))) []:=by
 refine AC.of_calls fun S w κ vs hv=>?_
 obtain⟨v,vs',rfl,⟨rfl,_⟩,v2,vs2,rfl,⟨rfl,_⟩,rfl⟩:=hv
 refine (Any.strings_HasPrefix a15 t ⟨#[91]⟩ w).mono ?_
 rintro e w' ⟨rfl,rfl⟩
 refine⟨Below.refl _ _,_,rfl,fun T _ _=>⟨?_,rfl⟩⟩
 rw[show (⟨#[91]⟩:ByteArray).data.toList=[91] from rfl,Z5]
 rfl
theorem NS (t:ByteArray) (b:UInt8):AC Tryz.prog 86 [.c (.str t),.c (.str ⟨#[b]⟩)] [] (.c (.str (Ln b.toNat t))) []:=by
 refine AC.of_calls fun S w κ vs hv=>?_
 obtain⟨v,vs',rfl,⟨rfl,_⟩,v2,vs2,rfl,⟨rfl,_⟩,rfl⟩:=hv
 refine (Any.strings_TrimPrefix Qx t ⟨#[b]⟩ w).mono ?_
 rintro e w' ⟨rfl,rfl⟩
 refine⟨Below.refl _ _,_,rfl,fun T _ _=>⟨?_,rfl⟩⟩
 rw[←a2t]
theorem Ul (t:ByteArray):AC Tryz.prog 86 [.c (.str t),.c (.str ⟨#[32,61,32]⟩)] [] (.c (.str (N5 t))) []:=by
 refine AC.of_calls fun S w κ vs hv=>?_
 obtain⟨v,vs',rfl,⟨rfl,_⟩,v2,vs2,rfl,⟨rfl,_⟩,rfl⟩:=hv
 refine (Any.strings_TrimPrefix Qx t ⟨#[32,61,32]⟩ w).mono ?_
 rintro e w' ⟨rfl,rfl⟩
 refine⟨Below.refl _ _,_,rfl,fun T _ _=>⟨?_,rfl⟩⟩
 rw[←Yn]
theorem NR (b:Nat) (t:ByteArray):(Ln b t).size≤t.size:=by
 unfold Ln
 split
 ·rw[LI (Nat.le_refl _)];omega
 ·exact Nat.le_refl _
theorem R5 (t:ByteArray):(N5 t).size≤t.size:=by
 unfold N5
 split
 ·rw[LI (Nat.le_refl _)];omega
 ·exact Nat.le_refl _
def pvA (acc:List V):AV:=match acc with
 | []=>.nils
 |_::_=>.own (99,1)
def pvM (acc:List V):Mem:=match acc with
 | []=>[]
 |v::l=>[((99,1),.row false 5 76 ((v::l).map V.cs))]
theorem Mp {acc:List V}(h:acc≠[]):pvA acc=.own (99,1):=by
 cases acc with
 |nil=>exact absurd rfl h
 |cons v vs=>rfl
theorem Mq {acc:List V}(h:acc≠[]):pvM acc=[((99,1),.row false 5 76 (acc.map V.cs))]:=by
 cases acc with
 |nil=>exact absurd rfl h
 |cons v vs=>rfl
def plA (p:List V) (v:V):AV:=.agg [.c (.sl (p.map V.cs)),.c (.int .i64 v.kind),.c (.int .i64 v.num),.c (.str v.text),.c (.sl (v.keys.map CX)),.c (.sl (v.kids.map V.cs))]
end
end Go.Proofs.YtllfmaflodbieaaGreatDoor
