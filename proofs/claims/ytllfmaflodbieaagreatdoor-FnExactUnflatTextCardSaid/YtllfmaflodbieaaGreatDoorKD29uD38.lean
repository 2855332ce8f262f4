/- Texts of this proof: D29 D35 D36 D38. -/
import Derived.Test.YtllfmaflodbieaaGreatDoorKD24uM55
import Derived.Shelf.Strings.Split
set_option linter.all false
set_option maxHeartbeats 8000000
namespace Go.Proofs.YtllfmaflodbieaaGreatDoor
section
open Go.RowKit Go.Shelf
set_option maxRecDepth 10000
def TP:Ren where
 f:=fun x=>match x with
  | 146=>69
  | 221=>129
  | 268=>193
  | 138=>194
  | 143=>195
  | 195=>229
  | 197=>230
  | 218=>231
  | 219=>196
  | 260=>260
  | 217=>232
  | 225=>233
  | 224=>234
  | 267=>235
  | 266=>261
  | 314=>262
  |n=>n
 t:=fun x=>match x with
  | 9=>9
  | 31=>50
  | 3=>3
  | 4=>4
  | 0=>0
  | 105=>263
  | 21=>21
  | 5=>5
  | 46=>194
  | 119=>308
  | 139=>318
  | 138=>317
  | 146=>247
  | 51=>233
  |n=>n
 g:=fun x=>match x with
  | 1=>0
  | 3=>2
  | 4=>3
  |n=>n
theorem LD:Lays.n146 Tryz.prog TP where
 mixed:=Bk
 f138:=by kernel_rfl
 f143:=by kernel_rfl
 f146:=by kernel_rfl
 f195:=by kernel_rfl
 f197:=by kernel_rfl
 f217:=by kernel_rfl
 f218:=by kernel_rfl
 f219:=by kernel_rfl
 f221:=by kernel_rfl
 f224:=by kernel_rfl
 f225:=by kernel_rfl
 f260:=by kernel_rfl
 f266:=by kernel_rfl
 f267:=by kernel_rfl
 f268:=by kernel_rfl
 f314:=by kernel_rfl
 t0:=Tryz.underlying0
 a0:=Tryz.isAgg0
 z0:=Tryz.sizeOf0
 v0:=Tryz.zeroValue0
 t3:=Tryz.underlying3
 a3:=Tryz.isAgg3
 z3:=Tryz.sizeOf3
 v3:=Tryz.zeroValue3
 t4:=Tryz.underlying4
 a4:=Tryz.isAgg4
 z4:=Tryz.sizeOf4
 v4:=Tryz.zeroValue4
 t5:=Tryz.underlying5
 a5:=Tryz.isAgg5
 z5:=Tryz.sizeOf5
 v5:=Tryz.zeroValue5
 t9:=Tryz.underlying9
 a9:=Tryz.isAgg9
 z9:=Tryz.sizeOf9
 v9:=Tryz.zeroValue9
 t21:=Tryz.underlying21
 a21:=Tryz.isAgg21
 z21:=Tryz.sizeOf21
 v21:=Tryz.zeroValue21
 t31:=Tryz.underlying50
 a31:=Tryz.isAgg50
 z31:=Tryz.sizeOf50
 v31:=Tryz.zeroValue50
 t46:=Tryz.underlying194
 a46:=Tryz.isAgg194
 z46:=Tryz.sizeOf194
 v46:=Tryz.zeroValue194
 t51:=Tryz.underlying233
 a51:=Tryz.isAgg233
 z51:=Tryz.sizeOf233
 v51:=Tryz.zeroValue233
 t105:=Tryz.underlying263
 a105:=Tryz.isAgg263
 z105:=Tryz.sizeOf263
 v105:=Tryz.zeroValue263
 t119:=Tryz.underlying308
 a119:=Tryz.isAgg308
 z119:=Tryz.sizeOf308
 t138:=Tryz.underlying317
 a138:=Tryz.isAgg317
 z138:=Tryz.sizeOf317
 v138:=Tryz.zeroValue317
 t139:=Tryz.underlying318
 a139:=Tryz.isAgg318
 z139:=Tryz.sizeOf318
 v139:=Tryz.zeroValue318
 t146:=Tryz.underlying247
 a146:=Tryz.isAgg247
 z146:=Tryz.sizeOf247
 v146:=Tryz.zeroValue247
 g1:=by kernel_rfl
 g3:=by kernel_rfl
 g4:=by kernel_rfl
theorem Uc {P:Program}{ρ:Ren}(L:Lays.n146 P ρ) (hi9:(P.info? (ρ.t 9)).map (fun i=>(i.zero,i.size,i.bytes))=some (some (.string ByteArray.empty),1,16)) (s:ByteArray) (c:UInt8) (w:World) (hs:s.size<4294967281) :
  Calls P (ρ.f 146) #[.string s,.string ⟨#[c]⟩] w fun e w' =>
   e=.returned (.slice (some ⟨w.heap.size,0,none⟩) (Lib.countB s ⟨#[c]⟩+1) (Lib.countB s ⟨#[c]⟩+1))∧w'=w.alloc (.cells ((Lib.splitB ⟨#[c]⟩ 0 (Lib.countB s ⟨#[c]⟩) s).map Value.string).toArray (ρ.t 9)):=by
 have h1:1≤(⟨#[c]⟩:ByteArray).size:=Nat.le_refl _
 have hle:=Lib.countB_le ⟨#[c]⟩ h1 s.size s (Nat.le_refl _)
 have hlen:=Lib.splitB_all ⟨#[c]⟩ h1 0 _ s rfl
 have hC:Calls P (ρ.f 138) #[.string s,.string ⟨#[c]⟩] w fun e w'=>e=.returned (.int .i64 (Lib.countB s ⟨#[c]⟩))∧w'=w:=by
  refine (Any.strings_Count_one { L with } s c w).mono fun e w' ⟨he,hw⟩=>⟨?_,hw⟩
  rw[he]
  show _=Ending.returned (Value.int .i64 ((Lib.count s.data.toList [c]:Nat):Int))
  rw[Lib.count_one]
  rfl
 have hI:∀(x:ByteArray) (d:Array Value),x.size≤s.size→Calls P (ρ.f 143) #[.string x,.string ⟨#[c]⟩] (w.alloc (.cells d (ρ.t 9))) fun e w'=>e=.returned (.int .i64 (Lib.indexB x ⟨#[c]⟩))∧w'=w.alloc (.cells d (ρ.t 9)):=by
  intro x d _
  refine (Any.strings_Index_one { L with } x c _).mono fun e w' ⟨he,hw⟩=>⟨?_,hw⟩
  rw[he]
  show _=Ending.returned (Value.int .i64 (Lib.index x.data.toList [c]))
  rw[Lib.index_one]
 have c:=Any.strings_genSplit_core { L with } hi9 s ⟨#[c]⟩ 0 (-1) (Lib.countB s ⟨#[c]⟩+1) w hs h1 (Nat.zero_le _) hI hC (by decide) (by decide) (by rw[if_pos (by decide)];omega)
 rw[Nat.add_sub_cancel,hlen]at c
 have e2:=Lib.cellsOf_full (Lib.splitB ⟨#[‹UInt8›]⟩ 0 (Lib.countB s ⟨#[‹UInt8›]⟩) s)
 rw[hlen]at e2
 rw[e2]at c
 have t3:=L.t3;have t9:=L.t9;have t31:=L.t31
 have a3:=L.a3;have a9:=L.a9;have a31:=L.a31
 have z3:=L.z3;have v3:=L.v3;have z9:=L.z9;have v9:=L.v9;have z31:=L.z31;have v31:=L.v31
 have e221:∀args w,(callFunc (ρ.f 221) args).run P w=.ok (.enter (ρ.f 221) args) w:=enters_of L.f221 (by kernel_rfl) rfl
 go_enter L.f146,Body.n146_ntmps ρ
 go_wp2_with (go_at_fn (ρ.f 221);refine c.mono ?_;rintro e w' ⟨rfl,hw⟩;rw[hw])
 go_ret
 exact⟨rfl,rfl⟩
theorem PV (w:World) (S:Nat→Prop):∀l:List ByteArray,Ag w S (l.map Ab) (l.map fun x=>[Value.string x]) []
 | []=>by simp[Ag]
 |x::l=>⟨_,_,[],[],rfl,rfl,⟨_,_,[],[],rfl,rfl,⟨rfl,rfl⟩,⟨rfl,rfl⟩⟩,PV w S l⟩
theorem UL (l:List ByteArray):(l.map fun x=>[Value.string x]).flatten=l.map Value.string:=by
 induction l with
 |nil=>rfl
 |cons x l ih=>simp[ih]
theorem Sf (s:ByteArray) (hs:s.size≤1048576):AC Tryz.prog 69 [.c (.str s),.c (.str ⟨#[10]⟩)] [] (.own (0,0)) [((0,0),.row false 1 9 ((Lib.splitB (bS 10) 0 (Lib.countB s (bS 10)) s).map Ab))]:=by
 refine AC.of_row (G4 _) fun S w κ vs hv=>?_
 obtain⟨v,vs',rfl,⟨rfl,_⟩,v2,vs2,rfl,⟨rfl,_⟩,rfl⟩:=hv
 refine (Uc LD (by kernel_rfl) s 10 w (by omega)).mono ?_
 rintro e w' ⟨rfl,rfl⟩
 have hlen:=Lib.splitB_all (bS 10) (Nat.le_refl _) 0 _ s rfl
 have hle:=Lib.countB_le (bS 10) (Nat.le_refl _) s.size s (Nat.le_refl _)
 generalize Lib.splitB (bS 10) 0 (Lib.countB s (bS 10)) s=l at *
 generalize Lib.countB s (bS 10)=n at *
 refine⟨(Below.refl _ _).alloc (Nat.le_refl _) _,_,l.map fun x=>[Value.string x],rfl,PV _ _ l,by simp,?_⟩
 rw[UL,List.length_map,hlen]
 refine⟨by simp[hlen],.inr ⟨w.heap.size,n+1,(l.map Value.string).toArray,rfl,Nat.le_refl _,heap_alloc_new w _,Nat.le_refl _,?_,?_,?_⟩⟩
 ·simp[maxLen];omega
 ·simp[hlen]
 ·show List.take _ (l.map Value.string)=_
  exact List.take_of_length_le (by simp[hlen])
def J8 (s:ByteArray):List ByteArray:=Lib.splitB (bS 10) 0 (Lib.countB s (bS 10)) s
theorem Nr (s:ByteArray):J0 (J8 s)=D7 s:=RP s
theorem RF (s:ByteArray):0<(J8 s).length∧(J8 s).length≤s.size+1:=by
 have hlen:=Lib.splitB_all (bS 10) (Nat.le_refl _) 0 _ s rfl
 have hle:=Lib.countB_le (bS 10) (Nat.le_refl _) s.size s (Nat.le_refl _)
 unfold J8
 omega
end
section
open Go.RowKit Go.Shelf
set_option maxRecDepth 10000
variable {o1 o2:Obj}
theorem Ds (s:ByteArray) (hs:s.size≤10000) (h:BG s=none):AC Tryz.prog 71 [.c (.str s)] (Ij o1 o2) (.tup [.nils,.c (.str ByteArray.empty)]) (Ij o1 o2):=by
 have hv:=Mt (o1:=o1) (o2:=o2) s hs 20 1 rfl ⟨0,0,0⟩ (Nat.zero_le _)
 have hag:=Fm (s:=s) 20 0 (Nat.zero_le _)
 have hf:=C2 (s:=s) 20 (Af s 0) (AM (Nat.zero_le _)).2.1
 unfold BG at h
 cases hR:Cq 20 s (Af s 0) with
 |bad c' p =>
  rw[hR]at hag hf
  obtain⟨a1,a2⟩:=hag
  have hc0:=Bq hf.1
  have hne:((DS.value s 20 ⟨0,0,0⟩).2.code != 0)=true:=by rw[a1];simpa using hc0
  generalize (DS.value s 20 ⟨0,0,0⟩).2=d1 at *
  generalize (DS.value s 20 ⟨0,0,0⟩).1=v at *
  simp only[Au,Bg]at hv
  refine A6 Tryz.func71 Tryz.ntmps71 ?_
  refine A0 trivial ?_
  (apply (Dr [] [((0,0),(8,0)),((8,1),(8,1))] [((0,0),(8,0)),((8,1),(8,1))] hv);(iterate 10 (focus (first | (simp only[go_sem,Nat.reduceEqDiff,Nat.reduceAdd,Nat.reduceSub,Nat.reduceLeDiff,Nat.reduceMul,Nat.reduceBEq,Nat.reduceLT,Int.reduceToNat,reduceCtorEq,Int.natCast_zero,Int.cast_ofNat_Int];first | done | exact rfl | (and_intros<;>rfl)) | exact rfl | decide)));(iterate 8 (focus (simp[go_sem,Int.natCast_zero,Int.cast_ofNat_Int];done)));(iterate 2 (focus (first | (simp only[go_sem,Nat.reduceEqDiff,Nat.reduceAdd,Nat.reduceSub,Nat.reduceLeDiff,Nat.reduceMul,Nat.reduceBEq,Nat.reduceLT,Int.reduceToNat,reduceCtorEq,Int.natCast_zero,Int.cast_ofNat_Int];first | done | exact rfl | (and_intros<;>rfl)) | exact rfl | decide))))
  refine A0 hne ?_
  exact A9 (A8 [((8,1),(8,1))] []) Tryz.results71 hne
 |ok u e =>
  rw[hR]at h hag hf
  dsimp only at h
  obtain⟨a1,a2⟩:=hag
  obtain⟨_,he,f1,f2,f3,f4⟩:=hf
  rw[a1,a2]at hv
  split at h
  ·rename_i h200
   have g200:decide ((u.count:Int)>200)=true:=decide_eq_true (by omega)
   have hc:=OL _ u (Nat.le_refl _) (by omega)
   have h00:((0:Int) != 0)=false:=rfl
   simp only[Au,Bg]at hv
   refine A6 Tryz.func71 Tryz.ntmps71 ?_
   refine A0 trivial ?_
   (apply (Dr [] [((0,0),(8,0)),((8,1),(8,1))] [((0,0),(8,0)),((8,1),(8,1))] hv);(iterate 10 (focus (first | (simp only[go_sem,Nat.reduceEqDiff,Nat.reduceAdd,Nat.reduceSub,Nat.reduceLeDiff,Nat.reduceMul,Nat.reduceBEq,Nat.reduceLT,Int.reduceToNat,reduceCtorEq,Int.natCast_zero,Int.cast_ofNat_Int];first | done | exact rfl | (and_intros<;>rfl)) | exact rfl | decide)));(iterate 8 (focus (simp[go_sem,Int.natCast_zero,Int.cast_ofNat_Int];done)));(iterate 2 (focus (first | (simp only[go_sem,Nat.reduceEqDiff,Nat.reduceAdd,Nat.reduceSub,Nat.reduceLeDiff,Nat.reduceMul,Nat.reduceBEq,Nat.reduceLT,Int.reduceToNat,reduceCtorEq,Int.natCast_zero,Int.cast_ofNat_Int];first | done | exact rfl | (and_intros<;>rfl)) | exact rfl | decide))))
   refine A0 h00 ?_
   refine w7 (A3 [] hc) trivial ?_
   refine A0 g200 ?_
   exact A9 (A8 [((8,1),(8,1))] []) Tryz.results71 g200
  ·cases h
theorem BU (s:ByteArray) (hs:s.size≤10000) {v:V}{r:ByteArray}(h:BG s=some (v,r)):AC Tryz.prog 71 [.c (.str s)] (Ij o1 o2) (.tup [.own (0,0),.c (.str r)]) [((0,0),.row false 5 115 (v.enc.map CellD.cs)),((8,1),.gen (Cf o1 o2))]:=by
 have hv:=Mt (o1:=o1) (o2:=o2) s hs 20 1 rfl ⟨0,0,0⟩ (Nat.zero_le _)
 have hag:=Fm (s:=s) 20 0 (Nat.zero_le _)
 obtain⟨e,hR,hr,he,hre,hrs⟩:=CI h
 rw[hR]at hag
 obtain⟨a1,a2⟩:=hag
 rw[a1,a2]at hv
 have hc200:=hr.2.1
 have g200:decide ((v.count:Int)>200)=false:=decide_eq_false (by omega)
 have hc:=OL _ v (Nat.le_refl _) (by omega)
 have hce:=OO hr
 have h00:((0:Int) != 0)=false:=rfl
 have hre':s.extract e s.size=r:=hre.symm
 simp only[Au,Bg]at hv
 refine A6 Tryz.func71 Tryz.ntmps71 ?_
 refine A0 trivial ?_
 (apply (Dr [] [((0,0),(8,0)),((8,1),(8,1))] [((0,0),(8,0)),((8,1),(8,1))] hv);(iterate 10 (focus (first | (simp only[go_sem,Nat.reduceEqDiff,Nat.reduceAdd,Nat.reduceSub,Nat.reduceLeDiff,Nat.reduceMul,Nat.reduceBEq,Nat.reduceLT,Int.reduceToNat,reduceCtorEq,Int.natCast_zero,Int.cast_ofNat_Int];first | done | exact rfl | (and_intros<;>rfl)) | exact rfl | decide)));(iterate 8 (focus (simp[go_sem,Int.natCast_zero,Int.cast_ofNat_Int];done)));(iterate 2 (focus (first | (simp only[go_sem,Nat.reduceEqDiff,Nat.reduceAdd,Nat.reduceSub,Nat.reduceLeDiff,Nat.reduceMul,Nat.reduceBEq,Nat.reduceLT,Int.reduceToNat,reduceCtorEq,Int.natCast_zero,Int.cast_ofNat_Int];first | done | exact rfl | (and_intros<;>rfl)) | exact rfl | decide))))
 refine A0 h00 ?_
 refine w7 (A3 [] hc) trivial ?_
 refine A0 g200 ?_
 refine w12 (IE [] hce) trivial ?_
 refine A0 (j2 he hre') ?_
 exact A9 (A8 [((8,1),(8,1)),((0,0),(22,0))] []) Tryz.results71 h00
end
section
open Go.RowKit
set_option maxRecDepth 10000
variable {o o1 o2:Obj}
abbrev teL (o o1 o2:Obj):Mem:=[((8,0),.blk (Kb o) []),((8,1),.gen (Cf o1 o2))]
end
section
open Go.RowKit Go.Shelf
set_option maxRecDepth 10000
variable {o o1 o2:Obj}
def a2t:Ren where
 f:=fun x=>match x with
  | 99=>87
  | 206=>148
  |n=>n
 t:=fun x=>match x with
  | 9=>9
  | 4=>4
  | 3=>3
  |n=>n
 g:=fun x=>match x with
  |n=>n
theorem a2d:Lays.n99 Tryz.prog a2t where
 mixed:=Bk
 f99:=by kernel_rfl
 f206:=by kernel_rfl
 t3:=Tryz.underlying3
 a3:=Tryz.isAgg3
 z3:=Tryz.sizeOf3
 v3:=Tryz.zeroValue3
 t4:=Tryz.underlying4
 a4:=Tryz.isAgg4
 z4:=Tryz.sizeOf4
 v4:=Tryz.zeroValue4
 t9:=Tryz.underlying9
 a9:=Tryz.isAgg9
 z9:=Tryz.sizeOf9
 v9:=Tryz.zeroValue9
theorem a0z (t:ByteArray) (b:UInt8):Lib.hasPrefix t.data.toList [b]=(bAt t 0==b.toNat):=by
 rw[DA]
 unfold Lib.hasPrefix
 cases t.data.toList with
 |nil =>
  rw[Bool.eq_iff_iff]
  simp
  have:=b.toNat_lt
  omega
 |cons c l =>
  rw[Bool.eq_iff_iff]
  simp
  constructor
  ·intro h;rw[h]
  ·intro h;exact UInt8.toNat_inj.1 h.symm
theorem a2h (t:ByteArray) (b:UInt8):(⟨(Lib.trimPrefix t.data.toList [b]).toArray⟩:ByteArray)=DL b.toNat t:=by
 unfold Lib.trimPrefix DL
 rw[a0z]
 by_cases h:bAt t 0=b.toNat
 ·rw[if_pos (by simp[h]),if_pos h]
  exact (OX (e:=1) rfl).symm
 ·rw[if_neg (by simp[h]),if_neg h]
theorem a0r (t:ByteArray):(⟨(Lib.trimPrefix t.data.toList [32,61,32]).toArray⟩:ByteArray)=H3 t:=by
 unfold Lib.trimPrefix H3
 have he:Lib.hasPrefix t.data.toList [32,61,32]=true↔3≤t.size∧t.extract 0 3=JZ:=by
  unfold Lib.hasPrefix
  rw[List.isPrefixOf_iff_prefix]
  constructor
  ·rintro⟨l,hl⟩
   exact⟨by rw[←AL,←hl];simp,KX hl.symm rfl⟩
  ·rintro⟨h1,h2⟩
   refine⟨t.data.toList.drop 3,?_⟩
   have h3:=congrArg (fun x:ByteArray=>x.data.toList) h2
   simp only[CJ,List.drop_zero]at h3
   have h4:=List.take_append_drop 3 t.data.toList
   rw[h3]at h4
   exact h4
 by_cases h:3≤t.size∧t.extract 0 3=JZ
 ·rw[if_pos (he.2 h),if_pos h]
  exact (OX (e:=3) rfl).symm
 ·rw[if_neg (fun hh=>h (he.1 hh)),if_neg h]
theorem ZW (t:ByteArray):AC Tryz.prog 87 [.c (.str t),.c (.str ⟨#[91]⟩)] [] (.c (.bool (bAt t 0==91))) []:=by
 refine AC.of_calls fun S w κ vs hv=>?_
 obtain⟨v,vs',rfl,⟨rfl,_⟩,v2,vs2,rfl,⟨rfl,_⟩,rfl⟩:=hv
 refine (Any.strings_HasPrefix a2d t ⟨#[91]⟩ w).mono ?_
 rintro e w' ⟨rfl,rfl⟩
 refine⟨Below.refl _ _,_,rfl,fun T _ _=>⟨?_,rfl⟩⟩
 rw[show (⟨#[91]⟩:ByteArray).data.toList=[91] from rfl,a0z]
 rfl
theorem J2 (t:ByteArray) (b:UInt8):AC Tryz.prog 86 [.c (.str t),.c (.str ⟨#[b]⟩)] [] (.c (.str (DL b.toNat t))) []:=by
 refine AC.of_calls fun S w κ vs hv=>?_
 obtain⟨v,vs',rfl,⟨rfl,_⟩,v2,vs2,rfl,⟨rfl,_⟩,rfl⟩:=hv
 refine (Any.strings_TrimPrefix Um t ⟨#[b]⟩ w).mono ?_
 rintro e w' ⟨rfl,rfl⟩
 refine⟨Below.refl _ _,_,rfl,fun T _ _=>⟨?_,rfl⟩⟩
 rw[←a2h]
theorem b9 (t:ByteArray):AC Tryz.prog 86 [.c (.str t),.c (.str ⟨#[32,61,32]⟩)] [] (.c (.str (H3 t))) []:=by
 refine AC.of_calls fun S w κ vs hv=>?_
 obtain⟨v,vs',rfl,⟨rfl,_⟩,v2,vs2,rfl,⟨rfl,_⟩,rfl⟩:=hv
 refine (Any.strings_TrimPrefix Um t ⟨#[32,61,32]⟩ w).mono ?_
 rintro e w' ⟨rfl,rfl⟩
 refine⟨Below.refl _ _,_,rfl,fun T _ _=>⟨?_,rfl⟩⟩
 rw[←a0r]
theorem IT (b:Nat) (t:ByteArray):(DL b t).size≤t.size:=by
 unfold DL
 split
 ·rw[E2 (Nat.le_refl _)];omega
 ·exact Nat.le_refl _
theorem R5 (t:ByteArray):(H3 t).size≤t.size:=by
 unfold H3
 split
 ·rw[E2 (Nat.le_refl _)];omega
 ·exact Nat.le_refl _
def pvA (acc:List V):AV:=match acc with
 | []=>.nils
 |_::_=>.own (99,1)
def pvM (acc:List V):Mem:=match acc with
 | []=>[]
 |v::l=>[((99,1),.row false 5 76 ((v::l).map V.cs))]
theorem Fl {acc:List V}(h:acc≠[]):pvA acc=.own (99,1):=by
 cases acc with
 |nil=>exact absurd rfl h
 |cons v vs=>rfl
theorem Fu {acc:List V}(h:acc≠[]):pvM acc=[((99,1),.row false 5 76 (acc.map V.cs))]:=by
 cases acc with
 |nil=>exact absurd rfl h
 |cons v vs=>rfl
def plA (p:List V) (v:V):AV:=.agg [.c (.sl (p.map V.cs)),.c (.int .i64 v.kind),.c (.int .i64 v.num),.c (.str v.text),.c (.sl (v.keys.map Ab)),.c (.sl (v.kids.map V.cs))]
end
end Go.Proofs.YtllfmaflodbieaaGreatDoor
