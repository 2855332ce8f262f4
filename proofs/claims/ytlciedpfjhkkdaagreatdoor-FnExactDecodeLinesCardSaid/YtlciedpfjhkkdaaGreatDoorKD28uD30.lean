/- Texts of this proof: D28 M55 D29 D30. -/
import Derived.Test.YtlciedpfjhkkdaaGreatDoorKE42uD27
import Derived.Lib.SplitLaws
import Derived.Lib.IndexBytes
import Derived.Shelf.Strings.Split
set_option linter.all false
set_option maxHeartbeats 8000000
namespace Go.Proofs.YtlciedpfjhkkdaaGreatDoor
section
open Go.RowKit
set_option maxRecDepth 10000
theorem DD (s:ByteArray):∀(n f i:Nat),∀x∈C8 s n f i,x.size≤s.size
 | 0,f,i,x,h=>by
  unfold C8 at h
  split at h
  ·simp only[List.mem_singleton]at h
   subst h
   rw[ByteArray.size_extract]
   omega
  ·cases h
 |n+1,f,i,x,h=>by
  unfold C8 at h
  split at h
  ·rcases List.mem_cons.1 h with rfl | h
   ·rw[ByteArray.size_extract];omega
   ·exact DD s n _ _ x h
  ·exact DD s n _ _ x h
def CB:List ByteArray→Nat→List V→(Int×Nat)×Option (List V)
 | [],_,acc=>((0,0),some acc)
 |x::l,k,acc=>match Ba x with
  | (c,none)=>((c.1,k),none)
  | (_,some v)=>CB l (k+1) (acc++[v])
def Bo (s:ByteArray):(Int×Nat)×Option (List V):=if 4000<s.size∨200<(CE s).length then ((2,0),none) else CB (CE s) 0 []
def lvA (acc:List V):AV:=match acc with
 | []=>.nils
 |_::_=>.own (99,1)
def lvM (acc:List V):Mem:=match acc with
 | []=>[]
 |v::vs=>[((99,1),.row false 1 22 (((v::vs).map V.enc).map An))]
def IT (r:(Int×Nat)×Option (List V)):AV:=match r.2 with
 |none=>.agg [.c (.int .i64 r.1.1),.c (.int .i64 r.1.2),.nils]
 |some []=>.agg [.c (.int .i64 0),.c (.int .i64 0),.nils]
 |some (_::_)=>.agg [.c (.int .i64 0),.c (.int .i64 0),.own (0,0)]
def Ow (r:(Int×Nat)×Option (List V)):Mem:=match r.2 with
 |none=>[]
 |some []=>[]
 |some (v::vs)=>[((0,0),.row false 1 22 (((v::vs).map V.enc).map An))]
theorem EH {acc:List V}(h:acc≠[]):lvA acc=.own (99,1):=by
 cases acc with
 |nil=>exact absurd rfl h
 |cons v vs=>rfl
theorem Ku {acc:List V}(h:acc≠[]):lvM acc=[((99,1),.row false 1 22 ((acc.map V.enc).map An))]:=by
 cases acc with
 |nil=>exact absurd rfl h
 |cons v vs=>rfl
theorem Hz {acc:List V}{c:Int×Nat}(h:acc≠[]):IT (c,some acc)=.agg [.c (.int .i64 0),.c (.int .i64 0),.own (0,0)]:=by
 cases acc with
 |nil=>exact absurd rfl h
 |cons v vs=>rfl
theorem NH {acc:List V}{c:Int×Nat}(h:acc≠[]):Ow (c,some acc)=[((0,0),.row false 1 22 ((acc.map V.enc).map An))]:=by
 cases acc with
 |nil=>exact absurd rfl h
 |cons v vs=>rfl
theorem KO (s:ByteArray) (hs:s.size≤1048576):AC Tryz.prog 22 [.c (.str s)] [] (IT (Bo s)) (Ow (Bo s)):=by
 have hL:=Mw s hs
 have hsz:∀x∈CE s,x.size≤s.size:=DD s _ _ _
 unfold Bo
 generalize CE s=L at *
 have hLl:(L.map A8).length=L.length:=by simp
 by_cases h4:4000<s.size
 ·have g4:decide ((s.size:Int)>4000)=true:=decide_eq_true (by omega)
  rw[if_pos (.inl h4)]
  unfold IT Ow
  dsimp only
  refine A7 Tryz.func22 Tryz.ntmps22 ?_
  refine A0 trivial ?_
  refine w12 (D7 [] hL) trivial ?_
  refine A0 g4 ?_
  exact Ad (Ac [] []) Tryz.results22 g4
 ·have g4:decide ((s.size:Int)>4000)=false:=decide_eq_false (by omega)
  by_cases h200:200<L.length
  ·have g2:decide ((L.length:Int)>200)=true:=decide_eq_true (by omega)
   rw[if_pos (.inr h200)]
   unfold IT Ow
   dsimp only
   refine A7 Tryz.func22 Tryz.ntmps22 ?_
   refine A0 trivial ?_
   refine w12 (D7 [] hL) trivial ?_
   refine A0 (j3 g4 hLl g2) ?_
   exact Ad (Ac [] []) Tryz.results22 g4
  ·have g2:decide ((L.length:Int)>200)=false:=decide_eq_false (by omega)
   rw[if_neg (by omega)]
   obtain⟨R,hR⟩:∃R,CB L 0 []=R:=⟨_,rfl⟩
   rw[hR]
   have hv0:lvA []=.nils:=rfl
   have hm0:lvM []=[]:=rfl
   refine A7 Tryz.func22 Tryz.ntmps22 ?_
   refine A0 trivial ?_
   refine w12 (D7 [] hL) trivial ?_
   refine A0 (j3 g4 hLl g2) ?_
   refine AH (κ:=List V) (fun acc=>⟨mkS 0 45 [(0,.c (.str s)),(2,.ptr (2,0) 0),(3,.own (98,0)),(4,.ptr (4,0) 0),(5,.c (.int .i64 acc.length))],
     [((2,0),.box [.c (.int .i64 0),.c (.int .i64 0),.nils]),((98,0),.row false 1 9 (L.map A8)),((4,0),.box [.c (.int .i64 0),.c (.int .i64 0),lvA acc])]++lvM acc⟩)
    (fun acc=>acc.length≤L.length∧CB (L.drop acc.length) acc.length acc=R) (fun acc=>L.length-acc.length) [] ⟨Nat.zero_le _,hR⟩ ?_ ?_
   ·(apply (Ay.of [((2,0),(2,0)),((98,0),(8,0)),((4,0),(4,0))] []);(iterate 2 ((focus (simp only[go_sem,Nat.reduceEqDiff,Nat.reduceAdd,Nat.reduceSub,Nat.reduceLeDiff,Nat.reduceMul,Nat.reduceBEq,Nat.reduceLT,Int.reduceToNat,reduceCtorEq,hv0,hm0,List.append_nil];try (and_intros<;>rfl)));(focus exact rfl)));(iterate 4 (focus (simp[go_sem,hv0,hm0,List.append_nil];done))))
   ·rintro acc ⟨hk,hgo⟩
    dsimp only at hk hgo ⊢
    obtain⟨k,hke⟩:∃k,acc.length=k:=⟨_,rfl⟩
    rw[hke]at hk hgo ⊢
    by_cases hlt:k<L.length
    ·have hdk:decide ((k:Int)<(L.length:Int))=true:=decide_eq_true (by omega)
     rw[List.drop_eq_getElem_cons hlt,CB]at hgo
     have hr:Aj (L.map A8) 1 k=true:=by simp[Aj,hlt,A8]
     have hg:(L.map A8)[k]? = some [C.str L[k]]:=by simp[hlt,A8]
     have hS:=F3 L[k] (by have:=hsz _ (List.getElem_mem hlt);omega)
     have hw:=Ae (k:=k) (by omega)
     generalize L[k]=x at *
     cases hD:Ba x with
     |mk c y =>
      cases y with
      |none =>
       rw[hD]at hgo hS
       dsimp only at hgo
       have hc0:(c.1 != 0)=true:=by simpa using AS (EL hD).1
       unfold L7 at hS
       dsimp only at hS
       subst hgo
       unfold IT Ow
       dsimp only
       rcases Classical.em (acc=[]) with rfl | hne
       ·simp only[hv0,hm0,List.append_nil]
        refine A0 (j4 hLl hdk hr hg) ?_
        refine w7 (A4 [] hS) trivial ?_
        refine A0 hc0 ?_
        exact Ad (Ac [] []) Tryz.results22 hc0
       ·simp only[EH hne,Ku hne,List.cons_append,List.nil_append]
        refine A0 (j4 hLl hdk hr hg) ?_
        refine w7 (A4 [] hS) trivial ?_
        refine A0 hc0 ?_
        exact Ad (Ac [] []) Tryz.results22 hc0
      |some v =>
       rw[hD]at hgo hS
       dsimp only at hgo
       have h00:((0:Int) != 0)=false:=rfl
       unfold L7 at hS
       dsimp only at hS
       have hol:acc.length+1≤1000000:=by omega
       have hva:lvA (acc++[v])=.own (99,1):=EH (by simp)
       have hma:=Ku (acc:=acc++[v]) (by simp)
       have hla:(acc++[v]).length=k+1:=by simp[hke]
       have hrow:((acc++[v]).map V.enc).map An=(acc.map V.enc).map An++[[C.sl (v.enc.map CellD.cs)]]:=by simp[An]
       rw[hrow]at hma
       obtain⟨acc',hacc⟩:∃a,a=acc++[v]:=⟨_,rfl⟩
       rw[←hacc]at hva hma hla hgo
       rcases Classical.em (acc=[]) with he | hne
       ·subst he
        simp only[hv0,hm0,List.append_nil]
        simp only[List.map_nil,List.nil_append]at hma
        refine A0 (j4 hLl hdk hr hg) ?_
        refine w9 (Ah [] hS) trivial ?_
        refine A0 (j2 h00 hw) ?_
        refine⟨acc',by omega,⟨by omega,by rw[hla];exact hgo⟩,?_⟩
        simp only[hva,hma,hla,List.cons_append,List.nil_append]
        exact Ao (Ay.of [((2,0),(2,0)),((98,0),(98,0)),((4,0),(4,0)),((99,1),(42,0))] []) hw
       ·simp only[EH hne,Ku hne,List.cons_append,List.nil_append]
        refine A0 (j4 hLl hdk hr hg) ?_
        refine w9 (Ah [] hS) trivial ?_
        refine A0 (j3 h00 hw hol) ?_
        refine⟨acc',by omega,⟨by omega,by rw[hla];exact hgo⟩,?_⟩
        simp only[hva,hma,hla,List.cons_append,List.nil_append]
        exact Ao (Ay.of [((2,0),(2,0)),((98,0),(98,0)),((4,0),(4,0)),((99,1),(42,0))] []) hw
    ·have hdk:decide ((k:Int)<(L.length:Int))=false:=decide_eq_false (by omega)
     rw[List.drop_eq_nil_of_le (by omega),CB]at hgo
     subst hgo
     rcases Classical.em (acc=[]) with rfl | hne
     ·simp only[hv0,hm0,List.append_nil]
      unfold IT Ow
      dsimp only
      refine A0 (j2 hLl hdk) ?_
      exact Ad (Ac [] []) Tryz.results22 hdk
     ·simp only[EH hne,Ku hne,Hz hne,NH hne,List.cons_append,List.nil_append]
      refine A0 (j2 hLl hdk) ?_
      exact Ad (Ac [((0,0),(99,1))] []) Tryz.results22 hdk
theorem O3 {s:ByteArray}{f:Nat}(h:f<s.size):∃b:UInt8,s.data.toList.drop f=b::s.data.toList.drop (f+1)∧bAt s f=b.toNat:=by
 obtain⟨b,h1,h2⟩:=Ar h
 rw[getElem?_pos s f h]at h1
 cases h1
 exact⟨s[f],List.drop_eq_getElem_cons (by simpa using h),h2⟩
theorem Hu (b:UInt8):(b==10)=true↔b.toNat=10:=by
 rw[beq_iff_eq]
 constructor
 ·rintro rfl;rfl
 ·intro h;exact UInt8.toNat_inj.1 h
theorem LS (s:ByteArray):∀(n f:Nat),f+n=s.size→Lib.indexByte (s.data.toList.drop f) 10=if nlN s n f=0 then -1 else ((nlB s n f-f:Nat):Int)
 | 0,f,h=>by
  rw[List.drop_eq_nil_of_le (by simp;omega)]
  rfl
 |n+1,f,h=>by
  obtain⟨b,h1,h2⟩:=O3 (s:=s) (f:=f) (by omega)
  have ih:=LS s n (f+1) (by omega)
  rw[h1,Lib.indexByte,ih,nlN,nlB]
  by_cases h10:bAt s f=10
  ·have hb:(b==10)=true:=(Hu b).2 (by omega)
   simp[h10,hb]
  ·have hb:(b==10)=false:=by
    cases hq:(b==10) with
    |false=>rfl
    |true=>exact absurd ((Hu b).1 hq) (by omega)
   have hin:=MK s n (f+1)
   by_cases h0:nlN s n (f+1)=0
   ·simp[h10,hb,h0]
   ·simp only[h10,hb,h0,if_false,Nat.zero_add]
    simp
    omega
theorem Lw (s:ByteArray):∀(n f:Nat),f+n=s.size→(s.data.toList.drop f).count 10=nlN s n f
 | 0,f,h=>by
  rw[List.drop_eq_nil_of_le (by simp;omega)]
  rfl
 |n+1,f,h=>by
  obtain⟨b,h1,h2⟩:=O3 (s:=s) (f:=f) (by omega)
  have ih:=Lw s n (f+1) (by omega)
  rw[h1,List.count_cons,ih,nlN]
  by_cases h10:bAt s f=10
  ·have hb:(b==10)=true:=(Hu b).2 (by omega)
   simp[h10,hb]
   omega
  ·have hb:(b==10)=false:=by
    cases hq:(b==10) with
    |false=>rfl
    |true=>exact absurd ((Hu b).1 hq) (by omega)
   simp[h10,hb]
theorem NJ {s:ByteArray}{f a e:Nat}(hf:f≤s.size) (he:f+e≤s.size):(s.extract f s.size).extract a e=s.extract (f+a) (f+e):=by
 apply ByteArray.ext
 apply Array.toList_inj.1
 have hl:s.data.toList.take s.size=s.data.toList:=List.take_of_length_le (Nat.le_of_eq (by simp))
 rw[Cq,Cq,Cq,hl,List.drop_take,List.drop_take,List.drop_drop]
 congr 1
 omega
theorem Gn (s:ByteArray):∀(k f:Nat),f≤s.size→nlN s (s.size-f) f=k→Lib.splitB (bS 10) 0 k (s.extract f s.size)=DH s k f
 | 0,f,hf,h=>rfl
 |k+1,f,hf,h=>by
  obtain⟨h1,h2,h3⟩:=MC s (s.size-f) f (by omega)
  have hge:=(MK s (s.size-f) f).1
  have hix:=LS s (s.size-f) f (by omega)
  have hes:=DU (s:=s) (a:=f) (e:=s.size) (Nat.le_refl _)
  rw[if_neg (by omega)]at hix
  have hl:s.data.toList.take s.size=s.data.toList:=List.take_of_length_le (Nat.le_of_eq (by simp))
  have hi:Lib.indexB (s.extract f s.size) (bS 10)=((nlB s (s.size-f) f-f:Nat):Int):=by
   show Lib.index (s.extract f s.size).data.toList [10]=_
   rw[Lib.index_one,Cq,hl,hix]
  have hb1:(bS 10).size=1:=rfl
  rw[Lib.splitB_hit (bS 10) 0 k _ _ hi,hes,hb1,NJ hf (by omega),NJ hf (by omega),DH]
  rw[show f+0=f from rfl,show f+(nlB s (s.size-f) f-f+0)=nlB s (s.size-f) f from by omega,show f+(nlB s (s.size-f) f-f+1)=nlB s (s.size-f) f+1 from by omega,show f+(s.size-f)=s.size from by omega]
  rw[show f+(s.size-f)-(nlB s (s.size-f) f+1)=s.size-(nlB s (s.size-f) f+1) from by omega]at h3
  rw[Gn s k _ (by omega) (by omega)]
theorem Mn (s:ByteArray):Gg (Lib.splitB (bS 10) 0 (Lib.countB s (bS 10)) s)=CE s:=by
 have hc:Lib.countB s (bS 10)=nlN s s.size 0:=by
  have h1:=Lw s s.size 0 (by omega)
  rw[List.drop_zero]at h1
  rw[←h1]
  exact Lib.count_one 10 _
 have h2:=Gn s (nlN s s.size 0) 0 (Nat.zero_le _) rfl
 have h3:s.extract 0 s.size=s:=by
  apply ByteArray.ext
  apply Array.toList_inj.1
  rw[Cq,List.drop_zero]
  exact List.take_of_length_le (Nat.le_of_eq (by simp))
 rw[h3]at h2
 rw[hc,h2,PY]
end
section
open Go.RowKit Go.Shelf
set_option maxRecDepth 10000
def P4:Ren where
 f:=fun x=>match x with
  | 146=>111
  | 221=>165
  | 268=>195
  | 138=>196
  | 143=>197
  | 195=>219
  | 197=>220
  | 218=>221
  | 219=>222
  | 260=>246
  | 217=>209
  | 225=>247
  | 224=>248
  | 267=>249
  | 266=>235
  | 314=>269
  |n=>n
 t:=fun x=>match x with
  | 9=>9
  | 31=>59
  | 3=>3
  | 4=>4
  | 0=>0
  | 105=>249
  | 21=>21
  | 5=>5
  | 46=>243
  | 119=>275
  | 139=>296
  | 138=>295
  | 146=>297
  | 51=>224
  |n=>n
 g:=fun x=>match x with
  | 1=>0
  | 3=>2
  | 4=>3
  |n=>n
theorem MG:Lays.n146 Tryz.prog P4 where
 mixed:=Be
 f138:=by kernel_rfl
 f143:=by kernel_rfl
 f146:=by kernel_rfl
 f195:=by kernel_rfl
 f197:=by kernel_rfl
 f217:=by kernel_rfl
 f218:=by kernel_rfl
 f219:=by kernel_rfl
 f221:=by kernel_rfl
 f224:=by kernel_rfl
 f225:=by kernel_rfl
 f260:=by kernel_rfl
 f266:=by kernel_rfl
 f267:=by kernel_rfl
 f268:=by kernel_rfl
 f314:=by kernel_rfl
 t0:=Tryz.underlying0
 a0:=Tryz.isAgg0
 z0:=Tryz.sizeOf0
 v0:=Tryz.zeroValue0
 t3:=Tryz.underlying3
 a3:=Tryz.isAgg3
 z3:=Tryz.sizeOf3
 v3:=Tryz.zeroValue3
 t4:=Tryz.underlying4
 a4:=Tryz.isAgg4
 z4:=Tryz.sizeOf4
 v4:=Tryz.zeroValue4
 t5:=Tryz.underlying5
 a5:=Tryz.isAgg5
 z5:=Tryz.sizeOf5
 v5:=Tryz.zeroValue5
 t9:=Tryz.underlying9
 a9:=Tryz.isAgg9
 z9:=Tryz.sizeOf9
 v9:=Tryz.zeroValue9
 t21:=Tryz.underlying21
 a21:=Tryz.isAgg21
 z21:=Tryz.sizeOf21
 v21:=Tryz.zeroValue21
 t31:=Tryz.underlying59
 a31:=Tryz.isAgg59
 z31:=Tryz.sizeOf59
 v31:=Tryz.zeroValue59
 t46:=Tryz.underlying243
 a46:=Tryz.isAgg243
 z46:=Tryz.sizeOf243
 v46:=Tryz.zeroValue243
 t51:=Tryz.underlying224
 a51:=Tryz.isAgg224
 z51:=Tryz.sizeOf224
 v51:=Tryz.zeroValue224
 t105:=Tryz.underlying249
 a105:=Tryz.isAgg249
 z105:=Tryz.sizeOf249
 v105:=Tryz.zeroValue249
 t119:=Tryz.underlying275
 a119:=Tryz.isAgg275
 z119:=Tryz.sizeOf275
 t138:=Tryz.underlying295
 a138:=Tryz.isAgg295
 z138:=Tryz.sizeOf295
 v138:=Tryz.zeroValue295
 t139:=Tryz.underlying296
 a139:=Tryz.isAgg296
 z139:=Tryz.sizeOf296
 v139:=Tryz.zeroValue296
 t146:=Tryz.underlying297
 a146:=Tryz.isAgg297
 z146:=Tryz.sizeOf297
 v146:=Tryz.zeroValue297
 g1:=by kernel_rfl
 g3:=by kernel_rfl
 g4:=by kernel_rfl
theorem Ot {P:Program}{ρ:Ren}(L:Lays.n146 P ρ) (hi9:(P.info? (ρ.t 9)).map (fun i=>(i.zero,i.size,i.bytes))=some (some (.string ByteArray.empty),1,16)) (s:ByteArray) (c:UInt8) (w:World) (hs:s.size<4294967281) :
  Calls P (ρ.f 146) #[.string s,.string ⟨#[c]⟩] w fun e w' =>
   e=.returned (.slice (some ⟨w.heap.size,0,none⟩) (Lib.countB s ⟨#[c]⟩+1) (Lib.countB s ⟨#[c]⟩+1))∧w'=w.alloc (.cells ((Lib.splitB ⟨#[c]⟩ 0 (Lib.countB s ⟨#[c]⟩) s).map Value.string).toArray (ρ.t 9)):=by
 have h1:1≤(⟨#[c]⟩:ByteArray).size:=Nat.le_refl _
 have hle:=Lib.countB_le ⟨#[c]⟩ h1 s.size s (Nat.le_refl _)
 have hlen:=Lib.splitB_all ⟨#[c]⟩ h1 0 _ s rfl
 have hC:Calls P (ρ.f 138) #[.string s,.string ⟨#[c]⟩] w fun e w'=>e=.returned (.int .i64 (Lib.countB s ⟨#[c]⟩))∧w'=w:=by
  refine (Any.strings_Count_one { L with } s c w).mono fun e w' ⟨he,hw⟩=>⟨?_,hw⟩
  rw[he]
  show _=Ending.returned (Value.int .i64 ((Lib.count s.data.toList [c]:Nat):Int))
  rw[Lib.count_one]
  rfl
 have hI:∀(x:ByteArray) (d:Array Value),x.size≤s.size→Calls P (ρ.f 143) #[.string x,.string ⟨#[c]⟩] (w.alloc (.cells d (ρ.t 9))) fun e w'=>e=.returned (.int .i64 (Lib.indexB x ⟨#[c]⟩))∧w'=w.alloc (.cells d (ρ.t 9)):=by
  intro x d _
  refine (Any.strings_Index_one { L with } x c _).mono fun e w' ⟨he,hw⟩=>⟨?_,hw⟩
  rw[he]
  show _=Ending.returned (Value.int .i64 (Lib.index x.data.toList [c]))
  rw[Lib.index_one]
 have c:=Any.strings_genSplit_core { L with } hi9 s ⟨#[c]⟩ 0 (-1) (Lib.countB s ⟨#[c]⟩+1) w hs h1 (Nat.zero_le _) hI hC (by decide) (by decide) (by rw[if_pos (by decide)];omega)
 rw[Nat.add_sub_cancel,hlen]at c
 have e2:=Lib.cellsOf_full (Lib.splitB ⟨#[‹UInt8›]⟩ 0 (Lib.countB s ⟨#[‹UInt8›]⟩) s)
 rw[hlen]at e2
 rw[e2]at c
 have t3:=L.t3;have t9:=L.t9;have t31:=L.t31
 have a3:=L.a3;have a9:=L.a9;have a31:=L.a31
 have z3:=L.z3;have v3:=L.v3;have z9:=L.z9;have v9:=L.v9;have z31:=L.z31;have v31:=L.v31
 have e221:∀args w,(callFunc (ρ.f 221) args).run P w=.ok (.enter (ρ.f 221) args) w:=enters_of L.f221 (by kernel_rfl) rfl
 go_enter L.f146,Body.n146_ntmps ρ
 go_wp2_with (go_at_fn (ρ.f 221);refine c.mono ?_;rintro e w' ⟨rfl,hw⟩;rw[hw])
 go_ret
 exact⟨rfl,rfl⟩
theorem Mg (w:World) (S:Nat→Prop):∀l:List ByteArray,Ab w S (l.map A8) (l.map fun x=>[Value.string x]) []
 | []=>by simp[Ab]
 |x::l=>⟨_,_,[],[],rfl,rfl,⟨_,_,[],[],rfl,rfl,⟨rfl,rfl⟩,⟨rfl,rfl⟩⟩,Mg w S l⟩
theorem OL (l:List ByteArray):(l.map fun x=>[Value.string x]).flatten=l.map Value.string:=by
 induction l with
 |nil=>rfl
 |cons x l ih=>simp[ih]
theorem Nu (s:ByteArray) (hs:s.size≤1048576):AC Tryz.prog 111 [.c (.str s),.c (.str ⟨#[10]⟩)] [] (.own (0,0)) [((0,0),.row false 1 9 ((Lib.splitB (bS 10) 0 (Lib.countB s (bS 10)) s).map A8))]:=by
 refine AC.of_row (ED _) fun S w κ vs hv=>?_
 obtain⟨v,vs',rfl,⟨rfl,_⟩,v2,vs2,rfl,⟨rfl,_⟩,rfl⟩:=hv
 refine (Ot MG (by kernel_rfl) s 10 w (by omega)).mono ?_
 rintro e w' ⟨rfl,rfl⟩
 have hlen:=Lib.splitB_all (bS 10) (Nat.le_refl _) 0 _ s rfl
 have hle:=Lib.countB_le (bS 10) (Nat.le_refl _) s.size s (Nat.le_refl _)
 generalize Lib.splitB (bS 10) 0 (Lib.countB s (bS 10)) s=l at *
 generalize Lib.countB s (bS 10)=n at *
 refine⟨(Below.refl _ _).alloc (Nat.le_refl _) _,_,l.map fun x=>[Value.string x],rfl,Mg _ _ l,by simp,?_⟩
 rw[OL,List.length_map,hlen]
 refine⟨by simp[hlen],.inr ⟨w.heap.size,n+1,(l.map Value.string).toArray,rfl,Nat.le_refl _,heap_alloc_new w _,Nat.le_refl _,?_,?_,?_⟩⟩
 ·simp[maxLen];omega
 ·simp[hlen]
 ·show List.take _ (l.map Value.string)=_
  exact List.take_of_length_le (by simp[hlen])
def Gx (s:ByteArray):List ByteArray:=Lib.splitB (bS 10) 0 (Lib.countB s (bS 10)) s
theorem Kx (s:ByteArray):Gg (Gx s)=CE s:=Mn s
theorem Nt (s:ByteArray):0<(Gx s).length∧(Gx s).length≤s.size+1:=by
 have hlen:=Lib.splitB_all (bS 10) (Nat.le_refl _) 0 _ s rfl
 have hle:=Lib.countB_le (bS 10) (Nat.le_refl _) s.size s (Nat.le_refl _)
 unfold Gx
 omega
end
section
open Go.RowKit
set_option maxRecDepth 10000
theorem MJ (s:ByteArray) (hs:s.size≤1048576):AC Tryz.prog 59 [.c (.str s)] [] (.c (.sl ((CE s).map A8))) []:=by
 have h:=Nu s hs
 change AC Tryz.prog 111 [.c (.str s),.c (.str ⟨#[10]⟩)] [] (.own (0,0)) [((0,0),.row false 1 9 ((Gx s).map A8))]at h
 obtain⟨hp,hq⟩:=Nt s
 rw[←Kx]
 generalize Gx s=l at *
 have hll:(l.map A8).length=l.length:=by simp
 obtain⟨k,hk⟩:∃k,l.length=k+1:=⟨l.length-1,by omega⟩
 have hw:IntKind.i64.wrap ((l.length:Int)-1)=(k:Int):=by rw[C4 (by omega) (by omega)];omega
 have hlt:k<l.length:=by omega
 have hkl:k≤l.length:=by omega
 have hr:Aj (l.map A8) 1 (k:Int)=true:=by simp[Aj,A8,hlt]
 have hg:(l.map A8)[k]? = some [C.str l[k]]:=by simp[hlt,A8]
 have hlast:l.getLast? = some l[k]:=by rw[List.getLast?_eq_getElem?,hk,Nat.add_sub_cancel,List.getElem?_eq_getElem hlt]
 unfold Gg
 rw[hlast]
 cases he:(l[k].toList==ByteArray.empty.toList) with
 |true =>
  have hx:l[k]=ByteArray.empty:=Aw (by simpa using he)
  have htk:(l.map A8).take k=l.dropLast.map A8:=by rw[←List.map_take,List.dropLast_eq_take,hk,Nat.add_sub_cancel]
  rw[if_pos (by rw[hx])]
  refine A7 Tryz.func59 Tryz.ntmps59 ?_
  refine A0 trivial ?_
  refine w12 (D7 [] h) trivial ?_
  refine A0 (j5 hll hw hr hg he) ?_
  ((with_reducible apply SV);(iterate 4 (focus (first | (simp only[go_sem,Nat.reduceEqDiff,Nat.reduceAdd,Nat.reduceSub,Nat.reduceLeDiff,Nat.reduceMul,Nat.reduceBEq,Nat.reduceLT,Int.reduceToNat,reduceCtorEq,hll,hkl,htk];first | done | exact rfl | (and_intros<;>rfl)) | exact rfl | decide))))
  refine A0 trivial ?_
  exact Al (A6 []) Tryz.results59
 |false =>
  have hx:¬(some l[k]=some ByteArray.empty):=by
   intro h
   injection h with h
   rw[h]at he
   simp at he
  rw[if_neg hx]
  have ho:AC Tryz.prog 59 [.c (.str s)] [] (.own (0,0)) [((0,0),.row false 1 9 (l.map A8))]:=by
   refine A7 Tryz.func59 Tryz.ntmps59 ?_
   refine A0 trivial ?_
   refine w12 (D7 [] h) trivial ?_
   refine A0 (j5 hll hw hr hg he) ?_
   exact Ad (Ac [((0,0),(6,0))] []) Tryz.results59 he
  (apply (AC.says [] [(0,0)] ho);(focus (simp only[go_sem,Nat.reduceEqDiff,Nat.reduceAdd,Nat.reduceSub,Nat.reduceLeDiff,Nat.reduceMul,Nat.reduceBEq,Nat.reduceLT,Int.reduceToNat,reduceCtorEq];try (and_intros<;>rfl)));(focus exact rfl);(focus (simp only[go_sem,Nat.reduceEqDiff,Nat.reduceAdd,Nat.reduceSub,Nat.reduceLeDiff,Nat.reduceMul,Nat.reduceBEq,Nat.reduceLT,Int.reduceToNat,reduceCtorEq];try (and_intros<;>rfl)));(focus exact rfl);(iterate 4 (focus (simp[go_sem];done))))
end
end Go.Proofs.YtlciedpfjhkkdaaGreatDoor
