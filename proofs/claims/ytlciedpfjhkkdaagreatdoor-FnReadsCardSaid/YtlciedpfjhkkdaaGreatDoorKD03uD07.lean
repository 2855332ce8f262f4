/- Texts of this proof: D03 D04 E39 M51 D05 D06 D07. -/
import Derived.Test.YtlciedpfjhkkdaaGreatDoorKG80uG81
import Derived.Test.YtlciedpfjhkkdaaGreatDoorKM50
import Derived.Laws.Strings3
set_option linter.all false
set_option maxHeartbeats 8000000
namespace Go.Proofs.YtlciedpfjhkkdaaGreatDoor
section
open Go.RowKit
set_option maxRecDepth 10000
def rdA (R:Rd V) (x:ByteArray):AV:=match R with
 | .ok v e=>rdOk (.c (.sl (v.enc.map CellD.cs))) x e
 | .bad c p=>rdBad c p
theorem wrap_plus {a b:Nat}(h:a+b<9000000000000000000):IntKind.i64.wrap ((a:Int)+(b:Int))=((a+b:Nat):Int):=by
 rw[i64_in (by omega) (by omega)];omega
theorem l2Word_ac (s:ByteArray) (hs:s.size≤1000000) (i:Nat) (hi:i≤s.size) (w:ByteArray) (hw:w.size≤100) (m:Int) :
  AC Tryz.prog 73 [.c (.str s),.c (.int .i64 i),.c (.str w),.c (.int .i64 m)] [] (rdA (wordR s (kindV m) i (w.data.toList.map UInt8.toNat) 0) ByteArray.empty) []:=by
 have hlen:(w.data.toList.map UInt8.toNat).length=w.size:=by simp
 obtain⟨l,hl⟩:∃l,w.data.toList.map UInt8.toNat=l:=⟨_,rfl⟩
 rw[hl]at hlen ⊢
 obtain⟨R,hR⟩:∃R,wordR s (kindV m) i l 0=R:=⟨_,rfl⟩
 rw[hR]
 refine wEnter Tryz.func73 Tryz.ntmps73 ?_
 refine wRUN trivial ?_
 refine a_loop (κ:=Nat) (fun k=>⟨mkS 0 45 [(0,.c (.str s)),(1,.c (.int .i64 i)),(2,.c (.str w)),(3,.c (.int .i64 m)),(8,.ptr (8,0) 0),(9,.c (.int .i64 k))],[((8,0),.box [.nils,.c (.str ByteArray.empty),.c (.int .i64 0),.c (.int .i64 0),.c (.int .i64 0)])]⟩)
  (fun k=>k≤w.size∧wordR s (kindV m) i (l.drop k) k=R) (fun k=>w.size-k) 0 ⟨Nat.zero_le _,hR⟩ ?_ ?_
 ·exact wSays (Says.of [((8,0),(8,0))] []) hi
 ·rintro k ⟨hk,hgo⟩
  by_cases hlt:k<w.size
  ·have hdk:decide ((k:Int)<(w.size:Int))=true:=by simpa using hlt
   have hwk:=wrap_succ (k:=k) (by omega)
   have hwp:=wrap_plus (a:=i) (b:=k) (by omega)
   obtain⟨b,hb,hb2⟩:=bAt_in hlt
   have hlk:l[k]? = some b.toNat:=by
    have:=bAt_list w k
    rw[←hl,List.getElem?_map]
    cases hq:w.data.toList[k]? with
    |none=>rw[List.getElem?_eq_none_iff,len_list]at hq;omega
    |some b' =>
     rw[hq,hb2]at this
     simp only at this
     rw[Option.map_some,this]
   obtain⟨hkl,hke⟩:=List.getElem?_eq_some_iff.1 hlk
   rw[List.drop_eq_getElem_cons hkl,hke]at hgo
   simp only[wordR]at hgo
   have hbad:=l2Bad_ac 5 (i+k)
   by_cases hin:i+k<s.size
   ·have hge:decide (((i+k:Nat):Int)≥(s.size:Int))=false:=by simp;omega
    obtain⟨b1,h1,h2⟩:=bAt_in hin
    rw[h2]at hgo
    by_cases heq:b1.toNat=b.toNat
    ·rw[if_pos heq]at hgo
     have hne:(((b1.toNat:Nat):Int) != ((b.toNat:Nat):Int))=false:=by simp[heq]
     refine wRUN (j7 hdk hwp hge h1 hb hne hwk) ?_
     refine⟨k+1,by omega,⟨by omega,hgo⟩,?_⟩
     exact wSays (Says.of [((8,0),(8,0))] []) hwk
    ·rw[if_neg heq]at hgo
     subst hgo
     have hne:(((b1.toNat:Nat):Int) != ((b.toNat:Nat):Int))=true:=by simp;omega
     unfold rdA
     unfold rdBad at hbad ⊢
     refine wRUN (j6 hdk hwp hge h1 hb hne) ?_
     refine w7 (op_data [] hbad) trivial ?_
     refine wRUN trivial ?_
     exact wRet (ret_data []) Tryz.results73
   ·have hge:decide (((i+k:Nat):Int)≥(s.size:Int))=true:=by simp;omega
    rw[bAt_end (by omega),if_neg (by have:=b.toNat_lt;omega)]at hgo
    subst hgo
    unfold rdA
    unfold rdBad at hbad ⊢
    refine wRUN (j3 hdk hwp hge) ?_
    refine w7 (op_data [] hbad) trivial ?_
    refine wRUN trivial ?_
    exact wRet (ret_data []) Tryz.results73
  ·have hdk:decide ((k:Int)<(w.size:Int))=false:=by simpa using hlt
   have hkw:k=w.size:=by omega
   rw[List.drop_eq_nil_of_le (by omega)]at hgo
   simp only[wordR]at hgo
   subst hgo
   have hwp:=wrap_plus (a:=i) (b:=w.size) (by omega)
   have hme:=mkV_enc m
   unfold rdA rdOk kindV
   rw[hkw]at hdk ⊢
   refine wRUN (j2 hdk hwp) ?_
   exact wRetOf (ret_of [] [(39,0)]) Tryz.results73 hme
set_option maxRecDepth 10000
theorem l2Number_ok (s:ByteArray) (hs:s.size≤1000000) (i:Nat) (hi:i<s.size) (hd:digB (bAt s (numA s i))=true):AC Tryz.prog 132 [.c (.str s),.c (.int .i64 i)] [] (.tup [.c (.int .i64 (numE s i)),.c (.int .i64 0)]) []:=by
 have ha0:=bAt_lt (s:=s) (i:=numA s i) (by have:=dig_lt hd;omega)
 have hdi:decide ((i:Int)<(s.size:Int))=true:=by simpa using hi
 obtain⟨b,hg,hb⟩:=bAt_in hi
 obtain⟨b2,hg2,hb2⟩:=bAt_in ha0
 have hdg:=l2Digit_ac b2.toNat
 rw[←hb2,hd]at hdg
 have hbn2:((b2.toNat:Nat):Int)=((bAt s (numA s i):Nat):Int):=by rw[hb2]
 have hbn:((b.toNat:Nat):Int)=((bAt s i:Nat):Int):=by rw[hb]
 have hwi:=wrap_succ (k:=i) (by omega)
 have hga:decide (((numA s i:Nat):Int)≥(s.size:Int))=false:=by simp;omega
 have hwa:=wrap_succ (k:=numA s i) (by omega)
 have hEz:bAt s (numA s i)=48→numE s i=numA s i+1:=fun h=>by unfold numE;rw[if_pos h]
 have hEn:bAt s (numA s i)≠48→digE s (numA s i)=numE s i:=fun h=>by unfold numE;rw[if_neg h]
 have fin:∀a,numA s i=a→∀j,a≤j→j≤s.size→digE s j=numE s i→True:=fun _ _ _ _ _ _=>trivial
 clear fin
 have hA:(bAt s i=45∧numA s i=i+1)∨(bAt s i≠45∧numA s i=i):=by
  unfold numA
  by_cases h:bAt s i=45
  ·exact .inl ⟨h,if_pos h⟩
  ·exact .inr ⟨h,if_neg h⟩
 generalize numA s i=a at *
 generalize numE s i=e at *
 rcases hA with⟨h45,hA⟩ | ⟨h45,hA⟩
 all_goals
  first
   |have q45:(((bAt s i:Nat):Int)==45)=true:=by simp;omega
   |have q45:(((bAt s i:Nat):Int)==45)=false:=by simp;omega
  subst hA
  by_cases h48:b2.toNat=48
  ·have q48:(((b2.toNat:Nat):Int)==48)=true:=by simp;omega
   have r48:=q48
   rw[hbn2]at r48
   have he:=hEz (by omega)
   subst he
   refine wEnter Tryz.func132 Tryz.ntmps132 ?_
   refine wRUN (j8 hdi hg hbn q45 hwi hga hg2 hbn2) ?_
   refine w7 (op_data [] hdg) trivial ?_
   refine wRUN (j4 hg2 hbn2 r48 hwa) ?_
   exact wRet (ret_data []) Tryz.results132
  ·have q48:(((b2.toNat:Nat):Int)==48)=false:=by simp;omega
   have r48:=q48
   rw[hbn2]at r48
   have he:=hEn (by omega)
   refine wEnter Tryz.func132 Tryz.ntmps132 ?_
   refine wRUN (j8 hdi hg hbn q45 hwi hga hg2 hbn2) ?_
   refine w7 (op_data [] hdg) trivial ?_
   refine wRUN (j3 hg2 hbn2 r48) ?_
   refine a_loop (κ:=Nat) (fun j=>⟨mkS 0 49 [(0,.c (.str s)),(1,.c (.int .i64 j))],[]⟩) (fun j=>j≤s.size∧digE s j=e) (fun j=>s.size-j) _ ⟨by omega,he⟩ ?_ ?_
   ·exact wSays (Says.of [] []) he
   ·rintro j ⟨hj,hje⟩
    by_cases hlt:j<s.size
    ·have hdk:decide ((j:Int)<(s.size:Int))=true:=by simpa using hlt
     have hwj:=wrap_succ (k:=j) (by omega)
     obtain⟨b3,hg3,hb3⟩:=bAt_in hlt
     have hdg3:=l2Digit_ac b3.toNat
     have hbn3:((b3.toNat:Nat):Int)=((bAt s j:Nat):Int):=by rw[hb3]
     rw[←hb3]at hdg3
     cases hdb:digB (bAt s j) with
     |true =>
      rw[hdb]at hdg3
      refine wRUN (j3 hdk hg3 hbn3) ?_
      refine w7 (op_data [] hdg3) trivial ?_
      refine wRUN hwj ?_
      refine⟨j+1,by omega,⟨by omega,by rw[←digE_dig hdb,hje]⟩,?_⟩
      exact wSays (Says.of [] []) hwj
     |false =>
      rw[hdb]at hdg3
      rw[digE_stop hdb]at hje
      subst hje
      refine wRUN (j3 hdk hg3 hbn3) ?_
      refine w7 (op_data [] hdg3) trivial ?_
      refine wRUN trivial ?_
      exact wRet (ret_data []) Tryz.results132
    ·have hdk:decide ((j:Int)<(s.size:Int))=false:=by simpa using hlt
     rw[digE_stop (by rw[bAt_end (by omega)];rfl)]at hje
     subst hje
     refine wRUN hdk ?_
     exact wRet (ret_data []) Tryz.results132
theorem l2Number_bad (s:ByteArray) (hs:s.size≤1000000) (i:Nat) (hi:i<s.size) (hd:digB (bAt s (numA s i))=false):AC Tryz.prog 132 [.c (.str s),.c (.int .i64 i)] [] (.tup [.c (.int .i64 (-1)),.c (.int .i64 (numA s i))]) []:=by
 have hdi:decide ((i:Int)<(s.size:Int))=true:=by simpa using hi
 obtain⟨b,hg,hb⟩:=bAt_in hi
 have hbn:((b.toNat:Nat):Int)=((bAt s i:Nat):Int):=by rw[hb]
 have hwi:=wrap_succ (k:=i) (by omega)
 have hA:(bAt s i=45∧numA s i=i+1)∨(bAt s i≠45∧numA s i=i):=by
  unfold numA
  by_cases h:bAt s i=45
  ·exact .inl ⟨h,if_pos h⟩
  ·exact .inr ⟨h,if_neg h⟩
 generalize numA s i=a at *
 by_cases ha0:a<s.size
 ·obtain⟨b2,hg2,hb2⟩:=bAt_in ha0
  have hdg:=l2Digit_ac b2.toNat
  rw[←hb2,hd]at hdg
  have hbn2:((b2.toNat:Nat):Int)=((bAt s a:Nat):Int):=by rw[hb2]
  have hga:decide (((a:Nat):Int)≥(s.size:Int))=false:=by simp;omega
  rcases hA with⟨h45,hA⟩ | ⟨h45,hA⟩
  all_goals
   first
    |have q45:(((bAt s i:Nat):Int)==45)=true:=by simp;omega
    |have q45:(((bAt s i:Nat):Int)==45)=false:=by simp;omega
   subst hA
   refine wEnter Tryz.func132 Tryz.ntmps132 ?_
   refine wRUN (j8 hdi hg hbn q45 hwi hga hg2 hbn2) ?_
   refine w7 (op_data [] hdg) trivial ?_
   refine wRUN trivial ?_
   exact wRet (ret_data []) Tryz.results132
 ·have hga:decide (((a:Nat):Int)≥(s.size:Int))=true:=by simp;omega
  rcases hA with⟨h45,hA⟩ | ⟨h45,hA⟩
  ·have q45:(((bAt s i:Nat):Int)==45)=true:=by simp;omega
   subst hA
   refine wEnter Tryz.func132 Tryz.ntmps132 ?_
   refine wRUN (j6 hdi hg hbn q45 hwi hga) ?_
   exact wRet (ret_data []) Tryz.results132
  ·omega
end
section
open Go.RowKit
section
variable {P:Program} {o:Oper} {σ:ASt} {t:TypeId}
theorem run_subFrom {x lo:Operand}{s:ByteArray}{i:Int}(ho:o.op=.slice t x (some lo) none none) (hx:σ.ev x=.c (.str s)) (hlo:σ.ev lo=.c (.int .i64 i)) (ht:P.underlying t=some .string)
  (h0:0≤i) (h1:i≤s.size):OpRun P o σ ⟨[],[],.c (.str (s.extract i.toNat s.size))⟩:=by
 refine OpRun.pure fun Γ σ' a w ow κ hag hr=>?_
 have e1:=AR.str (hag.ev hr (by rw[ho];simp[Op.operands]) hx)
 have e2:=(hag.ev hr (by rw[ho];simp[Op.operands]) hlo).1
 refine⟨.string (s.extract i.toNat s.size),?_,⟨rfl,rfl⟩⟩
 have hrun:=run_slice_string_from_if (P:=P) w t s .i64 i ht
 rw[if_pos ⟨h0,h1⟩]at hrun
 unfold execOp
 rw[ho]
 simp[e1,e2,hrun,run_sliceAt_string _ t _ _ _ _ ht]
end
section
variable {P:Program} {σ τ:ASt} {ops:Array Oper} {r:List Oper} {fs:List AEff} {K:ASt→List AEff→Prop} {E:AEff} {d:Option Tmp} {ty':TypeId} {pos:String} {af:Array Edge} {gd:Option (Nat×Bool)}
theorem op_subFrom {t:TypeId}{x lo:Operand}{s y:ByteArray}{i:Int}(hy:s.extract i.toNat s.size=y) (h0:0≤i) (h1:i≤s.size) (ht:P.underlying t=some .string)
  (hg:gate ops σ ⟨d,.slice t x (some lo) none none,ty',pos,af,gd⟩=some true) (hx:σ.ev x=.c (.str s)) (hlo:σ.ev lo=.c (.int .i64 i))
  (hE:(⟨[],[],.c (.str y)⟩:AEff)=E) (hτ:σ.upd d E=τ) (h:awpOps P ops r τ (fs++[E]) K):awpOps P ops (⟨d,.slice t x (some lo) none none,ty',pos,af,gd⟩::r) σ fs K:=by
 subst hE hy
 exact op_known hg (run_subFrom rfl hx hlo ht h0 h1).sound hτ h
end
end
section
open Go.RowKit
theorem ext_size {s:ByteArray}{a e:Nat}(h:e≤s.size):(s.extract a e).size=e-a:=by
 rw[ByteArray.size_extract]
 omega
theorem ext_list (s:ByteArray) (a e:Nat):(s.extract a e).data.toList=(s.data.toList.take e).drop a:=by
 rw[Lib.extract_data,List.drop_take]
theorem ext_at {s:ByteArray}{a e k:Nat}(h:e≤s.size) (hk:a+k<e):bAt (s.extract a e) k=bAt s (a+k):=by
 rw[bAt_list,bAt_list,ext_list,List.getElem?_drop,List.getElem?_take]
 rw[if_pos hk]
set_option maxRecDepth 10000
theorem decN_in {s:ByteArray}{a k:Nat}(hk:k≤16) (h:∀j,a≤j→j<a+k→digB (bAt s j)=true):decN s a k<10000000000000000:=by
 have h1:=decN_lt k h
 have h2:(10:Nat) ^ k≤10 ^ 16:=Nat.pow_le_pow_right (by decide) hk
 have h3:(10:Nat) ^ 16=10000000000000000:=by decide
 omega
theorem decN_bound {s:ByteArray}{a k:Nat}(hk:k≤16) (h:∀j,a≤j→j<a+k→digB (bAt s j)=true) {b:Nat}(hb:48≤b∧b≤57) :
  IntKind.i64.wrap ((decN s a k:Int)*10)=((decN s a k*10:Nat):Int)∧IntKind.u8.wrap ((b:Int)-48)=((b-48:Nat):Int)∧IntKind.i64.wrap ((b-48:Nat):Int)=((b-48:Nat):Int)∧IntKind.i64.wrap (((decN s a k*10:Nat):Int)+((b-48:Nat):Int))=((decN s a k*10+(b-48):Nat):Int):=by
 have h1:=decN_in hk h
 refine⟨?_,?_,i64_in (by omega) (by omega),?_⟩
 ·rw[i64_in (by omega) (by omega)];omega
 ·rw[u8_in (by omega) (by omega)];omega
 ·rw[i64_in (by omega) (by omega)];omega
set_option maxRecDepth 10000
def valA (m:Bool) (u:ByteArray):AV:=if 16<u.size∨1000000000000000<decN u 0 u.size then .tup [.c (.int .i64 0),.c (.bool false)] else .tup [.c (.int .i64 (if m then -((decN u 0 u.size:Nat):Int) else ((decN u 0 u.size:Nat):Int))),.c (.bool true)]
theorem l2Value_ac (t:ByteArray) (h0:0<t.size) (hs:t.size≤1000000) (m:Bool) (u:ByteArray) (hm:(bAt t 0==45)=m) (hu:(if m then t.extract 1 t.size else t)=u) (hd:∀j,j<u.size→digB (bAt u j)=true) :
  AC Tryz.prog 133 [.c (.str t)] [] (valA m u) []:=by
 have t3:=Tryz.underlying9
 obtain⟨b0,hg0,hb0⟩:=bAt_in h0
 have q0:(((b0.toNat:Nat):Int)==45)=m:=by rw[←hb0,←hm];exact cast_beq _ 45
 have hus:u.size≤1000000:=by
  rw[←hu]
  cases m with
  |false=>exact hs
  |true=>rw[if_pos rfl,ext_size (Nat.le_refl _)];omega
 have main:∀σ:List (Nat×AV),True:=fun _=>trivial
 clear main
 unfold valA
 by_cases h16:16<u.size
 ·have g16:decide ((u.size:Int)>16)=true:=by simp;omega
  rw[if_pos (.inl h16)]
  cases m with
  |false =>
   simp only[Bool.false_eq_true,if_false]at hu
   subst hu
   refine wEnter Tryz.func133 Tryz.ntmps133 ?_
   refine wRUN (j3 hg0 q0 g16) ?_
   exact wRet (ret_data []) Tryz.results133
  |true =>
   simp only[if_true]at hu
   refine wEnter Tryz.func133 Tryz.ntmps133 ?_
   refine wRUN (j2 hg0 q0) ?_
   refine w5 (op_subFrom (s:=t) (y:=u) (i:=1) hu (by omega) (by omega) t3) trivial ?_
   refine wRUN g16 ?_
   exact wRet (ret_data []) Tryz.results133
 ·have g16:decide ((u.size:Int)>16)=false:=by simp;omega
  have loop:∀(n:Nat),n=decN u 0 u.size→True:=fun _ _=>trivial
  clear loop
  have hnx:∀k,decN u 0 (k+1)=decN u 0 k*10+(bAt u k-48):=fun k=>by
   show decN u 0 k*10+(bAt u (0+k)-48)=_
   rw[Nat.zero_add]
  have hbd:∀k,k<u.size→_:=fun k (hk:k<u.size)=>decN_bound (s:=u) (a:=0) (k:=k) (by omega) (fun j _ h2=>hd j (by omega)) (dig_lt (hd k hk))
  have hbn:∀k,k<u.size→∃b:UInt8,u[k]? = some b∧((b.toNat:Nat):Int)=((bAt u k:Nat):Int):=fun k hk=>by
   obtain⟨b,h1,h2⟩:=bAt_in hk
   exact⟨b,h1,by rw[h2]⟩
  have hlt:=decN_in (s:=u) (a:=0) (k:=u.size) (by omega) (fun j _ h2=>hd j (by omega))
  cases m with
  |false =>
   simp only[Bool.false_eq_true,if_false]at hu ⊢
   subst hu
   refine wEnter Tryz.func133 Tryz.ntmps133 ?_
   refine wRUN (j3 hg0 q0 g16) ?_
   refine a_loop (κ:=Nat) (fun k=>⟨mkS 0 36 [(0,.c (.str t)),(4,.c (.bool false)),(5,.c (.int .i64 (decN t 0 k))),(6,.c (.int .i64 k))],[]⟩) (fun k=>k≤t.size) (fun k=>t.size-k) 0 (Nat.zero_le _) ?_ ?_
   ·exact wSays (Says.of [] []) trivial
   ·intro k hk
    by_cases hlt2:k<t.size
    ·have hdk:decide ((k:Int)<(t.size:Int))=true:=by simpa using hlt2
     have hw:=wrap_succ (k:=k) (by omega)
     obtain⟨b,hg,hbe⟩:=hbn k hlt2
     obtain⟨w1,w2,w3,w4⟩:=hbd k hlt2
     have hn1:=hnx k
     (repeat (first | (with_reducible first | refine a_seq ?_ | refine a_region ?_ | refine a_block ?_ | refine a_scope ?_) | ((with_reducible apply op_any);(iterate 2 (focus (first | (simp only[go_sem,Nat.reduceEqDiff,Nat.reduceAdd,Nat.reduceSub,Nat.reduceLeDiff,Nat.reduceMul,Nat.reduceBEq,Nat.reduceLT,Int.reduceToNat,reduceCtorEq,hdk,hg,hbe,w1,w2,w3,w4,hw];first | done | exact rfl | (and_intros<;>rfl)) | exact rfl | decide)))) | ((with_reducible refine o_nil ?_);dsimp only;try ((with_reducible apply o_draw);(focus (simp only[go_sem];exact rfl));(focus decide))) | ((with_reducible first | refine a_ret ?_ | refine a_skip ?_ | refine a_label ?_);dsimp only) | ((with_reducible refine a_exit ?_);dsimp only;simp only[if_true,if_false,Nat.reduceEqDiff]) | ((with_reducible apply a_if);(focus (simp only[go_sem,Nat.reduceBEq,Nat.reduceLT,hdk,hg,hbe,w1,w2,w3,w4,hw];exact rfl));dsimp only[cond_true,cond_false]) | ((with_reducible refine a_draw ?_ ?_);(focus exact rfl))))
     refine⟨k+1,by omega,by omega,?_⟩
     exact wSays (Says.of [] []) (j2 hn1 hw)
    ·have hdk:decide ((k:Int)<(t.size:Int))=false:=by simpa using hlt2
     have hke:k=t.size:=by omega
     subst hke
     by_cases hbig:1000000000000000<decN t 0 t.size
     ·have gb:decide (((decN t 0 t.size:Nat):Int)>1000000000000000)=true:=by simp;omega
      rw[if_pos (.inr hbig)]
      refine wRUN (j2 hdk gb) ?_
      exact wRet (ret_data []) Tryz.results133
     ·have gb:decide (((decN t 0 t.size:Nat):Int)>1000000000000000)=false:=by simp;omega
      rw[if_neg (by omega)]
      refine wRUN (j2 hdk gb) ?_
      exact wRet (ret_data []) Tryz.results133
  |true =>
   simp only[if_true]at hu ⊢
   refine wEnter Tryz.func133 Tryz.ntmps133 ?_
   refine wRUN (j2 hg0 q0) ?_
   refine w5 (op_subFrom (s:=t) (y:=u) (i:=1) hu (by omega) (by omega) t3) trivial ?_
   refine wRUN g16 ?_
   refine a_loop (κ:=Nat) (fun k=>⟨mkS 0 36 [(0,.c (.str u)),(4,.c (.bool true)),(5,.c (.int .i64 (decN u 0 k))),(6,.c (.int .i64 k))],[]⟩) (fun k=>k≤u.size) (fun k=>u.size-k) 0 (Nat.zero_le _) ?_ ?_
   ·exact wSays (Says.of [] []) trivial
   ·intro k hk
    by_cases hlt2:k<u.size
    ·have hdk:decide ((k:Int)<(u.size:Int))=true:=by simpa using hlt2
     have hw:=wrap_succ (k:=k) (by omega)
     obtain⟨b,hg,hbe⟩:=hbn k hlt2
     obtain⟨w1,w2,w3,w4⟩:=hbd k hlt2
     have hn1:=hnx k
     (repeat (first | (with_reducible first | refine a_seq ?_ | refine a_region ?_ | refine a_block ?_ | refine a_scope ?_) | ((with_reducible apply op_any);(iterate 2 (focus (first | (simp only[go_sem,Nat.reduceEqDiff,Nat.reduceAdd,Nat.reduceSub,Nat.reduceLeDiff,Nat.reduceMul,Nat.reduceBEq,Nat.reduceLT,Int.reduceToNat,reduceCtorEq,hdk,hg,hbe,w1,w2,w3,w4,hw];first | done | exact rfl | (and_intros<;>rfl)) | exact rfl | decide)))) | ((with_reducible refine o_nil ?_);dsimp only;try ((with_reducible apply o_draw);(focus (simp only[go_sem];exact rfl));(focus decide))) | ((with_reducible first | refine a_ret ?_ | refine a_skip ?_ | refine a_label ?_);dsimp only) | ((with_reducible refine a_exit ?_);dsimp only;simp only[if_true,if_false,Nat.reduceEqDiff]) | ((with_reducible apply a_if);(focus (simp only[go_sem,Nat.reduceBEq,Nat.reduceLT,hdk,hg,hbe,w1,w2,w3,w4,hw];exact rfl));dsimp only[cond_true,cond_false]) | ((with_reducible refine a_draw ?_ ?_);(focus exact rfl))))
     refine⟨k+1,by omega,by omega,?_⟩
     exact wSays (Says.of [] []) (j2 hn1 hw)
    ·have hdk:decide ((k:Int)<(u.size:Int))=false:=by simpa using hlt2
     have hke:k=u.size:=by omega
     subst hke
     by_cases hbig:1000000000000000<decN u 0 u.size
     ·have gb:decide (((decN u 0 u.size:Nat):Int)>1000000000000000)=true:=by simp;omega
      rw[if_pos (.inr hbig)]
      refine wRUN (j2 hdk gb) ?_
      exact wRet (ret_data []) Tryz.results133
     ·have gb:decide (((decN u 0 u.size:Nat):Int)>1000000000000000)=false:=by simp;omega
      have wn:IntKind.i64.wrap (0-((decN u 0 u.size:Nat):Int)) = -((decN u 0 u.size:Nat):Int):=by rw[i64_in (by omega) (by omega)];omega
      rw[if_neg (by omega)]
      refine wRUN (j3 hdk gb wn) ?_
      exact wRet (ret_data []) Tryz.results133
theorem decN_ext {s t:ByteArray}{a c:Nat}:∀k,(∀j,j<k→bAt s (a+j)=bAt t (c+j))→decN s a k=decN t c k
 | 0,_=>rfl
 |k+1,h=>by
  simp only[decN]
  rw[decN_ext k fun j hj=>h j (by omega),h k (by omega)]
theorem numText_parts (s:ByteArray) (i:Nat) (hi:i<s.size) (hd:digB (bAt s (numA s i))=true):∃(m:Bool) (u:ByteArray),0<(s.extract i (numE s i)).size∧(s.extract i (numE s i)).size≤s.size∧(bAt (s.extract i (numE s i)) 0==45)=m∧(if m then (s.extract i (numE s i)).extract 1 (s.extract i (numE s i)).size else s.extract i (numE s i))=u∧0<u.size∧(∀j,j<u.size→digB (bAt u j)=true) ∧
  numBig s i=decide (16<u.size∨1000000000000000<decN u 0 u.size)∧numV' s i=(if m then -((decN u 0 u.size:Nat):Int) else ((decN u 0 u.size:Nat):Int)):=by
 obtain⟨h1,h2,h3⟩:=numE_in hi hd
 obtain⟨g1,g2,g3⟩:=numA_le hi
 have hts:=ext_size (s:=s) (a:=i) h2
 have hat:∀k,i+k<numE s i→bAt (s.extract i (numE s i)) k=bAt s (i+k):=fun k hk=>ext_at h2 hk
 have hA:(bAt s i=45∧numA s i=i+1)∨(bAt s i≠45∧numA s i=i):=by
  unfold numA
  by_cases h:bAt s i=45
  ·exact .inl ⟨h,if_pos h⟩
  ·exact .inr ⟨h,if_neg h⟩
 obtain⟨m,hm⟩:∃m,(bAt (s.extract i (numE s i)) 0==45)=m:=⟨_,rfl⟩
 obtain⟨u,hu⟩:∃u,(if m then (s.extract i (numE s i)).extract 1 (s.extract i (numE s i)).size else s.extract i (numE s i))=u:=⟨_,rfl⟩
 have hm0:=hm
 rw[hat 0 (by omega)]at hm0
 rw[Nat.add_zero]at hm0
 have hus:u.size=numE s i-numA s i∧∀j,j<u.size→bAt u j=bAt s (numA s i+j):=by
  rcases hA with⟨h45,hA⟩ | ⟨h45,hA⟩
  ·have hmt:m=true:=by rw[←hm0];simpa using h45
   subst hmt
   simp only[if_true]at hu
   have hsz:u.size=numE s i-numA s i:=by rw[←hu,ext_size (Nat.le_refl _),hts];omega
   refine⟨hsz,fun j hj=>?_⟩
   rw[←hu,ext_at (Nat.le_refl _) (by omega),hat (1+j) (by omega)]
   congr 1
   omega
  ·have hmt:m=false:=by rw[←hm0];simpa using h45
   subst hmt
   simp only[Bool.false_eq_true,if_false]at hu
   subst hu
   refine⟨by rw[hts,hA],fun j hj=>?_⟩
   rw[hat j (by omega),hA]
 obtain⟨hus,hub⟩:=hus
 have hdec:decN u 0 u.size=decN s (numA s i) (numE s i-numA s i):=by
  rw[hus]
  exact decN_ext _ fun j hj=>by rw[Nat.zero_add];exact hub j (by omega)
 refine⟨m,u,by omega,by omega,hm,hu,by omega,fun j hj=>by rw[hub j hj];exact h3 _ (by omega) (by omega),?_,?_⟩
 ·unfold numBig
  rw[hdec,hus]
  simp
 ·unfold numV'
  rw[hdec]
  have e2:(m=true)=(bAt s i=45):=by rw[←hm0];simp
  simp only[e2]
theorem numText_ac (s:ByteArray) (hs:s.size≤1000000) (i:Nat) (hi:i<s.size) (hd:digB (bAt s (numA s i))=true) :
  AC Tryz.prog 133 [.c (.str (s.extract i (numE s i)))] [] (if numBig s i then .tup [.c (.int .i64 0),.c (.bool false)] else .tup [.c (.int .i64 (numV' s i)),.c (.bool true)]) []:=by
 obtain⟨m,u,h1,h2,hm,hu,_,hd2,hB,hV⟩:=numText_parts s i hi hd
 have hc:=l2Value_ac (s.extract i (numE s i)) h1 (by omega) m u hm hu hd2
 rw[hB,hV]
 unfold valA at hc
 simpa using hc
set_option maxRecDepth 10000
def numRd (s:ByteArray) (i:Nat):Rd V:=match numR s i with
 | .bad c p=>.bad c p
 | .ok n e=>.ok (numV n) e
theorem l2Whole_ac (s:ByteArray) (hs:s.size≤1000000) (i:Nat) (hi:i<s.size):AC Tryz.prog 77 [.c (.str s),.c (.int .i64 i)] [] (rdA (numRd s i) ByteArray.empty) []:=by
 have t3:=Tryz.underlying9
 unfold numRd numR
 cases hd:digB (bAt s (numA s i)) with
 |false =>
  have hn:=l2Number_bad s hs i hi hd
  have hbad:=l2Bad_ac 5 (numA s i)
  simp only[if_true]
  unfold rdA
  unfold rdBad at hbad ⊢
  generalize numA s i=a at *
  have hm1:decide ((-1:Int)<0)=true:=rfl
  refine wEnter Tryz.func77 Tryz.ntmps77 ?_
  refine wRUN trivial ?_
  refine w7 (op_data [] hn) trivial ?_
  refine wRUN hm1 ?_
  refine w7 (op_data [] hbad) trivial ?_
  refine wRUN trivial ?_
  exact wRet (ret_data []) Tryz.results77
 |true =>
  have hn:=l2Number_ok s hs i hi hd
  obtain⟨he1,he2,_⟩:=numE_in hi hd
  obtain⟨ha1,_,_⟩:=numA_le hi
  have hv:=numText_ac s hs i hi hd
  simp only[Bool.true_eq_false,if_false]
  have hl0:decide (((numE s i:Nat):Int)<0)=false:=decide_eq_false (by omega)
  cases hb:numBig s i with
  |true =>
   have hbad:=l2Bad_ac 3 i
   rw[hb]at hv
   simp only[if_true]at hv ⊢
   unfold rdA
   unfold rdBad at hbad ⊢
   generalize numE s i=e at *
   refine wEnter Tryz.func77 Tryz.ntmps77 ?_
   refine wRUN trivial ?_
   refine w7 (op_data [] hn) trivial ?_
   refine wRUN hl0 ?_
   refine w7 (op_sub (y:=s.extract i e) (i:=(i:Int)) (j:=(e:Int)) (s:=s) rfl (by omega) (by omega) (by omega) t3) trivial ?_
   refine wRUN trivial ?_
   refine w7 (op_data [] hv) trivial ?_
   refine wRUN trivial ?_
   refine w7 (op_data [] hbad) trivial ?_
   refine wRUN trivial ?_
   exact wRet (ret_data []) Tryz.results77
  |false =>
   have hbad:=l2Bad_ac 3 (numE s i)
   rw[hb]at hv
   simp only[Bool.false_eq_true,if_false]at hv ⊢
   have hno:=l1Number_ac (numV' s i)
   have hdot:∀b:UInt8,s[numE s i]? = some b→dotB (bAt s (numE s i))=(((((b.toNat:Nat):Int)==46)||(((b.toNat:Nat):Int)==101))||(((b.toNat:Nat):Int)==69)):=fun b hbb=>by
    have:bAt s (numE s i)=b.toNat:=by unfold bAt;rw[hbb]
    rw[this]
    unfold dotB
    rw[Bool.eq_iff_iff];simp;omega
   have hend:s.size≤numE s i→dotB (bAt s (numE s i))=false:=fun h=>by rw[bAt_end h];rfl
   generalize numV' s i=z at *
   generalize numE s i=e at *
   generalize dotB (bAt s e)=dt at *
   by_cases hes:e<s.size
   ·have hde:decide ((e:Int)<(s.size:Int))=true:=by simpa using hes
    obtain⟨b,hg,_⟩:=bAt_in hes
    have hdt:=hdot b hg
    obtain⟨bz,hbz⟩:∃bz,((b.toNat:Nat):Int)=bz:=⟨_,rfl⟩
    rw[hbz]at hdt
    have tail:∀(e1 e2 e3:Bool),(bz==46)=e1→(bz==101)=e2→(bz==69)=e3→AC Tryz.prog 77 [.c (.str s),.c (.int .i64 i)] [] (rdA (if (e1||e2||e3) then Rd.bad 3 e else Rd.ok (numV z) e) ByteArray.empty) []:=by
     intro e1 e2 e3 h1 h2 h3
     unfold rdA
     cases e1 with
     |true =>
      simp only[Bool.true_or,if_true]
      unfold rdBad at hbad ⊢
      refine wEnter Tryz.func77 Tryz.ntmps77 ?_
      refine wRUN trivial ?_
      refine w7 (op_data [] hn) trivial ?_
      refine wRUN hl0 ?_
      refine w7 (op_sub (y:=s.extract i e) (i:=(i:Int)) (j:=(e:Int)) (s:=s) rfl (by omega) (by omega) (by omega) t3) trivial ?_
      refine wRUN trivial ?_
      refine w7 (op_data [] hv) trivial ?_
      refine wRUN (j4 hde hg hbz h1) ?_
      refine w7 (op_data [] hbad) trivial ?_
      refine wRUN trivial ?_
      exact wRet (ret_data []) Tryz.results77
     |false=>cases e2 with
      |true =>
       simp only[Bool.true_or,Bool.or_true,if_true]
       unfold rdBad at hbad ⊢
       refine wEnter Tryz.func77 Tryz.ntmps77 ?_
       refine wRUN trivial ?_
       refine w7 (op_data [] hn) trivial ?_
       refine wRUN hl0 ?_
       refine w7 (op_sub (y:=s.extract i e) (i:=(i:Int)) (j:=(e:Int)) (s:=s) rfl (by omega) (by omega) (by omega) t3) trivial ?_
       refine wRUN trivial ?_
       refine w7 (op_data [] hv) trivial ?_
       refine wRUN (j5 hde hg hbz h1 h2) ?_
       refine w7 (op_data [] hbad) trivial ?_
       refine wRUN trivial ?_
       exact wRet (ret_data []) Tryz.results77
      |false=>cases e3 with
       |true =>
        simp only[Bool.or_true,if_true]
        unfold rdBad at hbad ⊢
        refine wEnter Tryz.func77 Tryz.ntmps77 ?_
        refine wRUN trivial ?_
        refine w7 (op_data [] hn) trivial ?_
        refine wRUN hl0 ?_
        refine w7 (op_sub (y:=s.extract i e) (i:=(i:Int)) (j:=(e:Int)) (s:=s) rfl (by omega) (by omega) (by omega) t3) trivial ?_
        refine wRUN trivial ?_
        refine w7 (op_data [] hv) trivial ?_
        refine wRUN (j6 hde hg hbz h1 h2 h3) ?_
        refine w7 (op_data [] hbad) trivial ?_
        refine wRUN trivial ?_
        exact wRet (ret_data []) Tryz.results77
       |false =>
        simp only[Bool.or_false,Bool.false_eq_true,if_false]
        unfold rdOk
        refine wEnter Tryz.func77 Tryz.ntmps77 ?_
        refine wRUN trivial ?_
        refine w7 (op_data [] hn) trivial ?_
        refine wRUN hl0 ?_
        refine w7 (op_sub (y:=s.extract i e) (i:=(i:Int)) (j:=(e:Int)) (s:=s) rfl (by omega) (by omega) (by omega) t3) trivial ?_
        refine wRUN trivial ?_
        refine w7 (op_data [] hv) trivial ?_
        refine wRUN (j6 hde hg hbz h1 h2 h3) ?_
        refine w9 (op_shared [] hno) trivial ?_
        refine wRUN trivial ?_
        exact wRet (ret_data []) Tryz.results77
    have ht:=tail _ _ _ rfl rfl rfl
    rw[←hdt]at ht
    revert ht
    cases dt with
    |true=>exact fun h=>h
    |false=>exact fun h=>h
   ·have hde:decide ((e:Int)<(s.size:Int))=false:=by simpa using hes
    rw[hend (by omega)]
    simp only[Bool.false_eq_true,if_false]
    unfold rdA rdOk
    refine wEnter Tryz.func77 Tryz.ntmps77 ?_
    refine wRUN trivial ?_
    refine w7 (op_data [] hn) trivial ?_
    refine wRUN hl0 ?_
    refine w7 (op_sub (y:=s.extract i e) (i:=(i:Int)) (j:=(e:Int)) (s:=s) rfl (by omega) (by omega) (by omega) t3) trivial ?_
    refine wRUN trivial ?_
    refine w7 (op_data [] hv) trivial ?_
    refine wRUN hde ?_
    refine w9 (op_shared [] hno) trivial ?_
    refine wRUN trivial ?_
    exact wRet (ret_data []) Tryz.results77
end
end Go.Proofs.YtlciedpfjhkkdaaGreatDoor
