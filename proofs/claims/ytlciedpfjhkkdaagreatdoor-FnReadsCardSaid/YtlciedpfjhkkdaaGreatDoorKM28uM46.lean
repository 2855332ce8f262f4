/- Texts of this proof: M28 M29 M46. -/
import Derived.Test.YtlciedpfjhkkdaaGreatDoorKG04uM23
import Derived.Test.YtlciedpfjhkkdaaGreatDoorKM45
set_option linter.all false
namespace Go.Proofs.YtlciedpfjhkkdaaGreatDoor
open Go.RowKit
def byteCs (b:Nat):List C:=[.int .u8 (b:Int)]
def nextN (bs:List Nat) (at1 n:Nat):Nat :=
 if n<1 then 0 else if bs=[] then (at1*7) % n
 else if n≤200 then (bs.getD (at1 % bs.length) 0+at1 / bs.length*37) % n
 else ((bs.getD (at1 % bs.length) 0+at1 / bs.length*37)*251+bs.getD ((at1+1) % bs.length) 0*13+at1) % n
theorem nextN_lt (bs:List Nat) (at1:Nat) {n:Nat}(h:0<n):nextN bs at1 n<n:=by
 unfold nextN
 rw[if_neg (by omega)]
 split
 ·exact Nat.mod_lt _ h
 ·split
  ·exact Nat.mod_lt _ h
  ·exact Nat.mod_lt _ h
def pickN (bs:List Nat) (at1:Nat) (l:List Int):Int:=l.getD (nextN bs at1 l.length) 0
theorem pickN_mem (bs:List Nat) (at1:Nat) {l:List Int}(h:l≠[]):pickN bs at1 l∈l:=by
 unfold pickN
 have hl:0<l.length:=List.length_pos_iff.2 h
 have:=nextN_lt bs at1 hl
 rw[List.getD_eq_getElem?_getD,List.getElem?_eq_getElem this,Option.getD_some]
 exact List.getElem_mem _
def words:List ByteArray:=[⟨#[97]⟩,⟨#[98]⟩,⟨#[99]⟩,⟨#[105,100]⟩,ByteArray.empty,⟨#[120,32,121]⟩,⟨#[97,98]⟩,⟨#[34,113,92]⟩]
def keyWords:List ByteArray:=[⟨#[97]⟩,⟨#[98]⟩,⟨#[99]⟩,⟨#[105,100]⟩]
def wordN (bs:List Nat) (at1:Nat):ByteArray:=words.getD (nextN bs at1 8) ByteArray.empty
def keyN (bs:List Nat) (at1:Nat):ByteArray:=keyWords.getD (nextN bs at1 4) ByteArray.empty
theorem words_ok:∀w∈words,okText w=true∧w.size≤60:=by decide +kernel
theorem keyWords_ok:∀w∈keyWords,okText w=true∧w.size≤60:=by decide +kernel
theorem wordN_mem (bs:List Nat) (at1:Nat):wordN bs at1∈words:=by
 unfold wordN
 have:=nextN_lt bs at1 (n:=8) (by omega)
 rw[List.getD_eq_getElem?_getD,List.getElem?_eq_getElem (by exact this),Option.getD_some]
 exact List.getElem_mem _
theorem keyN_mem (bs:List Nat) (at1:Nat):keyN bs at1∈keyWords:=by
 unfold keyN
 have:=nextN_lt bs at1 (n:=4) (by omega)
 rw[List.getD_eq_getElem?_getD,List.getElem?_eq_getElem (by exact this),Option.getD_some]
 exact List.getElem_mem _
def drawL (f:Nat→V×Nat):Nat→Nat→List V×Nat
 | 0,a=>([],a)
 |n+1,a=>((f a).1::(drawL f n (f a).2).1,(drawL f n (f a).2).2)
def drawK (bs:List Nat) (f:Nat→V×Nat):Nat→Nat→List ByteArray×List V×Nat
 | 0,a=>([],[],a)
 |n+1,a=>(keyN bs a::(drawK bs f n (f (a+1)).2).1,(f (a+1)).1::(drawK bs f n (f (a+1)).2).2.1,(drawK bs f n (f (a+1)).2).2.2)
def leafD (bs:List Nat) (k a:Nat):V×Nat :=
 if k≤2 then (V.mk k 0 ByteArray.empty [] [],a)
 else if k≤5 then (numV (pickN bs (a+3) [(nextN bs a 9:Int),(nextN bs (a+1) 9:Int),-(nextN bs (a+2) 40:Int),1000000000000000]),a+4)
 else (strV (wordN bs a),a+1)
def kindD (bs:List Nat) (d a:Nat):Nat:=if d=0∧nextN bs a 10>6 then nextN bs a 10-5 else nextN bs a 10
def valD (bs:List Nat):Nat→Nat→V×Nat
 | 0,a=>leafD bs (kindD bs 0 a) (a+1)
 |d+1,a =>
  if kindD bs (d+1) a≤6 then leafD bs (kindD bs (d+1) a) (a+1)
  else if kindD bs (d+1) a≤8 then (arrV (drawL (valD bs d) (nextN bs (a+1) 4) (a+2)).1,(drawL (valD bs d) (nextN bs (a+1) 4) (a+2)).2)
  else (objV (drawK bs (valD bs d) (nextN bs (a+1) 4) (a+2)).1 (drawK bs (valD bs d) (nextN bs (a+1) 4) (a+2)).2.1,(drawK bs (valD bs d) (nextN bs (a+1) 4) (a+2)).2.2)
theorem kindD_le (bs:List Nat) (d a:Nat):kindD bs d a≤9∧(d=0→kindD bs d a≤6):=by
 unfold kindD
 have:=nextN_lt bs a (n:=10) (by omega)
 split<;>omega
def DrawnOk (a:Nat) (C D B:Nat) (r:V×Nat):Prop:=r.1.wf∧r.1.count≤C∧r.1.depth≤D∧a≤r.2∧r.2≤a+B
theorem leafD_ok (bs:List Nat) {k:Nat}(hk:k≤6) (a:Nat):DrawnOk a 1 1 4 (leafD bs k a):=by
 unfold leafD
 split
 ·have:(V.mk (k:Int) 0 ByteArray.empty [] []).right:=by
   rcases (show k=0∨k=1∨k=2 by omega) with rfl | rfl | rfl
   ·exact leaf_right (by decide +kernel) (by decide)
   ·exact leaf_right (by decide +kernel) (by decide)
   ·exact leaf_right (by decide +kernel) (by decide)
  exact⟨this.1,by simp[V.count,countL],by simp[V.depth,depthL],Nat.le_refl _,by omega⟩
 ·split
  ·have h1:=pickN_mem bs (a+3) (l:=[(nextN bs a 9:Int),(nextN bs (a+1) 9:Int),-(nextN bs (a+2) 40:Int),1000000000000000]) (by simp)
   have n1:=nextN_lt bs a (n:=9) (by omega)
   have n2:=nextN_lt bs (a+1) (n:=9) (by omega)
   have n3:=nextN_lt bs (a+2) (n:=40) (by omega)
   generalize pickN bs (a+3) _=x at *
   have hx:-1000000000000000≤x∧x≤1000000000000000:=by
    simp only[List.mem_cons,List.not_mem_nil,or_false]at h1
    omega
   exact⟨(numV_right hx).1,by simp[numV,V.count,countL],by simp[numV,V.depth,depthL],by show a≤a+4;omega,by show a+4≤a+4;omega⟩
  ·have hw:=words_ok _ (wordN_mem bs a)
   have:(strV (wordN bs a)).right:=by
    refine leaf_right ?_ (by decide)
    unfold cellCode
    have h2:inB 0 (-1000000000000000) 1000000000000000=true:=by decide
    simp[cF,cR,cT,okText_empty,holds,h2,inB,hw.1]
   exact⟨this.1,by simp[strV,V.count,countL],by simp[strV,V.depth,depthL],by show a≤a+1;omega,by show a+1≤a+4;omega⟩
def capC:Nat→Nat
 | 0=>1
 |d+1=>1+3*capC d
def capB:Nat→Nat
 | 0=>5
 |d+1=>5+3*(1+capB d)
theorem drawL_ok {f:Nat→V×Nat}{C B D:Nat}(hf:∀a,DrawnOk a C D B (f a)):∀(n a:Nat),(drawL f n a).1.length=n∧wfL (drawL f n a).1∧countL (drawL f n a).1≤n*C∧depthL (drawL f n a).1≤D∧a≤(drawL f n a).2∧(drawL f n a).2≤a+n*B
 | 0,a=>⟨rfl,trivial,Nat.zero_le _,Nat.zero_le _,Nat.le_refl _,by simp[drawL]⟩
 |n+1,a=>by
  obtain⟨h1,h2,h3,h4,h5⟩:=hf a
  obtain⟨g1,g2,g3,g4,g5,g6⟩:=drawL_ok hf n (f a).2
  refine⟨by simp[drawL,g1],⟨h1,g2⟩,?_,?_,?_,?_⟩
  ·show countL (_::_)≤_
   simp only[countL]
   rw[Nat.succ_mul]
   omega
  ·show depthL (_::_)≤_
   simp only[depthL]
   omega
  ·show a≤(drawL f n (f a).2).2
   omega
  ·show (drawL f n (f a).2).2≤_
   rw[Nat.succ_mul]
   omega
theorem drawK_ok (bs:List Nat) {f:Nat→V×Nat}{C B D:Nat}(hf:∀a,DrawnOk a C D B (f a)):∀(n a:Nat),(drawK bs f n a).1.length=n∧(∀k∈(drawK bs f n a).1,k∈keyWords)∧(drawK bs f n a).2.1.length=n∧wfL (drawK bs f n a).2.1∧countL (drawK bs f n a).2.1≤n*C∧depthL (drawK bs f n a).2.1≤D∧a≤(drawK bs f n a).2.2∧(drawK bs f n a).2.2≤a+n*(B+1)
 | 0,a=>⟨rfl,by simp[drawK],rfl,trivial,Nat.zero_le _,Nat.zero_le _,Nat.le_refl _,by simp[drawK]⟩
 |n+1,a=>by
  obtain⟨h1,h2,h3,h4,h5⟩:=hf (a+1)
  obtain⟨g1,g0,g7,g2,g3,g4,g5,g6⟩:=drawK_ok bs hf n (f (a+1)).2
  refine⟨by simp[drawK,g1],fun k hk=>?_,by simp[drawK,g7],⟨h1,g2⟩,?_,?_,?_,?_⟩
  ·have hk:k∈keyN bs a::(drawK bs f n (f (a+1)).2).1:=hk
   rcases List.mem_cons.1 hk with rfl | hk
   ·exact keyN_mem bs a
   ·exact g0 k hk
  ·show countL (_::_)≤_
   simp only[countL]
   rw[Nat.succ_mul]
   omega
  ·show depthL (_::_)≤_
   simp only[depthL]
   omega
  ·show a≤(drawK bs f n (f (a+1)).2).2.2
   omega
  ·show (drawK bs f n (f (a+1)).2).2.2≤_
   rw[Nat.succ_mul]
   omega
theorem valD_ok (bs:List Nat):∀(d a:Nat),DrawnOk a (capC d) (d+1) (capB d) (valD bs d a)
 | 0,a=>by
  have hk:=(kindD_le bs 0 a).2 rfl
  obtain⟨h1,h2,h3,h4,h5⟩:=leafD_ok bs hk (a+1)
  unfold valD
  exact⟨h1,h2,h3,by omega,by show _≤a+5;omega⟩
 |d+1,a=>by
  have hk:=(kindD_le bs (d+1) a).1
  have ih:=valD_ok bs d
  have hn:=nextN_lt bs (a+1) (n:=4) (by omega)
  have hc1:capC (d+1)=1+3*capC d:=rfl
  have hb1:capB (d+1)=5+3*(1+capB d):=rfl
  unfold valD
  split
  ·rename_i h6
   obtain⟨h1,h2,h3,h4,h5⟩:=leafD_ok bs h6 (a+1)
   exact⟨h1,by omega,by omega,by omega,by omega⟩
  ·split
   ·obtain⟨g1,g2,g3,g4,g5,g6⟩:=drawL_ok ih (nextN bs (a+1) 4) (a+2)
    generalize drawL (valD bs d) (nextN bs (a+1) 4) (a+2)=q at *
    generalize nextN bs (a+1) 4=n at *
    have hm1:n*capC d≤3*capC d:=Nat.mul_le_mul_right _ (by omega)
    have hm2:n*capB d≤3*capB d:=Nat.mul_le_mul_right _ (by omega)
    refine⟨arr_wf g2 (by omega),?_,?_,?_,?_⟩
    ·simp only[arrV,V.count];omega
    ·simp only[arrV,V.depth];omega
    ·show a≤q.2;omega
    ·show q.2≤_;omega
   ·obtain⟨g1,g0,g7,g2,g3,g4,g5,g6⟩:=drawK_ok bs ih (nextN bs (a+1) 4) (a+2)
    generalize drawK bs (valD bs d) (nextN bs (a+1) 4) (a+2)=q at *
    generalize nextN bs (a+1) 4=n at *
    have hm1:n*capC d≤3*capC d:=Nat.mul_le_mul_right _ (by omega)
    have hm2:n*(capB d+1)≤3*(capB d+1):=Nat.mul_le_mul_right _ (by omega)
    have hc:=objV_count n q.1 q.2.1 g1 g7
    have hmem:∀v∈(objKeys q.1).map (lastKid q.1 q.2.1),v∈q.2.1:=fun v hv=>by
     obtain⟨x,hx,rfl⟩:=List.mem_map.1 hv
     obtain⟨j,_,_,h3⟩:=lastKid_at (kids:=q.2.1) (by omega) (objKeys_mem.1 hx)
     exact List.mem_of_getElem? h3
    have hcl:=countL_len ((objKeys q.1).map (lastKid q.1 q.2.1))
    have hlen:((objKeys q.1).map (lastKid q.1 q.2.1)).length≤200:=by
     have:=objKeys_len q.1
     rw[List.length_map];omega
    refine⟨obj_wf (by simp) (fun k hk=>(keyWords_ok k (g0 k (objKeys_mem.1 hk))).1) (objKeys_up _) (fun v hv=>wfL_mem g2 v (hmem v hv)) hlen,?_,?_,?_,?_⟩
    ·simp only[objV,V.count];omega
    ·simp only[objV,V.depth]
     have:=depthL_le (m:=depthL q.2.1) (h:=fun v hv=>depthL_mem (hmem v hv))
     omega
    ·show a≤q.2.2;omega
    ·show q.2.2≤_;omega
theorem strV_right {s:ByteArray}(h:okText s=true):(strV s).right:=by
 refine leaf_right ?_ (by decide)
 unfold cellCode
 have h2:inB 0 (-1000000000000000) 1000000000000000=true:=by decide
 simp[cF,cR,cT,okText_empty,holds,h2,inB,h]
def rdCode (c:Int):Prop:=c=2∨c=3∨c=5∨c=7
theorem rdCode_ne {c:Int}(h:rdCode c):c≠0:=by unfold rdCode at h;omega
def Rd.fine {α:Type}(s:ByteArray) (i:Nat) (P:α→Nat→Prop):Rd α→Prop
 | .ok v e=>i<e∧e≤s.size∧P v e
 | .bad c p=>rdCode c∧i≤p∧p≤s.size
theorem rd5:rdCode 5:=.inr (.inr (.inl rfl))
theorem bAt_byte {s:ByteArray}{i:Nat}(h:i<s.size):bAt s i<256:=by
 obtain⟨b,_,h2⟩:=bAt_in h
 rw[h2];exact b.toNat_lt
theorem bAt_in' {s:ByteArray}{i:Nat}(h:bAt s i≠256):i<s.size:=bAt_lt (by have:=bAt_le s i;omega)
theorem numA_le {s:ByteArray}{i:Nat}(h:i<s.size):i≤numA s i∧numA s i≤i+1∧numA s i≤s.size:=by
 unfold numA
 split
 ·exact⟨by omega,Nat.le_refl _,by omega⟩
 ·exact⟨Nat.le_refl _,by omega,by omega⟩
theorem numE_in {s:ByteArray}{i:Nat}(h:i<s.size) (hd:digB (bAt s (numA s i))=true):numA s i<numE s i∧numE s i≤s.size∧∀j,numA s i≤j→j<numE s i→digB (bAt s j)=true:=by
 have hlt:=bAt_lt (s:=s) (i:=numA s i) (by have:=dig_lt hd;omega)
 unfold numE
 by_cases h0:bAt s (numA s i)=48
 ·rw[if_pos h0]
  refine⟨by omega,by omega,fun j h1 h2=>?_⟩
  have:j=numA s i:=by omega
  rw[this];exact hd
 ·rw[if_neg h0]
  obtain⟨h1,h2,_,h3⟩:=digE_in (s:=s) (i:=numA s i) (by omega)
  refine⟨?_,h2,h3⟩
  rw[digE_dig hd]
  have:=(digE_in (s:=s) (i:=numA s i+1) (by omega)).1
  omega
theorem numV'_le {s:ByteArray}{i:Nat}(h:numBig s i=false):-1000000000000000≤numV' s i∧numV' s i≤1000000000000000:=by
 have h2:decN s (numA s i) (numE s i-numA s i)≤1000000000000000:=by
  unfold numBig at h
  have:=(Bool.or_eq_false_iff.1 h).2
  simpa using this
 unfold numV'
 split<;>omega
theorem numR_fine {s:ByteArray}{i:Nat}(h:i<s.size):(numR s i).fine s i fun n _=>-1000000000000000≤n∧n≤1000000000000000:=by
 obtain⟨ha,ha',ha2⟩:=numA_le h
 unfold numR
 cases hd:digB (bAt s (numA s i)) with
 |false=>exact⟨rd5,ha,ha2⟩
 |true =>
  obtain⟨h1,h2,_⟩:=numE_in h hd
  simp only[Bool.true_eq_false,if_false]
  cases hb:numBig s i with
  |true=>exact⟨.inr (.inl rfl),Nat.le_refl _,by omega⟩
  |false =>
   simp only[Bool.false_eq_true,if_false]
   split
   ·exact⟨.inr (.inl rfl),by omega,h2⟩
   ·exact⟨by omega,h2,numV'_le hb⟩
theorem hexB_in {n:Nat}(h:¬hexB n<0):48≤n∧n≤102∧hexB n≤15∧0≤hexB n:=by
 unfold hexB at *
 unfold digB at *
 by_cases h1:48≤n<;>by_cases h2:n≤57<;>by_cases h3:97≤n<;>by_cases h4:n≤102<;>by_cases h5:65≤n<;>by_cases h6:n≤70<;>simp[h1,h2,h3,h4,h5,h6]at h ⊢<;>omega
theorem escR_fine {s:ByteArray}{i:Nat}(h:i<s.size):(escR s i).fine s i fun b _=>32≤b∧b≤126:=by
 unfold escR
 split
 ·rename_i h1
  have hlt:=bAt_in' (s:=s) (i:=i+1) (by omega)
  exact⟨by omega,by omega,by omega,by omega⟩
 split
 ·exact⟨rd5,by omega,by omega⟩
 rename_i h0 h1
 have hlt:=bAt_in' (s:=s) (i:=i+1) (by omega)
 split
 ·exact⟨rd5,by omega,by omega⟩
 rename_i h2
 have hlt2:=bAt_in' (s:=s) (i:=i+2) (by omega)
 split
 ·exact⟨rd5,by omega,by omega⟩
 rename_i h3
 have hlt3:=bAt_in' (s:=s) (i:=i+3) (by omega)
 split
 ·exact⟨rd5,by omega,by omega⟩
 rename_i h4
 have g4:=hexB_in h4
 have hlt4:=bAt_in' (s:=s) (i:=i+4) (by omega)
 split
 ·exact⟨rd5,by omega,by omega⟩
 rename_i h5
 have g5:=hexB_in h5
 have hlt5:=bAt_in' (s:=s) (i:=i+5) (by omega)
 split
 ·exact⟨by omega,by omega,by omega,by omega⟩
 ·exact⟨rd5,by omega,by omega⟩
def okBs (t:ByteArray):Prop:=t.data.toList.all okByte=true
theorem okBs_empty:okBs ByteArray.empty:=by unfold okBs;rfl
theorem okBs_snoc {t:ByteArray}(h:okBs t) {n:Nat}(h1:32≤n) (h2:n≤126):okBs (t++bOne n):=by
 unfold okBs at *
 have hb:okByte (UInt8.ofNat n)=true:=by
  have:(UInt8.ofNat n).toNat=n:=by
   rw[UInt8.toNat_ofNat']
   exact Nat.mod_eq_of_lt (by omega)
  unfold okByte
  rw[this]
  simp[h1,h2]
 have hd:(t++bOne n).data=t.data++#[UInt8.ofNat n]:=ByteArray.data_append
 rw[hd,Array.toList_append,List.all_append,h]
 simp[hb]
theorem bOne_size (n:Nat):(bOne n).size=1:=rfl
theorem snoc_size (t:ByteArray) (n:Nat):(t++bOne n).size=t.size+1:=by rw[ByteArray.size_append,bOne_size]
theorem strGo_fine {s:ByteArray}{from_:Nat}:∀(n i:Nat) (out:ByteArray),s.size-i<n→from_<i→i≤s.size→okBs out→(strGo s from_ n i out).fine s from_ fun t _=>okText t=true:=by
 intro n
 induction n with
 |zero=>intro i out hn;omega
 |succ n ih =>
  intro i out hn hf hi ho
  unfold strGo
  split
  ·exact⟨rd5,by omega,Nat.le_refl _⟩
  split
  ·split
   ·exact⟨.inl rfl,Nat.le_refl _,by omega⟩
   ·rename_i h60
    refine⟨by omega,by omega,?_⟩
    show okText out=true
    unfold okText
    unfold okBs at ho
    rw[ho]
    simp
    omega
  split
  ·exact⟨rd5,by omega,hi⟩
  rename_i h1 h2 h3
  split
  ·exact ih (i+1) _ (by omega) (by omega) (by omega) (okBs_snoc ho (by omega) (by omega))
  ·have he:=escR_fine (s:=s) (i:=i) (by omega)
   cases hr:escR s i with
   |bad c p =>
    rw[hr]at he
    exact⟨he.1,by have:=he.2.1;omega,he.2.2⟩
   |ok b e =>
    rw[hr]at he
    obtain⟨g1,g2,g3,g4⟩:=he
    exact ih e _ (by omega) (by omega) g2 (okBs_snoc ho g3 g4)
theorem strR_fine {s:ByteArray}{i:Nat}(hi:i≤s.size):(strR s i).fine s i fun t _=>okText t=true:=by
 unfold strR
 split
 ·exact⟨rd5,Nat.le_refl _,hi⟩
 ·rename_i h
  have hlt:=bAt_in' (s:=s) (i:=i) (by omega)
  exact strGo_fine _ _ _ (by omega) (by omega) (by omega) okBs_empty
theorem wordR_fine {s:ByteArray}{v:V}{i:Nat}:∀(l:List Nat) (k:Nat),(∀b∈l,b<256)→i+k≤s.size→(l≠[]∨0<k)→(wordR s v i l k).fine s i fun x _=>x=v
 | [],k,_,h,hk=>by
  unfold wordR
  refine⟨?_,h,rfl⟩
  rcases hk with hk | hk
  ·exact absurd rfl hk
  ·omega
 |b::r,k,hb,h,hk=>by
  unfold wordR
  split
  ·rename_i hbe
   have h1:=hb b (by simp)
   have hlt:=bAt_lt (s:=s) (i:=i+k) (by omega)
   exact wordR_fine r (k+1) (fun x hx=>hb x (by simp[hx])) (by omega) (.inr (by omega))
  ·exact⟨rd5,by omega,h⟩
theorem keyR_fine {s:ByteArray}{i:Nat}(hi:i≤s.size):(keyR s i).fine s i fun t _=>okText t=true:=by
 unfold keyR
 have h:=strR_fine hi
 cases hr:strR s i with
 |bad c p=>rw[hr]at h;exact h
 |ok k e =>
  rw[hr]at h
  obtain⟨h1,h2,h3⟩:=h
  obtain⟨g1,g2,_⟩:=skip_in h2
  show (if bAt s (skipB s e)≠58 then Rd.bad 5 (skipB s e) else .ok k (skipB s (skipB s e+1))).fine s i _
  split
  ·exact⟨rd5,by omega,g2⟩
  ·rename_i h4
   have hlt:=bAt_in' (s:=s) (i:=skipB s e) (by omega)
   obtain⟨g3,g4,_⟩:=skip_in (s:=s) (i:=skipB s e+1) (by omega)
   exact⟨by omega,g4,h3⟩
def rdV (k i:Nat) (v:V) (e:Nat):Prop:=v.fit∧v.depth≤k∧v.count≤e-i∧(v.count≤200→v.wf)
theorem manyGo_fine {s:ByteArray}{k:Nat}{rd:Nat→Rd V}(hrd:∀i,i≤s.size→(rd i).fine s i (rdV k i)) (i0:Nat) (obj:Bool):∀(n i:Nat) (first:Bool) (keys:List ByteArray) (kids:List V),s.size-i<n→i0<i→i≤s.size→(obj=true→keys.length=kids.length)→(∀x∈keys,okText x=true)→(∀v∈kids,v.fit∧v.depth≤k∧(v.count≤200→v.wf))→countL kids+i0+1≤i→(manyGo s rd obj n i first keys kids).fine s i0 (rdV (k+1) i0):=by
 intro n
 induction n with
 |zero=>intro i first keys kids hn;omega
 |succ n ih =>
  intro i first keys kids hn h0 hi hl hks hvs hc
  unfold manyGo
  by_cases hend:bAt s i=(if obj then 125 else 93)
  ·rw[if_pos hend]
   have hlt:=bAt_in' (s:=s) (i:=i) (by rw[hend];cases obj<;>decide)
   refine⟨by omega,by omega,?_⟩
   have hfit:∀v∈kids,v.fit:=fun v hv=>(hvs v hv).1
   have hdep:∀v∈kids,v.depth≤k:=fun v hv=>(hvs v hv).2.1
   cases obj with
   |false =>
    refine⟨arr_fit hfit,?_,?_,fun h200=>?_⟩
    ·show depthL kids+1≤k+1
     have:=depthL_le hdep
     omega
    ·show countL kids+1≤i+1-i0
     omega
    ·have hcc:countL kids+1≤200:=h200
     have hcl:=countL_len kids
     exact arr_wf (wfL_iff.2 fun v hv=>(hvs v hv).2.2 (by have:=countL_mem hv;omega)) (by omega)
   |true =>
    have hl':=hl rfl
    have hmem:∀v∈(objKeys keys).map (lastKid keys kids),v∈kids:=fun v hv=>by
     obtain⟨x,hx,rfl⟩:=List.mem_map.1 hv
     obtain⟨j,_,_,h3⟩:=lastKid_at (kids:=kids) hl' (objKeys_mem.1 hx)
     exact List.mem_of_getElem? h3
    have hcl:countL ((objKeys keys).map (lastKid keys kids))≤countL kids:=objV_count _ keys kids hl' rfl
    refine⟨obj_fit hl' (fun x hx=>okText_le (hks x hx)) hfit,?_,?_,fun h200=>?_⟩
    ·show depthL ((objKeys keys).map (lastKid keys kids))+1≤k+1
     have:=depthL_le fun v hv=>hdep v (hmem v hv)
     omega
    ·show countL ((objKeys keys).map (lastKid keys kids))+1≤i+1-i0
     omega
    ·have hcc:countL ((objKeys keys).map (lastKid keys kids))+1≤200:=h200
     have hln:=countL_len ((objKeys keys).map (lastKid keys kids))
     refine obj_wf (List.length_map _).symm (fun x hx=>hks x (objKeys_mem.1 hx)) (objKeys_up _) (fun v hv=>(hvs v (hmem v hv)).2.2 (by have:=countL_mem hv;omega)) (by omega)
  rw[if_neg hend]
  by_cases hcomma:first=false∧bAt s i≠44
  ·rw[if_pos hcomma];exact⟨rd5,by omega,hi⟩
  rw[if_neg hcomma]
  have hj:∃j,(if first then i else skipB s (i+1))=j∧i≤j∧j≤s.size:=by
   cases first with
   |true=>exact⟨i,rfl,Nat.le_refl _,hi⟩
   |false =>
    have hb:bAt s i=44:=Classical.byContradiction fun h=>hcomma ⟨rfl,h⟩
    have hlt:=bAt_in' (s:=s) (i:=i) (by omega)
    obtain⟨g1,g2,_⟩:=skip_in (s:=s) (i:=i+1) (by omega)
    exact⟨skipB s (i+1),rfl,by omega,g2⟩
  obtain⟨j,hje,hj1,hj2⟩:=hj
  rw[hje]
  have hk:∃r,(if obj then keyR s j else .ok ByteArray.empty j)=r∧(match r with | .bad c p=>rdCode c∧i0≤p∧p≤s.size | .ok x e=>j≤e∧e≤s.size∧okText x=true):=by
   cases obj with
   |false=>exact⟨_,rfl,Nat.le_refl _,hj2,okText_empty⟩
   |true =>
    refine⟨_,rfl,?_⟩
    have hkf:=keyR_fine hj2
    show (match keyR s j with | .bad c p=>rdCode c∧i0≤p∧p≤s.size | .ok x e=>j≤e∧e≤s.size∧okText x=true)
    cases hkr:keyR s j with
    |bad c p=>rw[hkr]at hkf;exact⟨hkf.1,by have:=hkf.2.1;omega,hkf.2.2⟩
    |ok x e=>rw[hkr]at hkf;exact⟨by have:=hkf.1;omega,hkf.2.1,hkf.2.2⟩
  obtain⟨r,hre,hr⟩:=hk
  rw[hre]
  cases r with
  |bad c p=>exact hr
  |ok x e =>
   obtain⟨h1,h2,h3⟩:=hr
   have hv:=hrd e h2
   show (match rd e with | .bad c p=>Rd.bad c p | .ok v e2=>manyGo s rd obj n (skipB s e2) false (if obj then keys++[x] else keys) (kids++[v])).fine s i0 _
   cases hve:rd e with
   |bad c p=>rw[hve]at hv;exact⟨hv.1,by have:=hv.2.1;omega,hv.2.2⟩
   |ok v e2 =>
    rw[hve]at hv
    obtain⟨g1,g2,g3,g4,g5,g6⟩:=hv
    obtain⟨k1,k2,_⟩:=skip_in g2
    refine ih (skipB s e2) false _ _ (by omega) (by omega) k2 ?_ ?_ ?_ ?_
    ·intro ho
     subst ho
     simp[hl rfl]
    ·intro y hy
     cases obj with
     |false=>exact hks y hy
     |true =>
      rcases List.mem_append.1 hy with hy | hy
      ·exact hks y hy
      ·rw[List.mem_singleton.1 hy];exact h3
    ·intro y hy
     rcases List.mem_append.1 hy with hy | hy
     ·exact hvs y hy
     ·rw[List.mem_singleton.1 hy];exact⟨g3,g4,g6⟩
    ·rw[countL_snoc]
     omega
theorem kindV_rd {k i e:Nat}(m:Int) (h0:m=0∨m=1∨m=2) (h:i<e):rdV (k+1) i (kindV m) e:=by
 refine⟨⟨Nat.zero_le _,by simp,fun _=>rfl,fun h=>absurd h (by omega),fun _=>rfl,trivial⟩,?_,?_,fun _=>?_⟩
 ·show depthL []+1≤k+1
  simp[depthL]
 ·show countL []+1≤e-i
  simp only[countL]
  omega
 ·refine⟨?_,by simp[keysOk];omega,trivial⟩
  rcases h0 with rfl | rfl | rfl<;>decide +kernel
theorem strV_rd {k i e:Nat}{t:ByteArray}(ht:okText t=true) (h:i<e):rdV (k+1) i (strV t) e:=by
 refine⟨⟨by have:=okText_le ht;show t.size≤200;omega,by simp,fun _=>rfl,fun h=>absurd h (by decide),fun _=>rfl,trivial⟩,?_,?_,fun _=>(strV_right ht).1⟩
 ·show depthL []+1≤k+1
  simp[depthL]
 ·show countL []+1≤e-i
  simp only[countL]
  omega
theorem numV_rd {k i e:Nat}{n:Int}(hn:-1000000000000000≤n∧n≤1000000000000000) (h:i<e):rdV (k+1) i (numV n) e:=by
 refine⟨⟨Nat.zero_le _,by simp,fun _=>rfl,fun h=>absurd h (by decide),fun _=>rfl,trivial⟩,?_,?_,fun _=>(numV_right hn).1⟩
 ·show depthL []+1≤k+1
  simp[depthL]
 ·show countL []+1≤e-i
  simp only[countL]
  omega
theorem valR_fine {s:ByteArray}:∀(k i:Nat),i≤s.size→(valR k s i).fine s i (rdV k i)
 | 0,i,h=>by
  unfold valR
  split
  ·exact⟨rd5,h,Nat.le_refl _⟩
  ·exact⟨.inr (.inr (.inr rfl)),Nat.le_refl _,by omega⟩
 |k+1,i,h=>by
  have hw:∀(m:Int) (l:List Nat),(m=0∨m=1∨m=2)→(∀b∈l,b<256)→l≠[]→(wordR s (kindV m) i l 0).fine s i (rdV (k+1) i):=by
   intro m l hm hb hl
   have hf:=wordR_fine (s:=s) (v:=kindV m) (i:=i) l 0 hb (by omega) (.inl hl)
   cases hr:wordR s (kindV m) i l 0 with
   |bad c p=>rw[hr]at hf;exact hf
   |ok v e =>
    rw[hr]at hf
    obtain⟨h1,h2,rfl⟩:=hf
    exact⟨h1,h2,kindV_rd m hm h1⟩
  have hm:∀obj:Bool,i<s.size→(manyGo s (valR k s) obj (s.size+1) (skipB s (i+1)) true [] []).fine s i (rdV (k+1) i):=by
   intro obj hlt
   obtain⟨g1,g2,_⟩:=skip_in (s:=s) (i:=i+1) (by omega)
   exact manyGo_fine (fun j hj=>valR_fine k j hj) i obj _ _ _ _ _ (by omega) (by omega) g2 (fun _=>rfl) (by simp) (by simp) (by simp only[countL];omega)
  unfold valR
  split
  ·exact⟨rd5,h,Nat.le_refl _⟩
  rename_i hlt
  split
  ·exact hw 0 _ (.inl rfl) (by simp) (by simp)
  split
  ·exact hw 1 _ (.inr (.inl rfl)) (by simp) (by simp)
  split
  ·exact hw 2 _ (.inr (.inr rfl)) (by simp) (by simp)
  split
  ·exact hm false (by omega)
  split
  ·exact hm true (by omega)
  split
  ·have hf:=strR_fine h
   cases hr:strR s i with
   |bad c p=>rw[hr]at hf;exact hf
   |ok t e =>
    rw[hr]at hf
    exact⟨hf.1,hf.2.1,strV_rd hf.2.2 hf.1⟩
  ·have hf:=numR_fine (s:=s) (i:=i) (by omega)
   cases hr:numR s i with
   |bad c p=>rw[hr]at hf;exact hf
   |ok t e =>
    rw[hr]at hf
    exact⟨hf.1,hf.2.1,numV_rd hf.2.2 hf.1⟩
theorem decodeR_ok {s:ByteArray}{v:V}{c:Int×Nat}(h:decodeR s=(c,some v)):c=(0,0)∧v.right∧v.fit:=by
 unfold decodeR at h
 split at h
 ·cases h
 have hf:=valR_fine (s:=s) 20 (skipB s 0) (skip_in (Nat.zero_le _)).2.1
 cases hr:valR 20 s (skipB s 0) with
 |bad c p=>rw[hr]at h;cases h
 |ok u e =>
  rw[hr]at h hf
  simp only at h
  split at h
  ·cases h
  split at h
  ·cases h
  ·rename_i h200
   cases h
   obtain⟨_,_,h1,h2,_,h3⟩:=hf
   exact⟨rfl,⟨h3 (by omega),by omega,h2⟩,h1⟩
theorem decodeR_bad {s:ByteArray}{c:Int×Nat}(h:decodeR s=(c,none)):rdCode c.1∧c.2≤s.size:=by
 unfold decodeR at h
 split at h
 ·cases h;exact⟨.inl rfl,Nat.zero_le _⟩
 have hf:=valR_fine (s:=s) 20 (skipB s 0) (skip_in (Nat.zero_le _)).2.1
 cases hr:valR 20 s (skipB s 0) with
 |bad c p=>rw[hr]at h hf;cases h;exact⟨hf.1,hf.2.2⟩
 |ok u e =>
  rw[hr]at h hf
  simp only at h
  split at h
  ·rename_i h2
   cases h
   exact⟨rd5,by show skipB s e≤s.size;omega⟩
  split at h
  ·cases h;exact⟨.inl rfl,Nat.zero_le _⟩
  ·cases h
end Go.Proofs.YtlciedpfjhkkdaaGreatDoor
