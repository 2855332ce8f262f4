/- Texts of this proof: R14 H99 G64 G65 G66 G34 G31 M38 M12 M41 M43 M49. -/
import Derived.Test.YtlciedpfjhkkdaaGreatDoorKR09uR12
import Derived.Deep.RegionLaw
import Derived.Shelf.RegionOpenPlain
set_option linter.all false
namespace Go.Proofs.YtlciedpfjhkkdaaGreatDoor
open Go.RowKit
def joinS (sep:ByteArray):List ByteArray→ByteArray
 | []=>ByteArray.empty
 |x::r=>match r with
  | []=>x
  |_=>x++sep++joinS sep r
theorem joinS_cons (sep x:ByteArray) {r:List ByteArray}(h:r≠[]):joinS sep (x::r)=x++sep++joinS sep r:=by
 cases r with
 |nil=>exact absurd rfl h
 |cons y r=>rfl
theorem joinS_snoc (sep:ByteArray):∀(l:List ByteArray) (x:ByteArray),l≠[]→joinS sep (l++[x])=joinS sep l++sep++x
 | [],_,h=>absurd rfl h
 | [y],x,_=>rfl
 |y::z::r,x,_=>by
  rw[List.cons_append,joinS_cons sep y (by simp),joinS_snoc sep (z::r) x (by simp),joinS_cons sep y (by simp)]
  simp only[ByteArray.append_assoc]
theorem joinS_size (sep:ByteArray):∀l:List ByteArray,(joinS sep l).size≤(l.map fun x=>x.size+sep.size).sum
 | []=>Nat.zero_le _
 | [y]=>by simp[joinS]
 |y::z::r=>by
  have h1:=joinS_size sep (z::r)
  rw[joinS_cons sep y (by simp),ByteArray.size_append,ByteArray.size_append,List.map_cons,List.sum_cons]
  omega
theorem joinS_next (sep:ByteArray) {l:List ByteArray}{k:Nat}(h:k<l.length):joinS sep (l.take (k+1))=if k=0 then l[k] else joinS sep (l.take k)++sep++l[k]:=by
 rw[List.take_succ_eq_append_getElem h]
 split
 ·rename_i h0
  subst h0
  rfl
 ·rename_i h0
  refine joinS_snoc sep _ _ fun e=>?_
  have h1:(l.take k).length=0:=by rw[e];rfl
  rw[List.length_take]at h1
  omega
def nullS:ByteArray:=⟨#[110,117,108,108]⟩
def falseS:ByteArray:=⟨#[102,97,108,115,101]⟩
def trueS:ByteArray:=⟨#[116,114,117,101]⟩
abbrev bS (b:UInt8):ByteArray:=⟨#[b]⟩
mutual
def V.txt:V→ByteArray
 | .mk kind num text keys kids=>if kind=0 then nullS else if kind=1 then falseS else if kind=2 then trueS else if kind=3 then numS num else if kind=4 then encS text
  else if kind=5 then bS 91++joinS (bS 44) (partsT kind keys kids)++bS 93 else bS 123++joinS (bS 44) (partsT kind keys kids)++bS 125
def partsT (kind:Int) (keys:List ByteArray):List V→List ByteArray
 | []=>[]
 |x::r=>(if kind=6 then encS (keys.headD ByteArray.empty)++bS 58++x.txt else x.txt)::partsT kind keys.tail r
end
def V.part (t:V) (i:Nat) (x:V):ByteArray:=if t.kind=6 then encS (t.keyAt i)++bS 58++x.txt else x.txt
def V.parts (t:V):List ByteArray:=partsT t.kind t.keys t.kids
theorem partsT_len (kind:Int):∀(kids:List V) (keys:List ByteArray),(partsT kind keys kids).length=kids.length
 | [],_=>by simp[partsT]
 |x::r,keys=>by simp[partsT,partsT_len kind r]
theorem parts_len (t:V):t.parts.length=t.kids.length:=partsT_len _ _ _
theorem partsT_get (kind:Int):∀(kids:List V) (keys:List ByteArray) (i:Nat) (h:i<kids.length),(partsT kind keys kids)[i]? = some (if kind=6 then encS ((keys.drop i).headD ByteArray.empty)++bS 58++kids[i].txt else kids[i].txt)
 | [],_,i,h=>by simp at h
 |x::r,keys,0,_=>by simp[partsT]
 |x::r,keys,i+1,h=>by
  have h1:=partsT_get kind r keys.tail i (by simpa using h)
  simp only[partsT,List.getElem?_cons_succ,h1,List.getElem_cons_succ]
  rw[show keys.tail.drop i=keys.drop (i+1) by cases keys<;>simp]
theorem parts_get (t:V) {i:Nat}(h:i<t.kids.length):t.parts[i]? = some (t.part i t.kids[i]):=by
 have h1:=partsT_get t.kind t.kids t.keys i h
 unfold V.parts V.part
 rw[h1]
 unfold V.keyAt
 split<;>rfl
theorem parts_at (t:V) {i:Nat}(h:i<t.kids.length):t.parts[i]'(by rw[parts_len];exact h)=t.part i t.kids[i]:=by
 have h1:=parts_get t h
 rw[List.getElem?_eq_getElem (by rw[parts_len];exact h)]at h1
 exact Option.some.inj h1
theorem txt_arr {t:V}(h:t.kind=5):t.txt=bS 91++joinS (bS 44) t.parts++bS 93:=by
 cases t;simp only[kind_mk]at h;subst h;rfl
theorem txt_obj {t:V}(h:t.kind=6):t.txt=bS 123++joinS (bS 44) t.parts++bS 125:=by
 cases t;simp only[kind_mk]at h;subst h;rfl
theorem txt_null {t:V}(h:t.kind=0):t.txt=nullS:=by cases t;simp only[kind_mk]at h;subst h;rfl
theorem txt_false {t:V}(h:t.kind=1):t.txt=falseS:=by cases t;simp only[kind_mk]at h;subst h;rfl
theorem txt_true {t:V}(h:t.kind=2):t.txt=trueS:=by cases t;simp only[kind_mk]at h;subst h;rfl
theorem txt_num {t:V}(h:t.kind=3):t.txt=numS t.num:=by cases t;simp only[kind_mk]at h;subst h;rfl
theorem txt_str {t:V}(h:t.kind=4):t.txt=encS t.text:=by cases t;simp only[kind_mk]at h;subst h;rfl
theorem right_kind {t:V}(h:t.right):0≤t.kind∧t.kind≤6:=by
 have hc:=right_head h
 unfold CellD.code cellCode at hc
 cases hh:inB t.kind 0 6
 ·simp[hh]at hc
 ·simp[inB]at hh
  omega
theorem right_keyAt {t:V}(h:t.right) (i:Nat):(t.keyAt i).size≤60:=by
 unfold V.keyAt
 split
 ·rename_i h6
  rcases Nat.lt_or_ge i t.keys.length with hi | hi
  ·rw[List.drop_eq_getElem_cons hi]
   exact okText_size ((right_asc h h6).2.1 _ (List.getElem_mem hi))
  ·rw[List.drop_eq_nil_of_le hi];exact Nat.zero_le _
 ·exact Nat.zero_le _
theorem parts_sum {t:V}(hr:t.right) (ih:∀x∈t.kids,x.txt.size+124≤250*x.count):∀m,m≤t.kids.length→(joinS (bS 44) (t.parts.take m)).size≤250*countL t.kids:=by
 intro m hm
 refine Nat.le_trans (joinS_size _ _) ?_
 have key:∀m,m≤t.kids.length→((t.parts.take m).map fun x=>x.size+(bS 44).size).sum≤250*countL (t.kids.take m):=by
  intro m
  induction m with
  |zero=>intro _;simp
  |succ m ihm =>
   intro hm
   have h1:=ihm (by omega)
   have hm':m<t.kids.length:=by omega
   have hmem:t.kids[m]∈t.kids:=List.getElem_mem hm'
   have h2:=ih _ hmem
   have h3:=encS_size (right_keyAt hr m)
   rw[List.take_succ_eq_append_getElem (by rw[parts_len];omega),List.take_succ_eq_append_getElem hm',parts_at t hm',List.map_append,List.sum_append,countL_snoc]
   have h4:(t.part m t.kids[m]).size+1≤250*t.kids[m].count:=by
    unfold V.part
    split
    ·rw[ByteArray.size_append,ByteArray.size_append,one_size];omega
    ·omega
   have h5:(bS 44).size=1:=rfl
   simp only[h5]at h1
   simp only[List.map_cons,List.map_nil,List.sum_cons,List.sum_nil,h5]
   omega
 have h1:=key m hm
 have h2:=countL_take_le t.kids m
 omega
theorem txt_size:∀(n:Nat) (t:V),t.count≤n→t.right→t.txt.size+124≤250*t.count:=by
 intro n
 induction n with
 |zero=>intro t hn _;have:=count_pos t;omega
 |succ n ih =>
  intro t hn hr
  have hp:=count_pos t
  have hk:=right_kind hr
  have hcc:=count_kids t
  have hparts:=parts_sum hr (fun x hx=>ih x (by have:=countL_mem hx;omega) (right_mem hr hx)) t.kids.length (Nat.le_refl _)
  rw[List.take_of_length_le (by rw[parts_len];exact Nat.le_refl _)]at hparts
  have hcase:t.kind=0∨t.kind=1∨t.kind=2∨t.kind=3∨t.kind=4∨t.kind=5∨t.kind=6:=by omega
  rcases hcase with h | h | h | h | h | h | h
  ·rw[txt_null h];have:nullS.size=4:=rfl;omega
  ·rw[txt_false h];have:falseS.size=5:=rfl;omega
  ·rw[txt_true h];have:trueS.size=4:=rfl;omega
  ·rw[txt_num h];have:=numS_size (right_num hr);omega
  ·rw[txt_str h];have:=encS_size (okText_size (right_text hr));omega
  ·rw[txt_arr h,ByteArray.size_append,ByteArray.size_append,one_size,one_size];omega
  ·rw[txt_obj h,ByteArray.size_append,ByteArray.size_append,one_size,one_size];omega
theorem txt_size' {t:V}(h:t.right):t.txt.size≤50000:=by
 have h1:=txt_size _ t (Nat.le_refl _) h
 have:=h.2.1
 omega
theorem join_size {t:V}(h:t.right) {k:Nat}(hk:k≤t.kids.length):(joinS (bS 44) (t.parts.take k)).size≤50000:=by
 have h1:=parts_sum h (fun x hx=>txt_size _ x (Nat.le_refl _) (right_mem h hx)) k hk
 have h2:=count_kids t
 have:=h.2.1
 omega
theorem closed_osl (l:List (List CellD)):closedLL (l.map oslCs)=true:=by
 induction l with
 |nil=>rfl
 |cons c l ih=>simp only[List.map_cons,closedLL,ih,Bool.and_true,oslCs,closedL,C.closed,closed_cells]
theorem forget_osl (l:List (List CellD)):forgetLL (l.map oslCs)=l.map encCs:=by
 induction l with
 |nil=>rfl
 |cons c l ih=>simp only[List.map_cons,forgetLL,ih,oslCs,forgetL,C.forget,forget_cells,encCs]
attribute [go_sem] closed_osl forget_osl
theorem dec_way (xs:List CellD):((dec xs).2=none∧(dec xs).1≠0)∨∃t,dec xs=(0,some t)∧xs=t.enc∧t.wf∧t.count≤200∧t.depth≤20:=by
 rcases dec_cases xs with⟨t,ht⟩ | ⟨c,hc,hd⟩
 ·exact .inr ⟨t,ht,dec_ok ht⟩
 ·exact .inl ⟨by rw[hd],by rw[hd];exact hc⟩
set_option maxRecDepth 10000
def EditD.cs (d:EditD):List C:=[.int .i64 d.op,.sl (d.path.map CellD.cs),.sl (d.x.map CellD.cs)]
def EditD.os (d:EditD):List C:=[.int .i64 d.op,.osl (d.path.map CellD.cs),.osl (d.x.map CellD.cs)]
def EditD.av (d:EditD):AV:=.agg [.c (.int .i64 d.op),.c (.sl (d.path.map CellD.cs)),.c (.sl (d.x.map CellD.cs))]
theorem forget_edits (l:List EditD):forgetLL (l.map EditD.os)=l.map EditD.cs:=by
 induction l with
 |nil=>rfl
 |cons d l ih=>simp only[List.map_cons,forgetLL,ih,EditD.os,EditD.cs,forgetL,C.forget,forget_cells]
theorem closed_edits (l:List EditD):closedLL (l.map EditD.os)=true:=by
 induction l with
 |nil=>rfl
 |cons d l ih=>simp only[List.map_cons,closedLL,ih,Bool.and_true,EditD.os,closedL,C.closed,closed_cells]
theorem all_edits (l:List EditD):((l.map EditD.os).all fun r=>r.length==3)=true:=by simp[EditD.os]
attribute [go_sem] forget_edits closed_edits all_edits EditD.av
set_option maxRecDepth 10000
theorem implFault_ac (xs:List CellD) (hz:Sized xs):AC Tryz.prog 36 [cellsA xs] [] (.c (.int .i64 (dec xs).1)) []:=by
 rcases dec_cases xs with⟨t,ht⟩ | ⟨c,_,ht⟩
 ·have hv:=valOf_ac xs hz (t:=t) (by rw[ht])
  rw[ht]
  refine wEnter Tryz.func36 Tryz.ntmps36 ?_
  refine wRUN trivial ?_
  refine w9 (op_shared [] hv) trivial ?_
  refine wRUN trivial ?_
  exact wRet (ret_data []) Tryz.results36
 ·have hv:=valOf_bad xs hz (by rw[ht])
  refine wEnter Tryz.func36 Tryz.ntmps36 ?_
  refine wRUN trivial ?_
  refine w9 (op_shared [] hv) noV_eq ?_
  refine wRUN noV_eq ?_
  exact wRet (ret_data []) Tryz.results36
set_option maxRecDepth 10000
theorem l1ArrayS_ac (ps:List V) (hc:(arrV ps).count≤500000):AC Tryz.prog 98 [.c (.sl ((ps.map V.enc).map encCs))] [] (.c (.sl ((arrV ps).enc.map CellD.cs))) []:=by
 have h:=l1Array_ac ps hc
 (apply (AC.says [] [(0,0)] h);(focus (simp only[go_sem,Nat.reduceEqDiff,Nat.reduceAdd,Nat.reduceSub,Nat.reduceLeDiff,Nat.reduceMul,Nat.reduceBEq,Nat.reduceLT,Int.reduceToNat,reduceCtorEq];try (and_intros<;>rfl)));(focus exact rfl);(focus (simp only[go_sem,Nat.reduceEqDiff,Nat.reduceAdd,Nat.reduceSub,Nat.reduceLeDiff,Nat.reduceMul,Nat.reduceBEq,Nat.reduceLT,Int.reduceToNat,reduceCtorEq];try (and_intros<;>rfl)));(focus exact rfl);(iterate 4 (focus (simp[go_sem];done))))
set_option maxRecDepth 10000
theorem count_right {q:V}(h:q.right):AC Tryz.prog 40 [q.av] [] (.own (0,0)) [((0,0),.row false 5 94 (q.enc.map CellD.cs))] :=
 cells_ac q.count q (Nat.le_refl _) (by have:=h.2.1;omega) (right_neat h)
def small (t:V):Int×Option V:=if t.count≤200 then okR t else badR 2
theorem depth_node (t:V):t.depth=1+depthL t.kids:=by
 cases t
 simp only[V.depth,V.kids]
 omega
abbrev Mem1:=ByteArray×V
def fsts (l:List Mem1):List ByteArray:=l.map Prod.fst
def snds (l:List Mem1):List V:=l.map Prod.snd
def ovV (l:List Mem1):V:=.mk 6 0 ByteArray.empty (fsts l) (snds l)
theorem fs_len (l:List Mem1):(fsts l).length=(snds l).length:=by unfold fsts snds;rw[List.length_map,List.length_map]
theorem lastKid_mem {l:List Mem1}(h:Up (fsts l)) {k:ByteArray}{u:V}(h1:(k,u)∈l):lastKid (fsts l) (snds l) k=u:=by
 have hk:k∈fsts l:=List.mem_map.2 ⟨(k,u),h1,rfl⟩
 obtain⟨j,g1,_,g3⟩:=lastKid_at (fs_len l) hk
 obtain⟨i,hi,e1⟩:=List.mem_iff_getElem.1 h1
 have q1:(fsts l)[i]? = some k:=by unfold fsts;rw[List.getElem?_map,List.getElem?_eq_getElem hi,e1];rfl
 have:=up_inj h g1 q1
 subst this
 have q2:(snds l)[j]? = some u:=by unfold snds;rw[List.getElem?_map,List.getElem?_eq_getElem hi,e1];rfl
 rw[q2]at g3
 exact (Option.some.inj g3).symm
theorem arr_eta {t:V}(h:t.wf) (h5:t.kind=5):t=arrV t.kids:=by
 obtain⟨_,_,h3,h4,h6,_⟩:=right_shape h
 cases t with
 |mk kind num text keys kids =>
  simp only[V.kind,V.num,V.text,V.keys]at h5 h3 h4 h6
  rw[h3 (by omega),h4 (by omega),h6 (by omega),h5]
  rfl
def pairsV (t:V):List Mem1:=t.keys.zip t.kids
theorem pairs_f {t:V}(h:t.keys.length=t.kids.length):fsts (pairsV t)=t.keys:=by
 unfold fsts pairsV
 exact List.map_fst_zip (by omega)
theorem pairs_s {t:V}(h:t.keys.length=t.kids.length):snds (pairsV t)=t.kids:=by
 unfold snds pairsV
 exact List.map_snd_zip (by omega)
theorem obj_eta {t:V}(h:t.right) (h6:t.kind=6):t=ovV (pairsV t):=by
 obtain⟨_,_,hl⟩:=right_asc h h6
 obtain⟨_,_,h3,h4,_,_⟩:=right_shape h.1
 unfold ovV
 rw[pairs_f hl,pairs_s hl]
 cases t with
 |mk kind num text keys kids =>
  simp only[V.kind,V.num,V.text]at h6 h3 h4
  rw[h3 (by omega),h4 (by omega),h6]
  rfl
def Sub (s:ByteArray) (i:Nat) (l:List UInt8):Prop:=∃r,s.data.toList.drop i=l++r
theorem bAt_list (s:ByteArray) (i:Nat):bAt s i=match s.data.toList[i]? with | some b=>b.toNat | none=>256:=by
 rcases Nat.lt_or_ge i s.size with h | h
 ·obtain⟨b,h1,h2⟩:=bAt_in h
  have h3:s.data.toList[i]? = some b:=by
   have:s[i]? = some s[i]:=getElem?_pos s i h
   rw[this]at h1
   have hl:i<s.data.toList.length:=by rw[Array.length_toList];exact h
   rw[List.getElem?_eq_getElem hl,Array.getElem_toList]
   exact h1
  rw[h3,h2]
 ·have hl:s.data.toList[i]? = none:=List.getElem?_eq_none (by rw[Array.length_toList];exact h)
  rw[hl,bAt_end h]
theorem Sub.left {s:ByteArray}{i:Nat}{a b:List UInt8}(h:Sub s i (a++b)):Sub s i a:=by
 obtain⟨r,h⟩:=h
 exact⟨b++r,by rw[h,List.append_assoc]⟩
theorem Sub.right {s:ByteArray}{i:Nat}{a b:List UInt8}(h:Sub s i (a++b)):Sub s (i+a.length) b:=by
 obtain⟨r,h⟩:=h
 refine⟨r,?_⟩
 rw[←List.drop_drop,h,List.append_assoc,List.drop_left]
theorem Sub.tail {s:ByteArray}{i:Nat}{b:UInt8}{l:List UInt8}(h:Sub s i (b::l)):Sub s (i+1) l:=Sub.right (a:=[b]) h
theorem Sub.head {s:ByteArray}{i:Nat}{b:UInt8}{l:List UInt8}(h:Sub s i (b::l)):bAt s i=b.toNat:=by
 obtain⟨r,h⟩:=h
 have:s.data.toList[i]? = some b:=by
  have h1:(s.data.toList.drop i)[0]? = some b:=by rw[h];rfl
  rw[List.getElem?_drop]at h1
  simpa using h1
 rw[bAt_list,this]
theorem Sub.size {s:ByteArray}{i:Nat}{l:List UInt8}(h:Sub s i l) (hl:l≠[]):i+l.length≤s.size:=by
 obtain⟨r,h⟩:=h
 have h1:=congrArg List.length h
 rw[List.length_drop,List.length_append,Array.length_toList]at h1
 have h2:s.data.size=s.size:=rfl
 have h3:=List.length_pos_iff.2 hl
 omega
theorem sub_all (s:ByteArray):Sub s 0 s.data.toList:=⟨[],by simp⟩
theorem app_list (a b:ByteArray):(a++b).data.toList=a.data.toList++b.data.toList:=by
 rw[show (a++b).data=a.data++b.data from ByteArray.data_append,Array.toList_append]
theorem len_list (a:ByteArray):a.data.toList.length=a.size:=Array.length_toList
theorem word_read {s:ByteArray}{v:V}{i:Nat}:∀(l:List UInt8) (k:Nat),Sub s (i+k) l→wordR s v i (l.map UInt8.toNat) k=.ok v (i+k+l.length)
 | [],k,_=>by simp[wordR]
 |b::l,k,h=>by
  have h1:=word_read (v:=v) l (k+1) (by rw[←Nat.add_assoc];exact h.tail)
  simp only[List.map_cons,wordR]
  rw[if_pos h.head,h1]
  simp only[List.length_cons]
  congr 1
  omega
theorem bOne_byte (b:UInt8):bOne b.toNat=⟨#[b]⟩:=by unfold bOne;rw[UInt8.ofNat_toNat]
theorem snoc_list (out:ByteArray) (b:UInt8) (l:List UInt8):out++⟨(b::l).toArray⟩=out++bOne b.toNat++⟨l.toArray⟩:=by
 have e:(⟨(b::l).toArray⟩:ByteArray)=⟨#[b]⟩++⟨l.toArray⟩:=by
  apply ByteArray.ext
  rw[show ((⟨#[b]⟩:ByteArray)++⟨l.toArray⟩).data = #[b]++l.toArray from ByteArray.data_append]
  simp
 rw[bOne_byte,ByteArray.append_assoc,e]
theorem str_read {s:ByteArray}{f:Nat}:∀(l:List UInt8) (n i:Nat) (out:ByteArray),Sub s i (escL l++[34])→l.all okByte=true→out.size+l.length≤60→s.size-i<n→strGo s f n i out=.ok (out++⟨l.toArray⟩) (i+(escL l).length+1)
 |l,0,i,out,_,_,_,hn=>by omega
 | [],n+1,i,out,h,_,hz,hn=>by
  have hb:bAt s i=34:=Sub.head (l:=[]) h
  have hs:=bAt_in' (s:=s) (i:=i) (by omega)
  unfold strGo
  rw[if_neg (by omega),if_pos hb,if_neg (by simp at hz;omega)]
  have:out++(⟨([]:List UInt8).toArray⟩:ByteArray)=out:=ByteArray.append_empty
  rw[this]
  rfl
 |b::l,n+1,i,out,h,ha,hz,hn=>by
  simp only[List.all_cons,Bool.and_eq_true]at ha
  obtain⟨hb,ha⟩:=ha
  simp only[List.length_cons]at hz
  have hok:32≤b.toNat∧b.toNat≤126:=by unfold okByte at hb;simpa using hb
  have he:escL (b::l)=escB b++escL l:=rfl
  rw[he]at h
  have hsz:∀x:Nat,(out++bOne x).size+l.length≤60:=fun x=>by rw[snoc_size];omega
  rw[snoc_list]
  by_cases h34:b=34
  ·have e:escB b=[92,34]:=by unfold escB;rw[if_pos h34]
   rw[e]at h
   rw[List.append_assoc]at h
   have a0:bAt s i=92:=Sub.head h
   have a1:bAt s (i+1)=34:=Sub.head (Sub.tail h)
   have hs:=bAt_in' (s:=s) (i:=i) (by omega)
   unfold strGo
   rw[if_neg (by omega),if_neg (by omega),if_neg (by omega),if_neg (by omega)]
   have hx:escR s i=.ok 34 (i+2):=by unfold escR;rw[if_pos (.inl a1),a1]
   rw[hx]
   have:=str_read (f:=f) l n (i+2) (out++bOne 34) (Sub.tail (Sub.tail h)) ha (hsz _) (by omega)
   show strGo s f n (i+2) (out++bOne 34)=_
   rw[this,he,e,h34]
   simp only[List.length_append,List.length_cons,List.length_nil]
   congr 1
   omega
  by_cases h92:b=92
  ·have e:escB b=[92,92]:=by unfold escB;rw[if_neg h34,if_pos h92]
   rw[e]at h
   rw[List.append_assoc]at h
   have a0:bAt s i=92:=Sub.head h
   have a1:bAt s (i+1)=92:=Sub.head (Sub.tail h)
   have hs:=bAt_in' (s:=s) (i:=i) (by omega)
   unfold strGo
   rw[if_neg (by omega),if_neg (by omega),if_neg (by omega),if_neg (by omega)]
   have hx:escR s i=.ok 92 (i+2):=by unfold escR;rw[if_pos (.inr (.inl a1)),a1]
   rw[hx]
   have:=str_read (f:=f) l n (i+2) (out++bOne 92) (Sub.tail (Sub.tail h)) ha (hsz _) (by omega)
   show strGo s f n (i+2) (out++bOne 92)=_
   rw[this,he,e,h92]
   simp only[List.length_append,List.length_cons,List.length_nil]
   congr 1
   omega
  ·have e:escB b=[b]:=by unfold escB;rw[if_neg h34,if_neg h92]
   rw[e]at h
   rw[List.append_assoc]at h
   have a0:bAt s i=b.toNat:=Sub.head h
   have hs:=bAt_in' (s:=s) (i:=i) (by omega)
   have n34:b.toNat≠34:=fun h=>h34 (UInt8.toNat_inj.1 h)
   have n92:b.toNat≠92:=fun h=>h92 (UInt8.toNat_inj.1 h)
   unfold strGo
   rw[if_neg (by omega),if_neg (by omega),if_neg (by omega),if_pos (by omega),a0]
   rw[str_read (f:=f) l n (i+1) (out++bOne b.toNat) (Sub.tail h) ha (hsz _) (by omega),he,e]
   simp only[List.length_append,List.length_cons,List.length_nil]
   congr 1
   omega
theorem encS_list (t:ByteArray):(encS t).data.toList=34::(escL t.data.toList++[34]):=by
 unfold encS
 rw[app_list,app_list]
 simp
theorem encS_read {s:ByteArray}{i:Nat}{t:ByteArray}(h:Sub s i (encS t).data.toList) (ht:okText t=true):strR s i=.ok t (i+(encS t).size):=by
 have hl:(encS t).size=(escL t.data.toList).length+2:=by rw[←len_list,encS_list];simp
 rw[encS_list]at h
 unfold okText at ht
 simp only[Bool.and_eq_true,decide_eq_true_eq]at ht
 have hh:=Sub.head h
 unfold strR
 rw[if_neg (by rw[hh];decide)]
 rw[str_read (f:=i) t.data.toList (s.size+1) (i+1) ByteArray.empty (Sub.tail h) ht.2 (by rw[len_list];simpa using ht.1) (by omega),hl]
 have:ByteArray.empty++(⟨t.data.toList.toArray⟩:ByteArray)=t:=by rw[ByteArray.empty_append]
 rw[this]
 congr 1
 omega
theorem dig_byte {d:Nat}(h:d<10):(UInt8.ofNat (48+d)).toNat=48+d:=by
 rw[UInt8.toNat_ofNat']
 exact Nat.mod_eq_of_lt (by omega)
theorem decN_read {s:ByteArray}{a:Nat}:∀(m u:Nat),u≤m→Sub s a (Lib.decDigits u)→decN s a (Lib.decDigits u).length=u∧(∀j,a≤j→j<a+(Lib.decDigits u).length→digB (bAt s j)=true)∧(u≠0→bAt s a≠48)
 |m,u,hm,h=>by
  by_cases hu:u<10
  ·rw[Lib.decDigits_one hu]at h ⊢
   have hb:=Sub.head h
   rw[dig_byte hu]at hb
   refine⟨?_,fun j h1 h2=>?_,fun h0=>by omega⟩
   ·simp only[List.length_cons,List.length_nil,decN,Nat.add_zero,hb]
    omega
   ·have:j=a:=by simp at h2;omega
    rw[this,hb]
    unfold digB
    simp
    omega
  ·cases m with
   |zero=>omega
   |succ m =>
    have e:Lib.decDigits u=Lib.decDigits (u / 10)++[UInt8.ofNat (48+u % 10)]:=by rw[Lib.decDigits,dif_neg hu]
    rw[e]at h ⊢
    obtain⟨h1,h2,h3⟩:=decN_read m (u / 10) (by omega) (Sub.left h)
    have hb:=Sub.head (Sub.right h)
    rw[dig_byte (by omega)]at hb
    refine⟨?_,fun j g1 g2=>?_,fun _=>h3 (by omega)⟩
    ·simp only[List.length_append,List.length_cons,List.length_nil,decN,h1,hb]
     omega
    ·simp only[List.length_append,List.length_cons,List.length_nil]at g2
     by_cases hj:j<a+(Lib.decDigits (u / 10)).length
     ·exact h2 j g1 hj
     ·have:j=a+(Lib.decDigits (u / 10)).length:=by omega
      rw[this,hb]
      unfold digB
      simp
      omega
theorem digE_run {s:ByteArray}:∀(n i:Nat),(∀j,i≤j→j<i+n→digB (bAt s j)=true)→digB (bAt s (i+n))=false→digE s i=i+n
 | 0,i,_,h=>digE_stop h
 |n+1,i,h1,h2=>by
  rw[digE_dig (h1 i (Nat.le_refl _) (by omega)),digE_run n (i+1) (fun j g1 g2=>h1 j (by omega) (by omega)) (by rw[show i+1+n=i+(n+1) by omega];exact h2)]
  omega
theorem nDigits_le {u:Nat}(h:u≤1000000000000000):Lib.nDigits u≤16:=by
 rcases Nat.lt_or_ge (Lib.nDigits u) 17 with h1 | h1
 ·omega
 ·exfalso
  have key:∀(n v:Nat),n+1≤Lib.nDigits v→10 ^ n≤v∨(n=0):=by
   intro n
   induction n with
   |zero=>intro v _;exact .inr rfl
   |succ n ih =>
    intro v hv
    by_cases hv10:v<10
    ·rw[Lib.nDigits_small hv10]at hv;omega
    ·rw[Lib.nDigits_big hv10]at hv
     rcases ih (v / 10) (by omega) with h | h
     ·refine .inl ?_
      rw[Nat.pow_succ]
      omega
     ·refine .inl ?_
      rw[h]
      omega
  rcases key 16 u h1 with h | h
  ·have:(10:Nat) ^ 16=10000000000000000:=by decide
   omega
  ·omega
def stopB (s:ByteArray) (e:Nat):Prop:=digB (bAt s e)=false∧dotB (bAt s e)=false
theorem nat_read {s:ByteArray}{a u:Nat}(h:Sub s a (Lib.decDigits u)) (hs:digB (bAt s (a+(Lib.decDigits u).length))=false):digB (bAt s a)=true∧(if bAt s a=48 then a+1 else digE s a)=a+(Lib.decDigits u).length∧decN s a (Lib.decDigits u).length=u:=by
 obtain⟨h1,h2,h3⟩:=decN_read u u (Nat.le_refl _) h
 have hp:1≤(Lib.decDigits u).length:=by rw[Lib.decDigits_length];exact Lib.nDigits_pos u
 refine⟨h2 a (Nat.le_refl _) (by omega),?_,h1⟩
 by_cases hu:u=0
 ·subst hu
  have e:Lib.decDigits 0=[48]:=by rw[Lib.decDigits_one (by decide)];rfl
  rw[e]at h ⊢
  rw[if_pos (show bAt s a=48 from Sub.head h)]
  rfl
 ·rw[if_neg (h3 hu)]
  exact digE_run _ _ h2 hs
theorem num_read {s:ByteArray}{i:Nat}{n:Int}(hn:-1000000000000000≤n∧n≤1000000000000000) (h:Sub s i (numS n).data.toList) (hs:stopB s (i+(numS n).size)):numR s i=.ok n (i+(numS n).size):=by
 have hl:(numS n).size=(Lib.itoa n).length:=by rw[←len_list];simp[numS]
 have hd:(numS n).data.toList=Lib.itoa n:=by simp[numS]
 rw[hd]at h
 rw[hl]at hs ⊢
 have fin:∀(a u:Nat),numA s i=a→Sub s a (Lib.decDigits u)→u≤1000000000000000→a+(Lib.decDigits u).length=i+(Lib.itoa n).length→numV' s i=n∨True→(bAt s i=45→-((u:Nat):Int)=n)→(bAt s i≠45→((u:Nat):Int)=n)→numR s i=.ok n (i+(Lib.itoa n).length):=by
  intro a u ha hsub hu hal _ hm hp
  obtain⟨g1,g2,g3⟩:=nat_read hsub (by rw[hal];exact hs.1)
  have hE:numE s i=a+(Lib.decDigits u).length:=by unfold numE;rw[ha];exact g2
  have hlen:=nDigits_le hu
  rw[←Lib.decDigits_length]at hlen
  have hsub':numE s i-numA s i=(Lib.decDigits u).length:=by rw[hE,ha];omega
  unfold numR
  rw[if_neg (by rw[ha,g1];decide)]
  have hbig:numBig s i=false:=by
   unfold numBig
   rw[hsub',ha,g3]
   simp
   omega
  rw[if_neg (by rw[hbig];decide),if_neg (by rw[hE,hal,hs.2];decide),hE,hal]
  congr 1
  unfold numV'
  rw[hsub',ha,g3]
  by_cases h45:bAt s i=45
  ·rw[if_pos h45];exact hm h45
  ·rw[if_neg h45];exact hp h45
 unfold Lib.itoa at h
 by_cases h0:n<0
 ·rw[if_pos h0]at h
  have hb:bAt s i=45:=Sub.head h
  refine fin (i+1) n.natAbs (by unfold numA;rw[if_pos hb]) (Sub.tail h) (by omega) ?_ (.inr trivial) (fun _=>by omega) (fun h=>absurd hb h)
  unfold Lib.itoa
  rw[if_pos h0,List.length_cons]
  omega
 ·rw[if_neg h0]at h
  obtain⟨_,h2,_⟩:=decN_read n.toNat n.toNat (Nat.le_refl _) h
  have hp:1≤(Lib.decDigits n.toNat).length:=by rw[Lib.decDigits_length];exact Lib.nDigits_pos _
  have hd0:=dig_lt (h2 i (Nat.le_refl _) (by omega))
  have hb:bAt s i≠45:=by omega
  refine fin i n.toNat (by unfold numA;rw[if_neg hb]) h (by omega) ?_ (.inr trivial) (fun h=>absurd h hb) (fun _=>by omega)
  unfold Lib.itoa
  rw[if_neg h0]
end Go.Proofs.YtlciedpfjhkkdaaGreatDoor
