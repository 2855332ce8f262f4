/- Texts of this proof: G04 G05 G20 G21 M20 M21 M22 M23. -/
import Derived.Test.YtlciedpfjhkkdaaGreatDoorKB3
import Derived.Test.YtlciedpfjhkkdaaGreatDoorKM2
set_option linter.all false
set_option maxHeartbeats 8000000
namespace Go.Proofs.YtlciedpfjhkkdaaGreatDoor
section
open Go.RowKit
section
variable {w:World} {S:Nat→Prop}
theorem crs_cell {c:CellD}{v:List Value}{bs:List Nat}:CRs w S c.cs v bs↔v=vals c∧bs=[]:=by
 simp only[CellD.cs,CRs,CR,vals]
 constructor
 ·rintro⟨_,_,_,_,rfl,rfl,⟨rfl,rfl⟩,_,_,_,_,rfl,rfl,⟨rfl,rfl⟩,_,_,_,_,rfl,rfl,⟨rfl,rfl⟩,_,_,_,_,rfl,rfl,⟨rfl,rfl⟩,_,_,_,_,rfl,rfl,⟨rfl,rfl⟩,rfl,rfl⟩
  exact⟨rfl,rfl⟩
 ·rintro⟨rfl,rfl⟩
  exact⟨_,_,[],[],rfl,rfl,⟨rfl,rfl⟩,_,_,[],[],rfl,rfl,⟨rfl,rfl⟩,_,_,[],[],rfl,rfl,⟨rfl,rfl⟩,_,_,[],[],rfl,rfl,⟨rfl,rfl⟩,_,_,[],[],rfl,rfl,⟨rfl,rfl⟩,rfl,rfl⟩
theorem crss_map {α:Type}{f:α→List C}{g:α→List Value}(hf:∀{x v bs},CRs w S (f x) v bs↔v=g x∧bs=[]):∀{l:List α}{vs:List (List Value)}{bs:List Nat},CRss w S (l.map f) vs bs↔vs=l.map g∧bs=[]
 | [],vs,bs=>by simp[CRss]
 |x::l,vs,bs=>by
  simp only[List.map_cons,CRss]
  constructor
  ·rintro⟨v,vs',b1,b2,rfl,rfl,h1,h2⟩
   obtain⟨rfl,rfl⟩:=hf.1 h1
   obtain⟨rfl,rfl⟩:=(crss_map hf).1 h2
   exact⟨rfl,rfl⟩
  ·rintro⟨rfl,rfl⟩
   exact⟨_,_,[],[],rfl,rfl,hf.2 ⟨rfl,rfl⟩,(crss_map hf).2 ⟨rfl,rfl⟩⟩
theorem Row.resize {es n:Nat}{A:Option Addr}{xs:List (List Value)}(h:Row w S es A xs) (hl:∀x∈xs,x.length=n):Row w S n A xs:=by
 cases xs with
 |nil=>exact Row.nil
 |cons x xs =>
  have h1:=h.1 x (by simp)
  have h2:=hl x (by simp)
  rw[←h2,h1]
  exact h
theorem cr_rows {α:Type}{f:α→List C}{g:α→List Value}{n:Nat}(hf:∀{x v bs},CRs w S (f x) v bs↔v=g x∧bs=[]) (hg:∀x,(g x).length=n) {l:List α}{v:Value} :
  CR w S (.sl (l.map f)) v []↔∃A cap,v=.slice A l.length cap∧l.length≤cap∧Row w S n A (l.map g):=by
 simp only[CR]
 constructor
 ·rintro⟨es,A,cap,vrows,rfl,h2,_,h4,h5,_⟩
  obtain⟨rfl,_⟩:=(crss_map hf).1 h5
  rw[List.length_map]at h2 ⊢
  exact⟨A,cap,rfl,h2,h4.resize (by simp[hg])⟩
 ·rintro⟨A,cap,rfl,h2,h4⟩
  exact⟨n,A,cap,l.map g,by rw[List.length_map],by rw[List.length_map];exact h2,trivial,h4,(crss_map hf).2 ⟨rfl,rfl⟩,trivial⟩
theorem vals_len (c:CellD):(vals c).length=5:=rfl
theorem cr_cells {xs:List CellD}{v:Value}:CR w S (.sl (xs.map CellD.cs)) v []↔∃A cap,v=.slice A xs.length cap∧xs.length≤cap∧Cells w S A xs:=cr_rows crs_cell vals_len
theorem crs_str {s:ByteArray}{v:List Value}{bs:List Nat}:CRs w S (strCs s) v bs↔v=[.string s]∧bs=[]:=by
 simp only[strCs,CRs,CR]
 constructor
 ·rintro⟨_,_,_,_,rfl,rfl,⟨rfl,rfl⟩,rfl,rfl⟩
  exact⟨rfl,rfl⟩
 ·rintro⟨rfl,rfl⟩
  exact⟨_,_,[],[],rfl,rfl,⟨rfl,rfl⟩,rfl,rfl⟩
theorem cr_strs {xs:List ByteArray}{v:Value}:CR w S (.sl (xs.map strCs)) v []↔∃A cap,v=.slice A xs.length cap∧xs.length≤cap∧Strs w S A xs:=cr_rows (f:=strCs) (g:=fun k=>[.string k]) (n:=1) crs_str fun _=>rfl
mutual
theorem crs_tree:∀{t:V}{vs:List Value},VRep w S t vs→CRs w S t.cs vs []
 | .mk kind num text keys kids,vs,h=>by
  simp only[VRep]at h
  obtain⟨Ak,ck,Av,cv,kvs,rfl,h2,h3,h4,h5,h6⟩:=h
  have h7:=crss_trees h6
  have hl:=h7.length
  simp only[csL_eq,List.length_map]at hl
  simp only[V.cs,CRs]
  refine⟨_,_,[],[],rfl,rfl,⟨rfl,rfl⟩,_,_,[],[],rfl,rfl,⟨rfl,rfl⟩,_,_,[],[],rfl,rfl,⟨rfl,rfl⟩,_,_,[],[],rfl,rfl,cr_strs.2 ⟨_,_,rfl,h2,h4⟩,_,_,[],[],rfl,rfl,?_,rfl,rfl⟩
  simp only[CR]
  exact⟨5,Av,cv,kvs,by rw[csL_eq,List.length_map],by rw[csL_eq,List.length_map];exact h3,trivial,h5,h7,trivial⟩
theorem crss_trees:∀{ts:List V}{vs:List (List Value)},VReps w S ts vs→CRss w S (csL ts) vs []
 | [],vs,h=>by
  simp only[VReps]at h
  subst h
  exact⟨rfl,rfl⟩
 |t::ts,vs,h=>by
  simp only[VReps]at h
  obtain⟨v,vs',rfl,h1,h2⟩:=h
  exact⟨_,_,[],[],rfl,rfl,crs_tree h1,crss_trees h2⟩
end
end
theorem ars_cells {w:World}{S:Nat→Prop}{m:Mem}{κ:Id→Value}:∀{xs:List C}{vs:List Value},CRs w S xs vs []→ARs w S m κ (xs.map .c) vs
 | [],vs,h=>by
  simp only[CRs]at h
  exact h.1
 |x::xs,vs,h=>by
  simp only[CRs]at h
  obtain⟨v,vs',b1,b2,rfl,h0,h1,h2⟩:=h
  have h3:b1=[]∧b2=[]:=by simpa using h0.symm
  obtain⟨rfl,rfl⟩:=h3
  exact⟨v,vs',rfl,h1,ars_cells h2⟩
theorem V.av_eq (t:V):t.av=.agg (t.cs.map .c):=by rw[V.cs_eq];rfl
theorem ar_tree {w:World}{S:Nat→Prop}{m:Mem}{κ:Id→Value}{t:V}{vs:List Value}(h:VRep w S t vs):AR w S m κ t.av (.agg vs.toArray):=by
 rw[V.av_eq]
 refine⟨vs,rfl,ars_cells (crs_tree h),?_⟩
 intro u hu
 cases t
 simp only[VRep]at h
 obtain⟨Ak,ck,Av,cv,kvs,rfl,_⟩:=h
 simp only[List.mem_cons,List.not_mem_nil,or_false]at hu
 rcases hu with rfl | rfl | rfl | rfl | rfl<;>rfl
theorem AC.of_calls {P:Program}{f:FuncId}{args:List AV}{res:AV}
  (h:∀(S:Nat→Prop) (w:World) (κ:Id→Value) (vals:List Value),ARs w S [] κ args vals→Calls P f vals.toArray w fun e w'=>Below w.heap.size w w'∧∃v,e=.returned v∧∀T:Nat→Prop,(∀b,S b→T b)→(∀b,w.heap.size≤b→T b)→AR w' T [] κ res v):AC P f args [] res []:=by
 intro Γ vals hE hA
 have how:∀b,Γ.ow b=none:=by
  intro b
  cases hb:Γ.ow b with
  |none=>rfl
  |some i=>obtain⟨_,o,h1,_⟩:=hE.own b i hb;simp[Mem.get]at h1
 refine (h _ _ _ _ hA).mono ?_
 rintro e w' ⟨hb,v,rfl,hv⟩
 refine⟨v,Γ.ow,Γ.κ,rfl,⟨hv _ (fun _ h=>h) (fun b hb=>⟨how b,.inr (.inl hb)⟩),fun i o h=>(by simp[Mem.get]at h),fun b i h=>(by rw[how b]at h;cases h),hb.os,hb.tape,hb.output,hb.size,fun b hl _=>⟨hb.block b hl,how b⟩,fun i o o' h=>(by simp[Mem.get]at h)⟩⟩
def noV:AV:=.agg [.c (.int .i64 0),.c (.int .i64 0),.c (.str ByteArray.empty),.nils,.nils]
theorem noV_eq:noV=.agg [.c (.int .i64 0),.c (.int .i64 0),.c (.str ByteArray.empty),.nils,.nils]:=rfl
theorem ar_noV {w:World}{S:Nat→Prop}{m:Mem}{κ:Id→Value}:AR w S m κ noV (.agg zero5) :=
 ⟨[.int .i64 0,.int .i64 0,.string ByteArray.empty,.slice none 0 0,.slice none 0 0],rfl,⟨_,_,rfl,⟨rfl,rfl⟩,_,_,rfl,⟨rfl,rfl⟩,_,_,rfl,⟨rfl,rfl⟩,_,_,rfl,rfl,_,_,rfl,rfl,rfl⟩,by
  intro u hu
  simp only[List.mem_cons,List.not_mem_nil,or_false]at hu
  rcases hu with rfl | rfl | rfl | rfl | rfl<;>rfl⟩
theorem valOf_bad (xs:List CellD) (hz:Sized xs) (hd:(dec xs).2=none):AC Tryz.prog 46 [cellsA xs] [] (.tup [noV,.c (.int .i64 (dec xs).1)]) []:=by
 refine AC.of_calls fun S w κ vs hv=>?_
 obtain⟨v,vs',rfl,h1,rfl⟩:=hv
 obtain⟨A,cap,rfl,_,hc⟩:=cr_cells.1 h1
 refine (valOf_any xs hz A cap S w hc).mono ?_
 rintro e w' ⟨hb,he⟩
 rw[hd]at he
 subst he
 exact⟨hb,_,rfl,fun T _ _=>⟨[_,_],rfl,_,_,rfl,ar_noV,_,_,rfl,⟨rfl,rfl⟩,rfl⟩⟩
theorem valOf_ac (xs:List CellD) (hz:Sized xs) {t:V}(hd:(dec xs).2=some t):AC Tryz.prog 46 [cellsA xs] [] (.tup [t.av,.c (.int .i64 0)]) []:=by
 refine AC.of_calls fun S w κ vs hv=>?_
 obtain⟨v,vs',rfl,h1,rfl⟩:=hv
 obtain⟨A,cap,rfl,_,hc⟩:=cr_cells.1 h1
 refine (valOf_any xs hz A cap S w hc).mono ?_
 rintro e w' ⟨hb,he⟩
 rw[hd]at he
 obtain⟨vs,rfl,hr⟩:=he
 exact⟨hb,_,rfl,fun T _ hT=>⟨[_,_],rfl,_,_,rfl,ar_tree (hr.weaken fun b hb _=>hT b hb),_,_,rfl,⟨rfl,rfl⟩,rfl⟩⟩
end
section
open Go.RowKit
def pathCs (p:List V×V):List C:=[.osl ((arrV p.1).enc.map CellD.cs)]
theorem all_paths (l:List (List V×V)):((l.map pathCs).all fun r=>r.length==1)=true:=by simp[pathCs]
attribute [go_sem] all_paths
set_option maxRecDepth 10000
theorem arr_count (l:List V):(arrV l).count=countL l+1:=rfl
def outA (c:Int) (t:V):AV:=.agg [.c (.int .i64 c),.c (.int .i64 t.kind),.c (.int .i64 t.num),.c (.str t.text),.c (.sl (t.keys.map strCs)),.c (.sl (t.kids.map V.cs))]
theorem outA_eq (c:Int) (t:V):outA c t=.agg [.c (.int .i64 c),.c (.int .i64 t.kind),.c (.int .i64 t.num),.c (.str t.text),.c (.sl (t.keys.map strCs)),.c (.sl (t.kids.map V.cs))]:=rfl
theorem nullV_av:nullV.av=.agg [.c (.int .i64 0),.c (.int .i64 0),.c (.str ByteArray.empty),.c (.sl []),.c (.sl [])]:=rfl
attribute [go_sem] outA_eq
set_option maxRecDepth 10000
theorem null_ac:AC Tryz.prog 51 [] [] nullV.av []:=by
 rw[nullV_av]
 refine wEnter Tryz.func51 Tryz.ntmps51 ?_
 refine wRUN trivial ?_
 exact wRet (ret_data []) Tryz.results51
theorem count_ac:∀(m:Nat) (t:V),t.count≤m→t.count≤500000→AC Tryz.prog 82 [t.av] [] (.c (.int .i64 t.count)) []:=by
 intro m
 induction m with
 |zero=>intro t hm _;have:=count_pos t;omega
 |succ m ih =>
  intro t hm hM
  have hkc:=count_kids t
  have hkl:=countL_len t.kids
  obtain⟨R,hR⟩:∃R:Nat→Nat,∀k,R k=1+countL (t.kids.take k):=⟨_,fun _=>rfl⟩
  have h0:R 0=1:=by rw[hR];simp[countL]
  refine wEnter Tryz.func82 Tryz.ntmps82 ?_
  refine wRUN trivial ?_
  refine a_loop (κ:=Nat) (fun k=>⟨mkS 0 19 [(1,.ptr (1,0) 0),(3,.c (.int .i64 (R k))),(7,.c (.sl (t.kids.map V.cs))),(8,.c (.int .i64 t.kids.length)),(9,.c (.int .i64 k))],
    [((1,0),.box [.c (.int .i64 t.kind),.c (.int .i64 t.num),.c (.str t.text),.c (.sl (t.keys.map strCs)),.c (.sl (t.kids.map V.cs))])]⟩)
   (fun k=>k≤t.kids.length) (fun k=>t.kids.length-k) 0 (Nat.zero_le _) ?_ ?_
  ·exact wSays (Says.of [((1,0),(1,0))] []) h0
  ·intro k hk
   by_cases hlt:k<t.kids.length
   ·have hd:decide ((k:Int)<(t.kids.length:Int))=true:=by simpa using hlt
    have hr:rowsAt (t.kids.map V.cs) 5 k=true:=by simp[rowsAt,hlt,V.cs_eq]
    have hg:(t.kids.map V.cs)[k]? = some t.kids[k].cs:=by simp[hlt]
    have hmem:=countL_mem (List.getElem_mem hlt)
    have hRk:R (k+1)=R k+t.kids[k].count:=by rw[hR,hR,List.take_succ_eq_append_getElem hlt,countL_snoc];omega
    have hRl:R (k+1)≤t.count:=by rw[hR];have:=countL_take_le t.kids (k+1);omega
    have hw:=wrap_succ (k:=k) (by omega)
    generalize t.kids[k]=u at *
    have hi:=ih u (by omega) (by omega)
    have hs:IntKind.i64.wrap ((R k:Int)+(u.count:Int))=((R (k+1):Nat):Int):=by rw[IntWalk.i64_in _ (by omega)];omega
    refine wRUN (j3 hd hr hg) ?_
    refine w7 (op_data [] hi) trivial ?_
    refine wRUN (j2 hs hw) ?_
    refine⟨k+1,by omega,by omega,?_⟩
    exact wSays (Says.of [((1,0),(1,0))] []) hs
   ·have hd:decide ((k:Int)<(t.kids.length:Int))=false:=by simpa using hlt
    have hke:R k=t.count:=by rw[hR,List.take_of_length_le (by omega)];omega
    refine wRUN hd ?_
    exact ret_data [] (by simp only[Tryz.results82,go_sem,Nat.reduceBEq,Nat.reduceLT];exact rfl) (by simp only[go_sem,Nat.reduceEqDiff,Nat.reduceAdd,Nat.reduceSub,Nat.reduceLeDiff,Nat.reduceMul,Nat.reduceBEq,Nat.reduceLT,Int.reduceToNat,reduceCtorEq,hke]) rfl
theorem okText_size {s:ByteArray}(h:okText s=true):s.size≤60:=by
 unfold okText at h
 simp only[Bool.and_eq_true,decide_eq_true_eq]at h
 exact h.1
theorem right_sized {t:V}(h:t.right):Sized t.enc:=by
 intro c hc
 have h1:=cells_codes t ByteArray.empty h.1 okText_empty c hc
 have h2:=code_text h1
 exact⟨by have:=okText_size h2.1;omega,by have:=okText_size h2.2;omega⟩
set_option maxRecDepth 10000
def bsPos (ks:List ByteArray) (key:ByteArray):Nat:=ks.findIdx fun k=>!lessB k key
theorem bsPos_le (ks:List ByteArray) (key:ByteArray):bsPos ks key≤ks.length:=List.findIdx_le_length
theorem bsPos_low {ks:List ByteArray}{key:ByteArray}{t:Nat}(h:t<bsPos ks key):lessB (ks[t]'(by have:=bsPos_le ks key;omega)) key=true:=by
 have:=List.not_of_lt_findIdx h
 simpa using this
def bsFound (ks:List ByteArray) (key:ByteArray):Bool:=if h:bsPos ks key<ks.length then ks[bsPos ks key].toList==key.toList else false
theorem lessB_asym {a b:ByteArray}(h:lessB a b=true):lessB b a=false:=by
 cases h2:lessB b a with
 |false=>rfl
 |true =>
  have:=lessB_trans h h2
  rw[lessB_irrefl]at this
  cases this
theorem bsPos_cons (x:ByteArray) (r:List ByteArray) (k:ByteArray):bsPos (x::r) k=if lessB x k then bsPos r k+1 else 0:=by
 unfold bsPos
 rw[List.findIdx_cons]
 cases lessB x k<;>rfl
theorem bsFound_iff {l:List ByteArray}{k:ByteArray}:bsFound l k=true↔l[bsPos l k]? = some k:=by
 unfold bsFound
 split
 ·rename_i h
  rw[List.getElem?_eq_getElem h,beq_iff_eq,Option.some.injEq]
  exact⟨ByteArray_toList_inj,fun e=>by rw[e]⟩
 ·rename_i h
  rw[List.getElem?_eq_none (by omega)]
  simp
theorem bsPos_at {l:List ByteArray}{k:ByteArray}(h:bsPos l k<l.length):lessB l[bsPos l k] k=false:=by
 have h2:(fun x=>!lessB x k) (l[bsPos l k])=true:=List.findIdx_getElem (w:=h)
 simpa using h2
theorem insKey_pos:∀{l:List ByteArray}{k:ByteArray},Up l→insKey k l=if bsFound l k then l else l.take (bsPos l k)++[k]++l.drop (bsPos l k)
 | [],k,_=>by simp[insKey,bsFound,bsPos]
 |x::r,k,h=>by
  have h':=List.pairwise_cons.1 (show List.Pairwise _ (x::r) from h)
  unfold insKey
  split
  ·rename_i hl
   have hx:=lessB_asym hl
   have hp:bsPos (x::r) k=0:=by rw[bsPos_cons,hx];rfl
   have hf:bsFound (x::r) k=false:=by
    cases hf:bsFound (x::r) k with
    |false=>rfl
    |true =>
     have:=bsFound_iff.1 hf
     rw[hp]at this
     have e:x=k:=by simpa using this
     subst e
     rw[lessB_irrefl]at hl
     cases hl
   rw[hf,hp]
   simp
  ·rename_i hl
   split
   ·rename_i he
    have e:k=x:=ByteArray_toList_inj (by simpa using he)
    subst e
    have hp:bsPos (k::r) k=0:=by rw[bsPos_cons,lessB_irrefl];rfl
    have hf:bsFound (k::r) k=true:=bsFound_iff.2 (by rw[hp];rfl)
    rw[hf]
    rfl
   ·rename_i he
    have hxk:lessB x k=true:=by
     rcases lessB_tri x k with g | g | g
     ·exact g
     ·subst g;exact absurd (by simp) he
     ·exact absurd g hl
    have hp:bsPos (x::r) k=bsPos r k+1:=by rw[bsPos_cons,hxk];rfl
    have hf:bsFound (x::r) k=bsFound r k:=by
     have:bsFound (x::r) k=true↔bsFound r k=true:=by
      rw[bsFound_iff,bsFound_iff,hp,List.getElem?_cons_succ]
     cases h1:bsFound (x::r) k<;>cases h2:bsFound r k<;>simp_all
    rw[hf,hp,insKey_pos h'.2]
    split
    ·rfl
    ·simp
theorem setMap {l:List ByteArray}(h:Up l) {p:Nat}{k:ByteArray}(hp:l[p]? = some k) (g g':ByteArray→V) (v:V) (hk:g' k=v) (hg:∀x∈l,x≠k→g' x=g x):l.map g'=(l.map g).set p v:=by
 refine List.ext_getElem (by simp) fun i h1 h2=>?_
 have hi:i<l.length:=by simpa using h1
 rw[List.getElem_map,List.getElem_set]
 split
 ·rename_i e
  subst e
  rw[List.getElem?_eq_getElem hi]at hp
  rw[Option.some.inj hp,hk]
 ·rename_i e
  rw[List.getElem_map]
  refine hg _ (List.getElem_mem hi) fun hx=>e ?_
  exact up_inj h hp (List.getElem?_eq_some_iff.2 ⟨hi,hx⟩)
theorem arr_fit {l:List V}(h:∀v∈l,v.fit):(arrV l).fit:=⟨Nat.zero_le _,by simp,fun h=>absurd h (by decide),fun h=>absurd h (by decide),fun _=>rfl,fitL_iff.2 h⟩
theorem obj_fit {ks:List ByteArray}{vs:List V}(hl:ks.length=vs.length) (hk:∀k∈ks,k.size≤60) (hv:∀v∈vs,v.fit):(objV ks vs).fit:=by
 refine⟨Nat.zero_le _,fun k h=>hk k (objKeys_mem.1 h),fun h=>absurd h (by decide),fun _=>(List.length_map _).symm,fun h=>absurd rfl h,fitL_iff.2 fun v h=>?_⟩
 obtain⟨k,hk',rfl⟩:=List.mem_map.1 h
 obtain⟨j,_,_,h3⟩:=lastKid_at (kids:=vs) hl (objKeys_mem.1 hk')
 exact hv _ (List.mem_of_getElem? h3)
theorem asc_of:∀{l:List ByteArray}{p:Option ByteArray},Up l→(∀k∈l,∀q,p=some q→lessB q k=true)→asc p l
 | [],p,_,_=>by unfold asc;trivial
 |k::l,p,h,hp=>by
  have h':=List.pairwise_cons.1 (show List.Pairwise _ (k::l) from h)
  have ih:asc (some k) l:=asc_of h'.2 fun x hx q hq=>by cases hq;exact h'.1 x hx
  cases p with
  |none=>exact ih
  |some q=>exact⟨hp k (by simp) q rfl,ih⟩
theorem wfL_iff:∀{l:List V},wfL l↔∀v∈l,v.wf
 | []=>by simp[wfL]
 |v::l=>by simp only[wfL,List.mem_cons,forall_eq_or_imp,wfL_iff (l:=l)]
theorem depthL_le {l:List V}{m:Nat}(h:∀v∈l,v.depth≤m):depthL l≤m:=by
 induction l with
 |nil=>exact Nat.zero_le _
 |cons x l ih =>
  have h1:=h x (by simp)
  have h2:=ih fun v hv=>h v (by simp[hv])
  simp only[depthL]
  omega
theorem obj_wf {ks:List ByteArray}{vs:List V}(hl:ks.length=vs.length) (hk:∀k∈ks,okText k=true) (hu:Up ks) (hv:∀v∈vs,v.wf) (hn:vs.length≤200):(V.mk 6 0 ByteArray.empty ks vs).wf:=by
 refine⟨?_,?_,wfL_iff.2 hv⟩
 ·unfold cellCode
  have h1:inB 6 0 6=true:=by decide
  have h2:inB (vs.length:Int) 0 200=true:=by unfold inB;simp;omega
  simp[h1,cF,cR,cT,okText_empty,holds,h2,inB]
  omega
 ·unfold keysOk
  rw[if_pos rfl]
  exact⟨hl,hk,asc_of hu (by simp)⟩
theorem leaf_right {k n:Int}{s:ByteArray}(h:cellCode k n s ByteArray.empty 0=0) (h6:k≠6):(V.mk k n s [] []).right:=by
 refine⟨⟨h,?_,trivial⟩,by simp[V.count,countL],by simp[V.depth,depthL]⟩
 unfold keysOk
 rw[if_neg h6]
theorem numV_right {n:Int}(h:-1000000000000000≤n∧n≤1000000000000000):(numV n).right:=by
 refine leaf_right ?_ (by decide)
 unfold cellCode
 have h1:inB 3 0 6=true:=by decide
 have h2:inB n (-1000000000000000) 1000000000000000=true:=by unfold inB;simp;omega
 simp[h1,cF,cR,cT,okText_empty,holds,h2,inB]
 omega
def boolV (b:Bool):V:=.mk (bif b then 2 else 1) 0 ByteArray.empty [] []
end
end Go.Proofs.YtlciedpfjhkkdaaGreatDoor
