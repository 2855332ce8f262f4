/- Texts of this proof: M24 G06 G07. -/
import Derived.Test.YtllfmaflodbieaaGreatDoorKG04uM3
set_option linter.all false
set_option maxHeartbeats 8000000
namespace Go.Proofs.YtllfmaflodbieaaGreatDoor
open Go.RowKit
def IH (p:List V) (x:V):EditD:=⟨1,(Ba p).enc,x.enc⟩
def Ii (p:List V):EditD:=⟨2,(Ba p).enc,[]⟩
def H3 (f:V→V→List V→List EditD) (a b:V) (p:List V) (k:ByteArray):List EditD :=
 if (B3 b.keys k).isSome=false then [Ii (p++[C6 k])]
 else if (B3 a.keys k).isSome=false then [IH (p++[C6 k]) (b.member k)]
 else f (a.member k) (b.member k) (p++[C6 k])
def Ib (f:V→V→List V→List EditD) (a b:V) (p:List V) (i:Nat):List EditD:=f (a.kids.getD i BA) (b.kids.getD i BA) (p++[Ar i])
def Kp (a:V) (p:List V) (j:Nat):EditD:=Ii (p++[Ar ((a.kids.length-1-j:Nat):Int)])
def Ov (b:V) (p:List V) (i:Nat):EditD:=IH (p++[Ar i]) (b.kids.getD i BA)
def Uw (f:V→V→List V→List EditD) (a b:V) (p:List V):List EditD :=
 (List.range (min a.kids.length b.kids.length)).flatMap (Ib f a b p)++(List.range (a.kids.length-min a.kids.length b.kids.length)).map (Kp a p)++(List.range (b.kids.length-min a.kids.length b.kids.length)).map fun j=>Ov b p (min a.kids.length b.kids.length+j)
def Cw:Nat→V→V→List V→List EditD
 | 0,_,_,_=>[]
 |n+1,a,b,p =>
  if a.cmp b=0 then []
  else if a.kind=6∧b.kind=6 then (Cc a.keys b.keys).flatMap (H3 (Cw n) a b p)
  else if a.kind=5∧b.kind=5 then Uw (Cw n) a b p
  else [IH p b]
def mc:List ByteArray→List V→ByteArray→Nat
 |x::ks,v::vs,k=>if k=x then v.count else mc ks vs k
 |_,_,_=>0
theorem Rm:∀{ks:List ByteArray}{vs:List V}{k:ByteArray}{i:Nat},B3 ks k=some i→(h:i<vs.length)→mc ks vs k=vs[i].count
 | [],_,k,i,h,_=>by simp[B3]at h
 |_::_,[],_,_,_,h=>absurd h (by simp)
 |x::ks,v::vs,k,i,h,hi=>by
  unfold mc
  unfold B3 at h
  rw[List.findIdx?_cons]at h
  by_cases he:k=x
  ·rw[if_pos he]
   subst he
   rw[show (k.toList==k.toList)=true by simp]at h
   cases h
   rfl
  ·rw[if_neg he]
   have:(x.toList==k.toList)=false:=by
    cases hb:x.toList==k.toList with
    |false=>rfl
    |true=>exact absurd (Ay (by simpa using hb)).symm he
   rw[this]at h
   simp only[Bool.false_eq_true,if_false,Option.map_eq_some_iff]at h
   obtain⟨j,hj,rfl⟩:=h
   exact Rm hj (by simpa using hi)
theorem Uq {α:Type}(K:List α):(K.map fun _=>0).sum=0:=by
 induction K with
 |nil=>rfl
 |cons x K ih=>rw[List.map_cons,List.sum_cons,ih]
open Classical in
theorem Vr:∀(ks:List ByteArray) (vs:List V) (K:List ByteArray),K.Nodup→(K.map (mc ks vs)).sum≤Ag vs
 | [],vs,K,_=>by
  have:K.map (mc [] vs)=K.map fun _=>0:=List.map_congr_left fun x _=>by unfold mc;rfl
  rw[this,Uq]
  exact Nat.zero_le _
 |x::ks,[],K,_=>by
  have:K.map (mc (x::ks) [])=K.map fun _=>0:=List.map_congr_left fun x _=>by unfold mc;rfl
  rw[this,Uq]
  exact Nat.zero_le _
 |x::ks,v::vs,K,h=>by
  have ih:=Vr ks vs K h
  have key:∀L:List ByteArray,L.Nodup→(L.map (mc (x::ks) (v::vs))).sum≤(if x∈L then v.count else 0)+(L.map (mc ks vs)).sum:=by
   intro L hL
   induction L with
   |nil=>simp
   |cons y L ihL =>
    rw[List.nodup_cons]at hL
    have:=ihL hL.2
    simp only[List.map_cons,List.sum_cons,List.mem_cons]
    by_cases he:y=x
    ·subst he
     rw[if_neg hL.1]at this
     have e1:mc (y::ks) (v::vs) y=v.count:=by unfold mc;rw[if_pos rfl]
     rw[e1]
     simp only[true_or,if_true]
     omega
    ·have e1:mc (x::ks) (v::vs) y=mc ks vs y:=by conv=>lhs;unfold mc;rw[if_neg he]
     rw[e1]
     have e2:(x=y∨x∈L)=(x∈L):=propext ⟨fun h=>h.resolve_left fun h=>he h.symm,.inr⟩
     simp only[e2]
     omega
  have:=key K h
  have e:Ag (v::vs)=v.count+Ag vs:=rfl
  rw[e]
  split at this<;>omega
theorem b9 {ks:List ByteArray}{vs:List V}{k:ByteArray}(h:(B3 ks k).isSome=true) (hl:ks.length=vs.length):1≤mc ks vs k:=by
 obtain⟨i,hi⟩:=Option.isSome_iff_exists.1 h
 obtain⟨h1,_⟩:=Dh hi
 rw[Rm hi (by omega)]
 exact AY _
theorem PY {v:V}{k:ByteArray}(h:(B3 v.keys k).isSome=true) (hl:v.keys.length=v.kids.length):mc v.keys v.kids k=(v.member k).count:=by
 obtain⟨i,hi⟩:=Option.isSome_iff_exists.1 h
 obtain⟨h1,_⟩:=Dh hi
 rw[Rm hi (by omega),EW hi (List.getElem?_eq_getElem (by omega))]
theorem SN {ks:List ByteArray}{k:ByteArray}:(B3 ks k).isSome=true↔k∈ks:=by
 constructor
 ·intro h
  obtain⟨i,hi⟩:=Option.isSome_iff_exists.1 h
  obtain⟨h1,h2,_⟩:=Dh hi
  rw[←h2]
  exact List.getElem_mem h1
 ·intro h
  unfold B3
  rw[List.findIdx?_isSome,List.any_eq_true]
  exact⟨k,h,by simp⟩
theorem Xa {α:Type}(f g:α→Nat):∀l:List α,(l.map fun x=>f x+g x).sum=(l.map f).sum+(l.map g).sum
 | []=>rfl
 |x::l=>by
  have:=Xa f g l
  simp only[List.map_cons,List.sum_cons]
  omega
theorem WF {α β:Type}(f:α→List β) (g:α→Nat):∀l:List α,(∀x∈l,(f x).length≤g x)→(l.flatMap f).length≤(l.map g).sum
 | [],_=>by simp
 |x::l,h=>by
  have:=WF f g l fun y hy=>h y (List.mem_cons_of_mem _ hy)
  have:=h x (by simp)
  simp only[List.flatMap_cons,List.length_append,List.map_cons,List.sum_cons]
  omega
theorem S7 (f:V→V→List V→List EditD) (a b:V) (p:List V) (hf:∀x y q,x∈a.kids→y∈b.kids→(f x y q).length≤x.count+y.count):∀m:Nat,m≤a.kids.length→m≤b.kids.length→((List.range m).flatMap (Ib f a b p)).length≤Ag (a.kids.take m)+Ag (b.kids.take m)
 | 0,_,_=>by simp
 |m+1,ha,hb=>by
  have ih:=S7 f a b p hf m (by omega) (by omega)
  have h1:=hf a.kids[m] b.kids[m] (p++[Ar m]) (List.getElem_mem _) (List.getElem_mem _)
  rw[List.range_succ,List.flatMap_append,List.length_append,List.take_succ_eq_append_getElem (by omega),List.take_succ_eq_append_getElem (by omega),FQ,FQ]
  simp only[List.flatMap_cons,List.flatMap_nil,List.append_nil,Ib,List.getD_eq_getElem?_getD,List.getElem?_eq_getElem (show m<a.kids.length by omega),List.getElem?_eq_getElem (show m<b.kids.length by omega),Option.getD_some,Ag]
  omega
theorem I3 (l:List V) (m:Nat):Ag (l.take m)+(l.length-m)≤Ag l:=by
 have h1:=BL (l.drop m)
 have h2:Ag l=Ag (l.take m)+Ag (l.drop m):=by rw[←FQ,List.take_append_drop]
 rw[List.length_drop]at h1
 omega
theorem Nj:∀(n:Nat) (a b:V) (p:List V),a.right→b.right→(Cw n a b p).length≤a.count+b.count
 | 0,a,b,p,_,_=>by simp[Cw]
 |n+1,a,b,p,ha,hb=>by
  have hka:=AK a
  have hkb:=AK b
  unfold Cw
  split
  ·simp
  ·split
   ·rename_i h6
    obtain⟨ua,_,la⟩:=B9 ha h6.1
    obtain⟨ub,_,lb⟩:=B9 hb h6.2
    have hK:(Cc a.keys b.keys).Nodup:=a0g (H1 _ _ _ (Nat.le_refl _) (OL ua) (OL ub))
    have h1:=Vr a.keys a.kids _ hK
    have h2:=Vr b.keys b.kids _ hK
    refine Nat.le_trans (WF _ (fun k=>mc a.keys a.kids k+mc b.keys b.kids k) _ fun k hk=>?_) (by rw[Xa];omega)
    have hkm:=(CS _ a.keys b.keys (Nat.le_refl _) k).1 hk
    unfold H3
    cases hB:(B3 b.keys k).isSome with
    |false =>
     have hA:(B3 a.keys k).isSome=true:=by
      rcases hkm with h | h
      ·exact SN.2 h
      ·rw[SN.2 h]at hB;cases hB
     have:=b9 hA (by omega)
     simp only[if_true,List.length_singleton]
     omega
    |true =>
     have hb1:=b9 hB (by omega)
     cases hA:(B3 a.keys k).isSome with
     |false =>
      simp only[Bool.true_eq_false,if_true,if_false,List.length_singleton]
      omega
     |true =>
      simp only[Bool.true_eq_false,if_false]
      rw[PY hA (by omega),PY hB (by omega)]
      exact Nj n _ _ _ (Cv ha h6.1 k) (Cv hb h6.2 k)
   ·split
    ·have hf:=fun x y q hx hy=>Nj n x y q (AQ ha hx) (AQ hb hy)
     have h1:=S7 (Cw n) a b p hf (min a.kids.length b.kids.length) (by omega) (by omega)
     have h2:=I3 a.kids (min a.kids.length b.kids.length)
     have h3:=I3 b.kids (min a.kids.length b.kids.length)
     unfold Uw
     simp only[List.length_append,List.length_map,List.length_range]
     omega
    ·simp only[List.length_singleton]
     omega
def BT (n:Int):List C:=[.int .i64 n]
def A9 (xs:List CellD):List C:=[.sl (xs.map CellD.cs)]
theorem Z7 (l:List Int):((l.map BT).all fun r=>r.length==1)=true:=by simp[BT]
theorem GP (l:List (List CellD)):((l.map A9).all fun r=>r.length==1)=true:=by simp[A9]
theorem a3p (n:Int):Ct (BT n)=BT n:=rfl
theorem a3o (xs:List CellD):Ct (A9 xs)=A9 xs:=rfl
theorem SQ (l:List Int):AE (l.map BT)=l.map BT:=Eb _ a3p l
theorem Ca (l:List (List CellD)):AE (l.map A9)=l.map A9:=Eb _ a3o l
attribute [go_sem] Z7 GP SQ Ca BT A9
theorem C0 (xs:List CellD):AC Tryz.prog 59 [Aq xs] [] (.c (.int .i64 (dec xs).1)) []:=by
 refine AC.of_calls fun S w κ vs hv=>?_
 obtain⟨v,vs',rfl,h1,rfl⟩:=hv
 obtain⟨A,cap,rfl,_,hc⟩:=Dn.1 h1
 refine (JB xs A cap S w hc).mono ?_
 rintro e w' ⟨rfl,hb⟩
 exact⟨hb,_,rfl,fun T _ _=>⟨rfl,rfl⟩⟩
theorem ZP {t:V}(hw:t.wf) (hc:t.count≤200) {i:Nat}(hi:i<t.kids.length):AC Tryz.prog 214 [Aq t.enc,.c (.int .i64 ((kp t.kids i:Nat):Int))] [] (.c (.int .i64 ((kp t.kids (i+1):Nat):Int))) []:=by
 refine AC.of_calls fun S w κ vs hv=>?_
 obtain⟨v,vs',rfl,h1,v2,vs2,rfl,h2,rfl⟩:=hv
 obtain⟨rfl,_⟩:=h2
 obtain⟨A,cap,rfl,_,hcs⟩:=Dn.1 h1
 have:=Jv t i
 have hlen:=Bb t
 have:=Ls t.enc (by omega) (Zu hw) (kp t.kids i:Nat) (by omega) (by omega) A cap S w hcs
 rw[Int.toNat_natCast,QY hw hi (by omega)]at this
 refine this.mono ?_
 rintro e w' ⟨rfl,hb⟩
 exact⟨hb,_,rfl,fun T _ _=>⟨rfl,rfl⟩⟩
theorem Ws {α:Type}{w:World}{S:Nat→Prop}{f:α→List C}:∀{l:List α}{rows:List (List Value)},rows.length=l.length→(∀i (h:i<l.length) row,rows[i]? = some row→CRs w S (f l[i]) row [])→Aj w S (l.map f) rows []
 | [],rows,hl,_=>by
  have:rows=[]:=List.eq_nil_of_length_eq_zero (by simpa using hl)
  subst this
  exact⟨rfl,rfl⟩
 |x::l,[],hl,_=>by simp at hl
 |x::l,r::rows,hl,h=>by
  simp only[List.map_cons,Aj]
  exact⟨r,rows,[],[],rfl,rfl,h 0 (by simp) r rfl,Ws (by simpa using hl) fun i hi row hr=>by
   have:=h (i+1) (by simpa using hi) row (by simpa using hr)
   simpa using this⟩
theorem Cj {t:V}(hw:t.wf) (hc:t.count≤200):AC Tryz.prog 113 [Aq t.enc] [] (.c (.sl ((t.kids.map V.enc).map A9))) []:=by
 refine AC.of_calls fun S w κ vs hv=>?_
 obtain⟨v,vs',rfl,h1,rfl⟩:=hv
 obtain⟨A,cap,rfl,hcap,hcs⟩:=Dn.1 h1
 refine (Mf t hw hc A cap hcap S w hcs).mono ?_
 rintro e w' ⟨⟨A',c',rfl,hcap',hr⟩,hb⟩
 refine⟨hb,_,rfl,fun T _ hT=>?_⟩
 obtain⟨rows,hl,hrow,hat⟩:=hr
 simp only[AR,CR]
 refine⟨1,A',c',rows,by simp,by simpa using hcap',trivial,hrow.weaken fun b hb _=>hT b hb,Ws hl fun i hi row hri=>?_,trivial⟩
 obtain⟨Ai,ci,rfl,h3,h4⟩:=hat i hi row hri
 exact⟨_,_,[],[],rfl,rfl,Dn.2 ⟨Ai,ci,rfl,h3,h4.weaken fun b hb _=>hT b hb⟩,rfl,rfl⟩
set_option maxRecDepth 10000
theorem Bd (n:Int):AC Tryz.prog 160 [.c (.int .i64 n)] [] (.c (.sl ((Ar n).enc.map CellD.cs))) []:=by
 have he:(Ar n).enc.map CellD.cs=[[.int .i64 3,.int .i64 n,.str ByteArray.empty,.str ByteArray.empty,.int .i64 0]]:=rfl
 rw[he]
 refine A5 Tryz.func160 Tryz.ntmps160 ?_
 refine A3 q9 ?_
 exact Ab (Aa [] [(5,0)]) Tryz.results160 he
theorem Da (s:ByteArray):AC Tryz.prog 126 [.c (.str s)] [] (.c (.sl ((C6 s).enc.map CellD.cs))) []:=by
 have he:(C6 s).enc.map CellD.cs=[[.int .i64 4,.int .i64 0,.str s,.str ByteArray.empty,.int .i64 0]]:=rfl
 rw[he]
 refine A5 Tryz.func126 Tryz.ntmps126 ?_
 refine A3 q9 ?_
 exact Ab (Aa [] [(5,0)]) Tryz.results126 he
theorem GG {t:V}(hw:t.wf) (hc:t.count≤200):AC Tryz.prog 169 [Aq t.enc,.c (.int .i64 0)] [] (.c (.sl ((Cm t t.kids.length).map BT))) []:=by
 have hw0:IntKind.i64.wrap (0+1)=1:=rfl
 have hk0:((kp t.kids 0:Nat):Int)=1:=by simp[kp,Ag]
 have hkl:=B6 hc
 have hr0:Ae (t.enc.map CellD.cs) 5 0=true:=by unfold Ae;rw[show (0:Int).toNat=0 from rfl,AT];rfl
 have hg0:=AT t
 refine A5 Tryz.func169 Tryz.ntmps169 ?_
 refine A3 hw0 ?_
 refine AZ (κ:=Nat) (fun k=>⟨mkS 0 28 [(0,Aq t.enc),(1,.c (.int .i64 0)),(5,.own (5,0)),(6,.c (.int .i64 ((kp t.kids k:Nat):Int))),(7,.c (.int .i64 k))],
   [((5,0),.row false 1 2 ((Cm t k).map BT))]⟩)
  (fun k=>k≤t.kids.length) (fun k=>t.kids.length-k) 0 (Nat.zero_le _) ?_ ?_
 ·(apply (AH.of [((5,0),(8,0))] []);(iterate 2 ((focus (simp only[go_sem,Nat.reduceEqDiff,Nat.reduceAdd,Nat.reduceSub,Nat.reduceLeDiff,Nat.reduceMul,Nat.reduceBEq,Nat.reduceLT,Int.reduceToNat,reduceCtorEq,hk0,Cm];try (and_intros<;>rfl)));(focus exact rfl)));(iterate 4 (focus (simp[go_sem,hk0,Cm];done))))
 ·intro k hk
  by_cases hlt:k<t.kids.length
  ·have hd:decide ((k:Int)<(t.kids.length:Int))=true:=by simpa using hlt
   have hw1:=AA (k:=k) (by omega)
   have h1:(Cm t k).length+1≤1000000:=by rw[DU];omega
   have he:=ZP hw hc hlt
   have hn:(Cm t k).map BT++[[.int .i64 ((kp t.kids k:Nat):Int)]]=(Cm t (k+1)).map BT:=by rw[NR,List.map_append];rfl
   refine A3 (j4 hr0 hg0 hd h1) ?_
   refine w7 (A8 [] he) q9 ?_
   refine A3 hw1 ?_
   refine⟨k+1,by omega,by omega,?_⟩
   exact As (AH.of [((5,0),(23,0))] []) hn
  ·have hd:decide ((k:Int)<(t.kids.length:Int))=false:=by simpa using hlt
   have hke:k=t.kids.length:=by omega
   refine A3 (j3 hr0 hg0 hd) ?_
   subst hke
   exact Ab (Aa [] [(5,0)]) Tryz.results169 hd
def Bo (t:V) (k:Nat):List ByteArray:=(List.range k).map t.keyAt
theorem Mb (t:V) (k:Nat):Bo t (k+1)=Bo t k++[t.keyAt k]:=by simp[Bo,List.range_succ]
theorem JV (t:V) (k:Nat):(Bo t k).length=k:=by simp[Bo]
theorem Nu (t:V) {k:Nat}(h:k<t.kids.length):(t.enc.map CellD.cs)[kp t.kids k]? = some [.int .i64 t.kids[k].kind,.int .i64 t.kids[k].num,.str t.kids[k].text,.str (t.keyAt k),.int .i64 t.kids[k].kids.length]:=by
 have h1:=QX t h
 have h2:t.enc[kp t.kids k]? = some ⟨t.kids[k].kind,t.kids[k].num,t.kids[k].text,t.keyAt k,t.kids[k].kids.length⟩:=by
  have h3:(t.enc.drop (kp t.kids k))[0]? = t.enc[kp t.kids k]?:=by rw[List.getElem?_drop];rfl
  rw[←h3,h1,Df]
  rfl
 rw[List.getElem?_map,h2]
 rfl
set_option maxRecDepth 10000
theorem ET {t:V}(hw:t.wf) (hc:t.count≤200):AC Tryz.prog 114 [Aq t.enc] [] (.c (.sl ((Bo t t.kids.length).map Ac))) []:=by
 have hkl:=B6 hc
 have hkn:=DU t t.kids.length
 have hch:=GG hw hc
 refine A5 Tryz.func114 Tryz.ntmps114 ?_
 refine A3 q9 ?_
 refine w9 (A6 [] hch) q9 ?_
 refine A3 q9 ?_
 refine AZ (κ:=Nat) (fun k=>⟨mkS 0 27 [(0,Aq t.enc),(3,.own (3,0)),(4,.c (.sl ((Cm t t.kids.length).map BT))),(5,.c (.int .i64 k))],
   [((3,0),.row false 1 9 ((Bo t k).map Ac))]⟩)
  (fun k=>k≤t.kids.length) (fun k=>t.kids.length-k) 0 (Nat.zero_le _) ?_ ?_
 ·(apply (AH.of [((3,0),(6,0))] []);(iterate 2 ((focus (simp only[go_sem,Nat.reduceEqDiff,Nat.reduceAdd,Nat.reduceSub,Nat.reduceLeDiff,Nat.reduceMul,Nat.reduceBEq,Nat.reduceLT,Int.reduceToNat,reduceCtorEq,Bo];try (and_intros<;>rfl)));(focus exact rfl)));(iterate 4 (focus (simp[go_sem,Bo];done))))
 ·intro k hk
  by_cases hlt:k<t.kids.length
  ·have hd:decide ((k:Int)<(t.kids.length:Int))=true:=by simpa using hlt
   have hw1:=AA (k:=k) (by omega)
   have h1:(Bo t k).length+1≤1000000:=by rw[JV];omega
   have hr1:Ae ((Cm t t.kids.length).map BT) 1 k=true:=by simp[Ae,Cm,hlt,BT]
   have hg1:((Cm t t.kids.length).map BT)[k]? = some [.int .i64 ((kp t.kids k:Nat):Int)]:=by simp[Cm,hlt,BT]
   have hg2:=Nu t hlt
   have hr2:Ae (t.enc.map CellD.cs) 5 ((kp t.kids k:Nat):Int)=true:=by unfold Ae;rw[Int.toNat_natCast,hg2];simp
   have hn:(Bo t k).map Ac++[[.str (t.keyAt k)]]=(Bo t (k+1)).map Ac:=by rw[Mb,List.map_append];rfl
   refine A3 (j8 hd hkn hr1 hg1 hr2 hg2 h1 hw1) ?_
   refine⟨k+1,by omega,by omega,?_⟩
   exact As (AH.of [((3,0),(25,0))] []) hn
  ·have hd:decide ((k:Int)<(t.kids.length:Int))=false:=by simpa using hlt
   have hke:k=t.kids.length:=by omega
   refine A3 (j2 hkn hd) ?_
   subst hke
   exact Ab (Aa [] [(3,0)]) Tryz.results114 hd
theorem BU (ps:List V) (hc:(Ba ps).count≤500000):AC Tryz.prog 77 [.c (.sl ((ps.map V.enc).map A9))] [] (.own (0,0)) [((0,0),.row false 5 115 ((Ba ps).enc.map CellD.cs))]:=by
 have hcl:=BL ps
 have hcc:=Xm ps
 obtain⟨R,hR⟩:∃R:Nat→List CellD,∀k,R k=(Ba ps).enc.take (kp (Ba ps).kids k):=⟨_,fun _=>rfl⟩
 have h0:(R 0).map CellD.cs=[[.int .i64 5,.int .i64 0,.str ByteArray.empty,.str ByteArray.empty,.int .i64 ps.length]]:=by
  rw[hR,Hq];rfl
 refine A5 Tryz.func77 Tryz.ntmps77 ?_
 refine A3 q9 ?_
 refine AZ (κ:=Nat) (fun k=>⟨mkS 0 22 [(0,.c (.sl ((ps.map V.enc).map A9))),(3,.own (3,0)),(4,.c (.int .i64 k))],
   [((3,0),.row false 5 115 ((R k).map CellD.cs))]⟩)
  (fun k=>k≤ps.length) (fun k=>ps.length-k) 0 (Nat.zero_le _) ?_ ?_
 ·exact As (AH.of [((3,0),(8,0))] []) h0
 ·intro k hk
  by_cases hlt:k<ps.length
  ·have hd:decide ((k:Int)<(ps.length:Int))=true:=by simpa using hlt
   have hw1:=AA (k:=k) (by omega)
   have hr1:Ae ((ps.map V.enc).map A9) 1 k=true:=by simp[Ae,hlt,A9]
   have hg1:((ps.map V.enc).map A9)[k]? = some [.sl (ps[k].enc.map CellD.cs)]:=by simp[hlt,A9]
   have hts:=GD (Ba ps) (i:=k) hlt
   have h56:(Ba ps).kind≠6:=show (5:Int)≠6 by decide
   rw[NP h56,←hR,←hR]at hts
   have htl:=Ho (Ba ps) k
   have hkl:=Jv (Ba ps) k
   have hm:=BB (List.getElem_mem hlt)
   have hel:=Bb ps[k]
   have h1:(R k).length+ps[k].enc.length≤1000000:=by rw[hR,htl,hel];omega
   have hn:(R k).map CellD.cs++ps[k].enc.map CellD.cs=(R (k+1)).map CellD.cs:=by
    rw[hts,List.map_append];rfl
   generalize ps[k]=u at *
   refine A3 (j5 hd hr1 hg1 h1 hw1) ?_
   refine⟨k+1,by omega,by omega,?_⟩
   exact As (AH.of [((3,0),(20,0))] []) hn
  ·have hd:decide ((k:Int)<(ps.length:Int))=false:=by simpa using hlt
   have hke:k=ps.length:=by omega
   have hall:R k=(V.mk 5 0 ByteArray.empty [] ps).enc:=by rw[hR,hke];exact Hn (Ba ps)
   refine A3 hd ?_
   exact Ab (Aa [((0,0),(3,0))] []) Tryz.results77 hall
end Go.Proofs.YtllfmaflodbieaaGreatDoor
