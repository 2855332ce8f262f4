/- Texts of this proof: E27 E28 E29 E30 E31 W01. -/
import Derived.Test.YtcejfdfmgmcinaaGreatKE5
import Derived.Maps.OwnSet
import Derived.Maps.Range
import Derived.Maps.Views
import Derived.StringKeys
import Derived.Maps.RangeRun
import Derived.Sort.MapsRangeIn
set_option linter.all false
namespace Go.Proofs.YtcejfdfmgmcinaaGreat
section
open Go.RowKit Go.ChangeMaps Go.MapKept Go.Maps
open Go.WideElems (Fit rd rg pl)
def RV (v:Value):Option (DataW Value×List MemPlace):=some (.held v,[])
def L8 (k:ByteArray):Lit:=.string k.data.toList
theorem L9 {a b:ByteArray}(h:L8 a=L8 b):a=b:=by
 have h1:a.data.toList=b.data.toList:=by simpa [L8] using h
 cases a with
 |mk a=>cases b with
  |mk b =>
   congr 1
   exact Array.toList_inj.1 h1
theorem La (k:ByteArray):WideAt.IsKeyLit (L8 k):=trivial
def Kj (keys:List ByteArray) (vs:List (List Value)):DataW Value:=(keys.zip vs).foldl (fun D p=>D.put (L8 p.1) (.held (.agg p.2.toArray))) (.map [])
theorem Jj {keys:List ByteArray}{vs:List (List Value)}(h:keys.length=vs.length) (k:ByteArray) (v:List Value):Kj (keys++[k]) (vs++[v])=(Kj keys vs).put (L8 k) (.held (.agg v.toArray)):=by
 unfold Kj
 rw[List.zip_append h,List.foldl_append]
 rfl
theorem Js {α:Type}(l:List α) (h:0<l.length):∃(x:α) (r:List α),l=r++[x]:=by
 have hne:l≠[]:=by intro e;rw[e]at h;simp at h
 exact⟨l.getLast hne,l.dropLast,(List.dropLast_concat_getLast hne).symm⟩
theorem Kk:∀(n:Nat) (keys:List ByteArray) (vs:List (List Value)),keys.length=n→vs.length=n→IsMap (Kj keys vs)
 | 0,keys,vs,h1,h2=>by
  rw[List.eq_nil_of_length_eq_zero h1,List.eq_nil_of_length_eq_zero h2]
  exact isMap_empty
 |n+1,keys,vs,h1,h2=>by
  obtain⟨k,kl,rfl⟩:=Js keys (by omega)
  obtain⟨v,vl,rfl⟩:=Js vs (by omega)
  rw[List.length_append,List.length_singleton]at h1 h2
  rw[Jj (by omega)]
  exact (Kk n _ _ (by omega) (by omega)).put _ _
theorem WN:∀(n:Nat) (keys:List ByteArray) (vs:List (List Value)),keys.length=n→vs.length=n→∀(j:Nat) (s:ByteArray) (v:List Value),keys[j]? = some s→vs[j]? = some v→(∀i,j<i→keys[i]?≠some s)→∀z,(Kj keys vs).atKey (L8 s) z=.held (.agg v.toArray)
 | 0,keys,vs,h1,_,j,s,v,hj,_,_,_=>by
  rw[List.eq_nil_of_length_eq_zero h1]at hj
  simp at hj
 |n+1,keys,vs,h1,h2,j,s,v,hj,hv,hl,z=>by
  obtain⟨k,kl,rfl⟩:=Js keys (by omega)
  obtain⟨u,vl,rfl⟩:=Js vs (by omega)
  rw[List.length_append,List.length_singleton]at h1 h2
  rw[Jj (by omega)]
  by_cases hjn:j=n
  ·subst hjn
   have e1:k=s:=by
    rw[List.getElem?_append_right (by omega),show j-kl.length=0 by omega]at hj
    simpa using hj
   have e2:u=v:=by
    rw[List.getElem?_append_right (by omega),show j-vl.length=0 by omega]at hv
    simpa using hv
   subst e1 e2
   exact atKey_put_same (Kk _ _ _ rfl (by omega)) (La _) _ _
  ·have hjl:j<n:=by
    have:=(List.getElem?_eq_some_iff.1 hj).1
    simp only[List.length_append,List.length_singleton]at this
    omega
   have hne:L8 s≠L8 k:=fun e=>by
    have:=L9 e
    subst this
    refine hl n (by omega) ?_
    rw[List.getElem?_append_right (by omega),show n-kl.length=0 by omega]
    rfl
   rw[atKey_put_other hne]
   refine WN n kl vl (by omega) (by omega) j s v ?_ ?_ (fun i hi hc=>hl i hi ?_) z
   ·rwa [List.getElem?_append_left (by omega)]at hj
   ·rwa [List.getElem?_append_left (by omega)]at hv
   ·rw[List.getElem?_append_left (List.getElem?_eq_some_iff.1 hc).1]
    exact hc
theorem O3:∀(n:Nat) (keys:List ByteArray) (vs:List (List Value)),keys.length=n→vs.length=n→∀(kl:Lit),Maps.has (Kj keys vs) kl=true↔∃k,k∈keys∧L8 k=kl
 | 0,keys,vs,h1,h2,kl=>by
  rw[List.eq_nil_of_length_eq_zero h1,List.eq_nil_of_length_eq_zero h2]
  simp[Kj,Maps.has]
 |n+1,keys,vs,h1,h2,lit=>by
  obtain⟨k,kl,rfl⟩:=Js keys (by omega)
  obtain⟨u,vl,rfl⟩:=Js vs (by omega)
  rw[List.length_append,List.length_singleton]at h1 h2
  rw[Jj (by omega)]
  by_cases he:lit=L8 k
  ·subst he
   rw[has_put_same (Kk _ _ _ rfl (by omega)) (La _)]
   simp only[true_iff]
   exact⟨k,by simp,rfl⟩
  ·rw[has_put_other he,O3 n kl vl (by omega) (by omega)]
   constructor
   ·rintro⟨x,hx,e⟩;exact⟨x,by simp[hx],e⟩
   ·rintro⟨x,hx,e⟩
    rcases List.mem_append.1 hx with hx | hx
    ·exact⟨x,hx,e⟩
    ·have:x=k:=by simpa using hx
     subst this
     exact absurd e.symm he
def Gl (P:Program) (kt:TypeId) (keys:List ByteArray) (b:Nat) (v:Value) (vs:List (List Value)) (obj:Obj):Prop :=
 v=.map (some b)∧vs.length=keys.length∧∃es clock,obj=.map es clock∧Fit P kt RV es clock∧es.size≤keys.length∧Kj keys vs=.map ((es.toList.map (rg P kt RV)).foldr DataW.insert [])
section
variable {P:Program} {kt et:TypeId} {keys:List ByteArray} {w:World} {b:Nat} {v:Value} {vs:List (List Value)} {obj:Obj}
theorem PY (hb:w.heap[b]? = some obj) (h:Gl P kt keys b v vs obj):w.ownsMap P kt RV b keys.length (Kj keys vs):=by
 obtain⟨_,_,es,clock,rfl,h1,h2,h3⟩:=h
 exact⟨es,clock,hb,h1,h2,h3⟩
theorem WO {n:Nat}{D:DataW Value}(h:w.ownsMap P kt RV b n D) (hn:n≤keys.length) (hD:D=Kj keys vs) (hl:vs.length=keys.length):∃obj,w.heap[b]? = some obj∧Gl P kt keys b (.map (some b)) vs obj:=by
 obtain⟨es,clock,hb,h1,h2,h3⟩:=h
 exact⟨_,hb,rfl,hl,es,clock,rfl,h1,Nat.le_trans h2 hn,by rw[←hD];exact h3⟩
end
theorem Step.turn {m:Mem}{i:Id}{obj old:AO}{w w':World}{ow:Nat→Option Id}{κ:Id→Value}(hos:w'.os=w.os) (htape:w'.tape=w.tape) (hout:w'.output=w.output) (hz:w.heap.size≤w'.heap.size) (hm:m.get i=some old) (h1:old.live=true) (h2:obj.live=true)
  (hblk:∀b,b<w.heap.size→ow b≠some i→w'.heap[b]? = w.heap[b]?) (hown:∀b i,ow b=some i→b<w.heap.size):Step m [(i,obj)] w ow κ w' ow κ:=by
 have hg:(m.puts [(i,obj)]).get i=some obj:=by simp[Mem.puts,Mem.get_put]
 refine⟨hos,htape,hout,hz,fun b hb h=>⟨hblk b hb fun e=>h i e (by simp),rfl⟩,fun b j hb=>?_,fun _ _ _=>rfl,fun j hj o o' g1 g2=>?_⟩
 ·by_cases hji:j=i
  ·subst hji
   exact .inr ⟨by have:=hown b j hb;omega,obj,hg,h2,by simp⟩
  ·exact .inl ⟨by simpa using hji,hb⟩
 ·have hji:j=i:=by simpa using hj
  subst hji
  rw[hm]at g1
  rw[hg]at g2
  cases g1
  cases g2
  exact .inr ⟨fun e=>by rw[e]at h1;simp[AO.live]at h1,fun _=>h1⟩
section
variable {P:Program} {o:Oper} {σ:ASt} {kt et:TypeId}
theorem ZD {w:World}{S:Nat→Prop}{m:Mem}{κ:Id→Value}:∀{xs:List C}{vs:List Value},CRs w S xs vs []→ARs w S m κ (xs.map .c) vs
 | [],vs,h=>by
  simp only[CRs]at h
  exact h.1
 |x::xs,vs,h=>by
  simp only[CRs]at h
  obtain⟨v,vs',b1,b2,rfl,h0,h1,h2⟩:=h
  have h3:b1=[]∧b2=[]:=by simpa using h0.symm
  obtain⟨rfl,rfl⟩:=h3
  exact⟨v,vs',rfl,h1,ZD h2⟩
theorem W8 {ty:TypeId}{fr:Id}(ho:o.op=.makeMap ty none) (hf:σ.mem.get fr=none):AB P o σ ⟨[],[(fr,.blk (Gl P kt []) [])],.own fr⟩:=by
 intro Γ σ' a w ow κ hag hr
 have hf':σ'.mem.get fr=none:=by rw[hag.2.2 fr (by simp),hf]
 have st:Step σ'.mem [(fr,.blk (Gl P kt []) [])] w ow κ (w.alloc (.map #[] 0)) (DK ow [] fr (some w.heap.size)) (Dg κ fr (.map (some w.heap.size))) :=
  Step.make (ks:=[]) rfl rfl rfl (by simp) hf' (by simp) rfl (fun b hb _=>Below.heap_alloc w _ b hb) (fun b hb=>by cases hb;exact⟨by simp,.inl (Nat.le_refl _)⟩) hr.owns
 refine⟨.map (some w.heap.size),_,_,_,.inl (by unfold execOp;rw[ho];rfl),hr.step (E:=⟨[],[(fr,.blk (Gl P kt []) [])],.own fr⟩) st ⟨rfl,.blk (Gl P kt []) [],Cy (ks:=[]) (by simp),fun _=>by simp[Dg]⟩ (fun i hi o' ho'=>?_) o.dst⟩
 have hi':i=fr:=by simpa using hi
 subst hi'
 cases (Cy (m:=σ'.mem) (ks:=[]) (fr:=i) (obj:=.blk (Gl P kt []) []) (by simp)).symm.trans ho'
 obtain⟨obj,h1,h2⟩:=WO (keys:=[]) (vs:=[]) (World.ownsMap_made w P kt RV) (Nat.le_refl _) rfl rfl
 exact⟨w.heap.size,obj,[],by simp[DK],h1,⟨rfl,rfl⟩,by simp[Dg];exact h2⟩
theorem W7 {ty:TypeId}{m x y:Operand}{i:Id}{s:ByteArray}{keys:List ByteArray}{rows:List (List C)}{cells:List AV}{cs:List C}(ho:o.op=.mapUpdate ty m x y) (hm:σ.ev m=.own i) (hx:σ.ev x=.c (.str s)) (hy:σ.ev y=.agg cells) (hcs:OI (fun _=>none) cells=some (cs,[],[]))
  (ht:P.underlying ty=some (.map kt et)) (hk:P.underlying kt=some .string) (hi:σ.mem.get i=some (.blk (Gl P kt keys) rows)) (hn:keys.length<9223372036854775807) (hs:s.size≤9223372036854775807) :
  AB P o σ ⟨[],[(i,.blk (Gl P kt (keys++[s])) (rows++[cs]))],.skip⟩:=by
 intro Γ σ' a w ow κ hag hr
 have hi':σ'.mem.get i=some (.blk (Gl P kt keys) rows):=by rw[hag.2.2 i (by simp),hi]
 obtain⟨_,o1,k1,k2⟩:=hag.ev hr (by rw[ho];simp[Op.operands]) hm
 rw[hi']at k1
 cases k1
 have e1:=k2 (by simp)
 have e2:=AR.str (hag.ev hr (by rw[ho];simp[Op.operands]) hx)
 obtain⟨us,e3,h2,h3⟩:=hag.ev hr (by rw[ho];simp[Op.operands]) hy
 obtain⟨bs0,q1,q2,q3⟩:=J0 hr hcs (by simp) (by simp) h2
 have hbs:bs0=[]:=by
  cases bs0 with
  |nil=>rfl
  |cons b bs=>obtain⟨j,hj,_⟩:=q3 b (by simp);simp at hj
 subst hbs
 obtain⟨b,obj,vrows,g1,g2,g3,g4⟩:=hr.objs i _ hi'
 have hown:=PY g2 g4
 obtain⟨hv,hvl,_⟩:=g4
 have hmx:maxLen=9223372036854775807:=rfl
 obtain⟨w',hrun,r1,r2⟩:=hown.update (string_keyed hk) ht (by rw[hmx];exact hn) (key:=.string s) (val:=.agg us.toArray) (Go.WideMaps.keyOf_string_mk hk (by rw[hmx];exact hs)) (d:=.held (.agg us.toArray)) (ps:=[]) rfl
 have st:Step σ'.mem [(i,.blk (Gl P kt (keys++[s])) (rows++[cs]))] w ow κ w' ow κ :=
  Step.turn r2.os r2.tape r2.output r2.size hi' rfl rfl (fun b' hb hne=>r2.block b' hb (fun e=>hne (by cases e;exact g1))) (fun b i hb=>(hr.own b i hb).1)
 refine⟨undef,w',ow,κ,.inr ⟨?_,rfl⟩,hr.step (E:=⟨[],[(i,.blk (Gl P kt (keys++[s])) (rows++[cs]))],.skip⟩) st rfl (fun j hj o' ho'=>?_) o.dst⟩
 ·rw[←e1]at hv
  unfold execOp
  rw[ho]
  simp[hv,e2,e3,hrun]
 ·have hji:j=i:=by simpa using hj
  subst hji
  have:o'=.blk (Gl P kt (keys++[s])) (rows++[cs]):=by
   have:(σ'.mem.puts [(j,AO.blk (Gl P kt (keys++[s])) (rows++[cs]))]).get j=some o':=ho'
   simp[Mem.puts,Mem.get_put]at this
   exact this.symm
  subst this
  obtain⟨obj',f1,f2⟩:=WO (keys:=keys++[s]) (vs:=vrows++[us]) r1 (by simp) (Jj hvl.symm s us).symm (by simp[hvl])
  refine⟨b,obj',vrows++[us],g1,f1,?_,by rw[hv];exact f2⟩
  have a1:=An.keep r2.size (st.sees (Γ:=Γ)) (by simp) g3
  have a2:CRs w' (Γ.sees ow) cs us []:=CRs.keep r2.size (st.sees (Γ:=Γ)) (by simp) q1
  have a3:An w' (Γ.sees ow) [cs] [us] []:=⟨us,[],[],[],rfl,rfl,a2,rfl,rfl⟩
  exact An.append a1 a3
theorem W6 {ty:TypeId}{m x:Operand}{i:Id}{s:ByteArray}{keys:List ByteArray}{rows:List (List C)}{cs:List C}{R:Nat→Value→List (List Value)→Obj→Prop}(j:Nat) (hR:∀b v vs obj,R b v vs obj→Gl P kt keys b v vs obj) (ho:o.op=.lookup ty m x false) (hm:σ.ev m=.own i) (hx:σ.ev x=.c (.str s))
  (ht:P.underlying ty=some (.map kt et)) (hk:P.underlying kt=some .string) (hz:∃z,∀w,(zeroValue et).run P w=.ok z w) (hi:σ.mem.get i=some (.blk R rows)) (hs:s.size≤9223372036854775807)
  (hj:keys[j]? = some s) (hl:∀n,j<n→keys[n]?≠some s) (hr0:rows[j]? = some cs):AB P o σ ⟨[i],[],.agg (cs.map .c)⟩:=by
 refine AB.pure fun Γ σ' a w ow κ hag hr=>?_
 have hi':σ'.mem.get i=some (.blk R rows):=by rw[hag.2.1 i (by simp),hi]
 obtain⟨_,o1,k1,k2⟩:=hag.ev hr (by rw[ho];simp[Op.operands]) hm
 rw[hi']at k1
 cases k1
 have e1:=k2 (by simp)
 have e2:=AR.str (hag.ev hr (by rw[ho];simp[Op.operands]) hx)
 obtain⟨b,obj,vrows,g1,g2,g3,g4⟩:=hr.objs i _ hi'
 have g4:=hR _ _ _ _ g4
 have hown:=PY g2 g4
 obtain⟨hv,hvl,_⟩:=g4
 obtain⟨z,hz⟩:=hz
 have hmx:maxLen=9223372036854775807:=rfl
 obtain⟨v,ps,hrun,hat⟩:=hown.lookup (string_keyed hk) ht (hz w) (zd:=.held z) (zp:=[]) rfl (key:=.string s) (Go.WideMaps.keyOf_string_mk hk (by rw[hmx];exact hs))
 obtain⟨vr,bs,c1,c2,c3⟩:=An.at_ g3 hr0
 have hbs:bs=[]:=by
  cases bs with
  |nil=>rfl
  |cons q _=>exact absurd (c3 q (by simp)) (by simp)
 subst hbs
 have hva:(Kj keys vrows).atKey (L8 s) (.held z)=.held (.agg vr.toArray):=WN _ keys vrows rfl hvl j s vr hj c1 hl _
 have hve:v=.agg vr.toArray:=by
  have h1:RV v=some ((Kj keys vrows).atKey (L8 s) (.held z),ps):=hat
  rw[hva]at h1
  simpa [RV] using (Prod.mk.inj (Option.some.inj h1)).1
 subst hve
 refine⟨.agg vr.toArray,?_,⟨vr,rfl,ZD c2,CRs.one c2⟩⟩
 rw[←e1]at hv
 unfold execOp
 rw[ho]
 simp[hv,e2,hrun]
end
end
section
open Go.RowKit Go.ChangeMaps Go.MapKept Go.Maps
open Go.WideElems (Fit rd rg pl)
structure GF (P:Program) (kt:TypeId) (keys:List ByteArray) (es:Array MapEntry) (clock:Nat):Prop where
 fit:Fit P kt RV es clock
 size:es.size≤keys.length
 mem:∀x∈es.toList,∃k∈keys,x.key=.string k
 cov:∀k∈keys,∃x∈es.toList,x.key=.string k
section
variable {P:Program} {kt et:TypeId} {keys:List ByteArray} {es:Array MapEntry} {clock:Nat}
theorem H6 (hk:P.underlying kt=some .string) (F:Fit P kt RV es clock) {x:MapEntry}(hx:x∈es.toList):∃s,x.key=.string s∧(rg P kt RV x).1=L8 s:=by
 obtain⟨y,hy⟩:=F.reads x hx
 have h1:=Go.WideElems.rd_key hy
 obtain⟨s,hs⟩:=keyOf_string_inv hk h1
 refine⟨s,hs,?_⟩
 have h2:(rg P kt RV x)=y:=Go.WideElems.rg_of hy
 rw[h2]
 rw[hs,keyOf_string hk]at h1
 simp[mapKey,hk]at h1
 exact h1.2.symm
theorem GF.of (hk:P.underlying kt=some .string) {vs:List (List Value)}(hl:vs.length=keys.length) (F:Fit P kt RV es clock) (hs:es.size≤keys.length) (hD:Kj keys vs=.map ((es.toList.map (rg P kt RV)).foldr DataW.insert [])):GF P kt keys es clock:=by
 have hhas:∀kl,Maps.has (Kj keys vs) kl=true↔∃x∈es.toList,(rg P kt RV x).1=kl:=by
  intro kl
  rw[hD]
  constructor
  ·intro h
   obtain⟨p,hp,hpk⟩:=List.any_eq_true.1 h
   obtain⟨x,hx,rfl⟩:=List.mem_map.1 (mem_sorted.1 hp)
   exact⟨x,hx,WideAt.sameKey_eq hpk⟩
  ·rintro⟨x,hx,rfl⟩
   obtain⟨s,_,h2⟩:=H6 hk F hx
   exact List.any_eq_true.2 ⟨rg P kt RV x,mem_sorted.2 (List.mem_map.2 ⟨x,hx,rfl⟩),WideAt.sameKey_self (by rw[h2];exact La s)⟩
 refine⟨F,hs,fun x hx=>?_,fun k hkk=>?_⟩
 ·obtain⟨s,h1,h2⟩:=H6 hk F hx
  obtain⟨k,hk1,hk2⟩:=(O3 _ keys vs rfl hl _).1 ((hhas _).2 ⟨x,hx,rfl⟩)
  have:=L9 (hk2.trans h2)
  subst this
  exact⟨k,hk1,h1⟩
 ·obtain⟨x,hx,h1⟩:=(hhas _).1 ((O3 _ keys vs rfl hl _).2 ⟨k,hkk,rfl⟩)
  obtain⟨s,h2,h3⟩:=H6 hk F hx
  have:=L9 (h3.symm.trans h1)
  subst this
  exact⟨x,hx,h2⟩
def Kl (P:Program) (kt:TypeId) (keys:List ByteArray) (es:Array MapEntry) (clock b:Nat) (b':Nat) (v:Value) (vs:List (List Value)) (obj:Obj):Prop :=
 b'=b∧v=.map (some b)∧vs.length=keys.length∧obj=.map es clock∧Kj keys vs=.map ((es.toList.map (rg P kt RV)).foldr DataW.insert [])
theorem Ym (G:GF P kt keys es clock) {b:Nat}:∀b' v vs obj,Kl P kt keys es clock b b' v vs obj→Gl P kt keys b' v vs obj:=by
 rintro b' v vs obj ⟨rfl,h2,h3,h4,h5⟩
 exact⟨h2,h3,es,clock,h4,G.fit,G.size,h5⟩
def Gh (es:Array MapEntry) (clock b:Nat) (vis:List ByteArray) (r:Nat) (v:Value) (_:List (List Value)) (obj:Obj):Prop :=
 v=.pointer (some ⟨r,0,none⟩)∧∃since seen c0,obj=.mapIter (some b) since seen c0∧(∀x∈es.toList,x.born<since)∧(∀x∈es.toList,seen.contains x.born=true↔∃k∈vis,x.key=.string k)∧since≤c0∧since≤clock ∧
  ∀k,vis.getLast? = some k→∃e∈es.toList,e.key=.string k∧c0=clock∧∃seen0:Array Nat,seen=seen0.push e.born
variable {o:Oper} {σ:ASt} {K:ASt→Prop}
theorem G3.run {o:Oper}(h:∀Γ a w ow κ,RelAt Γ σ a w ow κ→∃v w' τ,((execOp a.eval o).run P w=.ok (.value v) w'∨((execOp a.eval o).run P w=.ok .skip w'∧v=undef))∧Rel Γ τ (a.put o.dst v) w'∧K τ):G3 P o σ K:=by
 intro Γ a w ⟨ow,κ,hr⟩ KK QQ hk
 obtain⟨v,w',τ,hrun,hr',hK⟩:=h Γ a w ow κ hr
 unfold Oper.wp
 rcases hrun with hrun | ⟨hrun,rfl⟩
 ·rw[hrun];exact hk _ _ τ hr' hK
 ·rw[hrun];exact hk _ _ τ hr' hK
theorem Mm {m:Mem}{i j:Id}{x o:AO}(hj:j∈([(i,x)]:List (Id×AO)).map (·.1)) (h:(m.puts [(i,x)]).get j=some o):j=i∧o=x:=by
 have hji:j=i:=by simpa using hj
 subst hji
 simp[Mem.puts,Mem.get_put]at h
 exact⟨rfl,h.symm⟩
theorem Xn {ty:TypeId}{m:Operand}{i fr:Id}{rows:List (List C)}(ho:o.op=.range ty m) (hm:σ.ev m=.own i) (ht:P.underlying ty=some (.map kt et)) (hk:P.underlying kt=some .string) (hi:σ.mem.get i=some (.blk (Gl P kt keys) rows)) (hf:σ.mem.get fr=none)
  (h:∀es clock b,GF P kt keys es clock→K ((σ.upd none ⟨[],[(i,.blk (Kl P kt keys es clock b) rows)],.skip⟩).upd o.dst ⟨[],[(fr,.blk (Gh es clock b []) [])],.own fr⟩)):G3 P o σ K:=by
 refine G3.run fun Γ a w ow κ hr=>?_
 have hne:fr≠i:=fun e=>by rw[e,hi]at hf;cases hf
 have em:=hr.ev m
 rw[hm]at em
 obtain⟨_,o1,k1,k2⟩:=em
 rw[hi]at k1
 cases k1
 have e1:=k2 (by simp)
 obtain⟨b,obj,vrows,g1,g2,g3,g4⟩:=hr.objs i _ hi
 obtain⟨hv,hvl,es,clock,rfl,F,hsz,hD⟩:=g4
 have G:=GF.of hk hvl F hsz hD
 have st1:Step σ.mem [(i,.blk (Kl P kt keys es clock b) rows)] w ow κ w ow κ:=Step.turn rfl rfl rfl (Nat.le_refl _) hi rfl rfl (fun _ _ _=>rfl) (fun b i hb=>(hr.own b i hb).1)
 have r1:RelAt Γ (σ.upd none ⟨[],[(i,.blk (Kl P kt keys es clock b) rows)],.skip⟩) a w ow κ:=hr.step (E:=⟨[],[(i,.blk (Kl P kt keys es clock b) rows)],.skip⟩) st1 (v:=undef) rfl (fun j hj o' ho'=>by
  obtain⟨rfl,rfl⟩:=Mm hj ho'
  exact⟨b,_,vrows,g1,g2,An.keep (Nat.le_refl _) (st1.sees (Γ:=Γ)) (by simp) g3,rfl,hv,hvl,rfl,hD⟩) none
 have hf1:(σ.upd none ⟨[],[(i,.blk (Kl P kt keys es clock b) rows)],.skip⟩).mem.get fr=none:=by
  show (σ.mem.puts [(i,AO.blk (Kl P kt keys es clock b) rows)]).get fr=none
  rw[Mem.get_puts_out _ _ _ (by simpa using hne)]
  exact hf
 have hh:=h es clock b G
 clear h
 generalize (σ.upd none ⟨[],[(i,.blk (Kl P kt keys es clock b) rows)],.skip⟩)=σ1 at *
 have st2:Step σ1.mem [(fr,.blk (Gh es clock b []) [])] w ow κ (w.alloc (.mapIter (some b) clock #[] clock)) (DK ow [] fr (some w.heap.size)) (Dg κ fr (.pointer (some ⟨w.heap.size,0,none⟩))) :=
  Step.make (ks:=[]) rfl rfl rfl (by simp) hf1 (by simp) rfl (fun b hb _=>Below.heap_alloc w _ b hb) (fun b hb=>by cases hb;exact⟨by simp,.inl (Nat.le_refl _)⟩) r1.owns
 refine⟨.pointer (some ⟨w.heap.size,0,none⟩),_,_,.inl ?_,⟨_,_,r1.step (E:=⟨[],[(fr,.blk (Gh es clock b []) [])],.own fr⟩) st2 ⟨rfl,.blk (Gh es clock b []) [],Cy (ks:=[]) (by simp),fun _=>by simp[Dg]⟩ (fun j hj o' ho'=>?_) o.dst⟩,hh⟩
 ·rw[←e1]at hv
  unfold execOp
  rw[ho]
  simp[hv,run_range_map w ty kt et b es clock ht g2]
 ·have hj':j=fr:=by simpa using hj
  subst hj'
  cases (Cy (m:=σ1.mem) (ks:=[]) (fr:=j) (obj:=.blk (Gh es clock b []) []) (by simp)).symm.trans ho'
  exact⟨w.heap.size,.mapIter (some b) clock #[] clock,[],by simp[DK],MapKept.heap_alloc w _ |>.1,⟨rfl,rfl⟩,by simp[Dg],clock,#[],clock,rfl,F.stamped.1,fun x hx=>by simp,Nat.le_refl _,Nat.le_refl _,fun k hk=>by simp at hk⟩
theorem p7 (hk:P.underlying kt=some .string) (F:Fit P kt RV es clock) {x e:MapEntry}(hx:x∈es.toList) (he:e∈es.toList):x.born=e.born↔x.key=e.key:=by
 have h:=same_iff_born (string_keyed hk) F hx he
 obtain⟨s,h1,h2⟩:=H6 hk F hx
 obtain⟨s',h3,h4⟩:=H6 hk F he
 rw[h2,h4]at h
 constructor
 ·intro hb
  rw[hb,beq_self_eq_true]at h
  rw[h1,h3,L9 (WideAt.sameKey_eq h)]
 ·intro hkey
  rw[h1,h3]at hkey
  cases hkey
  rw[WideAt.sameKey_self (La s)]at h
  simpa using h.symm
theorem ZC {it:Operand}{i j:Id}{b:Nat}{vis:List ByteArray}{rows:List (List C)}(ho:o.op=.next it false) (hit:σ.ev it=.own j) (hk:P.underlying kt=some .string) (G:GF P kt keys es clock) (hi:σ.mem.get i=some (.blk (Kl P kt keys es clock b) rows)) (hj:σ.mem.get j=some (.blk (Gh es clock b vis) []))
  (h0:(∀k∈keys,k∈vis)→K (σ.upd o.dst ⟨[],[],.tup [.c (.bool false)]⟩))
  (h1:∀k,k∈keys→k ∉ vis→K (σ.upd o.dst ⟨[],[(j,.blk (Gh es clock b (vis++[k])) [])],.tup [.c (.bool true),.c (.str k),.undef]⟩)):G3 P o σ K:=by
 refine G3.run fun Γ a w ow κ hr=>?_
 have em:=hr.ev it
 rw[hit]at em
 obtain⟨_,o1,k1,k2⟩:=em
 rw[hj]at k1
 cases k1
 have e1:=k2 (by simp)
 obtain⟨r,obj,vr,g1,g2,g3,hv,since,seen,c0,rfl,hold,hseen,hsc,hsk,hlast⟩:=hr.objs j _ hj
 obtain⟨b',obj',vrows,q1,q2,q3,rfl,hvm,hvl,rfl,hD⟩:=hr.objs i _ hi
 rw[←e1]at hv
 rcases run_next_at (P:=P) w o.type r b' since c0 seen es clock g2 q2 hold hsc with⟨hz,hrun⟩ | ⟨e,he,w1,hw1,hrun⟩
 ·have hall:∀k∈keys,k∈vis:=by
   intro k hkk
   obtain⟨x,hx,hxk⟩:=G.cov k hkk
   obtain⟨k',hk',hxk'⟩:=(hseen x hx).1 (all_seen es seen hz x hx)
   rw[hxk]at hxk'
   cases hxk'
   exact hk'
  refine⟨.tuple #[.bool false],w,_,.inl ?_,⟨_,_,hr.pure (rd:=[]) (x:=.tup [.c (.bool false)]) ⟨[.bool false],rfl,_,_,rfl,⟨rfl,rfl⟩,rfl⟩ o.dst⟩,h0 hall⟩
  unfold execOp
  rw[ho]
  simp[hv,hrun]
 ·obtain⟨hem,hes⟩:=mem_left he
  obtain⟨k,hkk,hkey⟩:=G.mem e hem
  have hnv:k ∉ vis:=fun hkv=>by
   rw[(hseen e hem).2 ⟨k,hkv,hkey⟩]at hes
   cases hes
  have hlt:r<w.heap.size:=(Array.getElem?_eq_some_iff.1 g2).1
  have hww:w1.heap=w.heap∧w1.os=w.os∧w1.tape=w.tape∧w1.output=w.output:=by rcases hw1 with rfl | rfl<;>exact⟨rfl,rfl,rfl,rfl⟩
  obtain⟨y1,y2,y3,y4⟩:=hww
  have hgr:(setBlock w1 r (.mapIter (some b') since (seen.push e.born) clock)).heap[r]? = some (.mapIter (some b') since (seen.push e.born) clock):=by
   simp[setBlock,y1,hlt]
  have st:Step σ.mem [(j,.blk (Gh es clock b' (vis++[k])) [])] w ow κ (setBlock w1 r (.mapIter (some b') since (seen.push e.born) clock)) ow κ :=
   Step.turn y2 y3 y4 (by simp[setBlock,y1]) hj rfl rfl (fun b2 hb hne=>by
    have hrb:b2≠r:=fun e=>hne (by rw[e];exact g1)
    simp[setBlock,y1,Array.getElem?_setIfInBounds,hrb.symm]) (fun b i hb=>(hr.own b i hb).1)
  refine⟨.tuple #[.bool true,e.key,e.val],_,_,.inl ?_,⟨_,_,hr.step (E:=⟨[],[(j,.blk (Gh es clock b' (vis++[k])) [])],.tup [.c (.bool true),.c (.str k),.undef]⟩) st ⟨[.bool true,e.key,e.val],rfl,_,_,rfl,⟨rfl,rfl⟩,_,_,rfl,⟨hkey,rfl⟩,_,_,rfl,trivial,rfl⟩ (fun j' hj' o' ho'=>?_) o.dst⟩,h1 k hkk hnv⟩
  ·unfold execOp
   rw[ho]
   simp[hv,hrun]
  ·obtain⟨rfl,rfl⟩:=Mm hj' ho'
   refine⟨r,_,[],g1,hgr,⟨rfl,rfl⟩,by rw[←e1];exact hv,since,seen.push e.born,clock,rfl,hold,fun x hx=>?_,hsk,hsk,fun k' hk'=>?_⟩
   ·rw[contains_push,Bool.or_eq_true,hseen x hx,beq_iff_eq,p7 hk G.fit hx hem,hkey]
    constructor
    ·rintro (⟨k',h,h'⟩ | h)
     ·exact⟨k',by simp[h],h'⟩
     ·exact⟨k,by simp,h⟩
    ·rintro⟨k',h,h'⟩
     rcases List.mem_append.1 h with h | h
     ·exact .inl ⟨k',h,h'⟩
     ·have:k'=k:=by simpa using h
      subst this
      exact .inr h'
   ·rw[List.getLast?_append]at hk'
    have:k=k':=by simpa using hk'
    subst this
    exact⟨e,hem,hkey,rfl,seen,rfl⟩
theorem Xl {it:Operand}{i j:Id}{b:Nat}{vis:List ByteArray}{k:ByteArray}{rows:List (List C)}(ho:o.op=.entry it) (hit:σ.ev it=.own j) (G:GF P kt keys es clock) (hi:σ.mem.get i=some (.blk (Kl P kt keys es clock b) rows)) (hj:σ.mem.get j=some (.blk (Gh es clock b (vis++[k])) []))
  (h:K (σ.upd o.dst ⟨[],[],.tup [.c (.str k),.undef]⟩)):G3 P o σ K:=by
 refine G3.run fun Γ a w ow κ hr=>?_
 have em:=hr.ev it
 rw[hit]at em
 obtain⟨_,o1,k1,k2⟩:=em
 rw[hj]at k1
 cases k1
 have e1:=k2 (by simp)
 obtain⟨r,obj,vr,g1,g2,g3,hv,since,seen,c0,rfl,hold,hseen,hsc,hsk,hlast⟩:=hr.objs j _ hj
 obtain⟨b',obj',vrows,q1,q2,q3,rfl,hvm,hvl,rfl,hD⟩:=hr.objs i _ hi
 rw[←e1]at hv
 obtain⟨e,hem,hkey,rfl,seen0,rfl⟩:=hlast k (by simp)
 have hrun:=run_entry_at (P:=P) w r b' since seen0 es c0 e g2 q2 hem ((stamped_iff es c0).1 G.fit.stamped).2.1
 refine⟨.tuple #[e.key,e.val],w,_,.inl ?_,⟨_,_,hr.pure (rd:=[]) (x:=.tup [.c (.str k),.undef]) ⟨[e.key,e.val],rfl,_,_,rfl,⟨hkey,rfl⟩,_,_,rfl,trivial,rfl⟩ o.dst⟩,h⟩
 unfold execOp
 rw[ho]
 simp[hv,hrun]
end
end
section
open Go.RowKit Go.Maps
section
variable {P:Program} {σ τ:ASt} {ops:Array Oper} {r:List Oper} {fs:List AEff} {K:ASt→List AEff→Prop} {E:AEff} {kt et:TypeId} {d:Option Tmp} {ty ty':TypeId} {pos:String} {af:Array Edge} {gd:Option (Nat×Bool)}
theorem YI (_:P.underlying kt=some .string) (hg:CJ ops σ ⟨d,.makeMap ty none,ty',pos,af,gd⟩=some true) (hf:σ.mem.get (σ.fresh ⟨d,.makeMap ty none,ty',pos,af,gd⟩)=none)
  (he:(⟨[],[(σ.fresh ⟨d,.makeMap ty none,ty',pos,af,gd⟩,.blk (Gl P kt []) [])],.own (σ.fresh ⟨d,.makeMap ty none,ty',pos,af,gd⟩)⟩:AEff)=E) (hτ:σ.upd d E=τ) (h:Ay P ops r τ (fs++[E]) K):Ay P ops (⟨d,.makeMap ty none,ty',pos,af,gd⟩::r) σ fs K:=by
 subst he
 exact Ca hg rfl (W8 (kt:=kt) rfl hf).sound hτ h
theorem YH {m x y:Operand}{i:Id}{s:ByteArray}{keys:List ByteArray}{rows:List (List C)}{cells:List AV}{cs:List C}(ht:P.underlying ty=some (.map kt et)) (hk:P.underlying kt=some .string) (hn:keys.length<9223372036854775807) (hs:s.size≤9223372036854775807)
  (hg:CJ ops σ ⟨d,.mapUpdate ty m x y,ty',pos,af,gd⟩=some true) (hm:σ.ev m=.own i) (hx:σ.ev x=.c (.str s)) (hy:σ.ev y=.agg cells) (hcs:OI (fun _=>none) cells=some (cs,[],[])) (hi:σ.mem.get i=some (.blk (Gl P kt keys) rows))
  (he:(⟨[],[(i,.blk (Gl P kt (keys++[s])) (rows++[cs]))],.skip⟩:AEff)=E) (hτ:σ.upd d E=τ) (h:Ay P ops r τ (fs++[E]) K):Ay P ops (⟨d,.mapUpdate ty m x y,ty',pos,af,gd⟩::r) σ fs K:=by
 subst he
 exact Ca hg rfl (W7 rfl hm hx hy hcs ht hk hi hn hs).sound hτ h
theorem YG {m x:Operand}{i:Id}{s:ByteArray}{keys:List ByteArray}{rows:List (List C)}{cs:List C}{R:Nat→Value→List (List Value)→Obj→Prop}(j:Nat) (hR:∀b v vs obj,R b v vs obj→Gl P kt keys b v vs obj) (ht:P.underlying ty=some (.map kt et)) (hk:P.underlying kt=some .string) (hz:∃z,∀w,(zeroValue et).run P w=.ok z w) (hs:s.size≤9223372036854775807)
  (hj:keys[j]? = some s) (hl:∀n,j<n→keys[n]?≠some s) (hr0:rows[j]? = some cs)
  (hg:CJ ops σ ⟨d,.lookup ty m x false,ty',pos,af,gd⟩=some true) (hm:σ.ev m=.own i) (hx:σ.ev x=.c (.str s)) (hi:σ.mem.get i=some (.blk R rows))
  (he:(⟨[i],[],.agg (cs.map .c)⟩:AEff)=E) (hτ:σ.upd d E=τ) (h:Ay P ops r τ (fs++[E]) K):Ay P ops (⟨d,.lookup ty m x false,ty',pos,af,gd⟩::r) σ fs K:=by
 subst he
 exact Ca hg rfl (W6 j hR rfl hm hx ht hk hz hi hs hj hl hr0).sound hτ h
end
section
variable {P:Program} {σ τ:ASt} {r:List Oper} {K:ASt→Prop} {E:AEff} {d:Option Tmp} {op:Op} {ty:TypeId} {pos:String} {af:Array Edge}
theorem O7 (he:TY P #[] σ ⟨d,op,ty,pos,af,none⟩=some E) (hτ:σ.upd d E=τ) (h:EZ P r τ K):EZ P (⟨d,op,ty,pos,af,none⟩::r) σ K:=by
 subst hτ
 refine Tr (G3.of (E:=E) ?_ h)
 unfold TY at he
 rw[PK]at he
 simp only at he
 split at he
 ·rename_i E' h1
  cases he
  exact (PD h1).sound
 ·exact (K9 he).sound
theorem a2n {kt et mt:TypeId}{m:Operand}{i:Id}{keys:List ByteArray}{rows:List (List C)}{τ:Array MapEntry→Nat→Nat→ASt}(ht:P.underlying mt=some (.map kt et)) (hk:P.underlying kt=some .string) (hm:σ.ev m=.own i) (hi:σ.mem.get i=some (.blk (Gl P kt keys) rows)) (hf:σ.mem.get (d.getD 0,0)=none)
  (hτ:∀es clock b,(σ.upd none ⟨[],[(i,.blk (Kl P kt keys es clock b) rows)],.skip⟩).upd d ⟨[],[((d.getD 0,0),.blk (Gh es clock b []) [])],.own (d.getD 0,0)⟩=τ es clock b)
  (h:∀es clock b,GF P kt keys es clock→EZ P r (τ es clock b) K):EZ P (⟨d,.range mt m,ty,pos,af,none⟩::r) σ K :=
 Tr (Xn rfl hm ht hk hi hf fun es clock b G=>by show EZ P r _ K;rw[hτ];exact h es clock b G)
theorem a40 {kt:TypeId}{keys:List ByteArray}{es:Array MapEntry}{clock:Nat}{it:Operand}(i:Id) {j:Id}{b:Nat}{vis:List ByteArray}{rows:List (List C)}{τ0:ASt}{τ1:ByteArray→ASt}(hk:P.underlying kt=some .string) (G:GF P kt keys es clock) (hit:σ.ev it=.own j) (hi:σ.mem.get i=some (.blk (Kl P kt keys es clock b) rows)) (hj:σ.mem.get j=some (.blk (Gh es clock b vis) []))
  (hτ0:σ.upd d ⟨[],[],.tup [.c (.bool false)]⟩=τ0) (hτ1:∀k,σ.upd d ⟨[],[(j,.blk (Gh es clock b (vis++[k])) [])],.tup [.c (.bool true),.c (.str k),.undef]⟩=τ1 k)
  (h0:(∀k∈keys,k∈vis)→EZ P r τ0 K)
  (h1:∀k,k∈keys→k ∉ vis→EZ P r (τ1 k) K):EZ P (⟨d,.next it false,ty,pos,af,none⟩::r) σ K :=
 Tr (ZC rfl hit hk G hi hj (fun h=>by show EZ P r _ K;rw[hτ0];exact h0 h) (fun k h h'=>by show EZ P r _ K;rw[hτ1];exact h1 k h h'))
theorem a2m {kt:TypeId}{keys:List ByteArray}{es:Array MapEntry}{clock:Nat}{it:Operand}(i:Id) {j:Id}{b:Nat}{vis:List ByteArray}{k:ByteArray}{rows:List (List C)}(G:GF P kt keys es clock) (hit:σ.ev it=.own j) (hi:σ.mem.get i=some (.blk (Kl P kt keys es clock b) rows)) (hj:σ.mem.get j=some (.blk (Gh es clock b (vis++[k])) []))
  (hτ:σ.upd d ⟨[],[],.tup [.c (.str k),.undef]⟩=τ) (h:EZ P r τ K):EZ P (⟨d,.entry it,ty,pos,af,none⟩::r) σ K :=
 Tr (Xl rfl hit G hi hj (by show EZ P r _ K;rw[hτ];exact h))
end
end
section
open Go.RowKit
section
variable {P:Program} {σ τ τ0 τ1:ASt} {r:List Oper} {K:ASt→Prop}
theorem Xm {o:Oper}{t t':TypeId}{y z:Operand}{rows:List (List C)}{e s b zz}(ho:o.op=.binOp .eql t y z t') (ht:tin P t=some ⟨.sl e,s,b,zz⟩) (hy:σ.ev y=.c (.sl rows)) (hz:σ.ev z=.nils)
  (h1:rows=[]→K (σ.upd o.dst ⟨[],[],.c (.bool true)⟩)) (h0:K (σ.upd o.dst ⟨[],[],.c (.bool false)⟩)):G3 P o σ K:=by
 refine G3.run fun Γ a w ow κ hr=>?_
 have hu:=GW ht
 have ey:=hr.ev y
 have ez:=hr.ev z
 rw[hy]at ey
 rw[hz]at ez
 obtain⟨es,A,cap,vrows,e1,_,_,k4,k5,_⟩:=ey
 have e2:a.eval z=.slice none 0 0:=ez
 obtain⟨v,h3,h4⟩:=Ih (x:=.c (.bool A.isNone)) (S:=Γ.sees ow) (m:=σ.mem) (κ:=κ) ho rfl e1 e2 (fun op=>IN op t y z _ _ _ w) (QW hu _ _ _ w) (Ru hu _ _ _ w)
 refine⟨v,w,_,.inl h3,⟨_,_,hr.pure (rd:=[]) h4 o.dst⟩,?_⟩
 cases A with
 |some A=>exact h0
 |none =>
  refine h1 ?_
  have hl:=k5.length
  cases rows with
  |nil=>rfl
  |cons x xs =>
   obtain⟨b,off,hA,_⟩:=k4.2 (by rw[hl];simp)
   cases hA
theorem Rs {d:Option Tmp}{t t':TypeId}{y z:Operand}{rows:List (List C)}{e s b zz}{ty:TypeId}{pos:String}{af:Array Edge}(ht:tin P t=some ⟨.sl e,s,b,zz⟩) (hy:σ.ev y=.c (.sl rows)) (hz:σ.ev z=.nils)
  (hτ1:σ.upd d ⟨[],[],.c (.bool true)⟩=τ1) (hτ0:σ.upd d ⟨[],[],.c (.bool false)⟩=τ0)
  (h1:rows=[]→EZ P r τ1 K) (h0:EZ P r τ0 K):EZ P (⟨d,.binOp .eql t y z t',ty,pos,af,none⟩::r) σ K :=
 Tr (Xm rfl ht hy hz (fun h=>by show EZ P r _ K;rw[hτ1];exact h1 h) (by show EZ P r _ K;rw[hτ0];exact h0))
end
end
section
open Go.RowKit
theorem q9:True:=trivial
theorem j2 {A B:Prop}(a:A) (b:B):A∧B:=⟨a,b⟩
theorem j3 {A B C:Prop}(a:A) (b:B) (c:C):A∧B∧C:=⟨a,b,c⟩
theorem j4 {A B C D:Prop}(a:A) (b:B) (c:C) (d:D):A∧B∧C∧D:=⟨a,b,c,d⟩
theorem j5 {A B C D E:Prop}(a:A) (b:B) (c:C) (d:D) (e:E):A∧B∧C∧D∧E:=⟨a,b,c,d,e⟩
theorem j6 {A B C D E F:Prop}(a:A) (b:B) (c:C) (d:D) (e:E) (f:F):A∧B∧C∧D∧E∧F:=⟨a,b,c,d,e,f⟩
theorem j7 {A B C D E F G:Prop}(a:A) (b:B) (c:C) (d:D) (e:E) (f:F) (g:G):(A∧B∧C∧D∧E∧F)∧G:=⟨j6 a b c d e f,g⟩
theorem j8 {A B C D E F G H:Prop}(a:A) (b:B) (c:C) (d:D) (e:E) (f:F) (g:G) (h:H):(A∧B∧C∧D∧E∧F)∧G∧H:=⟨j6 a b c d e f,g,h⟩
theorem j9 {A B C D E F G H I:Prop}(a:A) (b:B) (c:C) (d:D) (e:E) (f:F) (g:G) (h:H) (i:I):(A∧B∧C∧D∧E∧F)∧G∧H∧I:=⟨j6 a b c d e f,g,h,i⟩
theorem j10 {A B C D E F G H I J:Prop}(a:A) (b:B) (c:C) (d:D) (e:E) (f:F) (g:G) (h:H) (i:I) (j:J):(A∧B∧C∧D∧E∧F)∧G∧H∧I∧J:=⟨j6 a b c d e f,g,h,i,j⟩
theorem j11 {A B C D E F G H I J K:Prop}(a:A) (b:B) (c:C) (d:D) (e:E) (f:F) (g:G) (h:H) (i:I) (j:J) (k:K):(A∧B∧C∧D∧E∧F)∧G∧H∧I∧J∧K:=⟨j6 a b c d e f,g,h,i,j,k⟩
theorem j12 {A B C D E F G H I J K L:Prop}(a:A) (b:B) (c:C) (d:D) (e:E) (f:F) (g:G) (h:H) (i:I) (j:J) (k:K) (l:L):(A∧B∧C∧D∧E∧F)∧G∧H∧I∧J∧K∧L:=⟨j6 a b c d e f,g,h,i,j,k,l⟩
theorem AA {A R G' G:Prop}(f:A) (r:R) (h:G') (e:A→R→G'→G:=by intro f r hh;refine AC.intro_sp DG f rfl r (Nat.le_of_ble_eq_true rfl) ?_;simp only[go_sem,Nat.reduceAdd];exact hh):G:=e f r h
theorem Ab {Φ G' G:Prop}(F:Φ) (h:G') (e:Φ→G'→G:=by intro F hh;(repeat (first | (with_reducible first | refine Pm ?_ | refine CV ?_ | refine J3 ?_ | refine J5 ?_) | ((with_reducible apply LT);(iterate 2 (focus (first | (simp only[go_sem,Nat.reduceEqDiff,Nat.reduceAdd,Nat.reduceSub,Nat.reduceLeDiff,Nat.reduceMul,Nat.reduceBEq,Nat.reduceLT,Int.reduceToNat,reduceCtorEq,F];first | done | exact rfl | (and_intros<;>rfl)) | exact rfl | decide)))) | ((with_reducible refine Q4 ?_);dsimp only;try ((with_reducible apply LS);(focus (simp only[go_sem];exact rfl));(focus decide))) | ((with_reducible first | refine Pk ?_ | refine LB ?_ | refine J4 ?_);dsimp only) | ((with_reducible refine LA ?_);dsimp only;simp only[if_true,if_false,Nat.reduceEqDiff]) | ((with_reducible apply Xg);(focus (simp only[go_sem,Nat.reduceBEq,Nat.reduceLT,F];exact rfl));dsimp only[cond_true,cond_false]) | ((with_reducible refine Lz ?_ ?_);(focus exact rfl))));exact hh):G:=e F h
theorem Aq {Φ G' G:Prop}(F:Φ) (h:G') (e:Φ→G'→G:=by intro F hh;(repeat (first | (with_reducible first | refine Pm ?_ | refine CV ?_ | refine J3 ?_ | refine J5 ?_) | ((with_reducible apply LT);(iterate 2 (focus (first | (simp only[go_sem,Nat.reduceEqDiff,Nat.reduceAdd,Nat.reduceSub,Nat.reduceLeDiff,Nat.reduceMul,Nat.reduceBEq,Nat.reduceLT,Int.reduceToNat,reduceCtorEq,F,Int.reduceBEq];first | done | exact rfl | (and_intros<;>rfl)) | exact rfl | decide)))) | ((with_reducible refine Q4 ?_);dsimp only;try ((with_reducible apply LS);(focus (simp only[go_sem];exact rfl));(focus decide))) | ((with_reducible first | refine Pk ?_ | refine LB ?_ | refine J4 ?_);dsimp only) | ((with_reducible refine LA ?_);dsimp only;simp only[if_true,if_false,Nat.reduceEqDiff]) | ((with_reducible apply Xg);(focus (simp only[go_sem,Nat.reduceBEq,Nat.reduceLT,F,Int.reduceBEq];exact rfl));dsimp only[cond_true,cond_false]) | ((with_reducible refine Lz ?_ ?_);(focus exact rfl))));exact hh):G:=e F h
theorem a51 {Φ G' G:Prop}(F:Φ) (h:G') (e:Φ→G'→G:=by intro F hh;(repeat (first | (with_reducible first | refine Pm ?_ | refine CV ?_ | refine J3 ?_ | refine J5 ?_) | ((with_reducible apply LT);(iterate 2 (focus (first | (simp only[go_sem,Nat.reduceEqDiff,Nat.reduceAdd,Nat.reduceSub,Nat.reduceLeDiff,Nat.reduceMul,Nat.reduceBEq,Nat.reduceLT,Int.reduceToNat,reduceCtorEq,F,Int.reduceBEq,Int.reduceGT,Int.reduceLT,decide_true,decide_false];first | done | exact rfl | (and_intros<;>rfl)) | exact rfl | decide)))) | ((with_reducible refine Q4 ?_);dsimp only;try ((with_reducible apply LS);(focus (simp only[go_sem];exact rfl));(focus decide))) | ((with_reducible first | refine Pk ?_ | refine LB ?_ | refine J4 ?_);dsimp only) | ((with_reducible refine LA ?_);dsimp only;simp only[if_true,if_false,Nat.reduceEqDiff]) | ((with_reducible apply Xg);(focus (simp only[go_sem,Nat.reduceBEq,Nat.reduceLT,F,Int.reduceBEq,Int.reduceGT,Int.reduceLT,decide_true,decide_false];exact rfl));dsimp only[cond_true,cond_false]) | ((with_reducible refine Lz ?_ ?_);(focus exact rfl))));exact hh):G:=e F h
theorem FF {Φ G' G:Prop}(F:Φ) (h:G') (e:Φ→G'→G:=by intro F hh;(repeat (first | (with_reducible first | refine Pm ?_ | refine J3 ?_ | refine J5 ?_) | ((with_reducible apply LT);(iterate 2 (focus (first | (simp only[go_sem,Nat.reduceEqDiff,Nat.reduceAdd,Nat.reduceSub,Nat.reduceLeDiff,Nat.reduceMul,Nat.reduceBEq,Nat.reduceLT,Int.reduceToNat,reduceCtorEq,F];first | done | exact rfl | (and_intros<;>rfl)) | exact rfl | decide)))) | ((with_reducible refine Q4 ?_);dsimp only;try ((with_reducible apply LS);(focus (simp only[go_sem];exact rfl));(focus decide))) | ((with_reducible first | refine Pk ?_ | refine LB ?_ | refine J4 ?_);dsimp only) | ((with_reducible refine LA ?_);dsimp only;simp only[if_true,if_false,Nat.reduceEqDiff]) | ((with_reducible apply Xg);(focus (simp only[go_sem,Nat.reduceBEq,Nat.reduceLT,F];exact rfl));dsimp only[cond_true,cond_false]) | ((with_reducible refine Lz ?_ ?_);(focus exact rfl))));exact hh):G:=e F h
theorem w7 {A Φ G' G:Prop}(f:A) (F:Φ) (h:G') (e:A→Φ→G'→G:=by intro f F hh;apply f;(iterate 7 (focus (first | (simp only[go_sem,Nat.reduceEqDiff,Nat.reduceAdd,Nat.reduceSub,Nat.reduceLeDiff,Nat.reduceMul,Nat.reduceBEq,Nat.reduceLT,Int.reduceToNat,reduceCtorEq,F];first | done | exact rfl | (and_intros<;>rfl)) | exact rfl | decide)));exact hh):G:=e f F h
theorem w2 {A Φ G' G:Prop}(f:A) (F:Φ) (h:G') (e:A→Φ→G'→G:=by intro f F hh;apply f;(iterate 2 (focus (first | (simp only[go_sem,Nat.reduceEqDiff,Nat.reduceAdd,Nat.reduceSub,Nat.reduceLeDiff,Nat.reduceMul,Nat.reduceBEq,Nat.reduceLT,Int.reduceToNat,reduceCtorEq,F];first | done | exact rfl | (and_intros<;>rfl)) | exact rfl | decide)));exact hh):G:=e f F h
theorem w3 {A Φ G' G:Prop}(f:A) (F:Φ) (h:G') (e:A→Φ→G'→G:=by intro f F hh;apply f;(iterate 3 (focus (first | (simp only[go_sem,Nat.reduceEqDiff,Nat.reduceAdd,Nat.reduceSub,Nat.reduceLeDiff,Nat.reduceMul,Nat.reduceBEq,Nat.reduceLT,Int.reduceToNat,reduceCtorEq,F];first | done | exact rfl | (and_intros<;>rfl)) | exact rfl | decide)));exact hh):G:=e f F h
theorem w4 {A Φ G' G:Prop}(f:A) (F:Φ) (h:G') (e:A→Φ→G'→G:=by intro f F hh;apply f;(iterate 4 (focus (first | (simp only[go_sem,Nat.reduceEqDiff,Nat.reduceAdd,Nat.reduceSub,Nat.reduceLeDiff,Nat.reduceMul,Nat.reduceBEq,Nat.reduceLT,Int.reduceToNat,reduceCtorEq,F];first | done | exact rfl | (and_intros<;>rfl)) | exact rfl | decide)));exact hh):G:=e f F h
theorem w5 {A Φ G' G:Prop}(f:A) (F:Φ) (h:G') (e:A→Φ→G'→G:=by intro f F hh;apply f;(iterate 5 (focus (first | (simp only[go_sem,Nat.reduceEqDiff,Nat.reduceAdd,Nat.reduceSub,Nat.reduceLeDiff,Nat.reduceMul,Nat.reduceBEq,Nat.reduceLT,Int.reduceToNat,reduceCtorEq,F];first | done | exact rfl | (and_intros<;>rfl)) | exact rfl | decide)));exact hh):G:=e f F h
theorem w6 {A Φ G' G:Prop}(f:A) (F:Φ) (h:G') (e:A→Φ→G'→G:=by intro f F hh;apply f;(iterate 6 (focus (first | (simp only[go_sem,Nat.reduceEqDiff,Nat.reduceAdd,Nat.reduceSub,Nat.reduceLeDiff,Nat.reduceMul,Nat.reduceBEq,Nat.reduceLT,Int.reduceToNat,reduceCtorEq,F];first | done | exact rfl | (and_intros<;>rfl)) | exact rfl | decide)));exact hh):G:=e f F h
theorem w8 {A Φ G' G:Prop}(f:A) (F:Φ) (h:G') (e:A→Φ→G'→G:=by intro f F hh;apply f;(iterate 8 (focus (first | (simp only[go_sem,Nat.reduceEqDiff,Nat.reduceAdd,Nat.reduceSub,Nat.reduceLeDiff,Nat.reduceMul,Nat.reduceBEq,Nat.reduceLT,Int.reduceToNat,reduceCtorEq,F];first | done | exact rfl | (and_intros<;>rfl)) | exact rfl | decide)));exact hh):G:=e f F h
theorem w11 {A Φ G' G:Prop}(f:A) (F:Φ) (h:G') (e:A→Φ→G'→G:=by intro f F hh;apply f;(iterate 11 (focus (first | (simp only[go_sem,Nat.reduceEqDiff,Nat.reduceAdd,Nat.reduceSub,Nat.reduceLeDiff,Nat.reduceMul,Nat.reduceBEq,Nat.reduceLT,Int.reduceToNat,reduceCtorEq,F];first | done | exact rfl | (and_intros<;>rfl)) | exact rfl | decide)));exact hh):G:=e f F h
theorem w13 {A Φ G' G:Prop}(f:A) (F:Φ) (h:G') (e:A→Φ→G'→G:=by intro f F hh;apply f;(iterate 13 (focus (first | (simp only[go_sem,Nat.reduceEqDiff,Nat.reduceAdd,Nat.reduceSub,Nat.reduceLeDiff,Nat.reduceMul,Nat.reduceBEq,Nat.reduceLT,Int.reduceToNat,reduceCtorEq,F];first | done | exact rfl | (and_intros<;>rfl)) | exact rfl | decide)));exact hh):G:=e f F h
theorem w9 {A Φ G' G:Prop}(f:A) (F:Φ) (h:G') (e:A→Φ→G'→G:=by intro f F hh;apply f;(iterate 9 (focus (first | (simp only[go_sem,Nat.reduceEqDiff,Nat.reduceAdd,Nat.reduceSub,Nat.reduceLeDiff,Nat.reduceMul,Nat.reduceBEq,Nat.reduceLT,Int.reduceToNat,reduceCtorEq,F];first | done | exact rfl | (and_intros<;>rfl)) | exact rfl | decide)));exact hh):G:=e f F h
theorem w10 {A Φ G' G:Prop}(f:A) (F:Φ) (h:G') (e:A→Φ→G'→G:=by intro f F hh;apply f;(iterate 10 (focus (first | (simp only[go_sem,Nat.reduceEqDiff,Nat.reduceAdd,Nat.reduceSub,Nat.reduceLeDiff,Nat.reduceMul,Nat.reduceBEq,Nat.reduceLT,Int.reduceToNat,reduceCtorEq,F];first | done | exact rfl | (and_intros<;>rfl)) | exact rfl | decide)));exact hh):G:=e f F h
theorem w12 {A Φ G' G:Prop}(f:A) (F:Φ) (h:G') (e:A→Φ→G'→G:=by intro f F hh;apply f;(iterate 12 (focus (first | (simp only[go_sem,Nat.reduceEqDiff,Nat.reduceAdd,Nat.reduceSub,Nat.reduceLeDiff,Nat.reduceMul,Nat.reduceBEq,Nat.reduceLT,Int.reduceToNat,reduceCtorEq,F];first | done | exact rfl | (and_intros<;>rfl)) | exact rfl | decide)));exact hh):G:=e f F h
theorem a5t {A Φ G' G:Prop}(f:A) (F:Φ) (h:G') (e:A→Φ→G'→G:=by intro f F hh;apply f;(iterate 7 (focus (first | (simp only[go_sem,Nat.reduceEqDiff,Nat.reduceAdd,Nat.reduceSub,Nat.reduceLeDiff,Nat.reduceMul,Nat.reduceBEq,Nat.reduceLT,Int.reduceToNat,reduceCtorEq,F];first | done | exact rfl | (and_intros<;>rfl)) | exact rfl | decide)));(iterate 7 (focus (simp[go_sem,F];done)));(iterate 2 (focus (first | (simp only[go_sem,Nat.reduceEqDiff,Nat.reduceAdd,Nat.reduceSub,Nat.reduceLeDiff,Nat.reduceMul,Nat.reduceBEq,Nat.reduceLT,Int.reduceToNat,reduceCtorEq,F];first | done | exact rfl | (and_intros<;>rfl)) | exact rfl | decide)));exact hh):G:=e f F h
theorem Ac {A Φ G:Prop}(f:A) (F:Φ) (e:A→Φ→G:=by intro f F;apply f;(iterate 2 ((focus (simp only[go_sem,Nat.reduceEqDiff,Nat.reduceAdd,Nat.reduceSub,Nat.reduceLeDiff,Nat.reduceMul,Nat.reduceBEq,Nat.reduceLT,Int.reduceToNat,reduceCtorEq,F];try (and_intros<;>rfl)));(focus exact rfl)));(iterate 4 (focus (simp[go_sem,F];done)))):G:=e f F
theorem wAS {A Φ G:Prop}(f:A) (F:Φ) (e:A→Φ→G:=by intro f F;apply f;(focus (simp only[go_sem,Nat.reduceEqDiff,Nat.reduceAdd,Nat.reduceSub,Nat.reduceLeDiff,Nat.reduceMul,Nat.reduceBEq,Nat.reduceLT,Int.reduceToNat,reduceCtorEq,F];try (and_intros<;>rfl)));(focus exact rfl);(focus (simp only[go_sem,Nat.reduceEqDiff,Nat.reduceAdd,Nat.reduceSub,Nat.reduceLeDiff,Nat.reduceMul,Nat.reduceBEq,Nat.reduceLT,Int.reduceToNat,reduceCtorEq,F];try (and_intros<;>rfl)));(focus exact rfl);(iterate 4 (focus (simp[go_sem,F];done)))):G:=e f F
theorem Aa {A R Φ G:Prop}(f:A) (r:R) (F:Φ) (e:A→R→Φ→G:=by intro f r F;apply f;(focus (simp only[r,go_sem,Nat.reduceBEq,Nat.reduceLT,F];exact rfl));(focus (simp only[go_sem,Nat.reduceEqDiff,Nat.reduceAdd,Nat.reduceSub,Nat.reduceLeDiff,Nat.reduceMul,Nat.reduceBEq,Nat.reduceLT,Int.reduceToNat,reduceCtorEq,F];try (and_intros<;>rfl)));(focus exact rfl);(focus (simp only[go_sem,Nat.reduceEqDiff,Nat.reduceAdd,Nat.reduceSub,Nat.reduceLeDiff,Nat.reduceMul,Nat.reduceBEq,Nat.reduceLT,Int.reduceToNat,reduceCtorEq,F];try (and_intros<;>rfl)));(focus exact rfl);(iterate 4 (focus (simp[go_sem,F];done)))):G:=e f r F
theorem Ag {A R G:Prop}(f:A) (r:R) (e:A→R→G:=by intro f r;exact f (by simp only[r,go_sem,Nat.reduceBEq,Nat.reduceLT];exact rfl) (by simp only[go_sem,Nat.reduceEqDiff,Nat.reduceAdd,Nat.reduceSub,Nat.reduceLeDiff,Nat.reduceMul,Nat.reduceBEq,Nat.reduceLT,Int.reduceToNat,reduceCtorEq]) rfl):G:=e f r
theorem v7 {A Φ Ψ G' G:Prop}(f:A) (F:Φ) (H:Ψ) (h:G') (e:A→Φ→Ψ→G'→G:=by intro f F H hh;refine w7 f @F ?_;refine Ab @H ?_;exact hh):G:=e f F H h
theorem v9 {A Φ Ψ G' G:Prop}(f:A) (F:Φ) (H:Ψ) (h:G') (e:A→Φ→Ψ→G'→G:=by intro f F H hh;refine w9 f @F ?_;refine Ab @H ?_;exact hh):G:=e f F H h
theorem v10 {A Φ Ψ G' G:Prop}(f:A) (F:Φ) (H:Ψ) (h:G') (e:A→Φ→Ψ→G'→G:=by intro f F H hh;refine w10 f @F ?_;refine Ab @H ?_;exact hh):G:=e f F H h
theorem v12 {A Φ Ψ G' G:Prop}(f:A) (F:Φ) (H:Ψ) (h:G') (e:A→Φ→Ψ→G'→G:=by intro f F H hh;refine w12 f @F ?_;refine Ab @H ?_;exact hh):G:=e f F H h
theorem Bw {A Φ Ψ G' G:Prop}(f:A) (F:Φ) (H:Ψ) (h:G') (e:A→Φ→Ψ→G'→G:=by intro f F H hh;refine a5t f @F ?_;refine Ab @H ?_;exact hh):G:=e f F H h
theorem A6 {A R Φ G' G:Prop}(f:A) (r:R) (F:Φ) (h:G') (e:A→R→Φ→G'→G:=by intro f r F hh;refine AA f r ?_;refine Ab @F ?_;exact hh):G:=e f r F h
theorem FC {A R Φ G:Prop}(F:Φ) (f:A) (r:R) (e:Φ→A→R→G:=by intro F f r;refine Ab @F ?_;exact Ag f r):G:=e F f r
end
end Go.Proofs.YtcejfdfmgmcinaaGreat
