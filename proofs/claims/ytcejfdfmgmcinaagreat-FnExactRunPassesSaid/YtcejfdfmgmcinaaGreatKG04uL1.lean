/- Texts of this proof: G04 G05 G06 G07 G08 L01 L02 L03 L04 L05. -/
import Derived.Test.YtcejfdfmgmcinaaGreatKB3
import Derived.Deep.RegionHeld3
import Derived.Deep.RegionWith
set_option linter.all false
set_option maxHeartbeats 8000000
namespace Go.Proofs.YtcejfdfmgmcinaaGreat
section
open Go.RowKit
section
variable {w:World} {S:Nat→Prop}
theorem Sn {c:CellD}{v:List Value}{bs:List Nat}:CRs w S c.cs v bs↔v=vals c∧bs=[]:=by
 simp only[CellD.cs,CRs,CR,vals]
 constructor
 ·rintro⟨_,_,_,_,rfl,rfl,⟨rfl,rfl⟩,_,_,_,_,rfl,rfl,⟨rfl,rfl⟩,_,_,_,_,rfl,rfl,⟨rfl,rfl⟩,_,_,_,_,rfl,rfl,⟨rfl,rfl⟩,_,_,_,_,rfl,rfl,⟨rfl,rfl⟩,rfl,rfl⟩
  exact⟨rfl,rfl⟩
 ·rintro⟨rfl,rfl⟩
  exact⟨_,_,[],[],rfl,rfl,⟨rfl,rfl⟩,_,_,[],[],rfl,rfl,⟨rfl,rfl⟩,_,_,[],[],rfl,rfl,⟨rfl,rfl⟩,_,_,[],[],rfl,rfl,⟨rfl,rfl⟩,_,_,[],[],rfl,rfl,⟨rfl,rfl⟩,rfl,rfl⟩
theorem H2 {α:Type}{f:α→List C}{g:α→List Value}(hf:∀{x v bs},CRs w S (f x) v bs↔v=g x∧bs=[]):∀{l:List α}{vs:List (List Value)}{bs:List Nat},An w S (l.map f) vs bs↔vs=l.map g∧bs=[]
 | [],vs,bs=>by simp[An]
 |x::l,vs,bs=>by
  simp only[List.map_cons,An]
  constructor
  ·rintro⟨v,vs',b1,b2,rfl,rfl,h1,h2⟩
   obtain⟨rfl,rfl⟩:=hf.1 h1
   obtain⟨rfl,rfl⟩:=(H2 hf).1 h2
   exact⟨rfl,rfl⟩
  ·rintro⟨rfl,rfl⟩
   exact⟨_,_,[],[],rfl,rfl,hf.2 ⟨rfl,rfl⟩,(H2 hf).2 ⟨rfl,rfl⟩⟩
theorem Row.resize {es n:Nat}{A:Option Addr}{xs:List (List Value)}(h:Row w S es A xs) (hl:∀x∈xs,x.length=n):Row w S n A xs:=by
 cases xs with
 |nil=>exact Row.nil
 |cons x xs =>
  have h1:=h.1 x (by simp)
  have h2:=hl x (by simp)
  rw[←h2,h1]
  exact h
theorem WA {α:Type}{f:α→List C}{g:α→List Value}{n:Nat}(hf:∀{x v bs},CRs w S (f x) v bs↔v=g x∧bs=[]) (hg:∀x,(g x).length=n) {l:List α}{v:Value} :
  CR w S (.sl (l.map f)) v []↔∃A cap,v=.slice A l.length cap∧l.length≤cap∧Row w S n A (l.map g):=by
 simp only[CR]
 constructor
 ·rintro⟨es,A,cap,vrows,rfl,h2,_,h4,h5,_⟩
  obtain⟨rfl,_⟩:=(H2 hf).1 h5
  rw[List.length_map]at h2 ⊢
  exact⟨A,cap,rfl,h2,h4.resize (by simp[hg])⟩
 ·rintro⟨A,cap,rfl,h2,h4⟩
  exact⟨n,A,cap,l.map g,by rw[List.length_map],by rw[List.length_map];exact h2,trivial,h4,(H2 hf).2 ⟨rfl,rfl⟩,trivial⟩
theorem a1p (c:CellD):(vals c).length=5:=rfl
theorem CX {xs:List CellD}{v:Value}:CR w S (.sl (xs.map CellD.cs)) v []↔∃A cap,v=.slice A xs.length cap∧xs.length≤cap∧Be w S A xs:=WA Sn a1p
theorem WB {s:ByteArray}{v:List Value}{bs:List Nat}:CRs w S (Ae s) v bs↔v=[.string s]∧bs=[]:=by
 simp only[Ae,CRs,CR]
 constructor
 ·rintro⟨_,_,_,_,rfl,rfl,⟨rfl,rfl⟩,rfl,rfl⟩
  exact⟨rfl,rfl⟩
 ·rintro⟨rfl,rfl⟩
  exact⟨_,_,[],[],rfl,rfl,⟨rfl,rfl⟩,rfl,rfl⟩
theorem a1w {xs:List ByteArray}{v:Value}:CR w S (.sl (xs.map Ae)) v []↔∃A cap,v=.slice A xs.length cap∧xs.length≤cap∧Qu w S A xs:=WA (f:=Ae) (g:=fun k=>[.string k]) (n:=1) WB fun _=>rfl
mutual
theorem So:∀{t:V}{vs:List Value},Cv w S t vs→CRs w S t.cs vs []
 | .mk kind num text keys kids,vs,h=>by
  simp only[Cv]at h
  obtain⟨Ak,ck,Av,cv,kvs,rfl,h2,h3,h4,h5,h6⟩:=h
  have h7:=Nk h6
  have hl:=h7.length
  simp only[Nl,List.length_map]at hl
  simp only[V.cs,CRs]
  refine⟨_,_,[],[],rfl,rfl,⟨rfl,rfl⟩,_,_,[],[],rfl,rfl,⟨rfl,rfl⟩,_,_,[],[],rfl,rfl,⟨rfl,rfl⟩,_,_,[],[],rfl,rfl,a1w.2 ⟨_,_,rfl,h2,h4⟩,_,_,[],[],rfl,rfl,?_,rfl,rfl⟩
  simp only[CR]
  exact⟨5,Av,cv,kvs,by rw[Nl,List.length_map],by rw[Nl,List.length_map];exact h3,trivial,h5,h7,trivial⟩
theorem Nk:∀{ts:List V}{vs:List (List Value)},Bv w S ts vs→An w S (csL ts) vs []
 | [],vs,h=>by
  simp only[Bv]at h
  subst h
  exact⟨rfl,rfl⟩
 |t::ts,vs,h=>by
  simp only[Bv]at h
  obtain⟨v,vs',rfl,h1,h2⟩:=h
  exact⟨_,_,[],[],rfl,rfl,So h1,Nk h2⟩
end
end
theorem Po {w:World}{S:Nat→Prop}{m:Mem}{κ:Id→Value}:∀{xs:List C}{vs:List Value},CRs w S xs vs []→ARs w S m κ (xs.map .c) vs
 | [],vs,h=>by
  simp only[CRs]at h
  exact h.1
 |x::xs,vs,h=>by
  simp only[CRs]at h
  obtain⟨v,vs',b1,b2,rfl,h0,h1,h2⟩:=h
  have h3:b1=[]∧b2=[]:=by simpa using h0.symm
  obtain⟨rfl,rfl⟩:=h3
  exact⟨v,vs',rfl,h1,Po h2⟩
theorem V.av_eq (t:V):t.av=.agg (t.cs.map .c):=by rw[V.cs_eq];rfl
theorem a1u {w:World}{S:Nat→Prop}{m:Mem}{κ:Id→Value}{t:V}{vs:List Value}(h:Cv w S t vs):AR w S m κ t.av (.agg vs.toArray):=by
 rw[V.av_eq]
 refine⟨vs,rfl,Po (So h),?_⟩
 intro u hu
 cases t
 simp only[Cv]at h
 obtain⟨Ak,ck,Av,cv,kvs,rfl,_⟩:=h
 simp only[List.mem_cons,List.not_mem_nil,or_false]at hu
 rcases hu with rfl | rfl | rfl | rfl | rfl<;>rfl
theorem AC.of_calls {P:Program}{f:FuncId}{args:List AV}{res:AV}
  (h:∀(S:Nat→Prop) (w:World) (κ:Id→Value) (vals:List Value),ARs w S [] κ args vals→Calls P f vals.toArray w fun e w'=>Below w.heap.size w w'∧∃v,e=.returned v∧∀T:Nat→Prop,(∀b,S b→T b)→(∀b,w.heap.size≤b→T b)→AR w' T [] κ res v):AC P f args [] res []:=by
 intro Γ vals hE hA
 have how:∀b,Γ.ow b=none:=by
  intro b
  cases hb:Γ.ow b with
  |none=>rfl
  |some i=>obtain⟨_,o,h1,_⟩:=hE.own b i hb;simp[Mem.get]at h1
 refine (h _ _ _ _ hA).mono ?_
 rintro e w' ⟨hb,v,rfl,hv⟩
 refine⟨v,Γ.ow,Γ.κ,rfl,⟨hv _ (fun _ h=>h) (fun b hb=>⟨how b,.inr (.inl hb)⟩),fun i o h=>(by simp[Mem.get]at h),fun b i h=>(by rw[how b]at h;cases h),hb.os,hb.tape,hb.output,hb.size,fun b hl _=>⟨hb.block b hl,how b⟩,fun i o o' h=>(by simp[Mem.get]at h)⟩⟩
def noV:AV:=.agg [.c (.int .i64 0),.c (.int .i64 0),.c (.str ByteArray.empty),.nils,.nils]
theorem DV:noV=.agg [.c (.int .i64 0),.c (.int .i64 0),.c (.str ByteArray.empty),.nils,.nils]:=rfl
theorem a3w {w:World}{S:Nat→Prop}{m:Mem}{κ:Id→Value}:AR w S m κ noV (.agg BV) :=
 ⟨[.int .i64 0,.int .i64 0,.string ByteArray.empty,.slice none 0 0,.slice none 0 0],rfl,⟨_,_,rfl,⟨rfl,rfl⟩,_,_,rfl,⟨rfl,rfl⟩,_,_,rfl,⟨rfl,rfl⟩,_,_,rfl,rfl,_,_,rfl,rfl,rfl⟩,by
  intro u hu
  simp only[List.mem_cons,List.not_mem_nil,or_false]at hu
  rcases hu with rfl | rfl | rfl | rfl | rfl<;>rfl⟩
theorem Qr (xs:List CellD) (hz:EG xs) (hd:(dec xs).2=none):AC Tryz.prog 145 [AF xs] [] (.tup [noV,.c (.int .i64 (dec xs).1)]) []:=by
 refine AC.of_calls fun S w κ vs hv=>?_
 obtain⟨v,vs',rfl,h1,rfl⟩:=hv
 obtain⟨A,cap,rfl,_,hc⟩:=CX.1 h1
 refine (Qq xs hz A cap S w hc).mono ?_
 rintro e w' ⟨hb,he⟩
 rw[hd]at he
 subst he
 exact⟨hb,_,rfl,fun T _ _=>⟨[_,_],rfl,_,_,rfl,a3w,_,_,rfl,⟨rfl,rfl⟩,rfl⟩⟩
theorem Lw (xs:List CellD) (hz:EG xs) {t:V}(hd:(dec xs).2=some t):AC Tryz.prog 145 [AF xs] [] (.tup [t.av,.c (.int .i64 0)]) []:=by
 refine AC.of_calls fun S w κ vs hv=>?_
 obtain⟨v,vs',rfl,h1,rfl⟩:=hv
 obtain⟨A,cap,rfl,_,hc⟩:=CX.1 h1
 refine (Qq xs hz A cap S w hc).mono ?_
 rintro e w' ⟨hb,he⟩
 rw[hd]at he
 obtain⟨vs,rfl,hr⟩:=he
 exact⟨hb,_,rfl,fun T _ hT=>⟨[_,_],rfl,_,_,rfl,a1u (hr.weaken fun b hb _=>hT b hb),_,_,rfl,⟨rfl,rfl⟩,rfl⟩⟩
end
section
open Go.RowKit
def a0q (p:List V×V):List C:=[.osl ((AY p.1).enc.map CellD.cs)]
theorem Xk (l:List (List V×V)):((l.map a0q).all fun r=>r.length==1)=true:=by simp[a0q]
attribute [go_sem] Xk
set_option maxRecDepth 10000
theorem Xp (l:List V):(AY l).count=Aw l+1:=rfl
def As (n:Int):List C:=[.int .i64 n]
def Al (xs:List CellD):List C:=[.sl (xs.map CellD.cs)]
theorem ZA (l:List Int):((l.map As).all fun r=>r.length==1)=true:=by simp[As]
theorem GY (l:List (List CellD)):((l.map Al).all fun r=>r.length==1)=true:=by simp[Al]
theorem a4i (n:Int):Cn (As n)=As n:=rfl
theorem a4h (xs:List CellD):Cn (Al xs)=Al xs:=rfl
theorem SK (l:List Int):AT (l.map As)=l.map As:=CM _ a4i l
theorem SJ (l:List (List CellD)):AT (l.map Al)=l.map Al:=CM _ a4h l
attribute [go_sem] ZA GY SK SJ As Al
theorem IL (xs:List CellD):AC Tryz.prog 47 [AF xs] [] (.c (.int .i64 (dec xs).1)) []:=by
 refine AC.of_calls fun S w κ vs hv=>?_
 obtain⟨v,vs',rfl,h1,rfl⟩:=hv
 obtain⟨A,cap,rfl,_,hc⟩:=CX.1 h1
 refine (P8 xs A cap S w hc).mono ?_
 rintro e w' ⟨rfl,hb⟩
 exact⟨hb,_,rfl,fun T _ _=>⟨rfl,rfl⟩⟩
theorem q6 {t:V}(hw:t.wf) (hc:t.count≤200) {i:Nat}(hi:i<t.kids.length):AC Tryz.prog 391 [AF t.enc,.c (.int .i64 ((kp t.kids i:Nat):Int))] [] (.c (.int .i64 ((kp t.kids (i+1):Nat):Int))) []:=by
 refine AC.of_calls fun S w κ vs hv=>?_
 obtain⟨v,vs',rfl,h1,v2,vs2,rfl,h2,rfl⟩:=hv
 obtain⟨rfl,_⟩:=h2
 obtain⟨A,cap,rfl,_,hcs⟩:=CX.1 h1
 have:=JM t i
 have hlen:=CY t
 have:=LM t.enc (by omega) (ZU hw) (kp t.kids i:Nat) (by omega) (by omega) A cap S w hcs
 rw[Int.toNat_natCast,QU hw hi (by omega)]at this
 refine this.mono ?_
 rintro e w' ⟨rfl,hb⟩
 exact⟨hb,_,rfl,fun T _ _=>⟨rfl,rfl⟩⟩
theorem WC {α:Type}{w:World}{S:Nat→Prop}{f:α→List C}:∀{l:List α}{rows:List (List Value)},rows.length=l.length→(∀i (h:i<l.length) row,rows[i]? = some row→CRs w S (f l[i]) row [])→An w S (l.map f) rows []
 | [],rows,hl,_=>by
  have:rows=[]:=List.eq_nil_of_length_eq_zero (by simpa using hl)
  subst this
  exact⟨rfl,rfl⟩
 |x::l,[],hl,_=>by simp at hl
 |x::l,r::rows,hl,h=>by
  simp only[List.map_cons,An]
  exact⟨r,rows,[],[],rfl,rfl,h 0 (by simp) r rfl,WC (by simpa using hl) fun i hi row hr=>by
   have:=h (i+1) (by simpa using hi) row (by simpa using hr)
   simpa using this⟩
theorem D6 {t:V}(hw:t.wf) (hc:t.count≤200):AC Tryz.prog 302 [AF t.enc] [] (.c (.sl ((t.kids.map V.enc).map Al))) []:=by
 refine AC.of_calls fun S w κ vs hv=>?_
 obtain⟨v,vs',rfl,h1,rfl⟩:=hv
 obtain⟨A,cap,rfl,hcap,hcs⟩:=CX.1 h1
 refine (Tc t hw hc A cap hcap S w hcs).mono ?_
 rintro e w' ⟨⟨A',c',rfl,hcap',hr⟩,hb⟩
 refine⟨hb,_,rfl,fun T _ hT=>?_⟩
 obtain⟨rows,hl,hrow,hat⟩:=hr
 simp only[AR,CR]
 refine⟨1,A',c',rows,by simp,by simpa using hcap',trivial,hrow.weaken fun b hb _=>hT b hb,WC hl fun i hi row hri=>?_,trivial⟩
 obtain⟨Ai,ci,rfl,h3,h4⟩:=hat i hi row hri
 exact⟨_,_,[],[],rfl,rfl,CX.2 ⟨Ai,ci,rfl,h3,h4.weaken fun b hb _=>hT b hb⟩,rfl,rfl⟩
set_option maxRecDepth 10000
theorem C7 (n:Int):AC Tryz.prog 244 [.c (.int .i64 n)] [] (.c (.sl ((C6 n).enc.map CellD.cs))) []:=by
 have he:(C6 n).enc.map CellD.cs=[[.int .i64 3,.int .i64 n,.str ByteArray.empty,.str ByteArray.empty,.int .i64 0]]:=rfl
 rw[he]
 refine A6 Tryz.func244 Tryz.ntmps244 q9 ?_
 exact Aa (A9 [] [(5,0)]) Tryz.results244 he
theorem IP (s:ByteArray):AC Tryz.prog 245 [.c (.str s)] [] (.c (.sl ((D9 s).enc.map CellD.cs))) []:=by
 have he:(D9 s).enc.map CellD.cs=[[.int .i64 4,.int .i64 0,.str s,.str ByteArray.empty,.int .i64 0]]:=rfl
 rw[he]
 refine A6 Tryz.func245 Tryz.ntmps245 q9 ?_
 exact Aa (A9 [] [(5,0)]) Tryz.results245 he
theorem GR {t:V}(hw:t.wf) (hc:t.count≤200):AC Tryz.prog 352 [AF t.enc,.c (.int .i64 0)] [] (.c (.sl ((Cz t t.kids.length).map As))) []:=by
 have hw0:IntKind.i64.wrap (0+1)=1:=rfl
 have hk0:((kp t.kids 0:Nat):Int)=1:=by simp[kp,Aw]
 have hkl:=BH hc
 have hr0:A8 (t.enc.map CellD.cs) 5 0=true:=by unfold A8;rw[show (0:Int).toNat=0 from rfl,AL];rfl
 have hg0:=AL t
 refine A6 Tryz.func352 Tryz.ntmps352 hw0 ?_
 refine Ar (κ:=Nat) (fun k=>⟨mkS 0 28 [(0,AF t.enc),(1,.c (.int .i64 0)),(5,.own (5,0)),(6,.c (.int .i64 ((kp t.kids k:Nat):Int))),(7,.c (.int .i64 k))],
   [((5,0),.row false 1 2 ((Cz t k).map As))]⟩)
  (fun k=>k≤t.kids.length) (fun k=>t.kids.length-k) 0 (Nat.zero_le _) ?_ ?_
 ·(apply (Aj.of [((5,0),(8,0))] []);(iterate 2 ((focus (simp only[go_sem,Nat.reduceEqDiff,Nat.reduceAdd,Nat.reduceSub,Nat.reduceLeDiff,Nat.reduceMul,Nat.reduceBEq,Nat.reduceLT,Int.reduceToNat,reduceCtorEq,hk0,Cz];try (and_intros<;>rfl)));(focus exact rfl)));(iterate 4 (focus (simp[go_sem,hk0,Cz];done))))
 ·intro k hk
  by_cases hlt:k<t.kids.length
  ·have hd:decide ((k:Int)<(t.kids.length:Int))=true:=by simpa using hlt
   have hw1:=Ad (k:=k) (by omega)
   have h1:(Cz t k).length+1≤1000000:=by rw[E7];omega
   have he:=q6 hw hc hlt
   have hn:(Cz t k).map As++[[.int .i64 ((kp t.kids k:Nat):Int)]]=(Cz t (k+1)).map As:=by rw[NS,List.map_append];rfl
   refine Ab (j4 hr0 hg0 hd h1) ?_
   refine v7 (A3 [] he) q9 hw1 ?_
   refine⟨k+1,by omega,by omega,?_⟩
   exact Ac (Aj.of [((5,0),(23,0))] []) hn
  ·have hd:decide ((k:Int)<(t.kids.length:Int))=false:=by simpa using hlt
   have hke:k=t.kids.length:=by omega
   refine Ab (j3 hr0 hg0 hd) ?_
   subst hke
   exact Aa (A9 [] [(5,0)]) Tryz.results352 hd
def BK (t:V) (k:Nat):List ByteArray:=(List.range k).map t.keyAt
theorem Mp (t:V) (k:Nat):BK t (k+1)=BK t k++[t.keyAt k]:=by simp[BK,List.range_succ]
theorem I2 (t:V) (k:Nat):(BK t k).length=k:=by simp[BK]
theorem Ny (t:V) {k:Nat}(h:k<t.kids.length):(t.enc.map CellD.cs)[kp t.kids k]? = some [.int .i64 t.kids[k].kind,.int .i64 t.kids[k].num,.str t.kids[k].text,.str (t.keyAt k),.int .i64 t.kids[k].kids.length]:=by
 have h1:=QT t h
 have h2:t.enc[kp t.kids k]? = some ⟨t.kids[k].kind,t.kids[k].num,t.kids[k].text,t.keyAt k,t.kids[k].kids.length⟩:=by
  have h3:(t.enc.drop (kp t.kids k))[0]? = t.enc[kp t.kids k]?:=by rw[List.getElem?_drop];rfl
  rw[←h3,h1,Dk]
  rfl
 rw[List.getElem?_map,h2]
 rfl
set_option maxRecDepth 10000
theorem FW {t:V}(hw:t.wf) (hc:t.count≤200):AC Tryz.prog 349 [AF t.enc] [] (.c (.sl ((BK t t.kids.length).map Ae))) []:=by
 have hkl:=BH hc
 have hkn:=E7 t t.kids.length
 have hch:=GR hw hc
 refine A6 Tryz.func349 Tryz.ntmps349 q9 ?_
 refine v9 (A4 [] hch) q9 q9 ?_
 refine Ar (κ:=Nat) (fun k=>⟨mkS 0 27 [(0,AF t.enc),(3,.own (3,0)),(4,.c (.sl ((Cz t t.kids.length).map As))),(5,.c (.int .i64 k))],
   [((3,0),.row false 1 9 ((BK t k).map Ae))]⟩)
  (fun k=>k≤t.kids.length) (fun k=>t.kids.length-k) 0 (Nat.zero_le _) ?_ ?_
 ·(apply (Aj.of [((3,0),(6,0))] []);(iterate 2 ((focus (simp only[go_sem,Nat.reduceEqDiff,Nat.reduceAdd,Nat.reduceSub,Nat.reduceLeDiff,Nat.reduceMul,Nat.reduceBEq,Nat.reduceLT,Int.reduceToNat,reduceCtorEq,BK];try (and_intros<;>rfl)));(focus exact rfl)));(iterate 4 (focus (simp[go_sem,BK];done))))
 ·intro k hk
  by_cases hlt:k<t.kids.length
  ·have hd:decide ((k:Int)<(t.kids.length:Int))=true:=by simpa using hlt
   have hw1:=Ad (k:=k) (by omega)
   have h1:(BK t k).length+1≤1000000:=by rw[I2];omega
   have hr1:A8 ((Cz t t.kids.length).map As) 1 k=true:=by simp[A8,Cz,hlt,As]
   have hg1:((Cz t t.kids.length).map As)[k]? = some [.int .i64 ((kp t.kids k:Nat):Int)]:=by simp[Cz,hlt,As]
   have hg2:=Ny t hlt
   have hr2:A8 (t.enc.map CellD.cs) 5 ((kp t.kids k:Nat):Int)=true:=by unfold A8;rw[Int.toNat_natCast,hg2];simp
   have hn:(BK t k).map Ae++[[.str (t.keyAt k)]]=(BK t (k+1)).map Ae:=by rw[Mp,List.map_append];rfl
   refine Ab (j8 hd hkn hr1 hg1 hr2 hg2 h1 hw1) ?_
   refine⟨k+1,by omega,by omega,?_⟩
   exact Ac (Aj.of [((3,0),(25,0))] []) hn
  ·have hd:decide ((k:Int)<(t.kids.length:Int))=false:=by simpa using hlt
   have hke:k=t.kids.length:=by omega
   refine Ab (j2 hkn hd) ?_
   subst hke
   exact Aa (A9 [] [(3,0)]) Tryz.results349 hd
theorem NU (ps:List V) (hc:(AY ps).count≤500000):AC Tryz.prog 247 [.c (.sl ((ps.map V.enc).map Al))] [] (.own (0,0)) [((0,0),.row false 5 80 ((AY ps).enc.map CellD.cs))]:=by
 have hcl:=Bq ps
 have hcc:=Xp ps
 obtain⟨R,hR⟩:∃R:Nat→List CellD,∀k,R k=(AY ps).enc.take (kp (AY ps).kids k):=⟨_,fun _=>rfl⟩
 have h0:(R 0).map CellD.cs=[[.int .i64 5,.int .i64 0,.str ByteArray.empty,.str ByteArray.empty,.int .i64 ps.length]]:=by
  rw[hR,HX];rfl
 refine A6 Tryz.func247 Tryz.ntmps247 q9 ?_
 refine Ar (κ:=Nat) (fun k=>⟨mkS 0 22 [(0,.c (.sl ((ps.map V.enc).map Al))),(3,.own (3,0)),(4,.c (.int .i64 k))],
   [((3,0),.row false 5 80 ((R k).map CellD.cs))]⟩)
  (fun k=>k≤ps.length) (fun k=>ps.length-k) 0 (Nat.zero_le _) ?_ ?_
 ·exact Ac (Aj.of [((3,0),(8,0))] []) h0
 ·intro k hk
  by_cases hlt:k<ps.length
  ·have hd:decide ((k:Int)<(ps.length:Int))=true:=by simpa using hlt
   have hw1:=Ad (k:=k) (by omega)
   have hr1:A8 ((ps.map V.enc).map Al) 1 k=true:=by simp[A8,hlt,Al]
   have hg1:((ps.map V.enc).map Al)[k]? = some [.sl (ps[k].enc.map CellD.cs)]:=by simp[hlt,Al]
   have hts:=GP (AY ps) (i:=k) hlt
   have h56:(AY ps).kind≠6:=show (5:Int)≠6 by decide
   rw[NQ h56,←hR,←hR]at hts
   have htl:=HW (AY ps) k
   have hkl:=JM (AY ps) k
   have hm:=CL (List.getElem_mem hlt)
   have hel:=CY ps[k]
   have h1:(R k).length+ps[k].enc.length≤1000000:=by rw[hR,htl,hel];omega
   have hn:(R k).map CellD.cs++ps[k].enc.map CellD.cs=(R (k+1)).map CellD.cs:=by
    rw[hts,List.map_append];rfl
   generalize ps[k]=u at *
   refine Ab (j5 hd hr1 hg1 h1 hw1) ?_
   refine⟨k+1,by omega,by omega,?_⟩
   exact Ac (Aj.of [((3,0),(20,0))] []) hn
  ·have hd:decide ((k:Int)<(ps.length:Int))=false:=by simpa using hlt
   have hke:k=ps.length:=by omega
   have hall:R k=(V.mk 5 0 ByteArray.empty [] ps).enc:=by rw[hR,hke];exact HS (AY ps)
   refine Ab hd ?_
   exact Aa (A9 [((0,0),(3,0))] []) Tryz.results247 hall
def keep (b:Bool) (p:List V×V):Bool:=!b||p.2.kids.isEmpty
def Qb (p:List V):List C:=[.sl ((p.map V.enc).map Al)]
theorem ZB (l:List (List V)):((l.map Qb).all fun r=>r.length==1)=true:=by simp[Qb]
theorem a4j (p:List V):Cn (Qb p)=Qb p:=rfl
theorem SL (l:List (List V)):AT (l.map Qb)=l.map Qb:=CM _ a4j l
attribute [go_sem] ZB SL
set_option maxRecDepth 10000
theorem Wl (k m:Int) (t y:ByteArray) (n:Int) (w:World) :
  Calls Tryz.prog 81 #[.agg #[.int .i64 k,.int .i64 m,.string t,.string y,.int .i64 n]] w fun e w'=>e=.returned (.agg #[.int .i64 k,.int .i64 m,.string t,.string y,.int .i64 n])∧Below w.heap.size w w':=by
 go_enter Tryz.func81,Tryz.ntmps81
 go_wp2
 refine bodyPost_ret (v:=.agg #[.int .i64 k,.int .i64 m,.string t,.string y,.int .i64 n]) (by simp[results,Tryz.results81,go_sem]) rfl ⟨rfl,?_⟩
 exact (((Below.refl _ _).alloc (Nat.le_refl _) _).alloc (by simp) _).alloc (by simp;omega) _
theorem SE (k m:Int) (t y:ByteArray) (n:Int) (w:World) :
  Calls Tryz.prog 86 #[.agg #[.int .i64 k,.int .i64 m,.string t,.string y,.int .i64 n],.agg #[.int .i64 k,.int .i64 m,.string t,.string y,.int .i64 n]] w fun e w'=>e=.returned (.bool true)∧Below w.heap.size w w':=by
 go_enter Tryz.func86,Tryz.ntmps86
 go_wp2
 go_ret
 exact⟨rfl,((Below.refl _ _).alloc (Nat.le_refl _) _).alloc (by simp) _⟩
def K1:List CellD→Nat
 | []=>0
 |c::l=>c.text.size+c.key.size+K1 l
theorem Xr (a:List CellD) (c:CellD):K1 (a++[c])=K1 a+(c.text.size+c.key.size):=by
 induction a with
 |nil=>simp[K1]
 |cons x a ih=>simp[K1,ih];omega
def J2 (xs:List CellD):Prop:=∀c∈xs,c.text.size≤9223372036854775807∧c.key.size≤9223372036854775807
set_option maxRecDepth 100000 in
theorem QV (xs:List CellD) (hl:xs.length≤9223372036854775807) (A B:Option Addr) (ca cb:Nat) (S T:Nat→Prop) (w:World) (ha:Be w S A xs) (hb:Be w T B xs) :
  Calls Tryz.prog 34 #[.slice A xs.length ca,.slice B xs.length cb] w fun e w'=>e=.returned (.bool true)∧Below w.heap.size w w':=by
 have HA:=Lib.hid ha
 have HB:=Lib.hid hb
 clear ha hb
 go_enter Tryz.func34,Tryz.ntmps34
 go_wp2
 go_loopw [5] (fun ki wr=>∃(k:Nat),ki=.int .i64 k∧k≤xs.length∧Below w.heap.size w wr) (fun ki _=>xs.length-(intOf ki).toNat)
 case atStart=>exact⟨0,rfl,Nat.zero_le _,Below.refl _ _⟩
 case round =>
  obtain⟨k,rfl,hk,hbw⟩:=hrel
  have Hb:=Lib.hid hbw
  clear hbw
  by_cases hlt:k<xs.length
  ·obtain⟨b,off,rfl,_,hbl,c0,c1,c2,c3,c4⟩:=(HA.out.below Hb.out).at_ hlt
   obtain⟨b',off',rfl,_,hbl',d0,d1,d2,d3,d4⟩:=(HB.out.below Hb.out).at_ hlt
   have HE:=Lib.hid (SE xs[k].kind xs[k].num xs[k].text xs[k].key xs[k].n)
   have hi0:(0:Int)≤(k:Int):=by omega
   have hi1:(k:Int)<(xs.length:Int):=by omega
   go_wp2
   go_region_with (go_at_call 86;refine (HE.out _).mono ?_;rintro e w1 ⟨rfl,hb1⟩)
   all_goals
    go_wp2
    go_roundw
    case rel=>exact⟨k+1,by go_num,by omega,(Hb.out.drew).trans (hb1.mono (by simpa using Hb.out.size))⟩
    case measure=>simp[intOf];omega
  ·go_wp2
   go_ret
   exact⟨rfl,Hb.out⟩
def a3k:List Value:=[.int .i64 0,.int .i64 0,.string ⟨#[]⟩,.string ⟨#[]⟩,.int .i64 0]
def DS (xs:List CellD) (k:Nat):List (List Value):=(xs.take k).map vals++List.replicate (xs.length-k) a3k
theorem QY (xs:List CellD) {k:Nat}(h:k≤xs.length):(DS xs k).length=xs.length:=by simp[DS];omega
theorem OT (xs:List CellD) (k:Nat):∀x∈DS xs k,x.length=5:=by
 intro x hx
 simp only[DS,List.mem_append,List.mem_map,List.mem_replicate]at hx
 rcases hx with⟨c,_,rfl⟩ | ⟨_,rfl⟩<;>rfl
theorem QZ (xs:List CellD) {k:Nat}(h:k<xs.length):(DS xs k).set k (vals xs[k])=DS xs (k+1):=by
 unfold DS
 rw[List.set_append_right _ _ (by simp;omega),Ju h]
 simp only[List.length_map,List.length_take,List.map_append,List.map_cons,List.map_nil,List.append_assoc]
 rw[show k-min k xs.length=0 from by omega,show xs.length-k=(xs.length-(k+1))+1 from by omega,List.replicate_succ]
 rfl
set_option maxRecDepth 100000 in
theorem U6 (xs:List CellD) (hl:xs.length≤1048576) (A:Option Addr) (cap:Nat) (S:Nat→Prop) (w:World) (hcs:Be w S A xs) :
  Calls Tryz.prog 30 #[.slice A xs.length cap] w fun e w'=>(∃g,e=.returned (.slice (some ⟨g,0,none⟩) xs.length xs.length)∧B3 RC 5 80 w' (fun b=>w.heap.size≤b) w.heap.size (.slice (some ⟨g,0,none⟩) xs.length xs.length) xs)∧Below w.heap.size w w':=by
 have HC:=Lib.hid hcs
 clear hcs
 obtain⟨i0,hi,hz0,hz1,hz2⟩:=info_parts PL
 have hby:i0.bytes*xs.length≤281474976710656:=by rw[hz2];omega
 go_enter Tryz.func30,Tryz.ntmps30
 go_wp2_with (at_make;refine wpList_make_full _ rfl _ _ 50 rfl w.heap.size 80 i0 _ 5 Tryz.underlying50 hi hz0 hz1 .i64 .i64 _ _ xs.length rfl rfl rfl rfl hby (by simp only[maxLen];omega) (Nat.le_refl _) ?_;intro w1 hown1 hg1;have Ho1:=Lib.hid hown1;have Hg1:=Lib.hid hg1;clear hown1 hg1)
 go_loopw [4] (fun ki wr=>∃k:Nat,ki=.int .i64 k∧k≤xs.length∧wr.ownsRow w.heap.size 80 5 (.slice (some ⟨w.heap.size,0,none⟩) xs.length xs.length) xs.length (DS xs k).flatten∧Below w.heap.size w wr∧w.heap.size<wr.heap.size) (fun ki _=>xs.length-(intOf ki).toNat)
 case atStart =>
  refine⟨0,rfl,Nat.zero_le _,?_,(Below.refl _ _).grown Hg1.out (Nat.le_refl _) (by simp),?_⟩
  ·have h1:=Ho1.out
   have h2:=FN a3k (by decide) xs.length
   simp only[Value.cells]at h1
   rw[show (5:Nat)=a3k.length from rfl]at h1
   have h3:DS xs 0=List.replicate xs.length a3k:=by simp[DS]
   rw[h3,←h2]
   exact h1
  ·have:=Ho1.out.2
   rcases this with⟨h,_⟩ | ⟨g,cap',cur,h,_,hh,_⟩
   ·simp at h
   ·simp only[Value.slice.injEq,Option.some.injEq,Addr.mk.injEq,and_true]at h
    obtain⟨rfl,_⟩:=h
    exact (Array.getElem?_eq_some_iff.1 hh).1
 case round =>
  obtain⟨k,rfl,hk,hown,hb,hsz⟩:=hrel
  have Hb:=Lib.hid hb
  have Ho:=Lib.hid hown
  clear hb hown
  by_cases hlt:k<xs.length
  ·obtain⟨b,off,rfl,_,hbl,c0,c1,c2,c3,c4⟩:=(HC.out.below Hb.out).at_ hlt
   have HT:=Lib.hid (Wl xs[k].kind xs[k].num xs[k].text xs[k].key xs[k].n)
   have hi0':(0:Int)≤(k:Int):=by omega
   have hi1':(k:Int)<(xs.length:Int):=by omega
   go_wp2_with (go_at_call 81;refine (HT.out _).mono ?_;rintro e w2 ⟨rfl,hb2⟩;have ho2:=Fl Ho.out hb2;obtain⟨⟨v0,v1,v2,v3,v4,d0,d1,d2,d3,d4⟩,dq,ho3⟩:=VO (OT xs k) (QY xs hk) ho2 hlt (.int .i64 xs[k].kind) (.int .i64 xs[k].num) (.string xs[k].text) (.string xs[k].key) (.int .i64 xs[k].n);have Ho3:=Lib.hid ho3;have hz2:=hb2.size;have Hb2:=Lib.hid hb2;clear ho2 ho3 hb2)
   all_goals go_roundw
   case rel =>
    have h3:=Ho3.out
    rw[show [Value.int .i64 xs[k].kind,.int .i64 xs[k].num,.string xs[k].text,.string xs[k].key,.int .i64 xs[k].n]=vals xs[k] from rfl,QZ xs hlt]at h3
    exact⟨k+1,by go_num,by omega,h3,(((((Hb.out.trans (Hb2.out.mono Hb.out.size)).setCell (Nat.le_refl _) _).setCell (Nat.le_refl _) _).setCell (Nat.le_refl _) _).setCell (Nat.le_refl _) _).setCell (Nat.le_refl _) _,by simp[World.setCell];omega⟩
   case measure=>simp[intOf];omega
  ·go_wp2
   go_ret
   refine⟨⟨w.heap.size,rfl,(xs.map vals),by simp,by simp[vals],?_,fun i hi row hr=>by simp[hi]at hr;exact hr.symm⟩,Hb.out⟩
   have h3:=Ho.out
   have he:k=xs.length:=by omega
   rw[he]at h3
   simpa [DS] using h3
def Ll (k:Nat):List UInt8:=if _h:k=0 then [] else Ll (k / 10)++[UInt8.ofNat (48+k % 10)]
termination_by k
decreasing_by omega
theorem Yy {k:Nat}(h:0<k):Ll k=Ll (k / 10)++[UInt8.ofNat (48+k % 10)]:=by
 rw[Ll,dif_neg (by omega)]
theorem Vu:Ll 0=[]:=by rw[Ll];rfl
def O2 (k:Nat):ByteArray:=if k=0 then ⟨#[109,48]⟩ else ⟨(109::Ll k).toArray⟩
set_option maxRecDepth 100000 in
theorem Lj (K:Nat) (hK:K≤4000000000) (w:World) :
  Calls Tryz.prog 87 #[.int .i64 K] w fun e w'=>e=.returned (.string (O2 K))∧Below w.heap.size w w':=by
 go_enter Tryz.func87,Tryz.ntmps87
 by_cases h0:K=0
 ·subst h0
  go_wp2
  go_ret
  exact⟨rfl,Below.refl _ _⟩
 ·have h1:decide ((K:Int)≤0)=false:=by simp;omega
  go_wp2
  go_loopw [0,3] (fun kv ov wr=>∃(k:Nat) (out:ByteArray),kv=.int .i64 k∧ov=.string out∧Ll K=Ll k++out.data.toList∧out.size+k≤K∧Below w.heap.size w wr) (fun kv _ _=>(intOf kv).toNat)
  case atStart=>exact⟨K,⟨#[]⟩,rfl,rfl,by simp,by simp[ByteArray.size],Below.refl _ _⟩
  case round =>
   obtain⟨k,out,rfl,rfl,hd,hs,hb⟩:=hrel
   have Hd:=Lib.hid hd
   have Hb:=Lib.hid hb
   clear hd hb
   by_cases hk:0<k
   ·have hk1:decide (0<k)=true:=by simp;omega
    have hlt:k % 10<10:=Nat.mod_lt _ (by omega)
    have hconv:∀x:Int,(convert 64 9 (.slice (some ⟨wr.heap.size,0,none⟩) 1 1)).run Tryz.prog (wr.alloc (.cells #[.int .u8 x] 5))=.ok (.string (strOfNums [x])) (wr.alloc (.cells #[.int .u8 x] 5)):=fun x =>
     run_convert_bytes_arg (P:=Tryz.prog) _ 64 5 Tryz.underlying64 Tryz.underlying5 wr.heap.size 0 1 1 [x] rfl (fun i hi=>by
      have:i=0:=by omega
      subst this
      exact World.cell?_alloc_at _ _ _ _ rfl) 9 Tryz.underlying9
    have hss:∀x:Int,(strOfNums [x]).size=1:=fun x=>strOfNums_size _
    go_wp2
    all_goals go_roundw
    case rel =>
     refine⟨k / 10,_,by simp,rfl,?_,?_,Hb.out.alloc Hb.out.size _⟩
     ·rw[Hd.out,Yy hk,ByteArray.data_append,Array.toList_append,strOfNums_data]
      have:(48+(k:Int) % 10).toNat=48+k % 10:=by omega
      simp[this]
     ·rw[ByteArray.size_append,hss]
      omega
    case measure=>simp[intOf];omega
   ·have hk1:decide (0<k)=false:=by simp;omega
    go_wp2
    go_ret
    refine⟨?_,Hb.out⟩
    have hk0:k=0:=by omega
    have h2:=Hd.out
    rw[hk0,Vu,List.nil_append]at h2
    have:O2 K={ data:=#[109] }++out:=by
     unfold O2
     rw[if_neg h0,h2]
     apply ByteArray.ext
     rw[ByteArray.data_append]
     simp
    rw[this]
    rfl
def JN (k:Nat):CellD:=⟨(k:Nat),((k+1:Nat):Int),O2 (k+2),O2 (k+3),((k+4:Nat):Int)⟩
def Eg (K n:Nat):List CellD:=(List.range n).map fun i=>JN (K+5*i)
theorem F6 (K n:Nat):(Eg K n).length=n:=by simp[Eg]
theorem Yn (K n i:Nat) (h:i<(Eg K n).length):(Eg K n)[i]=JN (K+5*i):=by simp[Eg]
theorem Lk (x:Int) (m:Nat) (hx:x=(m:Int)) (hm:m≤4000000000) (w:World) :
  Calls Tryz.prog 87 #[.int .i64 x] w fun e w'=>e=.returned (.string (O2 m))∧Below w.heap.size w w':=by
 subst hx
 exact Lj m hm w
set_option maxRecDepth 100000 in
theorem OX (n cap K:Nat) (A:Option Addr) (hK:K+5*n≤3000000000) (S:Nat→Prop) (w:World) (hcs:Be w S A (Eg K n)) :
  Calls Tryz.prog 92 #[.slice A n cap,.int .i64 K] w fun e w'=>e=.returned (.int .i64 (K+5*n:Nat))∧Below w.heap.size w w':=by
 have HC:=Lib.hid hcs
 clear hcs
 go_enter Tryz.func92,Tryz.ntmps92
 go_wp2
 go_loopw [1,5] (fun kv iv wr=>∃i M:Nat,iv=.int .i64 i∧i≤n∧kv=.int .i64 M∧M=K+5*i∧Below w.heap.size w wr) (fun _ iv _=>n-(intOf iv).toNat)
 case atStart=>exact⟨0,K,rfl,Nat.zero_le _,rfl,by omega,Below.refl _ _⟩
 case round =>
  obtain⟨i,M,rfl,hi,rfl,hM,hb⟩:=hrel
  have Hb:=Lib.hid hb
  have hMb:M≤3000000000:=by omega
  have HM:=Lib.hid hM
  clear hb hM
  by_cases hlt:i<n
  ·have hl2:i<(Eg K n).length:=by rw[F6];exact hlt
   have hmk:(Eg K n)[i]=JN M:=by rw[Yn,←HM.out]
   have Hcr:=Lib.hid (HC.out.below Hb.out)
   obtain⟨b,off,rfl,_,hbl,c0,c1,c2,c3,c4⟩:=Hcr.out.at_ hl2
   rw[hmk]at c0 c1 c2 c3 c4
   simp only[JN]at c0 c1 c2 c3 c4
   rw[show ((M+1:Nat):Int)=(M:Int)+1 from by omega]at c1
   rw[show ((M+4:Nat):Int)=(M:Int)+1+1+1+1 from by omega]at c4
   have hi0:(0:Int)≤(i:Int):=by omega
   have hi1:(i:Int)<(n:Int):=by omega
   have Hmk:=Lib.hid hmk
   clear hmk
   go_wp2_with fail
   go_region_with (go_at_call 87;refine (Lk _ (M+2) (by omega) (by omega) _).mono ?_;rintro e w3 ⟨rfl,hb3⟩;have hcc3:∀bb o,bb<wr.heap.size→w3.cell? ⟨bb,o,none⟩=wr.cell? ⟨bb,o,none⟩:=fun bb o h=>hb3.cell (p:=⟨bb,o,none⟩) h;have Hb3:Hid (Below wr.heap.size wr w3):=⟨hb3.os,hb3.tape,hb3.output,hb3.size,hb3.block⟩;have hsz3:wr.heap.size≤w3.heap.size:=hb3.size;clear hb3)
   all_goals
    go_wp2_with fail
    have hbl3:b<w3.heap.size:=by omega
    go_region_with (go_at_call 87;refine (Lk _ (M+3) (by omega) (by omega) _).mono ?_;rintro e w4 ⟨rfl,hb4⟩;have hcc4:∀bb o,bb<w3.heap.size→w4.cell? ⟨bb,o,none⟩=w3.cell? ⟨bb,o,none⟩:=fun bb o h=>hb4.cell (p:=⟨bb,o,none⟩) h;have Hb4:Hid (Below w3.heap.size w3 w4):=⟨hb4.os,hb4.tape,hb4.output,hb4.size,hb4.block⟩;have hsz4:w3.heap.size≤w4.heap.size:=hb4.size;clear hb4)
    all_goals
     go_wp2
     go_roundw
     case rel=>exact⟨i+1,M+5,by go_num,by omega,by go_num,by have:=HM.out;omega,(Hb.out.trans (Hb3.out.mono Hb.out.size)).trans (Hb4.out.mono (by have:=Hb.out.size;omega))⟩
     case measure=>simp[intOf];omega
  ·have hin:i=n:=by omega
   have Hin:=Lib.hid hin
   clear hin
   go_wp2
   go_ret
   exact⟨by rw[HM.out,Hin.out];rfl,Hb.out⟩
end
end Go.Proofs.YtcejfdfmgmcinaaGreat
