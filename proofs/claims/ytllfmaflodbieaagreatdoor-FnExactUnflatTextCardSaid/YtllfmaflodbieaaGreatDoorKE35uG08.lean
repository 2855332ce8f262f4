/- Texts of this proof: E35 G06 G07 G08. -/
import Derived.Laws.IdiomStrings
import Derived.Laws.Strings2
import Derived.Laws.Slices
import Derived.Test.YtllfmaflodbieaaGreatDoorKG04uG21
set_option linter.all false
set_option maxHeartbeats 8000000
namespace Go.Proofs.YtllfmaflodbieaaGreatDoor
section
open Go.RowKit
section
variable {P:Program} {o:Oper} {σ:ASt} {src dst e t:TypeId}
def AF (l:List UInt8):List (List C):=l.map fun b=>[.int .u8 (b.toNat:Int)]
theorem Ws {w:World}{S:Nat→Prop}{b:UInt8}{vr:List Value}{bs:List Nat}(h:CRs w S [.int .u8 (b.toNat:Int)] vr bs):vr=[.int .u8 (b.toNat:Int)]:=by
 simp only[CRs,CR]at h
 obtain⟨v,vs',b1,b2,rfl,_,⟨rfl,_⟩,rfl,_⟩:=h
 rfl
theorem Pp {x:Operand}{i:Id}(l:List UInt8) (hl:l≠[]) (ho:o.op=.convert src dst x) (hx:σ.ev x=.own i) (hs:P.underlying src=some (.slice e)) (he:P.underlying e=some (.int .u8)) (hd:P.underlying dst=some .string)
  (hi:σ.mem.get i=some (.row false 1 t (AF l))):Al P o σ ⟨[i],[],.c (.str ⟨l.toArray⟩)⟩:=by
 refine Al.pure fun Γ σ' a w ow κ hag hr=>?_
 have hi':σ'.mem.get i=some (.row false 1 t (AF l)):=by rw[hag.2.1 i (by simp),hi]
 obtain⟨_,o1,k1,k2⟩:=hag.ev hr (by rw[ho];simp[Op.operands]) hx
 rw[hi']at k1
 cases k1
 have e1:=k2 (by simp)
 obtain⟨vrows,bs,h1,h2,h3,h4,h5,h6⟩:=hr.objs i _ hi'
 have hlen:=Ag.length h1
 have hrl:(AF l).length=l.length:=by simp[AF]
 have hl0:0<l.length:=List.length_pos_iff.2 hl
 obtain⟨A,cap,hA,hc1,hc2,hrow⟩:=Row.of_owns h3 (n:=(AF l).length) (by omega) (.inl Nat.one_pos) h4 (T:=fun _=>True) (fun _ _=>trivial)
 obtain⟨b,off,rfl,_,_,hcl⟩:=hrow.2 (by omega)
 refine⟨.string ⟨l.toArray⟩,?_,⟨rfl,rfl⟩⟩
 have hc:∀j (hj:j<l.length),w.cell? ((⟨b,off,none⟩:Addr).add j)=some (.int .u8 (l[j].toNat:Int)):=by
  intro j hj
  obtain⟨vr,b',g1,g2,_⟩:=Ag.at_ h1 (i:=j) (row:=[.int .u8 (l[j].toNat:Int)]) (by simp[AF,hj])
  have g3:=Ws g2
  subst g3
  have:=hcl j _ g1 0 _ rfl
  by_cases hj0:j=0
  ·subst hj0
   simpa [Addr.add] using this
  ·simpa [Addr.add,hj0] using this
 have hrun:=run_convert_bytes_back w src dst e ⟨b,off,none⟩ cap l hs he hd hc
 unfold execOp
 rw[ho]
 rw[hrl]at hA
 simp[e1,hA,hrun]
theorem Xp {x lo hi:Operand}{s:ByteArray}{i j:Int}(ho:o.op=.slice t x (some lo) (some hi) none) (hx:σ.ev x=.c (.str s)) (hlo:σ.ev lo=.c (.int .i64 i)) (hhi:σ.ev hi=.c (.int .i64 j)) (ht:P.underlying t=some .string)
  (h0:0≤i) (h1:i≤j) (h2:j≤s.size):Al P o σ ⟨[],[],.c (.str (s.extract i.toNat j.toNat))⟩:=by
 refine Al.pure fun Γ σ' a w ow κ hag hr=>?_
 have e1:=AR.str (hag.ev hr (by rw[ho];simp[Op.operands]) hx)
 have e2:=(hag.ev hr (by rw[ho];simp[Op.operands]) hlo).1
 have e3:=(hag.ev hr (by rw[ho];simp[Op.operands]) hhi).1
 refine⟨.string (s.extract i.toNat j.toNat),?_,⟨rfl,rfl⟩⟩
 have hrun:=run_slice_string (P:=P) w t s .i64 .i64 i j ht h0 h1 h2
 unfold execOp
 rw[ho]
 simp[e1,e2,e3,hrun,run_sliceAt_string _ t _ _ _ _ ht]
end
section
variable {P:Program} {σ τ:ASt} {ops:Array Oper} {r:List Oper} {fs:List AEff} {K:ASt→List AEff→Prop} {E:AEff} {src dst e t:TypeId} {d:Option Tmp} {ty':TypeId} {pos:String} {af:Array Edge} {gd:Option (Nat×Bool)}
theorem Ot {x:Operand}{i:Id}{y:ByteArray}(l:List UInt8) (hy:(⟨l.toArray⟩:ByteArray)=y) (hl:l≠[]) (hs:P.underlying src=some (.slice e)) (he:P.underlying e=some (.int .u8)) (hd:P.underlying dst=some .string)
  (hg:Bi ops σ ⟨d,.convert src dst x,ty',pos,af,gd⟩=some true) (hn:eff P σ.ev σ.mem.get (σ.fresh ⟨d,.convert src dst x,ty',pos,af,gd⟩) ⟨d,.convert src dst x,ty',pos,af,gd⟩=none) (hx:σ.ev x=.own i) (hi:σ.mem.get i=some (.row false 1 t (AF l)))
  (hE:(⟨[i],[],.c (.str y)⟩:AEff)=E) (hτ:σ.upd d E=τ) (h:Ad P ops r τ (fs++[E]) K):Ad P ops (⟨d,.convert src dst x,ty',pos,af,gd⟩::r) σ fs K:=by
 subst hE hy
 exact C5 hg hn (Pp l hl rfl hx hs he hd hi).sound hτ h
theorem Dt {t:TypeId}{x lo hi:Operand}{s y:ByteArray}{i j:Int}(hy:s.extract i.toNat j.toNat=y) (h0:0≤i) (h1:i≤j) (h2:j≤s.size) (ht:P.underlying t=some .string)
  (hg:Bi ops σ ⟨d,.slice t x (some lo) (some hi) none,ty',pos,af,gd⟩=some true) (hn:eff P σ.ev σ.mem.get (σ.fresh ⟨d,.slice t x (some lo) (some hi) none,ty',pos,af,gd⟩) ⟨d,.slice t x (some lo) (some hi) none,ty',pos,af,gd⟩=none) (hx:σ.ev x=.c (.str s)) (hlo:σ.ev lo=.c (.int .i64 i)) (hhi:σ.ev hi=.c (.int .i64 j))
  (hE:(⟨[],[],.c (.str y)⟩:AEff)=E) (hτ:σ.upd d E=τ) (h:Ad P ops r τ (fs++[E]) K):Ad P ops (⟨d,.slice t x (some lo) (some hi) none,ty',pos,af,gd⟩::r) σ fs K:=by
 subst hE hy
 exact C5 hg hn (Xp rfl hx hlo hhi ht h0 h1 h2).sound hτ h
end
end
section
open Go.RowKit
def Ed (n:Int):List C:=[.int .i64 n]
def AD (xs:List CellD):List C:=[.sl (xs.map CellD.cs)]
theorem VW (l:List Int):((l.map Ed).all fun r=>r.length==1)=true:=by simp[Ed]
theorem IW (l:List (List CellD)):((l.map AD).all fun r=>r.length==1)=true:=by simp[AD]
theorem Y1 (n:Int):BV (Ed n)=Ed n:=rfl
theorem Y8 (xs:List CellD):BV (AD xs)=AD xs:=rfl
theorem Qb (l:List Int):B3 (l.map Ed)=l.map Ed:=D4 _ Y1 l
theorem PF (l:List (List CellD)):B3 (l.map AD)=l.map AD:=D4 _ Y8 l
attribute [go_sem] VW IW Qb PF Ed AD
theorem Wv (xs:List CellD):AC Tryz.prog 59 [Ce xs] [] (.c (.int .i64 (dec xs).1)) []:=by
 refine AC.of_calls fun S w κ vs hv=>?_
 obtain⟨v,vs',rfl,h1,rfl⟩:=hv
 obtain⟨A,cap,rfl,_,hc⟩:=Cv.1 h1
 refine (GV xs A cap S w hc).mono ?_
 rintro e w' ⟨rfl,hb⟩
 exact⟨hb,_,rfl,fun T _ _=>⟨rfl,rfl⟩⟩
theorem VI {t:V}(hw:t.wf) (hc:t.count≤200) {i:Nat}(hi:i<t.kids.length):AC Tryz.prog 214 [Ce t.enc,.c (.int .i64 ((kp t.kids i:Nat):Int))] [] (.c (.int .i64 ((kp t.kids (i+1):Nat):Int))) []:=by
 refine AC.of_calls fun S w κ vs hv=>?_
 obtain⟨v,vs',rfl,h1,v2,vs2,rfl,h2,rfl⟩:=hv
 obtain⟨rfl,_⟩:=h2
 obtain⟨A,cap,rfl,_,hcs⟩:=Cv.1 h1
 have:=GW t i
 have hlen:=Bv t
 have:=Jn t.enc (by omega) (W3 hw) (kp t.kids i:Nat) (by omega) (by omega) A cap S w hcs
 rw[Int.toNat_natCast,Oy hw hi (by omega)]at this
 refine this.mono ?_
 rintro e w' ⟨rfl,hb⟩
 exact⟨hb,_,rfl,fun T _ _=>⟨rfl,rfl⟩⟩
theorem SW {α:Type}{w:World}{S:Nat→Prop}{f:α→List C}:∀{l:List α}{rows:List (List Value)},rows.length=l.length→(∀i (h:i<l.length) row,rows[i]? = some row→CRs w S (f l[i]) row [])→Ag w S (l.map f) rows []
 | [],rows,hl,_=>by
  have:rows=[]:=List.eq_nil_of_length_eq_zero (by simpa using hl)
  subst this
  exact⟨rfl,rfl⟩
 |x::l,[],hl,_=>by simp at hl
 |x::l,r::rows,hl,h=>by
  simp only[List.map_cons,Ag]
  exact⟨r,rows,[],[],rfl,rfl,h 0 (by simp) r rfl,SW (by simpa using hl) fun i hi row hr=>by
   have:=h (i+1) (by simpa using hi) row (by simpa using hr)
   simpa using this⟩
theorem S5 {t:V}(hw:t.wf) (hc:t.count≤200):AC Tryz.prog 113 [Ce t.enc] [] (.c (.sl ((t.kids.map V.enc).map AD))) []:=by
 refine AC.of_calls fun S w κ vs hv=>?_
 obtain⟨v,vs',rfl,h1,rfl⟩:=hv
 obtain⟨A,cap,rfl,hcap,hcs⟩:=Cv.1 h1
 refine (JV t hw hc A cap hcap S w hcs).mono ?_
 rintro e w' ⟨⟨A',c',rfl,hcap',hr⟩,hb⟩
 refine⟨hb,_,rfl,fun T _ hT=>?_⟩
 obtain⟨rows,hl,hrow,hat⟩:=hr
 simp only[AR,CR]
 refine⟨1,A',c',rows,by simp,by simpa using hcap',trivial,hrow.weaken fun b hb _=>hT b hb,SW hl fun i hi row hri=>?_,trivial⟩
 obtain⟨Ai,ci,rfl,h3,h4⟩:=hat i hi row hri
 exact⟨_,_,[],[],rfl,rfl,Cv.2 ⟨Ai,ci,rfl,h3,h4.weaken fun b hb _=>hT b hb⟩,rfl,rfl⟩
set_option maxRecDepth 10000
theorem Pz (n:Int):AC Tryz.prog 160 [.c (.int .i64 n)] [] (.c (.sl ((GN n).enc.map CellD.cs))) []:=by
 have he:(GN n).enc.map CellD.cs=[[.int .i64 3,.int .i64 n,.str ByteArray.empty,.str ByteArray.empty,.int .i64 0]]:=rfl
 rw[he]
 refine A6 Tryz.func160 Tryz.ntmps160 ?_
 refine A0 trivial ?_
 exact A9 (A8 [] [(5,0)]) Tryz.results160 he
theorem Po (s:ByteArray):AC Tryz.prog 126 [.c (.str s)] [] (.c (.sl ((K9 s).enc.map CellD.cs))) []:=by
 have he:(K9 s).enc.map CellD.cs=[[.int .i64 4,.int .i64 0,.str s,.str ByteArray.empty,.int .i64 0]]:=rfl
 rw[he]
 refine A6 Tryz.func126 Tryz.ntmps126 ?_
 refine A0 trivial ?_
 exact A9 (A8 [] [(5,0)]) Tryz.results126 he
theorem M7 {t:V}(hw:t.wf) (hc:t.count≤200):AC Tryz.prog 169 [Ce t.enc,.c (.int .i64 0)] [] (.c (.sl ((CH t t.kids.length).map Ed))) []:=by
 have hw0:IntKind.i64.wrap (0+1)=1:=rfl
 have hk0:((kp t.kids 0:Nat):Int)=1:=by simp[kp,An]
 have hkl:=Cj hc
 have hr0:Aj (t.enc.map CellD.cs) 5 0=true:=by unfold Aj;rw[show (0:Int).toNat=0 from rfl,Dp];rfl
 have hg0:=Dp t
 refine A6 Tryz.func169 Tryz.ntmps169 ?_
 refine A0 hw0 ?_
 refine AG (κ:=Nat) (fun k=>⟨mkS 0 28 [(0,Ce t.enc),(1,.c (.int .i64 0)),(5,.own (5,0)),(6,.c (.int .i64 ((kp t.kids k:Nat):Int))),(7,.c (.int .i64 k))],
   [((5,0),.row false 1 2 ((CH t k).map Ed))]⟩)
  (fun k=>k≤t.kids.length) (fun k=>t.kids.length-k) 0 (Nat.zero_le _) ?_ ?_
 ·(apply (As.of [((5,0),(8,0))] []);(iterate 2 ((focus (simp only[go_sem,Nat.reduceEqDiff,Nat.reduceAdd,Nat.reduceSub,Nat.reduceLeDiff,Nat.reduceMul,Nat.reduceBEq,Nat.reduceLT,Int.reduceToNat,reduceCtorEq,hk0,CH];try (and_intros<;>rfl)));(focus exact rfl)));(iterate 4 (focus (simp[go_sem,hk0,CH];done))))
 ·intro k hk
  by_cases hlt:k<t.kids.length
  ·have hd:decide ((k:Int)<(t.kids.length:Int))=true:=by simpa using hlt
   have hw1:=Ae (k:=k) (by omega)
   have h1:(CH t k).length+1≤1000000:=by rw[DJ];omega
   have he:=VI hw hc hlt
   have hn:(CH t k).map Ed++[[.int .i64 ((kp t.kids k:Nat):Int)]]=(CH t (k+1)).map Ed:=by rw[KP,List.map_append];rfl
   refine A0 (j4 hr0 hg0 hd h1) ?_
   refine w7 (A3 [] he) trivial ?_
   refine A0 hw1 ?_
   refine⟨k+1,by omega,by omega,?_⟩
   exact Aq (As.of [((5,0),(23,0))] []) hn
  ·have hd:decide ((k:Int)<(t.kids.length:Int))=false:=by simpa using hlt
   have hke:k=t.kids.length:=by omega
   refine A0 (j3 hr0 hg0 hd) ?_
   subst hke
   exact A9 (A8 [] [(5,0)]) Tryz.results169 hd
def CK (t:V) (k:Nat):List ByteArray:=(List.range k).map t.keyAt
theorem Pf (t:V) (k:Nat):CK t (k+1)=CK t k++[t.keyAt k]:=by simp[CK,List.range_succ]
theorem Sc (t:V) (k:Nat):(CK t k).length=k:=by simp[CK]
theorem QX (t:V) {k:Nat}(h:k<t.kids.length):(t.enc.map CellD.cs)[kp t.kids k]? = some [.int .i64 t.kids[k].kind,.int .i64 t.kids[k].num,.str t.kids[k].text,.str (t.keyAt k),.int .i64 t.kids[k].kids.length]:=by
 have h1:=OE t h
 have h2:t.enc[kp t.kids k]? = some ⟨t.kids[k].kind,t.kids[k].num,t.kids[k].text,t.keyAt k,t.kids[k].kids.length⟩:=by
  have h3:(t.enc.drop (kp t.kids k))[0]? = t.enc[kp t.kids k]?:=by rw[List.getElem?_drop];rfl
  rw[←h3,h1,Cp]
  rfl
 rw[List.getElem?_map,h2]
 rfl
set_option maxRecDepth 10000
theorem UT {t:V}(hw:t.wf) (hc:t.count≤200):AC Tryz.prog 114 [Ce t.enc] [] (.c (.sl ((CK t t.kids.length).map Ab))) []:=by
 have hkl:=Cj hc
 have hkn:=DJ t t.kids.length
 have hch:=M7 hw hc
 refine A6 Tryz.func114 Tryz.ntmps114 ?_
 refine A0 trivial ?_
 refine w9 (Aa [] hch) trivial ?_
 refine A0 trivial ?_
 refine AG (κ:=Nat) (fun k=>⟨mkS 0 27 [(0,Ce t.enc),(3,.own (3,0)),(4,.c (.sl ((CH t t.kids.length).map Ed))),(5,.c (.int .i64 k))],
   [((3,0),.row false 1 9 ((CK t k).map Ab))]⟩)
  (fun k=>k≤t.kids.length) (fun k=>t.kids.length-k) 0 (Nat.zero_le _) ?_ ?_
 ·(apply (As.of [((3,0),(6,0))] []);(iterate 2 ((focus (simp only[go_sem,Nat.reduceEqDiff,Nat.reduceAdd,Nat.reduceSub,Nat.reduceLeDiff,Nat.reduceMul,Nat.reduceBEq,Nat.reduceLT,Int.reduceToNat,reduceCtorEq,CK];try (and_intros<;>rfl)));(focus exact rfl)));(iterate 4 (focus (simp[go_sem,CK];done))))
 ·intro k hk
  by_cases hlt:k<t.kids.length
  ·have hd:decide ((k:Int)<(t.kids.length:Int))=true:=by simpa using hlt
   have hw1:=Ae (k:=k) (by omega)
   have h1:(CK t k).length+1≤1000000:=by rw[Sc];omega
   have hr1:Aj ((CH t t.kids.length).map Ed) 1 k=true:=by simp[Aj,CH,hlt,Ed]
   have hg1:((CH t t.kids.length).map Ed)[k]? = some [.int .i64 ((kp t.kids k:Nat):Int)]:=by simp[CH,hlt,Ed]
   have hg2:=QX t hlt
   have hr2:Aj (t.enc.map CellD.cs) 5 ((kp t.kids k:Nat):Int)=true:=by unfold Aj;rw[Int.toNat_natCast,hg2];simp
   have hn:(CK t k).map Ab++[[.str (t.keyAt k)]]=(CK t (k+1)).map Ab:=by rw[Pf,List.map_append];rfl
   refine A0 (j8 hd hkn hr1 hg1 hr2 hg2 h1 hw1) ?_
   refine⟨k+1,by omega,by omega,?_⟩
   exact Aq (As.of [((3,0),(25,0))] []) hn
  ·have hd:decide ((k:Int)<(t.kids.length:Int))=false:=by simpa using hlt
   have hke:k=t.kids.length:=by omega
   refine A0 (j2 hkn hd) ?_
   subst hke
   exact A9 (A8 [] [(3,0)]) Tryz.results114 hd
theorem Rl (ps:List V) (hc:(DB ps).count≤500000):AC Tryz.prog 77 [.c (.sl ((ps.map V.enc).map AD))] [] (.own (0,0)) [((0,0),.row false 5 115 ((DB ps).enc.map CellD.cs))]:=by
 have hcl:=BR ps
 have hcc:=Mq ps
 obtain⟨R,hR⟩:∃R:Nat→List CellD,∀k,R k=(DB ps).enc.take (kp (DB ps).kids k):=⟨_,fun _=>rfl⟩
 have h0:(R 0).map CellD.cs=[[.int .i64 5,.int .i64 0,.str ByteArray.empty,.str ByteArray.empty,.int .i64 ps.length]]:=by
  rw[hR,FS];rfl
 refine A6 Tryz.func77 Tryz.ntmps77 ?_
 refine A0 trivial ?_
 refine AG (κ:=Nat) (fun k=>⟨mkS 0 22 [(0,.c (.sl ((ps.map V.enc).map AD))),(3,.own (3,0)),(4,.c (.int .i64 k))],
   [((3,0),.row false 5 115 ((R k).map CellD.cs))]⟩)
  (fun k=>k≤ps.length) (fun k=>ps.length-k) 0 (Nat.zero_le _) ?_ ?_
 ·exact Aq (As.of [((3,0),(8,0))] []) h0
 ·intro k hk
  by_cases hlt:k<ps.length
  ·have hd:decide ((k:Int)<(ps.length:Int))=true:=by simpa using hlt
   have hw1:=Ae (k:=k) (by omega)
   have hr1:Aj ((ps.map V.enc).map AD) 1 k=true:=by simp[Aj,hlt,AD]
   have hg1:((ps.map V.enc).map AD)[k]? = some [.sl (ps[k].enc.map CellD.cs)]:=by simp[hlt,AD]
   have hts:=Ff (DB ps) (i:=k) hlt
   have h56:(DB ps).kind≠6:=show (5:Int)≠6 by decide
   rw[KE h56,←hR,←hR]at hts
   have htl:=FP (DB ps) k
   have hkl:=GW (DB ps) k
   have hm:=BC (List.getElem_mem hlt)
   have hel:=Bv ps[k]
   have h1:(R k).length+ps[k].enc.length≤1000000:=by rw[hR,htl,hel];omega
   have hn:(R k).map CellD.cs++ps[k].enc.map CellD.cs=(R (k+1)).map CellD.cs:=by
    rw[hts,List.map_append];rfl
   generalize ps[k]=u at *
   refine A0 (j5 hd hr1 hg1 h1 hw1) ?_
   refine⟨k+1,by omega,by omega,?_⟩
   exact Aq (As.of [((3,0),(20,0))] []) hn
  ·have hd:decide ((k:Int)<(ps.length:Int))=false:=by simpa using hlt
   have hke:k=ps.length:=by omega
   have hall:R k=(V.mk 5 0 ByteArray.empty [] ps).enc:=by rw[hR,hke];exact FT (DB ps)
   refine A0 hd ?_
   exact A9 (A8 [((0,0),(3,0))] []) Tryz.results77 hall
def keep (b:Bool) (p:List V×V):Bool:=!b||p.2.kids.isEmpty
def EL (b:Bool) (l:List (List V×V)):List (List V):=(l.filter (keep b)).map (·.1)
def Nd (p:List V):List C:=[.sl ((p.map V.enc).map AD)]
theorem VO (l:List (List V)):((l.map Nd).all fun r=>r.length==1)=true:=by simp[Nd]
theorem YK (p:List V):BV (Nd p)=Nd p:=rfl
theorem Pa (l:List (List V)):B3 (l.map Nd)=l.map Nd:=D4 _ YK l
attribute [go_sem] VO Pa
def GQ (b:Bool) (t:V) (ahead:List V):List (List C):=if keep b (ahead,t) then [[.osl ((ahead.map V.enc).map AD)]] else []
theorem o7 (b:Bool) (l l':List (List V×V)):EL b (l++l')=EL b l++EL b l':=by simp[EL]
theorem SY (b:Bool) (l:List (List V×V)):(EL b l).length≤l.length:=by simp only[EL,List.length_map];exact List.length_filter_le _ _
theorem a1t (b:Bool) (t:V) (ahead:List V):(GQ b t ahead).length≤1:=by unfold GQ;split<;>simp
theorem VF:∀(a b:List (List C)),B3 (a++b)=B3 a++B3 b
 | [],b=>rfl
 |x::a,b=>by simp only[List.cons_append,B3,VF a b]
theorem a0o (b:Bool) (t:V) (ahead:List V) (rest:List (List V×V)):B3 (GQ b t ahead++(EL b rest).map Nd)=(EL b ((ahead,t)::rest)).map Nd:=by
 rw[VF,Pa]
 unfold GQ EL
 rw[List.filter_cons]
 by_cases h:keep b (ahead,t)=true
 ·rw[if_pos h,if_pos h]
  simp only[List.map_cons]
  show [[C.sl (B3 ((ahead.map V.enc).map AD))]]++_=_
  rw[PF]
  rfl
 ·rw[if_neg h,if_neg h]
  rfl
theorem r9 (ahead:List V) (q:V):B3 ((ahead.map V.enc).map AD++[[.sl (q.enc.map CellD.cs)]])=((ahead++[q]).map V.enc).map AD:=by
 rw[←PF ((ahead++[q]).map V.enc),List.map_append,List.map_append]
 rfl
set_option maxRecDepth 10000
theorem a1f (b:Bool):∀(m:Nat) (t:V) (ahead:List V),t.count≤m→t.count≤200→t.wf→ahead.length+t.count≤900000 →
  AC Tryz.prog 201 [Ce t.enc,.c (.sl ((ahead.map V.enc).map AD)),.c (.bool b)] [] (.c (.sl ((EL b (t.paths ahead)).map Nd))) []:=by
 intro m
 induction m with
 |zero=>intro t _ hm;have:=Bc t;omega
 |succ m ih =>
  intro t ahead hm hc hw hl
  have hkc:=Bp t
  have hkl:=Cj hc
  have hr0:Aj (t.enc.map CellD.cs) 5 0=true:=by unfold Aj;rw[show (0:Int).toNat=0 from rfl,Dp];rfl
  have hg0:=Dp t
  have hn0:0+ahead.length≤1000000:=by omega
  have hpl:=DI t ahead
  have hparts:=S5 hw hc
  have hkeys:=UT hw hc
  refine A6 Tryz.func201 Tryz.ntmps201 ?_
  rcases (by cases b<;>cases ((t.kids.length:Int)==0)<;>simp:b=false∨(b=true∧((t.kids.length:Int)==0)=true)∨(b=true∧((t.kids.length:Int)==0)=false)) with hb | ⟨hb,hz⟩ | ⟨hb,hz⟩
  case' inl =>
   have hpre:GQ false t ahead=[[.osl ((ahead.map V.enc).map AD)]]:=by unfold GQ keep;rw[if_pos];rfl
   refine A0 (j4 hb hr0 hg0 hn0) ?_
  case' inr.inl =>
   have hpre:GQ true t ahead=[[.osl ((ahead.map V.enc).map AD)]]:=by unfold GQ keep;rw[if_pos];simp at hz ⊢;exact hz
   refine A0 (j5 hb hr0 hg0 hz hn0) ?_
  case' inr.inr =>
   have hpre:GQ true t ahead=[]:=by unfold GQ keep;rw[if_neg];simp at hz ⊢;exact hz
   refine A0 (j5 hb hr0 hg0 hz hn0) ?_
  all_goals
   refine w9 (Aa [] hparts) trivial ?_
   refine A0 trivial ?_
   refine w9 (Aa [] hkeys) trivial ?_
   refine A0 trivial ?_
   refine AG (κ:=Nat×List (List V×V)) (fun x=>⟨mkS 0 65 [(0,Ce t.enc),(1,.c (.sl ((ahead.map V.enc).map AD))),(2,.c (.bool b)),(7,.own (7,0)),(8,.c (.sl ((t.kids.map V.enc).map AD))),(9,.c (.sl ((CK t t.kids.length).map Ab))),(10,.c (.int .i64 x.1))],
     [((7,0),.row true 1 68 (GQ b t ahead++(EL b x.2).map Nd))]⟩)
    (fun x=>x.1≤t.kids.length∧x.2++Dv t.keyV x.1 (t.kids.drop x.1) ahead=Dv t.keyV 0 t.kids ahead) (fun x=>t.kids.length-x.1) (0,[]) ⟨Nat.zero_le _,rfl⟩ ?_ ?_
   ·first
     | (apply (As.of [((7,0),(27,0))] []);(iterate 2 ((focus (simp only[go_sem,Nat.reduceEqDiff,Nat.reduceAdd,Nat.reduceSub,Nat.reduceLeDiff,Nat.reduceMul,Nat.reduceBEq,Nat.reduceLT,Int.reduceToNat,reduceCtorEq,hpre,hb,EL];try (and_intros<;>rfl)));(focus exact rfl)));(iterate 4 (focus (simp[go_sem,hpre,hb,EL];done))))
     | (apply (As.of [((7,0),(12,0))] []);(iterate 2 ((focus (simp only[go_sem,Nat.reduceEqDiff,Nat.reduceAdd,Nat.reduceSub,Nat.reduceLeDiff,Nat.reduceMul,Nat.reduceBEq,Nat.reduceLT,Int.reduceToNat,reduceCtorEq,hpre,hb,EL];try (and_intros<;>rfl)));(focus exact rfl)));(iterate 4 (focus (simp[go_sem,hpre,hb,EL];done))))
   ·rintro⟨k,done⟩ ⟨hk,hd0⟩
    dsimp only at hk hd0 ⊢
    by_cases hlt:k<t.kids.length
    ·have hd:decide ((k:Int)<(t.kids.length:Int))=true:=by simpa using hlt
     have hw1:=Ae (k:=k) (by omega)
     have hr1:Aj ((t.kids.map V.enc).map AD) 1 k=true:=by simp[Aj,hlt,AD]
     have hg1:((t.kids.map V.enc).map AD)[k]? = some [.sl (t.kids[k].enc.map CellD.cs)]:=by simp[hlt,AD]
     have hr2:Aj ((CK t t.kids.length).map Ab) 1 k=true:=by simp[Aj,CK,hlt,Ab]
     have hg2:((CK t t.kids.length).map Ab)[k]? = some [.str (t.keyAt k)]:=by simp[CK,hlt,Ab]
     have hmem:=BC (List.getElem_mem hlt)
     have hwk:=YA hw hlt
     rw[KB t.keyV ahead t.kids hlt]at hd0
     obtain⟨q,hq⟩:∃q,q=t.keyV k:=⟨_,rfl⟩
     rw[←hq]at hd0
     generalize t.kids[k]=u at *
     have hpu:=DI u (ahead++[q])
     have hpk:=MW t.keyV 0 t.kids ahead
     have hdl:done.length+(u.paths (ahead++[q])).length≤An t.kids:=by
      have:=congrArg List.length hd0
      simp only[List.length_append]at this
      omega
     have h1:ahead.length+1≤1000000:=by omega
     have h2:(GQ b t ahead++(EL b done).map Nd).length+(EL b (u.paths (ahead++[q]))).length≤1000000:=by
      have:=a1t b t ahead
      have:=SY b done
      have:=SY b (u.paths (ahead++[q]))
      rw[List.length_append,List.length_map]
      omega
     have hn:GQ b t ahead++(EL b done).map Nd++(EL b (u.paths (ahead++[q]))).map Nd=GQ b t ahead++(EL b (done++u.paths (ahead++[q]))).map Nd:=by rw[o7,List.map_append,List.append_assoc]
     by_cases h6:t.kind=6
     ·have hb6:(t.kind==6)=true:=by simpa using h6
      have hqs:q=K9 (t.keyAt k):=by rw[hq];unfold V.keyV;rw[if_pos h6]
      refine A0 hd ?_
      refine w9 (Aa [] (Pz k)) trivial ?_
      refine A0 (j5 hr0 hg0 hb6 hr2 hg2) ?_
      have hkm:B3 ((ahead.map V.enc).map AD++[[.sl ((V.mk 4 0 (t.keyAt k) [] []).enc.map CellD.cs)]])=((ahead++[q]).map V.enc).map AD:=by rw[←r9,hqs];rfl
      refine w9 (Aa [] (Po (t.keyAt k))) trivial ?_
      refine A0 (j4 hr1 hg1 hn0 h1) ?_
      refine w9 (Aa [(60,0)] (ih u (ahead++[q]) (by omega) (by omega) hwk (by simp only[List.length_append,List.length_singleton];omega))) hkm ?_
      refine A0 (j2 h2 hw1) ?_
      refine⟨(k+1,done++u.paths (ahead++[q])),by dsimp only;omega,⟨by dsimp only;omega,by simpa using hd0⟩,?_⟩
      exact Aq (As.of [((7,0),(63,0))] []) hn
     ·have hb6:(t.kind==6)=false:=by simpa using h6
      have hqs:q=GN k:=by rw[hq];unfold V.keyV;rw[if_neg h6]
      have hkm:B3 ((ahead.map V.enc).map AD++[[.sl ((V.mk 3 k ByteArray.empty [] []).enc.map CellD.cs)]])=((ahead++[q]).map V.enc).map AD:=by rw[←r9,hqs];rfl
      refine A0 hd ?_
      refine w9 (Aa [] (Pz k)) trivial ?_
      refine A0 (j7 hr0 hg0 hb6 hr1 hg1 hn0 h1) ?_
      refine w9 (Aa [(60,0)] (ih u (ahead++[q]) (by omega) (by omega) hwk (by simp only[List.length_append,List.length_singleton];omega))) hkm ?_
      refine A0 (j2 h2 hw1) ?_
      refine⟨(k+1,done++u.paths (ahead++[q])),by dsimp only;omega,⟨by dsimp only;omega,by simpa using hd0⟩,?_⟩
      exact Aq (As.of [((7,0),(63,0))] []) hn
    ·have hd:decide ((k:Int)<(t.kids.length:Int))=false:=by simpa using hlt
     rw[MR _ _ _ _ (by omega),List.append_nil]at hd0
     have hfin:B3 (GQ b t ahead++(EL b done).map Nd)=(EL b (t.paths ahead)).map Nd:=by rw[a0o,hd0,←Og]
     refine A0 hd ?_
     exact A9 (A8 [] [(7,0)]) Tryz.results201 hfin
end
end Go.Proofs.YtllfmaflodbieaaGreatDoor
