/- Texts of this proof: G29 G30 D30 D41 M58. -/
import Derived.Test.YtllfmaflodbieaaGreatDoorKD39
set_option linter.all false
set_option maxHeartbeats 8000000
namespace Go.Proofs.YtllfmaflodbieaaGreatDoor
section
open Go.RowKit
set_option maxRecDepth 10000
theorem Yp (l:List (List CellD)):((l.map N1).all fun r=>r.length==1)=true:=by simp[N1]
attribute [go_sem] Yp
set_option maxRecDepth 10000
theorem XD (t:V):AC Tryz.prog 78 [Iw t.enc] [] (.c (.bool t.kids.isEmpty)) []:=by
 have hr0:B4 (t.enc.map CellD.cs) 5 0=true:=by unfold B4;rw[show (0:Int).toNat=0 from rfl,Lq];rfl
 have hg0:=Lq t
 have h0:(((t.kids.length:Int))==0)=t.kids.isEmpty:=by cases t.kids<;>simp;omega
 refine JI Tryz.func78 Tryz.ntmps78 ?_
 refine JV (j2 hr0 hg0) ?_
 exact Iu [] (by simp only[Tryz.results78,go_sem,Nat.reduceBEq,Nat.reduceLT];exact rfl) (by simp only[go_sem,Nat.reduceEqDiff,Nat.reduceAdd,Nat.reduceSub,Nat.reduceLeDiff,Nat.reduceMul,Nat.reduceBEq,Nat.reduceLT,Int.reduceToNat,reduceCtorEq,h0]) rfl
def a3l (ahead:List V) (e:Ev):Ev:=(ahead++e.1,e.2)
def a3n (ahead:List V) (l:List Ev):List (List C):=((l.map (a3l ahead)).map fun e=>(evV e).enc).map N1
theorem VW (ahead:List V) (l:List Ev):(a3n ahead l).length=l.length:=by simp[a3n]
theorem VV (ahead:List V) (l:List Ev):As (a3n ahead l)=true:=RA _
theorem a0p (ahead:List V) (l:List Ev):((a3n ahead l).all fun r=>r.length==1)=true:=Yp _
attribute [go_sem] VW VV a0p
set_option maxRecDepth 10000
theorem XJ (s:ByteArray) (hs:s.size≤1048576):AC Tryz.prog 30 [.c (.str s)] [] (.c (.sl ((NL s).map CX))) []:=by
 have h:=Yf s hs
 change AC Tryz.prog 69 [.c (.str s),.c (.str ⟨#[10]⟩)] [] (.own (0,0)) [((0,0),.row false 1 9 ((Qn s).map CX))]at h
 obtain⟨hp,hq⟩:=XY s
 rw[←Va]
 generalize Qn s=l at *
 have hll:(l.map CX).length=l.length:=by simp
 obtain⟨k,hk⟩:∃k,l.length=k+1:=⟨l.length-1,by omega⟩
 have hw:IntKind.i64.wrap ((l.length:Int)-1)=(k:Int):=by rw[S5 (by omega) (by omega)];omega
 have hlt:k<l.length:=by omega
 have hkl:k≤l.length:=by omega
 have hr:B4 (l.map CX) 1 (k:Int)=true:=by simp[B4,CX,hlt]
 have hg:(l.map CX)[k]? = some [C.str l[k]]:=by simp[hlt,CX]
 have hlast:l.getLast? = some l[k]:=by rw[List.getLast?_eq_getElem?,hk,Nat.add_sub_cancel,List.getElem?_eq_getElem hlt]
 unfold Q4
 rw[hlast]
 cases he:(l[k].toList==ByteArray.empty.toList) with
 |true =>
  have hx:l[k]=ByteArray.empty:=K3 (by simpa using he)
  have htk:(l.map CX).take k=l.dropLast.map CX:=by rw[←List.map_take,List.dropLast_eq_take,hk,Nat.add_sub_cancel]
  rw[if_pos (by rw[hx])]
  refine JI Tryz.func30 Tryz.ntmps30 ?_
  refine JV q9 ?_
  refine w12 (Kj [] h) q9 ?_
  refine JV (j5 hll hw hr hg he) ?_
  ((with_reducible apply JF);(iterate 4 (focus (first | (simp only[go_sem,Nat.reduceEqDiff,Nat.reduceAdd,Nat.reduceSub,Nat.reduceLeDiff,Nat.reduceMul,Nat.reduceBEq,Nat.reduceLT,Int.reduceToNat,reduceCtorEq,hll,hkl,htk];first | done | exact rfl | (and_intros<;>rfl)) | exact rfl | decide))))
  refine JV q9 ?_
  exact JW (Iu []) Tryz.results30
 |false =>
  have hx:¬(some l[k]=some ByteArray.empty):=by
   intro h
   injection h with h
   rw[h]at he
   simp at he
  rw[if_neg hx]
  have ho:AC Tryz.prog 30 [.c (.str s)] [] (.own (0,0)) [((0,0),.row false 1 9 (l.map CX))]:=by
   refine JI Tryz.func30 Tryz.ntmps30 ?_
   refine JV q9 ?_
   refine w12 (Kj [] h) q9 ?_
   refine JV (j5 hll hw hr hg he) ?_
   exact JJ (JN [((0,0),(6,0))] []) Tryz.results30 he
  exact wAS (AC.says [] [(0,0)] ho) q9
end
section
open Go.RowKit
set_option maxRecDepth 10000
variable {o o1 o2:Obj}
noncomputable def KN (s:ByteArray):List ByteArray→Nat→V→(Int×Nat)×Option V
 | [],_,t=>if L4 (Ke t)=s then ((0,0),some t) else ((1,0),none)
 |x::L,k,t=>match Oa x with
  |none=>((5,k),none)
  |some p=>match BT p.2 p.1 t with
   | (_,some u)=>KN s L (k+1) u
   | (c,none)=>((c,k),none)
noncomputable def ON (s:ByteArray):(Int×Nat)×Option V:=if 4000<s.size then ((2,0),none) else KN s (NL s) 0 Dq
theorem X4 {s x:ByteArray}(h:Oa x=none) (L:List ByteArray) (k:Nat) (t:V):KN s (x::L) k t=((5,k),none):=by rw[KN,h]
theorem Yo {s x:ByteArray}{p:List V×V}{t:V}{c:Int}(h:Oa x=some p) (hp:BT p.2 p.1 t=(c,none)) (L:List ByteArray) (k:Nat):KN s (x::L) k t=((c,k),none):=by rw[KN,h];dsimp only;rw[hp]
theorem Un {s x:ByteArray}{p:List V×V}{t u:V}{c:Int}(h:Oa x=some p) (hp:BT p.2 p.1 t=(c,some u)) (L:List ByteArray) (k:Nat):KN s (x::L) k t=KN s L (k+1) u:=by rw[KN,h];dsimp only;rw[hp]
theorem Vi {p:List V×V}{x:ByteArray}(h:FlatOk p x) {t:V}(ht:t.right):(∃c:Int,c≠0∧BT p.2 p.1 t=(c,none))∨∃u,BT p.2 p.1 t=(0,some u)∧u.right:=by
 have hr:=Pq h.right p.1 (fun k hk=>⟨(h.keys k hk).1,(h.keys k hk).2.2.2⟩) t ht
 unfold QT at hr
 cases hp:BT p.2 p.1 t with
 |mk c y =>
  rw[hp]at hr
  cases y with
  |none=>exact .inl ⟨c,hr,rfl⟩
  |some u =>
   obtain⟨h1,h2⟩:=hr
   have h1':c=0:=h1
   subst h1'
   exact .inr ⟨u,rfl,h2⟩
def rdI (r:(Int×Nat)×Option V):AV:=match r.2 with
 |none=>.agg [.c (.int .i64 r.1.1),.c (.int .i64 r.1.2),.nils]
 |some _=>.agg [.c (.int .i64 0),.c (.int .i64 0),.own (0,0)]
def a5x (r:(Int×Nat)×Option V):Mem:=match r.2 with
 |none=>[]
 |some v=>[((0,0),.row false 5 115 (v.enc.map CellD.cs))]
theorem PV (c:Int×Nat):rdI (c,none)=.agg [.c (.int .i64 c.1),.c (.int .i64 c.2),.nils]:=rfl
theorem WU (c:Int×Nat) (v:V):rdI (c,some v)=.agg [.c (.int .i64 0),.c (.int .i64 0),.own (0,0)]:=rfl
theorem OH (c:Int×Nat):a5x (c,none)=[]:=rfl
theorem Uh (c:Int×Nat) (v:V):a5x (c,some v)=[((0,0),.row false 5 115 (v.enc.map CellD.cs))]:=rfl
theorem a0u (R:Option (List V×ByteArray)):∃p v,TC R=plA p v:=by
 cases R with
 |none=>exact⟨_,_,rfl⟩
 |some q=>exact⟨_,_,rfl⟩
theorem T6 (s:ByteArray) (hs:s.size≤1048576):AC Tryz.prog 17 [.c (.str s)] (teL o o1 o2) (rdI (ON s)) (a5x (ON s)++teL o o1 o2):=by
 have hL:=XJ s hs
 have hsz:∀x∈NL s,x.size≤s.size:=Ob s _ _ _
 have hll:=Ph s s.size 0 0
 have h00:((0:Int) != 0)=false:=rfl
 unfold ON
 by_cases h4:4000<s.size
 ·have g4:decide ((s.size:Int)>4000)=true:=decide_eq_true (by omega)
  rw[if_pos h4,PV,OH,List.nil_append]
  refine JI Tryz.func17 Tryz.ntmps17 ?_
  refine JV g4 ?_
  exact JJ (JN [((8,0),(8,0)),((8,1),(8,1))] []) Tryz.results17 g4
 ·have g4:decide ((s.size:Int)>4000)=false:=decide_eq_false (by omega)
  rw[if_neg h4]
  change (NL s).length≤_ at hll
  generalize NL s=L at *
  have hLl:(L.map CX).length=L.length:=by simp
  obtain⟨R,hR⟩:∃R,KN s L 0 Dq=R:=⟨_,rfl⟩
  rw[hR]
  have hnl:=PO
  rw[Od]at hnl
  have hk0:Dq.kind=0:=rfl
  have hn0:Dq.num=0:=rfl
  have ht0:Dq.text=ByteArray.empty:=rfl
  have hy0:Dq.keys.map CX=[]:=rfl
  have hi0:Dq.kids.map V.cs=[]:=rfl
  refine JI Tryz.func17 Tryz.ntmps17 ?_
  refine JV g4 ?_
  refine w9 (Ja [] hnl) q9 ?_
  refine JV q9 ?_
  refine w9 (Ja [] hL) q9 ?_
  refine JV hLl ?_
  refine Jz (κ:=Nat×V) (fun x=>⟨mkS 0 55 [(0,.c (.str s)),(2,.ptr (2,0) 0),(3,.ptr (3,0) 0),(15,.c (.sl (L.map CX))),(16,.c (.int .i64 L.length)),(17,.c (.int .i64 x.1))],
    [((2,0),.box [.c (.int .i64 0),.c (.int .i64 0),.nils]),((8,0),.blk (Ps o) []),((8,1),.gen (KV o1 o2)),((3,0),.box [.c (.int .i64 x.2.kind),.c (.int .i64 x.2.num),.c (.str x.2.text),.c (.sl (x.2.keys.map CX)),.c (.sl (x.2.kids.map V.cs))])]⟩)
   (fun x=>x.1≤L.length∧x.2.right∧KN s (L.drop x.1) x.1 x.2=R) (fun x=>L.length-x.1) (0,Dq) ⟨Nat.zero_le _,LT,hR⟩ ?_ ?_
  ·exact JQ (F7.of [((2,0),(2,0)),((8,0),(8,0)),((8,1),(8,1)),((3,0),(3,0))] []) (j5 hk0 hn0 ht0 hy0 hi0)
  ·rintro⟨k,t⟩ ⟨hk,ht,hgo⟩
   dsimp only at hk ht hgo ⊢
   by_cases hlt:k<L.length
   ·have hdk:decide ((k:Int)<(L.length:Int))=true:=decide_eq_true (by omega)
    rw[List.drop_eq_getElem_cons hlt]at hgo
    have hr:B4 (L.map CX) 1 k=true:=by simp[B4,hlt,CX]
    have hg:(L.map CX)[k]? = some [C.str L[k]]:=by simp[hlt,CX]
    have hxs:L[k].size≤4000:=by have:=hsz _ (List.getElem_mem hlt);omega
    have hw:=JX (k:=k) (by omega)
    generalize L[k]=x at *
    cases hD:Oa x with
    |none =>
     rw[X4 hD]at hgo
     have hS:=W0 (o:=o) (o1:=o1) (o2:=o2) x hxs hD
     obtain⟨jp,jv,hj⟩:=a0u (Mh (x.size+1) (Ln 46 x) [])
     rw[hj]at hS
     unfold plA at hS
     subst hgo
     rw[PV,OH,List.nil_append]
     refine JV (j4 hLl hdk hr hg) ?_
     refine KC (K6 [] [((8,0),(8,0)),((8,1),(8,1))] [((8,0),(8,0)),((8,1),(8,1))] hS) q9 ?_
     refine JV q9 ?_
     exact JJ (JN [((8,0),(8,0)),((8,1),(8,1))] []) Tryz.results17 hdk
    |some p =>
     have hfo:=(OA hxs).1 hD
     have hS:=W1 (o:=o) (o1:=o1) (o2:=o2) x hxs hD
     unfold plA at hS
     have hset:=SP hfo.right p.1 (by have:=hfo.len;omega) (fun k hk=>⟨(hfo.keys k hk).1,(hfo.keys k hk).2.2.2⟩) t ht
     rcases Vi hfo ht with⟨c,hc,hp⟩ | ⟨u,hp,hu⟩
     ·rw[Yo hD hp]at hgo
      rw[hp,show Qs (c,none)=PS c Dq from rfl,Ql]at hset
      have hc0:(c != 0)=true:=by simpa using hc
      subst hgo
      rw[PV,OH,List.nil_append]
      refine JV (j4 hLl hdk hr hg) ?_
      refine KC (K6 [] [((8,0),(8,0)),((8,1),(8,1))] [((8,0),(8,0)),((8,1),(8,1))] hS) q9 ?_
      refine JV q9 ?_
      refine w9 (Ja [] hset) q9 ?_
      refine JV hc0 ?_
      exact JJ (JN [((8,0),(8,0)),((8,1),(8,1))] []) Tryz.results17 hdk
     ·rw[Un hD hp]at hgo
      rw[hp,show Qs (0,some u)=PS 0 u from rfl,Z3]at hset
      refine JV (j4 hLl hdk hr hg) ?_
      refine KC (K6 [] [((8,0),(8,0)),((8,1),(8,1))] [((8,0),(8,0)),((8,1),(8,1))] hS) q9 ?_
      refine JV q9 ?_
      refine w9 (Ja [] hset) q9 ?_
      refine JV (j2 h00 hw) ?_
      refine⟨(k+1,u),by dsimp only;omega,⟨by dsimp only;omega,hu,hgo⟩,?_⟩
      exact JQ (F7.of [((2,0),(2,0)),((8,0),(8,0)),((8,1),(8,1)),((3,0),(3,0))] []) hw
   ·have hdk:decide ((k:Int)<(L.length:Int))=false:=decide_eq_false (by omega)
    rw[List.drop_eq_nil_of_le (by omega),KN]at hgo
    have hfl:=YG (o:=o) ht
    have hce:=O2 ht
    by_cases he:L4 (Ke t)=s
    ·rw[if_pos he]at hgo
     have hne:=a4t he
     generalize L4 (Ke t)=fs at *
     subst hgo
     rw[WU,Uh]
     refine JV (j2 hLl hdk) ?_
     refine w10 (Kk Ky Kx (8,0) [] hfl) q9 ?_
     refine JV hne ?_
     refine w12 (Kj [] hce) q9 ?_
     refine JV q9 ?_
     exact JJ (JN [((8,0),(8,0)),((8,1),(8,1)),((0,0),(53,0))] []) Tryz.results17 hdk
    ·rw[if_neg he]at hgo
     have hne:=a0a he
     generalize L4 (Ke t)=fs at *
     subst hgo
     rw[PV,OH,List.nil_append]
     refine JV (j2 hLl hdk) ?_
     refine w10 (Kk Ky Kx (8,0) [] hfl) q9 ?_
     refine JV hne ?_
     exact JJ (JN [((8,0),(8,0)),((8,1),(8,1))] []) Tryz.results17 hdk
end
section
open Go.RowKit
def NM (l:List UInt8):Prop:=∀b∈l,b≠10
theorem KE {a b:List UInt8}(ha:NM a) (hb:NM b):NM (a++b):=fun x hx=>by
 rcases List.mem_append.1 hx with h | h
 ·exact ha x h
 ·exact hb x h
theorem Kl {l:List UInt8}(h:l.all (fun b=>b != 10)=true):NM l:=fun b hb=>by simpa using List.all_eq_true.1 h b hb
theorem a1i {l:List UInt8}(h:l.all IZ=true):NM (A6 l):=fun b hb=>by
 unfold A6 at hb
 obtain⟨c,hc,hb⟩:=List.mem_flatMap.1 hb
 have hc1:=List.all_eq_true.1 h c hc
 have hc2:c≠10:=by rintro rfl;exact absurd hc1 (by decide)
 unfold AQ at hb
 split at hb
 ·simp at hb;rcases hb with rfl | rfl<;>decide
 ·split at hb
  ·simp at hb;subst hb;decide
  ·simp at hb;subst hb;exact hc2
theorem Wx {s:ByteArray}(h:Fr s=true):NM (HH s).data.toList:=by
 rw[LU]
 have h1:s.data.toList.all IZ=true:=by
  unfold Fr at h
  simp only[Bool.and_eq_true]at h
  exact h.2
 exact KE (a:=[34]) (Kl (by decide)) (KE (a1i h1) (Kl (by decide)))
theorem QR (n:Nat):NM (Lib.decDigits n):=fun b hb=>by
 obtain⟨j,hj,rfl⟩:=List.getElem_of_mem hb
 have hs:Sub ⟨(Lib.decDigits n).toArray⟩ 0 (Lib.decDigits n):=⟨[],by simp⟩
 have h1:=(MH n n (Nat.le_refl _) hs).2.1 j (Nat.zero_le _) (by omega)
 rw[LF]at h1
 simp only[List.getElem?_eq_getElem hj]at h1
 intro h
 rw[h]at h1
 exact absurd h1 (by decide)
theorem a1j (n:Int):NM (JE n).data.toList:=by
 show NM (Lib.itoa n)
 by_cases h:n<0
 ·rw[QK h]
  exact KE (a:=[45]) (Kl (by decide)) (QR _)
 ·rw[O6 h]
  exact QR _
theorem MZ {obj:Bool}:∀(kids:List V) (ks:List ByteArray) (first:Bool),(obj=true→ks.length=kids.length)→(∀k∈ks,Fr k=true)→(∀x∈kids,NM x.txt.data.toList)→NM (Kc obj ks kids first)
 | [],ks,first,_,_,_=>by
  cases obj
  ·exact Kl (by rfl)
  ·exact Kl (by rfl)
 |x::r,ks,first,hl,hk,hx=>by
  have h1:=hx x (by simp)
  have hc:NM [44]:=Kl (by decide)
  have hh:NM (Kc obj ks (x::r) true):=by
   cases obj with
   |false =>
    have h2:=MZ (obj:=false) r ks false (fun h=>by cases h) hk (fun y hy=>hx y (by simp[hy]))
    have e:Kc false ks (x::r) true=x.txt.data.toList++Kc false ks.tail r false:=by simp[Kc]
    have h3:=MZ (obj:=false) r ks.tail false (fun h=>by cases h) (fun k hk'=>hk k (List.mem_of_mem_tail hk')) (fun y hy=>hx y (by simp[hy]))
    rw[e]
    exact KE h1 h3
   |true =>
    cases ks with
    |nil=>simp at hl
    |cons k ks =>
     have h2:=MZ (obj:=true) r ks false (fun _=>by have:=hl rfl;simpa using this) (fun y hy=>hk y (by simp[hy])) (fun y hy=>hx y (by simp[hy]))
     have e:Kc true (k::ks) (x::r) true=(HH k).data.toList++([58]++(x.txt.data.toList++Kc true ks r false)):=by simp[Kc]
     rw[e]
     exact KE (Wx (hk k (by simp))) (KE (Kl (by decide)) (KE h1 h2))
  cases first with
  |true=>exact hh
  |false=>rw[Pt];exact KE (a:=[44]) hc hh
theorem Sv:∀(n:Nat) (t:V),t.count≤n→t.right→NM t.txt.data.toList
 | 0,t,hn,_=>by have:=K8 t;omega
 |n+1,t,hn,ht=>by
  have hk:=Mt ht
  have ih:∀x∈t.kids,NM x.txt.data.toList:=fun x hx=>Sv n x (by have h1:=K7 hx;have h2:=K4 t;omega) (K1 ht hx)
  have hcase:t.kind=0∨t.kind=1∨t.kind=2∨t.kind=3∨t.kind=4∨t.kind=5∨t.kind=6:=by omega
  rcases hcase with h | h | h | h | h | h | h
  ·rw[NC h];exact Kl (by decide)
  ·rw[MO h];exact Kl (by decide)
  ·rw[ND h];exact Kl (by decide)
  ·rw[NT h];exact a1j _
  ·rw[NU h];exact Wx (Ld ht)
  ·have hl:t.txt.data.toList=91::Kc false t.keys t.kids true:=by
    rw[OK h,K5,K5,List.append_assoc]
    have:=Ny (kind:=t.kind) (obj:=false) ⟨fun h=>(by cases h),fun h6=>(by omega)⟩ t.kids t.keys
    unfold V.parts
    rw[←this]
    rfl
   rw[hl]
   have hks:t.keys=[]:=by
    have he:=Rc ht.1 h
    rw[he]
    rfl
   exact KE (a:=[91]) (Kl (by decide)) (MZ t.kids t.keys true (fun h=>by cases h) (by rw[hks];simp) ih)
  ·obtain⟨ua,ta,la⟩:=KL ht h
   have hl:t.txt.data.toList=123::Kc true t.keys t.kids true:=by
    rw[OM h,K5,K5,List.append_assoc]
    have:=Ny (kind:=t.kind) (obj:=true) ⟨fun _=>h,fun _=>rfl⟩ t.kids t.keys
    rw[←this]
    rfl
   rw[hl]
   exact KE (a:=[123]) (Kl (by decide)) (MZ t.kids t.keys true (fun _=>la) ta ih)
theorem YW {s:ByteArray}:∀(x:List UInt8) (n f:Nat) (r:List UInt8),s.data.toList.drop f=x++10::r→NM x→x.length<n→nlB s n f=f+x.length∧0<nlN s n f
 | [],n,f,r,h,_,hn=>by
  obtain⟨n,rfl⟩:∃m,n=m+1:=⟨n-1,by simp at hn;omega⟩
  have hb:bAt s f=10:=Nl (b:=10) (l:=r) h
  unfold nlB nlN
  rw[if_pos hb,if_pos hb]
  exact⟨rfl,by omega⟩
 |b::x,n,f,r,h,hx,hn=>by
  obtain⟨n,rfl⟩:∃m,n=m+1:=⟨n-1,by simp at hn;omega⟩
  have hb:bAt s f=b.toNat:=Nl (l:=x++10::r) h
  have hb2:bAt s f≠10:=by
   rw[hb]
   intro h10
   exact hx b (by simp) (UInt8.toNat_inj.1 h10)
  have h1:s.data.toList.drop (f+1)=x++10::r:=by rw[←List.drop_drop,h];rfl
  obtain⟨g1,g2⟩:=YW x n (f+1) r h1 (fun y hy=>hx y (by simp[hy])) (by simp at hn;omega)
  unfold nlB nlN
  rw[if_neg hb2,if_neg hb2,g1]
  exact⟨by simp;omega,by omega⟩
theorem Ws {s:ByteArray}:∀(X:List ByteArray) (f:Nat),(∀x∈X,NM x.data.toList)→s.data.toList.drop f=X.flatMap (fun x=>x.data.toList++[10])→f≤s.size→Lj s (s.size-f) f f=X
 | [],f,_,h,hf=>by
  have:=VK h
  rw[show s.size-f=0 by omega,Lj,if_neg (by omega)]
 |x::X,f,hx,h,hf=>by
  have h1:s.data.toList.drop f=x.data.toList++10::X.flatMap (fun x=>x.data.toList++[10]):=by rw[h,List.flatMap_cons];simp
  have hl:=congrArg List.length h1
  rw[List.length_drop,List.length_append,List.length_cons,JY,JY]at hl
  obtain⟨g1,g2⟩:=YW x.data.toList (s.size-f) f _ h1 (hx x (by simp)) (by rw[JY];omega)
  rw[JY]at g1
  have h2:s.data.toList.drop (f+x.size+1)=X.flatMap (fun x=>x.data.toList++[10]):=by
   rw[Nat.add_assoc,←List.drop_drop,h1,←JY,←List.drop_drop,List.drop_left]
   rfl
  rw[Oc s _ _ _ g2,g1,show f+(s.size-f)-(f+x.size+1)=s.size-(f+x.size+1) by omega,Ws X (f+x.size+1) (fun y hy=>hx y (by simp[hy])) h2 (by omega)]
  congr 1
  apply OB
  rw[L1,List.drop_take,h1]
  have:f+x.size-f=x.data.toList.length:=by rw[JY];omega
  rw[this]
  simp
end
end Go.Proofs.YtllfmaflodbieaaGreatDoor
