/- Texts of this proof: K21 K24 M20 M21 M22 M23 M28 G48 S02. -/
import Derived.Test.YtcejfdfmgmcinaaGreatKK20
import Derived.Shelf.SlGeneric
import Derived.Shelf.SlLaysM
set_option linter.all false
set_option maxHeartbeats 8000000
namespace Go.Proofs.YtcejfdfmgmcinaaGreat
section
open Go.RowKit
set_option maxRecDepth 10000
theorem IG (L:List CoD):AC Tryz.prog 101 [AE L] [] (.c (.int .i64 L.length)) []:=by
 have hln:(L.map CoD.cs).length=L.length:=by simp
 refine A6 Tryz.func101 Tryz.ntmps101 hln ?_
 exact Ag (A5 []) Tryz.results101
theorem ST (L:List CoD) (hl:L.length≤1048576) (hz:∀d∈L,EG d.val) (t:CT) (ht:Ft L=0→t.ok∧Seg L 0 t∧t.size=L.length):AC Tryz.prog 69 [AE L] [] (.c (.int .i64 (Ci L t))) []:=by
 have hln:(L.map CoD.cs).length=L.length:=by simp
 have h00:((0:Int) != 0)=false:=rfl
 have hS:=IG L
 have hW:=ED (L.length:Int) 1 900
 by_cases hsz:L.length<1∨900<L.length
 ·have hc:Ci L t=2:=by
   have:Ft L=2:=by unfold Ft;rw[if_pos hsz]
   unfold Ci
   rw[this]
   rfl
  rw[hc]
  have hb:(decide ((L.length:Int)≥1)&&decide ((L.length:Int)≤900))=false:=by
   rw[Bool.and_eq_false_iff]
   rcases hsz with h | h
   ·exact .inl (decide_eq_false (by omega))
   ·exact .inr (decide_eq_false (by omega))
  rw[hb]at hW
  refine A6 Tryz.func69 Tryz.ntmps69 q9 ?_
  refine v7 (A3 [] hS) q9 q9 ?_
  refine v7 (A3 [] hW) q9 q9 ?_
  exact Ag (A5 []) Tryz.results69
 have hb:(decide ((L.length:Int)≥1)&&decide ((L.length:Int)≤900))=true:=by
  rw[Bool.and_eq_true]
  exact⟨decide_eq_true (by omega),decide_eq_true (by omega)⟩
 rw[hb]at hW
 obtain⟨R,hR⟩:∃R,Ci L t=R:=⟨_,rfl⟩
 rw[hR]
 have hhead:Ft L=if CQ 0 L≠0 then CQ 0 L else if C0 L L.length (L.length-1)≠0 then 1 else 0:=by unfold Ft;rw[if_neg hsz]
 refine A6 Tryz.func69 Tryz.ntmps69 q9 ?_
 refine v7 (A3 [] hS) q9 q9 ?_
 refine v7 (A3 [] hW) q9 hln ?_
 refine Ar (κ:=Nat) (fun k=>⟨mkS 0 46 [(0,AE L),(13,AE L),(14,.c (.int .i64 L.length)),(15,.c (.int .i64 k))],[]⟩) (fun k=>k≤L.length∧CQ k (L.drop k)=CQ 0 L) (fun k=>L.length-k) 0 ⟨Nat.zero_le _,by rw[List.drop_zero]⟩ ?_ ?_
 ·exact Ac (Aj.of [] []) hln
 rintro k ⟨hk,hgo⟩
 by_cases hlt:k<L.length
 ·have hdk:decide ((k:Int)<(L.length:Int))=true:=decide_eq_true (by omega)
  have hw:=Ad (k:=k) (by omega)
  obtain⟨hr0,hg0⟩:=EJ L hlt
  have hnd:=LD L[k] (hz _ (List.getElem_mem hlt)) (i:=k) (by omega)
  unfold CoD.av at hnd
  rw[KO L hlt]at hgo
  by_cases hc:Dd L[k] k=0
  ·rw[if_pos hc]at hgo
   rw[hc]at hnd
   generalize L[k]=d at *
   refine Ab (j4 hln hdk hr0 hg0) ?_
   refine v7 (A3 [] hnd) q9 (j2 h00 hw) ?_
   refine⟨k+1,by omega,⟨by omega,hgo⟩,?_⟩
   exact Ac (Aj.of [] []) hw
  ·rw[if_neg hc]at hgo
   have hb:(Dd L[k] k != 0)=true:=E9 hc
   have hRk:Dd L[k] k=R:=by
    rw[←hR]
    unfold Ci
    rw[hhead,←hgo,if_pos hc,if_pos hc]
   rw[hRk]at hb hnd
   clear hgo hc hRk
   generalize L[k]=d at *
   refine Ab (j4 hln hdk hr0 hg0) ?_
   refine v7 (A3 [] hnd) q9 hb ?_
   exact Ag (A5 []) Tryz.results69
 have hdk:decide ((k:Int)<(L.length:Int))=false:=decide_eq_false (by omega)
 rw[List.drop_eq_nil_of_le (by omega)]at hgo
 have hgo:CQ 0 L=0:=hgo.symm
 rw[hgo,if_neg (by simp)]at hhead
 have hL:∀(k:Nat) (h:k<L.length),CoOk L[k] k:=fun k hk=>by
  have:=GA L 0 hgo k hk
  rw[Nat.zero_add]at this
  exact ID this
 have hbg:=QI hL (by omega) (i:=L.length-1) (by omega)
 have hwl:IntKind.i64.wrap ((L.length:Int)-1)=((L.length-1:Nat):Int):=by rw[IntWalk.i64_in _ (by omega)];omega
 clear hgo
 by_cases hb0:C0 L L.length (L.length-1)≠0
 ·have hR1:R=1:=by
   rw[←hR]
   unfold Ci
   rw[hhead,if_pos hb0]
   rfl
  rw[hR1]
  have hb1:=E9 hb0
  clear hhead
  generalize C0 L L.length (L.length-1)=q at *
  refine Ab (j2 hln hdk) ?_
  refine v7 (A3 [] hS) q9 hwl ?_
  refine v7 (A3 [] hbg) q9 hb1 ?_
  exact Ag (A5 []) Tryz.results69
 have hb0:C0 L L.length (L.length-1)=0:=Classical.byContradiction hb0
 rw[hb0,if_neg (by simp)]at hhead
 rw[hb0]at hbg
 obtain⟨t1,t2,t3⟩:=ht hhead
 have hRt:U5 t=R:=by rw[←hR];unfold Ci;rw[hhead,if_neg (by simp)]
 have hlk:=JF (L:=L) (by omega) L.length t 0 [] (by omega) t1 t2 (by simp;omega)
 rw[show 0+t.size-1=L.length-1 by omega,Wd]at hlk
 unfold U5 at hRt
 clear hhead hb0
 generalize t.depth=dp at *
 cases hknv:t.known [] with
 |false =>
  rw[hknv]at hlk hRt
  rw[if_pos rfl]at hRt
  subst hRt
  refine Ab (j2 hln hdk) ?_
  refine v7 (A3 [] hS) q9 hwl ?_
  refine v7 (A3 [] hbg) q9 h00 ?_
  refine v7 (A3 [] hlk) q9 q9 ?_
  exact Ag (A5 []) Tryz.results69
 |true =>
  rw[hknv]at hlk hRt
  rw[if_neg (by decide)]at hRt
  by_cases h120:120<dp
  ·have h9:decide ((dp:Int)>120)=true:=decide_eq_true (by omega)
   rw[if_pos h120]at hRt
   subst hRt
   refine Ab (j2 hln hdk) ?_
   refine v7 (A3 [] hS) q9 hwl ?_
   refine v7 (A3 [] hbg) q9 h00 ?_
   refine v7 (A3 [] hlk) q9 h9 ?_
   exact Ag (A5 []) Tryz.results69
  ·have h9:decide ((dp:Int)>120)=false:=decide_eq_false (by omega)
   rw[if_neg h120]at hRt
   subst hRt
   refine Ab (j2 hln hdk) ?_
   refine v7 (A3 [] hS) q9 hwl ?_
   refine v7 (A3 [] hbg) q9 h00 ?_
   refine v7 (A3 [] hlk) q9 h9 ?_
   exact Ag (A5 []) Tryz.results69
set_option maxRecDepth 10000
mutual
def PT.cs:PT→List C
 | .mk d kids=>[.int .i64 d.op,.int .i64 d.a,.int .i64 d.b,.int .i64 d.c,.int .i64 d.num,.sl (d.val.map CellD.cs),.sl (a2y kids)]
def a2y:List PT→List (List C)
 | []=>[]
 |p::r=>p.cs::a2y r
end
theorem WU:∀(l:List PT),a2y l=l.map PT.cs
 | []=>rfl
 |p::r=>by rw[a2y,WU r];rfl
theorem PT.cs_eq (p:PT):p.cs=[.int .i64 p.d.op,.int .i64 p.d.a,.int .i64 p.d.b,.int .i64 p.d.c,.int .i64 p.d.num,.sl (p.d.val.map CellD.cs),.sl (p.kids.map PT.cs)]:=by
 cases p with
 |mk d kids=>rw[PT.cs,WU];rfl
def PT.av (p:PT):AV:=.agg [.c (.int .i64 p.d.op),.c (.int .i64 p.d.a),.c (.int .i64 p.d.b),.c (.int .i64 p.d.c),.c (.int .i64 p.d.num),.c (.sl (p.d.val.map CellD.cs)),.c (.sl (p.kids.map PT.cs))]
attribute [go_sem] PT.av
theorem B1 (p:PT) (op:Int):AC Tryz.prog 118 [p.av,.c (.int .i64 op)] [] (.c (.bool (p.d.op==op))) []:=by
 generalize hq:(p.d.op==op)=q
 refine A6 Tryz.func118 Tryz.ntmps118 hq ?_
 exact Ag (A5 []) Tryz.results118
theorem Vl {a b:ByteArray}(h:AZ a b=true):AZ b a=false:=by
 cases h2:AZ b a with
 |false=>rfl
 |true =>
  have:=Ey h h2
  rw[CC]at this
  cases this
theorem K0 (x:ByteArray) (r:List ByteArray) (k:ByteArray):CF (x::r) k=if AZ x k then CF r k+1 else 0:=by
 unfold CF
 rw[List.findIdx_cons]
 cases AZ x k<;>rfl
theorem Fo {l:List ByteArray}{k:ByteArray}:BW l k=true↔l[CF l k]? = some k:=by
 unfold BW
 split
 ·rename_i h
  rw[List.getElem?_eq_getElem h,beq_iff_eq,Option.some.injEq]
  exact⟨AM,fun e=>by rw[e]⟩
 ·rename_i h
  rw[List.getElem?_eq_none (by omega)]
  simp
theorem ZH {l:List ByteArray}{k:ByteArray}(h:CF l k<l.length):AZ l[CF l k] k=false:=by
 have h2:(fun x=>!AZ x k) (l[CF l k])=true:=List.findIdx_getElem (w:=h)
 simpa using h2
theorem Ke:∀{l:List ByteArray}{k:ByteArray},Up l→Cj k l=if BW l k then l else l.take (CF l k)++[k]++l.drop (CF l k)
 | [],k,_=>by simp[Cj,BW,CF]
 |x::r,k,h=>by
  have h':=List.pairwise_cons.1 (show List.Pairwise _ (x::r) from h)
  unfold Cj
  split
  ·rename_i hl
   have hx:=Vl hl
   have hp:CF (x::r) k=0:=by rw[K0,hx];rfl
   have hf:BW (x::r) k=false:=by
    cases hf:BW (x::r) k with
    |false=>rfl
    |true =>
     have:=Fo.1 hf
     rw[hp]at this
     have e:x=k:=by simpa using this
     subst e
     rw[CC]at hl
     cases hl
   rw[hf,hp]
   simp
  ·rename_i hl
   split
   ·rename_i he
    have e:k=x:=AM (by simpa using he)
    subst e
    have hp:CF (k::r) k=0:=by rw[K0,CC];rfl
    have hf:BW (k::r) k=true:=Fo.2 (by rw[hp];rfl)
    rw[hf]
    rfl
   ·rename_i he
    have hxk:AZ x k=true:=by
     rcases PV x k with g | g | g
     ·exact g
     ·subst g;exact absurd (by simp) he
     ·exact absurd g hl
    have hp:CF (x::r) k=CF r k+1:=by rw[K0,hxk];rfl
    have hf:BW (x::r) k=BW r k:=by
     have:BW (x::r) k=true↔BW r k=true:=by
      rw[Fo,Fo,hp,List.getElem?_cons_succ]
     cases h1:BW (x::r) k<;>cases h2:BW r k<;>simp_all
    rw[hf,hp,Ke h'.2]
    split
    ·rfl
    ·simp
theorem a5h {l:List ByteArray}(h:Up l) {p:Nat}{k:ByteArray}(hp:l[p]? = some k) (g g':ByteArray→V) (v:V) (hk:g' k=v) (hg:∀x∈l,x≠k→g' x=g x):l.map g'=(l.map g).set p v:=by
 refine List.ext_getElem (by simp) fun i h1 h2=>?_
 have hi:i<l.length:=by simpa using h1
 rw[List.getElem_map,List.getElem_set]
 split
 ·rename_i e
  subst e
  rw[List.getElem?_eq_getElem hi]at hp
  rw[Option.some.inj hp,hk]
 ·rename_i e
  rw[List.getElem_map]
  refine hg _ (List.getElem_mem hi) fun hx=>e ?_
  exact a5m h hp (List.getElem?_eq_some_iff.2 ⟨hi,hx⟩)
def Dw (v:V) (key:ByteArray) (x:V):Int×Option V:=if v.kind=0∨v.kind=6 then Co (I9 (v.keys++[key]) (v.kids++[x])) else Eo 6
theorem El {t:V}(h:t.fit):CH (Co t):=by
 unfold Co
 split
 ·rename_i h0
  exact⟨rfl,a18 h h0⟩
 ·rename_i h0
  exact h0
theorem Xy {l:List V}{m:Nat}(h:∀v∈l,v.count≤m):Aw l≤m*l.length:=by
 induction l with
 |nil=>simp[Aw]
 |cons x l ih =>
  have h1:=h x (by simp)
  have h2:=ih fun v hv=>h v (by simp[hv])
  simp only[Aw,List.length_cons,Nat.mul_add]
  omega
theorem J7 {l:List V}(h:∀v∈l,v.fit):(AY l).fit:=⟨Nat.zero_le _,by simp,fun h=>absurd h (by decide),fun h=>absurd h (by decide),fun _=>rfl,NC.2 h⟩
theorem WR {ks:List ByteArray}{vs:List V}(hl:ks.length=vs.length) (hk:∀k∈ks,k.size≤60) (hv:∀v∈vs,v.fit):(I9 ks vs).fit:=by
 refine⟨Nat.zero_le _,fun k h=>hk k (Ez.1 h),fun h=>absurd h (by decide),fun _=>(List.length_map _).symm,fun h=>absurd rfl h,NC.2 fun v h=>?_⟩
 obtain⟨k,hk',rfl⟩:=List.mem_map.1 h
 obtain⟨j,_,_,h3⟩:=Kg (kids:=vs) hl (Ez.1 hk')
 exact hv _ (List.mem_of_getElem? h3)
theorem F9 {v:V}(h:v.right):∀k∈v.keys,k.size≤60:=ZX (Cd h)
theorem GK {v:V}(h:v.right) (h0:v.kind=0):v.keys=[]∧v.kids=[]:=by
 have:=Ba h.1
 exact⟨this.2.2.2.2.1 (by omega),this.2.2.2.2.2 (by omega) (by omega)⟩
theorem G1 {v:V}(h:v.right) (hk:v.kind=0∨v.kind=6):v.keys.length=v.kids.length:=by
 rcases hk with h0 | h6
 ·rw[(GK h h0).1,(GK h h0).2];rfl
 ·exact (DI h h6).2.2
theorem Oy {v x:V}(h:v.right) (hx:x.right) {key:ByteArray}(hk:Bi key=true) (h6:v.kind=0∨v.kind=6):(I9 (v.keys++[key]) (v.kids++[x])).fit:=by
 refine WR (by rw[List.length_append,List.length_append,G1 h h6];rfl) (fun k hk'=>?_) fun y hy=>?_
 ·rcases List.mem_append.1 hk' with h1 | h1
  ·exact F9 h k h1
  ·rw[List.mem_singleton.1 h1];exact Hc hk
 ·rcases List.mem_append.1 hy with h1 | h1
  ·exact Cd (Bb h h1)
  ·rw[List.mem_singleton.1 h1];exact Cd hx
theorem Ls {v x:V}(h:v.right) (hx:x.right) (key:ByteArray) (h6:v.kind=0∨v.kind=6):Aw (v.kids++[x])≤400∧(I9 (v.keys++[key]) (v.kids++[x])).count≤401:=by
 have h1:=AP v
 have h2:=h.2.1
 have h3:=hx.2.1
 have h4:Aw (v.kids++[x])≤400:=by
  rw[HL]
  simp only[Aw]
  omega
 refine⟨h4,?_⟩
 have h5:=Ia _ (v.keys++[key]) (v.kids++[x]) rfl (by rw[List.length_append,List.length_append,G1 h h6];rfl)
 have h7:=AP (I9 (v.keys++[key]) (v.kids++[x]))
 have h8:(I9 (v.keys++[key]) (v.kids++[x])).kids=(C3 (v.keys++[key])).map (Bp (v.keys++[key]) (v.kids++[x])):=rfl
 rw[h8]at h7
 omega
theorem Jr {v x:V}(h:v.right) (hx:x.right) {key:ByteArray}(hk:Bi key=true):CH (Dw v key x):=by
 unfold Dw
 split
 ·rename_i h6
  exact El (Oy h hx hk h6)
 ·exact BJ (by decide)
theorem S6:∀{l:List V},wfL l↔∀v∈l,v.wf
 | []=>by simp[wfL]
 |v::l=>by simp only[wfL,List.mem_cons,forall_eq_or_imp,S6 (l:=l)]
theorem XD {l:List V}{m:Nat}(h:∀v∈l,v.depth≤m):AW l≤m:=by
 induction l with
 |nil=>exact Nat.zero_le _
 |cons x l ih =>
  have h1:=h x (by simp)
  have h2:=ih fun v hv=>h v (by simp[hv])
  simp only[AW]
  omega
def DJ (n:Int):Int:=(n.natAbs:Int)
theorem S9 (y:Int):(if -y>y then -y else y)=DJ y:=by
 unfold DJ
 split<;>omega
def EW (x y:Int):Bool:=decide (DJ x*DJ y>1000000000000000)
theorem MY {x y:Int}(h:x≠0):decide (DJ y>(1000000000000000:Int).tdiv (DJ x))=EW x y:=by
 unfold EW DJ
 have hx:0<x.natAbs:=by omega
 have h1:(1000000000000000:Int).tdiv ((x.natAbs:Nat):Int)=((1000000000000000 / x.natAbs:Nat):Int):=(Int.ofNat_tdiv 1000000000000000 x.natAbs).symm
 rw[h1]
 have h2:=Nat.div_lt_iff_lt_mul (x:=1000000000000000) (y:=y.natAbs) hx
 have h3:((x.natAbs:Int)*(y.natAbs:Int))=((y.natAbs*x.natAbs:Nat):Int):=by rw[Int.natCast_mul,Int.mul_comm]
 rw[h3]
 apply decide_eq_decide.2
 omega
theorem N5 (x y:Int):EW x y=EW y x:=by unfold EW;rw[Int.mul_comm]
theorem Sf (y:Int):EW 0 y=false:=by unfold EW DJ;simp
theorem LR {x y:Int}(h:EW x y=false):-1000000000000000≤x*y∧x*y≤1000000000000000:=by
 unfold EW DJ at h
 have h2:((x.natAbs:Int)*(y.natAbs:Int))=((x*y).natAbs:Int):=by rw[Int.natAbs_mul,Int.natCast_mul]
 rw[h2]at h
 simp only[decide_eq_false_iff_not]at h
 omega
theorem Kv {x y:Int}(h:-1000000000000000≤x∧x≤1000000000000000):-1000000000000000≤x.tdiv y∧x.tdiv y≤1000000000000000:=by
 have h1:(x.tdiv y).natAbs=x.natAbs / y.natAbs:=Int.natAbs_tdiv x y
 have h2:=Nat.div_le_self x.natAbs y.natAbs
 omega
theorem OH {x y:Int}(h:-1000000000000000≤x∧x≤1000000000000000):-1000000000000000≤x.tmod y∧x.tmod y≤1000000000000000:=by
 have h1:=Int.natAbs_tmod x y
 have h2:=Nat.mod_le x.natAbs y.natAbs
 omega
theorem I6 {k n:Int}{s:ByteArray}(h:AS k n s ByteArray.empty 0=0) (h6:k≠6):(V.mk k n s [] []).right:=by
 refine⟨⟨h,?_,trivial⟩,by simp[V.count,Aw],by simp[V.depth,AW]⟩
 unfold EQ
 rw[if_neg h6]
theorem Dr {n:Int}(h:-1000000000000000≤n∧n≤1000000000000000):(C6 n).right:=by
 refine I6 ?_ (by decide)
 unfold AS
 have h1:inB 3 0 6=true:=by decide
 have h2:inB n (-1000000000000000) 1000000000000000=true:=by unfold inB;simp;omega
 simp[h1,cF,cR,cT,BA,CG,h2,inB]
 omega
def DQ (b:Bool):V:=.mk (bif b then 2 else 1) 0 ByteArray.empty [] []
theorem DR (b:Bool):(DQ b).right:=by
 cases b
 ·exact I6 (by decide +kernel) (by decide)
 ·exact I6 (by decide +kernel) (by decide)
theorem a1b {s:ByteArray}(h:s.size≤200):(D9 s).fit:=⟨h,by simp,fun _=>rfl,fun h=>absurd h (by decide),fun _=>rfl,trivial⟩
theorem Ln (n:Int):(C6 n).fit:=⟨Nat.zero_le _,by simp,fun _=>rfl,fun h=>absurd h (by decide),fun _=>rfl,trivial⟩
def OM (a b:V):Int×Option V :=
 if a.kind=0 then okR b else if b.kind=0 then okR a else
 if a.kind=3∧b.kind=3 then Co (C6 (a.num+b.num)) else
 if a.kind=4∧b.kind=4 then Co (D9 (a.text++b.text)) else
 if a.kind=5∧b.kind=5 then Co (AY (a.kids++b.kids)) else
 if a.kind=6∧b.kind=6 then Co (I9 (a.keys++b.keys) (a.kids++b.kids)) else Eo 6
def IR (a b:List V):List V:=a.filter fun x=>!(b.any fun y=>x.cmp y==0)
def RY (a b:V):Int×Option V :=
 if a.kind=3∧b.kind=3 then Co (C6 (a.num-b.num)) else
 if a.kind=5∧b.kind=5 then okR (AY (IR a.kids b.kids)) else Eo 6
def Ig (op:Int) (a b:V):Int×Option V :=
 if a.kind=3∧b.kind=3 then
  if op=3 then (if EW a.num b.num=true then Eo 3 else okR (C6 (a.num*b.num)))
  else if b.num=0 then Eo 3 else okR (C6 (if op=10 then a.num.tdiv b.num else a.num.tmod b.num))
 else Eo 6
def JZ (op:Int) (a b:V):Int×Option V :=
 if op=1 then OM a b else if op=2 then RY a b else
 if op=3∨op=10∨op=11 then Ig op a b else
 if op=4 then okR (DQ (a.cmp b==0)) else if op=5 then okR (DQ (a.cmp b != 0)) else
 if op=6 then okR (DQ (decide (a.cmp b<0))) else if op=7 then okR (DQ (decide (a.cmp b≤0))) else
 if op=8 then okR (DQ (decide (a.cmp b>0))) else if op=9 then okR (DQ (decide (a.cmp b≥0))) else Eo 1
theorem G2 {a:V}(h:a.right):a.text.size≤60:=by
 obtain⟨h1,_,_⟩:=h
 cases a
 exact Hc ((Jb (c:=⟨_,_,_,ByteArray.empty,_⟩) h1.1).1)
theorem Ww {a b:V}(ha:a.right) (hb:b.right):(D9 (a.text++b.text)).fit:=by
 have h1:=G2 ha
 have h2:=G2 hb
 exact a1b (by rw[ByteArray.size_append];omega)
theorem N3 {a b:V}(ha:a.right) (hb:b.right):(AY (a.kids++b.kids)).fit∧(AY (a.kids++b.kids)).count≤400:=by
 have h1:=ha.2.1
 have h2:=hb.2.1
 have h3:=AP a
 have h4:=AP b
 refine⟨J7 fun v hv=>?_,?_⟩
 ·rcases List.mem_append.1 hv with hv | hv
  ·exact Cd (Bb ha hv)
  ·exact Cd (Bb hb hv)
 ·simp only[AY,V.count,HL]
  omega
theorem Ob {a b:V}(ha:a.right) (hb:b.right) (ha6:a.kind=6) (hb6:b.kind=6):(I9 (a.keys++b.keys) (a.kids++b.kids)).fit∧Aw (a.kids++b.kids)≤400∧(I9 (a.keys++b.keys) (a.kids++b.kids)).count≤401∧(a.keys++b.keys).length=(a.kids++b.kids).length:=by
 have h1:=ha.2.1
 have h2:=hb.2.1
 have h3:=AP a
 have h4:=AP b
 have h5:=G1 ha (.inr ha6)
 have h6:=G1 hb (.inr hb6)
 have hl:(a.keys++b.keys).length=(a.kids++b.kids).length:=by rw[List.length_append,List.length_append];omega
 have hc:Aw (a.kids++b.kids)≤400:=by rw[HL];omega
 refine⟨WR hl (fun k hk=>?_) (fun v hv=>?_),hc,?_,hl⟩
 ·rcases List.mem_append.1 hk with hk | hk
  ·exact F9 ha k hk
  ·exact F9 hb k hk
 ·rcases List.mem_append.1 hv with hv | hv
  ·exact Cd (Bb ha hv)
  ·exact Cd (Bb hb hv)
 ·have:=Ia _ (a.keys++b.keys) (a.kids++b.kids) rfl hl.symm
  simp only[I9,V.count]
  omega
theorem Ki {a b:V}(ha:a.right):(AY (IR a.kids b.kids)).right:=by
 have hm:∀x∈IR a.kids b.kids,x∈a.kids:=fun x hx=>(List.mem_filter.1 hx).1
 have hsub:∀(l:List V) (p:V→Bool),Aw (l.filter p)≤Aw l:=by
  intro l p
  induction l with
  |nil=>exact Nat.le_refl _
  |cons x l ih =>
   rw[List.filter_cons]
   split
   ·simp only[Aw];omega
   ·simp only[Aw];omega
 have hc:=hsub a.kids fun x=>!(b.kids.any fun y=>x.cmp y==0)
 have hd:AW (IR a.kids b.kids)≤AW a.kids:=XD fun x hx=>K7 (hm x hx)
 have hck:=AP a
 have hv:=ha.2.1
 have hlen:=Bq (IR a.kids b.kids)
 have hdn:=K8 a
 have hv2:=ha.2.2
 have hc':Aw (IR a.kids b.kids)≤Aw a.kids:=hc
 refine⟨Un (S6.2 fun x hx=>(Bb ha (hm x hx)).1) (by omega),?_,?_⟩
 ·simp only[AY,V.count];omega
 ·simp only[AY,V.depth];omega
theorem Qv {a b:V}(ha:a.right) (hb:b.right):CH (OM a b):=by
 unfold OM
 split
 ·exact BT hb
 ·split
  ·exact BT ha
  ·split
   ·exact El (Ln _)
   ·split
    ·exact El (Ww ha hb)
    ·split
     ·exact El (N3 ha hb).1
     ·split
      ·rename_i h;exact El (Ob ha hb h.1 h.2).1
      ·exact BJ (by decide)
theorem a5k {a b:V}(ha:a.right):CH (RY a b):=by
 unfold RY
 split
 ·exact El (Ln _)
 ·split
  ·exact BT (Ki ha)
  ·exact BJ (by decide)
theorem Gs {a:V}(h:a.right):-1000000000000000≤a.num∧a.num≤1000000000000000:=by
 obtain⟨h1,_,_⟩:=h
 cases a with
 |mk k n s ks vs =>
  have h2:=h1.1
  unfold AS at h2
  simp only[V.num]
  by_cases hr:cR n (vs.length:Int)=true
  ·exfalso
   revert h2
   simp only[hr]
   split<;>(try split)<;>intro h2<;>revert h2<;>simp
  ·simp only[cR,inB]at hr
   simp at hr
   omega
theorem YR (op:Int) {a b:V}(ha:a.right):CH (Ig op a b):=by
 have hn:=Gs ha
 unfold Ig
 split
 ·split
  ·split
   ·exact BJ (by decide)
   ·rename_i h;exact BT (Dr (LR (by simpa using h)))
  ·split
   ·exact BJ (by decide)
   ·refine BT (Dr ?_)
    split
    ·exact Kv hn
    ·exact OH hn
 ·exact BJ (by decide)
theorem Qz (op:Int) {a b:V}(ha:a.right) (hb:b.right):CH (JZ op a b):=by
 unfold JZ
 repeat' split
 all_goals first | exact Qv ha hb | exact a5k ha | exact YR op ha | exact BT (DR _) | exact BJ (by decide)
def a52:List ByteArray:=[⟨#[97]⟩,⟨#[98]⟩,⟨#[99]⟩,⟨#[105,100]⟩,ByteArray.empty,⟨#[120,32,121]⟩,⟨#[97,98]⟩,⟨#[34,113,92]⟩]
theorem AC.of_mut {P:Program}{f:FuncId}{es:Nat}{e:TypeId}{rows rows':List (List C)}(hc:Bm rows'=true)
  (h:∀(S:Nat→Prop) (w:World) (v:Value) (vrows:List (List Value)),An w S rows vrows []→(∀x∈vrows,x.length=es)→w.ownsRow 0 e es v rows.length vrows.flatten→Calls P f #[v] w fun e1 w'=>e1=.returned (.tuple #[])∧w.grownBy w' v.ownBlock∧∃vrows',An w' (fun _=>False) rows' vrows' []∧(∀x∈vrows',x.length=es)∧w'.ownsRow 0 e es v rows'.length vrows'.flatten) :
  AC P f [.own (0,0)] [((0,0),.row false es e rows)] (.tup []) [((0,0),.row false es e rows')]:=by
 intro Γ vals hE hA
 obtain⟨v,vs,rfl,hv,rfl⟩:=hA
 obtain⟨_,o,ho,hk⟩:=hv
 obtain⟨_,rfl⟩:=MV ho
 obtain⟨vrows,bs,h1,h2,h3,h4,h5,h6⟩:=hE.objs (0,0) _ rfl
 have hbs:=h2 rfl
 subst hbs
 have hkv:=hk (by simp)
 rw[←hkv]at h4 h5 h6
 refine (h _ _ _ _ h1 h3 h4).mono ?_
 rintro e1 w' ⟨rfl,hg,vrows',g1,g2,g3⟩
 have hob:∀b,b < Γ.w.heap.size→Γ.ow b=none→some b≠v.ownBlock:=by
  intro b _ hb hv
  have:=h6 b (by simp[←hv])
  rw[hb]at this
  cases this
 refine⟨.tuple #[],Γ.ow,Γ.κ,rfl,⟨⟨[],rfl,rfl⟩,?_,?_,hg.os,hg.tape,hg.output,hg.size,?_,fun i o o' _ _=>rfl⟩⟩
 ·intro i o hi
  obtain⟨rfl,rfl⟩:=MV hi
  refine⟨vrows',[],An.closed hc g1,fun _=>rfl,g2,by rw[←hkv];exact g3,by rw[←hkv];exact h5,fun b hb=>h6 b (by rw[hkv];exact hb)⟩
 ·intro b i hbi
  obtain⟨k1,o,k2,k3⟩:=hE.own b i hbi
  obtain⟨rfl,_⟩:=MV k2
  exact⟨Nat.lt_of_lt_of_le k1 hg.size,_,rfl,rfl⟩
 ·intro b hl hb
  exact⟨hg.block b hl (hob b hl hb),hb⟩
end
section
open Go.RowKit Go.Shelf
def Zg:Ren where
 f:=fun x=>match x with
  | 6=>278
  | 8=>254
  | 9=>340
  | 19=>325
  | 20=>326
  | 21=>377
  | 22=>378
  | 23=>379
  | 24=>380
  | 25=>381
  | 26=>382
  | 27=>375
  | 28=>383
  | 29=>384
  | 36=>400
  | 31=>369
  | 32=>370
  | 37=>401
  | 38=>402
  | 39=>374
  | 41=>407
  |n=>n
 t:=fun x=>match x with
  | 27=>125
  | 29=>9
  | 3=>3
  | 32=>271
  | 26=>125
  | 0=>0
  | 44=>341
  | 46=>343
  | 4=>4
  | 36=>333
  | 35=>332
  | 41=>338
  | 5=>5
  | 9=>9
  | 53=>376
  | 57=>380
  | 63=>401
  | 64=>133
  |n=>n
 g:=fun n=>n
theorem OA:SlLaysM.n6 Tryz.prog Zg where
 mixed:=DG
 f6:=⟨Tryz.f278.name,by kernel_rfl,by kernel_rfl⟩
 f8:=by kernel_rfl
 f9:=⟨Tryz.f340.name,by kernel_rfl,by kernel_rfl⟩
 f19:=by kernel_rfl
 f20:=by kernel_rfl
 f21:=⟨Tryz.f377.name,by kernel_rfl,by kernel_rfl⟩
 f22:=⟨Tryz.f378.name,by kernel_rfl,by kernel_rfl⟩
 f23:=⟨Tryz.f379.name,by kernel_rfl,by kernel_rfl⟩
 f24:=⟨Tryz.f380.name,by kernel_rfl,by kernel_rfl⟩
 f25:=⟨Tryz.f381.name,by kernel_rfl,by kernel_rfl⟩
 f26:=⟨Tryz.f382.name,by kernel_rfl,by kernel_rfl⟩
 f27:=⟨Tryz.f375.name,by kernel_rfl,by kernel_rfl⟩
 f28:=⟨Tryz.f383.name,by kernel_rfl,by kernel_rfl⟩
 f29:=⟨Tryz.f384.name,by kernel_rfl,by kernel_rfl⟩
 f31:=by kernel_rfl
 f32:=by kernel_rfl
 f36:=⟨Tryz.f400.name,by kernel_rfl,by kernel_rfl⟩
 f37:=⟨Tryz.f401.name,by kernel_rfl,by kernel_rfl⟩
 f38:=⟨Tryz.f402.name,by kernel_rfl,by kernel_rfl⟩
 f39:=⟨Tryz.f374.name,by kernel_rfl,by kernel_rfl⟩
 f41:=⟨Tryz.f407.name,by kernel_rfl,by kernel_rfl⟩
 t0:=Tryz.underlying0
 a0:=Tryz.isAgg0
 z0:=Tryz.sizeOf0
 v0:=Tryz.zeroValue0
 t3:=Tryz.underlying3
 a3:=Tryz.isAgg3
 z3:=Tryz.sizeOf3
 v3:=Tryz.zeroValue3
 t4:=Tryz.underlying4
 a4:=Tryz.isAgg4
 z4:=Tryz.sizeOf4
 v4:=Tryz.zeroValue4
 t5:=Tryz.underlying5
 a5:=Tryz.isAgg5
 z5:=Tryz.sizeOf5
 v5:=Tryz.zeroValue5
 t9:=Tryz.underlying9
 a9:=Tryz.isAgg9
 z9:=Tryz.sizeOf9
 v9:=Tryz.zeroValue9
 t26:=Tryz.underlying125
 a26:=Tryz.isAgg125
 z26:=Tryz.sizeOf125
 v26:=Tryz.zeroValue125
 t27:=Tryz.underlying125
 a27:=Tryz.isAgg125
 z27:=Tryz.sizeOf125
 v27:=Tryz.zeroValue125
 t29:=Tryz.underlying9
 a29:=Tryz.isAgg9
 z29:=Tryz.sizeOf9
 v29:=Tryz.zeroValue9
 t32:=Tryz.underlying271
 a32:=Tryz.isAgg271
 z32:=Tryz.sizeOf271
 v32:=Tryz.zeroValue271
 t35:=Tryz.underlying332
 a35:=Tryz.isAgg332
 z35:=Tryz.sizeOf332
 v35:=Tryz.zeroValue332
 t36:=Tryz.underlying333
 a36:=Tryz.isAgg333
 z36:=Tryz.sizeOf333
 v36:=Tryz.zeroValue333
 t41:=Tryz.underlying338
 a41:=Tryz.isAgg338
 z41:=Tryz.sizeOf338
 v41:=Tryz.zeroValue338
 t44:=Tryz.underlying341
 a44:=Tryz.isAgg341
 z44:=Tryz.sizeOf341
 v44:=Tryz.zeroValue341
 t46:=Tryz.underlying343
 a46:=Tryz.isAgg343
 z46:=Tryz.sizeOf343
 v46:=Tryz.zeroValue343
 t53:=Tryz.underlying376
 a53:=Tryz.isAgg376
 z53:=Tryz.sizeOf376
 v53:=Tryz.zeroValue376
 t57:=Tryz.underlying380
 a57:=Tryz.isAgg380
 z57:=Tryz.sizeOf380
 v57:=Tryz.zeroValue380
 t63:=Tryz.underlying401
 a63:=Tryz.isAgg401
 z63:=Tryz.sizeOf401
 v63:=Tryz.zeroValue401
 t64:=Tryz.underlying133
 a64:=Tryz.isAgg133
 z64:=Tryz.sizeOf133
 v64:=Tryz.zeroValue133
end
end Go.Proofs.YtcejfdfmgmcinaaGreat
