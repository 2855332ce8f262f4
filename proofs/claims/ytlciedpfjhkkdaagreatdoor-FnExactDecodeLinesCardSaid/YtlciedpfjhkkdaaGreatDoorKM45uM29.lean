/- Texts of this proof: M45 G20 G21 M20 M21 M22 M23 M28 M29. -/
import Derived.Test.YtlciedpfjhkkdaaGreatDoorKM2
import Derived.Test.YtlciedpfjhkkdaaGreatDoorKG04uL1
set_option linter.all false
set_option maxHeartbeats 8000000
namespace Go.Proofs.YtlciedpfjhkkdaaGreatDoor
open Go.RowKit
def bAt (s:ByteArray) (i:Nat):Nat:=match s[i]? with
 |some b=>b.toNat
 |none=>256
theorem Ar {s:ByteArray}{i:Nat}(h:i<s.size):∃b:UInt8,s[i]? = some b∧bAt s i=b.toNat:=by
 have h1:s[i]? = some s[i]:=getElem?_pos s i h
 exact⟨s[i],h1,by unfold bAt;rw[h1]⟩
theorem Bn {s:ByteArray}{i:Nat}(h:s.size≤i):bAt s i=256:=by
 have h1:s[i]? = none:=getElem?_neg s i (by omega)
 unfold bAt
 rw[h1]
theorem C5 {s:ByteArray}{i:Nat}(h:bAt s i<256):i<s.size:=by
 rcases Nat.lt_or_ge i s.size with h1 | h1
 ·exact h1
 ·rw[Bn h1]at h;omega
theorem Sm (s:ByteArray) (i:Nat):bAt s i≤256:=by
 rcases Nat.lt_or_ge i s.size with h1 | h1
 ·obtain⟨b,_,h2⟩:=Ar h1
  have:=b.toNat_lt
  omega
 ·rw[Bn h1];exact Nat.le_refl _
def Ce (n:Nat):Bool:=n==32||n==9||n==10||n==13
def AJ (n:Nat):Bool:=decide (48≤n)&&decide (n≤57)
theorem La {n:Nat}(h:Ce n=true):n<256:=by
 unfold Ce at h
 simp only[Bool.or_eq_true,beq_iff_eq]at h
 omega
theorem DL {n:Nat}(h:AJ n=true):48≤n∧n≤57:=by
 unfold AJ at h
 simpa using h
def Aa (s:ByteArray) (i:Nat):Nat:=if h:Ce (bAt s i)=true then Aa s (i+1) else i
termination_by s.size-i
decreasing_by
 have:=C5 (La h)
 omega
theorem Fo {s:ByteArray}{i:Nat}(h:Ce (bAt s i)=true):Aa s i=Aa s (i+1):=by rw[Aa,dif_pos h]
theorem CI {s:ByteArray}{i:Nat}(h:Ce (bAt s i)=false):Aa s i=i:=by rw[Aa,dif_neg (by simp[h])]
theorem RM {s:ByteArray}:∀(n i:Nat),s.size-i≤n→i≤s.size→i≤Aa s i∧Aa s i≤s.size∧Ce (bAt s (Aa s i))=false:=by
 intro n
 induction n with
 |zero =>
  intro i hn hi
  have hb:Ce (bAt s i)=false:=by rw[Bn (by omega)];rfl
  rw[CI hb]
  exact⟨Nat.le_refl _,hi,hb⟩
 |succ n ih =>
  intro i hn hi
  cases hb:Ce (bAt s i) with
  |false=>rw[CI hb];exact⟨Nat.le_refl _,hi,hb⟩
  |true =>
   have hlt:=C5 (La hb)
   rw[Fo hb]
   obtain⟨h1,h2,h3⟩:=ih (i+1) (by omega) (by omega)
   exact⟨by omega,h2,h3⟩
theorem AA {s:ByteArray}{i:Nat}(h:i≤s.size):i≤Aa s i∧Aa s i≤s.size∧Ce (bAt s (Aa s i))=false:=RM _ i (Nat.le_refl _) h
theorem De {s:ByteArray}{i:Nat}(h:i≤s.size):Aa s (Aa s i)=Aa s i:=CI (AA h).2.2
def CA (s:ByteArray) (i:Nat):Nat:=if h:AJ (bAt s i)=true then CA s (i+1) else i
termination_by s.size-i
decreasing_by
 have h1:=DL h
 have:=C5 (s:=s) (i:=i) (by omega)
 omega
theorem HX {s:ByteArray}{i:Nat}(h:AJ (bAt s i)=true):CA s i=CA s (i+1):=by rw[CA,dif_pos h]
theorem E1 {s:ByteArray}{i:Nat}(h:AJ (bAt s i)=false):CA s i=i:=by rw[CA,dif_neg (by simp[h])]
theorem R7 {s:ByteArray}:∀(n i:Nat),s.size-i≤n→i≤s.size→i≤CA s i∧CA s i≤s.size∧AJ (bAt s (CA s i))=false∧∀j,i≤j→j<CA s i→AJ (bAt s j)=true:=by
 intro n
 induction n with
 |zero =>
  intro i hn hi
  have hb:AJ (bAt s i)=false:=by rw[Bn (by omega)];rfl
  rw[E1 hb]
  exact⟨Nat.le_refl _,hi,hb,fun j h1 h2=>by omega⟩
 |succ n ih =>
  intro i hn hi
  cases hb:AJ (bAt s i) with
  |false=>rw[E1 hb];exact⟨Nat.le_refl _,hi,hb,fun j h1 h2=>by omega⟩
  |true =>
   have h0:=DL hb
   have hlt:=C5 (s:=s) (i:=i) (by omega)
   rw[HX hb]
   obtain⟨h1,h2,h3,h4⟩:=ih (i+1) (by omega) (by omega)
   refine⟨by omega,h2,h3,fun j g1 g2=>?_⟩
   by_cases hj:j=i
   ·rw[hj];exact hb
   ·exact h4 j (by omega) g2
theorem Ht {s:ByteArray}{i:Nat}(h:i≤s.size):i≤CA s i∧CA s i≤s.size∧AJ (bAt s (CA s i))=false∧∀j,i≤j→j<CA s i→AJ (bAt s j)=true:=R7 _ i (Nat.le_refl _) h
def AU (s:ByteArray) (a:Nat):Nat→Nat
 | 0=>0
 |k+1=>AU s a k*10+(bAt s (a+k)-48)
theorem NT {s:ByteArray}{a:Nat}:∀k,(∀j,a≤j→j<a+k→AJ (bAt s j)=true)→AU s a k<10 ^ k
 | 0,_=>by simp[AU]
 |k+1,h=>by
  have h1:=NT k fun j g1 g2=>h j g1 (by omega)
  have h2:=DL (h (a+k) (by omega) (by omega))
  simp only[AU,Nat.pow_succ]
  omega
inductive Rd (α:Type) where
 |ok (v:α) (e:Nat)
 |bad (c:Int) (p:Nat)
def Au (s:ByteArray) (i:Nat):Nat:=if bAt s i=45 then i+1 else i
def AF (s:ByteArray) (i:Nat):Nat:=if bAt s (Au s i)=48 then Au s i+1 else CA s (Au s i)
def Dy (s:ByteArray) (i:Nat):Int:=if bAt s i=45 then -((AU s (Au s i) (AF s i-Au s i):Nat):Int) else ((AU s (Au s i) (AF s i-Au s i):Nat):Int)
def D3 (s:ByteArray) (i:Nat):Bool:=decide (16<AF s i-Au s i)||decide (1000000000000000<AU s (Au s i) (AF s i-Au s i))
def FW (n:Nat):Bool:=n==46||n==101||n==69
def KM (s:ByteArray) (i:Nat):Rd Int :=
 if AJ (bAt s (Au s i))=false then .bad 5 (Au s i) else if D3 s i then .bad 3 i else if FW (bAt s (AF s i)) then .bad 3 (AF s i) else .ok (Dy s i) (AF s i)
def Bx (n:Nat):ByteArray:=⟨#[UInt8.ofNat n]⟩
def AL (n:Nat):Int:=if AJ n then (n:Int)-48 else if decide (97≤n)&&decide (n≤102) then (n:Int)-87 else if decide (65≤n)&&decide (n≤70) then (n:Int)-55 else -1
def Eb (s:ByteArray) (i:Nat):Rd Nat :=
 if bAt s (i+1)=34∨bAt s (i+1)=92∨bAt s (i+1)=47 then .ok (bAt s (i+1)) (i+2)
 else if bAt s (i+1)≠117 then .bad 5 (i+1) else if bAt s (i+2)≠48 then .bad 5 (i+2) else if bAt s (i+3)≠48 then .bad 5 (i+3)
 else if AL (bAt s (i+4))<0 then .bad 5 (i+4) else if AL (bAt s (i+5))<0 then .bad 5 (i+5)
 else if 32≤16*AL (bAt s (i+4))+AL (bAt s (i+5))∧16*AL (bAt s (i+4))+AL (bAt s (i+5))≤126 then .ok (16*AL (bAt s (i+4))+AL (bAt s (i+5))).toNat (i+6) else .bad 5 (i+4)
def Dx (s:ByteArray) (from_:Nat):Nat→Nat→ByteArray→Rd ByteArray
 | 0,_,_=>.bad 5 s.size
 |n+1,i,out=>if s.size≤i then .bad 5 s.size else if bAt s i=34 then (if 60<out.size then .bad 2 from_ else .ok out (i+1))
  else if bAt s i<32∨126<bAt s i then .bad 5 i else if bAt s i≠92 then Dx s from_ n (i+1) (out++Bx (bAt s i))
  else match Eb s i with
   | .bad c p=>.bad c p
   | .ok b e=>Dx s from_ n e (out++Bx b)
def Dl (s:ByteArray) (i:Nat):Rd ByteArray:=if bAt s i≠34 then .bad 5 i else Dx s i (s.size+1) (i+1) ByteArray.empty
def C3 (s:ByteArray) (v:V) (i:Nat):List Nat→Nat→Rd V
 | [],k=>.ok v (i+k)
 |b::r,k=>if bAt s (i+k)=b then C3 s v i r (k+1) else .bad 5 (i+k)
def Bs (k:Int):V:=.mk k 0 ByteArray.empty [] []
def HP (s:ByteArray) (i:Nat):Rd ByteArray:=match Dl s i with
 | .bad c p=>.bad c p
 | .ok k e=>if bAt s (Aa s e)≠58 then .bad 5 (Aa s e) else .ok k (Aa s (Aa s e+1))
def B0 (s:ByteArray) (rd:Nat→Rd V) (obj:Bool):Nat→Nat→Bool→List ByteArray→List V→Rd V
 | 0,_,_,_,_=>.bad 5 s.size
 |n+1,i,first,keys,kids =>
  if bAt s i=(if obj then 125 else 93) then .ok (if obj then Gu keys kids else CX kids) (i+1)
  else if first=false∧bAt s i≠44 then .bad 5 i
  else match (if obj then HP s (if first then i else Aa s (i+1)) else .ok ByteArray.empty (if first then i else Aa s (i+1))) with
   | .bad c p=>.bad c p
   | .ok k e=>match rd e with
    | .bad c p=>.bad c p
    | .ok v e2=>B0 s rd obj n (Aa s e2) false (if obj then keys++[k] else keys) (kids++[v])
def Cn:Nat→ByteArray→Nat→Rd V
 | 0,s,i=>if s.size≤i then .bad 5 s.size else .bad 7 i
 |k+1,s,i=>if s.size≤i then .bad 5 s.size
  else if bAt s i=110 then C3 s (Bs 0) i [110,117,108,108] 0
  else if bAt s i=102 then C3 s (Bs 1) i [102,97,108,115,101] 0
  else if bAt s i=116 then C3 s (Bs 2) i [116,114,117,101] 0
  else if bAt s i=91 then B0 s (Cn k s) false (s.size+1) (Aa s (i+1)) true [] []
  else if bAt s i=123 then B0 s (Cn k s) true (s.size+1) (Aa s (i+1)) true [] []
  else if bAt s i=34 then (match Dl s i with
   | .bad c p=>.bad c p
   | .ok t e=>.ok (J7 t) e)
  else match KM s i with
   | .bad c p=>.bad c p
   | .ok n e=>.ok (FT n) e
def Ba (s:ByteArray):(Int×Nat)×Option V :=
 if 4000<s.size then ((2,0),none) else match Cn 20 s (Aa s 0) with
  | .bad c p=>((c,p),none)
  | .ok v e=>if Aa s e<s.size then ((5,Aa s e),none) else if 200<v.count then ((2,0),none) else ((0,0),some v)
def TD (c:Int) (t:V):AV:=.agg [.c (.int .i64 c),.c (.int .i64 t.kind),.c (.int .i64 t.num),.c (.str t.text),.c (.sl (t.keys.map A8)),.c (.sl (t.kids.map V.cs))]
theorem R8 (c:Int) (t:V):TD c t=.agg [.c (.int .i64 c),.c (.int .i64 t.kind),.c (.int .i64 t.num),.c (.str t.text),.c (.sl (t.keys.map A8)),.c (.sl (t.kids.map V.cs))]:=rfl
theorem QJ:Nz.av=.agg [.c (.int .i64 0),.c (.int .i64 0),.c (.str ByteArray.empty),.c (.sl []),.c (.sl [])]:=rfl
attribute [go_sem] R8
set_option maxRecDepth 10000
theorem RT:AC Tryz.prog 51 [] [] Nz.av []:=by
 rw[QJ]
 refine A7 Tryz.func51 Tryz.ntmps51 ?_
 refine A0 trivial ?_
 exact Al (A6 []) Tryz.results51
theorem L1:∀(m:Nat) (t:V),t.count≤m→t.count≤500000→AC Tryz.prog 82 [t.av] [] (.c (.int .i64 t.count)) []:=by
 intro m
 induction m with
 |zero=>intro t hm _;have:=GE t;omega
 |succ m ih =>
  intro t hm hM
  have hkc:=CF t
  have hkl:=BH t.kids
  obtain⟨R,hR⟩:∃R:Nat→Nat,∀k,R k=1+Am (t.kids.take k):=⟨_,fun _=>rfl⟩
  have h0:R 0=1:=by rw[hR];simp[Am]
  refine A7 Tryz.func82 Tryz.ntmps82 ?_
  refine A0 trivial ?_
  refine AH (κ:=Nat) (fun k=>⟨mkS 0 19 [(1,.ptr (1,0) 0),(3,.c (.int .i64 (R k))),(7,.c (.sl (t.kids.map V.cs))),(8,.c (.int .i64 t.kids.length)),(9,.c (.int .i64 k))],
    [((1,0),.box [.c (.int .i64 t.kind),.c (.int .i64 t.num),.c (.str t.text),.c (.sl (t.keys.map A8)),.c (.sl (t.kids.map V.cs))])]⟩)
   (fun k=>k≤t.kids.length) (fun k=>t.kids.length-k) 0 (Nat.zero_le _) ?_ ?_
  ·exact Ao (Ay.of [((1,0),(1,0))] []) h0
  ·intro k hk
   by_cases hlt:k<t.kids.length
   ·have hd:decide ((k:Int)<(t.kids.length:Int))=true:=by simpa using hlt
    have hr:Aj (t.kids.map V.cs) 5 k=true:=by simp[Aj,hlt,V.cs_eq]
    have hg:(t.kids.map V.cs)[k]? = some t.kids[k].cs:=by simp[hlt]
    have hmem:=CM (List.getElem_mem hlt)
    have hRk:R (k+1)=R k+t.kids[k].count:=by rw[hR,hR,List.take_succ_eq_append_getElem hlt,CY];omega
    have hRl:R (k+1)≤t.count:=by rw[hR];have:=Ey t.kids (k+1);omega
    have hw:=Ae (k:=k) (by omega)
    generalize t.kids[k]=u at *
    have hi:=ih u (by omega) (by omega)
    have hs:IntKind.i64.wrap ((R k:Int)+(u.count:Int))=((R (k+1):Nat):Int):=by rw[IntWalk.i64_in _ (by omega)];omega
    refine A0 (j3 hd hr hg) ?_
    refine w7 (A4 [] hi) trivial ?_
    refine A0 (j2 hs hw) ?_
    refine⟨k+1,by omega,by omega,?_⟩
    exact Ao (Ay.of [((1,0),(1,0))] []) hs
   ·have hd:decide ((k:Int)<(t.kids.length:Int))=false:=by simpa using hlt
    have hke:R k=t.count:=by rw[hR,List.take_of_length_le (by omega)];omega
    refine A0 hd ?_
    exact A6 [] (by simp only[Tryz.results82,go_sem,Nat.reduceBEq,Nat.reduceLT];exact rfl) (by simp only[go_sem,Nat.reduceEqDiff,Nat.reduceAdd,Nat.reduceSub,Nat.reduceLeDiff,Nat.reduceMul,Nat.reduceBEq,Nat.reduceLT,Int.reduceToNat,reduceCtorEq,hke]) rfl
set_option maxRecDepth 10000
def Cu (ks:List ByteArray) (key:ByteArray):Nat:=ks.findIdx fun k=>!Br k key
theorem M3 (ks:List ByteArray) (key:ByteArray):Cu ks key≤ks.length:=List.findIdx_le_length
theorem Pb {ks:List ByteArray}{key:ByteArray}{t:Nat}(h:t<Cu ks key):Br (ks[t]'(by have:=M3 ks key;omega)) key=true:=by
 have:=List.not_of_lt_findIdx h
 simpa using this
def BF (ks:List ByteArray) (key:ByteArray):Bool:=if h:Cu ks key<ks.length then ks[Cu ks key].toList==key.toList else false
theorem Na {a b:ByteArray}(h:Br a b=true):Br b a=false:=by
 cases h2:Br b a with
 |false=>rfl
 |true =>
  have:=DF h h2
  rw[Bq]at this
  cases this
theorem Fk (x:ByteArray) (r:List ByteArray) (k:ByteArray):Cu (x::r) k=if Br x k then Cu r k+1 else 0:=by
 unfold Cu
 rw[List.findIdx_cons]
 cases Br x k<;>rfl
theorem D2 {l:List ByteArray}{k:ByteArray}:BF l k=true↔l[Cu l k]? = some k:=by
 unfold BF
 split
 ·rename_i h
  rw[List.getElem?_eq_getElem h,beq_iff_eq,Option.some.injEq]
  exact⟨Aw,fun e=>by rw[e]⟩
 ·rename_i h
  rw[List.getElem?_eq_none (by omega)]
  simp
theorem PU {l:List ByteArray}{k:ByteArray}(h:Cu l k<l.length):Br l[Cu l k] k=false:=by
 have h2:(fun x=>!Br x k) (l[Cu l k])=true:=List.findIdx_getElem (w:=h)
 simpa using h2
theorem Fj:∀{l:List ByteArray}{k:ByteArray},Up l→B6 k l=if BF l k then l else l.take (Cu l k)++[k]++l.drop (Cu l k)
 | [],k,_=>by simp[B6,BF,Cu]
 |x::r,k,h=>by
  have h':=List.pairwise_cons.1 (show List.Pairwise _ (x::r) from h)
  unfold B6
  split
  ·rename_i hl
   have hx:=Na hl
   have hp:Cu (x::r) k=0:=by rw[Fk,hx];rfl
   have hf:BF (x::r) k=false:=by
    cases hf:BF (x::r) k with
    |false=>rfl
    |true =>
     have:=D2.1 hf
     rw[hp]at this
     have e:x=k:=by simpa using this
     subst e
     rw[Bq]at hl
     cases hl
   rw[hf,hp]
   simp
  ·rename_i hl
   split
   ·rename_i he
    have e:k=x:=Aw (by simpa using he)
    subst e
    have hp:Cu (k::r) k=0:=by rw[Fk,Bq];rfl
    have hf:BF (k::r) k=true:=D2.2 (by rw[hp];rfl)
    rw[hf]
    rfl
   ·rename_i he
    have hxk:Br x k=true:=by
     rcases JQ x k with g | g | g
     ·exact g
     ·subst g;exact absurd (by simp) he
     ·exact absurd g hl
    have hp:Cu (x::r) k=Cu r k+1:=by rw[Fk,hxk];rfl
    have hf:BF (x::r) k=BF r k:=by
     have:BF (x::r) k=true↔BF r k=true:=by
      rw[D2,D2,hp,List.getElem?_cons_succ]
     cases h1:BF (x::r) k<;>cases h2:BF r k<;>simp_all
    rw[hf,hp,Fj h'.2]
    split
    ·rfl
    ·simp
theorem SE {l:List ByteArray}(h:Up l) {p:Nat}{k:ByteArray}(hp:l[p]? = some k) (g g':ByteArray→V) (v:V) (hk:g' k=v) (hg:∀x∈l,x≠k→g' x=g x):l.map g'=(l.map g).set p v:=by
 refine List.ext_getElem (by simp) fun i h1 h2=>?_
 have hi:i<l.length:=by simpa using h1
 rw[List.getElem_map,List.getElem_set]
 split
 ·rename_i e
  subst e
  rw[List.getElem?_eq_getElem hi]at hp
  rw[Option.some.inj hp,hk]
 ·rename_i e
  rw[List.getElem_map]
  refine hg _ (List.getElem_mem hi) fun hx=>e ?_
  exact SN h hp (List.getElem?_eq_some_iff.2 ⟨hi,hx⟩)
theorem Rt {l:List V}(h:∀v∈l,v.fit):(CX l).fit:=⟨Nat.zero_le _,by simp,fun h=>absurd h (by decide),fun h=>absurd h (by decide),fun _=>rfl,IK.2 h⟩
theorem S3 {ks:List ByteArray}{vs:List V}(hl:ks.length=vs.length) (hk:∀k∈ks,k.size≤60) (hv:∀v∈vs,v.fit):(Gu ks vs).fit:=by
 refine⟨Nat.zero_le _,fun k h=>hk k (BD.1 h),fun h=>absurd h (by decide),fun _=>(List.length_map _).symm,fun h=>absurd rfl h,IK.2 fun v h=>?_⟩
 obtain⟨k,hk',rfl⟩:=List.mem_map.1 h
 obtain⟨j,_,_,h3⟩:=Eh (kids:=vs) hl (BD.1 hk')
 exact hv _ (List.mem_of_getElem? h3)
theorem PZ:∀{l:List ByteArray}{p:Option ByteArray},Up l→(∀k∈l,∀q,p=some q→Br q k=true)→asc p l
 | [],p,_,_=>by unfold asc;trivial
 |k::l,p,h,hp=>by
  have h':=List.pairwise_cons.1 (show List.Pairwise _ (k::l) from h)
  have ih:asc (some k) l:=PZ h'.2 fun x hx q hq=>by cases hq;exact h'.1 x hx
  cases p with
  |none=>exact ih
  |some q=>exact⟨hp k (by simp) q rfl,ih⟩
theorem Kg:∀{l:List V},wfL l↔∀v∈l,v.wf
 | []=>by simp[wfL]
 |v::l=>by simp only[wfL,List.mem_cons,forall_eq_or_imp,Kg (l:=l)]
theorem JX {l:List V}{m:Nat}(h:∀v∈l,v.depth≤m):CC l≤m:=by
 induction l with
 |nil=>exact Nat.zero_le _
 |cons x l ih =>
  have h1:=h x (by simp)
  have h2:=ih fun v hv=>h v (by simp[hv])
  simp only[CC]
  omega
theorem SC {ks:List ByteArray}{vs:List V}(hl:ks.length=vs.length) (hk:∀k∈ks,BR k=true) (hu:Up ks) (hv:∀v∈vs,v.wf) (hn:vs.length≤200):(V.mk 6 0 ByteArray.empty ks vs).wf:=by
 refine⟨?_,?_,Kg.2 hv⟩
 ·unfold Ct
  have h1:inB 6 0 6=true:=by decide
  have h2:inB (vs.length:Int) 0 200=true:=by unfold inB;simp;omega
  simp[h1,cF,cR,cT,Co,Ci,h2,inB]
  omega
 ·unfold GD
  rw[if_pos rfl]
  exact⟨hl,hk,PZ hu (by simp)⟩
theorem I2 {k n:Int}{s:ByteArray}(h:Ct k n s ByteArray.empty 0=0) (h6:k≠6):(V.mk k n s [] []).right:=by
 refine⟨⟨h,?_,trivial⟩,by simp[V.count,Am],by simp[V.depth,CC]⟩
 unfold GD
 rw[if_neg h6]
theorem MV {n:Int}(h:-1000000000000000≤n∧n≤1000000000000000):(FT n).right:=by
 refine I2 ?_ (by decide)
 unfold Ct
 have h1:inB 3 0 6=true:=by decide
 have h2:inB n (-1000000000000000) 1000000000000000=true:=by unfold inB;simp;omega
 simp[h1,cF,cR,cT,Co,Ci,h2,inB]
 omega
def Sf (b:Bool):V:=.mk (bif b then 2 else 1) 0 ByteArray.empty [] []
def TJ:List ByteArray:=[⟨#[97]⟩,⟨#[98]⟩,⟨#[99]⟩,⟨#[105,100]⟩,ByteArray.empty,⟨#[120,32,121]⟩,⟨#[97,98]⟩,⟨#[34,113,92]⟩]
theorem N4 {s:ByteArray}(h:BR s=true):(J7 s).right:=by
 refine I2 ?_ (by decide)
 unfold Ct
 have h2:inB 0 (-1000000000000000) 1000000000000000=true:=by decide
 simp[cF,cR,cT,Co,Ci,h2,inB,h]
end Go.Proofs.YtlciedpfjhkkdaaGreatDoor
