/- The program's reader of a path and a leaf: flatLine. Printed by gen_d39.py. -/
import Derived.Test.YtllfmaflodbieaaGreatDoorKD24uD38
set_option linter.all false
set_option maxHeartbeats 8000000
namespace Go.Proofs.YtllfmaflodbieaaGreatDoor
open Go.RowKit
set_option maxRecDepth 10000
variable {o o1 o2:Obj}
theorem Z7 {v:V}(h:v.right) (hk:v.kind=4∨v.kind=3):Ni v:=by
 have h0:v.kids=[]∧v.count=1∧v.depth=1:=by
  have he:=PN h (by omega) (by omega)
  rw[he]
  exact⟨rfl,rfl,rfl⟩
 exact⟨h,h0.2.1,h0.2.2,by omega⟩
theorem a3f:∃c:Int,c≠0∧dec []=(c,none):=by
 rcases Lx [] with⟨t,ht⟩ | ⟨c,hc,hd⟩
 ·obtain⟨e1,_⟩:=Pb ht
  have h1:=KU t
  have h2:=K8 t
  rw[←e1]at h1
  simp at h1
  omega
 ·exact⟨c,hc,hd⟩
def TC (R:Option (List V×ByteArray)):AV:=match R with
 |none=>plA [] Dq
 |some (p,r)=>plA p (P0 r)
theorem a13 (p:List V):plA p Dq=.agg [.c (.sl (p.map V.cs)),.c (.int .i64 0),.c (.int .i64 0),.c (.str ByteArray.empty),.c (.sl []),.c (.sl [])]:=rfl
theorem WO:plA [] Dq=.agg [.c (.sl []),.c (.int .i64 0),.c (.int .i64 0),.c (.str ByteArray.empty),.c (.sl []),.c (.sl [])]:=rfl
theorem Wi {p:List V}(h:∀k∈p,Ni k):(Ir p).fit:=Uw fun k hk=>Nq (h k hk).1
theorem OG {p:List V}(h:∀k∈p,Ni k):(dec (Ir p).enc).1=0↔p.length≤199:=by
 have hc:(Ir p).count=p.length+1:=by
  have:=(Nn h).1
  simp only[Ir,V.count]
  omega
 constructor
 ·intro h0
  rcases Lx (Ir p).enc with⟨t,ht⟩ | ⟨c,hc0,hd⟩
  ·obtain⟨e1,_,e3,_⟩:=Pb ht
   have h1:=KU t
   have h2:=KU (Ir p)
   rw[e1]at h2
   omega
  ·rw[hd]at h0
   exact absurd h0 hc0
 ·intro hl
  obtain⟨h1,h2,h3⟩:=Nn h
  have hr:(Ir p).right:=⟨Ux h3 (by omega),by simp only[Ir,V.count];omega,by simp only[Ir,V.depth];omega⟩
  rw[MK hr]
theorem VD {p:List V×V}{s:ByteArray}(hz:s.size≤4000) (h:FlatOk p s):∃r,Mh (s.size+1) (Ln 46 s) []=some (p.1,r)∧r.size≤s.size∧Kw (N5 r)=((0,0),some p.2):=by
 have hl:=Qe h
 have hlen:=JY s
 have hp:=Qo p.1
 have hl2:s.data.toList=46::(M9 p.1++32::([61,32]++p.2.txt.data.toList)):=by rw[hl];simp
 have ht:=Vm (b:=46) hl2
 rw[hl2]at hlen
 simp only[List.length_cons,List.length_append,JY,List.length_nil]at hlen
 have hg:=UR p.1 (s.size+1) [] ⟨(M9 p.1++32::([61,32]++p.2.txt.data.toList)).toArray⟩ ([61,32]++p.2.txt.data.toList) h.keys (by simp) (by omega)
 refine⟨_,by rw[show Ln 46 s=_ from ht,hg,List.nil_append],by rw[←JY];simp[JY];omega,?_⟩
 generalize hr:(⟨(32::([61,32]++p.2.txt.data.toList)).toArray⟩:ByteArray)=r
 have hrl:r.data.toList=[32,61,32]++p.2.txt.data.toList:=by rw[←hr];simp
 have h1:3≤r.size:=by rw[←JY,hrl];simp
 have h2:r.extract 0 3=RT:=RU hrl rfl
 have h3:r.extract 3 r.size=p.2.txt:=OB (by rw[MU (e:=3) (l:=p.2.txt.data.toList) (by rw[hrl];rfl)])
 unfold N5
 rw[if_pos ⟨h1,h2⟩,h3]
 exact RM h.right (by omega)
theorem W1 (s:ByteArray) (hs:s.size≤4000) {p:List V×V}(h:Oa s=some p):AC Tryz.prog 46 [.c (.str s)] (teL o o1 o2) (.tup [plA p.1 p.2,.c (.bool true)]) (teL o o1 o2):=by
 have hfo:=(OA hs).1 h
 obtain⟨r0,hR,hr0,hd0⟩:=VD hs hfo
 obtain⟨R,hR0⟩:∃R,R=some (p.1,r0):=⟨_,rfl⟩
 rw[←hR0]at hR
 have htr:AC Tryz.prog 86 [.c (.str s),.c (.str ⟨#[46]⟩)] [] (.c (.str (Ln 46 s))) []:=NS s 46
 have hts:=NR 46 s
 have hv0:pvA []=.nils:=rfl
 have hm0:pvM []=[]:=rfl
 have h00:((0:Int) != 0)=false:=rfl
 have z1:Ez 0 (some (AV.c (C.int IntKind.i64 1)))=some 1:=rfl
 refine JI Tryz.func46 Tryz.ntmps46 ?_
 refine JV q9 ?_
 refine w7 (Ju [] htr) q9 ?_
 refine JV q9 ?_
 refine Jz (κ:=Nat×List V×ByteArray) (fun x=>⟨mkS 0 80 [(0,.c (.str s)),(2,.ptr (2,0) 0),(4,.ptr (4,0) 0),(5,.c (.str x.2.2))],
   [((2,0),.box [.nils,.c (.int .i64 0),.c (.int .i64 0),.c (.str ByteArray.empty),.nils,.nils]),((8,0),.blk (Ps o) []),((8,1),.gen (KV o1 o2)),((4,0),.box [pvA x.2.1,.c (.int .i64 0),.c (.int .i64 0),.c (.str ByteArray.empty),.nils,.nils])]++pvM x.2.1⟩)
  (fun x=>x.2.2.size<x.1∧x.2.2.size+x.2.1.length≤s.size∧(∀k∈x.2.1,Ni k)∧Mh x.1 x.2.2 x.2.1=R) (fun x=>x.2.2.size) (s.size+1,[],Ln 46 s) ⟨by dsimp only;omega,by dsimp only;rw[List.length_nil];omega,by simp,hR⟩ ?_ ?_
 ·(apply (F7.of [((2,0),(2,0)),((8,0),(8,0)),((8,1),(8,1)),((4,0),(4,0))] []);(iterate 2 ((focus (simp only[go_sem,Nat.reduceEqDiff,Nat.reduceAdd,Nat.reduceSub,Nat.reduceLeDiff,Nat.reduceMul,Nat.reduceBEq,Nat.reduceLT,Int.reduceToNat,reduceCtorEq,hv0,hm0,List.append_nil];try (and_intros<;>rfl)));(focus exact rfl)));(iterate 4 (focus (simp[go_sem,hv0,hm0,List.append_nil];done))))
 ·rintro⟨n,acc,rest⟩ ⟨hn,hlen,hkeys,hgo⟩
  dsimp only at hn hlen hkeys hgo ⊢
  obtain⟨n,rfl⟩:∃m,n=m+1:=⟨n-1,by omega⟩
  have hhp:=TJ rest
  unfold Mh at hgo
  cases h91:(bAt rest 0==91) with
  |true =>
   rw[h91]at hhp
   rw[if_pos (by simpa using h91)]at hgo
   have c1:1≤rest.size:=by
    have h91':bAt rest 0=91:=by simpa using h91
    have:=GM (s:=rest) (i:=0) (by omega)
    omega
   have hes:=LI (s:=rest) (a:=1) (e:=rest.size) (Nat.le_refl _)
   generalize hE:rest.extract 1 rest.size=E at *
   cases hh:OV E with
   |none =>
    rw[hh]at hgo
    dsimp only at hgo
    rw[←hgo]at hR0
    cases hR0
   |some q =>
    obtain⟨v,r⟩:=q
    rw[hh]at hgo
    dsimp only at hgo
    have hr1:=Oi (o1:=o1) (o2:=o2) E (by omega) hh
    obtain⟨_,_,hvr,_,_,hrs⟩:=Pd hh
    have hval:=LK v.enc (LZ hvr) (t:=v) (by rw[MK hvr])
    by_cases hk:v.kind=4∨v.kind=3
    ·rw[if_pos hk]at hgo
     have htr2:AC Tryz.prog 86 [.c (.str r),.c (.str ⟨#[93]⟩)] [] (.c (.str (Ln 93 r))) []:=NS r 93
     have hts2:=NR 93 r
     have hol:acc.length+1≤1000000:=by omega
     have hva:pvA (acc++[v])=.own (99,1):=Mp (by simp)
     have hma:=Mq (acc:=acc++[v]) (by simp)
     have hla:(acc++[v]).length=acc.length+1:=by simp
     have hrow:(acc++[v]).map V.cs=acc.map V.cs++[[.int .i64 v.kind,.int .i64 v.num,.str v.text,.sl (v.keys.map CX),.sl (v.kids.map V.cs)]]:=by rw[List.map_append,List.map_cons,List.map_nil,V.cs_eq]
     rw[hrow]at hma
     have hkeys2:∀k∈acc++[v],Ni k:=fun y hy=>by
      rcases List.mem_append.1 hy with hy | hy
      ·exact hkeys y hy
      ·rw[List.mem_singleton.1 hy];exact Z7 hvr hk
     generalize Ln 93 r=r' at *
     obtain⟨acc',hacc⟩:∃a,a=acc++[v]:=⟨_,rfl⟩
     rw[←hacc]at hva hma hla hgo hkeys2
     have hks:((v.kind != 4)=false∧True)∨((v.kind != 4)=true∧(v.kind != 3)=false):=by
      rcases hk with h4 | h3
      ·exact .inl ⟨by simp[h4],trivial⟩
      ·exact .inr ⟨by simp[h3],by simp[h3]⟩
     rcases Classical.em (acc=[]) with he | hne
     ·subst he
      simp only[hv0,hm0,List.append_nil]
      simp only[List.map_nil,List.nil_append]at hma
      rcases hks with⟨hb4,hb3⟩ | ⟨hb4,hb3⟩
      all_goals
       refine JV q9 ?_
       refine w7 (Ju [] hhp) q9 ?_
       refine JV (j3 z1 c1 hE) ?_
       refine JO (Im [((8,1),(8,1))] [((0,0),(21,0)),((8,1),(8,1))] hr1) q9 ?_
       refine JV q9 ?_
       refine w9 (Ja [(21,0)] hval) q9 ?_
       refine JV (j3 h00 hb4 hb3) ?_
       refine w7 (Ju [] htr2) q9 ?_
       refine JV q9 ?_
       refine⟨(n,acc',r'),by dsimp only;omega,⟨by dsimp only;omega,by dsimp only;omega,hkeys2,hgo⟩,?_⟩
       simp only[hva,hma,List.cons_append,List.nil_append]
       exact JQ (F7.of [((2,0),(2,0)),((8,0),(8,0)),((8,1),(8,1)),((4,0),(4,0)),((99,1),(46,0))] []) h00
     ·simp only[Mp hne,Mq hne,List.cons_append,List.nil_append]
      rcases hks with⟨hb4,hb3⟩ | ⟨hb4,hb3⟩
      all_goals
       refine JV q9 ?_
       refine w7 (Ju [] hhp) q9 ?_
       refine JV (j3 z1 c1 hE) ?_
       refine JO (Im [((8,1),(8,1))] [((0,0),(21,0)),((8,1),(8,1))] hr1) q9 ?_
       refine JV q9 ?_
       refine w9 (Ja [(21,0)] hval) q9 ?_
       refine JV (j4 h00 hb4 hb3 hol) ?_
       refine w7 (Ju [] htr2) q9 ?_
       refine JV q9 ?_
       refine⟨(n,acc',r'),by dsimp only;omega,⟨by dsimp only;omega,by dsimp only;omega,hkeys2,hgo⟩,?_⟩
       simp only[hva,hma,List.cons_append,List.nil_append]
       exact JQ (F7.of [((2,0),(2,0)),((8,0),(8,0)),((8,1),(8,1)),((4,0),(4,0)),((99,1),(46,0))] []) h00
    ·rw[if_neg hk]at hgo
     rw[←hgo]at hR0
     cases hR0
  |false =>
   rw[h91]at hhp
   rw[if_neg (by simpa using h91)]at hgo
   have hteq:=Ul rest
   have htes:=R5 rest
   have harr:=Pw acc
   have hfa:=Pv (Wi hkeys) (by have:=(Nn hkeys).1;simp only[Ir,V.count];omega)
   rw[hR0]at hgo
   injection hgo with hgo
   obtain⟨rfl,rfl⟩:=Prod.mk.inj hgo
   have hde:=Qa (o1:=o1) (o2:=o2) _ hd0
   have hil:=Nr p.2
   have hleaf:=hfo.leaf
   have hf0:((dec (Ir p.1).enc).1==0)=true:=by rw[(OG hkeys).2 hfo.len];rfl
   have hvr:=hfo.right
   have hne2:((KF p.1++⟨#[32,61,32]⟩++p.2.txt).toList==s.toList)=true:=a4t hfo.text
   rw[hleaf]at hil
   clear hfo hd0 h hR0 hR hr0 hgo
   generalize p.1=acc at *
   generalize p.2=v at *
   have hpr:∀k∈acc,k.right:=fun k hk=>(hkeys k hk).1
   have hp199:=(OG hkeys).1 (by simpa using hf0)
   have hps:=N2 hpr acc.length (Nat.le_refl _)
   rw[List.take_length]at hps
   have hvs:=Mv hvr
   have hpt:=N8 (o:=o) hpr (by omega)
   have hen:=MT (o:=o) hvr
   have e3:(⟨#[32,61,32]⟩:ByteArray).size=3:=rfl
   have x1:(KF acc).size+3≤9223372036854775807:=by omega
   have x2:(KF acc++⟨#[32,61,32]⟩).size+v.txt.size≤9223372036854775807:=by rw[ByteArray.size_append,e3];omega
   unfold plA
   generalize (dec (Ir acc).enc).1=kf at *
   generalize hu1:KF acc++⟨#[32,61,32]⟩=u1 at *
   generalize hu2:u1++v.txt=u2 at *
   rcases Classical.em (acc=[]) with he | hne
   ·subst he
    simp only[hv0,hm0,List.append_nil]
    refine JV q9 ?_
    refine w7 (Ju [] hhp) q9 ?_
    refine JV q9 ?_
    refine w7 (Ju [] hteq) q9 ?_
    refine JV q9 ?_
    refine KC (K6 [] [((8,1),(8,1))] [((8,1),(8,1))] hde) q9 ?_
    refine JV q9 ?_
    refine w7 (Ju [] hil) q9 ?_
    refine JV hleaf ?_
    refine w9 (Ja [] harr) @List.map_nil.{0,0} ?_
    refine JV q9 ?_
    refine w7 (Ju [] hfa) @List.map_nil.{0,0} ?_
    refine JV hf0 ?_
    refine w10 (Kk Ky Kx (8,0) [] hpt) @List.map_nil.{0,0} ?_
    refine JV (j2 x1 hu1) ?_
    refine w10 (Kk Ky Kx (8,0) [] hen) q9 ?_
    refine JV (j3 x2 hu2 hne2) ?_
    exact JJ (JN [((8,0),(8,0)),((8,1),(8,1))] []) Tryz.results46 (j2 hf0 @List.map_nil.{0,0})
   ·simp only[Mp hne,Mq hne,List.cons_append,List.nil_append]
    refine JV q9 ?_
    refine w7 (Ju [] hhp) q9 ?_
    refine JV q9 ?_
    refine w7 (Ju [] hteq) q9 ?_
    refine JV q9 ?_
    refine KC (K6 [] [((8,1),(8,1))] [((8,1),(8,1))] hde) q9 ?_
    refine JV q9 ?_
    refine w7 (Ju [] hil) q9 ?_
    refine JV hleaf ?_
    refine w9 (Ja [(99,1)] harr) q9 ?_
    refine JV q9 ?_
    refine w7 (Ju [] hfa) q9 ?_
    refine JV hf0 ?_
    refine w10 (Kk Ky Kx (8,0) [(99,1)] hpt) q9 ?_
    refine JV (j2 x1 hu1) ?_
    refine w10 (Kk Ky Kx (8,0) [] hen) q9 ?_
    refine JV (j3 x2 hu2 hne2) ?_
    exact JJ (JN [((8,0),(8,0)),((8,1),(8,1))] [(99,1)]) Tryz.results46 hf0
theorem W0 (s:ByteArray) (hs:s.size≤4000) (h:Oa s=none):AC Tryz.prog 46 [.c (.str s)] (teL o o1 o2) (.tup [TC (Mh (s.size+1) (Ln 46 s) []),.c (.bool false)]) (teL o o1 o2):=by
 have hfo:=XI hs h
 obtain⟨R,hR⟩:∃R,Mh (s.size+1) (Ln 46 s) []=R:=⟨_,rfl⟩
 rw[hR]
 have htr:AC Tryz.prog 86 [.c (.str s),.c (.str ⟨#[46]⟩)] [] (.c (.str (Ln 46 s))) []:=NS s 46
 have hts:=NR 46 s
 have hv0:pvA []=.nils:=rfl
 have hm0:pvM []=[]:=rfl
 have h00:((0:Int) != 0)=false:=rfl
 have z1:Ez 0 (some (AV.c (C.int IntKind.i64 1)))=some 1:=rfl
 refine JI Tryz.func46 Tryz.ntmps46 ?_
 refine JV q9 ?_
 refine w7 (Ju [] htr) q9 ?_
 refine JV q9 ?_
 refine Jz (κ:=Nat×List V×ByteArray) (fun x=>⟨mkS 0 80 [(0,.c (.str s)),(2,.ptr (2,0) 0),(4,.ptr (4,0) 0),(5,.c (.str x.2.2))],
   [((2,0),.box [.nils,.c (.int .i64 0),.c (.int .i64 0),.c (.str ByteArray.empty),.nils,.nils]),((8,0),.blk (Ps o) []),((8,1),.gen (KV o1 o2)),((4,0),.box [pvA x.2.1,.c (.int .i64 0),.c (.int .i64 0),.c (.str ByteArray.empty),.nils,.nils])]++pvM x.2.1⟩)
  (fun x=>x.2.2.size<x.1∧x.2.2.size+x.2.1.length≤s.size∧(∀k∈x.2.1,Ni k)∧Mh x.1 x.2.2 x.2.1=R) (fun x=>x.2.2.size) (s.size+1,[],Ln 46 s) ⟨by dsimp only;omega,by dsimp only;rw[List.length_nil];omega,by simp,hR⟩ ?_ ?_
 ·(apply (F7.of [((2,0),(2,0)),((8,0),(8,0)),((8,1),(8,1)),((4,0),(4,0))] []);(iterate 2 ((focus (simp only[go_sem,Nat.reduceEqDiff,Nat.reduceAdd,Nat.reduceSub,Nat.reduceLeDiff,Nat.reduceMul,Nat.reduceBEq,Nat.reduceLT,Int.reduceToNat,reduceCtorEq,hv0,hm0,List.append_nil];try (and_intros<;>rfl)));(focus exact rfl)));(iterate 4 (focus (simp[go_sem,hv0,hm0,List.append_nil];done))))
 ·rintro⟨n,acc,rest⟩ ⟨hn,hlen,hkeys,hgo⟩
  dsimp only at hn hlen hkeys hgo ⊢
  obtain⟨n,rfl⟩:∃m,n=m+1:=⟨n-1,by omega⟩
  have hhp:=TJ rest
  unfold Mh at hgo
  cases h91:(bAt rest 0==91) with
  |true =>
   rw[h91]at hhp
   rw[if_pos (by simpa using h91)]at hgo
   have c1:1≤rest.size:=by
    have h91':bAt rest 0=91:=by simpa using h91
    have:=GM (s:=rest) (i:=0) (by omega)
    omega
   have hes:=LI (s:=rest) (a:=1) (e:=rest.size) (Nat.le_refl _)
   generalize hE:rest.extract 1 rest.size=E at *
   cases hh:OV E with
   |none =>
    rw[hh]at hgo
    dsimp only at hgo
    obtain⟨cn,hcn,hdn⟩:=a3f
    have hr1:=SL (o1:=o1) (o2:=o2) E (by omega) hh
    have hval:AC Tryz.prog 56 [.c (.sl [])] [] (.tup [noV,.c (.int .i64 (dec []).1)]) []:=Mw [] (fun c hc=>by cases hc) (by rw[hdn])
    rw[hdn]at hval
    have hb:(cn != 0)=true:=by simpa using hcn
    subst hgo
    rw[show TC none=_ from WO]
    rcases Classical.em (acc=[]) with rfl | hne
    ·simp only[hv0,hm0,List.append_nil]
     refine JV q9 ?_
     refine w7 (Ju [] hhp) q9 ?_
     refine JV (j3 z1 c1 hE) ?_
     refine JO (Im [((8,1),(8,1))] [((8,1),(8,1))] hr1) q9 ?_
     refine JV q9 ?_
     refine w9 (Ja [] hval) Ki ?_
     refine JV (j2 hb Ki) ?_
     exact JJ (JN [((8,0),(8,0)),((8,1),(8,1))] []) Tryz.results46 hb
    ·simp only[Mp hne,Mq hne,List.cons_append,List.nil_append]
     refine JV q9 ?_
     refine w7 (Ju [] hhp) q9 ?_
     refine JV (j3 z1 c1 hE) ?_
     refine JO (Im [((8,1),(8,1))] [((8,1),(8,1))] hr1) q9 ?_
     refine JV q9 ?_
     refine w9 (Ja [] hval) Ki ?_
     refine JV (j2 hb Ki) ?_
     exact JJ (JN [((8,0),(8,0)),((8,1),(8,1))] []) Tryz.results46 hb
   |some q =>
    obtain⟨v,r⟩:=q
    rw[hh]at hgo
    dsimp only at hgo
    have hr1:=Oi (o1:=o1) (o2:=o2) E (by omega) hh
    obtain⟨_,_,hvr,_,_,hrs⟩:=Pd hh
    have hval:=LK v.enc (LZ hvr) (t:=v) (by rw[MK hvr])
    by_cases hk:v.kind=4∨v.kind=3
    ·rw[if_pos hk]at hgo
     have htr2:AC Tryz.prog 86 [.c (.str r),.c (.str ⟨#[93]⟩)] [] (.c (.str (Ln 93 r))) []:=NS r 93
     have hts2:=NR 93 r
     have hol:acc.length+1≤1000000:=by omega
     have hva:pvA (acc++[v])=.own (99,1):=Mp (by simp)
     have hma:=Mq (acc:=acc++[v]) (by simp)
     have hla:(acc++[v]).length=acc.length+1:=by simp
     have hrow:(acc++[v]).map V.cs=acc.map V.cs++[[.int .i64 v.kind,.int .i64 v.num,.str v.text,.sl (v.keys.map CX),.sl (v.kids.map V.cs)]]:=by rw[List.map_append,List.map_cons,List.map_nil,V.cs_eq]
     rw[hrow]at hma
     have hkeys2:∀k∈acc++[v],Ni k:=fun y hy=>by
      rcases List.mem_append.1 hy with hy | hy
      ·exact hkeys y hy
      ·rw[List.mem_singleton.1 hy];exact Z7 hvr hk
     generalize Ln 93 r=r' at *
     obtain⟨acc',hacc⟩:∃a,a=acc++[v]:=⟨_,rfl⟩
     rw[←hacc]at hva hma hla hgo hkeys2
     have hks:((v.kind != 4)=false∧True)∨((v.kind != 4)=true∧(v.kind != 3)=false):=by
      rcases hk with h4 | h3
      ·exact .inl ⟨by simp[h4],trivial⟩
      ·exact .inr ⟨by simp[h3],by simp[h3]⟩
     rcases Classical.em (acc=[]) with he | hne
     ·subst he
      simp only[hv0,hm0,List.append_nil]
      simp only[List.map_nil,List.nil_append]at hma
      rcases hks with⟨hb4,hb3⟩ | ⟨hb4,hb3⟩
      all_goals
       refine JV q9 ?_
       refine w7 (Ju [] hhp) q9 ?_
       refine JV (j3 z1 c1 hE) ?_
       refine JO (Im [((8,1),(8,1))] [((0,0),(21,0)),((8,1),(8,1))] hr1) q9 ?_
       refine JV q9 ?_
       refine w9 (Ja [(21,0)] hval) q9 ?_
       refine JV (j3 h00 hb4 hb3) ?_
       refine w7 (Ju [] htr2) q9 ?_
       refine JV q9 ?_
       refine⟨(n,acc',r'),by dsimp only;omega,⟨by dsimp only;omega,by dsimp only;omega,hkeys2,hgo⟩,?_⟩
       simp only[hva,hma,List.cons_append,List.nil_append]
       exact JQ (F7.of [((2,0),(2,0)),((8,0),(8,0)),((8,1),(8,1)),((4,0),(4,0)),((99,1),(46,0))] []) h00
     ·simp only[Mp hne,Mq hne,List.cons_append,List.nil_append]
      rcases hks with⟨hb4,hb3⟩ | ⟨hb4,hb3⟩
      all_goals
       refine JV q9 ?_
       refine w7 (Ju [] hhp) q9 ?_
       refine JV (j3 z1 c1 hE) ?_
       refine JO (Im [((8,1),(8,1))] [((0,0),(21,0)),((8,1),(8,1))] hr1) q9 ?_
       refine JV q9 ?_
       refine w9 (Ja [(21,0)] hval) q9 ?_
       refine JV (j4 h00 hb4 hb3 hol) ?_
       refine w7 (Ju [] htr2) q9 ?_
       refine JV q9 ?_
       refine⟨(n,acc',r'),by dsimp only;omega,⟨by dsimp only;omega,by dsimp only;omega,hkeys2,hgo⟩,?_⟩
       simp only[hva,hma,List.cons_append,List.nil_append]
       exact JQ (F7.of [((2,0),(2,0)),((8,0),(8,0)),((8,1),(8,1)),((4,0),(4,0)),((99,1),(46,0))] []) h00
    ·rw[if_neg hk]at hgo
     subst hgo
     rw[show TC none=_ from WO]
     have hb4:(v.kind != 4)=true:=by simp;omega
     have hb3:(v.kind != 3)=true:=by simp;omega
     rcases Classical.em (acc=[]) with rfl | hne
     ·simp only[hv0,hm0,List.append_nil]
      refine JV q9 ?_
      refine w7 (Ju [] hhp) q9 ?_
      refine JV (j3 z1 c1 hE) ?_
      refine JO (Im [((8,1),(8,1))] [((0,0),(21,0)),((8,1),(8,1))] hr1) q9 ?_
      refine JV q9 ?_
      refine w9 (Ja [(21,0)] hval) q9 ?_
      refine JV (j3 h00 hb4 hb3) ?_
      exact JJ (JN [((8,0),(8,0)),((8,1),(8,1))] []) Tryz.results46 hb4
     ·simp only[Mp hne,Mq hne,List.cons_append,List.nil_append]
      refine JV q9 ?_
      refine w7 (Ju [] hhp) q9 ?_
      refine JV (j3 z1 c1 hE) ?_
      refine JO (Im [((8,1),(8,1))] [((0,0),(21,0)),((8,1),(8,1))] hr1) q9 ?_
      refine JV q9 ?_
      refine w9 (Ja [(21,0)] hval) q9 ?_
      refine JV (j3 h00 hb4 hb3) ?_
      exact JJ (JN [((8,0),(8,0)),((8,1),(8,1))] []) Tryz.results46 hb4
  |false =>
   rw[h91]at hhp
   rw[if_neg (by simpa using h91)]at hgo
   have hteq:=Ul rest
   have htes:=R5 rest
   have harr:=Pw acc
   have hfa:=Pv (Wi hkeys) (by have:=(Nn hkeys).1;simp only[Ir,V.count];omega)
   cases hD:Kw (N5 rest) with
   |mk c y =>
    cases y with
    |some v =>
     have hde:=Qa (o1:=o1) (o2:=o2) _ hD
     have hvr:=(RK hD).2.1
     have hlv:P0 rest=v:=by unfold P0;rw[hD]
     subst hgo
     rw[show TC (some (acc,rest))=plA acc (P0 rest) from rfl,hlv]
     unfold plA
     have hil:=Nr v
     cases hleaf:v.kids.isEmpty with
     |false =>
      rw[hleaf]at hil
      rcases Classical.em (acc=[]) with he | hne
      ·subst he
       simp only[hv0,hm0,List.append_nil]
       refine JV q9 ?_
       refine w7 (Ju [] hhp) q9 ?_
       refine JV q9 ?_
       refine w7 (Ju [] hteq) q9 ?_
       refine JV q9 ?_
       refine KC (K6 [] [((8,1),(8,1))] [((8,1),(8,1))] hde) q9 ?_
       refine JV q9 ?_
       refine w7 (Ju [] hil) q9 ?_
       refine JV hleaf ?_
       exact JJ (JN [((8,0),(8,0)),((8,1),(8,1))] []) Tryz.results46 (j2 hleaf @List.map_nil.{0,0})
      ·simp only[Mp hne,Mq hne,List.cons_append,List.nil_append]
       refine JV q9 ?_
       refine w7 (Ju [] hhp) q9 ?_
       refine JV q9 ?_
       refine w7 (Ju [] hteq) q9 ?_
       refine JV q9 ?_
       refine KC (K6 [] [((8,1),(8,1))] [((8,1),(8,1))] hde) q9 ?_
       refine JV q9 ?_
       refine w7 (Ju [] hil) q9 ?_
       refine JV hleaf ?_
       exact JJ (JN [((8,0),(8,0)),((8,1),(8,1))] [(99,1)]) Tryz.results46 hleaf
     |true =>
      rw[hleaf]at hil
      cases hf0:((dec (Ir acc).enc).1==0) with
      |false =>
       generalize (dec (Ir acc).enc).1=kf at *
       rcases Classical.em (acc=[]) with he | hne
       ·subst he
        simp only[hv0,hm0,List.append_nil]
        refine JV q9 ?_
        refine w7 (Ju [] hhp) q9 ?_
        refine JV q9 ?_
        refine w7 (Ju [] hteq) q9 ?_
        refine JV q9 ?_
        refine KC (K6 [] [((8,1),(8,1))] [((8,1),(8,1))] hde) q9 ?_
        refine JV q9 ?_
        refine w7 (Ju [] hil) q9 ?_
        refine JV hleaf ?_
        refine w9 (Ja [] harr) @List.map_nil.{0,0} ?_
        refine JV q9 ?_
        refine w7 (Ju [] hfa) @List.map_nil.{0,0} ?_
        refine JV hf0 ?_
        exact JJ (JN [((8,0),(8,0)),((8,1),(8,1))] []) Tryz.results46 (j2 hf0 @List.map_nil.{0,0})
       ·simp only[Mp hne,Mq hne,List.cons_append,List.nil_append]
        refine JV q9 ?_
        refine w7 (Ju [] hhp) q9 ?_
        refine JV q9 ?_
        refine w7 (Ju [] hteq) q9 ?_
        refine JV q9 ?_
        refine KC (K6 [] [((8,1),(8,1))] [((8,1),(8,1))] hde) q9 ?_
        refine JV q9 ?_
        refine w7 (Ju [] hil) q9 ?_
        refine JV hleaf ?_
        refine w9 (Ja [(99,1)] harr) q9 ?_
        refine JV q9 ?_
        refine w7 (Ju [] hfa) q9 ?_
        refine JV hf0 ?_
        exact JJ (JN [((8,0),(8,0)),((8,1),(8,1))] [(99,1)]) Tryz.results46 hf0
      |true =>
       have hpr:∀k∈acc,k.right:=fun k hk=>(hkeys k hk).1
       have hp199:=(OG hkeys).1 (by simpa using hf0)
       have hps:=N2 hpr acc.length (Nat.le_refl _)
       rw[List.take_length]at hps
       have hvs:=Mv hvr
       have hpt:=N8 (o:=o) hpr (by omega)
       have hen:=MT (o:=o) hvr
       have e3:(⟨#[32,61,32]⟩:ByteArray).size=3:=rfl
       have x1:(KF acc).size+3≤9223372036854775807:=by omega
       have x2:(KF acc++⟨#[32,61,32]⟩).size+v.txt.size≤9223372036854775807:=by rw[ByteArray.size_append,e3];omega
       have hne2:((KF acc++⟨#[32,61,32]⟩++v.txt).toList==s.toList)=false:=a0a fun e=>hfo (acc,v) ⟨hleaf,hkeys,hp199,hvr,e⟩
       generalize (dec (Ir acc).enc).1=kf at *
       generalize hu1:KF acc++⟨#[32,61,32]⟩=u1 at *
       generalize v.txt=tx at *
       generalize hu2:u1++tx=u2 at *
       rcases Classical.em (acc=[]) with he | hne
       ·subst he
        simp only[hv0,hm0,List.append_nil]
        refine JV q9 ?_
        refine w7 (Ju [] hhp) q9 ?_
        refine JV q9 ?_
        refine w7 (Ju [] hteq) q9 ?_
        refine JV q9 ?_
        refine KC (K6 [] [((8,1),(8,1))] [((8,1),(8,1))] hde) q9 ?_
        refine JV q9 ?_
        refine w7 (Ju [] hil) q9 ?_
        refine JV hleaf ?_
        refine w9 (Ja [] harr) @List.map_nil.{0,0} ?_
        refine JV q9 ?_
        refine w7 (Ju [] hfa) @List.map_nil.{0,0} ?_
        refine JV hf0 ?_
        refine w10 (Kk Ky Kx (8,0) [] hpt) @List.map_nil.{0,0} ?_
        refine JV (j2 x1 hu1) ?_
        refine w10 (Kk Ky Kx (8,0) [] hen) q9 ?_
        refine JV (j3 x2 hu2 hne2) ?_
        exact JJ (JN [((8,0),(8,0)),((8,1),(8,1))] []) Tryz.results46 (j2 hf0 @List.map_nil.{0,0})
       ·simp only[Mp hne,Mq hne,List.cons_append,List.nil_append]
        refine JV q9 ?_
        refine w7 (Ju [] hhp) q9 ?_
        refine JV q9 ?_
        refine w7 (Ju [] hteq) q9 ?_
        refine JV q9 ?_
        refine KC (K6 [] [((8,1),(8,1))] [((8,1),(8,1))] hde) q9 ?_
        refine JV q9 ?_
        refine w7 (Ju [] hil) q9 ?_
        refine JV hleaf ?_
        refine w9 (Ja [(99,1)] harr) q9 ?_
        refine JV q9 ?_
        refine w7 (Ju [] hfa) q9 ?_
        refine JV hf0 ?_
        refine w10 (Kk Ky Kx (8,0) [(99,1)] hpt) q9 ?_
        refine JV (j2 x1 hu1) ?_
        refine w10 (Kk Ky Kx (8,0) [] hen) q9 ?_
        refine JV (j3 x2 hu2 hne2) ?_
        exact JJ (JN [((8,0),(8,0)),((8,1),(8,1))] [(99,1)]) Tryz.results46 hf0
    |none =>
     have hde:=RL (o1:=o1) (o2:=o2) (N5 rest) (by omega) hD
     obtain⟨v,hnull⟩:∃v,v=Dq:=⟨_,rfl⟩
     have hlv:P0 rest=Dq:=by unfold P0;rw[hD]
     subst hgo
     rw[show TC (some (acc,rest))=plA acc (P0 rest) from rfl,hlv,a13]
     have hvr:v.right:=by rw[hnull];exact LT
     have hil:=Nr v
     cases hleaf:v.kids.isEmpty with
     |false =>
      rw[hleaf]at hil
      have hvv:v=Dq:=hnull
      rw[hvv,Od]at hil
      rcases Classical.em (acc=[]) with he | hne
      ·subst he
       simp only[hv0,hm0,List.append_nil]
       refine JV q9 ?_
       refine w7 (Ju [] hhp) q9 ?_
       refine JV q9 ?_
       refine w7 (Ju [] hteq) q9 ?_
       refine JV q9 ?_
       refine JO (Im [((8,1),(8,1))] [((8,1),(8,1))] hde) Ki ?_
       refine JV Ki ?_
       refine w7 (Ju [] hil) q9 ?_
       refine JV hleaf ?_
       exact JJ (JN [((8,0),(8,0)),((8,1),(8,1))] []) Tryz.results46 (j2 hleaf @List.map_nil.{0,0})
      ·simp only[Mp hne,Mq hne,List.cons_append,List.nil_append]
       refine JV q9 ?_
       refine w7 (Ju [] hhp) q9 ?_
       refine JV q9 ?_
       refine w7 (Ju [] hteq) q9 ?_
       refine JV q9 ?_
       refine JO (Im [((8,1),(8,1))] [((8,1),(8,1))] hde) Ki ?_
       refine JV Ki ?_
       refine w7 (Ju [] hil) q9 ?_
       refine JV hleaf ?_
       exact JJ (JN [((8,0),(8,0)),((8,1),(8,1))] [(99,1)]) Tryz.results46 hleaf
     |true =>
      rw[hleaf]at hil
      cases hf0:((dec (Ir acc).enc).1==0) with
      |false =>
       generalize (dec (Ir acc).enc).1=kf at *
       have hvv:v=Dq:=hnull
       rw[hvv,Od]at hil
       rcases Classical.em (acc=[]) with he | hne
       ·subst he
        simp only[hv0,hm0,List.append_nil]
        refine JV q9 ?_
        refine w7 (Ju [] hhp) q9 ?_
        refine JV q9 ?_
        refine w7 (Ju [] hteq) q9 ?_
        refine JV q9 ?_
        refine JO (Im [((8,1),(8,1))] [((8,1),(8,1))] hde) Ki ?_
        refine JV Ki ?_
        refine w7 (Ju [] hil) q9 ?_
        refine JV hleaf ?_
        refine w9 (Ja [] harr) @List.map_nil.{0,0} ?_
        refine JV q9 ?_
        refine w7 (Ju [] hfa) @List.map_nil.{0,0} ?_
        refine JV hf0 ?_
        exact JJ (JN [((8,0),(8,0)),((8,1),(8,1))] []) Tryz.results46 (j2 hf0 @List.map_nil.{0,0})
       ·simp only[Mp hne,Mq hne,List.cons_append,List.nil_append]
        refine JV q9 ?_
        refine w7 (Ju [] hhp) q9 ?_
        refine JV q9 ?_
        refine w7 (Ju [] hteq) q9 ?_
        refine JV q9 ?_
        refine JO (Im [((8,1),(8,1))] [((8,1),(8,1))] hde) Ki ?_
        refine JV Ki ?_
        refine w7 (Ju [] hil) q9 ?_
        refine JV hleaf ?_
        refine w9 (Ja [(99,1)] harr) q9 ?_
        refine JV q9 ?_
        refine w7 (Ju [] hfa) q9 ?_
        refine JV hf0 ?_
        exact JJ (JN [((8,0),(8,0)),((8,1),(8,1))] [(99,1)]) Tryz.results46 hf0
      |true =>
       have hpr:∀k∈acc,k.right:=fun k hk=>(hkeys k hk).1
       have hp199:=(OG hkeys).1 (by simpa using hf0)
       have hps:=N2 hpr acc.length (Nat.le_refl _)
       rw[List.take_length]at hps
       have hvs:=Mv hvr
       have hpt:=N8 (o:=o) hpr (by omega)
       have hen:=MT (o:=o) hvr
       have e3:(⟨#[32,61,32]⟩:ByteArray).size=3:=rfl
       have x1:(KF acc).size+3≤9223372036854775807:=by omega
       have x2:(KF acc++⟨#[32,61,32]⟩).size+v.txt.size≤9223372036854775807:=by rw[ByteArray.size_append,e3];omega
       have hne2:((KF acc++⟨#[32,61,32]⟩++v.txt).toList==s.toList)=false:=a0a fun e=>hfo (acc,v) ⟨hleaf,hkeys,hp199,hvr,e⟩
       generalize (dec (Ir acc).enc).1=kf at *
       generalize hu1:KF acc++⟨#[32,61,32]⟩=u1 at *
       generalize v.txt=tx at *
       generalize hu2:u1++tx=u2 at *
       have hvv:v=Dq:=hnull
       rw[hvv,Od]at hil hen
       rcases Classical.em (acc=[]) with he | hne
       ·subst he
        simp only[hv0,hm0,List.append_nil]
        refine JV q9 ?_
        refine w7 (Ju [] hhp) q9 ?_
        refine JV q9 ?_
        refine w7 (Ju [] hteq) q9 ?_
        refine JV q9 ?_
        refine JO (Im [((8,1),(8,1))] [((8,1),(8,1))] hde) Ki ?_
        refine JV Ki ?_
        refine w7 (Ju [] hil) q9 ?_
        refine JV hleaf ?_
        refine w9 (Ja [] harr) @List.map_nil.{0,0} ?_
        refine JV q9 ?_
        refine w7 (Ju [] hfa) @List.map_nil.{0,0} ?_
        refine JV hf0 ?_
        refine w10 (Kk Ky Kx (8,0) [] hpt) @List.map_nil.{0,0} ?_
        refine JV (j2 x1 hu1) ?_
        refine w10 (Kk Ky Kx (8,0) [] hen) q9 ?_
        refine JV (j3 x2 hu2 hne2) ?_
        exact JJ (JN [((8,0),(8,0)),((8,1),(8,1))] []) Tryz.results46 (j2 hf0 @List.map_nil.{0,0})
       ·simp only[Mp hne,Mq hne,List.cons_append,List.nil_append]
        refine JV q9 ?_
        refine w7 (Ju [] hhp) q9 ?_
        refine JV q9 ?_
        refine w7 (Ju [] hteq) q9 ?_
        refine JV q9 ?_
        refine JO (Im [((8,1),(8,1))] [((8,1),(8,1))] hde) Ki ?_
        refine JV Ki ?_
        refine w7 (Ju [] hil) q9 ?_
        refine JV hleaf ?_
        refine w9 (Ja [(99,1)] harr) q9 ?_
        refine JV q9 ?_
        refine w7 (Ju [] hfa) q9 ?_
        refine JV hf0 ?_
        refine w10 (Kk Ky Kx (8,0) [(99,1)] hpt) q9 ?_
        refine JV (j2 x1 hu1) ?_
        refine w10 (Kk Ky Kx (8,0) [] hen) q9 ?_
        refine JV (j3 x2 hu2 hne2) ?_
        exact JJ (JN [((8,0),(8,0)),((8,1),(8,1))] [(99,1)]) Tryz.results46 hf0
end Go.Proofs.YtllfmaflodbieaaGreatDoor
