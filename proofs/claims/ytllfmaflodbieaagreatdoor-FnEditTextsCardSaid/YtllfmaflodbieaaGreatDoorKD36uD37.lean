/- Texts of this proof: D36 D30 G77 D37. -/
import Derived.Test.YtllfmaflodbieaaGreatDoorKD23uD35
set_option linter.all false
set_option maxHeartbeats 8000000
namespace Go.Proofs.YtllfmaflodbieaaGreatDoor
section
open Go.RowKit
set_option maxRecDepth 10000
variable {o o1 o2:Obj}
abbrev teL (o o1 o2:Obj):Mem:=[((8,0),.blk (MH o) []),((8,1),.gen (D8 o1 o2))]
theorem WN (d:EditD) (s:ByteArray) (h:DK d=s):((lnS d).toList==(s++bS 10).toList)=true:=N6 (by rw[←h];rfl)
theorem Th {d:EditD}{s:ByteArray}(h:DK d≠s):((lnS d).toList==(s++bS 10).toList)=false:=S9 fun e=>h (by
 unfold lnS at e
 have:=congrArg (fun x=>x.data.toList) e
 simp only[Bi]at this
 exact MS (List.append_cancel_right this))
theorem Ga {s:ByteArray}{v:V}{r:ByteArray}(h:Ck s=some (v,r)):v.right:=by
 obtain⟨_,_,hr,_⟩:=DI h
 exact hr
theorem LJ:D7 []:=fun c hc=>absurd hc (by simp)
theorem m0 (op:Int):DY ⟨op,[],[]⟩:=⟨LJ,LJ,Nat.zero_le _,Nat.zero_le _⟩
theorem m9 (op:Int) {v u:V}(hv:v.right) (hu:u.right):DY ⟨op,v.enc,u.enc⟩ :=
 ⟨Bu hv,Bu hu,by show v.enc.length≤_;rw[Bb];have:=hv.2.1;omega,by show u.enc.length≤_;rw[Bb];have:=hu.2.1;omega⟩
theorem VD (op:Int) {v:V}(hv:v.right):DY ⟨op,v.enc,[]⟩ :=
 ⟨Bu hv,LJ,by show v.enc.length≤_;rw[Bb];have:=hv.2.1;omega,Nat.zero_le _⟩
theorem UL (s:ByteArray) (hs:s.size≤10000) {v u:V}{r r2:ByteArray}(hw0:(Bn s).1=K8) (h1:Ck (Bn s).2=some (v,r)) (h2:Ck r=some (u,r2)) (hk0:Al ⟨1,v.enc,u.enc⟩=0) (hl:DK ⟨1,v.enc,u.enc⟩=s):AC Tryz.prog 31 [.c (.str s)] (teL o o1 o2) (.tup [.agg [.c (.int .i64 1),.own (0,0),.own (0,1)],.c (.bool true)]) (teL o o1 o2++[((0,0),.row false 5 115 (v.enc.map CellD.cs)),((0,1),.row false 5 115 (u.enc.map CellD.cs))]):=by
 obtain⟨bq,hcut⟩:=JL s (by omega)
 have hcs:=EN s
 have hw:((Bn s).1.toList==(⟨#[115,101,116]⟩:ByteArray).toList)=true:=N6 hw0
 have hr1:=CC (o1:=o1) (o2:=o2) (Bn s).2 (by omega) h1
 obtain⟨_,_,_,_,_,hrs⟩:=DI h1
 have hr2:=CC (o1:=o1) (o2:=o2) r (by omega) h2
 have hed:=CJ ⟨1,v.enc,u.enc⟩ (m9 1 (Ga h1) (Ga h2))
 rw[H8]at hed
 have hs1:s.size+1≤9223372036854775807:=by omega
 have hk:(Al ⟨1,v.enc,u.enc⟩==0)=true:=by simp[hk0]
 have hln:=Fd (o:=o) hk0
 rw[H8]at hln
 have hne:=WN _ s hl
 clear hl hk0
 generalize lnS _=ln at *
 generalize Al _=k at *
 generalize (Bn s).1=wd at *
 generalize (Bn s).2=tl at *
 refine A5 Tryz.func31 Tryz.ntmps31 ?_
 refine A3 q9 ?_
 refine w7 (A8 [] hcut) q9 ?_
 refine A3 q9 ?_
 refine A7 (A0 [((8,1),(8,1))] [((0,0),(18,0)),((8,1),(8,1))] hr1) q9 ?_
 refine A3 hw ?_
 refine A7 (A0 [((8,1),(8,1))] [((0,0),(27,0)),((8,1),(8,1))] hr2) q9 ?_
 refine A3 q9 ?_
 refine w7 (A8 [(18,0),(27,0)] hed) q9 ?_
 refine A3 hk ?_
 refine w10 (Fh Gy Gx (8,0) [(18,0),(27,0)] hln) q9 ?_
 refine A3 (j2 hs1 hne) ?_
 exact Ab (Aa [((8,0),(8,0)),((8,1),(8,1)),((0,0),(18,0)),((0,1),(27,0))] []) Tryz.results31 hk
theorem SC (s:ByteArray) (hs:s.size≤10000) {v:V}{r:ByteArray}(hw0:(Bn s).1≠K8) (h1:Ck (Bn s).2=some (v,r)) (hk0:Al ⟨2,v.enc,[]⟩=0) (hl:DK ⟨2,v.enc,[]⟩=s):AC Tryz.prog 31 [.c (.str s)] (teL o o1 o2) (.tup [.agg [.c (.int .i64 2),.own (0,0),.nils],.c (.bool true)]) (teL o o1 o2++[((0,0),.row false 5 115 (v.enc.map CellD.cs))]):=by
 obtain⟨bq,hcut⟩:=JL s (by omega)
 have hcs:=EN s
 have hw:((Bn s).1.toList==(⟨#[115,101,116]⟩:ByteArray).toList)=false:=S9 hw0
 have hr1:=CC (o1:=o1) (o2:=o2) (Bn s).2 (by omega) h1
 obtain⟨_,_,_,_,_,hrs⟩:=DI h1
 have hed:=CJ ⟨2,v.enc,[]⟩ (VD 2 (Ga h1))
 rw[GU]at hed
 have hs1:s.size+1≤9223372036854775807:=by omega
 have hk:(Al ⟨2,v.enc,[]⟩==0)=true:=by simp[hk0]
 have hln:=Fd (o:=o) hk0
 rw[GU]at hln
 have hne:=WN _ s hl
 clear hl hk0
 generalize lnS _=ln at *
 generalize Al _=k at *
 generalize (Bn s).1=wd at *
 generalize (Bn s).2=tl at *
 refine A5 Tryz.func31 Tryz.ntmps31 ?_
 refine A3 q9 ?_
 refine w7 (A8 [] hcut) q9 ?_
 refine A3 q9 ?_
 refine A7 (A0 [((8,1),(8,1))] [((0,0),(18,0)),((8,1),(8,1))] hr1) q9 ?_
 refine A3 hw ?_
 refine w7 (A8 [(18,0)] hed) q9 ?_
 refine A3 hk ?_
 refine w10 (Fh Gy Gx (8,0) [(18,0)] hln) q9 ?_
 refine A3 (j2 hs1 hne) ?_
 exact Ab (Aa [((8,0),(8,0)),((8,1),(8,1)),((0,0),(18,0))] []) Tryz.results31 hk
theorem QR (s:ByteArray) (hs:s.size≤10000) {v u:V}{r r2:ByteArray}(hw0:(Bn s).1=K8) (h1:Ck (Bn s).2=some (v,r)) (h2:Ck r=some (u,r2)) (hno:Al ⟨1,v.enc,u.enc⟩=0→DK ⟨1,v.enc,u.enc⟩≠s):AC Tryz.prog 31 [.c (.str s)] (teL o o1 o2) (.tup [.agg [.c (.int .i64 1),.c (.sl (v.enc.map CellD.cs)),.c (.sl (u.enc.map CellD.cs))],.c (.bool false)]) (teL o o1 o2):=by
 obtain⟨bq,hcut⟩:=JL s (by omega)
 have hcs:=EN s
 have hw:((Bn s).1.toList==(⟨#[115,101,116]⟩:ByteArray).toList)=true:=N6 hw0
 have hr1:=CC (o1:=o1) (o2:=o2) (Bn s).2 (by omega) h1
 obtain⟨_,_,_,_,_,hrs⟩:=DI h1
 have hr2:=CC (o1:=o1) (o2:=o2) r (by omega) h2
 have hed:=CJ ⟨1,v.enc,u.enc⟩ (m9 1 (Ga h1) (Ga h2))
 rw[H8]at hed
 have hs1:s.size+1≤9223372036854775807:=by omega
 cases hk:(Al ⟨1,v.enc,u.enc⟩==0) with
 |false =>
  clear hno
  generalize Al _=k at *
  generalize (Bn s).1=wd at *
  generalize (Bn s).2=tl at *
  refine A5 Tryz.func31 Tryz.ntmps31 ?_
  refine A3 q9 ?_
  refine w7 (A8 [] hcut) q9 ?_
  refine A3 q9 ?_
  refine A7 (A0 [((8,1),(8,1))] [((0,0),(18,0)),((8,1),(8,1))] hr1) q9 ?_
  refine A3 hw ?_
  refine A7 (A0 [((8,1),(8,1))] [((0,0),(27,0)),((8,1),(8,1))] hr2) q9 ?_
  refine A3 q9 ?_
  refine w7 (A8 [(18,0),(27,0)] hed) q9 ?_
  refine A3 hk ?_
  exact Ab (Aa [((8,0),(8,0)),((8,1),(8,1))] [(18,0),(27,0)]) Tryz.results31 hk
 |true =>
  have hk0:Al ⟨1,v.enc,u.enc⟩=0:=by simpa using hk
  have hln:=Fd (o:=o) hk0
  rw[H8]at hln
  have hne:=Th (hno hk0)
  clear hno hk0
  generalize lnS _=ln at *
  generalize Al _=k at *
  generalize (Bn s).1=wd at *
  generalize (Bn s).2=tl at *
  refine A5 Tryz.func31 Tryz.ntmps31 ?_
  refine A3 q9 ?_
  refine w7 (A8 [] hcut) q9 ?_
  refine A3 q9 ?_
  refine A7 (A0 [((8,1),(8,1))] [((0,0),(18,0)),((8,1),(8,1))] hr1) q9 ?_
  refine A3 hw ?_
  refine A7 (A0 [((8,1),(8,1))] [((0,0),(27,0)),((8,1),(8,1))] hr2) q9 ?_
  refine A3 q9 ?_
  refine w7 (A8 [(18,0),(27,0)] hed) q9 ?_
  refine A3 hk ?_
  refine w10 (Fh Gy Gx (8,0) [(18,0),(27,0)] hln) q9 ?_
  refine A3 (j2 hs1 hne) ?_
  exact Ab (Aa [((8,0),(8,0)),((8,1),(8,1))] [(18,0),(27,0)]) Tryz.results31 hk
theorem P7 (s:ByteArray) (hs:s.size≤10000) {v:V}{r:ByteArray}(hw0:(Bn s).1≠K8) (h1:Ck (Bn s).2=some (v,r)) (hno:Al ⟨2,v.enc,[]⟩=0→DK ⟨2,v.enc,[]⟩≠s):AC Tryz.prog 31 [.c (.str s)] (teL o o1 o2) (.tup [.agg [.c (.int .i64 2),.c (.sl (v.enc.map CellD.cs)),.c (.sl [])],.c (.bool false)]) (teL o o1 o2):=by
 obtain⟨bq,hcut⟩:=JL s (by omega)
 have hcs:=EN s
 have hw:((Bn s).1.toList==(⟨#[115,101,116]⟩:ByteArray).toList)=false:=S9 hw0
 have hr1:=CC (o1:=o1) (o2:=o2) (Bn s).2 (by omega) h1
 obtain⟨_,_,_,_,_,hrs⟩:=DI h1
 have hed:=CJ ⟨2,v.enc,[]⟩ (VD 2 (Ga h1))
 rw[GU]at hed
 have hs1:s.size+1≤9223372036854775807:=by omega
 cases hk:(Al ⟨2,v.enc,[]⟩==0) with
 |false =>
  clear hno
  generalize Al _=k at *
  generalize (Bn s).1=wd at *
  generalize (Bn s).2=tl at *
  refine A5 Tryz.func31 Tryz.ntmps31 ?_
  refine A3 q9 ?_
  refine w7 (A8 [] hcut) q9 ?_
  refine A3 q9 ?_
  refine A7 (A0 [((8,1),(8,1))] [((0,0),(18,0)),((8,1),(8,1))] hr1) q9 ?_
  refine A3 hw ?_
  refine w7 (A8 [(18,0)] hed) q9 ?_
  refine A3 hk ?_
  exact Ab (Aa [((8,0),(8,0)),((8,1),(8,1))] [(18,0)]) Tryz.results31 hk
 |true =>
  have hk0:Al ⟨2,v.enc,[]⟩=0:=by simpa using hk
  have hln:=Fd (o:=o) hk0
  rw[GU]at hln
  have hne:=Th (hno hk0)
  clear hno hk0
  generalize lnS _=ln at *
  generalize Al _=k at *
  generalize (Bn s).1=wd at *
  generalize (Bn s).2=tl at *
  refine A5 Tryz.func31 Tryz.ntmps31 ?_
  refine A3 q9 ?_
  refine w7 (A8 [] hcut) q9 ?_
  refine A3 q9 ?_
  refine A7 (A0 [((8,1),(8,1))] [((0,0),(18,0)),((8,1),(8,1))] hr1) q9 ?_
  refine A3 hw ?_
  refine w7 (A8 [(18,0)] hed) q9 ?_
  refine A3 hk ?_
  refine w10 (Fh Gy Gx (8,0) [(18,0)] hln) q9 ?_
  refine A3 (j2 hs1 hne) ?_
  exact Ab (Aa [((8,0),(8,0)),((8,1),(8,1))] [(18,0)]) Tryz.results31 hk
theorem QN (s:ByteArray) (hs:s.size≤10000) {v:V}{r:ByteArray}(hw0:(Bn s).1=K8) (h1:Ck (Bn s).2=some (v,r)) (h2:Ck r=none):AC Tryz.prog 31 [.c (.str s)] (teL o o1 o2) (.tup [.agg [.c (.int .i64 1),.c (.sl (v.enc.map CellD.cs)),.c (.sl [])],.c (.bool false)]) (teL o o1 o2):=by
 obtain⟨bq,hcut⟩:=JL s (by omega)
 have hcs:=EN s
 have hw:((Bn s).1.toList==(⟨#[115,101,116]⟩:ByteArray).toList)=true:=N6 hw0
 have hr1:=CC (o1:=o1) (o2:=o2) (Bn s).2 (by omega) h1
 obtain⟨_,_,_,_,_,hrs⟩:=DI h1
 have hr2:=EF (o1:=o1) (o2:=o2) r (by omega) h2
 have hed:=CJ ⟨1,v.enc,[]⟩ (VD 1 (Ga h1))
 have hk:(Al ⟨1,v.enc,[]⟩==0)=false:=by
  cases hq:(Al ⟨1,v.enc,[]⟩==0) with
  |false=>rfl
  |true=>exact absurd rfl ((FV (by simpa using hq)).2 rfl)
 rw[H8]at hed
 generalize Al _=k at *
 generalize (Bn s).1=wd at *
 generalize (Bn s).2=tl at *
 refine A5 Tryz.func31 Tryz.ntmps31 ?_
 refine A3 q9 ?_
 refine w7 (A8 [] hcut) q9 ?_
 refine A3 q9 ?_
 refine A7 (A0 [((8,1),(8,1))] [((0,0),(18,0)),((8,1),(8,1))] hr1) q9 ?_
 refine A3 hw ?_
 refine A7 (A0 [((8,1),(8,1))] [((8,1),(8,1))] hr2) q9 ?_
 refine A3 q9 ?_
 refine w7 (A8 [(18,0)] hed) q9 ?_
 refine A3 hk ?_
 exact Ab (Aa [((8,0),(8,0)),((8,1),(8,1))] [(18,0)]) Tryz.results31 hk
theorem QO (s:ByteArray) (hs:s.size≤10000) (hw0:(Bn s).1=K8) (h1:Ck (Bn s).2=none):AC Tryz.prog 31 [.c (.str s)] (teL o o1 o2) (.tup [.agg [.c (.int .i64 1),.c (.sl []),.c (.sl [])],.c (.bool false)]) (teL o o1 o2):=by
 obtain⟨bq,hcut⟩:=JL s (by omega)
 have hcs:=EN s
 have hw:((Bn s).1.toList==(⟨#[115,101,116]⟩:ByteArray).toList)=true:=N6 hw0
 have hr1:=EF (o1:=o1) (o2:=o2) (Bn s).2 (by omega) h1
 have hr2:=EF (o1:=o1) (o2:=o2) ByteArray.empty (by decide) M7
 have hed:=CJ ⟨1,[],[]⟩ (m0 1)
 have hk:(Al ⟨1,[],[]⟩==0)=false:=by
  cases hq:(Al ⟨1,[],[]⟩==0) with
  |false=>rfl
  |true=>exact absurd rfl (FV (by simpa using hq)).1
 rw[H8]at hed
 generalize Al _=k at *
 generalize (Bn s).1=wd at *
 generalize (Bn s).2=tl at *
 refine A5 Tryz.func31 Tryz.ntmps31 ?_
 refine A3 q9 ?_
 refine w7 (A8 [] hcut) q9 ?_
 refine A3 q9 ?_
 refine A7 (A0 [((8,1),(8,1))] [((8,1),(8,1))] hr1) q9 ?_
 refine A3 hw ?_
 refine A7 (A0 [((8,1),(8,1))] [((8,1),(8,1))] hr2) q9 ?_
 refine A3 q9 ?_
 refine w7 (A8 [] hed) q9 ?_
 refine A3 hk ?_
 exact Ab (Aa [((8,0),(8,0)),((8,1),(8,1))] []) Tryz.results31 hk
theorem QP (s:ByteArray) (hs:s.size≤10000) (hw0:(Bn s).1≠K8) (h1:Ck (Bn s).2=none):AC Tryz.prog 31 [.c (.str s)] (teL o o1 o2) (.tup [.agg [.c (.int .i64 2),.c (.sl []),.c (.sl [])],.c (.bool false)]) (teL o o1 o2):=by
 obtain⟨bq,hcut⟩:=JL s (by omega)
 have hcs:=EN s
 have hw:((Bn s).1.toList==(⟨#[115,101,116]⟩:ByteArray).toList)=false:=S9 hw0
 have hr1:=EF (o1:=o1) (o2:=o2) (Bn s).2 (by omega) h1
 have hed:=CJ ⟨2,[],[]⟩ (m0 2)
 have hk:(Al ⟨2,[],[]⟩==0)=false:=by
  cases hq:(Al ⟨2,[],[]⟩==0) with
  |false=>rfl
  |true=>exact absurd rfl (FV (by simpa using hq)).1
 rw[GU]at hed
 generalize Al _=k at *
 generalize (Bn s).1=wd at *
 generalize (Bn s).2=tl at *
 refine A5 Tryz.func31 Tryz.ntmps31 ?_
 refine A3 q9 ?_
 refine w7 (A8 [] hcut) q9 ?_
 refine A3 q9 ?_
 refine A7 (A0 [((8,1),(8,1))] [((8,1),(8,1))] hr1) q9 ?_
 refine A3 hw ?_
 refine w7 (A8 [] hed) q9 ?_
 refine A3 hk ?_
 exact Ab (Aa [((8,0),(8,0)),((8,1),(8,1))] []) Tryz.results31 hk
theorem XD (s:ByteArray) (hs:s.size≤10000) (h:Jx s=none):∃a x y,AC Tryz.prog 31 [.c (.str s)] (teL o o1 o2) (.tup [.agg [.c (.int .i64 a),.c (.sl x),.c (.sl y)],.c (.bool false)]) (teL o o1 o2):=by
 rcases Nq s with⟨v,r,u,r2,h1,h2,h3,h4⟩ | ⟨v,r,h1,h2,h3,h4⟩ | ⟨h1,h2,h4⟩ | ⟨v,r,h1,h2,h4⟩ | ⟨h1,h2,h4⟩
 ·exact⟨_,_,_,QR s hs h1 h2 h3 fun hk=>O1 h hk⟩
 ·exact⟨_,_,_,QN s hs h1 h2 h3⟩
 ·exact⟨_,_,_,QO s hs h1 h2⟩
 ·exact⟨_,_,_,P7 s hs h1 h2 fun hk=>O1 h hk⟩
 ·exact⟨_,_,_,QP s hs h1 h2⟩
def a4o (d:EditD):Mem:=[((0,0),.row false 5 115 (d.path.map CellD.cs))]++(if d.op=1 then [((0,1),.row false 5 115 (d.x.map CellD.cs))] else [])
def a4n (d:EditD):AV:=.agg [.c (.int .i64 d.op),.own (0,0),if d.op=1 then .own (0,1) else .nils]
theorem XE (s:ByteArray) (hs:s.size≤10000) {d:EditD}(h:Jx s=some d):AC Tryz.prog 31 [.c (.str s)] (teL o o1 o2) (.tup [a4n d,.c (.bool true)]) (teL o o1 o2++a4o d):=by
 obtain⟨hk,hl⟩:=J6.1 h
 have he:GX s=d:=by rw[←hl];exact Ti hk
 obtain⟨n1,n2⟩:=FV hk
 rcases Nq s with⟨v,r,u,r2,h1,h2,h3,h4⟩ | ⟨v,r,h1,h2,h3,h4⟩ | ⟨h1,h2,h4⟩ | ⟨v,r,h1,h2,h4⟩ | ⟨h1,h2,h4⟩
 ·rw[he]at h4
  subst h4
  exact UL s hs h1 h2 h3 hk hl
 ·rw[he]at h4
  subst h4
  exact absurd rfl (n2 rfl)
 ·rw[he]at h4
  subst h4
  exact absurd rfl n1
 ·rw[he]at h4
  subst h4
  exact SC s hs h1 h2 hk hl
 ·rw[he]at h4
  subst h4
  exact absurd rfl n1
end
section
open Go.RowKit
set_option maxRecDepth 10000
theorem Vn (s:ByteArray) (hs:s.size≤1048576):AC Tryz.prog 30 [.c (.str s)] [] (.c (.sl ((GH s).map Ac))) []:=by
 have h:=Wb s hs
 change AC Tryz.prog 69 [.c (.str s),.c (.str ⟨#[10]⟩)] [] (.own (0,0)) [((0,0),.row false 1 9 ((LD s).map Ac))]at h
 obtain⟨hp,hq⟩:=VK s
 rw[←RD]
 generalize LD s=l at *
 have hll:(l.map Ac).length=l.length:=by simp
 obtain⟨k,hk⟩:∃k,l.length=k+1:=⟨l.length-1,by omega⟩
 have hw:IntKind.i64.wrap ((l.length:Int)-1)=(k:Int):=by rw[Lo (by omega) (by omega)];omega
 have hlt:k<l.length:=by omega
 have hkl:k≤l.length:=by omega
 have hr:Ae (l.map Ac) 1 (k:Int)=true:=by simp[Ae,Ac,hlt]
 have hg:(l.map Ac)[k]? = some [C.str l[k]]:=by simp[hlt,Ac]
 have hlast:l.getLast? = some l[k]:=by rw[List.getLast?_eq_getElem?,hk,Nat.add_sub_cancel,List.getElem?_eq_getElem hlt]
 unfold KW
 rw[hlast]
 cases he:(l[k].toList==ByteArray.empty.toList) with
 |true =>
  have hx:l[k]=ByteArray.empty:=Ay (by simpa using he)
  have htk:(l.map Ac).take k=l.dropLast.map Ac:=by rw[←List.map_take,List.dropLast_eq_take,hk,Nat.add_sub_cancel]
  rw[if_pos (by rw[hx])]
  refine A5 Tryz.func30 Tryz.ntmps30 ?_
  refine A3 q9 ?_
  refine w12 (Au [] h) q9 ?_
  refine A3 (j5 hll hw hr hg he) ?_
  ((with_reducible apply a4k);(iterate 4 (focus (first | (simp only[go_sem,Nat.reduceEqDiff,Nat.reduceAdd,Nat.reduceSub,Nat.reduceLeDiff,Nat.reduceMul,Nat.reduceBEq,Nat.reduceLT,Int.reduceToNat,reduceCtorEq,hll,hkl,htk];first | done | exact rfl | (and_intros<;>rfl)) | exact rfl | decide))))
  refine A3 q9 ?_
  exact AL (Ad []) Tryz.results30
 |false =>
  have hx:¬(some l[k]=some ByteArray.empty):=by
   intro h
   injection h with h
   rw[h]at he
   simp at he
  rw[if_neg hx]
  have ho:AC Tryz.prog 30 [.c (.str s)] [] (.own (0,0)) [((0,0),.row false 1 9 (l.map Ac))]:=by
   refine A5 Tryz.func30 Tryz.ntmps30 ?_
   refine A3 q9 ?_
   refine w12 (Au [] h) q9 ?_
   refine A3 (j5 hll hw hr hg he) ?_
   exact Ab (Aa [((0,0),(6,0))] []) Tryz.results30 he
  exact wAS (AC.says [] [(0,0)] ho) q9
set_option maxRecDepth 10000
theorem p7 {l:List CellD}(h:l≠[]):Yg l=.osl (l.map CellD.cs):=by
 cases l with
 |nil=>exact absurd rfl h
 |cons x r=>rfl
theorem TF (l:List CellD):(Yg l).closed=true:=by
 unfold Yg
 cases l with
 |nil=>rfl
 |cons x r=>simp only[C.closed,Ey]
theorem Xr (l:List EditD):BN (l.map EditD.ox)=true:=by
 induction l with
 |nil=>rfl
 |cons d l ih=>simp only[List.map_cons,BN,ih,EditD.ox,Fs,TF,C.closed,Ey,Bool.and_self]
attribute [go_sem] Xr
end
section
open Go.RowKit
set_option maxRecDepth 10000
variable {o o1 o2:Obj}
def leA (acc:List EditD):AV:=match acc with
 | []=>.nils
 |_::_=>.own (99,1)
def leI (acc:List EditD):Mem:=match acc with
 | []=>[]
 |d::l=>[((99,1),.row true 3 53 ((d::l).map EditD.ox))]
theorem Lu {acc:List EditD}(h:acc≠[]):leA acc=.own (99,1):=by
 cases acc with
 |nil=>exact absurd rfl h
 |cons v vs=>rfl
theorem Lv {acc:List EditD}(h:acc≠[]):leI acc=[((99,1),.row true 3 53 (acc.map EditD.ox))]:=by
 cases acc with
 |nil=>exact absurd rfl h
 |cons v vs=>rfl
def peA (r:Int×Nat×List EditD):AV:=.agg [.c (.int .i64 r.1),.c (.int .i64 r.2.1),match r.2.2 with
 | []=>.nils
 |_::_=>.own (0,0)]
def peI (r:Int×Nat×List EditD):Mem:=match r.2.2 with
 | []=>[]
 |d::l=>[((0,0),.row true 3 53 ((d::l).map EditD.ox))]
theorem r7 {c:Int}{k:Nat}{l:List EditD}(h:l≠[]):peA (c,k,l)=.agg [.c (.int .i64 c),.c (.int .i64 k),.own (0,0)]:=by
 cases l with
 |nil=>exact absurd rfl h
 |cons v vs=>rfl
theorem KJ (c:Int) (k:Nat):peA (c,k,[])=.agg [.c (.int .i64 c),.c (.int .i64 k),.nils]:=rfl
theorem r8 {c:Int}{k:Nat}{l:List EditD}(h:l≠[]):peI (c,k,l)=[((0,0),.row true 3 53 (l.map EditD.ox))]:=by
 cases l with
 |nil=>exact absurd rfl h
 |cons v vs=>rfl
theorem KL (c:Int) (k:Nat):peI (c,k,[])=[]:=rfl
theorem a00 {d:EditD}(h:Al d=0):DY d:=by
 obtain⟨⟨q,hq,hqe,hqr⟩,hx⟩:=DG h
 obtain⟨h1,h2⟩:=Np h
 refine⟨by rw[hqe];exact Bu hqr,?_,by omega,by omega⟩
 rcases hx with h2 | ⟨h2,u,hu,hue,hur⟩
 ·rw[QM h h2];exact fun c hc=>by cases hc
 ·rw[hue];exact Bu hur
def ZB (l:List EditD):Int×Nat×List EditD:=if 100<l.length then (2,0,[]) else (0,0,l)
def goE (L:List ByteArray) (acc:List EditD):Int×Nat×List EditD:=match Ij L acc with
 | (_,some k)=>(5,k,[])
 | (l,none)=>ZB l
theorem Og (s:ByteArray):Fi s=if 4000<s.size then (2,0,[]) else goE (GH s) []:=rfl
theorem a1e (acc:List EditD):goE [] acc=ZB acc:=rfl
theorem ZI {x:ByteArray}(h:Jx x=none) (L:List ByteArray) (acc:List EditD):goE (x::L) acc=(5,acc.length,[]):=by unfold goE Ij;rw[h]
theorem ZJ {x:ByteArray}{d:EditD}(h:Jx x=some d) (L:List ByteArray) (acc:List EditD):goE (x::L) acc=goE L (acc++[d]):=by unfold goE;rw[Ij,h]
theorem ZC {l:List EditD}(h:∀d∈l,Al d=0):(Bk l=2∧ZB l=(2,0,[])∧l≠[])∨(Bk l=0∧ZB l=(0,0,l)∧l.length≤100):=by
 rw[Vo h]
 unfold ZB
 split
 ·rename_i h1
  refine .inl ⟨rfl,rfl,?_⟩
  rintro rfl
  simp at h1
 ·exact .inr ⟨rfl,rfl,by omega⟩
theorem Re (s:ByteArray) (hs:s.size≤1048576):AC Tryz.prog 8 [.c (.str s)] (teL o o1 o2) (peA (Fi s)) (teL o o1 o2++peI (Fi s)):=by
 have hL:=Vn s hs
 have hsz:∀x∈GH s,x.size≤s.size:=Iz s _ _ _
 have hll:=JW s s.size 0 0
 rw[Og]
 have h20:((2:Int) != 0)=true:=rfl
 have h00:((0:Int) != 0)=false:=rfl
 by_cases h4:4000<s.size
 ·have g4:decide ((s.size:Int)>4000)=true:=decide_eq_true (by omega)
  rw[if_pos h4,KJ,KL]
  refine A5 Tryz.func8 Tryz.ntmps8 ?_
  refine A3 g4 ?_
  exact Ab (Aa [((8,0),(8,0)),((8,1),(8,1))] []) Tryz.results8 g4
 ·have g4:decide ((s.size:Int)>4000)=false:=decide_eq_false (by omega)
  rw[if_neg h4]
  change (GH s).length≤_ at hll
  generalize GH s=L at *
  have hLl:(L.map Ac).length=L.length:=by simp
  obtain⟨R,hR⟩:∃R,goE L []=R:=⟨_,rfl⟩
  rw[hR]
  have hv0:leA []=.nils:=rfl
  have hm0:leI []=[]:=rfl
  refine A5 Tryz.func8 Tryz.ntmps8 ?_
  refine A3 g4 ?_
  refine w9 (A6 [] hL) q9 ?_
  refine A3 hLl ?_
  refine AZ (κ:=List EditD) (fun acc=>⟨mkS 0 46 [(0,.c (.str s)),(2,.ptr (2,0) 0),(3,.ptr (3,0) 0),(15,.c (.sl (L.map Ac))),(16,.c (.int .i64 L.length)),(17,.c (.int .i64 acc.length))],
    [((2,0),.box [.c (.int .i64 0),.c (.int .i64 0),.nils]),((8,0),.blk (MH o) []),((8,1),.gen (D8 o1 o2)),((3,0),.box [.c (.int .i64 0),.c (.int .i64 0),leA acc])]++leI acc⟩)
   (fun acc=>acc.length≤L.length∧(∀d∈acc,Al d=0)∧goE (L.drop acc.length) acc=R) (fun acc=>L.length-acc.length) [] ⟨Nat.zero_le _,by simp,hR⟩ ?_ ?_
  ·(apply (AH.of [((2,0),(2,0)),((8,0),(8,0)),((8,1),(8,1)),((3,0),(3,0))] []);(iterate 2 ((focus (simp only[go_sem,Nat.reduceEqDiff,Nat.reduceAdd,Nat.reduceSub,Nat.reduceLeDiff,Nat.reduceMul,Nat.reduceBEq,Nat.reduceLT,Int.reduceToNat,reduceCtorEq,hv0,hm0,List.append_nil];try (and_intros<;>rfl)));(focus exact rfl)));(iterate 4 (focus (simp[go_sem,hv0,hm0,List.append_nil];done))))
  ·rintro acc ⟨hk,hgood,hgo⟩
   dsimp only at hk hgo ⊢
   obtain⟨k,hke⟩:∃k,acc.length=k:=⟨_,rfl⟩
   rw[hke]at hk hgo ⊢
   by_cases hlt:k<L.length
   ·have hdk:decide ((k:Int)<(L.length:Int))=true:=decide_eq_true (by omega)
    rw[List.drop_eq_getElem_cons hlt]at hgo
    have hr:Ae (L.map Ac) 1 k=true:=by simp[Ae,hlt,Ac]
    have hg:(L.map Ac)[k]? = some [C.str L[k]]:=by simp[hlt,Ac]
    have hxs:L[k].size≤10000:=by have:=hsz _ (List.getElem_mem hlt);omega
    have hw:=AA (k:=k) (by omega)
    generalize L[k]=x at *
    cases hD:Jx x with
    |none =>
     rw[ZI hD,hke]at hgo
     obtain⟨ja,jx,jy,hS⟩:=XD (o:=o) (o1:=o1) (o2:=o2) x hxs hD
     subst hgo
     rw[KJ,KL]
     rcases Classical.em (acc=[]) with rfl | hne
     ·simp only[hv0,hm0,List.append_nil]
      refine A3 (j4 hLl hdk hr hg) ?_
      refine AW (Az [] [((8,0),(8,0)),((8,1),(8,1))] [((8,0),(8,0)),((8,1),(8,1))] hS) q9 ?_
      refine A3 q9 ?_
      exact Ab (Aa [((8,0),(8,0)),((8,1),(8,1))] []) Tryz.results8 hdk
     ·simp only[Lu hne,Lv hne,List.cons_append,List.nil_append]
      refine A3 (j4 hLl hdk hr hg) ?_
      refine AW (Az [] [((8,0),(8,0)),((8,1),(8,1))] [((8,0),(8,0)),((8,1),(8,1))] hS) q9 ?_
      refine A3 q9 ?_
      exact Ab (Aa [((8,0),(8,0)),((8,1),(8,1))] []) Tryz.results8 hdk
    |some d =>
     rw[ZJ hD]at hgo
     have hS:=XE (o:=o) (o1:=o1) (o2:=o2) x hxs hD
     have hdc:=(J6.1 hD).1
     have hol:acc.length+1≤1000000:=by omega
     have hva:leA (acc++[d])=.own (99,1):=Lu (by simp)
     have hma:=Lv (acc:=acc++[d]) (by simp)
     have hla:(acc++[d]).length=k+1:=by simp[hke]
     have hgood2:∀y∈acc++[d],Al y=0:=fun y hy=>by
      rcases List.mem_append.1 hy with hy | hy
      ·exact hgood y hy
      ·rw[List.mem_singleton.1 hy];exact hdc
     obtain⟨n1,n2⟩:=FV hdc
     rcases (DG hdc).2 with h2 | ⟨h1,_⟩
     ·have hx:=QM hdc h2
      unfold a4n a4o at hS
      rw[if_neg (by omega),if_neg (by omega),h2]at hS
      simp only[List.append_nil,List.cons_append,List.nil_append]at hS
      have hrow:(acc++[d]).map EditD.ox=acc.map EditD.ox++[[.int .i64 2,.osl (d.path.map CellD.cs),.sl []]]:=by rw[List.map_append,List.map_cons,List.map_nil];unfold EditD.ox;rw[h2,hx];rfl
      rw[hrow]at hma
      obtain⟨acc',hacc⟩:∃a,a=acc++[d]:=⟨_,rfl⟩
      rw[←hacc]at hva hma hla hgo hgood2
      rcases Classical.em (acc=[]) with he | hne
      ·subst he
       simp only[hv0,hm0,List.append_nil]
       simp only[List.map_nil,List.nil_append]at hma
       refine A3 (j4 hLl hdk hr hg) ?_
       refine A7 (A0 [((8,0),(8,0)),((8,1),(8,1))] [((8,0),(8,0)),((8,1),(8,1)),((0,0),(24,0))] hS) q9 ?_
       refine A3 hw ?_
       refine⟨acc',by omega,⟨by omega,hgood2,by rw[hla];exact hgo⟩,?_⟩
       simp only[hva,hma,hla,List.cons_append,List.nil_append]
       exact As (AH.of [((2,0),(2,0)),((8,0),(8,0)),((8,1),(8,1)),((3,0),(3,0)),((99,1),(35,0))] []) hw
      ·simp only[Lu hne,Lv hne,List.cons_append,List.nil_append]
       refine A3 (j4 hLl hdk hr hg) ?_
       refine A7 (A0 [((8,0),(8,0)),((8,1),(8,1))] [((8,0),(8,0)),((8,1),(8,1)),((0,0),(24,0))] hS) q9 ?_
       refine A3 (j2 hw hol) ?_
       refine⟨acc',by omega,⟨by omega,hgood2,by rw[hla];exact hgo⟩,?_⟩
       simp only[hva,hma,hla,List.cons_append,List.nil_append]
       exact As (AH.of [((2,0),(2,0)),((8,0),(8,0)),((8,1),(8,1)),((3,0),(3,0)),((99,1),(35,0))] []) hw
     ·have hx:=n2 h1
      unfold a4n a4o at hS
      rw[if_pos h1,if_pos h1,h1]at hS
      simp only[List.append_nil,List.cons_append,List.nil_append]at hS
      have hrow:(acc++[d]).map EditD.ox=acc.map EditD.ox++[[.int .i64 1,.osl (d.path.map CellD.cs),.osl (d.x.map CellD.cs)]]:=by rw[List.map_append,List.map_cons,List.map_nil];unfold EditD.ox;rw[h1,p7 hx]
      rw[hrow]at hma
      obtain⟨acc',hacc⟩:∃a,a=acc++[d]:=⟨_,rfl⟩
      rw[←hacc]at hva hma hla hgo hgood2
      rcases Classical.em (acc=[]) with he | hne
      ·subst he
       simp only[hv0,hm0,List.append_nil]
       simp only[List.map_nil,List.nil_append]at hma
       refine A3 (j4 hLl hdk hr hg) ?_
       refine A7 (A0 [((8,0),(8,0)),((8,1),(8,1))] [((8,0),(8,0)),((8,1),(8,1)),((0,0),(24,0)),((0,1),(24,1))] hS) q9 ?_
       refine A3 hw ?_
       refine⟨acc',by omega,⟨by omega,hgood2,by rw[hla];exact hgo⟩,?_⟩
       simp only[hva,hma,hla,List.cons_append,List.nil_append]
       exact As (AH.of [((2,0),(2,0)),((8,0),(8,0)),((8,1),(8,1)),((3,0),(3,0)),((99,1),(35,0))] []) hw
      ·simp only[Lu hne,Lv hne,List.cons_append,List.nil_append]
       refine A3 (j4 hLl hdk hr hg) ?_
       refine A7 (A0 [((8,0),(8,0)),((8,1),(8,1))] [((8,0),(8,0)),((8,1),(8,1)),((0,0),(24,0)),((0,1),(24,1))] hS) q9 ?_
       refine A3 (j2 hw hol) ?_
       refine⟨acc',by omega,⟨by omega,hgood2,by rw[hla];exact hgo⟩,?_⟩
       simp only[hva,hma,hla,List.cons_append,List.nil_append]
       exact As (AH.of [((2,0),(2,0)),((8,0),(8,0)),((8,1),(8,1)),((3,0),(3,0)),((99,1),(35,0))] []) hw
   ·have hdk:decide ((k:Int)<(L.length:Int))=false:=decide_eq_false (by omega)
    rw[List.drop_eq_nil_of_le (by omega),a1e]at hgo
    have hef:=Hv acc (fun d hd=>a00 (hgood d hd)) (by omega)
    unfold GC at hef
    rcases ZC hgood with⟨hc,hf,hne⟩ | ⟨hc,hf,_⟩
    ·rw[hf]at hgo
     rw[hc]at hef
     subst hgo
     rw[KJ,KL]
     simp only[Lu hne,Lv hne,List.cons_append,List.nil_append]
     refine A3 (j2 hLl hdk) ?_
     refine w7 (A8 [(99,1)] hef) q9 ?_
     refine A3 h20 ?_
     exact Ab (Aa [((8,0),(8,0)),((8,1),(8,1))] []) Tryz.results8 hdk
    ·rw[hf]at hgo
     rw[hc]at hef
     subst hgo
     rcases Classical.em (acc=[]) with rfl | hne
     ·simp only[hv0,hm0,List.append_nil,KJ,KL]
      refine A3 (j2 hLl hdk) ?_
      refine w7 (A8 [] hef) @List.map_nil.{0,0} ?_
      refine A3 h00 ?_
      exact Ab (Aa [((8,0),(8,0)),((8,1),(8,1))] []) Tryz.results8 hdk
     ·rw[r7 hne,r8 hne]
      simp only[Lu hne,Lv hne,List.cons_append,List.nil_append]
      refine A3 (j2 hLl hdk) ?_
      refine w7 (A8 [(99,1)] hef) q9 ?_
      refine A3 h00 ?_
      exact Ab (Aa [((8,0),(8,0)),((8,1),(8,1)),((0,0),(99,1))] []) Tryz.results8 hdk
end
end Go.Proofs.YtllfmaflodbieaaGreatDoor
