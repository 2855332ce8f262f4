/- Texts of this proof: D36 D30 G73. -/
import Derived.Test.YtllfmaflodbieaaGreatDoorKE42uD35
set_option linter.all false
set_option maxHeartbeats 8000000
namespace Go.Proofs.YtllfmaflodbieaaGreatDoor
section
open Go.RowKit
set_option maxRecDepth 10000
variable {o o1 o2:Obj}
abbrev teL (o o1 o2:Obj):Mem:=[((8,0),.blk (Kb o) []),((8,1),.gen (Cf o1 o2))]
theorem SK (d:EditD) (s:ByteArray) (h:D9 d=s):((lnS d).toList==(s++bS 10).toList)=true:=H4 (by rw[←h];rfl)
theorem Pc {d:EditD}{s:ByteArray}(h:D9 d≠s):((lnS d).toList==(s++bS 10).toList)=false:=J1 fun e=>h (by
 unfold lnS at e
 have:=congrArg (fun x=>x.data.toList) e
 simp only[Bl]at this
 exact O5 (List.append_cancel_right this))
theorem Ey {s:ByteArray}{v:V}{r:ByteArray}(h:BG s=some (v,r)):v.right:=by
 obtain⟨_,_,hr,_⟩:=CI h
 exact hr
theorem J2:G8 []:=fun c hc=>absurd hc (by simp)
theorem Vq (op:Int):Jl ⟨op,[],[]⟩:=⟨J2,J2,Nat.zero_le _,Nat.zero_le _⟩
theorem Wc (op:Int) {v u:V}(hv:v.right) (hu:u.right):Jl ⟨op,v.enc,u.enc⟩ :=
 ⟨Df hv,Df hu,by show v.enc.length≤_;rw[Bv];have:=hv.2.1;omega,by show u.enc.length≤_;rw[Bv];have:=hu.2.1;omega⟩
theorem R5 (op:Int) {v:V}(hv:v.right):Jl ⟨op,v.enc,[]⟩ :=
 ⟨Df hv,J2,by show v.enc.length≤_;rw[Bv];have:=hv.2.1;omega,Nat.zero_le _⟩
theorem RZ (s:ByteArray) (hs:s.size≤10000) {v u:V}{r r2:ByteArray}(hw0:(AW s).1=Hj) (h1:BG (AW s).2=some (v,r)) (h2:BG r=some (u,r2)) (hk0:Ac ⟨1,v.enc,u.enc⟩=0) (hl:D9 ⟨1,v.enc,u.enc⟩=s):AC Tryz.prog 31 [.c (.str s)] (teL o o1 o2) (.tup [.agg [.c (.int .i64 1),.own (0,0),.own (0,1)],.c (.bool true)]) (teL o o1 o2++[((0,0),.row false 5 115 (v.enc.map CellD.cs)),((0,1),.row false 5 115 (u.enc.map CellD.cs))]):=by
 obtain⟨bq,hcut⟩:=Hq s (by omega)
 have hcs:=DL s
 have hw:((AW s).1.toList==(⟨#[115,101,116]⟩:ByteArray).toList)=true:=H4 hw0
 have hr1:=BU (o1:=o1) (o2:=o2) (AW s).2 (by omega) h1
 obtain⟨_,_,_,_,_,hrs⟩:=CI h1
 have hr2:=BU (o1:=o1) (o2:=o2) r (by omega) h2
 have hed:=C3 ⟨1,v.enc,u.enc⟩ (Wc 1 (Ey h1) (Ey h2))
 rw[Dv]at hed
 have hs1:s.size+1≤9223372036854775807:=by omega
 have hk:(Ac ⟨1,v.enc,u.enc⟩==0)=true:=by simp[hk0]
 have hln:=ES (o:=o) hk0
 rw[Dv]at hln
 have hne:=SK _ s hl
 clear hl hk0
 generalize lnS _=ln at *
 generalize Ac _=k at *
 generalize (AW s).1=wd at *
 generalize (AW s).2=tl at *
 refine A6 Tryz.func31 Tryz.ntmps31 ?_
 refine A0 trivial ?_
 refine w7 (A3 [] hcut) trivial ?_
 refine A0 trivial ?_
 refine Ah (A4 [((8,1),(8,1))] [((0,0),(18,0)),((8,1),(8,1))] hr1) trivial ?_
 refine A0 hw ?_
 refine Ah (A4 [((8,1),(8,1))] [((0,0),(27,0)),((8,1),(8,1))] hr2) trivial ?_
 refine A0 trivial ?_
 refine w7 (A3 [(18,0),(27,0)] hed) trivial ?_
 refine A0 hk ?_
 refine w10 (EB FM FI (8,0) [(18,0),(27,0)] hln) trivial ?_
 refine A0 (j2 hs1 hne) ?_
 exact A9 (A8 [((8,0),(8,0)),((8,1),(8,1)),((0,0),(18,0)),((0,1),(27,0))] []) Tryz.results31 hk
theorem Q9 (s:ByteArray) (hs:s.size≤10000) {v:V}{r:ByteArray}(hw0:(AW s).1≠Hj) (h1:BG (AW s).2=some (v,r)) (hk0:Ac ⟨2,v.enc,[]⟩=0) (hl:D9 ⟨2,v.enc,[]⟩=s):AC Tryz.prog 31 [.c (.str s)] (teL o o1 o2) (.tup [.agg [.c (.int .i64 2),.own (0,0),.nils],.c (.bool true)]) (teL o o1 o2++[((0,0),.row false 5 115 (v.enc.map CellD.cs))]):=by
 obtain⟨bq,hcut⟩:=Hq s (by omega)
 have hcs:=DL s
 have hw:((AW s).1.toList==(⟨#[115,101,116]⟩:ByteArray).toList)=false:=J1 hw0
 have hr1:=BU (o1:=o1) (o2:=o2) (AW s).2 (by omega) h1
 obtain⟨_,_,_,_,_,hrs⟩:=CI h1
 have hed:=C3 ⟨2,v.enc,[]⟩ (R5 2 (Ey h1))
 rw[D8]at hed
 have hs1:s.size+1≤9223372036854775807:=by omega
 have hk:(Ac ⟨2,v.enc,[]⟩==0)=true:=by simp[hk0]
 have hln:=ES (o:=o) hk0
 rw[D8]at hln
 have hne:=SK _ s hl
 clear hl hk0
 generalize lnS _=ln at *
 generalize Ac _=k at *
 generalize (AW s).1=wd at *
 generalize (AW s).2=tl at *
 refine A6 Tryz.func31 Tryz.ntmps31 ?_
 refine A0 trivial ?_
 refine w7 (A3 [] hcut) trivial ?_
 refine A0 trivial ?_
 refine Ah (A4 [((8,1),(8,1))] [((0,0),(18,0)),((8,1),(8,1))] hr1) trivial ?_
 refine A0 hw ?_
 refine w7 (A3 [(18,0)] hed) trivial ?_
 refine A0 hk ?_
 refine w10 (EB FM FI (8,0) [(18,0)] hln) trivial ?_
 refine A0 (j2 hs1 hne) ?_
 exact A9 (A8 [((8,0),(8,0)),((8,1),(8,1)),((0,0),(18,0))] []) Tryz.results31 hk
theorem OB (s:ByteArray) (hs:s.size≤10000) {v u:V}{r r2:ByteArray}(hw0:(AW s).1=Hj) (h1:BG (AW s).2=some (v,r)) (h2:BG r=some (u,r2)) (hno:Ac ⟨1,v.enc,u.enc⟩=0→D9 ⟨1,v.enc,u.enc⟩≠s):AC Tryz.prog 31 [.c (.str s)] (teL o o1 o2) (.tup [.agg [.c (.int .i64 1),.c (.sl (v.enc.map CellD.cs)),.c (.sl (u.enc.map CellD.cs))],.c (.bool false)]) (teL o o1 o2):=by
 obtain⟨bq,hcut⟩:=Hq s (by omega)
 have hcs:=DL s
 have hw:((AW s).1.toList==(⟨#[115,101,116]⟩:ByteArray).toList)=true:=H4 hw0
 have hr1:=BU (o1:=o1) (o2:=o2) (AW s).2 (by omega) h1
 obtain⟨_,_,_,_,_,hrs⟩:=CI h1
 have hr2:=BU (o1:=o1) (o2:=o2) r (by omega) h2
 have hed:=C3 ⟨1,v.enc,u.enc⟩ (Wc 1 (Ey h1) (Ey h2))
 rw[Dv]at hed
 have hs1:s.size+1≤9223372036854775807:=by omega
 cases hk:(Ac ⟨1,v.enc,u.enc⟩==0) with
 |false =>
  clear hno
  generalize Ac _=k at *
  generalize (AW s).1=wd at *
  generalize (AW s).2=tl at *
  refine A6 Tryz.func31 Tryz.ntmps31 ?_
  refine A0 trivial ?_
  refine w7 (A3 [] hcut) trivial ?_
  refine A0 trivial ?_
  refine Ah (A4 [((8,1),(8,1))] [((0,0),(18,0)),((8,1),(8,1))] hr1) trivial ?_
  refine A0 hw ?_
  refine Ah (A4 [((8,1),(8,1))] [((0,0),(27,0)),((8,1),(8,1))] hr2) trivial ?_
  refine A0 trivial ?_
  refine w7 (A3 [(18,0),(27,0)] hed) trivial ?_
  refine A0 hk ?_
  exact A9 (A8 [((8,0),(8,0)),((8,1),(8,1))] [(18,0),(27,0)]) Tryz.results31 hk
 |true =>
  have hk0:Ac ⟨1,v.enc,u.enc⟩=0:=by simpa using hk
  have hln:=ES (o:=o) hk0
  rw[Dv]at hln
  have hne:=Pc (hno hk0)
  clear hno hk0
  generalize lnS _=ln at *
  generalize Ac _=k at *
  generalize (AW s).1=wd at *
  generalize (AW s).2=tl at *
  refine A6 Tryz.func31 Tryz.ntmps31 ?_
  refine A0 trivial ?_
  refine w7 (A3 [] hcut) trivial ?_
  refine A0 trivial ?_
  refine Ah (A4 [((8,1),(8,1))] [((0,0),(18,0)),((8,1),(8,1))] hr1) trivial ?_
  refine A0 hw ?_
  refine Ah (A4 [((8,1),(8,1))] [((0,0),(27,0)),((8,1),(8,1))] hr2) trivial ?_
  refine A0 trivial ?_
  refine w7 (A3 [(18,0),(27,0)] hed) trivial ?_
  refine A0 hk ?_
  refine w10 (EB FM FI (8,0) [(18,0),(27,0)] hln) trivial ?_
  refine A0 (j2 hs1 hne) ?_
  exact A9 (A8 [((8,0),(8,0)),((8,1),(8,1))] [(18,0),(27,0)]) Tryz.results31 hk
theorem Mf (s:ByteArray) (hs:s.size≤10000) {v:V}{r:ByteArray}(hw0:(AW s).1≠Hj) (h1:BG (AW s).2=some (v,r)) (hno:Ac ⟨2,v.enc,[]⟩=0→D9 ⟨2,v.enc,[]⟩≠s):AC Tryz.prog 31 [.c (.str s)] (teL o o1 o2) (.tup [.agg [.c (.int .i64 2),.c (.sl (v.enc.map CellD.cs)),.c (.sl [])],.c (.bool false)]) (teL o o1 o2):=by
 obtain⟨bq,hcut⟩:=Hq s (by omega)
 have hcs:=DL s
 have hw:((AW s).1.toList==(⟨#[115,101,116]⟩:ByteArray).toList)=false:=J1 hw0
 have hr1:=BU (o1:=o1) (o2:=o2) (AW s).2 (by omega) h1
 obtain⟨_,_,_,_,_,hrs⟩:=CI h1
 have hed:=C3 ⟨2,v.enc,[]⟩ (R5 2 (Ey h1))
 rw[D8]at hed
 have hs1:s.size+1≤9223372036854775807:=by omega
 cases hk:(Ac ⟨2,v.enc,[]⟩==0) with
 |false =>
  clear hno
  generalize Ac _=k at *
  generalize (AW s).1=wd at *
  generalize (AW s).2=tl at *
  refine A6 Tryz.func31 Tryz.ntmps31 ?_
  refine A0 trivial ?_
  refine w7 (A3 [] hcut) trivial ?_
  refine A0 trivial ?_
  refine Ah (A4 [((8,1),(8,1))] [((0,0),(18,0)),((8,1),(8,1))] hr1) trivial ?_
  refine A0 hw ?_
  refine w7 (A3 [(18,0)] hed) trivial ?_
  refine A0 hk ?_
  exact A9 (A8 [((8,0),(8,0)),((8,1),(8,1))] [(18,0)]) Tryz.results31 hk
 |true =>
  have hk0:Ac ⟨2,v.enc,[]⟩=0:=by simpa using hk
  have hln:=ES (o:=o) hk0
  rw[D8]at hln
  have hne:=Pc (hno hk0)
  clear hno hk0
  generalize lnS _=ln at *
  generalize Ac _=k at *
  generalize (AW s).1=wd at *
  generalize (AW s).2=tl at *
  refine A6 Tryz.func31 Tryz.ntmps31 ?_
  refine A0 trivial ?_
  refine w7 (A3 [] hcut) trivial ?_
  refine A0 trivial ?_
  refine Ah (A4 [((8,1),(8,1))] [((0,0),(18,0)),((8,1),(8,1))] hr1) trivial ?_
  refine A0 hw ?_
  refine w7 (A3 [(18,0)] hed) trivial ?_
  refine A0 hk ?_
  refine w10 (EB FM FI (8,0) [(18,0)] hln) trivial ?_
  refine A0 (j2 hs1 hne) ?_
  exact A9 (A8 [((8,0),(8,0)),((8,1),(8,1))] [(18,0)]) Tryz.results31 hk
theorem NC (s:ByteArray) (hs:s.size≤10000) {v:V}{r:ByteArray}(hw0:(AW s).1=Hj) (h1:BG (AW s).2=some (v,r)) (h2:BG r=none):AC Tryz.prog 31 [.c (.str s)] (teL o o1 o2) (.tup [.agg [.c (.int .i64 1),.c (.sl (v.enc.map CellD.cs)),.c (.sl [])],.c (.bool false)]) (teL o o1 o2):=by
 obtain⟨bq,hcut⟩:=Hq s (by omega)
 have hcs:=DL s
 have hw:((AW s).1.toList==(⟨#[115,101,116]⟩:ByteArray).toList)=true:=H4 hw0
 have hr1:=BU (o1:=o1) (o2:=o2) (AW s).2 (by omega) h1
 obtain⟨_,_,_,_,_,hrs⟩:=CI h1
 have hr2:=Ds (o1:=o1) (o2:=o2) r (by omega) h2
 have hed:=C3 ⟨1,v.enc,[]⟩ (R5 1 (Ey h1))
 have hk:(Ac ⟨1,v.enc,[]⟩==0)=false:=by
  cases hq:(Ac ⟨1,v.enc,[]⟩==0) with
  |false=>rfl
  |true=>exact absurd rfl ((EF (by simpa using hq)).2 rfl)
 rw[Dv]at hed
 generalize Ac _=k at *
 generalize (AW s).1=wd at *
 generalize (AW s).2=tl at *
 refine A6 Tryz.func31 Tryz.ntmps31 ?_
 refine A0 trivial ?_
 refine w7 (A3 [] hcut) trivial ?_
 refine A0 trivial ?_
 refine Ah (A4 [((8,1),(8,1))] [((0,0),(18,0)),((8,1),(8,1))] hr1) trivial ?_
 refine A0 hw ?_
 refine Ah (A4 [((8,1),(8,1))] [((8,1),(8,1))] hr2) trivial ?_
 refine A0 trivial ?_
 refine w7 (A3 [(18,0)] hed) trivial ?_
 refine A0 hk ?_
 exact A9 (A8 [((8,0),(8,0)),((8,1),(8,1))] [(18,0)]) Tryz.results31 hk
theorem Ns (s:ByteArray) (hs:s.size≤10000) (hw0:(AW s).1=Hj) (h1:BG (AW s).2=none):AC Tryz.prog 31 [.c (.str s)] (teL o o1 o2) (.tup [.agg [.c (.int .i64 1),.c (.sl []),.c (.sl [])],.c (.bool false)]) (teL o o1 o2):=by
 obtain⟨bq,hcut⟩:=Hq s (by omega)
 have hcs:=DL s
 have hw:((AW s).1.toList==(⟨#[115,101,116]⟩:ByteArray).toList)=true:=H4 hw0
 have hr1:=Ds (o1:=o1) (o2:=o2) (AW s).2 (by omega) h1
 have hr2:=Ds (o1:=o1) (o2:=o2) ByteArray.empty (by decide) JI
 have hed:=C3 ⟨1,[],[]⟩ (Vq 1)
 have hk:(Ac ⟨1,[],[]⟩==0)=false:=by
  cases hq:(Ac ⟨1,[],[]⟩==0) with
  |false=>rfl
  |true=>exact absurd rfl (EF (by simpa using hq)).1
 rw[Dv]at hed
 generalize Ac _=k at *
 generalize (AW s).1=wd at *
 generalize (AW s).2=tl at *
 refine A6 Tryz.func31 Tryz.ntmps31 ?_
 refine A0 trivial ?_
 refine w7 (A3 [] hcut) trivial ?_
 refine A0 trivial ?_
 refine Ah (A4 [((8,1),(8,1))] [((8,1),(8,1))] hr1) trivial ?_
 refine A0 hw ?_
 refine Ah (A4 [((8,1),(8,1))] [((8,1),(8,1))] hr2) trivial ?_
 refine A0 trivial ?_
 refine w7 (A3 [] hed) trivial ?_
 refine A0 hk ?_
 exact A9 (A8 [((8,0),(8,0)),((8,1),(8,1))] []) Tryz.results31 hk
theorem NI (s:ByteArray) (hs:s.size≤10000) (hw0:(AW s).1≠Hj) (h1:BG (AW s).2=none):AC Tryz.prog 31 [.c (.str s)] (teL o o1 o2) (.tup [.agg [.c (.int .i64 2),.c (.sl []),.c (.sl [])],.c (.bool false)]) (teL o o1 o2):=by
 obtain⟨bq,hcut⟩:=Hq s (by omega)
 have hcs:=DL s
 have hw:((AW s).1.toList==(⟨#[115,101,116]⟩:ByteArray).toList)=false:=J1 hw0
 have hr1:=Ds (o1:=o1) (o2:=o2) (AW s).2 (by omega) h1
 have hed:=C3 ⟨2,[],[]⟩ (Vq 2)
 have hk:(Ac ⟨2,[],[]⟩==0)=false:=by
  cases hq:(Ac ⟨2,[],[]⟩==0) with
  |false=>rfl
  |true=>exact absurd rfl (EF (by simpa using hq)).1
 rw[D8]at hed
 generalize Ac _=k at *
 generalize (AW s).1=wd at *
 generalize (AW s).2=tl at *
 refine A6 Tryz.func31 Tryz.ntmps31 ?_
 refine A0 trivial ?_
 refine w7 (A3 [] hcut) trivial ?_
 refine A0 trivial ?_
 refine Ah (A4 [((8,1),(8,1))] [((8,1),(8,1))] hr1) trivial ?_
 refine A0 hw ?_
 refine w7 (A3 [] hed) trivial ?_
 refine A0 hk ?_
 exact A9 (A8 [((8,0),(8,0)),((8,1),(8,1))] []) Tryz.results31 hk
theorem UK (s:ByteArray) (hs:s.size≤10000) (h:DE s=none):∃a x y,AC Tryz.prog 31 [.c (.str s)] (teL o o1 o2) (.tup [.agg [.c (.int .i64 a),.c (.sl x),.c (.sl y)],.c (.bool false)]) (teL o o1 o2):=by
 rcases Lg s with⟨v,r,u,r2,h1,h2,h3,h4⟩ | ⟨v,r,h1,h2,h3,h4⟩ | ⟨h1,h2,h4⟩ | ⟨v,r,h1,h2,h4⟩ | ⟨h1,h2,h4⟩
 ·exact⟨_,_,_,OB s hs h1 h2 h3 fun hk=>FA h hk⟩
 ·exact⟨_,_,_,NC s hs h1 h2 h3⟩
 ·exact⟨_,_,_,Ns s hs h1 h2⟩
 ·exact⟨_,_,_,Mf s hs h1 h2 fun hk=>FA h hk⟩
 ·exact⟨_,_,_,NI s hs h1 h2⟩
def Yx (d:EditD):Mem:=[((0,0),.row false 5 115 (d.path.map CellD.cs))]++(if d.op=1 then [((0,1),.row false 5 115 (d.x.map CellD.cs))] else [])
def YP (d:EditD):AV:=.agg [.c (.int .i64 d.op),.own (0,0),if d.op=1 then .own (0,1) else .nils]
theorem TE (s:ByteArray) (hs:s.size≤10000) {d:EditD}(h:DE s=some d):AC Tryz.prog 31 [.c (.str s)] (teL o o1 o2) (.tup [YP d,.c (.bool true)]) (teL o o1 o2++Yx d):=by
 obtain⟨hk,hl⟩:=Dd.1 h
 have he:Fl s=d:=by rw[←hl];exact P6 hk
 obtain⟨n1,n2⟩:=EF hk
 rcases Lg s with⟨v,r,u,r2,h1,h2,h3,h4⟩ | ⟨v,r,h1,h2,h3,h4⟩ | ⟨h1,h2,h4⟩ | ⟨v,r,h1,h2,h4⟩ | ⟨h1,h2,h4⟩
 ·rw[he]at h4
  subst h4
  exact RZ s hs h1 h2 h3 hk hl
 ·rw[he]at h4
  subst h4
  exact absurd rfl (n2 rfl)
 ·rw[he]at h4
  subst h4
  exact absurd rfl n1
 ·rw[he]at h4
  subst h4
  exact Q9 s hs h1 h2 hk hl
 ·rw[he]at h4
  subst h4
  exact absurd rfl n1
end
section
open Go.RowKit
set_option maxRecDepth 10000
theorem Rm (s:ByteArray) (hs:s.size≤1048576):AC Tryz.prog 30 [.c (.str s)] [] (.c (.sl ((D7 s).map Ab))) []:=by
 have h:=Sf s hs
 change AC Tryz.prog 69 [.c (.str s),.c (.str ⟨#[10]⟩)] [] (.own (0,0)) [((0,0),.row false 1 9 ((J8 s).map Ab))]at h
 obtain⟨hp,hq⟩:=RF s
 rw[←Nr]
 generalize J8 s=l at *
 have hll:(l.map Ab).length=l.length:=by simp
 obtain⟨k,hk⟩:∃k,l.length=k+1:=⟨l.length-1,by omega⟩
 have hw:IntKind.i64.wrap ((l.length:Int)-1)=(k:Int):=by rw[CG (by omega) (by omega)];omega
 have hlt:k<l.length:=by omega
 have hkl:k≤l.length:=by omega
 have hr:Aj (l.map Ab) 1 (k:Int)=true:=by simp[Aj,Ab,hlt]
 have hg:(l.map Ab)[k]? = some [C.str l[k]]:=by simp[hlt,Ab]
 have hlast:l.getLast? = some l[k]:=by rw[List.getLast?_eq_getElem?,hk,Nat.add_sub_cancel,List.getElem?_eq_getElem hlt]
 unfold J0
 rw[hlast]
 cases he:(l[k].toList==ByteArray.empty.toList) with
 |true =>
  have hx:l[k]=ByteArray.empty:=AA (by simpa using he)
  have htk:(l.map Ab).take k=l.dropLast.map Ab:=by rw[←List.map_take,List.dropLast_eq_take,hk,Nat.add_sub_cancel]
  rw[if_pos (by rw[hx])]
  refine A6 Tryz.func30 Tryz.ntmps30 ?_
  refine A0 trivial ?_
  refine w12 (IE [] h) trivial ?_
  refine A0 (j5 hll hw hr hg he) ?_
  ((with_reducible apply Y7);(iterate 4 (focus (first | (simp only[go_sem,Nat.reduceEqDiff,Nat.reduceAdd,Nat.reduceSub,Nat.reduceLeDiff,Nat.reduceMul,Nat.reduceBEq,Nat.reduceLT,Int.reduceToNat,reduceCtorEq,hll,hkl,htk];first | done | exact rfl | (and_intros<;>rfl)) | exact rfl | decide))))
  refine A0 trivial ?_
  exact Am (A7 []) Tryz.results30
 |false =>
  have hx:¬(some l[k]=some ByteArray.empty):=by
   intro h
   injection h with h
   rw[h]at he
   simp at he
  rw[if_neg hx]
  have ho:AC Tryz.prog 30 [.c (.str s)] [] (.own (0,0)) [((0,0),.row false 1 9 (l.map Ab))]:=by
   refine A6 Tryz.func30 Tryz.ntmps30 ?_
   refine A0 trivial ?_
   refine w12 (IE [] h) trivial ?_
   refine A0 (j5 hll hw hr hg he) ?_
   exact A9 (A8 [((0,0),(6,0))] []) Tryz.results30 he
  (apply (AC.says [] [(0,0)] ho);(focus (simp only[go_sem,Nat.reduceEqDiff,Nat.reduceAdd,Nat.reduceSub,Nat.reduceLeDiff,Nat.reduceMul,Nat.reduceBEq,Nat.reduceLT,Int.reduceToNat,reduceCtorEq];try (and_intros<;>rfl)));(focus exact rfl);(focus (simp only[go_sem,Nat.reduceEqDiff,Nat.reduceAdd,Nat.reduceSub,Nat.reduceLeDiff,Nat.reduceMul,Nat.reduceBEq,Nat.reduceLT,Int.reduceToNat,reduceCtorEq];try (and_intros<;>rfl)));(focus exact rfl);(iterate 4 (focus (simp[go_sem];done))))
set_option maxRecDepth 10000
def GS (l:List CellD):C:=match l with
 | []=>.sl []
 |x::r=>.osl ((x::r).map CellD.cs)
def EditD.ox (d:EditD):List C:=[.int .i64 d.op,.osl (d.path.map CellD.cs),GS d.x]
theorem Qz (l:List CellD):(GS l).forget=.sl (l.map CellD.cs):=by
 unfold GS
 cases l with
 |nil=>rfl
 |cons x r=>simp only[C.forget,Ei]
theorem Uv (l:List EditD):B3 (l.map EditD.ox)=l.map EditD.cs:=by
 induction l with
 |nil=>rfl
 |cons d l ih=>simp only[List.map_cons,B3,ih,EditD.ox,EditD.cs,BV,Qz,C.forget,Ei]
theorem Yc (l:List EditD):((l.map EditD.ox).all fun r=>r.length==3)=true:=by simp[EditD.ox]
attribute [go_sem] Uv Yc
end
end Go.Proofs.YtllfmaflodbieaaGreatDoor
