/- laws.FnExactUnflatText answers true, at every argument. -/
import Derived.Test.YtllfmaflodbieaaGreatDoorKD30uO15
set_option linter.all false
namespace Go.Proofs.YtllfmaflodbieaaGreatDoor
open Go.ChangeShapes Go.WideShapes Go.ChangeAt Go.RowKit Go.Deep
set_option maxRecDepth 100000 in
theorem Pv (os:Os) (started:os.Started) (H:Type) (enc:TypeId×Value→H) :
  ReturnsInHanded {} Tryz.checked os 5 .any (fun w args=>(Rows.fnExactUnflatTextSpec.pre enc Tryz.prog Tryz.f5 [] false w args∧laidMetH Tryz.prog H8 w)∧sizedMet enc Tryz.prog Tryz.f5 (OpenSpec.ofChange Rows.fnExactUnflatTextSpec) false w args)
   (Rows.fnExactUnflatTextSpec.post enc Tryz.prog Tryz.f5 false true false false):=by
 refine returnsInHanded_of_change_and (C:=Tryz.checked) (X:=fun w _=>laidMetH Tryz.prog H8 w) (fun _ _ _ hh h=>h.of_heap hh) Tryz.own started (by kernel_rfl) Tryz.func5
  (ChangeSpec.witness_shaped (enc:=enc) (C:=Tryz.checked) (os:=os) (X:=fun w _=>laidMetH Tryz.prog H8 w) false (L2 os) #[.string ByteArray.empty] 8 rfl (World.shaped_of_RefB (by kernel_rfl) (by kernel_rfl)) (by kernel_rfl) (by kernel_rfl) (by kernel_rfl) (U1 os _)) ?_
 intro W base args ds gs before hval0 hW _ _ hL _
 have hval:∀(j:Nat) t v,Tryz.f5.params[j]? = some t→args[j]? = some v→Value.okWide Tryz.prog W .any base t v:=hval0
 have hW':=hW
 obtain⟨p,q,hA0,hV,rfl,hfz,hnd⟩:=hW
 have hA:DataW.TrodAll enc Tryz.prog W 0 (fun _=>true) true Tryz.f5.params.toList args.toList ds p:=hA0
 rw[Tryz.params5]at hA hval
 obtain⟨v0,d0,rfl,rfl,t0⟩:=trodAll_one hA
 obtain⟨rfl,rfl⟩:=trodVars_none hV
 obtain⟨x0,rfl⟩:=okWide_string Tryz.underlying9 (hval 0 9 v0 rfl rfl)
 have k0:=t0
 clear hA0 hval0
 simp only[List.append_nil]at hW'
 have hlt:∀x∈p,x.block<W.heap.size:=fun x hx=>by simpa using hW'.lt x hx
 have hargs0:∀(W':World),Below W.heap.size W W'→DataW.Trod enc Tryz.prog W' 0 (fun b=>decide (b<W.heap.size)) true 9 (.string x0) d0 p :=
  fun W' hn=>Below.trod Tryz.laidOut (by kernel_rfl) (of_decide_eq_true (by kernel_rfl)) k0 hn hlt
 refine (Tx x0 (fun o o1 o2=>f7 (o:=o) (o1:=o1) (o2:=o2) x0) W hL).mono fun e W' ⟨he,hnx⟩=>?_
 subst he
 exact⟨_,rfl,_,_,_,[],p,[],hW',trodAll_mk1 (shut_bool Tryz.underlying4 _),trodAll_mk1 (hargs0 _ hnx),rfl,hnx.frame _,fun h=>by cases h⟩
end Go.Proofs.YtllfmaflodbieaaGreatDoor
