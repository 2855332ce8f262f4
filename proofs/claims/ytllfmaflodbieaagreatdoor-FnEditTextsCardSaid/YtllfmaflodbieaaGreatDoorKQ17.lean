/- laws.FnEditTexts answers true, at every argument, and its argument reads as it did. -/
import Derived.Test.YtllfmaflodbieaaGreatDoorKO02uO15
set_option linter.all false
namespace Go.Proofs.YtllfmaflodbieaaGreatDoor
open Go.ChangeShapes Go.WideShapes Go.ChangeAt Go.RowKit Go.Deep
set_option maxRecDepth 100000 in
theorem Lf (os:Os) (started:os.Started) (H:Type) (enc:TypeId×Value→H) :
  ReturnsInHanded {} Tryz.checked os 4 .any (fun w args=>(Rows.fnEditTextsSpec.pre enc Tryz.prog Tryz.f4 [] false w args∧laidMetH Tryz.prog Ix w)∧sizedMet enc Tryz.prog Tryz.f4 (OpenSpec.ofChange Rows.fnEditTextsSpec) false w args)
   (Rows.fnEditTextsSpec.post enc Tryz.prog Tryz.f4 false true false false):=by
 refine returnsInHanded_of_change_and (C:=Tryz.checked) (X:=fun w _=>laidMetH Tryz.prog Ix w) (fun _ _ _ hh h=>h.of_heap hh) Tryz.own started (by kernel_rfl) Tryz.func4
  (ChangeSpec.witness_shaped (enc:=enc) (C:=Tryz.checked) (os:=os) (X:=fun w _=>laidMetH Tryz.prog Ix w) false (NZ os) #[.slice none 0 0] 8 rfl (World.shaped_of_RefB (by kernel_rfl) (by kernel_rfl)) (by kernel_rfl) (by kernel_rfl) (by kernel_rfl) (XX os _)) ?_
 intro W base args ds gs before hval0 hW _ _ hL _
 have hval:∀(j:Nat) t v,Tryz.f4.params[j]? = some t→args[j]? = some v→Value.okWide Tryz.prog W .any base t v:=hval0
 have hW':=hW
 obtain⟨p,q,hA0,hV,rfl,hfz,hnd⟩:=hW
 have hA:DataW.TrodAll enc Tryz.prog W 0 (fun _=>true) true Tryz.f4.params.toList args.toList ds p:=hA0
 rw[Tryz.params4]at hA hval
 obtain⟨v0,d0,rfl,rfl,t0⟩:=trodAll_one hA
 obtain⟨rfl,rfl⟩:=trodVars_none hV
 obtain⟨a0,len0,cap0,rfl⟩:=okWide_slice Tryz.underlying29 (hval 0 29 v0 rfl rfl)
 have k0:=t0
 obtain⟨fuel0,hf0⟩:=t0
 clear hA0 hval0
 simp only[List.append_nil]at hW'
 have hlt:∀x∈p,x.block<W.heap.size:=fun x hx=>by simpa using hW'.lt x hx
 have hargs0:∀(W':World),Below W.heap.size W W'→DataW.Trod enc Tryz.prog W' 0 (fun b=>decide (b<W.heap.size)) true 29 (.slice a0 len0 cap0) d0 p :=
  fun W' hn=>Below.trod Tryz.laidOut (by kernel_rfl) (of_decide_eq_true (by kernel_rfl)) k0 hn hlt
 obtain⟨bs,rfl,hl0,hcap0,hbb,hcs⟩:=VF Tryz.underlying29 Tryz.underlying5 (by kernel_rfl) hf0
 refine (UD bs (fun o o1 o2=>ME (o:=o) (o1:=o1) (o2:=o2) bs hbb) a0 cap0 W hcs hL).mono fun e W' ⟨he,hnx⟩=>?_
 subst he
 exact⟨_,rfl,_,_,_,[],p,[],hW',trodAll_mk1 (shut_bool Tryz.underlying4 _),trodAll_mk1 (hargs0 _ hnx),rfl,hnx.frame _,fun h=>by cases h⟩
end Go.Proofs.YtllfmaflodbieaaGreatDoor
