/- laws.FnExactRunPasses answers true, at every argument, and its arguments read as they did. -/
import Derived.ClosedOfChecked
import Derived.Test.YtcejfdfmgmcinaaGreatKP41uO16
set_option linter.all false
set_option maxHeartbeats 8000000
namespace Go.Proofs.YtcejfdfmgmcinaaGreat
open Go.ClosedOfChecked Go.ChangeShapes Go.WideShapes Go.ChangeAt Go.RowKit Go.Deep
theorem LO (x0:List CoD) (hz0:∀d∈x0,EG d.val) (A0:Option Addr) (cap0:Nat) (hcap0:x0.length≤cap0) (hy0:∀d∈x0,d.val.length≤9223372036854775807) (x1:List Int) (A1:Option Addr) (cap1:Nat) (hcap1:x1.length≤cap1) (w:World) (hl0:x0.length≤9223372036854775807) (hcs0:CR w (fun b=>b<w.heap.size) (.sl (x0.map CoD.cs)) (.slice A0 x0.length cap0) []) (hl1:x1.length≤9223372036854775807) (hcs1:CR w (fun b=>b<w.heap.size) (.sl (x1.map As)) (.slice A1 x1.length cap1) []) :
  Calls Tryz.prog 5 #[.slice A0 x0.length cap0,.slice A1 x1.length cap1] w fun e w'=>e=.returned (.bool true)∧Below w.heap.size w w' :=
 AC.calls (S:=fun b=>b<w.heap.size) (MQ x0 x1 hz0 hl0 hy0 hl1) fun T hT κ=>⟨_,_,rfl,CR.keep (Nat.le_refl _) (fun b hb _=>⟨rfl,hT b hb⟩) (by simp) hcs0,_,_,rfl,CR.keep (Nat.le_refl _) (fun b hb _=>⟨rfl,hT b hb⟩) (by simp) hcs1,rfl⟩
set_option maxRecDepth 100000 in
theorem M0 (os:Os) (started:os.Started) (H:Type) (enc:TypeId×Value→H) :
  ReturnsInHanded {} Tryz.checked os 5 .any (Rows.fnExactRunPassesSpec.pre6 enc Tryz.prog Tryz.f5 Rows.fnExactRunPassesRow.domain false) (Rows.fnExactRunPassesSpec.post enc Tryz.prog Tryz.f5 false true false false):=by
 refine returnsInHanded_of_change (C:=Tryz.checked) Tryz.own started (by kernel_rfl) Tryz.func5
  (ChangeSpec.witness6 (enc:=enc) (C:=Tryz.checked) false ⟨#[],#[.slice none 0 0,.slice none 0 0],[]⟩ 8 (by kernel_rfl) (by kernel_rfl) (by kernel_rfl) (by kernel_rfl)) ?_
 intro W base args ds gs before hval0 hW hcnd _
 have hval:∀(j:Nat) t v,Tryz.f5.params[j]? = some t→args[j]? = some v→Value.okWide Tryz.prog W .any base t v:=hval0
 have hW':=hW
 obtain⟨p,q,hA0,hV,rfl,hfz,hnd⟩:=hW
 have hA:DataW.TrodAll enc Tryz.prog W 0 (fun _=>true) true Tryz.f5.params.toList args.toList ds p:=hA0
 rw[Tryz.params5]at hA hval
 obtain⟨v0,v1,d0,d1,p0,p1,rfl,rfl,rfl,t0,t1⟩:=trodAll_two hA
 obtain⟨rfl,rfl⟩:=trodVars_none hV
 obtain⟨a0,len0,cap0,rfl⟩:=okWide_slice Tryz.underlying22 (hval 0 22 v0 rfl rfl)
 have k0:=t0
 obtain⟨fuel0,hf0⟩:=t0
 obtain⟨a1,len1,cap1,rfl⟩:=okWide_slice Tryz.underlying34 (hval 1 34 v1 rfl rfl)
 have k1:=t1
 obtain⟨fuel1,hf1⟩:=t1
 clear hA0 hval0
 simp only[List.append_nil]at hW'
 have hlt:∀x∈p0++p1,x.block<W.heap.size:=fun x hx=>by simpa using hW'.lt x hx
 have hargs0:∀(W':World),Below W.heap.size W W'→DataW.Trod enc Tryz.prog W' 0 (fun b=>decide (b<W.heap.size)) true 22 (.slice a0 len0 cap0) d0 p0 :=
  fun W' hn=>Below.trod Tryz.laidOut (by kernel_rfl) (of_decide_eq_true (by kernel_rfl)) k0 hn (fun x hx=>hlt x (by simp[hx]))
 have hargs1:∀(W':World),Below W.heap.size W W'→DataW.Trod enc Tryz.prog W' 0 (fun b=>decide (b<W.heap.size)) true 34 (.slice a1 len1 cap1) d1 p1 :=
  fun W' hn=>Below.trod Tryz.laidOut (by kernel_rfl) (of_decide_eq_true (by kernel_rfl)) k1 hn (fun x hx=>hlt x (by simp[hx]))
 obtain⟨x0,rfl,hl0,hcap0,hz0,hy0,hcs0⟩:=VN Tryz.underlying22 Tryz.underlying84 (by kernel_rfl) (by kernel_rfl) rfl rfl rfl rfl rfl rfl Tryz.underlying41 Tryz.underlying104 (by kernel_rfl) (by kernel_rfl) rfl rfl rfl rfl rfl Tryz.underlying2 Tryz.underlying9 hf0
 obtain⟨x1,rfl,hl1,hcap1,hcs1⟩:=YJ Tryz.underlying34 Tryz.underlying2 (by kernel_rfl) hf1
 refine (LO x0 hz0 a0 cap0 hcap0 hy0 x1 a1 cap1 hcap1 W hl0 hcs0 hl1 hcs1).mono fun e W' ⟨he,hnx⟩=>?_
 subst he
 exact⟨_,rfl,_,_,_,[],p0++p1,[],hW',trodAll_mk1 (shut_bool Tryz.underlying4 _),trodAll_mk2 (hargs0 _ hnx) (hargs1 _ hnx),rfl,hnx.frame _,fun h=>by cases h⟩
set_option maxRecDepth 100000 in
theorem LZ:joinedFacts Tryz.checked.prog 5 Tryz.f5 Rows.fnExactRunPassesSpec Rows.fnExactRunPassesRow=true:=by
 obtain⟨h1,h2,h3⟩:=closed_of_checked Tryz.checked (by as_aux_lemma=>kernel_rfl) (by as_aux_lemma=>kernel_rfl) (by as_aux_lemma=>kernel_rfl)
 unfold joinedFacts
 rw[h1,h2,h3]
 simp only[Bool.and_eq_true]
 and_intros
 all_goals first | (as_aux_lemma=>kernel_rfl) | exact trivial | (intro i;as_aux_lemma=>kernel_rfl)
theorem runPasses_holds:Rows.FnExactRunPassesSaid :=
 OpenClaim.holds_of_wide 5 Tryz.f5 rfl rfl rfl rfl rfl rfl rfl ⟨rfl,rfl,rfl,rfl,rfl⟩ rfl rfl rfl rfl rfl (by kernel_rfl) Tryz.func5 LZ
  (of_decide_eq_true (by kernel_rfl)) (by unfold Func.isWrapper;first | (rw[if_pos (by decide +kernel)];kernel_rfl) | (rw[if_neg (by decide +kernel)];exact⟨rfl,rfl⟩))
  (fun os started H enc _=>M0 os started H enc)
end Go.Proofs.YtcejfdfmgmcinaaGreat
