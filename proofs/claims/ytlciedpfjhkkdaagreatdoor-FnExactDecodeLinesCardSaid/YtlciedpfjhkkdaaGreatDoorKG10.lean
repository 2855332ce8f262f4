/- The laws' own functions that mark memory, as the engine's contracts: markText, markCellS. -/
import Derived.Test.YtlciedpfjhkkdaaGreatDoorKG04uL1
set_option linter.all false
set_option maxHeartbeats 8000000
namespace Go.Proofs.YtlciedpfjhkkdaaGreatDoor
open Go.RowKit
theorem H4 (m:Nat) (hm:m≤4000000000):AC Tryz.prog 84 [.c (.int .i64 m)] [] (.c (.str (IY m))) []:=by
 refine AC.of_calls fun S w κ vs hv=>?_
 obtain⟨v,vs',rfl,⟨rfl,_⟩,rfl⟩:=hv
 refine (Ge m hm w).mono ?_
 rintro e w' ⟨rfl,hb⟩
 exact⟨hb,_,rfl,fun T _ _=>⟨rfl,rfl⟩⟩
theorem Ea (n K:Nat) (hK:K+5*n≤3000000000):AC Tryz.prog 43 [Fl (BA K n),.c (.int .i64 K)] [] (.c (.int .i64 ((K+5*n:Nat):Int))) []:=by
 refine AC.of_calls fun S w κ vs hv=>?_
 obtain⟨v,vs',rfl,h1,v2,vs2,rfl,⟨rfl,_⟩,rfl⟩:=hv
 obtain⟨A,cap,rfl,_,hc⟩:=IW.1 h1
 rw[CD]
 refine (J6 n cap K A hK S w hc).mono ?_
 rintro e w' ⟨rfl,hb⟩
 exact⟨hb,_,rfl,fun T _ _=>⟨rfl,rfl⟩⟩
theorem Fw (xs:List CellD) (hl:xs.length≤9223372036854775807):AC Tryz.prog 41 [Fl xs,Fl xs] [] (.c (.bool true)) []:=by
 refine AC.of_calls fun S w κ vs hv=>?_
 obtain⟨v,vs',rfl,h1,v2,vs2,rfl,h2,rfl⟩:=hv
 obtain⟨A,cap,rfl,_,hc⟩:=IW.1 h1
 obtain⟨B,cap',rfl,_,hc'⟩:=IW.1 h2
 refine (Kp xs hl A B cap cap' S S w hc hc').mono ?_
 rintro e w' ⟨rfl,hb⟩
 exact⟨hb,_,rfl,fun T _ _=>⟨rfl,rfl⟩⟩
theorem MT (K n:Nat):BA K (n+1)=BA K n++[Fb (K+5*n)]:=by simp[BA,List.range_succ]
def B5 (K:Nat) (xs:List CellD) (k:Nat):List CellD:=BA K k++xs.drop k
theorem Ke {K:Nat}{xs:List CellD}{k:Nat}(h:k≤xs.length):(B5 K xs k).length=xs.length:=by simp[B5,CD];omega
theorem L6 {K:Nat}{xs:List CellD}{k:Nat}(h:k<xs.length):(B5 K xs k)[k]? = some xs[k]:=by
 unfold B5
 rw[List.getElem?_append_right (by rw[CD];omega),CD,List.getElem?_drop]
 simp[h]
theorem J9 {K:Nat}{xs:List CellD}{k:Nat}(h:k<xs.length):(B5 K xs k).set k (Fb (K+5*k))=B5 K xs (k+1):=by
 unfold B5
 have hd:(xs.drop k).set 0 (Fb (K+5*k))=Fb (K+5*k)::xs.drop (k+1):=by rw[List.drop_eq_getElem_cons h];rfl
 rw[List.set_append_right _ _ (by rw[CD];omega),CD,Nat.sub_self,hd,MT]
 simp
set_option maxRecDepth 10000
theorem Gd (xs:List CellD) (K es:Nat) (e:TypeId) (hes:xs≠[]→es=5) (hK:K+5*xs.length≤3000000000) :
  AC Tryz.prog 42 [.own (0,0),.c (.int .i64 K)] [((0,0),.row false es e (xs.map CellD.cs))] (.c (.int .i64 ((K+5*xs.length:Nat):Int))) [((0,0),.row false es e ((BA K xs.length).map CellD.cs))]:=by
 have h0:(B5 K xs 0)=xs:=by simp[B5,BA]
 refine A7 Tryz.func42 Tryz.ntmps42 ?_
 refine A0 trivial ?_
 refine AH (κ:=Nat) (fun k=>⟨mkS 0 50 [(0,.own (0,0)),(1,.c (.int .i64 ((K+5*k:Nat):Int))),(5,.c (.int .i64 k))],
   [((0,0),.row false es e ((B5 K xs k).map CellD.cs))]⟩)
  (fun k=>k≤xs.length) (fun k=>xs.length-k) 0 (Nat.zero_le _) ?_ ?_
 ·exact Ao (Ay.of [((0,0),(0,0))] []) h0
 ·intro k hk
  have hml:=Ke (K:=K) hk
  by_cases hlt:k<xs.length
  ·have h5:es=5:=hes (by intro h;rw[h]at hlt;simp at hlt)
   subst h5
   have hd:decide ((k:Int)<(xs.length:Int))=true:=by simpa using hlt
   have hw:=Ae (k:=k) (by omega)
   have hat:=L6 (K:=K) hlt
   have hnx:((B5 K xs k).map CellD.cs).set k (Fb (K+5*k)).cs=(B5 K xs (k+1)).map CellD.cs:=by rw[←List.map_set,J9 hlt]
   have hKn:((K+5*(k+1):Nat):Int)=((K+5*k+5:Nat):Int):=by omega
   have hll:((B5 K xs k).map CellD.cs).length=xs.length:=by rw[List.length_map,hml]
   have hg0:((B5 K xs k).map CellD.cs)[k]? = some [.int .i64 xs[k].kind,.int .i64 xs[k].num,.str xs[k].text,.str xs[k].key,.int .i64 xs[k].n]:=by rw[List.getElem?_map,hat];rfl
   simp only[CellD.cs,Fb]at hnx
   generalize (B5 K xs k).map CellD.cs=L at *
   have hr0:Aj L 5 k=true:=by unfold Aj;rw[Int.toNat_natCast,hg0];simp
   have hg1:∀a b c d e:C,(L.set k [a,b,c,d,e])[k]? = some [a,b,c,d,e]:=by intro a b c d e;rw[List.getElem?_set_self (by rw[hll];exact hlt)]
   have hr1:∀a b c d e:C,Aj (L.set k [a,b,c,d,e]) 5 k=true:=by intro a b c d e;unfold Aj;rw[Int.toNat_natCast,hg1];simp
   have hs:∀x y:List C,(L.set k x).set k y=L.set k y:=fun x y=>List.set_set ..
   generalize hM:K+5*k=M at *
   have w0:=Ae (k:=M) (by omega)
   have w1:=Ae (k:=M+1) (by omega)
   have w2:=Ae (k:=M+2) (by omega)
   have w3:=Ae (k:=M+3) (by omega)
   have w4:=Ae (k:=M+4) (by omega)
   (repeat (first | (with_reducible first | refine Fg ?_ | refine Bi ?_ | refine CN ?_ | refine CP ?_) | ((with_reducible apply DJ);(iterate 2 (focus (first | (simp only[go_sem,Nat.reduceEqDiff,Nat.reduceAdd,Nat.reduceSub,Nat.reduceLeDiff,Nat.reduceMul,Nat.reduceBEq,Nat.reduceLT,Int.reduceToNat,reduceCtorEq,hll,hd,hr0,hg0,hr1,hg1,hs,w0,w1,w2,w3,w4];first | done | exact rfl | (and_intros<;>rfl)) | exact rfl | decide)))) | ((with_reducible refine Fh ?_);dsimp only;try ((with_reducible apply DN);(focus (simp only[go_sem];exact rfl));(focus decide))) | ((with_reducible first | refine Fe ?_ | refine DK ?_ | refine CO ?_);dsimp only) | ((with_reducible refine DQ ?_);dsimp only;simp only[if_true,if_false,Nat.reduceEqDiff]) | ((with_reducible apply Je);(focus (simp only[go_sem,Nat.reduceBEq,Nat.reduceLT,hll,hd,hr0,hg0,hr1,hg1,hs,w0,w1,w2,w3,w4];exact rfl));dsimp only[cond_true,cond_false]) | ((with_reducible refine DI ?_ ?_);(focus exact rfl))))
   refine w7 (A4 [] (H4 (M+2) (by omega))) trivial ?_
   (repeat (first | (with_reducible first | refine Fg ?_ | refine Bi ?_ | refine CN ?_ | refine CP ?_) | ((with_reducible apply DJ);(iterate 2 (focus (first | (simp only[go_sem,Nat.reduceEqDiff,Nat.reduceAdd,Nat.reduceSub,Nat.reduceLeDiff,Nat.reduceMul,Nat.reduceBEq,Nat.reduceLT,Int.reduceToNat,reduceCtorEq,hll,hd,hr0,hg0,hr1,hg1,hs,w0,w1,w2,w3,w4];first | done | exact rfl | (and_intros<;>rfl)) | exact rfl | decide)))) | ((with_reducible refine Fh ?_);dsimp only;try ((with_reducible apply DN);(focus (simp only[go_sem];exact rfl));(focus decide))) | ((with_reducible first | refine Fe ?_ | refine DK ?_ | refine CO ?_);dsimp only) | ((with_reducible refine DQ ?_);dsimp only;simp only[if_true,if_false,Nat.reduceEqDiff]) | ((with_reducible apply Je);(focus (simp only[go_sem,Nat.reduceBEq,Nat.reduceLT,hll,hd,hr0,hg0,hr1,hg1,hs,w0,w1,w2,w3,w4];exact rfl));dsimp only[cond_true,cond_false]) | ((with_reducible refine DI ?_ ?_);(focus exact rfl))))
   refine w7 (A4 [] (H4 (M+3) (by omega))) trivial ?_
   (repeat (first | (with_reducible first | refine Fg ?_ | refine Bi ?_ | refine CN ?_ | refine CP ?_) | ((with_reducible apply DJ);(iterate 2 (focus (first | (simp only[go_sem,Nat.reduceEqDiff,Nat.reduceAdd,Nat.reduceSub,Nat.reduceLeDiff,Nat.reduceMul,Nat.reduceBEq,Nat.reduceLT,Int.reduceToNat,reduceCtorEq,hll,hd,hr0,hg0,hr1,hg1,hs,w0,w1,w2,w3,w4,hw];first | done | exact rfl | (and_intros<;>rfl)) | exact rfl | decide)))) | ((with_reducible refine Fh ?_);dsimp only;try ((with_reducible apply DN);(focus (simp only[go_sem];exact rfl));(focus decide))) | ((with_reducible first | refine Fe ?_ | refine DK ?_ | refine CO ?_);dsimp only) | ((with_reducible refine DQ ?_);dsimp only;simp only[if_true,if_false,Nat.reduceEqDiff]) | ((with_reducible apply Je);(focus (simp only[go_sem,Nat.reduceBEq,Nat.reduceLT,hll,hd,hr0,hg0,hr1,hg1,hs,w0,w1,w2,w3,w4,hw];exact rfl));dsimp only[cond_true,cond_false]) | ((with_reducible refine DI ?_ ?_);(focus exact rfl))))
   refine⟨k+1,by omega,by omega,?_⟩
   exact Ao (Ay.of [((0,0),(0,0))] []) (j2 hnx hKn)
  ·have hd:decide ((k:Int)<(xs.length:Int))=false:=by simpa using hlt
   have hke:k=xs.length:=by omega
   have hall:B5 K xs k=BA K xs.length:=by rw[hke];simp[B5]
   refine A0 (j2 hml hd) ?_
   subst hke
   exact Ad (Ac [((0,0),(0,0))] []) Tryz.results42 hall
theorem Hq (xs:List CellD) (K:Nat) (hK:K+5*xs.length≤3000000000) {w:World}{S:Nat→Prop}{v:Value}{bs:List Nat}(h:CR w S (.osl (xs.map CellD.cs)) v bs) (hlt:∀b,b∈bs→b<w.heap.size) :
  Calls Tryz.prog 42 #[v,.int .i64 K] w fun e w'=>e=.returned (.int .i64 ((K+5*xs.length:Nat):Int))∧(∀T:Nat→Prop,CR w' T (.osl ((BA K xs.length).map CellD.cs)) v bs) ∧
   (∀b,b<w.heap.size→b ∉ bs→w'.heap[b]? = w.heap[b]?)∧w.heap.size≤w'.heap.size∧(w'.os=w.os∧w'.tape=w.tape∧w'.output=w.output):=by
 simp only[CR]at h
 obtain⟨es,vrows,bs',e,h1,h2,h3,rfl⟩:=h
 obtain⟨rfl,rfl⟩:=(BW Dk).1 h1
 rw[List.append_nil]at hlt
 have hes:xs≠[]→es=5:=by
  intro hne
  cases xs with
  |nil=>exact absurd rfl hne
  |cons x xs=>exact (h2 (B4 x) (by simp)).symm
 let Γ:Ctx:=⟨w,fun _=>False,fun b=>if v.ownBlock=some b then some (0,0) else none,fun _=>v,[(0,0)]⟩
 have how:∀b,Γ.ow b=if v.ownBlock=some b then some (0,0) else none:=fun _=>rfl
 have hown:∀b i,Γ.ow b=some i→v.ownBlock=some b∧i=(0,0):=by
  intro b i hb
  rw[how]at hb
  split at hb
  ·rename_i hv;exact⟨hv,(Option.some.inj hb).symm⟩
  ·cases hb
 have hE:Entry Γ [((0,0),.row false es e (xs.map CellD.cs))]:=by
  refine⟨?_,?_,rfl⟩
  ·intro i o hi
   have hi':i=(0,0)∧o=.row false es e (xs.map CellD.cs):=by
    simp only[Mem.get,List.lookup_cons,List.lookup_nil]at hi
    split at hi
    ·rename_i hq
     exact⟨by simpa using hq,(Option.some.inj hi).symm⟩
    ·cases hi
   obtain⟨rfl,rfl⟩:=hi'
   refine⟨xs.map B4,[],(BW Dk).2 ⟨rfl,rfl⟩,fun _=>rfl,h2,h3,?_,?_⟩
   ·show (v.ownBlock.toList++[]).Nodup
    cases v.ownBlock<;>simp
   ·intro b hb
    have:v.ownBlock=some b:=by
     have hb':b∈v.ownBlock.toList++[]:=hb
     simpa using hb'
    rw[how,if_pos this]
  ·intro b i hb
   obtain⟨hv,rfl⟩:=hown b i hb
   exact⟨hlt b (by rw[hv];simp),_,rfl,rfl⟩
 refine (Gd xs K es e hes hK Γ [v,.int .i64 K] hE ⟨v,_,rfl,⟨GP h3,_,rfl,fun _=>rfl⟩,_,_,rfl,⟨rfl,rfl⟩,rfl⟩).mono ?_
 rintro e1 w' ⟨v1,ow,κ,rfl,hx⟩
 obtain⟨rfl,_⟩:=hx.res
 have hk:κ (0,0)=v:=hx.kap (0,0) _ _ rfl rfl
 obtain⟨vrows',bs',c1,c2,c3,c4,c5,c6⟩:=hx.objs (0,0) _ rfl
 rw[hk]at c4
 refine⟨rfl,fun T=>?_,fun b hb hn=>(hx.frame b hb ?_).1,hx.size,hx.os,hx.tape,hx.output⟩
 ·obtain⟨rfl,rfl⟩:=(BW Dk).1 c1
  exact⟨es,_,[],e,(BW Dk).2 ⟨rfl,rfl⟩,c3,c4,rfl⟩
 ·rw[how,if_neg]
  intro hv
  exact hn (by rw[hv];simp)
end Go.Proofs.YtlciedpfjhkkdaaGreatDoor
