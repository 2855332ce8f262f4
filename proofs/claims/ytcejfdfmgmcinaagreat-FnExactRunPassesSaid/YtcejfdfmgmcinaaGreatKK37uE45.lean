/- Texts of this proof: K37 K38 E45. -/
import Derived.Test.YtcejfdfmgmcinaaGreatKK36
set_option linter.all false
set_option maxHeartbeats 8000000
namespace Go.Proofs.YtcejfdfmgmcinaaGreat
section
open Go.RowKit
set_option maxRecDepth 10000
theorem JI (l:List CoD):AT (l.map CoD.cs)=l.map CoD.cs:=CM _ (fun _=>rfl) l
theorem OV (l:List CT):AT (l.map AG)=l.map AG:=CM _ (fun _=>rfl) l
theorem T7 {p : Int} (hp : 1 ≤ p ∧ p ≤ 4) {L : List CoD} (hL : L.length ≤ 900) : ∀ (n : Nat) (t : CT) (b : Nat), t.size ≤ n → t.ok → Seg L b t → ∀ m : Nat, m + t.size ≤ 900000 →
    AC Tryz.prog 115 [.ptr (0, 0) 0, .c (.int .i64 ((b + t.size - 1 : Nat) : Int))] [((0, 0), .box [AE L, .nils, .c (.int .i64 p), .c (.int .i64 m)])] (AE ((t.rw (AQ p)).1.flat 0)) [((0, 0), .box [AE L, .nils, .c (.int .i64 p), .c (.int .i64 ((m + (t.rw (AQ p)).2 : Nat) : Int))])]
  | 0, t, b, hn, _, _, _, _ => by have := t.size_pos; omega
  | n + 1, .mk op num val kids, b, hn, ho, hs, m, hm => by
    have ho' := ho
    unfold CT.ok at ho'
    obtain ⟨hnode, hal, hok⟩ := ho'
    have hszE : (CT.mk op num val kids).size = Ah kids + 1 := by rw [CT.size]
    have hroot := hs.root
    have hsk := hs.kids
    have hend : (Az b kids).length = kids.length := Df _ _
    have hD : ∃ d, B9 op num val (Az b kids) = d := ⟨_, rfl⟩
    obtain ⟨d, hd⟩ := hD
    have hdop : d.op = op := by rw [← hd]; rfl
    have hdnum : d.num = num := by rw [← hd]; rfl
    have hdval : d.val = val := by rw [← hd]; rfl
    have hnm : d.named = (Az b kids).map fun (x : Nat) => (x : Int) := by rw [← hd]; exact GD (by rw [hend, hal])
    rw [hd] at hroot
    have hplace : b + (CT.mk op num val kids).size - 1 = b + Ah kids := by omega
    have hin : b + Ah kids < L.length := (List.getElem?_eq_some_iff.1 hroot).1
    have hge := (List.getElem?_eq_some_iff.1 hroot).2
    obtain ⟨hr0, hg0⟩ := EJ L hin
    rw [hge] at hg0
    have hK := G0 op hnode.kind.1 hnode.kind.2
    rw [← hal] at hK
    have h3 := Bx op
    have hz0 : ((rwL (AQ p) (kids.take 0)).1).map AG = [] := by rw [List.take_zero, rwL]; rfl
    have hc0 : (rwL (AQ p) (kids.take 0)).2 = 0 := by rw [List.take_zero, rwL]
    obtain ⟨k1, k2, k3⟩ := RS (Hi p) kids hok
    rw [hplace]
    have hrw : ∃ R c, (CT.mk op num val kids).rw (AQ p) = (R, c) := ⟨_, _, rfl⟩
    obtain ⟨R, c, hRc⟩ := hrw
    have hRc' := hRc
    rw [CT.rw] at hRc'
    rw [hRc]
    dsimp only
    rw [hdop, hdnum, hdval] at hg0
    generalize b + Ah kids = place at *
    refine A6 Tryz.func115 Tryz.ntmps115 (j2 hr0 hg0) ?_
    refine Ar (κ := Nat) (fun k => ⟨mkS 0 62 [(0, .ptr (0, 0) 0), (4, .nils), (5, .ptr (5, 0) 0), (6, .own (96, 0)), (7, .c (.int .i64 k))],
        [((0, 0), .box [AE L, .nils, .c (.int .i64 p), .c (.int .i64 ((m + (rwL (AQ p) (kids.take k)).2 : Nat) : Int))]),
         ((5, 0), .box [.c (.int .i64 op), .c (.int .i64 d.a), .c (.int .i64 d.b), .c (.int .i64 d.c), .c (.int .i64 num), .c (.sl (val.map CellD.cs))]),
         ((96, 0), .row false 1 24 (((rwL (AQ p) (kids.take k)).1).map AG))]⟩)
      (fun k => k ≤ kids.length) (fun k => kids.length - k) 0 (Nat.zero_le _) ?_ ?_
    · (apply (Aj.of [((0, 0), (0, 0)), ((5, 0), (5, 0)), ((96, 0), (17, 0))] []); (iterate 2 ((focus (simp only [go_sem, Nat.reduceEqDiff, Nat.reduceAdd, Nat.reduceSub, Nat.reduceLeDiff, Nat.reduceMul, Nat.reduceBEq, Nat.reduceLT, Int.reduceToNat, reduceCtorEq, hz0, hc0, Nat.add_zero]; try (and_intros <;> rfl))); (focus exact rfl))); (iterate 4 (focus (simp [go_sem, hz0, hc0, Nat.add_zero]; done))))
    intro k hk
    by_cases hlt : k < kids.length
    · have hdk : decide ((k : Int) < (kids.length : Int)) = true := decide_eq_true (by omega)
      have hw := Ad (k := k) (by omega)
      have hkd := IQ d k (by omega)
      have hkn := FU d (k := k) (by rw [hdop, ← hal]; exact hlt)
      rw [hnm, List.getElem?_map, F2 _ _ _ hlt] at hkn
      have hkv : d.kid k = ((b + Ah (kids.take k) + kids[k].size - 1 : Nat) : Int) := (Option.some.inj hkn).symm
      rw [hkv] at hkd
      have hkz := D5 kids hlt
      have hkz2 := Di kids (k + 1)
      have htk : FO (kids.take k) := B4.2 fun t ht => B4.1 hok t (List.mem_of_mem_take ht)
      have hck := (RS (Hi p) (kids.take k) htk).2.2
      have ih := T7 hp hL n kids[k] (b + Ah (kids.take k)) (by omega) (B4.1 hok _ (List.getElem_mem hlt)) (Fw kids b k hlt hsk) (m + (rwL (AQ p) (kids.take k)).2) (by omega)
      obtain ⟨e1, e2⟩ := Ox (AQ p) kids hlt
      have hsum : m + (rwL (AQ p) (kids.take k)).2 + (kids[k].rw (AQ p)).2 = m + (rwL (AQ p) (kids.take (k + 1))).2 := by omega
      rw [hsum] at ih
      have hrow : ((rwL (AQ p) (kids.take k)).1).map AG ++ [[.sl (((kids[k].rw (AQ p)).1.flat 0).map CoD.cs)]] = ((rwL (AQ p) (kids.take (k + 1))).1).map AG := by
        rw [e1, List.map_append]
        rfl
      have hrl := N0 (AQ p) (kids.take k)
      rw [List.length_take, Nat.min_eq_left hk] at hrl
      have hln : (rwL (AQ p) (kids.take k)).1.length + 1 ≤ 1000000 := by omega
      unfold CoD.av at hkd
      rw [hdop, hdnum, hdval] at hkd
      clear hRc hRc' hkn hkv e1 e2 hsum
      generalize hm2 : m + (rwL (AQ p) (kids.take (k + 1))).2 = m2 at *
      generalize m + (rwL (AQ p) (kids.take k)).2 = m1 at *
      generalize (rwL (AQ p) (kids.take k)).1 = Q at *
      refine Ab q9 ?_
      refine v7 (A3 [] hK) q9 hdk ?_
      refine v7 (A3 [] hkd) q9 q9 ?_
      refine Bw (Am [((0, 0), (0, 0))] [((0, 0), (0, 0))] ih) q9 (j2 hln hw) ?_
      refine ⟨k + 1, by omega, by omega, ?_⟩
      exact Ac (Aj.of [((0, 0), (0, 0)), ((5, 0), (5, 0)), ((96, 0), (32, 0))] []) (j2 hrow hm2)
    · have hdk : decide ((k : Int) < (kids.length : Int)) = false := decide_eq_false (by omega)
      have hke : k = kids.length := by omega
      subst hke
      rw [List.take_length]
      have hrl := N0 (AQ p) kids
      have hml : (((rwL (AQ p) kids).1).map AG).length = kids.length := by rw [List.length_map, hrl]
      have hnk : (CT.mk op num val (rwL (AQ p) kids).1).ok := by unfold CT.ok; exact ⟨hnode, by rw [hrl, hal], k1⟩
      have hnz : (CT.mk op num val (rwL (AQ p) kids).1).size ≤ 900 := by rw [CT.size]; omega
      have hj := V7 hnk hnz
      have hfp := OV (rwL (AQ p) kids).1
      by_cases he : kids.length = 0
      · have hgt : decide ((kids.length : Int) > 0) = false := decide_eq_false (by omega)
        have hkn : kids = [] := List.eq_nil_of_length_eq_zero he
        have hpn : AQ p op num val (rwL (AQ p) kids).1 = none := by
          rw [hkn, rwL]
          unfold AQ
          split
          · rfl
          · split
            · rfl
            · split
              · rfl
              · rfl
        rw [hpn] at hRc'
        dsimp only at hRc'
        obtain ⟨rfl, rfl⟩ := Prod.mk.inj hRc'
        clear hRc hRc' hpn
        dsimp only [D8] at *
        have hff := JI ((CT.mk op num val (rwL (AQ p) kids).1).flat 0)
        generalize ((rwL (AQ p) kids).1).map AG = P at *
        generalize m + (rwL (AQ p) kids).2 = m1 at *
        refine Ab q9 ?_
        refine v7 (A3 [] hK) q9 (j3 hdk hml hgt) ?_
        refine v12 (AU [(96, 0)] hj) hfp q9 ?_
        exact Aa (A9 [((0, 0), (0, 0))] [(61, 0)]) Tryz.results115 hff
      · have hgt : decide ((kids.length : Int) > 0) = true := decide_eq_true (by omega)
        obtain ⟨L1, c1, hO, hone⟩ := Y7 hnk (fun h => he (by rw [← hrl, h]; rfl)) hnz hp
        unfold BO at hone
        rcases hO with ⟨rfl, q, hq, rfl⟩ | ⟨rfl, hq⟩
        · rw [hq] at hRc'
          dsimp only at hRc'
          obtain ⟨rfl, rfl⟩ := Prod.mk.inj hRc'
          have hwm : IntKind.i64.wrap (((m + (rwL (AQ p) kids).2 : Nat) : Int) + 1) = ((m + ((rwL (AQ p) kids).2 + 1) : Nat) : Int) := by rw [IntWalk.i64_in _ (by omega)]; omega
          clear hRc hRc' hq hj
          generalize hm2 : m + ((rwL (AQ p) kids).2 + 1) = m2 at *
          generalize (q.flat 0).map CoD.cs = Fr at *
          dsimp only [D8] at *
          generalize ((rwL (AQ p) kids).1).map AG = P at *
          generalize m + (rwL (AQ p) kids).2 = m1 at *
          refine Ab q9 ?_
          refine v7 (A3 [] hK) q9 (j3 hdk hml hgt) ?_
          refine v9 (A4 [(96, 0)] hone) hfp hwm ?_
          exact Aa (A9 [((0, 0), (0, 0))] []) Tryz.results115 hgt
        · rw [hq] at hRc'
          dsimp only at hRc'
          obtain ⟨rfl, rfl⟩ := Prod.mk.inj hRc'
          clear hRc hRc' hq
          have hff := JI ((CT.mk op num val (rwL (AQ p) kids).1).flat 0)
          dsimp only [D8] at *
          generalize ((rwL (AQ p) kids).1).map AG = P at *
          generalize m + (rwL (AQ p) kids).2 = m1 at *
          generalize L1.map CoD.cs = FL at *
          refine Ab q9 ?_
          refine v7 (A3 [] hK) q9 (j3 hdk hml hgt) ?_
          refine v9 (A4 [(96, 0)] hone) hfp q9 ?_
          refine v12 (AU [(96, 0)] hj) hfp q9 ?_
          exact Aa (A9 [((0, 0), (0, 0))] [(61, 0)]) Tryz.results115 hff
set_option maxRecDepth 10000
def FE (L:List CoD) (k:Nat):List (List C):=(L.take k).map CoD.os++(L.drop k).map CoD.cs
theorem Vt (L:List CoD):FE L 0=L.map CoD.cs:=by simp[FE]
theorem Vr (L:List CoD):FE L L.length=L.map CoD.os:=by simp[FE]
theorem Yw (L:List CoD) {k:Nat}(h:k≤L.length):(FE L k).length=L.length:=by simp[FE];omega
theorem y8 (L:List CoD) {k:Nat}(h:k<L.length):A8 (FE L k) 6 k=true∧(FE L k)[k]? = some [.int .i64 L[k].op,.int .i64 L[k].a,.int .i64 L[k].b,.int .i64 L[k].c,.int .i64 L[k].num,.sl (L[k].val.map CellD.cs)]:=by
 have h1:(FE L k)[k]? = some [.int .i64 L[k].op,.int .i64 L[k].a,.int .i64 L[k].b,.int .i64 L[k].c,.int .i64 L[k].num,.sl (L[k].val.map CellD.cs)]:=by
  unfold FE
  rw[List.getElem?_append_right (by rw[List.length_map,List.length_take];omega),List.length_map,List.length_take,Nat.min_eq_left (by omega),Nat.sub_self,List.getElem?_map,List.getElem?_drop,Nat.add_zero,List.getElem?_eq_getElem h]
  rfl
 exact⟨by unfold A8;rw[Int.toNat_natCast,h1];simp,h1⟩
theorem Yx (L:List CoD) {k:Nat}(h:k<L.length):(FE L k).set k [.int .i64 L[k].op,.int .i64 L[k].a,.int .i64 L[k].b,.int .i64 L[k].c,.int .i64 L[k].num,.osl (L[k].val.map CellD.cs)]=FE L (k+1):=by
 have hl:((L.take k).map CoD.os).length=k:=by simp;omega
 unfold FE
 rw[List.set_append_right _ _ (by omega),hl,Nat.sub_self,List.take_succ_eq_append_getElem h,List.map_append,List.append_assoc,List.drop_eq_getElem_cons h]
 rfl
theorem NT (L:List CoD) (hl:L.length≤1000000) (hv:∀d∈L,d.val.length≤1000000):AC Tryz.prog 68 [AE L] [] (.own (0,0)) [((0,0),.row true 6 87 (L.map CoD.os))]:=by
 have hm0:=Vt L
 have hn:0+L.length≤1000000:=by omega
 have hall:=Xx L
 refine A6 Tryz.func68 Tryz.ntmps68 (j3 hn hall @List.nil_append.{0}) ?_
 refine Ar (κ:=Nat) (fun k=>⟨mkS 0 26 [(0,AE L),(2,.nils),(3,.own (93,0)),(4,.c (.int .i64 k))],[((93,0),.row true 6 87 (FE L k))]⟩)
  (fun k=>k≤L.length) (fun k=>L.length-k) 0 (Nat.zero_le _) ?_ ?_
 ·exact Ac (Aj.of [((93,0),(7,0))] []) hm0
 intro k hk
 have hml:=Yw L hk
 by_cases hlt:k<L.length
 ·have hdk:decide ((k:Int)<(L.length:Int))=true:=decide_eq_true (by omega)
  have hw:=Ad (k:=k) (by omega)
  obtain⟨hr0,hg0⟩:=y8 L hlt
  have hvl:=hv _ (List.getElem_mem hlt)
  have hset:=Yx L hlt
  have hvn:0+L[k].val.length≤1000000:=by omega
  generalize L[k]=d at *
  have hvs:(FE L k).set k [.int .i64 d.op,.int .i64 d.a,.int .i64 d.b,.int .i64 d.c,.int .i64 d.num,.osl (d.val.map CellD.cs)]=FE L (k+1):=hset
  refine Ab (j3 hml hdk hr0) ?_
  ((with_reducible apply a0i);(iterate 9 (focus (first | (simp only[go_sem,Nat.reduceEqDiff,Nat.reduceAdd,Nat.reduceSub,Nat.reduceLeDiff,Nat.reduceMul,Nat.reduceBEq,Nat.reduceLT,Int.reduceToNat,reduceCtorEq,hg0];first | done | exact rfl | (and_intros<;>rfl)) | exact rfl | decide))))
  refine Ab (j3 hvn hr0 @List.nil_append.{0}) ?_
  ((with_reducible apply a2r);(iterate 13 (focus (first | (simp only[go_sem,Nat.reduceEqDiff,Nat.reduceAdd,Nat.reduceSub,Nat.reduceLeDiff,Nat.reduceMul,Nat.reduceBEq,Nat.reduceLT,Int.reduceToNat,reduceCtorEq,hg0,C.plain,List.set_cons_zero,List.set_cons_succ,hvs];first | done | exact rfl | (and_intros<;>rfl)) | exact rfl | decide))))
  refine Ab hw ?_
  refine⟨k+1,by omega,by omega,?_⟩
  exact Ac (Aj.of [((93,0),(93,0))] []) hvs
 ·have hdk:decide ((k:Int)<(L.length:Int))=false:=decide_eq_false (by omega)
  have hke:k=L.length:=by omega
  subst hke
  have hmf:=Vr L
  refine Ab (j2 hml hdk) ?_
  exact Aa (A9 [((0,0),(93,0))] []) Tryz.results68 hmf
mutual
theorem LJ:∀(t:CT) (b:Nat),t.ok→∀d∈t.flat b,NodeOk d.op d.num d.val
 | .mk op num val kids,b,h,d,hd=>by
  unfold CT.ok at h
  obtain⟨h1,_,h3⟩:=h
  rw[CT.flat]at hd
  rcases List.mem_append.1 hd with hd | hd
  ·exact Mi kids b h3 d hd
  ·rw[List.mem_singleton.1 hd]
   exact h1
theorem Mi:∀(l:List CT) (b:Nat),FO l→∀d∈B5 b l,NodeOk d.op d.num d.val
 | [],b,_,d,hd=>by rw[B5]at hd;exact absurd hd (by simp)
 |t::r,b,h,d,hd=>by
  unfold FO at h
  rw[B5]at hd
  rcases List.mem_append.1 hd with hd | hd
  ·exact LJ t b h.1 d hd
  ·exact Mi r (b+t.size) h.2 d hd
end
theorem Nt {F:Int→Int→List CellD→List CT→Option CT}(hF:JA F) {L:List CoD}(h:Cw L=0):(Fq F L).length≤900∧∀d∈Fq F L,NodeOk d.op d.num d.val:=by
 obtain⟨h1,h2,t1,t2,t3,t4⟩:=DE (F0 h)
 obtain⟨r1,r2,_⟩:=X5 hF (Ek L) t1
 unfold Fq
 exact⟨by rw[CT.flat_len];omega,LJ _ 0 r1⟩
theorem Tu {op num:Int}{val:List CellD}(h:NodeOk op num val):val.length≤200:=by
 cases hv:BX op with
 |false=>rw[h.noVal hv];simp
 |true =>
  obtain⟨t,ht,rfl,_⟩:=h.hasVal hv
  rw[CY]
  exact ht.2.1
theorem Wo (d:CoD) (l:List CoD):Bd (d::l)=(5+5*d.val.length)+Bd l:=by rw[Hq,Hq];simp[tot];omega
theorem MH:∀(l:List CoD),(∀d∈l,d.val.length≤200)→Bd l≤l.length*1005
 | [],_=>by rw[Hq];simp[tot]
 |d::l,h=>by
  have h1:=h d (by simp)
  have h2:=MH l fun x hx=>h x (by simp[hx])
  rw[Wo,List.length_cons,Nat.add_mul]
  omega
theorem RU {L:List CoD}(hl:L.length≤1048576) (p:Int) (h:Cw L≠0):AC Tryz.prog 59 [AE L,.c (.int .i64 p)] [] (.agg [.c (.int .i64 (Cw L)),.c (.int .i64 0),.nils]) []:=by
 have hc:=FQ hl
 have hb:(Cw L != 0)=true:=E9 h
 generalize Cw L=c at *
 refine A6 Tryz.func59 Tryz.ntmps59 q9 ?_
 refine v7 (A3 [] hc) q9 hb ?_
 exact Ag (A5 []) Tryz.results59
theorem TW {L:List CoD}{p:Int}(hp:1≤p∧p≤4) (h:Cw L=0) :
  AC Tryz.prog 59 [AE L,.c (.int .i64 p)] [] (.agg [.c (.int .i64 0),.c (.int .i64 (Gb (AQ p) L)),.own (0,0)]) [((0,0),.row true 6 87 ((Fq (AQ p) L).map CoD.os))]:=by
 obtain⟨h1,h2,t1,t2,t3,t4⟩:=DE (F0 h)
 have hc:=FQ (L:=L) (by omega)
 rw[h]at hc
 have h00:((0:Int) != 0)=false:=rfl
 obtain⟨d1,d2⟩:=Nt (Hi p) h
 have hg:=T7 hp h2 (Ek L).size (Ek L) 0 (Nat.le_refl _) t1 t2 0 (by omega)
 have hcp:=NT (Fq (AQ p) L) (by omega) fun d hd=>Oa (d2 d hd)
 have hln:(L.map CoD.cs).length=L.length:=by simp
 have hwl:IntKind.i64.wrap ((L.length:Int)-1)=((L.length-1:Nat):Int):=by rw[IntWalk.i64_in _ (by omega)];omega
 rw[show 0+(Ek L).size-1=L.length-1 by omega,show 0+((Ek L).rw (AQ p)).2=Gb (AQ p) L by unfold Gb;omega]at hg
 replace hg:AC Tryz.prog 115 [.ptr (0,0) 0,.c (.int .i64 ((L.length-1:Nat):Int))] [((0,0),.box [AE L,.nils,.c (.int .i64 p),.c (.int .i64 0)])] (AE (Fq (AQ p) L)) [((0,0),.box [AE L,.nils,.c (.int .i64 p),.c (.int .i64 (Gb (AQ p) L:Nat))])]:=hg
 generalize Gb (AQ p) L=m,Fq (AQ p) L=R at *
 refine A6 Tryz.func59 Tryz.ntmps59 q9 ?_
 refine v7 (A3 [] hc) q9 (j3 h00 hln hwl) ?_
 refine Bw (Am [((0,0),(6,0))] [((0,0),(6,0))] hg) q9 q9 ?_
 refine v12 (AU [] hcp) q9 q9 ?_
 exact Aa (A9 [((0,0),(24,0))] []) Tryz.results59 hwl
end
section
open Go.RowKit
section
variable {P:Program} {o:Oper} {σ:ASt}
theorem RelAt.slot_as {Γ:Ctx}{l:List AV}{m:Mem}{d:Nat}{x y:AV}{a:Act}{w:World}{ow:Nat→Option Id}{κ:Id→Value}(h:RelAt Γ ⟨l.set d x,m⟩ a w ow κ) (hxy:∀v,AR w (Γ.sees ow) m κ x v→AR w (Γ.sees ow) m κ y v):RelAt Γ ⟨l.set d y,m⟩ a w ow κ:=by
 refine⟨by simpa using h.len,h.defers,fun t=>?_,h.objs,h.own,h.os,h.tape,h.output,h.size,h.frame,h.kap⟩
 have ht:=h.slots t
 rw[ASt.slot_set l m]at ht ⊢
 split
 ·rename_i hc
  rw[if_pos hc]at ht
  exact hxy _ ht
 ·rename_i hc
  rw[if_neg hc]at ht
  exact ht
theorem AB.as {rd:List Id}{x y:AV}(h:AB P o σ ⟨rd,[],x⟩) (hxy:∀w S m κ v,AR w S m κ x v→AR w S m κ y v):AB P o σ ⟨rd,[],y⟩:=by
 intro Γ σ' a w ow κ hag hr
 obtain⟨v,w',ow',κ',h1,h2⟩:=h Γ σ' a w ow κ hag hr
 refine⟨v,w',ow',κ',h1,?_⟩
 unfold ASt.upd at h2 ⊢
 cases hd:o.dst with
 |none=>rw[hd]at h2;exact h2
 |some d=>rw[hd]at h2;exact RelAt.slot_as h2 fun u hu=>hxy _ _ _ _ _ hu
theorem a1v {f:FuncId}{w:World}{S:Nat→Prop}{m:Mem}{κ:Id→Value}{v:Value}(h:AR w S m κ (.c (.raw (.func (.func f) #[] #[]))) v):AR w S m κ (.clo f []) v:=by
 obtain⟨rfl,_⟩:=h
 exact⟨[],rfl,rfl⟩
theorem AC.of_args {f:FuncId}{args args':List AV}{m m':Mem}{res:AV}(h:AC P f args m res m') (hxy:∀w S m κ vs,ARs w S m κ args' vs→ARs w S m κ args vs):AC P f args' m res m':=fun Γ vals hE hv=>h Γ vals hE (hxy _ _ _ _ _ hv)
theorem AC.clo_last {f g:FuncId}{x:AV}{m m':Mem}{res:AV}(h:AC P f [x,.clo g []] m res m'):AC P f [x,.c (.raw (.func (.func g) #[] #[]))] m res m' :=
 h.of_args fun w S m κ vs hv=>by
  obtain⟨v,vs',rfl,h1,u,us,rfl,h2,h3⟩:=hv
  exact⟨v,_,rfl,h1,u,us,rfl,a1v h2,h3⟩
end
end
end Go.Proofs.YtcejfdfmgmcinaaGreat
