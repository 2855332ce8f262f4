/- Texts of this proof: K37 K38 P40 O01. -/
import Derived.Test.YtcejfdfmgmcinaaGreatKK36
import Derived.Test.YtcejfdfmgmcinaaGreatRows
import Derived.SizedLaws
import Derived.Deep.Slices
import Derived.Deep.Fields
import Derived.ChangeSame
set_option linter.all false
set_option maxHeartbeats 8000000
namespace Go.Proofs.YtcejfdfmgmcinaaGreat
section
open Go.RowKit
set_option maxRecDepth 10000
theorem IP (l:List CoD):AQ (l.map CoD.cs)=l.map CoD.cs:=Cu _ (fun _=>rfl) l
theorem NI (l:List CT):AQ (l.map AD)=l.map AD:=Cu _ (fun _=>rfl) l
theorem RB {p : Int} (hp : 1 ≤ p ∧ p ≤ 4) {L : List CoD} (hL : L.length ≤ 900) : ∀ (n : Nat) (t : CT) (b : Nat), t.size ≤ n → t.ok → Seg L b t → ∀ m : Nat, m + t.size ≤ 900000 →
    AC Tryz.prog 115 [.ptr (0, 0) 0, .c (.int .i64 ((b + t.size - 1 : Nat) : Int))] [((0, 0), .box [AA L, .nils, .c (.int .i64 p), .c (.int .i64 m)])] (AA ((t.rw (B5 p)).1.flat 0)) [((0, 0), .box [AA L, .nils, .c (.int .i64 p), .c (.int .i64 ((m + (t.rw (B5 p)).2 : Nat) : Int))])]
  | 0, t, b, hn, _, _, _, _ => by have := t.size_pos; omega
  | n + 1, .mk op num val kids, b, hn, ho, hs, m, hm => by
    have ho' := ho
    unfold CT.ok at ho'
    obtain ⟨hnode, hal, hok⟩ := ho'
    have hszE : (CT.mk op num val kids).size = Ae kids + 1 := by rw [CT.size]
    have hroot := hs.root
    have hsk := hs.kids
    have hend : (Au b kids).length = kids.length := CL _ _
    have hD : ∃ d, B3 op num val (Au b kids) = d := ⟨_, rfl⟩
    obtain ⟨d, hd⟩ := hD
    have hdop : d.op = op := by rw [← hd]; rfl
    have hdnum : d.num = num := by rw [← hd]; rfl
    have hdval : d.val = val := by rw [← hd]; rfl
    have hnm : d.named = (Au b kids).map fun (x : Nat) => (x : Int) := by rw [← hd]; exact G1 (by rw [hend, hal])
    rw [hd] at hroot
    have hplace : b + (CT.mk op num val kids).size - 1 = b + Ae kids := by omega
    have hin : b + Ae kids < L.length := (List.getElem?_eq_some_iff.1 hroot).1
    have hge := (List.getElem?_eq_some_iff.1 hroot).2
    obtain ⟨hr0, hg0⟩ := E5 L hin
    rw [hge] at hg0
    have hK := Fj op hnode.kind.1 hnode.kind.2
    rw [← hal] at hK
    have h3 := Bl op
    have hz0 : ((rwL (B5 p) (kids.take 0)).1).map AD = [] := by rw [List.take_zero, rwL]; rfl
    have hc0 : (rwL (B5 p) (kids.take 0)).2 = 0 := by rw [List.take_zero, rwL]
    obtain ⟨k1, k2, k3⟩ := Qq (N6 p) kids hok
    rw [hplace]
    have hrw : ∃ R c, (CT.mk op num val kids).rw (B5 p) = (R, c) := ⟨_, _, rfl⟩
    obtain ⟨R, c, hRc⟩ := hrw
    have hRc' := hRc
    rw [CT.rw] at hRc'
    rw [hRc]
    dsimp only
    rw [hdop, hdnum, hdval] at hg0
    generalize b + Ae kids = place at *
    refine A7 Tryz.func115 Tryz.ntmps115 (j2 hr0 hg0) ?_
    refine Ar (κ := Nat) (fun k => ⟨mkS 0 62 [(0, .ptr (0, 0) 0), (4, .nils), (5, .ptr (5, 0) 0), (6, .own (96, 0)), (7, .c (.int .i64 k))],
        [((0, 0), .box [AA L, .nils, .c (.int .i64 p), .c (.int .i64 ((m + (rwL (B5 p) (kids.take k)).2 : Nat) : Int))]),
         ((5, 0), .box [.c (.int .i64 op), .c (.int .i64 d.a), .c (.int .i64 d.b), .c (.int .i64 d.c), .c (.int .i64 num), .c (.sl (val.map CellD.cs))]),
         ((96, 0), .row false 1 24 (((rwL (B5 p) (kids.take k)).1).map AD))]⟩)
      (fun k => k ≤ kids.length) (fun k => kids.length - k) 0 (Nat.zero_le _) ?_ ?_
    · (apply (Ah.of [((0, 0), (0, 0)), ((5, 0), (5, 0)), ((96, 0), (17, 0))] []); (iterate 2 ((focus (simp only [go_sem, Nat.reduceEqDiff, Nat.reduceAdd, Nat.reduceSub, Nat.reduceLeDiff, Nat.reduceMul, Nat.reduceBEq, Nat.reduceLT, Int.reduceToNat, reduceCtorEq, hz0, hc0, Nat.add_zero]; try (and_intros <;> rfl))); (focus exact rfl))); (iterate 4 (focus (simp [go_sem, hz0, hc0, Nat.add_zero]; done))))
    intro k hk
    by_cases hlt : k < kids.length
    · have hdk : decide ((k : Int) < (kids.length : Int)) = true := decide_eq_true (by omega)
      have hw := Af (k := k) (by omega)
      have hkd := HW d k (by omega)
      have hkn := Fd d (k := k) (by rw [hdop, ← hal]; exact hlt)
      rw [hnm, List.getElem?_map, Eo _ _ _ hlt] at hkn
      have hkv : d.kid k = ((b + Ae (kids.take k) + kids[k].size - 1 : Nat) : Int) := (Option.some.inj hkn).symm
      rw [hkv] at hkd
      have hkz := CC kids hlt
      have hkz2 := CO kids (k + 1)
      have htk : F7 (kids.take k) := AY.2 fun t ht => AY.1 hok t (List.mem_of_mem_take ht)
      have hck := (Qq (N6 p) (kids.take k) htk).2.2
      have ih := RB hp hL n kids[k] (b + Ae (kids.take k)) (by omega) (AY.1 hok _ (List.getElem_mem hlt)) (ER kids b k hlt hsk) (m + (rwL (B5 p) (kids.take k)).2) (by omega)
      obtain ⟨e1, e2⟩ := Nj (B5 p) kids hlt
      have hsum : m + (rwL (B5 p) (kids.take k)).2 + (kids[k].rw (B5 p)).2 = m + (rwL (B5 p) (kids.take (k + 1))).2 := by omega
      rw [hsum] at ih
      have hrow : ((rwL (B5 p) (kids.take k)).1).map AD ++ [[.sl (((kids[k].rw (B5 p)).1.flat 0).map CoD.cs)]] = ((rwL (B5 p) (kids.take (k + 1))).1).map AD := by
        rw [e1, List.map_append]
        rfl
      have hrl := LQ (B5 p) (kids.take k)
      rw [List.length_take, Nat.min_eq_left hk] at hrl
      have hln : (rwL (B5 p) (kids.take k)).1.length + 1 ≤ 1000000 := by omega
      unfold CoD.av at hkd
      rw [hdop, hdnum, hdval] at hkd
      clear hRc hRc' hkn hkv e1 e2 hsum
      generalize hm2 : m + (rwL (B5 p) (kids.take (k + 1))).2 = m2 at *
      generalize m + (rwL (B5 p) (kids.take k)).2 = m1 at *
      generalize (rwL (B5 p) (kids.take k)).1 = Q at *
      refine Ac q9 ?_
      refine v7 (A3 [] hK) q9 hdk ?_
      refine v7 (A3 [] hkd) q9 q9 ?_
      refine Ca (As [((0, 0), (0, 0))] [((0, 0), (0, 0))] ih) q9 (j2 hln hw) ?_
      refine ⟨k + 1, by omega, by omega, ?_⟩
      exact Ab (Ah.of [((0, 0), (0, 0)), ((5, 0), (5, 0)), ((96, 0), (32, 0))] []) (j2 hrow hm2)
    · have hdk : decide ((k : Int) < (kids.length : Int)) = false := decide_eq_false (by omega)
      have hke : k = kids.length := by omega
      subst hke
      rw [List.take_length]
      have hrl := LQ (B5 p) kids
      have hml : (((rwL (B5 p) kids).1).map AD).length = kids.length := by rw [List.length_map, hrl]
      have hnk : (CT.mk op num val (rwL (B5 p) kids).1).ok := by unfold CT.ok; exact ⟨hnode, by rw [hrl, hal], k1⟩
      have hnz : (CT.mk op num val (rwL (B5 p) kids).1).size ≤ 900 := by rw [CT.size]; omega
      have hj := Tw hnk hnz
      have hfp := NI (rwL (B5 p) kids).1
      by_cases he : kids.length = 0
      · have hgt : decide ((kids.length : Int) > 0) = false := decide_eq_false (by omega)
        have hkn : kids = [] := List.eq_nil_of_length_eq_zero he
        have hpn : B5 p op num val (rwL (B5 p) kids).1 = none := by
          rw [hkn, rwL]
          unfold B5
          split
          · rfl
          · split
            · rfl
            · split
              · rfl
              · rfl
        rw [hpn] at hRc'
        dsimp only at hRc'
        obtain ⟨rfl, rfl⟩ := Prod.mk.inj hRc'
        clear hRc hRc' hpn
        dsimp only [CF] at *
        have hff := IP ((CT.mk op num val (rwL (B5 p) kids).1).flat 0)
        generalize ((rwL (B5 p) kids).1).map AD = P at *
        generalize m + (rwL (B5 p) kids).2 = m1 at *
        refine Ac q9 ?_
        refine v7 (A3 [] hK) q9 (j3 hdk hml hgt) ?_
        refine v12 (AU [(96, 0)] hj) hfp q9 ?_
        exact A9 (A8 [((0, 0), (0, 0))] [(61, 0)]) Tryz.results115 hff
      · have hgt : decide ((kids.length : Int) > 0) = true := decide_eq_true (by omega)
        obtain ⟨L1, c1, hO, hone⟩ := Wl hnk (fun h => he (by rw [← hrl, h]; rfl)) hnz hp
        unfold BA at hone
        rcases hO with ⟨rfl, q, hq, rfl⟩ | ⟨rfl, hq⟩
        · rw [hq] at hRc'
          dsimp only at hRc'
          obtain ⟨rfl, rfl⟩ := Prod.mk.inj hRc'
          have hwm : IntKind.i64.wrap (((m + (rwL (B5 p) kids).2 : Nat) : Int) + 1) = ((m + ((rwL (B5 p) kids).2 + 1) : Nat) : Int) := by rw [IntWalk.i64_in _ (by omega)]; omega
          clear hRc hRc' hq hj
          generalize hm2 : m + ((rwL (B5 p) kids).2 + 1) = m2 at *
          generalize (q.flat 0).map CoD.cs = Fr at *
          dsimp only [CF] at *
          generalize ((rwL (B5 p) kids).1).map AD = P at *
          generalize m + (rwL (B5 p) kids).2 = m1 at *
          refine Ac q9 ?_
          refine v7 (A3 [] hK) q9 (j3 hdk hml hgt) ?_
          refine v9 (A4 [(96, 0)] hone) hfp hwm ?_
          exact A9 (A8 [((0, 0), (0, 0))] []) Tryz.results115 hgt
        · rw [hq] at hRc'
          dsimp only at hRc'
          obtain ⟨rfl, rfl⟩ := Prod.mk.inj hRc'
          clear hRc hRc' hq
          have hff := IP ((CT.mk op num val (rwL (B5 p) kids).1).flat 0)
          dsimp only [CF] at *
          generalize ((rwL (B5 p) kids).1).map AD = P at *
          generalize m + (rwL (B5 p) kids).2 = m1 at *
          generalize L1.map CoD.cs = FL at *
          refine Ac q9 ?_
          refine v7 (A3 [] hK) q9 (j3 hdk hml hgt) ?_
          refine v9 (A4 [(96, 0)] hone) hfp q9 ?_
          refine v12 (AU [(96, 0)] hj) hfp q9 ?_
          exact A9 (A8 [((0, 0), (0, 0))] [(61, 0)]) Tryz.results115 hff
set_option maxRecDepth 10000
def EZ (L:List CoD) (k:Nat):List (List C):=(L.take k).map CoD.os++(L.drop k).map CoD.cs
theorem TS (L:List CoD):EZ L 0=L.map CoD.cs:=by simp[EZ]
theorem TQ (L:List CoD):EZ L L.length=L.map CoD.os:=by simp[EZ]
theorem WL (L:List CoD) {k:Nat}(h:k≤L.length):(EZ L k).length=L.length:=by simp[EZ];omega
theorem YD (L:List CoD) {k:Nat}(h:k<L.length):Aa (EZ L k) 6 k=true∧(EZ L k)[k]? = some [.int .i64 L[k].op,.int .i64 L[k].a,.int .i64 L[k].b,.int .i64 L[k].c,.int .i64 L[k].num,.sl (L[k].val.map CellD.cs)]:=by
 have h1:(EZ L k)[k]? = some [.int .i64 L[k].op,.int .i64 L[k].a,.int .i64 L[k].b,.int .i64 L[k].c,.int .i64 L[k].num,.sl (L[k].val.map CellD.cs)]:=by
  unfold EZ
  rw[List.getElem?_append_right (by rw[List.length_map,List.length_take];omega),List.length_map,List.length_take,Nat.min_eq_left (by omega),Nat.sub_self,List.getElem?_map,List.getElem?_drop,Nat.add_zero,List.getElem?_eq_getElem h]
  rfl
 exact⟨by unfold Aa;rw[Int.toNat_natCast,h1];simp,h1⟩
theorem WM (L:List CoD) {k:Nat}(h:k<L.length):(EZ L k).set k [.int .i64 L[k].op,.int .i64 L[k].a,.int .i64 L[k].b,.int .i64 L[k].c,.int .i64 L[k].num,.osl (L[k].val.map CellD.cs)]=EZ L (k+1):=by
 have hl:((L.take k).map CoD.os).length=k:=by simp;omega
 unfold EZ
 rw[List.set_append_right _ _ (by omega),hl,Nat.sub_self,List.take_succ_eq_append_getElem h,List.map_append,List.append_assoc,List.drop_eq_getElem_cons h]
 rfl
theorem Tv (L:List CoD) (hl:L.length≤1000000) (hv:∀d∈L,d.val.length≤1000000):AC Tryz.prog 68 [AA L] [] (.own (0,0)) [((0,0),.row true 6 87 (L.map CoD.os))]:=by
 have hm0:=TS L
 have hn:0+L.length≤1000000:=by omega
 have hall:=VV L
 refine A7 Tryz.func68 Tryz.ntmps68 (j3 hn hall @List.nil_append.{0}) ?_
 refine Ar (κ:=Nat) (fun k=>⟨mkS 0 26 [(0,AA L),(2,.nils),(3,.own (93,0)),(4,.c (.int .i64 k))],[((93,0),.row true 6 87 (EZ L k))]⟩)
  (fun k=>k≤L.length) (fun k=>L.length-k) 0 (Nat.zero_le _) ?_ ?_
 ·exact Ab (Ah.of [((93,0),(7,0))] []) hm0
 intro k hk
 have hml:=WL L hk
 by_cases hlt:k<L.length
 ·have hdk:decide ((k:Int)<(L.length:Int))=true:=decide_eq_true (by omega)
  have hw:=Af (k:=k) (by omega)
  obtain⟨hr0,hg0⟩:=YD L hlt
  have hvl:=hv _ (List.getElem_mem hlt)
  have hset:=WM L hlt
  have hvn:0+L[k].val.length≤1000000:=by omega
  generalize L[k]=d at *
  have hvs:(EZ L k).set k [.int .i64 d.op,.int .i64 d.a,.int .i64 d.b,.int .i64 d.c,.int .i64 d.num,.osl (d.val.map CellD.cs)]=EZ L (k+1):=hset
  refine Ac (j3 hml hdk hr0) ?_
  ((with_reducible apply YN);(iterate 9 (focus (first | (simp only[go_sem,Nat.reduceEqDiff,Nat.reduceAdd,Nat.reduceSub,Nat.reduceLeDiff,Nat.reduceMul,Nat.reduceBEq,Nat.reduceLT,Int.reduceToNat,reduceCtorEq,hg0];first | done | exact rfl | (and_intros<;>rfl)) | exact rfl | decide))))
  refine Ac (j3 hvn hr0 @List.nil_append.{0}) ?_
  ((with_reducible apply d9);(iterate 13 (focus (first | (simp only[go_sem,Nat.reduceEqDiff,Nat.reduceAdd,Nat.reduceSub,Nat.reduceLeDiff,Nat.reduceMul,Nat.reduceBEq,Nat.reduceLT,Int.reduceToNat,reduceCtorEq,hg0,C.plain,List.set_cons_zero,List.set_cons_succ,hvs];first | done | exact rfl | (and_intros<;>rfl)) | exact rfl | decide))))
  refine Ac hw ?_
  refine⟨k+1,by omega,by omega,?_⟩
  exact Ab (Ah.of [((93,0),(93,0))] []) hvs
 ·have hdk:decide ((k:Int)<(L.length:Int))=false:=decide_eq_false (by omega)
  have hke:k=L.length:=by omega
  subst hke
  have hmf:=TQ L
  refine Ac (j2 hml hdk) ?_
  exact A9 (A8 [((0,0),(93,0))] []) Tryz.results68 hmf
mutual
theorem Om:∀(t:CT) (b:Nat),t.ok→∀d∈t.flat b,NodeOk d.op d.num d.val
 | .mk op num val kids,b,h,d,hd=>by
  unfold CT.ok at h
  obtain⟨h1,_,h3⟩:=h
  rw[CT.flat]at hd
  rcases List.mem_append.1 hd with hd | hd
  ·exact KY kids b h3 d hd
  ·rw[List.mem_singleton.1 hd]
   exact h1
theorem KY:∀(l:List CT) (b:Nat),F7 l→∀d∈AZ b l,NodeOk d.op d.num d.val
 | [],b,_,d,hd=>by rw[AZ]at hd;exact absurd hd (by simp)
 |t::r,b,h,d,hd=>by
  unfold F7 at h
  rw[AZ]at hd
  rcases List.mem_append.1 hd with hd | hd
  ·exact Om t b h.1 d hd
  ·exact KY r (b+t.size) h.2 d hd
end
theorem Mi {F:Int→Int→List CellD→List CT→Option CT}(hF:IF F) {L:List CoD}(h:D6 L=0):(E8 F L).length≤900∧∀d∈E8 F L,NodeOk d.op d.num d.val:=by
 obtain⟨h1,h2,t1,t2,t3,t4⟩:=Ei (J7 h)
 obtain⟨r1,r2,_⟩:=Zc hF (E1 L) t1
 unfold E8
 exact⟨by rw[CT.flat_len];omega,Om _ 0 r1⟩
theorem S2 {op num:Int}{val:List CellD}(h:NodeOk op num val):val.length≤200:=by
 cases hv:BQ op with
 |false=>rw[h.noVal hv];simp
 |true =>
  obtain⟨t,ht,rfl,_⟩:=h.hasVal hv
  rw[CA]
  exact ht.2.1
theorem UN (d:CoD) (l:List CoD):B8 (d::l)=(5+5*d.val.length)+B8 l:=by rw[I9,I9];simp[tot];omega
theorem Ls:∀(l:List CoD),(∀d∈l,d.val.length≤200)→B8 l≤l.length*1005
 | [],_=>by rw[I9];simp[tot]
 |d::l,h=>by
  have h1:=h d (by simp)
  have h2:=Ls l fun x hx=>h x (by simp[hx])
  rw[UN,List.length_cons,Nat.add_mul]
  omega
theorem T1 {F:Int→Int→List CellD→List CT→Option CT}(hF:IF F) {L:List CoD}(h:D6 L=0):(E8 F L).length≤900∧B8 (E8 F L)≤904500∧∀d∈E8 F L,d.val.length≤200:=by
 obtain⟨h1,h2⟩:=Mi hF h
 have h3:∀d∈E8 F L,d.val.length≤200:=fun d hd=>S2 (h2 d hd)
 have h4:=Ls _ h3
 have h5:(E8 F L).length*1005≤900*1005:=Nat.mul_le_mul_right _ h1
 exact⟨h1,by omega,h3⟩
theorem Qs {L:List CoD}(hl:L.length≤1048576) (p:Int) (h:D6 L≠0):AC Tryz.prog 59 [AA L,.c (.int .i64 p)] [] (.agg [.c (.int .i64 (D6 L)),.c (.int .i64 0),.nils]) []:=by
 have hc:=Kj hl
 have hb:(D6 L != 0)=true:=DS h
 generalize D6 L=c at *
 refine A7 Tryz.func59 Tryz.ntmps59 q9 ?_
 refine v7 (A3 [] hc) q9 hb ?_
 exact Aj (A5 []) Tryz.results59
theorem Sp {L:List CoD}{p:Int}(hp:1≤p∧p≤4) (h:D6 L=0) :
  AC Tryz.prog 59 [AA L,.c (.int .i64 p)] [] (.agg [.c (.int .i64 0),.c (.int .i64 (JR (B5 p) L)),.own (0,0)]) [((0,0),.row true 6 87 ((E8 (B5 p) L).map CoD.os))]:=by
 obtain⟨h1,h2,t1,t2,t3,t4⟩:=Ei (J7 h)
 have hc:=Kj (L:=L) (by omega)
 rw[h]at hc
 have h00:((0:Int) != 0)=false:=rfl
 obtain⟨d1,d2⟩:=Mi (N6 p) h
 have hg:=RB hp h2 (E1 L).size (E1 L) 0 (Nat.le_refl _) t1 t2 0 (by omega)
 have hcp:=Tv (E8 (B5 p) L) (by omega) fun d hd=>S1 (d2 d hd)
 have hln:(L.map CoD.cs).length=L.length:=by simp
 have hwl:IntKind.i64.wrap ((L.length:Int)-1)=((L.length-1:Nat):Int):=by rw[IntWalk.i64_in _ (by omega)];omega
 rw[show 0+(E1 L).size-1=L.length-1 by omega,show 0+((E1 L).rw (B5 p)).2=JR (B5 p) L by unfold JR;omega]at hg
 replace hg:AC Tryz.prog 115 [.ptr (0,0) 0,.c (.int .i64 ((L.length-1:Nat):Int))] [((0,0),.box [AA L,.nils,.c (.int .i64 p),.c (.int .i64 0)])] (AA (E8 (B5 p) L)) [((0,0),.box [AA L,.nils,.c (.int .i64 p),.c (.int .i64 (JR (B5 p) L:Nat))])]:=hg
 generalize JR (B5 p) L=m,E8 (B5 p) L=R at *
 refine A7 Tryz.func59 Tryz.ntmps59 q9 ?_
 refine v7 (A3 [] hc) q9 (j3 h00 hln hwl) ?_
 refine Ca (As [((0,0),(6,0))] [((0,0),(6,0))] hg) q9 q9 ?_
 refine v12 (AU [] hcp) q9 q9 ?_
 exact A9 (A8 [((0,0),(24,0))] []) Tryz.results59 hwl
theorem Uh:B5 2=IX:=by funext op num val kids;rfl
theorem Qt {L:List CoD}(hl:L.length≤1048576) (h:D6 L≠0):AC Tryz.prog 19 [AA L] [] (.agg [.c (.int .i64 (D6 L)),.c (.int .i64 0),.nils]) []:=by
 have hp:=Qs hl 2 h
 generalize D6 L=c at *
 refine A7 Tryz.func19 Tryz.ntmps19 q9 ?_
 refine v7 (A3 [] hp) q9 q9 ?_
 exact Aj (A5 []) Tryz.results19
theorem Sq {L:List CoD}(h:D6 L=0):AC Tryz.prog 19 [AA L] [] (.agg [.c (.int .i64 0),.c (.int .i64 (JR IX L)),.own (0,0)]) [((0,0),.row true 6 87 ((E8 IX L).map CoD.os))]:=by
 have hp:=Sp (p:=2) (by omega) h
 rw[Uh]at hp
 generalize JR IX L=m,(E8 IX L).map CoD.os=R at *
 refine A7 Tryz.func19 Tryz.ntmps19 q9 ?_
 refine v12 (AU [] hp) q9 q9 ?_
 exact A9 (A8 [((0,0),(4,0))] []) Tryz.results19 h
set_option maxRecDepth 10000
theorem Jk (x0:List CoD) (hz0:∀d∈x0,GK d.val) (hl0:x0.length≤9223372036854775807) (hm0:∀d∈x0,d.val.length≤9223372036854775807) (hb0':(Ns x0 1048576)<0):AC Tryz.prog 4 [AA x0] [] (.c (.bool true)) []:=by
 have hq0:=Qw x0 1048576 (by omega)
 have hs0:=JA x0 hz0 (by omega) (fun d h=>by have:=hm0 d h;omega) 1048576 (by omega) (by omega)
 have hb0:decide ((Ns x0 1048576)<0)=true:=by simpa using hb0'
 refine A7 Tryz.func4 Tryz.ntmps4 q9 ?_
 refine v7 (A3 [] hs0) q9 hb0 ?_
 exact Aj (A5 []) Tryz.results4
theorem Lz (x0:List CoD) (hz0:∀d∈x0,GK d.val) (hl0:x0.length≤1048576) (hm0:∀d∈x0,d.val.length≤1048576) (hb0':¬(Ns x0 1048576)<0) (c did:Int) (ys:List CoD) (hy:ys.length≤1000000) (ht:1+B8 ys≤3000000000) (hx:∀d∈ys,d.val.length≤9223372036854775807) (hk9:1+B8 x0≤3000000000) (hspec:AC Tryz.prog 19 [AA x0] [] (.agg [.c (.int .i64 c),.c (.int .i64 did),.own (0,0)]) [((0,0),.row true 6 87 (ys.map CoD.os))]) (himpl:AC Tryz.prog 20 [AA x0] [] (.agg [.c (.int .i64 c),.c (.int .i64 did),.own (0,0)]) [((0,0),.row true 6 87 (ys.map CoD.os))]):AC Tryz.prog 4 [AA x0] [] (.c (.bool true)) []:=by
 have hq0:=Qw x0 1048576 (by omega)
 have hs0:=JA x0 hz0 (by omega) (fun d h=>by have:=hm0 d h;omega) 1048576 (by omega) (by omega)
 have hb0:decide ((Ns x0 1048576)<0)=false:=by simpa using hb0'
 have hto0:=Nv x0 hl0 hm0
 have heq0:=GV x0 hl0 (fun d h=>by have:=hm0 d h;omega)
 have hmk0:=H3 x0 (1) 87 (by omega) (by omega)
 have he:=Lw c did ys (by omega) hx
 have hm:=Kb c did ys 1 87 ht (by omega)
 have hh:=K0 c did ys 1 ht (by omega)
 have hm0:decide (((1+B8 ys:Nat):Int)<0)=false:=by simp;omega
 have hmm:(((1+B8 ys:Nat):Int) != ((1+B8 ys:Nat):Int))=false:=by simp
 have hk0:decide (((1+B8 x0:Nat):Int)<0)=false:=by simp;omega
 refine A7 Tryz.func4 Tryz.ntmps4 q9 ?_
 refine v7 (A3 [] hs0) q9 hb0 ?_
 refine v12 (BS [] hto0) q9 hb0 ?_
 refine v12 (BS [(17,0)] hspec) q9 hb0 ?_
 refine v12 (BS [] hto0) q9 hb0 ?_
 refine v12 (BS [(20,0)] himpl) q9 hb0 ?_
 refine v7 (A3 [(22,0),(18,0)] he) q9 (j2 hb0 hk0) ?_
 refine v12 (BS [] hto0) q9 (j2 hb0 hk0) ?_
 refine v7 (A3 [(20,0),(29,0)] heq0) q9 (j2 hb0 hk0) ?_
 refine v9 (N0 (20,0) hmk0) q9 hk0 ?_
 refine v7 (A3 [(22,0),(18,0)] he) q9 hk0 ?_
 refine v9 (N0 (22,0) hm) q9 (j2 hm0 hmm) ?_
 refine v7 (A3 [(22,0)] hh) q9 (j2 hm0 hmm) ?_
 refine v12 (BS [] hto0) q9 (j2 hm0 hmm) ?_
 refine v12 (BS [(55,0)] himpl) q9 (j2 hm0 hmm) ?_
 refine v7 (A3 [(56,0),(18,0)] he) q9 (j2 hm0 hk0) ?_
 refine v7 (A3 [(22,0)] hh) q9 (j2 hm0 hmm) ?_
 exact Aj (A5 []) Tryz.results4
theorem KD (x0:List CoD) (hz0:∀d∈x0,GK d.val) (hl0:x0.length≤1048576) (hm0:∀d∈x0,d.val.length≤1048576) (hb0':¬(Ns x0 1048576)<0) (c did:Int) (hk9:1+B8 x0≤3000000000) (hspec:AC Tryz.prog 19 [AA x0] [] (.agg [.c (.int .i64 c),.c (.int .i64 did),.nils]) []) (himpl:AC Tryz.prog 20 [AA x0] [] (.agg [.c (.int .i64 c),.c (.int .i64 did),.nils]) []):AC Tryz.prog 4 [AA x0] [] (.c (.bool true)) []:=by
 have hq0:=Qw x0 1048576 (by omega)
 have hs0:=JA x0 hz0 (by omega) (fun d h=>by have:=hm0 d h;omega) 1048576 (by omega) (by omega)
 have hb0:decide ((Ns x0 1048576)<0)=false:=by simpa using hb0'
 have hto0:=Nv x0 hl0 hm0
 have heq0:=GV x0 hl0 (fun d h=>by have:=hm0 d h;omega)
 have hmk0:=H3 x0 (1) 87 (by omega) (by omega)
 have he:=Kv c did
 have hm:=Jp c did 1
 have hh:=Jg c did 1 (by omega)
 have hm0:decide (((1:Nat):Int)<0)=false:=rfl
 have hmm:(((1:Nat):Int) != ((1:Nat):Int))=false:=by simp
 have hk0:decide (((1+B8 x0:Nat):Int)<0)=false:=by simp;omega
 refine A7 Tryz.func4 Tryz.ntmps4 q9 ?_
 refine v7 (A3 [] hs0) q9 hb0 ?_
 refine v12 (BS [] hto0) q9 hb0 ?_
 refine v7 (A3 [(17,0)] hspec) q9 hb0 ?_
 refine v12 (BS [] hto0) q9 hb0 ?_
 refine v7 (A3 [(20,0)] himpl) q9 hb0 ?_
 refine v7 (A3 [] he) @List.map_nil.{0,0} (j2 hb0 hk0) ?_
 refine v12 (BS [] hto0) q9 (j2 hb0 hk0) ?_
 refine v7 (A3 [(20,0),(29,0)] heq0) q9 (j2 hb0 hk0) ?_
 refine v9 (N0 (20,0) hmk0) q9 hk0 ?_
 refine v7 (A3 [] he) @List.map_nil.{0,0} hk0 ?_
 refine v7 (A3 [] hm) q9 (j2 hm0 hmm) ?_
 refine v7 (A3 [] hh) q9 (j2 hm0 hmm) ?_
 refine v12 (BS [] hto0) q9 (j2 hm0 hmm) ?_
 refine v7 (A3 [(55,0)] himpl) q9 (j2 hm0 hmm) ?_
 refine v7 (A3 [] he) @List.map_nil.{0,0} (j2 hm0 hk0) ?_
 refine v7 (A3 [] hh) q9 (j2 hm0 hmm) ?_
 exact Aj (A5 []) Tryz.results4
theorem MN (x0:List CoD) (hz0:∀d∈x0,GK d.val) (hl0:x0.length≤9223372036854775807) (hy0:∀d∈x0,d.val.length≤9223372036854775807):AC Tryz.prog 4 [AA x0] [] (.c (.bool true)) []:=by
 by_cases hsz:Ns x0 1048576<0
 ·exact Jk x0 hz0 hl0 hy0 hsz
 ·obtain⟨h1,h2,h3⟩:=Zk hsz (by omega)
  by_cases hc:D6 x0=0
  ·obtain⟨t1,t2,t3⟩:=T1 N7 hc
   exact Lz x0 hz0 h1 h3 hsz _ _ _ (by omega) (by omega) (fun d hd=>Nat.le_trans (t3 d hd) (by omega)) (by omega) (Sq hc) (Rq hz0 hc)
  ·exact KD x0 hz0 h1 h3 hsz _ _ (by omega) (Qt h1 hc) (PS h1 hz0 hc)
end
section
open Go.ChangeShapes Go.WideShapes Go.ChangeAt Go.RowKit Go.Deep
section
variable {H:Type} {enc:TypeId×Value→H} {P:Program} {w:World} {base:Nat} {spare:Nat→Bool} {held:Bool}
theorem Di {t e:TypeId}{fs:Array Field}{fuel:Nat}{cs:List Value}{x:DataW H×List MemPlace}(ht:P.underlying t=some (.slice e)) (he:P.underlying e=some (.struct fs))
  (hone:oneCellFields P fs=true) (hC:P.cellsOf e=fs.size) (h:DataW.trod enc P w base spare held fuel t cs=some x) :
  (cs=[.slice none 0 0]∧x=(.nil,[])) ∨
  ∃(a:Addr) (len cap m:Nat) (D:Nat→DataW H) (Pl:Nat→List MemPlace),cs=[.slice (some a) len cap]∧base≤a.block∧len≤cap∧cap≤maxLen∧m=(if spare a.block then cap else len) ∧
   x=(.slice ((List.range len).map D) ((List.range (m-len)).map fun j=>D (len+j)),MemPlace.row a (m*fs.size)++(List.range m).flatMap Pl) ∧
   ∀i,i<m→∃(ys:List (DataW H×List MemPlace)) (n:Nat),D i=.agg (ys.map (·.1))∧Pl i=ys.flatMap (·.2)∧ys.length=fs.size ∧
    ∀(j:Nat) (f:Field),fs[j]? = some f→∃(v:Value) (y:DataW H×List MemPlace),w.cell? (a.add (i*fs.size+j))=some v∧ys[j]? = some y∧DataW.trod enc P w base spare held n f.type [v]=some y:=by
 rcases open_slice ht h with h0 | ⟨a,len,cap,m,n,D,Pl,hcs,hb,hl,hm,hmm,hx,hi⟩
 ·exact .inl h0
 ·refine .inr ⟨a,len,cap,m,D,Pl,hcs,hb,hl,hm,hmm,by rw[hC]at hx;exact hx,fun i him=>?_⟩
  obtain⟨cs',hc,ht'⟩:=hi i him
  rw[hC]at hc
  obtain⟨ys,n',hn',hy,hlen,hyl,hf⟩:=DataW.trod_struct he ht'
  obtain⟨_,hcl,hat⟩:=World.cells?_some hc
  simp only[Prod.mk.injEq]at hy
  refine⟨ys,n',hy.1,hy.2,hyl,fun j f hj=>?_⟩
  obtain⟨ho,hk⟩:=hone_of hone j f hj
  have hjl:j<fs.size:=(Array.getElem?_eq_some_iff.1 hj).1
  have hcell:=hat j hjl
  have hv:cs'[j]? = some (cs'[j]'(by omega)):=List.getElem?_eq_getElem (by omega)
  have h1:=hf j f hj
  rw[ho,hk]at h1
  have hone':(cs'.drop j).take 1=[cs'[j]'(by omega)]:=by
   rw[List.drop_eq_getElem_cons (by omega)]
   rfl
  rw[hone']at h1
  have hys:ys[j]? = some (ys[j]'(by omega)):=List.getElem?_eq_getElem (by omega)
  refine⟨_,_,?_,hys,h1.trans hys⟩
  rw[←Go.Deep.add_add,hcell,hv]
theorem K9 {α:Type}{p:Nat→α→Prop}:∀(n:Nat),(∀i,i<n→∃c,p i c)→∃xs:List α,xs.length=n∧∀i (h:i<xs.length),p i xs[i]
 | 0,_=>⟨[],rfl,fun i h=>absurd h (by simp)⟩
 |n+1,h=>by
  obtain⟨xs,hl,hx⟩:=K9 n (fun i hi=>h i (by omega))
  obtain⟨c,hc⟩:=h n (by omega)
  refine⟨xs++[c],by simp[hl],fun i hi=>?_⟩
  by_cases hlt:i<xs.length
  ·rw[List.getElem_append_left hlt];exact hx i hlt
  ·have:i=xs.length:=by simp at hi;omega
   subst this
   rw[List.getElem_append_right (Nat.le_refl _)]
   simp
   rw[hl]
   exact hc
theorem N1 {t e tI tS:TypeId}{n0 n1 n2 n3 n4:Field}{fuel len cap:Nat}{A:Option Addr}{x:DataW H×List MemPlace}(ht:P.underlying t=some (.slice e)) (he:P.underlying e=some (.struct #[n0,n1,n2,n3,n4]))
  (hone:oneCellFields P #[n0,n1,n2,n3,n4]=true) (hC:P.cellsOf e=5) (h0:n0.type=tI) (h1:n1.type=tI) (h2:n2.type=tS) (h3:n3.type=tS) (h4:n4.type=tI)
  (hI:P.underlying tI=some (.int .i64)) (hS:P.underlying tS=some .string)
  (h:DataW.trod enc P w base spare held fuel t [.slice A len cap]=some x) :
  ∃xs:List CellD,xs.length=len∧len≤9223372036854775807∧len≤cap∧(∀c∈xs,c.text.size≤9223372036854775807∧c.key.size≤9223372036854775807)∧B9 w (fun b=>b<w.heap.size) A xs:=by
 rcases Di ht he hone hC h with⟨hcs,_⟩ | ⟨a,len',cap',m,D,Pl,hcs,_,hl,hm,hmm,_,hi⟩
 ·simp only[List.cons.injEq,Value.slice.injEq,and_true]at hcs
  obtain⟨rfl,rfl,rfl⟩:=hcs
  exact⟨[],rfl,by omega,by omega,by simp,B9.nil⟩
 ·simp only[List.cons.injEq,Value.slice.injEq,and_true]at hcs
  obtain⟨rfl,rfl,rfl⟩:=hcs
  have hlm:len≤m:=by rw[hmm];split<;>omega
  have hmx:maxLen=9223372036854775807:=rfl
  obtain⟨xs,hxl,hx⟩:=K9 (p:=fun i (c:CellD)=>(c.text.size≤9223372036854775807∧c.key.size≤9223372036854775807)∧∀j u,(vals c)[j]? = some u→w.cell? (a.add (i*5+j))=some u) len (fun i hil=>by
   obtain⟨ys,n,_,_,_,hf⟩:=hi i (by omega)
   obtain⟨v0,y0,c0,_,t0⟩:=hf 0 n0 rfl
   obtain⟨v1,y1,c1,_,t1⟩:=hf 1 n1 rfl
   obtain⟨v2,y2,c2,_,t2⟩:=hf 2 n2 rfl
   obtain⟨v3,y3,c3,_,t3⟩:=hf 3 n3 rfl
   obtain⟨v4,y4,c4,_,t4⟩:=hf 4 n4 rfl
   rw[h0]at t0;rw[h1]at t1;rw[h2]at t2;rw[h3]at t3;rw[h4]at t4
   obtain⟨k,e0,_⟩:=DataW.trod_int hI t0
   obtain⟨q,e1,_⟩:=DataW.trod_int hI t1
   obtain⟨s,e2,_,z2⟩:=DataW.trod_string hS t2
   obtain⟨y,e3,_,z3⟩:=DataW.trod_string hS t3
   obtain⟨nn,e4,_⟩:=DataW.trod_int hI t4
   simp only[List.cons.injEq,and_true]at e0 e1 e2 e3 e4
   subst e0 e1 e2 e3 e4
   refine⟨⟨k,q,s,y,nn⟩,⟨by show s.size≤_;omega,by show y.size≤_;omega⟩,fun j u hu=>?_⟩
   simp only[vals]at hu
   match j with
   | 0=>simp only[List.getElem?_cons_zero,Option.some.injEq]at hu;subst hu;exact c0
   | 1=>simp only[List.getElem?_cons_succ,List.getElem?_cons_zero,Option.some.injEq]at hu;subst hu;exact c1
   | 2=>simp only[List.getElem?_cons_succ,List.getElem?_cons_zero,Option.some.injEq]at hu;subst hu;exact c2
   | 3=>simp only[List.getElem?_cons_succ,List.getElem?_cons_zero,Option.some.injEq]at hu;subst hu;exact c3
   | 4=>simp only[List.getElem?_cons_succ,List.getElem?_cons_zero,Option.some.injEq]at hu;subst hu;exact c4
   |j+5=>simp at hu)
  refine⟨xs,hxl,by omega,hl,fun c hc=>?_,fun x hx'=>?_,fun hn=>?_⟩
  ·obtain⟨i,hi',rfl⟩:=List.getElem_of_mem hc
   exact (hx i hi').1
  ·simp only[List.mem_map]at hx'
   obtain⟨c,_,rfl⟩:=hx'
   rfl
  ·simp only[List.length_map]at hn
   have hfirst:=(hx 0 hn).2 0 _ rfl
   simp only[Nat.zero_mul,Nat.zero_add]at hfirst
   have hadd0:a.add 0=a:=by unfold Addr.add;simp
   rw[hadd0]at hfirst
   obtain⟨ab,ao,asp⟩:=a
   have hsp:asp=none:=by
    unfold World.cell? at hfirst
    simp only at hfirst
    split at hfirst
    ·split at hfirst
     ·simp at hfirst
     ·rename_i hns;simpa using hns
    ·simp at hfirst
   subst hsp
   refine⟨ab,ao,rfl,World.block_lt_of_cell? w _ hfirst,World.block_lt_of_cell? w _ hfirst,fun i x hxi j u hu=>?_⟩
   simp only[List.getElem?_map]at hxi
   by_cases hil:i<xs.length
   ·rw[List.getElem?_eq_getElem hil]at hxi
    simp only[Option.map_some,Option.some.injEq]at hxi
    subst hxi
    have:=(hx i hil).2 j u hu
    have hadd:(⟨ab,ao,none⟩:Addr).add (i*5+j)=⟨ab,ao+i*5+j,none⟩:=by
     unfold Addr.add
     split
     ·rename_i h0;(have hi0:i=0:=by omega);subst hi0;simp
     ·simp[Nat.add_assoc]
    rw[hadd]at this
    exact this
   ·rw[List.getElem?_eq_none (by omega)]at hxi
    simp at hxi
end
end
end Go.Proofs.YtcejfdfmgmcinaaGreat
