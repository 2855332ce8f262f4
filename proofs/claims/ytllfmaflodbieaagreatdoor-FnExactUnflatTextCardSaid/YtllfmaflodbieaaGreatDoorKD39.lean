/- The program's reader of a path and a leaf: flatLine. Printed by gen_d39.py. -/
import Derived.Test.YtllfmaflodbieaaGreatDoorKD29uD38
set_option linter.all false
set_option maxHeartbeats 8000000
namespace Go.Proofs.YtllfmaflodbieaaGreatDoor
open Go.RowKit
set_option maxRecDepth 10000
variable {o o1 o2:Obj}
theorem m9 {v:V}(h:v.right) (hk:v.kind=4∨v.kind=3):FV v:=by
 have h0:v.kids=[]∧v.count=1∧v.depth=1:=by
  have he:=LM h (by omega) (by omega)
  rw[he]
  exact⟨rfl,rfl,rfl⟩
 exact⟨h,h0.2.1,h0.2.2,by omega⟩
theorem a2l:∃c:Int,c≠0∧dec []=(c,none):=by
 rcases Fg [] with⟨t,ht⟩ | ⟨c,hc,hd⟩
 ·obtain⟨e1,_⟩:=Of ht
  have h1:=Bv t
  have h2:=Bc t
  rw[←e1]at h1
  simp at h1
  omega
 ·exact⟨c,hc,hd⟩
def ZU (R:Option (List V×ByteArray)):AV:=match R with
 |none=>plA [] P5
 |some (p,r)=>plA p (M4 r)
theorem a2c (p:List V):plA p P5=.agg [.c (.sl (p.map V.cs)),.c (.int .i64 0),.c (.int .i64 0),.c (.str ByteArray.empty),.c (.sl []),.c (.sl [])]:=rfl
theorem x7:plA [] P5=.agg [.c (.sl []),.c (.int .i64 0),.c (.int .i64 0),.c (.str ByteArray.empty),.c (.sl []),.c (.sl [])]:=rfl
theorem s7 {p:List V}(h:∀k∈p,FV k):(DB p).fit:=Xs fun k hk=>HI (h k hk).1
theorem Lx {p:List V}(h:∀k∈p,FV k):(dec (DB p).enc).1=0↔p.length≤199:=by
 have hc:(DB p).count=p.length+1:=by
  have:=(EH h).1
  simp only[DB,V.count]
  omega
 constructor
 ·intro h0
  rcases Fg (DB p).enc with⟨t,ht⟩ | ⟨c,hc0,hd⟩
  ·obtain⟨e1,_,e3,_⟩:=Of ht
   have h1:=Bv t
   have h2:=Bv (DB p)
   rw[e1]at h2
   omega
  ·rw[hd]at h0
   exact absurd h0 hc0
 ·intro hl
  obtain⟨h1,h2,h3⟩:=EH h
  have hr:(DB p).right:=⟨Y4 h3 (by omega),by simp only[DB,V.count];omega,by simp only[DB,V.depth];omega⟩
  rw[J9 hr]
theorem o8 {p:List V×V}{s:ByteArray}(hz:s.size≤4000) (h:FlatOk p s):∃r,ES (s.size+1) (DL 46 s) []=some (p.1,r)∧r.size≤s.size∧SB (H3 r)=((0,0),some p.2):=by
 have hl:=L0 h
 have hlen:=AL s
 have hp:=Lp p.1
 have hl2:s.data.toList=46::(Cy p.1++32::([61,32]++p.2.txt.data.toList)):=by rw[hl];simp
 have ht:=n8 (b:=46) hl2
 rw[hl2]at hlen
 simp only[List.length_cons,List.length_append,AL,List.length_nil]at hlen
 have hg:=e8 p.1 (s.size+1) [] ⟨(Cy p.1++32::([61,32]++p.2.txt.data.toList)).toArray⟩ ([61,32]++p.2.txt.data.toList) h.keys (by simp) (by omega)
 refine⟨_,by rw[show DL 46 s=_ from ht,hg,List.nil_append],by rw[←AL];simp[AL];omega,?_⟩
 generalize hr:(⟨(32::([61,32]++p.2.txt.data.toList)).toArray⟩:ByteArray)=r
 have hrl:r.data.toList=[32,61,32]++p.2.txt.data.toList:=by rw[←hr];simp
 have h1:3≤r.size:=by rw[←AL,hrl];simp
 have h2:r.extract 0 3=JZ:=KX hrl rfl
 have h3:r.extract 3 r.size=p.2.txt:=O5 (by rw[OX (e:=3) (l:=p.2.txt.data.toList) (by rw[hrl];rfl)])
 unfold H3
 rw[if_pos ⟨h1,h2⟩,h3]
 exact U4 h.right (by omega)
theorem q8 (s : ByteArray) (hs : s.size ≤ 4000) {p : List V × V} (h : FX s = some p) : AC Tryz.prog 46 [.c (.str s)] (teL o o1 o2) (.tup [plA p.1 p.2, .c (.bool true)]) (teL o o1 o2) := by
  have hfo := (Gq hs).1 h
  obtain ⟨r0, hR, hr0, hd0⟩ := o8 hs hfo
  obtain ⟨R, hR0⟩ : ∃ R, R = some (p.1, r0) := ⟨_, rfl⟩
  rw [← hR0] at hR
  have htr : AC Tryz.prog 86 [.c (.str s), .c (.str ⟨#[46]⟩)] [] (.c (.str (DL 46 s))) [] := J2 s 46
  have hts := IT 46 s
  have hv0 : pvA [] = .nils := rfl
  have hm0 : pvM [] = [] := rfl
  have h00 : ((0 : Int) != 0) = false := rfl
  have z1 : GR 0 (some (AV.c (C.int IntKind.i64 1))) = some 1 := rfl
  refine A6 Tryz.func46 Tryz.ntmps46 ?_
  refine A0 trivial ?_
  refine w7 (A3 [] htr) trivial ?_
  refine A0 trivial ?_
  refine AG (κ := Nat × List V × ByteArray) (fun x => ⟨mkS 0 80 [(0, .c (.str s)), (2, .ptr (2, 0) 0), (4, .ptr (4, 0) 0), (5, .c (.str x.2.2))],
      [((2, 0), .box [.nils, .c (.int .i64 0), .c (.int .i64 0), .c (.str ByteArray.empty), .nils, .nils]), ((8, 0), .blk (Kb o) []), ((8, 1), .gen (Cf o1 o2)), ((4, 0), .box [pvA x.2.1, .c (.int .i64 0), .c (.int .i64 0), .c (.str ByteArray.empty), .nils, .nils])] ++ pvM x.2.1⟩)
    (fun x => x.2.2.size < x.1 ∧ x.2.2.size + x.2.1.length ≤ s.size ∧ (∀ k ∈ x.2.1, FV k) ∧ ES x.1 x.2.2 x.2.1 = R) (fun x => x.2.2.size) (s.size + 1, [], DL 46 s) ⟨by dsimp only; omega, by dsimp only; rw [List.length_nil]; omega, by simp, hR⟩ ?_ ?_
  · (apply (As.of [((2, 0), (2, 0)), ((8, 0), (8, 0)), ((8, 1), (8, 1)), ((4, 0), (4, 0))] []); (iterate 2 ((focus (simp only [go_sem, Nat.reduceEqDiff, Nat.reduceAdd, Nat.reduceSub, Nat.reduceLeDiff, Nat.reduceMul, Nat.reduceBEq, Nat.reduceLT, Int.reduceToNat, reduceCtorEq, hv0, hm0, List.append_nil]; try (and_intros <;> rfl))); (focus exact rfl))); (iterate 4 (focus (simp [go_sem, hv0, hm0, List.append_nil]; done))))
  · rintro ⟨n, acc, rest⟩ ⟨hn, hlen, hkeys, hgo⟩
    dsimp only at hn hlen hkeys hgo ⊢
    obtain ⟨n, rfl⟩ : ∃ m, n = m + 1 := ⟨n - 1, by omega⟩
    have hhp := ZW rest
    unfold ES at hgo
    cases h91 : (bAt rest 0 == 91) with
    | true =>
      rw [h91] at hhp
      rw [if_pos (by simpa using h91)] at hgo
      have c1 : 1 ≤ rest.size := by
        have := CP (s := rest) (i := 0) (by have : bAt rest 0 = 91 := (by simpa using h91); omega)
        omega
      have hes := E2 (s := rest) (a := 1) (e := rest.size) (Nat.le_refl _)
      generalize hE : rest.extract 1 rest.size = E at *
      cases hh : BG E with
      | none =>
        rw [hh] at hgo
        dsimp only at hgo
        rw [← hgo] at hR0
        cases hR0
      | some q =>
        obtain ⟨v, r⟩ := q
        rw [hh] at hgo
        dsimp only at hgo
        have hr1 := BU (o1 := o1) (o2 := o2) E (by omega) hh
        obtain ⟨_, _, hvr, _, _, hrs⟩ := CI hh
        have hval := Pl v.enc (Df hvr) (t := v) (by rw [J9 hvr])
        by_cases hk : v.kind = 4 ∨ v.kind = 3
        · rw [if_pos hk] at hgo
          have htr2 : AC Tryz.prog 86 [.c (.str r), .c (.str ⟨#[93]⟩)] [] (.c (.str (DL 93 r))) [] := J2 r 93
          have hts2 := IT 93 r
          have hol : acc.length + 1 ≤ 1000000 := by omega
          have hva : pvA (acc ++ [v]) = .own (99, 1) := Fl (by simp)
          have hma := Fu (acc := acc ++ [v]) (by simp)
          have hla : (acc ++ [v]).length = acc.length + 1 := by simp
          have hrow : (acc ++ [v]).map V.cs = acc.map V.cs ++ [[.int .i64 v.kind, .int .i64 v.num, .str v.text, .sl (v.keys.map Ab), .sl (v.kids.map V.cs)]] := by rw [List.map_append, List.map_cons, List.map_nil, V.cs_eq]
          rw [hrow] at hma
          have hkeys2 : ∀ k ∈ acc ++ [v], FV k := fun y hy => by
            rcases List.mem_append.1 hy with hy | hy
            · exact hkeys y hy
            · rw [List.mem_singleton.1 hy]; exact m9 hvr hk
          generalize DL 93 r = r' at *
          obtain ⟨acc', hacc⟩ : ∃ a, a = acc ++ [v] := ⟨_, rfl⟩
          rw [← hacc] at hva hma hla hgo hkeys2
          have hks : ((v.kind != 4) = false ∧ True) ∨ ((v.kind != 4) = true ∧ (v.kind != 3) = false) := by
            rcases hk with h4 | h3
            · exact .inl ⟨by simp [h4], trivial⟩
            · exact .inr ⟨by simp [h3], by simp [h3]⟩
          rcases Classical.em (acc = []) with he | hne
          · subst he
            simp only [hv0, hm0, List.append_nil]
            simp only [List.map_nil, List.nil_append] at hma
            rcases hks with ⟨hb4, hb3⟩ | ⟨hb4, hb3⟩
            all_goals
              refine A0 trivial ?_
              refine w7 (A3 [] hhp) trivial ?_
              refine A0 (j3 z1 c1 hE) ?_
              refine Ah (A4 [((8, 1), (8, 1))] [((0, 0), (21, 0)), ((8, 1), (8, 1))] hr1) trivial ?_
              refine A0 trivial ?_
              refine w9 (Aa [(21, 0)] hval) trivial ?_
              refine A0 (j3 h00 hb4 hb3) ?_
              refine w7 (A3 [] htr2) trivial ?_
              refine A0 trivial ?_
              refine ⟨(n, acc', r'), by dsimp only; omega, ⟨by dsimp only; omega, by dsimp only; omega, hkeys2, hgo⟩, ?_⟩
              simp only [hva, hma, List.cons_append, List.nil_append]
              exact Aq (As.of [((2, 0), (2, 0)), ((8, 0), (8, 0)), ((8, 1), (8, 1)), ((4, 0), (4, 0)), ((99, 1), (46, 0))] []) h00
          · simp only [Fl hne, Fu hne, List.cons_append, List.nil_append]
            rcases hks with ⟨hb4, hb3⟩ | ⟨hb4, hb3⟩
            all_goals
              refine A0 trivial ?_
              refine w7 (A3 [] hhp) trivial ?_
              refine A0 (j3 z1 c1 hE) ?_
              refine Ah (A4 [((8, 1), (8, 1))] [((0, 0), (21, 0)), ((8, 1), (8, 1))] hr1) trivial ?_
              refine A0 trivial ?_
              refine w9 (Aa [(21, 0)] hval) trivial ?_
              refine A0 (j4 h00 hb4 hb3 hol) ?_
              refine w7 (A3 [] htr2) trivial ?_
              refine A0 trivial ?_
              refine ⟨(n, acc', r'), by dsimp only; omega, ⟨by dsimp only; omega, by dsimp only; omega, hkeys2, hgo⟩, ?_⟩
              simp only [hva, hma, List.cons_append, List.nil_append]
              exact Aq (As.of [((2, 0), (2, 0)), ((8, 0), (8, 0)), ((8, 1), (8, 1)), ((4, 0), (4, 0)), ((99, 1), (46, 0))] []) h00
        · rw [if_neg hk] at hgo
          rw [← hgo] at hR0
          cases hR0
    | false =>
      rw [h91] at hhp
      rw [if_neg (by simpa using h91)] at hgo
      have hteq := b9 rest
      have htes := R5 rest
      have harr := Vf acc
      have hfa := Nq (s7 hkeys) (by have := (EH hkeys).1; simp only [DB, V.count]; omega)
      rw [hR0] at hgo
      injection hgo with hgo
      obtain ⟨rfl, rfl⟩ := Prod.mk.inj hgo
      have hde := ZQ (o1 := o1) (o2 := o2) _ hd0
      have hil := L6 p.2
      have hleaf := hfo.leaf
      have hf0 : ((dec (DB p.1).enc).1 == 0) = true := by rw [(Lx hkeys).2 hfo.len]; rfl
      have hvr := hfo.right
      have hne2 : ((AW p.1 ++ ⟨#[32, 61, 32]⟩ ++ p.2.txt).toList == s.toList) = true := H4 hfo.text
      rw [hleaf] at hil
      clear hfo hd0 h hR0 hR hr0 hgo
      generalize p.1 = acc at *
      generalize p.2 = v at *
      have hpr : ∀ k ∈ acc, k.right := fun k hk => (hkeys k hk).1
      have hp199 := (Lx hkeys).1 (by simpa using hf0)
      have hps := Ee hpr acc.length (Nat.le_refl _)
      rw [List.take_length] at hps
      have hvs := En hvr
      have hpt := Hi (o := o) hpr (by omega)
      have hen := QM (o := o) hvr
      have e3 : (⟨#[32, 61, 32]⟩ : ByteArray).size = 3 := rfl
      have x1 : (AW acc).size + 3 ≤ 9223372036854775807 := by omega
      have x2 : (AW acc ++ ⟨#[32, 61, 32]⟩).size + v.txt.size ≤ 9223372036854775807 := by rw [ByteArray.size_append, e3]; omega
      unfold plA
      generalize (dec (DB acc).enc).1 = kf at *
      generalize hu1 : AW acc ++ ⟨#[32, 61, 32]⟩ = u1 at *
      generalize hu2 : u1 ++ v.txt = u2 at *
      rcases Classical.em (acc = []) with he | hne
      · subst he
        simp only [hv0, hm0, List.append_nil]
        refine A0 trivial ?_
        refine w7 (A3 [] hhp) trivial ?_
        refine A0 trivial ?_
        refine w7 (A3 [] hteq) trivial ?_
        refine A0 trivial ?_
        refine Jj (Dr [] [((8, 1), (8, 1))] [((8, 1), (8, 1))] hde) trivial ?_
        refine A0 trivial ?_
        refine w7 (A3 [] hil) trivial ?_
        refine A0 hleaf ?_
        refine w9 (Aa [] harr) @List.map_nil.{0,0} ?_
        refine A0 trivial ?_
        refine w7 (A3 [] hfa) @List.map_nil.{0,0} ?_
        refine A0 hf0 ?_
        refine w10 (EB FM FI (8, 0) [] hpt) @List.map_nil.{0,0} ?_
        refine A0 (j2 x1 hu1) ?_
        refine w10 (EB FM FI (8, 0) [] hen) trivial ?_
        refine A0 (j3 x2 hu2 hne2) ?_
        exact A9 (A8 [((8, 0), (8, 0)), ((8, 1), (8, 1))] []) Tryz.results46 (j2 hf0 @List.map_nil.{0,0})
      · simp only [Fl hne, Fu hne, List.cons_append, List.nil_append]
        refine A0 trivial ?_
        refine w7 (A3 [] hhp) trivial ?_
        refine A0 trivial ?_
        refine w7 (A3 [] hteq) trivial ?_
        refine A0 trivial ?_
        refine Jj (Dr [] [((8, 1), (8, 1))] [((8, 1), (8, 1))] hde) trivial ?_
        refine A0 trivial ?_
        refine w7 (A3 [] hil) trivial ?_
        refine A0 hleaf ?_
        refine w9 (Aa [(99, 1)] harr) trivial ?_
        refine A0 trivial ?_
        refine w7 (A3 [] hfa) trivial ?_
        refine A0 hf0 ?_
        refine w10 (EB FM FI (8, 0) [(99, 1)] hpt) trivial ?_
        refine A0 (j2 x1 hu1) ?_
        refine w10 (EB FM FI (8, 0) [] hen) trivial ?_
        refine A0 (j3 x2 hu2 hne2) ?_
        exact A9 (A8 [((8, 0), (8, 0)), ((8, 1), (8, 1))] [(99, 1)]) Tryz.results46 hf0
theorem q7 (s : ByteArray) (hs : s.size ≤ 4000) (h : FX s = none) : AC Tryz.prog 46 [.c (.str s)] (teL o o1 o2) (.tup [ZU (ES (s.size + 1) (DL 46 s) []), .c (.bool false)]) (teL o o1 o2) := by
  have hfo := Xj hs h
  obtain ⟨R, hR⟩ : ∃ R, ES (s.size + 1) (DL 46 s) [] = R := ⟨_, rfl⟩
  rw [hR]
  have htr : AC Tryz.prog 86 [.c (.str s), .c (.str ⟨#[46]⟩)] [] (.c (.str (DL 46 s))) [] := J2 s 46
  have hts := IT 46 s
  have hv0 : pvA [] = .nils := rfl
  have hm0 : pvM [] = [] := rfl
  have h00 : ((0 : Int) != 0) = false := rfl
  have z1 : GR 0 (some (AV.c (C.int IntKind.i64 1))) = some 1 := rfl
  refine A6 Tryz.func46 Tryz.ntmps46 ?_
  refine A0 trivial ?_
  refine w7 (A3 [] htr) trivial ?_
  refine A0 trivial ?_
  refine AG (κ := Nat × List V × ByteArray) (fun x => ⟨mkS 0 80 [(0, .c (.str s)), (2, .ptr (2, 0) 0), (4, .ptr (4, 0) 0), (5, .c (.str x.2.2))],
      [((2, 0), .box [.nils, .c (.int .i64 0), .c (.int .i64 0), .c (.str ByteArray.empty), .nils, .nils]), ((8, 0), .blk (Kb o) []), ((8, 1), .gen (Cf o1 o2)), ((4, 0), .box [pvA x.2.1, .c (.int .i64 0), .c (.int .i64 0), .c (.str ByteArray.empty), .nils, .nils])] ++ pvM x.2.1⟩)
    (fun x => x.2.2.size < x.1 ∧ x.2.2.size + x.2.1.length ≤ s.size ∧ (∀ k ∈ x.2.1, FV k) ∧ ES x.1 x.2.2 x.2.1 = R) (fun x => x.2.2.size) (s.size + 1, [], DL 46 s) ⟨by dsimp only; omega, by dsimp only; rw [List.length_nil]; omega, by simp, hR⟩ ?_ ?_
  · (apply (As.of [((2, 0), (2, 0)), ((8, 0), (8, 0)), ((8, 1), (8, 1)), ((4, 0), (4, 0))] []); (iterate 2 ((focus (simp only [go_sem, Nat.reduceEqDiff, Nat.reduceAdd, Nat.reduceSub, Nat.reduceLeDiff, Nat.reduceMul, Nat.reduceBEq, Nat.reduceLT, Int.reduceToNat, reduceCtorEq, hv0, hm0, List.append_nil]; try (and_intros <;> rfl))); (focus exact rfl))); (iterate 4 (focus (simp [go_sem, hv0, hm0, List.append_nil]; done))))
  · rintro ⟨n, acc, rest⟩ ⟨hn, hlen, hkeys, hgo⟩
    dsimp only at hn hlen hkeys hgo ⊢
    obtain ⟨n, rfl⟩ : ∃ m, n = m + 1 := ⟨n - 1, by omega⟩
    have hhp := ZW rest
    unfold ES at hgo
    cases h91 : (bAt rest 0 == 91) with
    | true =>
      rw [h91] at hhp
      rw [if_pos (by simpa using h91)] at hgo
      have c1 : 1 ≤ rest.size := by
        have := CP (s := rest) (i := 0) (by have : bAt rest 0 = 91 := (by simpa using h91); omega)
        omega
      have hes := E2 (s := rest) (a := 1) (e := rest.size) (Nat.le_refl _)
      generalize hE : rest.extract 1 rest.size = E at *
      cases hh : BG E with
      | none =>
        rw [hh] at hgo
        dsimp only at hgo
        obtain ⟨cn, hcn, hdn⟩ := a2l
        have hr1 := Ds (o1 := o1) (o2 := o2) E (by omega) hh
        have hval : AC Tryz.prog 56 [.c (.sl [])] [] (.tup [noV, .c (.int .i64 (dec []).1)]) [] := Uu [] (fun c hc => by cases hc) (by rw [hdn])
        rw [hdn] at hval
        have hb : (cn != 0) = true := by simpa using hcn
        subst hgo
        rw [show ZU none = _ from x7]
        rcases Classical.em (acc = []) with rfl | hne
        · simp only [hv0, hm0, List.append_nil]
          refine A0 trivial ?_
          refine w7 (A3 [] hhp) trivial ?_
          refine A0 (j3 z1 c1 hE) ?_
          refine Ah (A4 [((8, 1), (8, 1))] [((8, 1), (8, 1))] hr1) trivial ?_
          refine A0 trivial ?_
          refine w9 (Aa [] hval) V7 ?_
          refine A0 (j2 hb V7) ?_
          exact A9 (A8 [((8, 0), (8, 0)), ((8, 1), (8, 1))] []) Tryz.results46 hb
        · simp only [Fl hne, Fu hne, List.cons_append, List.nil_append]
          refine A0 trivial ?_
          refine w7 (A3 [] hhp) trivial ?_
          refine A0 (j3 z1 c1 hE) ?_
          refine Ah (A4 [((8, 1), (8, 1))] [((8, 1), (8, 1))] hr1) trivial ?_
          refine A0 trivial ?_
          refine w9 (Aa [] hval) V7 ?_
          refine A0 (j2 hb V7) ?_
          exact A9 (A8 [((8, 0), (8, 0)), ((8, 1), (8, 1))] []) Tryz.results46 hb
      | some q =>
        obtain ⟨v, r⟩ := q
        rw [hh] at hgo
        dsimp only at hgo
        have hr1 := BU (o1 := o1) (o2 := o2) E (by omega) hh
        obtain ⟨_, _, hvr, _, _, hrs⟩ := CI hh
        have hval := Pl v.enc (Df hvr) (t := v) (by rw [J9 hvr])
        by_cases hk : v.kind = 4 ∨ v.kind = 3
        · rw [if_pos hk] at hgo
          have htr2 : AC Tryz.prog 86 [.c (.str r), .c (.str ⟨#[93]⟩)] [] (.c (.str (DL 93 r))) [] := J2 r 93
          have hts2 := IT 93 r
          have hol : acc.length + 1 ≤ 1000000 := by omega
          have hva : pvA (acc ++ [v]) = .own (99, 1) := Fl (by simp)
          have hma := Fu (acc := acc ++ [v]) (by simp)
          have hla : (acc ++ [v]).length = acc.length + 1 := by simp
          have hrow : (acc ++ [v]).map V.cs = acc.map V.cs ++ [[.int .i64 v.kind, .int .i64 v.num, .str v.text, .sl (v.keys.map Ab), .sl (v.kids.map V.cs)]] := by rw [List.map_append, List.map_cons, List.map_nil, V.cs_eq]
          rw [hrow] at hma
          have hkeys2 : ∀ k ∈ acc ++ [v], FV k := fun y hy => by
            rcases List.mem_append.1 hy with hy | hy
            · exact hkeys y hy
            · rw [List.mem_singleton.1 hy]; exact m9 hvr hk
          generalize DL 93 r = r' at *
          obtain ⟨acc', hacc⟩ : ∃ a, a = acc ++ [v] := ⟨_, rfl⟩
          rw [← hacc] at hva hma hla hgo hkeys2
          have hks : ((v.kind != 4) = false ∧ True) ∨ ((v.kind != 4) = true ∧ (v.kind != 3) = false) := by
            rcases hk with h4 | h3
            · exact .inl ⟨by simp [h4], trivial⟩
            · exact .inr ⟨by simp [h3], by simp [h3]⟩
          rcases Classical.em (acc = []) with he | hne
          · subst he
            simp only [hv0, hm0, List.append_nil]
            simp only [List.map_nil, List.nil_append] at hma
            rcases hks with ⟨hb4, hb3⟩ | ⟨hb4, hb3⟩
            all_goals
              refine A0 trivial ?_
              refine w7 (A3 [] hhp) trivial ?_
              refine A0 (j3 z1 c1 hE) ?_
              refine Ah (A4 [((8, 1), (8, 1))] [((0, 0), (21, 0)), ((8, 1), (8, 1))] hr1) trivial ?_
              refine A0 trivial ?_
              refine w9 (Aa [(21, 0)] hval) trivial ?_
              refine A0 (j3 h00 hb4 hb3) ?_
              refine w7 (A3 [] htr2) trivial ?_
              refine A0 trivial ?_
              refine ⟨(n, acc', r'), by dsimp only; omega, ⟨by dsimp only; omega, by dsimp only; omega, hkeys2, hgo⟩, ?_⟩
              simp only [hva, hma, List.cons_append, List.nil_append]
              exact Aq (As.of [((2, 0), (2, 0)), ((8, 0), (8, 0)), ((8, 1), (8, 1)), ((4, 0), (4, 0)), ((99, 1), (46, 0))] []) h00
          · simp only [Fl hne, Fu hne, List.cons_append, List.nil_append]
            rcases hks with ⟨hb4, hb3⟩ | ⟨hb4, hb3⟩
            all_goals
              refine A0 trivial ?_
              refine w7 (A3 [] hhp) trivial ?_
              refine A0 (j3 z1 c1 hE) ?_
              refine Ah (A4 [((8, 1), (8, 1))] [((0, 0), (21, 0)), ((8, 1), (8, 1))] hr1) trivial ?_
              refine A0 trivial ?_
              refine w9 (Aa [(21, 0)] hval) trivial ?_
              refine A0 (j4 h00 hb4 hb3 hol) ?_
              refine w7 (A3 [] htr2) trivial ?_
              refine A0 trivial ?_
              refine ⟨(n, acc', r'), by dsimp only; omega, ⟨by dsimp only; omega, by dsimp only; omega, hkeys2, hgo⟩, ?_⟩
              simp only [hva, hma, List.cons_append, List.nil_append]
              exact Aq (As.of [((2, 0), (2, 0)), ((8, 0), (8, 0)), ((8, 1), (8, 1)), ((4, 0), (4, 0)), ((99, 1), (46, 0))] []) h00
        · rw [if_neg hk] at hgo
          subst hgo
          rw [show ZU none = _ from x7]
          have hb4 : (v.kind != 4) = true := by simp; omega
          have hb3 : (v.kind != 3) = true := by simp; omega
          rcases Classical.em (acc = []) with rfl | hne
          · simp only [hv0, hm0, List.append_nil]
            refine A0 trivial ?_
            refine w7 (A3 [] hhp) trivial ?_
            refine A0 (j3 z1 c1 hE) ?_
            refine Ah (A4 [((8, 1), (8, 1))] [((0, 0), (21, 0)), ((8, 1), (8, 1))] hr1) trivial ?_
            refine A0 trivial ?_
            refine w9 (Aa [(21, 0)] hval) trivial ?_
            refine A0 (j3 h00 hb4 hb3) ?_
            exact A9 (A8 [((8, 0), (8, 0)), ((8, 1), (8, 1))] []) Tryz.results46 hb4
          · simp only [Fl hne, Fu hne, List.cons_append, List.nil_append]
            refine A0 trivial ?_
            refine w7 (A3 [] hhp) trivial ?_
            refine A0 (j3 z1 c1 hE) ?_
            refine Ah (A4 [((8, 1), (8, 1))] [((0, 0), (21, 0)), ((8, 1), (8, 1))] hr1) trivial ?_
            refine A0 trivial ?_
            refine w9 (Aa [(21, 0)] hval) trivial ?_
            refine A0 (j3 h00 hb4 hb3) ?_
            exact A9 (A8 [((8, 0), (8, 0)), ((8, 1), (8, 1))] []) Tryz.results46 hb4
    | false =>
      rw [h91] at hhp
      rw [if_neg (by simpa using h91)] at hgo
      have hteq := b9 rest
      have htes := R5 rest
      have harr := Vf acc
      have hfa := Nq (s7 hkeys) (by have := (EH hkeys).1; simp only [DB, V.count]; omega)
      cases hD : SB (H3 rest) with
      | mk c y =>
        cases y with
        | some v =>
          have hde := ZQ (o1 := o1) (o2 := o2) _ hD
          have hvr := (z7 hD).2.1
          have hlv : M4 rest = v := by unfold M4; rw [hD]
          subst hgo
          rw [show ZU (some (acc, rest)) = plA acc (M4 rest) from rfl, hlv]
          unfold plA
          have hil := L6 v
          cases hleaf : v.kids.isEmpty with
          | false =>
            rw [hleaf] at hil
            rcases Classical.em (acc = []) with he | hne
            · subst he
              simp only [hv0, hm0, List.append_nil]
              refine A0 trivial ?_
              refine w7 (A3 [] hhp) trivial ?_
              refine A0 trivial ?_
              refine w7 (A3 [] hteq) trivial ?_
              refine A0 trivial ?_
              refine Jj (Dr [] [((8, 1), (8, 1))] [((8, 1), (8, 1))] hde) trivial ?_
              refine A0 trivial ?_
              refine w7 (A3 [] hil) trivial ?_
              refine A0 hleaf ?_
              exact A9 (A8 [((8, 0), (8, 0)), ((8, 1), (8, 1))] []) Tryz.results46 (j2 hleaf @List.map_nil.{0,0})
            · simp only [Fl hne, Fu hne, List.cons_append, List.nil_append]
              refine A0 trivial ?_
              refine w7 (A3 [] hhp) trivial ?_
              refine A0 trivial ?_
              refine w7 (A3 [] hteq) trivial ?_
              refine A0 trivial ?_
              refine Jj (Dr [] [((8, 1), (8, 1))] [((8, 1), (8, 1))] hde) trivial ?_
              refine A0 trivial ?_
              refine w7 (A3 [] hil) trivial ?_
              refine A0 hleaf ?_
              exact A9 (A8 [((8, 0), (8, 0)), ((8, 1), (8, 1))] [(99, 1)]) Tryz.results46 hleaf
          | true =>
            rw [hleaf] at hil
            cases hf0 : ((dec (DB acc).enc).1 == 0) with
            | false =>
              generalize (dec (DB acc).enc).1 = kf at *
              rcases Classical.em (acc = []) with he | hne
              · subst he
                simp only [hv0, hm0, List.append_nil]
                refine A0 trivial ?_
                refine w7 (A3 [] hhp) trivial ?_
                refine A0 trivial ?_
                refine w7 (A3 [] hteq) trivial ?_
                refine A0 trivial ?_
                refine Jj (Dr [] [((8, 1), (8, 1))] [((8, 1), (8, 1))] hde) trivial ?_
                refine A0 trivial ?_
                refine w7 (A3 [] hil) trivial ?_
                refine A0 hleaf ?_
                refine w9 (Aa [] harr) @List.map_nil.{0,0} ?_
                refine A0 trivial ?_
                refine w7 (A3 [] hfa) @List.map_nil.{0,0} ?_
                refine A0 hf0 ?_
                exact A9 (A8 [((8, 0), (8, 0)), ((8, 1), (8, 1))] []) Tryz.results46 (j2 hf0 @List.map_nil.{0,0})
              · simp only [Fl hne, Fu hne, List.cons_append, List.nil_append]
                refine A0 trivial ?_
                refine w7 (A3 [] hhp) trivial ?_
                refine A0 trivial ?_
                refine w7 (A3 [] hteq) trivial ?_
                refine A0 trivial ?_
                refine Jj (Dr [] [((8, 1), (8, 1))] [((8, 1), (8, 1))] hde) trivial ?_
                refine A0 trivial ?_
                refine w7 (A3 [] hil) trivial ?_
                refine A0 hleaf ?_
                refine w9 (Aa [(99, 1)] harr) trivial ?_
                refine A0 trivial ?_
                refine w7 (A3 [] hfa) trivial ?_
                refine A0 hf0 ?_
                exact A9 (A8 [((8, 0), (8, 0)), ((8, 1), (8, 1))] [(99, 1)]) Tryz.results46 hf0
            | true =>
              have hpr : ∀ k ∈ acc, k.right := fun k hk => (hkeys k hk).1
              have hp199 := (Lx hkeys).1 (by simpa using hf0)
              have hps := Ee hpr acc.length (Nat.le_refl _)
              rw [List.take_length] at hps
              have hvs := En hvr
              have hpt := Hi (o := o) hpr (by omega)
              have hen := QM (o := o) hvr
              have e3 : (⟨#[32, 61, 32]⟩ : ByteArray).size = 3 := rfl
              have x1 : (AW acc).size + 3 ≤ 9223372036854775807 := by omega
              have x2 : (AW acc ++ ⟨#[32, 61, 32]⟩).size + v.txt.size ≤ 9223372036854775807 := by rw [ByteArray.size_append, e3]; omega
              have hne2 : ((AW acc ++ ⟨#[32, 61, 32]⟩ ++ v.txt).toList == s.toList) = false := J1 fun e => hfo (acc, v) ⟨hleaf, hkeys, hp199, hvr, e⟩
              generalize (dec (DB acc).enc).1 = kf at *
              generalize hu1 : AW acc ++ ⟨#[32, 61, 32]⟩ = u1 at *
              generalize v.txt = tx at *
              generalize hu2 : u1 ++ tx = u2 at *
              rcases Classical.em (acc = []) with he | hne
              · subst he
                simp only [hv0, hm0, List.append_nil]
                refine A0 trivial ?_
                refine w7 (A3 [] hhp) trivial ?_
                refine A0 trivial ?_
                refine w7 (A3 [] hteq) trivial ?_
                refine A0 trivial ?_
                refine Jj (Dr [] [((8, 1), (8, 1))] [((8, 1), (8, 1))] hde) trivial ?_
                refine A0 trivial ?_
                refine w7 (A3 [] hil) trivial ?_
                refine A0 hleaf ?_
                refine w9 (Aa [] harr) @List.map_nil.{0,0} ?_
                refine A0 trivial ?_
                refine w7 (A3 [] hfa) @List.map_nil.{0,0} ?_
                refine A0 hf0 ?_
                refine w10 (EB FM FI (8, 0) [] hpt) @List.map_nil.{0,0} ?_
                refine A0 (j2 x1 hu1) ?_
                refine w10 (EB FM FI (8, 0) [] hen) trivial ?_
                refine A0 (j3 x2 hu2 hne2) ?_
                exact A9 (A8 [((8, 0), (8, 0)), ((8, 1), (8, 1))] []) Tryz.results46 (j2 hf0 @List.map_nil.{0,0})
              · simp only [Fl hne, Fu hne, List.cons_append, List.nil_append]
                refine A0 trivial ?_
                refine w7 (A3 [] hhp) trivial ?_
                refine A0 trivial ?_
                refine w7 (A3 [] hteq) trivial ?_
                refine A0 trivial ?_
                refine Jj (Dr [] [((8, 1), (8, 1))] [((8, 1), (8, 1))] hde) trivial ?_
                refine A0 trivial ?_
                refine w7 (A3 [] hil) trivial ?_
                refine A0 hleaf ?_
                refine w9 (Aa [(99, 1)] harr) trivial ?_
                refine A0 trivial ?_
                refine w7 (A3 [] hfa) trivial ?_
                refine A0 hf0 ?_
                refine w10 (EB FM FI (8, 0) [(99, 1)] hpt) trivial ?_
                refine A0 (j2 x1 hu1) ?_
                refine w10 (EB FM FI (8, 0) [] hen) trivial ?_
                refine A0 (j3 x2 hu2 hne2) ?_
                exact A9 (A8 [((8, 0), (8, 0)), ((8, 1), (8, 1))] [(99, 1)]) Tryz.results46 hf0
        | none =>
          have hde := z8 (o1 := o1) (o2 := o2) (H3 rest) (by omega) hD
          obtain ⟨v, hnull⟩ : ∃ v, v = P5 := ⟨_, rfl⟩
          have hlv : M4 rest = P5 := by unfold M4; rw [hD]
          subst hgo
          rw [show ZU (some (acc, rest)) = plA acc (M4 rest) from rfl, hlv, a2c]
          have hvr : v.right := by rw [hnull]; exact D9
          have hil := L6 v
          cases hleaf : v.kids.isEmpty with
          | false =>
            rw [hleaf] at hil
            have hvv : v = P5 := hnull
            rw [hvv, Vu] at hil
            rcases Classical.em (acc = []) with he | hne
            · subst he
              simp only [hv0, hm0, List.append_nil]
              refine A0 trivial ?_
              refine w7 (A3 [] hhp) trivial ?_
              refine A0 trivial ?_
              refine w7 (A3 [] hteq) trivial ?_
              refine A0 trivial ?_
              refine Ah (A4 [((8, 1), (8, 1))] [((8, 1), (8, 1))] hde) V7 ?_
              refine A0 V7 ?_
              refine w7 (A3 [] hil) trivial ?_
              refine A0 hleaf ?_
              exact A9 (A8 [((8, 0), (8, 0)), ((8, 1), (8, 1))] []) Tryz.results46 (j2 hleaf @List.map_nil.{0,0})
            · simp only [Fl hne, Fu hne, List.cons_append, List.nil_append]
              refine A0 trivial ?_
              refine w7 (A3 [] hhp) trivial ?_
              refine A0 trivial ?_
              refine w7 (A3 [] hteq) trivial ?_
              refine A0 trivial ?_
              refine Ah (A4 [((8, 1), (8, 1))] [((8, 1), (8, 1))] hde) V7 ?_
              refine A0 V7 ?_
              refine w7 (A3 [] hil) trivial ?_
              refine A0 hleaf ?_
              exact A9 (A8 [((8, 0), (8, 0)), ((8, 1), (8, 1))] [(99, 1)]) Tryz.results46 hleaf
          | true =>
            rw [hleaf] at hil
            cases hf0 : ((dec (DB acc).enc).1 == 0) with
            | false =>
              generalize (dec (DB acc).enc).1 = kf at *
              have hvv : v = P5 := hnull
              rw [hvv, Vu] at hil
              rcases Classical.em (acc = []) with he | hne
              · subst he
                simp only [hv0, hm0, List.append_nil]
                refine A0 trivial ?_
                refine w7 (A3 [] hhp) trivial ?_
                refine A0 trivial ?_
                refine w7 (A3 [] hteq) trivial ?_
                refine A0 trivial ?_
                refine Ah (A4 [((8, 1), (8, 1))] [((8, 1), (8, 1))] hde) V7 ?_
                refine A0 V7 ?_
                refine w7 (A3 [] hil) trivial ?_
                refine A0 hleaf ?_
                refine w9 (Aa [] harr) @List.map_nil.{0,0} ?_
                refine A0 trivial ?_
                refine w7 (A3 [] hfa) @List.map_nil.{0,0} ?_
                refine A0 hf0 ?_
                exact A9 (A8 [((8, 0), (8, 0)), ((8, 1), (8, 1))] []) Tryz.results46 (j2 hf0 @List.map_nil.{0,0})
              · simp only [Fl hne, Fu hne, List.cons_append, List.nil_append]
                refine A0 trivial ?_
                refine w7 (A3 [] hhp) trivial ?_
                refine A0 trivial ?_
                refine w7 (A3 [] hteq) trivial ?_
                refine A0 trivial ?_
                refine Ah (A4 [((8, 1), (8, 1))] [((8, 1), (8, 1))] hde) V7 ?_
                refine A0 V7 ?_
                refine w7 (A3 [] hil) trivial ?_
                refine A0 hleaf ?_
                refine w9 (Aa [(99, 1)] harr) trivial ?_
                refine A0 trivial ?_
                refine w7 (A3 [] hfa) trivial ?_
                refine A0 hf0 ?_
                exact A9 (A8 [((8, 0), (8, 0)), ((8, 1), (8, 1))] [(99, 1)]) Tryz.results46 hf0
            | true =>
              have hpr : ∀ k ∈ acc, k.right := fun k hk => (hkeys k hk).1
              have hp199 := (Lx hkeys).1 (by simpa using hf0)
              have hps := Ee hpr acc.length (Nat.le_refl _)
              rw [List.take_length] at hps
              have hvs := En hvr
              have hpt := Hi (o := o) hpr (by omega)
              have hen := QM (o := o) hvr
              have e3 : (⟨#[32, 61, 32]⟩ : ByteArray).size = 3 := rfl
              have x1 : (AW acc).size + 3 ≤ 9223372036854775807 := by omega
              have x2 : (AW acc ++ ⟨#[32, 61, 32]⟩).size + v.txt.size ≤ 9223372036854775807 := by rw [ByteArray.size_append, e3]; omega
              have hne2 : ((AW acc ++ ⟨#[32, 61, 32]⟩ ++ v.txt).toList == s.toList) = false := J1 fun e => hfo (acc, v) ⟨hleaf, hkeys, hp199, hvr, e⟩
              generalize (dec (DB acc).enc).1 = kf at *
              generalize hu1 : AW acc ++ ⟨#[32, 61, 32]⟩ = u1 at *
              generalize v.txt = tx at *
              generalize hu2 : u1 ++ tx = u2 at *
              have hvv : v = P5 := hnull
              rw [hvv, Vu] at hil hen
              rcases Classical.em (acc = []) with he | hne
              · subst he
                simp only [hv0, hm0, List.append_nil]
                refine A0 trivial ?_
                refine w7 (A3 [] hhp) trivial ?_
                refine A0 trivial ?_
                refine w7 (A3 [] hteq) trivial ?_
                refine A0 trivial ?_
                refine Ah (A4 [((8, 1), (8, 1))] [((8, 1), (8, 1))] hde) V7 ?_
                refine A0 V7 ?_
                refine w7 (A3 [] hil) trivial ?_
                refine A0 hleaf ?_
                refine w9 (Aa [] harr) @List.map_nil.{0,0} ?_
                refine A0 trivial ?_
                refine w7 (A3 [] hfa) @List.map_nil.{0,0} ?_
                refine A0 hf0 ?_
                refine w10 (EB FM FI (8, 0) [] hpt) @List.map_nil.{0,0} ?_
                refine A0 (j2 x1 hu1) ?_
                refine w10 (EB FM FI (8, 0) [] hen) trivial ?_
                refine A0 (j3 x2 hu2 hne2) ?_
                exact A9 (A8 [((8, 0), (8, 0)), ((8, 1), (8, 1))] []) Tryz.results46 (j2 hf0 @List.map_nil.{0,0})
              · simp only [Fl hne, Fu hne, List.cons_append, List.nil_append]
                refine A0 trivial ?_
                refine w7 (A3 [] hhp) trivial ?_
                refine A0 trivial ?_
                refine w7 (A3 [] hteq) trivial ?_
                refine A0 trivial ?_
                refine Ah (A4 [((8, 1), (8, 1))] [((8, 1), (8, 1))] hde) V7 ?_
                refine A0 V7 ?_
                refine w7 (A3 [] hil) trivial ?_
                refine A0 hleaf ?_
                refine w9 (Aa [(99, 1)] harr) trivial ?_
                refine A0 trivial ?_
                refine w7 (A3 [] hfa) trivial ?_
                refine A0 hf0 ?_
                refine w10 (EB FM FI (8, 0) [(99, 1)] hpt) trivial ?_
                refine A0 (j2 x1 hu1) ?_
                refine w10 (EB FM FI (8, 0) [] hen) trivial ?_
                refine A0 (j3 x2 hu2 hne2) ?_
                exact A9 (A8 [((8, 0), (8, 0)), ((8, 1), (8, 1))] [(99, 1)]) Tryz.results46 hf0
end Go.Proofs.YtllfmaflodbieaaGreatDoor
