/- slices.Grow at no slice, slices.Concat, at strings and at values. -/
import Derived.Test.YtcejfdfmgmcinaaGreatKG49uG9
import Derived.Lib.AppendZerosOnto
import Derived.Shelf.RegionOpenPlain
set_option linter.all false
set_option maxHeartbeats 8000000
namespace Go.Proofs.YtcejfdfmgmcinaaGreat
open Go.RowKit
set_option maxRecDepth 10000
theorem J1 (zc:Array Value) (n:Nat):(Builtin.zeroCells zc n).size=n*zc.size:=by simp[Builtin.zeroCells]
theorem Tm {w:World}{e:TypeId}{es n G:Nat}{zc:Array Value}(hz:zc.size=es) (hG:n≤G) (hm:G≤maxLen) :
  (w.drew.alloc (.cells (Builtin.zeroCells zc n++Builtin.zeroCells zc (G-n)) e)).ownsRow w.heap.size e es (.slice (some ⟨w.heap.size,0,none⟩) 0 G) 0 []:=by
 refine⟨by simp,.inr ⟨w.heap.size,G,_,rfl,Nat.le_refl _,heap_alloc_new w.drew _,Nat.zero_le _,hm,?_,by simp⟩⟩
 rw[Array.size_append,J1,J1,hz,←Nat.add_mul]
 congr 1
 omega
theorem j1 (n : Nat) (h1 : 1 ≤ n) (h : n ≤ 1000000) (w : World) : Calls Tryz.prog 336 #[.slice none 0 0, .int .i64 n] w fun e w' => ∃ G, n ≤ G ∧ G ≤ maxLen ∧ e = .returned (.slice (some ⟨w.heap.size, 0, none⟩) 0 G) ∧ w' = w.drew.alloc (.cells (Builtin.zeroCells (Value.agg #[.int .i64 0, .int .i64 0, .string ByteArray.empty, .slice none 0 0, .slice none 0 0]).cells n ++ Builtin.zeroCells (Value.agg #[.int .i64 0, .int .i64 0, .string ByteArray.empty, .slice none 0 0, .slice none 0 0]).cells (G - n)) 127) := by
  have mixed := DG
  have ii : (Tryz.prog.info? 127).map (fun i => (i.zero, i.size, i.bytes)) = some (some (Value.agg #[.int .i64 0, .int .i64 0, .string ByteArray.empty, .slice none 0 0, .slice none 0 0]), 5, 80) := by kernel_rfl
  obtain ⟨i0, hi0, hz0, hs0, hb0⟩ := info_parts ii
  have g1 : ¬ ((n : Int) < 0) := by omega
  have g3 : IntKind.i64.wrap ((n : Int) - 0) = (n : Int) := by rw [Int.sub_zero]; exact C9 (by omega) (by omega)
  have g4 : (n : Int) > 0 := by omega
  have hrz : ∀ ty, (Builtin.append_ #[114, 3] ty #[.slice none 0 0, .int .i64 n]).run Tryz.prog w =
      .ok (.slice (some ⟨w.heap.size, 0, none⟩) n (grownCap w n 0 127)) (w.drew.alloc (.cells (Builtin.zeroCells (Value.agg #[.int .i64 0, .int .i64 0, .string ByteArray.empty, .slice none 0 0, .slice none 0 0]).cells n ++ Builtin.zeroCells (Value.agg #[.int .i64 0, .int .i64 0, .string ByteArray.empty, .slice none 0 0, .slice none 0 0]).cells (grownCap w n 0 127 - n)) 127)) := fun ty => by
    have h := Lib.run_append_grow_zeros (P := Tryz.prog) w 114 3 ty 127 i0 (Value.agg #[.int .i64 0, .int .i64 0, .string ByteArray.empty, .slice none 0 0, .slice none 0 0]) .i64 .i64 Tryz.underlying114 Tryz.underlying3 hi0 hz0 none 0 0 [] (run_firstCells_none w.drew i0.size 0 0 0) n (by omega) (by omega) (by omega) (by omega) (by rw [hb0]; omega)
      (by have hng : ¬ (256 ≤ 0) := by decide
          unfold Builtin.nextslicecap
          rw [if_pos (by omega), hb0]
          omega)
    rw [Nat.zero_add] at h
    simpa using h
  have hGn : n ≤ grownCap w n 0 127 := grownCap_ge w _ _ _
  obtain ⟨G, hG⟩ : ∃ G, G = grownCap w n 0 127 := ⟨_, rfl⟩
  rw [← hG] at hrz hGn
  have hGm : G ≤ maxLen := by rw [hG]; exact grownCap_le_maxLen w n 0 127 (by unfold maxLen; omega)
  have hG63 : G ≤ 9223372036854775807 := by unfold maxLen at hGm; omega
  clear hG hi0 hz0 hs0 hb0 ii
  refine Calls.mono (R := fun e w' => e = .returned (.slice (some ⟨w.heap.size, 0, none⟩) 0 G) ∧ w' = w.drew.alloc (.cells (Builtin.zeroCells (Value.agg #[.int .i64 0, .int .i64 0, .string ByteArray.empty, .slice none 0 0, .slice none 0 0]).cells n ++ Builtin.zeroCells (Value.agg #[.int .i64 0, .int .i64 0, .string ByteArray.empty, .slice none 0 0, .slice none 0 0]).cells (G - n)) 127)) ?_ fun e w' h => ⟨G, hGn, hGm, h.1, h.2⟩
  go_enter Tryz.func336, Tryz.ntmps336
  go_wp2_with (at_builtin; refine Lib.wpList_append_run _ rfl _ _ _ _ rfl _ _ rfl rfl _ _ (hrz _) ?_)
  all_goals (go_ret; exact ⟨rfl, rfl⟩)
theorem j0 (n : Nat) (h1 : 1 ≤ n) (h : n ≤ 1000000) (w : World) : Calls Tryz.prog 337 #[.slice none 0 0, .int .i64 n] w fun e w' => ∃ G, n ≤ G ∧ G ≤ maxLen ∧ e = .returned (.slice (some ⟨w.heap.size, 0, none⟩) 0 G) ∧ w' = w.drew.alloc (.cells (Builtin.zeroCells (Value.string ByteArray.empty).cells n ++ Builtin.zeroCells (Value.string ByteArray.empty).cells (G - n)) 9) := by
  have mixed := DG
  have ii : (Tryz.prog.info? 9).map (fun i => (i.zero, i.size, i.bytes)) = some (some (Value.string ByteArray.empty), 1, 16) := by kernel_rfl
  obtain ⟨i0, hi0, hz0, hs0, hb0⟩ := info_parts ii
  have g1 : ¬ ((n : Int) < 0) := by omega
  have g3 : IntKind.i64.wrap ((n : Int) - 0) = (n : Int) := by rw [Int.sub_zero]; exact C9 (by omega) (by omega)
  have g4 : (n : Int) > 0 := by omega
  have hrz : ∀ ty, (Builtin.append_ #[125, 3] ty #[.slice none 0 0, .int .i64 n]).run Tryz.prog w =
      .ok (.slice (some ⟨w.heap.size, 0, none⟩) n (grownCap w n 0 9)) (w.drew.alloc (.cells (Builtin.zeroCells (Value.string ByteArray.empty).cells n ++ Builtin.zeroCells (Value.string ByteArray.empty).cells (grownCap w n 0 9 - n)) 9)) := fun ty => by
    have h := Lib.run_append_grow_zeros (P := Tryz.prog) w 125 3 ty 9 i0 (Value.string ByteArray.empty) .i64 .i64 Tryz.underlying125 Tryz.underlying3 hi0 hz0 none 0 0 [] (run_firstCells_none w.drew i0.size 0 0 0) n (by omega) (by omega) (by omega) (by omega) (by rw [hb0]; omega)
      (by have hng : ¬ (256 ≤ 0) := by decide
          unfold Builtin.nextslicecap
          rw [if_pos (by omega), hb0]
          omega)
    rw [Nat.zero_add] at h
    simpa using h
  have hGn : n ≤ grownCap w n 0 9 := grownCap_ge w _ _ _
  obtain ⟨G, hG⟩ : ∃ G, G = grownCap w n 0 9 := ⟨_, rfl⟩
  rw [← hG] at hrz hGn
  have hGm : G ≤ maxLen := by rw [hG]; exact grownCap_le_maxLen w n 0 9 (by unfold maxLen; omega)
  have hG63 : G ≤ 9223372036854775807 := by unfold maxLen at hGm; omega
  clear hG hi0 hz0 hs0 hb0 ii
  refine Calls.mono (R := fun e w' => e = .returned (.slice (some ⟨w.heap.size, 0, none⟩) 0 G) ∧ w' = w.drew.alloc (.cells (Builtin.zeroCells (Value.string ByteArray.empty).cells n ++ Builtin.zeroCells (Value.string ByteArray.empty).cells (G - n)) 9)) ?_ fun e w' h => ⟨G, hGn, hGm, h.1, h.2⟩
  go_enter Tryz.func337, Tryz.ntmps337
  go_wp2_with (at_builtin; refine Lib.wpList_append_run _ rfl _ _ _ _ rfl _ _ rfl rfl _ _ (hrz _) ?_)
  all_goals (go_ret; exact ⟨rfl, rfl⟩)
theorem SR (n:Nat) (h1:1≤n) (h:n≤1000000):AC Tryz.prog 336 [.nils,.c (.int .i64 n)] [] (.own (0,0)) [((0,0),.row false 5 127 [])]:=by
 refine AC.of_row rfl fun S w κ vs hv=>?_
 obtain⟨v,vs',rfl,hv1,v2,vs2,rfl,⟨rfl,_⟩,rfl⟩:=hv
 have hv1:v=.slice none 0 0:=hv1
 subst hv1
 refine (j1 n h1 h w).mono ?_
 rintro e1 w' ⟨G,g1,g2,rfl,rfl⟩
 exact⟨((Below.refl _ w).drew).alloc (Nat.le_refl _) _,_,[],rfl,⟨rfl,rfl⟩,by simp,Tm rfl g1 g2⟩
theorem Rg:AC Tryz.prog 336 [.nils,.c (.int .i64 0)] [] .nils []:=by
 have h1:decide ((0:Int)<0)=false:=rfl
 have h2:IntKind.i64.wrap ((0:Int)-0)=0:=rfl
 have h3:decide ((0:Int)>0)=false:=rfl
 refine AC.of_calls fun S w κ vs hv=>?_
 obtain⟨v,vs',rfl,hv1,v2,vs2,rfl,⟨rfl,_⟩,rfl⟩:=hv
 have hv1:v=.slice none 0 0:=hv1
 subst hv1
 have key:Calls Tryz.prog 336 #[.slice none 0 0,.int .i64 0] w fun e w'=>e=.returned (.slice none 0 0)∧w'=w:=by
  go_enter Tryz.func336,Tryz.ntmps336
  go_wp2
  go_ret
  exact⟨rfl,rfl⟩
 refine key.mono ?_
 rintro e w' ⟨rfl,rfl⟩
 exact⟨Below.refl _ _,_,rfl,fun T _ _=>rfl⟩
def Dy (l:List V):List C:=[.sl (l.map V.cs)]
theorem OQ (L:List (List V)) (hL:L.length≤1000) (hn:L.flatten.length≤900000):AC Tryz.prog 271 [.c (.sl (L.map Dy))] [] (.own (0,0)) [((0,0),.row false 5 127 (L.flatten.map V.cs))]:=by
 have hln:(L.map Dy).length=L.length:=by simp
 obtain⟨F,hF⟩:∃F:Nat→List V,∀k,F k=(L.take k).flatten:=⟨_,fun _=>rfl⟩
 have hF0:F 0=[]:=by rw[hF];rfl
 have hFn:F L.length=L.flatten:=by rw[hF,List.take_length]
 have hFs:∀k (h:k<L.length),F (k+1)=F k++L[k]:=fun k h=>by rw[hF,hF,List.take_succ_eq_append_getElem h,List.flatten_append];simp
 have hFl:∀k,(F k).length≤L.flatten.length:=fun k=>by
  have h:L.flatten=F k++(L.drop k).flatten:=by rw[hF,←List.flatten_append,List.take_append_drop]
  rw[h,List.length_append]
  omega
 have hz0:(((F 0).length:Nat):Int)=0:=by rw[hF0];rfl
 rw[←hFn]
 refine A6 Tryz.func271 Tryz.ntmps271 hln ?_
 refine Ar (κ:=Nat) (fun k=>⟨mkS 0 36 [(0,.c (.sl (L.map Dy))),(2,.nils),(3,.c (.int .i64 (F k).length)),(9,.c (.sl (L.map Dy))),(10,.c (.int .i64 L.length)),(11,.c (.int .i64 k))],[]⟩)
  (fun k=>k≤L.length) (fun k=>L.length-k) 0 (Nat.zero_le _) ?_ ?_
 ·exact Ac (Aj.of [] []) hz0
 ·intro k hk
  by_cases hlt:k<L.length
  ·have hdk:decide ((k:Int)<(L.length:Int))=true:=by simpa using hlt
   have hw:=Ad (k:=k) (by omega)
   have hr:A8 (L.map Dy) 1 k=true:=by simp[A8,hlt,Dy]
   have hg:(L.map Dy)[k]? = some [.sl (L[k].map V.cs)]:=by simp[hlt,Dy]
   have hFk:=hFs k hlt
   have hFl1:=hFl (k+1)
   have hlk:(L[k].map V.cs).length=L[k].length:=by simp
   have hws:IntKind.i64.wrap (((F k).length:Int)+(L[k].length:Int))=((F (k+1)).length:Int):=by
    rw[hFk,List.length_append]at hFl1 ⊢
    rw[C9 (by omega) (by omega),Int.natCast_add]
   have hneg:decide (((F (k+1)).length:Int)<0)=false:=by simp
   generalize L[k]=x at *
   refine Ab (j7 hdk hr hg hlk hws hneg hw) ?_
   refine⟨k+1,by omega,by omega,?_⟩
   exact Ac (Aj.of [] []) hw
  ·have hdk:decide ((k:Int)<(L.length:Int))=false:=by simpa using hlt
   have hke:k=L.length:=by omega
   subst hke
   by_cases h0:(F L.length).length=0
   ·have hFe:F L.length=[]:=List.eq_nil_of_length_eq_zero h0
    have hgr:=Rg
    have hl0:(((F L.length).length:Nat):Int)=0:=by rw[h0];rfl
    rw[hl0]
    refine Ab hdk ?_
    refine v7 (A3 [] hgr) q9 hln ?_
    refine Ar (κ:=Nat) (fun k=>⟨mkS 0 36 [(2,.nils),(6,.own (97,0)),(25,.c (.sl (L.map Dy))),(26,.c (.int .i64 L.length)),(27,.c (.int .i64 k))],[((97,0),.row false 5 127 ((F k).map V.cs))]⟩)
     (fun k=>k≤L.length) (fun k=>L.length-k) 0 (Nat.zero_le _) ?_ ?_
    ·exact Ac (Aj.of [] []) (j2 hF0 @List.map_nil.{0,0})
    ·intro k hk
     by_cases hlt:k<L.length
     ·have hdk:decide ((k:Int)<(L.length:Int))=true:=by simpa using hlt
      have hw:=Ad (k:=k) (by omega)
      have hr:A8 (L.map Dy) 1 k=true:=by simp[A8,hlt,Dy]
      have hg:(L.map Dy)[k]? = some [.sl (L[k].map V.cs)]:=by simp[hlt,Dy]
      have hFk:=hFs k hlt
      have hFl1:=hFl (k+1)
      have hall:=J6 L[k]
      have hl1:(F k).length+L[k].length≤1000000:=by rw[hFk,List.length_append]at hFl1;omega
      have e1:(F k).map V.cs++L[k].map V.cs=(F (k+1)).map V.cs:=by rw[hFk,List.map_append]
      generalize L[k]=x at *
      refine Ab (j6 hdk hr hg hall hl1 hw) ?_
      refine⟨k+1,by omega,by omega,?_⟩
      exact Ac (Aj.of [((97,0),(33,0))] []) e1
     ·have hdk:decide ((k:Int)<(L.length:Int))=false:=by simpa using hlt
      have hke:k=L.length:=by omega
      subst hke
      refine Ab hdk ?_
      exact Aa (A9 [((0,0),(97,0))] []) Tryz.results271 hdk
   ·have hFln:=hFl L.length
    have hgr:=SR (F L.length).length (by omega) (by omega)
    refine Ab hdk ?_
    refine v12 (BB [] hgr) q9 hln ?_
    refine Ar (κ:=Nat) (fun k=>⟨mkS 0 36 [(2,.nils),(6,.own (97,0)),(25,.c (.sl (L.map Dy))),(26,.c (.int .i64 L.length)),(27,.c (.int .i64 k))],[((97,0),.row false 5 127 ((F k).map V.cs))]⟩)
     (fun k=>k≤L.length) (fun k=>L.length-k) 0 (Nat.zero_le _) ?_ ?_
    ·exact Ac (Aj.of [((97,0),(24,0))] []) (j2 hF0 @List.map_nil.{0,0})
    ·intro k hk
     by_cases hlt:k<L.length
     ·have hdk:decide ((k:Int)<(L.length:Int))=true:=by simpa using hlt
      have hw:=Ad (k:=k) (by omega)
      have hr:A8 (L.map Dy) 1 k=true:=by simp[A8,hlt,Dy]
      have hg:(L.map Dy)[k]? = some [.sl (L[k].map V.cs)]:=by simp[hlt,Dy]
      have hFk:=hFs k hlt
      have hFl1:=hFl (k+1)
      have hall:=J6 L[k]
      have hl1:(F k).length+L[k].length≤1000000:=by rw[hFk,List.length_append]at hFl1;omega
      have e1:(F k).map V.cs++L[k].map V.cs=(F (k+1)).map V.cs:=by rw[hFk,List.map_append]
      generalize L[k]=x at *
      refine Ab (j6 hdk hr hg hall hl1 hw) ?_
      refine⟨k+1,by omega,by omega,?_⟩
      exact Ac (Aj.of [((97,0),(33,0))] []) e1
     ·have hdk:decide ((k:Int)<(L.length:Int))=false:=by simpa using hlt
      have hke:k=L.length:=by omega
      subst hke
      refine Ab hdk ?_
      exact Aa (A9 [((0,0),(97,0))] []) Tryz.results271 hdk
theorem SQ (n:Nat) (h1:1≤n) (h:n≤1000000):AC Tryz.prog 337 [.nils,.c (.int .i64 n)] [] (.own (0,0)) [((0,0),.row false 1 9 [])]:=by
 refine AC.of_row rfl fun S w κ vs hv=>?_
 obtain⟨v,vs',rfl,hv1,v2,vs2,rfl,⟨rfl,_⟩,rfl⟩:=hv
 have hv1:v=.slice none 0 0:=hv1
 subst hv1
 refine (j0 n h1 h w).mono ?_
 rintro e1 w' ⟨G,g1,g2,rfl,rfl⟩
 exact⟨((Below.refl _ w).drew).alloc (Nat.le_refl _) _,_,[],rfl,⟨rfl,rfl⟩,by simp,Tm rfl g1 g2⟩
theorem Rf:AC Tryz.prog 337 [.nils,.c (.int .i64 0)] [] .nils []:=by
 have h1:decide ((0:Int)<0)=false:=rfl
 have h2:IntKind.i64.wrap ((0:Int)-0)=0:=rfl
 have h3:decide ((0:Int)>0)=false:=rfl
 refine AC.of_calls fun S w κ vs hv=>?_
 obtain⟨v,vs',rfl,hv1,v2,vs2,rfl,⟨rfl,_⟩,rfl⟩:=hv
 have hv1:v=.slice none 0 0:=hv1
 subst hv1
 have key:Calls Tryz.prog 337 #[.slice none 0 0,.int .i64 0] w fun e w'=>e=.returned (.slice none 0 0)∧w'=w:=by
  go_enter Tryz.func337,Tryz.ntmps337
  go_wp2
  go_ret
  exact⟨rfl,rfl⟩
 refine key.mono ?_
 rintro e w' ⟨rfl,rfl⟩
 exact⟨Below.refl _ _,_,rfl,fun T _ _=>rfl⟩
def Dx (l:List ByteArray):List C:=[.sl (l.map Ae)]
theorem OP (L:List (List ByteArray)) (hL:L.length≤1000) (hn:L.flatten.length≤900000):AC Tryz.prog 272 [.c (.sl (L.map Dx))] [] (.own (0,0)) [((0,0),.row false 1 9 (L.flatten.map Ae))]:=by
 have hln:(L.map Dx).length=L.length:=by simp
 obtain⟨F,hF⟩:∃F:Nat→List ByteArray,∀k,F k=(L.take k).flatten:=⟨_,fun _=>rfl⟩
 have hF0:F 0=[]:=by rw[hF];rfl
 have hFn:F L.length=L.flatten:=by rw[hF,List.take_length]
 have hFs:∀k (h:k<L.length),F (k+1)=F k++L[k]:=fun k h=>by rw[hF,hF,List.take_succ_eq_append_getElem h,List.flatten_append];simp
 have hFl:∀k,(F k).length≤L.flatten.length:=fun k=>by
  have h:L.flatten=F k++(L.drop k).flatten:=by rw[hF,←List.flatten_append,List.take_append_drop]
  rw[h,List.length_append]
  omega
 have hz0:(((F 0).length:Nat):Int)=0:=by rw[hF0];rfl
 rw[←hFn]
 refine A6 Tryz.func272 Tryz.ntmps272 hln ?_
 refine Ar (κ:=Nat) (fun k=>⟨mkS 0 36 [(0,.c (.sl (L.map Dx))),(2,.nils),(3,.c (.int .i64 (F k).length)),(9,.c (.sl (L.map Dx))),(10,.c (.int .i64 L.length)),(11,.c (.int .i64 k))],[]⟩)
  (fun k=>k≤L.length) (fun k=>L.length-k) 0 (Nat.zero_le _) ?_ ?_
 ·exact Ac (Aj.of [] []) hz0
 ·intro k hk
  by_cases hlt:k<L.length
  ·have hdk:decide ((k:Int)<(L.length:Int))=true:=by simpa using hlt
   have hw:=Ad (k:=k) (by omega)
   have hr:A8 (L.map Dx) 1 k=true:=by simp[A8,hlt,Dx]
   have hg:(L.map Dx)[k]? = some [.sl (L[k].map Ae)]:=by simp[hlt,Dx]
   have hFk:=hFs k hlt
   have hFl1:=hFl (k+1)
   have hlk:(L[k].map Ae).length=L[k].length:=by simp
   have hws:IntKind.i64.wrap (((F k).length:Int)+(L[k].length:Int))=((F (k+1)).length:Int):=by
    rw[hFk,List.length_append]at hFl1 ⊢
    rw[C9 (by omega) (by omega),Int.natCast_add]
   have hneg:decide (((F (k+1)).length:Int)<0)=false:=by simp
   generalize L[k]=x at *
   refine Ab (j7 hdk hr hg hlk hws hneg hw) ?_
   refine⟨k+1,by omega,by omega,?_⟩
   exact Ac (Aj.of [] []) hw
  ·have hdk:decide ((k:Int)<(L.length:Int))=false:=by simpa using hlt
   have hke:k=L.length:=by omega
   subst hke
   by_cases h0:(F L.length).length=0
   ·have hFe:F L.length=[]:=List.eq_nil_of_length_eq_zero h0
    have hgr:=Rf
    have hl0:(((F L.length).length:Nat):Int)=0:=by rw[h0];rfl
    rw[hl0]
    refine Ab hdk ?_
    refine v7 (A3 [] hgr) q9 hln ?_
    refine Ar (κ:=Nat) (fun k=>⟨mkS 0 36 [(2,.nils),(6,.own (97,0)),(25,.c (.sl (L.map Dx))),(26,.c (.int .i64 L.length)),(27,.c (.int .i64 k))],[((97,0),.row false 1 9 ((F k).map Ae))]⟩)
     (fun k=>k≤L.length) (fun k=>L.length-k) 0 (Nat.zero_le _) ?_ ?_
    ·exact Ac (Aj.of [] []) (j2 hF0 @List.map_nil.{0,0})
    ·intro k hk
     by_cases hlt:k<L.length
     ·have hdk:decide ((k:Int)<(L.length:Int))=true:=by simpa using hlt
      have hw:=Ad (k:=k) (by omega)
      have hr:A8 (L.map Dx) 1 k=true:=by simp[A8,hlt,Dx]
      have hg:(L.map Dx)[k]? = some [.sl (L[k].map Ae)]:=by simp[hlt,Dx]
      have hFk:=hFs k hlt
      have hFl1:=hFl (k+1)
      have hall:=Fm L[k]
      have hl1:(F k).length+L[k].length≤1000000:=by rw[hFk,List.length_append]at hFl1;omega
      have e1:(F k).map Ae++L[k].map Ae=(F (k+1)).map Ae:=by rw[hFk,List.map_append]
      generalize L[k]=x at *
      refine Ab (j6 hdk hr hg hall hl1 hw) ?_
      refine⟨k+1,by omega,by omega,?_⟩
      exact Ac (Aj.of [((97,0),(33,0))] []) e1
     ·have hdk:decide ((k:Int)<(L.length:Int))=false:=by simpa using hlt
      have hke:k=L.length:=by omega
      subst hke
      refine Ab hdk ?_
      exact Aa (A9 [((0,0),(97,0))] []) Tryz.results272 hdk
   ·have hFln:=hFl L.length
    have hgr:=SQ (F L.length).length (by omega) (by omega)
    refine Ab hdk ?_
    refine v12 (BB [] hgr) q9 hln ?_
    refine Ar (κ:=Nat) (fun k=>⟨mkS 0 36 [(2,.nils),(6,.own (97,0)),(25,.c (.sl (L.map Dx))),(26,.c (.int .i64 L.length)),(27,.c (.int .i64 k))],[((97,0),.row false 1 9 ((F k).map Ae))]⟩)
     (fun k=>k≤L.length) (fun k=>L.length-k) 0 (Nat.zero_le _) ?_ ?_
    ·exact Ac (Aj.of [((97,0),(24,0))] []) (j2 hF0 @List.map_nil.{0,0})
    ·intro k hk
     by_cases hlt:k<L.length
     ·have hdk:decide ((k:Int)<(L.length:Int))=true:=by simpa using hlt
      have hw:=Ad (k:=k) (by omega)
      have hr:A8 (L.map Dx) 1 k=true:=by simp[A8,hlt,Dx]
      have hg:(L.map Dx)[k]? = some [.sl (L[k].map Ae)]:=by simp[hlt,Dx]
      have hFk:=hFs k hlt
      have hFl1:=hFl (k+1)
      have hall:=Fm L[k]
      have hl1:(F k).length+L[k].length≤1000000:=by rw[hFk,List.length_append]at hFl1;omega
      have e1:(F k).map Ae++L[k].map Ae=(F (k+1)).map Ae:=by rw[hFk,List.map_append]
      generalize L[k]=x at *
      refine Ab (j6 hdk hr hg hall hl1 hw) ?_
      refine⟨k+1,by omega,by omega,?_⟩
      exact Ac (Aj.of [((97,0),(33,0))] []) e1
     ·have hdk:decide ((k:Int)<(L.length:Int))=false:=by simpa using hlt
      have hke:k=L.length:=by omega
      subst hke
      refine Ab hdk ?_
      exact Aa (A9 [((0,0),(97,0))] []) Tryz.results272 hdk
end Go.Proofs.YtcejfdfmgmcinaaGreat
