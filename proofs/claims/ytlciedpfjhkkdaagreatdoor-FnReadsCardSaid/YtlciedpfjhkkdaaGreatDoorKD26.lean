/- The draws of texts of values: spec.l2Draw, DrawDecodeValue. Printed by gen_d26.py. -/
import Derived.Test.YtlciedpfjhkkdaaGreatDoorKG84uD25
set_option linter.all false
set_option maxHeartbeats 8000000
namespace Go.Proofs.YtlciedpfjhkkdaaGreatDoor
open Go.RowKit
set_option maxRecDepth 10000
theorem l2Draw_ac (bs:List Nat) (hb:BytesOk bs) (a:Nat) (ha:a≤800000):∃u a',u.size≤100000∧AC Tryz.prog 71 [.ptr (0,0) 0] (srcM bs a) (.c (.str u)) (srcM bs a'):=by
 obtain⟨v1,v2,v3,v4,v5⟩:=valD_ok bs 2 a
 have hB:capB 2=77:=rfl
 have hC:capC 2=13:=rfl
 have hv:AC Tryz.prog 85 [.ptr (0,0) 0,.c (.int .i64 3)] (srcM bs a) (.own (0,1)) (valM bs (valD bs 2 a)):=l1Value_ac bs hb 2 (by omega) a (by omega)
 have hright:(valD bs 2 a).1.right:=⟨v1,by omega,by omega⟩
 generalize valD bs 2 a=r at *
 obtain⟨t,a1⟩:=r
 dsimp only at v1 v2 v3 v4 v5 hright
 have he:=encode_ac _ t (Nat.le_refl _) hright
 have hts:=txt_size' hright
 unfold cellsA at he
 change AC _ _ _ _ _ [((0,0),srcO bs a1),((0,1),.row false 5 94 (t.enc.map CellD.cs))]at hv
 generalize t.enc=te at *
 generalize t.txt=t0 at *
 have h2:=l1Chance_ac bs hb a1 2 (by omega) (by omega)
 have hb91:(⟨#[91]⟩:ByteArray).size=1:=rfl
 have hb93:(⟨#[93]⟩:ByteArray).size=1:=rfl
 have hb441:(⟨#[44,49]⟩:ByteArray).size=2:=rfl
 have hb322:(⟨#[32,32]⟩:ByteArray).size=2:=rfl
 have hb320:(⟨#[32]⟩:ByteArray).size=1:=rfl
 have hb9:(⟨#[9]⟩:ByteArray).size=1:=rfl
 have hb7:(⟨#[55]⟩:ByteArray).size=1:=rfl
 cases hc2:(nextN bs a1 2==0)
 ·rw[hc2]at h2
  obtain⟨a2,ha2⟩:∃a2,a2=a1+1:=⟨_,rfl⟩
  rw[←ha2]at h2
  have h8:=l1Chance_ac bs hb a2 8 (by omega) (by omega)
  have h60:=l1Next_ac bs hb (a2+1) 60 (by omega) (by omega)
  generalize nextN bs (a2+1) 60=k at *
  have hB2:=l1Chance_ac bs hb (a2+2) 2 (by omega) (by omega)
  have x81:1+t0.size≤9223372036854775807:=by omega
  obtain⟨u8,hu8⟩:∃u:ByteArray,u=⟨#[32]⟩++t0:=⟨_,rfl⟩
  have hu8s:u8.size=t0.size+1:=by rw[hu8,ByteArray.size_append];omega
  have x82:u8.size+1≤9223372036854775807:=by omega
  obtain⟨t2,ht2⟩:∃u:ByteArray,u=u8++⟨#[9]⟩:=⟨_,rfl⟩
  have ht2s:t2.size=t0.size+2:=by rw[ht2,ByteArray.size_append];omega
  have h81:(⟨#[32]⟩++t0:ByteArray)=u8:=hu8.symm
  have h82:(u8++⟨#[9]⟩:ByteArray)=t2:=ht2.symm
  cases hc8:(nextN bs a2 8==0)
  ·rw[hc8]at h8
   have hTs:t0.size≤55000:=by omega
   by_cases hk0:k=0
   ·have q0:((k:Int)==0)=true:=by simp[hk0]
    cases hcB:(nextN bs (a2+2) 2==0)
    ·rw[hcB]at hB2
     obtain⟨RR,hRR⟩:∃RR,loopA bs 22 0 (a2+3) ByteArray.empty=RR:=⟨_,rfl⟩
     have hin:=loopA_in bs 22 0 (a2+3) ByteArray.empty
     rw[hRR]at hin
     have h9:(ByteArray.empty:ByteArray).size≤1:=by decide
     have hRs:RR.1.size≤100000:=by have:=hin.1;omega
     refine⟨RR.1,RR.2,hRs,?_⟩
     refine wEnter Tryz.func71 Tryz.ntmps71 ?_
     refine wRUN trivial ?_
     refine wCall (op_any_call [((0,0),(0,0))] [((0,0),(0,0)),((0,1),(7,0))] hv) trivial ?_
     refine wRUN trivial ?_
     refine w7 (op_data [(7,0)] he) trivial ?_
     refine wRUN trivial ?_
     refine wCall (op_any_call [((0,0),(0,0))] [((0,0),(0,0))] h2) trivial ?_
     refine wRUN trivial ?_
     refine wCall (op_any_call [((0,0),(0,0))] [((0,0),(0,0))] h8) trivial ?_
     refine wRUN trivial ?_
     refine wCall (op_any_call [((0,0),(0,0))] [((0,0),(0,0))] h60) trivial ?_
     refine wRUN q0 ?_
     refine wCall (op_any_call [((0,0),(0,0))] [((0,0),(0,0))] hB2) trivial ?_
     refine wRUN trivial ?_
     refine a_loop (κ:=Nat×Nat×ByteArray) (fun x=>⟨mkS 0 59 [(0,.ptr (0,0) 0),(3,.c (.str x.2.2)),(4,.c (.int .i64 x.1))],srcM bs x.2.1⟩) (fun x=>x.1≤21∧x.2.1≤860000+x.1∧x.2.2.size≤10+2*x.1∧∃n,22-x.1≤n∧loopA bs n x.1 x.2.1 x.2.2=RR) (fun x=>22-x.1) (0,a2+3,ByteArray.empty) ⟨by dsimp only;omega,by dsimp only;omega,by dsimp only;omega,22,Nat.le_refl _,hRR⟩ ?_ ?_
     ·exact wSays (Says.of [((0,0),(0,0))] []) trivial
     ·rintro⟨k,b,u⟩ ⟨hk,hba,hus,n,hn,hgo⟩
      dsimp only at hk hba hus hn hgo ⊢
      obtain⟨n,rfl⟩:∃m,n=m+1:=⟨n-1,by omega⟩
      unfold loopA at hgo
      have hnx:=l1Next_ac bs hb b 3 (by omega) (by omega)
      have hlt:=nextN_lt bs b (n:=3) (by omega)
      generalize nextN bs b 3=r at *
      have hwr:IntKind.i64.wrap (19+(r:Int))=((19+r:Nat):Int):=wrap_plus (a:=19) (by omega)
      by_cases hkr:k<19+r
      ·rw[if_pos hkr]at hgo
       have gk:decide ((k:Int)<((19+r:Nat):Int))=true:=decide_eq_true (by omega)
       have x1:1+u.size≤9223372036854775807:=by omega
       obtain⟨w,hw⟩:∃w:ByteArray,w=⟨#[91]⟩++u:=⟨_,rfl⟩
       have hws:w.size=u.size+1:=by rw[hw,ByteArray.size_append];omega
       have x2:w.size+1≤9223372036854775807:=by omega
       have h91:(⟨#[91]⟩++u:ByteArray)=w:=hw.symm
       rw[h91]at hgo
       have hw93:(w++⟨#[93]⟩:ByteArray).size=u.size+2:=by rw[ByteArray.size_append];omega
       have hwk:=wrap_succ (k:=k) (by omega)
       refine wRUN trivial ?_
       refine wCall (op_any_call [((0,0),(0,0))] [((0,0),(0,0))] hnx) trivial ?_
       refine wRUN (j6 hwr gk x1 h91 x2 hwk) ?_
       refine⟨(k+1,b+1,w++⟨#[93]⟩),by dsimp only;omega,⟨by dsimp only;omega,by dsimp only;omega,by dsimp only;omega,n,by dsimp only;omega,hgo⟩,?_⟩
       exact wSays (Says.of [((0,0),(0,0))] []) hwk
      ·rw[if_neg hkr]at hgo
       have gk:decide ((k:Int)<((19+r:Nat):Int))=false:=decide_eq_false (by omega)
       subst hgo
       refine wRUN trivial ?_
       refine wCall (op_any_call [((0,0),(0,0))] [((0,0),(0,0))] hnx) trivial ?_
       refine wRUN (j2 hwr gk) ?_
       exact wRetOf (ret_of [((0,0),(0,0))] []) Tryz.results71 gk
    ·rw[hcB]at hB2
     obtain⟨RR,hRR⟩:∃RR,loopA bs 22 0 (a2+3) ⟨#[55]⟩=RR:=⟨_,rfl⟩
     have hin:=loopA_in bs 22 0 (a2+3) ⟨#[55]⟩
     rw[hRR]at hin
     have h9:(⟨#[55]⟩:ByteArray).size≤1:=by decide
     have hRs:RR.1.size≤100000:=by have:=hin.1;omega
     refine⟨RR.1,RR.2,hRs,?_⟩
     refine wEnter Tryz.func71 Tryz.ntmps71 ?_
     refine wRUN trivial ?_
     refine wCall (op_any_call [((0,0),(0,0))] [((0,0),(0,0)),((0,1),(7,0))] hv) trivial ?_
     refine wRUN trivial ?_
     refine w7 (op_data [(7,0)] he) trivial ?_
     refine wRUN trivial ?_
     refine wCall (op_any_call [((0,0),(0,0))] [((0,0),(0,0))] h2) trivial ?_
     refine wRUN trivial ?_
     refine wCall (op_any_call [((0,0),(0,0))] [((0,0),(0,0))] h8) trivial ?_
     refine wRUN trivial ?_
     refine wCall (op_any_call [((0,0),(0,0))] [((0,0),(0,0))] h60) trivial ?_
     refine wRUN q0 ?_
     refine wCall (op_any_call [((0,0),(0,0))] [((0,0),(0,0))] hB2) trivial ?_
     refine wRUN trivial ?_
     refine a_loop (κ:=Nat×Nat×ByteArray) (fun x=>⟨mkS 0 59 [(0,.ptr (0,0) 0),(3,.c (.str x.2.2)),(4,.c (.int .i64 x.1))],srcM bs x.2.1⟩) (fun x=>x.1≤21∧x.2.1≤860000+x.1∧x.2.2.size≤10+2*x.1∧∃n,22-x.1≤n∧loopA bs n x.1 x.2.1 x.2.2=RR) (fun x=>22-x.1) (0,a2+3,⟨#[55]⟩) ⟨by dsimp only;omega,by dsimp only;omega,by dsimp only;omega,22,Nat.le_refl _,hRR⟩ ?_ ?_
     ·exact wSays (Says.of [((0,0),(0,0))] []) trivial
     ·rintro⟨k,b,u⟩ ⟨hk,hba,hus,n,hn,hgo⟩
      dsimp only at hk hba hus hn hgo ⊢
      obtain⟨n,rfl⟩:∃m,n=m+1:=⟨n-1,by omega⟩
      unfold loopA at hgo
      have hnx:=l1Next_ac bs hb b 3 (by omega) (by omega)
      have hlt:=nextN_lt bs b (n:=3) (by omega)
      generalize nextN bs b 3=r at *
      have hwr:IntKind.i64.wrap (19+(r:Int))=((19+r:Nat):Int):=wrap_plus (a:=19) (by omega)
      by_cases hkr:k<19+r
      ·rw[if_pos hkr]at hgo
       have gk:decide ((k:Int)<((19+r:Nat):Int))=true:=decide_eq_true (by omega)
       have x1:1+u.size≤9223372036854775807:=by omega
       obtain⟨w,hw⟩:∃w:ByteArray,w=⟨#[91]⟩++u:=⟨_,rfl⟩
       have hws:w.size=u.size+1:=by rw[hw,ByteArray.size_append];omega
       have x2:w.size+1≤9223372036854775807:=by omega
       have h91:(⟨#[91]⟩++u:ByteArray)=w:=hw.symm
       rw[h91]at hgo
       have hw93:(w++⟨#[93]⟩:ByteArray).size=u.size+2:=by rw[ByteArray.size_append];omega
       have hwk:=wrap_succ (k:=k) (by omega)
       refine wRUN trivial ?_
       refine wCall (op_any_call [((0,0),(0,0))] [((0,0),(0,0))] hnx) trivial ?_
       refine wRUN (j6 hwr gk x1 h91 x2 hwk) ?_
       refine⟨(k+1,b+1,w++⟨#[93]⟩),by dsimp only;omega,⟨by dsimp only;omega,by dsimp only;omega,by dsimp only;omega,n,by dsimp only;omega,hgo⟩,?_⟩
       exact wSays (Says.of [((0,0),(0,0))] []) hwk
      ·rw[if_neg hkr]at hgo
       have gk:decide ((k:Int)<((19+r:Nat):Int))=false:=decide_eq_false (by omega)
       subst hgo
       refine wRUN trivial ?_
       refine wCall (op_any_call [((0,0),(0,0))] [((0,0),(0,0))] hnx) trivial ?_
       refine wRUN (j2 hwr gk) ?_
       exact wRetOf (ret_of [((0,0),(0,0))] []) Tryz.results71 gk
   have q0:((k:Int)==0)=false:=by simp;omega
   by_cases hk1:k=1
   ·have q1:((k:Int)==1)=true:=by simp[hk1]
    obtain⟨RR,hRR⟩:∃RR,loopB bs 200 0 (a2+2) ⟨#[91,48]⟩=RR:=⟨_,rfl⟩
    have hin:=loopB_in bs 200 0 (a2+2) ⟨#[91,48]⟩
    rw[hRR]at hin
    have h9:(⟨#[91,48]⟩:ByteArray).size≤2:=by decide
    have hRs:(RR.1++⟨#[93]⟩:ByteArray).size≤100000:=by rw[ByteArray.size_append];have:=hin.1;omega
    refine⟨RR.1++⟨#[93]⟩,RR.2,hRs,?_⟩
    refine wEnter Tryz.func71 Tryz.ntmps71 ?_
    refine wRUN trivial ?_
    refine wCall (op_any_call [((0,0),(0,0))] [((0,0),(0,0)),((0,1),(7,0))] hv) trivial ?_
    refine wRUN trivial ?_
    refine w7 (op_data [(7,0)] he) trivial ?_
    refine wRUN trivial ?_
    refine wCall (op_any_call [((0,0),(0,0))] [((0,0),(0,0))] h2) trivial ?_
    refine wRUN trivial ?_
    refine wCall (op_any_call [((0,0),(0,0))] [((0,0),(0,0))] h8) trivial ?_
    refine wRUN trivial ?_
    refine wCall (op_any_call [((0,0),(0,0))] [((0,0),(0,0))] h60) trivial ?_
    refine wRUN (j2 q0 q1) ?_
    refine a_loop (κ:=Nat×Nat×ByteArray) (fun x=>⟨mkS 0 59 [(0,.ptr (0,0) 0),(3,.c (.str x.2.2)),(5,.c (.int .i64 x.1))],srcM bs x.2.1⟩) (fun x=>x.1≤199∧x.2.1≤860000+x.1∧x.2.2.size≤10+2*x.1∧∃n,200-x.1≤n∧loopB bs n x.1 x.2.1 x.2.2=RR) (fun x=>200-x.1) (0,a2+2,⟨#[91,48]⟩) ⟨by dsimp only;omega,by dsimp only;omega,by dsimp only;omega,200,Nat.le_refl _,hRR⟩ ?_ ?_
    ·exact wSays (Says.of [((0,0),(0,0))] []) trivial
    ·rintro⟨k,b,u⟩ ⟨hk,hba,hus,n,hn,hgo⟩
     dsimp only at hk hba hus hn hgo ⊢
     obtain⟨n,rfl⟩:∃m,n=m+1:=⟨n-1,by omega⟩
     unfold loopB at hgo
     have hnx:=l1Next_ac bs hb b 2 (by omega) (by omega)
     have hlt:=nextN_lt bs b (n:=2) (by omega)
     generalize nextN bs b 2=r at *
     have hwr:IntKind.i64.wrap (198+(r:Int))=((198+r:Nat):Int):=wrap_plus (a:=198) (by omega)
     by_cases hkr:k<198+r
     ·rw[if_pos hkr]at hgo
      have gk:decide ((k:Int)<((198+r:Nat):Int))=true:=decide_eq_true (by omega)
      have x1:u.size+2≤9223372036854775807:=by omega
      have hwk:=wrap_succ (k:=k) (by omega)
      refine wRUN trivial ?_
      refine wCall (op_any_call [((0,0),(0,0))] [((0,0),(0,0))] hnx) trivial ?_
      refine wRUN (j4 hwr gk x1 hwk) ?_
      refine⟨(k+1,b+1,u++⟨#[44,49]⟩),by dsimp only;omega,⟨by dsimp only;omega,by dsimp only;omega,by dsimp only;rw[ByteArray.size_append];omega,n,by dsimp only;omega,hgo⟩,?_⟩
      exact wSays (Says.of [((0,0),(0,0))] []) hwk
     ·rw[if_neg hkr]at hgo
      have gk:decide ((k:Int)<((198+r:Nat):Int))=false:=decide_eq_false (by omega)
      have x1:u.size+1≤9223372036854775807:=by omega
      subst hgo
      refine wRUN trivial ?_
      refine wCall (op_any_call [((0,0),(0,0))] [((0,0),(0,0))] hnx) trivial ?_
      refine wRUN (j3 hwr gk x1) ?_
      exact wRetOf (ret_of [((0,0),(0,0))] []) Tryz.results71 gk
   have q1:((k:Int)==1)=false:=by simp;omega
   by_cases hk2:k=2
   ·have q2:((k:Int)==2)=true:=by simp[hk2]
    obtain⟨RR,hRR⟩:∃RR,loopC bs 4003 (a2+2) t0=RR:=⟨_,rfl⟩
    have hin:=loopC_in bs 4003 (a2+2) t0
    rw[hRR]at hin
    have hRs:RR.1.size≤100000:=by have:=hin.1;omega
    refine⟨RR.1,RR.2,hRs,?_⟩
    refine wEnter Tryz.func71 Tryz.ntmps71 ?_
    refine wRUN trivial ?_
    refine wCall (op_any_call [((0,0),(0,0))] [((0,0),(0,0)),((0,1),(7,0))] hv) trivial ?_
    refine wRUN trivial ?_
    refine w7 (op_data [(7,0)] he) trivial ?_
    refine wRUN trivial ?_
    refine wCall (op_any_call [((0,0),(0,0))] [((0,0),(0,0))] h2) trivial ?_
    refine wRUN trivial ?_
    refine wCall (op_any_call [((0,0),(0,0))] [((0,0),(0,0))] h8) trivial ?_
    refine wRUN trivial ?_
    refine wCall (op_any_call [((0,0),(0,0))] [((0,0),(0,0))] h60) trivial ?_
    refine wRUN (j3 q0 q1 q2) ?_
    refine a_loop (κ:=Nat×ByteArray) (fun x=>⟨mkS 0 59 [(0,.ptr (0,0) 0),(3,.c (.str x.2))],srcM bs x.1⟩) (fun x=>x.1+(4002-x.2.size)≤870000∧x.2.size≤60000∧∃n,4002-x.2.size<n∧loopC bs n x.1 x.2=RR) (fun x=>4002-x.2.size) (a2+2,t0) ⟨by dsimp only;omega,by dsimp only;omega,4003,by dsimp only;omega,hRR⟩ ?_ ?_
    ·exact wSays (Says.of [((0,0),(0,0))] []) trivial
    ·rintro⟨b,u⟩ ⟨hba,hus,n,hn,hgo⟩
     dsimp only at hba hus hn hgo ⊢
     obtain⟨n,rfl⟩:∃m,n=m+1:=⟨n-1,by omega⟩
     unfold loopC at hgo
     have hnx:=l1Next_ac bs hb b 2 (by omega) (by omega)
     have hlt:=nextN_lt bs b (n:=2) (by omega)
     generalize nextN bs b 2=r at *
     have hwr:IntKind.i64.wrap (4000+(r:Int))=((4000+r:Nat):Int):=wrap_plus (a:=4000) (by omega)
     by_cases hkr:u.size<4000+r
     ·rw[if_pos hkr]at hgo
      have gk:decide ((u.size:Int)<((4000+r:Nat):Int))=true:=decide_eq_true (by omega)
      have x1:u.size+2≤9223372036854775807:=by omega
      have hap:(u++⟨#[32,32]⟩:ByteArray).size=u.size+2:=by rw[ByteArray.size_append];omega
      refine wRUN trivial ?_
      refine wCall (op_any_call [((0,0),(0,0))] [((0,0),(0,0))] hnx) trivial ?_
      refine wRUN (j3 hwr gk x1) ?_
      refine⟨(b+1,u++⟨#[32,32]⟩),by dsimp only;omega,⟨by dsimp only;omega,by dsimp only;omega,n,by dsimp only;omega,hgo⟩,?_⟩
      exact wSays (Says.of [((0,0),(0,0))] []) trivial
     ·rw[if_neg hkr]at hgo
      have gk:decide ((u.size:Int)<((4000+r:Nat):Int))=false:=decide_eq_false (by omega)
      subst hgo
      refine wRUN trivial ?_
      refine wCall (op_any_call [((0,0),(0,0))] [((0,0),(0,0))] hnx) trivial ?_
      refine wRUN (j2 hwr gk) ?_
      exact wRetOf (ret_of [((0,0),(0,0))] []) Tryz.results71 gk
   have q2:((k:Int)==2)=false:=by simp;omega
   refine⟨t0,a2+2,by omega,?_⟩
   refine wEnter Tryz.func71 Tryz.ntmps71 ?_
   refine wRUN trivial ?_
   refine wCall (op_any_call [((0,0),(0,0))] [((0,0),(0,0)),((0,1),(7,0))] hv) trivial ?_
   refine wRUN trivial ?_
   refine w7 (op_data [(7,0)] he) trivial ?_
   refine wRUN trivial ?_
   refine wCall (op_any_call [((0,0),(0,0))] [((0,0),(0,0))] h2) trivial ?_
   refine wRUN trivial ?_
   refine wCall (op_any_call [((0,0),(0,0))] [((0,0),(0,0))] h8) trivial ?_
   refine wRUN trivial ?_
   refine wCall (op_any_call [((0,0),(0,0))] [((0,0),(0,0))] h60) trivial ?_
   refine wRUN (j3 q0 q1 q2) ?_
   exact wRetOf (ret_of [((0,0),(0,0))] []) Tryz.results71 q0
  ·rw[hc8]at h8
   have hTs:t2.size≤55000:=by omega
   by_cases hk0:k=0
   ·have q0:((k:Int)==0)=true:=by simp[hk0]
    cases hcB:(nextN bs (a2+2) 2==0)
    ·rw[hcB]at hB2
     obtain⟨RR,hRR⟩:∃RR,loopA bs 22 0 (a2+3) ByteArray.empty=RR:=⟨_,rfl⟩
     have hin:=loopA_in bs 22 0 (a2+3) ByteArray.empty
     rw[hRR]at hin
     have h9:(ByteArray.empty:ByteArray).size≤1:=by decide
     have hRs:RR.1.size≤100000:=by have:=hin.1;omega
     refine⟨RR.1,RR.2,hRs,?_⟩
     refine wEnter Tryz.func71 Tryz.ntmps71 ?_
     refine wRUN trivial ?_
     refine wCall (op_any_call [((0,0),(0,0))] [((0,0),(0,0)),((0,1),(7,0))] hv) trivial ?_
     refine wRUN trivial ?_
     refine w7 (op_data [(7,0)] he) trivial ?_
     refine wRUN trivial ?_
     refine wCall (op_any_call [((0,0),(0,0))] [((0,0),(0,0))] h2) trivial ?_
     refine wRUN trivial ?_
     refine wCall (op_any_call [((0,0),(0,0))] [((0,0),(0,0))] h8) trivial ?_
     refine wRUN (j4 x81 h81 x82 h82) ?_
     refine wCall (op_any_call [((0,0),(0,0))] [((0,0),(0,0))] h60) trivial ?_
     refine wRUN q0 ?_
     refine wCall (op_any_call [((0,0),(0,0))] [((0,0),(0,0))] hB2) trivial ?_
     refine wRUN trivial ?_
     refine a_loop (κ:=Nat×Nat×ByteArray) (fun x=>⟨mkS 0 59 [(0,.ptr (0,0) 0),(3,.c (.str x.2.2)),(4,.c (.int .i64 x.1))],srcM bs x.2.1⟩) (fun x=>x.1≤21∧x.2.1≤860000+x.1∧x.2.2.size≤10+2*x.1∧∃n,22-x.1≤n∧loopA bs n x.1 x.2.1 x.2.2=RR) (fun x=>22-x.1) (0,a2+3,ByteArray.empty) ⟨by dsimp only;omega,by dsimp only;omega,by dsimp only;omega,22,Nat.le_refl _,hRR⟩ ?_ ?_
     ·exact wSays (Says.of [((0,0),(0,0))] []) trivial
     ·rintro⟨k,b,u⟩ ⟨hk,hba,hus,n,hn,hgo⟩
      dsimp only at hk hba hus hn hgo ⊢
      obtain⟨n,rfl⟩:∃m,n=m+1:=⟨n-1,by omega⟩
      unfold loopA at hgo
      have hnx:=l1Next_ac bs hb b 3 (by omega) (by omega)
      have hlt:=nextN_lt bs b (n:=3) (by omega)
      generalize nextN bs b 3=r at *
      have hwr:IntKind.i64.wrap (19+(r:Int))=((19+r:Nat):Int):=wrap_plus (a:=19) (by omega)
      by_cases hkr:k<19+r
      ·rw[if_pos hkr]at hgo
       have gk:decide ((k:Int)<((19+r:Nat):Int))=true:=decide_eq_true (by omega)
       have x1:1+u.size≤9223372036854775807:=by omega
       obtain⟨w,hw⟩:∃w:ByteArray,w=⟨#[91]⟩++u:=⟨_,rfl⟩
       have hws:w.size=u.size+1:=by rw[hw,ByteArray.size_append];omega
       have x2:w.size+1≤9223372036854775807:=by omega
       have h91:(⟨#[91]⟩++u:ByteArray)=w:=hw.symm
       rw[h91]at hgo
       have hw93:(w++⟨#[93]⟩:ByteArray).size=u.size+2:=by rw[ByteArray.size_append];omega
       have hwk:=wrap_succ (k:=k) (by omega)
       refine wRUN trivial ?_
       refine wCall (op_any_call [((0,0),(0,0))] [((0,0),(0,0))] hnx) trivial ?_
       refine wRUN (j6 hwr gk x1 h91 x2 hwk) ?_
       refine⟨(k+1,b+1,w++⟨#[93]⟩),by dsimp only;omega,⟨by dsimp only;omega,by dsimp only;omega,by dsimp only;omega,n,by dsimp only;omega,hgo⟩,?_⟩
       exact wSays (Says.of [((0,0),(0,0))] []) hwk
      ·rw[if_neg hkr]at hgo
       have gk:decide ((k:Int)<((19+r:Nat):Int))=false:=decide_eq_false (by omega)
       subst hgo
       refine wRUN trivial ?_
       refine wCall (op_any_call [((0,0),(0,0))] [((0,0),(0,0))] hnx) trivial ?_
       refine wRUN (j2 hwr gk) ?_
       exact wRetOf (ret_of [((0,0),(0,0))] []) Tryz.results71 gk
    ·rw[hcB]at hB2
     obtain⟨RR,hRR⟩:∃RR,loopA bs 22 0 (a2+3) ⟨#[55]⟩=RR:=⟨_,rfl⟩
     have hin:=loopA_in bs 22 0 (a2+3) ⟨#[55]⟩
     rw[hRR]at hin
     have h9:(⟨#[55]⟩:ByteArray).size≤1:=by decide
     have hRs:RR.1.size≤100000:=by have:=hin.1;omega
     refine⟨RR.1,RR.2,hRs,?_⟩
     refine wEnter Tryz.func71 Tryz.ntmps71 ?_
     refine wRUN trivial ?_
     refine wCall (op_any_call [((0,0),(0,0))] [((0,0),(0,0)),((0,1),(7,0))] hv) trivial ?_
     refine wRUN trivial ?_
     refine w7 (op_data [(7,0)] he) trivial ?_
     refine wRUN trivial ?_
     refine wCall (op_any_call [((0,0),(0,0))] [((0,0),(0,0))] h2) trivial ?_
     refine wRUN trivial ?_
     refine wCall (op_any_call [((0,0),(0,0))] [((0,0),(0,0))] h8) trivial ?_
     refine wRUN (j4 x81 h81 x82 h82) ?_
     refine wCall (op_any_call [((0,0),(0,0))] [((0,0),(0,0))] h60) trivial ?_
     refine wRUN q0 ?_
     refine wCall (op_any_call [((0,0),(0,0))] [((0,0),(0,0))] hB2) trivial ?_
     refine wRUN trivial ?_
     refine a_loop (κ:=Nat×Nat×ByteArray) (fun x=>⟨mkS 0 59 [(0,.ptr (0,0) 0),(3,.c (.str x.2.2)),(4,.c (.int .i64 x.1))],srcM bs x.2.1⟩) (fun x=>x.1≤21∧x.2.1≤860000+x.1∧x.2.2.size≤10+2*x.1∧∃n,22-x.1≤n∧loopA bs n x.1 x.2.1 x.2.2=RR) (fun x=>22-x.1) (0,a2+3,⟨#[55]⟩) ⟨by dsimp only;omega,by dsimp only;omega,by dsimp only;omega,22,Nat.le_refl _,hRR⟩ ?_ ?_
     ·exact wSays (Says.of [((0,0),(0,0))] []) trivial
     ·rintro⟨k,b,u⟩ ⟨hk,hba,hus,n,hn,hgo⟩
      dsimp only at hk hba hus hn hgo ⊢
      obtain⟨n,rfl⟩:∃m,n=m+1:=⟨n-1,by omega⟩
      unfold loopA at hgo
      have hnx:=l1Next_ac bs hb b 3 (by omega) (by omega)
      have hlt:=nextN_lt bs b (n:=3) (by omega)
      generalize nextN bs b 3=r at *
      have hwr:IntKind.i64.wrap (19+(r:Int))=((19+r:Nat):Int):=wrap_plus (a:=19) (by omega)
      by_cases hkr:k<19+r
      ·rw[if_pos hkr]at hgo
       have gk:decide ((k:Int)<((19+r:Nat):Int))=true:=decide_eq_true (by omega)
       have x1:1+u.size≤9223372036854775807:=by omega
       obtain⟨w,hw⟩:∃w:ByteArray,w=⟨#[91]⟩++u:=⟨_,rfl⟩
       have hws:w.size=u.size+1:=by rw[hw,ByteArray.size_append];omega
       have x2:w.size+1≤9223372036854775807:=by omega
       have h91:(⟨#[91]⟩++u:ByteArray)=w:=hw.symm
       rw[h91]at hgo
       have hw93:(w++⟨#[93]⟩:ByteArray).size=u.size+2:=by rw[ByteArray.size_append];omega
       have hwk:=wrap_succ (k:=k) (by omega)
       refine wRUN trivial ?_
       refine wCall (op_any_call [((0,0),(0,0))] [((0,0),(0,0))] hnx) trivial ?_
       refine wRUN (j6 hwr gk x1 h91 x2 hwk) ?_
       refine⟨(k+1,b+1,w++⟨#[93]⟩),by dsimp only;omega,⟨by dsimp only;omega,by dsimp only;omega,by dsimp only;omega,n,by dsimp only;omega,hgo⟩,?_⟩
       exact wSays (Says.of [((0,0),(0,0))] []) hwk
      ·rw[if_neg hkr]at hgo
       have gk:decide ((k:Int)<((19+r:Nat):Int))=false:=decide_eq_false (by omega)
       subst hgo
       refine wRUN trivial ?_
       refine wCall (op_any_call [((0,0),(0,0))] [((0,0),(0,0))] hnx) trivial ?_
       refine wRUN (j2 hwr gk) ?_
       exact wRetOf (ret_of [((0,0),(0,0))] []) Tryz.results71 gk
   have q0:((k:Int)==0)=false:=by simp;omega
   by_cases hk1:k=1
   ·have q1:((k:Int)==1)=true:=by simp[hk1]
    obtain⟨RR,hRR⟩:∃RR,loopB bs 200 0 (a2+2) ⟨#[91,48]⟩=RR:=⟨_,rfl⟩
    have hin:=loopB_in bs 200 0 (a2+2) ⟨#[91,48]⟩
    rw[hRR]at hin
    have h9:(⟨#[91,48]⟩:ByteArray).size≤2:=by decide
    have hRs:(RR.1++⟨#[93]⟩:ByteArray).size≤100000:=by rw[ByteArray.size_append];have:=hin.1;omega
    refine⟨RR.1++⟨#[93]⟩,RR.2,hRs,?_⟩
    refine wEnter Tryz.func71 Tryz.ntmps71 ?_
    refine wRUN trivial ?_
    refine wCall (op_any_call [((0,0),(0,0))] [((0,0),(0,0)),((0,1),(7,0))] hv) trivial ?_
    refine wRUN trivial ?_
    refine w7 (op_data [(7,0)] he) trivial ?_
    refine wRUN trivial ?_
    refine wCall (op_any_call [((0,0),(0,0))] [((0,0),(0,0))] h2) trivial ?_
    refine wRUN trivial ?_
    refine wCall (op_any_call [((0,0),(0,0))] [((0,0),(0,0))] h8) trivial ?_
    refine wRUN (j4 x81 h81 x82 h82) ?_
    refine wCall (op_any_call [((0,0),(0,0))] [((0,0),(0,0))] h60) trivial ?_
    refine wRUN (j2 q0 q1) ?_
    refine a_loop (κ:=Nat×Nat×ByteArray) (fun x=>⟨mkS 0 59 [(0,.ptr (0,0) 0),(3,.c (.str x.2.2)),(5,.c (.int .i64 x.1))],srcM bs x.2.1⟩) (fun x=>x.1≤199∧x.2.1≤860000+x.1∧x.2.2.size≤10+2*x.1∧∃n,200-x.1≤n∧loopB bs n x.1 x.2.1 x.2.2=RR) (fun x=>200-x.1) (0,a2+2,⟨#[91,48]⟩) ⟨by dsimp only;omega,by dsimp only;omega,by dsimp only;omega,200,Nat.le_refl _,hRR⟩ ?_ ?_
    ·exact wSays (Says.of [((0,0),(0,0))] []) trivial
    ·rintro⟨k,b,u⟩ ⟨hk,hba,hus,n,hn,hgo⟩
     dsimp only at hk hba hus hn hgo ⊢
     obtain⟨n,rfl⟩:∃m,n=m+1:=⟨n-1,by omega⟩
     unfold loopB at hgo
     have hnx:=l1Next_ac bs hb b 2 (by omega) (by omega)
     have hlt:=nextN_lt bs b (n:=2) (by omega)
     generalize nextN bs b 2=r at *
     have hwr:IntKind.i64.wrap (198+(r:Int))=((198+r:Nat):Int):=wrap_plus (a:=198) (by omega)
     by_cases hkr:k<198+r
     ·rw[if_pos hkr]at hgo
      have gk:decide ((k:Int)<((198+r:Nat):Int))=true:=decide_eq_true (by omega)
      have x1:u.size+2≤9223372036854775807:=by omega
      have hwk:=wrap_succ (k:=k) (by omega)
      refine wRUN trivial ?_
      refine wCall (op_any_call [((0,0),(0,0))] [((0,0),(0,0))] hnx) trivial ?_
      refine wRUN (j4 hwr gk x1 hwk) ?_
      refine⟨(k+1,b+1,u++⟨#[44,49]⟩),by dsimp only;omega,⟨by dsimp only;omega,by dsimp only;omega,by dsimp only;rw[ByteArray.size_append];omega,n,by dsimp only;omega,hgo⟩,?_⟩
      exact wSays (Says.of [((0,0),(0,0))] []) hwk
     ·rw[if_neg hkr]at hgo
      have gk:decide ((k:Int)<((198+r:Nat):Int))=false:=decide_eq_false (by omega)
      have x1:u.size+1≤9223372036854775807:=by omega
      subst hgo
      refine wRUN trivial ?_
      refine wCall (op_any_call [((0,0),(0,0))] [((0,0),(0,0))] hnx) trivial ?_
      refine wRUN (j3 hwr gk x1) ?_
      exact wRetOf (ret_of [((0,0),(0,0))] []) Tryz.results71 gk
   have q1:((k:Int)==1)=false:=by simp;omega
   by_cases hk2:k=2
   ·have q2:((k:Int)==2)=true:=by simp[hk2]
    obtain⟨RR,hRR⟩:∃RR,loopC bs 4003 (a2+2) t2=RR:=⟨_,rfl⟩
    have hin:=loopC_in bs 4003 (a2+2) t2
    rw[hRR]at hin
    have hRs:RR.1.size≤100000:=by have:=hin.1;omega
    refine⟨RR.1,RR.2,hRs,?_⟩
    refine wEnter Tryz.func71 Tryz.ntmps71 ?_
    refine wRUN trivial ?_
    refine wCall (op_any_call [((0,0),(0,0))] [((0,0),(0,0)),((0,1),(7,0))] hv) trivial ?_
    refine wRUN trivial ?_
    refine w7 (op_data [(7,0)] he) trivial ?_
    refine wRUN trivial ?_
    refine wCall (op_any_call [((0,0),(0,0))] [((0,0),(0,0))] h2) trivial ?_
    refine wRUN trivial ?_
    refine wCall (op_any_call [((0,0),(0,0))] [((0,0),(0,0))] h8) trivial ?_
    refine wRUN (j4 x81 h81 x82 h82) ?_
    refine wCall (op_any_call [((0,0),(0,0))] [((0,0),(0,0))] h60) trivial ?_
    refine wRUN (j3 q0 q1 q2) ?_
    refine a_loop (κ:=Nat×ByteArray) (fun x=>⟨mkS 0 59 [(0,.ptr (0,0) 0),(3,.c (.str x.2))],srcM bs x.1⟩) (fun x=>x.1+(4002-x.2.size)≤870000∧x.2.size≤60000∧∃n,4002-x.2.size<n∧loopC bs n x.1 x.2=RR) (fun x=>4002-x.2.size) (a2+2,t2) ⟨by dsimp only;omega,by dsimp only;omega,4003,by dsimp only;omega,hRR⟩ ?_ ?_
    ·exact wSays (Says.of [((0,0),(0,0))] []) trivial
    ·rintro⟨b,u⟩ ⟨hba,hus,n,hn,hgo⟩
     dsimp only at hba hus hn hgo ⊢
     obtain⟨n,rfl⟩:∃m,n=m+1:=⟨n-1,by omega⟩
     unfold loopC at hgo
     have hnx:=l1Next_ac bs hb b 2 (by omega) (by omega)
     have hlt:=nextN_lt bs b (n:=2) (by omega)
     generalize nextN bs b 2=r at *
     have hwr:IntKind.i64.wrap (4000+(r:Int))=((4000+r:Nat):Int):=wrap_plus (a:=4000) (by omega)
     by_cases hkr:u.size<4000+r
     ·rw[if_pos hkr]at hgo
      have gk:decide ((u.size:Int)<((4000+r:Nat):Int))=true:=decide_eq_true (by omega)
      have x1:u.size+2≤9223372036854775807:=by omega
      have hap:(u++⟨#[32,32]⟩:ByteArray).size=u.size+2:=by rw[ByteArray.size_append];omega
      refine wRUN trivial ?_
      refine wCall (op_any_call [((0,0),(0,0))] [((0,0),(0,0))] hnx) trivial ?_
      refine wRUN (j3 hwr gk x1) ?_
      refine⟨(b+1,u++⟨#[32,32]⟩),by dsimp only;omega,⟨by dsimp only;omega,by dsimp only;omega,n,by dsimp only;omega,hgo⟩,?_⟩
      exact wSays (Says.of [((0,0),(0,0))] []) trivial
     ·rw[if_neg hkr]at hgo
      have gk:decide ((u.size:Int)<((4000+r:Nat):Int))=false:=decide_eq_false (by omega)
      subst hgo
      refine wRUN trivial ?_
      refine wCall (op_any_call [((0,0),(0,0))] [((0,0),(0,0))] hnx) trivial ?_
      refine wRUN (j2 hwr gk) ?_
      exact wRetOf (ret_of [((0,0),(0,0))] []) Tryz.results71 gk
   have q2:((k:Int)==2)=false:=by simp;omega
   refine⟨t2,a2+2,by omega,?_⟩
   refine wEnter Tryz.func71 Tryz.ntmps71 ?_
   refine wRUN trivial ?_
   refine wCall (op_any_call [((0,0),(0,0))] [((0,0),(0,0)),((0,1),(7,0))] hv) trivial ?_
   refine wRUN trivial ?_
   refine w7 (op_data [(7,0)] he) trivial ?_
   refine wRUN trivial ?_
   refine wCall (op_any_call [((0,0),(0,0))] [((0,0),(0,0))] h2) trivial ?_
   refine wRUN trivial ?_
   refine wCall (op_any_call [((0,0),(0,0))] [((0,0),(0,0))] h8) trivial ?_
   refine wRUN (j4 x81 h81 x82 h82) ?_
   refine wCall (op_any_call [((0,0),(0,0))] [((0,0),(0,0))] h60) trivial ?_
   refine wRUN (j3 q0 q1 q2) ?_
   exact wRetOf (ret_of [((0,0),(0,0))] []) Tryz.results71 q0
 ·rw[hc2]at h2
  obtain⟨t1,a2,g1,g2,g3,hcut⟩:=l2Cut_ac bs hb (a1+1) (by omega) t0 (by omega)
  have h8:=l1Chance_ac bs hb a2 8 (by omega) (by omega)
  have h60:=l1Next_ac bs hb (a2+1) 60 (by omega) (by omega)
  generalize nextN bs (a2+1) 60=k at *
  have hB2:=l1Chance_ac bs hb (a2+2) 2 (by omega) (by omega)
  have x81:1+t1.size≤9223372036854775807:=by omega
  obtain⟨u8,hu8⟩:∃u:ByteArray,u=⟨#[32]⟩++t1:=⟨_,rfl⟩
  have hu8s:u8.size=t1.size+1:=by rw[hu8,ByteArray.size_append];omega
  have x82:u8.size+1≤9223372036854775807:=by omega
  obtain⟨t2,ht2⟩:∃u:ByteArray,u=u8++⟨#[9]⟩:=⟨_,rfl⟩
  have ht2s:t2.size=t1.size+2:=by rw[ht2,ByteArray.size_append];omega
  have h81:(⟨#[32]⟩++t1:ByteArray)=u8:=hu8.symm
  have h82:(u8++⟨#[9]⟩:ByteArray)=t2:=ht2.symm
  cases hc8:(nextN bs a2 8==0)
  ·rw[hc8]at h8
   have hTs:t1.size≤55000:=by omega
   by_cases hk0:k=0
   ·have q0:((k:Int)==0)=true:=by simp[hk0]
    cases hcB:(nextN bs (a2+2) 2==0)
    ·rw[hcB]at hB2
     obtain⟨RR,hRR⟩:∃RR,loopA bs 22 0 (a2+3) ByteArray.empty=RR:=⟨_,rfl⟩
     have hin:=loopA_in bs 22 0 (a2+3) ByteArray.empty
     rw[hRR]at hin
     have h9:(ByteArray.empty:ByteArray).size≤1:=by decide
     have hRs:RR.1.size≤100000:=by have:=hin.1;omega
     refine⟨RR.1,RR.2,hRs,?_⟩
     refine wEnter Tryz.func71 Tryz.ntmps71 ?_
     refine wRUN trivial ?_
     refine wCall (op_any_call [((0,0),(0,0))] [((0,0),(0,0)),((0,1),(7,0))] hv) trivial ?_
     refine wRUN trivial ?_
     refine w7 (op_data [(7,0)] he) trivial ?_
     refine wRUN trivial ?_
     refine wCall (op_any_call [((0,0),(0,0))] [((0,0),(0,0))] h2) trivial ?_
     refine wRUN trivial ?_
     refine wCall (op_any_call [((0,0),(0,0))] [((0,0),(0,0))] hcut) trivial ?_
     refine wRUN trivial ?_
     refine wCall (op_any_call [((0,0),(0,0))] [((0,0),(0,0))] h8) trivial ?_
     refine wRUN trivial ?_
     refine wCall (op_any_call [((0,0),(0,0))] [((0,0),(0,0))] h60) trivial ?_
     refine wRUN q0 ?_
     refine wCall (op_any_call [((0,0),(0,0))] [((0,0),(0,0))] hB2) trivial ?_
     refine wRUN trivial ?_
     refine a_loop (κ:=Nat×Nat×ByteArray) (fun x=>⟨mkS 0 59 [(0,.ptr (0,0) 0),(3,.c (.str x.2.2)),(4,.c (.int .i64 x.1))],srcM bs x.2.1⟩) (fun x=>x.1≤21∧x.2.1≤860000+x.1∧x.2.2.size≤10+2*x.1∧∃n,22-x.1≤n∧loopA bs n x.1 x.2.1 x.2.2=RR) (fun x=>22-x.1) (0,a2+3,ByteArray.empty) ⟨by dsimp only;omega,by dsimp only;omega,by dsimp only;omega,22,Nat.le_refl _,hRR⟩ ?_ ?_
     ·exact wSays (Says.of [((0,0),(0,0))] []) trivial
     ·rintro⟨k,b,u⟩ ⟨hk,hba,hus,n,hn,hgo⟩
      dsimp only at hk hba hus hn hgo ⊢
      obtain⟨n,rfl⟩:∃m,n=m+1:=⟨n-1,by omega⟩
      unfold loopA at hgo
      have hnx:=l1Next_ac bs hb b 3 (by omega) (by omega)
      have hlt:=nextN_lt bs b (n:=3) (by omega)
      generalize nextN bs b 3=r at *
      have hwr:IntKind.i64.wrap (19+(r:Int))=((19+r:Nat):Int):=wrap_plus (a:=19) (by omega)
      by_cases hkr:k<19+r
      ·rw[if_pos hkr]at hgo
       have gk:decide ((k:Int)<((19+r:Nat):Int))=true:=decide_eq_true (by omega)
       have x1:1+u.size≤9223372036854775807:=by omega
       obtain⟨w,hw⟩:∃w:ByteArray,w=⟨#[91]⟩++u:=⟨_,rfl⟩
       have hws:w.size=u.size+1:=by rw[hw,ByteArray.size_append];omega
       have x2:w.size+1≤9223372036854775807:=by omega
       have h91:(⟨#[91]⟩++u:ByteArray)=w:=hw.symm
       rw[h91]at hgo
       have hw93:(w++⟨#[93]⟩:ByteArray).size=u.size+2:=by rw[ByteArray.size_append];omega
       have hwk:=wrap_succ (k:=k) (by omega)
       refine wRUN trivial ?_
       refine wCall (op_any_call [((0,0),(0,0))] [((0,0),(0,0))] hnx) trivial ?_
       refine wRUN (j6 hwr gk x1 h91 x2 hwk) ?_
       refine⟨(k+1,b+1,w++⟨#[93]⟩),by dsimp only;omega,⟨by dsimp only;omega,by dsimp only;omega,by dsimp only;omega,n,by dsimp only;omega,hgo⟩,?_⟩
       exact wSays (Says.of [((0,0),(0,0))] []) hwk
      ·rw[if_neg hkr]at hgo
       have gk:decide ((k:Int)<((19+r:Nat):Int))=false:=decide_eq_false (by omega)
       subst hgo
       refine wRUN trivial ?_
       refine wCall (op_any_call [((0,0),(0,0))] [((0,0),(0,0))] hnx) trivial ?_
       refine wRUN (j2 hwr gk) ?_
       exact wRetOf (ret_of [((0,0),(0,0))] []) Tryz.results71 gk
    ·rw[hcB]at hB2
     obtain⟨RR,hRR⟩:∃RR,loopA bs 22 0 (a2+3) ⟨#[55]⟩=RR:=⟨_,rfl⟩
     have hin:=loopA_in bs 22 0 (a2+3) ⟨#[55]⟩
     rw[hRR]at hin
     have h9:(⟨#[55]⟩:ByteArray).size≤1:=by decide
     have hRs:RR.1.size≤100000:=by have:=hin.1;omega
     refine⟨RR.1,RR.2,hRs,?_⟩
     refine wEnter Tryz.func71 Tryz.ntmps71 ?_
     refine wRUN trivial ?_
     refine wCall (op_any_call [((0,0),(0,0))] [((0,0),(0,0)),((0,1),(7,0))] hv) trivial ?_
     refine wRUN trivial ?_
     refine w7 (op_data [(7,0)] he) trivial ?_
     refine wRUN trivial ?_
     refine wCall (op_any_call [((0,0),(0,0))] [((0,0),(0,0))] h2) trivial ?_
     refine wRUN trivial ?_
     refine wCall (op_any_call [((0,0),(0,0))] [((0,0),(0,0))] hcut) trivial ?_
     refine wRUN trivial ?_
     refine wCall (op_any_call [((0,0),(0,0))] [((0,0),(0,0))] h8) trivial ?_
     refine wRUN trivial ?_
     refine wCall (op_any_call [((0,0),(0,0))] [((0,0),(0,0))] h60) trivial ?_
     refine wRUN q0 ?_
     refine wCall (op_any_call [((0,0),(0,0))] [((0,0),(0,0))] hB2) trivial ?_
     refine wRUN trivial ?_
     refine a_loop (κ:=Nat×Nat×ByteArray) (fun x=>⟨mkS 0 59 [(0,.ptr (0,0) 0),(3,.c (.str x.2.2)),(4,.c (.int .i64 x.1))],srcM bs x.2.1⟩) (fun x=>x.1≤21∧x.2.1≤860000+x.1∧x.2.2.size≤10+2*x.1∧∃n,22-x.1≤n∧loopA bs n x.1 x.2.1 x.2.2=RR) (fun x=>22-x.1) (0,a2+3,⟨#[55]⟩) ⟨by dsimp only;omega,by dsimp only;omega,by dsimp only;omega,22,Nat.le_refl _,hRR⟩ ?_ ?_
     ·exact wSays (Says.of [((0,0),(0,0))] []) trivial
     ·rintro⟨k,b,u⟩ ⟨hk,hba,hus,n,hn,hgo⟩
      dsimp only at hk hba hus hn hgo ⊢
      obtain⟨n,rfl⟩:∃m,n=m+1:=⟨n-1,by omega⟩
      unfold loopA at hgo
      have hnx:=l1Next_ac bs hb b 3 (by omega) (by omega)
      have hlt:=nextN_lt bs b (n:=3) (by omega)
      generalize nextN bs b 3=r at *
      have hwr:IntKind.i64.wrap (19+(r:Int))=((19+r:Nat):Int):=wrap_plus (a:=19) (by omega)
      by_cases hkr:k<19+r
      ·rw[if_pos hkr]at hgo
       have gk:decide ((k:Int)<((19+r:Nat):Int))=true:=decide_eq_true (by omega)
       have x1:1+u.size≤9223372036854775807:=by omega
       obtain⟨w,hw⟩:∃w:ByteArray,w=⟨#[91]⟩++u:=⟨_,rfl⟩
       have hws:w.size=u.size+1:=by rw[hw,ByteArray.size_append];omega
       have x2:w.size+1≤9223372036854775807:=by omega
       have h91:(⟨#[91]⟩++u:ByteArray)=w:=hw.symm
       rw[h91]at hgo
       have hw93:(w++⟨#[93]⟩:ByteArray).size=u.size+2:=by rw[ByteArray.size_append];omega
       have hwk:=wrap_succ (k:=k) (by omega)
       refine wRUN trivial ?_
       refine wCall (op_any_call [((0,0),(0,0))] [((0,0),(0,0))] hnx) trivial ?_
       refine wRUN (j6 hwr gk x1 h91 x2 hwk) ?_
       refine⟨(k+1,b+1,w++⟨#[93]⟩),by dsimp only;omega,⟨by dsimp only;omega,by dsimp only;omega,by dsimp only;omega,n,by dsimp only;omega,hgo⟩,?_⟩
       exact wSays (Says.of [((0,0),(0,0))] []) hwk
      ·rw[if_neg hkr]at hgo
       have gk:decide ((k:Int)<((19+r:Nat):Int))=false:=decide_eq_false (by omega)
       subst hgo
       refine wRUN trivial ?_
       refine wCall (op_any_call [((0,0),(0,0))] [((0,0),(0,0))] hnx) trivial ?_
       refine wRUN (j2 hwr gk) ?_
       exact wRetOf (ret_of [((0,0),(0,0))] []) Tryz.results71 gk
   have q0:((k:Int)==0)=false:=by simp;omega
   by_cases hk1:k=1
   ·have q1:((k:Int)==1)=true:=by simp[hk1]
    obtain⟨RR,hRR⟩:∃RR,loopB bs 200 0 (a2+2) ⟨#[91,48]⟩=RR:=⟨_,rfl⟩
    have hin:=loopB_in bs 200 0 (a2+2) ⟨#[91,48]⟩
    rw[hRR]at hin
    have h9:(⟨#[91,48]⟩:ByteArray).size≤2:=by decide
    have hRs:(RR.1++⟨#[93]⟩:ByteArray).size≤100000:=by rw[ByteArray.size_append];have:=hin.1;omega
    refine⟨RR.1++⟨#[93]⟩,RR.2,hRs,?_⟩
    refine wEnter Tryz.func71 Tryz.ntmps71 ?_
    refine wRUN trivial ?_
    refine wCall (op_any_call [((0,0),(0,0))] [((0,0),(0,0)),((0,1),(7,0))] hv) trivial ?_
    refine wRUN trivial ?_
    refine w7 (op_data [(7,0)] he) trivial ?_
    refine wRUN trivial ?_
    refine wCall (op_any_call [((0,0),(0,0))] [((0,0),(0,0))] h2) trivial ?_
    refine wRUN trivial ?_
    refine wCall (op_any_call [((0,0),(0,0))] [((0,0),(0,0))] hcut) trivial ?_
    refine wRUN trivial ?_
    refine wCall (op_any_call [((0,0),(0,0))] [((0,0),(0,0))] h8) trivial ?_
    refine wRUN trivial ?_
    refine wCall (op_any_call [((0,0),(0,0))] [((0,0),(0,0))] h60) trivial ?_
    refine wRUN (j2 q0 q1) ?_
    refine a_loop (κ:=Nat×Nat×ByteArray) (fun x=>⟨mkS 0 59 [(0,.ptr (0,0) 0),(3,.c (.str x.2.2)),(5,.c (.int .i64 x.1))],srcM bs x.2.1⟩) (fun x=>x.1≤199∧x.2.1≤860000+x.1∧x.2.2.size≤10+2*x.1∧∃n,200-x.1≤n∧loopB bs n x.1 x.2.1 x.2.2=RR) (fun x=>200-x.1) (0,a2+2,⟨#[91,48]⟩) ⟨by dsimp only;omega,by dsimp only;omega,by dsimp only;omega,200,Nat.le_refl _,hRR⟩ ?_ ?_
    ·exact wSays (Says.of [((0,0),(0,0))] []) trivial
    ·rintro⟨k,b,u⟩ ⟨hk,hba,hus,n,hn,hgo⟩
     dsimp only at hk hba hus hn hgo ⊢
     obtain⟨n,rfl⟩:∃m,n=m+1:=⟨n-1,by omega⟩
     unfold loopB at hgo
     have hnx:=l1Next_ac bs hb b 2 (by omega) (by omega)
     have hlt:=nextN_lt bs b (n:=2) (by omega)
     generalize nextN bs b 2=r at *
     have hwr:IntKind.i64.wrap (198+(r:Int))=((198+r:Nat):Int):=wrap_plus (a:=198) (by omega)
     by_cases hkr:k<198+r
     ·rw[if_pos hkr]at hgo
      have gk:decide ((k:Int)<((198+r:Nat):Int))=true:=decide_eq_true (by omega)
      have x1:u.size+2≤9223372036854775807:=by omega
      have hwk:=wrap_succ (k:=k) (by omega)
      refine wRUN trivial ?_
      refine wCall (op_any_call [((0,0),(0,0))] [((0,0),(0,0))] hnx) trivial ?_
      refine wRUN (j4 hwr gk x1 hwk) ?_
      refine⟨(k+1,b+1,u++⟨#[44,49]⟩),by dsimp only;omega,⟨by dsimp only;omega,by dsimp only;omega,by dsimp only;rw[ByteArray.size_append];omega,n,by dsimp only;omega,hgo⟩,?_⟩
      exact wSays (Says.of [((0,0),(0,0))] []) hwk
     ·rw[if_neg hkr]at hgo
      have gk:decide ((k:Int)<((198+r:Nat):Int))=false:=decide_eq_false (by omega)
      have x1:u.size+1≤9223372036854775807:=by omega
      subst hgo
      refine wRUN trivial ?_
      refine wCall (op_any_call [((0,0),(0,0))] [((0,0),(0,0))] hnx) trivial ?_
      refine wRUN (j3 hwr gk x1) ?_
      exact wRetOf (ret_of [((0,0),(0,0))] []) Tryz.results71 gk
   have q1:((k:Int)==1)=false:=by simp;omega
   by_cases hk2:k=2
   ·have q2:((k:Int)==2)=true:=by simp[hk2]
    obtain⟨RR,hRR⟩:∃RR,loopC bs 4003 (a2+2) t1=RR:=⟨_,rfl⟩
    have hin:=loopC_in bs 4003 (a2+2) t1
    rw[hRR]at hin
    have hRs:RR.1.size≤100000:=by have:=hin.1;omega
    refine⟨RR.1,RR.2,hRs,?_⟩
    refine wEnter Tryz.func71 Tryz.ntmps71 ?_
    refine wRUN trivial ?_
    refine wCall (op_any_call [((0,0),(0,0))] [((0,0),(0,0)),((0,1),(7,0))] hv) trivial ?_
    refine wRUN trivial ?_
    refine w7 (op_data [(7,0)] he) trivial ?_
    refine wRUN trivial ?_
    refine wCall (op_any_call [((0,0),(0,0))] [((0,0),(0,0))] h2) trivial ?_
    refine wRUN trivial ?_
    refine wCall (op_any_call [((0,0),(0,0))] [((0,0),(0,0))] hcut) trivial ?_
    refine wRUN trivial ?_
    refine wCall (op_any_call [((0,0),(0,0))] [((0,0),(0,0))] h8) trivial ?_
    refine wRUN trivial ?_
    refine wCall (op_any_call [((0,0),(0,0))] [((0,0),(0,0))] h60) trivial ?_
    refine wRUN (j3 q0 q1 q2) ?_
    refine a_loop (κ:=Nat×ByteArray) (fun x=>⟨mkS 0 59 [(0,.ptr (0,0) 0),(3,.c (.str x.2))],srcM bs x.1⟩) (fun x=>x.1+(4002-x.2.size)≤870000∧x.2.size≤60000∧∃n,4002-x.2.size<n∧loopC bs n x.1 x.2=RR) (fun x=>4002-x.2.size) (a2+2,t1) ⟨by dsimp only;omega,by dsimp only;omega,4003,by dsimp only;omega,hRR⟩ ?_ ?_
    ·exact wSays (Says.of [((0,0),(0,0))] []) trivial
    ·rintro⟨b,u⟩ ⟨hba,hus,n,hn,hgo⟩
     dsimp only at hba hus hn hgo ⊢
     obtain⟨n,rfl⟩:∃m,n=m+1:=⟨n-1,by omega⟩
     unfold loopC at hgo
     have hnx:=l1Next_ac bs hb b 2 (by omega) (by omega)
     have hlt:=nextN_lt bs b (n:=2) (by omega)
     generalize nextN bs b 2=r at *
     have hwr:IntKind.i64.wrap (4000+(r:Int))=((4000+r:Nat):Int):=wrap_plus (a:=4000) (by omega)
     by_cases hkr:u.size<4000+r
     ·rw[if_pos hkr]at hgo
      have gk:decide ((u.size:Int)<((4000+r:Nat):Int))=true:=decide_eq_true (by omega)
      have x1:u.size+2≤9223372036854775807:=by omega
      have hap:(u++⟨#[32,32]⟩:ByteArray).size=u.size+2:=by rw[ByteArray.size_append];omega
      refine wRUN trivial ?_
      refine wCall (op_any_call [((0,0),(0,0))] [((0,0),(0,0))] hnx) trivial ?_
      refine wRUN (j3 hwr gk x1) ?_
      refine⟨(b+1,u++⟨#[32,32]⟩),by dsimp only;omega,⟨by dsimp only;omega,by dsimp only;omega,n,by dsimp only;omega,hgo⟩,?_⟩
      exact wSays (Says.of [((0,0),(0,0))] []) trivial
     ·rw[if_neg hkr]at hgo
      have gk:decide ((u.size:Int)<((4000+r:Nat):Int))=false:=decide_eq_false (by omega)
      subst hgo
      refine wRUN trivial ?_
      refine wCall (op_any_call [((0,0),(0,0))] [((0,0),(0,0))] hnx) trivial ?_
      refine wRUN (j2 hwr gk) ?_
      exact wRetOf (ret_of [((0,0),(0,0))] []) Tryz.results71 gk
   have q2:((k:Int)==2)=false:=by simp;omega
   refine⟨t1,a2+2,by omega,?_⟩
   refine wEnter Tryz.func71 Tryz.ntmps71 ?_
   refine wRUN trivial ?_
   refine wCall (op_any_call [((0,0),(0,0))] [((0,0),(0,0)),((0,1),(7,0))] hv) trivial ?_
   refine wRUN trivial ?_
   refine w7 (op_data [(7,0)] he) trivial ?_
   refine wRUN trivial ?_
   refine wCall (op_any_call [((0,0),(0,0))] [((0,0),(0,0))] h2) trivial ?_
   refine wRUN trivial ?_
   refine wCall (op_any_call [((0,0),(0,0))] [((0,0),(0,0))] hcut) trivial ?_
   refine wRUN trivial ?_
   refine wCall (op_any_call [((0,0),(0,0))] [((0,0),(0,0))] h8) trivial ?_
   refine wRUN trivial ?_
   refine wCall (op_any_call [((0,0),(0,0))] [((0,0),(0,0))] h60) trivial ?_
   refine wRUN (j3 q0 q1 q2) ?_
   exact wRetOf (ret_of [((0,0),(0,0))] []) Tryz.results71 q0
  ·rw[hc8]at h8
   have hTs:t2.size≤55000:=by omega
   by_cases hk0:k=0
   ·have q0:((k:Int)==0)=true:=by simp[hk0]
    cases hcB:(nextN bs (a2+2) 2==0)
    ·rw[hcB]at hB2
     obtain⟨RR,hRR⟩:∃RR,loopA bs 22 0 (a2+3) ByteArray.empty=RR:=⟨_,rfl⟩
     have hin:=loopA_in bs 22 0 (a2+3) ByteArray.empty
     rw[hRR]at hin
     have h9:(ByteArray.empty:ByteArray).size≤1:=by decide
     have hRs:RR.1.size≤100000:=by have:=hin.1;omega
     refine⟨RR.1,RR.2,hRs,?_⟩
     refine wEnter Tryz.func71 Tryz.ntmps71 ?_
     refine wRUN trivial ?_
     refine wCall (op_any_call [((0,0),(0,0))] [((0,0),(0,0)),((0,1),(7,0))] hv) trivial ?_
     refine wRUN trivial ?_
     refine w7 (op_data [(7,0)] he) trivial ?_
     refine wRUN trivial ?_
     refine wCall (op_any_call [((0,0),(0,0))] [((0,0),(0,0))] h2) trivial ?_
     refine wRUN trivial ?_
     refine wCall (op_any_call [((0,0),(0,0))] [((0,0),(0,0))] hcut) trivial ?_
     refine wRUN trivial ?_
     refine wCall (op_any_call [((0,0),(0,0))] [((0,0),(0,0))] h8) trivial ?_
     refine wRUN (j4 x81 h81 x82 h82) ?_
     refine wCall (op_any_call [((0,0),(0,0))] [((0,0),(0,0))] h60) trivial ?_
     refine wRUN q0 ?_
     refine wCall (op_any_call [((0,0),(0,0))] [((0,0),(0,0))] hB2) trivial ?_
     refine wRUN trivial ?_
     refine a_loop (κ:=Nat×Nat×ByteArray) (fun x=>⟨mkS 0 59 [(0,.ptr (0,0) 0),(3,.c (.str x.2.2)),(4,.c (.int .i64 x.1))],srcM bs x.2.1⟩) (fun x=>x.1≤21∧x.2.1≤860000+x.1∧x.2.2.size≤10+2*x.1∧∃n,22-x.1≤n∧loopA bs n x.1 x.2.1 x.2.2=RR) (fun x=>22-x.1) (0,a2+3,ByteArray.empty) ⟨by dsimp only;omega,by dsimp only;omega,by dsimp only;omega,22,Nat.le_refl _,hRR⟩ ?_ ?_
     ·exact wSays (Says.of [((0,0),(0,0))] []) trivial
     ·rintro⟨k,b,u⟩ ⟨hk,hba,hus,n,hn,hgo⟩
      dsimp only at hk hba hus hn hgo ⊢
      obtain⟨n,rfl⟩:∃m,n=m+1:=⟨n-1,by omega⟩
      unfold loopA at hgo
      have hnx:=l1Next_ac bs hb b 3 (by omega) (by omega)
      have hlt:=nextN_lt bs b (n:=3) (by omega)
      generalize nextN bs b 3=r at *
      have hwr:IntKind.i64.wrap (19+(r:Int))=((19+r:Nat):Int):=wrap_plus (a:=19) (by omega)
      by_cases hkr:k<19+r
      ·rw[if_pos hkr]at hgo
       have gk:decide ((k:Int)<((19+r:Nat):Int))=true:=decide_eq_true (by omega)
       have x1:1+u.size≤9223372036854775807:=by omega
       obtain⟨w,hw⟩:∃w:ByteArray,w=⟨#[91]⟩++u:=⟨_,rfl⟩
       have hws:w.size=u.size+1:=by rw[hw,ByteArray.size_append];omega
       have x2:w.size+1≤9223372036854775807:=by omega
       have h91:(⟨#[91]⟩++u:ByteArray)=w:=hw.symm
       rw[h91]at hgo
       have hw93:(w++⟨#[93]⟩:ByteArray).size=u.size+2:=by rw[ByteArray.size_append];omega
       have hwk:=wrap_succ (k:=k) (by omega)
       refine wRUN trivial ?_
       refine wCall (op_any_call [((0,0),(0,0))] [((0,0),(0,0))] hnx) trivial ?_
       refine wRUN (j6 hwr gk x1 h91 x2 hwk) ?_
       refine⟨(k+1,b+1,w++⟨#[93]⟩),by dsimp only;omega,⟨by dsimp only;omega,by dsimp only;omega,by dsimp only;omega,n,by dsimp only;omega,hgo⟩,?_⟩
       exact wSays (Says.of [((0,0),(0,0))] []) hwk
      ·rw[if_neg hkr]at hgo
       have gk:decide ((k:Int)<((19+r:Nat):Int))=false:=decide_eq_false (by omega)
       subst hgo
       refine wRUN trivial ?_
       refine wCall (op_any_call [((0,0),(0,0))] [((0,0),(0,0))] hnx) trivial ?_
       refine wRUN (j2 hwr gk) ?_
       exact wRetOf (ret_of [((0,0),(0,0))] []) Tryz.results71 gk
    ·rw[hcB]at hB2
     obtain⟨RR,hRR⟩:∃RR,loopA bs 22 0 (a2+3) ⟨#[55]⟩=RR:=⟨_,rfl⟩
     have hin:=loopA_in bs 22 0 (a2+3) ⟨#[55]⟩
     rw[hRR]at hin
     have h9:(⟨#[55]⟩:ByteArray).size≤1:=by decide
     have hRs:RR.1.size≤100000:=by have:=hin.1;omega
     refine⟨RR.1,RR.2,hRs,?_⟩
     refine wEnter Tryz.func71 Tryz.ntmps71 ?_
     refine wRUN trivial ?_
     refine wCall (op_any_call [((0,0),(0,0))] [((0,0),(0,0)),((0,1),(7,0))] hv) trivial ?_
     refine wRUN trivial ?_
     refine w7 (op_data [(7,0)] he) trivial ?_
     refine wRUN trivial ?_
     refine wCall (op_any_call [((0,0),(0,0))] [((0,0),(0,0))] h2) trivial ?_
     refine wRUN trivial ?_
     refine wCall (op_any_call [((0,0),(0,0))] [((0,0),(0,0))] hcut) trivial ?_
     refine wRUN trivial ?_
     refine wCall (op_any_call [((0,0),(0,0))] [((0,0),(0,0))] h8) trivial ?_
     refine wRUN (j4 x81 h81 x82 h82) ?_
     refine wCall (op_any_call [((0,0),(0,0))] [((0,0),(0,0))] h60) trivial ?_
     refine wRUN q0 ?_
     refine wCall (op_any_call [((0,0),(0,0))] [((0,0),(0,0))] hB2) trivial ?_
     refine wRUN trivial ?_
     refine a_loop (κ:=Nat×Nat×ByteArray) (fun x=>⟨mkS 0 59 [(0,.ptr (0,0) 0),(3,.c (.str x.2.2)),(4,.c (.int .i64 x.1))],srcM bs x.2.1⟩) (fun x=>x.1≤21∧x.2.1≤860000+x.1∧x.2.2.size≤10+2*x.1∧∃n,22-x.1≤n∧loopA bs n x.1 x.2.1 x.2.2=RR) (fun x=>22-x.1) (0,a2+3,⟨#[55]⟩) ⟨by dsimp only;omega,by dsimp only;omega,by dsimp only;omega,22,Nat.le_refl _,hRR⟩ ?_ ?_
     ·exact wSays (Says.of [((0,0),(0,0))] []) trivial
     ·rintro⟨k,b,u⟩ ⟨hk,hba,hus,n,hn,hgo⟩
      dsimp only at hk hba hus hn hgo ⊢
      obtain⟨n,rfl⟩:∃m,n=m+1:=⟨n-1,by omega⟩
      unfold loopA at hgo
      have hnx:=l1Next_ac bs hb b 3 (by omega) (by omega)
      have hlt:=nextN_lt bs b (n:=3) (by omega)
      generalize nextN bs b 3=r at *
      have hwr:IntKind.i64.wrap (19+(r:Int))=((19+r:Nat):Int):=wrap_plus (a:=19) (by omega)
      by_cases hkr:k<19+r
      ·rw[if_pos hkr]at hgo
       have gk:decide ((k:Int)<((19+r:Nat):Int))=true:=decide_eq_true (by omega)
       have x1:1+u.size≤9223372036854775807:=by omega
       obtain⟨w,hw⟩:∃w:ByteArray,w=⟨#[91]⟩++u:=⟨_,rfl⟩
       have hws:w.size=u.size+1:=by rw[hw,ByteArray.size_append];omega
       have x2:w.size+1≤9223372036854775807:=by omega
       have h91:(⟨#[91]⟩++u:ByteArray)=w:=hw.symm
       rw[h91]at hgo
       have hw93:(w++⟨#[93]⟩:ByteArray).size=u.size+2:=by rw[ByteArray.size_append];omega
       have hwk:=wrap_succ (k:=k) (by omega)
       refine wRUN trivial ?_
       refine wCall (op_any_call [((0,0),(0,0))] [((0,0),(0,0))] hnx) trivial ?_
       refine wRUN (j6 hwr gk x1 h91 x2 hwk) ?_
       refine⟨(k+1,b+1,w++⟨#[93]⟩),by dsimp only;omega,⟨by dsimp only;omega,by dsimp only;omega,by dsimp only;omega,n,by dsimp only;omega,hgo⟩,?_⟩
       exact wSays (Says.of [((0,0),(0,0))] []) hwk
      ·rw[if_neg hkr]at hgo
       have gk:decide ((k:Int)<((19+r:Nat):Int))=false:=decide_eq_false (by omega)
       subst hgo
       refine wRUN trivial ?_
       refine wCall (op_any_call [((0,0),(0,0))] [((0,0),(0,0))] hnx) trivial ?_
       refine wRUN (j2 hwr gk) ?_
       exact wRetOf (ret_of [((0,0),(0,0))] []) Tryz.results71 gk
   have q0:((k:Int)==0)=false:=by simp;omega
   by_cases hk1:k=1
   ·have q1:((k:Int)==1)=true:=by simp[hk1]
    obtain⟨RR,hRR⟩:∃RR,loopB bs 200 0 (a2+2) ⟨#[91,48]⟩=RR:=⟨_,rfl⟩
    have hin:=loopB_in bs 200 0 (a2+2) ⟨#[91,48]⟩
    rw[hRR]at hin
    have h9:(⟨#[91,48]⟩:ByteArray).size≤2:=by decide
    have hRs:(RR.1++⟨#[93]⟩:ByteArray).size≤100000:=by rw[ByteArray.size_append];have:=hin.1;omega
    refine⟨RR.1++⟨#[93]⟩,RR.2,hRs,?_⟩
    refine wEnter Tryz.func71 Tryz.ntmps71 ?_
    refine wRUN trivial ?_
    refine wCall (op_any_call [((0,0),(0,0))] [((0,0),(0,0)),((0,1),(7,0))] hv) trivial ?_
    refine wRUN trivial ?_
    refine w7 (op_data [(7,0)] he) trivial ?_
    refine wRUN trivial ?_
    refine wCall (op_any_call [((0,0),(0,0))] [((0,0),(0,0))] h2) trivial ?_
    refine wRUN trivial ?_
    refine wCall (op_any_call [((0,0),(0,0))] [((0,0),(0,0))] hcut) trivial ?_
    refine wRUN trivial ?_
    refine wCall (op_any_call [((0,0),(0,0))] [((0,0),(0,0))] h8) trivial ?_
    refine wRUN (j4 x81 h81 x82 h82) ?_
    refine wCall (op_any_call [((0,0),(0,0))] [((0,0),(0,0))] h60) trivial ?_
    refine wRUN (j2 q0 q1) ?_
    refine a_loop (κ:=Nat×Nat×ByteArray) (fun x=>⟨mkS 0 59 [(0,.ptr (0,0) 0),(3,.c (.str x.2.2)),(5,.c (.int .i64 x.1))],srcM bs x.2.1⟩) (fun x=>x.1≤199∧x.2.1≤860000+x.1∧x.2.2.size≤10+2*x.1∧∃n,200-x.1≤n∧loopB bs n x.1 x.2.1 x.2.2=RR) (fun x=>200-x.1) (0,a2+2,⟨#[91,48]⟩) ⟨by dsimp only;omega,by dsimp only;omega,by dsimp only;omega,200,Nat.le_refl _,hRR⟩ ?_ ?_
    ·exact wSays (Says.of [((0,0),(0,0))] []) trivial
    ·rintro⟨k,b,u⟩ ⟨hk,hba,hus,n,hn,hgo⟩
     dsimp only at hk hba hus hn hgo ⊢
     obtain⟨n,rfl⟩:∃m,n=m+1:=⟨n-1,by omega⟩
     unfold loopB at hgo
     have hnx:=l1Next_ac bs hb b 2 (by omega) (by omega)
     have hlt:=nextN_lt bs b (n:=2) (by omega)
     generalize nextN bs b 2=r at *
     have hwr:IntKind.i64.wrap (198+(r:Int))=((198+r:Nat):Int):=wrap_plus (a:=198) (by omega)
     by_cases hkr:k<198+r
     ·rw[if_pos hkr]at hgo
      have gk:decide ((k:Int)<((198+r:Nat):Int))=true:=decide_eq_true (by omega)
      have x1:u.size+2≤9223372036854775807:=by omega
      have hwk:=wrap_succ (k:=k) (by omega)
      refine wRUN trivial ?_
      refine wCall (op_any_call [((0,0),(0,0))] [((0,0),(0,0))] hnx) trivial ?_
      refine wRUN (j4 hwr gk x1 hwk) ?_
      refine⟨(k+1,b+1,u++⟨#[44,49]⟩),by dsimp only;omega,⟨by dsimp only;omega,by dsimp only;omega,by dsimp only;rw[ByteArray.size_append];omega,n,by dsimp only;omega,hgo⟩,?_⟩
      exact wSays (Says.of [((0,0),(0,0))] []) hwk
     ·rw[if_neg hkr]at hgo
      have gk:decide ((k:Int)<((198+r:Nat):Int))=false:=decide_eq_false (by omega)
      have x1:u.size+1≤9223372036854775807:=by omega
      subst hgo
      refine wRUN trivial ?_
      refine wCall (op_any_call [((0,0),(0,0))] [((0,0),(0,0))] hnx) trivial ?_
      refine wRUN (j3 hwr gk x1) ?_
      exact wRetOf (ret_of [((0,0),(0,0))] []) Tryz.results71 gk
   have q1:((k:Int)==1)=false:=by simp;omega
   by_cases hk2:k=2
   ·have q2:((k:Int)==2)=true:=by simp[hk2]
    obtain⟨RR,hRR⟩:∃RR,loopC bs 4003 (a2+2) t2=RR:=⟨_,rfl⟩
    have hin:=loopC_in bs 4003 (a2+2) t2
    rw[hRR]at hin
    have hRs:RR.1.size≤100000:=by have:=hin.1;omega
    refine⟨RR.1,RR.2,hRs,?_⟩
    refine wEnter Tryz.func71 Tryz.ntmps71 ?_
    refine wRUN trivial ?_
    refine wCall (op_any_call [((0,0),(0,0))] [((0,0),(0,0)),((0,1),(7,0))] hv) trivial ?_
    refine wRUN trivial ?_
    refine w7 (op_data [(7,0)] he) trivial ?_
    refine wRUN trivial ?_
    refine wCall (op_any_call [((0,0),(0,0))] [((0,0),(0,0))] h2) trivial ?_
    refine wRUN trivial ?_
    refine wCall (op_any_call [((0,0),(0,0))] [((0,0),(0,0))] hcut) trivial ?_
    refine wRUN trivial ?_
    refine wCall (op_any_call [((0,0),(0,0))] [((0,0),(0,0))] h8) trivial ?_
    refine wRUN (j4 x81 h81 x82 h82) ?_
    refine wCall (op_any_call [((0,0),(0,0))] [((0,0),(0,0))] h60) trivial ?_
    refine wRUN (j3 q0 q1 q2) ?_
    refine a_loop (κ:=Nat×ByteArray) (fun x=>⟨mkS 0 59 [(0,.ptr (0,0) 0),(3,.c (.str x.2))],srcM bs x.1⟩) (fun x=>x.1+(4002-x.2.size)≤870000∧x.2.size≤60000∧∃n,4002-x.2.size<n∧loopC bs n x.1 x.2=RR) (fun x=>4002-x.2.size) (a2+2,t2) ⟨by dsimp only;omega,by dsimp only;omega,4003,by dsimp only;omega,hRR⟩ ?_ ?_
    ·exact wSays (Says.of [((0,0),(0,0))] []) trivial
    ·rintro⟨b,u⟩ ⟨hba,hus,n,hn,hgo⟩
     dsimp only at hba hus hn hgo ⊢
     obtain⟨n,rfl⟩:∃m,n=m+1:=⟨n-1,by omega⟩
     unfold loopC at hgo
     have hnx:=l1Next_ac bs hb b 2 (by omega) (by omega)
     have hlt:=nextN_lt bs b (n:=2) (by omega)
     generalize nextN bs b 2=r at *
     have hwr:IntKind.i64.wrap (4000+(r:Int))=((4000+r:Nat):Int):=wrap_plus (a:=4000) (by omega)
     by_cases hkr:u.size<4000+r
     ·rw[if_pos hkr]at hgo
      have gk:decide ((u.size:Int)<((4000+r:Nat):Int))=true:=decide_eq_true (by omega)
      have x1:u.size+2≤9223372036854775807:=by omega
      have hap:(u++⟨#[32,32]⟩:ByteArray).size=u.size+2:=by rw[ByteArray.size_append];omega
      refine wRUN trivial ?_
      refine wCall (op_any_call [((0,0),(0,0))] [((0,0),(0,0))] hnx) trivial ?_
      refine wRUN (j3 hwr gk x1) ?_
      refine⟨(b+1,u++⟨#[32,32]⟩),by dsimp only;omega,⟨by dsimp only;omega,by dsimp only;omega,n,by dsimp only;omega,hgo⟩,?_⟩
      exact wSays (Says.of [((0,0),(0,0))] []) trivial
     ·rw[if_neg hkr]at hgo
      have gk:decide ((u.size:Int)<((4000+r:Nat):Int))=false:=decide_eq_false (by omega)
      subst hgo
      refine wRUN trivial ?_
      refine wCall (op_any_call [((0,0),(0,0))] [((0,0),(0,0))] hnx) trivial ?_
      refine wRUN (j2 hwr gk) ?_
      exact wRetOf (ret_of [((0,0),(0,0))] []) Tryz.results71 gk
   have q2:((k:Int)==2)=false:=by simp;omega
   refine⟨t2,a2+2,by omega,?_⟩
   refine wEnter Tryz.func71 Tryz.ntmps71 ?_
   refine wRUN trivial ?_
   refine wCall (op_any_call [((0,0),(0,0))] [((0,0),(0,0)),((0,1),(7,0))] hv) trivial ?_
   refine wRUN trivial ?_
   refine w7 (op_data [(7,0)] he) trivial ?_
   refine wRUN trivial ?_
   refine wCall (op_any_call [((0,0),(0,0))] [((0,0),(0,0))] h2) trivial ?_
   refine wRUN trivial ?_
   refine wCall (op_any_call [((0,0),(0,0))] [((0,0),(0,0))] hcut) trivial ?_
   refine wRUN trivial ?_
   refine wCall (op_any_call [((0,0),(0,0))] [((0,0),(0,0))] h8) trivial ?_
   refine wRUN (j4 x81 h81 x82 h82) ?_
   refine wCall (op_any_call [((0,0),(0,0))] [((0,0),(0,0))] h60) trivial ?_
   refine wRUN (j3 q0 q1 q2) ?_
   exact wRetOf (ret_of [((0,0),(0,0))] []) Tryz.results71 q0
theorem drawDec_ac (bs:List Nat) (hb:BytesOk bs):∃u:ByteArray,u.size≤100000∧AC Tryz.prog 35 [.c (.sl (bs.map byteCs))] [] (.c (.str u)) []:=by
 have s0:=l1Source_ac bs
 obtain⟨u,a',hu,hc⟩:=l2Draw_ac bs hb 0 (by omega)
 refine⟨u,hu,?_⟩
 refine wEnter Tryz.func35 Tryz.ntmps35 ?_
 refine wRUN trivial ?_
 refine w12 (op_rowF [] s0) trivial ?_
 refine wRUN trivial ?_
 refine wCall (op_any_call [((0,0),(4,0))] [((0,0),(4,0))] hc) trivial ?_
 refine wRUN trivial ?_
 exact wRet (ret_data []) Tryz.results35
end Go.Proofs.YtlciedpfjhkkdaaGreatDoor
