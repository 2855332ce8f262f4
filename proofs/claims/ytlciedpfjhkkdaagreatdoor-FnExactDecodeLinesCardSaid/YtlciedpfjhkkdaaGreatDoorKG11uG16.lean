/- Texts of this proof: G11 G12 G14 G16. -/
import Derived.Test.YtlciedpfjhkkdaaGreatDoorKG10
set_option linter.all false
set_option maxHeartbeats 8000000
namespace Go.Proofs.YtlciedpfjhkkdaaGreatDoor
open Go.RowKit
def F7 (xs:List CellD):List C:=[.osl (xs.map CellD.cs)]
def Eu (w:World):List (List CellD)→List Value→List Nat→Prop
 | [],vs,bs=>vs=[]∧bs=[]
 |x::l,vs,bs=>∃v vs' b1 b2,vs=v::vs'∧bs=b1++b2∧CR w (fun _=>False) (.osl (x.map CellD.cs)) v b1∧Eu w l vs' b2
theorem IL {w:World}{S T:Nat→Prop}{xs:List CellD}{v:Value}{bs:List Nat}(h:CR w S (.osl (xs.map CellD.cs)) v bs):CR w T (.osl (xs.map CellD.cs)) v bs:=by
 simp only[CR]at h ⊢
 obtain⟨es,vrows,bs',e,h1,h2,h3,h4⟩:=h
 exact⟨es,vrows,bs',e,(BW Dk).2 ((BW Dk).1 h1),h2,h3,h4⟩
theorem NK {w:World}{S:Nat→Prop}:∀{l:List (List CellD)}{vrows:List (List Value)}{bs:List Nat},Ab w S (l.map F7) vrows bs→∃vs,vrows=vs.map (fun v=>[v])∧Eu w l vs bs
 | [],vrows,bs,h=>by
  simp only[List.map_nil,Ab]at h
  exact⟨[],by rw[h.1];rfl,rfl,h.2⟩
 |x::l,vrows,bs,h=>by
  simp only[List.map_cons,Ab]at h
  obtain⟨r,rs,b1,b2,rfl,rfl,h1,h2⟩:=h
  obtain⟨vs,rfl,h3⟩:=NK h2
  simp only[F7,CRs]at h1
  obtain⟨v,vs',b3,b4,rfl,rfl,h4,rfl,rfl⟩:=h1
  exact⟨v::vs,rfl,v,vs,b3,b2,rfl,by simp,IL h4,h3⟩
theorem Of {w:World}{S:Nat→Prop}:∀{l:List (List CellD)}{vs:List Value}{bs:List Nat},Eu w l vs bs→Ab w S (l.map F7) (vs.map fun v=>[v]) bs
 | [],vs,bs,h=>by
  obtain⟨rfl,rfl⟩:=h
  exact⟨rfl,rfl⟩
 |x::l,vs,bs,h=>by
  obtain⟨v,vs',b1,b2,rfl,rfl,h1,h2⟩:=h
  exact⟨_,_,b1,b2,rfl,rfl,⟨v,[],b1,[],rfl,by simp,IL h1,rfl,rfl⟩,Of h2⟩
theorem Eu.length {w:World}:∀{l:List (List CellD)}{vs:List Value}{bs:List Nat},Eu w l vs bs→vs.length=l.length
 | [],vs,bs,h=>by rw[h.1];rfl
 |x::l,vs,bs,h=>by
  obtain⟨v,vs',b1,b2,rfl,rfl,h1,h2⟩:=h
  simp[Eu.length h2]
theorem Eu.keep {w w':World}(hz:w.heap.size≤w'.heap.size):∀{l:List (List CellD)}{vs:List Value}{bs:List Nat},(∀b,b∈bs→b<w.heap.size→w'.heap[b]? = w.heap[b]?)→Eu w l vs bs→Eu w' l vs bs
 | [],vs,bs,_,h=>h
 |x::l,vs,bs,hb,h=>by
  obtain⟨v,vs',b1,b2,rfl,rfl,h1,h2⟩:=h
  exact⟨v,vs',b1,b2,rfl,rfl,CR.keep hz (fun b hf=>hf.elim) (fun b hb1=>hb b (by simp[hb1])) h1,Eu.keep hz (fun b hb2=>hb b (by simp[hb2])) h2⟩
theorem Eu.at_ {w:World}:∀{l:List (List CellD)}{vs:List Value}{bs:List Nat},Eu w l vs bs→bs.Nodup→∀{i:Nat}(hi:i<l.length),∃v bi,vs[i]? = some v∧CR w (fun _=>False) (.osl (l[i].map CellD.cs)) v bi∧(∀b,b∈bi→b∈bs) ∧
  ∀(w':World) (y:List CellD),w.heap.size≤w'.heap.size→CR w' (fun _=>False) (.osl (y.map CellD.cs)) v bi→(∀b,b∈bs→b ∉ bi→b<w.heap.size→w'.heap[b]? = w.heap[b]?)→Eu w' (l.set i y) vs bs
 | [],vs,bs,_,_,i,hi=>by simp at hi
 |x::l,vs,bs,h,hnd,0,_=>by
  obtain⟨v,vs',b1,b2,rfl,rfl,h1,h2⟩:=h
  refine⟨v,b1,rfl,h1,fun b hb=>by simp[hb],fun w' y hz hy hk=>⟨v,vs',b1,b2,rfl,rfl,hy,Eu.keep hz (fun b hb=>hk b (by simp[hb]) ?_) h2⟩⟩
  intro hb1
  exact (List.nodup_append.1 hnd).2.2 b hb1 b hb rfl
 |x::l,vs,bs,h,hnd,i+1,hi=>by
  obtain⟨v,vs',b1,b2,rfl,rfl,h1,h2⟩:=h
  obtain⟨v1,bi,g1,g2,g3,g4⟩:=Eu.at_ h2 (List.nodup_append.1 hnd).2.1 (i:=i) (by simpa using hi)
  refine⟨v1,bi,by simpa using g1,by simpa using g2,fun b hb=>by simp[g3 b hb],fun w' y hz hy hk=>⟨v,vs',b1,b2,rfl,rfl,CR.keep hz (fun b hf=>hf.elim) (fun b hb=>hk b (by simp[hb]) ?_) h1,g4 w' y hz hy fun b hb=>hk b (by simp[hb])⟩⟩
  intro hbi
  exact (List.nodup_append.1 hnd).2.2 b hb b (g3 b hbi) rfl
def tot (l:List (List CellD)):Nat:=(l.map List.length).sum
def BT (K:Nat):List (List CellD)→List (List CellD)
 | []=>[]
 |x::l=>BA K x.length::BT (K+5*x.length) l
theorem Dg:∀(K:Nat) (l:List (List CellD)),(BT K l).length=l.length
 |_,[]=>rfl
 |K,x::l=>by simp[BT,Dg]
theorem HW:∀(K:Nat) (l:List (List CellD)) (x:List CellD),BT K (l++[x])=BT K l++[BA (K+5*tot l) x.length]
 |K,[],x=>by simp[BT,tot]
 |K,y::l,x=>by
  simp only[List.cons_append,BT,HW,tot,List.map_cons,List.sum_cons]
  rw[show K+5*y.length+5*(l.map List.length).sum=K+5*(y.length+(l.map List.length).sum) by omega]
theorem KR (l:List (List CellD)) (x:List CellD):tot (l++[x])=tot l+x.length:=by simp[tot]
theorem G0 (l:List (List CellD)) (i:Nat):tot (l.take i)≤tot l:=by
 have:tot l=tot (l.take i)+tot (l.drop i):=by
  unfold tot
  rw[←List.sum_append,←List.map_append,List.take_append_drop]
 omega
def Dz (K:Nat) (l:List (List CellD)) (i:Nat):List (List CellD):=BT K (l.take i)++l.drop i
theorem Ox {K:Nat}{l:List (List CellD)}{i:Nat}(h:i≤l.length):(Dz K l i).length=l.length:=by simp[Dz,Dg];omega
theorem QB {K:Nat}{l:List (List CellD)}{i:Nat}(h:i<l.length):(Dz K l i)[i]? = some l[i]:=by
 have hm:(BT K (l.take i)).length=i:=by rw[Dg,List.length_take];omega
 unfold Dz
 rw[List.getElem?_append_right (by omega),hm,List.getElem?_drop]
 simp[h]
theorem N0 {K:Nat}{l:List (List CellD)}{i:Nat}(h:i<l.length):(Dz K l i).set i (BA (K+5*tot (l.take i)) l[i].length)=Dz K l (i+1):=by
 have hm:(BT K (l.take i)).length=i:=by rw[Dg,List.length_take];omega
 have hd:(l.drop i).set 0 (BA (K+5*tot (l.take i)) l[i].length)=BA (K+5*tot (l.take i)) l[i].length::l.drop (i+1):=by rw[List.drop_eq_getElem_cons h];rfl
 unfold Dz
 rw[List.set_append_right _ _ (by omega),hm,Nat.sub_self,hd,List.take_succ_eq_append_getElem h,HW]
 simp
set_option maxRecDepth 100000 in
theorem Gt (l:List (List CellD)) (K:Nat) (hK:K+5*tot l≤3000000000) (hl9:l.length≤1048576) {w:World}{v:Value}{vs:List Value}{bs:List Nat}{e:TypeId}(hn:Eu w l vs bs) (hnd:(v.ownBlock.toList++bs).Nodup)
  (hlt:∀b,b∈v.ownBlock.toList++bs→b<w.heap.size) (ho:w.ownsRow 0 e 1 v l.length (vs.map fun v=>[v]).flatten) :
  Calls Tryz.prog 34 #[v,.int .i64 K] w fun e1 w'=>e1=.returned (.int .i64 ((K+5*tot l:Nat):Int))∧Eu w' (BT K l) vs bs∧(∀b,b<w.heap.size→b ∉ bs→w'.heap[b]? = w.heap[b]?)∧w.heap.size≤w'.heap.size∧(w'.os=w.os∧w'.tape=w.tape∧w'.output=w.output):=by
 have hvl:=hn.length
 obtain⟨A,cap,rfl,hcap,_,hrow⟩:=Row.of_owns (T:=fun b=>v.ownBlock=some b) (xs:=vs.map fun v=>[v]) (by simp) (by simp[hvl]) (.inl (by decide)) ho (fun b hb=>hb)
 have H0:Hid (∀(wr:World),(∀b,b<w.heap.size→b ∉ bs→wr.heap[b]? = w.heap[b]?)→∀i (hi:i<l.length) (v1:Value),vs[i]? = some v1→∃b off,A=some ⟨b,off,none⟩∧wr.cell? ⟨b,off+i,none⟩=some v1∧b<w.heap.size):=Lib.hid (by
  intro wr hf i hi v1 hv1
  obtain⟨b,off,hA,hb,hbl,hc⟩:=hrow.2 (by simp[hvl];omega)
  have hbb:b ∉ bs:=by
   intro hbs
   rw[show (Value.slice A l.length cap).ownBlock=some b from hb]at hnd
   simp at hnd
   exact hnd.1 hbs
  refine⟨b,off,hA,?_,hbl⟩
  have:=hc i [v1] (by simp[hv1]) 0 v1 rfl
  rw[World.cell?_of_block (hf b hbl hbb)]
  simpa using this)
 have HN:=Lib.hid hn
 have HD:=Lib.hid (List.nodup_append.1 hnd).2.1
 have HL:Hid (∀b,b∈bs→b<w.heap.size):=Lib.hid fun b hb=>hlt b (by simp[hb])
 have h0:Dz K l 0=l:=by simp[Dz,BT]
 clear hn hnd hlt ho hrow
 go_enter Tryz.func34,Tryz.ntmps34
 go_wp2
 go_loopw [1,5] (fun kv iv wr=>∃i M:Nat,iv=.int .i64 i∧i≤l.length∧kv=.int .i64 M∧M=K+5*tot (l.take i)∧Eu wr (Dz K l i) vs bs∧(∀b,b<w.heap.size→b ∉ bs→wr.heap[b]? = w.heap[b]?)∧w.heap.size≤wr.heap.size∧(wr.os=w.os∧wr.tape=w.tape∧wr.output=w.output)) (fun _ iv _=>l.length-(intOf iv).toNat)
 case atStart=>exact⟨0,K,rfl,Nat.zero_le _,rfl,by simp[tot],by rw[h0];exact HN.out,fun _ _ _=>rfl,Nat.le_refl _,rfl,rfl,rfl⟩
 case round =>
  obtain⟨i,M,rfl,hi,rfl,hM,hne,hfr,hsz,hst⟩:=hrel
  have hti:=G0 l i
  have HM:=Lib.hid hM
  have Hne:=Lib.hid hne
  have Hfr:=Lib.hid hfr
  have Hst:=Lib.hid hst
  clear hM hne hfr hst
  by_cases hlt:i<l.length
  ·have hil:i<(Dz K l i).length:=by rw[Ox hi];exact hlt
   obtain⟨v1,bi,g1,g2,g3,g4⟩:=Hne.out.at_ HD.out hil
   have hx:(Dz K l i)[i]=l[i]:=by
    have:=QB (K:=K) hlt
    rw[List.getElem?_eq_getElem hil]at this
    exact Option.some.inj this
   rw[hx]at g2
   obtain⟨b,off,rfl,hcell,hbl⟩:=H0.out wr Hfr.out i hlt v1 g1
   have htk:tot (l.take (i+1))=tot (l.take i)+l[i].length:=by rw[List.take_succ_eq_append_getElem hlt,KR]
   have htk1:=G0 l (i+1)
   have HG2:=Lib.hid g2
   have HG3:=Lib.hid g3
   have HG4:=Lib.hid g4
   have hKM:M+5*l[i].length≤3000000000:=by rw[HM.out];omega
   have hblr:b<wr.heap.size:=by omega
   have hi0:(0:Int)≤(i:Int):=by omega
   have hi1:(i:Int)<(l.length:Int):=by omega
   clear g2 g3 g4 hx hil
   go_wp2_with (go_at_call 42;refine (Hq l[i] M hKM HG2.out (fun b hb=>Nat.lt_of_lt_of_le (HL.out b (HG3.out b hb)) hsz)).mono ?_;rintro e1 w1 ⟨rfl,hy,hf1,hs1,ht1⟩;have Hy:=Lib.hid hy;have Hf1:=Lib.hid hf1;have Ht1:=Lib.hid ht1;clear hy hf1 ht1)
   go_roundw
   case rel =>
    refine⟨i+1,M+5*l[i].length,by go_num,by omega,rfl,by rw[htk,HM.out];omega,?_,?_,by omega,?_⟩
    ·have:=HG4.out w1 _ hs1 (Hy.out _) (fun b hb hnb hbl=>Hf1.out b hbl hnb)
     rw[HM.out,N0 hlt]at this
     exact this
    ·intro b hbl hnb
     rw[Hf1.out b (by omega) (fun hb=>hnb (HG3.out b hb)),Hfr.out b hbl hnb]
    ·exact⟨Ht1.out.1.trans Hst.out.1,Ht1.out.2.1.trans Hst.out.2.1,Ht1.out.2.2.trans Hst.out.2.2⟩
   case measure=>simp[intOf];omega
  ·have hin:i=l.length:=by omega
   have Hin:=Lib.hid hin
   clear hin
   go_wp2
   go_ret
   have hall:Dz K l i=BT K l:=by rw[Hin.out];simp[Dz]
   refine⟨by rw[HM.out,Hin.out,List.take_length];rfl,by rw[←hall];exact Hne.out,Hfr.out,hsz,Hst.out⟩
theorem Ej {p:Id×AO}{i:Id}{o:AO}(h:Mem.get [p] i=some o):i=p.1∧o=p.2:=by
 obtain⟨a,b⟩:=p
 simp only[Mem.get,List.lookup_cons,List.lookup_nil]at h
 split at h
 ·rename_i hq
  exact⟨by simpa using hq,(Option.some.inj h).symm⟩
 ·cases h
theorem J5 (l:List (List CellD)) (K:Nat) (e:TypeId) (hK:K+5*tot l≤3000000000) (hl9:l.length≤1048576) :
  AC Tryz.prog 34 [.own (0,0),.c (.int .i64 K)] [((0,0),.row true 1 e (l.map F7))] (.c (.int .i64 ((K+5*tot l:Nat):Int))) [((0,0),.row true 1 e ((BT K l).map F7))]:=by
 intro Γ B4 hE hA
 obtain⟨v,vs1,rfl,⟨_,o,ho,hv⟩,v2,vs2,rfl,⟨rfl,_⟩,rfl⟩:=hA
 obtain⟨_,rfl⟩:=Ej ho
 have hv:=hv (by simp)
 subst hv
 obtain⟨vrows,bs,h1,_,h2,h3,h4,h5⟩:=hE.objs (0,0) _ rfl
 obtain⟨vs,rfl,hn⟩:=NK h1
 rw[List.length_map]at h3
 refine (Gt l K hK hl9 hn h4 (fun b hb=>(hE.own b _ (h5 b hb)).1) h3).mono ?_
 rintro e1 w' ⟨rfl,hn',hf,hs,ho1,ho2,ho3⟩
 have hbs:∀b,Γ.ow b=none→b ∉ bs:=by
  intro b hb hbs
  rw[h5 b (by simp[hbs])]at hb
  cases hb
 have hown:∀b,(Γ.κ (0,0)).ownBlock=some b→b ∉ bs:=by
  intro b hb hbs
  rw[hb]at h4
  simp at h4
  exact h4.1 hbs
 refine⟨_,Γ.ow,Γ.κ,rfl,⟨⟨rfl,rfl⟩,?_,?_,ho1,ho2,ho3,hs,fun b hl hb=>⟨hf b hl (hbs b hb),hb⟩,fun _ _ _ _ _=>rfl⟩⟩
 ·intro i o hi
  obtain⟨rfl,rfl⟩:=Ej hi
  refine⟨_,bs,Of hn',fun h=>(by cases h),h2,?_,h4,h5⟩
  rw[List.length_map,Dg]
  exact Bb h3 (S:=fun b=>(Γ.κ (0,0)).ownBlock=some b) ⟨hs,fun b hb hl=>hf b hl (hown b hb)⟩ (fun b hb=>hb)
 ·intro b i hb
  obtain⟨g1,o,g2,g3⟩:=hE.own b i hb
  obtain⟨rfl,rfl⟩:=Ej g2
  exact⟨Nat.lt_of_lt_of_le g1 hs,_,rfl,rfl⟩
theorem M6:∀(K:Nat) (l:List (List CellD)) {i:Nat}(h:i<l.length),(BT K l)[i]? = some (BA (K+5*tot (l.take i)) l[i].length)
 |K,x::l,0,h=>by simp[BT,tot]
 |K,x::l,i+1,h=>by
  have:=M6 (K+5*x.length) l (i:=i) (by simpa using h)
  simp only[BT,List.getElem?_cons_succ,this,List.take_succ_cons,tot,List.map_cons,List.sum_cons,List.getElem_cons_succ]
  rw[show K+5*x.length+5*((l.take i).map List.length).sum=K+5*(x.length+((l.take i).map List.length).sum) by omega]
set_option maxRecDepth 10000
theorem GW (l:List (List CellD)) (hl:l.length≤1048576) (hx:∀x∈l,x.length≤9223372036854775807):AC Tryz.prog 33 [.c (.sl (l.map An)),.c (.sl (l.map An))] [] (.c (.bool true)) []:=by
 have hne:((l.length:Int) != (l.length:Int))=false:=by simp
 refine A7 Tryz.func33 Tryz.ntmps33 ?_
 refine A0 hne ?_
 refine AH (κ:=Nat) (fun k=>⟨mkS 0 27 [(0,.c (.sl (l.map An))),(1,.c (.sl (l.map An))),(5,.c (.int .i64 k))],[]⟩)
  (fun k=>k≤l.length) (fun k=>l.length-k) 0 (Nat.zero_le _) ?_ ?_
 ·exact Ao (Ay.of [] []) hne
 ·intro k hk
  by_cases hlt:k<l.length
  ·have hd:decide ((k:Int)<(l.length:Int))=true:=by simpa using hlt
   have hw:=Ae (k:=k) (by omega)
   have hr:Aj (l.map An) 1 k=true:=by simp[Aj,hlt,An]
   have hg:(l.map An)[k]? = some [.sl (l[k].map CellD.cs)]:=by simp[hlt,An]
   have he:=Fw l[k] (hx _ (List.getElem_mem hlt))
   refine A0 (j3 hd hr hg) ?_
   refine w7 (A4 [] he) trivial ?_
   refine A0 hw ?_
   refine⟨k+1,by omega,by omega,?_⟩
   exact Ao (Ay.of [] []) hw
  ·have hd:decide ((k:Int)<(l.length:Int))=false:=by simpa using hlt
   refine A0 hd ?_
   exact Al (A6 []) Tryz.results33
theorem Fd (l:List (List CellD)) (K:Nat) (hK:K+5*tot l≤3000000000) (hl:l.length≤1048576):AC Tryz.prog 60 [.c (.sl ((BT K l).map An)),.c (.int .i64 K)] [] (.c (.int .i64 ((K+5*tot l:Nat):Int))) []:=by
 have hml:=Dg K l
 have h0:tot (l.take 0)=0:=rfl
 refine A7 Tryz.func60 Tryz.ntmps60 ?_
 refine A0 trivial ?_
 refine AH (κ:=Nat) (fun k=>⟨mkS 0 21 [(0,.c (.sl ((BT K l).map An))),(1,.c (.int .i64 ((K+5*tot (l.take k):Nat):Int))),(5,.c (.int .i64 k))],[]⟩)
  (fun k=>k≤l.length) (fun k=>l.length-k) 0 (Nat.zero_le _) ?_ ?_
 ·exact Ao (Ay.of [] []) h0
 ·intro k hk
  have htt:=G0 l k
  by_cases hlt:k<l.length
  ·have hd:decide ((k:Int)<(l.length:Int))=true:=by simpa using hlt
   have hw:=Ae (k:=k) (by omega)
   have hat:=M6 K l hlt
   have hr:Aj ((BT K l).map An) 1 k=true:=by simp[Aj,hat,An]
   have hg:((BT K l).map An)[k]? = some [.sl ((BA (K+5*tot (l.take k)) l[k].length).map CellD.cs)]:=by simp[hat,An]
   have htk:K+5*tot (l.take (k+1))=K+5*tot (l.take k)+5*l[k].length:=by rw[List.take_succ_eq_append_getElem hlt,KR];omega
   have htk1:=G0 l (k+1)
   have he:=Ea l[k].length (K+5*tot (l.take k)) (by omega)
   generalize hM:K+5*tot (l.take k)=M at *
   have hn0:decide (((M+5*l[k].length:Nat):Int)<0)=false:=by simp;omega
   refine A0 (j4 hml hd hr hg) ?_
   refine w7 (A4 [] he) trivial ?_
   refine A0 (j2 hw hn0) ?_
   refine⟨k+1,by omega,by omega,?_⟩
   exact Ao (Ay.of [] []) htk
  ·have hd:decide ((k:Int)<(l.length:Int))=false:=by simpa using hlt
   have hke:l.take k=l:=List.take_of_length_le (by omega)
   refine A0 (j3 hml hd hke) ?_
   exact A6 [] (by simp only[Tryz.results60,go_sem,Nat.reduceBEq,Nat.reduceLT];exact rfl) (by simp only[go_sem,Nat.reduceEqDiff,Nat.reduceAdd,Nat.reduceSub,Nat.reduceLeDiff,Nat.reduceMul,Nat.reduceBEq,Nat.reduceLT,Int.reduceToNat,reduceCtorEq,hke]) rfl
theorem J3 (K:Nat):AC Tryz.prog 34 [.nils,.c (.int .i64 K)] [] (.c (.int .i64 K)) []:=by
 have hd:decide ((0:Int)<0)=false:=rfl
 refine A7 Tryz.func34 Tryz.ntmps34 ?_
 refine A0 trivial ?_
 refine AH (κ:=Nat) (fun k=>⟨mkS 0 19 [(0,.nils),(1,.c (.int .i64 K)),(5,.c (.int .i64 0))],[]⟩)
  (fun _=>True) (fun k=>k) 0 trivial ?_ ?_
 ·exact Ao (Ay.of [] []) hd
 ·intro k hk
  refine A0 hd ?_
  exact Al (A6 []) Tryz.results34
theorem I3 {w:World}{base:Nat}{e:TypeId}{es n:Nat}{v:Value}{cs:List Value}(h:w.ownsRow base e es v n cs) {b:Nat}(hb:v.ownBlock=some b):base≤b∧b<w.heap.size:=by
 rcases h.2 with⟨rfl,_⟩ | ⟨g,cap,cur,rfl,hg,hh,_⟩
 ·cases hb
 ·have:g=b:=by simpa [Value.ownBlock] using hb
  subst this
  exact⟨hg,(Array.getElem?_eq_some_iff.1 hh).1⟩
theorem KG {w:World}{base:Nat}{e:TypeId}{es n:Nat}{v:Value}{cs:List Value}(h:w.ownsRow base e es v n cs):w.ownsRow 0 e es v n cs:=by
 refine⟨h.1,?_⟩
 rcases h.2 with h | ⟨g,cap,cur,e1,hg,r⟩
 ·exact .inl h
 ·exact .inr ⟨g,cap,cur,e1,Nat.zero_le _,r⟩
theorem AC.of_row {P:Program}{f:FuncId}{args:List AV}{es:Nat}{e:TypeId}{rows:List (List C)}(hc:Bj rows=true)
  (h:∀(S:Nat→Prop) (w:World) (κ:Id→Value) (B4:List Value),ARs w S [] κ args B4→Calls P f B4.toArray w fun e1 w'=>Below w.heap.size w w'∧∃v vrows,e1=.returned v∧Ab w' (fun _=>False) rows vrows []∧(∀x∈vrows,x.length=es)∧w'.ownsRow w.heap.size e es v rows.length vrows.flatten) :
  AC P f args [] (.own (0,0)) [((0,0),.row false es e rows)]:=by
 intro Γ B4 hE hA
 have how:∀b,Γ.ow b=none:=by
  intro b
  cases hb:Γ.ow b with
  |none=>rfl
  |some i=>obtain⟨_,o,h1,_⟩:=hE.own b i hb;simp[Mem.get]at h1
 refine (h _ _ _ _ hA).mono ?_
 rintro e1 w' ⟨hb,v,vrows,rfl,h1,h2,h3⟩
 refine⟨v,fun b=>if v.ownBlock=some b then some (0,0) else none,fun _=>v,rfl,⟨⟨GP h3,_,rfl,fun _=>rfl⟩,?_,?_,hb.os,hb.tape,hb.output,hb.size,?_,fun i o o' h=>(by simp[Mem.get]at h)⟩⟩
 ·intro i o hi
  obtain⟨rfl,rfl⟩:=Ej hi
  refine⟨vrows,[],Ab.closed hc h1,fun _=>rfl,h2,KG h3,?_,fun b hb=>?_⟩
  ·show (v.ownBlock.toList++[]).Nodup
   cases v.ownBlock<;>simp
  ·have hb':b∈v.ownBlock.toList++[]:=hb
   have:v.ownBlock=some b:=by simpa using hb'
   exact if_pos this
 ·intro b i hbi
  split at hbi
  ·rename_i hv
   refine⟨(I3 h3 hv).2,.row false es e rows,?_,rfl⟩
   rw[←Option.some.inj hbi]
   rfl
  ·cases hbi
 ·intro b hl _
  refine⟨hb.block b hl,?_⟩
  refine if_neg fun hv=>?_
  have:=(I3 h3 hv).1
  omega
theorem G5 (l:List CellD):Bj (l.map CellD.cs)=true:=by
 induction l with
 |nil=>rfl
 |cons c l ih=>simp only[List.map_cons,Bj,ih,Bool.and_true];rfl
attribute [go_sem] G5 AO.closed
set_option maxRecDepth 10000
theorem Jf (K:Nat):AC Tryz.prog 42 [.nils,.c (.int .i64 K)] [] (.c (.int .i64 K)) []:=by
 have hd:decide ((0:Int)<0)=false:=rfl
 refine A7 Tryz.func42 Tryz.ntmps42 ?_
 refine A0 trivial ?_
 refine AH (κ:=Nat) (fun k=>⟨mkS 0 50 [(0,.nils),(1,.c (.int .i64 K)),(5,.c (.int .i64 0))],[]⟩)
  (fun _=>True) (fun k=>k) 0 trivial ?_ ?_
 ·exact Ao (Ay.of [] []) hd
 ·intro k hk
  refine A0 hd ?_
  exact Al (A6 []) Tryz.results42
end Go.Proofs.YtlciedpfjhkkdaaGreatDoor
