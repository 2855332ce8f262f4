/- strings.NewReplacer at encodeString's texts, and encodeString, by hand. -/
import Derived.Test.YtfmnoljflcpbgaaGreatDoorKR07
set_option linter.unusedSimpArgs false
set_option linter.unusedVariables false
set_option linter.unnecessarySimpa false
namespace Go.Proofs.YtfmnoljflcpbgaaGreatDoor
open Go.RowKit
set_option maxRecDepth 100000 in
set_option maxHeartbeats 3200000 in
theorem newReplacer_walk (v0 : Nat) (w : World) (hv : Blk w v0 9 #[txt #[34], txt #[92, 34], txt #[92], txt #[92, 92]]) :
    Calls Tryz.prog 153 #[slAt v0 4 4] w fun x w' => ∃ b g c, x = .returned (.pointer (some ⟨b, 0, none⟩)) ∧ Below w.heap.size w w' ∧ w.heap.size ≤ b ∧ b < w'.heap.size ∧ g < w'.heap.size ∧ g ≠ b ∧
      Blk w' b 236 #[.int .u32 0, .int .i32 0, .int .u32 0, .nilIface, slAt g 4 c] ∧ w'.cell? ⟨g, 0, none⟩ = some (txt #[34]) ∧ w'.cell? ⟨g, 1, none⟩ = some (txt #[92, 34]) ∧ w'.cell? ⟨g, 2, none⟩ = some (txt #[92]) ∧ w'.cell? ⟨g, 3, none⟩ = some (txt #[92, 92]) := by
  have c0 := hv.cell 0
  have c1 := hv.cell 1
  have c2 := hv.cell 2
  have c3 := hv.cell 3
  go_enter Tryz.func153, Tryz.ntmps153
  go_wp2
  go_ret
  have hx : ∀ (C : Array Value) (j : Nat), j < 4 → ((#[txt #[34], txt #[92, 34], txt #[92], txt #[92, 92]] : Array Value) ++ C)[j]? = (#[txt #[34], txt #[92, 34], txt #[92], txt #[92, 92]] : Array Value)[j]? := fun C j hj => Array.getElem?_append_left (by simpa using hj)
  have hG := fun (C : Array Value) (o : Obj) => (Blk.new w 9 ((#[txt #[34], txt #[92, 34], txt #[92], txt #[92, 92]] : Array Value) ++ C)).alloc o
  refine ⟨w.heap.size + 1, w.heap.size, (Question.appendCap 4 0 9).cut (w.tape w.drawn (Question.appendCap 4 0 9)), rfl, (((Below.refl _ _).alloc (Nat.le_refl _) _).alloc (by simp) _).drew, by omega, by simp, by simp; omega, by omega, blk_drew ?_, ?_, ?_, ?_, ?_⟩
  · have h1 := fun (o : Obj) (cs : Array Value) => Blk.new (w.alloc o) 236 cs
    simp only [World.size_alloc] at h1
    exact h1 _ _
  · exact ((blk_drew (hG _ _)).cell 0).trans (hx _ 0 (by decide))
  · exact ((blk_drew (hG _ _)).cell 1).trans (hx _ 1 (by decide))
  · exact ((blk_drew (hG _ _)).cell 2).trans (hx _ 2 (by decide))
  · exact ((blk_drew (hG _ _)).cell 3).trans (hx _ 3 (by decide))
/-- A text as JSON has it. -/
def encS (s : ByteArray) : ByteArray := ⟨#[34]⟩ ++ ⟨(escL s.data.toList).toArray⟩ ++ ⟨#[34]⟩
set_option maxRecDepth 100000 in
set_option maxHeartbeats 3200000 in
theorem encodeString_walk (s : ByteArray) (hs : s.size ≤ 1000000) (w : World) :
    Calls Tryz.prog 104 #[.string s] w fun x w' => x = .returned (.string (encS s)) ∧ Below w.heap.size w w' := by
  have hesz : (escL s.data.toList).length ≤ 2000000 := by
    have h1 := escL_len s.data.toList
    have h2 : cz s.data.toList ≤ s.data.toList.length := List.length_filter_le _ _
    have h3 : s.data.toList.length = s.size := Array.length_toList
    omega
  go_enter Tryz.func104, Tryz.ntmps104
  go_wp2_with (first
    | (go_at_call 153; refine (newReplacer_walk w.heap.size _ (Blk.new w 9 #[txt #[34], txt #[92, 34], txt #[92], txt #[92, 92]])).mono ?_; rintro e w1 ⟨b, g, c, rfl, hb, hbl, hbs, hgs, hgb, hB, g0, g1, g2, g3⟩; have Hb := Lib.hid hb; clear hb)
    | (go_at_call 154; refine (replace_walk b g c s hs _ .nilIface hbs (hB.cell 0) (hB.cell 1) (hB.frozen 0) (hB.frozen 1) (hB.cell 3) (hB.frozen 3) (hB.cell 4) (hB.frozen 4) hgs hgb g0 g1 g2 g3).mono ?_; rintro q w2 ⟨rfl, hb2⟩; have Hb2 := Lib.hid hb2; clear hb2))
  go_ret
  have h1 : Below w.heap.size (w.alloc (.cells #[txt #[34], txt #[92, 34], txt #[92], txt #[92, 92]] 9)) w1 := Hb.out.mono (by simp)
  have hbl' : w.heap.size ≤ b := by simp at hbl; omega
  exact ⟨rfl, (((Below.refl _ w).alloc (Nat.le_refl _) _).trans h1).trans (Hb2.out.mono hbl')⟩
end Go.Proofs.YtfmnoljflcpbgaaGreatDoor
