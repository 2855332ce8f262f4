/- slices.BinarySearch at strings, (impl.val).member, by the engine. -/
import Derived.Test.YtpaooephkpjkfaaGreatKG05uG20
import Derived.Test.YtpaooephkpjkfaaGreatKM2
set_option linter.unusedSimpArgs false
set_option linter.unusedVariables false
set_option linter.unnecessarySimpa false
namespace Go.Proofs.YtpaooephkpjkfaaGreat
open Go.RowKit
set_option maxRecDepth 10000
/-- The first place at which no less key stands. -/
def bsPos (ks : List ByteArray) (key : ByteArray) : Nat := ks.findIdx fun k => !lessB k key
theorem bsPos_le (ks : List ByteArray) (key : ByteArray) : bsPos ks key ≤ ks.length := List.findIdx_le_length
theorem bsPos_low {ks : List ByteArray} {key : ByteArray} {t : Nat} (h : t < bsPos ks key) : lessB (ks[t]'(by have := bsPos_le ks key; omega)) key = true := by
  have := List.not_of_lt_findIdx h
  simpa using this
def bsFound (ks : List ByteArray) (key : ByteArray) : Bool := if h : bsPos ks key < ks.length then ks[bsPos ks key].toList == key.toList else false
end Go.Proofs.YtpaooephkpjkfaaGreat
