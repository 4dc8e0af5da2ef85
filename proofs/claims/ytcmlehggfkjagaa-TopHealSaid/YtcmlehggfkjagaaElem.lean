/-
  Facts on the program's element types, and small facts on bytes.
-/
import Derived.Test.YtcmlehggfkjagaaProg
import Derived.Test.YtcmlehggfkjagaaOwn
namespace Go.Proofs.Ytcmlehggfkjagaa
open Go Go.RowKit


theorem bv_ofNat {x : Nat} (h : x < 256) : Value.int .u8 (x : Int) = bv (UInt8.ofNat x) := by
  have : (UInt8.ofNat x).toNat = x := by simp; omega
  rw [bv, this]
end Go.Proofs.Ytcmlehggfkjagaa
