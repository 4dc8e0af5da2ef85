/-
  Facts on the program's element types, and small facts on bytes.
-/
import Derived.Test.YtkdkdaljgoibaaaProg
import Derived.Test.YtkdkdaljgoibaaaOwn
namespace Go.Proofs.Ytkdkdaljgoibaaa
open Go Go.RowKit


theorem bv_ofNat {x : Nat} (h : x < 256) : Value.int .u8 (x : Int) = bv (UInt8.ofNat x) := by
  have : (UInt8.ofNat x).toNat = x := by simp; omega
  rw [bv, this]
end Go.Proofs.Ytkdkdaljgoibaaa
