/-
  Facts on the program's element types, and small facts on bytes.
-/
import Derived.Test.YtciadcalnindgaaProg
import Derived.Test.YtciadcalnindgaaOwn
namespace Go.Proofs.Ytciadcalnindgaa
open Go Go.RowKit

theorem Try.elem5 : Elem Try.prog 22 5 1 1 := by
  obtain ⟨i, hi, h1, h2, h3⟩ := info_parts (P := Try.prog) (e := 5) (z := .int .u8 0) (size := 1) (bytes := 1) (by kernel_rfl)
  exact ⟨Try.underlying22, ⟨i, _, hi, h1, h2, h3, rfl⟩, by decide⟩

theorem bv_ofNat {x : Nat} (h : x < 256) : Value.int .u8 (x : Int) = bv (UInt8.ofNat x) := by
  have : (UInt8.ofNat x).toNat = x := by simp; omega
  rw [bv, this]
end Go.Proofs.Ytciadcalnindgaa
