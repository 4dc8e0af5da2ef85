/-
  Law: the bits of a number below 4096, one by one (a table of thirty-two tells the lowest).
-/
import Derived.Test.YtkdkdaljgoibaaaSlices
namespace Go.Proofs.Ytkdkdaljgoibaaa
open Go Go.RowKit

/-- Which bits stand in a number. -/
def onesN (n : Nat) : List Int := ((List.range 12).filter fun i => n / 2 ^ i % 2 = 1).map fun i : Nat => (i : Int)
def tabL : List Nat := [0, 1, 28, 2, 29, 14, 24, 3, 30, 22, 20, 15, 25, 17, 4, 8, 31, 27, 13, 23, 21, 19, 16, 7, 26, 12, 18, 6, 11, 5, 10, 9]
/-- The place in the table. -/
def tabI (n : Nat) : Nat := (n &&& (4294967296 - n)) * 125613361 % 4294967296 / 134217728
def stepB (n : Nat) : Bool := n == 0 || (decide (tabI n < 32) && (onesN n == ((el tabL (tabI n) : Nat) : Int) :: onesN (n &&& (n - 1))) && decide ((n &&& (n - 1)) < n) && decide (el tabL (tabI n) < 12))
theorem stepB_all : ∀ a : Fin 64, ∀ b : Fin 64, stepB (64 * a.val + b.val) = true := by decide +kernel
theorem ones_step {n : Nat} (h : n < 4096) (h0 : n ≠ 0) : tabI n < 32 ∧ onesN n = ((el tabL (tabI n) : Nat) : Int) :: onesN (n &&& (n - 1)) ∧ (n &&& (n - 1)) < n ∧ el tabL (tabI n) < 12 := by
  have h1 := stepB_all ⟨n / 64, by omega⟩ ⟨n % 64, by omega⟩
  dsimp only at h1
  rw [show 64 * (n / 64) + n % 64 = n by omega] at h1
  unfold stepB at h1
  have h2 : (n == 0) = false := by simpa using h0
  rw [h2, Bool.false_or, Bool.and_eq_true, Bool.and_eq_true, Bool.and_eq_true] at h1
  obtain ⟨⟨⟨a, b⟩, c⟩, d⟩ := h1
  exact ⟨of_decide_eq_true a, eq_of_beq b, of_decide_eq_true c, of_decide_eq_true d⟩

end Go.Proofs.Ytkdkdaljgoibaaa
