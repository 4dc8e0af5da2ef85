/-
  Four bytes' number: its bytes, and what stands at a place; walks of bin and of seawallref01.
-/
import Derived.Test.YtinbcidgdbmcjaaProg
import Derived.Test.YtinbcidgdbmcjaaElem
import Derived.Test.YtinbcidgdbmcjaaDraw
namespace Go.Proofs.Ytinbcidgdbmcjaa
open Go Go.RowKit

namespace Bin
def fixed (n : Nat) : List UInt8 := [UInt8.ofNat (n / 16777216 % 256), UInt8.ofNat (n / 65536 % 256), UInt8.ofNat (n / 256 % 256), UInt8.ofNat (n % 256)]
def be4 (a b c d : UInt8) : Nat := a.toNat * 16777216 + b.toNat * 65536 + c.toNat * 256 + d.toNat
def rdF (b : List UInt8) (at_ : Int) : Nat × Int × Int :=
  if at_ < 0 ∨ (b.length : Int) < at_ then (0, 0, 2)
  else match b.drop at_.toNat with
    | x0 :: x1 :: x2 :: x3 :: _ => (be4 x0 x1 x2 x3, at_ + 4, 0)
    | _ => (0, 0, 10)
theorem rdF_out {b : List UInt8} {at_ : Int} (h : at_ < 0 ∨ (b.length : Int) < at_) : rdF b at_ = (0, 0, 2) := if_pos h
theorem rdF_short {b : List UInt8} {at_ : Int} (h0 : 0 ≤ at_) (h1 : at_ ≤ b.length) (h : (b.length : Int) - at_ < 4) : rdF b at_ = (0, 0, 10) := by
  unfold rdF
  rw [if_neg (by omega)]
  have hl : (b.drop at_.toNat).length < 4 := by rw [List.length_drop]; omega
  split
  · rename_i x0 x1 x2 x3 r e
    rw [e] at hl
    simp only [List.length_cons] at hl
    omega
  · rfl
theorem rdF_ok {b : List UInt8} {at_ : Int} (h0 : 0 ≤ at_) (h : at_ + 4 ≤ b.length) :
    rdF b at_ = (be4 (b[at_.toNat]'(by omega)) (b[at_.toNat + 1]'(by omega)) (b[at_.toNat + 2]'(by omega)) (b[at_.toNat + 3]'(by omega)), at_ + 4, 0) := by
  unfold rdF
  rw [if_neg (by omega), List.drop_eq_getElem_cons (by omega), List.drop_eq_getElem_cons (by omega), List.drop_eq_getElem_cons (by omega), List.drop_eq_getElem_cons (by omega)]
theorem be4_lt (a b c d : UInt8) : be4 a b c d < 4294967296 := by
  have := UInt8.toNat_lt a; have := UInt8.toNat_lt b; have := UInt8.toNat_lt c; have := UInt8.toNat_lt d
  unfold be4
  omega
end Bin
open Bin

theorem fixed_bs (n : Nat) : [Value.int .u8 ((n : Int) / 16777216 % 256), Value.int .u8 ((n : Int) / 65536 % 256), Value.int .u8 ((n : Int) / 256 % 256), Value.int .u8 ((n : Int) % 256)] = bs (fixed n) := by
  rw [show ((n : Int) / 16777216 % 256) = ((n / 16777216 % 256 : Nat) : Int) by omega, show ((n : Int) / 65536 % 256) = ((n / 65536 % 256 : Nat) : Int) by omega,
    show ((n : Int) / 256 % 256) = ((n / 256 % 256 : Nat) : Int) by omega, show ((n : Int) % 256) = ((n % 256 : Nat) : Int) by omega,
    bv_ofNat (by omega), bv_ofNat (by omega), bv_ofNat (by omega), bv_ofNat (by omega)]
  rfl


def rdFv (x : Nat × Int × Int) : Value := .tuple #[.int .u32 (x.1 : Int), .int .i64 x.2.1, .int .i64 x.2.2]

namespace Bin
/-- What the first k of four bytes come to. -/
def beV (l : List UInt8) : Nat → Nat
  | 0 => 0
  | k + 1 => beV l k * 256 + (l[k]?.getD 0).toNat
theorem beV_zero (l : List UInt8) : beV l 0 = 0 := rfl
theorem beV_succ (l : List UInt8) (k : Nat) : beV l (k + 1) = beV l k * 256 + (l[k]?.getD 0).toNat := rfl
theorem beV_lt (l : List UInt8) : ∀ k, beV l k < 256 ^ k
  | 0 => by rw [beV_zero]; decide
  | k + 1 => by
    have h1 := beV_lt l k
    have h2 : (l[k]?.getD 0).toNat < 256 := UInt8.toNat_lt _
    rw [beV_succ, Nat.pow_succ]
    omega
end Bin
theorem orShl8 {v c : Nat} (hv : v < 16777216) (hc : c < 256) : bits .or .u32 ((v : Int) * 256) (c : Int) = ((v * 256 + c : Nat) : Int) := by
  have h := Nat.two_pow_add_eq_or_of_lt (i := 8) (b := c) (by omega) v
  rw [show (v : Int) * 256 = ((v * 256 : Nat) : Int) by omega, orU32 _ _ (by omega) (by omega), Nat.mul_comm v 256]
  have h' : 256 * v + c = 256 * v ||| c := h
  omega


end Go.Proofs.Ytinbcidgdbmcjaa
