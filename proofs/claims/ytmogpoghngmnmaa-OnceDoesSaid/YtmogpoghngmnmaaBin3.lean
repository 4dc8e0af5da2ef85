/-
  Walks: signed numbers, four bytes, texts: bin and seawallref01.
-/
import Derived.Test.YtmogpoghngmnmaaBin2
import Derived.Test.YtmogpoghngmnmaaDraw
namespace Go.Proofs.Ytmogpoghngmnmaa
open Go Go.RowKit Bin

namespace Bin
def zig (n : Int) : Nat := if n < 0 then (-(2 * n) - 1).toNat else (2 * n).toNat
def unzig (m : Nat) : Int := if m % 2 = 1 then -((m / 2 : Nat) : Int) - 1 else ((m / 2 : Nat) : Int)
theorem unzig_zig (n : Int) : unzig (zig n) = n := by
  unfold unzig zig
  split <;> split <;> omega
theorem zig_unzig (m : Nat) : zig (unzig m) = m := by
  unfold unzig zig
  split <;> split <;> omega
theorem zig_lt {n : Int} (h : -9223372036854775808 ≤ n ∧ n ≤ 9223372036854775807) : zig n < 18446744073709551616 := by
  unfold zig
  split <;> omega
theorem unzig_le {m : Nat} (h : m < 18446744073709551616) : -9223372036854775808 ≤ unzig m ∧ unzig m ≤ 9223372036854775807 := by
  unfold unzig
  split <;> omega
end Bin

theorem xor_ones (a : Nat) (h : a < 18446744073709551616) : a ^^^ 18446744073709551615 = 18446744073709551615 - a := by
  have h1 := congrArg BitVec.toNat (BitVec.xor_allOnes (x := BitVec.ofNat 64 a))
  simp only [BitVec.toNat_xor, BitVec.toNat_ofNat, BitVec.toNat_allOnes, BitVec.toNat_not, Nat.reducePow, Nat.mod_eq_of_lt h] at h1
  omega
theorem zig_xor {n : Int} (h : -9223372036854775808 ≤ n ∧ n ≤ 9223372036854775807) :
    bits .xor .u64 (n % 18446744073709551616 * 2 % 18446744073709551616) (n / 9223372036854775808 % 18446744073709551616) = (zig n : Int) := by
  by_cases hn : n < 0
  · have e1 : n % 18446744073709551616 * 2 % 18446744073709551616 = ((18446744073709551615 - zig n : Nat) : Int) := by
      unfold zig
      rw [if_pos hn]
      omega
    have e2 : n / 9223372036854775808 % 18446744073709551616 = ((18446744073709551615 : Nat) : Int) := by omega
    have hz := zig_lt h
    rw [e1, e2, xorU64 _ _ (by omega) (by omega), xor_ones _ (by omega)]
    omega
  · have e1 : n % 18446744073709551616 * 2 % 18446744073709551616 = ((zig n : Nat) : Int) := by
      unfold zig
      rw [if_neg hn]
      omega
    have e2 : n / 9223372036854775808 % 18446744073709551616 = ((0 : Nat) : Int) := by omega
    rw [e1, e2, xorU64 _ _ (zig_lt h) (by omega), Nat.xor_zero]
theorem and1 (a : Nat) (h : a < 18446744073709551616) : bits .and .u64 (a : Int) 1 = ((a % 2 : Nat) : Int) := by
  have := andU64 a 1 h (by omega)
  rw [Nat.and_one_is_mod] at this
  exact this
theorem unzig_xor (m : Nat) (h : m < 18446744073709551616) : bits .xor .i64 ((m : Int) / 2) (0 - ((m % 2 : Nat) : Int)) = unzig m := by
  have ha : (BitVec.ofInt 64 ((m : Int) / 2)).toNat = m / 2 := by
    rw [show (m : Int) / 2 = ((m / 2 : Nat) : Int) by omega, BitVec.ofInt_natCast, BitVec.toNat_ofNat]
    omega
  have hx : (BitVec.ofInt 64 ((m : Int) / 2)) = BitVec.ofNat 64 (m / 2) := BitVec.eq_of_toNat_eq (by rw [ha, BitVec.toNat_ofNat]; omega)
  by_cases hm : m % 2 = 1
  · have hb : BitVec.ofInt 64 (0 - ((m % 2 : Nat) : Int)) = BitVec.allOnes 64 := by
      rw [hm]; rfl
    show IntKind.i64.wrap (((BitVec.ofInt 64 ((m : Int) / 2) ^^^ BitVec.ofInt 64 (0 - ((m % 2 : Nat) : Int))).toNat : Nat) : Int) = _
    rw [hx, hb, BitVec.xor_allOnes, BitVec.toNat_not, BitVec.toNat_ofNat, unzig, if_pos hm, IntKind.wrap_i64]
    omega
  · have hm0 : m % 2 = 0 := by omega
    have hb : BitVec.ofInt 64 (0 - ((m % 2 : Nat) : Int)) = 0#64 := by
      rw [hm0]; rfl
    show IntKind.i64.wrap (((BitVec.ofInt 64 ((m : Int) / 2) ^^^ BitVec.ofInt 64 (0 - ((m % 2 : Nat) : Int))).toNat : Nat) : Int) = _
    rw [hx, hb, BitVec.xor_zero, BitVec.toNat_ofNat, unzig, if_neg hm, IntKind.wrap_i64]
    omega

theorem refPutUint_ok (m : Nat) (hm : m < 18446744073709551616) (w : World) : Fn Try.prog 46 [.int .u64 (m : Int)] w fun v w' =>
    ∃ A cap, v = .slice A (put m).length cap ∧ Mem w w' [Asr.own 5 1 A (put m).length cap (bs (put m))] := by
  have m0 := (Mem.refl w).nilOwn 5 1
  refine Fn.enter Try.func46 rfl Try.ntmps46 rfl ?_
  refine W.sub [(0, _)] (.cons rfl .nil) ?_
  refine W.seq ?_
  refine W.region ?_
  refine WL.assign rfl rfl ?_
  refine WL.nil ?_
  refine WX.next ?_
  refine W.sub [(0, _)] (.cons rfl .nil) ?_
  refine W.seq ?_
  refine W.region ?_
  refine WL.assign rfl rfl ?_
  refine WL.nil ?_
  refine WX.next ?_
  refine W.sub [(0, _), (3, _)] (.cons rfl (.cons rfl .nil)) ?_
  refine W.seq ?_
  refine W.block ?_
  refine W.loop (ι := Nat × List UInt8 × Option Addr × Nat) (fun x => [(0, .int .u64 (x.1 : Int)), (3, .slice x.2.2.1 x.2.1.length x.2.2.2)]) (fun x w' => x.1 < 18446744073709551616 ∧ put m = x.2.1 ++ putF (10 - x.2.1.length) x.1 ∧ x.2.1.length < 10 ∧ x.1 < 128 ^ (10 - x.2.1.length) ∧ Mem w w' [Asr.own 5 1 x.2.2.1 x.2.1.length x.2.2.2 (bs x.2.1)]) (fun x => 10 - x.2.1.length) ((m, [], none, 0)) (by (repeat' (first | exact envSub.nil | refine envSub.cons ?_ ?_)) <;> first | rfl | (refine congrArg some ?_; refine congrArg (Value.int _) ?_; first | omega | (dsimp only; omega)) | (simp; done) | (refine congrArg some ?_; dsimp only; congr 1; omega) | (simp; omega)) ⟨hm, rfl, by simp, by dsimp only [List.length_nil]; omega, m0⟩ ?_
  rintro ⟨x, out, A, cap⟩ w1 ⟨hx, hp, hl, hlt, m1⟩; dsimp only at hx hp hl hlt m1
  refine W.sub [(0, _), (3, _)] (.cons rfl (.cons rfl .nil)) ?_
  refine W.seq ?_
  refine W.seq ?_
  refine W.region ?_
  refine WL.move rfl rfl ?_
  refine WL.geq rfl rfl rfl ?_
  refine WL.nil ?_
  refine WX.next ?_
  refine W.sub [(0, _), (3, _), (5, _)] (.cons rfl (.cons rfl (.cons rfl .nil))) ?_
  refine W.ite rfl (fun c0 => ?_) (fun c0 => ?_)
  · refine W.skip ?_
    refine WX.next ?_
    refine W.block ?_
    refine W.seq ?_
    refine W.region ?_
    refine WL.move rfl rfl ?_
    refine WL.move rfl rfl ?_
    refine WL.rem rfl rfl (by omega) (remN (by omega)) rfl ?_
    refine WL.conv Try.underlying29 Try.underlying5 rfl (wU8 (by omega)) rfl ?_
    refine WL.add rfl rfl (wU8 (by omega)) rfl ?_
    refine WL.buildS Try.elem5 (by assumption) rfl rfl rfl (by simp [Value.oneCell']) rfl rfl ?_
    intro g1 w2 m2
    have hb1 : Value.int .u8 ((x : Int) % 128 + 128) = bv (UInt8.ofNat (x % 128 + 128)) := by
      rw [← bv_ofNat (by omega)]; congr 1
    rw [hb1] at m2
    refine WL.appendB Try.elem5 rfl rfl m2.f1 (m2.rdOwnB (l := [UInt8.ofNat (x % 128 + 128)])) rfl rfl (by simp; omega) rfl ?_
    intro A2 cap2 w3 m3
    refine WL.assign rfl rfl ?_
    refine WL.nil ?_
    refine WX.next ?_
    refine W.sub [(0, _), (3, _)] (.cons rfl (.cons rfl .nil)) ?_
    refine W.region ?_
    refine WL.move rfl rfl ?_
    refine WL.quo rfl rfl (by omega) (quoU64 (by omega)) rfl ?_
    refine WL.assign rfl rfl ?_
    refine WL.nil ?_
    refine WX.blockNormal ?_
    have hstep : putF (10 - out.length) x = UInt8.ofNat (x % 128 + 128) :: putF (10 - (out ++ [UInt8.ofNat (x % 128 + 128)]).length) (x / 128) := by
      rw [show 10 - out.length = (9 - out.length) + 1 by omega, putF, if_neg (by omega), List.length_append, List.length_singleton]
      congr 2
      omega
    have hlt2 : out.length < 9 := by
      refine Nat.lt_of_not_le fun hge => ?_
      obtain h9 : out.length = 9 := by omega
      rw [h9] at hlt
      omega
    have hlt3 : x / 128 < 128 ^ (10 - (out ++ [UInt8.ofNat (x % 128 + 128)]).length) := by
      rw [List.length_append, List.length_singleton, Nat.div_lt_iff_lt_mul (by decide), ← Nat.pow_succ, show (10 - (out.length + 1)).succ = 10 - out.length by omega]
      exact hlt
    refine WX.round ((x / 128, out ++ [UInt8.ofNat (x % 128 + 128)], A2, cap2)) (by (repeat' (first | exact envSub.nil | refine envSub.cons ?_ ?_)) <;> first | rfl | (refine congrArg some ?_; refine congrArg (Value.int _) ?_; first | omega | (dsimp only; omega)) | (simp; done) | (refine congrArg some ?_; dsimp only; congr 1; omega) | (simp; omega)) ⟨by dsimp only; omega, by dsimp only; rw [hp, hstep]; simp, by simp; omega, hlt3, m3.drop1⟩ (by simp; omega)
  · refine W.exit ?_
    refine WX.thenExit ?_
    refine WX.thenExit ?_
    refine WX.blockHere ?_
    refine WX.next ?_
    refine W.seq ?_
    refine W.region ?_
    have hx8 : x < 128 := by omega
    have hend : put m = out ++ [UInt8.ofNat x] := by
      rw [hp, show 10 - out.length = (9 - out.length) + 1 by omega, putF, if_pos hx8]
    refine WL.move rfl rfl ?_
    refine WL.move rfl rfl ?_
    refine WL.conv Try.underlying29 Try.underlying5 rfl (wU8 (by omega)) rfl ?_
    refine WL.buildS Try.elem5 (by assumption) rfl rfl rfl (by simp [Value.oneCell']) rfl rfl ?_
    intro g1 w2 m2
    rw [bv_ofNat (x := x) (by omega)] at m2
    refine WL.appendB Try.elem5 rfl rfl m2.f1 (m2.rdOwnB (l := [UInt8.ofNat x])) rfl rfl (by simp; omega) rfl ?_
    intro A2 cap2 w3 m3
    refine WL.assign rfl rfl ?_
    refine WL.nil ?_
    refine WX.next ?_
    refine W.sub [(2, _)] (.cons rfl .nil) ?_
    refine W.ret ?_
    refine WX.ret1 rfl rfl ?_
    rw [hend]
    exact ⟨A2, cap2, rfl, m3.drop1⟩


namespace Bin
def rdI (b : List UInt8) (at_ : Int) : Int × Int × Int := if (rdU b at_).2.2 = 0 then (unzig (rdU b at_).1, (rdU b at_).2.1, 0) else (0, 0, (rdU b at_).2.2)
theorem rdU_cases (b : List UInt8) (at_ : Int) : (∃ n k : Nat, rdU b at_ = (n, at_ + k, 0) ∧ 0 ≤ at_ ∧ getF 10 0 (b.drop at_.toNat) = (0, n, k)) ∨ (∃ e : Nat, rdU b at_ = (0, 0, ((e + 1 : Nat) : Int))) := by
  unfold rdU
  split
  · exact .inr ⟨1, rfl⟩
  · rename_i h
    generalize getF 10 0 (b.drop at_.toNat) = x
    obtain ⟨e, n, k⟩ := x
    cases e with
    | zero => exact .inl ⟨n, k, rfl, by omega, rfl⟩
    | succ e => exact .inr ⟨e, rfl⟩
/-- What was read is a number of 64 bits, and it took some of the bytes. -/
theorem getF_lt : ∀ (f i : Nat) (l : List UInt8) (n k : Nat), f + i = 10 → getF f i l = (0, n, k) → k ≤ l.length ∧ 1 ≤ k ∧ k ≤ f ∧ n < (if i = 10 then 1 else 2 * 128 ^ (9 - i))
  | 0, _, _, _, _, _, h => by simp [getF] at h
  | f + 1, i, [], _, _, _, h => by simp [getF] at h
  | f + 1, i, c :: r, n, k, hfi, h => by
    rw [getF] at h
    have hc := UInt8.toNat_lt c
    split at h
    · simp at h
    · rename_i hbad
      have hp : 1 ≤ 128 ^ (9 - i) := Nat.pow_pos (by decide)
      split at h
      · simp only [Prod.mk.injEq, true_and] at h
        obtain ⟨rfl, rfl⟩ := h
        refine ⟨by simp, by omega, by omega, ?_⟩
        rw [if_neg (by omega)]
        by_cases h9 : i = 9
        · subst h9
          simp
          omega
        · rw [show 9 - i = (8 - i) + 1 by omega, Nat.pow_succ]
          have : 1 ≤ 128 ^ (8 - i) := Nat.pow_pos (by decide)
          omega
      · generalize hx : getF f (i + 1) r = x at h
        obtain ⟨e, n', k'⟩ := x
        cases e with
        | succ e => simp at h
        | zero =>
          simp only [Prod.mk.injEq, true_and] at h
          obtain ⟨rfl, rfl⟩ := h
          obtain ⟨h1, h2, h3, h4⟩ := getF_lt f (i + 1) r n' k' (by omega) hx
          refine ⟨by simp; omega, by omega, by omega, ?_⟩
          have h9 : i ≠ 9 := by
            rintro rfl
            have : f = 0 := by omega
            subst this
            simp [getF] at hx
          rw [if_neg (by omega)] at h4
          rw [if_neg (by omega), show 9 - i = (9 - (i + 1)) + 1 by omega, Nat.pow_succ]
          omega
theorem rdU_lt (b : List UInt8) (at_ : Int) : (rdU b at_).1 < 18446744073709551616 := by
  rcases rdU_cases b at_ with ⟨n, k, h, _, hg⟩ | ⟨e, h⟩
  · rw [h]
    have := (getF_lt 10 0 _ n k rfl hg).2.2.2
    simpa using this
  · rw [h]; simp
end Bin

def rdIv (x : Int × Int × Int) : Value := .tuple #[.int .i64 x.1, .int .i64 x.2.1, .int .i64 x.2.2]



end Go.Proofs.Ytmogpoghngmnmaa
