/-
  Layer 1 in plain terms: reading what was put gives it back, and what is read is what was put; order. No program.
-/
import Derived.Test.YtmogpoghngmnmaaBinLaw2
namespace Go.Proofs.Ytmogpoghngmnmaa
namespace Bin

theorem u8_of {n : Nat} (h : n < 256) : (UInt8.ofNat n).toNat = n := by
  rw [UInt8.toNat_ofNat']
  omega

theorem p9 {i n : Nat} (h : i = 9) (hb : n * 128 ^ i < 18446744073709551616) : n < 2 := by
  subst h
  simp only [Nat.reducePow] at hb
  omega
theorem p10 {i n : Nat} (h : i = 10) (hb : n * 128 ^ i < 18446744073709551616) : n = 0 := by
  subst h
  simp only [Nat.reducePow] at hb
  omega
theorem pdiv {i n : Nat} (hb : n * 128 ^ i < 18446744073709551616) : n / 128 * 128 ^ (i + 1) < 18446744073709551616 := by
  refine Nat.lt_of_le_of_lt ?_ hb
  rw [Nat.pow_succ', ← Nat.mul_assoc]
  exact Nat.mul_le_mul_right _ (Nat.div_mul_le_self n 128)

theorem getF_putF : ∀ (f i n : Nat) (r : List UInt8), i + f = 10 → n * 128 ^ i < 18446744073709551616 → (0 < i → 0 < n) →
    getF f i (putF f n ++ r) = (0, n, (putF f n).length)
  | 0, i, n, r, h, hb, hp => by
    have := p10 (by omega) hb
    have := hp (by omega)
    omega
  | f + 1, i, n, r, h, hb, hp => by
    have h9 : i = 9 → n < 2 := fun h => p9 h hb
    rw [putF]
    by_cases h1 : n < 128
    · rw [if_pos h1, List.singleton_append, getF, u8_of (by omega), if_neg (by omega), if_pos h1]
      rfl
    · rw [if_neg h1, List.cons_append, getF, u8_of (by omega), if_neg (by omega), if_neg (by omega), getF_putF f (i + 1) (n / 128) r (by omega) (pdiv hb) (by omega)]
      simp only [List.length_cons, Prod.mk.injEq, true_and, and_true]
      omega

theorem getF_put {n : Nat} (h : n < 18446744073709551616) (r : List UInt8) : getF 10 0 (put n ++ r) = (0, n, (put n).length) :=
  getF_putF 10 0 n r rfl (by omega) (by omega)

theorem put_inj {m n : Nat} (hm : m < 18446744073709551616) (hn : n < 18446744073709551616) (h : put m = put n) : m = n := by
  have h1 := getF_put hm []
  rw [h, getF_put hn []] at h1
  exact ((Prod.mk.inj (Prod.mk.inj h1).2).1).symm

theorem getF_one : ∀ (f i : Nat) (l : List UInt8) (n k : Nat), getF f i l = (0, n, k) → l.take k = putF f n ∧ 0 < k ∧ k ≤ l.length ∧ (0 < i → 0 < n)
  | 0, i, l, n, k, h => by simp [getF] at h
  | f + 1, i, [], n, k, h => by simp [getF] at h
  | f + 1, i, c :: r, n, k, h => by
    rw [getF] at h
    split at h
    · simp at h
    · rename_i h1
      split at h
      · rename_i h2
        obtain ⟨rfl, rfl⟩ : c.toNat = n ∧ 1 = k := by simpa using h
        refine ⟨?_, by omega, by simp, by omega⟩
        rw [putF, if_pos h2]
        simp
      · rename_i h2
        split at h
        · rename_i n' k' h3
          obtain ⟨h4, h5, h6, h7⟩ := getF_one f (i + 1) r n' k' h3
          obtain ⟨rfl, rfl⟩ : c.toNat - 128 + 128 * n' = n ∧ k' + 1 = k := by simpa using h
          have hc : c.toNat < 256 := UInt8.toNat_lt _
          have := h7 (by omega)
          refine ⟨?_, by omega, by simpa using h6, by omega⟩
          rw [putF, if_neg (by omega), List.take_succ_cons, h4]
          have e1 : (c.toNat - 128 + 128 * n') % 128 + 128 = c.toNat := by omega
          have e2 : (c.toNat - 128 + 128 * n') / 128 = n' := by omega
          rw [e1, e2, UInt8.ofNat_toNat]
        · simp at h

theorem getF_take {l : List UInt8} {n k : Nat} (h : getF 10 0 l = (0, n, k)) : l.take k = put n ∧ 0 < k ∧ k ≤ l.length :=
  have := getF_one 10 0 l n k h
  ⟨this.1, this.2.1, this.2.2.1⟩

theorem bl_mono {m n : Nat} (h : m ≤ n) : bl m ≤ bl n := by
  by_cases h0 : m = 0
  · subst h0; rw [bl_zero]; omega
  · obtain ⟨b, hb, h1, h2⟩ := bl_pos h0
    obtain ⟨c, hc, h3, h4⟩ := bl_pos (n := n) (by omega)
    rw [hb, hc]
    refine Nat.le_of_not_lt fun hlt => ?_
    have := Nat.pow_le_pow_right (show 0 < 2 by decide) (show c + 1 ≤ b by omega)
    omega
theorem sz_mono {m n : Nat} (h : m ≤ n) : sz m ≤ sz n := by
  have := bl_mono h
  unfold sz
  omega
theorem sz_eq_one {n : Nat} : sz n = 1 ↔ n < 128 := by
  constructor
  · intro h
    refine Nat.lt_of_not_le fun hge => ?_
    rw [sz_more hge] at h
    have := sz_pos (n / 128)
    omega
  · exact sz_one
end Bin
end Go.Proofs.Ytmogpoghngmnmaa
