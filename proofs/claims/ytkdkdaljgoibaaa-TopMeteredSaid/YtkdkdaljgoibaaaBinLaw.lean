/-
  Layer 1 in plain terms: a number's bytes, and what stands at a place. No program.
-/
namespace Go.Proofs.Ytkdkdaljgoibaaa
namespace Bin

/-- How many bits. -/
def bl (n : Nat) : Nat := if n = 0 then 0 else n.log2 + 1
theorem bl_eq {n b : Nat} (h1 : 2 ^ b ≤ n) (h2 : n < 2 ^ (b + 1)) : bl n = b + 1 := by
  have hn : n ≠ 0 := by
    have := Nat.two_pow_pos b
    omega
  unfold bl
  rw [if_neg hn, (Nat.log2_eq_iff hn).2 ⟨h1, h2⟩]
theorem bl_zero : bl 0 = 0 := rfl
theorem bl_pos {n : Nat} (h : n ≠ 0) : ∃ b, bl n = b + 1 ∧ 2 ^ b ≤ n ∧ n < 2 ^ (b + 1) := by
  have := (Nat.log2_eq_iff (n := n) (k := n.log2) h).1 rfl
  exact ⟨n.log2, by simp [bl, h], this.1, this.2⟩
theorem bl_div {n k : Nat} (h : 2 ^ k ≤ n) : bl n = k + bl (n / 2 ^ k) := by
  have hp := Nat.two_pow_pos k
  have hq : n / 2 ^ k ≠ 0 := by
    have := Nat.div_pos h hp
    omega
  obtain ⟨b, hb, h1, h2⟩ := bl_pos hq
  rw [hb]
  have h3 : 2 ^ (k + b) ≤ n := by
    rw [Nat.pow_add, Nat.mul_comm]
    exact (Nat.le_div_iff_mul_le hp).1 h1
  have h4 : n < 2 ^ (k + b + 1) := by
    rw [show k + b + 1 = k + (b + 1) by omega, Nat.pow_add, Nat.mul_comm]
    exact (Nat.div_lt_iff_lt_mul hp).1 h2
  rw [bl_eq h3 h4]
  omega

/-- The table of Len8. -/
def len8 : List UInt8 := [0, 1, 2, 2, 3, 3, 3, 3, 4, 4, 4, 4, 4, 4, 4, 4, 5, 5, 5, 5, 5, 5, 5, 5, 5, 5, 5, 5, 5, 5, 5, 5, 6, 6, 6, 6, 6, 6, 6, 6, 6, 6, 6, 6, 6, 6, 6, 6, 6, 6, 6, 6, 6, 6, 6, 6, 6, 6, 6, 6, 6, 6, 6, 6, 7, 7, 7, 7, 7, 7, 7, 7, 7, 7, 7, 7, 7, 7, 7, 7, 7, 7, 7, 7, 7, 7, 7, 7, 7, 7, 7, 7, 7, 7, 7, 7, 7, 7, 7, 7, 7, 7, 7, 7, 7, 7, 7, 7, 7, 7, 7, 7, 7, 7, 7, 7, 7, 7, 7, 7, 7, 7, 7, 7, 7, 7, 7, 7, 8, 8, 8, 8, 8, 8, 8, 8, 8, 8, 8, 8, 8, 8, 8, 8, 8, 8, 8, 8, 8, 8, 8, 8, 8, 8, 8, 8, 8, 8, 8, 8, 8, 8, 8, 8, 8, 8, 8, 8, 8, 8, 8, 8, 8, 8, 8, 8, 8, 8, 8, 8, 8, 8, 8, 8, 8, 8, 8, 8, 8, 8, 8, 8, 8, 8, 8, 8, 8, 8, 8, 8, 8, 8, 8, 8, 8, 8, 8, 8, 8, 8, 8, 8, 8, 8, 8, 8, 8, 8, 8, 8, 8, 8, 8, 8, 8, 8, 8, 8, 8, 8, 8, 8, 8, 8, 8, 8, 8, 8, 8, 8, 8, 8, 8, 8, 8, 8, 8, 8, 8, 8, 8, 8, 8, 8, 8, 8]
theorem len8_at : ∀ x, x < 256 → len8[x]? = some (UInt8.ofNat (bl x)) := by decide +kernel
theorem bl_lt : ∀ x, x < 256 → bl x ≤ 8 := by decide +kernel

/-- A number's bytes: seven bits each, the lowest first; a mark on all but the last. -/
def putF : Nat → Nat → List UInt8
  | 0, _ => []
  | f + 1, n => if n < 128 then [UInt8.ofNat n] else UInt8.ofNat (n % 128 + 128) :: putF f (n / 128)
def put (n : Nat) : List UInt8 := putF 10 n

/-- How many bytes. -/
def sz (n : Nat) : Nat := max 1 ((bl n + 6) / 7)

theorem sz_one {n : Nat} (h : n < 128) : sz n = 1 := by
  unfold sz
  by_cases h0 : n = 0
  · subst h0; rfl
  · obtain ⟨b, hb, h1, h2⟩ := bl_pos h0
    have : b < 7 := by
      refine Nat.lt_of_not_le fun hge => ?_
      have := Nat.pow_le_pow_right (show 0 < 2 by decide) hge
      omega
    rw [hb]
    omega
theorem sz_more {n : Nat} (h : 128 ≤ n) : sz n = sz (n / 128) + 1 := by
  have h1 := bl_div (k := 7) (n := n) h
  have h2 : n / 128 ≠ 0 := by omega
  obtain ⟨b, hb, _⟩ := bl_pos h2
  unfold sz
  rw [h1, show (2 : Nat) ^ 7 = 128 by rfl, hb]
  omega

/-- The bytes that the loop writes in its first k rounds. -/
def marked (n : Nat) : Nat → List UInt8
  | 0 => []
  | k + 1 => UInt8.ofNat (n % 128 + 128) :: marked (n / 128) k
theorem marked_length : ∀ (k n : Nat), (marked n k).length = k
  | 0, _ => rfl
  | k + 1, n => by simp [marked, marked_length k]
theorem marked_snoc : ∀ (k n : Nat), marked n (k + 1) = marked n k ++ [UInt8.ofNat (n / 128 ^ k % 128 + 128)]
  | 0, n => by simp [marked]
  | k + 1, n => by
    rw [marked, marked_snoc k (n / 128), marked, List.cons_append, Nat.div_div_eq_div_mul, ← Nat.pow_succ']
theorem putF_eq : ∀ (f n : Nat), n < 128 ^ f → 0 < f → putF f n = marked n (sz n - 1) ++ [UInt8.ofNat (n / 128 ^ (sz n - 1))] ∧ sz n ≤ f
  | 0, _, _, h => by omega
  | f + 1, n, hn, _ => by
    rw [putF]
    by_cases h : n < 128
    · rw [if_pos h, sz_one h]
      simp [marked]
    · rw [if_neg h, sz_more (by omega)]
      have hf : 0 < f := by
        rcases Nat.eq_zero_or_pos f with rfl | h0
        · simp at hn; omega
        · exact h0
      have h1 : n / 128 < 128 ^ f := by
        rw [Nat.pow_succ] at hn
        exact (Nat.div_lt_iff_lt_mul (by decide)).2 hn
      obtain ⟨h2, h3⟩ := putF_eq f (n / 128) h1 hf
      refine ⟨?_, by omega⟩
      have h4 : 1 ≤ sz (n / 128) := by unfold sz; omega
      rw [h2, show sz (n / 128) + 1 - 1 = (sz (n / 128) - 1) + 1 by omega, marked, Nat.pow_succ', ← Nat.div_div_eq_div_mul, List.cons_append]
theorem put_eq {n : Nat} (hn : n < 18446744073709551616) : put n = marked n (sz n - 1) ++ [UInt8.ofNat (n / 128 ^ (sz n - 1))] := (putF_eq 10 n (by omega) (by omega)).1
theorem sz_le {n : Nat} (hn : n < 18446744073709551616) : sz n ≤ 10 := (putF_eq 10 n (by omega) (by omega)).2
theorem sz_pos (n : Nat) : 1 ≤ sz n := by unfold sz; omega
theorem put_length {n : Nat} (hn : n < 18446744073709551616) : (put n).length = sz n := by
  rw [put_eq hn]
  have := sz_pos n
  simp [marked_length]
  omega
theorem top_lt : ∀ (s n : Nat), sz n = s → n / 128 ^ (s - 1) < 128
  | 0, n, h => by have := sz_pos n; omega
  | s + 1, n, h => by
    by_cases h1 : n < 128
    · rw [sz_one h1] at h
      obtain rfl : s = 0 := by omega
      simpa using h1
    · rw [sz_more (by omega)] at h
      have := top_lt s (n / 128) (by omega)
      have hs : 1 ≤ s := by have := sz_pos (n / 128); omega
      rw [show s + 1 - 1 = (s - 1) + 1 by omega, Nat.pow_succ', ← Nat.div_div_eq_div_mul]
      exact this
end Bin
end Go.Proofs.Ytkdkdaljgoibaaa
