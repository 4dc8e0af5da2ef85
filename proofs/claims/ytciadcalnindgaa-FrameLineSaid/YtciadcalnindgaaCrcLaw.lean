/-
  CRC-32 in plain terms: turns of a register; they are linear, and lose nothing. No program.
-/
namespace Go.Proofs.Ytciadcalnindgaa
namespace Crc

def poly : Nat := 3988292384
/-- One turn. -/
def sh (r : Nat) : Nat := if r % 2 = 1 then (r / 2) ^^^ poly else r / 2
def shN : Nat → Nat → Nat
  | 0, r => r
  | k + 1, r => sh (shN k r)
theorem shN_zero (r : Nat) : shN 0 r = r := rfl
theorem shN_succ (k r : Nat) : shN (k + 1) r = sh (shN k r) := rfl
def crcB (r : Nat) (c : UInt8) : Nat := shN 8 (r ^^^ c.toNat)
def crcL (r : Nat) (l : List UInt8) : Nat := l.foldl crcB r
def crc (l : List UInt8) : Nat := 4294967295 - crcL 4294967295 l
theorem crcL_nil (r : Nat) : crcL r [] = r := by unfold crcL; rw [List.foldl_nil]
theorem crcL_cons (r : Nat) (c : UInt8) (l : List UInt8) : crcL r (c :: l) = crcL (crcB r c) l := by unfold crcL; rw [List.foldl_cons]
theorem crcL_append (r : Nat) (a b : List UInt8) : crcL r (a ++ b) = crcL (crcL r a) b := by unfold crcL; rw [List.foldl_append]
theorem crcL_snoc (r : Nat) (a : List UInt8) (c : UInt8) : crcL r (a ++ [c]) = crcB (crcL r a) c := by rw [crcL_append, crcL_cons, crcL_nil]

theorem sh_lt {r : Nat} (h : r < 4294967296) : sh r < 4294967296 := by
  unfold sh
  split
  · exact Nat.xor_lt_two_pow (n := 32) (by omega) (by decide)
  · omega
theorem shN_lt {r : Nat} (h : r < 4294967296) : ∀ k, shN k r < 4294967296
  | 0 => h
  | k + 1 => sh_lt (shN_lt h k)
theorem byte_xor_lt {r : Nat} (h : r < 4294967296) (c : UInt8) : r ^^^ c.toNat < 4294967296 :=
  Nat.xor_lt_two_pow (n := 32) h (by have := UInt8.toNat_lt c; omega)
theorem crcB_lt {r : Nat} (h : r < 4294967296) (c : UInt8) : crcB r c < 4294967296 := shN_lt (byte_xor_lt h c) 8
theorem crcL_lt : ∀ {r : Nat} (l : List UInt8), r < 4294967296 → crcL r l < 4294967296
  | _, [], h => by rw [crcL_nil]; exact h
  | _, c :: l, h => by rw [crcL_cons]; exact crcL_lt l (crcB_lt h c)
theorem crc_lt (l : List UInt8) : crc l < 4294967296 := by unfold crc; omega

/-- Turns are linear. -/
theorem sh_xor (a b : Nat) : sh (a ^^^ b) = sh a ^^^ sh b := by
  unfold sh
  rw [Nat.xor_div_two]
  by_cases ha : a % 2 = 1 <;> by_cases hb : b % 2 = 1 <;> simp only [Nat.xor_mod_two_eq_one, ha, hb]
  · simp only [if_true, not_true, if_false]
    rw [show a / 2 ^^^ poly ^^^ (b / 2 ^^^ poly) = a / 2 ^^^ b / 2 ^^^ (poly ^^^ poly) by ac_rfl, Nat.xor_self, Nat.xor_zero]
  · simp only [iff_false, not_true, not_false_iff, if_true, if_false]
    ac_rfl
  · simp only [false_iff, not_true, not_false_iff, if_true, if_false]
    ac_rfl
  · simp
theorem shN_xor (a b : Nat) : ∀ k, shN k (a ^^^ b) = shN k a ^^^ shN k b
  | 0 => rfl
  | k + 1 => by rw [shN_succ, shN_succ, shN_succ, shN_xor a b k, sh_xor]
theorem crcB_xor (r s : Nat) (a b c : UInt8) (h : c.toNat = a.toNat ^^^ b.toNat) : crcB (r ^^^ s) c = crcB r a ^^^ crcB s b := by
  unfold crcB
  rw [h, ← shN_xor]
  congr 1
  ac_rfl

/-- Turns lose nothing. -/
theorem sh_zero {x : Nat} (h : x < 4294967296) (h0 : sh x = 0) : x = 0 := by
  unfold sh at h0
  split at h0
  · have h1 : x / 2 = poly := by
      have := congrArg (· ^^^ poly) h0
      simp only [Nat.xor_assoc, Nat.xor_self, Nat.xor_zero, Nat.zero_xor] at this
      exact this
    unfold poly at h1
    omega
  · omega
theorem shN_zero_of {x : Nat} (h : x < 4294967296) : ∀ k, shN k x = 0 → x = 0
  | 0, h0 => h0
  | k + 1, h0 => shN_zero_of h k (sh_zero (shN_lt h k) h0)
theorem xor_eq_zero' {a b : Nat} (h : a ^^^ b = 0) : a = b := by
  have := congrArg (· ^^^ b) h
  simpa only [Nat.xor_assoc, Nat.xor_self, Nat.xor_zero, Nat.zero_xor] using this
theorem shN_inj {a b : Nat} (ha : a < 4294967296) (hb : b < 4294967296) (k : Nat) (h : shN k a = shN k b) : a = b := by
  refine xor_eq_zero' (shN_zero_of (Nat.xor_lt_two_pow (n := 32) ha hb) k ?_)
  rw [shN_xor, h, Nat.xor_self]
theorem crcB_inj_r {r s : Nat} (hr : r < 4294967296) (hs : s < 4294967296) (c : UInt8) (h : crcB r c = crcB s c) : r = s := by
  have := shN_inj (byte_xor_lt hr c) (byte_xor_lt hs c) 8 h
  have h2 := congrArg (· ^^^ c.toNat) this
  simpa only [Nat.xor_assoc, Nat.xor_self, Nat.xor_zero] using h2
theorem crcB_inj_c {r : Nat} (hr : r < 4294967296) {a b : UInt8} (h : crcB r a = crcB r b) : a = b := by
  have := shN_inj (byte_xor_lt hr a) (byte_xor_lt hr b) 8 h
  have h2 := congrArg (r ^^^ ·) this
  simp only [← Nat.xor_assoc, Nat.xor_self, Nat.zero_xor] at h2
  exact UInt8.toNat_inj.1 h2
theorem crcL_inj : ∀ {r s : Nat} (l : List UInt8), r < 4294967296 → s < 4294967296 → crcL r l = crcL s l → r = s
  | _, _, [], _, _, h => by rw [crcL_nil, crcL_nil] at h; exact h
  | _, _, c :: l, hr, hs, h => by
    rw [crcL_cons, crcL_cons] at h
    exact crcB_inj_r hr hs c (crcL_inj l (crcB_lt hr c) (crcB_lt hs c) h)

/-- A sum tells one byte that was turned. -/
theorem crc_turned {p q : List UInt8} {a b : UInt8} (h : crc (p ++ a :: q) = crc (p ++ b :: q)) : a = b := by
  have h1 : crcL 4294967295 (p ++ a :: q) < 4294967296 := crcL_lt _ (by omega)
  have h2 : crcL 4294967295 (p ++ b :: q) < 4294967296 := crcL_lt _ (by omega)
  have h3 : crcL 4294967295 (p ++ a :: q) = crcL 4294967295 (p ++ b :: q) := by unfold crc at h; omega
  rw [crcL_append, crcL_append, crcL_cons, crcL_cons] at h3
  have hp : crcL 4294967295 p < 4294967296 := crcL_lt _ (by omega)
  exact crcB_inj_c hp (crcL_inj q (crcB_lt hp a) (crcB_lt hp b) h3)

/-- The document's turn: one bit of the text at a time. -/
def rs (r b : Nat) : Nat := if (r % 2 = 1) ↔ ¬ (b = 1) then (r / 2) ^^^ poly else r / 2
def refN (c : Nat) (r : Nat) : Nat → Nat
  | 0 => r
  | k + 1 => rs (refN c r k) (c / 2 ^ k % 2)
theorem sh_low (a x : Nat) : sh (a ^^^ x) = rs a (x % 2) ^^^ (x / 2) := by
  unfold sh rs
  rw [Nat.xor_div_two]
  have e : ((a ^^^ x) % 2 = 1) = ((a % 2 = 1) ↔ ¬ (x % 2 = 1)) := by
    rw [Nat.xor_mod_two_eq_one]
    by_cases ha : a % 2 = 1 <;> by_cases hx : x % 2 = 1 <;> simp [ha, hx]
  simp only [e]
  split
  · ac_rfl
  · rfl
theorem shN_ref (c r : Nat) : ∀ k, shN k (r ^^^ c) = refN c r k ^^^ (c / 2 ^ k)
  | 0 => by simp [shN, refN]
  | k + 1 => by
    rw [shN_succ, shN_ref c r k, sh_low, refN, Nat.pow_succ, Nat.div_div_eq_div_mul]
theorem crcB_ref (r : Nat) (c : UInt8) : refN c.toNat r 8 = crcB r c := by
  have h := shN_ref c.toNat r 8
  have hc := UInt8.toNat_lt c
  rw [show c.toNat / 2 ^ 8 = 0 by omega, Nat.xor_zero] at h
  exact h.symm
theorem refN_lt {c r : Nat} (h : r < 4294967296) : ∀ k, refN c r k < 4294967296
  | 0 => h
  | k + 1 => by
    have h1 := refN_lt (c := c) h k
    rw [refN, rs]
    split
    · exact Nat.xor_lt_two_pow (n := 32) (by omega) (by decide)
    · omega

/-- Of three texts of one length. -/
theorem crcL_line : ∀ (n : Nat) (a b o x : List UInt8) (r s t : Nat), a.length = n → b.length = n → o.length = n → x.length = n →
    (∀ i, i < n → (x[i]?.getD 0).toNat = (a[i]?.getD 0).toNat ^^^ (b[i]?.getD 0).toNat ^^^ (o[i]?.getD 0).toNat) →
    crcL r a ^^^ crcL s b ^^^ crcL t o = crcL (r ^^^ s ^^^ t) x
  | 0, a, b, o, x, r, s, t, ha, hb, ho, hx, _ => by
    obtain rfl := List.eq_nil_of_length_eq_zero ha
    obtain rfl := List.eq_nil_of_length_eq_zero hb
    obtain rfl := List.eq_nil_of_length_eq_zero ho
    obtain rfl := List.eq_nil_of_length_eq_zero hx
    rw [crcL_nil, crcL_nil, crcL_nil, crcL_nil]
  | n + 1, [], _, _, _, _, _, _, ha, _, _, _, _ => by simp at ha
  | n + 1, _, [], _, _, _, _, _, _, hb, _, _, _ => by simp at hb
  | n + 1, _, _, [], _, _, _, _, _, _, ho, _, _ => by simp at ho
  | n + 1, _, _, _, [], _, _, _, _, _, _, hx, _ => by simp at hx
  | n + 1, c1 :: a, c2 :: b, c3 :: o, c4 :: x, r, s, t, ha, hb, ho, hx, h => by
    have h0 : c4.toNat = c1.toNat ^^^ c2.toNat ^^^ c3.toNat := by simpa using h 0 (by omega)
    rw [crcL_cons, crcL_cons, crcL_cons, crcL_cons, crcL_line n a b o x _ _ _ (by simpa using ha) (by simpa using hb) (by simpa using ho) (by simpa using hx) (fun i hi => by simpa using h (i + 1) (by omega))]
    congr 1
    unfold crcB
    rw [← shN_xor, ← shN_xor, h0]
    congr 1
    ac_rfl
end Crc
end Go.Proofs.Ytciadcalnindgaa
