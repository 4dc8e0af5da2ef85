/-
  Layer 1 in plain terms: what number, what text stands at a place. No program.
-/
import Derived.Test.YtmogpoghngmnmaaBinLaw
namespace Go.Proofs.Ytmogpoghngmnmaa
namespace Bin

/-- The number at the front: (error, number, how many bytes). f: digits left; i: digits read. -/
def getF : Nat → Nat → List UInt8 → Nat × Nat × Nat
  | 0, _, _ => (11, 0, 0)
  | _ + 1, _, [] => (10, 0, 0)
  | f + 1, i, c :: r =>
    if (i = 9 ∧ 1 < c.toNat) ∨ (c.toNat = 0 ∧ 0 < i) then (11, 0, 0)
    else if c.toNat < 128 then (0, c.toNat, 1)
    else match getF f (i + 1) r with
      | (0, n, k) => (0, c.toNat - 128 + 128 * n, k + 1)
      | (e + 1, _, _) => (e + 1, 0, 0)

/-- i digits were read, that come to acc. -/
def join (i acc : Nat) : Nat × Nat × Nat → Nat × Nat × Nat
  | (0, n, k) => (0, acc + 128 ^ i * n, i + k)
  | (e + 1, _, _) => (e + 1, 0, 0)

/-- What the first k bytes come to. -/
def accV (l : List UInt8) : Nat → Nat
  | 0 => 0
  | k + 1 => accV l k + 128 ^ k * ((l[k]?.getD 0).toNat - 128)

theorem accV_zero (l : List UInt8) : accV l 0 = 0 := rfl
theorem accV_succ (l : List UInt8) (k : Nat) : accV l (k + 1) = accV l k + 128 ^ k * ((l[k]?.getD 0).toNat - 128) := rfl
theorem accV_lt (l : List UInt8) : ∀ k, accV l k < 128 ^ k
  | 0 => by rw [accV_zero]; decide
  | k + 1 => by
    have h1 := accV_lt l k
    have h2 : (l[k]?.getD 0).toNat < 256 := UInt8.toNat_lt _
    rw [accV_succ, Nat.pow_succ]
    have h3 : 128 ^ k * ((l[k]?.getD 0).toNat - 128) ≤ 128 ^ k * 127 := Nat.mul_le_mul_left _ (by omega)
    omega

structure Inv (l : List UInt8) (i : Nat) : Prop where
  eq : getF 10 0 l = join i (accV l i) (getF (10 - i) i (l.drop i))
  le : i ≤ 10
  len : i ≤ l.length

theorem join_zero (x : Nat × Nat × Nat) (h : x.1 ≠ 0 → x = (x.1, 0, 0)) : join 0 0 x = x := by
  obtain ⟨e, n, k⟩ := x
  cases e with
  | zero => simp [join]
  | succ e => have := h (by simp); simp_all [join]

theorem getF_bad : ∀ (f i : Nat) (l : List UInt8), (getF f i l).1 ≠ 0 → getF f i l = ((getF f i l).1, 0, 0)
  | 0, _, _, _ => rfl
  | _ + 1, _, [], _ => rfl
  | f + 1, i, c :: r, h => by
    rw [getF] at h ⊢
    split
    · rfl
    · rename_i h1
      rw [if_neg h1] at h
      split
      · rename_i h2
        rw [if_pos h2] at h
        simp at h
      · rename_i h2
        rw [if_neg h2] at h
        generalize getF f (i + 1) r = x at *
        obtain ⟨e, n, k⟩ := x
        cases e with
        | zero => simp at h
        | succ e => rfl

theorem Inv.start (l : List UInt8) : Inv l 0 := ⟨by
  rw [show accV l 0 = 0 from rfl, List.drop_zero, join_zero _ (getF_bad 10 0 l)], by omega, by omega⟩

section
variable {l : List UInt8} {i : Nat}

theorem drop_at (h : i < l.length) : l.drop i = l[i] :: l.drop (i + 1) := by
  rw [List.drop_eq_getElem_cons h]

theorem Inv.bad (H : Inv l i) (hi : i < 10) (hl : i < l.length) (h : (i = 9 ∧ 1 < l[i].toNat) ∨ (l[i].toNat = 0 ∧ 0 < i)) : getF 10 0 l = (11, 0, 0) := by
  rw [H.eq, drop_at hl, show 10 - i = (9 - i) + 1 by omega, getF, if_pos h]
  rfl
theorem Inv.done (H : Inv l i) (hi : i < 10) (hl : i < l.length) (h : ¬ ((i = 9 ∧ 1 < l[i].toNat) ∨ (l[i].toNat = 0 ∧ 0 < i))) (hc : l[i].toNat < 128) :
    getF 10 0 l = (0, accV l i + 128 ^ i * l[i].toNat, i + 1) := by
  rw [H.eq, drop_at hl, show 10 - i = (9 - i) + 1 by omega, getF, if_neg h, if_pos hc]
  rfl
theorem Inv.step (H : Inv l i) (hi : i < 10) (hl : i < l.length) (h : ¬ ((i = 9 ∧ 1 < l[i].toNat) ∨ (l[i].toNat = 0 ∧ 0 < i))) (hc : 128 ≤ l[i].toNat) : Inv l (i + 1) := by
  refine ⟨?_, by omega, by omega⟩
  rw [H.eq, drop_at hl, show 10 - i = (9 - i) + 1 by omega, getF, if_neg h, if_neg (by omega), show 10 - (i + 1) = 9 - i by omega]
  generalize getF (9 - i) (i + 1) (l.drop (i + 1)) = x
  obtain ⟨e, n, k⟩ := x
  cases e with
  | succ e => rfl
  | zero =>
    have e1 : l[i]?.getD 0 = l[i] := by simp [hl]
    simp only [join, accV_succ, e1, Prod.mk.injEq, true_and]
    refine ⟨?_, by omega⟩
    rw [Nat.pow_succ, Nat.mul_add, Nat.mul_assoc, Nat.add_assoc]
theorem Inv.short (H : Inv l i) (hi : i < 10) (hl : l.length ≤ i) : getF 10 0 l = (10, 0, 0) := by
  rw [H.eq, List.drop_eq_nil_of_le hl, show 10 - i = (9 - i) + 1 by omega, getF]
  rfl
theorem Inv.end_ (H : Inv l 10) : getF 10 0 l = (11, 0, 0) := by rw [H.eq]; rfl

/-- n marked bytes, nine at most. -/
theorem Inv.of_marked : ∀ n, n ≤ 9 → n ≤ l.length → (∀ j, (h : j < l.length) → j < n → 128 ≤ l[j].toNat) → Inv l n
  | 0, _, _, _ => Inv.start l
  | n + 1, h9, hl, h => by
    have H := Inv.of_marked n (by omega) (by omega) (fun j hj hn => h j hj (by omega))
    have hn := h n (by omega) (by omega)
    exact H.step (by omega) (by omega) (by omega) hn
end

/-- What Uint answers: the number, the place behind, the error. -/
def rdU (b : List UInt8) (at_ : Int) : Nat × Int × Int :=
  if at_ < 0 ∨ (b.length : Int) < at_ then (0, 0, 2)
  else match getF 10 0 (b.drop at_.toNat) with
    | (0, n, k) => (n, at_ + k, 0)
    | (e + 1, _, _) => (0, 0, ((e + 1 : Nat) : Int))

theorem rdU_out {b : List UInt8} {at_ : Int} (h : at_ < 0 ∨ (b.length : Int) < at_) : rdU b at_ = (0, 0, 2) := if_pos h
theorem rdU_ok {b : List UInt8} {at_ : Int} {n k : Nat} (h0 : 0 ≤ at_) (h1 : at_ ≤ b.length) (h : getF 10 0 (b.drop at_.toNat) = (0, n, k)) : rdU b at_ = (n, at_ + k, 0) := by
  unfold rdU
  rw [if_neg (by omega), h]
theorem rdU_bad {b : List UInt8} {at_ : Int} {e : Nat} (h0 : 0 ≤ at_) (h1 : at_ ≤ b.length) (h : getF 10 0 (b.drop at_.toNat) = (e + 1, 0, 0)) : rdU b at_ = (0, 0, ((e + 1 : Nat) : Int)) := by
  unfold rdU
  rw [if_neg (by omega), h]
end Bin
end Go.Proofs.Ytmogpoghngmnmaa
