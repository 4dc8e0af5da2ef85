/-
  Frames in plain terms: what was put stands there; what stands there was put.
-/
import Derived.Test.YtgaegaaaoopolaaFrame2
namespace Go.Proofs.Ytgaegaaaoopolaa
open Go Go.RowKit Crc Bin

theorem be4_fixed {n : Nat} (hn : n < 4294967296) : be4 (UInt8.ofNat (n / 16777216 % 256)) (UInt8.ofNat (n / 65536 % 256)) (UInt8.ofNat (n / 256 % 256)) (UInt8.ofNat (n % 256)) = n := by
  unfold be4
  rw [u8_toNat (Nat.mod_lt _ (by decide)), u8_toNat (Nat.mod_lt _ (by decide)), u8_toNat (Nat.mod_lt _ (by decide)), u8_toNat (Nat.mod_lt _ (by decide))]
  omega
theorem rdF_fixed {n : Nat} (hn : n < 4294967296) (a r : List UInt8) {at_ : Int} (h : at_ = (a.length : Int)) : rdF (a ++ (fixed n ++ r)) at_ = (n, at_ + 4, 0) := by
  subst h
  unfold rdF
  rw [if_neg (by rw [List.length_append]; omega), Int.toNat_natCast, List.drop_left]
  simp only [fixed, List.cons_append, List.nil_append, be4_fixed hn]

theorem getR_put (k : UInt8) (l : List UInt8) (h : l.length ≤ 1024) (r : List UInt8) : getR (headG k l ++ (fixed (crc (headG k l)) ++ r)) = (k, l, l.length + 10, 0) := by
  obtain ⟨c, hc⟩ : ∃ c, c = crc (headG k l) := ⟨_, rfl⟩
  have hcl : c < 4294967296 := hc ▸ crc_lt _
  obtain ⟨X, hX⟩ : ∃ X, X = headG k l ++ (fixed (crc (headG k l)) ++ r) := ⟨_, rfl⟩
  have hX2 : X = [167, k] ++ (fixed l.length ++ (l ++ (fixed c ++ r))) := by rw [hX, hc]; simp [headG]
  have hlen : X.length = l.length + 10 + r.length := by rw [hX, List.length_append, List.length_append, headG_length]; simp [fixed]; omega
  have f1 : rdF X 2 = (l.length, 2 + 4, 0) := by rw [hX2]; exact rdF_fixed (by omega) [167, k] _ rfl
  have f2 : (rdF X (6 + (l.length : Int))).1 = c := by
    rw [hX, ← hc, rdF_fixed hcl (headG k l) r (by rw [headG_length]; omega)]
  have f3 : X.take (6 + l.length) = headG k l := by
    rw [hX, show 6 + l.length = (headG k l).length by rw [headG_length]; omega, List.take_left]
  have f4 : (X.drop 6).take l.length = l := by
    have e : X = ([167, k] ++ fixed l.length) ++ (l ++ (fixed c ++ r)) := by rw [hX2]; simp
    rw [e, show 6 = ([167, k] ++ fixed l.length).length by simp [fixed], List.drop_left, List.take_left]
  have f5 : X[0]? = some 167 := by rw [hX2]; rfl
  have f6 : X[1]? = some k := by rw [hX2]; rfl
  rw [← hX]
  unfold getR
  rw [if_neg (by omega), if_neg (by rw [f5]; simp), if_neg (by omega)]
  simp only [f1]
  rw [if_neg (by omega), if_neg (by omega), f2, f3, if_neg (by rw [hc]; simp), f6, f4]
  rfl

theorem getG_put (a : List UInt8) (k : UInt8) (l : List UInt8) (h : l.length ≤ 1024) (r : List UInt8) {at_ : Int} (hat : at_ = (a.length : Int)) :
    getG (a ++ (putG k l ++ r)) at_ = (k, l, at_ + ((l.length + 10 : Nat) : Int), 0) := by
  subst hat
  refine getG_ok (by omega) (by rw [List.length_append]; omega) ?_
  rw [Int.toNat_natCast, List.drop_left]
  unfold putG
  rw [if_neg (by omega), List.append_assoc]
  exact getR_put k l h r


theorem fixed_be4 (a b c d : UInt8) : fixed (be4 a b c d) = [a, b, c, d] := by
  have ha := UInt8.toNat_lt a; have hb := UInt8.toNat_lt b; have hc := UInt8.toNat_lt c; have hd := UInt8.toNat_lt d
  have e1 : UInt8.ofNat (be4 a b c d / 16777216 % 256) = a := by
    apply UInt8.toNat_inj.1
    rw [u8_toNat (Nat.mod_lt _ (by decide))]
    unfold be4; omega
  have e2 : UInt8.ofNat (be4 a b c d / 65536 % 256) = b := by
    apply UInt8.toNat_inj.1
    rw [u8_toNat (Nat.mod_lt _ (by decide))]
    unfold be4; omega
  have e3 : UInt8.ofNat (be4 a b c d / 256 % 256) = c := by
    apply UInt8.toNat_inj.1
    rw [u8_toNat (Nat.mod_lt _ (by decide))]
    unfold be4; omega
  have e4 : UInt8.ofNat (be4 a b c d % 256) = d := by
    apply UInt8.toNat_inj.1
    rw [u8_toNat (Nat.mod_lt _ (by decide))]
    unfold be4; omega
  unfold fixed
  rw [e1, e2, e3, e4]
theorem rdF_fix {b : List UInt8} {at_ : Int} (h0 : 0 ≤ at_) (h : at_ + 4 ≤ b.length) : fixed (rdF b at_).1 = (b.drop at_.toNat).take 4 := by
  rw [rdF_ok h0 h]
  dsimp only
  rw [fixed_be4, List.drop_eq_getElem_cons (by omega), List.drop_eq_getElem_cons (by omega), List.drop_eq_getElem_cons (by omega), List.drop_eq_getElem_cons (by omega)]
  rfl
/-- What is got was put. -/
theorem getR_one {r : List UInt8} {k : UInt8} {l : List UInt8} {n : Nat} (h : getR r = (k, l, n, 0)) : l.length ≤ 1024 ∧ n = l.length + 10 ∧ n ≤ r.length ∧ r.take n = putG k l := by
  unfold getR at h
  split at h
  · simp at h
  split at h
  · simp at h
  split at h
  · simp at h
  split at h
  · simp at h
  split at h
  · simp at h
  split at h
  · simp at h
  rename_i h1 h2 h3 h4 h5 h6
  simp only [Prod.mk.injEq, and_true] at h
  obtain ⟨e1, e2, e3⟩ := h
  have hN : (rdF r 2).1 = l.length := by rw [← e2, List.length_take, List.length_drop]; omega
  have f2 := rdF_fix (b := r) (at_ := 2) (by omega) (by omega)
  have f6 := rdF_fix (b := r) (at_ := 6 + ((rdF r 2).1 : Int)) (by omega) (by omega)
  rw [hN] at e2 e3 f2 f6 h4 h5 h6
  have t6 : (6 + (l.length : Int)).toNat = 6 + l.length := by omega
  have t2 : (2 : Int).toNat = 2 := rfl
  rw [t6] at f6
  rw [t2] at f2
  have hhead : r.take (6 + l.length) = headG k l := by
    match r, h3, h2, e1, f2, e2 with
    | a0 :: a1 :: a2 :: a3 :: a4 :: a5 :: t, h3, h2, e1, f2, e2 =>
      have g0 : a0 = 167 := by simpa using h2
      have g1 : a1 = k := by simpa using e1
      have g2 : fixed l.length = [a2, a3, a4, a5] := by simpa using f2
      have g3 : t.take l.length = l := by simpa using e2
      unfold headG
      rw [g2, g0, g1, show 6 + l.length = l.length + 1 + 1 + 1 + 1 + 1 + 1 by omega]
      simp only [List.take_succ_cons, g3, List.cons_append, List.nil_append]
    | [], h3, _, _, _, _ => exact absurd h3 (by simp)
    | [_], h3, _, _, _, _ => exact absurd h3 (by simp)
    | [_, _], h3, _, _, _, _ => exact absurd h3 (by simp)
    | [_, _, _], h3, _, _, _, _ => exact absurd h3 (by simp)
    | [_, _, _, _], h3, _, _, _, _ => exact absurd h3 (by simp)
    | [_, _, _, _, _], h3, _, _, _, _ => exact absurd h3 (by simp)
  refine ⟨by omega, by omega, by omega, ?_⟩
  unfold putG
  rw [if_neg (by omega), ← hhead, ← Decidable.not_not.1 h6, f6, ← e3, show l.length + 10 = 6 + l.length + 4 by omega, List.take_add]
end Go.Proofs.Ytgaegaaaoopolaa
