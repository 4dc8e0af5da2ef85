/-
  Law: a segment's bytes, and the segment that bytes are.
-/
import Derived.Test.YtgaegaaaoopolaaFrameLaw0
import Derived.Test.YtgaegaaaoopolaaBinLaw4
import Derived.Test.YtgaegaaaoopolaaSess1
namespace Go.Proofs.Ytgaegaaaoopolaa
open Go Go.RowKit Crc Bin

def segKind (q : Nat × Nat × Bool × List UInt8) : UInt8 := if q.2.2.1 then 4 else 3
def segBody (q : Nat × Nat × Bool × List UInt8) : List UInt8 := put q.1 ++ put q.2.1 ++ q.2.2.2
def segB (q : Nat × Nat × Bool × List UInt8) : List UInt8 := if isSeg q = false then [] else putG (segKind q) (segBody q)
def segE' (q : Nat × Nat × Bool × List UInt8) : Int := if isSeg q = false then 2 else putE (segBody q)
def parseQ (b : List UInt8) : Nat × Nat × Bool × List UInt8 :=
  ((rdU (getG b 0).2.1 0).1, (rdU (getG b 0).2.1 (rdU (getG b 0).2.1 0).2.1).1, decide ((getG b 0).1 = 4), (getG b 0).2.1.drop (rdU (getG b 0).2.1 (rdU (getG b 0).2.1 0).2.1).2.1.toNat)
def parseE (b : List UInt8) : Int :=
  if (getG b 0).2.2.2 ≠ 0 then (getG b 0).2.2.2
  else if (rdU (getG b 0).2.1 0).2.2 ≠ 0 then 11
  else if (rdU (getG b 0).2.1 (rdU (getG b 0).2.1 0).2.1).2.2 ≠ 0 then 11
  else if (getG b 0).2.2.1 < (b.length : Int) ∨ ((getG b 0).1 ≠ 3 ∧ (getG b 0).1 ≠ 4) ∨ isSeg (parseQ b) = false then 11 else 0

theorem segBody_le {q : Nat × Nat × Bool × List UInt8} (h1 : q.1 < 18446744073709551616) (h2 : q.2.1 < 18446744073709551616) (hs : isSeg q = true) : (segBody q).length ≤ 1020 := by
  have p1 := put_len10 h1
  have p2 := put_len10 h2
  have : q.2.2.2.length ≤ 1000 := by
    unfold isSeg at hs
    split at hs
    · have := of_decide_eq_true hs; omega
    · have := of_decide_eq_true hs; omega
  unfold segBody
  simp only [List.length_append]
  omega
theorem segE_ok {q : Nat × Nat × Bool × List UInt8} (h1 : q.1 < 18446744073709551616) (h2 : q.2.1 < 18446744073709551616) : segE' q = 0 ↔ isSeg q = true := by
  unfold segE'
  cases h : isSeg q
  · simp
  · have := segBody_le h1 h2 h
    rw [if_neg (by simp)]
    unfold putE
    rw [if_neg (by omega)]
    simp
/-- A segment that was written, read. -/
theorem parse_put {q : Nat × Nat × Bool × List UInt8} (h1 : q.1 < 18446744073709551616) (h2 : q.2.1 < 18446744073709551616) (hs : isSeg q = true) (more : List UInt8) :
    getG (segB q ++ more) 0 = (segKind q, segBody q, ((segB q).length : Int), 0) ∧ (rdU (segBody q) 0).2.2 = 0 ∧ (rdU (segBody q) (rdU (segBody q) 0).2.1).2.2 = 0 ∧ parseQ (segB q ++ more) = q := by
  have hb := segBody_le h1 h2 hs
  have hg := getG_put [] (segKind q) (segBody q) (by omega) more (at_ := 0) rfl
  rw [List.nil_append] at hg
  have hsb : segB q = putG (segKind q) (segBody q) := by unfold segB; rw [if_neg (by rw [hs]; simp)]
  have hlen : ((segB q).length : Int) = 0 + ((segBody q).length + 10 : Nat) := by rw [hsb, putG_length (by omega)]; omega
  rw [← hsb, ← hlen] at hg
  have r1 : rdU (segBody q) 0 = (q.1, ((put q.1).length : Int), 0) := by
    have := rdU_put h1 [] (put q.2.1 ++ q.2.2.2) (at_ := 0) rfl
    rw [List.nil_append, ← List.append_assoc] at this
    rw [show (0 : Int) + ((put q.1).length : Int) = ((put q.1).length : Int) by omega] at this
    exact this
  have r2 : rdU (segBody q) ((put q.1).length : Int) = (q.2.1, ((put q.1).length : Int) + ((put q.2.1).length : Int), 0) := by
    have := rdU_put h2 (put q.1) q.2.2.2 (at_ := ((put q.1).length : Int)) rfl
    rw [← List.append_assoc] at this
    exact this
  refine ⟨hg, by rw [r1], by rw [r1]; dsimp only; rw [r2], ?_⟩
  unfold parseQ
  rw [hg]
  dsimp only
  rw [r1]
  dsimp only
  rw [r2]
  dsimp only
  have hd : (segBody q).drop (((put q.1).length : Int) + ((put q.2.1).length : Int)).toNat = q.2.2.2 := by
    unfold segBody
    rw [show (((put q.1).length : Int) + ((put q.2.1).length : Int)).toNat = (put q.1 ++ put q.2.1).length by rw [List.length_append]; omega, List.drop_left]
  rw [hd]
  obtain ⟨a, b, k, l⟩ := q
  unfold segKind
  cases k <;> rfl
/-- Bytes that are read are written as they were. -/
theorem parse_one {b : List UInt8} (h0 : (getG b 0).2.2.2 = 0) (h1 : (rdU (getG b 0).2.1 0).2.2 = 0) (h2 : (rdU (getG b 0).2.1 (rdU (getG b 0).2.1 0).2.1).2.2 = 0) :
    segBody (parseQ b) = (getG b 0).2.1 ∧ (∃ n : Nat, (getG b 0).2.2.1 = (n : Int) ∧ n ≤ b.length ∧ b.take n = putG (getG b 0).1 (getG b 0).2.1) ∧ (parseQ b).1 < 18446744073709551616 ∧ (parseQ b).2.1 < 18446744073709551616 ∧
      0 ≤ (rdU (getG b 0).2.1 (rdU (getG b 0).2.1 0).2.1).2.1 ∧ (rdU (getG b 0).2.1 (rdU (getG b 0).2.1 0).2.1).2.1 ≤ (getG b 0).2.1.length ∧ 0 ≤ (rdU (getG b 0).2.1 0).2.1 ∧ (rdU (getG b 0).2.1 0).2.1 ≤ (getG b 0).2.1.length := by
  have hf : ∃ n : Nat, (getG b 0).2.2.1 = (n : Int) ∧ n ≤ b.length ∧ b.take n = putG (getG b 0).1 (getG b 0).2.1 := by
    unfold getG at h0 ⊢
    rw [if_neg (by omega)] at h0 ⊢
    rw [show (0 : Int).toNat = 0 from rfl, List.drop_zero] at h0 ⊢
    by_cases he : (getR b).2.2.2 ≠ 0
    · rw [if_pos he] at h0
      dsimp only at h0
      omega
    · rw [if_neg he]
      have he' : (getR b).2.2.2 = 0 := by omega
      obtain ⟨a1, a2, a3, a4⟩ := getR_one (r := b) (k := (getR b).1) (l := (getR b).2.1) (n := (getR b).2.2.1) (by rw [← he'])
      exact ⟨(getR b).2.2.1, by simp, a3, a4⟩
  obtain ⟨a1, a2, a3, a4, a5⟩ := one_U (l := (getG b 0).2.1) (at_ := 0) (to := (rdU (getG b 0).2.1 0).2.1) (n := (rdU (getG b 0).2.1 0).1) (Prod.ext rfl (Prod.ext rfl h1))
  obtain ⟨b1, b2, b3, b4, b5⟩ := one_U (l := (getG b 0).2.1) (at_ := (rdU (getG b 0).2.1 0).2.1) (to := (rdU (getG b 0).2.1 (rdU (getG b 0).2.1 0).2.1).2.1) (n := (rdU (getG b 0).2.1 (rdU (getG b 0).2.1 0).2.1).1) (Prod.ext rfl (Prod.ext rfl h2))
  refine ⟨?_, hf, a5, b5, by omega, b3, by omega, a3⟩
  unfold segBody parseQ
  dsimp only
  rw [← a4, ← b4]
  generalize (getG b 0).2.1 = f at *
  generalize (rdU f (rdU f 0).2.1).2.1 = t2 at *
  generalize (rdU f 0).2.1 = t1 at *
  rw [show (0 : Int).toNat = 0 from rfl, List.drop_zero, Nat.sub_zero]
  have e1 : f.take t1.toNat ++ (f.drop t1.toNat).take (t2.toNat - t1.toNat) = f.take t2.toNat := by
    rw [← List.take_add]
    congr 1
    omega
  rw [e1, List.take_append_drop]
theorem parse_same {b : List UInt8} (h0 : (getG b 0).2.2.2 = 0) (h1 : (rdU (getG b 0).2.1 0).2.2 = 0) (h2 : (rdU (getG b 0).2.1 (rdU (getG b 0).2.1 0).2.1).2.2 = 0) :
    (¬ ((getG b 0).2.2.1 < (b.length : Int) ∨ ((getG b 0).1 ≠ 3 ∧ (getG b 0).1 ≠ 4) ∨ isSeg (parseQ b) = false)) ↔ (segE' (parseQ b) = 0 ∧ segB (parseQ b) = b) := by
  obtain ⟨c1, ⟨n, c2, c3, c4⟩, c5, c6, _⟩ := parse_one h0 h1 h2
  constructor
  · intro h
    simp only [not_or, Bool.not_eq_false] at h
    obtain ⟨g1, g2, g3⟩ := h
    have hn : n = b.length := by omega
    rw [hn, List.take_length] at c4
    refine ⟨(segE_ok c5 c6).2 g3, ?_⟩
    unfold segB
    rw [if_neg (by rw [g3]; simp), c1]
    have hk : segKind (parseQ b) = (getG b 0).1 := by
      unfold segKind parseQ
      dsimp only
      by_cases h4 : (getG b 0).1 = 4
      · rw [h4]; rfl
      · have h3 : (getG b 0).1 = 3 := Classical.byContradiction fun h => g2 ⟨h, h4⟩
        rw [h3]; rfl
    rw [hk, ← c4]
  · rintro ⟨g1, g2⟩
    have hs := (segE_ok c5 c6).1 g1
    obtain ⟨p1, _⟩ := parse_put c5 c6 hs []
    rw [List.append_nil, g2] at p1
    have k1 : (getG b 0).1 = segKind (parseQ b) := by rw [p1]
    have k2 : (getG b 0).2.2.1 = (b.length : Int) := by rw [p1]
    rintro (h | h | h)
    · omega
    · rw [k1] at h
      unfold segKind at h
      split at h
      · exact h.2 rfl
      · exact h.1 rfl
    · rw [hs] at h; cases h
end Go.Proofs.Ytgaegaaaoopolaa
