/-
  Law: a message that is cut; what is got is put as the bytes were (pdu).
-/
import Derived.Test.YtinbcidgdbmcjaaPduLaw
namespace Go.Proofs.Ytinbcidgdbmcjaa
open Go Go.RowKit Bin

theorem hdM_head (m : MX) (hm : m.op ∈ opsL) (r : List UInt8) : (hdM (headM m ++ r)).op = m.op ∧ (hdM (headM m ++ r)).now = m.now := by
  have e0 : el (headM m ++ r) 0 = opB m.op m.now := rfl
  have hob := opB_nat (now := m.now) hm
  have hop := opsL_le hm
  constructor
  · unfold hdM
    dsimp only
    rw [e0, hob]
    cases m.now
    · simp; omega
    · simp; omega
  · unfold hdM
    dsimp only
    rw [e0, hob]
    cases m.now
    · simp; omega
    · simp; omega
/-- A head, and too little behind it. -/
theorem head_short (m : MX) (hm : m.inn) (hc : chkM m.op m.now m.l.length = 0) (r : List UInt8) (hr : r.length < m.l.length + padN m.l.length) : getE (headM m ++ r) = 10 := by
  obtain ⟨h1, h2, h3⟩ := chkM_zero hc
  obtain ⟨w4, _⟩ := headM_wd m hm (by omega) r
  have hh := hdM_head m h1 r
  have hc0 := chkM_of hc (k := 0) (by omega)
  have he : endM (headM m ++ r) = 48 + m.l.length + padN m.l.length := by unfold endM; rw [w4]
  unfold getE
  rw [if_neg (by rw [List.length_append, headM_length]; omega), hh.1, hh.2, hc0, if_neg (by decide), if_neg, w4, if_neg (by omega), he, if_pos (by rw [List.length_append, headM_length]; omega)]
  rintro (h | h | h | h)
  · exact h rfl
  · exact h rfl
  · exact h rfl
  · apply h
    show UInt8.ofNat (m.l.length / 16777216 % 256) = 0
    rw [show m.l.length / 16777216 % 256 = 0 by omega]
    rfl
/-- A message that is cut is none. -/
theorem get_cut (m : MX) (hm : m.inn) (hc : chkM m.op m.now m.l.length = 0) (j : Nat) (hj : j < (putM m).length) : getE ((putM m).take j) = 10 := by
  have hl := putM_length m
  by_cases h48 : j < 48
  · unfold getE
    rw [if_pos (by rw [List.length_take]; omega)]
  · have e : (putM m).take j = headM m ++ (m.l ++ List.replicate (padN m.l.length) 0).take (j - 48) := by
      unfold putM
      rw [List.append_assoc, List.take_append, headM_length, List.take_of_length_le (by rw [headM_length]; omega)]
    rw [e]
    exact head_short m hm hc _ (by rw [List.length_take, List.length_append, List.length_replicate]; omega)
theorem take_48 {b : List UInt8} (h : 48 ≤ b.length) : b.take 48 = (List.range 48).map (el b) := by
  apply List.ext_getElem
  · simp; omega
  · intro i h1 h2
    have hi : i < b.length := by simp at h1; omega
    simp [el, hi]
theorem all_zero : ∀ (l : List UInt8), l.all (· == 0) = true → l = List.replicate l.length 0
  | [], _ => rfl
  | x :: l, h => by
    rw [List.all_cons, Bool.and_eq_true] at h
    rw [List.length_cons, List.replicate_succ, ← all_zero l h.2]
    rw [eq_of_beq h.1]
theorem zeros_pad {b : List UInt8} {k p : Nat} (h : k + p ≤ b.length) (hz : ((b.drop k).take p).all (· == 0) = true) : List.replicate p 0 = (b.drop k).take p := by
  have h1 := all_zero _ hz
  have h2 : ((b.drop k).take p).length = p := by
    rw [List.length_take, List.length_drop]
    omega
  rw [h2] at h1
  exact h1.symm
theorem getE_zero {b : List UInt8} (h : getE b = 0) : 48 ≤ b.length ∧ chkM (hdM b).op (hdM b).now 0 = 0 ∧ (el b 2 = 0 ∧ el b 3 = 0 ∧ el b 4 = 0) ∧ wd b 4 ≤ 4096 ∧ endM b ≤ b.length ∧ ((b.drop (48 + wd b 4)).take (padN (wd b 4))).all (· == 0) = true := by
  unfold getE at h
  split at h
  · cases h
  rename_i g1
  split at h
  · cases h
  rename_i g2
  split at h
  · cases h
  rename_i g3
  split at h
  · cases h
  rename_i g4
  split at h
  · cases h
  rename_i g5
  split at h
  · rename_i g6
    have q : ∀ p : Prop, ¬ ¬ p → p := fun p hp => Classical.not_not.1 hp
    exact ⟨by omega, q _ fun e => g3 (.inl e), ⟨q _ fun e => g3 (.inr (.inl e)), q _ fun e => g3 (.inr (.inr (.inl e))), q _ fun e => g3 (.inr (.inr (.inr e)))⟩, by omega, by omega, g6⟩
  · cases h
/-- What is got is put as the bytes were. -/
theorem put_get {b : List UInt8} (h : getE b = 0) : putM (hdM b) = b.take (endM b) ∧ chkM (hdM b).op (hdM b).now (hdM b).l.length = 0 ∧ (hdM b).l.length = wd b 4 ∧ endM b ≤ b.length := by
  obtain ⟨h48, hc, ⟨e2, e3, e4⟩, hn, he, hz⟩ := getE_zero h
  have he2 : endM b = 48 + wd b 4 + padN (wd b 4) := rfl
  have hl : (hdM b).l.length = wd b 4 := by
    show ((b.drop 48).take (wd b 4)).length = _
    rw [List.length_take, List.length_drop]
    omega
  refine ⟨?_, chkM_of hc (by omega), hl, he⟩
  obtain ⟨c1, c2, _⟩ := chkM_zero hc
  have hop := opsL_le c1
  have h8 := wd_lt b 8
  have h12 := wd_lt b 12
  have hb0 := UInt8.toNat_lt (el b 0)
  have o1 : opB (hdM b).op (hdM b).now = el b 0 := by
    unfold opB hdM
    dsimp only
    have hop2 : 0 ≤ (if (el b 0).toNat / 64 % 2 = 1 then ((el b 0).toNat : Int) - 64 else ((el b 0).toNat : Int)) := hop.1
    by_cases h64 : (el b 0).toNat / 64 % 2 = 1
    · rw [if_pos h64] at hop2 ⊢
      rw [decide_eq_true h64, if_pos rfl, show (((el b 0).toNat : Int) - 64).toNat + 64 = (el b 0).toNat by omega]
      simp
    · rw [if_neg h64]
      rw [decide_eq_false h64]
      simp
  have hlun : (hdM b).lun / 4294967296 = wd b 8 ∧ (hdM b).lun % 4294967296 = wd b 12 := by
    have e : (hdM b).lun = wd b 8 * 4294967296 + wd b 12 := rfl
    rw [e]
    omega
  have hh : headM (hdM b) = b.take 48 := by
    rw [take_48 h48]
    unfold headM wordsM
    rw [o1, hl, hlun.1, hlun.2]
    rw [show (hdM b).flags = el b 1 from rfl, show (hdM b).tag = wd b 16 from rfl, show (hdM b).ws 0 = wd b 20 from rfl, show (hdM b).ws 1 = wd b 24 from rfl, show (hdM b).ws 2 = wd b 28 from rfl, show (hdM b).ws 3 = wd b 32 from rfl, show (hdM b).ws 4 = wd b 36 from rfl, show (hdM b).ws 5 = wd b 40 from rfl, show (hdM b).ws 6 = wd b 44 from rfl]
    simp only [List.flatMap_cons, List.flatMap_nil]
    unfold wd
    simp only [fixed_be4]
    rw [show [el b 0, el b 1, (0 : UInt8), 0] = [el b 0, el b 1, el b 2, el b 3] by rw [e2, e3]]
    rfl
  have hp : List.replicate (padN (hdM b).l.length) 0 = (b.drop (48 + wd b 4)).take (padN (wd b 4)) := by
    rw [hl]
    exact zeros_pad (by rw [← he2]; exact he) hz
  unfold putM
  rw [hh, hp]
  show b.take 48 ++ (b.drop 48).take (wd b 4) ++ (b.drop (48 + wd b 4)).take (padN (wd b 4)) = b.take (endM b)
  rw [he2, ← List.take_add, ← List.take_add]
end Go.Proofs.Ytinbcidgdbmcjaa
