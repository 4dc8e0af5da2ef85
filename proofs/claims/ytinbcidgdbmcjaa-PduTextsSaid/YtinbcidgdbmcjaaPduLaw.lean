/-
  Law: a message's bytes, and the message at the beginning of bytes (pdu).
-/
import Derived.Test.YtinbcidgdbmcjaaZeros
import Derived.Test.YtinbcidgdbmcjaaFix
namespace Go.Proofs.Ytinbcidgdbmcjaa
open Go Go.RowKit Bin

def opsL : List Int := [0, 1, 3, 5, 6, 32, 33, 35, 37, 38, 49]
theorem opsL_le {z : Int} (h : z ∈ opsL) : 0 ≤ z ∧ z ≤ 49 := by
  unfold opsL at h
  simp only [List.mem_cons, List.not_mem_nil, or_false] at h
  omega
/-- A message. -/
structure MX where
  op : Int
  now : Bool
  flags : UInt8
  lun : Nat
  tag : Nat
  ws : Nat → Nat
  l : List UInt8
structure MX.inn (m : MX) : Prop where
  lun : m.lun < 18446744073709551616
  tag : m.tag < 4294967296
  ws : ∀ i, i < 7 → m.ws i < 4294967296
def chkM (op : Int) (now : Bool) (n : Nat) : Int := if op ∉ opsL then 190 else if now = true ∧ 32 ≤ op then 11 else if 4096 < n then 3 else 0
def padN (n : Nat) : Nat := (4 - n % 4) % 4
def opB (op : Int) (now : Bool) : UInt8 := UInt8.ofNat (op.toNat + if now then 64 else 0)
def wordsM (m : MX) : List Nat := [m.ws 0, m.ws 1, m.ws 2, m.ws 3, m.ws 4, m.ws 5, m.ws 6]
def headM (m : MX) : List UInt8 := ([opB m.op m.now, m.flags, 0, 0] ++ [m.l.length, m.lun / 4294967296, m.lun % 4294967296, m.tag].flatMap fixed) ++ (wordsM m).flatMap fixed
def putM (m : MX) : List UInt8 := (headM m ++ m.l) ++ List.replicate (padN m.l.length) 0

def wd (b : List UInt8) (k : Nat) : Nat := be4 (el b k) (el b (k + 1)) (el b (k + 2)) (el b (k + 3))
/-- The message at the beginning: its head, and its bytes. -/
def hdM (b : List UInt8) : MX := ⟨if (el b 0).toNat / 64 % 2 = 1 then ((el b 0).toNat : Int) - 64 else ((el b 0).toNat : Int), decide ((el b 0).toNat / 64 % 2 = 1), el b 1, wd b 8 * 4294967296 + wd b 12, wd b 16, fun i => wd b (20 + 4 * i), (b.drop 48).take (wd b 4)⟩
def endM (b : List UInt8) : Nat := 48 + wd b 4 + padN (wd b 4)
def getE (b : List UInt8) : Int :=
  if b.length < 48 then 10
  else if chkM (hdM b).op (hdM b).now 0 = 190 then 190
  else if chkM (hdM b).op (hdM b).now 0 ≠ 0 ∨ el b 2 ≠ 0 ∨ el b 3 ≠ 0 ∨ el b 4 ≠ 0 then 11
  else if 4096 < wd b 4 then 3
  else if b.length < endM b then 10
  else if ((b.drop (48 + wd b 4)).take (padN (wd b 4))).all (· == 0) then 0 else 11

theorem be4_fixed {n : Nat} (h : n < 4294967296) : be4 (UInt8.ofNat (n / 16777216 % 256)) (UInt8.ofNat (n / 65536 % 256)) (UInt8.ofNat (n / 256 % 256)) (UInt8.ofNat (n % 256)) = n := by
  unfold be4
  simp only [UInt8.toNat_ofNat']
  omega
theorem fixed_be4 (a b c d : UInt8) : fixed (be4 a b c d) = [a, b, c, d] := by
  have ha := UInt8.toNat_lt a
  have hb := UInt8.toNat_lt b
  have hc := UInt8.toNat_lt c
  have hd := UInt8.toNat_lt d
  unfold fixed be4
  have e1 : (a.toNat * 16777216 + b.toNat * 65536 + c.toNat * 256 + d.toNat) / 16777216 % 256 = a.toNat := by omega
  have e2 : (a.toNat * 16777216 + b.toNat * 65536 + c.toNat * 256 + d.toNat) / 65536 % 256 = b.toNat := by omega
  have e3 : (a.toNat * 16777216 + b.toNat * 65536 + c.toNat * 256 + d.toNat) / 256 % 256 = c.toNat := by omega
  have e4 : (a.toNat * 16777216 + b.toNat * 65536 + c.toNat * 256 + d.toNat) % 256 = d.toNat := by omega
  rw [e1, e2, e3, e4]
  simp
theorem wd_lt (b : List UInt8) (k : Nat) : wd b k < 4294967296 := be4_lt _ _ _ _
theorem hdM_inn (b : List UInt8) : (hdM b).inn := by
  refine ⟨?_, wd_lt _ _, fun i _ => wd_lt _ _⟩
  have h1 := wd_lt b 8
  have h2 := wd_lt b 12
  show wd b 8 * 4294967296 + wd b 12 < _
  omega
theorem headM_length (m : MX) : (headM m).length = 48 := rfl
theorem putM_length (m : MX) : (putM m).length = 48 + m.l.length + padN m.l.length := by
  unfold putM
  rw [List.length_append, List.length_append, headM_length, List.length_replicate]
/-- What a message's bytes begin with. -/
theorem putM_more (m : MX) (more : List UInt8) : putM m ++ more = headM m ++ (m.l ++ (List.replicate (padN m.l.length) 0 ++ more)) := by
  unfold putM
  simp [List.append_assoc]
theorem headM_wd (m : MX) (hm : m.inn) (hl : m.l.length < 4294967296) (r : List UInt8) : wd (headM m ++ r) 4 = m.l.length ∧ wd (headM m ++ r) 8 = m.lun / 4294967296 ∧ wd (headM m ++ r) 12 = m.lun % 4294967296 ∧ wd (headM m ++ r) 16 = m.tag ∧ (∀ i, i < 7 → wd (headM m ++ r) (20 + 4 * i) = m.ws i) := by
  have h1 := hm.lun
  refine ⟨be4_fixed hl, be4_fixed (by omega), be4_fixed (by omega), be4_fixed hm.tag, fun i hi => ?_⟩
  match i, hi with
  | 0, h => exact be4_fixed (hm.ws 0 h)
  | 1, h => exact be4_fixed (hm.ws 1 h)
  | 2, h => exact be4_fixed (hm.ws 2 h)
  | 3, h => exact be4_fixed (hm.ws 3 h)
  | 4, h => exact be4_fixed (hm.ws 4 h)
  | 5, h => exact be4_fixed (hm.ws 5 h)
  | 6, h => exact be4_fixed (hm.ws 6 h)
theorem opB_nat {op : Int} {now : Bool} (h : op ∈ opsL) : (opB op now).toNat = op.toNat + if now then 64 else 0 := by
  have := opsL_le h
  unfold opB
  rw [UInt8.toNat_ofNat']
  split <;> omega
theorem chkM_zero {op : Int} {now : Bool} {n : Nat} (h : chkM op now n = 0) : op ∈ opsL ∧ ¬ (now = true ∧ 32 ≤ op) ∧ n ≤ 4096 := by
  unfold chkM at h
  split at h
  · cases h
  · rename_i h1
    split at h
    · cases h
    · rename_i h2
      split at h
      · cases h
      · exact ⟨Classical.not_not.1 h1, h2, by omega⟩
theorem chkM_of {op : Int} {now : Bool} {n k : Nat} (h : chkM op now n = 0) (hk : k ≤ 4096) : chkM op now k = 0 := by
  obtain ⟨h1, h2, _⟩ := chkM_zero h
  unfold chkM
  rw [if_neg (fun e => e h1), if_neg h2, if_neg (by omega)]
/-- The same messages. -/
def SameM (a b : MX) : Prop := a.op = b.op ∧ a.now = b.now ∧ a.flags = b.flags ∧ a.lun = b.lun ∧ a.tag = b.tag ∧ (∀ i, i < 7 → a.ws i = b.ws i) ∧ a.l = b.l
theorem hdM_put (m : MX) (hm : m.inn) (hc : chkM m.op m.now m.l.length = 0) (more : List UInt8) : SameM m (hdM (putM m ++ more)) ∧ wd (putM m ++ more) 4 = m.l.length := by
  obtain ⟨h1, h2, h3⟩ := chkM_zero hc
  rw [putM_more]
  obtain ⟨w4, w8, w12, w16, ww⟩ := headM_wd m hm (by omega) (m.l ++ (List.replicate (padN m.l.length) 0 ++ more))
  have e0 : el (headM m ++ (m.l ++ (List.replicate (padN m.l.length) 0 ++ more))) 0 = opB m.op m.now := rfl
  have hob := opB_nat (now := m.now) h1
  have hop := opsL_le h1
  refine ⟨⟨?_, ?_, rfl, ?_, w16.symm, fun i hi => (ww i hi).symm, ?_⟩, w4⟩
  · unfold hdM
    dsimp only
    rw [e0, hob]
    cases m.now
    · simp; omega
    · simp; omega
  · unfold hdM
    dsimp only
    rw [e0, hob]
    cases m.now
    · simp; omega
    · simp; omega
  · unfold hdM
    dsimp only
    rw [w8, w12]
    omega
  · unfold hdM
    dsimp only
    rw [w4, List.drop_append_of_le_length (by rw [headM_length]; exact Nat.le_refl _), show (headM m).drop 48 = [] from List.drop_of_length_le (by rw [headM_length]; exact Nat.le_refl _), List.nil_append, List.take_left]
theorem hdM_op {b : List UInt8} (m : MX) (h : SameM m (hdM b)) : (hdM b).op = m.op ∧ (hdM b).now = m.now := ⟨h.1.symm, h.2.1.symm⟩
/-- What was put is got. -/
theorem get_put (m : MX) (hm : m.inn) (hc : chkM m.op m.now m.l.length = 0) (more : List UInt8) : getE (putM m ++ more) = 0 ∧ endM (putM m ++ more) = (putM m).length := by
  obtain ⟨hs, w4⟩ := hdM_put m hm hc more
  obtain ⟨h1, h2, h3⟩ := chkM_zero hc
  have he : endM (putM m ++ more) = (putM m).length := by unfold endM; rw [w4, putM_length]
  have hl := putM_length m
  have hc0 := chkM_of hc (k := 0) (by omega)
  refine ⟨?_, he⟩
  unfold getE
  rw [if_neg (by rw [List.length_append]; omega), (hdM_op m hs).1, (hdM_op m hs).2, hc0, if_neg (by decide), if_neg, w4, if_neg (by omega), he, if_neg (by rw [List.length_append]; omega), if_pos]
  · have e : ((putM m ++ more).drop (48 + m.l.length)).take (padN m.l.length) = List.replicate (padN m.l.length) 0 := by
      rw [putM_more, ← List.append_assoc, List.drop_append_of_le_length (by rw [List.length_append, headM_length]; exact Nat.le_refl _), show (headM m ++ m.l).drop (48 + m.l.length) = [] from List.drop_of_length_le (by rw [List.length_append, headM_length]; exact Nat.le_refl _), List.nil_append, List.take_append_of_le_length (by rw [List.length_replicate]; exact Nat.le_refl _)]
      exact List.take_of_length_le (by rw [List.length_replicate]; exact Nat.le_refl _)
    rw [e]
    simp
  · rintro (h | h | h | h)
    · exact h rfl
    · exact h rfl
    · exact h rfl
    · apply h
      rw [putM_more]
      show UInt8.ofNat (m.l.length / 16777216 % 256) = 0
      rw [show m.l.length / 16777216 % 256 = 0 by omega]
      rfl
end Go.Proofs.Ytinbcidgdbmcjaa
