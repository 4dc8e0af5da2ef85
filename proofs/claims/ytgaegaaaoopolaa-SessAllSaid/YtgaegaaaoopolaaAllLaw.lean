/-
  Law: a line on which all comes gets all pieces across (seawalllaw07.SessAll).
-/
import Derived.Test.YtgaegaaaoopolaaLineLaw
namespace Go.Proofs.Ytgaegaaaoopolaa
open Go Go.RowKit

/-- In how many ticks the first piece goes. -/
def wait (s : Sn) : Nat := if (el s.l 0).2 = 0 then 1 else max 1 (s.span - (s.now - (el s.l 0).2))
def phi (s : Sn) : Nat := if s.l.length = 0 then 0 else (s.l.length - 1) * 4 + wait s
theorem wait_le {l : List (List UInt8)} {s : Sn} (h : InvS l s) : 1 ≤ wait s ∧ wait s ≤ 4 := by
  have := h.span
  unfold wait
  split <;> omega
theorem phi_le {l : List (List UInt8)} {s : Sn} (h : InvS l s) : phi s ≤ 4 * s.l.length := by
  have := wait_le h
  unfold phi
  split <;> omega
theorem outTo_first {life acked span now : Nat} {l : List (List UInt8 × Nat)} (hd : due span now (el l 0) = true) : ∀ i, 1 ≤ i → (life, acked + 1, false, (el l 0).1) ∈ outTo life acked span now l i
  | 0, h => absurd h (by omega)
  | 1, _ => by
    show _ ∈ outTo life acked span now l 0 ++ (if due span now (el l 0) then [(life, acked + 0 + 1, false, (el l 0).1)] else [])
    rw [if_pos hd]
    simp
  | i + 2, _ => List.mem_append.2 (.inl (outTo_first hd (i + 1) (by omega)))
theorem tick_first {l : List (List UInt8)} {s : Sn} (h : InvS l s) (hn : 0 < s.l.length) (hd : due s.span (s.now + 1) (el s.l 0) = true) : (s.life, s.acked + 1, false, (el s.l 0).1) ∈ tickO s := by
  have := h.win
  exact outTo_first hd _ (by unfold Sn.k; omega)
theorem phi_less {l : List (List UInt8)} {s s2 : Sn} (h : InvS l s) (hn : 0 < s.l.length) (h2 : InvS l s2) (hd : s2 = tickS s ∨ s.acked < s2.acked) (hq : due s.span (s.now + 1) (el s.l 0) = true → s.acked < s2.acked) : phi s2 < phi s := by
  by_cases ha : s.acked < s2.acked
  · have l1 := h.len
    have l2 := h2.len
    have p2 := phi_le h2
    have w1 := wait_le h
    unfold phi at p2 ⊢
    rw [if_neg (show ¬ s.l.length = 0 by omega)]
    omega
  · rcases hd with rfl | hd
    · have hnd : ¬ due s.span (s.now + 1) (el s.l 0) = true := fun h => ha (hq h)
      have hs := h.sent _ (el_mem hn)
      have e0 : el (tickS s).l 0 = el s.l 0 := by
        unfold tickS sentTo
        dsimp only
        have : (List.map (fun j => if j < s.k ∧ due s.span (s.now + 1) (el s.l j) = true then ((el s.l j).fst, s.now + 1) else el s.l j) (List.range s.l.length))[0]? = some (el s.l 0) := by
          rw [List.getElem?_map, List.getElem?_range hn]
          simp only [Option.map_some]
          rw [if_neg (fun h => hnd h.2)]
        exact (congrArg (fun z : Option (List UInt8 × Nat) => z.getD default) this).trans rfl
      have el1 : (tickS s).l.length = s.l.length := by unfold tickS; exact sentTo_length ..
      unfold due at hnd
      simp only [Bool.not_eq_true, Bool.not_eq_false', Bool.and_eq_true, decide_eq_true_eq] at hnd
      obtain ⟨d1, d2⟩ := hnd
      unfold phi
      rw [el1, if_neg (by omega), if_neg (by omega)]
      unfold wait
      rw [e0, if_neg (by omega), if_neg (by omega)]
      have e1 : (tickS s).now = s.now + 1 := rfl
      have e2 : (tickS s).span = s.span := rfl
      rw [e1, e2]
      omega
    · exact absurd hd ha
end Go.Proofs.Ytgaegaaaoopolaa
