/-
  Law: a receiver stays well.
-/
import Derived.Test.YtgaegaaaoopolaaSess4
namespace Go.Proofs.Ytgaegaaaoopolaa
open Go Go.RowKit

theorem drain_inv : ∀ (f got : Nat) (m : List (Nat × List UInt8)), (m.map (·.1)).Nodup → (∀ p ∈ m, p.2.length ≤ 1000) →
    ((drain f got m).2.1.map (·.1)).Nodup ∧ (∀ p ∈ (drain f got m).2.1, p.2.length ≤ 1000) ∧ (drain f got m).1 + (drain f got m).2.1.length = got + m.length
  | 0, got, m, hn, hb => ⟨hn, hb, rfl⟩
  | f + 1, got, m, hn, hb => by
    cases h : mget m (got + 1) with
    | none => rw [drain_none h]; exact ⟨hn, hb, rfl⟩
    | some b =>
      rw [drain_some h]
      obtain ⟨h1, h2, h3⟩ := drain_inv f (got + 1) (mdel m (got + 1)) (mdel_nodup hn _) (fun p hp => hb p ((mdel_sub m (got + 1)).subset hp))
      have h4 := (mdel_perm h).length_eq
      simp only [List.length_cons] at h4
      exact ⟨h1, h2, by dsimp only; omega⟩

theorem rhS_ok {r : Rc} {s : Nat × Nat × Bool × List UInt8} (h : r.ok) (hs : s.1 < 18446744073709551616) (hb : r.got + r.m.length + 1 < 1000000000) :
    (rhS r s).ok ∧ (rhS r s).got + (rhS r s).m.length ≤ r.got + r.m.length + 1 ∧ (rhS r s).window = r.window := by
  obtain ⟨hwin, hlife, hgot, hnd, hbody⟩ := h
  by_cases he : rhE r s = 0
  · have hseg : s.2.2.2.length ≤ 1000 := by
      unfold rhE at he
      by_cases g1 : isSeg s = false
      · rw [if_pos g1] at he; omega
      · rw [if_neg g1] at he
        by_cases g2 : s.2.2.1 = true
        · rw [if_pos g2] at he; omega
        · unfold isSeg at g1
          rw [if_neg g2] at g1
          simp at g1
          omega
    have hr1 : (rh1 r s).window = r.window ∧ (rh1 r s).life < 18446744073709551616 ∧ (rh1 r s).got + (rh1 r s).m.length ≤ r.got + r.m.length ∧ ((rh1 r s).m.map (·.1)).Nodup ∧ ∀ p ∈ (rh1 r s).m, p.2.length ≤ 1000 := by
      unfold rh1
      split
      · exact ⟨rfl, hs, by simp, by simp, fun p hp => by cases hp⟩
      · exact ⟨rfl, hlife, Nat.le_refl _, hnd, hbody⟩
    obtain ⟨w1, l1, g1, n1, b1⟩ := hr1
    have hr2 : (rh2 (rh1 r s) s).length ≤ (rh1 r s).m.length + 1 ∧ ((rh2 (rh1 r s) s).map (·.1)).Nodup ∧ ∀ p ∈ rh2 (rh1 r s) s, p.2.length ≤ 1000 := by
      unfold rh2
      split
      · rename_i hc
        refine ⟨by rw [mput_new hc.1]; simp, mput_nodup n1 _ _, ?_⟩
        intro p hp
        rw [mput_new hc.1] at hp
        rcases List.mem_append.1 hp with hp | hp
        · exact b1 p hp
        · rw [List.mem_singleton] at hp
          subst hp
          exact hseg
      · exact ⟨Nat.le_succ _, n1, b1⟩
    obtain ⟨l2, n2, b2⟩ := hr2
    obtain ⟨d1, d2, d3⟩ := drain_inv ((rh2 (rh1 r s) s).length + 1) (rh1 r s).got (rh2 (rh1 r s) s) n2 b2
    unfold rhS
    rw [if_pos he]
    unfold rhD
    exact ⟨⟨by rw [w1]; exact hwin, l1, by dsimp only; omega, d1, d2⟩, by dsimp only; omega, w1⟩
  · unfold rhS
    rw [if_neg he]
    exact ⟨⟨hwin, hlife, hgot, hnd, hbody⟩, Nat.le_succ _, rfl⟩

theorem drain_len : ∀ (f got : Nat) (m : List (Nat × List UInt8)), (drain f got m).2.2.length ≤ m.length
  | 0, _, _ => Nat.zero_le _
  | f + 1, got, m => by
    cases h : mget m (got + 1) with
    | none => rw [drain_none h]; exact Nat.zero_le _
    | some b =>
      rw [drain_some h]
      have h1 := drain_len f (got + 1) (mdel m (got + 1))
      have h4 := (mdel_perm h).length_eq
      simp only [List.length_cons] at h4 ⊢
      omega
theorem rhO_len (r : Rc) (s : Nat × Nat × Bool × List UInt8) : (rhO r s).length ≤ r.m.length + 1 := by
  unfold rhO
  split
  · unfold rhD
    refine Nat.le_trans (drain_len _ _ _) ?_
    have h1 : (rh1 r s).m.length ≤ r.m.length := by unfold rh1; split <;> simp
    unfold rh2
    split
    · rename_i hc
      rw [mput_new hc.1]
      simp
      exact h1
    · omega
  · exact Nat.zero_le _
end Go.Proofs.Ytgaegaaaoopolaa
