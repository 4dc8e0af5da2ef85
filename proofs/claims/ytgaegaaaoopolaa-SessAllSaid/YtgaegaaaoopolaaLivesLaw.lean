/-
  Law: one piece at a time, by a sender of span 1 and a receiver of window 8.
-/
import Derived.Test.YtgaegaaaoopolaaSess6
import Derived.Test.YtgaegaaaoopolaaSess7
namespace Go.Proofs.Ytgaegaaaoopolaa
open Go Go.RowKit

theorem push_one (life i n : Nat) {b : List UInt8} (hb : b.length ≤ 1000) : pushE ⟨life, 8, 1, i, n, []⟩ b = 0 ∧ pushS ⟨life, 8, 1, i, n, []⟩ b = ⟨life, 8, 1, i, n, [(b, 0)]⟩ := by
  have e : pushE ⟨life, 8, 1, i, n, []⟩ b = 0 := by unfold pushE; rw [if_neg (by omega), if_neg (by simp)]
  exact ⟨e, by unfold pushS; rw [if_pos e]; rfl⟩
theorem tick_one (life i n : Nat) (b : List UInt8) : tickS ⟨life, 8, 1, i, n, [(b, 0)]⟩ = ⟨life, 8, 1, i, n + 1, [(b, n + 1)]⟩ ∧ tickO ⟨life, 8, 1, i, n, [(b, 0)]⟩ = [(life, i + 1, false, b)] := by
  constructor
  · unfold tickS Sn.k sentTo
    simp [due, el]
  · unfold tickO Sn.k
    simp [outTo, due, el]
theorem hear_one (life i n : Nat) (b : List UInt8) : hearE ⟨life, 8, 1, i, n, [(b, n)]⟩ (life, i + 1, true, []) = 0 ∧ hearS ⟨life, 8, 1, i, n, [(b, n)]⟩ (life, i + 1, true, []) = ⟨life, 8, 1, i + 1, n, []⟩ := by
  have e : hearE ⟨life, 8, 1, i, n, [(b, n)]⟩ (life, i + 1, true, []) = 0 := by
    unfold hearE isSeg
    simp
  refine ⟨e, ?_⟩
  unfold hearS
  rw [if_pos ⟨e, by dsimp only; omega⟩]
  simp
/-- The receiver ahead of piece i. -/
def livR (life i : Nat) : Rc := if i = 0 then ⟨8, life - 1, 1, []⟩ else ⟨8, life, i, []⟩
theorem rh_one {life : Nat} (hl : 1 ≤ life) (i : Nat) {b : List UInt8} (hb : b.length ≤ 1000) :
    rhE (livR life i) (life, i + 1, false, b) = 0 ∧ rhS (livR life i) (life, i + 1, false, b) = livR life (i + 1) ∧ rhO (livR life i) (life, i + 1, false, b) = [b] ∧ rhA (livR life i) (life, i + 1, false, b) = (life, i + 1, true, []) := by
  have hs : isSeg (life, i + 1, false, b) = true := by unfold isSeg; simp; omega
  have e : rhE (livR life i) (life, i + 1, false, b) = 0 := by
    unfold rhE livR
    rw [if_neg (by rw [hs]; simp), if_neg (by simp), if_neg]
    split <;> dsimp only <;> omega
  have h1 : rh1 (livR life i) (life, i + 1, false, b) = ⟨8, life, i, []⟩ := by
    unfold rh1 livR
    by_cases h0 : i = 0
    · subst h0
      rw [if_pos rfl, if_pos (by dsimp only; omega)]
    · rw [if_neg h0, if_neg (by dsimp only; omega)]
  have h2 : rh2 (rh1 (livR life i) (life, i + 1, false, b)) (life, i + 1, false, b) = [(i + 1, b)] := by
    rw [h1]
    unfold rh2
    rw [if_pos ⟨rfl, by dsimp only; omega, by dsimp only; omega⟩]
    rfl
  have h3 : rhD (livR life i) (life, i + 1, false, b) = (i + 1, [], [b]) := by
    unfold rhD
    rw [h2, h1]
    rw [drain_some (b := b) (by rw [mget_cons, if_pos rfl])]
    have e1 : mdel [(i + 1, b)] (i + 1) = [] := by rw [mdel_cons, if_pos rfl]
    dsimp only
    rw [e1]
    rfl
  have h4 : rhS (livR life i) (life, i + 1, false, b) = ⟨8, life, i + 1, []⟩ := by
    unfold rhS
    rw [if_pos e, h3, h1]
  refine ⟨e, by rw [h4, livR, if_neg (by omega)], ?_, ?_⟩
  · unfold rhO
    rw [if_pos e, h3]
  · unfold rhA
    rw [if_pos e, h4]
/-- The old life's piece. -/
theorem rh_old {k : Nat} {b : List UInt8} (hb : b.length ≤ 1000) : rhE ⟨8, 0, 0, []⟩ (k, 1, false, b) = 0 ∧ rhS ⟨8, 0, 0, []⟩ (k, 1, false, b) = ⟨8, k, 1, []⟩ := by
  have hs : isSeg (k, 1, false, b) = true := by unfold isSeg; simp; omega
  have e : rhE ⟨8, 0, 0, []⟩ (k, 1, false, b) = 0 := by
    unfold rhE
    rw [if_neg (by rw [hs]; simp), if_neg (by simp), if_neg (by dsimp only; omega)]
  refine ⟨e, ?_⟩
  have h1 : rh1 ⟨8, 0, 0, []⟩ (k, 1, false, b) = ⟨8, k, 0, []⟩ := by
    unfold rh1
    by_cases h0 : k = 0
    · subst h0
      rw [if_neg (by dsimp only; omega)]
    · rw [if_pos (by dsimp only; omega)]
  have h2 : rh2 (rh1 ⟨8, 0, 0, []⟩ (k, 1, false, b)) (k, 1, false, b) = [(1, b)] := by
    rw [h1]
    unfold rh2
    rw [if_pos ⟨rfl, by dsimp only; omega, by dsimp only; omega⟩]
    rfl
  unfold rhS
  rw [if_pos e]
  unfold rhD
  rw [h2, h1, drain_some (b := b) (by rw [mget_cons, if_pos rfl])]
  have e1 : mdel [(1, b)] (0 + 1) = [] := by rw [mdel_cons, if_pos rfl]
  dsimp only
  rw [e1]
  rfl
/-- What is of an elder life. -/
theorem rh_elder {life : Nat} (hl : 1 ≤ life) (i q : Nat) {b : List UInt8} (hb : b.length ≤ 1000) (hq : 1 ≤ q) :
    rhE (livR life (i + 1)) (life - 1, q, false, b) = 70 ∧ rhS (livR life (i + 1)) (life - 1, q, false, b) = livR life (i + 1) ∧ rhO (livR life (i + 1)) (life - 1, q, false, b) = [] := by
  have hs : isSeg (life - 1, q, false, b) = true := by unfold isSeg; simp; omega
  have e : rhE (livR life (i + 1)) (life - 1, q, false, b) = 70 := by
    rw [show livR life (i + 1) = ⟨8, life, i + 1, []⟩ by rw [livR, if_neg (by omega)]]
    unfold rhE
    rw [if_neg (by rw [hs]; simp), if_neg (by simp), if_pos (by dsimp only; omega)]
  refine ⟨e, by unfold rhS; rw [e, if_neg (by omega)], by unfold rhO; rw [e, if_neg (by omega)]⟩
theorem hear_elder {life : Nat} (hl : 1 ≤ life) (s : Sn) (hs : s.life = life) (q : Nat) : hearE s (life - 1, q, true, []) = 70 ∧ hearS s (life - 1, q, true, []) = s := by
  have e : hearE s (life - 1, q, true, []) = 70 := by
    unfold hearE
    rw [if_neg (by unfold isSeg; simp), if_neg (by simp), if_pos (by dsimp only; omega)]
  exact ⟨e, by unfold hearS; rw [e, if_neg (by omega)]⟩
end Go.Proofs.Ytgaegaaaoopolaa
