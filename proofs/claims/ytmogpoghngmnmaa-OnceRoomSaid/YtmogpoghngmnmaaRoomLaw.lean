/-
  Law: who goes (once).
-/
import Derived.Test.YtmogpoghngmnmaaSameLaw
namespace Go.Proofs.Ytmogpoghngmnmaa
open Go Go.RowKit Bin

/-- Behind a request: who was there, and is no more. -/
theorem room_last {t : Tb} (h : t.ok) {id num : Nat} (hid : id < 18446744073709551616) (hnum : num < 18446744073709551616) (he : begE t id num = 0) : 0 < (begS t id num).l.length ∧ (el (begS t id num).l ((begS t id num).l.length - 1)).id = id := by
  have hlast : ∀ (l : List Cl) (c : Cl), el (l ++ [c]) ((l ++ [c]).length - 1) = c := by
    intro l c
    rw [List.length_append, List.length_singleton, Nat.add_sub_cancel, el_append_right (Nat.le_refl _), Nat.sub_self]
    rfl
  have hk := @begK_cases t id num
  have a0 : begK t id num ≠ 0 := by intro h0; unfold begE at he; rw [if_pos h0] at he; omega
  have a1 : begK t id num ≠ 1 := by intro h0; unfold begE at he; rw [if_neg (by omega), if_pos h0] at he; omega
  have a4 : begK t id num ≠ 4 := by intro h0; unfold begE at he; rw [if_neg (by omega), if_neg (by omega), if_pos h0] at he; omega
  unfold begS
  by_cases h2 : begK t id num = 2
  · rw [if_pos h2]
    have hp := (begK_mid (.inl h2)).1
    refine ⟨by simp, ?_⟩
    dsimp only
    rw [hlast]
    exact pos_at hp
  · rw [if_neg h2]
    by_cases h3 : begK t id num = 3
    · rw [if_pos h3]
      have hp := (begK_mid (.inr h3)).1
      refine ⟨by simp, ?_⟩
      dsimp only
      rw [hlast]
      exact pos_at hp
    · rw [if_neg h3]
      by_cases h5 : begK t id num = 5
      · rw [if_pos h5]
        refine ⟨by simp, ?_⟩
        dsimp only
        rw [hlast]
      · omega
theorem room_stay {t : Tb} {id num : Nat} (he : begE t id num ≠ 0) : begS t id num = t := by
  unfold begE at he
  unfold begS
  rw [if_neg (by intro h; rw [h] at he; exact he rfl), if_neg (by intro h; rw [h] at he; exact he rfl), if_neg (by intro h; rw [h] at he; exact he rfl)]
/-- Who is gone went because there was no room, and nobody before was free. -/
theorem room_gone {t : Tb} (h : t.ok) {id num : Nat} (hid : id < 18446744073709551616) (hnum : num < 18446744073709551616) {k : Nat} (hk : k < t.l.length) (hg : ¬ posN (begS t id num).l (el t.l k).id < (begS t id num).l.length) :
    k = begQ t id ∧ (el t.l k).busy = false ∧ t.most ≤ t.l.length ∧ ∀ j, j < k → (el t.l j).busy = true := by
  have hne : begS t id num ≠ t := by
    intro e
    rw [e] at hg
    exact hg (posN_lt (List.mem_map.2 ⟨_, el_mem hk, rfl⟩))
  have hmv : ∀ b w, posN t.l id < t.l.length → begS t id num = ⟨t.most, t.l.eraseIdx (posN t.l id) ++ [el t.l (posN t.l id)], b, w⟩ → False := by
    intro b w hp e
    rw [e] at hg
    refine hg (posN_lt (List.mem_map.2 ⟨el t.l k, ?_, rfl⟩))
    by_cases e2 : el t.l k = el t.l (posN t.l id)
    · rw [e2]; simp
    · exact List.mem_append_left _ (mem_erase_of (el_mem hk) fun _ => e2)
  have h2 : begK t id num ≠ 2 := fun hK => hmv _ _ (begK_mid (.inl hK)).1 (by unfold begS; rw [if_pos hK])
  have h3 : begK t id num ≠ 3 := fun hK => hmv _ _ (begK_mid (.inr hK)).1 (by unfold begS; rw [if_neg h2, if_pos hK])
  have h5 : begK t id num = 5 := by
    apply Classical.byContradiction
    intro hK
    exact hne (by unfold begS; rw [if_neg h2, if_neg h3, if_neg hK])
  have e : begS t id num = ⟨t.most, t.l.eraseIdx (begQ t id) ++ [⟨id, num, true, []⟩], t.begun + 1, t.was⟩ := by unfold begS; rw [if_neg h2, if_neg h3, if_pos h5]
  rw [e] at hg
  dsimp only at hg
  have hkq : k = begQ t id := by
    apply Classical.byContradiction
    intro hkq
    refine hg (posN_lt (List.mem_map.2 ⟨el t.l k, List.mem_append_left _ (mem_erase_of (el_mem hk) fun hq e2 => hkq ?_), rfl⟩))
    exact nodup_el h.nodup hk hq (by rw [e2])
  have hid2 : (el t.l k).id ≠ id := by
    intro e2
    refine hg (posN_lt (List.mem_map.2 ⟨⟨id, num, true, []⟩, by simp, e2.symm⟩))
  have hp : ¬ posN t.l id < t.l.length := by
    intro hp
    unfold begQ at hkq
    rw [if_pos hp] at hkq
    rw [hkq] at hid2
    exact hid2 (pos_at hp)
  unfold begQ at hkq
  rw [if_neg hp] at hkq
  by_cases hm : t.most ≤ t.l.length
  · rw [if_pos hm] at hkq
    have hf : freeL t.l < t.l.length := by omega
    have hb := List.findIdx_getElem (xs := t.l) (p := fun c : Cl => !c.busy) (w := hf)
    refine ⟨by unfold begQ; rw [if_neg hp, if_pos hm]; exact hkq, ?_, hm, ?_⟩
    · have e3 : el t.l k = t.l[freeL t.l] := by rw [hkq]; simp [el, hf]
      rw [e3]
      have hb' : (!(t.l[freeL t.l]).busy) = true := hb
      simpa using hb'
    · intro j hj
      have hj2 : j < freeL t.l := by omega
      have := List.not_of_lt_findIdx (p := fun c : Cl => !c.busy) (xs := t.l) hj2
      have e3 : el t.l j = t.l[j]'(by omega) := by simp [el, show j < t.l.length by omega]
      rw [e3]
      simpa using this
  · rw [if_neg hm] at hkq
    omega
end Go.Proofs.Ytmogpoghngmnmaa
