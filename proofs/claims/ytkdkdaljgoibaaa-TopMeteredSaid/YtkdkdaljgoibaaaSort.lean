/-
  Walks: slices.SortFunc on at most twelve numbers.
-/
import Derived.Test.YtkdkdaljgoibaaaLen
import Derived.Test.YtkdkdaljgoibaaaBeatOrd
namespace Go.Proofs.Ytkdkdaljgoibaaa
open Go Go.RowKit Bin

section
variable {lt : Int → Int → Prop} {m : List Int} {i j : Nat}
/-- Sorted up to i but for what stands at j. -/
def Gap (lt : Int → Int → Prop) (m : List Int) (i j : Nat) : Prop := ∀ p q, p < q → q ≤ i → q ≠ j → lt (el m p) (el m q)
theorem Gap.swap (h : Gap lt m i (j + 1)) (hj : j + 1 ≤ i) (hi : i < m.length) (hlt : lt (el m (j + 1)) (el m j)) : Gap lt ((m.set (j + 1) (el m j)).set j (el m (j + 1))) i j := by
  intro p q hpq hq hne
  have e : ∀ k, k < m.length → el ((m.set (j + 1) (el m j)).set j (el m (j + 1))) k = if j = k then el m (j + 1) else if j + 1 = k then el m j else el m k := by
    intro k hk
    rw [el_set _ _ _ _ (by simp; omega), el_set _ _ _ _ (by omega)]
  by_cases hq1 : q = j + 1
  · have eq : el ((m.set (j + 1) (el m j)).set j (el m (j + 1))) q = el m j := by rw [e q (by omega), if_neg (by omega), if_pos (by omega)]
    by_cases hp1 : p = j
    · have ep : el ((m.set (j + 1) (el m j)).set j (el m (j + 1))) p = el m (j + 1) := by rw [e p (by omega), if_pos (by omega)]
      rw [ep, eq]
      exact hlt
    · have ep : el ((m.set (j + 1) (el m j)).set j (el m (j + 1))) p = el m p := by rw [e p (by omega), if_neg (by omega), if_neg (by omega)]
      rw [ep, eq]
      exact h p j (by omega) (by omega) (by omega)
  · have eq : el ((m.set (j + 1) (el m j)).set j (el m (j + 1))) q = el m q := by rw [e q (by omega), if_neg (by omega), if_neg (by omega)]
    by_cases hp1 : p = j
    · have ep : el ((m.set (j + 1) (el m j)).set j (el m (j + 1))) p = el m (j + 1) := by rw [e p (by omega), if_pos (by omega)]
      rw [ep, eq]
      exact h (j + 1) q (by omega) hq (by omega)
    · by_cases hp2 : p = j + 1
      · have ep : el ((m.set (j + 1) (el m j)).set j (el m (j + 1))) p = el m j := by rw [e p (by omega), if_neg (by omega), if_pos (by omega)]
        rw [ep, eq]
        exact h j q (by omega) hq (by omega)
      · have ep : el ((m.set (j + 1) (el m j)).set j (el m (j + 1))) p = el m p := by rw [e p (by omega), if_neg (by omega), if_neg (by omega)]
        rw [ep, eq]
        exact h p q hpq hq (by omega)
theorem Gap.done0 (h : Gap lt m i 0) : ∀ p q, p < q → q ≤ i → lt (el m p) (el m q) := fun p q hpq hq => h p q hpq hq (by omega)
theorem Gap.done (h : Gap lt m i (j + 1)) (tr : ∀ a b c, lt a b → lt b c → lt a c) (hlt : lt (el m j) (el m (j + 1))) (hj : j + 1 ≤ i) : ∀ p q, p < q → q ≤ i → lt (el m p) (el m q) := by
  intro p q hpq hq
  by_cases e : q = j + 1
  · subst e
    by_cases e2 : p = j
    · subst e2
      exact hlt
    · exact tr _ _ _ (h p j (by omega) (by omega) (by omega)) hlt
  · exact h p q hpq hq e
end
theorem swap_perm {m : List Int} {a b : Nat} (ha : a < m.length) (hb : b < m.length) (hab : a < b) : ((m.set b (el m a)).set a (el m b)).Perm m := by
  have e1 : el m a = m[a] := by simp [el, ha]
  have e2 : el m b = m[b] := by simp [el, hb]
  rw [e1, e2]
  exact List.set_set_perm hb ha
end Go.Proofs.Ytkdkdaljgoibaaa
