/-
  Rules: orders that come to the same state are looked at once.
-/
import Derived.Test.YtciadcalnindgaaWalk
namespace Go.Proofs.Ytciadcalnindgaa
open Go Go.RowKit

section
variable {P : Program} {Q : Exit → Act → World → Prop} {S : World → Prop} {G : Nat → Bool} {n f : Nat} {ρ : List (Nat × Value)} {w : World} {done : List Nat} {l : List Oper}
/-- A state that is looked at on its own. -/
theorem DG.cut (done' : List Nat) (f' : Nat) {ι : Type} (ρ' : ι → List (Nat × Value)) (F : ι → World → Prop)
    (h1 : (∀ i w, F i w → DG P l.toArray Q S G f' done' n (ρ' i) w) → DG P l.toArray Q S G f done n ρ w) (h2 : ∀ i w, F i w → DG P l.toArray Q S G f' done' n (ρ' i) w) :
    DG P l.toArray Q S G f done n ρ w := h1 h2
/-- What has come up, in another order. -/
theorem DG.perm (done' : List Nat) (h : marked_ l.length done = marked_ l.length done') (k : DG P l.toArray Q S G f done' n ρ w) : DG P l.toArray Q S G f done n ρ w := by
  intro a ha
  have := k a ha
  simp only [List.size_toArray] at this ⊢
  rw [h]
  exact this
end
end Go.Proofs.Ytciadcalnindgaa
