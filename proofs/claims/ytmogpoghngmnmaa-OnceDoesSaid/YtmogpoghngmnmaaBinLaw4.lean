/-
  What was read is what was put.
-/
import Derived.Test.YtmogpoghngmnmaaBin3
import Derived.Test.YtmogpoghngmnmaaBinLaw3
namespace Go.Proofs.Ytmogpoghngmnmaa
open Go Go.RowKit Bin

namespace Bin
theorem one_U {l : List UInt8} {at_ to : Int} {n : Nat} (hr : rdU l at_ = (n, to, 0)) :
    0 ≤ at_ ∧ at_ < to ∧ to ≤ l.length ∧ (l.drop at_.toNat).take (to.toNat - at_.toNat) = put n ∧ n < 18446744073709551616 := by
  have hlt := rdU_lt l at_
  rw [hr] at hlt
  rcases rdU_cases l at_ with ⟨n', k, e, h0, hg⟩ | ⟨e', e⟩
  · rw [e] at hr
    obtain ⟨rfl, rfl⟩ : n' = n ∧ at_ + (k : Int) = to := by simpa using hr
    obtain ⟨h1, h2, h3⟩ := getF_take hg
    rw [List.length_drop] at h3
    refine ⟨h0, by omega, by omega, ?_, hlt⟩
    rw [show (at_ + (k : Int)).toNat - at_.toNat = k by omega]
    exact h1
  · rw [e] at hr
    simp only [Prod.mk.injEq] at hr
    omega
/-- What was put is read. -/
theorem rdU_put {n : Nat} (hn : n < 18446744073709551616) (a r : List UInt8) {at_ : Int} (h : at_ = (a.length : Int)) : rdU (a ++ (put n ++ r)) at_ = (n, at_ + ((put n).length : Int), 0) := by
  subst h
  refine rdU_ok (by omega) (by simp; omega) ?_
  rw [Int.toNat_natCast, List.drop_left]
  exact getF_put hn r
theorem put_len10 {n : Nat} (h : n < 18446744073709551616) : (put n).length ≤ 10 := by
  have h1 := getF_put h []
  exact (getF_lt 10 0 _ _ _ rfl h1).2.2.1
end Bin
end Go.Proofs.Ytmogpoghngmnmaa
