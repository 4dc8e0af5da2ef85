/-
  Walks: four bytes' number; texts: bin and seawallref01; what all statements ask of lists of bytes.
-/
import Derived.Test.YtgaegaaaoopolaaBin3
namespace Go.Proofs.Ytgaegaaaoopolaa
open Go Go.RowKit Bin

namespace Bin
def rdB (b : List UInt8) (at_ most : Int) : List UInt8 × Int × Int :=
  if (rdU b at_).2.2 ≠ 0 then ([], 0, (rdU b at_).2.2)
  else if ((rdU b at_).1 : Int) > max most 0 then ([], 0, 3)
  else if ((rdU b at_).1 : Int) > (b.length : Int) - (rdU b at_).2.1 then ([], 0, 10)
  else ((b.drop (rdU b at_).2.1.toNat).take (rdU b at_).1, (rdU b at_).2.1 + (rdU b at_).1, 0)
theorem rdU_to {b : List UInt8} {at_ : Int} (h : (rdU b at_).2.2 = 0) : 0 ≤ at_ ∧ at_ < (rdU b at_).2.1 ∧ (rdU b at_).2.1 ≤ b.length ∧ (rdU b at_).2.1 ≤ at_ + 10 := by
  rcases rdU_cases b at_ with ⟨n, k, e, h0, hg⟩ | ⟨e', e⟩
  · have h1 := getF_lt 10 0 _ n k rfl hg
    rw [List.length_drop] at h1
    rw [e]
    dsimp only
    omega
  · rw [e] at h
    dsimp only at h
    omega
end Bin



theorem put_len {n : Nat} (h : n < 18446744073709551616) : (put n).length ≤ 10 := by
  rw [put_length h]
  exact sz_le h


end Go.Proofs.Ytgaegaaaoopolaa
