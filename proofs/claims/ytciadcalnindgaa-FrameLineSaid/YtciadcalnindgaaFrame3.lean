/-
  Walk: seawallref02.Get.
-/
import Derived.Test.YtciadcalnindgaaFrame2
namespace Go.Proofs.Ytciadcalnindgaa
open Go Go.RowKit Crc Bin

theorem rdF_drop {l : List UInt8} {at_ k : Int} (h0 : 0 ≤ at_) (hk : 0 ≤ k) (h : at_ + k + 4 ≤ l.length) : rdF l (at_ + k) = ((rdF (l.drop at_.toNat) k).1, at_ + k + 4, 0) := by
  have hl : (l.drop at_.toNat).length = l.length - at_.toNat := List.length_drop
  rw [rdF_ok (by omega) (by omega), rdF_ok hk (by omega)]
  simp only [List.getElem_drop, Prod.mk.injEq, and_true]
  have e : (at_ + k).toNat = at_.toNat + k.toNat := by omega
  simp only [e, Nat.add_assoc]

end Go.Proofs.Ytciadcalnindgaa
