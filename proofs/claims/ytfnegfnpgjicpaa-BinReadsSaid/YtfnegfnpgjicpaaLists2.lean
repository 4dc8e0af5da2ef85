/-
  What was lent can be read.
-/
import Derived.Test.YtfnegfnpgjicpaaLists
namespace Go.Proofs.Ytfnegfnpgjicpaa
open Go Go.RowKit

theorem lentRd {g : Nat} {sp : List Value} {l : List UInt8} {w0 w : World} {L : List Asr} (M : Mem w0 w (Asr.row g 5 (bs (l ++ [91, 92]) ++ sp) :: L)) :
    RdB w (some ⟨g, 0, none⟩) (bs (l ++ [91, 92]) ++ sp).length l := by
  have hlen : (bs (l ++ [91, 92]) ++ sp).length = l.length + 2 + sp.length := by simp [bs]; omega
  exact RdB.row M 0 (by
    rw [bs_append, List.drop_zero, List.append_assoc, List.take_append_of_le_length (by simp [bs]), List.take_of_length_le (by simp [bs])]) (by rw [hlen]; omega)
end Go.Proofs.Ytfnegfnpgjicpaa
