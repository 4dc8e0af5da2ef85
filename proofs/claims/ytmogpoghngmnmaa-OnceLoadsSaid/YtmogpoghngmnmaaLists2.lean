/-
  What was lent can be read.
-/
import Derived.Test.YtmogpoghngmnmaaLists
namespace Go.Proofs.Ytmogpoghngmnmaa
open Go Go.RowKit

theorem lentRd {g : Nat} {sp : List Value} {l : List UInt8} {w0 w : World} {L : List Asr} (M : Mem w0 w (Asr.row g 5 (bs (l ++ [91, 92]) ++ sp) :: L)) :
    RdB w (some ⟨g, 0, none⟩) (bs (l ++ [91, 92]) ++ sp).length l := by
  have hlen : (bs (l ++ [91, 92]) ++ sp).length = l.length + 2 + sp.length := by simp [bs]; omega
  exact RdB.row M 0 (by
    rw [bs_append, List.drop_zero, List.append_assoc, List.take_append_of_le_length (by simp [bs]), List.take_of_length_le (by simp [bs])]) (by rw [hlen]; omega)
/-- As a test takes it. -/
theorem Whole_dec {g : Nat} {sp : List Value} {A : Option Addr} {cap : Nat} {l : List UInt8} {w0 w : World} {L : List Asr} (M : Mem w0 w (Asr.row g 5 (bs (l ++ [91, 92]) ++ sp) :: L)) (h : RdB w A cap l) (hl : l.length ≤ 140737488351232) :
    Fn Try.prog 27 [.slice (some ⟨g, 0, none⟩) l.length (bs (l ++ [91, 92]) ++ sp).length, .slice A l.length cap] w fun v w' => v = .bool (decide True) ∧ w = w' :=
  (Whole_ok M h hl).mono fun _ _ h => ⟨by rw [h.1]; simp, h.2⟩
end Go.Proofs.Ytmogpoghngmnmaa
