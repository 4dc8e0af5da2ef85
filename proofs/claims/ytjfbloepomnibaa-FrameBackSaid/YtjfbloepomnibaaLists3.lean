/-
  Lists of bytes: contracts as the search takes them.
-/
import Derived.Test.YtjfbloepomnibaaEncs
import Derived.Test.YtjfbloepomnibaaLists2
import Derived.Test.YtjfbloepomnibaaOwnAll2
namespace Go.Proofs.Ytjfbloepomnibaa
open Go Go.RowKit

theorem Mem.rdLent {g : Nat} {sp : List Value} {l : List UInt8} {w0 w : World} {L : List Asr} (M : Mem w0 w L) (h : Has (Asr.row g 5 (bs (l ++ [91, 92]) ++ sp)) L) :
    RdB w (some ⟨g, 0, none⟩) (bs (l ++ [91, 92]) ++ sp).length l := by
  obtain ⟨L', h⟩ := h.del
  exact lentRd (M.del h)
theorem Whole2 {g : Nat} {sp : List Value} {A : Option Addr} {cap : Nat} {l : List UInt8} {w0 w : World} {L : List Asr} (M : Mem w0 w L) (hg : Has (Asr.row g 5 (bs (l ++ [91, 92]) ++ sp)) L) (h : RdB w A cap l) (hl : l.length ≤ 140737488351232) :
    Fn Try.prog 18 [.slice (some ⟨g, 0, none⟩) l.length (bs (l ++ [91, 92]) ++ sp).length, .slice A l.length cap] w fun v w' => v = .bool (decide True) ∧ w = w' := by
  obtain ⟨L', hd⟩ := hg.del
  exact Whole_dec (M.del hd) h hl
theorem Spoil2 {g : Nat} {sp : List Value} {l : List UInt8} {w0 w : World} {L L' : List Asr} (M : Mem w0 w L) (hd : Del (Asr.row g 5 (bs (l ++ [91, 92]) ++ sp)) L L') (hl : l.length ≤ 140737488351232) :
    Fn Try.prog 19 [.slice (some ⟨g, 0, none⟩) l.length (bs (l ++ [91, 92]) ++ sp).length] w fun _ w' => Mem w0 w' L' := by
  have M1 := M.del hd
  rw [bs_append, List.append_assoc] at M1
  exact (Spoil_ok (rest := bs [91, 92] ++ sp) M1 hl).mono fun v w' ⟨l', _, M'⟩ => M'.tail
theorem Own2 {xs : List OX} {B : Option Addr} {c : Nat} {w0 w : World} {L L1 L2 : List Asr} (M : Mem w0 w L) (h1 : Del (Asr.lst oxE B c xs) L L1) (h2 : Del (Asr.star (xs.map OX.O)) L1 L2)
    (hxs : xs.length ≤ 1000000) (hxl : ∀ x ∈ xs, x.l.length ≤ 140737488351232) :
    Fn Try.prog 27 [.slice B xs.length c] w fun v w' => v = .bool (decide True) ∧ Mem w0 w' L2 := by
  have M2 := (M.del h1).perm (List.Perm.cons _ h2.perm)
  have M3 := M2.f1.unstar
  have M4 : Mem w0 w (Asr.own 22 1 B xs.length c (xs.map OX.v) :: (xs.map OX.O ++ L2)) := by
    have e : Asr.lst oxE B c xs = Asr.own 22 1 B xs.length c (xs.map OX.v) := by unfold Asr.lst; rw [oxE_all]; rfl
    rw [e] at M3
    exact M3.perm List.perm_middle
  exact (Own_ok M4 hxs hxl).mono fun v w' h => ⟨by rw [h.1]; simp, h.2⟩
end Go.Proofs.Ytjfbloepomnibaa
