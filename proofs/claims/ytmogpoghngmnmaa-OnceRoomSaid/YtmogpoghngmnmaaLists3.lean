/-
  Lists of bytes: contracts as the search takes them.
-/
import Derived.Test.YtmogpoghngmnmaaEncs
import Derived.Test.YtmogpoghngmnmaaLit
import Derived.Test.YtmogpoghngmnmaaLists2
import Derived.Test.YtmogpoghngmnmaaOwnAll2
namespace Go.Proofs.Ytmogpoghngmnmaa
open Go Go.RowKit

section
variable {P : Program} {n : Nat} {ρ : List (Nat × Value)} {w0 w : World} {rest : List Oper} {L L' : List Asr} {Y : Sq P n}
variable {d : Nat} {ty : TypeId} {pos : String} {aft : Array Edge} {x : Operand} {t e : TypeId}
theorem WL.convLitH {g : Nat} {l : List UInt8} {m c : Nat} (ht : P.underlying t = some (.slice e)) (he : P.underlying e = some (.int .u8)) (hx : ev ρ x = some (.slice (some ⟨g, 0, none⟩) m c))
    (M : Mem w0 w L) (h : Del (Asr.own e 1 (some ⟨g, 0, none⟩) l.length c (bs l)) L L') (hm : m = l.length) (hc : c = l.length) (hd : Nat.blt d n = true)
    (kk : ∀ w', Mem w0 w' (Asr.obj g (.cells (bs l).toArray e (l.length, l.length + 1)) :: L') → Y.S rest ((d, .slice (some ⟨g, 0, none⟩) l.length l.length) :: ρ) w') :
    Y.S (⟨some d, .convert t t x, ty, pos, aft, none⟩ :: rest) ρ w := by
  subst hm hc
  exact WL.convLit ht he hx (M.del h) rfl hd kk
end
theorem Mem.rdLent {g : Nat} {sp : List Value} {l : List UInt8} {w0 w : World} {L : List Asr} (M : Mem w0 w L) (h : Has (Asr.row g 5 (bs (l ++ [91, 92]) ++ sp)) L) :
    RdB w (some ⟨g, 0, none⟩) (bs (l ++ [91, 92]) ++ sp).length l := by
  obtain ⟨L', h⟩ := h.del
  exact lentRd (M.del h)
theorem Whole2 {g : Nat} {sp : List Value} {A : Option Addr} {cap : Nat} {l : List UInt8} {w0 w : World} {L : List Asr} (M : Mem w0 w L) (hg : Has (Asr.row g 5 (bs (l ++ [91, 92]) ++ sp)) L) (h : RdB w A cap l) (hl : l.length ≤ 140737488351232) :
    Fn Try.prog 27 [.slice (some ⟨g, 0, none⟩) l.length (bs (l ++ [91, 92]) ++ sp).length, .slice A l.length cap] w fun v w' => v = .bool (decide True) ∧ w = w' := by
  obtain ⟨L', hd⟩ := hg.del
  exact Whole_dec (M.del hd) h hl
theorem Spoil2 {g : Nat} {sp : List Value} {l : List UInt8} {w0 w : World} {L L' : List Asr} (M : Mem w0 w L) (hd : Del (Asr.row g 5 (bs (l ++ [91, 92]) ++ sp)) L L') (hl : l.length ≤ 140737488351232) :
    Fn Try.prog 24 [.slice (some ⟨g, 0, none⟩) l.length (bs (l ++ [91, 92]) ++ sp).length] w fun _ w' => Mem w0 w' L' := by
  have M1 := M.del hd
  rw [bs_append, List.append_assoc] at M1
  exact (Spoil_ok (rest := bs [91, 92] ++ sp) M1 hl).mono fun v w' ⟨l', _, M'⟩ => M'.tail
theorem Own2 {xs : List OX} {B : Option Addr} {c : Nat} {w0 w : World} {L L1 L2 : List Asr} (M : Mem w0 w L) (h1 : Del (Asr.lst oxE B c xs) L L1) (h2 : Del (Asr.star (xs.map OX.O)) L1 L2)
    (hxs : xs.length ≤ 1000000) (hxl : ∀ x ∈ xs, x.l.length ≤ 140737488351232) :
    Fn Try.prog 20 [.slice B xs.length c] w fun v w' => v = .bool (decide True) ∧ Mem w0 w' L2 := by
  have M2 := (M.del h1).perm (List.Perm.cons _ h2.perm)
  have M3 := M2.f1.unstar
  have M4 : Mem w0 w (Asr.own 32 1 B xs.length c (xs.map OX.v) :: (xs.map OX.O ++ L2)) := by
    have e : Asr.lst oxE B c xs = Asr.own 32 1 B xs.length c (xs.map OX.v) := by unfold Asr.lst; rw [oxE_all]; rfl
    rw [e] at M3
    exact M3.perm List.perm_middle
  exact (Own_ok M4 hxs hxl).mono fun v w' h => ⟨by rw [h.1]; simp, h.2⟩
end Go.Proofs.Ytmogpoghngmnmaa
