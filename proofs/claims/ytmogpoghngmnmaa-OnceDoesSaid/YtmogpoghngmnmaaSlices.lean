/-
  Walks: functions of package slices on numbers.
-/
import Derived.Test.YtmogpoghngmnmaaFun
namespace Go.Proofs.Ytmogpoghngmnmaa
open Go Go.RowKit

section
variable {α : Type} {E : Enc α} {w0 w : World} {L : List Asr} {A : Option Addr} {cap : Nat} {l : List α}
theorem Mem.lstPre (M : Mem w0 w (Asr.lst E A cap l :: L)) (i : Nat) (hi : i ≤ l.length) : Mem w0 w (Asr.lst E A cap (l.take i) :: L) := by
  by_cases hA : A = none
  · subst hA
    obtain ⟨_, h2⟩ := M.head
    rcases h2 with ⟨_, h3, _⟩ | ⟨g, sp, h3, _⟩
    · have hl : l = [] := List.eq_nil_of_length_eq_zero h3
      subst hl
      simpa using M
    · cases h3
  · obtain ⟨g, sp, rfl, M1, hc, hm, hn, hl⟩ := Mem.ownRow (M : Mem w0 w (Asr.own E.e E.size A l.length cap (E.all l) :: L)) hA
    refine Mem.rowOwn M1 ((E.all l).drop (i * E.size) ++ sp) ?_ (E.all_length _) ?_ hm (by rw [List.length_take]; omega)
    · rw [← List.append_assoc, ← E.all_take, List.take_append_drop]
    · rw [← List.append_assoc, ← E.all_take, List.take_append_drop]
      exact hc
theorem Mem.lstSome (M : Mem w0 w (Asr.lst E A cap l :: L)) (h : 0 < l.length) : ∃ g, A = some ⟨g, 0, none⟩ := by
  obtain ⟨_, h2⟩ := M.head
  rcases h2 with ⟨_, h3, _⟩ | ⟨g, sp, h3, _⟩
  · omega
  · exact ⟨g, h3⟩
end

end Go.Proofs.Ytmogpoghngmnmaa
