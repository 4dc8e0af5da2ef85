/-
  Walks: functions of package slices on numbers.
-/
import Derived.Test.YtmkhggfcgblefaaDoorFun
namespace Go.Proofs.YtmkhggfcgblefaaDoor
open Go Go.RowKit

section
variable {α : Type} {E : Enc α} {w0 w : World} {L : List Asr} {A : Option Addr} {cap : Nat} {l : List α}
theorem Mem.lstPre (M : Mem w0 w (Asr.lst E A cap l :: L)) (i : Nat) (hi : i ≤ l.length) : Mem w0 w (Asr.lst E A cap (l.take i) :: L) := by
  by_cases hA : A = none
  · subst hA
    obtain ⟨_, h2⟩ := M.head
    rcases h2 with ⟨_, h3, _⟩ | ⟨g, sp, h3, _⟩
    · have hl : l = [] := List.eq_nil_of_length_eq_zero h3
      subst hl
      simpa using M
    · cases h3
  · obtain ⟨g, sp, rfl, M1, hc, hm, hn, hl⟩ := Mem.ownRow (M : Mem w0 w (Asr.own E.e E.size A l.length cap (E.all l) :: L)) hA
    refine Mem.rowOwn M1 ((E.all l).drop (i * E.size) ++ sp) ?_ (E.all_length _) ?_ hm (by rw [List.length_take]; omega)
    · rw [← List.append_assoc, ← E.all_take, List.take_append_drop]
    · rw [← List.append_assoc, ← E.all_take, List.take_append_drop]
      exact hc
theorem Mem.lstSome (M : Mem w0 w (Asr.lst E A cap l :: L)) (h : 0 < l.length) : ∃ g, A = some ⟨g, 0, none⟩ := by
  obtain ⟨_, h2⟩ := M.head
  rcases h2 with ⟨_, h3, _⟩ | ⟨g, sp, h3, _⟩
  · omega
  · exact ⟨g, h3⟩
end

set_option maxRecDepth 10000 in
theorem sClone_ok {A : Option Addr} {cap : Nat} {l : List Int} {w0 : World} (h : RdL w0 intE A cap l) (hl : l.length ≤ 1000000) :
    Fn Tryd.prog 30 [.slice A l.length cap] w0 fun v w' => ∃ A' c', v = .slice A' l.length c' ∧ Mem w0 w' [Asr.lst intE A' c' l] := by
  have M := Mem.refl w0
  obtain ⟨w, hw⟩ : ∃ w, w = w0 := ⟨w0, rfl⟩
  refine Fn.enter Tryd.func30 rfl Tryd.ntmps30 rfl ?_
  refine W.sub [(0, _)] (.cons rfl .nil) ?_
  refine W.seq ?_
  refine W.region ?_
  refine WL.assign rfl rfl ?_
  refine WL.nil ?_
  refine WX.next ?_
  refine W.sub [(0, _)] (.cons rfl .nil) ?_
  refine W.seq ?_
  refine W.seq ?_
  refine W.region ?_
  refine WL.move rfl rfl ?_
  refine WL.eqlSN Tryd.underlying22 rfl rfl rfl ?_
  refine WL.nil ?_
  refine WX.next ?_
  refine W.sub [(0, _), (4, _)] (.cons rfl (.cons rfl .nil)) ?_
  refine W.cond rfl (fun c0 => ?_) (fun c0 => ?_)
  · (try simp only [Bool.not_eq_true'] at c0); (try simp only [Bool.not_eq_false'] at c0); (try simp only [decide_eq_true_eq] at c0); (try simp only [decide_eq_false_iff_not] at c0)
    refine W.seq ?_
    refine W.region ?_
    refine WL.assign rfl rfl ?_
    refine WL.nil ?_
    refine WX.next ?_
    refine W.sub [(2, _)] (.cons rfl .nil) ?_
    refine W.ret ?_
    refine WX.thenRet ?_
    refine WX.ret1 rfl rfl ?_
    have hl0 : l = [] := by
      apply List.eq_nil_of_length_eq_zero
      rcases Nat.eq_zero_or_pos l.length with h0 | h0
      · exact h0
      · have := h.isSome h0
        cases A with
        | none => cases this
        | some a => cases c0
    subst hl0
    exact ⟨none, 0, rfl, M.nilOwn _ _⟩
  · (try simp only [Bool.not_eq_true'] at c0); (try simp only [Bool.not_eq_false'] at c0); (try simp only [decide_eq_true_eq] at c0); (try simp only [decide_eq_false_iff_not] at c0)
    refine W.skip ?_
    refine WX.next ?_
    refine W.seq ?_
    refine W.region ?_
    refine WL.buildL (E := intE) (l := []) Tryd.elem3 M rfl rfl rfl rfl rfl rfl ?_
    intro g3_0 w M
    refine WL.move rfl rfl ?_
    refine WL.appendLN (E := intE) Tryd.elem3 rfl rfl M (by first | ((repeat (first | with_reducible exact Del.here | with_reducible apply Del.there)); done) | (repeat (first | exact Del.here | apply Del.there))) (by first | with_reducible assumption | with_reducible exact RdL.mem (by with_reducible assumption) M | exact M.rdL (by first | ((repeat (first | with_reducible exact Has.here | with_reducible refine Has.there ?_)); done) | (repeat (first | exact Has.here | refine Has.there ?_))) | exact RdLH.at (by assumption) (M.sel (by first | ((repeat (first | with_reducible exact Sel.refl | with_reducible exact Sel.nil | with_reducible exact Del.here | with_reducible apply Del.there | with_reducible apply Sel.cons | with_reducible apply Sel.drop)); done) | (repeat (first | exact Sel.refl | exact Sel.nil | exact Del.here | apply Del.there | apply Sel.cons | apply Sel.drop)))) | exact RdL.nil _ _ _) rfl rfl (by first | omega | (simp; done) | (simp; omega)) (by first | (simp only [maxLen]; omega) | (simp [maxLen]; done) | (simp [maxLen]; omega)) rfl ?_
    intro A3_2 cap3_2 w M
    refine WL.assign rfl rfl ?_
    refine WL.nil ?_
    refine WX.next ?_
    refine W.sub [(2, _)] (.cons rfl .nil) ?_
    refine W.ret ?_
    refine WX.ret1 rfl rfl ?_
    exact ⟨A3_2, cap3_2, rfl, M⟩
end Go.Proofs.YtmkhggfcgblefaaDoor
