/-
  Few pieces; what a list of bytes reads as. (seat law07)
-/
import Derived.Test.YtgaegaaaoopolaaSessIn
namespace Go.Proofs.Ytgaegaaaoopolaa
open Go Go.RowKit Go.ChangeShapes Go.WideShapes Go.ChangeAt

section
variable {H : Type} {enc : TypeId × Value → H} {W : World} {base : Nat} {sp : Nat → Bool} {held : Bool}
set_option maxRecDepth 10000 in
theorem lists_in {v : Value} {d : DataW H} {ps : List MemPlace} (hv : Value.okWide Try.prog W .any base 33 v)
    (h : DataW.Trod enc Try.prog W 0 (fun _ => true) true 33 v d ps) : ∃ A l cap, v = .slice A (List.length l) cap ∧ RdL W oxE A cap l ∧ (∀ o ∈ l, RdB W o.A o.cap o.l) ∧ cap ≤ maxLen := by
  obtain ⟨fuel, x, h1, h⟩ := arg_slice Try.underlying33 hv h
  obtain ⟨A, l, cap, he, hR, hQ, hm⟩ := in_list (E := oxE) (Q := fun o => RdB W o.A o.cap o.l) Try.underlying33 (by kernel_rfl) (fun m cs x h => by
    obtain ⟨A, l, cap, rfl, hb, _⟩ := in_bytes Try.underlying34 Try.underlying5 (by kernel_rfl) h
    exact ⟨⟨A, cap, l⟩, rfl, hb⟩) h
  exact ⟨A, l, cap, by simpa using he, hR, hQ, hm⟩
end

/-- Few pieces, none too long. -/
def isFew (l : List OX) : Prop := l.length ≤ 60 ∧ ∀ o ∈ l, o.l.length ≤ 1000
instance (l : List OX) : Decidable (isFew l) := inferInstanceAs (Decidable (_ ∧ _))
theorem few_ok {A : Option Addr} {k : Nat} {l : List OX} {w0 : World} (h : RdL w0 oxE A k l) (hm : l.length ≤ maxLen) :
    Fn Try.prog 26 [.slice A l.length k] w0 fun v w' => v = .bool (decide (isFew l)) ∧ Mem w0 w' [] := by
  have M := Mem.refl w0
  unfold maxLen at hm
  obtain ⟨w, hw⟩ : ∃ w, w = w0 := ⟨w0, rfl⟩
  refine Fn.enter Try.func26 rfl Try.ntmps26 rfl ?_
  refine W.sub [(0, _)] (.cons rfl .nil) ?_
  refine W.seq ?_
  refine W.region ?_
  refine WL.assign rfl rfl ?_
  refine WL.nil ?_
  refine WX.next ?_
  refine W.sub [(0, _)] (.cons rfl .nil) ?_
  refine W.seq ?_
  refine W.seq ?_
  refine W.region ?_
  refine WL.assign rfl rfl ?_
  refine WL.nil ?_
  refine WX.next ?_
  refine W.sub [(0, _), (3, _)] (.cons rfl (.cons rfl .nil)) ?_
  refine W.block ?_
  refine W.loop (ι := Nat) (fun i => [(0, .slice A l.length k), (3, .int .i64 (i : Int))]) (fun i w => Mem w0 w ((fun _ => []) i) ∧ (fun i => i ≤ l.length ∧ ∀ j, j < i → (el l j).l.length ≤ 1000) i) (fun i => l.length - i) (0) (by (repeat' (first | exact envSub.nil | refine envSub.cons ?_ ?_)) <;> first | rfl | (refine congrArg some ?_; refine congrArg (Value.int _) ?_; first | omega | (dsimp only; omega)) | (simp; done) | (refine congrArg some ?_; dsimp only; congr 1; omega) | (simp; omega)) ⟨M.sel (by first | ((repeat (first | with_reducible exact Sel.refl | with_reducible exact Sel.nil | with_reducible exact Del.here | with_reducible apply Del.there | with_reducible apply Sel.cons | with_reducible apply Sel.drop)); done) | (repeat (first | exact Sel.refl | exact Sel.nil | exact Del.here | apply Del.there | apply Sel.cons | apply Sel.drop))), ⟨by omega, fun j hj => absurd hj (by omega)⟩⟩ ?_
  clear M; rintro (i) w ⟨M, ⟨hi, hs⟩⟩; dsimp only at M hi hs ⊢
  refine W.sub [(0, _), (3, _)] (.cons rfl (.cons rfl .nil)) ?_
  refine W.seq ?_
  refine W.seq ?_
  refine W.region ?_
  refine WL.move rfl rfl ?_
  refine WL.move rfl rfl ?_
  refine WL.len Try.underlying33 rfl rfl ?_
  refine WL.lss rfl rfl rfl ?_
  refine WL.nil ?_
  refine WX.next ?_
  refine W.sub [(0, _), (3, _), (7, _)] (.cons rfl (.cons rfl (.cons rfl .nil))) ?_
  refine W.ite rfl (fun c0 => ?_) (fun c0 => ?_)
  · refine W.skip ?_
    refine WX.next ?_
    refine W.seq ?_
    refine W.block ?_
    refine W.seq ?_
    refine W.region ?_
    refine WL.move rfl rfl ?_
    refine WL.move rfl rfl ?_
    refine WL.idxA Try.underlying33 Try.sizeOf34 rfl rfl (RdL.isSome (E := oxE) (by first | with_reducible assumption | with_reducible exact RdL.mem (by with_reducible assumption) M | exact M.rdL (by first | ((repeat (first | with_reducible exact Has.here | with_reducible refine Has.there ?_)); done) | (repeat (first | exact Has.here | refine Has.there ?_))) | exact RdLH.at (by assumption) (M.sel (by first | ((repeat (first | with_reducible exact Sel.refl | with_reducible exact Sel.nil | with_reducible exact Del.here | with_reducible apply Del.there | with_reducible apply Sel.cons | with_reducible apply Sel.drop)); done) | (repeat (first | exact Sel.refl | exact Sel.nil | exact Del.here | apply Del.there | apply Sel.cons | apply Sel.drop)))) | exact RdL.nil _ _ _) (by omega)) (by omega) (by omega) (by first | exact rfl | exact (Int.toNat_of_nonneg (by omega)).symm) rfl ?_
    refine WL.loadE0 (E := oxE) Try.isAgg34 rfl (by first | with_reducible assumption | with_reducible exact RdL.mem (by with_reducible assumption) M | exact M.rdL (by first | ((repeat (first | with_reducible exact Has.here | with_reducible refine Has.there ?_)); done) | (repeat (first | exact Has.here | refine Has.there ?_))) | exact RdLH.at (by assumption) (M.sel (by first | ((repeat (first | with_reducible exact Sel.refl | with_reducible exact Sel.nil | with_reducible exact Del.here | with_reducible apply Del.there | with_reducible apply Sel.cons | with_reducible apply Sel.drop)); done) | (repeat (first | exact Sel.refl | exact Sel.nil | exact Del.here | apply Del.there | apply Sel.cons | apply Sel.drop)))) | exact RdL.nil _ _ _) (by omega) rfl rfl ?_
    refine WL.len Try.underlying34 rfl rfl ?_
    refine WL.gtr rfl rfl rfl ?_
    refine WL.nil ?_
    refine WX.next ?_
    refine W.sub [(0, _), (3, _), (15, _)] (.cons rfl (.cons rfl (.cons rfl .nil))) ?_
    refine W.ite rfl (fun c1 => ?_) (fun c1 => ?_)
    · refine W.seq ?_
      refine W.region ?_
      refine WL.assign rfl rfl ?_
      refine WL.nil ?_
      refine WX.next ?_
      refine W.sub [(2, _)] (.cons rfl .nil) ?_
      refine W.ret ?_
      refine WX.blockRet ?_
      refine WX.thenRet ?_
      refine WX.thenRet ?_
      refine WX.blockRet ?_
      refine WX.thenRet ?_
      refine WX.ret1 rfl rfl ?_
      exact ⟨by rw [decide_eq_false (fun hf => by have := hf.2 _ (el_mem (l := l) (k := i) (by omega)); omega)], M⟩
    · refine W.skip ?_
      refine WX.blockNormal ?_
      refine WX.next ?_
      refine W.region ?_
      refine WL.move rfl rfl ?_
      refine WL.add rfl rfl (by first | exact wI64 (by omega) | rfl) rfl ?_
      refine WL.assign rfl rfl ?_
      refine WL.nil ?_
      skip
      have q : ∀ j, j < i + 1 → (el l j).l.length ≤ 1000 := by
        intro j hj
        rcases Nat.lt_or_ge j i with h1 | h1
        · exact hs j h1
        · obtain rfl : j = i := by omega
          omega
      refine WX.round (i + 1) (by (repeat' (first | exact envSub.nil | refine envSub.cons ?_ ?_)) <;> first | rfl | (refine congrArg some ?_; refine congrArg (Value.int _) ?_; first | omega | (dsimp only; omega)) | (simp; done) | (refine congrArg some ?_; dsimp only; congr 1; omega) | (simp; omega)) ⟨M.sel (by first | ((repeat (first | with_reducible exact Sel.refl | with_reducible exact Sel.nil | with_reducible exact Del.here | with_reducible apply Del.there | with_reducible apply Sel.cons | with_reducible apply Sel.drop)); done) | (repeat (first | exact Sel.refl | exact Sel.nil | exact Del.here | apply Del.there | apply Sel.cons | apply Sel.drop))), ⟨by omega, q⟩⟩ (by first | omega | (dsimp only; omega))
  · refine W.exit ?_
    refine WX.thenExit ?_
    refine WX.thenExit ?_
    refine WX.blockHere ?_
    refine WX.next ?_
    refine W.seq ?_
    refine W.region ?_
    refine WL.move rfl rfl ?_
    refine WL.len Try.underlying33 rfl rfl ?_
    refine WL.leq rfl rfl rfl ?_
    refine WL.assign rfl rfl ?_
    refine WL.nil ?_
    refine WX.next ?_
    refine W.sub [(2, _)] (.cons rfl .nil) ?_
    refine W.ret ?_
    refine WX.ret1 rfl rfl ?_
    obtain rfl : i = l.length := by omega
    have q : ∀ o ∈ l, o.l.length ≤ 1000 := by
      intro o ho
      obtain ⟨j, hj, rfl⟩ := List.getElem_of_mem ho
      have := hs j hj
      simpa [el, hj] using this
    have e : (isFew l) = ((l.length : Int) ≤ 60) := by
      unfold isFew
      apply propext
      constructor
      · intro h1; have := h1.1; omega
      · intro h1; exact ⟨by omega, q⟩
    exact ⟨by simp only [e], M⟩
end Go.Proofs.Ytgaegaaaoopolaa
