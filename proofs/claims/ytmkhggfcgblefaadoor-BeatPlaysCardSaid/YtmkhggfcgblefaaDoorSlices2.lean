/-
  Walks: is one of the numbers so (slices.IndexFunc, slices.ContainsFunc).
-/
import Derived.Test.YtmkhggfcgblefaaDoorSlices
namespace Go.Proofs.YtmkhggfcgblefaaDoor
open Go Go.RowKit

theorem sIndexFunc_ok {A : Option Addr} {cap : Nat} {l : List Int} {w0 : World} (h : RdL w0 intE A cap l) (f : FuncId) (cs : Array Value) (p : Int → Bool) (hcall : ∀ (args : Array Value) (w : World), (callFunc f args).run Tryd.prog w = .ok (.enter f args) w)
    (hp : ∀ x w, Fn Tryd.prog f ([.int .i64 x] ++ cs.toList) w fun v w' => v = .bool (p x) ∧ w' = w) (hl : l.length ≤ 1000000) :
    Fn Tryd.prog 37 [.slice A l.length cap, .func (.func f) #[] cs] w0 fun v w' => (∃ z : Int, v = .int .i64 z ∧ (decide (0 ≤ z) = l.any p)) ∧ Mem w0 w' [] := by
  have M := Mem.refl w0
  obtain ⟨w, hw⟩ : ∃ w, w = w0 := ⟨w0, rfl⟩
  refine Fn.enter Tryd.func37 rfl Tryd.ntmps37 rfl ?_
  refine W.sub [(0, _), (1, _)] (.cons rfl (.cons rfl .nil)) ?_
  refine W.seq ?_
  refine W.region ?_
  refine WL.assign rfl rfl ?_
  refine WL.nil ?_
  refine WX.next ?_
  refine W.sub [(0, _), (1, _)] (.cons rfl (.cons rfl .nil)) ?_
  refine W.seq ?_
  refine W.seq ?_
  refine W.region ?_
  refine WL.move rfl rfl ?_
  refine WL.len Tryd.underlying22 rfl rfl ?_
  refine WL.move rfl rfl ?_
  refine WL.nil ?_
  refine WX.next ?_
  refine W.sub [(0, _), (1, _), (7, _), (8, _)] (.cons rfl (.cons rfl (.cons rfl (.cons rfl .nil)))) ?_
  refine W.block ?_
  refine W.loop (ι := Nat) (fun i => [(0, .slice A l.length cap), (1, .func (.func f) #[] cs), (7, .int .i64 (l.length : Int)), (8, .int .i64 (i : Int))]) (fun zz w => Mem w0 w ((fun _ => []) zz) ∧ (fun i => i ≤ l.length ∧ ∀ j, j < i → p (el l j) = false) zz) (fun i => l.length - i) (0) (by (repeat' (first | exact envSub.nil | refine envSub.cons ?_ ?_)) <;> first | rfl | (refine congrArg some ?_; refine congrArg (Value.int _) ?_; first | omega | (dsimp only; omega)) | (simp; done) | (refine congrArg some ?_; dsimp only; congr 1; omega) | (simp; omega)) ⟨M.sel (by first | ((repeat (first | with_reducible exact Sel.refl | with_reducible exact Sel.nil | with_reducible exact Del.here | with_reducible apply Del.there | with_reducible apply Sel.cons | with_reducible apply Sel.drop)); done) | (repeat (first | exact Sel.refl | exact Sel.nil | exact Del.here | apply Del.there | apply Sel.cons | apply Sel.drop))), ⟨by omega, fun j hj => absurd hj (by omega)⟩⟩ ?_
  clear M; rintro (i) w ⟨M, ⟨hi, hs⟩⟩; dsimp only at M hi hs ⊢
  refine W.sub [(0, _), (1, _), (7, _), (8, _)] (.cons rfl (.cons rfl (.cons rfl (.cons rfl .nil)))) ?_
  refine W.seq ?_
  refine W.region ?_
  refine WL.lss rfl rfl rfl ?_
  refine WL.nil ?_
  refine WX.next ?_
  refine W.sub [(0, _), (1, _), (7, _), (8, _), (9, _)] (.cons rfl (.cons rfl (.cons rfl (.cons rfl (.cons rfl .nil))))) ?_
  refine W.seq ?_
  refine W.ite rfl (fun c0 => ?_) (fun c0 => ?_)
  · refine W.skip ?_
    refine WX.next ?_
    refine W.seq ?_
    refine W.block ?_
    refine W.seq ?_
    refine W.region ?_
    refine WL.move rfl rfl ?_
    refine WL.assign rfl rfl ?_
    refine WL.nil ?_
    refine WX.next ?_
    refine W.sub [(0, _), (1, _), (5, _), (7, _), (8, _)] (.cons rfl (.cons rfl (.cons rfl (.cons rfl (.cons rfl .nil))))) ?_
    refine W.seq ?_
    refine W.region ?_
    refine WL.move rfl rfl ?_
    refine WL.move rfl rfl ?_
    refine WL.move rfl rfl ?_
    refine WL.idxA Tryd.underlying22 Tryd.sizeOf3 rfl rfl (RdL.isSome (E := intE) (by first | with_reducible assumption | with_reducible exact RdL.mem (by with_reducible assumption) M | exact M.rdL (by first | ((repeat (first | with_reducible exact Has.here | with_reducible refine Has.there ?_)); done) | (repeat (first | exact Has.here | refine Has.there ?_))) | exact RdLH.at (by assumption) (M.sel (by first | ((repeat (first | with_reducible exact Sel.refl | with_reducible exact Sel.nil | with_reducible exact Del.here | with_reducible apply Del.there | with_reducible apply Sel.cons | with_reducible apply Sel.drop)); done) | (repeat (first | exact Sel.refl | exact Sel.nil | exact Del.here | apply Del.there | apply Sel.cons | apply Sel.drop)))) | exact RdL.nil _ _ _) (by omega)) (by omega) (by omega) (by first | exact rfl | exact (Int.toNat_of_nonneg (by omega)).symm) rfl ?_
    refine WL.loadE0 (E := intE) Tryd.isAgg3 rfl (by first | with_reducible assumption | with_reducible exact RdL.mem (by with_reducible assumption) M | exact M.rdL (by first | ((repeat (first | with_reducible exact Has.here | with_reducible refine Has.there ?_)); done) | (repeat (first | exact Has.here | refine Has.there ?_))) | exact RdLH.at (by assumption) (M.sel (by first | ((repeat (first | with_reducible exact Sel.refl | with_reducible exact Sel.nil | with_reducible exact Del.here | with_reducible apply Del.there | with_reducible apply Sel.cons | with_reducible apply Sel.drop)); done) | (repeat (first | exact Sel.refl | exact Sel.nil | exact Del.here | apply Del.there | apply Sel.cons | apply Sel.drop)))) | exact RdL.nil _ _ _) (by omega) rfl rfl ?_
    refine WL.callV hcall rfl rfl (hp (el l i) _) rfl ?_
    rintro _ _ ⟨rfl, rfl⟩
    refine WL.nil ?_
    refine WX.next ?_
    refine W.sub [(0, _), (1, _), (5, _), (7, _), (8, _), (16, _)] (.cons rfl (.cons rfl (.cons rfl (.cons rfl (.cons rfl (.cons rfl .nil)))))) ?_
    refine W.cond rfl (fun c1 => ?_) (fun c1 => ?_)
    · (try simp only [Bool.not_eq_true'] at c1); (try simp only [Bool.not_eq_false'] at c1); (try simp only [decide_eq_true_eq] at c1); (try simp only [decide_eq_false_iff_not] at c1)
      refine W.seq ?_
      refine W.region ?_
      refine WL.move rfl rfl ?_
      refine WL.assign rfl rfl ?_
      refine WL.nil ?_
      refine WX.next ?_
      refine W.sub [(4, _)] (.cons rfl .nil) ?_
      refine W.ret ?_
      refine WX.blockRet ?_
      refine WX.thenRet ?_
      refine WX.thenRet ?_
      refine WX.blockRet ?_
      refine WX.thenRet ?_
      refine WX.ret1 rfl rfl ?_
      exact ⟨⟨_, rfl, by rw [decide_eq_true (by omega)]; exact (List.any_eq_true.2 ⟨_, el_mem (by omega), c1⟩).symm⟩, M⟩
    · (try simp only [Bool.not_eq_true'] at c1); (try simp only [Bool.not_eq_false'] at c1); (try simp only [decide_eq_true_eq] at c1); (try simp only [decide_eq_false_iff_not] at c1)
      refine W.skip ?_
      refine WX.blockNormal ?_
      refine WX.next ?_
      refine W.region ?_
      refine WL.add rfl rfl (by first | exact wI64 (by omega) | rfl) rfl ?_
      refine WL.move rfl rfl ?_
      refine WL.nil ?_
      skip
      have q : ∀ j, j < i + 1 → p (el l j) = false := by
        intro j hj
        rcases Nat.lt_or_ge j i with h1 | h1
        · exact hs j h1
        · obtain rfl : j = i := by omega
          simpa using c1
      refine WX.round (i + 1) (by (repeat' (first | exact envSub.nil | refine envSub.cons ?_ ?_)) <;> first | rfl | (refine congrArg some ?_; refine congrArg (Value.int _) ?_; first | omega | (dsimp only; omega)) | (simp; done) | (refine congrArg some ?_; dsimp only; congr 1; omega) | (simp; omega)) ⟨M.sel (by first | ((repeat (first | with_reducible exact Sel.refl | with_reducible exact Sel.nil | with_reducible exact Del.here | with_reducible apply Del.there | with_reducible apply Sel.cons | with_reducible apply Sel.drop)); done) | (repeat (first | exact Sel.refl | exact Sel.nil | exact Del.here | apply Del.there | apply Sel.cons | apply Sel.drop))), ⟨by omega, q⟩⟩ (by first | omega | (dsimp only; omega))
  · refine W.exit ?_
    refine WX.thenExit ?_
    refine WX.thenExit ?_
    refine WX.blockHere ?_
    refine WX.next ?_
    refine W.seq ?_
    refine W.region ?_
    refine WL.assign rfl rfl ?_
    refine WL.nil ?_
    refine WX.next ?_
    refine W.sub [(4, _)] (.cons rfl .nil) ?_
    refine W.ret ?_
    refine WX.ret1 rfl rfl ?_
    obtain rfl : i = l.length := by omega
    exact ⟨⟨_, rfl, by
      rw [decide_eq_false (by omega)]
      symm
      rw [List.any_eq_false]
      intro x hx
      obtain ⟨j, hj, rfl⟩ := List.getElem_of_mem hx
      have := hs j hj
      simpa [el, hj] using this⟩, M⟩
theorem sContainsFunc_ok {A : Option Addr} {cap : Nat} {l : List Int} {w0 : World} (h : RdL w0 intE A cap l) (f : FuncId) (cs : Array Value) (p : Int → Bool) (hcall : ∀ (args : Array Value) (w : World), (callFunc f args).run Tryd.prog w = .ok (.enter f args) w)
    (hp : ∀ x w, Fn Tryd.prog f ([.int .i64 x] ++ cs.toList) w fun v w' => v = .bool (p x) ∧ w' = w) (hl : l.length ≤ 1000000) :
    Fn Tryd.prog 28 [.slice A l.length cap, .func (.func f) #[] cs] w0 fun v w' => v = .bool (l.any p) ∧ Mem w0 w' [] := by
  have M := Mem.refl w0
  obtain ⟨w, hw⟩ : ∃ w, w = w0 := ⟨w0, rfl⟩
  refine Fn.enter Tryd.func28 rfl Tryd.ntmps28 rfl ?_
  refine W.sub [(0, _), (1, _)] (.cons rfl (.cons rfl .nil)) ?_
  refine W.seq ?_
  refine W.region ?_
  refine WL.assign rfl rfl ?_
  refine WL.nil ?_
  refine WX.next ?_
  refine W.sub [(0, _), (1, _)] (.cons rfl (.cons rfl .nil)) ?_
  refine W.seq ?_
  refine W.region ?_
  refine WL.move rfl rfl ?_
  refine WL.move rfl rfl ?_
  refine WL.call Tryd.call37 rfl (sIndexFunc_ok (h.mem M) f cs p hcall hp hl) rfl ?_
  rintro _ w ⟨⟨z, rfl, hz⟩, m⟩
  replace M := M.call0 m; clear m
  refine WL.geq rfl rfl rfl ?_
  refine WL.assign rfl rfl ?_
  refine WL.nil ?_
  refine WX.next ?_
  refine W.sub [(4, _)] (.cons rfl .nil) ?_
  refine W.ret ?_
  refine WX.ret1 rfl rfl ?_
  exact ⟨congrArg Value.bool hz, M⟩
end Go.Proofs.YtmkhggfcgblefaaDoor
