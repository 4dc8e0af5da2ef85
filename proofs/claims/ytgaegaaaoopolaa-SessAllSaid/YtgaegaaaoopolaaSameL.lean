/-
  Walk: the same rows of bytes? (seawallref00.SameLists)
-/
import Derived.Test.YtgaegaaaoopolaaLists3
namespace Go.Proofs.Ytgaegaaaoopolaa
open Go Go.RowKit

theorem SameLists_ok {A1 A2 : Option Addr} {c1 c2 : Nat} {l1 l2 : List OX} {w0 : World} (h1 : RdL w0 oxE A1 c1 l1) (h2 : RdL w0 oxE A2 c2 l2)
    (hb1 : ∀ f ∈ l1, RdB w0 f.A f.cap f.l) (hb2 : ∀ f ∈ l2, RdB w0 f.A f.cap f.l) (hl : l1.length ≤ 1000000) :
    Fn Try.prog 31 [.slice A1 l1.length c1, .slice A2 l2.length c2] w0 fun v w' => v = .bool (decide (l1.map OX.l = l2.map OX.l)) ∧ Mem w0 w' [] := by
  have M := Mem.refl w0
  obtain ⟨w, hw⟩ : ∃ w, w = w0 := ⟨w0, rfl⟩
  refine Fn.enter Try.func31 rfl Try.ntmps31 rfl ?_
  refine W.sub [(0, _), (1, _)] (.cons rfl (.cons rfl .nil)) ?_
  refine W.seq ?_
  refine W.region ?_
  refine WL.assign rfl rfl ?_
  refine WL.nil ?_
  refine WX.next ?_
  refine W.sub [(0, _), (1, _)] (.cons rfl (.cons rfl .nil)) ?_
  refine W.seq ?_
  refine W.seq ?_
  refine W.region ?_
  refine WL.move rfl rfl ?_
  refine WL.len Try.underlying33 rfl rfl ?_
  refine WL.move rfl rfl ?_
  refine WL.len Try.underlying33 rfl rfl ?_
  refine WL.neI rfl rfl rfl ?_
  refine WL.nil ?_
  refine WX.next ?_
  refine W.sub [(0, _), (1, _), (10, _)] (.cons rfl (.cons rfl (.cons rfl .nil))) ?_
  refine W.ite rfl (fun c0 => ?_) (fun c0 => ?_)
  · refine W.seq ?_
    refine W.region ?_
    refine WL.assign rfl rfl ?_
    refine WL.nil ?_
    refine WX.next ?_
    refine W.sub [(4, _)] (.cons rfl .nil) ?_
    refine W.ret ?_
    refine WX.thenRet ?_
    refine WX.ret1 rfl rfl ?_
    exact ⟨by rw [decide_eq_false (fun h => c0 (by have := congrArg List.length h; simp at this; omega))], M⟩
  · refine W.skip ?_
    refine WX.next ?_
    refine W.seq ?_
    refine W.seq ?_
    refine W.region ?_
    refine WL.assign rfl rfl ?_
    refine WL.nil ?_
    refine WX.next ?_
    refine W.sub [(0, _), (1, _), (5, _)] (.cons rfl (.cons rfl (.cons rfl .nil))) ?_
    refine W.block ?_
    refine W.loop (ι := Nat) (fun k => [(0, .slice A1 l1.length c1), (1, .slice A2 l2.length c2), (5, .int .i64 (k : Int))]) (fun i w => Mem w0 w ((fun _ => []) i) ∧ (fun k => k ≤ l1.length ∧ (l1.take k).map OX.l = (l2.take k).map OX.l) i) (fun k => l1.length - k) (0) (by (repeat' (first | exact envSub.nil | refine envSub.cons ?_ ?_)) <;> first | rfl | (refine congrArg some ?_; refine congrArg (Value.int _) ?_; first | omega | (dsimp only; omega)) | (simp; done) | (refine congrArg some ?_; dsimp only; congr 1; omega) | (simp; omega)) ⟨M.sel (by first | ((repeat (first | with_reducible exact Sel.refl | with_reducible exact Sel.nil | with_reducible exact Del.here | with_reducible apply Del.there | with_reducible apply Sel.cons | with_reducible apply Sel.drop)); done) | (repeat (first | exact Sel.refl | exact Sel.nil | exact Del.here | apply Del.there | apply Sel.cons | apply Sel.drop))), (by first | trivial | omega | (dsimp only; omega) | (simp; done) | (simp; omega) | (refine ⟨?_, ?_⟩ <;> first | omega | (dsimp only; omega) | (simp; done)))⟩ ?_
    clear M; rintro (k) w ⟨M, ⟨hk, hs⟩⟩; dsimp only at M hk hs ⊢
    refine W.sub [(0, _), (1, _), (5, _)] (.cons rfl (.cons rfl (.cons rfl .nil))) ?_
    refine W.seq ?_
    refine W.seq ?_
    refine W.region ?_
    refine WL.move rfl rfl ?_
    refine WL.move rfl rfl ?_
    refine WL.len Try.underlying33 rfl rfl ?_
    refine WL.lss rfl rfl rfl ?_
    refine WL.nil ?_
    refine WX.next ?_
    refine W.sub [(0, _), (1, _), (5, _), (14, _)] (.cons rfl (.cons rfl (.cons rfl (.cons rfl .nil)))) ?_
    refine W.ite rfl (fun c1 => ?_) (fun c1 => ?_)
    · have e1 : (l1.take (k + 1)).map OX.l = (l1.take k).map OX.l ++ [(el l1 k).l] := by rw [List.take_add_one, el_get (by omega)]; simp
      have e2 : (l2.take (k + 1)).map OX.l = (l2.take k).map OX.l ++ [(el l2 k).l] := by rw [List.take_add_one, el_get (by omega)]; simp
      refine W.skip ?_
      refine WX.next ?_
      refine W.seq ?_
      refine W.block ?_
      refine W.seq ?_
      refine W.drawM (_) (by kernel_rfl) (fun j => [3, 4, 8, 9].contains j) M Sel.refl ?_
      clear M; intro M
      apply DG.pure_ [0, 1, 2, 5, 6, 7] 5 rfl (by kernel_rfl) (by kernel_rfl)
      · intro w
        refine WL.move rfl rfl ?_
        refine WL.move rfl rfl ?_
        refine WL.idxA Try.underlying33 Try.sizeOf34 rfl rfl (RdL.isSome (E := oxE) (by first | with_reducible assumption | with_reducible exact RdL.mem (by with_reducible assumption) M | exact M.rdL (by first | ((repeat (first | with_reducible exact Has.here | with_reducible refine Has.there ?_)); done) | (repeat (first | exact Has.here | refine Has.there ?_))) | exact RdLH.at (by assumption) (M.sel (by first | ((repeat (first | with_reducible exact Sel.refl | with_reducible exact Sel.nil | with_reducible exact Del.here | with_reducible apply Del.there | with_reducible apply Sel.cons | with_reducible apply Sel.drop)); done) | (repeat (first | exact Sel.refl | exact Sel.nil | exact Del.here | apply Del.there | apply Sel.cons | apply Sel.drop)))) | exact RdL.nil _ _ _) (by omega)) (by omega) (by omega) (by first | exact rfl | exact (Int.toNat_of_nonneg (by omega)).symm) rfl ?_
        refine WL.move rfl rfl ?_
        refine WL.move rfl rfl ?_
        refine WL.idxA Try.underlying33 Try.sizeOf34 rfl rfl (RdL.isSome (E := oxE) (by first | with_reducible assumption | with_reducible exact RdL.mem (by with_reducible assumption) M | exact M.rdL (by first | ((repeat (first | with_reducible exact Has.here | with_reducible refine Has.there ?_)); done) | (repeat (first | exact Has.here | refine Has.there ?_))) | exact RdLH.at (by assumption) (M.sel (by first | ((repeat (first | with_reducible exact Sel.refl | with_reducible exact Sel.nil | with_reducible exact Del.here | with_reducible apply Del.there | with_reducible apply Sel.cons | with_reducible apply Sel.drop)); done) | (repeat (first | exact Sel.refl | exact Sel.nil | exact Del.here | apply Del.there | apply Sel.cons | apply Sel.drop)))) | exact RdL.nil _ _ _) (by omega)) (by omega) (by omega) (by first | exact rfl | exact (Int.toNat_of_nonneg (by omega)).symm) rfl ?_
        exact Chain.end_ rfl
      apply DG.take [3, 4, 8, 9, 10] 0 rfl (by kernel_rfl) (by kernel_rfl) (M.sel (by first | ((repeat (first | with_reducible exact Sel.refl | with_reducible exact Sel.nil | with_reducible exact Del.here | with_reducible apply Del.there | with_reducible apply Sel.cons | with_reducible apply Sel.drop)); done) | (repeat (first | exact Sel.refl | exact Sel.nil | exact Del.here | apply Del.there | apply Sel.cons | apply Sel.drop))))
      · intro w M
        refine WL.loadE0 (E := oxE) Try.isAgg34 rfl (by first | with_reducible assumption | with_reducible exact RdL.mem (by with_reducible assumption) M | exact M.rdL (by first | ((repeat (first | with_reducible exact Has.here | with_reducible refine Has.there ?_)); done) | (repeat (first | exact Has.here | refine Has.there ?_))) | exact RdLH.at (by assumption) (M.sel (by first | ((repeat (first | with_reducible exact Sel.refl | with_reducible exact Sel.nil | with_reducible exact Del.here | with_reducible apply Del.there | with_reducible apply Sel.cons | with_reducible apply Sel.drop)); done) | (repeat (first | exact Sel.refl | exact Sel.nil | exact Del.here | apply Del.there | apply Sel.cons | apply Sel.drop)))) | exact RdL.nil _ _ _) (by omega) rfl rfl ?_
        refine WL.toStr Try.underlying34 Try.underlying5 Try.underlying9 rfl ((hb1 _ (el_mem (by omega))).mem M) rfl rfl ?_
        refine WL.loadE0 (E := oxE) Try.isAgg34 rfl (by first | with_reducible assumption | with_reducible exact RdL.mem (by with_reducible assumption) M | exact M.rdL (by first | ((repeat (first | with_reducible exact Has.here | with_reducible refine Has.there ?_)); done) | (repeat (first | exact Has.here | refine Has.there ?_))) | exact RdLH.at (by assumption) (M.sel (by first | ((repeat (first | with_reducible exact Sel.refl | with_reducible exact Sel.nil | with_reducible exact Del.here | with_reducible apply Del.there | with_reducible apply Sel.cons | with_reducible apply Sel.drop)); done) | (repeat (first | exact Sel.refl | exact Sel.nil | exact Del.here | apply Del.there | apply Sel.cons | apply Sel.drop)))) | exact RdL.nil _ _ _) (by omega) rfl rfl ?_
        refine WL.toStr Try.underlying34 Try.underlying5 Try.underlying9 rfl ((hb2 _ (el_mem (by omega))).mem M) rfl rfl ?_
        refine WL.neS rfl rfl rfl ?_
        exact Chain.end_ rfl
      refine DG.end_ (by kernel_rfl) ?_
      refine WX.next ?_
      refine W.sub [(0, _), (1, _), (5, _), (27, _)] (.cons rfl (.cons rfl (.cons rfl (.cons rfl .nil)))) ?_
      refine W.ite rfl (fun c2 => ?_) (fun c2 => ?_)
      · refine W.seq ?_
        refine W.region ?_
        refine WL.assign rfl rfl ?_
        refine WL.nil ?_
        refine WX.next ?_
        refine W.sub [(4, _)] (.cons rfl .nil) ?_
        refine W.ret ?_
        refine WX.blockRet ?_
        refine WX.thenRet ?_
        refine WX.thenRet ?_
        refine WX.blockRet ?_
        refine WX.thenRet ?_
        refine WX.ret1 rfl rfl ?_
        exact ⟨by
          rw [decide_eq_false]
          intro h
          have h3 := congrArg (fun l => l[k]?) h
          simp only [List.getElem?_map, el_get (show k < l1.length by omega), el_get (show k < l2.length by omega), Option.map_some, Option.some.injEq] at h3
          exact c2 h3, M⟩
      · refine W.skip ?_
        refine WX.blockNormal ?_
        refine WX.next ?_
        refine W.region ?_
        refine WL.move rfl rfl ?_
        refine WL.add rfl rfl (by first | exact wI64 (by omega) | rfl) rfl ?_
        refine WL.assign rfl rfl ?_
        refine WL.nil ?_
        skip
        have q : (l1.take (k + 1)).map OX.l = (l2.take (k + 1)).map OX.l := by rw [e1, e2, hs, Decidable.not_not.1 c2]
        refine WX.round (k + 1) (by (repeat' (first | exact envSub.nil | refine envSub.cons ?_ ?_)) <;> first | rfl | (refine congrArg some ?_; refine congrArg (Value.int _) ?_; first | omega | (dsimp only; omega)) | (simp; done) | (refine congrArg some ?_; dsimp only; congr 1; omega) | (simp; omega)) ⟨M.sel (by first | ((repeat (first | with_reducible exact Sel.refl | with_reducible exact Sel.nil | with_reducible exact Del.here | with_reducible apply Del.there | with_reducible apply Sel.cons | with_reducible apply Sel.drop)); done) | (repeat (first | exact Sel.refl | exact Sel.nil | exact Del.here | apply Del.there | apply Sel.cons | apply Sel.drop))), ⟨by omega, q⟩⟩ (by first | omega | (dsimp only; omega))
    · obtain rfl : k = l1.length := by omega
      refine W.exit ?_
      refine WX.thenExit ?_
      refine WX.thenExit ?_
      refine WX.blockHere ?_
      refine WX.next ?_
      refine W.seq ?_
      refine W.region ?_
      refine WL.assign rfl rfl ?_
      refine WL.nil ?_
      refine WX.next ?_
      refine W.sub [(4, _)] (.cons rfl .nil) ?_
      refine W.ret ?_
      refine WX.ret1 rfl rfl ?_
      exact ⟨by rw [decide_eq_true (by rw [List.take_length] at hs; rw [hs, List.take_of_length_le (by omega)])], M⟩
end Go.Proofs.Ytgaegaaaoopolaa
