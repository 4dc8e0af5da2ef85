/-
  Walks: what is not there; what the examples fix (seawalllaw21).
-/
import Derived.Test.YtdhmopmfnnlhcaaDrr6
namespace Go.Proofs.Ytdhmopmfnnlhcaa
open Go Go.RowKit

theorem nilIs_ok (z : Int) (w0 : World) : Fn Try.prog 24 [.pointer none, .int .i64 z] w0 fun v w' => v = .bool (decide False) ∧ w' = w0 := by
  have M := Mem.refl w0
  obtain ⟨w, hw⟩ : ∃ w, w = w0 := ⟨w0, rfl⟩
  refine Fn.enter Try.func24 rfl Try.ntmps24 rfl ?_
  refine W.sub [(0, _), (1, _)] (.cons rfl (.cons rfl .nil)) ?_
  refine W.seq ?_
  refine W.region ?_
  refine WL.assign rfl rfl ?_
  refine WL.nil ?_
  refine WX.next ?_
  refine W.sub [(0, _), (1, _)] (.cons rfl (.cons rfl .nil)) ?_
  refine W.seq ?_
  refine W.region ?_
  refine WL.move rfl rfl ?_
  refine WL.neNilF Try.underlying24 rfl rfl rfl ?_
  refine WL.move rfl rfl ?_
  refine WL.off rfl rfl rfl rfl ?_
  refine WL.off rfl rfl rfl rfl ?_
  refine WL.pickF rfl rfl rfl ?_
  refine WL.move rfl rfl ?_
  refine WL.off rfl rfl rfl rfl ?_
  refine WL.off rfl rfl rfl rfl ?_
  refine WL.off rfl rfl rfl rfl ?_
  refine WL.off rfl rfl rfl rfl ?_
  refine WL.off rfl rfl rfl rfl ?_
  refine WL.off rfl rfl rfl rfl ?_
  refine WL.off rfl rfl rfl rfl ?_
  refine WL.pickF rfl rfl rfl ?_
  refine WL.assign rfl rfl ?_
  refine WL.nil ?_
  refine WX.next ?_
  refine W.sub [(4, _)] (.cons rfl .nil) ?_
  refine W.ret ?_
  refine WX.ret1 rfl rfl ?_
  exact ⟨by first | rfl | simp, rfl⟩
theorem nilLen_ok (z : Int) (w0 : World) : Fn Try.prog 22 [.pointer none, .int .i64 z] w0 fun v w' => v = .int .i64 0 ∧ w' = w0 := by
  have M := Mem.refl w0
  obtain ⟨w, hw⟩ : ∃ w, w = w0 := ⟨w0, rfl⟩
  refine Fn.enter Try.func22 rfl Try.ntmps22 rfl ?_
  refine W.sub [(0, _), (1, _)] (.cons rfl (.cons rfl .nil)) ?_
  refine W.seq ?_
  refine W.region ?_
  refine WL.assign rfl rfl ?_
  refine WL.nil ?_
  refine WX.next ?_
  refine W.sub [(0, _), (1, _)] (.cons rfl (.cons rfl .nil)) ?_
  refine W.seq ?_
  refine W.seq ?_
  refine W.region ?_
  refine WL.move rfl rfl ?_
  refine WL.move rfl rfl ?_
  refine WL.call Try.call24 rfl (nilIs_ok z _) rfl ?_
  rintro _ _ ⟨rfl, rfl⟩
  refine WL.not rfl rfl ?_
  refine WL.nil ?_
  refine WX.next ?_
  refine W.sub [(0, _), (1, _), (8, _)] (.cons rfl (.cons rfl (.cons rfl .nil))) ?_
  refine W.cond rfl (fun c0 => ?_) (fun c0 => ?_)
  · (try simp only [Bool.not_eq_true'] at c0); (try simp only [Bool.not_eq_false'] at c0); (try simp only [decide_eq_true_eq] at c0); (try simp only [decide_eq_false_iff_not] at c0)
    refine W.seq ?_
    refine W.region ?_
    refine WL.assign rfl rfl ?_
    refine WL.nil ?_
    refine WX.next ?_
    refine W.sub [(4, _)] (.cons rfl .nil) ?_
    refine W.ret ?_
    refine WX.thenRet ?_
    refine WX.ret1 rfl rfl ?_
    exact ⟨rfl, rfl⟩
  · (try simp only [Bool.not_eq_true'] at c0); (try simp only [Bool.not_eq_false'] at c0); (try simp only [decide_eq_true_eq] at c0); (try simp only [decide_eq_false_iff_not] at c0)
    skip
theorem nilCredit_ok (z : Int) (w0 : World) : Fn Try.prog 14 [.pointer none, .int .i64 z] w0 fun v w' => v = .int .i64 0 ∧ w' = w0 := by
  have M := Mem.refl w0
  obtain ⟨w, hw⟩ : ∃ w, w = w0 := ⟨w0, rfl⟩
  refine Fn.enter Try.func14 rfl Try.ntmps14 rfl ?_
  refine W.sub [(0, _), (1, _)] (.cons rfl (.cons rfl .nil)) ?_
  refine W.seq ?_
  refine W.region ?_
  refine WL.assign rfl rfl ?_
  refine WL.nil ?_
  refine WX.next ?_
  refine W.sub [(0, _), (1, _)] (.cons rfl (.cons rfl .nil)) ?_
  refine W.seq ?_
  refine W.seq ?_
  refine W.region ?_
  refine WL.move rfl rfl ?_
  refine WL.move rfl rfl ?_
  refine WL.call Try.call24 rfl (nilIs_ok z _) rfl ?_
  rintro _ _ ⟨rfl, rfl⟩
  refine WL.not rfl rfl ?_
  refine WL.nil ?_
  refine WX.next ?_
  refine W.sub [(0, _), (1, _), (8, _)] (.cons rfl (.cons rfl (.cons rfl .nil))) ?_
  refine W.cond rfl (fun c0 => ?_) (fun c0 => ?_)
  · (try simp only [Bool.not_eq_true'] at c0); (try simp only [Bool.not_eq_false'] at c0); (try simp only [decide_eq_true_eq] at c0); (try simp only [decide_eq_false_iff_not] at c0)
    refine W.seq ?_
    refine W.region ?_
    refine WL.assign rfl rfl ?_
    refine WL.nil ?_
    refine WX.next ?_
    refine W.sub [(4, _)] (.cons rfl .nil) ?_
    refine W.ret ?_
    refine WX.thenRet ?_
    refine WX.ret1 rfl rfl ?_
    exact ⟨rfl, rfl⟩
  · (try simp only [Bool.not_eq_true'] at c0); (try simp only [Bool.not_eq_false'] at c0); (try simp only [decide_eq_true_eq] at c0); (try simp only [decide_eq_false_iff_not] at c0)
    skip
theorem nilTurn_ok (w0 : World) : Fn Try.prog 15 [.pointer none] w0 fun v w' => v = .int .i64 (-1) ∧ w' = w0 := by
  have M := Mem.refl w0
  obtain ⟨w, hw⟩ : ∃ w, w = w0 := ⟨w0, rfl⟩
  refine Fn.enter Try.func15 rfl Try.ntmps15 rfl ?_
  refine W.sub [(0, _)] (.cons rfl .nil) ?_
  refine W.seq ?_
  refine W.region ?_
  refine WL.assign rfl rfl ?_
  refine WL.nil ?_
  refine WX.next ?_
  refine W.sub [(0, _)] (.cons rfl .nil) ?_
  refine W.seq ?_
  refine W.seq ?_
  refine W.region ?_
  refine WL.move rfl rfl ?_
  refine WL.eqNilT Try.underlying24 rfl rfl rfl ?_
  refine WL.move rfl rfl ?_
  refine WL.off rfl rfl rfl rfl ?_
  refine WL.off rfl rfl rfl rfl ?_
  refine WL.off rfl rfl rfl rfl ?_
  refine WL.off rfl rfl rfl rfl ?_
  refine WL.off rfl rfl rfl rfl ?_
  refine WL.pickT rfl rfl rfl ?_
  refine WL.nil ?_
  refine WX.next ?_
  refine W.sub [(0, _), (11, _)] (.cons rfl (.cons rfl .nil)) ?_
  refine W.condT rfl ?_
  refine W.seq ?_
  refine W.region ?_
  refine WL.assign rfl rfl ?_
  refine WL.nil ?_
  refine WX.next ?_
  refine W.sub [(2, _)] (.cons rfl .nil) ?_
  refine W.ret ?_
  refine WX.thenRet ?_
  refine WX.ret1 rfl rfl ?_
  exact ⟨rfl, rfl⟩
theorem nilPush_ok (j : JX) (w0 : World) : Fn Try.prog 12 [.pointer none, j.v] w0 fun v w' => v = .int .i64 1 ∧ Mem w0 w' [] := by
  have M := Mem.refl w0
  obtain ⟨w, hw⟩ : ∃ w, w = w0 := ⟨w0, rfl⟩
  obtain ⟨jf, jc, ji⟩ := j
  unfold JX.v
  refine Fn.enter Try.func12 rfl Try.ntmps12 rfl ?_
  refine W.sub [(0, _), (1, _)] (.cons rfl (.cons rfl .nil)) ?_
  refine W.seq ?_
  refine W.region ?_
  refine WL.box rfl M rfl ?_
  intro g0_0 w M
  try simp only [Value.cells] at M
  try simp only [List.toList_toArray] at M
  refine WL.assign rfl rfl ?_
  refine WL.nil ?_
  refine WX.next ?_
  refine W.sub [(0, _), (3, _)] (.cons rfl (.cons rfl .nil)) ?_
  refine W.seq ?_
  refine W.block ?_
  refine W.seq ?_
  refine W.region ?_
  refine WL.move rfl rfl ?_
  refine WL.eqNilT Try.underlying24 rfl rfl rfl ?_
  refine WL.assign rfl rfl ?_
  refine WL.nil ?_
  refine WX.next ?_
  refine W.sub [(0, _), (3, _), (6, _)] (.cons rfl (.cons rfl (.cons rfl .nil))) ?_
  refine W.condT rfl ?_
  refine W.seq ?_
  refine W.region ?_
  refine WL.assign rfl rfl ?_
  refine WL.nil ?_
  refine WX.next ?_
  refine W.sub [(4, _)] (.cons rfl .nil) ?_
  refine W.ret ?_
  refine WX.blockRet ?_
  refine WX.thenRet ?_
  refine WX.ret1 rfl rfl ?_
  exact ⟨rfl, M.sel (by first | ((repeat (first | with_reducible exact Sel.refl | with_reducible exact Sel.nil | with_reducible exact Del.here | with_reducible apply Del.there | with_reducible apply Sel.cons | with_reducible apply Sel.drop)); done) | (repeat (first | exact Sel.refl | exact Sel.nil | exact Del.here | apply Del.there | apply Sel.cons | apply Sel.drop)))⟩
set_option maxRecDepth 10000 in
theorem nilPop_ok (w0 : World) : Fn Try.prog 13 [.pointer none] w0 fun v w' => v = .tuple #[JX.v ⟨0, 0, 0⟩, .bool false] ∧ Mem w0 w' [] := by
  have M := Mem.refl w0
  obtain ⟨w, hw⟩ : ∃ w, w = w0 := ⟨w0, rfl⟩
  refine Fn.enter Try.func13 rfl Try.ntmps13 rfl ?_
  refine W.sub [(0, _)] (.cons rfl .nil) ?_
  refine W.seq ?_
  refine W.region ?_
  refine WL.alloc Try.zeroValue31 M rfl ?_
  intro g0_0 w M
  try simp only [Value.cells] at M
  try simp only [List.toList_toArray] at M
  refine WL.assign rfl rfl ?_
  refine WL.nil ?_
  refine WX.next ?_
  refine W.sub [(0, _), (2, _)] (.cons rfl (.cons rfl .nil)) ?_
  refine W.seq ?_
  refine W.seq ?_
  refine W.region ?_
  refine WL.move rfl rfl ?_
  refine WL.eqNilT Try.underlying24 rfl rfl rfl ?_
  refine WL.move rfl rfl ?_
  refine WL.off rfl rfl rfl rfl ?_
  refine WL.off rfl rfl rfl rfl ?_
  refine WL.off rfl rfl rfl rfl ?_
  refine WL.off rfl rfl rfl rfl ?_
  refine WL.off rfl rfl rfl rfl ?_
  refine WL.pickT rfl rfl rfl ?_
  refine WL.nil ?_
  refine WX.next ?_
  refine W.sub [(0, _), (2, _), (15, _)] (.cons rfl (.cons rfl (.cons rfl .nil))) ?_
  refine W.condT rfl ?_
  refine W.seq ?_
  refine W.region ?_
  refine WL.buildP (places := #[(0, 1), (1, 1), (2, 1)]) Try.underlying31 Try.zeroValue31 (fun _ => by simp [Try.sizeOf3, Try.sizeOf3, Try.sizeOf29]) rfl (by repeat (first | exact Puts.nil | exact SetAt.zero | apply SetAt.succ | apply Puts.cons rfl rfl)) rfl ?_
  refine WL.storeWA Try.sizeOf31 rfl rfl (by repeat (first | exact oneNil | refine oneCons rfl ?_)) rfl rfl M (by first | ((repeat (first | with_reducible exact Upd.here | with_reducible apply Upd.there)); done) | (repeat (first | exact Upd.here | apply Upd.there))) ?_
  intro w M
  refine WL.assign rfl rfl ?_
  refine WL.nil ?_
  refine WX.next ?_
  refine W.sub [(2, _), (3, _)] (.cons rfl (.cons rfl .nil)) ?_
  refine W.ret ?_
  refine WX.thenRet ?_
  refine WX.retC2 (cs := [_, _, _]) rfl rfl rfl Try.isAgg31 (by exact Try.sizeOf31) (M.cellsH (by first | ((repeat (first | with_reducible exact Has.here | with_reducible refine Has.there ?_)); done) | (repeat (first | exact Has.here | refine Has.there ?_)))) ?_
  exact ⟨rfl, M.sel (by first | ((repeat (first | with_reducible exact Sel.refl | with_reducible exact Sel.nil | with_reducible exact Del.here | with_reducible apply Del.there | with_reducible apply Sel.cons | with_reducible apply Sel.drop)); done) | (repeat (first | exact Sel.refl | exact Sel.nil | exact Del.here | apply Del.there | apply Sel.cons | apply Sel.drop)))⟩

/-- The examples' states. -/
def kP : Nat → Sd
  | 0 => newS [10, 5]
  | i + 1 => pushS (pushS (kP i) ⟨0, 10, 0⟩) ⟨1, 5, 0⟩
def kQ : Nat → Sd
  | 0 => kP 3
  | i + 1 => popS (kQ i)
theorem kQ_says : ∀ i, i < 6 → nJ (kQ i).fl ≠ 0 ∧ (popJ (kQ i)).flow = ((i % 2 : Nat) : Int) := by decide +kernel
theorem kQ_end : nJ (kQ 6).fl = 0 ∧ nJ (pushS (kQ 6) ⟨0, 25, 9⟩).fl ≠ 0 ∧ (popJ (pushS (kQ 6) ⟨0, 25, 9⟩)).id = 9 ∧ (el (popS (pushS (kQ 6) ⟨0, 25, 9⟩)).fl 0).credit = 0 ∧ (popS (pushS (kQ 6) ⟨0, 25, 9⟩)).on = false ∧ (popS (pushS (kQ 6) ⟨0, 25, 9⟩)).fl.length = 2 := by decide +kernel
theorem good105 : ¬ badL [10, 5] := by unfold badL; decide
theorem bad0 : badL [] := by unfold badL; decide

set_option maxRecDepth 10000 in
set_option maxHeartbeats 2000000 in
theorem known21_ok (w0 : World) : Fn Try.prog 16 [] w0 fun v w' => v = .bool (decide True) ∧ Mem w0 w' [] := by
  have M := Mem.refl w0
  obtain ⟨w, hw⟩ : ∃ w, w = w0 := ⟨w0, rfl⟩
  refine Fn.enter Try.func16 rfl Try.ntmps16 rfl ?_
  refine W.sub [] .nil ?_
  refine W.seq ?_
  refine W.region ?_
  refine WL.assign rfl rfl ?_
  refine WL.nil ?_
  refine WX.next ?_
  refine W.sub [] .nil ?_
  refine W.seq ?_
  refine W.region ?_
  refine WL.buildL (E := intE) (l := [10, 5]) Try.elem3 M rfl rfl rfl rfl rfl rfl ?_
  intro g1_0 w M
  refine WL.call Try.call17 rfl (New_ok (l := [10, 5]) (by first | with_reducible assumption | with_reducible exact RdL.mem (by with_reducible assumption) M | exact M.rdL (by first | ((repeat (first | with_reducible exact Has.here | with_reducible refine Has.there ?_)); done) | (repeat (first | exact Has.here | refine Has.there ?_))) | exact RdLH.at (by assumption) (M.sel (by first | ((repeat (first | with_reducible exact Sel.refl | with_reducible exact Sel.nil | with_reducible exact Del.here | with_reducible apply Del.there | with_reducible apply Sel.cons | with_reducible apply Sel.drop)); done) | (repeat (first | exact Sel.refl | exact Sel.nil | exact Del.here | apply Del.there | apply Sel.cons | apply Sel.drop)))) | exact RdL.nil _ _ _) (by simp)) rfl ?_
  rintro _ w h
  obtain ⟨x, rfl, hxs, hxo, m⟩ : ∃ x : SdX, _ = Value.tuple #[.pointer (some ⟨x.g, 0, none⟩), .int .i64 0] ∧ x.s = newS [10, 5] ∧ x.ok ∧ Mem _ w x.L := by
    rcases h with ⟨hb, _⟩ | ⟨_, h⟩
    · exact absurd hb good105
    · exact h
  replace M := M.callN m; clear m
  refine WL.move rfl rfl ?_
  refine WL.extractL rfl rfl rfl ?_
  refine WL.extractL rfl rfl rfl ?_
  refine WL.assign rfl rfl ?_
  refine WL.assign rfl rfl ?_
  refine WL.nil ?_
  refine WX.next ?_
  refine W.sub [(1, _), (2, _)] (.cons rfl (.cons rfl .nil)) ?_
  refine W.seq ?_
  refine W.seq ?_
  refine W.region ?_
  refine WL.move rfl rfl ?_
  refine WL.neI rfl rfl rfl ?_
  refine WL.moveIf rfl rfl (fun c0 => ?_) (fun c0 => ?_)
  · exact absurd rfl c0
  · refine WL.on rfl rfl ?_
    refine WL.move rfl rfl ?_
    refine WL.on rfl rfl ?_
    refine WL.eqNilF Try.underlying24 rfl rfl rfl ?_
    refine WL.pickF rfl rfl rfl ?_
    refine WL.nil ?_
    refine WX.next ?_
    refine W.sub [(1, _), (23, _)] (.cons rfl (.cons rfl .nil)) ?_
    refine W.condF rfl ?_
    refine W.skip ?_
    refine WX.next ?_
    refine W.seq ?_
    refine W.seq ?_
    refine W.region ?_
    refine WL.assign rfl rfl ?_
    refine WL.nil ?_
    refine WX.next ?_
    refine W.sub [(1, _), (3, _)] (.cons rfl (.cons rfl .nil)) ?_
    refine W.block ?_
    refine W.loop (ι := Nat × SdX) (fun z => [(1, .pointer (some ⟨z.2.g, 0, none⟩)), (3, .int .i64 (z.1 : Int))]) (fun zz w => Mem w0 w ((fun z => z.2.L ++ []) zz) ∧ (fun z => z.1 ≤ 3 ∧ z.2.ok ∧ z.2.s = kP z.1) zz) (fun z => 3 - z.1) ((0, x)) (by (repeat' (first | exact envSub.nil | refine envSub.cons ?_ ?_)) <;> first | rfl | (refine congrArg some ?_; refine congrArg (Value.int _) ?_; first | omega | (dsimp only; omega)) | (simp; done) | (refine congrArg some ?_; dsimp only; congr 1; omega) | (simp; omega)) ⟨M.sel (by first | ((repeat (first | with_reducible exact Sel.refl | with_reducible exact Sel.nil | with_reducible exact Del.here | with_reducible apply Del.there | with_reducible apply Sel.cons | with_reducible apply Sel.drop)); done) | (repeat (first | exact Sel.refl | exact Sel.nil | exact Del.here | apply Del.there | apply Sel.cons | apply Sel.drop))), ⟨by simp, hxo, hxs⟩⟩ ?_
    clear M; rintro (⟨i, x⟩) w ⟨M, ⟨hi, hxo, hxs⟩⟩; dsimp only at M hi hxo hxs ⊢
    refine W.sub [(1, _), (3, _)] (.cons rfl (.cons rfl .nil)) ?_
    refine W.seq ?_
    refine W.seq ?_
    refine W.region ?_
    refine WL.move rfl rfl ?_
    refine WL.lss rfl rfl rfl ?_
    refine WL.nil ?_
    refine WX.next ?_
    refine W.sub [(1, _), (3, _), (25, _)] (.cons rfl (.cons rfl (.cons rfl .nil))) ?_
    refine W.ite rfl (fun c2 => ?_) (fun c2 => ?_)
    · refine W.skip ?_
      refine WX.next ?_
      refine W.seq ?_
      refine W.block ?_
      refine W.seq ?_
      refine W.region ?_
      refine WL.move rfl rfl ?_
      refine WL.buildP (places := #[(0, 1), (1, 1), (2, 1)]) Try.underlying31 Try.zeroValue31 (fun _ => by simp [Try.sizeOf3, Try.sizeOf3, Try.sizeOf29]) rfl (by repeat (first | exact Puts.nil | exact SetAt.zero | apply SetAt.succ | apply Puts.cons rfl rfl)) rfl ?_
      refine WL.call Try.call12 rfl (Push1_ok x hxo ⟨0, 10, 0⟩ w0 w [] M) rfl ?_
      rintro _ w ⟨x1, rfl, hg1, hs1, ho1, M⟩
      rw [hg1]
      refine WL.nil ?_
      refine WX.next ?_
      refine W.sub [(1, _), (3, _)] (.cons rfl (.cons rfl .nil)) ?_
      refine W.region ?_
      refine WL.move rfl rfl ?_
      refine WL.buildP (places := #[(0, 1), (1, 1), (2, 1)]) Try.underlying31 Try.zeroValue31 (fun _ => by simp [Try.sizeOf3, Try.sizeOf3, Try.sizeOf29]) rfl (by repeat (first | exact Puts.nil | exact SetAt.zero | apply SetAt.succ | apply Puts.cons rfl rfl)) rfl ?_
      refine WL.call Try.call12 rfl (Push1_ok x1 ho1 ⟨1, 5, 0⟩ w0 w [] M) rfl ?_
      rintro _ w ⟨x2, rfl, hg2, hs2, ho2, M⟩
      rw [hg2]
      rw [hs1, hxs] at hs2
      refine WL.nil ?_
      refine WX.blockNormal ?_
      refine WX.next ?_
      refine W.sub [(1, _), (3, _)] (.cons rfl (.cons rfl .nil)) ?_
      refine W.region ?_
      refine WL.move rfl rfl ?_
      refine WL.add rfl rfl (by first | exact wI64 (by omega) | rfl) rfl ?_
      refine WL.assign rfl rfl ?_
      refine WL.nil ?_
      refine WX.round ((i + 1, x2)) (by (repeat' (first | exact envSub.nil | refine envSub.cons ?_ ?_)) <;> first | rfl | (refine congrArg some ?_; refine congrArg (Value.int _) ?_; first | omega | (dsimp only; omega)) | (simp; done) | (refine congrArg some ?_; dsimp only; congr 1; omega) | (simp; omega)) ⟨M.sel (by first | ((repeat (first | with_reducible exact Sel.refl | with_reducible exact Sel.nil | with_reducible exact Del.here | with_reducible apply Del.there | with_reducible apply Sel.cons | with_reducible apply Sel.drop)); done) | (repeat (first | exact Sel.refl | exact Sel.nil | exact Del.here | apply Del.there | apply Sel.cons | apply Sel.drop))), ⟨by dsimp only; omega, ho2, hs2⟩⟩ (by first | omega | (dsimp only; omega))
    · refine W.exit ?_
      refine WX.thenExit ?_
      refine WX.thenExit ?_
      refine WX.blockHere ?_
      refine WX.next ?_
      refine W.seq ?_
      refine W.seq ?_
      obtain rfl : i = 3 := by omega
      refine W.region ?_
      refine WL.assign rfl rfl ?_
      refine WL.nil ?_
      refine WX.next ?_
      refine W.sub [(1, _), (4, _)] (.cons rfl (.cons rfl .nil)) ?_
      refine W.block ?_
      refine W.loop (ι := Nat × SdX) (fun z => [(1, .pointer (some ⟨z.2.g, 0, none⟩)), (4, .int .i64 (z.1 : Int))]) (fun zz w => Mem w0 w ((fun z => z.2.L ++ []) zz) ∧ (fun z => z.1 ≤ 6 ∧ z.2.ok ∧ z.2.s = kQ z.1) zz) (fun z => 6 - z.1) ((0, x)) (by (repeat' (first | exact envSub.nil | refine envSub.cons ?_ ?_)) <;> first | rfl | (refine congrArg some ?_; refine congrArg (Value.int _) ?_; first | omega | (dsimp only; omega)) | (simp; done) | (refine congrArg some ?_; dsimp only; congr 1; omega) | (simp; omega)) ⟨M.sel (by first | ((repeat (first | with_reducible exact Sel.refl | with_reducible exact Sel.nil | with_reducible exact Del.here | with_reducible apply Del.there | with_reducible apply Sel.cons | with_reducible apply Sel.drop)); done) | (repeat (first | exact Sel.refl | exact Sel.nil | exact Del.here | apply Del.there | apply Sel.cons | apply Sel.drop))), ⟨by simp, hxo, hxs⟩⟩ ?_
      clear M; rintro (⟨j, x⟩) w ⟨M, ⟨hj, hxo, hxs⟩⟩; dsimp only at M hj hxo hxs ⊢
      refine W.sub [(1, _), (4, _)] (.cons rfl (.cons rfl .nil)) ?_
      refine W.seq ?_
      refine W.seq ?_
      refine W.region ?_
      refine WL.move rfl rfl ?_
      refine WL.lss rfl rfl rfl ?_
      refine WL.nil ?_
      refine WX.next ?_
      refine W.sub [(1, _), (4, _), (35, _)] (.cons rfl (.cons rfl (.cons rfl .nil))) ?_
      refine W.ite rfl (fun c3 => ?_) (fun c3 => ?_)
      · have hk := kQ_says j (by omega)
        rw [← hxs] at hk
        refine W.skip ?_
        refine WX.next ?_
        refine W.seq ?_
        refine W.block ?_
        refine W.seq ?_
        refine W.region ?_
        refine WL.move rfl rfl ?_
        refine WL.call Try.call13 rfl (Pop1_ok x hxo hk.1 w0 w [] M) rfl ?_
        rintro _ w ⟨x1, rfl, hg1, hs1, ho1, M⟩
        rw [hg1]
        rw [hxs] at hs1
        unfold JX.v
        refine WL.move rfl rfl ?_
        refine WL.extractL rfl rfl rfl ?_
        refine WL.extractL rfl rfl rfl ?_
        refine WL.alloc Try.zeroValue31 M rfl ?_
        intro g12_5 w M
        try simp only [Value.cells] at M
        try simp only [List.toList_toArray] at M
        refine WL.storeWA Try.sizeOf31 rfl rfl (by repeat (first | exact oneNil | refine oneCons rfl ?_)) rfl rfl M (by first | ((repeat (first | with_reducible exact Upd.here | with_reducible apply Upd.there)); done) | (repeat (first | exact Upd.here | apply Upd.there))) ?_
        intro w M
        refine WL.assign rfl rfl ?_
        refine WL.nil ?_
        refine WX.next ?_
        refine W.sub [(1, _), (4, _), (5, _), (6, _)] (.cons rfl (.cons rfl (.cons rfl (.cons rfl .nil)))) ?_
        refine W.seq ?_
        refine W.region ?_
        refine WL.move rfl rfl ?_
        refine WL.not rfl rfl ?_
        refine WL.moveIfB rfl rfl (fun c4 => ?_) (fun c4 => ?_)
        · exact absurd c4 (by decide)
        · refine WL.on rfl rfl ?_
          refine WL.fieldR (off := 0) Try.underlying31 rfl rfl Try.sizeOf3 rfl rfl rfl ?_
          refine WL.on rfl rfl ?_
          refine WL.loadR Try.isAgg3 rfl M (by first | ((repeat (first | with_reducible exact Has.here | with_reducible refine Has.there ?_)); done) | (repeat (first | exact Has.here | refine Has.there ?_))) rfl rfl ?_
          refine WL.on rfl rfl ?_
          refine WL.move rfl rfl ?_
          refine WL.on rfl rfl ?_
          refine WL.rem rfl rfl (by omega) (remN (by omega)) rfl ?_
          refine WL.on rfl rfl ?_
          refine WL.neI rfl rfl rfl ?_
          refine WL.pickF rfl rfl rfl ?_
          refine WL.nil ?_
          refine WX.next ?_
          refine W.sub [(1, _), (4, _), (51, _)] (.cons rfl (.cons rfl (.cons rfl .nil))) ?_
          refine W.ite rfl (fun c5 => ?_) (fun c5 => ?_)
          · exact absurd (by rw [hk.2]; omega) c5
          · refine W.skip ?_
            refine WX.blockNormal ?_
            refine WX.next ?_
            refine W.region ?_
            refine WL.move rfl rfl ?_
            refine WL.add rfl rfl (by first | exact wI64 (by omega) | rfl) rfl ?_
            refine WL.assign rfl rfl ?_
            refine WL.nil ?_
            refine WX.round ((j + 1, x1)) (by (repeat' (first | exact envSub.nil | refine envSub.cons ?_ ?_)) <;> first | rfl | (refine congrArg some ?_; refine congrArg (Value.int _) ?_; first | omega | (dsimp only; omega)) | (simp; done) | (refine congrArg some ?_; dsimp only; congr 1; omega) | (simp; omega)) ⟨M.sel (by first | ((repeat (first | with_reducible exact Sel.refl | with_reducible exact Sel.nil | with_reducible exact Del.here | with_reducible apply Del.there | with_reducible apply Sel.cons | with_reducible apply Sel.drop)); done) | (repeat (first | exact Sel.refl | exact Sel.nil | exact Del.here | apply Del.there | apply Sel.cons | apply Sel.drop))), ⟨by dsimp only; omega, ho1, hs1⟩⟩ (by first | omega | (dsimp only; omega))
      · refine W.exit ?_
        refine WX.thenExit ?_
        refine WX.thenExit ?_
        refine WX.blockHere ?_
        refine WX.next ?_
        refine W.seq ?_
        obtain rfl : j = 6 := by omega
        have hke := kQ_end
        rw [← hxs] at hke
        refine W.region ?_
        refine WL.move rfl rfl ?_
        refine WL.call Try.call13 rfl (Pop0_ok x hxo hke.1 w0 w [] M) rfl ?_
        rintro _ w ⟨rfl, M⟩
        unfold JX.v
        refine WL.move rfl rfl ?_
        refine WL.extractL rfl rfl rfl ?_
        refine WL.extractL rfl rfl rfl ?_
        refine WL.alloc Try.zeroValue31 M rfl ?_
        intro g15_5 w M
        try simp only [Value.cells] at M
        try simp only [List.toList_toArray] at M
        refine WL.storeWA Try.sizeOf31 rfl rfl (by repeat (first | exact oneNil | refine oneCons rfl ?_)) rfl rfl M (by first | ((repeat (first | with_reducible exact Upd.here | with_reducible apply Upd.there)); done) | (repeat (first | exact Upd.here | apply Upd.there))) ?_
        intro w M
        refine WL.assign rfl rfl ?_
        refine WL.nil ?_
        refine WX.next ?_
        refine W.sub [(1, _), (8, _)] (.cons rfl (.cons rfl .nil)) ?_
        refine W.seq ?_
        refine W.region ?_
        refine WL.move rfl rfl ?_
        refine WL.buildP (places := #[(0, 1), (1, 1), (2, 1)]) Try.underlying31 Try.zeroValue31 (fun _ => by simp [Try.sizeOf3, Try.sizeOf3, Try.sizeOf29]) rfl (by repeat (first | exact Puts.nil | exact SetAt.zero | apply SetAt.succ | apply Puts.cons rfl rfl)) rfl ?_
        refine WL.call Try.call12 rfl (Push1_ok x hxo ⟨0, 25, 9⟩ w0 w _ (M.sel (K := x.L ++ []) (by first | ((repeat (first | with_reducible exact Sel.refl | with_reducible exact Sel.nil | with_reducible exact Del.here | with_reducible apply Del.there | with_reducible apply Sel.cons | with_reducible apply Sel.drop)); done) | (repeat (first | exact Sel.refl | exact Sel.nil | exact Del.here | apply Del.there | apply Sel.cons | apply Sel.drop))))) rfl ?_
        rintro _ w ⟨x1, rfl, hg1, hs1, ho1, M⟩
        rw [hg1]
        rw [← hs1] at hke
        refine WL.nil ?_
        refine WX.next ?_
        refine W.sub [(1, _), (8, _)] (.cons rfl (.cons rfl .nil)) ?_
        refine W.seq ?_
        refine W.region ?_
        refine WL.move rfl rfl ?_
        refine WL.call Try.call13 rfl (Pop1_ok x1 ho1 hke.2.1 w0 w [] M) rfl ?_
        rintro _ w ⟨x2, rfl, hg2, hs2, ho2, M⟩
        rw [hg2]
        rw [← hs2] at hke
        unfold JX.v
        obtain ⟨_, _, hid, hcr, hon, hle⟩ := hke
        have hfl2 : x2.fw.length = 2 := (show x2.s.fl.length = x2.fw.length by simp [SdX.s]) ▸ hle
        have hcr2 : (el x2.fw 0).credit = 0 := by
          have e : x2.s.fl = x2.fw.map FwX.key := rfl
          rw [e, el_key _ _ (by omega)] at hcr
          exact hcr
        have hon2 : x2.on = false := hon
        refine WL.move rfl rfl ?_
        refine WL.extractL rfl rfl rfl ?_
        refine WL.extractL rfl rfl rfl ?_
        refine WL.alloc Try.zeroValue31 M rfl ?_
        intro g17_5 w M
        try simp only [Value.cells] at M
        try simp only [List.toList_toArray] at M
        refine WL.storeWA Try.sizeOf31 rfl rfl (by repeat (first | exact oneNil | refine oneCons rfl ?_)) rfl rfl M (by first | ((repeat (first | with_reducible exact Upd.here | with_reducible apply Upd.there)); done) | (repeat (first | exact Upd.here | apply Upd.there))) ?_
        intro w M
        refine WL.assign rfl rfl ?_
        refine WL.nil ?_
        refine WX.next ?_
        refine W.sub [(1, _), (8, _), (9, _), (10, _)] (.cons rfl (.cons rfl (.cons rfl (.cons rfl .nil)))) ?_
        refine W.seq ?_
        refine W.region ?_
        refine WL.call Try.call17 rfl (New_ok (l := []) (RdL.nil _ _ _) (by simp)) rfl ?_
        rintro _ w h
        obtain ⟨rfl, m⟩ : _ = Value.tuple #[.pointer none, .int .i64 2] ∧ Mem _ w [] := by
          rcases h with ⟨_, h⟩ | ⟨hb, _⟩
          · exact h
          · exact absurd bad0 hb
        replace M := M.call0 m; clear m
        refine WL.move rfl rfl ?_
        refine WL.extractL rfl rfl rfl ?_
        refine WL.extractL rfl rfl rfl ?_
        refine WL.assign rfl rfl ?_
        refine WL.assign rfl rfl ?_
        refine WL.nil ?_
        refine WX.next ?_
        refine W.sub [(1, _), (8, _), (9, _), (10, _), (12, _)] (.cons rfl (.cons rfl (.cons rfl (.cons rfl (.cons rfl .nil))))) ?_
        refine W.seq ?_
        refine W.region ?_
        refine WL.move rfl rfl ?_
        refine WL.not rfl rfl ?_
        refine WL.moveIfB rfl rfl (fun c6 => ?_) (fun c6 => ?_)
        · refine WL.on rfl rfl ?_
          refine WL.move rfl rfl ?_
          refine WL.pickT rfl rfl rfl ?_
          refine WL.moveIfB rfl rfl (fun c7 => ?_) (fun c7 => ?_)
          · refine WL.on rfl rfl ?_
            refine WL.fieldR (off := 2) Try.underlying31 rfl rfl Try.sizeOf29 rfl rfl rfl ?_
            refine WL.on rfl rfl ?_
            refine WL.loadR Try.isAgg29 rfl M (by first | ((repeat (first | with_reducible exact Has.here | with_reducible refine Has.there ?_)); done) | (repeat (first | exact Has.here | refine Has.there ?_))) rfl rfl ?_
            refine WL.on rfl rfl ?_
            refine WL.eqI rfl rfl rfl ?_
            refine WL.pickT rfl rfl rfl ?_
            refine WL.moveIf rfl rfl (fun c8 => ?_) (fun c8 => ?_)
            · refine WL.on rfl rfl ?_
              refine WL.move rfl rfl ?_
              refine WL.on rfl rfl ?_
              refine WL.call Try.call14 rfl (Credit_ok x2 (by omega) 0 (by omega) w0 _ _ (M.sel (K := x2.L ++ []) (by first | ((repeat (first | with_reducible exact Sel.refl | with_reducible exact Sel.nil | with_reducible exact Del.here | with_reducible apply Del.there | with_reducible apply Sel.cons | with_reducible apply Sel.drop)); done) | (repeat (first | exact Sel.refl | exact Sel.nil | exact Del.here | apply Del.there | apply Sel.cons | apply Sel.drop))))) rfl ?_
              rintro _ _ ⟨rfl, rfl⟩
              rw [hcr2]
              refine WL.on rfl rfl ?_
              refine WL.eqI rfl rfl rfl ?_
              refine WL.pickT rfl rfl rfl ?_
              refine WL.moveIf rfl rfl (fun c9 => ?_) (fun c9 => ?_)
              · refine WL.on rfl rfl ?_
                refine WL.move rfl rfl ?_
                refine WL.on rfl rfl ?_
                refine WL.call Try.call15 rfl (Turn_ok x2 (fun h => by rw [hon2] at h; cases h) w0 _ _ (M.sel (K := x2.L ++ []) (by first | ((repeat (first | with_reducible exact Sel.refl | with_reducible exact Sel.nil | with_reducible exact Del.here | with_reducible apply Del.there | with_reducible apply Sel.cons | with_reducible apply Sel.drop)); done) | (repeat (first | exact Sel.refl | exact Sel.nil | exact Del.here | apply Del.there | apply Sel.cons | apply Sel.drop))))) rfl ?_
                rintro _ _ ⟨rfl, rfl⟩
                rw [hon2]
                refine WL.on rfl rfl ?_
                refine WL.eqI rfl rfl rfl ?_
                refine WL.pickT rfl rfl rfl ?_
                refine WL.moveIf rfl rfl (fun c10 => ?_) (fun c10 => ?_)
                · refine WL.on rfl rfl ?_
                  refine WL.move rfl rfl ?_
                  refine WL.on rfl rfl ?_
                  refine WL.eqI rfl rfl rfl ?_
                  refine WL.pickT rfl rfl rfl ?_
                  refine WL.assign rfl rfl ?_
                  refine WL.nil ?_
                  refine WX.next ?_
                  refine W.sub [(0, _)] (.cons rfl .nil) ?_
                  refine W.ret ?_
                  refine WX.ret1 rfl rfl ?_
                  exact ⟨rfl, M.sel (by first | ((repeat (first | with_reducible exact Sel.refl | with_reducible exact Sel.nil | with_reducible exact Del.here | with_reducible apply Del.there | with_reducible apply Sel.cons | with_reducible apply Sel.drop)); done) | (repeat (first | exact Sel.refl | exact Sel.nil | exact Del.here | apply Del.there | apply Sel.cons | apply Sel.drop)))⟩
                · exact absurd rfl c10
              · exact absurd rfl c9
            · exact absurd (by rw [hid]; rfl) c8
          · exact absurd c7 (by decide)
        · exact absurd c6 (by decide)
end Go.Proofs.Ytdhmopmfnnlhcaa
