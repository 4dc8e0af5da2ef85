/-
  Walks: SameInts; what the examples fix (seawalllaw14).
-/
import Derived.Test.YtmkhggfcgblefaaDoorBeat4
namespace Go.Proofs.YtmkhggfcgblefaaDoor
open Go Go.RowKit Bin

theorem SameInts_ok {A1 : Option Addr} {k1 : Nat} {ps : List Int} {A2 : Option Addr} {k2 : Nat} {qs : List Int} {w0 : World} (h1 : RdL w0 intE A1 k1 ps) (h2 : RdL w0 intE A2 k2 qs) (hl : ps.length ≤ 1000000) :
    Fn Tryd.prog 25 [.slice A1 ps.length k1, .slice A2 qs.length k2] w0 fun v w' => v = .bool (decide (ps = qs)) ∧ Mem w0 w' [] := by
  have M := Mem.refl w0
  obtain ⟨w, hw⟩ : ∃ w, w = w0 := ⟨w0, rfl⟩
  refine Fn.enter Tryd.func25 rfl Tryd.ntmps25 rfl ?_
  refine W.sub [(0, _), (1, _)] (.cons rfl (.cons rfl .nil)) ?_
  refine W.seq ?_
  refine W.region ?_
  refine WL.assign rfl rfl ?_
  refine WL.nil ?_
  refine WX.next ?_
  refine W.sub [(0, _), (1, _)] (.cons rfl (.cons rfl .nil)) ?_
  refine W.seq ?_
  refine W.seq ?_
  refine W.region ?_
  refine WL.move rfl rfl ?_
  refine WL.len Tryd.underlying22 rfl rfl ?_
  refine WL.move rfl rfl ?_
  refine WL.len Tryd.underlying22 rfl rfl ?_
  refine WL.neI rfl rfl rfl ?_
  refine WL.nil ?_
  refine WX.next ?_
  refine W.sub [(0, _), (1, _), (10, _)] (.cons rfl (.cons rfl (.cons rfl .nil))) ?_
  refine W.ite rfl (fun c0 => ?_) (fun c0 => ?_)
  · refine W.seq ?_
    refine W.region ?_
    refine WL.assign rfl rfl ?_
    refine WL.nil ?_
    refine WX.next ?_
    refine W.sub [(4, _)] (.cons rfl .nil) ?_
    refine W.ret ?_
    refine WX.thenRet ?_
    refine WX.ret1 rfl rfl ?_
    exact ⟨by rw [decide_eq_false (fun e => c0 (by rw [e]))], M⟩
  · have hll : ps.length = qs.length := by omega
    refine W.skip ?_
    refine WX.next ?_
    refine W.seq ?_
    refine W.seq ?_
    refine W.region ?_
    refine WL.assign rfl rfl ?_
    refine WL.nil ?_
    refine WX.next ?_
    refine W.sub [(0, _), (1, _), (5, _)] (.cons rfl (.cons rfl (.cons rfl .nil))) ?_
    refine W.block ?_
    refine W.loop (ι := Nat) (fun i => [(0, .slice A1 ps.length k1), (1, .slice A2 qs.length k2), (5, .int .i64 (i : Int))]) (fun zz w => Mem w0 w ((fun _ => []) zz) ∧ (fun i => i ≤ ps.length ∧ ∀ j, j < i → el ps j = el qs j) zz) (fun i => ps.length - i) (0) (by (repeat' (first | exact envSub.nil | refine envSub.cons ?_ ?_)) <;> first | rfl | (refine congrArg some ?_; refine congrArg (Value.int _) ?_; first | omega | (dsimp only; omega)) | (simp; done) | (refine congrArg some ?_; dsimp only; congr 1; omega) | (simp; omega)) ⟨M.sel (by first | ((repeat (first | with_reducible exact Sel.refl | with_reducible exact Sel.nil | with_reducible exact Del.here | with_reducible apply Del.there | with_reducible apply Sel.cons | with_reducible apply Sel.drop)); done) | (repeat (first | exact Sel.refl | exact Sel.nil | exact Del.here | apply Del.there | apply Sel.cons | apply Sel.drop))), ⟨Nat.zero_le _, fun j hj => absurd hj (Nat.not_lt_zero _)⟩⟩ ?_
    clear M; rintro (i) w ⟨M, ⟨hi, hs⟩⟩; dsimp only at M hi hs ⊢
    refine W.sub [(0, _), (1, _), (5, _)] (.cons rfl (.cons rfl (.cons rfl .nil))) ?_
    refine W.seq ?_
    refine W.seq ?_
    refine W.region ?_
    refine WL.move rfl rfl ?_
    refine WL.move rfl rfl ?_
    refine WL.len Tryd.underlying22 rfl rfl ?_
    refine WL.lss rfl rfl rfl ?_
    refine WL.nil ?_
    refine WX.next ?_
    refine W.sub [(0, _), (1, _), (5, _), (14, _)] (.cons rfl (.cons rfl (.cons rfl (.cons rfl .nil)))) ?_
    refine W.ite rfl (fun c1 => ?_) (fun c1 => ?_)
    · refine W.skip ?_
      refine WX.next ?_
      refine W.seq ?_
      refine W.block ?_
      refine W.seq ?_
      refine W.drawM (_) (by kernel_rfl) (fun j => [3, 7].contains j) M Sel.refl ?_
      clear M; intro M
      apply DG.pure_ [0, 1, 2, 4, 5, 6] 3 rfl (by kernel_rfl) (by kernel_rfl)
      · intro w
        refine WL.move rfl rfl ?_
        refine WL.move rfl rfl ?_
        refine WL.idxA Tryd.underlying22 Tryd.sizeOf3 rfl rfl (RdL.isSome (E := intE) (h1.mem M) (by omega)) (by omega) (by omega) (by first | exact rfl | exact (Int.toNat_of_nonneg (by omega)).symm) rfl ?_
        refine WL.move rfl rfl ?_
        refine WL.move rfl rfl ?_
        refine WL.idxA Tryd.underlying22 Tryd.sizeOf3 rfl rfl (RdL.isSome (E := intE) (h2.mem M) (by omega)) (by omega) (by omega) (by first | exact rfl | exact (Int.toNat_of_nonneg (by omega)).symm) rfl ?_
        exact Chain.end_ rfl
      apply DG.take [3, 7, 8] 0 rfl (by kernel_rfl) (by kernel_rfl) (M.sel (by first | ((repeat (first | with_reducible exact Sel.refl | with_reducible exact Sel.nil | with_reducible exact Del.here | with_reducible apply Del.there | with_reducible apply Sel.cons | with_reducible apply Sel.drop)); done) | (repeat (first | exact Sel.refl | exact Sel.nil | exact Del.here | apply Del.there | apply Sel.cons | apply Sel.drop))))
      · intro w M
        refine WL.loadE0 (E := intE) Tryd.isAgg3 rfl (h1.mem M) (by omega) rfl rfl ?_
        refine WL.loadE0 (E := intE) Tryd.isAgg3 rfl (h2.mem M) (by omega) rfl rfl ?_
        refine WL.neI rfl rfl rfl ?_
        exact Chain.end_ rfl
      refine DG.end_ (by kernel_rfl) ?_
      refine WX.next ?_
      refine W.sub [(0, _), (1, _), (5, _), (25, _)] (.cons rfl (.cons rfl (.cons rfl (.cons rfl .nil)))) ?_
      refine W.ite rfl (fun c2 => ?_) (fun c2 => ?_)
      · refine W.seq ?_
        refine W.region ?_
        refine WL.assign rfl rfl ?_
        refine WL.nil ?_
        refine WX.next ?_
        refine W.sub [(4, _)] (.cons rfl .nil) ?_
        refine W.ret ?_
        refine WX.blockRet ?_
        refine WX.thenRet ?_
        refine WX.thenRet ?_
        refine WX.blockRet ?_
        refine WX.thenRet ?_
        refine WX.ret1 rfl rfl ?_
        exact ⟨by rw [decide_eq_false (fun e => c2 (by rw [e]))], M.sel (by first | ((repeat (first | with_reducible exact Sel.refl | with_reducible exact Sel.nil | with_reducible exact Del.here | with_reducible apply Del.there | with_reducible apply Sel.cons | with_reducible apply Sel.drop)); done) | (repeat (first | exact Sel.refl | exact Sel.nil | exact Del.here | apply Del.there | apply Sel.cons | apply Sel.drop)))⟩
      · refine W.skip ?_
        refine WX.blockNormal ?_
        refine WX.next ?_
        refine W.region ?_
        refine WL.move rfl rfl ?_
        refine WL.add rfl rfl (by first | exact wI64 (by omega) | rfl) rfl ?_
        refine WL.assign rfl rfl ?_
        refine WL.nil ?_
        skip
        have q : ∀ j, j < i + 1 → el ps j = el qs j := by
          intro j hj
          rcases Nat.lt_or_ge j i with h | h
          · exact hs j h
          · obtain rfl : j = i := by omega
            exact Classical.not_not.1 c2
        refine WX.round (i + 1) (by (repeat' (first | exact envSub.nil | refine envSub.cons ?_ ?_)) <;> first | rfl | (refine congrArg some ?_; refine congrArg (Value.int _) ?_; first | omega | (dsimp only; omega)) | (simp; done) | (refine congrArg some ?_; dsimp only; congr 1; omega) | (simp; omega)) ⟨M.sel (by first | ((repeat (first | with_reducible exact Sel.refl | with_reducible exact Sel.nil | with_reducible exact Del.here | with_reducible apply Del.there | with_reducible apply Sel.cons | with_reducible apply Sel.drop)); done) | (repeat (first | exact Sel.refl | exact Sel.nil | exact Del.here | apply Del.there | apply Sel.cons | apply Sel.drop))), ⟨by omega, q⟩⟩ (by first | omega | (dsimp only; omega))
    · refine W.exit ?_
      refine WX.thenExit ?_
      refine WX.thenExit ?_
      refine WX.blockHere ?_
      refine WX.next ?_
      refine W.seq ?_
      refine W.region ?_
      refine WL.assign rfl rfl ?_
      refine WL.nil ?_
      refine WX.next ?_
      refine W.sub [(4, _)] (.cons rfl .nil) ?_
      refine W.ret ?_
      refine WX.ret1 rfl rfl ?_
      obtain rfl : i = ps.length := by omega
      have he : ps = qs := by
        apply List.ext_getElem hll
        intro j hj1 hj2
        have := hs j hj1
        simpa [el, hj1, hj2] using this
      exact ⟨by rw [decide_eq_true he], M.sel (by first | ((repeat (first | with_reducible exact Sel.refl | with_reducible exact Sel.nil | with_reducible exact Del.here | with_reducible apply Del.there | with_reducible apply Sel.cons | with_reducible apply Sel.drop)); done) | (repeat (first | exact Sel.refl | exact Sel.nil | exact Del.here | apply Del.there | apply Sel.cons | apply Sel.drop)))⟩
theorem Bv.Ok.hearZ {s : Bv} (h : s.Ok) (z : Int) : (hearZ s z).Ok := by
  unfold Proofs.YtmkhggfcgblefaaDoor.hearZ
  split
  · exact h.hear _
  · exact h
/-- The examples' states. -/
def k0 : Bv := newV [0, 0, 1] 1 2
def k1 : Bv := hearZ k0 2
def k2 : Bv := hearZ k1 0
def k3 : Bv := tickS k2
def k4 : Bv := hearZ k3 0
def k5 : Bv := tickS k4
theorem k0_good : ¬ badV [0, 0, 1] 1 2 := by unfold badV; decide
theorem k0_ok : k0.Ok := newV_ok k0_good
theorem k_says : upN k0 = 2 ∧ hearE k1 0 = 0 ∧ upN k2 = 7 ∧ ordS k2 1 = [2, 0, 1] ∧ upN k5 = 3 ∧ sinceZ k5 2 = 2 ∧ k5.calm = 0 ∧ el (ordS k5 1) 0 = 0 := by decide +kernel
theorem bad_nil : badV [] 0 1 := .inr (.inl (by decide))
theorem Hear_ok2 (a : BvA) (s : Bv) (ok : s.Ok) (z : Int) (w0 w : World) (L : List Asr) (M : Mem w0 w (bvL a s ++ L)) :
    Fn Tryd.prog 15 [.pointer (some ⟨a.g, 0, none⟩), .int .i64 z] w fun v w' => v = .int .i64 (hearE s z) ∧ Mem w0 w' (bvL a (hearZ s z) ++ L) := Hear_ok a s ok.len ok.n.2 z w0 w L M
theorem Tick_ok2 (a : BvA) (s : Bv) (ok : s.Ok) (w0 w : World) (L : List Asr) (M : Mem w0 w (bvL a s ++ L)) :
    Fn Tryd.prog 13 [.pointer (some ⟨a.g, 0, none⟩)] w fun _ w' => Mem w0 w' (bvL a (tickS s) ++ L) := Tick_ok a s ok.len ok.n.2 (by rw [ok.len]; exact ok.me) ok.since ok.pat.2 ok.calm w0 w L M
theorem Up_ok2 (a : BvA) (s : Bv) (ok : s.Ok) (w0 w : World) (L : List Asr) (M : Mem w0 w (bvL a s ++ L)) : Fn Tryd.prog 19 [.pointer (some ⟨a.g, 0, none⟩)] w fun v w' => v = .int .u32 (upN s : Int) ∧ Mem w0 w' (bvL a s ++ L) := Up_ok a s (by rw [ok.len]; exact ok.n.2) w0 w L M
set_option maxHeartbeats 2000000 in
theorem known14_ok (w0 : World) (ht : Tab w0) : Fn Tryd.prog 10 [] w0 fun v w' => v = .bool (decide True) ∧ Mem w0 w' [] := by
  have M := Mem.refl w0
  obtain ⟨w, hw⟩ : ∃ w, w = w0 := ⟨w0, rfl⟩
  obtain ⟨e0, e1, e2, e3, e5, e6, e7, e8⟩ := k_says
  have ok1 : k1.Ok := k0_ok.hearZ 2
  have ok2 : k2.Ok := ok1.hearZ 0
  have ok3 : k3.Ok := ok2.tick
  have ok4 : k4.Ok := ok3.hearZ 0
  have ok5 : k5.Ok := ok4.tick
  refine Fn.enter Tryd.func10 rfl Tryd.ntmps10 rfl ?_
  refine W.sub [] .nil ?_
  refine W.seq ?_
  refine W.region ?_
  refine WL.assign rfl rfl ?_
  refine WL.nil ?_
  refine WX.next ?_
  refine W.sub [] .nil ?_
  refine W.seq ?_
  refine W.region ?_
  refine WL.buildL (E := intE) (l := [0, 0, 1]) Tryd.elem3 M rfl rfl rfl rfl rfl rfl ?_
  intro g1_0 w M
  refine WL.call Tryd.call11 rfl (New_ok (l := [0, 0, 1]) 1 2 (M.rdL (by first | ((repeat (first | with_reducible exact Has.here | with_reducible refine Has.there ?_)); done) | (repeat (first | exact Has.here | refine Has.there ?_)))) (by decide)) rfl ?_
  rintro _ w h
  obtain ⟨a, rfl, m⟩ : ∃ a : BvA, _ = Value.tuple #[.pointer (some ⟨a.g, 0, none⟩), .int .i64 0] ∧ Mem _ w (bvL a k0) := by
    rcases h with ⟨hb, _⟩ | ⟨_, h⟩
    · exact absurd hb k0_good
    · exact h
  have M2 : Mem w0 w (bvL a k0 ++ []) := (M.callN m).sel (by first | ((repeat (first | with_reducible exact Sel.refl | with_reducible exact Sel.nil | with_reducible exact Del.here | with_reducible apply Del.there | with_reducible apply Sel.cons | with_reducible apply Sel.drop)); done) | (repeat (first | exact Sel.refl | exact Sel.nil | exact Del.here | apply Del.there | apply Sel.cons | apply Sel.drop)))
  replace M := M2
  refine WL.move rfl rfl ?_
  refine WL.extractL rfl rfl rfl ?_
  refine WL.extractL rfl rfl rfl ?_
  refine WL.assign rfl rfl ?_
  refine WL.assign rfl rfl ?_
  refine WL.nil ?_
  refine WX.next ?_
  refine W.sub [(1, _), (2, _)] (.cons rfl (.cons rfl .nil)) ?_
  refine W.seq ?_
  refine W.seq ?_
  refine W.region ?_
  refine WL.move rfl rfl ?_
  refine WL.neI rfl rfl rfl ?_
  refine WL.moveIf rfl rfl (fun c0 => ?_) (fun c0 => ?_)
  · exact absurd rfl c0
  · refine WL.on rfl rfl ?_
    refine WL.move rfl rfl ?_
    refine WL.on rfl rfl ?_
    refine WL.eqNilF Tryd.underlying24 rfl rfl rfl ?_
    refine WL.pickF rfl rfl rfl ?_
    refine WL.nil ?_
    refine WX.next ?_
    refine W.sub [(1, _), (20, _)] (.cons rfl (.cons rfl .nil)) ?_
    refine W.condF rfl ?_
    refine W.skip ?_
    refine WX.next ?_
    refine W.seq ?_
    refine W.region ?_
    refine WL.move rfl rfl ?_
    refine WL.call Tryd.call19 rfl (Up_ok2 a k0 k0_ok w0 _ [] M) rfl ?_
    rintro _ w ⟨rfl, M⟩
    rw [e0]
    refine WL.assign rfl rfl ?_
    refine WL.nil ?_
    refine WX.next ?_
    refine W.sub [(1, _), (3, _)] (.cons rfl (.cons rfl .nil)) ?_
    refine W.seq ?_
    refine W.region ?_
    refine WL.move rfl rfl ?_
    refine WL.call Tryd.call15 rfl (Hear_ok2 a k0 k0_ok 2 w0 _ [] M) rfl ?_
    rintro _ w ⟨-, M⟩
    refine WL.nil ?_
    refine WX.next ?_
    refine W.sub [(1, _), (3, _)] (.cons rfl (.cons rfl .nil)) ?_
    refine W.seq ?_
    refine W.region ?_
    refine WL.move rfl rfl ?_
    refine WL.call Tryd.call15 rfl (Hear_ok2 a k1 ok1 0 w0 _ [] M) rfl ?_
    rintro _ w ⟨rfl, M⟩
    rw [e1]
    refine WL.assign rfl rfl ?_
    refine WL.nil ?_
    refine WX.next ?_
    refine W.sub [(1, _), (3, _), (4, _)] (.cons rfl (.cons rfl (.cons rfl .nil))) ?_
    refine W.seq ?_
    refine W.region ?_
    refine WL.move rfl rfl ?_
    refine WL.call Tryd.call19 rfl (Up_ok2 a k2 ok2 w0 _ [] M) rfl ?_
    rintro _ w ⟨rfl, M⟩
    rw [e2]
    refine WL.assign rfl rfl ?_
    refine WL.nil ?_
    refine WX.next ?_
    refine W.sub [(1, _), (3, _), (4, _), (5, _)] (.cons rfl (.cons rfl (.cons rfl (.cons rfl .nil)))) ?_
    refine W.seq ?_
    refine W.region ?_
    refine WL.move rfl rfl ?_
    refine WL.call Tryd.call26 rfl (Leader_ok a k2 ok2 1 w0 _ [] M ht) rfl ?_
    rintro _ w ⟨rfl, M⟩
    rw [e3]
    refine WL.assign rfl rfl ?_
    refine WL.nil ?_
    refine WX.next ?_
    refine W.sub [(1, _), (3, _), (4, _), (5, _), (6, _)] (.cons rfl (.cons rfl (.cons rfl (.cons rfl (.cons rfl .nil))))) ?_
    refine W.seq ?_
    refine W.region ?_
    refine WL.move rfl rfl ?_
    refine WL.call Tryd.call17 rfl (Order_ok a k2 ok2 1 w0 _ [] M ht) rfl ?_
    rintro _ w ⟨B, cB, rfl, M⟩
    rw [e3] at M ⊢
    refine WL.assign rfl rfl ?_
    refine WL.nil ?_
    refine WX.next ?_
    refine W.sub [(1, _), (3, _), (4, _), (5, _), (6, _), (7, _)] (.cons rfl (.cons rfl (.cons rfl (.cons rfl (.cons rfl (.cons rfl .nil)))))) ?_
    refine W.seq ?_
    refine W.region ?_
    refine WL.move rfl rfl ?_
    refine WL.call Tryd.call13 rfl (Tick_ok2 a k2 ok2 w0 _ [Asr.lst intE B cB [2, 0, 1]] (M.sel (K := bvL a k2 ++ [Asr.lst intE B cB [2, 0, 1]]) (by first | ((repeat (first | with_reducible exact Sel.refl | with_reducible exact Sel.nil | with_reducible exact Del.here | with_reducible apply Del.there | with_reducible apply Sel.cons | with_reducible apply Sel.drop)); done) | (repeat (first | exact Sel.refl | exact Sel.nil | exact Del.here | apply Del.there | apply Sel.cons | apply Sel.drop))))) rfl ?_
    intro _ w M
    refine WL.nil ?_
    refine WX.next ?_
    refine W.sub [(1, _), (3, _), (4, _), (5, _), (6, _), (7, _)] (.cons rfl (.cons rfl (.cons rfl (.cons rfl (.cons rfl (.cons rfl .nil)))))) ?_
    refine W.seq ?_
    refine W.region ?_
    refine WL.move rfl rfl ?_
    refine WL.call Tryd.call15 rfl (Hear_ok2 a k3 ok3 0 w0 _ _ M) rfl ?_
    rintro _ w ⟨-, M⟩
    refine WL.nil ?_
    refine WX.next ?_
    refine W.sub [(1, _), (3, _), (4, _), (5, _), (6, _), (7, _)] (.cons rfl (.cons rfl (.cons rfl (.cons rfl (.cons rfl (.cons rfl .nil)))))) ?_
    refine W.seq ?_
    refine W.region ?_
    refine WL.move rfl rfl ?_
    refine WL.call Tryd.call13 rfl (Tick_ok2 a k4 ok4 w0 _ _ M) rfl ?_
    intro _ w M
    refine WL.nil ?_
    refine WX.next ?_
    refine W.sub [(1, _), (3, _), (4, _), (5, _), (6, _), (7, _)] (.cons rfl (.cons rfl (.cons rfl (.cons rfl (.cons rfl (.cons rfl .nil)))))) ?_
    refine W.seq ?_
    refine W.region ?_
    refine WL.call Tryd.call11 rfl (New_ok (l := []) 0 1 (RdL.nil _ _ _) (by decide)) rfl ?_
    rintro _ w h
    obtain ⟨rfl, m⟩ : _ = Value.tuple #[.pointer none, .int .i64 2] ∧ Mem _ w [] := by
      rcases h with ⟨_, h⟩ | ⟨hb, _⟩
      · exact h
      · exact absurd bad_nil hb
    replace M := M.call0 m; clear m
    refine WL.move rfl rfl ?_
    refine WL.extractL rfl rfl rfl ?_
    refine WL.extractL rfl rfl rfl ?_
    refine WL.assign rfl rfl ?_
    refine WL.assign rfl rfl ?_
    refine WL.nil ?_
    refine WX.next ?_
    refine W.sub [(1, _), (3, _), (4, _), (5, _), (6, _), (7, _), (9, _)] (.cons rfl (.cons rfl (.cons rfl (.cons rfl (.cons rfl (.cons rfl (.cons rfl .nil))))))) ?_
    refine W.seq ?_
    refine W.region ?_
    refine WL.move rfl rfl ?_
    refine WL.eqI rfl rfl rfl ?_
    refine WL.moveIf rfl rfl (fun c2 => ?_) (fun c2 => ?_)
    · refine WL.on rfl rfl ?_
      refine WL.move rfl rfl ?_
      refine WL.on rfl rfl ?_
      refine WL.eqI rfl rfl rfl ?_
      refine WL.pickT rfl rfl rfl ?_
      refine WL.moveIf rfl rfl (fun c3 => ?_) (fun c3 => ?_)
      · refine WL.on rfl rfl ?_
        refine WL.move rfl rfl ?_
        refine WL.on rfl rfl ?_
        refine WL.eqI rfl rfl rfl ?_
        refine WL.pickT rfl rfl rfl ?_
        refine WL.moveIf rfl rfl (fun c4 => ?_) (fun c4 => ?_)
        · refine WL.on rfl rfl ?_
          refine WL.move rfl rfl ?_
          refine WL.on rfl rfl ?_
          refine WL.eqI rfl rfl rfl ?_
          refine WL.pickT rfl rfl rfl ?_
          refine WL.moveIf rfl rfl (fun c5 => ?_) (fun c5 => ?_)
          · refine WL.on rfl rfl ?_
            refine WL.move rfl rfl ?_
            refine WL.on rfl rfl ?_
            refine WL.buildL (E := intE) (l := [2, 0, 1]) Tryd.elem3 M rfl rfl rfl rfl rfl rfl ?_
            intro g14_16 w M
            refine WL.on rfl rfl ?_
            refine WL.call Tryd.call25 rfl (SameInts_ok (ps := [2, 0, 1]) (qs := [2, 0, 1]) (M.rdL (by first | ((repeat (first | with_reducible exact Has.here | with_reducible refine Has.there ?_)); done) | (repeat (first | exact Has.here | refine Has.there ?_)))) (M.rdL (by first | ((repeat (first | with_reducible exact Has.here | with_reducible refine Has.there ?_)); done) | (repeat (first | exact Has.here | refine Has.there ?_)))) (by decide)) rfl ?_
            rintro _ w ⟨rfl, m⟩
            replace M := M.call0 m; clear m
            refine WL.pickT rfl rfl rfl ?_
            refine WL.moveIf rfl rfl (fun c6 => ?_) (fun c6 => ?_)
            · refine WL.on rfl rfl ?_
              refine WL.move rfl rfl ?_
              refine WL.on rfl rfl ?_
              refine WL.call Tryd.call19 rfl (Up_ok2 a k5 ok5 w0 _ [] (M.sel (K := bvL a k5 ++ []) (by first | ((repeat (first | with_reducible exact Sel.refl | with_reducible exact Sel.nil | with_reducible exact Del.here | with_reducible apply Del.there | with_reducible apply Sel.cons | with_reducible apply Sel.drop)); done) | (repeat (first | exact Sel.refl | exact Sel.nil | exact Del.here | apply Del.there | apply Sel.cons | apply Sel.drop))))) rfl ?_
              rintro _ w ⟨rfl, M⟩
              rw [e5]
              refine WL.on rfl rfl ?_
              refine WL.eqI rfl rfl rfl ?_
              refine WL.pickT rfl rfl rfl ?_
              refine WL.moveIf rfl rfl (fun c7 => ?_) (fun c7 => ?_)
              · refine WL.on rfl rfl ?_
                refine WL.move rfl rfl ?_
                refine WL.on rfl rfl ?_
                refine WL.call Tryd.call23 rfl (Since_ok a k5 ok5.len 2 w0 _ [] M) rfl ?_
                rintro _ _ ⟨rfl, rfl⟩
                rw [e6]
                refine WL.on rfl rfl ?_
                refine WL.eqI rfl rfl rfl ?_
                refine WL.pickT rfl rfl rfl ?_
                refine WL.moveIf rfl rfl (fun c8 => ?_) (fun c8 => ?_)
                · refine WL.on rfl rfl ?_
                  refine WL.move rfl rfl ?_
                  refine WL.on rfl rfl ?_
                  refine WL.call Tryd.call21 rfl (Calm_ok a k5 w0 _ [] M) rfl ?_
                  rintro _ _ ⟨rfl, rfl⟩
                  rw [e7]
                  refine WL.on rfl rfl ?_
                  refine WL.eqI rfl rfl rfl ?_
                  refine WL.pickT rfl rfl rfl ?_
                  refine WL.moveIf rfl rfl (fun c9 => ?_) (fun c9 => ?_)
                  · refine WL.on rfl rfl ?_
                    refine WL.move rfl rfl ?_
                    refine WL.on rfl rfl ?_
                    refine WL.call Tryd.call26 rfl (Leader_ok a k5 ok5 1 w0 _ [] M ht) rfl ?_
                    rintro _ w ⟨rfl, M⟩
                    rw [e8]
                    refine WL.on rfl rfl ?_
                    refine WL.eqI rfl rfl rfl ?_
                    refine WL.pickT rfl rfl rfl ?_
                    refine WL.moveIf rfl rfl (fun c10 => ?_) (fun c10 => ?_)
                    · refine WL.on rfl rfl ?_
                      refine WL.move rfl rfl ?_
                      refine WL.on rfl rfl ?_
                      refine WL.eqI rfl rfl rfl ?_
                      refine WL.pickT rfl rfl rfl ?_
                      refine WL.assign rfl rfl ?_
                      refine WL.nil ?_
                      refine WX.next ?_
                      refine W.sub [(0, _)] (.cons rfl .nil) ?_
                      refine W.ret ?_
                      refine WX.ret1 rfl rfl ?_
                      exact ⟨rfl, M.sel (.nil)⟩
                    · exact absurd rfl c10
                  · exact absurd rfl c9
                · exact absurd rfl c8
              · exact absurd rfl c7
            · exact absurd rfl c6
          · exact absurd rfl c5
        · exact absurd rfl c4
      · exact absurd rfl c3
    · exact absurd rfl c2
end Go.Proofs.YtmkhggfcgblefaaDoor
