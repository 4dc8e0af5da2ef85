/-
  Walks: the document's pairs (seawallref20: letter, pair, PutTexts); are two lists of pairs the same (seawallref05).
-/
import Derived.Laws.StructEq
import Derived.Test.YtinbcidgdbmcjaaText2
namespace Go.Proofs.Ytinbcidgdbmcjaa
open Go Go.RowKit Go.Lib Bin

theorem letter_ok (c : UInt8) (w0 : World) : Fn Try.prog 60 [.int .u8 (c.toNat : Int)] w0 fun v w' => v = .bool (decide (letterP c)) ∧ w' = w0 := by
  have M := Mem.refl w0
  obtain ⟨w, hw⟩ : ∃ w, w = w0 := ⟨w0, rfl⟩
  have hm : c ∈ ([46, 45, 43, 64, 95] : List UInt8) ↔ (c.toNat = 46 ∨ c.toNat = 45 ∨ c.toNat = 43 ∨ c.toNat = 64 ∨ c.toNat = 95) := by
    simp only [List.mem_cons, List.not_mem_nil, or_false, ← UInt8.toNat_inj]
    exact Iff.rfl
  have hp : letterP c ↔ ((97 ≤ c.toNat ∧ c.toNat ≤ 122) ∨ (65 ≤ c.toNat ∧ c.toNat ≤ 90) ∨ (48 ≤ c.toNat ∧ c.toNat ≤ 57) ∨ (c.toNat = 46 ∨ c.toNat = 45 ∨ c.toNat = 43 ∨ c.toNat = 64 ∨ c.toNat = 95)) := by
    unfold letterP
    rw [hm]
  refine Fn.enter Try.func60 rfl Try.ntmps60 rfl ?_
  refine W.sub [(0, _)] (.cons rfl .nil) ?_
  refine W.seq ?_
  refine W.region ?_
  refine WL.assign rfl rfl ?_
  refine WL.nil ?_
  refine WX.next ?_
  refine W.sub [(0, _)] (.cons rfl .nil) ?_
  refine W.seq ?_
  refine W.seq ?_
  refine W.region ?_
  refine WL.move rfl rfl ?_
  refine WL.nil ?_
  refine WX.next ?_
  refine W.sub [(0, _), (3, _)] (.cons rfl (.cons rfl .nil)) ?_
  refine W.block ?_
  refine W.seq ?_
  refine W.seq ?_
  refine W.region ?_
  refine WL.eqI rfl rfl rfl ?_
  refine WL.assign rfl rfl ?_
  refine WL.nil ?_
  refine WX.next ?_
  refine W.sub [(0, _), (3, _), (4, _)] (.cons rfl (.cons rfl (.cons rfl .nil))) ?_
  refine W.ite rfl (fun c0 => ?_) (fun c0 => ?_)
  · refine W.skip ?_
    refine WX.next ?_
    refine W.ite rfl (fun c4 => ?_) (fun c4 => ?_)
    · refine W.seq ?_
      refine W.region ?_
      refine WL.assign rfl rfl ?_
      refine WL.nil ?_
      refine WX.next ?_
      refine W.sub [(2, _)] (.cons rfl .nil) ?_
      refine W.ret ?_
      refine WX.blockRet ?_
      refine WX.thenRet ?_
      refine WX.ret1 rfl rfl ?_
      exact ⟨by rw [decide_eq_true (hp.2 (by omega))], rfl⟩
    · refine W.skip ?_
      refine WX.blockNormal ?_
      refine WX.next ?_
      refine W.seq ?_
      refine W.region ?_
      refine WL.move rfl rfl ?_
      refine WL.geq rfl rfl rfl ?_
      refine WL.moveIf rfl rfl (fun c5 => ?_) (fun c5 => ?_)
      · refine WL.on rfl rfl ?_
        refine WL.move rfl rfl ?_
        refine WL.on rfl rfl ?_
        refine WL.leq rfl rfl rfl ?_
        refine WL.pickT rfl rfl rfl ?_
        refine WL.moveIf rfl rfl (fun c6 => ?_) (fun c6 => ?_)
        · refine WL.off rfl rfl rfl rfl ?_
          refine WL.off rfl rfl rfl rfl ?_
          refine WL.off rfl rfl rfl rfl ?_
          refine WL.offU rfl rfl rfl ?_
          refine WL.offU rfl rfl rfl ?_
          refine WL.off rfl rfl rfl rfl ?_
          refine WL.pickT rfl rfl rfl ?_
          refine WL.move rfl rfl ?_
          refine WL.off rfl rfl rfl rfl ?_
          refine WL.off rfl rfl rfl rfl ?_
          refine WL.off rfl rfl rfl rfl ?_
          refine WL.offU rfl rfl rfl ?_
          refine WL.offU rfl rfl rfl ?_
          refine WL.off rfl rfl rfl rfl ?_
          refine WL.pickT rfl rfl rfl ?_
          refine WL.assign rfl rfl ?_
          refine WL.nil ?_
          refine WX.next ?_
          refine W.sub [(2, _)] (.cons rfl .nil) ?_
          refine W.ret ?_
          refine WX.ret1 rfl rfl ?_
          exact ⟨congrArg Value.bool (by first | exact (decide_eq_true (hp.2 (by omega))).symm | exact (decide_eq_false (fun e => by have := hp.1 e; omega)).symm | exact decide_eq_decide.2 ⟨fun q => hp.2 (by omega), fun e => by have := hp.1 e; omega⟩), rfl⟩
        · refine WL.on rfl rfl ?_
          refine WL.move rfl rfl ?_
          refine WL.on rfl rfl ?_
          refine WL.geq rfl rfl rfl ?_
          refine WL.on rfl rfl ?_
          refine WL.moveIf rfl rfl (fun c7 => ?_) (fun c7 => ?_)
          · refine WL.on rfl rfl ?_
            refine WL.move rfl rfl ?_
            refine WL.on rfl rfl ?_
            refine WL.leq rfl rfl rfl ?_
            refine WL.on rfl rfl ?_
            refine WL.pickT rfl rfl rfl ?_
            refine WL.pickF rfl rfl rfl ?_
            refine WL.moveIf rfl rfl (fun c8 => ?_) (fun c8 => ?_)
            · refine WL.off rfl rfl rfl rfl ?_
              refine WL.off rfl rfl rfl rfl ?_
              refine WL.off rfl rfl rfl rfl ?_
              refine WL.offU rfl rfl rfl ?_
              refine WL.offU rfl rfl rfl ?_
              refine WL.off rfl rfl rfl rfl ?_
              refine WL.pickT rfl rfl rfl ?_
              refine WL.assign rfl rfl ?_
              refine WL.nil ?_
              refine WX.next ?_
              refine W.sub [(2, _)] (.cons rfl .nil) ?_
              refine W.ret ?_
              refine WX.ret1 rfl rfl ?_
              exact ⟨congrArg Value.bool (by first | exact (decide_eq_true (hp.2 (by omega))).symm | exact (decide_eq_false (fun e => by have := hp.1 e; omega)).symm | exact decide_eq_decide.2 ⟨fun q => hp.2 (by omega), fun e => by have := hp.1 e; omega⟩), rfl⟩
            · refine WL.on rfl rfl ?_
              refine WL.move rfl rfl ?_
              refine WL.on rfl rfl ?_
              refine WL.geq rfl rfl rfl ?_
              refine WL.on rfl rfl ?_
              refine WL.moveIf rfl rfl (fun c9 => ?_) (fun c9 => ?_)
              · refine WL.on rfl rfl ?_
                refine WL.move rfl rfl ?_
                refine WL.on rfl rfl ?_
                refine WL.leq rfl rfl rfl ?_
                refine WL.on rfl rfl ?_
                refine WL.pickT rfl rfl rfl ?_
                refine WL.pickF rfl rfl rfl ?_
                refine WL.assign rfl rfl ?_
                refine WL.nil ?_
                refine WX.next ?_
                refine W.sub [(2, _)] (.cons rfl .nil) ?_
                refine W.ret ?_
                refine WX.ret1 rfl rfl ?_
                exact ⟨congrArg Value.bool (by first | exact (decide_eq_true (hp.2 (by omega))).symm | exact (decide_eq_false (fun e => by have := hp.1 e; omega)).symm | exact decide_eq_decide.2 ⟨fun q => hp.2 (by omega), fun e => by have := hp.1 e; omega⟩), rfl⟩
              · refine WL.off rfl rfl rfl rfl ?_
                refine WL.off rfl rfl rfl rfl ?_
                refine WL.on rfl rfl ?_
                refine WL.pickF rfl rfl rfl ?_
                refine WL.pickF rfl rfl rfl ?_
                refine WL.assign rfl rfl ?_
                refine WL.nil ?_
                refine WX.next ?_
                refine W.sub [(2, _)] (.cons rfl .nil) ?_
                refine W.ret ?_
                refine WX.ret1 rfl rfl ?_
                exact ⟨congrArg Value.bool (by first | exact (decide_eq_true (hp.2 (by omega))).symm | exact (decide_eq_false (fun e => by have := hp.1 e; omega)).symm | exact decide_eq_decide.2 ⟨fun q => hp.2 (by omega), fun e => by have := hp.1 e; omega⟩), rfl⟩
          · refine WL.off rfl rfl rfl rfl ?_
            refine WL.off rfl rfl rfl rfl ?_
            refine WL.on rfl rfl ?_
            refine WL.pickF rfl rfl rfl ?_
            refine WL.pickF rfl rfl rfl ?_
            refine WL.move rfl rfl ?_
            refine WL.on rfl rfl ?_
            refine WL.move rfl rfl ?_
            refine WL.on rfl rfl ?_
            refine WL.geq rfl rfl rfl ?_
            refine WL.on rfl rfl ?_
            refine WL.moveIf rfl rfl (fun c9 => ?_) (fun c9 => ?_)
            · refine WL.on rfl rfl ?_
              refine WL.move rfl rfl ?_
              refine WL.on rfl rfl ?_
              refine WL.leq rfl rfl rfl ?_
              refine WL.on rfl rfl ?_
              refine WL.pickT rfl rfl rfl ?_
              refine WL.pickF rfl rfl rfl ?_
              refine WL.assign rfl rfl ?_
              refine WL.nil ?_
              refine WX.next ?_
              refine W.sub [(2, _)] (.cons rfl .nil) ?_
              refine W.ret ?_
              refine WX.ret1 rfl rfl ?_
              exact ⟨congrArg Value.bool (by first | exact (decide_eq_true (hp.2 (by omega))).symm | exact (decide_eq_false (fun e => by have := hp.1 e; omega)).symm | exact decide_eq_decide.2 ⟨fun q => hp.2 (by omega), fun e => by have := hp.1 e; omega⟩), rfl⟩
            · refine WL.off rfl rfl rfl rfl ?_
              refine WL.off rfl rfl rfl rfl ?_
              refine WL.on rfl rfl ?_
              refine WL.pickF rfl rfl rfl ?_
              refine WL.pickF rfl rfl rfl ?_
              refine WL.assign rfl rfl ?_
              refine WL.nil ?_
              refine WX.next ?_
              refine W.sub [(2, _)] (.cons rfl .nil) ?_
              refine W.ret ?_
              refine WX.ret1 rfl rfl ?_
              exact ⟨congrArg Value.bool (by first | exact (decide_eq_true (hp.2 (by omega))).symm | exact (decide_eq_false (fun e => by have := hp.1 e; omega)).symm | exact decide_eq_decide.2 ⟨fun q => hp.2 (by omega), fun e => by have := hp.1 e; omega⟩), rfl⟩
      · refine WL.off rfl rfl rfl rfl ?_
        refine WL.off rfl rfl rfl rfl ?_
        refine WL.pickF rfl rfl rfl ?_
        refine WL.move rfl rfl ?_
        refine WL.on rfl rfl ?_
        refine WL.move rfl rfl ?_
        refine WL.on rfl rfl ?_
        refine WL.geq rfl rfl rfl ?_
        refine WL.on rfl rfl ?_
        refine WL.moveIf rfl rfl (fun c7 => ?_) (fun c7 => ?_)
        · refine WL.on rfl rfl ?_
          refine WL.move rfl rfl ?_
          refine WL.on rfl rfl ?_
          refine WL.leq rfl rfl rfl ?_
          refine WL.on rfl rfl ?_
          refine WL.pickT rfl rfl rfl ?_
          refine WL.pickF rfl rfl rfl ?_
          refine WL.moveIf rfl rfl (fun c8 => ?_) (fun c8 => ?_)
          · refine WL.off rfl rfl rfl rfl ?_
            refine WL.off rfl rfl rfl rfl ?_
            refine WL.off rfl rfl rfl rfl ?_
            refine WL.offU rfl rfl rfl ?_
            refine WL.offU rfl rfl rfl ?_
            refine WL.off rfl rfl rfl rfl ?_
            refine WL.pickT rfl rfl rfl ?_
            refine WL.assign rfl rfl ?_
            refine WL.nil ?_
            refine WX.next ?_
            refine W.sub [(2, _)] (.cons rfl .nil) ?_
            refine W.ret ?_
            refine WX.ret1 rfl rfl ?_
            exact ⟨congrArg Value.bool (by first | exact (decide_eq_true (hp.2 (by omega))).symm | exact (decide_eq_false (fun e => by have := hp.1 e; omega)).symm | exact decide_eq_decide.2 ⟨fun q => hp.2 (by omega), fun e => by have := hp.1 e; omega⟩), rfl⟩
          · refine WL.on rfl rfl ?_
            refine WL.move rfl rfl ?_
            refine WL.on rfl rfl ?_
            refine WL.geq rfl rfl rfl ?_
            refine WL.on rfl rfl ?_
            refine WL.moveIf rfl rfl (fun c9 => ?_) (fun c9 => ?_)
            · refine WL.on rfl rfl ?_
              refine WL.move rfl rfl ?_
              refine WL.on rfl rfl ?_
              refine WL.leq rfl rfl rfl ?_
              refine WL.on rfl rfl ?_
              refine WL.pickT rfl rfl rfl ?_
              refine WL.pickF rfl rfl rfl ?_
              refine WL.assign rfl rfl ?_
              refine WL.nil ?_
              refine WX.next ?_
              refine W.sub [(2, _)] (.cons rfl .nil) ?_
              refine W.ret ?_
              refine WX.ret1 rfl rfl ?_
              exact ⟨congrArg Value.bool (by first | exact (decide_eq_true (hp.2 (by omega))).symm | exact (decide_eq_false (fun e => by have := hp.1 e; omega)).symm | exact decide_eq_decide.2 ⟨fun q => hp.2 (by omega), fun e => by have := hp.1 e; omega⟩), rfl⟩
            · refine WL.off rfl rfl rfl rfl ?_
              refine WL.off rfl rfl rfl rfl ?_
              refine WL.on rfl rfl ?_
              refine WL.pickF rfl rfl rfl ?_
              refine WL.pickF rfl rfl rfl ?_
              refine WL.assign rfl rfl ?_
              refine WL.nil ?_
              refine WX.next ?_
              refine W.sub [(2, _)] (.cons rfl .nil) ?_
              refine W.ret ?_
              refine WX.ret1 rfl rfl ?_
              exact ⟨congrArg Value.bool (by first | exact (decide_eq_true (hp.2 (by omega))).symm | exact (decide_eq_false (fun e => by have := hp.1 e; omega)).symm | exact decide_eq_decide.2 ⟨fun q => hp.2 (by omega), fun e => by have := hp.1 e; omega⟩), rfl⟩
        · refine WL.off rfl rfl rfl rfl ?_
          refine WL.off rfl rfl rfl rfl ?_
          refine WL.on rfl rfl ?_
          refine WL.pickF rfl rfl rfl ?_
          refine WL.pickF rfl rfl rfl ?_
          refine WL.move rfl rfl ?_
          refine WL.on rfl rfl ?_
          refine WL.move rfl rfl ?_
          refine WL.on rfl rfl ?_
          refine WL.geq rfl rfl rfl ?_
          refine WL.on rfl rfl ?_
          refine WL.moveIf rfl rfl (fun c9 => ?_) (fun c9 => ?_)
          · refine WL.on rfl rfl ?_
            refine WL.move rfl rfl ?_
            refine WL.on rfl rfl ?_
            refine WL.leq rfl rfl rfl ?_
            refine WL.on rfl rfl ?_
            refine WL.pickT rfl rfl rfl ?_
            refine WL.pickF rfl rfl rfl ?_
            refine WL.assign rfl rfl ?_
            refine WL.nil ?_
            refine WX.next ?_
            refine W.sub [(2, _)] (.cons rfl .nil) ?_
            refine W.ret ?_
            refine WX.ret1 rfl rfl ?_
            exact ⟨congrArg Value.bool (by first | exact (decide_eq_true (hp.2 (by omega))).symm | exact (decide_eq_false (fun e => by have := hp.1 e; omega)).symm | exact decide_eq_decide.2 ⟨fun q => hp.2 (by omega), fun e => by have := hp.1 e; omega⟩), rfl⟩
          · refine WL.off rfl rfl rfl rfl ?_
            refine WL.off rfl rfl rfl rfl ?_
            refine WL.on rfl rfl ?_
            refine WL.pickF rfl rfl rfl ?_
            refine WL.pickF rfl rfl rfl ?_
            refine WL.assign rfl rfl ?_
            refine WL.nil ?_
            refine WX.next ?_
            refine W.sub [(2, _)] (.cons rfl .nil) ?_
            refine W.ret ?_
            refine WX.ret1 rfl rfl ?_
            exact ⟨congrArg Value.bool (by first | exact (decide_eq_true (hp.2 (by omega))).symm | exact (decide_eq_false (fun e => by have := hp.1 e; omega)).symm | exact decide_eq_decide.2 ⟨fun q => hp.2 (by omega), fun e => by have := hp.1 e; omega⟩), rfl⟩
  · refine W.seq ?_
    refine W.region ?_
    refine WL.eqI rfl rfl rfl ?_
    refine WL.assign rfl rfl ?_
    refine WL.nil ?_
    refine WX.next ?_
    refine W.sub [(0, _), (3, _), (4, _)] (.cons rfl (.cons rfl (.cons rfl .nil))) ?_
    refine W.ite rfl (fun c1 => ?_) (fun c1 => ?_)
    · refine W.skip ?_
      refine WX.next ?_
      refine W.ite rfl (fun c4 => ?_) (fun c4 => ?_)
      · refine W.seq ?_
        refine W.region ?_
        refine WL.assign rfl rfl ?_
        refine WL.nil ?_
        refine WX.next ?_
        refine W.sub [(2, _)] (.cons rfl .nil) ?_
        refine W.ret ?_
        refine WX.blockRet ?_
        refine WX.thenRet ?_
        refine WX.ret1 rfl rfl ?_
        exact ⟨by rw [decide_eq_true (hp.2 (by omega))], rfl⟩
      · refine W.skip ?_
        refine WX.blockNormal ?_
        refine WX.next ?_
        refine W.seq ?_
        refine W.region ?_
        refine WL.move rfl rfl ?_
        refine WL.geq rfl rfl rfl ?_
        refine WL.moveIf rfl rfl (fun c5 => ?_) (fun c5 => ?_)
        · refine WL.on rfl rfl ?_
          refine WL.move rfl rfl ?_
          refine WL.on rfl rfl ?_
          refine WL.leq rfl rfl rfl ?_
          refine WL.pickT rfl rfl rfl ?_
          refine WL.moveIf rfl rfl (fun c6 => ?_) (fun c6 => ?_)
          · refine WL.off rfl rfl rfl rfl ?_
            refine WL.off rfl rfl rfl rfl ?_
            refine WL.off rfl rfl rfl rfl ?_
            refine WL.offU rfl rfl rfl ?_
            refine WL.offU rfl rfl rfl ?_
            refine WL.off rfl rfl rfl rfl ?_
            refine WL.pickT rfl rfl rfl ?_
            refine WL.move rfl rfl ?_
            refine WL.off rfl rfl rfl rfl ?_
            refine WL.off rfl rfl rfl rfl ?_
            refine WL.off rfl rfl rfl rfl ?_
            refine WL.offU rfl rfl rfl ?_
            refine WL.offU rfl rfl rfl ?_
            refine WL.off rfl rfl rfl rfl ?_
            refine WL.pickT rfl rfl rfl ?_
            refine WL.assign rfl rfl ?_
            refine WL.nil ?_
            refine WX.next ?_
            refine W.sub [(2, _)] (.cons rfl .nil) ?_
            refine W.ret ?_
            refine WX.ret1 rfl rfl ?_
            exact ⟨congrArg Value.bool (by first | exact (decide_eq_true (hp.2 (by omega))).symm | exact (decide_eq_false (fun e => by have := hp.1 e; omega)).symm | exact decide_eq_decide.2 ⟨fun q => hp.2 (by omega), fun e => by have := hp.1 e; omega⟩), rfl⟩
          · refine WL.on rfl rfl ?_
            refine WL.move rfl rfl ?_
            refine WL.on rfl rfl ?_
            refine WL.geq rfl rfl rfl ?_
            refine WL.on rfl rfl ?_
            refine WL.moveIf rfl rfl (fun c7 => ?_) (fun c7 => ?_)
            · refine WL.on rfl rfl ?_
              refine WL.move rfl rfl ?_
              refine WL.on rfl rfl ?_
              refine WL.leq rfl rfl rfl ?_
              refine WL.on rfl rfl ?_
              refine WL.pickT rfl rfl rfl ?_
              refine WL.pickF rfl rfl rfl ?_
              refine WL.moveIf rfl rfl (fun c8 => ?_) (fun c8 => ?_)
              · refine WL.off rfl rfl rfl rfl ?_
                refine WL.off rfl rfl rfl rfl ?_
                refine WL.off rfl rfl rfl rfl ?_
                refine WL.offU rfl rfl rfl ?_
                refine WL.offU rfl rfl rfl ?_
                refine WL.off rfl rfl rfl rfl ?_
                refine WL.pickT rfl rfl rfl ?_
                refine WL.assign rfl rfl ?_
                refine WL.nil ?_
                refine WX.next ?_
                refine W.sub [(2, _)] (.cons rfl .nil) ?_
                refine W.ret ?_
                refine WX.ret1 rfl rfl ?_
                exact ⟨congrArg Value.bool (by first | exact (decide_eq_true (hp.2 (by omega))).symm | exact (decide_eq_false (fun e => by have := hp.1 e; omega)).symm | exact decide_eq_decide.2 ⟨fun q => hp.2 (by omega), fun e => by have := hp.1 e; omega⟩), rfl⟩
              · refine WL.on rfl rfl ?_
                refine WL.move rfl rfl ?_
                refine WL.on rfl rfl ?_
                refine WL.geq rfl rfl rfl ?_
                refine WL.on rfl rfl ?_
                refine WL.moveIf rfl rfl (fun c9 => ?_) (fun c9 => ?_)
                · refine WL.on rfl rfl ?_
                  refine WL.move rfl rfl ?_
                  refine WL.on rfl rfl ?_
                  refine WL.leq rfl rfl rfl ?_
                  refine WL.on rfl rfl ?_
                  refine WL.pickT rfl rfl rfl ?_
                  refine WL.pickF rfl rfl rfl ?_
                  refine WL.assign rfl rfl ?_
                  refine WL.nil ?_
                  refine WX.next ?_
                  refine W.sub [(2, _)] (.cons rfl .nil) ?_
                  refine W.ret ?_
                  refine WX.ret1 rfl rfl ?_
                  exact ⟨congrArg Value.bool (by first | exact (decide_eq_true (hp.2 (by omega))).symm | exact (decide_eq_false (fun e => by have := hp.1 e; omega)).symm | exact decide_eq_decide.2 ⟨fun q => hp.2 (by omega), fun e => by have := hp.1 e; omega⟩), rfl⟩
                · refine WL.off rfl rfl rfl rfl ?_
                  refine WL.off rfl rfl rfl rfl ?_
                  refine WL.on rfl rfl ?_
                  refine WL.pickF rfl rfl rfl ?_
                  refine WL.pickF rfl rfl rfl ?_
                  refine WL.assign rfl rfl ?_
                  refine WL.nil ?_
                  refine WX.next ?_
                  refine W.sub [(2, _)] (.cons rfl .nil) ?_
                  refine W.ret ?_
                  refine WX.ret1 rfl rfl ?_
                  exact ⟨congrArg Value.bool (by first | exact (decide_eq_true (hp.2 (by omega))).symm | exact (decide_eq_false (fun e => by have := hp.1 e; omega)).symm | exact decide_eq_decide.2 ⟨fun q => hp.2 (by omega), fun e => by have := hp.1 e; omega⟩), rfl⟩
            · refine WL.off rfl rfl rfl rfl ?_
              refine WL.off rfl rfl rfl rfl ?_
              refine WL.on rfl rfl ?_
              refine WL.pickF rfl rfl rfl ?_
              refine WL.pickF rfl rfl rfl ?_
              refine WL.move rfl rfl ?_
              refine WL.on rfl rfl ?_
              refine WL.move rfl rfl ?_
              refine WL.on rfl rfl ?_
              refine WL.geq rfl rfl rfl ?_
              refine WL.on rfl rfl ?_
              refine WL.moveIf rfl rfl (fun c9 => ?_) (fun c9 => ?_)
              · refine WL.on rfl rfl ?_
                refine WL.move rfl rfl ?_
                refine WL.on rfl rfl ?_
                refine WL.leq rfl rfl rfl ?_
                refine WL.on rfl rfl ?_
                refine WL.pickT rfl rfl rfl ?_
                refine WL.pickF rfl rfl rfl ?_
                refine WL.assign rfl rfl ?_
                refine WL.nil ?_
                refine WX.next ?_
                refine W.sub [(2, _)] (.cons rfl .nil) ?_
                refine W.ret ?_
                refine WX.ret1 rfl rfl ?_
                exact ⟨congrArg Value.bool (by first | exact (decide_eq_true (hp.2 (by omega))).symm | exact (decide_eq_false (fun e => by have := hp.1 e; omega)).symm | exact decide_eq_decide.2 ⟨fun q => hp.2 (by omega), fun e => by have := hp.1 e; omega⟩), rfl⟩
              · refine WL.off rfl rfl rfl rfl ?_
                refine WL.off rfl rfl rfl rfl ?_
                refine WL.on rfl rfl ?_
                refine WL.pickF rfl rfl rfl ?_
                refine WL.pickF rfl rfl rfl ?_
                refine WL.assign rfl rfl ?_
                refine WL.nil ?_
                refine WX.next ?_
                refine W.sub [(2, _)] (.cons rfl .nil) ?_
                refine W.ret ?_
                refine WX.ret1 rfl rfl ?_
                exact ⟨congrArg Value.bool (by first | exact (decide_eq_true (hp.2 (by omega))).symm | exact (decide_eq_false (fun e => by have := hp.1 e; omega)).symm | exact decide_eq_decide.2 ⟨fun q => hp.2 (by omega), fun e => by have := hp.1 e; omega⟩), rfl⟩
        · refine WL.off rfl rfl rfl rfl ?_
          refine WL.off rfl rfl rfl rfl ?_
          refine WL.pickF rfl rfl rfl ?_
          refine WL.move rfl rfl ?_
          refine WL.on rfl rfl ?_
          refine WL.move rfl rfl ?_
          refine WL.on rfl rfl ?_
          refine WL.geq rfl rfl rfl ?_
          refine WL.on rfl rfl ?_
          refine WL.moveIf rfl rfl (fun c7 => ?_) (fun c7 => ?_)
          · refine WL.on rfl rfl ?_
            refine WL.move rfl rfl ?_
            refine WL.on rfl rfl ?_
            refine WL.leq rfl rfl rfl ?_
            refine WL.on rfl rfl ?_
            refine WL.pickT rfl rfl rfl ?_
            refine WL.pickF rfl rfl rfl ?_
            refine WL.moveIf rfl rfl (fun c8 => ?_) (fun c8 => ?_)
            · refine WL.off rfl rfl rfl rfl ?_
              refine WL.off rfl rfl rfl rfl ?_
              refine WL.off rfl rfl rfl rfl ?_
              refine WL.offU rfl rfl rfl ?_
              refine WL.offU rfl rfl rfl ?_
              refine WL.off rfl rfl rfl rfl ?_
              refine WL.pickT rfl rfl rfl ?_
              refine WL.assign rfl rfl ?_
              refine WL.nil ?_
              refine WX.next ?_
              refine W.sub [(2, _)] (.cons rfl .nil) ?_
              refine W.ret ?_
              refine WX.ret1 rfl rfl ?_
              exact ⟨congrArg Value.bool (by first | exact (decide_eq_true (hp.2 (by omega))).symm | exact (decide_eq_false (fun e => by have := hp.1 e; omega)).symm | exact decide_eq_decide.2 ⟨fun q => hp.2 (by omega), fun e => by have := hp.1 e; omega⟩), rfl⟩
            · refine WL.on rfl rfl ?_
              refine WL.move rfl rfl ?_
              refine WL.on rfl rfl ?_
              refine WL.geq rfl rfl rfl ?_
              refine WL.on rfl rfl ?_
              refine WL.moveIf rfl rfl (fun c9 => ?_) (fun c9 => ?_)
              · refine WL.on rfl rfl ?_
                refine WL.move rfl rfl ?_
                refine WL.on rfl rfl ?_
                refine WL.leq rfl rfl rfl ?_
                refine WL.on rfl rfl ?_
                refine WL.pickT rfl rfl rfl ?_
                refine WL.pickF rfl rfl rfl ?_
                refine WL.assign rfl rfl ?_
                refine WL.nil ?_
                refine WX.next ?_
                refine W.sub [(2, _)] (.cons rfl .nil) ?_
                refine W.ret ?_
                refine WX.ret1 rfl rfl ?_
                exact ⟨congrArg Value.bool (by first | exact (decide_eq_true (hp.2 (by omega))).symm | exact (decide_eq_false (fun e => by have := hp.1 e; omega)).symm | exact decide_eq_decide.2 ⟨fun q => hp.2 (by omega), fun e => by have := hp.1 e; omega⟩), rfl⟩
              · refine WL.off rfl rfl rfl rfl ?_
                refine WL.off rfl rfl rfl rfl ?_
                refine WL.on rfl rfl ?_
                refine WL.pickF rfl rfl rfl ?_
                refine WL.pickF rfl rfl rfl ?_
                refine WL.assign rfl rfl ?_
                refine WL.nil ?_
                refine WX.next ?_
                refine W.sub [(2, _)] (.cons rfl .nil) ?_
                refine W.ret ?_
                refine WX.ret1 rfl rfl ?_
                exact ⟨congrArg Value.bool (by first | exact (decide_eq_true (hp.2 (by omega))).symm | exact (decide_eq_false (fun e => by have := hp.1 e; omega)).symm | exact decide_eq_decide.2 ⟨fun q => hp.2 (by omega), fun e => by have := hp.1 e; omega⟩), rfl⟩
          · refine WL.off rfl rfl rfl rfl ?_
            refine WL.off rfl rfl rfl rfl ?_
            refine WL.on rfl rfl ?_
            refine WL.pickF rfl rfl rfl ?_
            refine WL.pickF rfl rfl rfl ?_
            refine WL.move rfl rfl ?_
            refine WL.on rfl rfl ?_
            refine WL.move rfl rfl ?_
            refine WL.on rfl rfl ?_
            refine WL.geq rfl rfl rfl ?_
            refine WL.on rfl rfl ?_
            refine WL.moveIf rfl rfl (fun c9 => ?_) (fun c9 => ?_)
            · refine WL.on rfl rfl ?_
              refine WL.move rfl rfl ?_
              refine WL.on rfl rfl ?_
              refine WL.leq rfl rfl rfl ?_
              refine WL.on rfl rfl ?_
              refine WL.pickT rfl rfl rfl ?_
              refine WL.pickF rfl rfl rfl ?_
              refine WL.assign rfl rfl ?_
              refine WL.nil ?_
              refine WX.next ?_
              refine W.sub [(2, _)] (.cons rfl .nil) ?_
              refine W.ret ?_
              refine WX.ret1 rfl rfl ?_
              exact ⟨congrArg Value.bool (by first | exact (decide_eq_true (hp.2 (by omega))).symm | exact (decide_eq_false (fun e => by have := hp.1 e; omega)).symm | exact decide_eq_decide.2 ⟨fun q => hp.2 (by omega), fun e => by have := hp.1 e; omega⟩), rfl⟩
            · refine WL.off rfl rfl rfl rfl ?_
              refine WL.off rfl rfl rfl rfl ?_
              refine WL.on rfl rfl ?_
              refine WL.pickF rfl rfl rfl ?_
              refine WL.pickF rfl rfl rfl ?_
              refine WL.assign rfl rfl ?_
              refine WL.nil ?_
              refine WX.next ?_
              refine W.sub [(2, _)] (.cons rfl .nil) ?_
              refine W.ret ?_
              refine WX.ret1 rfl rfl ?_
              exact ⟨congrArg Value.bool (by first | exact (decide_eq_true (hp.2 (by omega))).symm | exact (decide_eq_false (fun e => by have := hp.1 e; omega)).symm | exact decide_eq_decide.2 ⟨fun q => hp.2 (by omega), fun e => by have := hp.1 e; omega⟩), rfl⟩
    · refine W.seq ?_
      refine W.region ?_
      refine WL.eqI rfl rfl rfl ?_
      refine WL.assign rfl rfl ?_
      refine WL.nil ?_
      refine WX.next ?_
      refine W.sub [(0, _), (3, _), (4, _)] (.cons rfl (.cons rfl (.cons rfl .nil))) ?_
      refine W.ite rfl (fun c2 => ?_) (fun c2 => ?_)
      · refine W.skip ?_
        refine WX.next ?_
        refine W.ite rfl (fun c4 => ?_) (fun c4 => ?_)
        · refine W.seq ?_
          refine W.region ?_
          refine WL.assign rfl rfl ?_
          refine WL.nil ?_
          refine WX.next ?_
          refine W.sub [(2, _)] (.cons rfl .nil) ?_
          refine W.ret ?_
          refine WX.blockRet ?_
          refine WX.thenRet ?_
          refine WX.ret1 rfl rfl ?_
          exact ⟨by rw [decide_eq_true (hp.2 (by omega))], rfl⟩
        · refine W.skip ?_
          refine WX.blockNormal ?_
          refine WX.next ?_
          refine W.seq ?_
          refine W.region ?_
          refine WL.move rfl rfl ?_
          refine WL.geq rfl rfl rfl ?_
          refine WL.moveIf rfl rfl (fun c5 => ?_) (fun c5 => ?_)
          · refine WL.on rfl rfl ?_
            refine WL.move rfl rfl ?_
            refine WL.on rfl rfl ?_
            refine WL.leq rfl rfl rfl ?_
            refine WL.pickT rfl rfl rfl ?_
            refine WL.moveIf rfl rfl (fun c6 => ?_) (fun c6 => ?_)
            · refine WL.off rfl rfl rfl rfl ?_
              refine WL.off rfl rfl rfl rfl ?_
              refine WL.off rfl rfl rfl rfl ?_
              refine WL.offU rfl rfl rfl ?_
              refine WL.offU rfl rfl rfl ?_
              refine WL.off rfl rfl rfl rfl ?_
              refine WL.pickT rfl rfl rfl ?_
              refine WL.move rfl rfl ?_
              refine WL.off rfl rfl rfl rfl ?_
              refine WL.off rfl rfl rfl rfl ?_
              refine WL.off rfl rfl rfl rfl ?_
              refine WL.offU rfl rfl rfl ?_
              refine WL.offU rfl rfl rfl ?_
              refine WL.off rfl rfl rfl rfl ?_
              refine WL.pickT rfl rfl rfl ?_
              refine WL.assign rfl rfl ?_
              refine WL.nil ?_
              refine WX.next ?_
              refine W.sub [(2, _)] (.cons rfl .nil) ?_
              refine W.ret ?_
              refine WX.ret1 rfl rfl ?_
              exact ⟨congrArg Value.bool (by first | exact (decide_eq_true (hp.2 (by omega))).symm | exact (decide_eq_false (fun e => by have := hp.1 e; omega)).symm | exact decide_eq_decide.2 ⟨fun q => hp.2 (by omega), fun e => by have := hp.1 e; omega⟩), rfl⟩
            · refine WL.on rfl rfl ?_
              refine WL.move rfl rfl ?_
              refine WL.on rfl rfl ?_
              refine WL.geq rfl rfl rfl ?_
              refine WL.on rfl rfl ?_
              refine WL.moveIf rfl rfl (fun c7 => ?_) (fun c7 => ?_)
              · refine WL.on rfl rfl ?_
                refine WL.move rfl rfl ?_
                refine WL.on rfl rfl ?_
                refine WL.leq rfl rfl rfl ?_
                refine WL.on rfl rfl ?_
                refine WL.pickT rfl rfl rfl ?_
                refine WL.pickF rfl rfl rfl ?_
                refine WL.moveIf rfl rfl (fun c8 => ?_) (fun c8 => ?_)
                · refine WL.off rfl rfl rfl rfl ?_
                  refine WL.off rfl rfl rfl rfl ?_
                  refine WL.off rfl rfl rfl rfl ?_
                  refine WL.offU rfl rfl rfl ?_
                  refine WL.offU rfl rfl rfl ?_
                  refine WL.off rfl rfl rfl rfl ?_
                  refine WL.pickT rfl rfl rfl ?_
                  refine WL.assign rfl rfl ?_
                  refine WL.nil ?_
                  refine WX.next ?_
                  refine W.sub [(2, _)] (.cons rfl .nil) ?_
                  refine W.ret ?_
                  refine WX.ret1 rfl rfl ?_
                  exact ⟨congrArg Value.bool (by first | exact (decide_eq_true (hp.2 (by omega))).symm | exact (decide_eq_false (fun e => by have := hp.1 e; omega)).symm | exact decide_eq_decide.2 ⟨fun q => hp.2 (by omega), fun e => by have := hp.1 e; omega⟩), rfl⟩
                · refine WL.on rfl rfl ?_
                  refine WL.move rfl rfl ?_
                  refine WL.on rfl rfl ?_
                  refine WL.geq rfl rfl rfl ?_
                  refine WL.on rfl rfl ?_
                  refine WL.moveIf rfl rfl (fun c9 => ?_) (fun c9 => ?_)
                  · refine WL.on rfl rfl ?_
                    refine WL.move rfl rfl ?_
                    refine WL.on rfl rfl ?_
                    refine WL.leq rfl rfl rfl ?_
                    refine WL.on rfl rfl ?_
                    refine WL.pickT rfl rfl rfl ?_
                    refine WL.pickF rfl rfl rfl ?_
                    refine WL.assign rfl rfl ?_
                    refine WL.nil ?_
                    refine WX.next ?_
                    refine W.sub [(2, _)] (.cons rfl .nil) ?_
                    refine W.ret ?_
                    refine WX.ret1 rfl rfl ?_
                    exact ⟨congrArg Value.bool (by first | exact (decide_eq_true (hp.2 (by omega))).symm | exact (decide_eq_false (fun e => by have := hp.1 e; omega)).symm | exact decide_eq_decide.2 ⟨fun q => hp.2 (by omega), fun e => by have := hp.1 e; omega⟩), rfl⟩
                  · refine WL.off rfl rfl rfl rfl ?_
                    refine WL.off rfl rfl rfl rfl ?_
                    refine WL.on rfl rfl ?_
                    refine WL.pickF rfl rfl rfl ?_
                    refine WL.pickF rfl rfl rfl ?_
                    refine WL.assign rfl rfl ?_
                    refine WL.nil ?_
                    refine WX.next ?_
                    refine W.sub [(2, _)] (.cons rfl .nil) ?_
                    refine W.ret ?_
                    refine WX.ret1 rfl rfl ?_
                    exact ⟨congrArg Value.bool (by first | exact (decide_eq_true (hp.2 (by omega))).symm | exact (decide_eq_false (fun e => by have := hp.1 e; omega)).symm | exact decide_eq_decide.2 ⟨fun q => hp.2 (by omega), fun e => by have := hp.1 e; omega⟩), rfl⟩
              · refine WL.off rfl rfl rfl rfl ?_
                refine WL.off rfl rfl rfl rfl ?_
                refine WL.on rfl rfl ?_
                refine WL.pickF rfl rfl rfl ?_
                refine WL.pickF rfl rfl rfl ?_
                refine WL.move rfl rfl ?_
                refine WL.on rfl rfl ?_
                refine WL.move rfl rfl ?_
                refine WL.on rfl rfl ?_
                refine WL.geq rfl rfl rfl ?_
                refine WL.on rfl rfl ?_
                refine WL.moveIf rfl rfl (fun c9 => ?_) (fun c9 => ?_)
                · refine WL.on rfl rfl ?_
                  refine WL.move rfl rfl ?_
                  refine WL.on rfl rfl ?_
                  refine WL.leq rfl rfl rfl ?_
                  refine WL.on rfl rfl ?_
                  refine WL.pickT rfl rfl rfl ?_
                  refine WL.pickF rfl rfl rfl ?_
                  refine WL.assign rfl rfl ?_
                  refine WL.nil ?_
                  refine WX.next ?_
                  refine W.sub [(2, _)] (.cons rfl .nil) ?_
                  refine W.ret ?_
                  refine WX.ret1 rfl rfl ?_
                  exact ⟨congrArg Value.bool (by first | exact (decide_eq_true (hp.2 (by omega))).symm | exact (decide_eq_false (fun e => by have := hp.1 e; omega)).symm | exact decide_eq_decide.2 ⟨fun q => hp.2 (by omega), fun e => by have := hp.1 e; omega⟩), rfl⟩
                · refine WL.off rfl rfl rfl rfl ?_
                  refine WL.off rfl rfl rfl rfl ?_
                  refine WL.on rfl rfl ?_
                  refine WL.pickF rfl rfl rfl ?_
                  refine WL.pickF rfl rfl rfl ?_
                  refine WL.assign rfl rfl ?_
                  refine WL.nil ?_
                  refine WX.next ?_
                  refine W.sub [(2, _)] (.cons rfl .nil) ?_
                  refine W.ret ?_
                  refine WX.ret1 rfl rfl ?_
                  exact ⟨congrArg Value.bool (by first | exact (decide_eq_true (hp.2 (by omega))).symm | exact (decide_eq_false (fun e => by have := hp.1 e; omega)).symm | exact decide_eq_decide.2 ⟨fun q => hp.2 (by omega), fun e => by have := hp.1 e; omega⟩), rfl⟩
          · refine WL.off rfl rfl rfl rfl ?_
            refine WL.off rfl rfl rfl rfl ?_
            refine WL.pickF rfl rfl rfl ?_
            refine WL.move rfl rfl ?_
            refine WL.on rfl rfl ?_
            refine WL.move rfl rfl ?_
            refine WL.on rfl rfl ?_
            refine WL.geq rfl rfl rfl ?_
            refine WL.on rfl rfl ?_
            refine WL.moveIf rfl rfl (fun c7 => ?_) (fun c7 => ?_)
            · refine WL.on rfl rfl ?_
              refine WL.move rfl rfl ?_
              refine WL.on rfl rfl ?_
              refine WL.leq rfl rfl rfl ?_
              refine WL.on rfl rfl ?_
              refine WL.pickT rfl rfl rfl ?_
              refine WL.pickF rfl rfl rfl ?_
              refine WL.moveIf rfl rfl (fun c8 => ?_) (fun c8 => ?_)
              · refine WL.off rfl rfl rfl rfl ?_
                refine WL.off rfl rfl rfl rfl ?_
                refine WL.off rfl rfl rfl rfl ?_
                refine WL.offU rfl rfl rfl ?_
                refine WL.offU rfl rfl rfl ?_
                refine WL.off rfl rfl rfl rfl ?_
                refine WL.pickT rfl rfl rfl ?_
                refine WL.assign rfl rfl ?_
                refine WL.nil ?_
                refine WX.next ?_
                refine W.sub [(2, _)] (.cons rfl .nil) ?_
                refine W.ret ?_
                refine WX.ret1 rfl rfl ?_
                exact ⟨congrArg Value.bool (by first | exact (decide_eq_true (hp.2 (by omega))).symm | exact (decide_eq_false (fun e => by have := hp.1 e; omega)).symm | exact decide_eq_decide.2 ⟨fun q => hp.2 (by omega), fun e => by have := hp.1 e; omega⟩), rfl⟩
              · refine WL.on rfl rfl ?_
                refine WL.move rfl rfl ?_
                refine WL.on rfl rfl ?_
                refine WL.geq rfl rfl rfl ?_
                refine WL.on rfl rfl ?_
                refine WL.moveIf rfl rfl (fun c9 => ?_) (fun c9 => ?_)
                · refine WL.on rfl rfl ?_
                  refine WL.move rfl rfl ?_
                  refine WL.on rfl rfl ?_
                  refine WL.leq rfl rfl rfl ?_
                  refine WL.on rfl rfl ?_
                  refine WL.pickT rfl rfl rfl ?_
                  refine WL.pickF rfl rfl rfl ?_
                  refine WL.assign rfl rfl ?_
                  refine WL.nil ?_
                  refine WX.next ?_
                  refine W.sub [(2, _)] (.cons rfl .nil) ?_
                  refine W.ret ?_
                  refine WX.ret1 rfl rfl ?_
                  exact ⟨congrArg Value.bool (by first | exact (decide_eq_true (hp.2 (by omega))).symm | exact (decide_eq_false (fun e => by have := hp.1 e; omega)).symm | exact decide_eq_decide.2 ⟨fun q => hp.2 (by omega), fun e => by have := hp.1 e; omega⟩), rfl⟩
                · refine WL.off rfl rfl rfl rfl ?_
                  refine WL.off rfl rfl rfl rfl ?_
                  refine WL.on rfl rfl ?_
                  refine WL.pickF rfl rfl rfl ?_
                  refine WL.pickF rfl rfl rfl ?_
                  refine WL.assign rfl rfl ?_
                  refine WL.nil ?_
                  refine WX.next ?_
                  refine W.sub [(2, _)] (.cons rfl .nil) ?_
                  refine W.ret ?_
                  refine WX.ret1 rfl rfl ?_
                  exact ⟨congrArg Value.bool (by first | exact (decide_eq_true (hp.2 (by omega))).symm | exact (decide_eq_false (fun e => by have := hp.1 e; omega)).symm | exact decide_eq_decide.2 ⟨fun q => hp.2 (by omega), fun e => by have := hp.1 e; omega⟩), rfl⟩
            · refine WL.off rfl rfl rfl rfl ?_
              refine WL.off rfl rfl rfl rfl ?_
              refine WL.on rfl rfl ?_
              refine WL.pickF rfl rfl rfl ?_
              refine WL.pickF rfl rfl rfl ?_
              refine WL.move rfl rfl ?_
              refine WL.on rfl rfl ?_
              refine WL.move rfl rfl ?_
              refine WL.on rfl rfl ?_
              refine WL.geq rfl rfl rfl ?_
              refine WL.on rfl rfl ?_
              refine WL.moveIf rfl rfl (fun c9 => ?_) (fun c9 => ?_)
              · refine WL.on rfl rfl ?_
                refine WL.move rfl rfl ?_
                refine WL.on rfl rfl ?_
                refine WL.leq rfl rfl rfl ?_
                refine WL.on rfl rfl ?_
                refine WL.pickT rfl rfl rfl ?_
                refine WL.pickF rfl rfl rfl ?_
                refine WL.assign rfl rfl ?_
                refine WL.nil ?_
                refine WX.next ?_
                refine W.sub [(2, _)] (.cons rfl .nil) ?_
                refine W.ret ?_
                refine WX.ret1 rfl rfl ?_
                exact ⟨congrArg Value.bool (by first | exact (decide_eq_true (hp.2 (by omega))).symm | exact (decide_eq_false (fun e => by have := hp.1 e; omega)).symm | exact decide_eq_decide.2 ⟨fun q => hp.2 (by omega), fun e => by have := hp.1 e; omega⟩), rfl⟩
              · refine WL.off rfl rfl rfl rfl ?_
                refine WL.off rfl rfl rfl rfl ?_
                refine WL.on rfl rfl ?_
                refine WL.pickF rfl rfl rfl ?_
                refine WL.pickF rfl rfl rfl ?_
                refine WL.assign rfl rfl ?_
                refine WL.nil ?_
                refine WX.next ?_
                refine W.sub [(2, _)] (.cons rfl .nil) ?_
                refine W.ret ?_
                refine WX.ret1 rfl rfl ?_
                exact ⟨congrArg Value.bool (by first | exact (decide_eq_true (hp.2 (by omega))).symm | exact (decide_eq_false (fun e => by have := hp.1 e; omega)).symm | exact decide_eq_decide.2 ⟨fun q => hp.2 (by omega), fun e => by have := hp.1 e; omega⟩), rfl⟩
      · refine W.seq ?_
        refine W.region ?_
        refine WL.eqI rfl rfl rfl ?_
        refine WL.assign rfl rfl ?_
        refine WL.nil ?_
        refine WX.next ?_
        refine W.sub [(0, _), (3, _), (4, _)] (.cons rfl (.cons rfl (.cons rfl .nil))) ?_
        refine W.ite rfl (fun c3 => ?_) (fun c3 => ?_)
        · refine W.skip ?_
          refine WX.next ?_
          refine W.ite rfl (fun c4 => ?_) (fun c4 => ?_)
          · refine W.seq ?_
            refine W.region ?_
            refine WL.assign rfl rfl ?_
            refine WL.nil ?_
            refine WX.next ?_
            refine W.sub [(2, _)] (.cons rfl .nil) ?_
            refine W.ret ?_
            refine WX.blockRet ?_
            refine WX.thenRet ?_
            refine WX.ret1 rfl rfl ?_
            exact ⟨by rw [decide_eq_true (hp.2 (by omega))], rfl⟩
          · refine W.skip ?_
            refine WX.blockNormal ?_
            refine WX.next ?_
            refine W.seq ?_
            refine W.region ?_
            refine WL.move rfl rfl ?_
            refine WL.geq rfl rfl rfl ?_
            refine WL.moveIf rfl rfl (fun c5 => ?_) (fun c5 => ?_)
            · refine WL.on rfl rfl ?_
              refine WL.move rfl rfl ?_
              refine WL.on rfl rfl ?_
              refine WL.leq rfl rfl rfl ?_
              refine WL.pickT rfl rfl rfl ?_
              refine WL.moveIf rfl rfl (fun c6 => ?_) (fun c6 => ?_)
              · refine WL.off rfl rfl rfl rfl ?_
                refine WL.off rfl rfl rfl rfl ?_
                refine WL.off rfl rfl rfl rfl ?_
                refine WL.offU rfl rfl rfl ?_
                refine WL.offU rfl rfl rfl ?_
                refine WL.off rfl rfl rfl rfl ?_
                refine WL.pickT rfl rfl rfl ?_
                refine WL.move rfl rfl ?_
                refine WL.off rfl rfl rfl rfl ?_
                refine WL.off rfl rfl rfl rfl ?_
                refine WL.off rfl rfl rfl rfl ?_
                refine WL.offU rfl rfl rfl ?_
                refine WL.offU rfl rfl rfl ?_
                refine WL.off rfl rfl rfl rfl ?_
                refine WL.pickT rfl rfl rfl ?_
                refine WL.assign rfl rfl ?_
                refine WL.nil ?_
                refine WX.next ?_
                refine W.sub [(2, _)] (.cons rfl .nil) ?_
                refine W.ret ?_
                refine WX.ret1 rfl rfl ?_
                exact ⟨congrArg Value.bool (by first | exact (decide_eq_true (hp.2 (by omega))).symm | exact (decide_eq_false (fun e => by have := hp.1 e; omega)).symm | exact decide_eq_decide.2 ⟨fun q => hp.2 (by omega), fun e => by have := hp.1 e; omega⟩), rfl⟩
              · refine WL.on rfl rfl ?_
                refine WL.move rfl rfl ?_
                refine WL.on rfl rfl ?_
                refine WL.geq rfl rfl rfl ?_
                refine WL.on rfl rfl ?_
                refine WL.moveIf rfl rfl (fun c7 => ?_) (fun c7 => ?_)
                · refine WL.on rfl rfl ?_
                  refine WL.move rfl rfl ?_
                  refine WL.on rfl rfl ?_
                  refine WL.leq rfl rfl rfl ?_
                  refine WL.on rfl rfl ?_
                  refine WL.pickT rfl rfl rfl ?_
                  refine WL.pickF rfl rfl rfl ?_
                  refine WL.moveIf rfl rfl (fun c8 => ?_) (fun c8 => ?_)
                  · refine WL.off rfl rfl rfl rfl ?_
                    refine WL.off rfl rfl rfl rfl ?_
                    refine WL.off rfl rfl rfl rfl ?_
                    refine WL.offU rfl rfl rfl ?_
                    refine WL.offU rfl rfl rfl ?_
                    refine WL.off rfl rfl rfl rfl ?_
                    refine WL.pickT rfl rfl rfl ?_
                    refine WL.assign rfl rfl ?_
                    refine WL.nil ?_
                    refine WX.next ?_
                    refine W.sub [(2, _)] (.cons rfl .nil) ?_
                    refine W.ret ?_
                    refine WX.ret1 rfl rfl ?_
                    exact ⟨congrArg Value.bool (by first | exact (decide_eq_true (hp.2 (by omega))).symm | exact (decide_eq_false (fun e => by have := hp.1 e; omega)).symm | exact decide_eq_decide.2 ⟨fun q => hp.2 (by omega), fun e => by have := hp.1 e; omega⟩), rfl⟩
                  · refine WL.on rfl rfl ?_
                    refine WL.move rfl rfl ?_
                    refine WL.on rfl rfl ?_
                    refine WL.geq rfl rfl rfl ?_
                    refine WL.on rfl rfl ?_
                    refine WL.moveIf rfl rfl (fun c9 => ?_) (fun c9 => ?_)
                    · refine WL.on rfl rfl ?_
                      refine WL.move rfl rfl ?_
                      refine WL.on rfl rfl ?_
                      refine WL.leq rfl rfl rfl ?_
                      refine WL.on rfl rfl ?_
                      refine WL.pickT rfl rfl rfl ?_
                      refine WL.pickF rfl rfl rfl ?_
                      refine WL.assign rfl rfl ?_
                      refine WL.nil ?_
                      refine WX.next ?_
                      refine W.sub [(2, _)] (.cons rfl .nil) ?_
                      refine W.ret ?_
                      refine WX.ret1 rfl rfl ?_
                      exact ⟨congrArg Value.bool (by first | exact (decide_eq_true (hp.2 (by omega))).symm | exact (decide_eq_false (fun e => by have := hp.1 e; omega)).symm | exact decide_eq_decide.2 ⟨fun q => hp.2 (by omega), fun e => by have := hp.1 e; omega⟩), rfl⟩
                    · refine WL.off rfl rfl rfl rfl ?_
                      refine WL.off rfl rfl rfl rfl ?_
                      refine WL.on rfl rfl ?_
                      refine WL.pickF rfl rfl rfl ?_
                      refine WL.pickF rfl rfl rfl ?_
                      refine WL.assign rfl rfl ?_
                      refine WL.nil ?_
                      refine WX.next ?_
                      refine W.sub [(2, _)] (.cons rfl .nil) ?_
                      refine W.ret ?_
                      refine WX.ret1 rfl rfl ?_
                      exact ⟨congrArg Value.bool (by first | exact (decide_eq_true (hp.2 (by omega))).symm | exact (decide_eq_false (fun e => by have := hp.1 e; omega)).symm | exact decide_eq_decide.2 ⟨fun q => hp.2 (by omega), fun e => by have := hp.1 e; omega⟩), rfl⟩
                · refine WL.off rfl rfl rfl rfl ?_
                  refine WL.off rfl rfl rfl rfl ?_
                  refine WL.on rfl rfl ?_
                  refine WL.pickF rfl rfl rfl ?_
                  refine WL.pickF rfl rfl rfl ?_
                  refine WL.move rfl rfl ?_
                  refine WL.on rfl rfl ?_
                  refine WL.move rfl rfl ?_
                  refine WL.on rfl rfl ?_
                  refine WL.geq rfl rfl rfl ?_
                  refine WL.on rfl rfl ?_
                  refine WL.moveIf rfl rfl (fun c9 => ?_) (fun c9 => ?_)
                  · refine WL.on rfl rfl ?_
                    refine WL.move rfl rfl ?_
                    refine WL.on rfl rfl ?_
                    refine WL.leq rfl rfl rfl ?_
                    refine WL.on rfl rfl ?_
                    refine WL.pickT rfl rfl rfl ?_
                    refine WL.pickF rfl rfl rfl ?_
                    refine WL.assign rfl rfl ?_
                    refine WL.nil ?_
                    refine WX.next ?_
                    refine W.sub [(2, _)] (.cons rfl .nil) ?_
                    refine W.ret ?_
                    refine WX.ret1 rfl rfl ?_
                    exact ⟨congrArg Value.bool (by first | exact (decide_eq_true (hp.2 (by omega))).symm | exact (decide_eq_false (fun e => by have := hp.1 e; omega)).symm | exact decide_eq_decide.2 ⟨fun q => hp.2 (by omega), fun e => by have := hp.1 e; omega⟩), rfl⟩
                  · refine WL.off rfl rfl rfl rfl ?_
                    refine WL.off rfl rfl rfl rfl ?_
                    refine WL.on rfl rfl ?_
                    refine WL.pickF rfl rfl rfl ?_
                    refine WL.pickF rfl rfl rfl ?_
                    refine WL.assign rfl rfl ?_
                    refine WL.nil ?_
                    refine WX.next ?_
                    refine W.sub [(2, _)] (.cons rfl .nil) ?_
                    refine W.ret ?_
                    refine WX.ret1 rfl rfl ?_
                    exact ⟨congrArg Value.bool (by first | exact (decide_eq_true (hp.2 (by omega))).symm | exact (decide_eq_false (fun e => by have := hp.1 e; omega)).symm | exact decide_eq_decide.2 ⟨fun q => hp.2 (by omega), fun e => by have := hp.1 e; omega⟩), rfl⟩
            · refine WL.off rfl rfl rfl rfl ?_
              refine WL.off rfl rfl rfl rfl ?_
              refine WL.pickF rfl rfl rfl ?_
              refine WL.move rfl rfl ?_
              refine WL.on rfl rfl ?_
              refine WL.move rfl rfl ?_
              refine WL.on rfl rfl ?_
              refine WL.geq rfl rfl rfl ?_
              refine WL.on rfl rfl ?_
              refine WL.moveIf rfl rfl (fun c7 => ?_) (fun c7 => ?_)
              · refine WL.on rfl rfl ?_
                refine WL.move rfl rfl ?_
                refine WL.on rfl rfl ?_
                refine WL.leq rfl rfl rfl ?_
                refine WL.on rfl rfl ?_
                refine WL.pickT rfl rfl rfl ?_
                refine WL.pickF rfl rfl rfl ?_
                refine WL.moveIf rfl rfl (fun c8 => ?_) (fun c8 => ?_)
                · refine WL.off rfl rfl rfl rfl ?_
                  refine WL.off rfl rfl rfl rfl ?_
                  refine WL.off rfl rfl rfl rfl ?_
                  refine WL.offU rfl rfl rfl ?_
                  refine WL.offU rfl rfl rfl ?_
                  refine WL.off rfl rfl rfl rfl ?_
                  refine WL.pickT rfl rfl rfl ?_
                  refine WL.assign rfl rfl ?_
                  refine WL.nil ?_
                  refine WX.next ?_
                  refine W.sub [(2, _)] (.cons rfl .nil) ?_
                  refine W.ret ?_
                  refine WX.ret1 rfl rfl ?_
                  exact ⟨congrArg Value.bool (by first | exact (decide_eq_true (hp.2 (by omega))).symm | exact (decide_eq_false (fun e => by have := hp.1 e; omega)).symm | exact decide_eq_decide.2 ⟨fun q => hp.2 (by omega), fun e => by have := hp.1 e; omega⟩), rfl⟩
                · refine WL.on rfl rfl ?_
                  refine WL.move rfl rfl ?_
                  refine WL.on rfl rfl ?_
                  refine WL.geq rfl rfl rfl ?_
                  refine WL.on rfl rfl ?_
                  refine WL.moveIf rfl rfl (fun c9 => ?_) (fun c9 => ?_)
                  · refine WL.on rfl rfl ?_
                    refine WL.move rfl rfl ?_
                    refine WL.on rfl rfl ?_
                    refine WL.leq rfl rfl rfl ?_
                    refine WL.on rfl rfl ?_
                    refine WL.pickT rfl rfl rfl ?_
                    refine WL.pickF rfl rfl rfl ?_
                    refine WL.assign rfl rfl ?_
                    refine WL.nil ?_
                    refine WX.next ?_
                    refine W.sub [(2, _)] (.cons rfl .nil) ?_
                    refine W.ret ?_
                    refine WX.ret1 rfl rfl ?_
                    exact ⟨congrArg Value.bool (by first | exact (decide_eq_true (hp.2 (by omega))).symm | exact (decide_eq_false (fun e => by have := hp.1 e; omega)).symm | exact decide_eq_decide.2 ⟨fun q => hp.2 (by omega), fun e => by have := hp.1 e; omega⟩), rfl⟩
                  · refine WL.off rfl rfl rfl rfl ?_
                    refine WL.off rfl rfl rfl rfl ?_
                    refine WL.on rfl rfl ?_
                    refine WL.pickF rfl rfl rfl ?_
                    refine WL.pickF rfl rfl rfl ?_
                    refine WL.assign rfl rfl ?_
                    refine WL.nil ?_
                    refine WX.next ?_
                    refine W.sub [(2, _)] (.cons rfl .nil) ?_
                    refine W.ret ?_
                    refine WX.ret1 rfl rfl ?_
                    exact ⟨congrArg Value.bool (by first | exact (decide_eq_true (hp.2 (by omega))).symm | exact (decide_eq_false (fun e => by have := hp.1 e; omega)).symm | exact decide_eq_decide.2 ⟨fun q => hp.2 (by omega), fun e => by have := hp.1 e; omega⟩), rfl⟩
              · refine WL.off rfl rfl rfl rfl ?_
                refine WL.off rfl rfl rfl rfl ?_
                refine WL.on rfl rfl ?_
                refine WL.pickF rfl rfl rfl ?_
                refine WL.pickF rfl rfl rfl ?_
                refine WL.move rfl rfl ?_
                refine WL.on rfl rfl ?_
                refine WL.move rfl rfl ?_
                refine WL.on rfl rfl ?_
                refine WL.geq rfl rfl rfl ?_
                refine WL.on rfl rfl ?_
                refine WL.moveIf rfl rfl (fun c9 => ?_) (fun c9 => ?_)
                · refine WL.on rfl rfl ?_
                  refine WL.move rfl rfl ?_
                  refine WL.on rfl rfl ?_
                  refine WL.leq rfl rfl rfl ?_
                  refine WL.on rfl rfl ?_
                  refine WL.pickT rfl rfl rfl ?_
                  refine WL.pickF rfl rfl rfl ?_
                  refine WL.assign rfl rfl ?_
                  refine WL.nil ?_
                  refine WX.next ?_
                  refine W.sub [(2, _)] (.cons rfl .nil) ?_
                  refine W.ret ?_
                  refine WX.ret1 rfl rfl ?_
                  exact ⟨congrArg Value.bool (by first | exact (decide_eq_true (hp.2 (by omega))).symm | exact (decide_eq_false (fun e => by have := hp.1 e; omega)).symm | exact decide_eq_decide.2 ⟨fun q => hp.2 (by omega), fun e => by have := hp.1 e; omega⟩), rfl⟩
                · refine WL.off rfl rfl rfl rfl ?_
                  refine WL.off rfl rfl rfl rfl ?_
                  refine WL.on rfl rfl ?_
                  refine WL.pickF rfl rfl rfl ?_
                  refine WL.pickF rfl rfl rfl ?_
                  refine WL.assign rfl rfl ?_
                  refine WL.nil ?_
                  refine WX.next ?_
                  refine W.sub [(2, _)] (.cons rfl .nil) ?_
                  refine W.ret ?_
                  refine WX.ret1 rfl rfl ?_
                  exact ⟨congrArg Value.bool (by first | exact (decide_eq_true (hp.2 (by omega))).symm | exact (decide_eq_false (fun e => by have := hp.1 e; omega)).symm | exact decide_eq_decide.2 ⟨fun q => hp.2 (by omega), fun e => by have := hp.1 e; omega⟩), rfl⟩
        · refine W.region ?_
          refine WL.eqI rfl rfl rfl ?_
          refine WL.assign rfl rfl ?_
          refine WL.nil ?_
          refine WX.next ?_
          refine W.sub [(0, _), (4, _)] (.cons rfl (.cons rfl .nil)) ?_
          refine W.ite rfl (fun c4 => ?_) (fun c4 => ?_)
          · refine W.seq ?_
            refine W.region ?_
            refine WL.assign rfl rfl ?_
            refine WL.nil ?_
            refine WX.next ?_
            refine W.sub [(2, _)] (.cons rfl .nil) ?_
            refine W.ret ?_
            refine WX.blockRet ?_
            refine WX.thenRet ?_
            refine WX.ret1 rfl rfl ?_
            exact ⟨by rw [decide_eq_true (hp.2 (by omega))], rfl⟩
          · refine W.skip ?_
            refine WX.blockNormal ?_
            refine WX.next ?_
            refine W.seq ?_
            refine W.region ?_
            refine WL.move rfl rfl ?_
            refine WL.geq rfl rfl rfl ?_
            refine WL.moveIf rfl rfl (fun c5 => ?_) (fun c5 => ?_)
            · refine WL.on rfl rfl ?_
              refine WL.move rfl rfl ?_
              refine WL.on rfl rfl ?_
              refine WL.leq rfl rfl rfl ?_
              refine WL.pickT rfl rfl rfl ?_
              refine WL.moveIf rfl rfl (fun c6 => ?_) (fun c6 => ?_)
              · refine WL.off rfl rfl rfl rfl ?_
                refine WL.off rfl rfl rfl rfl ?_
                refine WL.off rfl rfl rfl rfl ?_
                refine WL.offU rfl rfl rfl ?_
                refine WL.offU rfl rfl rfl ?_
                refine WL.off rfl rfl rfl rfl ?_
                refine WL.pickT rfl rfl rfl ?_
                refine WL.move rfl rfl ?_
                refine WL.off rfl rfl rfl rfl ?_
                refine WL.off rfl rfl rfl rfl ?_
                refine WL.off rfl rfl rfl rfl ?_
                refine WL.offU rfl rfl rfl ?_
                refine WL.offU rfl rfl rfl ?_
                refine WL.off rfl rfl rfl rfl ?_
                refine WL.pickT rfl rfl rfl ?_
                refine WL.assign rfl rfl ?_
                refine WL.nil ?_
                refine WX.next ?_
                refine W.sub [(2, _)] (.cons rfl .nil) ?_
                refine W.ret ?_
                refine WX.ret1 rfl rfl ?_
                exact ⟨congrArg Value.bool (by first | exact (decide_eq_true (hp.2 (by omega))).symm | exact (decide_eq_false (fun e => by have := hp.1 e; omega)).symm | exact decide_eq_decide.2 ⟨fun q => hp.2 (by omega), fun e => by have := hp.1 e; omega⟩), rfl⟩
              · refine WL.on rfl rfl ?_
                refine WL.move rfl rfl ?_
                refine WL.on rfl rfl ?_
                refine WL.geq rfl rfl rfl ?_
                refine WL.on rfl rfl ?_
                refine WL.moveIf rfl rfl (fun c7 => ?_) (fun c7 => ?_)
                · refine WL.on rfl rfl ?_
                  refine WL.move rfl rfl ?_
                  refine WL.on rfl rfl ?_
                  refine WL.leq rfl rfl rfl ?_
                  refine WL.on rfl rfl ?_
                  refine WL.pickT rfl rfl rfl ?_
                  refine WL.pickF rfl rfl rfl ?_
                  refine WL.moveIf rfl rfl (fun c8 => ?_) (fun c8 => ?_)
                  · refine WL.off rfl rfl rfl rfl ?_
                    refine WL.off rfl rfl rfl rfl ?_
                    refine WL.off rfl rfl rfl rfl ?_
                    refine WL.offU rfl rfl rfl ?_
                    refine WL.offU rfl rfl rfl ?_
                    refine WL.off rfl rfl rfl rfl ?_
                    refine WL.pickT rfl rfl rfl ?_
                    refine WL.assign rfl rfl ?_
                    refine WL.nil ?_
                    refine WX.next ?_
                    refine W.sub [(2, _)] (.cons rfl .nil) ?_
                    refine W.ret ?_
                    refine WX.ret1 rfl rfl ?_
                    exact ⟨congrArg Value.bool (by first | exact (decide_eq_true (hp.2 (by omega))).symm | exact (decide_eq_false (fun e => by have := hp.1 e; omega)).symm | exact decide_eq_decide.2 ⟨fun q => hp.2 (by omega), fun e => by have := hp.1 e; omega⟩), rfl⟩
                  · refine WL.on rfl rfl ?_
                    refine WL.move rfl rfl ?_
                    refine WL.on rfl rfl ?_
                    refine WL.geq rfl rfl rfl ?_
                    refine WL.on rfl rfl ?_
                    refine WL.moveIf rfl rfl (fun c9 => ?_) (fun c9 => ?_)
                    · refine WL.on rfl rfl ?_
                      refine WL.move rfl rfl ?_
                      refine WL.on rfl rfl ?_
                      refine WL.leq rfl rfl rfl ?_
                      refine WL.on rfl rfl ?_
                      refine WL.pickT rfl rfl rfl ?_
                      refine WL.pickF rfl rfl rfl ?_
                      refine WL.assign rfl rfl ?_
                      refine WL.nil ?_
                      refine WX.next ?_
                      refine W.sub [(2, _)] (.cons rfl .nil) ?_
                      refine W.ret ?_
                      refine WX.ret1 rfl rfl ?_
                      exact ⟨congrArg Value.bool (by first | exact (decide_eq_true (hp.2 (by omega))).symm | exact (decide_eq_false (fun e => by have := hp.1 e; omega)).symm | exact decide_eq_decide.2 ⟨fun q => hp.2 (by omega), fun e => by have := hp.1 e; omega⟩), rfl⟩
                    · refine WL.off rfl rfl rfl rfl ?_
                      refine WL.off rfl rfl rfl rfl ?_
                      refine WL.on rfl rfl ?_
                      refine WL.pickF rfl rfl rfl ?_
                      refine WL.pickF rfl rfl rfl ?_
                      refine WL.assign rfl rfl ?_
                      refine WL.nil ?_
                      refine WX.next ?_
                      refine W.sub [(2, _)] (.cons rfl .nil) ?_
                      refine W.ret ?_
                      refine WX.ret1 rfl rfl ?_
                      exact ⟨congrArg Value.bool (by first | exact (decide_eq_true (hp.2 (by omega))).symm | exact (decide_eq_false (fun e => by have := hp.1 e; omega)).symm | exact decide_eq_decide.2 ⟨fun q => hp.2 (by omega), fun e => by have := hp.1 e; omega⟩), rfl⟩
                · refine WL.off rfl rfl rfl rfl ?_
                  refine WL.off rfl rfl rfl rfl ?_
                  refine WL.on rfl rfl ?_
                  refine WL.pickF rfl rfl rfl ?_
                  refine WL.pickF rfl rfl rfl ?_
                  refine WL.move rfl rfl ?_
                  refine WL.on rfl rfl ?_
                  refine WL.move rfl rfl ?_
                  refine WL.on rfl rfl ?_
                  refine WL.geq rfl rfl rfl ?_
                  refine WL.on rfl rfl ?_
                  refine WL.moveIf rfl rfl (fun c9 => ?_) (fun c9 => ?_)
                  · refine WL.on rfl rfl ?_
                    refine WL.move rfl rfl ?_
                    refine WL.on rfl rfl ?_
                    refine WL.leq rfl rfl rfl ?_
                    refine WL.on rfl rfl ?_
                    refine WL.pickT rfl rfl rfl ?_
                    refine WL.pickF rfl rfl rfl ?_
                    refine WL.assign rfl rfl ?_
                    refine WL.nil ?_
                    refine WX.next ?_
                    refine W.sub [(2, _)] (.cons rfl .nil) ?_
                    refine W.ret ?_
                    refine WX.ret1 rfl rfl ?_
                    exact ⟨congrArg Value.bool (by first | exact (decide_eq_true (hp.2 (by omega))).symm | exact (decide_eq_false (fun e => by have := hp.1 e; omega)).symm | exact decide_eq_decide.2 ⟨fun q => hp.2 (by omega), fun e => by have := hp.1 e; omega⟩), rfl⟩
                  · refine WL.off rfl rfl rfl rfl ?_
                    refine WL.off rfl rfl rfl rfl ?_
                    refine WL.on rfl rfl ?_
                    refine WL.pickF rfl rfl rfl ?_
                    refine WL.pickF rfl rfl rfl ?_
                    refine WL.assign rfl rfl ?_
                    refine WL.nil ?_
                    refine WX.next ?_
                    refine W.sub [(2, _)] (.cons rfl .nil) ?_
                    refine W.ret ?_
                    refine WX.ret1 rfl rfl ?_
                    exact ⟨congrArg Value.bool (by first | exact (decide_eq_true (hp.2 (by omega))).symm | exact (decide_eq_false (fun e => by have := hp.1 e; omega)).symm | exact decide_eq_decide.2 ⟨fun q => hp.2 (by omega), fun e => by have := hp.1 e; omega⟩), rfl⟩
            · refine WL.off rfl rfl rfl rfl ?_
              refine WL.off rfl rfl rfl rfl ?_
              refine WL.pickF rfl rfl rfl ?_
              refine WL.move rfl rfl ?_
              refine WL.on rfl rfl ?_
              refine WL.move rfl rfl ?_
              refine WL.on rfl rfl ?_
              refine WL.geq rfl rfl rfl ?_
              refine WL.on rfl rfl ?_
              refine WL.moveIf rfl rfl (fun c7 => ?_) (fun c7 => ?_)
              · refine WL.on rfl rfl ?_
                refine WL.move rfl rfl ?_
                refine WL.on rfl rfl ?_
                refine WL.leq rfl rfl rfl ?_
                refine WL.on rfl rfl ?_
                refine WL.pickT rfl rfl rfl ?_
                refine WL.pickF rfl rfl rfl ?_
                refine WL.moveIf rfl rfl (fun c8 => ?_) (fun c8 => ?_)
                · refine WL.off rfl rfl rfl rfl ?_
                  refine WL.off rfl rfl rfl rfl ?_
                  refine WL.off rfl rfl rfl rfl ?_
                  refine WL.offU rfl rfl rfl ?_
                  refine WL.offU rfl rfl rfl ?_
                  refine WL.off rfl rfl rfl rfl ?_
                  refine WL.pickT rfl rfl rfl ?_
                  refine WL.assign rfl rfl ?_
                  refine WL.nil ?_
                  refine WX.next ?_
                  refine W.sub [(2, _)] (.cons rfl .nil) ?_
                  refine W.ret ?_
                  refine WX.ret1 rfl rfl ?_
                  exact ⟨congrArg Value.bool (by first | exact (decide_eq_true (hp.2 (by omega))).symm | exact (decide_eq_false (fun e => by have := hp.1 e; omega)).symm | exact decide_eq_decide.2 ⟨fun q => hp.2 (by omega), fun e => by have := hp.1 e; omega⟩), rfl⟩
                · refine WL.on rfl rfl ?_
                  refine WL.move rfl rfl ?_
                  refine WL.on rfl rfl ?_
                  refine WL.geq rfl rfl rfl ?_
                  refine WL.on rfl rfl ?_
                  refine WL.moveIf rfl rfl (fun c9 => ?_) (fun c9 => ?_)
                  · refine WL.on rfl rfl ?_
                    refine WL.move rfl rfl ?_
                    refine WL.on rfl rfl ?_
                    refine WL.leq rfl rfl rfl ?_
                    refine WL.on rfl rfl ?_
                    refine WL.pickT rfl rfl rfl ?_
                    refine WL.pickF rfl rfl rfl ?_
                    refine WL.assign rfl rfl ?_
                    refine WL.nil ?_
                    refine WX.next ?_
                    refine W.sub [(2, _)] (.cons rfl .nil) ?_
                    refine W.ret ?_
                    refine WX.ret1 rfl rfl ?_
                    exact ⟨congrArg Value.bool (by first | exact (decide_eq_true (hp.2 (by omega))).symm | exact (decide_eq_false (fun e => by have := hp.1 e; omega)).symm | exact decide_eq_decide.2 ⟨fun q => hp.2 (by omega), fun e => by have := hp.1 e; omega⟩), rfl⟩
                  · refine WL.off rfl rfl rfl rfl ?_
                    refine WL.off rfl rfl rfl rfl ?_
                    refine WL.on rfl rfl ?_
                    refine WL.pickF rfl rfl rfl ?_
                    refine WL.pickF rfl rfl rfl ?_
                    refine WL.assign rfl rfl ?_
                    refine WL.nil ?_
                    refine WX.next ?_
                    refine W.sub [(2, _)] (.cons rfl .nil) ?_
                    refine W.ret ?_
                    refine WX.ret1 rfl rfl ?_
                    exact ⟨congrArg Value.bool (by first | exact (decide_eq_true (hp.2 (by omega))).symm | exact (decide_eq_false (fun e => by have := hp.1 e; omega)).symm | exact decide_eq_decide.2 ⟨fun q => hp.2 (by omega), fun e => by have := hp.1 e; omega⟩), rfl⟩
              · refine WL.off rfl rfl rfl rfl ?_
                refine WL.off rfl rfl rfl rfl ?_
                refine WL.on rfl rfl ?_
                refine WL.pickF rfl rfl rfl ?_
                refine WL.pickF rfl rfl rfl ?_
                refine WL.move rfl rfl ?_
                refine WL.on rfl rfl ?_
                refine WL.move rfl rfl ?_
                refine WL.on rfl rfl ?_
                refine WL.geq rfl rfl rfl ?_
                refine WL.on rfl rfl ?_
                refine WL.moveIf rfl rfl (fun c9 => ?_) (fun c9 => ?_)
                · refine WL.on rfl rfl ?_
                  refine WL.move rfl rfl ?_
                  refine WL.on rfl rfl ?_
                  refine WL.leq rfl rfl rfl ?_
                  refine WL.on rfl rfl ?_
                  refine WL.pickT rfl rfl rfl ?_
                  refine WL.pickF rfl rfl rfl ?_
                  refine WL.assign rfl rfl ?_
                  refine WL.nil ?_
                  refine WX.next ?_
                  refine W.sub [(2, _)] (.cons rfl .nil) ?_
                  refine W.ret ?_
                  refine WX.ret1 rfl rfl ?_
                  exact ⟨congrArg Value.bool (by first | exact (decide_eq_true (hp.2 (by omega))).symm | exact (decide_eq_false (fun e => by have := hp.1 e; omega)).symm | exact decide_eq_decide.2 ⟨fun q => hp.2 (by omega), fun e => by have := hp.1 e; omega⟩), rfl⟩
                · refine WL.off rfl rfl rfl rfl ?_
                  refine WL.off rfl rfl rfl rfl ?_
                  refine WL.on rfl rfl ?_
                  refine WL.pickF rfl rfl rfl ?_
                  refine WL.pickF rfl rfl rfl ?_
                  refine WL.assign rfl rfl ?_
                  refine WL.nil ?_
                  refine WX.next ?_
                  refine W.sub [(2, _)] (.cons rfl .nil) ?_
                  refine W.ret ?_
                  refine WX.ret1 rfl rfl ?_
                  exact ⟨congrArg Value.bool (by first | exact (decide_eq_true (hp.2 (by omega))).symm | exact (decide_eq_false (fun e => by have := hp.1 e; omega)).symm | exact decide_eq_decide.2 ⟨fun q => hp.2 (by omega), fun e => by have := hp.1 e; omega⟩), rfl⟩
theorem str_at {l : List UInt8} {i : Nat} (h : i < l.length) : l[((i : Nat) : Int).toNat]? = some (el l i) := by
  rw [Int.toNat_natCast]
  simp [el, h]
theorem pair_ok (p : Pr) (hp1 : p.1.length ≤ 1000000) (hp2 : p.2.length ≤ 1000000) (w0 : World) : Fn Try.prog 51 [.agg #[str p.1, str p.2]] w0 fun v w' => v = .bool (decide (pairP p)) ∧ Mem w0 w' [] := by
  have M := Mem.refl w0
  obtain ⟨w, hw⟩ : ∃ w, w = w0 := ⟨w0, rfl⟩
  obtain ⟨k, u⟩ := p
  dsimp only at hp1 hp2 ⊢
  refine Fn.enter Try.func51 rfl Try.ntmps51 rfl ?_
  refine W.sub [(0, _)] (.cons rfl .nil) ?_
  refine W.seq ?_
  refine W.region ?_
  refine WL.box rfl M rfl ?_
  intro g0_0 w M
  try simp only [Value.cells] at M
  try simp only [List.toList_toArray] at M
  refine WL.assign rfl rfl ?_
  refine WL.nil ?_
  refine WX.next ?_
  refine W.sub [(1, _)] (.cons rfl .nil) ?_
  refine W.seq ?_
  refine W.seq ?_
  refine W.region ?_
  refine WL.fieldR (off := 0) Try.underlying68 rfl rfl Try.sizeOf9 rfl rfl rfl ?_
  refine WL.loadR Try.isAgg9 rfl M (by first | ((repeat (first | with_reducible exact Has.here | with_reducible refine Has.there ?_)); done) | (repeat (first | exact Has.here | refine Has.there ?_))) rfl rfl ?_
  refine WL.lenS Try.underlying9 rfl rfl ?_
  refine WL.lss rfl rfl rfl ?_
  refine WL.moveIf rfl rfl (fun c0 => ?_) (fun c0 => ?_)
  · refine WL.off rfl rfl rfl rfl ?_
    refine WL.off rfl rfl rfl rfl ?_
    refine WL.off rfl rfl rfl rfl ?_
    refine WL.off rfl rfl rfl rfl ?_
    refine WL.pickT rfl rfl rfl ?_
    refine WL.move rfl rfl ?_
    refine WL.off rfl rfl rfl rfl ?_
    refine WL.off rfl rfl rfl rfl ?_
    refine WL.off rfl rfl rfl rfl ?_
    refine WL.off rfl rfl rfl rfl ?_
    refine WL.pickT rfl rfl rfl ?_
    refine WL.nil ?_
    refine WX.next ?_
    refine W.sub [(1, _), (20, _)] (.cons rfl (.cons rfl .nil)) ?_
    refine W.condT rfl ?_
    refine W.seq ?_
    refine W.region ?_
    refine WL.assign rfl rfl ?_
    refine WL.nil ?_
    refine WX.next ?_
    refine W.sub [(2, _)] (.cons rfl .nil) ?_
    refine W.ret ?_
    refine WX.thenRet ?_
    refine WX.ret1 rfl rfl ?_
    have hn : ¬ pairP (k, u) := by
      rintro ⟨⟨h1, h2, -⟩, -, h3⟩
      have h4 := List.length_pos_iff.2 h1
      dsimp only at h1 h2 h3 h4
      omega
    exact ⟨by rw [decide_eq_false hn], M.sel (by first | ((repeat (first | with_reducible exact Sel.refl | with_reducible exact Sel.nil | with_reducible exact Del.here | with_reducible apply Del.there | with_reducible apply Sel.cons | with_reducible apply Sel.drop)); done) | (repeat (first | exact Sel.refl | exact Sel.nil | exact Del.here | apply Del.there | apply Sel.cons | apply Sel.drop)))⟩
  · refine WL.on rfl rfl ?_
    refine WL.fieldR (off := 0) Try.underlying68 rfl rfl Try.sizeOf9 rfl rfl rfl ?_
    refine WL.on rfl rfl ?_
    refine WL.loadR Try.isAgg9 rfl M (by first | ((repeat (first | with_reducible exact Has.here | with_reducible refine Has.there ?_)); done) | (repeat (first | exact Has.here | refine Has.there ?_))) rfl rfl ?_
    refine WL.on rfl rfl ?_
    refine WL.lenS Try.underlying9 rfl rfl ?_
    refine WL.on rfl rfl ?_
    refine WL.gtr rfl rfl rfl ?_
    refine WL.pickF rfl rfl rfl ?_
    refine WL.moveIf rfl rfl (fun c1 => ?_) (fun c1 => ?_)
    · refine WL.off rfl rfl rfl rfl ?_
      refine WL.off rfl rfl rfl rfl ?_
      refine WL.off rfl rfl rfl rfl ?_
      refine WL.off rfl rfl rfl rfl ?_
      refine WL.pickT rfl rfl rfl ?_
      refine WL.nil ?_
      refine WX.next ?_
      refine W.sub [(1, _), (20, _)] (.cons rfl (.cons rfl .nil)) ?_
      refine W.condT rfl ?_
      refine W.seq ?_
      refine W.region ?_
      refine WL.assign rfl rfl ?_
      refine WL.nil ?_
      refine WX.next ?_
      refine W.sub [(2, _)] (.cons rfl .nil) ?_
      refine W.ret ?_
      refine WX.thenRet ?_
      refine WX.ret1 rfl rfl ?_
      have hn : ¬ pairP (k, u) := by
        rintro ⟨⟨h1, h2, -⟩, -, h3⟩
        have h4 := List.length_pos_iff.2 h1
        dsimp only at h1 h2 h3 h4
        omega
      exact ⟨by rw [decide_eq_false hn], M.sel (by first | ((repeat (first | with_reducible exact Sel.refl | with_reducible exact Sel.nil | with_reducible exact Del.here | with_reducible apply Del.there | with_reducible apply Sel.cons | with_reducible apply Sel.drop)); done) | (repeat (first | exact Sel.refl | exact Sel.nil | exact Del.here | apply Del.there | apply Sel.cons | apply Sel.drop)))⟩
    · refine WL.on rfl rfl ?_
      refine WL.fieldR (off := 1) Try.underlying68 rfl rfl Try.sizeOf9 rfl rfl rfl ?_
      refine WL.on rfl rfl ?_
      refine WL.loadR Try.isAgg9 rfl M (by first | ((repeat (first | with_reducible exact Has.here | with_reducible refine Has.there ?_)); done) | (repeat (first | exact Has.here | refine Has.there ?_))) rfl rfl ?_
      refine WL.on rfl rfl ?_
      refine WL.lenS Try.underlying9 rfl rfl ?_
      refine WL.on rfl rfl ?_
      refine WL.gtr rfl rfl rfl ?_
      refine WL.pickF rfl rfl rfl ?_
      refine WL.nil ?_
      refine WX.next ?_
      refine W.sub [(1, _), (20, _)] (.cons rfl (.cons rfl .nil)) ?_
      refine W.ite rfl (fun c2 => ?_) (fun c2 => ?_)
      · refine W.seq ?_
        refine W.region ?_
        refine WL.assign rfl rfl ?_
        refine WL.nil ?_
        refine WX.next ?_
        refine W.sub [(2, _)] (.cons rfl .nil) ?_
        refine W.ret ?_
        refine WX.thenRet ?_
        refine WX.ret1 rfl rfl ?_
        have hn : ¬ pairP (k, u) := by
          rintro ⟨⟨h1, h2, -⟩, -, h3⟩
          have h4 := List.length_pos_iff.2 h1
          dsimp only at h1 h2 h3 h4
          omega
        exact ⟨by rw [decide_eq_false hn], M.sel (by first | ((repeat (first | with_reducible exact Sel.refl | with_reducible exact Sel.nil | with_reducible exact Del.here | with_reducible apply Del.there | with_reducible apply Sel.cons | with_reducible apply Sel.drop)); done) | (repeat (first | exact Sel.refl | exact Sel.nil | exact Del.here | apply Del.there | apply Sel.cons | apply Sel.drop)))⟩
      · skip
        refine W.skip ?_
        refine WX.next ?_
        refine W.seq ?_
        refine W.seq ?_
        have hk0 : k ≠ [] := fun e => by have e2 := congrArg List.length e; rw [List.length_nil] at e2; omega
        have hk63 : k.length ≤ 63 := by omega
        have hu255 : u.length ≤ 255 := by omega
        refine W.region ?_
        refine WL.assign rfl rfl ?_
        refine WL.nil ?_
        refine WX.next ?_
        refine W.sub [(1, _), (3, _)] (.cons rfl (.cons rfl .nil)) ?_
        refine W.block ?_
        refine W.loop (ι := Nat) (fun i => [(1, .pointer (some ⟨g0_0, 0, none⟩)), (3, .int .i64 (i : Int))]) (fun zz w => Mem w0 w ((fun _ => [Asr.row g0_0 68 [str k, str u]]) zz) ∧ (fun i => i ≤ k.length ∧ ∀ j, j < i → letterP (el k j)) zz) (fun i => k.length - i) (0) (by (repeat' (first | exact envSub.nil | refine envSub.cons ?_ ?_)) <;> first | rfl | (refine congrArg some ?_; refine congrArg (Value.int _) ?_; first | omega | (dsimp only; omega)) | (simp; done) | (refine congrArg some ?_; dsimp only; congr 1; omega) | (simp; omega)) ⟨M.sel (by first | ((repeat (first | with_reducible exact Sel.refl | with_reducible exact Sel.nil | with_reducible exact Del.here | with_reducible apply Del.there | with_reducible apply Sel.cons | with_reducible apply Sel.drop)); done) | (repeat (first | exact Sel.refl | exact Sel.nil | exact Del.here | apply Del.there | apply Sel.cons | apply Sel.drop))), ⟨Nat.zero_le _, fun j hj => absurd hj (Nat.not_lt_zero _)⟩⟩ ?_
        clear M; rintro (i) w ⟨M, ⟨hi, hkl⟩⟩; dsimp only at M hi hkl ⊢
        refine W.sub [(1, _), (3, _)] (.cons rfl (.cons rfl .nil)) ?_
        refine W.seq ?_
        refine W.seq ?_
        refine W.region ?_
        refine WL.move rfl rfl ?_
        refine WL.fieldR (off := 0) Try.underlying68 rfl rfl Try.sizeOf9 rfl rfl rfl ?_
        refine WL.loadR Try.isAgg9 rfl M (by first | ((repeat (first | with_reducible exact Has.here | with_reducible refine Has.there ?_)); done) | (repeat (first | exact Has.here | refine Has.there ?_))) rfl rfl ?_
        refine WL.lenS Try.underlying9 rfl rfl ?_
        refine WL.lss rfl rfl rfl ?_
        refine WL.nil ?_
        refine WX.next ?_
        refine W.sub [(1, _), (3, _), (25, _)] (.cons rfl (.cons rfl (.cons rfl .nil))) ?_
        refine W.ite rfl (fun c3 => ?_) (fun c3 => ?_)
        · have hik : i < k.length := by omega
          refine W.skip ?_
          refine WX.next ?_
          refine W.seq ?_
          refine W.block ?_
          refine W.seq ?_
          refine W.region ?_
          refine WL.fieldR (off := 0) Try.underlying68 rfl rfl Try.sizeOf9 rfl rfl rfl ?_
          refine WL.loadR Try.isAgg9 rfl M (by first | ((repeat (first | with_reducible exact Has.here | with_reducible refine Has.there ?_)); done) | (repeat (first | exact Has.here | refine Has.there ?_))) rfl rfl ?_
          refine WL.move rfl rfl ?_
          refine WL.indexS (b := el k i) Try.underlying9 rfl rfl (by omega) (str_at hik) rfl ?_
          refine WL.call Try.call60 rfl (letter_ok (el k i) _) rfl ?_
          rintro _ _ ⟨rfl, rfl⟩
          refine WL.notP rfl rfl ?_
          refine WL.nil ?_
          refine WX.next ?_
          refine W.sub [(1, _), (3, _), (33, _)] (.cons rfl (.cons rfl (.cons rfl .nil))) ?_
          refine W.ite rfl (fun c4 => ?_) (fun c4 => ?_)
          · refine W.seq ?_
            refine W.region ?_
            refine WL.assign rfl rfl ?_
            refine WL.nil ?_
            refine WX.next ?_
            refine W.sub [(2, _)] (.cons rfl .nil) ?_
            refine W.ret ?_
            refine WX.blockRet ?_
            refine WX.thenRet ?_
            refine WX.thenRet ?_
            refine WX.blockRet ?_
            refine WX.thenRet ?_
            refine WX.ret1 rfl rfl ?_
            have hn : ¬ pairP (k, u) := fun h => by have h5 := h.1.2.2 i hik; first | exact c4 h5 | (simp at c4; exact c4 h5)
            exact ⟨by rw [decide_eq_false hn], M.sel (by first | ((repeat (first | with_reducible exact Sel.refl | with_reducible exact Sel.nil | with_reducible exact Del.here | with_reducible apply Del.there | with_reducible apply Sel.cons | with_reducible apply Sel.drop)); done) | (repeat (first | exact Sel.refl | exact Sel.nil | exact Del.here | apply Del.there | apply Sel.cons | apply Sel.drop)))⟩
          · refine W.skip ?_
            refine WX.blockNormal ?_
            refine WX.next ?_
            refine W.region ?_
            refine WL.move rfl rfl ?_
            refine WL.add rfl rfl (by first | exact wI64 (by omega) | rfl) rfl ?_
            refine WL.assign rfl rfl ?_
            refine WL.nil ?_
            skip
            have q : ∀ j, j < i + 1 → letterP (el k j) := by
              intro j hj
              rcases Nat.lt_or_ge j i with h | h
              · exact hkl j h
              · obtain rfl : j = i := by omega
                simpa using c4
            refine WX.round (i + 1) (by (repeat' (first | exact envSub.nil | refine envSub.cons ?_ ?_)) <;> first | rfl | (refine congrArg some ?_; refine congrArg (Value.int _) ?_; first | omega | (dsimp only; omega)) | (simp; done) | (refine congrArg some ?_; dsimp only; congr 1; omega) | (simp; omega)) ⟨M.sel (by first | ((repeat (first | with_reducible exact Sel.refl | with_reducible exact Sel.nil | with_reducible exact Del.here | with_reducible apply Del.there | with_reducible apply Sel.cons | with_reducible apply Sel.drop)); done) | (repeat (first | exact Sel.refl | exact Sel.nil | exact Del.here | apply Del.there | apply Sel.cons | apply Sel.drop))), ⟨by omega, q⟩⟩ (by first | omega | (dsimp only; omega))
        · refine W.exit ?_
          refine WX.thenExit ?_
          refine WX.thenExit ?_
          refine WX.blockHere ?_
          refine WX.next ?_
          refine W.seq ?_
          refine W.seq ?_
          obtain rfl : i = k.length := by omega
          refine W.region ?_
          refine WL.assign rfl rfl ?_
          refine WL.nil ?_
          refine WX.next ?_
          refine W.sub [(1, _), (4, _)] (.cons rfl (.cons rfl .nil)) ?_
          refine W.block ?_
          refine W.loop (ι := Nat) (fun i => [(1, .pointer (some ⟨g0_0, 0, none⟩)), (4, .int .i64 (i : Int))]) (fun zz w => Mem w0 w ((fun _ => [Asr.row g0_0 68 [str k, str u]]) zz) ∧ (fun i => i ≤ u.length ∧ ∀ j, j < i → el u j ≠ 0) zz) (fun i => u.length - i) (0) (by (repeat' (first | exact envSub.nil | refine envSub.cons ?_ ?_)) <;> first | rfl | (refine congrArg some ?_; refine congrArg (Value.int _) ?_; first | omega | (dsimp only; omega)) | (simp; done) | (refine congrArg some ?_; dsimp only; congr 1; omega) | (simp; omega)) ⟨M.sel (by first | ((repeat (first | with_reducible exact Sel.refl | with_reducible exact Sel.nil | with_reducible exact Del.here | with_reducible apply Del.there | with_reducible apply Sel.cons | with_reducible apply Sel.drop)); done) | (repeat (first | exact Sel.refl | exact Sel.nil | exact Del.here | apply Del.there | apply Sel.cons | apply Sel.drop))), ⟨Nat.zero_le _, fun j hj => absurd hj (Nat.not_lt_zero _)⟩⟩ ?_
          clear M; rintro (i) w ⟨M, ⟨hi, hul⟩⟩; dsimp only at M hi hul ⊢
          refine W.sub [(1, _), (4, _)] (.cons rfl (.cons rfl .nil)) ?_
          refine W.seq ?_
          refine W.seq ?_
          refine W.region ?_
          refine WL.move rfl rfl ?_
          refine WL.fieldR (off := 1) Try.underlying68 rfl rfl Try.sizeOf9 rfl rfl rfl ?_
          refine WL.loadR Try.isAgg9 rfl M (by first | ((repeat (first | with_reducible exact Has.here | with_reducible refine Has.there ?_)); done) | (repeat (first | exact Has.here | refine Has.there ?_))) rfl rfl ?_
          refine WL.lenS Try.underlying9 rfl rfl ?_
          refine WL.lss rfl rfl rfl ?_
          refine WL.nil ?_
          refine WX.next ?_
          refine W.sub [(1, _), (4, _), (38, _)] (.cons rfl (.cons rfl (.cons rfl .nil))) ?_
          refine W.ite rfl (fun c5 => ?_) (fun c5 => ?_)
          · have hik : i < u.length := by omega
            refine W.skip ?_
            refine WX.next ?_
            refine W.seq ?_
            refine W.block ?_
            refine W.seq ?_
            refine W.region ?_
            refine WL.fieldR (off := 1) Try.underlying68 rfl rfl Try.sizeOf9 rfl rfl rfl ?_
            refine WL.loadR Try.isAgg9 rfl M (by first | ((repeat (first | with_reducible exact Has.here | with_reducible refine Has.there ?_)); done) | (repeat (first | exact Has.here | refine Has.there ?_))) rfl rfl ?_
            refine WL.move rfl rfl ?_
            refine WL.indexS (b := el u i) Try.underlying9 rfl rfl (by omega) (str_at hik) rfl ?_
            refine WL.eqI rfl rfl rfl ?_
            refine WL.nil ?_
            refine WX.next ?_
            refine W.sub [(1, _), (4, _), (45, _)] (.cons rfl (.cons rfl (.cons rfl .nil))) ?_
            refine W.ite rfl (fun c6 => ?_) (fun c6 => ?_)
            · refine W.seq ?_
              refine W.region ?_
              refine WL.assign rfl rfl ?_
              refine WL.nil ?_
              refine WX.next ?_
              refine W.sub [(2, _)] (.cons rfl .nil) ?_
              refine W.ret ?_
              refine WX.blockRet ?_
              refine WX.thenRet ?_
              refine WX.thenRet ?_
              refine WX.blockRet ?_
              refine WX.thenRet ?_
              refine WX.ret1 rfl rfl ?_
              have hn : ¬ pairP (k, u) := fun h => h.2.1 (by have e : el u i = 0 := u8_zero (by omega); rw [← e]; exact el_mem hik)
              exact ⟨by rw [decide_eq_false hn], M.sel (by first | ((repeat (first | with_reducible exact Sel.refl | with_reducible exact Sel.nil | with_reducible exact Del.here | with_reducible apply Del.there | with_reducible apply Sel.cons | with_reducible apply Sel.drop)); done) | (repeat (first | exact Sel.refl | exact Sel.nil | exact Del.here | apply Del.there | apply Sel.cons | apply Sel.drop)))⟩
            · refine W.skip ?_
              refine WX.blockNormal ?_
              refine WX.next ?_
              refine W.region ?_
              refine WL.move rfl rfl ?_
              refine WL.add rfl rfl (by first | exact wI64 (by omega) | rfl) rfl ?_
              refine WL.assign rfl rfl ?_
              refine WL.nil ?_
              skip
              have q : ∀ j, j < i + 1 → el u j ≠ 0 := by
                intro j hj
                rcases Nat.lt_or_ge j i with h | h
                · exact hul j h
                · obtain rfl : j = i := by omega
                  intro e
                  rw [e] at c6
                  exact absurd c6 (by decide)
              refine WX.round (i + 1) (by (repeat' (first | exact envSub.nil | refine envSub.cons ?_ ?_)) <;> first | rfl | (refine congrArg some ?_; refine congrArg (Value.int _) ?_; first | omega | (dsimp only; omega)) | (simp; done) | (refine congrArg some ?_; dsimp only; congr 1; omega) | (simp; omega)) ⟨M.sel (by first | ((repeat (first | with_reducible exact Sel.refl | with_reducible exact Sel.nil | with_reducible exact Del.here | with_reducible apply Del.there | with_reducible apply Sel.cons | with_reducible apply Sel.drop)); done) | (repeat (first | exact Sel.refl | exact Sel.nil | exact Del.here | apply Del.there | apply Sel.cons | apply Sel.drop))), ⟨by omega, q⟩⟩ (by first | omega | (dsimp only; omega))
          · refine W.exit ?_
            refine WX.thenExit ?_
            refine WX.thenExit ?_
            refine WX.blockHere ?_
            refine WX.next ?_
            refine W.seq ?_
            refine W.region ?_
            refine WL.assign rfl rfl ?_
            refine WL.nil ?_
            refine WX.next ?_
            refine W.sub [(2, _)] (.cons rfl .nil) ?_
            refine W.ret ?_
            refine WX.ret1 rfl rfl ?_
            obtain rfl : i = u.length := by omega
            have hy : pairP (k, u) := by
              refine ⟨⟨hk0, hk63, hkl⟩, fun h0 => ?_, hu255⟩
              obtain ⟨j, hj, e⟩ := List.getElem_of_mem h0
              exact hul j hj (by rw [← e]; simp [el, show j < u.length from hj])
            exact ⟨by rw [decide_eq_true hy], M.sel (by first | ((repeat (first | with_reducible exact Sel.refl | with_reducible exact Sel.nil | with_reducible exact Del.here | with_reducible apply Del.there | with_reducible apply Sel.cons | with_reducible apply Sel.drop)); done) | (repeat (first | exact Sel.refl | exact Sel.nil | exact Del.here | apply Del.there | apply Sel.cons | apply Sel.drop)))⟩
theorem goodP_iff (l : List Pr) (i : Nat) (hi : i ≤ l.length) : goodP l i ↔ pairP (el l i) ∧ ∀ j, j < i → (el l j).1 ≠ (el l i).1 := by
  unfold goodP
  rw [List.any_eq_false]
  constructor
  · rintro ⟨h1, h2⟩
    refine ⟨h2, fun j hj e => ?_⟩
    have hm : el l j ∈ l.take i := by
      have hjl : j < l.length := by omega
      rw [show el l j = l[j] by simp [el, hjl]]
      exact List.mem_take_iff_getElem.2 ⟨j, by omega, rfl⟩
    have := h1 _ hm
    simp [e] at this
  · rintro ⟨h1, h2⟩
    refine ⟨fun q hq => ?_, h1⟩
    obtain ⟨j, hj, rfl⟩ := List.mem_take_iff_getElem.1 hq
    have hjl : j < l.length := by omega
    have := h2 j (by omega)
    rw [show el l j = l[j] by simp [el, hjl]] at this
    simp [this]
theorem okStep {l : List Pr} {i k : Nat} (h : pairP (el l i) ∧ ∀ j, j < k → (el l j).1 ≠ (el l i).1) : (el l k).1 ≠ (el l i).1 ↔ (pairP (el l i) ∧ ∀ j, j < k + 1 → (el l j).1 ≠ (el l i).1) := by
  constructor
  · intro q
    refine ⟨h.1, fun j hj => ?_⟩
    rcases Nat.lt_or_ge j k with h1 | h1
    · exact h.2 j h1
    · obtain rfl : j = k := by omega
      exact q
  · intro q
    exact q.2 k (by omega)
theorem okStep' {l : List Pr} {i k : Nat} (h : ¬ (pairP (el l i) ∧ ∀ j, j < k → (el l j).1 ≠ (el l i).1)) : ¬ (pairP (el l i) ∧ ∀ j, j < k + 1 → (el l j).1 ≠ (el l i).1) := fun q => h ⟨q.1, fun j hj => q.2 j (by omega)⟩
set_option maxRecDepth 10000 in
theorem refPutTexts_ok {A : Option Addr} {cap : Nat} {l : List Pr} (hl : l.length ≤ 1000000) (hs : ∀ p ∈ l, p.1.length ≤ 100000 ∧ p.2.length ≤ 100000) {w0 : World} (h : RdL w0 pairE A cap l) :
    Fn Try.prog 31 [.slice A l.length cap] w0 fun v w' => ∃ x' : OX, v = .tuple #[x'.v, .int .i64 (putTE l)] ∧ Mem w0 w' [x'.O] ∧ x'.l = if putTE l = 0 then putT l else [] := by
  have M := Mem.refl w0
  obtain ⟨w, hw⟩ : ∃ w, w = w0 := ⟨w0, rfl⟩
  have bad : ∀ (e : Int) (w : World) (L : List Asr), Mem w0 w L → e ≠ 0 → putTE l = e → ∃ x' : OX, Value.tuple #[.slice none 0 0, .int .i64 e] = .tuple #[x'.v, .int .i64 (putTE l)] ∧ Mem w0 w [x'.O] ∧ x'.l = if putTE l = 0 then putT l else [] := by
    intro e w L M he hg
    exact ⟨⟨none, 0, []⟩, by rw [hg]; rfl, (M.sel (.nil)).nilOwn 5 1, by rw [hg, if_neg he]⟩
  refine Fn.enter Try.func31 rfl Try.ntmps31 rfl ?_
  refine W.sub [(0, _)] (.cons rfl .nil) ?_
  refine W.seq ?_
  refine W.region ?_
  refine WL.assign rfl rfl ?_
  refine WL.assign rfl rfl ?_
  refine WL.nil ?_
  refine WX.next ?_
  refine W.sub [(0, _)] (.cons rfl .nil) ?_
  refine W.seq ?_
  refine W.seq ?_
  refine W.region ?_
  refine WL.move rfl rfl ?_
  refine WL.len Try.underlying66 rfl rfl ?_
  refine WL.gtr rfl rfl rfl ?_
  refine WL.nil ?_
  refine WX.next ?_
  refine W.sub [(0, _), (10, _)] (.cons rfl (.cons rfl .nil)) ?_
  refine W.ite rfl (fun c0 => ?_) (fun c0 => ?_)
  · refine W.seq ?_
    refine W.region ?_
    refine WL.assign rfl rfl ?_
    refine WL.assign rfl rfl ?_
    refine WL.nil ?_
    refine WX.next ?_
    refine W.sub [(2, _), (3, _)] (.cons rfl (.cons rfl .nil)) ?_
    refine W.ret ?_
    refine WX.thenRet ?_
    refine WX.ret2 rfl rfl rfl ?_
    exact bad 200 _ _ M (by decide) (by unfold putTE; rw [if_pos (by omega)])
  · have hcap : l.length ≤ cap := Rd.le h
    have h32 : l.length ≤ 32 := by omega
    have M2 : Mem w0 _ (Asr.own 5 1 none 0 0 (bs []) :: _) := M.nilOwn 5 1
    replace M := M2
    refine W.skip ?_
    refine WX.next ?_
    refine W.seq ?_
    refine W.region ?_
    refine WL.assign rfl rfl ?_
    refine WL.nil ?_
    refine WX.next ?_
    refine W.sub [(0, _), (4, _)] (.cons rfl (.cons rfl .nil)) ?_
    refine W.seq ?_
    refine W.seq ?_
    refine W.region ?_
    refine WL.assign rfl rfl ?_
    refine WL.nil ?_
    refine WX.next ?_
    refine W.sub [(0, _), (4, _), (5, _)] (.cons rfl (.cons rfl (.cons rfl .nil))) ?_
    refine W.block ?_
    refine W.loop (ι := Nat × OX) (fun z => [(0, .slice A l.length cap), (4, .slice z.2.A z.2.l.length z.2.cap), (5, .int .i64 (z.1 : Int))]) (fun zz w => Mem w0 w ((fun z => [Asr.own 5 1 z.2.A z.2.l.length z.2.cap (bs z.2.l)]) zz) ∧ (fun z => z.1 ≤ l.length ∧ (∀ j, j < z.1 → goodP l j) ∧ z.2.l = putT (l.take z.1) ∧ z.2.l.length ≤ 320 * z.1) zz) (fun z => l.length - z.1) ((0, ⟨none, 0, []⟩)) (by (repeat' (first | exact envSub.nil | refine envSub.cons ?_ ?_)) <;> first | rfl | (refine congrArg some ?_; refine congrArg (Value.int _) ?_; first | omega | (dsimp only; omega)) | (simp; done) | (refine congrArg some ?_; dsimp only; congr 1; omega) | (simp; omega)) ⟨M.sel (by first | ((repeat (first | with_reducible exact Sel.refl | with_reducible exact Sel.nil | with_reducible exact Del.here | with_reducible apply Del.there | with_reducible apply Sel.cons | with_reducible apply Sel.drop)); done) | (repeat (first | exact Sel.refl | exact Sel.nil | exact Del.here | apply Del.there | apply Sel.cons | apply Sel.drop))), ⟨Nat.zero_le _, fun j hj => absurd hj (Nat.not_lt_zero _), rfl, Nat.le_refl _⟩⟩ ?_
    clear M; rintro (⟨i, ⟨B, cB, m⟩⟩) w ⟨M, ⟨hi, hgd, hm, hml⟩⟩; dsimp only at M hi hgd hm hml ⊢
    refine W.sub [(0, _), (4, _), (5, _)] (.cons rfl (.cons rfl (.cons rfl .nil))) ?_
    refine W.seq ?_
    refine W.seq ?_
    refine W.region ?_
    refine WL.move rfl rfl ?_
    refine WL.move rfl rfl ?_
    refine WL.len Try.underlying66 rfl rfl ?_
    refine WL.lss rfl rfl rfl ?_
    refine WL.nil ?_
    refine WX.next ?_
    refine W.sub [(0, _), (4, _), (5, _), (14, _)] (.cons rfl (.cons rfl (.cons rfl (.cons rfl .nil)))) ?_
    refine W.ite rfl (fun c1 => ?_) (fun c1 => ?_)
    · have hil : i < l.length := by omega
      have hsi := hs _ (el_mem hil)
      have hgi := goodP_iff l i hi
      refine W.skip ?_
      refine WX.next ?_
      refine W.seq ?_
      refine W.block ?_
      refine W.seq ?_
      refine W.region ?_
      refine WL.move rfl rfl ?_
      refine WL.move rfl rfl ?_
      refine WL.idxA Try.underlying66 Try.sizeOf68 rfl rfl (RdL.isSome (E := pairE) (by first | with_reducible assumption | with_reducible exact RdL.mem (by with_reducible assumption) M | exact M.rdL (by first | ((repeat (first | with_reducible exact Has.here | with_reducible refine Has.there ?_)); done) | (repeat (first | exact Has.here | refine Has.there ?_))) | exact RdLH.at (by assumption) (M.sel (by first | ((repeat (first | with_reducible exact Sel.refl | with_reducible exact Sel.nil | with_reducible exact Del.here | with_reducible apply Del.there | with_reducible apply Sel.cons | with_reducible apply Sel.drop)); done) | (repeat (first | exact Sel.refl | exact Sel.nil | exact Del.here | apply Del.there | apply Sel.cons | apply Sel.drop)))) | exact RdL.nil _ _ _) (by omega)) (by omega) (by omega) (by first | exact rfl | exact (Int.toNat_of_nonneg (by omega)).symm) rfl ?_
      refine WL.loadL (E := pairE) (cs := [_, _]) Try.isAgg68 Try.sizeOf68 rfl (by first | with_reducible assumption | with_reducible exact RdL.mem (by with_reducible assumption) M | exact M.rdL (by first | ((repeat (first | with_reducible exact Has.here | with_reducible refine Has.there ?_)); done) | (repeat (first | exact Has.here | refine Has.there ?_))) | exact RdLH.at (by assumption) (M.sel (by first | ((repeat (first | with_reducible exact Sel.refl | with_reducible exact Sel.nil | with_reducible exact Del.here | with_reducible apply Del.there | with_reducible apply Sel.cons | with_reducible apply Sel.drop)); done) | (repeat (first | exact Sel.refl | exact Sel.nil | exact Del.here | apply Del.there | apply Sel.cons | apply Sel.drop)))) | exact RdL.nil _ _ _) rfl (by omega) rfl rfl ?_
      refine WL.call Try.call51 rfl (pair_ok (el l i) (by omega) (by omega) _) rfl ?_
      rintro _ w ⟨rfl, m'⟩
      replace M := M.call0 m'; clear m'
      refine WL.assign rfl rfl ?_
      refine WL.nil ?_
      refine WX.next ?_
      refine W.sub [(0, _), (4, _), (5, _), (6, _)] (.cons rfl (.cons rfl (.cons rfl (.cons rfl .nil)))) ?_
      refine W.seq ?_
      refine W.seq ?_
      refine W.region ?_
      refine WL.assign rfl rfl ?_
      refine WL.nil ?_
      refine WX.next ?_
      refine W.sub [(0, _), (4, _), (5, _), (6, _), (7, _)] (.cons rfl (.cons rfl (.cons rfl (.cons rfl (.cons rfl .nil))))) ?_
      refine W.block ?_
      refine W.loop (ι := Nat) (fun k => [(0, .slice A l.length cap), (4, .slice B m.length cB), (5, .int .i64 (i : Int)), (6, .bool (decide (pairP (el l i) ∧ ∀ j, j < k → (el l j).1 ≠ (el l i).1))), (7, .int .i64 (k : Int))]) (fun zz w => Mem w0 w ((fun _ => [Asr.own 5 1 B m.length cB (bs m)]) zz) ∧ (fun k => k ≤ i) zz) (fun k => i - k) (0) (.cons rfl (.cons rfl (.cons rfl (.cons (congrArg some (congrArg Value.bool (decide_eq_decide.2 ⟨fun q => ⟨q, fun j hj => absurd hj (Nat.not_lt_zero _)⟩, fun q => q.1⟩))) (.cons rfl .nil))))) ⟨M.sel (by first | ((repeat (first | with_reducible exact Sel.refl | with_reducible exact Sel.nil | with_reducible exact Del.here | with_reducible apply Del.there | with_reducible apply Sel.cons | with_reducible apply Sel.drop)); done) | (repeat (first | exact Sel.refl | exact Sel.nil | exact Del.here | apply Del.there | apply Sel.cons | apply Sel.drop))), Nat.zero_le _⟩ ?_
      clear M; rintro (k) w ⟨M, hk⟩; dsimp only at M hk ⊢
      refine W.sub [(0, _), (4, _), (5, _), (6, _), (7, _)] (.cons rfl (.cons rfl (.cons rfl (.cons rfl (.cons rfl .nil))))) ?_
      refine W.seq ?_
      refine W.seq ?_
      refine W.region ?_
      refine WL.move rfl rfl ?_
      refine WL.move rfl rfl ?_
      refine WL.lss rfl rfl rfl ?_
      refine WL.nil ?_
      refine WX.next ?_
      refine W.sub [(0, _), (4, _), (5, _), (6, _), (7, _), (24, _)] (.cons rfl (.cons rfl (.cons rfl (.cons rfl (.cons rfl (.cons rfl .nil)))))) ?_
      refine W.ite rfl (fun c2 => ?_) (fun c2 => ?_)
      · have hki : k < i := by omega
        have hkl : k < l.length := by omega
        refine W.skip ?_
        refine WX.next ?_
        refine W.seq ?_
        refine W.block ?_
        refine W.drawM (_) (by kernel_rfl) (fun j => [6, 11].contains j) M Sel.refl ?_
        clear M; intro M
        apply DG.pure_ [0] 14 rfl (by kernel_rfl) (by kernel_rfl)
        · intro w
          refine WL.move rfl rfl ?_
          exact Chain.end_ rfl
        refine DG.knowP (t := 27) rfl (fun c3 => ?_) (fun c3 => ?_)
        · apply DG.pure_ [1, 2, 3, 4, 5, 7, 8, 9, 10] 5 rfl (by kernel_rfl) (by kernel_rfl)
          · intro w
            refine WL.move rfl rfl ?_
            refine WL.on rfl rfl ?_
            refine WL.move rfl rfl ?_
            refine WL.on rfl rfl ?_
            refine WL.move rfl rfl ?_
            refine WL.on rfl rfl ?_
            refine WL.idxA Try.underlying66 Try.sizeOf68 rfl rfl (RdL.isSome (E := pairE) (by first | with_reducible assumption | with_reducible exact RdL.mem (by with_reducible assumption) M | exact M.rdL (by first | ((repeat (first | with_reducible exact Has.here | with_reducible refine Has.there ?_)); done) | (repeat (first | exact Has.here | refine Has.there ?_))) | exact RdLH.at (by assumption) (M.sel (by first | ((repeat (first | with_reducible exact Sel.refl | with_reducible exact Sel.nil | with_reducible exact Del.here | with_reducible apply Del.there | with_reducible apply Sel.cons | with_reducible apply Sel.drop)); done) | (repeat (first | exact Sel.refl | exact Sel.nil | exact Del.here | apply Del.there | apply Sel.cons | apply Sel.drop)))) | exact RdL.nil _ _ _) (by omega)) (by omega) (by omega) (by first | exact rfl | exact (Int.toNat_of_nonneg (by omega)).symm) rfl ?_
            refine WL.on rfl rfl ?_
            refine WL.fieldA (off := 0) Try.underlying68 rfl rfl Try.sizeOf9 rfl rfl rfl ?_
            refine WL.on rfl rfl ?_
            refine WL.move rfl rfl ?_
            refine WL.on rfl rfl ?_
            refine WL.move rfl rfl ?_
            refine WL.on rfl rfl ?_
            refine WL.idxA Try.underlying66 Try.sizeOf68 rfl rfl (RdL.isSome (E := pairE) (by first | with_reducible assumption | with_reducible exact RdL.mem (by with_reducible assumption) M | exact M.rdL (by first | ((repeat (first | with_reducible exact Has.here | with_reducible refine Has.there ?_)); done) | (repeat (first | exact Has.here | refine Has.there ?_))) | exact RdLH.at (by assumption) (M.sel (by first | ((repeat (first | with_reducible exact Sel.refl | with_reducible exact Sel.nil | with_reducible exact Del.here | with_reducible apply Del.there | with_reducible apply Sel.cons | with_reducible apply Sel.drop)); done) | (repeat (first | exact Sel.refl | exact Sel.nil | exact Del.here | apply Del.there | apply Sel.cons | apply Sel.drop)))) | exact RdL.nil _ _ _) (by omega)) (by omega) (by omega) (by first | exact rfl | exact (Int.toNat_of_nonneg (by omega)).symm) rfl ?_
            refine WL.on rfl rfl ?_
            refine WL.fieldA (off := 0) Try.underlying68 rfl rfl Try.sizeOf9 rfl rfl rfl ?_
            exact Chain.end_ rfl
          apply DG.take [6, 11, 12, 13, 14] 0 rfl (by kernel_rfl) (by kernel_rfl) (M.sel (by first | ((repeat (first | with_reducible exact Sel.refl | with_reducible exact Sel.nil | with_reducible exact Del.here | with_reducible apply Del.there | with_reducible apply Sel.cons | with_reducible apply Sel.drop)); done) | (repeat (first | exact Sel.refl | exact Sel.nil | exact Del.here | apply Del.there | apply Sel.cons | apply Sel.drop))))
          · intro w M
            refine WL.on rfl rfl ?_
            refine WL.loadE (E := pairE) Try.isAgg9 rfl (by first | with_reducible assumption | with_reducible exact RdL.mem (by with_reducible assumption) M | exact M.rdL (by first | ((repeat (first | with_reducible exact Has.here | with_reducible refine Has.there ?_)); done) | (repeat (first | exact Has.here | refine Has.there ?_))) | exact RdLH.at (by assumption) (M.sel (by first | ((repeat (first | with_reducible exact Sel.refl | with_reducible exact Sel.nil | with_reducible exact Del.here | with_reducible apply Del.there | with_reducible apply Sel.cons | with_reducible apply Sel.drop)); done) | (repeat (first | exact Sel.refl | exact Sel.nil | exact Del.here | apply Del.there | apply Sel.cons | apply Sel.drop)))) | exact RdL.nil _ _ _) (by omega) rfl rfl ?_
            refine WL.on rfl rfl ?_
            refine WL.loadE (E := pairE) Try.isAgg9 rfl (by first | with_reducible assumption | with_reducible exact RdL.mem (by with_reducible assumption) M | exact M.rdL (by first | ((repeat (first | with_reducible exact Has.here | with_reducible refine Has.there ?_)); done) | (repeat (first | exact Has.here | refine Has.there ?_))) | exact RdLH.at (by assumption) (M.sel (by first | ((repeat (first | with_reducible exact Sel.refl | with_reducible exact Sel.nil | with_reducible exact Del.here | with_reducible apply Del.there | with_reducible apply Sel.cons | with_reducible apply Sel.drop)); done) | (repeat (first | exact Sel.refl | exact Sel.nil | exact Del.here | apply Del.there | apply Sel.cons | apply Sel.drop)))) | exact RdL.nil _ _ _) (by omega) rfl rfl ?_
            refine WL.on rfl rfl ?_
            refine WL.neS rfl rfl rfl ?_
            refine WL.pickT rfl rfl rfl ?_
            refine WL.assign rfl rfl ?_
            exact Chain.end_ rfl
          refine DG.end_ (by kernel_rfl) ?_
          refine WX.blockNormal ?_
          refine WX.next ?_
          refine W.sub [(0, _), (4, _), (5, _), (6, _), (7, _)] (.cons rfl (.cons rfl (.cons rfl (.cons rfl (.cons rfl .nil))))) ?_
          refine W.region ?_
          refine WL.move rfl rfl ?_
          refine WL.add rfl rfl (by first | exact wI64 (by omega) | rfl) rfl ?_
          refine WL.assign rfl rfl ?_
          refine WL.nil ?_
          refine WX.round (k + 1) (.cons rfl (.cons rfl (.cons rfl (.cons (by first | exact congrArg some (congrArg Value.bool (decide_eq_decide.2 (okStep c3))) | exact congrArg some (congrArg Value.bool (decide_eq_decide.2 (okStep (by simpa using c3)))) | exact congrArg some (congrArg Value.bool (decide_eq_false (okStep' c3)).symm) | exact congrArg some (congrArg Value.bool (decide_eq_false (okStep' (by simpa using c3))).symm)) (.cons (by refine congrArg some (congrArg (Value.int _) ?_); omega) .nil))))) ⟨M.sel (by first | ((repeat (first | with_reducible exact Sel.refl | with_reducible exact Sel.nil | with_reducible exact Del.here | with_reducible apply Del.there | with_reducible apply Sel.cons | with_reducible apply Sel.drop)); done) | (repeat (first | exact Sel.refl | exact Sel.nil | exact Del.here | apply Del.there | apply Sel.cons | apply Sel.drop))), (by omega)⟩ (by first | omega | (dsimp only; omega))
        · apply DG.pure_ [1, 2, 3, 4, 5, 7, 8, 9, 10] 5 rfl (by kernel_rfl) (by kernel_rfl)
          · intro w
            refine WL.move rfl rfl ?_
            refine WL.off rfl rfl rfl rfl ?_
            refine WL.off rfl rfl rfl rfl ?_
            refine WL.off rfl rfl rfl rfl ?_
            refine WL.off rfl rfl rfl rfl ?_
            refine WL.off rfl rfl rfl rfl ?_
            refine WL.off rfl rfl rfl rfl ?_
            refine WL.off rfl rfl rfl rfl ?_
            refine WL.off rfl rfl rfl rfl ?_
            exact Chain.end_ rfl
          apply DG.take [6, 11, 12, 13, 14] 0 rfl (by kernel_rfl) (by kernel_rfl) (M.sel (by first | ((repeat (first | with_reducible exact Sel.refl | with_reducible exact Sel.nil | with_reducible exact Del.here | with_reducible apply Del.there | with_reducible apply Sel.cons | with_reducible apply Sel.drop)); done) | (repeat (first | exact Sel.refl | exact Sel.nil | exact Del.here | apply Del.there | apply Sel.cons | apply Sel.drop))))
          · intro w M
            refine WL.off rfl rfl rfl rfl ?_
            refine WL.off rfl rfl rfl rfl ?_
            refine WL.off rfl rfl rfl rfl ?_
            refine WL.pickF rfl rfl rfl ?_
            refine WL.assign rfl rfl ?_
            exact Chain.end_ rfl
          refine DG.end_ (by kernel_rfl) ?_
          refine WX.blockNormal ?_
          refine WX.next ?_
          refine W.sub [(0, _), (4, _), (5, _), (6, _), (7, _)] (.cons rfl (.cons rfl (.cons rfl (.cons rfl (.cons rfl .nil))))) ?_
          refine W.region ?_
          refine WL.move rfl rfl ?_
          refine WL.add rfl rfl (by first | exact wI64 (by omega) | rfl) rfl ?_
          refine WL.assign rfl rfl ?_
          refine WL.nil ?_
          refine WX.round (k + 1) (.cons rfl (.cons rfl (.cons rfl (.cons (by first | exact congrArg some (congrArg Value.bool (decide_eq_decide.2 (okStep c3))) | exact congrArg some (congrArg Value.bool (decide_eq_decide.2 (okStep (by simpa using c3)))) | exact congrArg some (congrArg Value.bool (decide_eq_false (okStep' c3)).symm) | exact congrArg some (congrArg Value.bool (decide_eq_false (okStep' (by simpa using c3))).symm)) (.cons (by refine congrArg some (congrArg (Value.int _) ?_); omega) .nil))))) ⟨M.sel (by first | ((repeat (first | with_reducible exact Sel.refl | with_reducible exact Sel.nil | with_reducible exact Del.here | with_reducible apply Del.there | with_reducible apply Sel.cons | with_reducible apply Sel.drop)); done) | (repeat (first | exact Sel.refl | exact Sel.nil | exact Del.here | apply Del.there | apply Sel.cons | apply Sel.drop))), (by omega)⟩ (by first | omega | (dsimp only; omega))
      · refine W.exit ?_
        refine WX.thenExit ?_
        refine WX.thenExit ?_
        refine WX.blockHere ?_
        refine WX.next ?_
        refine W.seq ?_
        refine W.seq ?_
        obtain rfl : k = i := by omega
        refine W.region ?_
        refine WL.move rfl rfl ?_
        refine WL.notP rfl rfl ?_
        refine WL.nil ?_
        refine WX.next ?_
        refine W.sub [(0, _), (4, _), (5, _), (42, _)] (.cons rfl (.cons rfl (.cons rfl (.cons rfl .nil)))) ?_
        refine W.ite rfl (fun c4 => ?_) (fun c4 => ?_)
        · refine W.seq ?_
          refine W.region ?_
          refine WL.assign rfl rfl ?_
          refine WL.assign rfl rfl ?_
          refine WL.nil ?_
          refine WX.next ?_
          refine W.sub [(2, _), (3, _)] (.cons rfl (.cons rfl .nil)) ?_
          refine W.ret ?_
          refine WX.thenRet ?_
          refine WX.blockRet ?_
          refine WX.thenRet ?_
          refine WX.thenRet ?_
          refine WX.blockRet ?_
          refine WX.thenRet ?_
          refine WX.ret2 rfl rfl rfl ?_
          have hn : ¬ goodP l k := fun hg => by have q := hgi.1 hg; first | exact c4 q | (rw [decide_eq_true q] at c4; cases c4)
          exact bad 200 _ _ M (by decide) (by unfold putTE; rw [if_neg (by omega), if_pos (fun hh => hn (hh k hil))])
        · have hg : goodP l k := hgi.2 (by simpa using c4)
          have htl := txt_len (el l k)
          refine W.skip ?_
          refine WX.next ?_
          refine W.seq ?_
          refine W.region ?_
          refine WL.move rfl rfl ?_
          refine WL.move rfl rfl ?_
          refine WL.move rfl rfl ?_
          refine WL.idxA Try.underlying66 Try.sizeOf68 rfl rfl (RdL.isSome (E := pairE) (by first | with_reducible assumption | with_reducible exact RdL.mem (by with_reducible assumption) M | exact M.rdL (by first | ((repeat (first | with_reducible exact Has.here | with_reducible refine Has.there ?_)); done) | (repeat (first | exact Has.here | refine Has.there ?_))) | exact RdLH.at (by assumption) (M.sel (by first | ((repeat (first | with_reducible exact Sel.refl | with_reducible exact Sel.nil | with_reducible exact Del.here | with_reducible apply Del.there | with_reducible apply Sel.cons | with_reducible apply Sel.drop)); done) | (repeat (first | exact Sel.refl | exact Sel.nil | exact Del.here | apply Del.there | apply Sel.cons | apply Sel.drop)))) | exact RdL.nil _ _ _) (by omega)) (by omega) (by omega) (by first | exact rfl | exact (Int.toNat_of_nonneg (by omega)).symm) rfl ?_
          refine WL.fieldA (off := 0) Try.underlying68 rfl rfl Try.sizeOf9 rfl rfl rfl ?_
          refine WL.loadE (E := pairE) Try.isAgg9 rfl (by first | with_reducible assumption | with_reducible exact RdL.mem (by with_reducible assumption) M | exact M.rdL (by first | ((repeat (first | with_reducible exact Has.here | with_reducible refine Has.there ?_)); done) | (repeat (first | exact Has.here | refine Has.there ?_))) | exact RdLH.at (by assumption) (M.sel (by first | ((repeat (first | with_reducible exact Sel.refl | with_reducible exact Sel.nil | with_reducible exact Del.here | with_reducible apply Del.there | with_reducible apply Sel.cons | with_reducible apply Sel.drop)); done) | (repeat (first | exact Sel.refl | exact Sel.nil | exact Del.here | apply Del.there | apply Sel.cons | apply Sel.drop)))) | exact RdL.nil _ _ _) (by omega) rfl rfl ?_
          refine WL.appendS (s := (el l k).1) Try.elem5 Try.underlying9 rfl rfl M (by first | ((repeat (first | with_reducible exact Del.here | with_reducible apply Del.there)); done) | (repeat (first | exact Del.here | apply Del.there))) rfl (by omega) rfl ?_
          intro A14_6 cap14_6 w M
          refine WL.assign rfl rfl ?_
          refine WL.nil ?_
          refine WX.next ?_
          refine W.sub [(0, _), (4, _), (5, _)] (.cons rfl (.cons rfl (.cons rfl .nil))) ?_
          refine W.seq ?_
          refine W.region ?_
          refine WL.move rfl rfl ?_
          refine WL.buildB (es := [_]) Try.elem5 M rfl rfl (by apply BytesOf.lit (b := 61) (by decide); exact BytesOf.nil) (by rfl) rfl rfl ?_
          intro g15_1 w M
          refine WL.appendBH Try.elem5 rfl rfl M (by first | ((repeat (first | with_reducible exact Del.here | with_reducible apply Del.there)); done) | (repeat (first | exact Del.here | apply Del.there))) (by first | first | with_reducible assumption | with_reducible exact RdB.mem (by with_reducible assumption) M | exact M.rdB (by first | ((repeat (first | with_reducible exact Has.here | with_reducible refine Has.there ?_)); done) | (repeat (first | exact Has.here | refine Has.there ?_))) | exact RdH.at (by assumption) (M.sel (by first | ((repeat (first | with_reducible exact Sel.refl | with_reducible exact Sel.nil | with_reducible exact Del.here | with_reducible apply Del.there | with_reducible apply Sel.cons | with_reducible apply Sel.drop)); done) | (repeat (first | exact Sel.refl | exact Sel.nil | exact Del.here | apply Del.there | apply Sel.cons | apply Sel.drop)))) | exact M.rdLit' (by first | ((repeat (first | with_reducible exact Has.here | with_reducible refine Has.there ?_)); done) | (repeat (first | exact Has.here | refine Has.there ?_))) | exact M.rdLent (by first | ((repeat (first | with_reducible exact Has.here | with_reducible refine Has.there ?_)); done) | (repeat (first | exact Has.here | refine Has.there ?_))) | exact RdB.nil _ _ | exact RdB.sub (by first | with_reducible assumption | with_reducible exact RdB.mem (by with_reducible assumption) M | exact M.rdB (by first | ((repeat (first | with_reducible exact Has.here | with_reducible refine Has.there ?_)); done) | (repeat (first | exact Has.here | refine Has.there ?_))) | exact RdH.at (by assumption) (M.sel (by first | ((repeat (first | with_reducible exact Sel.refl | with_reducible exact Sel.nil | with_reducible exact Del.here | with_reducible apply Del.there | with_reducible apply Sel.cons | with_reducible apply Sel.drop)); done) | (repeat (first | exact Sel.refl | exact Sel.nil | exact Del.here | apply Del.there | apply Sel.cons | apply Sel.drop)))) | exact M.rdLit' (by first | ((repeat (first | with_reducible exact Has.here | with_reducible refine Has.there ?_)); done) | (repeat (first | exact Has.here | refine Has.there ?_))) | exact M.rdLent (by first | ((repeat (first | with_reducible exact Has.here | with_reducible refine Has.there ?_)); done) | (repeat (first | exact Has.here | refine Has.there ?_))) | exact RdB.nil _ _) (by omega) (by omega) | exact RdB.pre' (by first | with_reducible assumption | with_reducible exact RdB.mem (by with_reducible assumption) M | exact M.rdB (by first | ((repeat (first | with_reducible exact Has.here | with_reducible refine Has.there ?_)); done) | (repeat (first | exact Has.here | refine Has.there ?_))) | exact RdH.at (by assumption) (M.sel (by first | ((repeat (first | with_reducible exact Sel.refl | with_reducible exact Sel.nil | with_reducible exact Del.here | with_reducible apply Del.there | with_reducible apply Sel.cons | with_reducible apply Sel.drop)); done) | (repeat (first | exact Sel.refl | exact Sel.nil | exact Del.here | apply Del.there | apply Sel.cons | apply Sel.drop)))) | exact M.rdLit' (by first | ((repeat (first | with_reducible exact Has.here | with_reducible refine Has.there ?_)); done) | (repeat (first | exact Has.here | refine Has.there ?_))) | exact M.rdLent (by first | ((repeat (first | with_reducible exact Has.here | with_reducible refine Has.there ?_)); done) | (repeat (first | exact Has.here | refine Has.there ?_))) | exact RdB.nil _ _) (by omega) | exact RdB.suf (by first | with_reducible assumption | with_reducible exact RdB.mem (by with_reducible assumption) M | exact M.rdB (by first | ((repeat (first | with_reducible exact Has.here | with_reducible refine Has.there ?_)); done) | (repeat (first | exact Has.here | refine Has.there ?_))) | exact RdH.at (by assumption) (M.sel (by first | ((repeat (first | with_reducible exact Sel.refl | with_reducible exact Sel.nil | with_reducible exact Del.here | with_reducible apply Del.there | with_reducible apply Sel.cons | with_reducible apply Sel.drop)); done) | (repeat (first | exact Sel.refl | exact Sel.nil | exact Del.here | apply Del.there | apply Sel.cons | apply Sel.drop)))) | exact M.rdLit' (by first | ((repeat (first | with_reducible exact Has.here | with_reducible refine Has.there ?_)); done) | (repeat (first | exact Has.here | refine Has.there ?_))) | exact M.rdLent (by first | ((repeat (first | with_reducible exact Has.here | with_reducible refine Has.there ?_)); done) | (repeat (first | exact Has.here | refine Has.there ?_))) | exact RdB.nil _ _) (by omega)) rfl rfl (by simp; omega) rfl ?_
          intro A15_2 cap15_2 w M
          refine WL.assign rfl rfl ?_
          refine WL.nil ?_
          refine WX.next ?_
          refine W.sub [(0, _), (4, _), (5, _)] (.cons rfl (.cons rfl (.cons rfl .nil))) ?_
          refine W.seq ?_
          refine W.region ?_
          refine WL.move rfl rfl ?_
          refine WL.move rfl rfl ?_
          refine WL.move rfl rfl ?_
          refine WL.idxA Try.underlying66 Try.sizeOf68 rfl rfl (RdL.isSome (E := pairE) (by first | with_reducible assumption | with_reducible exact RdL.mem (by with_reducible assumption) M | exact M.rdL (by first | ((repeat (first | with_reducible exact Has.here | with_reducible refine Has.there ?_)); done) | (repeat (first | exact Has.here | refine Has.there ?_))) | exact RdLH.at (by assumption) (M.sel (by first | ((repeat (first | with_reducible exact Sel.refl | with_reducible exact Sel.nil | with_reducible exact Del.here | with_reducible apply Del.there | with_reducible apply Sel.cons | with_reducible apply Sel.drop)); done) | (repeat (first | exact Sel.refl | exact Sel.nil | exact Del.here | apply Del.there | apply Sel.cons | apply Sel.drop)))) | exact RdL.nil _ _ _) (by omega)) (by omega) (by omega) (by first | exact rfl | exact (Int.toNat_of_nonneg (by omega)).symm) rfl ?_
          refine WL.fieldA (off := 1) Try.underlying68 rfl rfl Try.sizeOf9 rfl rfl rfl ?_
          refine WL.loadE (E := pairE) Try.isAgg9 rfl (by first | with_reducible assumption | with_reducible exact RdL.mem (by with_reducible assumption) M | exact M.rdL (by first | ((repeat (first | with_reducible exact Has.here | with_reducible refine Has.there ?_)); done) | (repeat (first | exact Has.here | refine Has.there ?_))) | exact RdLH.at (by assumption) (M.sel (by first | ((repeat (first | with_reducible exact Sel.refl | with_reducible exact Sel.nil | with_reducible exact Del.here | with_reducible apply Del.there | with_reducible apply Sel.cons | with_reducible apply Sel.drop)); done) | (repeat (first | exact Sel.refl | exact Sel.nil | exact Del.here | apply Del.there | apply Sel.cons | apply Sel.drop)))) | exact RdL.nil _ _ _) (by omega) rfl rfl ?_
          refine WL.appendS (s := (el l k).2) Try.elem5 Try.underlying9 rfl rfl M (by first | ((repeat (first | with_reducible exact Del.here | with_reducible apply Del.there)); done) | (repeat (first | exact Del.here | apply Del.there))) rfl (by simp; omega) rfl ?_
          intro A16_6 cap16_6 w M
          refine WL.assign rfl rfl ?_
          refine WL.nil ?_
          refine WX.next ?_
          refine W.sub [(0, _), (4, _), (5, _)] (.cons rfl (.cons rfl (.cons rfl .nil))) ?_
          refine W.region ?_
          refine WL.move rfl rfl ?_
          refine WL.buildB (es := [_]) Try.elem5 M rfl rfl (by apply BytesOf.lit (b := 0) (by decide); exact BytesOf.nil) (by rfl) rfl rfl ?_
          intro g17_1 w M
          refine WL.appendBH Try.elem5 rfl rfl M (by first | ((repeat (first | with_reducible exact Del.here | with_reducible apply Del.there)); done) | (repeat (first | exact Del.here | apply Del.there))) (by first | first | with_reducible assumption | with_reducible exact RdB.mem (by with_reducible assumption) M | exact M.rdB (by first | ((repeat (first | with_reducible exact Has.here | with_reducible refine Has.there ?_)); done) | (repeat (first | exact Has.here | refine Has.there ?_))) | exact RdH.at (by assumption) (M.sel (by first | ((repeat (first | with_reducible exact Sel.refl | with_reducible exact Sel.nil | with_reducible exact Del.here | with_reducible apply Del.there | with_reducible apply Sel.cons | with_reducible apply Sel.drop)); done) | (repeat (first | exact Sel.refl | exact Sel.nil | exact Del.here | apply Del.there | apply Sel.cons | apply Sel.drop)))) | exact M.rdLit' (by first | ((repeat (first | with_reducible exact Has.here | with_reducible refine Has.there ?_)); done) | (repeat (first | exact Has.here | refine Has.there ?_))) | exact M.rdLent (by first | ((repeat (first | with_reducible exact Has.here | with_reducible refine Has.there ?_)); done) | (repeat (first | exact Has.here | refine Has.there ?_))) | exact RdB.nil _ _ | exact RdB.sub (by first | with_reducible assumption | with_reducible exact RdB.mem (by with_reducible assumption) M | exact M.rdB (by first | ((repeat (first | with_reducible exact Has.here | with_reducible refine Has.there ?_)); done) | (repeat (first | exact Has.here | refine Has.there ?_))) | exact RdH.at (by assumption) (M.sel (by first | ((repeat (first | with_reducible exact Sel.refl | with_reducible exact Sel.nil | with_reducible exact Del.here | with_reducible apply Del.there | with_reducible apply Sel.cons | with_reducible apply Sel.drop)); done) | (repeat (first | exact Sel.refl | exact Sel.nil | exact Del.here | apply Del.there | apply Sel.cons | apply Sel.drop)))) | exact M.rdLit' (by first | ((repeat (first | with_reducible exact Has.here | with_reducible refine Has.there ?_)); done) | (repeat (first | exact Has.here | refine Has.there ?_))) | exact M.rdLent (by first | ((repeat (first | with_reducible exact Has.here | with_reducible refine Has.there ?_)); done) | (repeat (first | exact Has.here | refine Has.there ?_))) | exact RdB.nil _ _) (by omega) (by omega) | exact RdB.pre' (by first | with_reducible assumption | with_reducible exact RdB.mem (by with_reducible assumption) M | exact M.rdB (by first | ((repeat (first | with_reducible exact Has.here | with_reducible refine Has.there ?_)); done) | (repeat (first | exact Has.here | refine Has.there ?_))) | exact RdH.at (by assumption) (M.sel (by first | ((repeat (first | with_reducible exact Sel.refl | with_reducible exact Sel.nil | with_reducible exact Del.here | with_reducible apply Del.there | with_reducible apply Sel.cons | with_reducible apply Sel.drop)); done) | (repeat (first | exact Sel.refl | exact Sel.nil | exact Del.here | apply Del.there | apply Sel.cons | apply Sel.drop)))) | exact M.rdLit' (by first | ((repeat (first | with_reducible exact Has.here | with_reducible refine Has.there ?_)); done) | (repeat (first | exact Has.here | refine Has.there ?_))) | exact M.rdLent (by first | ((repeat (first | with_reducible exact Has.here | with_reducible refine Has.there ?_)); done) | (repeat (first | exact Has.here | refine Has.there ?_))) | exact RdB.nil _ _) (by omega) | exact RdB.suf (by first | with_reducible assumption | with_reducible exact RdB.mem (by with_reducible assumption) M | exact M.rdB (by first | ((repeat (first | with_reducible exact Has.here | with_reducible refine Has.there ?_)); done) | (repeat (first | exact Has.here | refine Has.there ?_))) | exact RdH.at (by assumption) (M.sel (by first | ((repeat (first | with_reducible exact Sel.refl | with_reducible exact Sel.nil | with_reducible exact Del.here | with_reducible apply Del.there | with_reducible apply Sel.cons | with_reducible apply Sel.drop)); done) | (repeat (first | exact Sel.refl | exact Sel.nil | exact Del.here | apply Del.there | apply Sel.cons | apply Sel.drop)))) | exact M.rdLit' (by first | ((repeat (first | with_reducible exact Has.here | with_reducible refine Has.there ?_)); done) | (repeat (first | exact Has.here | refine Has.there ?_))) | exact M.rdLent (by first | ((repeat (first | with_reducible exact Has.here | with_reducible refine Has.there ?_)); done) | (repeat (first | exact Has.here | refine Has.there ?_))) | exact RdB.nil _ _) (by omega)) rfl rfl (by simp; omega) rfl ?_
          intro A17_2 cap17_2 w M
          refine WL.assign rfl rfl ?_
          refine WL.nil ?_
          refine WX.blockNormal ?_
          refine WX.next ?_
          refine W.sub [(0, _), (4, _), (5, _)] (.cons rfl (.cons rfl (.cons rfl .nil))) ?_
          refine W.region ?_
          refine WL.move rfl rfl ?_
          refine WL.add rfl rfl (by first | exact wI64 (by omega) | rfl) rfl ?_
          refine WL.assign rfl rfl ?_
          refine WL.nil ?_
          skip
          have q1 : ∀ j, j < k + 1 → goodP l j := by
            intro j hj
            rcases Nat.lt_or_ge j k with h | h
            · exact hgd j h
            · obtain rfl : j = k := by omega
              exact hg
          have e1 : m ++ (el l k).1 ++ [61] ++ (el l k).2 ++ [0] = m ++ txt (el l k) := by unfold txt; simp
          have q2 : m ++ txt (el l k) = putT (l.take (k + 1)) := by
            rw [take_snocP hil, hm]
            unfold putT
            simp
          have q3 : (m ++ txt (el l k)).length ≤ 320 * (k + 1) := by
            have := txt_length hg.2
            rw [List.length_append]
            omega
          rw [e1] at M ⊢
          refine WX.round ((k + 1, ⟨A17_2, cap17_2, m ++ txt (el l k)⟩)) (by (repeat' (first | exact envSub.nil | refine envSub.cons ?_ ?_)) <;> first | rfl | (refine congrArg some ?_; refine congrArg (Value.int _) ?_; first | omega | (dsimp only; omega)) | (simp; done) | (refine congrArg some ?_; dsimp only; congr 1; omega) | (simp; omega)) ⟨M.sel (by first | ((repeat (first | with_reducible exact Sel.refl | with_reducible exact Sel.nil | with_reducible exact Del.here | with_reducible apply Del.there | with_reducible apply Sel.cons | with_reducible apply Sel.drop)); done) | (repeat (first | exact Sel.refl | exact Sel.nil | exact Del.here | apply Del.there | apply Sel.cons | apply Sel.drop))), ⟨by dsimp only; omega, q1, q2, q3⟩⟩ (by first | omega | (dsimp only; omega))
    · refine W.exit ?_
      refine WX.thenExit ?_
      refine WX.thenExit ?_
      refine WX.blockHere ?_
      refine WX.next ?_
      refine W.seq ?_
      refine W.seq ?_
      obtain rfl : i = l.length := by omega
      rw [List.take_length] at hm
      refine W.region ?_
      refine WL.move rfl rfl ?_
      refine WL.len Try.underlying25 rfl rfl ?_
      refine WL.gtr rfl rfl rfl ?_
      refine WL.nil ?_
      refine WX.next ?_
      refine W.sub [(4, _), (65, _)] (.cons rfl (.cons rfl .nil)) ?_
      refine W.ite rfl (fun c5 => ?_) (fun c5 => ?_)
      · refine W.seq ?_
        refine W.region ?_
        refine WL.assign rfl rfl ?_
        refine WL.assign rfl rfl ?_
        refine WL.nil ?_
        refine WX.next ?_
        refine W.sub [(2, _), (3, _)] (.cons rfl (.cons rfl .nil)) ?_
        refine W.ret ?_
        refine WX.thenRet ?_
        refine WX.ret2 rfl rfl rfl ?_
        exact bad 3 _ _ M (by decide) (by unfold putTE; rw [if_neg (by omega), if_neg (fun hh => hh hgd), if_pos (by rw [← hm]; omega)])
      · refine W.skip ?_
        refine WX.next ?_
        refine W.seq ?_
        refine W.region ?_
        refine WL.move rfl rfl ?_
        refine WL.assign rfl rfl ?_
        refine WL.assign rfl rfl ?_
        refine WL.nil ?_
        refine WX.next ?_
        refine W.sub [(2, _), (3, _)] (.cons rfl (.cons rfl .nil)) ?_
        refine W.ret ?_
        refine WX.ret2 rfl rfl rfl ?_
        have h0 : putTE l = 0 := by unfold putTE; rw [if_neg (by omega), if_neg (fun hh => hh hgd), if_neg (by rw [← hm]; omega)]
        exact ⟨⟨B, cB, m⟩, by rw [h0]; rfl, M.sel (by first | ((repeat (first | with_reducible exact Sel.refl | with_reducible exact Sel.nil | with_reducible exact Del.here | with_reducible apply Del.there | with_reducible apply Sel.cons | with_reducible apply Sel.drop)); done) | (repeat (first | exact Sel.refl | exact Sel.nil | exact Del.here | apply Del.there | apply Sel.cons | apply Sel.drop))), by rw [h0, if_pos rfl]; exact hm⟩
end Go.Proofs.Ytinbcidgdbmcjaa
