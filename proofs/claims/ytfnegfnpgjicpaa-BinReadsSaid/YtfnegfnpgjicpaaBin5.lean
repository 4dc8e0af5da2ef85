/-
  Walk: seawallref01.Fixed: four bytes' number, in whatever order it is worked out.
-/
import Derived.Test.YtfnegfnpgjicpaaBin4
import Derived.Test.YtfnegfnpgjicpaaDraw
namespace Go.Proofs.Ytfnegfnpgjicpaa
open Go Go.RowKit Bin

theorem refFixed_ok (l : List UInt8) (A : Option Addr) (cap : Nat) (at_ : Int) (w : World) (h : RdB w A cap l) (hl : l.length ≤ 140737488355328) (ha : -9223372036854775808 ≤ at_ ∧ at_ ≤ 9223372036854775807) :
    Fn Try.prog 32 [.slice A l.length cap, .int .i64 at_] w fun v w' => v = rdFv (rdF l at_) ∧ Mem w w' [] := by
  refine Fn.enter Try.func32 rfl Try.ntmps32 rfl ?_
  refine W.sub [(0, _), (1, _)] (.cons rfl (.cons rfl .nil)) ?_
  refine W.seq ?_
  refine W.region ?_
  refine WL.assign rfl rfl ?_
  refine WL.assign rfl rfl ?_
  refine WL.assign rfl rfl ?_
  refine WL.nil ?_
  refine WX.next ?_
  refine W.sub [(0, _), (1, _)] (.cons rfl (.cons rfl .nil)) ?_
  refine W.seq ?_
  refine W.block ?_
  refine W.seq ?_
  refine W.region ?_
  refine WL.move rfl rfl ?_
  refine WL.lss rfl rfl rfl ?_
  refine WL.moveIf rfl rfl (fun c0 => ?_) (fun c0 => ?_)
  · refine WL.off rfl rfl rfl rfl ?_
    refine WL.off rfl rfl rfl rfl ?_
    refine WL.off rfl rfl rfl rfl ?_
    refine WL.off rfl rfl rfl rfl ?_
    refine WL.pickT rfl rfl rfl ?_
    refine WL.assign rfl rfl ?_
    refine WL.nil ?_
    refine WX.next ?_
    refine W.sub [(0, _), (1, _), (7, _)] (.cons rfl (.cons rfl (.cons rfl .nil))) ?_
    refine W.condT rfl ?_
    refine W.seq ?_
    refine W.region ?_
    refine WL.assign rfl rfl ?_
    refine WL.assign rfl rfl ?_
    refine WL.assign rfl rfl ?_
    refine WL.nil ?_
    refine WX.next ?_
    refine W.sub [(4, _), (5, _), (6, _)] (.cons rfl (.cons rfl (.cons rfl .nil))) ?_
    refine W.ret ?_
    refine WX.blockRet ?_
    refine WX.thenRet ?_
    refine WX.ret3 rfl rfl rfl rfl ?_
    exact ⟨by rw [rdF_out (by omega)]; rfl, Mem.refl w⟩
  · refine WL.on rfl rfl ?_
    refine WL.move rfl rfl ?_
    refine WL.on rfl rfl ?_
    refine WL.move rfl rfl ?_
    refine WL.on rfl rfl ?_
    refine WL.len Try.underlying23 rfl rfl ?_
    refine WL.on rfl rfl ?_
    refine WL.gtr rfl rfl rfl ?_
    refine WL.pickF rfl rfl rfl ?_
    refine WL.assign rfl rfl ?_
    refine WL.nil ?_
    refine WX.next ?_
    refine W.sub [(0, _), (1, _), (7, _)] (.cons rfl (.cons rfl (.cons rfl .nil))) ?_
    refine W.ite rfl (fun c1 => ?_) (fun c1 => ?_)
    · refine W.seq ?_
      refine W.region ?_
      refine WL.assign rfl rfl ?_
      refine WL.assign rfl rfl ?_
      refine WL.assign rfl rfl ?_
      refine WL.nil ?_
      refine WX.next ?_
      refine W.sub [(4, _), (5, _), (6, _)] (.cons rfl (.cons rfl (.cons rfl .nil))) ?_
      refine W.ret ?_
      refine WX.blockRet ?_
      refine WX.thenRet ?_
      refine WX.ret3 rfl rfl rfl rfl ?_
      exact ⟨by rw [rdF_out (by omega)]; rfl, Mem.refl w⟩
    · refine W.seq ?_
      refine W.region ?_
      refine WL.move rfl rfl ?_
      refine WL.len Try.underlying23 rfl rfl ?_
      refine WL.move rfl rfl ?_
      refine WL.sub' rfl rfl (by first | exact wI64 (by omega) | rfl) rfl ?_
      refine WL.lss rfl rfl rfl ?_
      refine WL.assign rfl rfl ?_
      refine WL.nil ?_
      refine WX.next ?_
      refine W.sub [(0, _), (1, _), (16, _)] (.cons rfl (.cons rfl (.cons rfl .nil))) ?_
      refine W.ite rfl (fun c2 => ?_) (fun c2 => ?_)
      · refine W.seq ?_
        refine W.region ?_
        refine WL.assign rfl rfl ?_
        refine WL.assign rfl rfl ?_
        refine WL.assign rfl rfl ?_
        refine WL.nil ?_
        refine WX.next ?_
        refine W.sub [(4, _), (5, _), (6, _)] (.cons rfl (.cons rfl (.cons rfl .nil))) ?_
        refine W.ret ?_
        refine WX.blockRet ?_
        refine WX.thenRet ?_
        refine WX.ret3 rfl rfl rfl rfl ?_
        exact ⟨by rw [rdF_short (by omega) (by omega) (by omega)]; rfl, Mem.refl w⟩
      · obtain ⟨ad, rfl, _, hcell⟩ := h.at_ (by omega)
        obtain ⟨x0, hx0⟩ : ∃ x : Nat, (l[at_.toNat]'(by omega)).toNat = x := ⟨_, rfl⟩
        have b0 : x0 < 256 := hx0 ▸ UInt8.toNat_lt _
        have g0 : (bs l)[at_.toNat]? = some (.int .u8 (x0 : Int)) := by
          rw [bs_get, List.getElem?_eq_getElem (by omega), ← hx0]
          rfl
        obtain ⟨x1, hx1⟩ : ∃ x : Nat, (l[at_.toNat + 1]'(by omega)).toNat = x := ⟨_, rfl⟩
        have b1 : x1 < 256 := hx1 ▸ UInt8.toNat_lt _
        have g1 : (bs l)[at_.toNat + 1]? = some (.int .u8 (x1 : Int)) := by
          rw [bs_get, List.getElem?_eq_getElem (by omega), ← hx1]
          rfl
        obtain ⟨x2, hx2⟩ : ∃ x : Nat, (l[at_.toNat + 2]'(by omega)).toNat = x := ⟨_, rfl⟩
        have b2 : x2 < 256 := hx2 ▸ UInt8.toNat_lt _
        have g2 : (bs l)[at_.toNat + 2]? = some (.int .u8 (x2 : Int)) := by
          rw [bs_get, List.getElem?_eq_getElem (by omega), ← hx2]
          rfl
        obtain ⟨x3, hx3⟩ : ∃ x : Nat, (l[at_.toNat + 3]'(by omega)).toNat = x := ⟨_, rfl⟩
        have b3 : x3 < 256 := hx3 ▸ UInt8.toNat_lt _
        have g3 : (bs l)[at_.toNat + 3]? = some (.int .u8 (x3 : Int)) := by
          rw [bs_get, List.getElem?_eq_getElem (by omega), ← hx3]
          rfl
        refine W.skip ?_
        refine WX.blockNormal ?_
        refine WX.next ?_
        refine W.seq ?_
        refine W.draw (by kernel_rfl) (fun w' => ∀ j v, (bs l)[j]? = some v → w'.cell? (ad.add j) = some v) (fun j => true) ?_
        apply DG.take [0, 1, 2, 3, 4, 5, 6, 7, 8, 9, 10, 11, 12, 13, 14, 15, 16, 17, 18, 19, 20, 21, 22, 23, 24, 25, 26, 27, 28, 29, 30, 31, 32, 33] 0 rfl (by kernel_rfl) (by kernel_rfl) (hcell)
        · intro wS hS
          refine WL.move rfl rfl ?_
          refine WL.move rfl rfl ?_
          refine WL.idxP (o' := at_.toNat) Try.underlying23 Try.sizeOf5 rfl rfl (by omega) (by omega) (by omega) rfl ?_
          refine WL.load Try.isAgg5 rfl (hS _ _ g0) rfl ?_
          refine WL.conv Try.underlying5 Try.underlying41 rfl (by first | exact wU32 (by omega) | exact mU32 _ | rfl) rfl ?_
          refine WL.mul rfl rfl (by first | exact wU32 (by omega) | exact mU32 _ | rfl) rfl ?_
          refine WL.move rfl rfl ?_
          refine WL.move rfl rfl ?_
          refine WL.add rfl rfl (by first | exact wI64 (by omega) | rfl) rfl ?_
          refine WL.idxP (o' := at_.toNat + 1) Try.underlying23 Try.sizeOf5 rfl rfl (by omega) (by omega) (by omega) rfl ?_
          refine WL.load Try.isAgg5 rfl (hS _ _ g1) rfl ?_
          refine WL.conv Try.underlying5 Try.underlying41 rfl (by first | exact wU32 (by omega) | exact mU32 _ | rfl) rfl ?_
          refine WL.mul rfl rfl (by first | exact wU32 (by omega) | exact mU32 _ | rfl) rfl ?_
          refine WL.add rfl rfl (by first | exact wU32 (by omega) | exact mU32 _ | rfl) rfl ?_
          refine WL.move rfl rfl ?_
          refine WL.move rfl rfl ?_
          refine WL.add rfl rfl (by first | exact wI64 (by omega) | rfl) rfl ?_
          refine WL.idxP (o' := at_.toNat + 2) Try.underlying23 Try.sizeOf5 rfl rfl (by omega) (by omega) (by omega) rfl ?_
          refine WL.load Try.isAgg5 rfl (hS _ _ g2) rfl ?_
          refine WL.conv Try.underlying5 Try.underlying41 rfl (by first | exact wU32 (by omega) | exact mU32 _ | rfl) rfl ?_
          refine WL.mul rfl rfl (by first | exact wU32 (by omega) | exact mU32 _ | rfl) rfl ?_
          refine WL.add rfl rfl (by first | exact wU32 (by omega) | exact mU32 _ | rfl) rfl ?_
          refine WL.move rfl rfl ?_
          refine WL.move rfl rfl ?_
          refine WL.add rfl rfl (by first | exact wI64 (by omega) | rfl) rfl ?_
          refine WL.idxP (o' := at_.toNat + 3) Try.underlying23 Try.sizeOf5 rfl rfl (by omega) (by omega) (by omega) rfl ?_
          refine WL.load Try.isAgg5 rfl (hS _ _ g3) rfl ?_
          refine WL.conv Try.underlying5 Try.underlying41 rfl (by first | exact wU32 (by omega) | exact mU32 _ | rfl) rfl ?_
          refine WL.add rfl rfl (by first | exact wU32 (by omega) | exact mU32 _ | rfl) rfl ?_
          refine WL.move rfl rfl ?_
          refine WL.add rfl rfl (by first | exact wI64 (by omega) | rfl) rfl ?_
          refine WL.assign rfl rfl ?_
          refine WL.assign rfl rfl ?_
          refine WL.assign rfl rfl ?_
          exact Chain.end_ rfl
        refine DG.end_ (by kernel_rfl) ?_
        refine WX.next ?_
        refine W.sub [(4, _), (5, _), (6, _)] (.cons rfl (.cons rfl (.cons rfl .nil))) ?_
        refine W.ret ?_
        refine WX.ret3 rfl rfl rfl rfl ?_
        exact ⟨by rw [rdF_ok (by omega) (by omega)]; exact congrArg (fun x : Int => Value.tuple #[.int .u32 x, .int .i64 (at_ + 4), .int .i64 0]) (by unfold be4; rw [hx0, hx1, hx2, hx3]; omega), (Mem.refl w).drew⟩
end Go.Proofs.Ytfnegfnpgjicpaa
