/-
  Walk: seawalllaw01.BinOrder: a greater number has no fewer bytes; numbers below 128 have one; equal bytes are of equal numbers.
-/
import Derived.Test.YtfnegfnpgjicpaaKnown01
import Derived.Test.YtfnegfnpgjicpaaBinLaw3
namespace Go.Proofs.Ytfnegfnpgjicpaa
open Go Go.RowKit Bin

theorem BinOrder_ok (m n : Nat) (hm : m < 18446744073709551616) (hn : n < 18446744073709551616) (w : World) : Fn Try.prog 3 [.int .u64 (m : Int), .int .u64 (n : Int)] w fun v w' => v = .bool true ∧ Mem w w' [] := by
  have lm := put_length hm
  have ln := put_length hn
  have h1 : (put m).length = 1 ↔ m < 128 := by rw [lm]; exact sz_eq_one
  have h2 : m ≤ n → (put m).length ≤ (put n).length := fun h => by rw [lm, ln]; exact sz_mono h
  have d1 : decide (((put m).length : Int) = 1) = decide ((m : Int) < 128) := by rw [decide_eq_decide]; omega
  have d2 : decide ((m : Int) = n) = decide (put m = put n) := by
    rw [decide_eq_decide]
    refine ⟨fun h => ?_, fun h => by rw [put_inj hm hn h]⟩
    obtain rfl : m = n := by omega
    rfl
  refine Fn.enter Try.func3 rfl Try.ntmps3 rfl ?_
  refine W.sub [(0, _), (1, _)] (.cons rfl (.cons rfl .nil)) ?_
  refine W.seq ?_
  refine W.region ?_
  refine WL.assign rfl rfl ?_
  refine WL.nil ?_
  refine WX.next ?_
  refine W.sub [(0, _), (1, _)] (.cons rfl (.cons rfl .nil)) ?_
  refine W.seq ?_
  refine W.region ?_
  refine WL.move rfl rfl ?_
  refine WL.call Try.call10 rfl (PutUint_ok m hm w) rfl ?_
  rintro _ w1 ⟨A1, cap1, rfl, m1⟩
  refine WL.assign rfl rfl ?_
  refine WL.nil ?_
  refine WX.next ?_
  refine W.sub [(0, _), (1, _), (5, _)] (.cons rfl (.cons rfl (.cons rfl .nil))) ?_
  refine W.seq ?_
  refine W.region ?_
  refine WL.move rfl rfl ?_
  refine WL.call Try.call10 rfl (PutUint_ok n hn w1) rfl ?_
  rintro _ w2 ⟨A2, cap2, rfl, m2⟩
  have m3 := m1.call m2
  refine WL.assign rfl rfl ?_
  refine WL.nil ?_
  refine WX.next ?_
  refine W.sub [(0, _), (1, _), (5, _), (6, _)] (.cons rfl (.cons rfl (.cons rfl (.cons rfl .nil)))) ?_
  refine W.seq ?_
  refine W.seq ?_
  refine W.region ?_
  refine WL.move rfl rfl ?_
  refine WL.move rfl rfl ?_
  refine WL.leq rfl rfl rfl ?_
  refine WL.moveIf rfl rfl (fun c0 => ?_) (fun c0 => ?_)
  · refine WL.on rfl rfl ?_
    refine WL.move rfl rfl ?_
    refine WL.on rfl rfl ?_
    refine WL.len Try.underlying23 rfl rfl ?_
    refine WL.on rfl rfl ?_
    refine WL.move rfl rfl ?_
    refine WL.on rfl rfl ?_
    refine WL.len Try.underlying23 rfl rfl ?_
    refine WL.on rfl rfl ?_
    refine WL.gtr rfl rfl rfl ?_
    refine WL.pickT rfl rfl rfl ?_
    refine WL.moveIf rfl rfl (fun c1 => ?_) (fun c1 => ?_)
    · exact absurd (h2 (by omega)) (by omega)
    · refine WL.on rfl rfl ?_
      refine WL.move rfl rfl ?_
      refine WL.on rfl rfl ?_
      refine WL.len Try.underlying23 rfl rfl ?_
      refine WL.on rfl rfl ?_
      refine WL.eqI rfl rfl rfl ?_
      refine WL.on rfl rfl ?_
      refine WL.move rfl rfl ?_
      refine WL.on rfl rfl ?_
      refine WL.lss rfl rfl rfl ?_
      refine WL.on rfl rfl ?_
      refine WL.neB Try.underlying4 rfl rfl rfl ?_
      refine WL.pickF rfl rfl rfl ?_
      refine WL.nil ?_
      refine WX.next ?_
      refine W.sub [(0, _), (1, _), (5, _), (6, _), (28, _)] (.cons rfl (.cons rfl (.cons rfl (.cons rfl (.cons rfl .nil))))) ?_
      refine W.ite rfl (fun c2 => ?_) (fun c2 => ?_)
      · exact absurd d1 c2
      · refine W.skip ?_
        refine WX.next ?_
        refine W.seq ?_
        refine W.region ?_
        refine WL.call Try.call11 rfl (known_dec w2) rfl ?_
        rintro _ w3 ⟨rfl, m4⟩
        have m5 := m3.call m4
        refine WL.moveIf rfl rfl (fun c3 => ?_) (fun c3 => ?_)
        · refine WL.on rfl rfl ?_
          refine WL.move rfl rfl ?_
          refine WL.on rfl rfl ?_
          refine WL.move rfl rfl ?_
          refine WL.on rfl rfl ?_
          refine WL.eqI rfl rfl rfl ?_
          refine WL.on rfl rfl ?_
          refine WL.move rfl rfl ?_
          refine WL.on rfl rfl ?_
          refine WL.move rfl rfl ?_
          refine WL.on rfl rfl ?_
          refine WL.call Try.call12 rfl (Same_ok (l1 := put m) (l2 := put n) (m5.tail.rdOwnB (l := put m)) (m5.rdOwnB (l := put n))) rfl ?_
          rintro _ _ ⟨rfl, rfl⟩
          refine WL.on rfl rfl ?_
          refine WL.eqB Try.underlying4 rfl rfl rfl ?_
          refine WL.pickT rfl rfl rfl ?_
          refine WL.assign rfl rfl ?_
          refine WL.nil ?_
          refine WX.next ?_
          refine W.sub [(4, _)] (.cons rfl .nil) ?_
          refine W.ret ?_
          refine WX.ret1 rfl rfl ?_
          exact ⟨by rw [d2]; simp, m5.nil⟩
        · exact absurd trivial c3
  · refine WL.off rfl rfl rfl rfl ?_
    refine WL.off rfl rfl rfl rfl ?_
    refine WL.off rfl rfl rfl rfl ?_
    refine WL.off rfl rfl rfl rfl ?_
    refine WL.off rfl rfl rfl rfl ?_
    refine WL.pickF rfl rfl rfl ?_
    refine WL.move rfl rfl ?_
    refine WL.on rfl rfl ?_
    refine WL.move rfl rfl ?_
    refine WL.on rfl rfl ?_
    refine WL.len Try.underlying23 rfl rfl ?_
    refine WL.on rfl rfl ?_
    refine WL.eqI rfl rfl rfl ?_
    refine WL.on rfl rfl ?_
    refine WL.move rfl rfl ?_
    refine WL.on rfl rfl ?_
    refine WL.lss rfl rfl rfl ?_
    refine WL.on rfl rfl ?_
    refine WL.neB Try.underlying4 rfl rfl rfl ?_
    refine WL.pickF rfl rfl rfl ?_
    refine WL.nil ?_
    refine WX.next ?_
    refine W.sub [(0, _), (1, _), (5, _), (6, _), (28, _)] (.cons rfl (.cons rfl (.cons rfl (.cons rfl (.cons rfl .nil))))) ?_
    refine W.ite rfl (fun c2 => ?_) (fun c2 => ?_)
    · exact absurd d1 c2
    · refine W.skip ?_
      refine WX.next ?_
      refine W.seq ?_
      refine W.region ?_
      refine WL.call Try.call11 rfl (known_dec w2) rfl ?_
      rintro _ w3 ⟨rfl, m4⟩
      have m5 := m3.call m4
      refine WL.moveIf rfl rfl (fun c3 => ?_) (fun c3 => ?_)
      · refine WL.on rfl rfl ?_
        refine WL.move rfl rfl ?_
        refine WL.on rfl rfl ?_
        refine WL.move rfl rfl ?_
        refine WL.on rfl rfl ?_
        refine WL.eqI rfl rfl rfl ?_
        refine WL.on rfl rfl ?_
        refine WL.move rfl rfl ?_
        refine WL.on rfl rfl ?_
        refine WL.move rfl rfl ?_
        refine WL.on rfl rfl ?_
        refine WL.call Try.call12 rfl (Same_ok (l1 := put m) (l2 := put n) (m5.tail.rdOwnB (l := put m)) (m5.rdOwnB (l := put n))) rfl ?_
        rintro _ _ ⟨rfl, rfl⟩
        refine WL.on rfl rfl ?_
        refine WL.eqB Try.underlying4 rfl rfl rfl ?_
        refine WL.pickT rfl rfl rfl ?_
        refine WL.assign rfl rfl ?_
        refine WL.nil ?_
        refine WX.next ?_
        refine W.sub [(4, _)] (.cons rfl .nil) ?_
        refine W.ret ?_
        refine WX.ret1 rfl rfl ?_
        exact ⟨by rw [d2]; simp, m5.nil⟩
      · exact absurd trivial c3
end Go.Proofs.Ytfnegfnpgjicpaa
