/-
  Walk: seawalllaw01.known: what the chapter's examples fix.
-/
import Derived.Test.YtfnegfnpgjicpaaBin4
import Derived.Test.YtfnegfnpgjicpaaLists
namespace Go.Proofs.Ytfnegfnpgjicpaa
open Go Go.RowKit Bin

theorem rdU_ex1 : rdU [172, 2] 0 = (300, 2, 0) := by decide
theorem rdU_ex2 : rdU [128, 0] 0 = (0, 0, 11) := by decide
theorem rdU_ex3 : rdU [128] 0 = (0, 0, 10) := by decide
theorem rdB_ex : rdB [2, 97, 98, 99] 0 5 = ([97, 98], 3, 0) := by decide
theorem put_300 : put 300 = [172, 2] := by decide
theorem put_m1 : put (zig (-1)) = [1] := by decide

theorem known_ok (w : World) : Fn Try.prog 11 [] w fun v w' => v = .bool true ∧ Mem w w' [] := by
  have m0 := Mem.refl w
  refine Fn.enter Try.func11 rfl Try.ntmps11 rfl ?_
  refine W.sub [] .nil ?_
  refine W.seq ?_
  refine W.region ?_
  refine WL.assign rfl rfl ?_
  refine WL.nil ?_
  refine WX.next ?_
  refine W.sub [] .nil ?_
  refine W.seq ?_
  refine W.region ?_
  refine WL.buildS Try.elem5 m0 rfl rfl rfl (by simp [Value.oneCell']) rfl rfl ?_
  intro g1 w1 m1
  refine WL.call Try.call21 rfl (Uint_ok [172, 2] _ _ 0 w1 (m1.rdOwnB (l := [172, 2])) (by decide) (by decide)) rfl ?_
  rintro _ _ ⟨rfl, rfl⟩
  rw [rdU_ex1]
  refine WL.move rfl rfl ?_
  refine WL.extract rfl rfl rfl ?_
  refine WL.extract rfl rfl rfl ?_
  refine WL.extract rfl rfl rfl ?_
  refine WL.assign rfl rfl ?_
  refine WL.assign rfl rfl ?_
  refine WL.assign rfl rfl ?_
  refine WL.nil ?_
  refine WX.next ?_
  refine W.sub [(1, _), (2, _), (3, _)] (.cons rfl (.cons rfl (.cons rfl .nil))) ?_
  refine W.seq ?_
  refine W.region ?_
  refine WL.buildS Try.elem5 m1 rfl rfl rfl (by simp [Value.oneCell']) rfl rfl ?_
  intro g2 w2 m2
  refine WL.call Try.call21 rfl (Uint_ok [128, 0] _ _ 0 w2 (m2.rdOwnB (l := [128, 0])) (by decide) (by decide)) rfl ?_
  rintro _ _ ⟨rfl, rfl⟩
  rw [rdU_ex2]
  refine WL.move rfl rfl ?_
  refine WL.extract rfl rfl rfl ?_
  refine WL.extract rfl rfl rfl ?_
  refine WL.extract rfl rfl rfl ?_
  refine WL.assign rfl rfl ?_
  refine WL.assign rfl rfl ?_
  refine WL.assign rfl rfl ?_
  refine WL.nil ?_
  refine WX.next ?_
  refine W.sub [(1, _), (2, _), (3, _), (6, _)] (.cons rfl (.cons rfl (.cons rfl (.cons rfl .nil)))) ?_
  refine W.seq ?_
  refine W.region ?_
  refine WL.buildS Try.elem5 m2 rfl rfl rfl (by simp [Value.oneCell']) rfl rfl ?_
  intro g3 w3 m3
  refine WL.call Try.call21 rfl (Uint_ok [128] _ _ 0 w3 (m3.rdOwnB (l := [128])) (by decide) (by decide)) rfl ?_
  rintro _ _ ⟨rfl, rfl⟩
  rw [rdU_ex3]
  refine WL.move rfl rfl ?_
  refine WL.extract rfl rfl rfl ?_
  refine WL.extract rfl rfl rfl ?_
  refine WL.extract rfl rfl rfl ?_
  refine WL.assign rfl rfl ?_
  refine WL.assign rfl rfl ?_
  refine WL.assign rfl rfl ?_
  refine WL.nil ?_
  refine WX.next ?_
  refine W.sub [(1, _), (2, _), (3, _), (6, _), (9, _)] (.cons rfl (.cons rfl (.cons rfl (.cons rfl (.cons rfl .nil))))) ?_
  refine W.seq ?_
  refine W.region ?_
  refine WL.buildS Try.elem5 m3 rfl rfl rfl (by simp [Value.oneCell']) rfl rfl ?_
  intro g4 w4 m4
  refine WL.call Try.call14 rfl (Bytes_ok [2, 97, 98, 99] _ _ 0 5 w4 (m4.rdOwnB (l := [2, 97, 98, 99])) (by decide) (by decide) (by decide)) rfl ?_
  rintro _ w5 ⟨A5, cap5, rfl, m5⟩
  rw [rdB_ex] at m5 ⊢
  refine WL.move rfl rfl ?_
  refine WL.extract rfl rfl rfl ?_
  refine WL.extract rfl rfl rfl ?_
  refine WL.extract rfl rfl rfl ?_
  refine WL.assign rfl rfl ?_
  refine WL.assign rfl rfl ?_
  refine WL.assign rfl rfl ?_
  refine WL.nil ?_
  refine WX.next ?_
  refine W.sub [(1, _), (2, _), (3, _), (6, _), (9, _), (10, _), (11, _), (12, _)] (.cons rfl (.cons rfl (.cons rfl (.cons rfl (.cons rfl (.cons rfl (.cons rfl (.cons rfl .nil)))))))) ?_
  refine W.seq ?_
  refine W.region ?_
  refine WL.move rfl rfl ?_
  refine WL.eqI rfl rfl rfl ?_
  refine WL.moveIf rfl rfl (fun c0 => ?_) (fun c0 => ?_)
  · refine WL.on rfl rfl ?_
    refine WL.move rfl rfl ?_
    refine WL.on rfl rfl ?_
    refine WL.eqI rfl rfl rfl ?_
    refine WL.pickT rfl rfl rfl ?_
    refine WL.moveIf rfl rfl (fun c1 => ?_) (fun c1 => ?_)
    · refine WL.on rfl rfl ?_
      refine WL.move rfl rfl ?_
      refine WL.on rfl rfl ?_
      refine WL.eqI rfl rfl rfl ?_
      refine WL.pickT rfl rfl rfl ?_
      refine WL.moveIf rfl rfl (fun c2 => ?_) (fun c2 => ?_)
      · refine WL.on rfl rfl ?_
        refine WL.move rfl rfl ?_
        refine WL.on rfl rfl ?_
        refine WL.eqI rfl rfl rfl ?_
        refine WL.pickT rfl rfl rfl ?_
        refine WL.moveIf rfl rfl (fun c3 => ?_) (fun c3 => ?_)
        · refine WL.on rfl rfl ?_
          refine WL.move rfl rfl ?_
          refine WL.on rfl rfl ?_
          refine WL.eqI rfl rfl rfl ?_
          refine WL.pickT rfl rfl rfl ?_
          refine WL.assign rfl rfl ?_
          refine WL.nil ?_
          refine WX.next ?_
          refine W.sub [(10, _), (11, _), (12, _), (13, _)] (.cons rfl (.cons rfl (.cons rfl (.cons rfl .nil)))) ?_
          refine W.seq ?_
          refine W.region ?_
          refine WL.move rfl rfl ?_
          refine WL.moveIf rfl rfl (fun c4 => ?_) (fun c4 => ?_)
          · refine WL.on rfl rfl ?_
            refine WL.move rfl rfl ?_
            refine WL.on rfl rfl ?_
            refine WL.toStr Try.underlying23 Try.underlying5 Try.underlying9 rfl (m5.rdOwnB (l := [97, 98])) rfl rfl ?_
            refine WL.on rfl rfl ?_
            refine WL.eqS rfl rfl rfl ?_
            refine WL.pickT rfl rfl rfl ?_
            refine WL.moveIf rfl rfl (fun c5 => ?_) (fun c5 => ?_)
            · refine WL.on rfl rfl ?_
              refine WL.move rfl rfl ?_
              refine WL.on rfl rfl ?_
              refine WL.eqI rfl rfl rfl ?_
              refine WL.pickT rfl rfl rfl ?_
              refine WL.moveIf rfl rfl (fun c6 => ?_) (fun c6 => ?_)
              · refine WL.on rfl rfl ?_
                refine WL.move rfl rfl ?_
                refine WL.on rfl rfl ?_
                refine WL.eqI rfl rfl rfl ?_
                refine WL.pickT rfl rfl rfl ?_
                refine WL.moveIf rfl rfl (fun c7 => ?_) (fun c7 => ?_)
                · refine WL.on rfl rfl ?_
                  refine WL.call Try.call10 rfl (PutUint_ok 300 (by decide) w5) rfl ?_
                  rintro _ w6 ⟨A6, cap6, rfl, m6⟩
                  rw [put_300] at m6 ⊢
                  refine WL.on rfl rfl ?_
                  refine WL.buildS Try.elem5 m6 rfl rfl rfl (by simp [Value.oneCell']) rfl rfl ?_
                  intro g7 w7 m7
                  refine WL.on rfl rfl ?_
                  refine WL.call Try.call12 rfl (Same_ok (l1 := [172, 2]) (l2 := [172, 2]) (m7.tail.rdOwnB (l := [172, 2])) (m7.rdOwnB (l := [172, 2]))) rfl ?_
                  rintro _ _ ⟨rfl, rfl⟩
                  refine WL.pickT rfl rfl rfl ?_
                  refine WL.moveIf rfl rfl (fun c8 => ?_) (fun c8 => ?_)
                  · refine WL.on rfl rfl ?_
                    refine WL.call Try.call22 rfl (PutInt_ok (-1) (by decide) w7) rfl ?_
                    rintro _ w8 ⟨A8, cap8, rfl, m8⟩
                    rw [put_m1] at m8 ⊢
                    refine WL.on rfl rfl ?_
                    refine WL.buildS Try.elem5 m8 rfl rfl rfl (by simp [Value.oneCell']) rfl rfl ?_
                    intro g9 w9 m9
                    refine WL.on rfl rfl ?_
                    refine WL.call Try.call12 rfl (Same_ok (l1 := [1]) (l2 := [1]) (m9.tail.rdOwnB (l := [1])) (m9.rdOwnB (l := [1]))) rfl ?_
                    rintro _ _ ⟨rfl, rfl⟩
                    refine WL.pickT rfl rfl rfl ?_
                    refine WL.assign rfl rfl ?_
                    refine WL.nil ?_
                    refine WX.next ?_
                    refine W.sub [(0, _)] (.cons rfl .nil) ?_
                    refine W.ret ?_
                    refine WX.ret1 rfl rfl ?_
                    exact ⟨rfl, (((m4.call m5).call m7).call m9).nil⟩
                  · exact absurd rfl c8
                · exact absurd rfl c7
              · exact absurd rfl c6
            · exact absurd rfl c5
          · exact absurd rfl c4
        · exact absurd rfl c3
      · exact absurd rfl c2
    · exact absurd rfl c1
  · exact absurd rfl c0
/-- The same, as a test takes it. -/
theorem known_dec (w : World) : Fn Try.prog 11 [] w fun v w' => v = .bool (decide True) ∧ Mem w w' [] :=
  (known_ok w).mono fun _ _ h => ⟨by rw [h.1]; simp, h.2⟩
end Go.Proofs.Ytfnegfnpgjicpaa
