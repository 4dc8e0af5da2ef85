/-
  Walk: seawalllaw02.known: what the chapter's examples fix.
-/
import Derived.Test.YtciadcalnindgaaFrame3
import Derived.Test.YtciadcalnindgaaLit
import Derived.Test.YtciadcalnindgaaOrd
namespace Go.Proofs.Ytciadcalnindgaa
open Go Go.RowKit Crc Bin

theorem putG_a : putG 1 [97] = [167, 1, 0, 0, 0, 1, 97] ++ fixed (crc [167, 1, 0, 0, 0, 1, 97]) := by decide +kernel
theorem putG_len_a : (putG 1 [97]).length = 11 := by decide +kernel
theorem getG_a0 : getG (putG 1 [97]) 0 = (1, [97], 11, 0) := by decide +kernel
theorem getG_a1 : getG (putG 1 [97]) 1 = (0, [], 0, 20) := by decide +kernel
theorem crc_ex : crc [49, 50, 51, 52, 53, 54, 55, 56, 57] = 3421780262 := by decide +kernel
theorem crc_nil : crc [] = 0 := by decide +kernel
theorem putE_a : putE [97] = 0 := by decide

theorem known2_ok (w : World) : Fn Try.prog 4 [] w fun v w' => v = .bool (decide True) ∧ Mem w w' [] := by
  refine Fn.enter Try.func4 rfl Try.ntmps4 rfl ?_
  refine W.sub [] .nil ?_
  refine W.seq ?_
  refine W.region ?_
  refine WL.assign rfl rfl ?_
  refine WL.nil ?_
  refine WX.next ?_
  refine W.sub [] .nil ?_
  refine W.seq ?_
  refine W.region ?_
  refine WL.buildS Try.elem5 (Mem.refl w) rfl rfl rfl (by simp [Value.oneCell']) rfl rfl ?_
  intro g1 w1 m1
  refine WL.convLit (l := [97]) Try.underlying22 Try.underlying5 rfl m1 rfl rfl ?_
  intro w2 m2
  refine WL.call Try.call6 rfl (Put_ok 1 [97] _ _ w2 m2.rdLit) rfl ?_
  rintro _ w3 ⟨A3, cap3, rfl, m3⟩
  have M3 := m2.call m3
  rw [putE_a]
  refine WL.move rfl rfl ?_
  refine WL.extract rfl rfl rfl ?_
  refine WL.extract rfl rfl rfl ?_
  refine WL.assign rfl rfl ?_
  refine WL.assign rfl rfl ?_
  refine WL.nil ?_
  refine WX.next ?_
  refine W.sub [(1, _), (2, _)] (.cons rfl (.cons rfl .nil)) ?_
  refine W.seq ?_
  refine W.region ?_
  refine WL.move rfl rfl ?_
  refine WL.call Try.call7 rfl (Get_ok (putG 1 [97]) A3 cap3 0 w3 M3.rdOwnB (by rw [putG_len_a]; decide) (by decide)) rfl ?_
  rintro _ w4 hgot
  rw [getG_a0] at hgot
  obtain ⟨A4, cap4, rfl, m4⟩ := hgot
  have M4 := M3.call m4
  refine WL.move rfl rfl ?_
  refine WL.extract rfl rfl rfl ?_
  refine WL.extract rfl rfl rfl ?_
  refine WL.extract rfl rfl rfl ?_
  refine WL.alloc Try.zeroValue31 M4 rfl ?_
  intro g5 w5 m5
  refine WL.storeW m5 Try.sizeOf31 rfl rfl (by simp [Value.cells, Value.oneCell']) rfl rfl ?_
  intro w6 m6
  refine WL.assign rfl rfl ?_
  refine WL.assign rfl rfl ?_
  refine WL.nil ?_
  refine WX.next ?_
  refine W.sub [(1, _), (2, _), (3, _), (4, _), (5, _)] (.cons rfl (.cons rfl (.cons rfl (.cons rfl (.cons rfl .nil))))) ?_
  refine W.seq ?_
  refine W.region ?_
  refine WL.move rfl rfl ?_
  refine WL.call Try.call7 rfl (Get_ok (putG 1 [97]) A3 cap3 1 w6 m6.f2.rdOwnB (by rw [putG_len_a]; decide) (by decide)) rfl ?_
  rintro _ w7 hgot
  rw [getG_a1] at hgot
  obtain ⟨A7, cap7, rfl, m7⟩ := hgot
  have M7 := m6.call m7
  refine WL.move rfl rfl ?_
  refine WL.extract rfl rfl rfl ?_
  refine WL.extract rfl rfl rfl ?_
  refine WL.extract rfl rfl rfl ?_
  refine WL.alloc Try.zeroValue31 M7 rfl ?_
  intro g8 w8 m8
  refine WL.storeW m8 Try.sizeOf31 rfl rfl (by simp [Value.cells, Value.oneCell']) rfl rfl ?_
  intro w9 m9
  refine WL.assign rfl rfl ?_
  refine WL.assign rfl rfl ?_
  refine WL.nil ?_
  refine WX.next ?_
  refine W.sub [(1, _), (2, _), (3, _), (4, _), (5, _), (8, _)] (.cons rfl (.cons rfl (.cons rfl (.cons rfl (.cons rfl (.cons rfl .nil)))))) ?_
  refine W.seq ?_
  refine W.region ?_
  refine WL.buildS Try.elem5 m9 rfl rfl rfl (by simp [Value.oneCell']) rfl rfl ?_
  intro g10 w10 m10
  refine WL.convLit (l := [49, 50, 51, 52]) Try.underlying22 Try.underlying5 rfl m10 rfl rfl ?_
  intro w11 m11
  refine WL.buildS Try.elem5 m11 rfl rfl rfl (by simp [Value.oneCell']) rfl rfl ?_
  intro g12 w12 m12
  refine WL.convLit (l := [53, 54, 55, 56, 57]) Try.underlying22 Try.underlying5 rfl m12 rfl rfl ?_
  intro w13 m13
  refine WL.buildS Try.elem22 m13 rfl rfl rfl (by simp [Value.oneCell']) rfl rfl ?_
  intro g14 w14 m14
  refine WL.call Try.call5 rfl (Sum_ok (ps := [⟨some ⟨g10, 0, none⟩, 4, [49, 50, 51, 52]⟩, ⟨none, 0, []⟩, ⟨some ⟨g12, 0, none⟩, 5, [53, 54, 55, 56, 57]⟩]) m14.rdOwn (by
  intro x hx
  simp only [List.mem_cons, List.not_mem_nil, or_false] at hx
  rcases hx with rfl | rfl | rfl
  · exact m14.f2.rdLit
  · exact RdB.nil _ _
  · exact m14.f1.rdLit) (by simp) (by simp)) rfl ?_
  rintro _ _ ⟨rfl, rfl⟩
  rw [show List.flatMap OX.l [⟨some ⟨g10, 0, none⟩, 4, [49, 50, 51, 52]⟩, ⟨none, 0, []⟩, ⟨some ⟨g12, 0, none⟩, 5, [53, 54, 55, 56, 57]⟩] = [49, 50, 51, 52, 53, 54, 55, 56, 57] from rfl, crc_ex]
  refine WL.eqI rfl rfl rfl ?_
  refine WL.moveIf rfl rfl (fun c0 => ?_) (fun c0 => ?_)
  · refine WL.on rfl rfl ?_
    refine WL.call Try.call5 rfl (Sum_ok (ps := []) (Rd.nil _ _ _) (by simp) (by simp) (by simp)) rfl ?_
    rintro _ _ ⟨rfl, rfl⟩
    rw [show List.flatMap OX.l [] = [] from rfl, crc_nil]
    refine WL.on rfl rfl ?_
    refine WL.eqI rfl rfl rfl ?_
    refine WL.pickT rfl rfl rfl ?_
    refine WL.moveIf rfl rfl (fun c1 => ?_) (fun c1 => ?_)
    · refine WL.on rfl rfl ?_
      refine WL.move rfl rfl ?_
      refine WL.on rfl rfl ?_
      refine WL.eqI rfl rfl rfl ?_
      refine WL.pickT rfl rfl rfl ?_
      refine WL.moveIf rfl rfl (fun c2 => ?_) (fun c2 => ?_)
      · refine WL.on rfl rfl ?_
        refine WL.move rfl rfl ?_
        refine WL.on rfl rfl ?_
        refine WL.len Try.underlying22 rfl rfl ?_
        refine WL.on rfl rfl ?_
        refine WL.eqI rfl rfl rfl ?_
        refine WL.pickT rfl rfl rfl ?_
        refine WL.assign rfl rfl ?_
        refine WL.nil ?_
        refine WX.next ?_
        refine W.sub [(3, _), (4, _), (5, _), (8, _), (9, _)] (.cons rfl (.cons rfl (.cons rfl (.cons rfl (.cons rfl .nil))))) ?_
        refine W.seq ?_
        refine W.region ?_
        refine WL.move rfl rfl ?_
        refine WL.moveIf rfl rfl (fun c3 => ?_) (fun c3 => ?_)
        · refine WL.on rfl rfl ?_
          refine WL.fieldAddr Try.underlying31 rfl rfl (fun _ => by first | rfl | simp [fieldPlace]) rfl ?_
          refine WL.on rfl rfl ?_
          refine WL.load Try.isAgg5 rfl ((m14.nth 5 rfl).cells 0 _ rfl) rfl ?_
          refine WL.on rfl rfl ?_
          refine WL.eqI rfl rfl rfl ?_
          refine WL.pickT rfl rfl rfl ?_
          refine WL.moveIf rfl rfl (fun c4 => ?_) (fun c4 => ?_)
          · refine WL.on rfl rfl ?_
            refine WL.fieldAddr Try.underlying31 rfl rfl (fun _ => by first | rfl | simp [fieldPlace]) rfl ?_
            refine WL.on rfl rfl ?_
            refine WL.load Try.isAgg22 rfl ((m14.nth 5 rfl).cells 1 _ rfl) rfl ?_
            refine WL.on rfl rfl ?_
            refine WL.toStr Try.underlying22 Try.underlying5 Try.underlying9 rfl ((m14.nth 6 rfl).rdOwnB (l := [97])) rfl rfl ?_
            refine WL.on rfl rfl ?_
            refine WL.eqS rfl rfl rfl ?_
            refine WL.pickT rfl rfl rfl ?_
            refine WL.moveIf rfl rfl (fun c5 => ?_) (fun c5 => ?_)
            · refine WL.on rfl rfl ?_
              refine WL.move rfl rfl ?_
              refine WL.on rfl rfl ?_
              refine WL.eqI rfl rfl rfl ?_
              refine WL.pickT rfl rfl rfl ?_
              refine WL.moveIf rfl rfl (fun c6 => ?_) (fun c6 => ?_)
              · refine WL.on rfl rfl ?_
                refine WL.move rfl rfl ?_
                refine WL.on rfl rfl ?_
                refine WL.eqI rfl rfl rfl ?_
                refine WL.pickT rfl rfl rfl ?_
                refine WL.moveIf rfl rfl (fun c7 => ?_) (fun c7 => ?_)
                · refine WL.on rfl rfl ?_
                  refine WL.move rfl rfl ?_
                  refine WL.on rfl rfl ?_
                  refine WL.eqI rfl rfl rfl ?_
                  refine WL.pickT rfl rfl rfl ?_
                  refine WL.assign rfl rfl ?_
                  refine WL.nil ?_
                  refine WX.next ?_
                  refine W.sub [(0, _)] (.cons rfl .nil) ?_
                  refine W.ret ?_
                  refine WX.ret1 rfl rfl ?_
                  exact ⟨by simp, m14.nil⟩
                · exact absurd rfl c7
              · exact absurd rfl c6
            · exact absurd rfl c5
          · exact absurd rfl c4
        · exact absurd (by rw [putG_len_a]; rfl) c3
      · exact absurd rfl c2
    · exact absurd rfl c1
  · exact absurd rfl c0
end Go.Proofs.Ytciadcalnindgaa
