/-
  Walk: seawalllaw02.FrameGets.
-/
import Derived.Test.YtjfbloepomnibaaKnown02
import Derived.Test.YtjfbloepomnibaaFrame4
import Derived.Test.YtjfbloepomnibaaLists2
namespace Go.Proofs.Ytjfbloepomnibaa
open Go Go.RowKit Crc Bin

theorem FrameGets_ok (l : List UInt8) (A : Option Addr) (cap : Nat) (at_ : Int) (ha : -9223372036854775808 ≤ at_ ∧ at_ ≤ 9223372036854775807) (w : World) (h : RdB w A cap l) :
    Fn Try.prog 6 [.slice A l.length cap, .int .i64 at_] w fun v w' => v = .bool true ∧ Mem w w' [] := by
  obtain ⟨k, b, to, e, hg⟩ : ∃ k b to e, getG l at_ = (k, b, to, e) := ⟨_, _, _, _, rfl⟩
  refine Fn.enter Try.func6 rfl Try.ntmps6 rfl ?_
  refine W.sub [(0, _), (1, _)] (.cons rfl (.cons rfl .nil)) ?_
  refine W.seq ?_
  refine W.region ?_
  refine WL.assign rfl rfl ?_
  refine WL.nil ?_
  refine WX.next ?_
  refine W.sub [(0, _), (1, _)] (.cons rfl (.cons rfl .nil)) ?_
  refine W.seq ?_
  refine W.seq ?_
  refine W.region ?_
  refine WL.move rfl rfl ?_
  refine WL.len Try.underlying22 rfl rfl ?_
  refine WL.gtr rfl rfl rfl ?_
  refine WL.nil ?_
  refine WX.next ?_
  refine W.sub [(0, _), (1, _), (16, _)] (.cons rfl (.cons rfl (.cons rfl .nil))) ?_
  refine W.ite rfl (fun c0 => ?_) (fun c0 => ?_)
  · refine W.seq ?_
    refine W.region ?_
    refine WL.call Try.call10 rfl (known2_ok w) rfl ?_
    rintro _ w1 ⟨rfl, m1⟩
    refine WL.assign rfl rfl ?_
    refine WL.nil ?_
    refine WX.next ?_
    refine W.sub [(4, _)] (.cons rfl .nil) ?_
    refine W.ret ?_
    refine WX.thenRet ?_
    refine WX.ret1 rfl rfl ?_
    exact ⟨by simp, m1⟩
  · refine W.skip ?_
    refine WX.next ?_
    refine W.seq ?_
    refine W.region ?_
    refine WL.move rfl rfl ?_
    refine WL.call Try.call12 rfl (Lent_ok h (by omega)) rfl ?_
    rintro _ w1 ⟨gx, sp, rfl, m1⟩
    refine WL.assign rfl rfl ?_
    refine WL.nil ?_
    refine WX.next ?_
    refine W.sub [(0, _), (1, _), (5, _)] (.cons rfl (.cons rfl (.cons rfl .nil))) ?_
    refine W.seq ?_
    refine W.region ?_
    refine WL.move rfl rfl ?_
    refine WL.move rfl rfl ?_
    refine WL.call Try.call20 rfl (Get_ok l _ _ at_ w1 (lentRd m1) (by omega) ha) rfl ?_
    rintro _ w2 hgot
    rw [hg] at hgot
    obtain ⟨A2, cap2, rfl, m2⟩ := hgot
    have M2 := m1.call m2
    refine WL.move rfl rfl ?_
    refine WL.extract rfl rfl rfl ?_
    refine WL.extract rfl rfl rfl ?_
    refine WL.extract rfl rfl rfl ?_
    refine WL.alloc Try.zeroValue38 M2 rfl ?_
    intro g3 w3 m3
    refine WL.storeW m3 Try.sizeOf38 rfl rfl (by simp [Value.cells, Value.oneCell']) rfl rfl ?_
    intro w4 m4
    refine WL.assign rfl rfl ?_
    refine WL.assign rfl rfl ?_
    refine WL.nil ?_
    refine WX.next ?_
    refine W.sub [(0, _), (1, _), (5, _), (6, _), (7, _), (8, _)] (.cons rfl (.cons rfl (.cons rfl (.cons rfl (.cons rfl (.cons rfl .nil)))))) ?_
    refine W.seq ?_
    refine W.region ?_
    refine WL.move rfl rfl ?_
    refine WL.move rfl rfl ?_
    refine WL.call Try.call21 rfl (refGet_ok l A cap at_ w4 (h.mem m4) (by omega) ha) rfl ?_
    rintro _ w5 hgot
    rw [hg] at hgot
    obtain ⟨A5, cap5, rfl, m5⟩ := hgot
    have M5 := m4.call m5
    refine WL.move rfl rfl ?_
    refine WL.extract rfl rfl rfl ?_
    refine WL.extract rfl rfl rfl ?_
    refine WL.extract rfl rfl rfl ?_
    refine WL.alloc Try.zeroValue38 M5 rfl ?_
    intro g6 w6 m6
    refine WL.storeW m6 Try.sizeOf38 rfl rfl (by simp [Value.cells, Value.oneCell']) rfl rfl ?_
    intro w7 m7
    refine WL.assign rfl rfl ?_
    refine WL.assign rfl rfl ?_
    refine WL.nil ?_
    refine WX.next ?_
    refine W.sub [(0, _), (1, _), (5, _), (6, _), (7, _), (8, _), (9, _), (10, _), (11, _)] (.cons rfl (.cons rfl (.cons rfl (.cons rfl (.cons rfl (.cons rfl (.cons rfl (.cons rfl (.cons rfl .nil))))))))) ?_
    refine W.seq ?_
    refine W.region ?_
    refine WL.fieldAddr Try.underlying38 rfl rfl (fun _ => by first | rfl | simp [fieldPlace]) rfl ?_
    refine WL.load Try.isAgg5 rfl ((m7.nth 2 rfl).cells 0 _ rfl) rfl ?_
    refine WL.fieldAddr Try.underlying38 rfl rfl (fun _ => by first | rfl | simp [fieldPlace]) rfl ?_
    refine WL.load Try.isAgg5 rfl ((m7.nth 0 rfl).cells 0 _ rfl) rfl ?_
    refine WL.eqI rfl rfl rfl ?_
    refine WL.moveIf rfl rfl (fun c1 => ?_) (fun c1 => ?_)
    · refine WL.on rfl rfl ?_
      refine WL.fieldAddr Try.underlying38 rfl rfl (fun _ => by first | rfl | simp [fieldPlace]) rfl ?_
      refine WL.on rfl rfl ?_
      refine WL.load Try.isAgg22 rfl ((m7.nth 2 rfl).cells 1 _ rfl) rfl ?_
      refine WL.on rfl rfl ?_
      refine WL.fieldAddr Try.underlying38 rfl rfl (fun _ => by first | rfl | simp [fieldPlace]) rfl ?_
      refine WL.on rfl rfl ?_
      refine WL.load Try.isAgg22 rfl ((m7.nth 0 rfl).cells 1 _ rfl) rfl ?_
      refine WL.on rfl rfl ?_
      refine WL.call Try.call17 rfl (Same_ok (l1 := b) (l2 := b) (m7.nth 3 rfl).rdOwnB (m7.nth 1 rfl).rdOwnB) rfl ?_
      rintro _ _ ⟨rfl, rfl⟩
      refine WL.pickT rfl rfl rfl ?_
      refine WL.moveIf rfl rfl (fun c2 => ?_) (fun c2 => ?_)
      · refine WL.on rfl rfl ?_
        refine WL.move rfl rfl ?_
        refine WL.on rfl rfl ?_
        refine WL.move rfl rfl ?_
        refine WL.on rfl rfl ?_
        refine WL.eqI rfl rfl rfl ?_
        refine WL.pickT rfl rfl rfl ?_
        refine WL.moveIf rfl rfl (fun c3 => ?_) (fun c3 => ?_)
        · refine WL.on rfl rfl ?_
          refine WL.move rfl rfl ?_
          refine WL.on rfl rfl ?_
          refine WL.move rfl rfl ?_
          refine WL.on rfl rfl ?_
          refine WL.eqI rfl rfl rfl ?_
          refine WL.pickT rfl rfl rfl ?_
          refine WL.assign rfl rfl ?_
          refine WL.nil ?_
          refine WX.next ?_
          refine W.sub [(0, _), (1, _), (5, _), (12, _)] (.cons rfl (.cons rfl (.cons rfl (.cons rfl .nil)))) ?_
          refine W.seq ?_
          refine W.region ?_
          refine WL.assign rfl rfl ?_
          refine WL.nil ?_
          refine WX.next ?_
          refine W.sub [(0, _), (1, _), (5, _), (12, _), (13, _)] (.cons rfl (.cons rfl (.cons rfl (.cons rfl (.cons rfl .nil))))) ?_
          refine W.seq ?_
          refine W.seq ?_
          refine W.region ?_
          refine WL.move rfl rfl ?_
          refine WL.len Try.underlying22 rfl rfl ?_
          refine WL.leq rfl rfl rfl ?_
          refine WL.nil ?_
          refine WX.next ?_
          refine W.sub [(0, _), (1, _), (5, _), (12, _), (13, _), (58, _)] (.cons rfl (.cons rfl (.cons rfl (.cons rfl (.cons rfl (.cons rfl .nil)))))) ?_
          refine W.ite rfl (fun c4 => ?_) (fun c4 => ?_)
          · skip
            refine W.region ?_
            refine WL.move rfl rfl ?_
            refine WL.move rfl rfl ?_
            refine WL.call Try.call22 rfl (Seek_ok l _ _ at_ w7 (lentRd (m7.nth 4 rfl)) (by omega) ha) rfl ?_
            rintro _ w8 ⟨rfl, m8⟩
            have M8 := m7.call m8
            refine WL.move rfl rfl ?_
            refine WL.move rfl rfl ?_
            refine WL.call Try.call23 rfl (refSeek_ok l A cap at_ w8 (h.mem M8) (by omega) ha) rfl ?_
            rintro _ w9 ⟨rfl, m9⟩
            have M9 := M8.call m9
            refine WL.eqI rfl rfl rfl ?_
            refine WL.assign rfl rfl ?_
            refine WL.nil ?_
            refine WX.next ?_
            refine W.sub [(0, _), (5, _), (12, _), (13, _)] (.cons rfl (.cons rfl (.cons rfl (.cons rfl .nil)))) ?_
            refine W.seq ?_
            refine W.region ?_
            refine WL.call Try.call10 rfl (known2_ok _) rfl ?_
            rintro _ w10 ⟨rfl, m10⟩
            have M10 := M9.call m10
            refine WL.moveIf rfl rfl (fun c5 => ?_) (fun c5 => ?_)
            · refine WL.on rfl rfl ?_
              refine WL.move rfl rfl ?_
              refine WL.pickT rfl rfl rfl ?_
              refine WL.moveIf rfl rfl (fun c6 => ?_) (fun c6 => ?_)
              · refine WL.on rfl rfl ?_
                refine WL.move rfl rfl ?_
                refine WL.pickT rfl rfl rfl ?_
                refine WL.moveIf rfl rfl (fun c7 => ?_) (fun c7 => ?_)
                · refine WL.on rfl rfl ?_
                  refine WL.move rfl rfl ?_
                  refine WL.on rfl rfl ?_
                  refine WL.move rfl rfl ?_
                  refine WL.on rfl rfl ?_
                  refine WL.call Try.call18 rfl (Whole_dec (M10.nth 4 rfl) (h.mem M10) (by omega)) rfl ?_
                  rintro _ _ ⟨rfl, rfl⟩
                  refine WL.pickT rfl rfl rfl ?_
                  refine WL.assign rfl rfl ?_
                  refine WL.nil ?_
                  refine WX.next ?_
                  refine W.sub [(4, _)] (.cons rfl .nil) ?_
                  refine W.ret ?_
                  refine WX.ret1 rfl rfl ?_
                  exact ⟨by simp, M10.nil⟩
                · exact absurd rfl c7
              · exact absurd rfl c6
            · exact absurd trivial c5
          · have M9 := m7
            refine W.skip ?_
            refine WX.next ?_
            refine W.seq ?_
            refine W.region ?_
            refine WL.call Try.call10 rfl (known2_ok _) rfl ?_
            rintro _ w10 ⟨rfl, m10⟩
            have M10 := M9.call m10
            refine WL.moveIf rfl rfl (fun c5 => ?_) (fun c5 => ?_)
            · refine WL.on rfl rfl ?_
              refine WL.move rfl rfl ?_
              refine WL.pickT rfl rfl rfl ?_
              refine WL.moveIf rfl rfl (fun c6 => ?_) (fun c6 => ?_)
              · refine WL.on rfl rfl ?_
                refine WL.move rfl rfl ?_
                refine WL.pickT rfl rfl rfl ?_
                refine WL.move rfl rfl ?_
                refine WL.on rfl rfl ?_
                refine WL.move rfl rfl ?_
                refine WL.on rfl rfl ?_
                refine WL.move rfl rfl ?_
                refine WL.on rfl rfl ?_
                refine WL.call Try.call18 rfl (Whole_dec (M10.nth 4 rfl) (h.mem M10) (by omega)) rfl ?_
                rintro _ _ ⟨rfl, rfl⟩
                refine WL.pickT rfl rfl rfl ?_
                refine WL.assign rfl rfl ?_
                refine WL.nil ?_
                refine WX.next ?_
                refine W.sub [(4, _)] (.cons rfl .nil) ?_
                refine W.ret ?_
                refine WX.ret1 rfl rfl ?_
                exact ⟨by simp, M10.nil⟩
              · exact absurd rfl c6
            · exact absurd trivial c5
        · exact absurd rfl c3
      · exact absurd rfl c2
    · exact absurd rfl c1
end Go.Proofs.Ytjfbloepomnibaa
