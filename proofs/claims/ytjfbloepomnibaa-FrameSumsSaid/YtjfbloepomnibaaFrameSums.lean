/-
  Walk: seawalllaw02.FrameSums.
-/
import Derived.Test.YtjfbloepomnibaaKnown02
import Derived.Test.YtjfbloepomnibaaLists2
namespace Go.Proofs.Ytjfbloepomnibaa
open Go Go.RowKit Crc Bin

theorem FrameSums_ok (k : UInt8) (a b : List UInt8) (A B : Option Addr) (k1 k2 : Nat) (w : World) (ha : RdB w A k1 a) (hb : RdB w B k2 b) :
    Fn Try.prog 3 [.int .u8 (k.toNat : Int), .slice A a.length k1, .slice B b.length k2] w fun v w' => v = .bool true ∧ Mem w w' [] := by
  refine Fn.enter Try.func3 rfl Try.ntmps3 rfl ?_
  refine W.sub [(0, _), (1, _), (2, _)] (.cons rfl (.cons rfl (.cons rfl .nil))) ?_
  refine W.seq ?_
  refine W.region ?_
  refine WL.assign rfl rfl ?_
  refine WL.nil ?_
  refine WX.next ?_
  refine W.sub [(0, _), (1, _), (2, _)] (.cons rfl (.cons rfl (.cons rfl .nil))) ?_
  refine W.seq ?_
  refine W.seq ?_
  refine W.region ?_
  refine WL.move rfl rfl ?_
  refine WL.len Try.underlying22 rfl rfl ?_
  refine WL.gtr rfl rfl rfl ?_
  refine WL.moveIf rfl rfl (fun c0 => ?_) (fun c0 => ?_)
  · refine WL.off rfl rfl rfl rfl ?_
    refine WL.off rfl rfl rfl rfl ?_
    refine WL.off rfl rfl rfl rfl ?_
    refine WL.pickT rfl rfl rfl ?_
    refine WL.nil ?_
    refine WX.next ?_
    refine W.sub [(0, _), (1, _), (2, _), (24, _)] (.cons rfl (.cons rfl (.cons rfl (.cons rfl .nil)))) ?_
    refine W.condT rfl ?_
    refine W.seq ?_
    refine W.region ?_
    refine WL.call Try.call10 rfl (known2_ok w) rfl ?_
    rintro _ w1 ⟨rfl, m1⟩
    refine WL.assign rfl rfl ?_
    refine WL.nil ?_
    refine WX.next ?_
    refine W.sub [(6, _)] (.cons rfl .nil) ?_
    refine W.ret ?_
    refine WX.thenRet ?_
    refine WX.ret1 rfl rfl ?_
    exact ⟨by simp, m1⟩
  · refine WL.on rfl rfl ?_
    refine WL.move rfl rfl ?_
    refine WL.on rfl rfl ?_
    refine WL.len Try.underlying22 rfl rfl ?_
    refine WL.on rfl rfl ?_
    refine WL.gtr rfl rfl rfl ?_
    refine WL.pickF rfl rfl rfl ?_
    refine WL.nil ?_
    refine WX.next ?_
    refine W.sub [(0, _), (1, _), (2, _), (24, _)] (.cons rfl (.cons rfl (.cons rfl (.cons rfl .nil)))) ?_
    refine W.ite rfl (fun c1 => ?_) (fun c1 => ?_)
    · refine W.seq ?_
      refine W.region ?_
      refine WL.call Try.call10 rfl (known2_ok w) rfl ?_
      rintro _ w1 ⟨rfl, m1⟩
      refine WL.assign rfl rfl ?_
      refine WL.nil ?_
      refine WX.next ?_
      refine W.sub [(6, _)] (.cons rfl .nil) ?_
      refine W.ret ?_
      refine WX.thenRet ?_
      refine WX.ret1 rfl rfl ?_
      exact ⟨by simp, m1⟩
    · refine W.skip ?_
      refine WX.next ?_
      refine W.seq ?_
      refine W.region ?_
      refine WL.move rfl rfl ?_
      refine WL.call Try.call11 rfl (Copy_ok ha (by omega)) rfl ?_
      rintro _ w1 ⟨A1, cap1, rfl, m1⟩
      refine WL.assign rfl rfl ?_
      refine WL.nil ?_
      refine WX.next ?_
      refine W.sub [(0, _), (1, _), (2, _), (7, _)] (.cons rfl (.cons rfl (.cons rfl (.cons rfl .nil)))) ?_
      refine W.seq ?_
      refine W.region ?_
      refine WL.move rfl rfl ?_
      refine WL.move rfl rfl ?_
      refine WL.appendB Try.elem5 rfl rfl m1 (hb.mem m1) rfl rfl (by omega) rfl ?_
      intro A2 cap2 w2 m2
      refine WL.assign rfl rfl ?_
      refine WL.nil ?_
      refine WX.next ?_
      refine W.sub [(0, _), (1, _), (2, _), (7, _)] (.cons rfl (.cons rfl (.cons rfl (.cons rfl .nil)))) ?_
      refine W.seq ?_
      refine W.region ?_
      refine WL.move rfl rfl ?_
      refine WL.call Try.call12 rfl (Lent_ok (ha.mem m2) (by omega)) rfl ?_
      rintro _ w3 ⟨gx, spx, rfl, m3⟩
      have M3 := m2.call m3
      refine WL.assign rfl rfl ?_
      refine WL.nil ?_
      refine WX.next ?_
      refine W.sub [(0, _), (1, _), (2, _), (7, _), (8, _)] (.cons rfl (.cons rfl (.cons rfl (.cons rfl (.cons rfl .nil))))) ?_
      refine W.seq ?_
      refine W.region ?_
      refine WL.move rfl rfl ?_
      refine WL.call Try.call12 rfl (Lent_ok (hb.mem M3) (by omega)) rfl ?_
      rintro _ w4 ⟨gy, spy, rfl, m4⟩
      have M4 := M3.call m4
      refine WL.assign rfl rfl ?_
      refine WL.nil ?_
      refine WX.next ?_
      refine W.sub [(0, _), (1, _), (2, _), (7, _), (8, _), (9, _)] (.cons rfl (.cons rfl (.cons rfl (.cons rfl (.cons rfl (.cons rfl .nil)))))) ?_
      refine W.seq ?_
      refine W.region ?_
      refine WL.move rfl rfl ?_
      refine WL.move rfl rfl ?_
      refine WL.buildS Try.elem22 M4 rfl rfl rfl (by simp [Value.oneCell']) rfl rfl ?_
      intro g5 w5 m5
      refine WL.call Try.call13 rfl (Sum_ok (ps := [⟨some ⟨gx, 0, none⟩, (bs (a ++ [91, 92]) ++ spx).length, a⟩, ⟨some ⟨gy, 0, none⟩, (bs (b ++ [91, 92]) ++ spy).length, b⟩]) m5.rdOwn (by
  intro x hx
  simp only [List.mem_cons, List.not_mem_nil, or_false] at hx
  rcases hx with rfl | rfl
  · exact lentRd (m5.nth 2 rfl)
  · exact lentRd (m5.nth 1 rfl)) (by simp) (by simp; omega)) rfl ?_
      rintro _ _ ⟨rfl, rfl⟩
      rw [show List.flatMap OX.l [⟨some ⟨gx, 0, none⟩, (bs (a ++ [91, 92]) ++ spx).length, a⟩, ⟨some ⟨gy, 0, none⟩, (bs (b ++ [91, 92]) ++ spy).length, b⟩] = a ++ b by simp]
      refine WL.assign rfl rfl ?_
      refine WL.nil ?_
      refine WX.next ?_
      refine W.sub [(0, _), (1, _), (2, _), (7, _), (8, _), (9, _), (10, _)] (.cons rfl (.cons rfl (.cons rfl (.cons rfl (.cons rfl (.cons rfl (.cons rfl .nil))))))) ?_
      refine W.seq ?_
      refine W.region ?_
      refine WL.move rfl rfl ?_
      refine WL.move rfl rfl ?_
      refine WL.call Try.call14 rfl (Put_ok k a _ _ w5 (lentRd (m5.nth 2 rfl))) rfl ?_
      rintro _ w6 ⟨A6, cap6, rfl, m6⟩
      have M6 := m5.call m6
      refine WL.move rfl rfl ?_
      refine WL.extract rfl rfl rfl ?_
      refine WL.extract rfl rfl rfl ?_
      refine WL.assign rfl rfl ?_
      refine WL.assign rfl rfl ?_
      refine WL.nil ?_
      refine WX.next ?_
      refine W.sub [(0, _), (1, _), (2, _), (7, _), (8, _), (9, _), (10, _), (11, _), (12, _)] (.cons rfl (.cons rfl (.cons rfl (.cons rfl (.cons rfl (.cons rfl (.cons rfl (.cons rfl (.cons rfl .nil))))))))) ?_
      refine W.seq ?_
      refine W.region ?_
      refine WL.move rfl rfl ?_
      refine WL.move rfl rfl ?_
      refine WL.call Try.call15 rfl (refPut_ok k a A k1 w6 (ha.mem M6)) rfl ?_
      rintro _ w7 ⟨A7, cap7, rfl, m7⟩
      have M7 := M6.call m7
      refine WL.move rfl rfl ?_
      refine WL.extract rfl rfl rfl ?_
      refine WL.extract rfl rfl rfl ?_
      refine WL.assign rfl rfl ?_
      refine WL.assign rfl rfl ?_
      refine WL.nil ?_
      refine WX.next ?_
      refine W.sub [(1, _), (2, _), (7, _), (8, _), (9, _), (10, _), (11, _), (12, _), (13, _), (14, _)] (.cons rfl (.cons rfl (.cons rfl (.cons rfl (.cons rfl (.cons rfl (.cons rfl (.cons rfl (.cons rfl (.cons rfl .nil)))))))))) ?_
      refine W.seq ?_
      refine W.region ?_
      refine WL.move rfl rfl ?_
      refine WL.move rfl rfl ?_
      refine WL.call Try.call16 rfl (refSum_ok (a ++ b) A2 cap2 w7 (M7.nth 5 rfl).rdOwnB (by rw [List.length_append]; omega)) rfl ?_
      rintro _ _ ⟨rfl, rfl⟩
      refine WL.eqI rfl rfl rfl ?_
      refine WL.moveIf rfl rfl (fun c2 => ?_) (fun c2 => ?_)
      · refine WL.on rfl rfl ?_
        refine WL.move rfl rfl ?_
        refine WL.on rfl rfl ?_
        refine WL.move rfl rfl ?_
        refine WL.on rfl rfl ?_
        refine WL.call Try.call17 rfl (Same_ok (l1 := putG k a) (l2 := putG k a) (M7.nth 1 rfl).rdOwnB (M7.nth 0 rfl).rdOwnB) rfl ?_
        rintro _ _ ⟨rfl, rfl⟩
        refine WL.pickT rfl rfl rfl ?_
        refine WL.moveIf rfl rfl (fun c3 => ?_) (fun c3 => ?_)
        · refine WL.on rfl rfl ?_
          refine WL.move rfl rfl ?_
          refine WL.on rfl rfl ?_
          refine WL.move rfl rfl ?_
          refine WL.on rfl rfl ?_
          refine WL.eqI rfl rfl rfl ?_
          refine WL.pickT rfl rfl rfl ?_
          refine WL.assign rfl rfl ?_
          refine WL.nil ?_
          refine WX.next ?_
          refine W.sub [(1, _), (2, _), (8, _), (9, _), (11, _), (13, _), (15, _)] (.cons rfl (.cons rfl (.cons rfl (.cons rfl (.cons rfl (.cons rfl (.cons rfl .nil))))))) ?_
          refine W.seq ?_
          refine W.region ?_
          refine WL.move rfl rfl ?_
          refine WL.move rfl rfl ?_
          refine WL.call Try.call18 rfl (Whole_dec (M7.nth 4 rfl) (ha.mem M7) (by omega)) rfl ?_
          rintro _ _ ⟨rfl, rfl⟩
          refine WL.moveIf rfl rfl (fun c4 => ?_) (fun c4 => ?_)
          · refine WL.on rfl rfl ?_
            refine WL.move rfl rfl ?_
            refine WL.on rfl rfl ?_
            refine WL.move rfl rfl ?_
            refine WL.on rfl rfl ?_
            refine WL.call Try.call18 rfl (Whole_dec (M7.nth 3 rfl) (hb.mem M7) (by omega)) rfl ?_
            rintro _ _ ⟨rfl, rfl⟩
            refine WL.pickT rfl rfl rfl ?_
            refine WL.assign rfl rfl ?_
            refine WL.nil ?_
            refine WX.next ?_
            refine W.sub [(8, _), (11, _), (13, _), (15, _), (16, _)] (.cons rfl (.cons rfl (.cons rfl (.cons rfl (.cons rfl .nil))))) ?_
            refine W.seq ?_
            refine W.region ?_
            refine WL.move rfl rfl ?_
            refine WL.call Try.call19 rfl (Spoil_ok (rest := bs [91, 92] ++ spx) (l := a) (L := [Asr.own 5 1 A7 (putG k a).length cap7 (bs (putG k a)), Asr.own 5 1 A6 (putG k a).length cap6 (bs (putG k a))]) (by have hh := M7.ord (K := [Asr.row gx 5 (bs (a ++ [91, 92]) ++ spx), _, _]) [4, 0, 1] (by decide) rfl; rw [bs_append, List.append_assoc] at hh; exact hh) (by omega)) rfl ?_
            rintro _ w8 ⟨l', hl', M8⟩
            refine WL.nil ?_
            refine WX.next ?_
            refine W.sub [(11, _), (13, _), (15, _), (16, _)] (.cons rfl (.cons rfl (.cons rfl (.cons rfl .nil)))) ?_
            refine W.seq ?_
            refine W.region ?_
            refine WL.call Try.call10 rfl (known2_ok w8) rfl ?_
            rintro _ w9 ⟨rfl, m9⟩
            have M9 := M8.call m9
            refine WL.moveIf rfl rfl (fun c5 => ?_) (fun c5 => ?_)
            · refine WL.on rfl rfl ?_
              refine WL.move rfl rfl ?_
              refine WL.pickT rfl rfl rfl ?_
              refine WL.moveIf rfl rfl (fun c6 => ?_) (fun c6 => ?_)
              · refine WL.on rfl rfl ?_
                refine WL.move rfl rfl ?_
                refine WL.pickT rfl rfl rfl ?_
                refine WL.moveIf rfl rfl (fun c7 => ?_) (fun c7 => ?_)
                · refine WL.on rfl rfl ?_
                  refine WL.move rfl rfl ?_
                  refine WL.on rfl rfl ?_
                  refine WL.move rfl rfl ?_
                  refine WL.on rfl rfl ?_
                  refine WL.call Try.call17 rfl (Same_ok (l1 := putG k a) (l2 := putG k a) (M9.nth 2 rfl).rdOwnB (M9.nth 1 rfl).rdOwnB) rfl ?_
                  rintro _ _ ⟨rfl, rfl⟩
                  refine WL.pickT rfl rfl rfl ?_
                  refine WL.assign rfl rfl ?_
                  refine WL.nil ?_
                  refine WX.next ?_
                  refine W.sub [(6, _)] (.cons rfl .nil) ?_
                  refine W.ret ?_
                  refine WX.ret1 rfl rfl ?_
                  exact ⟨by simp, M9.nil⟩
                · exact absurd trivial c7
              · exact absurd rfl c6
            · exact absurd trivial c5
          · exact absurd trivial c4
        · exact absurd rfl c3
      · exact absurd rfl c2
end Go.Proofs.Ytjfbloepomnibaa
