/-
  Walk: seawalllaw01.BinOne: what is read anywhere is just what is put of it.
-/
import Derived.Test.YtfnegfnpgjicpaaBinBack
namespace Go.Proofs.Ytfnegfnpgjicpaa
open Go Go.RowKit Bin

namespace Bin
theorem one_U {l : List UInt8} {at_ to : Int} {n : Nat} (hr : rdU l at_ = (n, to, 0)) :
    0 ≤ at_ ∧ at_ < to ∧ to ≤ l.length ∧ (l.drop at_.toNat).take (to.toNat - at_.toNat) = put n ∧ n < 18446744073709551616 := by
  have hlt := rdU_lt l at_
  rw [hr] at hlt
  rcases rdU_cases l at_ with ⟨n', k, e, h0, hg⟩ | ⟨e', e⟩
  · rw [e] at hr
    obtain ⟨rfl, rfl⟩ : n' = n ∧ at_ + (k : Int) = to := by simpa using hr
    obtain ⟨h1, h2, h3⟩ := getF_take hg
    rw [List.length_drop] at h3
    refine ⟨h0, by omega, by omega, ?_, hlt⟩
    rw [show (at_ + (k : Int)).toNat - at_.toNat = k by omega]
    exact h1
  · rw [e] at hr
    simp only [Prod.mk.injEq] at hr
    omega
theorem one_B {l s : List UInt8} {at_ most to : Int} (hr : rdB l at_ most = (s, to, 0)) :
    0 ≤ at_ ∧ at_ < to ∧ to ≤ l.length ∧ (l.drop at_.toNat).take (to.toNat - at_.toNat) = put s.length ++ s := by
  obtain ⟨n, t, e, hu⟩ : ∃ n t e, rdU l at_ = (n, t, e) := ⟨_, _, _, rfl⟩
  unfold rdB at hr
  rw [hu] at hr
  dsimp only at hr
  by_cases he : e = 0
  · subst he
    rw [if_neg (by simp)] at hr
    obtain ⟨h0, h1, h2, h3, h4⟩ := one_U hu
    split at hr
    · simp at hr
    · split at hr
      · simp at hr
      · obtain ⟨rfl, rfl⟩ : (l.drop t.toNat).take n = s ∧ t + (n : Int) = to := by simpa using hr
        have hs : ((l.drop t.toNat).take n).length = n := by rw [List.length_take, List.length_drop]; omega
        refine ⟨h0, by omega, by omega, ?_⟩
        rw [hs, show (t + (n : Int)).toNat - at_.toNat = (t.toNat - at_.toNat) + n by omega, List.take_add, h3, List.drop_drop, show at_.toNat + (t.toNat - at_.toNat) = t.toNat by omega]
  · rw [if_pos he] at hr
    simp only [Prod.mk.injEq] at hr
    exact absurd hr.2.2 he
theorem rdB_le (l : List UInt8) (at_ most : Int) : (rdB l at_ most).1.length ≤ l.length := by
  unfold rdB
  split
  · simp
  · split
    · simp
    · split
      · simp
      · simp only [List.length_take, List.length_drop]
        omega
end Bin

theorem BinOne_ok (l : List UInt8) (A : Option Addr) (cap : Nat) (at_ : Int) (ha : -9223372036854775808 ≤ at_ ∧ at_ ≤ 9223372036854775807) (w : World) (h : RdB w A cap l) :
    Fn Try.prog 5 [.slice A l.length cap, .int .i64 at_] w fun v w' => v = .bool true ∧ Mem w w' [] := by
  obtain ⟨n, to, e, hu⟩ : ∃ n t e, rdU l at_ = (n, t, e) := ⟨_, _, _, rfl⟩
  obtain ⟨s, up, f, hb⟩ : ∃ s t e, rdB l at_ 4096 = (s, t, e) := ⟨_, _, _, rfl⟩
  have hcap : l.length ≤ cap := h.le
  have hsl : s.length ≤ l.length := by have := rdB_le l at_ 4096; rw [hb] at this; exact this
  refine Fn.enter Try.func5 rfl Try.ntmps5 rfl ?_
  refine W.sub [(0, _), (1, _)] (.cons rfl (.cons rfl .nil)) ?_
  refine W.seq ?_
  refine W.region ?_
  refine WL.assign rfl rfl ?_
  refine WL.nil ?_
  refine WX.next ?_
  refine W.sub [(0, _), (1, _)] (.cons rfl (.cons rfl .nil)) ?_
  refine W.seq ?_
  refine W.seq ?_
  refine W.region ?_
  refine WL.move rfl rfl ?_
  refine WL.len Try.underlying23 rfl rfl ?_
  refine WL.gtr rfl rfl rfl ?_
  refine WL.nil ?_
  refine WX.next ?_
  refine W.sub [(0, _), (1, _), (13, _)] (.cons rfl (.cons rfl (.cons rfl .nil))) ?_
  refine W.ite rfl (fun c0 => ?_) (fun c0 => ?_)
  · refine W.seq ?_
    refine W.region ?_
    refine WL.call Try.call11 rfl (known_ok w) rfl ?_
    rintro _ w1 ⟨rfl, m1⟩
    refine WL.assign rfl rfl ?_
    refine WL.nil ?_
    refine WX.next ?_
    refine W.sub [(4, _)] (.cons rfl .nil) ?_
    refine W.ret ?_
    refine WX.thenRet ?_
    refine WX.ret1 rfl rfl ?_
    exact ⟨rfl, m1⟩
  · refine W.skip ?_
    refine WX.next ?_
    refine W.seq ?_
    refine W.region ?_
    refine WL.move rfl rfl ?_
    refine WL.move rfl rfl ?_
    refine WL.call Try.call21 rfl (Uint_ok l A cap at_ w h (by omega) ha) rfl ?_
    rintro _ _ ⟨rfl, rfl⟩
    rw [hu, rdUv_tuple]
    refine WL.move rfl rfl ?_
    refine WL.extract rfl rfl rfl ?_
    refine WL.extract rfl rfl rfl ?_
    refine WL.extract rfl rfl rfl ?_
    refine WL.assign rfl rfl ?_
    refine WL.assign rfl rfl ?_
    refine WL.assign rfl rfl ?_
    refine WL.nil ?_
    refine WX.next ?_
    refine W.sub [(0, _), (1, _), (5, _), (6, _), (7, _)] (.cons rfl (.cons rfl (.cons rfl (.cons rfl (.cons rfl .nil))))) ?_
    refine W.seq ?_
    refine W.seq ?_
    refine W.draw (by kernel_rfl) (fun _ => True) (fun j => true) ?_
    apply DG.take [0, 1] 25 rfl (by kernel_rfl) (by kernel_rfl) (trivial)
    · intro wS hS
      refine WL.move rfl rfl ?_
      refine WL.eqI rfl rfl rfl ?_
      exact Chain.end_ rfl
    by_cases c1 : e = 0
    · obtain ⟨u0, u1, u2, u3, u4⟩ := one_U (c1 ▸ hu)
      apply DG.take [2] 24 rfl (by kernel_rfl) (by kernel_rfl) (trivial)
      · intro wS hS
        refine WL.moveT c1 rfl rfl ?_
        exact Chain.end_ rfl
      apply DG.take [3, 4] 22 rfl (by kernel_rfl) (by kernel_rfl) (trivial)
      · intro wS hS
        refine WL.on rfl rfl ?_
        refine WL.move rfl rfl ?_
        refine WL.on rfl rfl ?_
        refine WL.lss rfl rfl rfl ?_
        exact Chain.end_ rfl
      by_cases c2 : at_ < 0
      · exact absurd c2 (by omega)
      · apply DG.take [5] 21 rfl (by kernel_rfl) (by kernel_rfl) (trivial)
        · intro wS hS
          refine WL.on rfl rfl ?_
          refine WL.moveF c2 rfl rfl ?_
          exact Chain.end_ rfl
        apply DG.take [6, 7, 8, 9, 10] 16 rfl (by kernel_rfl) (by kernel_rfl) (trivial)
        · intro wS hS
          refine WL.on rfl rfl ?_
          refine WL.move rfl rfl ?_
          refine WL.on rfl rfl ?_
          refine WL.move rfl rfl ?_
          refine WL.on rfl rfl ?_
          refine WL.len Try.underlying23 rfl rfl ?_
          refine WL.on rfl rfl ?_
          refine WL.gtr rfl rfl rfl ?_
          refine WL.on rfl rfl ?_
          refine WL.pickF rfl rfl rfl ?_
          exact Chain.end_ rfl
        by_cases c3 : to > l.length
        · exact absurd c3 (by omega)
        · apply DG.take [11] 15 rfl (by kernel_rfl) (by kernel_rfl) (trivial)
          · intro wS hS
            refine WL.on rfl rfl ?_
            refine WL.moveF c3 rfl rfl ?_
            exact Chain.end_ rfl
          apply DG.take [12, 13, 14, 15] 11 rfl (by kernel_rfl) (by kernel_rfl) (trivial)
          · intro wS hS
            refine WL.on rfl rfl ?_
            refine WL.move rfl rfl ?_
            refine WL.on rfl rfl ?_
            refine WL.move rfl rfl ?_
            refine WL.on rfl rfl ?_
            refine WL.leq rfl rfl rfl ?_
            refine WL.on rfl rfl ?_
            refine WL.pickF rfl rfl rfl ?_
            exact Chain.end_ rfl
          by_cases c4 : to ≤ at_
          · exact absurd c4 (by omega)
          · apply DG.take [16] 10 rfl (by kernel_rfl) (by kernel_rfl) (trivial)
            · intro wS hS
              refine WL.on rfl rfl ?_
              refine WL.moveF c4 rfl rfl ?_
              exact Chain.end_ rfl
            apply DG.take [17, 19, 20, 21, 22] 5 rfl (by kernel_rfl) (by kernel_rfl) (trivial)
            · intro wS hS
              refine WL.on rfl rfl ?_
              refine WL.move rfl rfl ?_
              refine WL.on rfl rfl ?_
              refine WL.move rfl rfl ?_
              refine WL.on rfl rfl ?_
              refine WL.move rfl rfl ?_
              refine WL.on rfl rfl ?_
              refine WL.move rfl rfl ?_
              refine WL.on rfl rfl ?_
              refine WL.sliceLHX (m' := (put n).length) Try.underlying23 Try.sizeOf5 rfl rfl rfl (by omega) (by omega) (by omega) rfl (by rw [← u3, List.length_take, List.length_drop]; omega) rfl rfl ?_
              exact Chain.end_ rfl
            refine DG.step 18 4 rfl (by kernel_rfl) ?_
            refine WL.on rfl rfl ?_
            refine WL.call Try.call10 rfl (PutUint_ok n u4 _) rfl ?_
            rintro _ w1 ⟨A1, cap1, rfl, m1⟩
            have M := (Mem.refl w).drew.call m1
            refine DG.go (G := fun j => true) (i := 18) (f' := 4) (done := [0, 1, 2, 3, 4, 5, 6, 7, 8, 9, 10, 11, 12, 13, 14, 15, 16, 17, 19, 20, 21, 22]) (fun _ => by exact trivial) ?_
            refine DG.step 23 3 rfl (by kernel_rfl) ?_
            refine WL.on rfl rfl ?_
            refine WL.call Try.call12 rfl (Same_ok (l1 := put n) (l2 := put n) m1.rdOwnB (by have hc := (h.mem M).cut (i := at_.toNat) (j := to.toNat) (by omega) (by omega); rw [u3] at hc; exact hc)) rfl ?_
            rintro _ _ ⟨rfl, rfl⟩
            refine DG.go (G := fun j => true) (i := 23) (f' := 3) (done := [0, 1, 2, 3, 4, 5, 6, 7, 8, 9, 10, 11, 12, 13, 14, 15, 16, 17, 19, 20, 21, 22, 18]) (fun _ => by exact trivial) ?_
            apply DG.take [24, 25, 26] 0 rfl (by kernel_rfl) (by kernel_rfl) (trivial)
            · intro wS hS
              refine WL.on rfl rfl ?_
              refine WL.notP rfl rfl ?_
              refine WL.on rfl rfl ?_
              refine WL.pickF rfl rfl rfl ?_
              refine WL.pickT rfl rfl rfl ?_
              exact Chain.end_ rfl
            refine DG.end_ (by kernel_rfl) ?_
            refine WX.next ?_
            refine W.sub [(0, _), (1, _), (48, _)] (.cons rfl (.cons rfl (.cons rfl .nil))) ?_
            refine W.ite rfl (fun c5 => ?_) (fun c5 => ?_)
            · exact absurd rfl c5
            · refine W.skip ?_
              refine WX.next ?_
              refine W.seq ?_
              refine W.region ?_
              refine WL.move rfl rfl ?_
              refine WL.move rfl rfl ?_
              refine WL.call Try.call14 rfl (Bytes_at hb (h.mem M) (by omega) ha (by omega)) rfl ?_
              rintro _ w2 ⟨A2, cap2, rfl, m2⟩
              have M2 := M.call m2
              refine WL.move rfl rfl ?_
              refine WL.extract rfl rfl rfl ?_
              refine WL.extract rfl rfl rfl ?_
              refine WL.extract rfl rfl rfl ?_
              refine WL.assign rfl rfl ?_
              refine WL.assign rfl rfl ?_
              refine WL.assign rfl rfl ?_
              refine WL.nil ?_
              refine WX.next ?_
              refine W.sub [(0, _), (1, _), (8, _), (9, _), (10, _)] (.cons rfl (.cons rfl (.cons rfl (.cons rfl (.cons rfl .nil))))) ?_
              refine W.seq ?_
              refine W.seq ?_
              refine W.draw (by kernel_rfl) (fun _ => True) (fun j => true) ?_
              apply DG.take [0, 1] 25 rfl (by kernel_rfl) (by kernel_rfl) (trivial)
              · intro wS hS
                refine WL.move rfl rfl ?_
                refine WL.eqI rfl rfl rfl ?_
                exact Chain.end_ rfl
              by_cases c6 : f = 0
              · obtain ⟨t0, t1, t2, t3⟩ := one_B (c6 ▸ hb)
                apply DG.take [2] 24 rfl (by kernel_rfl) (by kernel_rfl) (trivial)
                · intro wS hS
                  refine WL.moveT c6 rfl rfl ?_
                  exact Chain.end_ rfl
                apply DG.take [3, 4] 22 rfl (by kernel_rfl) (by kernel_rfl) (trivial)
                · intro wS hS
                  refine WL.on rfl rfl ?_
                  refine WL.move rfl rfl ?_
                  refine WL.on rfl rfl ?_
                  refine WL.lss rfl rfl rfl ?_
                  exact Chain.end_ rfl
                by_cases c7 : at_ < 0
                · exact absurd c7 (by omega)
                · apply DG.take [5] 21 rfl (by kernel_rfl) (by kernel_rfl) (trivial)
                  · intro wS hS
                    refine WL.on rfl rfl ?_
                    refine WL.moveF c7 rfl rfl ?_
                    exact Chain.end_ rfl
                  apply DG.take [6, 7, 8, 9, 10] 16 rfl (by kernel_rfl) (by kernel_rfl) (trivial)
                  · intro wS hS
                    refine WL.on rfl rfl ?_
                    refine WL.move rfl rfl ?_
                    refine WL.on rfl rfl ?_
                    refine WL.move rfl rfl ?_
                    refine WL.on rfl rfl ?_
                    refine WL.len Try.underlying23 rfl rfl ?_
                    refine WL.on rfl rfl ?_
                    refine WL.gtr rfl rfl rfl ?_
                    refine WL.on rfl rfl ?_
                    refine WL.pickF rfl rfl rfl ?_
                    exact Chain.end_ rfl
                  by_cases c8 : up > l.length
                  · exact absurd c8 (by omega)
                  · apply DG.take [11] 15 rfl (by kernel_rfl) (by kernel_rfl) (trivial)
                    · intro wS hS
                      refine WL.on rfl rfl ?_
                      refine WL.moveF c8 rfl rfl ?_
                      exact Chain.end_ rfl
                    apply DG.take [12, 13, 14, 15] 11 rfl (by kernel_rfl) (by kernel_rfl) (trivial)
                    · intro wS hS
                      refine WL.on rfl rfl ?_
                      refine WL.move rfl rfl ?_
                      refine WL.on rfl rfl ?_
                      refine WL.move rfl rfl ?_
                      refine WL.on rfl rfl ?_
                      refine WL.leq rfl rfl rfl ?_
                      refine WL.on rfl rfl ?_
                      refine WL.pickF rfl rfl rfl ?_
                      exact Chain.end_ rfl
                    by_cases c9 : up ≤ at_
                    · exact absurd c9 (by omega)
                    · apply DG.take [16] 10 rfl (by kernel_rfl) (by kernel_rfl) (trivial)
                      · intro wS hS
                        refine WL.on rfl rfl ?_
                        refine WL.moveF c9 rfl rfl ?_
                        exact Chain.end_ rfl
                      apply DG.take [17, 19, 20, 21, 22] 5 rfl (by kernel_rfl) (by kernel_rfl) (trivial)
                      · intro wS hS
                        refine WL.on rfl rfl ?_
                        refine WL.move rfl rfl ?_
                        refine WL.on rfl rfl ?_
                        refine WL.move rfl rfl ?_
                        refine WL.on rfl rfl ?_
                        refine WL.move rfl rfl ?_
                        refine WL.on rfl rfl ?_
                        refine WL.move rfl rfl ?_
                        refine WL.on rfl rfl ?_
                        refine WL.sliceLHX (m' := (put s.length ++ s).length) Try.underlying23 Try.sizeOf5 rfl rfl rfl (by omega) (by omega) (by omega) rfl (by rw [← t3, List.length_take, List.length_drop]; omega) rfl rfl ?_
                        exact Chain.end_ rfl
                      refine DG.step 18 4 rfl (by kernel_rfl) ?_
                      refine WL.on rfl rfl ?_
                      refine WL.call Try.call16 rfl (PutBytes_ok s A2 cap2 _ M2.drew.rdOwnB (by omega)) rfl ?_
                      rintro _ w3 ⟨A3, cap3, rfl, m3⟩
                      have M3 := M2.drew.call m3
                      refine DG.go (G := fun j => true) (i := 18) (f' := 4) (done := [0, 1, 2, 3, 4, 5, 6, 7, 8, 9, 10, 11, 12, 13, 14, 15, 16, 17, 19, 20, 21, 22]) (fun _ => by exact trivial) ?_
                      refine DG.step 23 3 rfl (by kernel_rfl) ?_
                      refine WL.on rfl rfl ?_
                      refine WL.call Try.call12 rfl (Same_ok (l1 := put s.length ++ s) (l2 := put s.length ++ s) m3.rdOwnB (by have hc := (h.mem M3).cut (i := at_.toNat) (j := up.toNat) (by omega) (by omega); rw [t3] at hc; exact hc)) rfl ?_
                      rintro _ _ ⟨rfl, rfl⟩
                      refine DG.go (G := fun j => true) (i := 23) (f' := 3) (done := [0, 1, 2, 3, 4, 5, 6, 7, 8, 9, 10, 11, 12, 13, 14, 15, 16, 17, 19, 20, 21, 22, 18]) (fun _ => by exact trivial) ?_
                      apply DG.take [24, 25, 26] 0 rfl (by kernel_rfl) (by kernel_rfl) (trivial)
                      · intro wS hS
                        refine WL.on rfl rfl ?_
                        refine WL.notP rfl rfl ?_
                        refine WL.on rfl rfl ?_
                        refine WL.pickF rfl rfl rfl ?_
                        refine WL.pickT rfl rfl rfl ?_
                        exact Chain.end_ rfl
                      refine DG.end_ (by kernel_rfl) ?_
                      refine WX.next ?_
                      refine W.sub [(82, _)] (.cons rfl .nil) ?_
                      refine W.ite rfl (fun c10 => ?_) (fun c10 => ?_)
                      · exact absurd rfl c10
                      · refine W.skip ?_
                        refine WX.next ?_
                        refine W.seq ?_
                        refine W.region ?_
                        refine WL.call Try.call11 rfl (known_ok _) rfl ?_
                        rintro _ w4 ⟨rfl, m4⟩
                        refine WL.assign rfl rfl ?_
                        refine WL.nil ?_
                        refine WX.next ?_
                        refine W.sub [(4, _)] (.cons rfl .nil) ?_
                        refine W.ret ?_
                        refine WX.ret1 rfl rfl ?_
                        exact ⟨rfl, (M3.call m4).nil⟩
              · have M3 := M2.drew
                apply DG.take [2] 24 rfl (by kernel_rfl) (by kernel_rfl) (trivial)
                · intro wS hS
                  refine WL.moveF c6 rfl rfl ?_
                  exact Chain.end_ rfl
                apply DG.take [3, 4, 5, 6, 7, 8, 9, 10, 11, 12, 13, 14, 15, 16, 17, 19, 20, 21, 22] 5 rfl (by kernel_rfl) (by kernel_rfl) (trivial)
                · intro wS hS
                  refine WL.off rfl rfl rfl rfl ?_
                  refine WL.off rfl rfl rfl rfl ?_
                  refine WL.off rfl rfl rfl rfl ?_
                  refine WL.offU rfl rfl rfl ?_
                  refine WL.offU rfl rfl rfl ?_
                  refine WL.offU rfl rfl rfl ?_
                  refine WL.offU rfl rfl rfl ?_
                  refine WL.off rfl rfl rfl rfl ?_
                  refine WL.off rfl rfl rfl rfl ?_
                  refine WL.offU rfl rfl rfl ?_
                  refine WL.offU rfl rfl rfl ?_
                  refine WL.offU rfl rfl rfl ?_
                  refine WL.off rfl rfl rfl rfl ?_
                  refine WL.off rfl rfl rfl rfl ?_
                  refine WL.offU rfl rfl rfl ?_
                  refine WL.offU rfl rfl rfl ?_
                  refine WL.offU rfl rfl rfl ?_
                  refine WL.offU rfl rfl rfl ?_
                  refine WL.offU rfl rfl rfl ?_
                  exact Chain.end_ rfl
                refine DG.step 18 4 rfl (by kernel_rfl) ?_
                refine WL.offU rfl rfl rfl ?_
                refine DG.go (G := fun j => true) (i := 18) (f' := 4) (done := [0, 1, 2, 3, 4, 5, 6, 7, 8, 9, 10, 11, 12, 13, 14, 15, 16, 17, 19, 20, 21, 22]) (fun _ => by exact trivial) ?_
                refine DG.step 23 3 rfl (by kernel_rfl) ?_
                refine WL.offU rfl rfl rfl ?_
                refine DG.go (G := fun j => true) (i := 23) (f' := 3) (done := [0, 1, 2, 3, 4, 5, 6, 7, 8, 9, 10, 11, 12, 13, 14, 15, 16, 17, 19, 20, 21, 22, 18]) (fun _ => by exact trivial) ?_
                apply DG.take [24, 25, 26] 0 rfl (by kernel_rfl) (by kernel_rfl) (trivial)
                · intro wS hS
                  refine WL.offU rfl rfl rfl ?_
                  refine WL.off rfl rfl rfl rfl ?_
                  refine WL.pickF rfl rfl rfl ?_
                  exact Chain.end_ rfl
                refine DG.end_ (by kernel_rfl) ?_
                refine WX.next ?_
                refine W.sub [(82, _)] (.cons rfl .nil) ?_
                refine W.condF rfl ?_
                refine W.skip ?_
                refine WX.next ?_
                refine W.seq ?_
                refine W.region ?_
                refine WL.call Try.call11 rfl (known_ok _) rfl ?_
                rintro _ w4 ⟨rfl, m4⟩
                refine WL.assign rfl rfl ?_
                refine WL.nil ?_
                refine WX.next ?_
                refine W.sub [(4, _)] (.cons rfl .nil) ?_
                refine W.ret ?_
                refine WX.ret1 rfl rfl ?_
                exact ⟨rfl, (M3.call m4).nil⟩
    · have M := (Mem.refl w).drew
      apply DG.take [2] 24 rfl (by kernel_rfl) (by kernel_rfl) (trivial)
      · intro wS hS
        refine WL.moveF c1 rfl rfl ?_
        exact Chain.end_ rfl
      apply DG.take [3, 4, 5, 6, 7, 8, 9, 10, 11, 12, 13, 14, 15, 16, 17, 19, 20, 21, 22] 5 rfl (by kernel_rfl) (by kernel_rfl) (trivial)
      · intro wS hS
        refine WL.off rfl rfl rfl rfl ?_
        refine WL.off rfl rfl rfl rfl ?_
        refine WL.off rfl rfl rfl rfl ?_
        refine WL.offU rfl rfl rfl ?_
        refine WL.offU rfl rfl rfl ?_
        refine WL.offU rfl rfl rfl ?_
        refine WL.offU rfl rfl rfl ?_
        refine WL.off rfl rfl rfl rfl ?_
        refine WL.off rfl rfl rfl rfl ?_
        refine WL.offU rfl rfl rfl ?_
        refine WL.offU rfl rfl rfl ?_
        refine WL.offU rfl rfl rfl ?_
        refine WL.off rfl rfl rfl rfl ?_
        refine WL.off rfl rfl rfl rfl ?_
        refine WL.offU rfl rfl rfl ?_
        refine WL.offU rfl rfl rfl ?_
        refine WL.offU rfl rfl rfl ?_
        refine WL.offU rfl rfl rfl ?_
        refine WL.offU rfl rfl rfl ?_
        exact Chain.end_ rfl
      refine DG.step 18 4 rfl (by kernel_rfl) ?_
      refine WL.offU rfl rfl rfl ?_
      refine DG.go (G := fun j => true) (i := 18) (f' := 4) (done := [0, 1, 2, 3, 4, 5, 6, 7, 8, 9, 10, 11, 12, 13, 14, 15, 16, 17, 19, 20, 21, 22]) (fun _ => by exact trivial) ?_
      refine DG.step 23 3 rfl (by kernel_rfl) ?_
      refine WL.offU rfl rfl rfl ?_
      refine DG.go (G := fun j => true) (i := 23) (f' := 3) (done := [0, 1, 2, 3, 4, 5, 6, 7, 8, 9, 10, 11, 12, 13, 14, 15, 16, 17, 19, 20, 21, 22, 18]) (fun _ => by exact trivial) ?_
      apply DG.take [24, 25, 26] 0 rfl (by kernel_rfl) (by kernel_rfl) (trivial)
      · intro wS hS
        refine WL.offU rfl rfl rfl ?_
        refine WL.off rfl rfl rfl rfl ?_
        refine WL.pickF rfl rfl rfl ?_
        exact Chain.end_ rfl
      refine DG.end_ (by kernel_rfl) ?_
      refine WX.next ?_
      refine W.sub [(0, _), (1, _), (48, _)] (.cons rfl (.cons rfl (.cons rfl .nil))) ?_
      refine W.condF rfl ?_
      refine W.skip ?_
      refine WX.next ?_
      refine W.seq ?_
      refine W.region ?_
      refine WL.move rfl rfl ?_
      refine WL.move rfl rfl ?_
      refine WL.call Try.call14 rfl (Bytes_at hb (h.mem M) (by omega) ha (by omega)) rfl ?_
      rintro _ w2 ⟨A2, cap2, rfl, m2⟩
      have M2 := M.call m2
      refine WL.move rfl rfl ?_
      refine WL.extract rfl rfl rfl ?_
      refine WL.extract rfl rfl rfl ?_
      refine WL.extract rfl rfl rfl ?_
      refine WL.assign rfl rfl ?_
      refine WL.assign rfl rfl ?_
      refine WL.assign rfl rfl ?_
      refine WL.nil ?_
      refine WX.next ?_
      refine W.sub [(0, _), (1, _), (8, _), (9, _), (10, _)] (.cons rfl (.cons rfl (.cons rfl (.cons rfl (.cons rfl .nil))))) ?_
      refine W.seq ?_
      refine W.seq ?_
      refine W.draw (by kernel_rfl) (fun _ => True) (fun j => true) ?_
      apply DG.take [0, 1] 25 rfl (by kernel_rfl) (by kernel_rfl) (trivial)
      · intro wS hS
        refine WL.move rfl rfl ?_
        refine WL.eqI rfl rfl rfl ?_
        exact Chain.end_ rfl
      by_cases c6 : f = 0
      · obtain ⟨t0, t1, t2, t3⟩ := one_B (c6 ▸ hb)
        apply DG.take [2] 24 rfl (by kernel_rfl) (by kernel_rfl) (trivial)
        · intro wS hS
          refine WL.moveT c6 rfl rfl ?_
          exact Chain.end_ rfl
        apply DG.take [3, 4] 22 rfl (by kernel_rfl) (by kernel_rfl) (trivial)
        · intro wS hS
          refine WL.on rfl rfl ?_
          refine WL.move rfl rfl ?_
          refine WL.on rfl rfl ?_
          refine WL.lss rfl rfl rfl ?_
          exact Chain.end_ rfl
        by_cases c7 : at_ < 0
        · exact absurd c7 (by omega)
        · apply DG.take [5] 21 rfl (by kernel_rfl) (by kernel_rfl) (trivial)
          · intro wS hS
            refine WL.on rfl rfl ?_
            refine WL.moveF c7 rfl rfl ?_
            exact Chain.end_ rfl
          apply DG.take [6, 7, 8, 9, 10] 16 rfl (by kernel_rfl) (by kernel_rfl) (trivial)
          · intro wS hS
            refine WL.on rfl rfl ?_
            refine WL.move rfl rfl ?_
            refine WL.on rfl rfl ?_
            refine WL.move rfl rfl ?_
            refine WL.on rfl rfl ?_
            refine WL.len Try.underlying23 rfl rfl ?_
            refine WL.on rfl rfl ?_
            refine WL.gtr rfl rfl rfl ?_
            refine WL.on rfl rfl ?_
            refine WL.pickF rfl rfl rfl ?_
            exact Chain.end_ rfl
          by_cases c8 : up > l.length
          · exact absurd c8 (by omega)
          · apply DG.take [11] 15 rfl (by kernel_rfl) (by kernel_rfl) (trivial)
            · intro wS hS
              refine WL.on rfl rfl ?_
              refine WL.moveF c8 rfl rfl ?_
              exact Chain.end_ rfl
            apply DG.take [12, 13, 14, 15] 11 rfl (by kernel_rfl) (by kernel_rfl) (trivial)
            · intro wS hS
              refine WL.on rfl rfl ?_
              refine WL.move rfl rfl ?_
              refine WL.on rfl rfl ?_
              refine WL.move rfl rfl ?_
              refine WL.on rfl rfl ?_
              refine WL.leq rfl rfl rfl ?_
              refine WL.on rfl rfl ?_
              refine WL.pickF rfl rfl rfl ?_
              exact Chain.end_ rfl
            by_cases c9 : up ≤ at_
            · exact absurd c9 (by omega)
            · apply DG.take [16] 10 rfl (by kernel_rfl) (by kernel_rfl) (trivial)
              · intro wS hS
                refine WL.on rfl rfl ?_
                refine WL.moveF c9 rfl rfl ?_
                exact Chain.end_ rfl
              apply DG.take [17, 19, 20, 21, 22] 5 rfl (by kernel_rfl) (by kernel_rfl) (trivial)
              · intro wS hS
                refine WL.on rfl rfl ?_
                refine WL.move rfl rfl ?_
                refine WL.on rfl rfl ?_
                refine WL.move rfl rfl ?_
                refine WL.on rfl rfl ?_
                refine WL.move rfl rfl ?_
                refine WL.on rfl rfl ?_
                refine WL.move rfl rfl ?_
                refine WL.on rfl rfl ?_
                refine WL.sliceLHX (m' := (put s.length ++ s).length) Try.underlying23 Try.sizeOf5 rfl rfl rfl (by omega) (by omega) (by omega) rfl (by rw [← t3, List.length_take, List.length_drop]; omega) rfl rfl ?_
                exact Chain.end_ rfl
              refine DG.step 18 4 rfl (by kernel_rfl) ?_
              refine WL.on rfl rfl ?_
              refine WL.call Try.call16 rfl (PutBytes_ok s A2 cap2 _ M2.drew.rdOwnB (by omega)) rfl ?_
              rintro _ w3 ⟨A3, cap3, rfl, m3⟩
              have M3 := M2.drew.call m3
              refine DG.go (G := fun j => true) (i := 18) (f' := 4) (done := [0, 1, 2, 3, 4, 5, 6, 7, 8, 9, 10, 11, 12, 13, 14, 15, 16, 17, 19, 20, 21, 22]) (fun _ => by exact trivial) ?_
              refine DG.step 23 3 rfl (by kernel_rfl) ?_
              refine WL.on rfl rfl ?_
              refine WL.call Try.call12 rfl (Same_ok (l1 := put s.length ++ s) (l2 := put s.length ++ s) m3.rdOwnB (by have hc := (h.mem M3).cut (i := at_.toNat) (j := up.toNat) (by omega) (by omega); rw [t3] at hc; exact hc)) rfl ?_
              rintro _ _ ⟨rfl, rfl⟩
              refine DG.go (G := fun j => true) (i := 23) (f' := 3) (done := [0, 1, 2, 3, 4, 5, 6, 7, 8, 9, 10, 11, 12, 13, 14, 15, 16, 17, 19, 20, 21, 22, 18]) (fun _ => by exact trivial) ?_
              apply DG.take [24, 25, 26] 0 rfl (by kernel_rfl) (by kernel_rfl) (trivial)
              · intro wS hS
                refine WL.on rfl rfl ?_
                refine WL.notP rfl rfl ?_
                refine WL.on rfl rfl ?_
                refine WL.pickF rfl rfl rfl ?_
                refine WL.pickT rfl rfl rfl ?_
                exact Chain.end_ rfl
              refine DG.end_ (by kernel_rfl) ?_
              refine WX.next ?_
              refine W.sub [(82, _)] (.cons rfl .nil) ?_
              refine W.ite rfl (fun c10 => ?_) (fun c10 => ?_)
              · exact absurd rfl c10
              · refine W.skip ?_
                refine WX.next ?_
                refine W.seq ?_
                refine W.region ?_
                refine WL.call Try.call11 rfl (known_ok _) rfl ?_
                rintro _ w4 ⟨rfl, m4⟩
                refine WL.assign rfl rfl ?_
                refine WL.nil ?_
                refine WX.next ?_
                refine W.sub [(4, _)] (.cons rfl .nil) ?_
                refine W.ret ?_
                refine WX.ret1 rfl rfl ?_
                exact ⟨rfl, (M3.call m4).nil⟩
      · have M3 := M2.drew
        apply DG.take [2] 24 rfl (by kernel_rfl) (by kernel_rfl) (trivial)
        · intro wS hS
          refine WL.moveF c6 rfl rfl ?_
          exact Chain.end_ rfl
        apply DG.take [3, 4, 5, 6, 7, 8, 9, 10, 11, 12, 13, 14, 15, 16, 17, 19, 20, 21, 22] 5 rfl (by kernel_rfl) (by kernel_rfl) (trivial)
        · intro wS hS
          refine WL.off rfl rfl rfl rfl ?_
          refine WL.off rfl rfl rfl rfl ?_
          refine WL.off rfl rfl rfl rfl ?_
          refine WL.offU rfl rfl rfl ?_
          refine WL.offU rfl rfl rfl ?_
          refine WL.offU rfl rfl rfl ?_
          refine WL.offU rfl rfl rfl ?_
          refine WL.off rfl rfl rfl rfl ?_
          refine WL.off rfl rfl rfl rfl ?_
          refine WL.offU rfl rfl rfl ?_
          refine WL.offU rfl rfl rfl ?_
          refine WL.offU rfl rfl rfl ?_
          refine WL.off rfl rfl rfl rfl ?_
          refine WL.off rfl rfl rfl rfl ?_
          refine WL.offU rfl rfl rfl ?_
          refine WL.offU rfl rfl rfl ?_
          refine WL.offU rfl rfl rfl ?_
          refine WL.offU rfl rfl rfl ?_
          refine WL.offU rfl rfl rfl ?_
          exact Chain.end_ rfl
        refine DG.step 18 4 rfl (by kernel_rfl) ?_
        refine WL.offU rfl rfl rfl ?_
        refine DG.go (G := fun j => true) (i := 18) (f' := 4) (done := [0, 1, 2, 3, 4, 5, 6, 7, 8, 9, 10, 11, 12, 13, 14, 15, 16, 17, 19, 20, 21, 22]) (fun _ => by exact trivial) ?_
        refine DG.step 23 3 rfl (by kernel_rfl) ?_
        refine WL.offU rfl rfl rfl ?_
        refine DG.go (G := fun j => true) (i := 23) (f' := 3) (done := [0, 1, 2, 3, 4, 5, 6, 7, 8, 9, 10, 11, 12, 13, 14, 15, 16, 17, 19, 20, 21, 22, 18]) (fun _ => by exact trivial) ?_
        apply DG.take [24, 25, 26] 0 rfl (by kernel_rfl) (by kernel_rfl) (trivial)
        · intro wS hS
          refine WL.offU rfl rfl rfl ?_
          refine WL.off rfl rfl rfl rfl ?_
          refine WL.pickF rfl rfl rfl ?_
          exact Chain.end_ rfl
        refine DG.end_ (by kernel_rfl) ?_
        refine WX.next ?_
        refine W.sub [(82, _)] (.cons rfl .nil) ?_
        refine W.condF rfl ?_
        refine W.skip ?_
        refine WX.next ?_
        refine W.seq ?_
        refine W.region ?_
        refine WL.call Try.call11 rfl (known_ok _) rfl ?_
        rintro _ w4 ⟨rfl, m4⟩
        refine WL.assign rfl rfl ?_
        refine WL.nil ?_
        refine WX.next ?_
        refine W.sub [(4, _)] (.cons rfl .nil) ?_
        refine W.ret ?_
        refine WX.ret1 rfl rfl ?_
        exact ⟨rfl, (M3.call m4).nil⟩
end Go.Proofs.Ytfnegfnpgjicpaa
