/-
  Walk: seawallref02.Get.
-/
import Derived.Test.YtgaegaaaoopolaaFrame2
namespace Go.Proofs.Ytgaegaaaoopolaa
open Go Go.RowKit Crc Bin

theorem rdF_drop {l : List UInt8} {at_ k : Int} (h0 : 0 ≤ at_) (hk : 0 ≤ k) (h : at_ + k + 4 ≤ l.length) : rdF l (at_ + k) = ((rdF (l.drop at_.toNat) k).1, at_ + k + 4, 0) := by
  have hl : (l.drop at_.toNat).length = l.length - at_.toNat := List.length_drop
  rw [rdF_ok (by omega) (by omega), rdF_ok hk (by omega)]
  simp only [List.getElem_drop, Prod.mk.injEq, and_true]
  have e : (at_ + k).toNat = at_.toNat + k.toNat := by omega
  simp only [e, Nat.add_assoc]

set_option maxRecDepth 10000 in
set_option maxHeartbeats 1000000 in
theorem refGet_ok (l : List UInt8) (A : Option Addr) (cap : Nat) (at_ : Int) (w : World) (h : RdB w A cap l) (hl : l.length ≤ 140737488351232) (ha : -9223372036854775808 ≤ at_ ∧ at_ ≤ 9223372036854775807) :
    Fn Try.prog 56 [.slice A l.length cap, .int .i64 at_] w fun v w' => Got v (getG l at_) w w' := by
  have hle : l.length ≤ cap := h.le
  refine Fn.enter Try.func56 rfl Try.ntmps56 rfl ?_
  refine W.sub [(0, _), (1, _)] (.cons rfl (.cons rfl .nil)) ?_
  refine W.seq ?_
  refine W.region ?_
  refine WL.alloc Try.zeroValue113 (Mem.refl w) rfl ?_
  intro gR w0 mR
  refine WL.assign rfl rfl ?_
  refine WL.assign rfl rfl ?_
  refine WL.nil ?_
  refine WX.next ?_
  refine W.sub [(0, _), (1, _), (4, _)] (.cons rfl (.cons rfl (.cons rfl .nil))) ?_
  refine W.seq ?_
  refine W.block ?_
  refine W.seq ?_
  refine W.region ?_
  refine WL.move rfl rfl ?_
  refine WL.lss rfl rfl rfl ?_
  refine WL.moveIf rfl rfl (fun c0 => ?_) (fun c0 => ?_)
  · refine WL.off rfl rfl rfl rfl ?_
    refine WL.off rfl rfl rfl rfl ?_
    refine WL.off rfl rfl rfl rfl ?_
    refine WL.off rfl rfl rfl rfl ?_
    refine WL.pickT rfl rfl rfl ?_
    refine WL.assign rfl rfl ?_
    refine WL.nil ?_
    refine WX.next ?_
    refine W.sub [(0, _), (1, _), (4, _), (15, _)] (.cons rfl (.cons rfl (.cons rfl (.cons rfl .nil)))) ?_
    refine W.condT rfl ?_
    refine W.seq ?_
    refine W.region ?_
    refine WL.build (places := #[(0, 1), (1, 1)]) Try.underlying113 Try.zeroValue113 (fun _ => by simp [Try.sizeOf5, Try.sizeOf34]) rfl rfl rfl ?_
    refine WL.storeW mR Try.sizeOf113 rfl rfl (by simp [Value.cells, Value.oneCell']) rfl rfl ?_
    intro w1 mS
    refine WL.assign rfl rfl ?_
    refine WL.assign rfl rfl ?_
    refine WL.nil ?_
    refine WX.next ?_
    refine W.sub [(4, _), (5, _), (6, _)] (.cons rfl (.cons rfl (.cons rfl .nil))) ?_
    refine W.ret ?_
    refine WX.blockRet ?_
    refine WX.thenRet ?_
    refine WX.retC3 rfl rfl rfl rfl Try.isAgg113 (by exact Try.sizeOf113) mS.cells ?_
    rw [getG_out (by omega)]; exact Got.none mS 2
  · refine WL.on rfl rfl ?_
    refine WL.move rfl rfl ?_
    refine WL.on rfl rfl ?_
    refine WL.move rfl rfl ?_
    refine WL.on rfl rfl ?_
    refine WL.len Try.underlying34 rfl rfl ?_
    refine WL.on rfl rfl ?_
    refine WL.gtr rfl rfl rfl ?_
    refine WL.pickF rfl rfl rfl ?_
    refine WL.assign rfl rfl ?_
    refine WL.nil ?_
    refine WX.next ?_
    refine W.sub [(0, _), (1, _), (4, _), (15, _)] (.cons rfl (.cons rfl (.cons rfl (.cons rfl .nil)))) ?_
    refine W.ite rfl (fun c1 => ?_) (fun c1 => ?_)
    · refine W.seq ?_
      refine W.region ?_
      refine WL.build (places := #[(0, 1), (1, 1)]) Try.underlying113 Try.zeroValue113 (fun _ => by simp [Try.sizeOf5, Try.sizeOf34]) rfl rfl rfl ?_
      refine WL.storeW mR Try.sizeOf113 rfl rfl (by simp [Value.cells, Value.oneCell']) rfl rfl ?_
      intro w1 mS
      refine WL.assign rfl rfl ?_
      refine WL.assign rfl rfl ?_
      refine WL.nil ?_
      refine WX.next ?_
      refine W.sub [(4, _), (5, _), (6, _)] (.cons rfl (.cons rfl (.cons rfl .nil))) ?_
      refine W.ret ?_
      refine WX.blockRet ?_
      refine WX.thenRet ?_
      refine WX.retC3 rfl rfl rfl rfl Try.isAgg113 (by exact Try.sizeOf113) mS.cells ?_
      rw [getG_out (by omega)]; exact Got.none mS 2
    · obtain ⟨r, hr⟩ : ∃ r, r = l.drop at_.toNat := ⟨_, rfl⟩
      have hrl : r.length = l.length - at_.toNat := by rw [hr, List.length_drop]
      refine W.seq ?_
      refine W.region ?_
      refine WL.move rfl rfl ?_
      refine WL.move rfl rfl ?_
      refine WL.len Try.underlying34 rfl rfl ?_
      refine WL.eqI rfl rfl rfl ?_
      refine WL.assign rfl rfl ?_
      refine WL.nil ?_
      refine WX.next ?_
      refine W.sub [(0, _), (1, _), (4, _), (25, _)] (.cons rfl (.cons rfl (.cons rfl (.cons rfl .nil)))) ?_
      refine W.ite rfl (fun c2 => ?_) (fun c2 => ?_)
      · refine W.seq ?_
        refine W.region ?_
        refine WL.build (places := #[(0, 1), (1, 1)]) Try.underlying113 Try.zeroValue113 (fun _ => by simp [Try.sizeOf5, Try.sizeOf34]) rfl rfl rfl ?_
        refine WL.storeW mR Try.sizeOf113 rfl rfl (by simp [Value.cells, Value.oneCell']) rfl rfl ?_
        intro w1 mS
        refine WL.assign rfl rfl ?_
        refine WL.assign rfl rfl ?_
        refine WL.nil ?_
        refine WX.next ?_
        refine W.sub [(4, _), (5, _), (6, _)] (.cons rfl (.cons rfl (.cons rfl .nil))) ?_
        refine W.ret ?_
        refine WX.blockRet ?_
        refine WX.thenRet ?_
        refine WX.retC3 rfl rfl rfl rfl Try.isAgg113 (by exact Try.sizeOf113) mS.cells ?_
        rw [getG_bad (e := 10) (by omega) (by omega) (by rw [← hr]; unfold getR; rw [if_pos (by omega)]) (by omega)]; exact Got.none mS 10
      · have g0 : ¬ r.length = 0 := by omega
        obtain ⟨x0, hx0⟩ : ∃ x, r[0]? = some x := ⟨_, List.getElem?_eq_getElem (by omega)⟩
        have hl0 : l[at_.toNat]? = some x0 := by rw [← hx0, hr, List.getElem?_drop, Nat.add_zero]
        refine W.seq ?_
        refine W.region ?_
        refine WL.move rfl rfl ?_
        refine WL.move rfl rfl ?_
        refine WL.idx1 (v := .int .u8 (x0.toNat : Int)) Try.underlying34 Try.sizeOf5 rfl rfl (h.mem mR) (by rw [bs_get, hl0]; rfl) (by omega) rfl ?_
        intro ad6 had6
        refine WL.load Try.isAgg5 rfl had6 rfl ?_
        refine WL.neI rfl rfl rfl ?_
        refine WL.assign rfl rfl ?_
        refine WL.nil ?_
        refine WX.next ?_
        refine W.sub [(0, _), (1, _), (4, _), (31, _)] (.cons rfl (.cons rfl (.cons rfl (.cons rfl .nil)))) ?_
        refine W.ite rfl (fun c3 => ?_) (fun c3 => ?_)
        · refine W.seq ?_
          refine W.region ?_
          refine WL.build (places := #[(0, 1), (1, 1)]) Try.underlying113 Try.zeroValue113 (fun _ => by simp [Try.sizeOf5, Try.sizeOf34]) rfl rfl rfl ?_
          refine WL.storeW mR Try.sizeOf113 rfl rfl (by simp [Value.cells, Value.oneCell']) rfl rfl ?_
          intro w1 mS
          refine WL.assign rfl rfl ?_
          refine WL.assign rfl rfl ?_
          refine WL.nil ?_
          refine WX.next ?_
          refine W.sub [(4, _), (5, _), (6, _)] (.cons rfl (.cons rfl (.cons rfl .nil))) ?_
          refine W.ret ?_
          refine WX.blockRet ?_
          refine WX.thenRet ?_
          refine WX.retC3 rfl rfl rfl rfl Try.isAgg113 (by exact Try.sizeOf113) mS.cells ?_
          rw [getG_bad (e := 20) (by omega) (by omega) (by rw [← hr]; unfold getR; rw [if_neg g0, if_pos (by rw [hx0]; rintro rfl; exact c3 rfl)]) (by omega)]; exact Got.none mS 20
        · skip
          have g1 : ¬ (r[0]?.getD 0 ≠ 167) := by
            rw [hx0]
            refine not_not_intro (UInt8.toNat_inj.1 ?_)
            show x0.toNat = 167
            omega
          refine W.seq ?_
          refine W.region ?_
          refine WL.move rfl rfl ?_
          refine WL.len Try.underlying34 rfl rfl ?_
          refine WL.move rfl rfl ?_
          refine WL.sub' rfl rfl (by first | exact wI64 (by omega) | rfl) rfl ?_
          refine WL.lss rfl rfl rfl ?_
          refine WL.assign rfl rfl ?_
          refine WL.nil ?_
          refine WX.next ?_
          refine W.sub [(0, _), (1, _), (4, _), (38, _)] (.cons rfl (.cons rfl (.cons rfl (.cons rfl .nil)))) ?_
          refine W.ite rfl (fun c4 => ?_) (fun c4 => ?_)
          · refine W.seq ?_
            refine W.region ?_
            refine WL.build (places := #[(0, 1), (1, 1)]) Try.underlying113 Try.zeroValue113 (fun _ => by simp [Try.sizeOf5, Try.sizeOf34]) rfl rfl rfl ?_
            refine WL.storeW mR Try.sizeOf113 rfl rfl (by simp [Value.cells, Value.oneCell']) rfl rfl ?_
            intro w1 mS
            refine WL.assign rfl rfl ?_
            refine WL.assign rfl rfl ?_
            refine WL.nil ?_
            refine WX.next ?_
            refine W.sub [(4, _), (5, _), (6, _)] (.cons rfl (.cons rfl (.cons rfl .nil))) ?_
            refine W.ret ?_
            refine WX.blockRet ?_
            refine WX.thenRet ?_
            refine WX.retC3 rfl rfl rfl rfl Try.isAgg113 (by exact Try.sizeOf113) mS.cells ?_
            rw [getG_bad (e := 10) (by omega) (by omega) (by rw [← hr]; unfold getR; rw [if_neg g0, if_neg g1, if_pos (by omega)]) (by omega)]; exact Got.none mS 10
          · have g2 : ¬ r.length < 6 := by omega
            obtain ⟨n, hf1⟩ : ∃ n, (rdF r 2).1 = n := ⟨_, rfl⟩
            have hn : n < 4294967296 := by rw [← hf1]; exact rdF_len (by omega) (by omega)
            have hf : rdF l (at_ + 2) = (n, at_ + 2 + 4, 0) := by rw [rdF_drop (by omega) (by omega) (by omega), ← hr, hf1]
            refine W.skip ?_
            refine WX.blockNormal ?_
            refine WX.next ?_
            refine W.seq ?_
            refine W.region ?_
            refine WL.move rfl rfl ?_
            refine WL.move rfl rfl ?_
            refine WL.add rfl rfl (by first | exact wI64 (by omega) | rfl) rfl ?_
            refine WL.call Try.call65 rfl (refFixed_ok l A cap (at_ + 2) w0 (h.mem mR) (by omega) (by omega)) rfl ?_
            rintro _ w2 ⟨rfl, m2⟩
            rw [hf, rdFv_tuple]
            have mR2 := mR.call m2
            refine WL.move rfl rfl ?_
            refine WL.extract rfl rfl rfl ?_
            refine WL.extract rfl rfl rfl ?_
            refine WL.extract rfl rfl rfl ?_
            refine WL.assign rfl rfl ?_
            refine WL.assign rfl rfl ?_
            refine WL.assign rfl rfl ?_
            refine WL.nil ?_
            refine WX.next ?_
            refine W.sub [(0, _), (1, _), (4, _), (7, _)] (.cons rfl (.cons rfl (.cons rfl (.cons rfl .nil)))) ?_
            refine W.seq ?_
            refine W.block ?_
            refine W.seq ?_
            refine W.region ?_
            refine WL.move rfl rfl ?_
            refine WL.gtr rfl rfl rfl ?_
            refine WL.assign rfl rfl ?_
            refine WL.nil ?_
            refine WX.next ?_
            refine W.sub [(0, _), (1, _), (4, _), (7, _), (53, _)] (.cons rfl (.cons rfl (.cons rfl (.cons rfl (.cons rfl .nil))))) ?_
            refine W.ite rfl (fun c5 => ?_) (fun c5 => ?_)
            · refine W.seq ?_
              refine W.region ?_
              refine WL.build (places := #[(0, 1), (1, 1)]) Try.underlying113 Try.zeroValue113 (fun _ => by simp [Try.sizeOf5, Try.sizeOf34]) rfl rfl rfl ?_
              refine WL.storeW mR2 Try.sizeOf113 rfl rfl (by simp [Value.cells, Value.oneCell']) rfl rfl ?_
              intro w1 mS
              refine WL.assign rfl rfl ?_
              refine WL.assign rfl rfl ?_
              refine WL.nil ?_
              refine WX.next ?_
              refine W.sub [(4, _), (5, _), (6, _)] (.cons rfl (.cons rfl (.cons rfl .nil))) ?_
              refine W.ret ?_
              refine WX.blockRet ?_
              refine WX.thenRet ?_
              refine WX.retC3 rfl rfl rfl rfl Try.isAgg113 (by exact Try.sizeOf113) mS.cells ?_
              rw [getG_bad (e := 3) (by omega) (by omega) (by rw [← hr]; unfold getR; rw [if_neg g0, if_neg g1, if_neg g2, hf1, if_pos (by omega)]) (by omega)]; exact Got.none mS 3
            · have g3 : ¬ 1024 < n := by omega
              refine W.seq ?_
              refine W.region ?_
              refine WL.move rfl rfl ?_
              refine WL.len Try.underlying34 rfl rfl ?_
              refine WL.move rfl rfl ?_
              refine WL.sub' rfl rfl (by first | exact wI64 (by omega) | rfl) rfl ?_
              refine WL.move rfl rfl ?_
              refine WL.conv Try.underlying125 Try.underlying3 rfl (by first | exact wI64 (by omega) | rfl) rfl ?_
              refine WL.add rfl rfl (by first | exact wI64 (by omega) | rfl) rfl ?_
              refine WL.lss rfl rfl rfl ?_
              refine WL.assign rfl rfl ?_
              refine WL.nil ?_
              refine WX.next ?_
              refine W.sub [(0, _), (1, _), (4, _), (7, _), (57, _)] (.cons rfl (.cons rfl (.cons rfl (.cons rfl (.cons rfl .nil))))) ?_
              refine W.ite rfl (fun c6 => ?_) (fun c6 => ?_)
              · refine W.seq ?_
                refine W.region ?_
                refine WL.build (places := #[(0, 1), (1, 1)]) Try.underlying113 Try.zeroValue113 (fun _ => by simp [Try.sizeOf5, Try.sizeOf34]) rfl rfl rfl ?_
                refine WL.storeW mR2 Try.sizeOf113 rfl rfl (by simp [Value.cells, Value.oneCell']) rfl rfl ?_
                intro w1 mS
                refine WL.assign rfl rfl ?_
                refine WL.assign rfl rfl ?_
                refine WL.nil ?_
                refine WX.next ?_
                refine W.sub [(4, _), (5, _), (6, _)] (.cons rfl (.cons rfl (.cons rfl .nil))) ?_
                refine W.ret ?_
                refine WX.blockRet ?_
                refine WX.thenRet ?_
                refine WX.retC3 rfl rfl rfl rfl Try.isAgg113 (by exact Try.sizeOf113) mS.cells ?_
                rw [getG_bad (e := 10) (by omega) (by omega) (by rw [← hr]; unfold getR; rw [if_neg g0, if_neg g1, if_neg g2, hf1, if_neg g3, if_pos (by omega)]) (by omega)]; exact Got.none mS 10
              · have g4 : ¬ r.length < n + 10 := by omega
                obtain ⟨s, hf3⟩ : ∃ s, (rdF r (6 + (n : Int))).1 = s := ⟨_, rfl⟩
                have hf2 : rdF l (at_ + 6 + (n : Int)) = (s, at_ + ((n + 10 : Nat) : Int), 0) := by rw [show at_ + 6 + (n : Int) = at_ + (6 + (n : Int)) by omega, rdF_drop (by omega) (by omega) (by omega), ← hr, hf3, show at_ + (6 + (n : Int)) + 4 = at_ + ((n + 10 : Nat) : Int) by omega]
                refine W.skip ?_
                refine WX.blockNormal ?_
                refine WX.next ?_
                refine W.seq ?_
                refine W.region ?_
                refine WL.move rfl rfl ?_
                refine WL.add rfl rfl (by first | exact wI64 (by omega) | rfl) rfl ?_
                refine WL.move rfl rfl ?_
                refine WL.conv Try.underlying125 Try.underlying3 rfl (by first | exact wI64 (by omega) | rfl) rfl ?_
                refine WL.add rfl rfl (by first | exact wI64 (by omega) | rfl) rfl ?_
                refine WL.assign rfl rfl ?_
                refine WL.nil ?_
                refine WX.next ?_
                refine W.sub [(0, _), (1, _), (4, _), (10, _)] (.cons rfl (.cons rfl (.cons rfl (.cons rfl .nil)))) ?_
                refine W.seq ?_
                refine W.region ?_
                refine WL.move rfl rfl ?_
                refine WL.move rfl rfl ?_
                refine WL.call Try.call65 rfl (refFixed_ok l A cap (at_ + 6 + (n : Int)) w2 (h.mem mR2) (by omega) (by omega)) rfl ?_
                rintro _ w3 ⟨rfl, m3⟩
                rw [hf2, rdFv_tuple]
                have mR3 := mR2.call m3
                refine WL.move rfl rfl ?_
                refine WL.extract rfl rfl rfl ?_
                refine WL.extract rfl rfl rfl ?_
                refine WL.extract rfl rfl rfl ?_
                refine WL.assign rfl rfl ?_
                refine WL.assign rfl rfl ?_
                refine WL.assign rfl rfl ?_
                refine WL.nil ?_
                refine WX.next ?_
                refine W.sub [(0, _), (1, _), (4, _), (10, _), (11, _), (12, _)] (.cons rfl (.cons rfl (.cons rfl (.cons rfl (.cons rfl (.cons rfl .nil)))))) ?_
                refine W.seq ?_
                refine W.seq ?_
                refine W.region ?_
                refine WL.move rfl rfl ?_
                refine WL.move rfl rfl ?_
                refine WL.move rfl rfl ?_
                refine WL.move rfl rfl ?_
                refine WL.sliceLHB Try.underlying34 Try.sizeOf5 rfl rfl rfl (h.mem mR3) rfl (by omega) (by omega) (by omega) rfl ?_
                intro A16 L hL hLl hR
                have hLr : L = r.take (6 + n) := by rw [hL, ← hr, show (at_ + 6 + (n : Int)).toNat - at_.toNat = 6 + n by omega]
                refine WL.call Try.call62 rfl (refSum_ok L A16 _ w3 hR (by omega)) rfl ?_
                rintro _ _ ⟨rfl, rfl⟩
                rw [hLr]
                refine WL.neI rfl rfl rfl ?_
                refine WL.nil ?_
                refine WX.next ?_
                refine W.sub [(0, _), (1, _), (4, _), (10, _), (12, _), (85, _)] (.cons rfl (.cons rfl (.cons rfl (.cons rfl (.cons rfl (.cons rfl .nil)))))) ?_
                refine W.ite rfl (fun c7 => ?_) (fun c7 => ?_)
                · refine W.seq ?_
                  refine W.region ?_
                  refine WL.build (places := #[(0, 1), (1, 1)]) Try.underlying113 Try.zeroValue113 (fun _ => by simp [Try.sizeOf5, Try.sizeOf34]) rfl rfl rfl ?_
                  refine WL.storeW mR3 Try.sizeOf113 rfl rfl (by simp [Value.cells, Value.oneCell']) rfl rfl ?_
                  intro w6 mS
                  refine WL.assign rfl rfl ?_
                  refine WL.assign rfl rfl ?_
                  refine WL.nil ?_
                  refine WX.next ?_
                  refine W.sub [(4, _), (5, _), (6, _)] (.cons rfl (.cons rfl (.cons rfl .nil))) ?_
                  refine W.ret ?_
                  refine WX.thenRet ?_
                  refine WX.retC3 rfl rfl rfl rfl Try.isAgg113 (by exact Try.sizeOf113) mS.cells ?_
                  rw [getG_bad (e := 21) (by omega) (by omega) (by rw [← hr]; unfold getR; rw [if_neg g0, if_neg g1, if_neg g2, hf1, if_neg g3, if_neg g4, hf3, if_pos (by omega)]) (by omega)]; exact Got.none mS 21
                · have g5' : ¬ (s ≠ crc (r.take (6 + n))) := by omega
                  obtain ⟨x1, hx1⟩ : ∃ x, r[1]? = some x := ⟨_, List.getElem?_eq_getElem (by omega)⟩
                  have hl1 : l[at_.toNat + 1]? = some x1 := by rw [← hx1, hr, List.getElem?_drop]
                  obtain ⟨body, hbody⟩ : ∃ b, b = (r.drop 6).take n := ⟨_, rfl⟩
                  have hbl : body.length = n := by rw [hbody, List.length_take, List.length_drop]; omega
                  have hok : getG l at_ = (x1, body, at_ + ((n + 10 : Nat) : Int), 0) := getG_ok (by omega) (by omega) (by rw [← hr]; unfold getR; rw [if_neg g0, if_neg g1, if_neg g2, hf1, if_neg g3, if_neg g4, hf3, if_neg g5', hx1, hbody]; rfl)
                  refine W.skip ?_
                  refine WX.next ?_
                  refine W.seq ?_
                  refine W.region ?_
                  refine WL.assign rfl rfl ?_
                  refine WL.nil ?_
                  refine WX.next ?_
                  refine W.sub [(0, _), (1, _), (4, _), (10, _), (12, _), (14, _)] (.cons rfl (.cons rfl (.cons rfl (.cons rfl (.cons rfl (.cons rfl .nil)))))) ?_
                  refine W.seq ?_
                  refine W.region ?_
                  refine WL.move rfl rfl ?_
                  refine WL.move rfl rfl ?_
                  refine WL.move rfl rfl ?_
                  refine WL.add rfl rfl (by first | exact wI64 (by omega) | rfl) rfl ?_
                  refine WL.move rfl rfl ?_
                  refine WL.sliceLHB Try.underlying34 Try.sizeOf5 rfl rfl rfl (h.mem mR3) rfl (by omega) (by omega) (by omega) rfl ?_
                  intro A19 L2 hL2 hL2l hR2
                  have hLb : L2 = body := by rw [hL2, hbody, hr, List.drop_drop, show (at_ + 6).toNat = at_.toNat + 6 by omega, show (at_ + 6 + (n : Int)).toNat - (at_.toNat + 6) = n by omega]
                  subst hLb
                  refine WL.appendB (l := []) Try.elem5 rfl rfl (mR3.nilOwn 5 1) hR2 rfl rfl (by simp; omega) rfl ?_
                  intro A8 cap8 w8 m8
                  refine WL.assign rfl rfl ?_
                  refine WL.nil ?_
                  refine WX.next ?_
                  refine W.sub [(0, _), (1, _), (4, _), (12, _), (14, _)] (.cons rfl (.cons rfl (.cons rfl (.cons rfl (.cons rfl .nil))))) ?_
                  refine W.seq ?_
                  refine W.region ?_
                  refine WL.move rfl rfl ?_
                  refine WL.move rfl rfl ?_
                  refine WL.add rfl rfl (by first | exact wI64 (by omega) | rfl) rfl ?_
                  refine WL.idx1 (v := .int .u8 (x1.toNat : Int)) Try.underlying34 Try.sizeOf5 rfl rfl (h.mem m8) (by rw [bs_get, show (at_ + 1).toNat = at_.toNat + 1 by omega, hl1]; rfl) (by omega) rfl ?_
                  intro ad20 had20
                  refine WL.load Try.isAgg5 rfl had20 rfl ?_
                  refine WL.move rfl rfl ?_
                  refine WL.build (places := #[(0, 1), (1, 1)]) Try.underlying113 Try.zeroValue113 (fun _ => by simp [Try.sizeOf5, Try.sizeOf34]) rfl rfl rfl ?_
                  refine WL.move rfl rfl ?_
                  refine WL.storeW m8.f1 Try.sizeOf113 rfl rfl (by simp [Value.cells, Value.oneCell']) rfl rfl ?_
                  intro w9 mS
                  refine WL.assign rfl rfl ?_
                  refine WL.assign rfl rfl ?_
                  refine WL.nil ?_
                  refine WX.next ?_
                  refine W.sub [(4, _), (5, _), (6, _)] (.cons rfl (.cons rfl (.cons rfl .nil))) ?_
                  refine W.ret ?_
                  refine WX.retC3 rfl rfl rfl rfl Try.isAgg113 (by exact Try.sizeOf113) mS.cells ?_
                  rw [hok]; exact ⟨A8, cap8, rfl, mS.tail⟩
end Go.Proofs.Ytgaegaaaoopolaa
