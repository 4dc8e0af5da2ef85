/-
  Rules, laws and walks, part 6 of 11.
-/
import Derived.Test.YtlminileigfkcaaGreatFarE
import Derived.Test.YtlminileigfkcaaGreatProg
namespace Go.Proofs.YtlminileigfkcaaGreat
open Go Go.RowKit Go.Lib Bin
/-- The cut that pairs tell, the pairs without that, do they tell one. -/
def cutOfF (l : List Pr) : Nat × List Pr × Bool :=
 if l = [] then (0, [], true) else if (el l 0).1 ≠ [35] then (0, [], false) else (uintV ⟨(el l 0).2, 0, 0⟩, l.drop 1, decide ((uintS ⟨(el l 0).2, 0, 0⟩).err = 0))
def isCutF (l : List Pr) (its : List It) (sure : Nat) : Bool :=
 (cutOfF l).2.2 && decide (sure ≤ (cutOfF l).1) && decide ((cutOfF l).1 ≤ its.length) && (decide ((cutOfF l).1 = 0) || (el its ((cutOfF l).1 - 1)).mark) && decide ((cutOfF l).2.1 = pairsF its (cutOfF l).1)
theorem cutOfF_len (l : List Pr) : (cutOfF l).2.1.length ≤ l.length := by
 unfold cutOfF
 split
 ·simp
 ·split
  ·simp
  ·simp
section
variable (w0 w : World) (L : List Asr) {A : Option Addr} {ca : Nat} {l : List Pr}
set_option maxRecDepth 10000 in
set_option maxHeartbeats 4000000 in
theorem cutOf_ok (hl : ∀ p ∈ l, p.2.length ≤ 1000) (M : Mem w0 w (Asr.lst pairE A ca l :: L)) :
 Fn Tryz.prog 38 [.slice A l.length ca] w fun v w' => ∃ A' c', v = .tuple #[.int .u64 ((cutOfF l).1 : Int), .slice A' (cutOfF l).2.1.length c', .bool (cutOfF l).2.2] ∧ RdLH w0 (Asr.lst pairE A ca l :: L) pairE A' c' (cutOfF l).2.1 ∧ Mem w0 w' (Asr.lst pairE A ca l :: L) := by
 refine Fn.enter Tryz.func38 rfl Tryz.ntmps38 rfl (W.sub [(0, _)] (.cons rfl .nil) (W.seq (W.region (WL.assign rfl rfl (WL.assign rfl rfl (WL.assign rfl rfl (WL.nil (WX.next (W.sub [(0, _)] (.cons rfl .nil) (W.seq (W.seq (W.region (WL.move rfl rfl (WL.len Tryz.underlying53 rfl rfl (WL.eqI rfl rfl rfl (WL.nil (WX.next (W.sub [(0, _), (9, _)] (.cons rfl (.cons rfl .nil)) (W.ite rfl (fun c0 => ?_) (fun c0 => ?_))))))))))))))))))))
 ·refine W.seq (W.region (WL.assign rfl rfl (WL.assign rfl rfl (WL.assign rfl rfl (WL.nil (WX.next (W.sub [(2, _), (3, _), (4, _)] (.cons rfl (.cons rfl (.cons rfl .nil))) (W.ret (WX.thenRet (WX.ret3 rfl rfl rfl rfl ?_))))))))))
  have hl0 : l = [] := List.eq_nil_of_length_eq_zero (by omega)
  have e : cutOfF l = (0, [], true) := by unfold cutOfF; rw [if_pos hl0]
  rw [e]
  exact ⟨none, 0, rfl, fun w _ => RdL.nil _ _ _, M⟩
 ·have hl0 : 0 < l.length := by omega
  have hln : l ≠ [] := fun h => by rw [h] at hl0; exact absurd hl0 (by decide)
  have hv := hl _ (el_mem hl0)
  refine W.skip (WX.next (W.seq (W.seq (W.region (WL.move rfl rfl (WL.idxA (jn := 0) Tryz.underlying53 Tryz.sizeOf124 rfl rfl (RdL.isSome (E := pairE) (by first | with_reducible assumption | with_reducible exact RdL.mem (by with_reducible assumption) M | exact M.rdL Has.a | exact RdLH.at (by assumption) (M.sel Sel.a) | exact RdL.nil _ _ _) (by omega)) (by omega) (by omega) (by first | exact rfl | exact (Int.toNat_of_nonneg (by omega)).symm) rfl ?_))))))
  refine WL.fieldA (off := 0) Tryz.underlying124 rfl rfl Tryz.sizeOf9 rfl rfl rfl ?_
  refine WL.loadE (E := pairE) Tryz.isAgg9 rfl (by first | with_reducible assumption | with_reducible exact RdL.mem (by with_reducible assumption) M | exact M.rdL Has.a | exact RdLH.at (by assumption) (M.sel Sel.a) | exact RdL.nil _ _ _) (by omega) rfl rfl ?_
  refine WL.neS rfl rfl rfl (WL.nil (WX.next (W.sub [(0, _), (14, _)] (.cons rfl (.cons rfl .nil)) (W.ite rfl (fun c1 => ?_) (fun c1 => ?_)))))
  ·refine W.seq (W.region (WL.assign rfl rfl (WL.assign rfl rfl (WL.assign rfl rfl (WL.nil (WX.next (W.sub [(2, _), (3, _), (4, _)] (.cons rfl (.cons rfl (.cons rfl .nil))) (W.ret (WX.thenRet (WX.ret3 rfl rfl rfl rfl ?_))))))))))
   have e : cutOfF l = (0, [], false) := by unfold cutOfF; rw [if_neg hln, if_pos c1]
   rw [e]
   exact ⟨none, 0, rfl, fun w _ => RdL.nil _ _ _, M⟩
  ·obtain ⟨b, hb⟩ : ∃ b, b = (el l 0).2 := ⟨_, rfl⟩
   have e : cutOfF l = (uintV ⟨b, 0, 0⟩, l.drop 1, decide ((uintS ⟨b, 0, 0⟩).err = 0)) := by unfold cutOfF; rw [if_neg hln, if_neg c1, hb]
   rw [e]
   rw [← hb] at hv
   have r0ok : Rs.ok ⟨b, 0, 0⟩ := ⟨by dsimp only; omega, by dsimp only; omega, by dsimp only; omega⟩
   refine W.skip (WX.next (W.seq (W.region (WL.move rfl rfl (WL.idxA (jn := 0) Tryz.underlying53 Tryz.sizeOf124 rfl rfl (RdL.isSome (E := pairE) (by first | with_reducible assumption | with_reducible exact RdL.mem (by with_reducible assumption) M | exact M.rdL Has.a | exact RdLH.at (by assumption) (M.sel Sel.a) | exact RdL.nil _ _ _) (by omega)) (by omega) (by omega) (by first | exact rfl | exact (Int.toNat_of_nonneg (by omega)).symm) rfl ?_)))))
   refine WL.fieldA (off := 1) Tryz.underlying124 rfl rfl Tryz.sizeOf9 rfl rfl rfl ?_
   refine WL.loadE (E := pairE) Tryz.isAgg9 rfl (by first | with_reducible assumption | with_reducible exact RdL.mem (by with_reducible assumption) M | exact M.rdL Has.a | exact RdLH.at (by assumption) (M.sel Sel.a) | exact RdL.nil _ _ _) (by omega) rfl rfl ?_
   rw [← hb]
   refine WL.ofStrH (l := b) Tryz.underlying9 Tryz.underlying84 Tryz.underlying5 rfl M rfl ?_
   intro g8 sp8 cap8 w hc8 M
   refine WL.call Tryz.call54 rfl (New_ok b (some ⟨g8, 0, none⟩) cap8 _ (M.rdS Has.a hc8) (by omega)) rfl ?_
   rintro _ w ⟨gr, A1, cap1, rfl, m⟩
   replace M := M.callN m; clear m
   replace M : Mem w0 w (brRow gr A1 cap1 ⟨b, 0, 0⟩ :: Asr.own 5 1 A1 b.length cap1 (bs b) :: _) := M
   refine WL.assign rfl rfl (WL.nil (WX.next (W.sub [(0, _), (5, _)] (.cons rfl (.cons rfl .nil)) (W.seq (W.region (WL.move rfl rfl ?_))))))
   refine WL.call Tryz.call55 rfl (rdUint2 M Del.a r0ok (b := b) (by intro w M; exact (by first | first | with_reducible assumption | with_reducible exact RdB.mem (by with_reducible assumption) M | exact M.rdB Has.a | exact RdH.at (by assumption) (M.sel Sel.a) | exact M.rdLit' Has.a | exact M.rdLent Has.a | exact RdB.nil _ _ | exact RdB.sub (by first | with_reducible assumption | with_reducible exact RdB.mem (by with_reducible assumption) M | exact M.rdB Has.a | exact RdH.at (by assumption) (M.sel Sel.a) | exact M.rdLit' Has.a | exact M.rdLent Has.a | exact RdB.nil _ _) (by omega) (by omega) | exact RdB.pre' (by first | with_reducible assumption | with_reducible exact RdB.mem (by with_reducible assumption) M | exact M.rdB Has.a | exact RdH.at (by assumption) (M.sel Sel.a) | exact M.rdLit' Has.a | exact M.rdLent Has.a | exact RdB.nil _ _) (by omega) | exact RdB.suf (by first | with_reducible assumption | with_reducible exact RdB.mem (by with_reducible assumption) M | exact M.rdB Has.a | exact RdH.at (by assumption) (M.sel Sel.a) | exact M.rdLit' Has.a | exact M.rdLent Has.a | exact RdB.nil _ _) (by omega))) rfl) rfl ?_
   rintro _ w ⟨rfl, M⟩
   refine WL.assign rfl rfl (WL.nil (WX.next (W.sub [(0, _), (5, _), (6, _)] (.cons rfl (.cons rfl (.cons rfl .nil))) (W.seq (W.drawM ([brRow gr A1 cap1 (uintS ⟨b, 0, 0⟩), Asr.lst pairE A ca l]) (by kernel_rfl) (fun _ => false) M Sel.a ?_)))))
   clear M; intro M
   apply DG.pure_ [0, 1, 2, 3] 5 rfl (by kernel_rfl) (by kernel_rfl)
   ·intro w
    refine WL.move rfl rfl (WL.move rfl rfl ?_)
    refine WL.cutL (m' := (l.drop 1).length) Tryz.underlying53 Tryz.sizeOf124 rfl rfl (by omega) (by omega) (by first | exact rfl | exact (Int.toNat_of_nonneg (by omega)).symm) (by first | (rw [sub_length (by omega) (by omega)]) | (simp only [List.length_drop] <;> omega) | (simp only [List.length_take] <;> omega) | (simp only [List.length_take, List.length_drop] <;> omega) | (simp; done) | (simp; omega)) rfl ?_
    refine WL.move rfl rfl ?_
    exact Chain.end_ rfl
   refine DG.step 4 4 rfl (by kernel_rfl) ?_
   refine WL.call Tryz.call56 rfl (rdErr2 M Del.a) rfl ?_
   rintro _ w ⟨rfl, M⟩
   refine DG.go (G := fun _ => false) (i := 4) (f' := 4) (done := [0, 1, 2, 3]) (fun h => by cases h) ?_
   apply DG.pure_ [5, 6, 7, 8] 0 rfl (by kernel_rfl) (by kernel_rfl)
   ·intro w
    refine WL.eqI rfl rfl rfl (WL.assign rfl rfl (WL.assign rfl rfl (WL.assign rfl rfl ?_)))
    exact Chain.end_ rfl
   refine DG.end_ (by kernel_rfl) ?_
   refine WX.next (W.sub [(2, _), (3, _), (4, _)] (.cons rfl (.cons rfl (.cons rfl .nil))) (W.ret (WX.ret3 rfl rfl rfl rfl ?_)))
   exact ⟨_, _, rfl, fun w m => (m.rdL .here).suf (i := 1) hl0, M.sel Sel.a⟩
set_option maxRecDepth 10000 in
set_option maxHeartbeats 4000000 in
theorem isCut_ok {its : List It} {Ai : Option Addr} {ci sure : Nat} (hits : ItsOk its) (hl : ∀ p ∈ l, p.2.length ≤ 1000) (hll : l.length ≤ 1000000) (M : Mem w0 w (Asr.lst pairE A ca l :: Asr.lst itE Ai ci its :: L)) :
 Fn Tryz.prog 15 [.slice A l.length ca, .slice Ai its.length ci, .int .u64 (sure : Int)] w fun v w' => v = .bool (isCutF l its sure) ∧ Mem w0 w' (Asr.lst pairE A ca l :: Asr.lst itE Ai ci its :: L) := by
 have hfew := hits.few
 obtain ⟨n, hn⟩ : ∃ n, n = (cutOfF l).1 := ⟨_, rfl⟩
 obtain ⟨rs, hrs⟩ : ∃ rs, rs = (cutOfF l).2.1 := ⟨_, rfl⟩
 obtain ⟨o, ho⟩ : ∃ o, o = (cutOfF l).2.2 := ⟨_, rfl⟩
 have hrl := cutOfF_len l
 unfold isCutF
 rw [← hrs] at hrl
 refine Fn.enter Tryz.func15 rfl Tryz.ntmps15 rfl (W.sub [(0, _), (1, _), (2, _)] (.cons rfl (.cons rfl (.cons rfl .nil))) (W.seq (W.region (WL.assign rfl rfl (WL.nil (WX.next (W.sub [(0, _), (1, _), (2, _)] (.cons rfl (.cons rfl (.cons rfl .nil))) (W.seq (W.region (WL.move rfl rfl (WL.call Tryz.call38 rfl (cutOf_ok w0 w _ hl M) rfl ?_)))))))))))
 rintro _ w ⟨Ar, cr, rfl, hr, M⟩
 rw [← hn, ← hrs, ← ho]
 rw [← hrs] at hr
 refine WL.move rfl rfl (WL.extractL rfl rfl rfl (WL.extractL rfl rfl rfl (WL.extractL rfl rfl rfl (WL.assign rfl rfl (WL.assign rfl rfl (WL.assign rfl rfl (WL.nil (WX.next (W.sub [(1, _), (2, _), (7, _), (8, _), (9, _)] (.cons rfl (.cons rfl (.cons rfl (.cons rfl (.cons rfl .nil))))) (W.seq (W.region (WL.move rfl rfl (WL.moveIfB rfl rfl (fun c0 => ?_) (fun c0 => ?_))))))))))))))
 ·refine WL.on rfl rfl (WL.move rfl rfl (WL.on rfl rfl (WL.move rfl rfl (WL.on rfl rfl (WL.geq rfl rfl rfl (WL.pickT rfl rfl rfl (WL.moveIf rfl rfl (fun c1 => ?_) (fun c1 => ?_))))))))
  ·refine WL.on rfl rfl (WL.move rfl rfl (WL.on rfl rfl (WL.move rfl rfl (WL.on rfl rfl (WL.len Tryz.underlying25 rfl rfl (WL.on rfl rfl (WL.conv Tryz.underlying3 Tryz.underlying47 rfl (by first | exact wU64 (by omega) | exact mU64 _ | rfl) rfl ?_)))))))
   refine WL.on rfl rfl (WL.leq rfl rfl rfl (WL.pickT rfl rfl rfl (WL.moveIf rfl rfl (fun c2 => ?_) (fun c2 => ?_))))
   ·refine WL.on rfl rfl (WL.move rfl rfl (WL.on rfl rfl (WL.eqI rfl rfl rfl (WL.on rfl rfl (WL.moveIf rfl rfl (fun c3 => ?_) (fun c3 => ?_))))))
    ·refine WL.off rfl rfl rfl rfl (WL.off rfl rfl rfl rfl (WL.off rfl rfl rfl rfl (WL.off rfl rfl rfl rfl (WL.off rfl rfl rfl rfl (WL.off rfl rfl rfl rfl (WL.on rfl rfl (WL.pickT rfl rfl rfl (WL.pickT rfl rfl rfl (WL.move rfl rfl (WL.on rfl rfl (WL.move rfl rfl (WL.on rfl rfl (WL.move rfl rfl (WL.on rfl rfl (WL.move rfl rfl (WL.on rfl rfl (WL.call Tryz.call40 rfl (rPairs_ok w0 w _ (n := n) hits (M.sel (K := Asr.lst itE Ai ci its :: Asr.lst pairE A ca l :: L) Sel.a)) rfl ?_)))))))))))))))))
     rintro _ w ⟨Ap, cp, rfl, M⟩
     refine WL.on rfl rfl (WL.call Tryz.call39 rfl (refSame_ok (l := rs) (m := pairsF its n) (by omega) (hr.at (M.sel Sel.a)) (M.rdL Has.a)) rfl ?_)
     rintro _ w ⟨rfl, m⟩
     replace M := M.call0 m; clear m
     refine WL.pickT rfl rfl rfl (WL.assign rfl rfl (WL.nil (WX.next (W.sub [(6, _)] (.cons rfl .nil) (W.ret (WX.ret1 rfl rfl (⟨congrArg Value.bool ?_, M.sel Sel.a⟩)))))))
     have h1 : sure ≤ n := by omega
     have h2 : n ≤ its.length := by omega
     have h3 : n = 0 := by omega
     rw [c0, decide_eq_true h1, decide_eq_true h2, decide_eq_true h3]
     simp
    ·refine WL.on rfl rfl (WL.move rfl rfl (WL.on rfl rfl (WL.move rfl rfl (WL.on rfl rfl (WL.sub' rfl rfl (by first | exact wU64 (by omega) | exact mU64 _ | rfl) rfl ?_)))))
     refine WL.on rfl rfl (WL.idxA Tryz.underlying25 Tryz.sizeOf101 rfl rfl (RdL.isSome (E := itE) (by first | with_reducible assumption | with_reducible exact RdL.mem (by with_reducible assumption) M | exact M.rdL Has.a | exact RdLH.at (by assumption) (M.sel Sel.a) | exact RdL.nil _ _ _) (by omega)) (by omega) (by omega) (by first | exact rfl | exact (Int.toNat_of_nonneg (by omega)).symm) rfl ?_)
     refine WL.on rfl rfl (WL.fieldA (off := 1) Tryz.underlying101 rfl rfl Tryz.sizeOf4 rfl rfl rfl ?_)
     refine WL.on rfl rfl (WL.loadE (E := itE) Tryz.isAgg4 rfl (by first | with_reducible assumption | with_reducible exact RdL.mem (by with_reducible assumption) M | exact M.rdL Has.a | exact RdLH.at (by assumption) (M.sel Sel.a) | exact RdL.nil _ _ _) (by omega) rfl rfl ?_)
     refine WL.on rfl rfl (WL.pickF rfl rfl rfl (WL.pickT rfl rfl rfl (WL.moveIfB rfl rfl (fun c4 => ?_) (fun c4 => ?_))))
     ·refine WL.on rfl rfl (WL.move rfl rfl (WL.on rfl rfl (WL.move rfl rfl (WL.on rfl rfl (WL.move rfl rfl (WL.on rfl rfl (WL.call Tryz.call40 rfl (rPairs_ok w0 w _ (n := n) hits (M.sel (K := Asr.lst itE Ai ci its :: Asr.lst pairE A ca l :: L) Sel.a)) rfl ?_)))))))
      rintro _ w ⟨Ap, cp, rfl, M⟩
      refine WL.on rfl rfl (WL.call Tryz.call39 rfl (refSame_ok (l := rs) (m := pairsF its n) (by omega) (hr.at (M.sel Sel.a)) (M.rdL Has.a)) rfl ?_)
      rintro _ w ⟨rfl, m⟩
      replace M := M.call0 m; clear m
      refine WL.pickT rfl rfl rfl (WL.assign rfl rfl (WL.nil (WX.next (W.sub [(6, _)] (.cons rfl .nil) (W.ret (WX.ret1 rfl rfl (⟨congrArg Value.bool ?_, M.sel Sel.a⟩)))))))
      have h1 : sure ≤ n := by omega
      have h2 : n ≤ its.length := by omega
      have h3 : ¬ n = 0 := by omega
      rw [show ((n : Int) - 1).toNat = n - 1 by omega] at c4
      rw [c0, decide_eq_true h1, decide_eq_true h2, decide_eq_false h3, c4]
      simp
     ·refine WL.off rfl rfl rfl rfl (WL.off rfl rfl rfl rfl (WL.off rfl rfl rfl rfl (WL.off rfl rfl rfl rfl (WL.off rfl rfl rfl rfl (WL.pickF rfl rfl rfl (WL.assign rfl rfl (WL.nil (WX.next (W.sub [(6, _)] (.cons rfl .nil) (W.ret (WX.ret1 rfl rfl (⟨congrArg Value.bool ?_, M.sel Sel.a⟩))))))))))))
      have h1 : sure ≤ n := by omega
      have h2 : n ≤ its.length := by omega
      have h3 : ¬ n = 0 := by omega
      rw [show ((n : Int) - 1).toNat = n - 1 by omega] at c4
      rw [c0, decide_eq_true h1, decide_eq_true h2, decide_eq_false h3, c4]
      simp
   ·refine WL.off rfl rfl rfl rfl (WL.off rfl rfl rfl rfl (WL.off rfl rfl rfl rfl (WL.offU rfl rfl rfl (WL.offU rfl rfl rfl (WL.offU rfl rfl rfl (WL.offU rfl rfl rfl (WL.offU rfl rfl rfl (WL.offU rfl rfl rfl (WL.off rfl rfl rfl rfl (WL.pickF rfl rfl rfl (WL.move rfl rfl (WL.off rfl rfl rfl rfl (WL.off rfl rfl rfl rfl (WL.off rfl rfl rfl rfl (WL.off rfl rfl rfl rfl (WL.off rfl rfl rfl rfl (WL.pickF rfl rfl rfl (WL.assign rfl rfl (WL.nil (WX.next (W.sub [(6, _)] (.cons rfl .nil) (W.ret (WX.ret1 rfl rfl (⟨congrArg Value.bool ?_, M.sel Sel.a⟩))))))))))))))))))))))))
    rw [c0, decide_eq_false (p := n ≤ its.length) (by omega)]
    simp
  ·refine WL.off rfl rfl rfl rfl (WL.off rfl rfl rfl rfl (WL.off rfl rfl rfl rfl (WL.off rfl rfl rfl rfl (WL.off rfl rfl rfl rfl (WL.pickF rfl rfl rfl (WL.move rfl rfl (WL.off rfl rfl rfl rfl (WL.off rfl rfl rfl rfl (WL.off rfl rfl rfl rfl (WL.offU rfl rfl rfl (WL.offU rfl rfl rfl (WL.offU rfl rfl rfl (WL.offU rfl rfl rfl (WL.offU rfl rfl rfl (WL.offU rfl rfl rfl (WL.off rfl rfl rfl rfl (WL.pickF rfl rfl rfl (WL.move rfl rfl (WL.off rfl rfl rfl rfl (WL.off rfl rfl rfl rfl (WL.off rfl rfl rfl rfl (WL.off rfl rfl rfl rfl (WL.off rfl rfl rfl rfl (WL.pickF rfl rfl rfl (WL.assign rfl rfl (WL.nil (WX.next (W.sub [(6, _)] (.cons rfl .nil) (W.ret (WX.ret1 rfl rfl (⟨congrArg Value.bool ?_, M.sel Sel.a⟩)))))))))))))))))))))))))))))))
   rw [c0, decide_eq_false (p := sure ≤ n) (by omega)]
   simp
 ·refine WL.off rfl rfl rfl rfl (WL.off rfl rfl rfl rfl (WL.off rfl rfl rfl rfl (WL.pickF rfl rfl rfl (WL.move rfl rfl (WL.off rfl rfl rfl rfl (WL.off rfl rfl rfl rfl (WL.off rfl rfl rfl rfl (WL.off rfl rfl rfl rfl (WL.off rfl rfl rfl rfl (WL.pickF rfl rfl rfl (WL.move rfl rfl (WL.off rfl rfl rfl rfl (WL.off rfl rfl rfl rfl (WL.off rfl rfl rfl rfl (WL.offU rfl rfl rfl (WL.offU rfl rfl rfl (WL.offU rfl rfl rfl (WL.offU rfl rfl rfl (WL.offU rfl rfl rfl (WL.offU rfl rfl rfl (WL.off rfl rfl rfl rfl (WL.pickF rfl rfl rfl (WL.move rfl rfl (WL.off rfl rfl rfl rfl (WL.off rfl rfl rfl rfl (WL.off rfl rfl rfl rfl (WL.off rfl rfl rfl rfl (WL.off rfl rfl rfl rfl (WL.pickF rfl rfl rfl (WL.assign rfl rfl (WL.nil (WX.next (W.sub [(6, _)] (.cons rfl .nil) (W.ret (WX.ret1 rfl rfl (⟨congrArg Value.bool ?_, M.sel Sel.a⟩))))))))))))))))))))))))))))))))))))
  rw [c0]
  simp
end
end Go.Proofs.YtlminileigfkcaaGreat
namespace Go.Proofs.YtlminileigfkcaaGreat
namespace Crc
def poly : Nat := 3988292384
/-- One turn. -/
def sh (r : Nat) : Nat := if r % 2 = 1 then (r / 2) ^^^ poly else r / 2
def shN : Nat → Nat → Nat
 | 0, r => r
 | k + 1, r => sh (shN k r)
theorem shN_zero (r : Nat) : shN 0 r = r := rfl
theorem shN_succ (k r : Nat) : shN (k + 1) r = sh (shN k r) := rfl
def crcB (r : Nat) (c : UInt8) : Nat := shN 8 (r ^^^ c.toNat)
def crcL (r : Nat) (l : List UInt8) : Nat := l.foldl crcB r
def crc (l : List UInt8) : Nat := 4294967295 - crcL 4294967295 l
theorem crcL_nil (r : Nat) : crcL r [] = r := by unfold crcL; rw [List.foldl_nil]
theorem crcL_cons (r : Nat) (c : UInt8) (l : List UInt8) : crcL r (c :: l) = crcL (crcB r c) l := by unfold crcL; rw [List.foldl_cons]
theorem crcL_append (r : Nat) (a b : List UInt8) : crcL r (a ++ b) = crcL (crcL r a) b := by unfold crcL; rw [List.foldl_append]
theorem crcL_snoc (r : Nat) (a : List UInt8) (c : UInt8) : crcL r (a ++ [c]) = crcB (crcL r a) c := by rw [crcL_append, crcL_cons, crcL_nil]
theorem sh_lt {r : Nat} (h : r < 4294967296) : sh r < 4294967296 := by
 unfold sh
 split
 ·exact Nat.xor_lt_two_pow (n := 32) (by omega) (by decide)
 ·omega
theorem shN_lt {r : Nat} (h : r < 4294967296) : ∀ k, shN k r < 4294967296
 | 0 => h
 | k + 1 => sh_lt (shN_lt h k)
theorem byte_xor_lt {r : Nat} (h : r < 4294967296) (c : UInt8) : r ^^^ c.toNat < 4294967296 :=
 Nat.xor_lt_two_pow (n := 32) h (by have := UInt8.toNat_lt c; omega)
theorem crcB_lt {r : Nat} (h : r < 4294967296) (c : UInt8) : crcB r c < 4294967296 := shN_lt (byte_xor_lt h c) 8
theorem crcL_lt : ∀ {r : Nat} (l : List UInt8), r < 4294967296 → crcL r l < 4294967296
 | _, [], h => by rw [crcL_nil]; exact h
 | _, c :: l, h => by rw [crcL_cons]; exact crcL_lt l (crcB_lt h c)
theorem crc_lt (l : List UInt8) : crc l < 4294967296 := by unfold crc; omega
/-- The document's turn: one bit of the text at a time. -/
def rs (r b : Nat) : Nat := if (r % 2 = 1) ↔ ¬ (b = 1) then (r / 2) ^^^ poly else r / 2
def refN (c : Nat) (r : Nat) : Nat → Nat
 | 0 => r
 | k + 1 => rs (refN c r k) (c / 2 ^ k % 2)
theorem sh_low (a x : Nat) : sh (a ^^^ x) = rs a (x % 2) ^^^ (x / 2) := by
 unfold sh rs
 rw [Nat.xor_div_two]
 have e : ((a ^^^ x) % 2 = 1) = ((a % 2 = 1) ↔ ¬ (x % 2 = 1)) := by
  rw [Nat.xor_mod_two_eq_one]
  by_cases ha : a % 2 = 1 <;> by_cases hx : x % 2 = 1 <;> simp [ha, hx]
 simp only [e]
 split
 ·ac_rfl
 ·rfl
theorem shN_ref (c r : Nat) : ∀ k, shN k (r ^^^ c) = refN c r k ^^^ (c / 2 ^ k)
 | 0 => by simp [shN, refN]
 | k + 1 => by
   rw [shN_succ, shN_ref c r k, sh_low, refN, Nat.pow_succ, Nat.div_div_eq_div_mul]
theorem crcB_ref (r : Nat) (c : UInt8) : refN c.toNat r 8 = crcB r c := by
 have h := shN_ref c.toNat r 8
 have hc := UInt8.toNat_lt c
 rw [show c.toNat / 2 ^ 8 = 0 by omega, Nat.xor_zero] at h
 exact h.symm
theorem refN_lt {c r : Nat} (h : r < 4294967296) : ∀ k, refN c r k < 4294967296
 | 0 => h
 | k + 1 => by
   have h1 := refN_lt (c := c) h k
   rw [refN, rs]
   split
   ·exact Nat.xor_lt_two_pow (n := 32) (by omega) (by decide)
   ·omega
end Crc
end Go.Proofs.YtlminileigfkcaaGreat
namespace Go.Proofs.YtlminileigfkcaaGreat
open Go Go.RowKit
namespace Bin
def fixed (n : Nat) : List UInt8 := [UInt8.ofNat (n / 16777216 % 256), UInt8.ofNat (n / 65536 % 256), UInt8.ofNat (n / 256 % 256), UInt8.ofNat (n % 256)]
def be4 (a b c d : UInt8) : Nat := a.toNat * 16777216 + b.toNat * 65536 + c.toNat * 256 + d.toNat
def rdF (b : List UInt8) (at_ : Int) : Nat × Int × Int :=
 if at_ < 0 ∨ (b.length : Int) < at_ then (0, 0, 2)
 else match b.drop at_.toNat with
  | x0 :: x1 :: x2 :: x3 :: _ => (be4 x0 x1 x2 x3, at_ + 4, 0)
  | _ => (0, 0, 10)
theorem rdF_out {b : List UInt8} {at_ : Int} (h : at_ < 0 ∨ (b.length : Int) < at_) : rdF b at_ = (0, 0, 2) := if_pos h
theorem rdF_short {b : List UInt8} {at_ : Int} (h0 : 0 ≤ at_) (h1 : at_ ≤ b.length) (h : (b.length : Int) - at_ < 4) : rdF b at_ = (0, 0, 10) := by
 unfold rdF
 rw [if_neg (by omega)]
 have hl : (b.drop at_.toNat).length < 4 := by rw [List.length_drop]; omega
 split
 ·rename_i x0 x1 x2 x3 r e
  rw [e] at hl
  simp only [List.length_cons] at hl
  omega
 ·rfl
theorem rdF_ok {b : List UInt8} {at_ : Int} (h0 : 0 ≤ at_) (h : at_ + 4 ≤ b.length) :
 rdF b at_ = (be4 (b[at_.toNat]'(by omega)) (b[at_.toNat + 1]'(by omega)) (b[at_.toNat + 2]'(by omega)) (b[at_.toNat + 3]'(by omega)), at_ + 4, 0) := by
 unfold rdF
 rw [if_neg (by omega), List.drop_eq_getElem_cons (by omega), List.drop_eq_getElem_cons (by omega), List.drop_eq_getElem_cons (by omega), List.drop_eq_getElem_cons (by omega)]
theorem be4_lt (a b c d : UInt8) : be4 a b c d < 4294967296 := by
 have := UInt8.toNat_lt a; have := UInt8.toNat_lt b; have := UInt8.toNat_lt c; have := UInt8.toNat_lt d
 unfold be4
 omega
end Bin
open Bin
theorem fixed_bs (n : Nat) : [Value.int .u8 ((n : Int) / 16777216 % 256), Value.int .u8 ((n : Int) / 65536 % 256), Value.int .u8 ((n : Int) / 256 % 256), Value.int .u8 ((n : Int) % 256)] = bs (fixed n) := by
 rw [show ((n : Int) / 16777216 % 256) = ((n / 16777216 % 256 : Nat) : Int) by omega, show ((n : Int) / 65536 % 256) = ((n / 65536 % 256 : Nat) : Int) by omega,
  show ((n : Int) / 256 % 256) = ((n / 256 % 256 : Nat) : Int) by omega, show ((n : Int) % 256) = ((n % 256 : Nat) : Int) by omega,
  bv_ofNat (by omega), bv_ofNat (by omega), bv_ofNat (by omega), bv_ofNat (by omega)]
 rfl
theorem PutFixed_ok (n : Nat) (w : World) (_hn : n < 4294967296) : Fn Tryz.prog 127 [.int .u32 (n : Int)] w fun v w' =>
 ∃ A, v = .slice A 4 4 ∧ Mem w w' [Asr.own 5 1 A 4 4 (bs (fixed n))] := by
 have m0 := Mem.refl w
 refine Fn.enter Tryz.func127 rfl Tryz.ntmps127 rfl (W.sub [(0, _)] (.cons rfl .nil) (W.seq (W.region (WL.assign rfl rfl (WL.nil (WX.next (W.sub [(0, _)] (.cons rfl .nil) (W.seq (W.region (WL.move rfl rfl (WL.shrC rfl rfl 24 rfl rfl 16777216 rfl rfl (WL.conv Tryz.underlying185 Tryz.underlying5 rfl (mU8 _) rfl (WL.move rfl rfl (WL.shrC rfl rfl 16 rfl rfl 65536 rfl rfl (WL.conv Tryz.underlying185 Tryz.underlying5 rfl (mU8 _) rfl (WL.move rfl rfl (WL.shrC rfl rfl 8 rfl rfl 256 rfl rfl (WL.conv Tryz.underlying185 Tryz.underlying5 rfl (mU8 _) rfl (WL.move rfl rfl (WL.conv Tryz.underlying185 Tryz.underlying5 rfl (mU8 _) rfl (WL.buildS Tryz.elem5 (by assumption) rfl rfl rfl (by simp [Value.oneCell']) rfl rfl ?_)))))))))))))))))))))
 intro g w1 m1
 rw [fixed_bs] at m1
 refine WL.assign rfl rfl (WL.nil (WX.next (W.sub [(2, _)] (.cons rfl .nil) (W.ret (WX.ret1 rfl rfl ?_)))))
 exact ⟨_, rfl, m1⟩
theorem refPutFixed_ok (n : Nat) (w : World) (hn : n < 4294967296) : Fn Tryz.prog 144 [.int .u32 (n : Int)] w fun v w' =>
 ∃ A, v = .slice A 4 4 ∧ Mem w w' [Asr.own 5 1 A 4 4 (bs (fixed n))] := by
 have m0 := Mem.refl w
 refine Fn.enter Tryz.func144 rfl Tryz.ntmps144 rfl (W.sub [(0, _)] (.cons rfl .nil) (W.seq (W.region (WL.assign rfl rfl (WL.nil (WX.next (W.sub [(0, _)] (.cons rfl .nil) (W.seq (W.region (WL.move rfl rfl (WL.quo rfl rfl (by omega) (quoU32 (by omega)) rfl ?_)))))))))))
 refine WL.conv Tryz.underlying185 Tryz.underlying5 rfl (mU8 _) rfl (WL.move rfl rfl (WL.quo rfl rfl (by omega) (quoU32 (by omega)) rfl ?_))
 refine WL.rem rfl rfl (by omega) (remN (by omega)) rfl ?_
 refine WL.conv Tryz.underlying185 Tryz.underlying5 rfl (wU8 (by omega)) rfl ?_
 refine WL.move rfl rfl (WL.quo rfl rfl (by omega) (quoU32 (by omega)) rfl ?_)
 refine WL.rem rfl rfl (by omega) (remN (by omega)) rfl ?_
 refine WL.conv Tryz.underlying185 Tryz.underlying5 rfl (wU8 (by omega)) rfl ?_
 refine WL.move rfl rfl (WL.rem rfl rfl (by omega) (remN (by omega)) rfl ?_)
 refine WL.conv Tryz.underlying185 Tryz.underlying5 rfl (wU8 (by omega)) rfl ?_
 refine WL.buildS Tryz.elem5 (by assumption) rfl rfl rfl (by simp [Value.oneCell']) rfl rfl ?_
 intro g w1 m1
 rw [fixed_bs] at m1
 refine WL.assign rfl rfl (WL.nil (WX.next (W.sub [(2, _)] (.cons rfl .nil) (W.ret (WX.ret1 rfl rfl ?_)))))
 exact ⟨_, rfl, m1⟩
def rdFv (x : Nat × Int × Int) : Value := .tuple #[.int .u32 (x.1 : Int), .int .i64 x.2.1, .int .i64 x.2.2]
namespace Bin
/-- What the first k of four bytes come to. -/
def beV (l : List UInt8) : Nat → Nat
 | 0 => 0
 | k + 1 => beV l k * 256 + (l[k]?.getD 0).toNat
theorem beV_zero (l : List UInt8) : beV l 0 = 0 := rfl
theorem beV_succ (l : List UInt8) (k : Nat) : beV l (k + 1) = beV l k * 256 + (l[k]?.getD 0).toNat := rfl
theorem beV_lt (l : List UInt8) : ∀ k, beV l k < 256 ^ k
 | 0 => by rw [beV_zero]; decide
 | k + 1 => by
   have h1 := beV_lt l k
   have h2 : (l[k]?.getD 0).toNat < 256 := UInt8.toNat_lt _
   rw [beV_succ, Nat.pow_succ]
   omega
end Bin
theorem orShl8 {v c : Nat} (hv : v < 16777216) (hc : c < 256) : bits .or .u32 ((v : Int) * 256) (c : Int) = ((v * 256 + c : Nat) : Int) := by
 have h := Nat.two_pow_add_eq_or_of_lt (i := 8) (b := c) (by omega) v
 rw [show (v : Int) * 256 = ((v * 256 : Nat) : Int) by omega, orU32 _ _ (by omega) (by omega), Nat.mul_comm v 256]
 have h' : 256 * v + c = 256 * v ||| c := h
 omega
theorem Fixed_ok (l : List UInt8) (A : Option Addr) (cap : Nat) (at_ : Int) (w : World) (h : RdB w A cap l) (hl : l.length ≤ 140737488355328) (ha : -9223372036854775808 ≤ at_ ∧ at_ ≤ 9223372036854775807) :
 Fn Tryz.prog 121 [.slice A l.length cap, .int .i64 at_] w fun v w' => v = rdFv (rdF l at_) ∧ w = w' := by
 refine Fn.enter Tryz.func121 rfl Tryz.ntmps121 rfl (W.sub [(0, _), (1, _)] (.cons rfl (.cons rfl .nil)) (W.seq (W.region (WL.assign rfl rfl (WL.assign rfl rfl (WL.assign rfl rfl (WL.nil (WX.next (W.sub [(0, _), (1, _)] (.cons rfl (.cons rfl .nil)) (W.seq (W.seq (W.region (WL.move rfl rfl (WL.lss rfl rfl rfl (WL.moveIf rfl rfl (fun c0 => ?_) (fun c0 => ?_))))))))))))))))
 ·refine WL.off rfl rfl rfl rfl (WL.off rfl rfl rfl rfl (WL.off rfl rfl rfl rfl (WL.off rfl rfl rfl rfl (WL.pickT rfl rfl rfl (WL.nil (WX.next (W.sub [(0, _), (1, _), (17, _)] (.cons rfl (.cons rfl (.cons rfl .nil))) (W.condT rfl (W.seq (W.region (WL.assign rfl rfl (WL.assign rfl rfl (WL.assign rfl rfl (WL.nil (WX.next (W.sub [(4, _), (5, _), (6, _)] (.cons rfl (.cons rfl (.cons rfl .nil))) (W.ret (WX.thenRet (WX.ret3 rfl rfl rfl rfl ?_)))))))))))))))))))
  exact ⟨by rw [rdF_out (by omega)]; rfl, rfl⟩
 ·refine WL.on rfl rfl (WL.move rfl rfl (WL.on rfl rfl (WL.move rfl rfl (WL.on rfl rfl (WL.len Tryz.underlying84 rfl rfl (WL.on rfl rfl (WL.gtr rfl rfl rfl (WL.pickF rfl rfl rfl (WL.nil (WX.next (W.sub [(0, _), (1, _), (17, _)] (.cons rfl (.cons rfl (.cons rfl .nil))) (W.ite rfl (fun c1 => ?_) (fun c1 => ?_)))))))))))))
  ·refine W.seq (W.region (WL.assign rfl rfl (WL.assign rfl rfl (WL.assign rfl rfl (WL.nil (WX.next (W.sub [(4, _), (5, _), (6, _)] (.cons rfl (.cons rfl (.cons rfl .nil))) (W.ret (WX.thenRet (WX.ret3 rfl rfl rfl rfl ?_))))))))))
   exact ⟨by rw [rdF_out (by omega)]; rfl, rfl⟩
  ·refine W.skip (WX.next (W.seq (W.seq (W.region (WL.move rfl rfl (WL.len Tryz.underlying84 rfl rfl (WL.move rfl rfl (WL.sub' rfl rfl (by first | exact wI64 (by omega) | rfl) rfl ?_))))))))
   refine WL.lss rfl rfl rfl (WL.nil (WX.next (W.sub [(0, _), (1, _), (22, _)] (.cons rfl (.cons rfl (.cons rfl .nil))) (W.ite rfl (fun c2 => ?_) (fun c2 => ?_)))))
   ·refine W.seq (W.region (WL.assign rfl rfl (WL.assign rfl rfl (WL.assign rfl rfl (WL.nil (WX.next (W.sub [(4, _), (5, _), (6, _)] (.cons rfl (.cons rfl (.cons rfl .nil))) (W.ret (WX.thenRet (WX.ret3 rfl rfl rfl rfl ?_))))))))))
    exact ⟨by rw [rdF_short (by omega) (by omega) (by omega)]; rfl, rfl⟩
   ·refine W.skip (WX.next (W.seq (W.region (WL.assign rfl rfl (WL.nil (WX.next (W.sub [(0, _), (1, _), (7, _)] (.cons rfl (.cons rfl (.cons rfl .nil))) (W.seq (W.seq (W.region (WL.move rfl rfl (WL.move rfl rfl (WL.move rfl rfl (WL.add rfl rfl (by first | exact wI64 (by omega) | rfl) rfl ?_))))))))))))))
    refine WL.sliceLHB Tryz.underlying84 Tryz.sizeOf5 rfl rfl rfl (by assumption) rfl (by omega) (by omega) (by omega) rfl ?_
    intro A' L hL hLl hR
    have e4 : (at_ + 4).toNat - at_.toNat = 4 := by omega
    rw [e4] at hLl hL
    have hLk : ∀ k (hk : k < L.length) (hi : at_.toNat + k < l.length), L[k] = l[at_.toNat + k] := fun k hk hi => by subst hL; simp
    refine WL.len Tryz.underlying84 rfl rfl (WL.move rfl rfl (WL.nil (WX.next (W.sub [(1, _), (7, _), (27, _), (28, _), (29, _)] (.cons rfl (.cons rfl (.cons rfl (.cons rfl (.cons rfl .nil))))) (W.block (W.loop (ι := Nat) (fun k => [(1, .int .i64 at_), (7, .int .u32 ((beV L k : Nat) : Int)), (27, .slice A' L.length (cap - at_.toNat)), (28, .int .i64 (L.length : Int)), (29, .int .i64 (k : Int))]) (fun k w' => w = w' ∧ k ≤ 4) (fun k => 4 - k) (0) envSub.sf ⟨rfl, by omega⟩ ?_))))))
    rintro k _ ⟨rfl, hk⟩
    refine W.sub [(1, _), (7, _), (27, _), (28, _), (29, _)] (.cons rfl (.cons rfl (.cons rfl (.cons rfl (.cons rfl .nil))))) (W.seq (W.region (WL.lss rfl rfl rfl (WL.nil (WX.next (W.sub [(1, _), (7, _), (27, _), (28, _), (29, _), (30, _)] (.cons rfl (.cons rfl (.cons rfl (.cons rfl (.cons rfl (.cons rfl .nil)))))) (W.seq (W.ite rfl (fun c3 => ?_) (fun c3 => ?_)))))))))
    ·refine W.skip (WX.next (W.seq (W.block (W.seq (W.region (WL.idxB Tryz.underlying84 Tryz.sizeOf5 rfl rfl hR rfl (by omega) (by omega) rfl ?_))))))
     intro ad8_0 had8_0
     try simp only [Int.toNat_natCast] at had8_0
     have hkL : k < L.length := by omega
     have hc8 := UInt8.toNat_lt (L[k]'hkL)
     have hv : beV L k < 16777216 := Nat.lt_of_lt_of_le (beV_lt L k) (Nat.pow_le_pow_right (by decide) (show k ≤ 3 by omega))
     have hs : beV L (k + 1) = beV L k * 256 + (L[k]'hkL).toNat := by rw [beV_succ, show L[k]?.getD 0 = L[k]'hkL by simp [hkL]]
     refine WL.load Tryz.isAgg5 rfl (by assumption) rfl ?_
     refine WL.assign rfl rfl (WL.nil (WX.next (W.sub [(1, _), (7, _), (9, _), (27, _), (28, _), (29, _)] (.cons rfl (.cons rfl (.cons rfl (.cons rfl (.cons rfl (.cons rfl .nil)))))) (W.region (WL.move rfl rfl (WL.shlC rfl rfl 8 rfl rfl 256 rfl (by first | exact wU32 (by omega) | exact mU32 _ | rfl) rfl ?_))))))
     refine WL.move rfl rfl (WL.conv Tryz.underlying5 Tryz.underlying185 rfl (by first | exact wU32 (by omega) | exact mU32 _ | rfl) rfl ?_)
     refine WL.bor rfl rfl (orShl8 hv hc8) rfl (WL.assign rfl rfl (WL.nil (WX.blockNormal (WX.next (W.sub [(1, _), (7, _), (27, _), (28, _), (29, _)] (.cons rfl (.cons rfl (.cons rfl (.cons rfl (.cons rfl .nil))))) (W.region (WL.add rfl rfl (by first | exact wI64 (by omega) | rfl) rfl ?_)))))))
     refine WL.move rfl rfl (WL.nil ?_)
     refine WX.round (k + 1) envSub.sf ⟨rfl, by omega⟩ (by first | omega | (dsimp only; omega))
    ·refine W.exit (WX.thenExit (WX.thenExit (WX.blockHere (WX.next (W.seq (W.region (WL.move rfl rfl (WL.move rfl rfl (WL.add rfl rfl (by first | exact wI64 (by omega) | rfl) rfl ?_)))))))))
     refine WL.assign rfl rfl (WL.assign rfl rfl (WL.assign rfl rfl (WL.nil (WX.next (W.sub [(4, _), (5, _), (6, _)] (.cons rfl (.cons rfl (.cons rfl .nil))) (W.ret (WX.ret3 rfl rfl rfl rfl ?_)))))))
     obtain rfl : k = 4 := by omega
     exact ⟨by
      have h0 : l[at_.toNat]'(by omega) = L[0]'(by omega) := by simpa using (hLk 0 (by omega) (by omega)).symm
      rw [rdF_ok (by omega) (by omega), h0, ← hLk 1 (by omega) (by omega), ← hLk 2 (by omega) (by omega), ← hLk 3 (by omega) (by omega)]
      have e : beV L 4 = be4 (L[0]'(by omega)) (L[1]'(by omega)) (L[2]'(by omega)) (L[3]'(by omega)) := by
       rw [beV_succ, beV_succ, beV_succ, beV_succ, beV_zero]
       simp [hLl, be4]
       omega
      rw [e]
      rfl, rfl⟩
theorem refFixed_ok (l : List UInt8) (A : Option Addr) (cap : Nat) (at_ : Int) (w : World) (h : RdB w A cap l) (hl : l.length ≤ 140737488355328) (ha : -9223372036854775808 ≤ at_ ∧ at_ ≤ 9223372036854775807) :
 Fn Tryz.prog 95 [.slice A l.length cap, .int .i64 at_] w fun v w' => v = rdFv (rdF l at_) ∧ Mem w w' [] := by
 refine Fn.enter Tryz.func95 rfl Tryz.ntmps95 rfl (W.sub [(0, _), (1, _)] (.cons rfl (.cons rfl .nil)) (W.seq (W.region (WL.assign rfl rfl (WL.assign rfl rfl (WL.assign rfl rfl (WL.nil (WX.next (W.sub [(0, _), (1, _)] (.cons rfl (.cons rfl .nil)) (W.seq (W.block (W.seq (W.region (WL.move rfl rfl (WL.lss rfl rfl rfl (WL.moveIf rfl rfl (fun c0 => ?_) (fun c0 => ?_)))))))))))))))))
 ·refine WL.off rfl rfl rfl rfl (WL.off rfl rfl rfl rfl (WL.off rfl rfl rfl rfl (WL.off rfl rfl rfl rfl (WL.pickT rfl rfl rfl (WL.assign rfl rfl (WL.nil (WX.next (W.sub [(0, _), (1, _), (7, _)] (.cons rfl (.cons rfl (.cons rfl .nil))) (W.condT rfl (W.seq (W.region (WL.assign rfl rfl (WL.assign rfl rfl (WL.assign rfl rfl (WL.nil (WX.next (W.sub [(4, _), (5, _), (6, _)] (.cons rfl (.cons rfl (.cons rfl .nil))) (W.ret (WX.blockRet (WX.thenRet (WX.ret3 rfl rfl rfl rfl ?_)))))))))))))))))))))
  exact ⟨by rw [rdF_out (by omega)]; rfl, Mem.refl w⟩
 ·refine WL.on rfl rfl (WL.move rfl rfl (WL.on rfl rfl (WL.move rfl rfl (WL.on rfl rfl (WL.len Tryz.underlying84 rfl rfl (WL.on rfl rfl (WL.gtr rfl rfl rfl (WL.pickF rfl rfl rfl (WL.assign rfl rfl (WL.nil (WX.next (W.sub [(0, _), (1, _), (7, _)] (.cons rfl (.cons rfl (.cons rfl .nil))) (W.ite rfl (fun c1 => ?_) (fun c1 => ?_))))))))))))))
  ·refine W.seq (W.region (WL.assign rfl rfl (WL.assign rfl rfl (WL.assign rfl rfl (WL.nil (WX.next (W.sub [(4, _), (5, _), (6, _)] (.cons rfl (.cons rfl (.cons rfl .nil))) (W.ret (WX.blockRet (WX.thenRet (WX.ret3 rfl rfl rfl rfl ?_)))))))))))
   exact ⟨by rw [rdF_out (by omega)]; rfl, Mem.refl w⟩
  ·refine W.seq (W.region (WL.move rfl rfl (WL.len Tryz.underlying84 rfl rfl (WL.move rfl rfl (WL.sub' rfl rfl (by first | exact wI64 (by omega) | rfl) rfl ?_)))))
   refine WL.lss rfl rfl rfl (WL.assign rfl rfl (WL.nil (WX.next (W.sub [(0, _), (1, _), (16, _)] (.cons rfl (.cons rfl (.cons rfl .nil))) (W.ite rfl (fun c2 => ?_) (fun c2 => ?_))))))
   ·refine W.seq (W.region (WL.assign rfl rfl (WL.assign rfl rfl (WL.assign rfl rfl (WL.nil (WX.next (W.sub [(4, _), (5, _), (6, _)] (.cons rfl (.cons rfl (.cons rfl .nil))) (W.ret (WX.blockRet (WX.thenRet (WX.ret3 rfl rfl rfl rfl ?_)))))))))))
    exact ⟨by rw [rdF_short (by omega) (by omega) (by omega)]; rfl, Mem.refl w⟩
   ·obtain ⟨ad, rfl, _, hcell⟩ := h.at_ (by omega)
    obtain ⟨x0, hx0⟩ : ∃ x : Nat, (l[at_.toNat]'(by omega)).toNat = x := ⟨_, rfl⟩
    have b0 : x0 < 256 := hx0 ▸ UInt8.toNat_lt _
    have g0 : (bs l)[at_.toNat]? = some (.int .u8 (x0 : Int)) := by
     rw [bs_get, List.getElem?_eq_getElem (by omega), ← hx0]
     rfl
    obtain ⟨x1, hx1⟩ : ∃ x : Nat, (l[at_.toNat + 1]'(by omega)).toNat = x := ⟨_, rfl⟩
    have b1 : x1 < 256 := hx1 ▸ UInt8.toNat_lt _
    have g1 : (bs l)[at_.toNat + 1]? = some (.int .u8 (x1 : Int)) := by
     rw [bs_get, List.getElem?_eq_getElem (by omega), ← hx1]
     rfl
    obtain ⟨x2, hx2⟩ : ∃ x : Nat, (l[at_.toNat + 2]'(by omega)).toNat = x := ⟨_, rfl⟩
    have b2 : x2 < 256 := hx2 ▸ UInt8.toNat_lt _
    have g2 : (bs l)[at_.toNat + 2]? = some (.int .u8 (x2 : Int)) := by
     rw [bs_get, List.getElem?_eq_getElem (by omega), ← hx2]
     rfl
    obtain ⟨x3, hx3⟩ : ∃ x : Nat, (l[at_.toNat + 3]'(by omega)).toNat = x := ⟨_, rfl⟩
    have b3 : x3 < 256 := hx3 ▸ UInt8.toNat_lt _
    have g3 : (bs l)[at_.toNat + 3]? = some (.int .u8 (x3 : Int)) := by
     rw [bs_get, List.getElem?_eq_getElem (by omega), ← hx3]
     rfl
    refine W.skip (WX.blockNormal (WX.next (W.seq (W.draw (by kernel_rfl) (fun w' => ∀ j v, (bs l)[j]? = some v → w'.cell? (ad.add j) = some v) (fun j => true) ?_))))
    apply DG.take [0, 1, 2, 3, 4, 5, 6, 7, 8, 9, 10, 11, 12, 13, 14, 15, 16, 17, 18, 19, 20, 21, 22, 23, 24, 25, 26, 27, 28, 29, 30, 31, 32, 33] 0 rfl (by kernel_rfl) (by kernel_rfl) (hcell)
    ·intro wS hS
     refine WL.move rfl rfl (WL.move rfl rfl (WL.idxP (o' := at_.toNat) Tryz.underlying84 Tryz.sizeOf5 rfl rfl (by omega) (by omega) (by omega) rfl ?_))
     refine WL.load Tryz.isAgg5 rfl (hS _ _ g0) rfl (WL.conv Tryz.underlying5 Tryz.underlying185 rfl (by first | exact wU32 (by omega) | exact mU32 _ | rfl) rfl ?_)
     refine WL.mul rfl rfl (by first | exact wU32 (by omega) | exact mU32 _ | rfl) rfl ?_
     refine WL.move rfl rfl (WL.move rfl rfl (WL.add rfl rfl (by first | exact wI64 (by omega) | rfl) rfl ?_))
     refine WL.idxP (o' := at_.toNat + 1) Tryz.underlying84 Tryz.sizeOf5 rfl rfl (by omega) (by omega) (by omega) rfl ?_
     refine WL.load Tryz.isAgg5 rfl (hS _ _ g1) rfl (WL.conv Tryz.underlying5 Tryz.underlying185 rfl (by first | exact wU32 (by omega) | exact mU32 _ | rfl) rfl ?_)
     refine WL.mul rfl rfl (by first | exact wU32 (by omega) | exact mU32 _ | rfl) rfl ?_
     refine WL.add rfl rfl (by first | exact wU32 (by omega) | exact mU32 _ | rfl) rfl ?_
     refine WL.move rfl rfl (WL.move rfl rfl (WL.add rfl rfl (by first | exact wI64 (by omega) | rfl) rfl ?_))
     refine WL.idxP (o' := at_.toNat + 2) Tryz.underlying84 Tryz.sizeOf5 rfl rfl (by omega) (by omega) (by omega) rfl ?_
     refine WL.load Tryz.isAgg5 rfl (hS _ _ g2) rfl (WL.conv Tryz.underlying5 Tryz.underlying185 rfl (by first | exact wU32 (by omega) | exact mU32 _ | rfl) rfl ?_)
     refine WL.mul rfl rfl (by first | exact wU32 (by omega) | exact mU32 _ | rfl) rfl ?_
     refine WL.add rfl rfl (by first | exact wU32 (by omega) | exact mU32 _ | rfl) rfl ?_
     refine WL.move rfl rfl (WL.move rfl rfl (WL.add rfl rfl (by first | exact wI64 (by omega) | rfl) rfl ?_))
     refine WL.idxP (o' := at_.toNat + 3) Tryz.underlying84 Tryz.sizeOf5 rfl rfl (by omega) (by omega) (by omega) rfl ?_
     refine WL.load Tryz.isAgg5 rfl (hS _ _ g3) rfl (WL.conv Tryz.underlying5 Tryz.underlying185 rfl (by first | exact wU32 (by omega) | exact mU32 _ | rfl) rfl ?_)
     refine WL.add rfl rfl (by first | exact wU32 (by omega) | exact mU32 _ | rfl) rfl ?_
     refine WL.move rfl rfl (WL.add rfl rfl (by first | exact wI64 (by omega) | rfl) rfl ?_)
     refine WL.assign rfl rfl (WL.assign rfl rfl (WL.assign rfl rfl ?_))
     exact Chain.end_ rfl
    refine DG.end_ (by kernel_rfl) ?_
    refine WX.next (W.sub [(4, _), (5, _), (6, _)] (.cons rfl (.cons rfl (.cons rfl .nil))) (W.ret (WX.ret3 rfl rfl rfl rfl ?_)))
    exact ⟨by rw [rdF_ok (by omega) (by omega)]; exact congrArg (fun x : Int => Value.tuple #[.int .u32 x, .int .i64 (at_ + 4), .int .i64 0]) (by unfold be4; rw [hx0, hx1, hx2, hx3]; omega), (Mem.refl w).drew⟩
end Go.Proofs.YtlminileigfkcaaGreat
namespace Go.Proofs.YtlminileigfkcaaGreat
open Go Go.RowKit Crc
section
variable {P : Program} {n : Nat} {ρ : List (Nat × Value)} {w : World} {rest : List Oper} {X : SqV P n}
variable {d : Nat} {ty : TypeId} {pos : String} {aft : Array Edge} {x : Operand} {t : TypeId} {k : IntKind} {i r : Int}
theorem WL.com (hx : ev ρ x = some (.int k i)) (hr : bits .xor k (if k.signed then -1 else k.max) i = r) (hd : Nat.blt d n = true)
 (kk : X.S rest ((d, .int k r) :: ρ) w) : X.S (⟨some d, .unOp .xor t x, ty, pos, aft, none⟩ :: rest) ρ w :=
 WL.val rfl rfl hd (fun a ha => by simp [execOp, ha.eval hx, Op.unary, intBits_xor, hr]) kk
end
theorem comU32 (r : Nat) (h : r < 4294967296) : bits .xor .u32 (if IntKind.u32.signed then -1 else IntKind.u32.max) (r : Int) = ((4294967295 - r : Nat) : Int) := by
 have h1 := xorU32 4294967295 r (by omega) h
 have h2 : 4294967295 ^^^ r = 4294967295 - r := by
  have h1 := congrArg BitVec.toNat (BitVec.xor_allOnes (x := BitVec.ofNat 32 r))
  simp only [BitVec.toNat_xor, BitVec.toNat_ofNat, BitVec.toNat_allOnes, BitVec.toNat_not, Nat.reducePow, Nat.mod_eq_of_lt h] at h1
  rw [Nat.xor_comm]
  omega
 rw [h2] at h1
 exact h1
theorem and1U32 (a : Nat) (h : a < 4294967296) : bits .and .u32 (a : Int) 1 = ((a % 2 : Nat) : Int) := by
 have := andU32 a 1 h (by omega)
 rw [show a &&& 1 = a % 2 from Nat.and_two_pow_sub_one_eq_mod a 1] at this
 exact this
theorem flat_take (ps : List OX) (i : Nat) (h : i < ps.length) : (ps.take (i + 1)).flatMap OX.l = (ps.take i).flatMap OX.l ++ ps[i].l := by
 rw [List.take_succ_eq_append_getElem h, List.flatMap_append]
 simp
theorem crcL_flat (r : Nat) (ps : List OX) (i : Nat) (h : i < ps.length) : crcL r ((ps.take (i + 1)).flatMap OX.l) = crcL (crcL r ((ps.take i).flatMap OX.l)) ps[i].l := by
 rw [flat_take ps i h, crcL_append]
theorem crcL_take (r : Nat) (l : List UInt8) (j : Nat) (h : j < l.length) : crcL r (l.take (j + 1)) = crcB (crcL r (l.take j)) l[j] := by
 rw [List.take_succ_eq_append_getElem h, crcL_snoc]
/-- The sum of parts that can be read. -/
theorem Sum_ok {ps : List OX} {B : Option Addr} {c : Nat} {w : World} (hB : Rd w B ps.length c 1 (ps.map OX.v)) (hp : ∀ x ∈ ps, RdB w x.A x.cap x.l) (hn : ps.length ≤ 1000000) (hl : ∀ x ∈ ps, x.l.length ≤ 140737488355328) :
 Fn Tryz.prog 122 [.slice B ps.length c] w fun v w' => v = .int .u32 (crc (ps.flatMap OX.l) : Int) ∧ w = w' := by
 refine Fn.enter Tryz.func122 rfl Tryz.ntmps122 rfl (W.sub [(0, _)] (.cons rfl .nil) (W.seq (W.region (WL.assign rfl rfl (WL.nil (WX.next (W.sub [(0, _)] (.cons rfl .nil) (W.seq (W.region (WL.assign rfl rfl (WL.nil (WX.next (W.sub [(0, _), (3, _)] (.cons rfl (.cons rfl .nil)) (W.seq (W.seq (W.region (WL.move rfl rfl (WL.len Tryz.underlying82 rfl rfl (WL.move rfl rfl (WL.nil (WX.next (W.sub [(3, _), (9, _), (10, _), (11, _)] (.cons rfl (.cons rfl (.cons rfl (.cons rfl .nil)))) (W.block ?_)))))))))))))))))))))))
 refine W.loop (ι := Nat × Nat) (fun s => [(3, .int .u32 (s.2 : Int)), (9, .slice B ps.length c), (10, .int .i64 (ps.length : Int)), (11, .int .i64 (s.1 : Int))]) (fun s w' => s.1 ≤ ps.length ∧ s.2 < 4294967296 ∧ s.2 = crcL 4294967295 ((ps.take s.1).flatMap OX.l) ∧ w = w') (fun s => ps.length - s.1) ((0, 4294967295)) envSub.sf ⟨by dsimp only; omega, by dsimp only; omega, by dsimp only; rw [List.take_zero, List.flatMap_nil, crcL_nil], rfl⟩ ?_
 rintro ⟨i, r⟩ _ ⟨hi, hr, hre, rfl⟩; dsimp only at hi hr hre ⊢
 refine W.sub [(3, _), (9, _), (10, _), (11, _)] (.cons rfl (.cons rfl (.cons rfl (.cons rfl .nil)))) (W.seq (W.region (WL.lss rfl rfl rfl (WL.nil (WX.next (W.sub [(3, _), (9, _), (10, _), (11, _), (12, _)] (.cons rfl (.cons rfl (.cons rfl (.cons rfl (.cons rfl .nil))))) (W.seq (W.ite rfl (fun c0 => ?_) (fun c0 => ?_)))))))))
 ·obtain ⟨⟨A, cap, l⟩, hx⟩ : ∃ x, x = ps[i]'(by omega) := ⟨_, rfl⟩
  have hmem : (⟨A, cap, l⟩ : OX) ∈ ps := hx ▸ List.getElem_mem _
  have hR : RdB w A cap l := hp _ hmem
  have hll : l.length ≤ 140737488355328 := hl _ hmem
  have hxi : (ps.map OX.v)[i]? = some (.slice A l.length cap) := by
   rw [List.getElem?_map, List.getElem?_eq_getElem (by omega), ← hx]
   rfl
  refine W.skip (WX.next (W.seq (W.block (W.seq (W.region ?_)))))
  refine WL.idx1 Tryz.underlying82 Tryz.sizeOf84 rfl rfl hB (by rw [Int.toNat_natCast]; exact hxi) (by omega) rfl ?_
  intro ad4 had4
  refine WL.load Tryz.isAgg84 rfl had4 rfl (WL.assign rfl rfl (WL.nil (WX.next (W.sub [(3, _), (5, _), (9, _), (10, _), (11, _)] (.cons rfl (.cons rfl (.cons rfl (.cons rfl (.cons rfl .nil))))) (W.seq (W.region (WL.move rfl rfl (WL.len Tryz.underlying84 rfl rfl (WL.move rfl rfl (WL.nil (WX.next (W.sub [(3, _), (9, _), (10, _), (11, _), (15, _), (16, _), (17, _)] (.cons rfl (.cons rfl (.cons rfl (.cons rfl (.cons rfl (.cons rfl (.cons rfl .nil))))))) (W.block ?_)))))))))))))
  refine W.loop (ι := Nat × Nat) (fun s => [(3, .int .u32 (s.2 : Int)), (9, .slice B ps.length c), (10, .int .i64 (ps.length : Int)), (11, .int .i64 (i : Int)), (15, .slice A l.length cap), (16, .int .i64 (l.length : Int)), (17, .int .i64 (s.1 : Int))]) (fun s w' => s.1 ≤ l.length ∧ s.2 < 4294967296 ∧ s.2 = crcL r (l.take s.1) ∧ w = w') (fun s => l.length - s.1) ((0, r)) envSub.sf ⟨by dsimp only; omega, hr, by dsimp only; rw [List.take_zero, crcL_nil], rfl⟩ ?_
  rintro ⟨j, r1⟩ _ ⟨hj, hr1, hre1, rfl⟩; dsimp only at hj hr1 hre1 ⊢
  refine W.sub [(3, _), (9, _), (10, _), (11, _), (15, _), (16, _), (17, _)] (.cons rfl (.cons rfl (.cons rfl (.cons rfl (.cons rfl (.cons rfl (.cons rfl .nil))))))) (W.seq (W.region (WL.lss rfl rfl rfl (WL.nil (WX.next (W.sub [(3, _), (9, _), (10, _), (11, _), (15, _), (16, _), (17, _), (18, _)] (.cons rfl (.cons rfl (.cons rfl (.cons rfl (.cons rfl (.cons rfl (.cons rfl (.cons rfl .nil)))))))) (W.seq (W.ite rfl (fun c1 => ?_) (fun c1 => ?_)))))))))
  ·have hjl : j < l.length := by omega
   obtain ⟨cb, hcb⟩ : ∃ cb, cb = l[j] := ⟨_, rfl⟩
   have hc8 := UInt8.toNat_lt cb
   have hbj : (bs l)[j]? = some (.int .u8 (cb.toNat : Int)) := by
    rw [bs_get, List.getElem?_eq_getElem hjl, hcb]
    rfl
   obtain ⟨r0, hr0⟩ : ∃ r0, r0 = r1 ^^^ cb.toNat := ⟨_, rfl⟩
   have hr0l : r0 < 4294967296 := hr0 ▸ byte_xor_lt hr1 cb
   refine W.skip (WX.next (W.seq (W.block (W.seq (W.region ?_)))))
   refine WL.idx1 Tryz.underlying84 Tryz.sizeOf5 rfl rfl hR (by rw [Int.toNat_natCast]; exact hbj) (by omega) rfl ?_
   intro ad7 had7
   refine WL.load Tryz.isAgg5 rfl had7 rfl (WL.assign rfl rfl (WL.nil (WX.next (W.sub [(3, _), (7, _), (9, _), (10, _), (11, _), (15, _), (16, _), (17, _)] (.cons rfl (.cons rfl (.cons rfl (.cons rfl (.cons rfl (.cons rfl (.cons rfl (.cons rfl .nil)))))))) (W.seq (W.region (WL.move rfl rfl (WL.move rfl rfl (WL.conv Tryz.underlying5 Tryz.underlying185 rfl (by first | exact wU32 (by omega) | exact mU32 _ | rfl) rfl ?_)))))))))
   refine WL.bxor rfl rfl (xorU32 _ _ hr1 (by omega)) rfl ?_
   refine WL.assign rfl rfl ?_
   rw [← hr0]
   refine WL.nil (WX.next (W.sub [(3, _), (9, _), (10, _), (11, _), (15, _), (16, _), (17, _)] (.cons rfl (.cons rfl (.cons rfl (.cons rfl (.cons rfl (.cons rfl (.cons rfl .nil))))))) (W.seq (W.region (WL.move rfl rfl (WL.nil (WX.next (W.sub [(3, _), (9, _), (10, _), (11, _), (15, _), (16, _), (17, _), (25, _)] (.cons rfl (.cons rfl (.cons rfl (.cons rfl (.cons rfl (.cons rfl (.cons rfl (.cons rfl .nil)))))))) (W.block ?_)))))))))
   refine W.loop (ι := Nat × Nat) (fun s => [(3, .int .u32 (s.2 : Int)), (9, .slice B ps.length c), (10, .int .i64 (ps.length : Int)), (11, .int .i64 (i : Int)), (15, .slice A l.length cap), (16, .int .i64 (l.length : Int)), (17, .int .i64 (j : Int)), (25, .int .i64 (s.1 : Int))]) (fun s w' => s.1 ≤ 8 ∧ s.2 < 4294967296 ∧ s.2 = shN s.1 r0 ∧ w = w') (fun s => 8 - s.1) ((0, r0)) envSub.sf ⟨by dsimp only; omega, hr0l, by dsimp only; rw [shN_zero], rfl⟩ ?_
   rintro ⟨k, r2⟩ _ ⟨hk, hr2, hre2, rfl⟩; dsimp only at hk hr2 hre2 ⊢
   refine W.sub [(3, _), (9, _), (10, _), (11, _), (15, _), (16, _), (17, _), (25, _)] (.cons rfl (.cons rfl (.cons rfl (.cons rfl (.cons rfl (.cons rfl (.cons rfl (.cons rfl .nil)))))))) (W.seq (W.region (WL.lss rfl rfl rfl (WL.nil (WX.next (W.sub [(3, _), (9, _), (10, _), (11, _), (15, _), (16, _), (17, _), (25, _), (26, _)] (.cons rfl (.cons rfl (.cons rfl (.cons rfl (.cons rfl (.cons rfl (.cons rfl (.cons rfl (.cons rfl .nil))))))))) (W.seq (W.ite rfl (fun c2 => ?_) (fun c2 => ?_)))))))))
   ·refine W.skip (WX.next (W.seq (W.block (W.seq (W.region (WL.move rfl rfl (WL.band rfl rfl (and1U32 _ hr2) rfl (WL.assign rfl rfl (WL.nil (WX.next (W.sub [(3, _), (8, _), (9, _), (10, _), (11, _), (15, _), (16, _), (17, _), (25, _)] (.cons rfl (.cons rfl (.cons rfl (.cons rfl (.cons rfl (.cons rfl (.cons rfl (.cons rfl (.cons rfl .nil))))))))) (W.seq (W.region (WL.move rfl rfl (WL.shrC rfl rfl 1 rfl rfl 2 rfl rfl (WL.assign rfl rfl (WL.nil (WX.next (W.sub [(3, _), (8, _), (9, _), (10, _), (11, _), (15, _), (16, _), (17, _), (25, _)] (.cons rfl (.cons rfl (.cons rfl (.cons rfl (.cons rfl (.cons rfl (.cons rfl (.cons rfl (.cons rfl .nil))))))))) (W.seq (W.region (WL.move rfl rfl (WL.eqI rfl rfl rfl (WL.nil (WX.next (W.sub [(3, _), (9, _), (10, _), (11, _), (15, _), (16, _), (17, _), (25, _), (32, _)] (.cons rfl (.cons rfl (.cons rfl (.cons rfl (.cons rfl (.cons rfl (.cons rfl (.cons rfl (.cons rfl .nil))))))))) (W.ite rfl (fun c3 => ?_) (fun c3 => ?_))))))))))))))))))))))))))))
    ·have hs : shN (k + 1) r0 = r2 / 2 ^^^ 3988292384 := by
      rw [shN_succ, ← hre2, sh, if_pos (by omega)]
      rfl
     have hsl : r2 / 2 ^^^ 3988292384 < 4294967296 := by rw [← hs]; exact shN_lt hr0l _
     refine W.region (WL.move rfl rfl (WL.bxor rfl rfl (xorU32 (r2 / 2) 3988292384 (by omega) (by omega)) rfl ?_))
     refine WL.assign rfl rfl (WL.nil (WX.blockNormal (WX.next (W.sub [(3, _), (9, _), (10, _), (11, _), (15, _), (16, _), (17, _), (25, _)] (.cons rfl (.cons rfl (.cons rfl (.cons rfl (.cons rfl (.cons rfl (.cons rfl (.cons rfl .nil)))))))) (W.region (WL.add rfl rfl (by first | exact wI64 (by omega) | rfl) rfl ?_))))))
     refine WL.move rfl rfl (WL.nil ?_)
     refine WX.round ((k + 1, r2 / 2 ^^^ 3988292384)) envSub.sf ⟨by dsimp only; omega, hsl, hs.symm, rfl⟩ (by first | omega | (dsimp only; omega))
    ·have hs : shN (k + 1) r0 = r2 / 2 := by rw [shN_succ, ← hre2, sh, if_neg (by omega)]
     refine W.skip (WX.blockNormal (WX.next (W.region (WL.add rfl rfl (by first | exact wI64 (by omega) | rfl) rfl ?_))))
     refine WL.move rfl rfl (WL.nil ?_)
     refine WX.round ((k + 1, r2 / 2)) envSub.sf ⟨by dsimp only; omega, by dsimp only; omega, hs.symm, rfl⟩ (by first | omega | (dsimp only; omega))
   ·obtain rfl : k = 8 := by omega
    refine W.exit (WX.thenExit (WX.thenExit (WX.blockHere (WX.blockNormal (WX.next (W.region (WL.add rfl rfl (by first | exact wI64 (by omega) | rfl) rfl ?_)))))))
    refine WL.move rfl rfl (WL.nil ?_)
    skip
    have q : r2 = crcL r (l.take (j + 1)) := by
     rw [crcL_take r l j hjl, ← hre1, hre2, hr0, hcb]
     rfl
    refine WX.round ((j + 1, r2)) envSub.sf ⟨by dsimp only; omega, hr2, q, rfl⟩ (by first | omega | (dsimp only; omega))
  ·obtain rfl : j = l.length := by omega
   refine W.exit (WX.thenExit (WX.thenExit (WX.blockHere (WX.blockNormal (WX.next (W.region (WL.add rfl rfl (by first | exact wI64 (by omega) | rfl) rfl ?_)))))))
   refine WL.move rfl rfl (WL.nil ?_)
   skip
   have q : r1 = crcL 4294967295 ((ps.take (i + 1)).flatMap OX.l) := by
    rw [crcL_flat _ ps i (by omega), ← hre, ← hx, hre1, List.take_length]
   refine WX.round ((i + 1, r1)) envSub.sf ⟨by dsimp only; omega, hr1, q, rfl⟩ (by first | omega | (dsimp only; omega))
 ·obtain rfl : i = ps.length := by omega
  refine W.exit (WX.thenExit (WX.thenExit (WX.blockHere (WX.next (W.seq (W.region (WL.move rfl rfl (WL.com rfl (comU32 _ hr) rfl (WL.assign rfl rfl (WL.nil (WX.next (W.sub [(2, _)] (.cons rfl .nil) (W.ret (WX.ret1 rfl rfl ?_))))))))))))))
  exact ⟨by rw [hre, List.take_length]; rfl, rfl⟩
theorem refSum_ok (l : List UInt8) (A : Option Addr) (cap : Nat) (w : World) (h : RdB w A cap l) (hl : l.length ≤ 140737488355328) :
 Fn Tryz.prog 96 [.slice A l.length cap] w fun v w' => v = .int .u32 (crc l : Int) ∧ w = w' := by
 refine Fn.enter Tryz.func96 rfl Tryz.ntmps96 rfl (W.sub [(0, _)] (.cons rfl .nil) (W.seq (W.region (WL.assign rfl rfl (WL.nil (WX.next (W.sub [(0, _)] (.cons rfl .nil) (W.seq (W.region (WL.assign rfl rfl (WL.nil (WX.next (W.sub [(0, _), (3, _)] (.cons rfl (.cons rfl .nil)) (W.seq (W.seq (W.region (WL.assign rfl rfl (WL.nil (WX.next (W.sub [(0, _), (3, _), (4, _)] (.cons rfl (.cons rfl (.cons rfl .nil))) (W.block ?_)))))))))))))))))))))
 refine W.loop (ι := Nat × Nat) (fun s => [(0, .slice A l.length cap), (3, .int .u32 (s.2 : Int)), (4, .int .i64 (s.1 : Int))]) (fun s w' => s.1 ≤ l.length ∧ s.2 < 4294967296 ∧ s.2 = crcL 4294967295 (l.take s.1) ∧ w = w') (fun s => l.length - s.1) ((0, 4294967295)) envSub.sf ⟨by dsimp only; omega, by dsimp only; omega, by dsimp only; rw [List.take_zero, crcL_nil], rfl⟩ ?_
 rintro ⟨i, r⟩ _ ⟨hi, hr, hre, rfl⟩; dsimp only at hi hr hre ⊢
 refine W.sub [(0, _), (3, _), (4, _)] (.cons rfl (.cons rfl (.cons rfl .nil))) (W.seq (W.seq (W.region (WL.move rfl rfl (WL.move rfl rfl (WL.len Tryz.underlying84 rfl rfl (WL.lss rfl rfl rfl (WL.nil (WX.next (W.sub [(0, _), (3, _), (4, _), (11, _)] (.cons rfl (.cons rfl (.cons rfl (.cons rfl .nil)))) (W.ite rfl (fun c0 => ?_) (fun c0 => ?_))))))))))))
 ·have hjl : i < l.length := by omega
  obtain ⟨cb, hcb⟩ : ∃ cb, cb = l[i] := ⟨_, rfl⟩
  have hc8 := UInt8.toNat_lt cb
  have hbj : (bs l)[i]? = some (.int .u8 (cb.toNat : Int)) := by
   rw [bs_get, List.getElem?_eq_getElem hjl, hcb]
   rfl
  refine W.skip (WX.next (W.seq (W.block (W.seq (W.region (WL.assign rfl rfl (WL.nil (WX.next (W.sub [(0, _), (3, _), (4, _), (5, _)] (.cons rfl (.cons rfl (.cons rfl (.cons rfl .nil)))) (W.block ?_))))))))))
  refine W.loop (ι := Nat × Nat) (fun s => [(0, .slice A l.length cap), (3, .int .u32 (s.2 : Int)), (4, .int .i64 (i : Int)), (5, .int .i64 (s.1 : Int))]) (fun s w' => s.1 ≤ 8 ∧ s.2 < 4294967296 ∧ s.2 = refN cb.toNat r s.1 ∧ w = w') (fun s => 8 - s.1) ((0, r)) envSub.sf ⟨by dsimp only; omega, hr, rfl, rfl⟩ ?_
  rintro ⟨k, r2⟩ _ ⟨hk, hr2, hre2, rfl⟩; dsimp only at hk hr2 hre2 ⊢
  refine W.sub [(0, _), (3, _), (4, _), (5, _)] (.cons rfl (.cons rfl (.cons rfl (.cons rfl .nil)))) (W.seq (W.seq (W.region (WL.move rfl rfl (WL.lss rfl rfl rfl (WL.nil (WX.next (W.sub [(0, _), (3, _), (4, _), (5, _), (15, _)] (.cons rfl (.cons rfl (.cons rfl (.cons rfl (.cons rfl .nil))))) (W.ite rfl (fun c1 => ?_) (fun c1 => ?_))))))))))
  ·obtain ⟨ck, hck⟩ : ∃ ck, ck = cb.toNat / 2 ^ k := ⟨_, rfl⟩
   refine W.skip (WX.next (W.seq (W.block (W.seq (W.region (WL.move rfl rfl (WL.rem rfl rfl (by omega) (remN (by omega)) rfl ?_)))))))
   refine WL.eqI rfl rfl rfl (WL.assign rfl rfl (WL.nil (WX.next (W.sub [(0, _), (3, _), (4, _), (5, _), (6, _)] (.cons rfl (.cons rfl (.cons rfl (.cons rfl (.cons rfl .nil))))) (W.seq (W.region (WL.move rfl rfl (WL.move rfl rfl ?_))))))))
   refine WL.idx1 Tryz.underlying84 Tryz.sizeOf5 rfl rfl h (by rw [Int.toNat_natCast]; exact hbj) (by omega) rfl ?_
   intro ad9 had9
   refine WL.load Tryz.isAgg5 rfl had9 rfl (WL.move rfl rfl ?_)
   refine WL.shr rfl rfl (by omega) (by show _ ≤ (8 : Int); omega) (show (cb.toNat : Int) / 2 ^ (k : Int).toNat = (ck : Int) by rw [Int.toNat_natCast, hck]; simp) rfl ?_
   refine WL.rem rfl rfl (by omega) (remN (by omega)) rfl ?_
   refine WL.eqI rfl rfl rfl (WL.assign rfl rfl (WL.nil (WX.next (W.sub [(0, _), (3, _), (4, _), (5, _), (6, _), (7, _)] (.cons rfl (.cons rfl (.cons rfl (.cons rfl (.cons rfl (.cons rfl .nil)))))) (W.seq (W.region (WL.move rfl rfl (WL.quo rfl rfl (by omega) (quoU32 (by omega)) rfl ?_))))))))
   refine WL.assign rfl rfl (WL.nil (WX.next (W.sub [(0, _), (3, _), (4, _), (5, _), (6, _), (7, _)] (.cons rfl (.cons rfl (.cons rfl (.cons rfl (.cons rfl (.cons rfl .nil)))))) (W.seq (W.region (WL.move rfl rfl (WL.move rfl rfl (WL.neB Tryz.underlying4 rfl rfl rfl (WL.nil (WX.next (W.sub [(0, _), (3, _), (4, _), (5, _), (33, _)] (.cons rfl (.cons rfl (.cons rfl (.cons rfl (.cons rfl .nil))))) (W.ite rfl (fun c2 => ?_) (fun c2 => ?_)))))))))))))
   ·skip
    have hs : refN cb.toNat r (k + 1) = r2 / 2 ^^^ 3988292384 := by
     rw [refN, ← hre2, rs, ← hck, if_pos (by
      have e1 : ((r2 : Int) % 2 = 1) ↔ (r2 % 2 = 1) := by omega
      have e2 : ((ck : Int) % 2 = 1) ↔ (ck % 2 = 1) := by omega
      rw [ne_eq, decide_eq_decide, e1, e2] at c2
      by_cases h1 : r2 % 2 = 1 <;> by_cases h2 : ck % 2 = 1 <;> simp_all)]
     rfl
    have hsl : r2 / 2 ^^^ 3988292384 < 4294967296 := by rw [← hs]; exact refN_lt hr _
    refine W.region (WL.move rfl rfl (WL.bxor rfl rfl (xorU32 (r2 / 2) 3988292384 (by omega) (by omega)) rfl ?_))
    refine WL.assign rfl rfl (WL.nil (WX.blockNormal (WX.next (W.sub [(0, _), (3, _), (4, _), (5, _)] (.cons rfl (.cons rfl (.cons rfl (.cons rfl .nil)))) (W.region (WL.move rfl rfl (WL.add rfl rfl (by first | exact wI64 (by omega) | rfl) rfl ?_)))))))
    refine WL.assign rfl rfl (WL.nil ?_)
    refine WX.round ((k + 1, r2 / 2 ^^^ 3988292384)) envSub.sf ⟨by dsimp only; omega, hsl, hs.symm, rfl⟩ (by first | omega | (dsimp only; omega))
   ·skip
    have hs : refN cb.toNat r (k + 1) = r2 / 2 := by
     rw [refN, ← hre2, rs, ← hck, if_neg (by
      have e1 : ((r2 : Int) % 2 = 1) ↔ (r2 % 2 = 1) := by omega
      have e2 : ((ck : Int) % 2 = 1) ↔ (ck % 2 = 1) := by omega
      rw [ne_eq, decide_eq_decide, e1, e2] at c2
      by_cases h1 : r2 % 2 = 1 <;> by_cases h2 : ck % 2 = 1 <;> simp_all)]
    refine W.skip (WX.blockNormal (WX.next (W.region (WL.move rfl rfl (WL.add rfl rfl (by first | exact wI64 (by omega) | rfl) rfl ?_)))))
    refine WL.assign rfl rfl (WL.nil ?_)
    refine WX.round ((k + 1, r2 / 2)) envSub.sf ⟨by dsimp only; omega, by dsimp only; omega, hs.symm, rfl⟩ (by first | omega | (dsimp only; omega))
  ·obtain rfl : k = 8 := by omega
   refine W.exit (WX.thenExit (WX.thenExit (WX.blockHere (WX.blockNormal (WX.next (W.region (WL.move rfl rfl (WL.add rfl rfl (by first | exact wI64 (by omega) | rfl) rfl ?_))))))))
   refine WL.assign rfl rfl (WL.nil ?_)
   skip
   have q : r2 = crcL 4294967295 (l.take (i + 1)) := by
    rw [crcL_take _ l i hjl, ← hre, ← hcb, hre2, crcB_ref]
   refine WX.round ((i + 1, r2)) envSub.sf ⟨by dsimp only; omega, hr2, q, rfl⟩ (by first | omega | (dsimp only; omega))
 ·obtain rfl : i = l.length := by omega
  refine W.exit (WX.thenExit (WX.thenExit (WX.blockHere (WX.next (W.seq (W.region (WL.move rfl rfl (WL.sub' rfl rfl (by first | exact wU32 (by omega) | exact mU32 _ | rfl) rfl ?_))))))))
  refine WL.assign rfl rfl (WL.nil (WX.next (W.sub [(2, _)] (.cons rfl .nil) (W.ret (WX.ret1 rfl rfl ?_)))))
  exact ⟨by
   rw [hre, List.take_length]
   exact congrArg (Value.int .u32) (by unfold crc; have := crcL_lt (r := 4294967295) l (by omega); omega), rfl⟩
end Go.Proofs.YtlminileigfkcaaGreat
namespace Go.Proofs.YtlminileigfkcaaGreat
open Go Go.RowKit Crc Bin
def headG (k : UInt8) (l : List UInt8) : List UInt8 := [167, k] ++ fixed l.length ++ l
def putG (k : UInt8) (l : List UInt8) : List UInt8 := if 1024 < l.length then [] else headG k l ++ fixed (crc (headG k l))
def putE (l : List UInt8) : Int := if 1024 < l.length then 3 else 0
theorem headG_length (k : UInt8) (l : List UInt8) : (headG k l).length = l.length + 6 := by simp [headG, fixed]
theorem putG_length {k : UInt8} {l : List UInt8} (h : l.length ≤ 1024) : (putG k l).length = l.length + 10 := by
 unfold putG
 rw [if_neg (by omega), List.length_append, headG_length]
 simp [fixed]
theorem Put_ok (k : UInt8) (l : List UInt8) (A : Option Addr) (cap : Nat) (w : World) (h : RdB w A cap l) :
 Fn Tryz.prog 107 [.int .u8 (k.toNat : Int), .slice A l.length cap] w fun v w' => ∃ A' cap', v = .tuple #[.slice A' (putG k l).length cap', .int .i64 (putE l)] ∧ Mem w w' [Asr.own 5 1 A' (putG k l).length cap' (bs (putG k l))] := by
 have m0 := Mem.refl w
 have hk8 := UInt8.toNat_lt k
 refine Fn.enter Tryz.func107 rfl Tryz.ntmps107 rfl (W.sub [(0, _), (1, _)] (.cons rfl (.cons rfl .nil)) (W.seq (W.region (WL.assign rfl rfl (WL.assign rfl rfl (WL.nil (WX.next (W.sub [(0, _), (1, _)] (.cons rfl (.cons rfl .nil)) (W.seq (W.seq (W.region (WL.move rfl rfl (WL.len Tryz.underlying84 rfl rfl (WL.gtr rfl rfl rfl (WL.nil (WX.next (W.sub [(0, _), (1, _), (9, _)] (.cons rfl (.cons rfl (.cons rfl .nil))) (W.ite rfl (fun c0 => ?_) (fun c0 => ?_)))))))))))))))))))
 ·refine W.seq (W.region (WL.assign rfl rfl (WL.assign rfl rfl (WL.nil (WX.next (W.sub [(4, _), (5, _)] (.cons rfl (.cons rfl .nil)) (W.ret (WX.thenRet (WX.ret2 rfl rfl rfl ?_)))))))))
  skip
  have e1 : putG k l = [] := by unfold putG; rw [if_pos (by omega)]
  have e2 : putE l = 3 := by unfold putE; rw [if_pos (by omega)]
  rw [e1, e2]
  exact ⟨none, 0, rfl, m0.nilOwn _ _⟩
 ·refine W.skip (WX.next (W.seq (W.region (WL.move rfl rfl (WL.buildS Tryz.elem5 m0 rfl rfl rfl (by simp [Value.oneCell']) rfl rfl ?_)))))
  intro g1 w1 m1
  refine WL.move rfl rfl (WL.len Tryz.underlying84 rfl rfl (WL.conv Tryz.underlying3 Tryz.underlying185 rfl (by first | exact wU32 (by omega) | exact mU32 _ | rfl) rfl ?_))
  refine WL.call Tryz.call127 rfl (PutFixed_ok l.length w1 (by omega)) rfl ?_
  rintro _ w2 ⟨A2, rfl, m2⟩
  refine WL.appendB (l := [167, k]) (news := fixed l.length) Tryz.elem5 rfl rfl (m1.call m2).f1 (m2.rdOwnB (l := fixed l.length)) rfl rfl (by simp [fixed]) rfl ?_
  intro A3 cap3 w3 m3
  refine WL.assign rfl rfl (WL.nil (WX.next (W.sub [(1, _), (6, _)] (.cons rfl (.cons rfl .nil)) (W.seq (W.region (WL.move rfl rfl (WL.move rfl rfl ?_)))))))
  refine WL.appendB Tryz.elem5 rfl rfl m3.drop1 (h.mem m3) rfl rfl (by simp [fixed]; omega) rfl ?_
  intro A4 cap4 w4 m4
  have hl4 := headG_length k l
  rw [show [167, k] ++ fixed l.length ++ l = headG k l from rfl] at m4 ⊢
  refine WL.assign rfl rfl (WL.nil (WX.next (W.sub [(6, _)] (.cons rfl .nil) (W.seq (W.region (WL.move rfl rfl (WL.move rfl rfl (WL.buildS Tryz.elem84 m4 rfl rfl rfl (by simp [Value.oneCell']) rfl rfl ?_))))))))
  intro g5 w5 m5
  refine WL.call Tryz.call122 rfl (Sum_ok (ps := [⟨A4, cap4, headG k l⟩]) m5.rdOwn (by intro x hx; rw [List.mem_singleton] at hx; subst hx; exact m5.tail.rdOwnB) (by simp) (by intro x hx; rw [List.mem_singleton] at hx; subst hx; dsimp only; omega)) rfl ?_
  rintro _ _ ⟨rfl, rfl⟩
  rw [show List.flatMap OX.l [⟨A4, cap4, headG k l⟩] = headG k l by simp]
  refine WL.call Tryz.call127 rfl (PutFixed_ok (crc (headG k l)) w5 (crc_lt _)) rfl ?_
  rintro _ w6 ⟨A6, rfl, m6⟩
  refine WL.appendB (news := fixed (crc (headG k l))) Tryz.elem5 rfl rfl (m5.call m6).f2 (m6.rdOwnB (l := fixed (crc (headG k l)))) rfl rfl (by rw [hl4]; simp [fixed]; omega) rfl ?_
  intro A7 cap7 w7 m7
  refine WL.assign rfl rfl (WL.assign rfl rfl (WL.nil (WX.next (W.sub [(4, _), (5, _)] (.cons rfl (.cons rfl .nil)) (W.ret (WX.ret2 rfl rfl rfl ?_))))))
  skip
  have e1 : putG k l = headG k l ++ fixed (crc (headG k l)) := by unfold putG; rw [if_neg (by omega)]
  have e2 : putE l = 0 := by unfold putE; rw [if_neg (by omega)]
  rw [e1, e2]
  exact ⟨A7, cap7, rfl, m7.drop1.drop1⟩
theorem refPut_ok (k : UInt8) (l : List UInt8) (A : Option Addr) (cap : Nat) (w : World) (h : RdB w A cap l) :
 Fn Tryz.prog 131 [.int .u8 (k.toNat : Int), .slice A l.length cap] w fun v w' => ∃ A' cap', v = .tuple #[.slice A' (putG k l).length cap', .int .i64 (putE l)] ∧ Mem w w' [Asr.own 5 1 A' (putG k l).length cap' (bs (putG k l))] := by
 have m0 := Mem.refl w
 have hk8 := UInt8.toNat_lt k
 refine Fn.enter Tryz.func131 rfl Tryz.ntmps131 rfl (W.sub [(0, _), (1, _)] (.cons rfl (.cons rfl .nil)) (W.seq (W.region (WL.assign rfl rfl (WL.assign rfl rfl (WL.nil (WX.next (W.sub [(0, _), (1, _)] (.cons rfl (.cons rfl .nil)) (W.seq (W.seq (W.region (WL.move rfl rfl (WL.len Tryz.underlying84 rfl rfl (WL.gtr rfl rfl rfl (WL.nil (WX.next (W.sub [(0, _), (1, _), (10, _)] (.cons rfl (.cons rfl (.cons rfl .nil))) (W.ite rfl (fun c0 => ?_) (fun c0 => ?_)))))))))))))))))))
 ·refine W.seq (W.region (WL.assign rfl rfl (WL.assign rfl rfl (WL.nil (WX.next (W.sub [(4, _), (5, _)] (.cons rfl (.cons rfl .nil)) (W.ret (WX.thenRet (WX.ret2 rfl rfl rfl ?_)))))))))
  skip
  have e1 : putG k l = [] := by unfold putG; rw [if_pos (by omega)]
  have e2 : putE l = 3 := by unfold putE; rw [if_pos (by omega)]
  rw [e1, e2]
  exact ⟨none, 0, rfl, m0.nilOwn _ _⟩
 ·refine W.skip (WX.next (W.seq (W.region (WL.move rfl rfl (WL.buildS Tryz.elem5 m0 rfl rfl rfl (by simp [Value.oneCell']) rfl rfl ?_)))))
  intro g1 w1 m1
  refine WL.assign rfl rfl (WL.nil (WX.next (W.sub [(1, _), (6, _)] (.cons rfl (.cons rfl .nil)) (W.seq (W.region (WL.move rfl rfl (WL.move rfl rfl (WL.len Tryz.underlying84 rfl rfl (WL.conv Tryz.underlying3 Tryz.underlying185 rfl (by first | exact wU32 (by omega) | exact mU32 _ | rfl) rfl ?_)))))))))
  refine WL.call Tryz.call144 rfl (refPutFixed_ok l.length w1 (by omega)) rfl ?_
  rintro _ w2 ⟨A2, rfl, m2⟩
  refine WL.appendB (l := [167, k]) (news := fixed l.length) Tryz.elem5 rfl rfl (m1.call m2).f1 (m2.rdOwnB (l := fixed l.length)) rfl rfl (by simp [fixed]) rfl ?_
  intro A3 cap3 w3 m3
  refine WL.assign rfl rfl (WL.nil (WX.next (W.sub [(1, _), (6, _)] (.cons rfl (.cons rfl .nil)) (W.seq (W.region (WL.move rfl rfl (WL.move rfl rfl ?_)))))))
  refine WL.appendB Tryz.elem5 rfl rfl m3.drop1 (h.mem m3) rfl rfl (by simp [fixed]; omega) rfl ?_
  intro A4 cap4 w4 m4
  have hl4 := headG_length k l
  rw [show [167, k] ++ fixed l.length ++ l = headG k l from rfl] at m4 ⊢
  refine WL.assign rfl rfl (WL.nil (WX.next (W.sub [(6, _)] (.cons rfl .nil) (W.seq (W.region (WL.move rfl rfl (WL.call Tryz.call96 rfl (refSum_ok (headG k l) A4 cap4 w4 m4.rdOwnB (by omega)) rfl ?_)))))))
  rintro _ _ ⟨rfl, rfl⟩
  refine WL.call Tryz.call144 rfl (refPutFixed_ok (crc (headG k l)) w4 (crc_lt _)) rfl ?_
  rintro _ w6 ⟨A6, rfl, m6⟩
  refine WL.assign rfl rfl (WL.nil (WX.next (W.sub [(6, _), (7, _)] (.cons rfl (.cons rfl .nil)) (W.seq (W.region (WL.move rfl rfl (WL.move rfl rfl ?_)))))))
  refine WL.appendB (news := fixed (crc (headG k l))) Tryz.elem5 rfl rfl (m4.call m6).f1 (m6.rdOwnB (l := fixed (crc (headG k l)))) rfl rfl (by rw [hl4]; simp [fixed]; omega) rfl ?_
  intro A7 cap7 w7 m7
  refine WL.assign rfl rfl (WL.assign rfl rfl (WL.nil (WX.next (W.sub [(4, _), (5, _)] (.cons rfl (.cons rfl .nil)) (W.ret (WX.ret2 rfl rfl rfl ?_))))))
  skip
  have e1 : putG k l = headG k l ++ fixed (crc (headG k l)) := by unfold putG; rw [if_neg (by omega)]
  have e2 : putE l = 0 := by unfold putE; rw [if_neg (by omega)]
  rw [e1, e2]
  exact ⟨A7, cap7, rfl, m7.drop1⟩
end Go.Proofs.YtlminileigfkcaaGreat
namespace Go.Proofs.YtlminileigfkcaaGreat
open Go Go.RowKit Crc Bin
/-- What stands at the front of r: kind, body, how many bytes, error. -/
def getR (r : List UInt8) : UInt8 × List UInt8 × Nat × Nat :=
 if r.length = 0 then (0, [], 0, 10)
 else if r[0]?.getD 0 ≠ 167 then (0, [], 0, 20)
 else if r.length < 6 then (0, [], 0, 10)
 else if 1024 < (rdF r 2).1 then (0, [], 0, 3)
 else if r.length < (rdF r 2).1 + 10 then (0, [], 0, 10)
 else if (rdF r (6 + ((rdF r 2).1 : Int))).1 ≠ crc (r.take (6 + (rdF r 2).1)) then (0, [], 0, 21)
 else (r[1]?.getD 0, (r.drop 6).take (rdF r 2).1, (rdF r 2).1 + 10, 0)
/-- What Get answers. -/
def getG (b : List UInt8) (at_ : Int) : UInt8 × List UInt8 × Int × Int :=
 if at_ < 0 ∨ (b.length : Int) < at_ then (0, [], 0, 2)
 else if (getR (b.drop at_.toNat)).2.2.2 ≠ 0 then (0, [], 0, ((getR (b.drop at_.toNat)).2.2.2 : Int))
 else ((getR (b.drop at_.toNat)).1, (getR (b.drop at_.toNat)).2.1, at_ + ((getR (b.drop at_.toNat)).2.2.1 : Int), 0)
theorem getG_out {b : List UInt8} {at_ : Int} (h : at_ < 0 ∨ (b.length : Int) < at_) : getG b at_ = (0, [], 0, 2) := if_pos h
theorem getG_bad {b : List UInt8} {at_ : Int} {e : Nat} (h0 : 0 ≤ at_) (h1 : at_ ≤ b.length) (h : getR (b.drop at_.toNat) = (0, [], 0, e)) (he : e ≠ 0) : getG b at_ = (0, [], 0, (e : Int)) := by
 unfold getG
 rw [if_neg (by omega), h, if_pos he]
theorem getG_ok {b : List UInt8} {at_ : Int} {k : UInt8} {l : List UInt8} {n : Nat} (h0 : 0 ≤ at_) (h1 : at_ ≤ b.length) (h : getR (b.drop at_.toNat) = (k, l, n, 0)) : getG b at_ = (k, l, at_ + (n : Int), 0) := by
 unfold getG
 rw [if_neg (by omega), h, if_neg (by simp)]
/-- The tuple that answers. -/
def Got (v : Value) (x : UInt8 × List UInt8 × Int × Int) (w w' : World) : Prop :=
 ∃ A' cap', v = .tuple #[.agg #[.int .u8 (x.1.toNat : Int), .slice A' x.2.1.length cap'], .int .i64 x.2.2.1, .int .i64 x.2.2.2] ∧ Mem w w' [Asr.own 5 1 A' x.2.1.length cap' (bs x.2.1)]
theorem Got.none {w w' : World} {L : List Asr} (m : Mem w w' L) (e : Int) : Got (.tuple #[.agg #[.int .u8 0, .slice none 0 0], .int .i64 0, .int .i64 e]) (0, [], 0, e) w w' :=
 ⟨_, _, rfl, m.nil.nilOwn _ _⟩
theorem rdF_len {b : List UInt8} {at_ : Int} (h0 : 0 ≤ at_) (h : at_ + 4 ≤ b.length) : (rdF b at_).1 < 4294967296 := by
 rw [rdF_ok h0 h]
 exact be4_lt _ _ _ _
theorem rdFv_tuple (n : Nat) (a e : Int) : rdFv (n, a, e) = .tuple #[.int .u32 (n : Int), .int .i64 a, .int .i64 e] := rfl
section
variable {P : Program} {n : Nat} {ρ : List (Nat × Value)} {w : World} {rest : List Oper} {X : SqV P n}
variable {d : Nat} {ty : TypeId} {pos : String} {aft : Array Edge} {x : Operand} {t e : TypeId}
theorem WL.sliceLX {A A' : Option Addr} {c m size m' c' : Nat} {lo : Operand} {kl : IntKind} {a : Int} (ht : P.underlying t = some (.slice e)) (hs : ∀ w, (sizeOf e).run P w = .ok size w) (hx : ev ρ x = some (.slice A m c))
 (hl : ev ρ lo = some (.int kl a)) (h0 : 0 ≤ a) (h2 : a ≤ m) (hA : (if c = a.toNat then A else A.map (·.add (a.toNat * size))) = A') (hm : m - a.toNat = m') (hc : c - a.toNat = c') (hd : Nat.blt d n = true)
 (kk : X.S rest ((d, .slice A' m' c') :: ρ) w) :
 X.S (⟨some d, .slice t x (some lo) none none, ty, pos, aft, none⟩ :: rest) ρ w := by
 subst hA hm hc
 refine WL.val rfl rfl hd (fun f hf => ?_) kk
 simp [execOp, hf.eval hx, hf.eval hl, Instr.sliceAt, Instr.slice, run_underlying ht, Instr.sliceBounds, run_sliceBound, hs, h0, h2]
end
theorem RdB.pre {w : World} {A : Option Addr} {cap : Nat} {l : List UInt8} (h : RdB w A cap l) (j : Nat) : RdB w A cap (l.take j) := by
 refine ⟨by simp [bs], ?_, fun h0 => ?_⟩
 ·have := h.le
  simp only [List.length_take]
  omega
 ·obtain ⟨ad, e, hb, hc⟩ := h.at_ (by simp only [List.length_take] at h0; omega)
  refine ⟨ad, e, hb, fun i v hv => hc i v ?_⟩
  rw [← bs_take, List.getElem?_take] at hv
  split at hv
  ·exact hv
  ·cases hv
theorem RdB.cellAt {w : World} {ad : Addr} {cap : Nat} {l : List UInt8} (h : RdB w (some ad) cap l) {j : Nat} {c : UInt8} (hj : l[j]? = some c) : w.cell? (ad.add j) = some (.int .u8 (c.toNat : Int)) := by
 obtain ⟨ad', e, _, hc⟩ := h.at_ (by have := (List.getElem?_eq_some_iff.1 hj).1; omega)
 obtain rfl : ad = ad' := by simpa using e
 refine hc j _ ?_
 rw [bs_get, hj]
 rfl
set_option maxRecDepth 10000 in
set_option maxHeartbeats 1000000 in
theorem Get_ok (l : List UInt8) (A : Option Addr) (cap : Nat) (at_ : Int) (w : World) (h : RdB w A cap l) (hl : l.length ≤ 140737488351232) (ha : -9223372036854775808 ≤ at_ ∧ at_ ≤ 9223372036854775807) :
 Fn Tryz.prog 85 [.slice A l.length cap, .int .i64 at_] w fun v w' => Got v (getG l at_) w w' := by
 have hle : l.length ≤ cap := h.le
 refine Fn.enter Tryz.func85 rfl Tryz.ntmps85 rfl (W.sub [(0, _), (1, _)] (.cons rfl (.cons rfl .nil)) (W.seq (W.region (WL.alloc Tryz.zeroValue144 (Mem.refl w) rfl ?_))))
 intro gR w0 mR
 refine WL.assign rfl rfl (WL.assign rfl rfl (WL.nil (WX.next (W.sub [(0, _), (1, _), (4, _)] (.cons rfl (.cons rfl (.cons rfl .nil))) (W.seq (W.seq (W.region (WL.move rfl rfl (WL.lss rfl rfl rfl (WL.moveIf rfl rfl (fun c0 => ?_) (fun c0 => ?_)))))))))))
 ·refine WL.off rfl rfl rfl rfl (WL.off rfl rfl rfl rfl (WL.off rfl rfl rfl rfl (WL.off rfl rfl rfl rfl (WL.pickT rfl rfl rfl (WL.nil (WX.next (W.sub [(0, _), (1, _), (4, _), (22, _)] (.cons rfl (.cons rfl (.cons rfl (.cons rfl .nil)))) (W.condT rfl (W.seq (W.region (WL.build (places := #[(0, 1), (1, 1)]) Tryz.underlying144 Tryz.zeroValue144 (fun _ => by simp [Tryz.sizeOf5, Tryz.sizeOf84]) rfl rfl rfl ?_)))))))))))
  refine WL.storeW mR Tryz.sizeOf144 rfl rfl (by simp [Value.cells, Value.oneCell']) rfl rfl ?_
  intro w1 mS
  refine WL.assign rfl rfl (WL.assign rfl rfl (WL.nil (WX.next (W.sub [(4, _), (5, _), (6, _)] (.cons rfl (.cons rfl (.cons rfl .nil))) (W.ret (WX.thenRet (WX.retC3 rfl rfl rfl rfl Tryz.isAgg144 (by exact Tryz.sizeOf144) mS.cells ?_)))))))
  rw [getG_out (by omega)]; exact Got.none mS 2
 ·refine WL.on rfl rfl (WL.move rfl rfl (WL.on rfl rfl (WL.move rfl rfl (WL.on rfl rfl (WL.len Tryz.underlying84 rfl rfl (WL.on rfl rfl (WL.gtr rfl rfl rfl (WL.pickF rfl rfl rfl (WL.nil (WX.next (W.sub [(0, _), (1, _), (4, _), (22, _)] (.cons rfl (.cons rfl (.cons rfl (.cons rfl .nil)))) (W.ite rfl (fun c1 => ?_) (fun c1 => ?_)))))))))))))
  ·refine W.seq (W.region (WL.build (places := #[(0, 1), (1, 1)]) Tryz.underlying144 Tryz.zeroValue144 (fun _ => by simp [Tryz.sizeOf5, Tryz.sizeOf84]) rfl rfl rfl ?_))
   refine WL.storeW mR Tryz.sizeOf144 rfl rfl (by simp [Value.cells, Value.oneCell']) rfl rfl ?_
   intro w1 mS
   refine WL.assign rfl rfl (WL.assign rfl rfl (WL.nil (WX.next (W.sub [(4, _), (5, _), (6, _)] (.cons rfl (.cons rfl (.cons rfl .nil))) (W.ret (WX.thenRet (WX.retC3 rfl rfl rfl rfl Tryz.isAgg144 (by exact Tryz.sizeOf144) mS.cells ?_)))))))
   rw [getG_out (by omega)]; exact Got.none mS 2
  ·obtain ⟨r, hr⟩ : ∃ r, r = l.drop at_.toNat := ⟨_, rfl⟩
   have hrl : r.length = l.length - at_.toNat := by rw [hr, List.length_drop]
   obtain ⟨A', hA'⟩ : ∃ A', (if cap = at_.toNat then A else A.map (·.add (at_.toNat * 1))) = A' := ⟨_, rfl⟩
   have hRr : ∀ {w'}, RdB w' A cap l → RdB w' A' (cap - at_.toNat) r := fun h => by
    have hc := h.cut (i := at_.toNat) (j := l.length) (by omega) (Nat.le_refl _)
    rw [hA', List.take_of_length_le (by rw [List.length_drop]; omega), ← hr] at hc
    exact hc
   refine W.skip (WX.next (W.seq (W.region (WL.move rfl rfl (WL.move rfl rfl (WL.sliceLX (m' := r.length) Tryz.underlying84 Tryz.sizeOf5 rfl rfl (by omega) (by omega) hA' (by omega) rfl rfl ?_))))))
   refine WL.assign rfl rfl (WL.nil (WX.next (W.sub [(1, _), (4, _), (7, _)] (.cons rfl (.cons rfl (.cons rfl .nil))) (W.seq (W.block (W.seq (W.region (WL.move rfl rfl (WL.len Tryz.underlying84 rfl rfl (WL.eqI rfl rfl rfl (WL.assign rfl rfl (WL.nil (WX.next (W.sub [(1, _), (4, _), (7, _), (27, _)] (.cons rfl (.cons rfl (.cons rfl (.cons rfl .nil)))) (W.ite rfl (fun c2 => ?_) (fun c2 => ?_))))))))))))))))
   ·refine W.seq (W.region (WL.build (places := #[(0, 1), (1, 1)]) Tryz.underlying144 Tryz.zeroValue144 (fun _ => by simp [Tryz.sizeOf5, Tryz.sizeOf84]) rfl rfl rfl ?_))
    refine WL.storeW mR Tryz.sizeOf144 rfl rfl (by simp [Value.cells, Value.oneCell']) rfl rfl ?_
    intro w1 mS
    refine WL.assign rfl rfl (WL.assign rfl rfl (WL.nil (WX.next (W.sub [(4, _), (5, _), (6, _)] (.cons rfl (.cons rfl (.cons rfl .nil))) (W.ret (WX.blockRet (WX.thenRet (WX.retC3 rfl rfl rfl rfl Tryz.isAgg144 (by exact Tryz.sizeOf144) mS.cells ?_))))))))
    rw [getG_bad (e := 10) (by omega) (by omega) (by rw [← hr]; unfold getR; rw [if_pos (by omega)]) (by omega)]; exact Got.none mS 10
   ·have g0 : ¬ r.length = 0 := by omega
    obtain ⟨ad, rfl, _, _⟩ := (hRr (h.mem mR)).at_ (by omega)
    obtain ⟨x0, hx0⟩ : ∃ x, r[0]? = some x := ⟨_, List.getElem?_eq_getElem (by omega)⟩
    refine W.seq (W.region (WL.move rfl rfl ?_))
    refine WL.idx1 (v := .int .u8 (x0.toNat : Int)) Tryz.underlying84 Tryz.sizeOf5 rfl rfl (hRr (h.mem mR)) (by show (bs r)[0]? = _; rw [bs_get, hx0]; rfl) (by omega) rfl ?_
    intro ad6 had6
    refine WL.load Tryz.isAgg5 rfl had6 rfl (WL.neI rfl rfl rfl (WL.assign rfl rfl (WL.nil (WX.next (W.sub [(1, _), (4, _), (7, _), (32, _)] (.cons rfl (.cons rfl (.cons rfl (.cons rfl .nil)))) (W.ite rfl (fun c3 => ?_) (fun c3 => ?_)))))))
    ·refine W.seq (W.region (WL.build (places := #[(0, 1), (1, 1)]) Tryz.underlying144 Tryz.zeroValue144 (fun _ => by simp [Tryz.sizeOf5, Tryz.sizeOf84]) rfl rfl rfl ?_))
     refine WL.storeW mR Tryz.sizeOf144 rfl rfl (by simp [Value.cells, Value.oneCell']) rfl rfl ?_
     intro w1 mS
     refine WL.assign rfl rfl (WL.assign rfl rfl (WL.nil (WX.next (W.sub [(4, _), (5, _), (6, _)] (.cons rfl (.cons rfl (.cons rfl .nil))) (W.ret (WX.blockRet (WX.thenRet (WX.retC3 rfl rfl rfl rfl Tryz.isAgg144 (by exact Tryz.sizeOf144) mS.cells ?_))))))))
     rw [getG_bad (e := 20) (by omega) (by omega) (by rw [← hr]; unfold getR; rw [if_neg g0, if_pos (by rw [hx0]; rintro rfl; exact c3 rfl)]) (by omega)]; exact Got.none mS 20
    ·skip
     have g1 : ¬ (r[0]?.getD 0 ≠ 167) := by
      rw [hx0]
      refine not_not_intro (UInt8.toNat_inj.1 ?_)
      show x0.toNat = 167
      omega
     refine W.seq (W.region (WL.move rfl rfl (WL.len Tryz.underlying84 rfl rfl (WL.lss rfl rfl rfl (WL.assign rfl rfl (WL.nil (WX.next (W.sub [(1, _), (4, _), (7, _), (38, _)] (.cons rfl (.cons rfl (.cons rfl (.cons rfl .nil)))) (W.ite rfl (fun c4 => ?_) (fun c4 => ?_))))))))))
     ·refine W.seq (W.region (WL.build (places := #[(0, 1), (1, 1)]) Tryz.underlying144 Tryz.zeroValue144 (fun _ => by simp [Tryz.sizeOf5, Tryz.sizeOf84]) rfl rfl rfl ?_))
      refine WL.storeW mR Tryz.sizeOf144 rfl rfl (by simp [Value.cells, Value.oneCell']) rfl rfl ?_
      intro w1 mS
      refine WL.assign rfl rfl (WL.assign rfl rfl (WL.nil (WX.next (W.sub [(4, _), (5, _), (6, _)] (.cons rfl (.cons rfl (.cons rfl .nil))) (W.ret (WX.blockRet (WX.thenRet (WX.retC3 rfl rfl rfl rfl Tryz.isAgg144 (by exact Tryz.sizeOf144) mS.cells ?_))))))))
      rw [getG_bad (e := 10) (by omega) (by omega) (by rw [← hr]; unfold getR; rw [if_neg g0, if_neg g1, if_pos (by omega)]) (by omega)]; exact Got.none mS 10
     ·have g2 : ¬ r.length < 6 := by omega
      obtain ⟨n, t1, e1, hf⟩ : ∃ n t e, rdF r 2 = (n, t, e) := ⟨_, _, _, rfl⟩
      have hn : n < 4294967296 := by have := rdF_len (b := r) (at_ := 2) (by omega) (by omega); rw [hf] at this; exact this
      have hf1 : (rdF r 2).1 = n := by rw [hf]
      refine W.skip (WX.blockNormal (WX.next (W.seq (W.region (WL.move rfl rfl (WL.call Tryz.call121 rfl (Fixed_ok r (some ad) _ 2 w0 (hRr (h.mem mR)) (by omega) (by omega)) rfl ?_))))))
      rintro _ _ ⟨rfl, rfl⟩
      rw [hf, rdFv_tuple]
      refine WL.move rfl rfl (WL.extract rfl rfl rfl (WL.extract rfl rfl rfl (WL.extract rfl rfl rfl (WL.assign rfl rfl (WL.assign rfl rfl (WL.assign rfl rfl (WL.nil (WX.next (W.sub [(1, _), (4, _), (7, _), (8, _)] (.cons rfl (.cons rfl (.cons rfl (.cons rfl .nil)))) (W.seq (W.seq (W.region (WL.move rfl rfl (WL.gtr rfl rfl rfl (WL.nil (WX.next (W.sub [(1, _), (4, _), (7, _), (8, _), (50, _)] (.cons rfl (.cons rfl (.cons rfl (.cons rfl (.cons rfl .nil))))) (W.ite rfl (fun c5 => ?_) (fun c5 => ?_)))))))))))))))))))
      ·refine W.seq (W.region (WL.build (places := #[(0, 1), (1, 1)]) Tryz.underlying144 Tryz.zeroValue144 (fun _ => by simp [Tryz.sizeOf5, Tryz.sizeOf84]) rfl rfl rfl ?_))
       refine WL.storeW mR Tryz.sizeOf144 rfl rfl (by simp [Value.cells, Value.oneCell']) rfl rfl ?_
       intro w1 mS
       refine WL.assign rfl rfl (WL.assign rfl rfl (WL.nil (WX.next (W.sub [(4, _), (5, _), (6, _)] (.cons rfl (.cons rfl (.cons rfl .nil))) (W.ret (WX.thenRet (WX.retC3 rfl rfl rfl rfl Tryz.isAgg144 (by exact Tryz.sizeOf144) mS.cells ?_)))))))
       rw [getG_bad (e := 3) (by omega) (by omega) (by rw [← hr]; unfold getR; rw [if_neg g0, if_neg g1, if_neg g2, hf1, if_pos (by omega)]) (by omega)]; exact Got.none mS 3
      ·have g3 : ¬ 1024 < n := by omega
       refine W.skip (WX.next (W.seq (W.region (WL.move rfl rfl (WL.conv Tryz.underlying185 Tryz.underlying3 rfl (by first | exact wI64 (by omega) | rfl) rfl ?_)))))
       refine WL.add rfl rfl (by first | exact wI64 (by omega) | rfl) rfl ?_
       refine WL.assign rfl rfl (WL.nil (WX.next (W.sub [(1, _), (4, _), (7, _), (11, _)] (.cons rfl (.cons rfl (.cons rfl (.cons rfl .nil)))) (W.seq (W.seq (W.region (WL.move rfl rfl (WL.len Tryz.underlying84 rfl rfl (WL.move rfl rfl (WL.add rfl rfl (by first | exact wI64 (by omega) | rfl) rfl ?_))))))))))
       refine WL.lss rfl rfl rfl (WL.nil (WX.next (W.sub [(1, _), (4, _), (7, _), (11, _), (59, _)] (.cons rfl (.cons rfl (.cons rfl (.cons rfl (.cons rfl .nil))))) (W.ite rfl (fun c6 => ?_) (fun c6 => ?_)))))
       ·refine W.seq (W.region (WL.build (places := #[(0, 1), (1, 1)]) Tryz.underlying144 Tryz.zeroValue144 (fun _ => by simp [Tryz.sizeOf5, Tryz.sizeOf84]) rfl rfl rfl ?_))
        refine WL.storeW mR Tryz.sizeOf144 rfl rfl (by simp [Value.cells, Value.oneCell']) rfl rfl ?_
        intro w1 mS
        refine WL.assign rfl rfl (WL.assign rfl rfl (WL.nil (WX.next (W.sub [(4, _), (5, _), (6, _)] (.cons rfl (.cons rfl (.cons rfl .nil))) (W.ret (WX.thenRet (WX.retC3 rfl rfl rfl rfl Tryz.isAgg144 (by exact Tryz.sizeOf144) mS.cells ?_)))))))
        rw [getG_bad (e := 10) (by omega) (by omega) (by rw [← hr]; unfold getR; rw [if_neg g0, if_neg g1, if_neg g2, hf1, if_neg g3, if_pos (by omega)]) (by omega)]; exact Got.none mS 10
       ·have g4 : ¬ r.length < n + 10 := by omega
        obtain ⟨s, t2, e2, hf2⟩ : ∃ m t e, rdF r (6 + (n : Int)) = (m, t, e) := ⟨_, _, _, rfl⟩
        have hf3 : (rdF r (6 + (n : Int))).1 = s := by rw [hf2]
        have hL : ((6 : Int) + (n : Int)).toNat = (r.take (6 + n)).length := by rw [List.length_take]; omega
        refine W.skip (WX.next (W.seq (W.seq (W.region (WL.move rfl rfl (WL.move rfl rfl (WL.call Tryz.call121 rfl (Fixed_ok r (some ad) _ (6 + (n : Int)) w0 (hRr (h.mem mR)) (by omega) (by omega)) rfl ?_)))))))
        rintro _ _ ⟨rfl, rfl⟩
        rw [hf2, rdFv_tuple]
        refine WL.move rfl rfl (WL.extract rfl rfl rfl (WL.extract rfl rfl rfl (WL.extract rfl rfl rfl (WL.assign rfl rfl (WL.assign rfl rfl (WL.assign rfl rfl (WL.nil (WX.next (W.sub [(1, _), (4, _), (7, _), (11, _), (12, _)] (.cons rfl (.cons rfl (.cons rfl (.cons rfl (.cons rfl .nil))))) (W.seq (W.region (WL.move rfl rfl (WL.move rfl rfl (WL.move rfl rfl ?_))))))))))))))
        have hcap : r.length ≤ cap - at_.toNat := by omega
        refine WL.sliceUpTo Tryz.underlying84 Tryz.sizeOf5 rfl rfl (by omega) (by omega) rfl ?_
        rw [hL]
        refine WL.buildS Tryz.elem84 mR rfl rfl rfl (by simp [Value.oneCell']) rfl rfl ?_
        intro g5 w5 m5
        refine WL.call Tryz.call122 rfl (Sum_ok (ps := [⟨some ad, cap - at_.toNat, r.take (6 + n)⟩]) m5.rdOwn (by intro x hx; rw [List.mem_singleton] at hx; subst hx; exact (hRr (h.mem m5)).pre _) (by simp) (by intro x hx; rw [List.mem_singleton] at hx; subst hx; dsimp only; rw [List.length_take]; omega)) rfl ?_
        rintro _ _ ⟨rfl, rfl⟩
        rw [show List.flatMap OX.l [⟨some ad, cap - at_.toNat, r.take (6 + n)⟩] = r.take (6 + n) by simp]
        refine WL.neI rfl rfl rfl (WL.nil (WX.next (W.sub [(1, _), (4, _), (7, _), (11, _), (74, _)] (.cons rfl (.cons rfl (.cons rfl (.cons rfl (.cons rfl .nil))))) (W.ite rfl (fun c7 => ?_) (fun c7 => ?_)))))
        ·refine W.seq (W.region (WL.build (places := #[(0, 1), (1, 1)]) Tryz.underlying144 Tryz.zeroValue144 (fun _ => by simp [Tryz.sizeOf5, Tryz.sizeOf84]) rfl rfl rfl ?_))
         refine WL.storeW m5.f1 Tryz.sizeOf144 rfl rfl (by simp [Value.cells, Value.oneCell']) rfl rfl ?_
         intro w6 mS
         refine WL.assign rfl rfl (WL.assign rfl rfl (WL.nil (WX.next (W.sub [(4, _), (5, _), (6, _)] (.cons rfl (.cons rfl (.cons rfl .nil))) (W.ret (WX.thenRet (WX.retC3 rfl rfl rfl rfl Tryz.isAgg144 (by exact Tryz.sizeOf144) mS.cells ?_)))))))
         rw [getG_bad (e := 21) (by omega) (by omega) (by rw [← hr]; unfold getR; rw [if_neg g0, if_neg g1, if_neg g2, hf1, if_neg g3, if_neg g4, hf3, if_pos (by omega)]) (by omega)]; exact Got.none mS 21
        ·have g5' : ¬ (s ≠ crc (r.take (6 + n))) := by omega
         obtain ⟨x1, hx1⟩ : ∃ x, r[1]? = some x := ⟨_, List.getElem?_eq_getElem (by omega)⟩
         obtain ⟨body, hbody⟩ : ∃ b, b = (r.drop 6).take n := ⟨_, rfl⟩
         have hbl : body.length = n := by rw [hbody, List.length_take, List.length_drop]; omega
         have hok : getG l at_ = (x1, body, at_ + ((n + 10 : Nat) : Int), 0) := getG_ok (by omega) (by omega) (by rw [← hr]; unfold getR; rw [if_neg g0, if_neg g1, if_neg g2, hf1, if_neg g3, if_neg g4, hf3, if_neg g5', hx1, hbody]; rfl)
         have M0 := m5.tail.drew
         obtain ⟨A3, hA3⟩ : ∃ A3, (if cap - at_.toNat = (6 : Int).toNat then some ad else (some ad).map (·.add ((6 : Int).toNat * 1))) = A3 := ⟨_, rfl⟩
         have hRb : ∀ {w'}, RdB w' A cap l → RdB w' A3 (cap - at_.toNat - (6 : Int).toNat) body := fun h => by
          have hc := (hRr h).cut (i := 6) (j := 6 + n) (by omega) (by omega)
          rw [show 6 + n - 6 = n by omega, ← hbody] at hc
          rw [← hA3]
          exact hc
         refine W.skip (WX.next (W.seq (W.draw (by kernel_rfl) (fun w' => w'.cell? (ad.add 1) = some (.int .u8 (x1.toNat : Int))) (fun j => true) ?_)))
         apply DG.take [0, 1, 2, 4, 5, 6, 9, 10, 11, 12] 6 rfl (by kernel_rfl) (by kernel_rfl) ((hRr (h.mem M0)).cellAt hx1)
         ·intro wS hS
          refine WL.move rfl rfl (WL.idxP (o' := 1) Tryz.underlying84 Tryz.sizeOf5 rfl rfl (by omega) (by omega) (by omega) rfl ?_)
          refine WL.load Tryz.isAgg5 rfl hS rfl (WL.move rfl rfl (WL.move rfl rfl (WL.sliceLHX (m' := body.length) Tryz.underlying84 Tryz.sizeOf5 rfl rfl rfl (by omega) (by omega) (by omega) hA3 (by omega) rfl rfl ?_)))
          refine WL.move rfl rfl (WL.move rfl rfl (WL.add rfl rfl (by first | exact wI64 (by omega) | rfl) rfl ?_))
          refine WL.add rfl rfl (by first | exact wI64 (by omega) | rfl) rfl ?_
          exact Chain.end_ rfl
         refine DG.step 3 5 rfl (by kernel_rfl) ?_
         refine WL.buildS Tryz.elem5 M0 rfl rfl rfl (by simp [Value.oneCell']) rfl rfl ?_
         intro g7 w7 m7
         refine DG.go (G := fun j => true) (i := 3) (f' := 5) (done := [0, 1, 2, 4, 5, 6, 9, 10, 11, 12]) (fun _ => (hRr (h.mem m7)).cellAt hx1) ?_
         refine DG.step 7 4 rfl (by kernel_rfl) ?_
         refine WL.appendB (l := []) Tryz.elem5 rfl rfl m7 (hRb (h.mem m7)) rfl rfl (by simp; omega) rfl ?_
         intro A8 cap8 w8 m8
         refine DG.go (G := fun j => true) (i := 7) (f' := 4) (done := [0, 1, 2, 4, 5, 6, 9, 10, 11, 12, 3]) (fun _ => (hRr (h.mem m8)).cellAt hx1) ?_
         apply DG.take [8] 3 rfl (by kernel_rfl) (by kernel_rfl) ((hRr (h.mem m8)).cellAt hx1)
         ·intro wS hS
          refine WL.build (places := #[(0, 1), (1, 1)]) Tryz.underlying144 Tryz.zeroValue144 (fun _ => by simp [Tryz.sizeOf5, Tryz.sizeOf84]) rfl rfl rfl ?_
          exact Chain.end_ rfl
         refine DG.step 13 2 rfl (by kernel_rfl) ?_
         refine WL.storeW m8.f1 Tryz.sizeOf144 rfl rfl (by simp [Value.cells, Value.oneCell']) rfl rfl ?_
         intro w9 mS
         refine DG.go (G := fun j => true) (i := 13) (f' := 2) (done := [0, 1, 2, 4, 5, 6, 9, 10, 11, 12, 3, 7, 8]) (fun _ => (hRr (h.mem mS)).cellAt hx1) ?_
         apply DG.take [14, 15] 0 rfl (by kernel_rfl) (by kernel_rfl) ((hRr (h.mem mS)).cellAt hx1)
         ·intro wS hS
          refine WL.assign rfl rfl (WL.assign rfl rfl ?_)
          exact Chain.end_ rfl
         refine DG.end_ (by kernel_rfl) ?_
         refine WX.next (W.sub [(4, _), (5, _), (6, _)] (.cons rfl (.cons rfl (.cons rfl .nil))) (W.ret (WX.retC3 rfl rfl rfl rfl Tryz.isAgg144 (by exact Tryz.sizeOf144) mS.cells ?_)))
         rw [hok]; exact ⟨A8, cap8, by rw [show at_ + (6 + (n : Int)) + 4 = at_ + ((n + 10 : Nat) : Int) by omega]; rfl, mS.tail⟩
end Go.Proofs.YtlminileigfkcaaGreat
namespace Go.Proofs.YtlminileigfkcaaGreat
open Go Go.RowKit Crc Bin
theorem fixed_be4 (a b c d : UInt8) : fixed (be4 a b c d) = [a, b, c, d] := by
 have ha := UInt8.toNat_lt a; have hb := UInt8.toNat_lt b; have hc := UInt8.toNat_lt c; have hd := UInt8.toNat_lt d
 have e1 : UInt8.ofNat (be4 a b c d / 16777216 % 256) = a := by
  apply UInt8.toNat_inj.1
  rw [u8_toNat (Nat.mod_lt _ (by decide))]
  unfold be4; omega
 have e2 : UInt8.ofNat (be4 a b c d / 65536 % 256) = b := by
  apply UInt8.toNat_inj.1
  rw [u8_toNat (Nat.mod_lt _ (by decide))]
  unfold be4; omega
 have e3 : UInt8.ofNat (be4 a b c d / 256 % 256) = c := by
  apply UInt8.toNat_inj.1
  rw [u8_toNat (Nat.mod_lt _ (by decide))]
  unfold be4; omega
 have e4 : UInt8.ofNat (be4 a b c d % 256) = d := by
  apply UInt8.toNat_inj.1
  rw [u8_toNat (Nat.mod_lt _ (by decide))]
  unfold be4; omega
 unfold fixed
 rw [e1, e2, e3, e4]
theorem rdF_fix {b : List UInt8} {at_ : Int} (h0 : 0 ≤ at_) (h : at_ + 4 ≤ b.length) : fixed (rdF b at_).1 = (b.drop at_.toNat).take 4 := by
 rw [rdF_ok h0 h]
 dsimp only
 rw [fixed_be4, List.drop_eq_getElem_cons (by omega), List.drop_eq_getElem_cons (by omega), List.drop_eq_getElem_cons (by omega), List.drop_eq_getElem_cons (by omega)]
 rfl
/-- What is got was put. -/
theorem getR_one {r : List UInt8} {k : UInt8} {l : List UInt8} {n : Nat} (h : getR r = (k, l, n, 0)) : l.length ≤ 1024 ∧ n = l.length + 10 ∧ n ≤ r.length ∧ r.take n = putG k l := by
 unfold getR at h
 split at h
 ·simp at h
 split at h
 ·simp at h
 split at h
 ·simp at h
 split at h
 ·simp at h
 split at h
 ·simp at h
 split at h
 ·simp at h
 rename_i h1 h2 h3 h4 h5 h6
 simp only [Prod.mk.injEq, and_true] at h
 obtain ⟨e1, e2, e3⟩ := h
 have hN : (rdF r 2).1 = l.length := by rw [← e2, List.length_take, List.length_drop]; omega
 have f2 := rdF_fix (b := r) (at_ := 2) (by omega) (by omega)
 have f6 := rdF_fix (b := r) (at_ := 6 + ((rdF r 2).1 : Int)) (by omega) (by omega)
 rw [hN] at e2 e3 f2 f6 h4 h5 h6
 have t6 : (6 + (l.length : Int)).toNat = 6 + l.length := by omega
 have t2 : (2 : Int).toNat = 2 := rfl
 rw [t6] at f6
 rw [t2] at f2
 have hhead : r.take (6 + l.length) = headG k l := by
  match r, h3, h2, e1, f2, e2 with
  | a0 :: a1 :: a2 :: a3 :: a4 :: a5 :: t, h3, h2, e1, f2, e2 =>
    have g0 : a0 = 167 := by simpa using h2
    have g1 : a1 = k := by simpa using e1
    have g2 : fixed l.length = [a2, a3, a4, a5] := by simpa using f2
    have g3 : t.take l.length = l := by simpa using e2
    unfold headG
    rw [g2, g0, g1, show 6 + l.length = l.length + 1 + 1 + 1 + 1 + 1 + 1 by omega]
    simp only [List.take_succ_cons, g3, List.cons_append, List.nil_append]
  | [], h3, _, _, _, _ => exact absurd h3 (by simp)
  | [_], h3, _, _, _, _ => exact absurd h3 (by simp)
  | [_, _], h3, _, _, _, _ => exact absurd h3 (by simp)
  | [_, _, _], h3, _, _, _, _ => exact absurd h3 (by simp)
  | [_, _, _, _], h3, _, _, _, _ => exact absurd h3 (by simp)
  | [_, _, _, _, _], h3, _, _, _, _ => exact absurd h3 (by simp)
 refine ⟨by omega, by omega, by omega, ?_⟩
 unfold putG
 rw [if_neg (by omega), ← hhead, ← Decidable.not_not.1 h6, f6, ← e3, show l.length + 10 = 6 + l.length + 4 by omega, List.take_add]
end Go.Proofs.YtlminileigfkcaaGreat
namespace Go.Proofs.YtlminileigfkcaaGreat
open Go Go.RowKit Crc Bin
def firstN (h e : Nat) : Nat := 2 + e % 2 * h
/-- A sector of an area's bytes. -/
def secAt (b : List UInt8) (i : Nat) : Sec := ⟨(b.drop (32 * i) ++ List.replicate 32 0).take 32, by rw [List.length_take, List.length_append, List.length_replicate]; omega⟩
theorem secAt_eq {b : List UInt8} {i : Nat} (h : 32 * i + 32 ≤ b.length) : (secAt b i).l = (b.drop (32 * i)).take 32 := by
 unfold secAt
 dsimp only
 rw [List.take_append_of_le_length (by rw [List.length_drop]; omega)]
/-- Acts one behind the other, up to the first error. -/
def eachN {σ : Type} (step : Nat → σ → Nat × σ) : Nat → Nat → σ → Nat × σ
 | 0, _, s => (0, s)
 | k + 1, i, s => if (step i s).1 ≠ 0 then step i s else eachN step k (i + 1) (step i s).2
theorem eachN_skip {σ : Type} {step : Nat → σ → Nat × σ} {s : σ} : ∀ (m i k : Nat), (∀ j, i ≤ j → j < i + m → step j s = (0, s)) → eachN step (m + k) i s = eachN step k (i + m) s
 | 0, i, k, _ => by rw [Nat.zero_add, Nat.add_zero]
 | m + 1, i, k, h => by
   have h1 := h i (Nat.le_refl _) (by omega)
   rw [show m + 1 + k = (m + k) + 1 by omega, eachN, h1, if_neg (by simp)]
   rw [eachN_skip m (i + 1) k (fun j h2 h3 => h j (by omega) (by omega)), show i + 1 + m = i + (m + 1) by omega]
def layD (base : Nat) (b : List UInt8) (k i : Nat) (d : Dk) : Nat × Dk := eachN (fun i d => d.write (base + i) (secAt b i)) k i d
/-- The epoch that a head tells. -/
def headD (d : Dk) (a : Nat) : Option Nat :=
 if (getG (el d.now a).l 0).2.2.2 ≠ 0 ∨ (getG (el d.now a).l 0).1 ≠ 1 then none
 else if (rdU (getG (el d.now a).l 0).2.1 0).2.2 = 0 ∧ (rdU (getG (el d.now a).l 0).2.1 0).2.1 = ((getG (el d.now a).l 0).2.1.length : Int) ∧ (rdU (getG (el d.now a).l 0).2.1 0).1 < 4611686018427387904 ∧ (rdU (getG (el d.now a).l 0).2.1 0).1 % 2 = a
  then some (rdU (getG (el d.now a).l 0).2.1 0).1 else none
def epochD (d : Dk) : Nat := max ((headD d 0).getD 0) ((headD d 1).getD 0)
theorem headD_lt {d : Dk} {a n : Nat} (h : headD d a = some n) : n < 4611686018427387904 := by
 unfold headD at h
 split at h
 ·cases h
 ·split at h
  ·rename_i h2
   cases h
   exact h2.2.2.1
  ·cases h
theorem epochD_lt (d : Dk) : epochD d < 4611686018427387904 := by
 unfold epochD
 have h0 : ∀ a, (headD d a).getD 0 < 4611686018427387904 := fun a => by
  cases h : headD d a with
  | none => decide
  | some n => exact headD_lt h
 have := h0 0
 have := h0 1
 omega
/-- The bytes of so many sectors. -/
def secsB (now : List Sec) (base k : Nat) : List UInt8 := ((List.range k).flatMap fun i => (el now (base + i)).l)
theorem secsB_length (now : List Sec) (base : Nat) : ∀ k, (secsB now base k).length = 32 * k
 | 0 => rfl
 | k + 1 => by
   have := secsB_length now base k
   unfold secsB at this ⊢
   rw [List.range_succ, List.flatMap_append, List.length_append, this]
   simp [Sec.h]
   omega
theorem secsB_succ (now : List Sec) (base k : Nat) : secsB now base (k + 1) = secsB now base k ++ (el now (base + k)).l := by
 unfold secsB
 rw [List.range_succ, List.flatMap_append]
 simp
/-- The records that bytes begin with. -/
def scanB (b : List UInt8) : Nat → Nat → List (List UInt8) × Nat
 | 0, a => ([], a)
 | f + 1, a => if (getG b (a : Int)).2.2.2 ≠ 0 ∨ (getG b (a : Int)).1 ≠ 2 then ([], a) else ((getG b (a : Int)).2.1 :: (scanB b f (getG b (a : Int)).2.2.1.toNat).1, (scanB b f (getG b (a : Int)).2.2.1.toNat).2)
def framesB (l : List (List UInt8)) : List UInt8 := l.flatMap fun x => putG 2 x
theorem framesB_snoc (l : List (List UInt8)) (x : List UInt8) : framesB (l ++ [x]) = framesB l ++ putG 2 x := by simp [framesB]
theorem framesB_cons (l : List (List UInt8)) (x : List UInt8) : framesB (x :: l) = putG 2 x ++ framesB l := by simp [framesB]
theorem getG_at {b : List UInt8} {a : Nat} (ha : a ≤ b.length) (h : (getG b (a : Int)).2.2.2 = 0) : ∃ k l, getG b (a : Int) = (k, l, ((a + (l.length + 10) : Nat) : Int), 0) ∧ l.length ≤ 1024 ∧ a + (l.length + 10) ≤ b.length ∧ (b.drop a).take (l.length + 10) = putG k l := by
 obtain ⟨k, l, n, e, hr⟩ : ∃ k l n e, getR (b.drop a) = (k, l, n, e) := ⟨_, _, _, _, rfl⟩
 by_cases he : e = 0
 ·subst he
  obtain ⟨h1, h2, h3, h4⟩ := getR_one hr
  rw [List.length_drop] at h3
  subst h2
  refine ⟨k, l, ?_, h1, by omega, h4⟩
  rw [getG_ok (by omega) (by omega) (by rw [Int.toNat_natCast]; exact hr)]
  push_cast
  rfl
 ·exfalso
  unfold getG at h
  rw [if_neg (by omega), Int.toNat_natCast, if_pos (by rw [hr]; exact he)] at h
  rw [hr] at h
  dsimp only at h
  omega
theorem scanB_is (b : List UInt8) : ∀ (f a : Nat), a ≤ b.length → a ≤ (scanB b f a).2 ∧ (scanB b f a).2 ≤ b.length ∧ framesB (scanB b f a).1 = (b.drop a).take ((scanB b f a).2 - a) ∧ ∀ x ∈ (scanB b f a).1, x.length ≤ 1024
 | 0, a, ha => ⟨Nat.le_refl _, ha, by simp [scanB, framesB], fun x hx => by cases hx⟩
 | f + 1, a, ha => by
   rw [scanB]
   split
   ·exact ⟨Nat.le_refl _, ha, by simp [framesB], fun x hx => by cases hx⟩
   ·rename_i hne
    obtain ⟨he, hk⟩ : (getG b (a : Int)).2.2.2 = 0 ∧ (getG b (a : Int)).1 = 2 := by
     constructor
     ·exact Classical.byContradiction fun h => hne (.inl h)
     ·exact Classical.byContradiction fun h => hne (.inr h)
    obtain ⟨k, l, hg, h1, h2, h3⟩ := getG_at ha he
    rw [hg] at hk ⊢
    dsimp only at hk ⊢
    subst hk
    rw [Int.toNat_natCast]
    obtain ⟨i1, i2, i3, i4⟩ := scanB_is b f (a + (l.length + 10)) h2
    refine ⟨by omega, i2, ?_, fun x hx => ?_⟩
    ·rw [framesB_cons, i3, ← h3]
     obtain ⟨m, hm⟩ : ∃ m, m = l.length + 10 := ⟨_, rfl⟩
     rw [← hm] at i1 ⊢
     rw [show (scanB b f (a + m)).2 - a = m + ((scanB b f (a + m)).2 - (a + m)) by omega, List.take_add, List.drop_drop]
    ·rcases List.mem_cons.1 hx with rfl | hx
     ·exact h1
     ·exact i4 x hx
/-- An area: records, and noughts. -/
def areaB (h : Nat) (l : List (List UInt8)) : List UInt8 := framesB l ++ List.replicate (32 * h - (framesB l).length) 0
theorem areaB_length {h : Nat} {l : List (List UInt8)} (hf : (framesB l).length ≤ 32 * h) : (areaB h l).length = 32 * h := by unfold areaB; rw [List.length_append, List.length_replicate]; omega
theorem areaB_snoc {h : Nat} {l : List (List UInt8)} {x : List UInt8} (hx : x.length ≤ 1024) (hf : (framesB l).length + (x.length + 10) ≤ 32 * h) : (areaB h l).take (framesB l).length ++ putG 2 x ++ (areaB h l).drop ((framesB l).length + (x.length + 10)) = areaB h (l ++ [x]) := by
 unfold areaB
 have hp := putG_length (k := 2) hx
 rw [framesB_snoc, List.take_append_of_le_length (Nat.le_refl _), List.take_length, List.drop_append, List.drop_eq_nil_of_le (by omega), List.nil_append, List.length_append, hp, List.drop_replicate]
 congr 2
 omega
/-- Is something to be wiped in a sector? -/
def dirtyB (b : List UInt8) (e i : Nat) : Bool := (List.range 32).any fun k => decide (e ≤ 32 * i + k ∧ el b (32 * i + k) ≠ 0)
def wipeB (b : List UInt8) (e : Nat) : List UInt8 := b.take e ++ List.replicate (b.length - e) 0
def wipeStep (base : Nat) (b : List UInt8) (e i : Nat) (z : Dk × Bool) : Nat × (Dk × Bool) := if dirtyB b e i then ((z.1.write (base + i) (secAt (wipeB b e) i)).1, ((z.1.write (base + i) (secAt (wipeB b e) i)).2, true)) else (0, z)
def wipeD (h base : Nat) (b : List UInt8) (e : Nat) (d : Dk) : Nat × Dk :=
 if (eachN (wipeStep base b e) h 0 (d, false)).1 ≠ 0 then ((eachN (wipeStep base b e) h 0 (d, false)).1, (eachN (wipeStep base b e) h 0 (d, false)).2.1)
 else if (eachN (wipeStep base b e) h 0 (d, false)).2.2 then (eachN (wipeStep base b e) h 0 (d, false)).2.1.sync else (0, (eachN (wipeStep base b e) h 0 (d, false)).2.1)
theorem dirtyB_low {b : List UInt8} {e i : Nat} (h : i < e / 32) : dirtyB b e i = false := by
 unfold dirtyB
 rw [List.any_eq_false]
 intro k hk
 have := List.mem_range.1 hk
 simp
 omega
theorem wipe_skip {base e h : Nat} {b : List UInt8} {z : Dk × Bool} (he : e ≤ 32 * h) : eachN (wipeStep base b e) h 0 z = eachN (wipeStep base b e) (h - e / 32) (e / 32) z := by
 have := eachN_skip (step := wipeStep base b e) (s := z) (e / 32) 0 (h - e / 32) (fun j _ hj => by unfold wipeStep; rw [if_neg (by rw [dirtyB_low (by omega)]; simp)])
 rw [show e / 32 + (h - e / 32) = h by omega, Nat.zero_add] at this
 exact this
/-- A log. -/
structure Wl where
 epoch : Nat
 l : List (List UInt8)
 n : Nat
 dead : Bool
def halfD (d : Dk) : Nat := (d.safe.length - 2) / 2
def baseO (d : Dk) : Nat := firstN (halfD d) (epochD d)
def bytesO (d : Dk) : List UInt8 := secsB d.now (baseO d) (halfD d)
def scanO (d : Dk) : List (List UInt8) × Nat := scanB (bytesO d) ((bytesO d).length + 1) 0
/-- What a disk's log is opened as. -/
def openW (d : Dk) : Nat × Wl × Dk := ((wipeD (halfD d) (baseO d) (bytesO d) (scanO d).2 d).1, ⟨epochD d, (scanO d).1, (scanO d).1.length, false⟩, (wipeD (halfD d) (baseO d) (bytesO d) (scanO d).2 d).2)
def usedW (s : Wl) : Nat := (framesB s.l).length
def appendW (h : Nat) (s : Wl) (d : Dk) (x : List UInt8) : Nat × Wl × Dk :=
 if s.dead = true ∨ d.down = true then (6, { s with dead := true }, d)
 else if 1024 < x.length then (3, s, d)
 else if 32 * h - usedW s < x.length + 10 then (5, s, d)
 else ((layD (firstN h s.epoch) (areaB h (s.l ++ [x])) ((usedW s + x.length + 9) / 32 + 1 - usedW s / 32) (usedW s / 32) d).1, { s with l := s.l ++ [x], dead := decide ((layD (firstN h s.epoch) (areaB h (s.l ++ [x])) ((usedW s + x.length + 9) / 32 + 1 - usedW s / 32) (usedW s / 32) d).1 ≠ 0) }, (layD (firstN h s.epoch) (areaB h (s.l ++ [x])) ((usedW s + x.length + 9) / 32 + 1 - usedW s / 32) (usedW s / 32) d).2)
def syncW (s : Wl) (d : Dk) : Nat × Wl × Dk :=
 if s.dead = true ∨ d.down = true then (6, { s with dead := true }, d)
 else if d.sync.1 ≠ 0 then (d.sync.1, { s with dead := true }, d.sync.2) else (0, { s with n := s.l.length }, d.sync.2)
def headSec (e : Nat) : Sec := secAt (putG 1 (put e)) 0
/-- The new log takes the old one's place. -/
def turnW (h e : Nat) (l : List (List UInt8)) (d : Dk) : Nat × Dk :=
 if (layD (firstN h e) (areaB h l) h 0 d).1 ≠ 0 then layD (firstN h e) (areaB h l) h 0 d
 else if (layD (firstN h e) (areaB h l) h 0 d).2.sync.1 ≠ 0 then (layD (firstN h e) (areaB h l) h 0 d).2.sync
 else if ((layD (firstN h e) (areaB h l) h 0 d).2.sync.2.write (e % 2) (headSec e)).1 ≠ 0 then (layD (firstN h e) (areaB h l) h 0 d).2.sync.2.write (e % 2) (headSec e)
 else ((layD (firstN h e) (areaB h l) h 0 d).2.sync.2.write (e % 2) (headSec e)).2.sync
def resetW (h : Nat) (s : Wl) (d : Dk) (l : List (List UInt8)) : Nat × Wl × Dk :=
 if s.dead = true ∨ d.down = true then (6, { s with dead := true }, d)
 else if ∃ x ∈ l, 1024 < x.length then (3, s, d)
 else if 32 * h < (framesB l).length ∨ s.epoch + 1 = 4611686018427387904 then (5, s, d)
 else if (turnW h (s.epoch + 1) l d).1 ≠ 0 then ((turnW h (s.epoch + 1) l d).1, { s with dead := true }, (turnW h (s.epoch + 1) l d).2)
 else (0, ⟨s.epoch + 1, l, l.length, false⟩, (turnW h (s.epoch + 1) l d).2)
/-- What is kept of a log. -/
structure Wl.ok (h : Nat) (s : Wl) : Prop where
 lo : 2 ≤ h
 hi : h ≤ 1023
 fits : usedW s ≤ 32 * h
 short : ∀ x ∈ s.l, x.length ≤ 1024
 epoch : s.epoch < 4611686018427387904
 n : s.n ≤ s.l.length
theorem framesB_few (l : List (List UInt8)) (h : ∀ x ∈ l, x.length ≤ 1024) : l.length * 10 ≤ (framesB l).length := by
 induction l with
 | nil => simp
 | cons x l ih =>
   have h1 := putG_length (k := 2) (h x (by simp))
   have := ih fun y hy => h y (by simp [hy])
   rw [framesB_cons, List.length_append, List.length_cons, h1]
   omega
end Go.Proofs.YtlminileigfkcaaGreat
namespace Go.Proofs.YtlminileigfkcaaGreat
open Go Go.RowKit Crc Bin
theorem rdF_drop {l : List UInt8} {at_ k : Int} (h0 : 0 ≤ at_) (hk : 0 ≤ k) (h : at_ + k + 4 ≤ l.length) : rdF l (at_ + k) = ((rdF (l.drop at_.toNat) k).1, at_ + k + 4, 0) := by
 have hl : (l.drop at_.toNat).length = l.length - at_.toNat := List.length_drop
 rw [rdF_ok (by omega) (by omega), rdF_ok hk (by omega)]
 simp only [List.getElem_drop, Prod.mk.injEq, and_true]
 have e : (at_ + k).toNat = at_.toNat + k.toNat := by omega
 simp only [e, Nat.add_assoc]
set_option maxRecDepth 10000 in
set_option maxHeartbeats 1000000 in
theorem refGet_ok (l : List UInt8) (A : Option Addr) (cap : Nat) (at_ : Int) (w : World) (h : RdB w A cap l) (hl : l.length ≤ 140737488351232) (ha : -9223372036854775808 ≤ at_ ∧ at_ ≤ 9223372036854775807) :
 Fn Tryz.prog 61 [.slice A l.length cap, .int .i64 at_] w fun v w' => Got v (getG l at_) w w' := by
 have hle : l.length ≤ cap := h.le
 refine Fn.enter Tryz.func61 rfl Tryz.ntmps61 rfl (W.sub [(0, _), (1, _)] (.cons rfl (.cons rfl .nil)) (W.seq (W.region (WL.alloc Tryz.zeroValue144 (Mem.refl w) rfl ?_))))
 intro gR w0 mR
 refine WL.assign rfl rfl (WL.assign rfl rfl (WL.nil (WX.next (W.sub [(0, _), (1, _), (4, _)] (.cons rfl (.cons rfl (.cons rfl .nil))) (W.seq (W.block (W.seq (W.region (WL.move rfl rfl (WL.lss rfl rfl rfl (WL.moveIf rfl rfl (fun c0 => ?_) (fun c0 => ?_))))))))))))
 ·refine WL.off rfl rfl rfl rfl (WL.off rfl rfl rfl rfl (WL.off rfl rfl rfl rfl (WL.off rfl rfl rfl rfl (WL.pickT rfl rfl rfl (WL.assign rfl rfl (WL.nil (WX.next (W.sub [(0, _), (1, _), (4, _), (15, _)] (.cons rfl (.cons rfl (.cons rfl (.cons rfl .nil)))) (W.condT rfl (W.seq (W.region (WL.build (places := #[(0, 1), (1, 1)]) Tryz.underlying144 Tryz.zeroValue144 (fun _ => by simp [Tryz.sizeOf5, Tryz.sizeOf84]) rfl rfl rfl ?_))))))))))))
  refine WL.storeW mR Tryz.sizeOf144 rfl rfl (by simp [Value.cells, Value.oneCell']) rfl rfl ?_
  intro w1 mS
  refine WL.assign rfl rfl (WL.assign rfl rfl (WL.nil (WX.next (W.sub [(4, _), (5, _), (6, _)] (.cons rfl (.cons rfl (.cons rfl .nil))) (W.ret (WX.blockRet (WX.thenRet (WX.retC3 rfl rfl rfl rfl Tryz.isAgg144 (by exact Tryz.sizeOf144) mS.cells ?_))))))))
  rw [getG_out (by omega)]; exact Got.none mS 2
 ·refine WL.on rfl rfl (WL.move rfl rfl (WL.on rfl rfl (WL.move rfl rfl (WL.on rfl rfl (WL.len Tryz.underlying84 rfl rfl (WL.on rfl rfl (WL.gtr rfl rfl rfl (WL.pickF rfl rfl rfl (WL.assign rfl rfl (WL.nil (WX.next (W.sub [(0, _), (1, _), (4, _), (15, _)] (.cons rfl (.cons rfl (.cons rfl (.cons rfl .nil)))) (W.ite rfl (fun c1 => ?_) (fun c1 => ?_))))))))))))))
  ·refine W.seq (W.region (WL.build (places := #[(0, 1), (1, 1)]) Tryz.underlying144 Tryz.zeroValue144 (fun _ => by simp [Tryz.sizeOf5, Tryz.sizeOf84]) rfl rfl rfl ?_))
   refine WL.storeW mR Tryz.sizeOf144 rfl rfl (by simp [Value.cells, Value.oneCell']) rfl rfl ?_
   intro w1 mS
   refine WL.assign rfl rfl (WL.assign rfl rfl (WL.nil (WX.next (W.sub [(4, _), (5, _), (6, _)] (.cons rfl (.cons rfl (.cons rfl .nil))) (W.ret (WX.blockRet (WX.thenRet (WX.retC3 rfl rfl rfl rfl Tryz.isAgg144 (by exact Tryz.sizeOf144) mS.cells ?_))))))))
   rw [getG_out (by omega)]; exact Got.none mS 2
  ·obtain ⟨r, hr⟩ : ∃ r, r = l.drop at_.toNat := ⟨_, rfl⟩
   have hrl : r.length = l.length - at_.toNat := by rw [hr, List.length_drop]
   refine W.seq (W.region (WL.move rfl rfl (WL.move rfl rfl (WL.len Tryz.underlying84 rfl rfl (WL.eqI rfl rfl rfl (WL.assign rfl rfl (WL.nil (WX.next (W.sub [(0, _), (1, _), (4, _), (25, _)] (.cons rfl (.cons rfl (.cons rfl (.cons rfl .nil)))) (W.ite rfl (fun c2 => ?_) (fun c2 => ?_)))))))))))
   ·refine W.seq (W.region (WL.build (places := #[(0, 1), (1, 1)]) Tryz.underlying144 Tryz.zeroValue144 (fun _ => by simp [Tryz.sizeOf5, Tryz.sizeOf84]) rfl rfl rfl ?_))
    refine WL.storeW mR Tryz.sizeOf144 rfl rfl (by simp [Value.cells, Value.oneCell']) rfl rfl ?_
    intro w1 mS
    refine WL.assign rfl rfl (WL.assign rfl rfl (WL.nil (WX.next (W.sub [(4, _), (5, _), (6, _)] (.cons rfl (.cons rfl (.cons rfl .nil))) (W.ret (WX.blockRet (WX.thenRet (WX.retC3 rfl rfl rfl rfl Tryz.isAgg144 (by exact Tryz.sizeOf144) mS.cells ?_))))))))
    rw [getG_bad (e := 10) (by omega) (by omega) (by rw [← hr]; unfold getR; rw [if_pos (by omega)]) (by omega)]; exact Got.none mS 10
   ·have g0 : ¬ r.length = 0 := by omega
    obtain ⟨x0, hx0⟩ : ∃ x, r[0]? = some x := ⟨_, List.getElem?_eq_getElem (by omega)⟩
    have hl0 : l[at_.toNat]? = some x0 := by rw [← hx0, hr, List.getElem?_drop, Nat.add_zero]
    refine W.seq (W.region (WL.move rfl rfl (WL.move rfl rfl ?_)))
    refine WL.idx1 (v := .int .u8 (x0.toNat : Int)) Tryz.underlying84 Tryz.sizeOf5 rfl rfl (h.mem mR) (by rw [bs_get, hl0]; rfl) (by omega) rfl ?_
    intro ad6 had6
    refine WL.load Tryz.isAgg5 rfl had6 rfl (WL.neI rfl rfl rfl (WL.assign rfl rfl (WL.nil (WX.next (W.sub [(0, _), (1, _), (4, _), (31, _)] (.cons rfl (.cons rfl (.cons rfl (.cons rfl .nil)))) (W.ite rfl (fun c3 => ?_) (fun c3 => ?_)))))))
    ·refine W.seq (W.region (WL.build (places := #[(0, 1), (1, 1)]) Tryz.underlying144 Tryz.zeroValue144 (fun _ => by simp [Tryz.sizeOf5, Tryz.sizeOf84]) rfl rfl rfl ?_))
     refine WL.storeW mR Tryz.sizeOf144 rfl rfl (by simp [Value.cells, Value.oneCell']) rfl rfl ?_
     intro w1 mS
     refine WL.assign rfl rfl (WL.assign rfl rfl (WL.nil (WX.next (W.sub [(4, _), (5, _), (6, _)] (.cons rfl (.cons rfl (.cons rfl .nil))) (W.ret (WX.blockRet (WX.thenRet (WX.retC3 rfl rfl rfl rfl Tryz.isAgg144 (by exact Tryz.sizeOf144) mS.cells ?_))))))))
     rw [getG_bad (e := 20) (by omega) (by omega) (by rw [← hr]; unfold getR; rw [if_neg g0, if_pos (by rw [hx0]; rintro rfl; exact c3 rfl)]) (by omega)]; exact Got.none mS 20
    ·skip
     have g1 : ¬ (r[0]?.getD 0 ≠ 167) := by
      rw [hx0]
      refine not_not_intro (UInt8.toNat_inj.1 ?_)
      show x0.toNat = 167
      omega
     refine W.seq (W.region (WL.move rfl rfl (WL.len Tryz.underlying84 rfl rfl (WL.move rfl rfl (WL.sub' rfl rfl (by first | exact wI64 (by omega) | rfl) rfl ?_)))))
     refine WL.lss rfl rfl rfl (WL.assign rfl rfl (WL.nil (WX.next (W.sub [(0, _), (1, _), (4, _), (38, _)] (.cons rfl (.cons rfl (.cons rfl (.cons rfl .nil)))) (W.ite rfl (fun c4 => ?_) (fun c4 => ?_))))))
     ·refine W.seq (W.region (WL.build (places := #[(0, 1), (1, 1)]) Tryz.underlying144 Tryz.zeroValue144 (fun _ => by simp [Tryz.sizeOf5, Tryz.sizeOf84]) rfl rfl rfl ?_))
      refine WL.storeW mR Tryz.sizeOf144 rfl rfl (by simp [Value.cells, Value.oneCell']) rfl rfl ?_
      intro w1 mS
      refine WL.assign rfl rfl (WL.assign rfl rfl (WL.nil (WX.next (W.sub [(4, _), (5, _), (6, _)] (.cons rfl (.cons rfl (.cons rfl .nil))) (W.ret (WX.blockRet (WX.thenRet (WX.retC3 rfl rfl rfl rfl Tryz.isAgg144 (by exact Tryz.sizeOf144) mS.cells ?_))))))))
      rw [getG_bad (e := 10) (by omega) (by omega) (by rw [← hr]; unfold getR; rw [if_neg g0, if_neg g1, if_pos (by omega)]) (by omega)]; exact Got.none mS 10
     ·have g2 : ¬ r.length < 6 := by omega
      obtain ⟨n, hf1⟩ : ∃ n, (rdF r 2).1 = n := ⟨_, rfl⟩
      have hn : n < 4294967296 := by rw [← hf1]; exact rdF_len (by omega) (by omega)
      have hf : rdF l (at_ + 2) = (n, at_ + 2 + 4, 0) := by rw [rdF_drop (by omega) (by omega) (by omega), ← hr, hf1]
      refine W.skip (WX.blockNormal (WX.next (W.seq (W.region (WL.move rfl rfl (WL.move rfl rfl (WL.add rfl rfl (by first | exact wI64 (by omega) | rfl) rfl ?_)))))))
      refine WL.call Tryz.call95 rfl (refFixed_ok l A cap (at_ + 2) w0 (h.mem mR) (by omega) (by omega)) rfl ?_
      rintro _ w2 ⟨rfl, m2⟩
      rw [hf, rdFv_tuple]
      have mR2 := mR.call m2
      refine WL.move rfl rfl (WL.extract rfl rfl rfl (WL.extract rfl rfl rfl (WL.extract rfl rfl rfl (WL.assign rfl rfl (WL.assign rfl rfl (WL.assign rfl rfl (WL.nil (WX.next (W.sub [(0, _), (1, _), (4, _), (7, _)] (.cons rfl (.cons rfl (.cons rfl (.cons rfl .nil)))) (W.seq (W.block (W.seq (W.region (WL.move rfl rfl (WL.gtr rfl rfl rfl (WL.assign rfl rfl (WL.nil (WX.next (W.sub [(0, _), (1, _), (4, _), (7, _), (53, _)] (.cons rfl (.cons rfl (.cons rfl (.cons rfl (.cons rfl .nil))))) (W.ite rfl (fun c5 => ?_) (fun c5 => ?_)))))))))))))))))))))
      ·refine W.seq (W.region (WL.build (places := #[(0, 1), (1, 1)]) Tryz.underlying144 Tryz.zeroValue144 (fun _ => by simp [Tryz.sizeOf5, Tryz.sizeOf84]) rfl rfl rfl ?_))
       refine WL.storeW mR2 Tryz.sizeOf144 rfl rfl (by simp [Value.cells, Value.oneCell']) rfl rfl ?_
       intro w1 mS
       refine WL.assign rfl rfl (WL.assign rfl rfl (WL.nil (WX.next (W.sub [(4, _), (5, _), (6, _)] (.cons rfl (.cons rfl (.cons rfl .nil))) (W.ret (WX.blockRet (WX.thenRet (WX.retC3 rfl rfl rfl rfl Tryz.isAgg144 (by exact Tryz.sizeOf144) mS.cells ?_))))))))
       rw [getG_bad (e := 3) (by omega) (by omega) (by rw [← hr]; unfold getR; rw [if_neg g0, if_neg g1, if_neg g2, hf1, if_pos (by omega)]) (by omega)]; exact Got.none mS 3
      ·have g3 : ¬ 1024 < n := by omega
       refine W.seq (W.region (WL.move rfl rfl (WL.len Tryz.underlying84 rfl rfl (WL.move rfl rfl (WL.sub' rfl rfl (by first | exact wI64 (by omega) | rfl) rfl ?_)))))
       refine WL.move rfl rfl (WL.conv Tryz.underlying185 Tryz.underlying3 rfl (by first | exact wI64 (by omega) | rfl) rfl ?_)
       refine WL.add rfl rfl (by first | exact wI64 (by omega) | rfl) rfl ?_
       refine WL.lss rfl rfl rfl (WL.assign rfl rfl (WL.nil (WX.next (W.sub [(0, _), (1, _), (4, _), (7, _), (57, _)] (.cons rfl (.cons rfl (.cons rfl (.cons rfl (.cons rfl .nil))))) (W.ite rfl (fun c6 => ?_) (fun c6 => ?_))))))
       ·refine W.seq (W.region (WL.build (places := #[(0, 1), (1, 1)]) Tryz.underlying144 Tryz.zeroValue144 (fun _ => by simp [Tryz.sizeOf5, Tryz.sizeOf84]) rfl rfl rfl ?_))
        refine WL.storeW mR2 Tryz.sizeOf144 rfl rfl (by simp [Value.cells, Value.oneCell']) rfl rfl ?_
        intro w1 mS
        refine WL.assign rfl rfl (WL.assign rfl rfl (WL.nil (WX.next (W.sub [(4, _), (5, _), (6, _)] (.cons rfl (.cons rfl (.cons rfl .nil))) (W.ret (WX.blockRet (WX.thenRet (WX.retC3 rfl rfl rfl rfl Tryz.isAgg144 (by exact Tryz.sizeOf144) mS.cells ?_))))))))
        rw [getG_bad (e := 10) (by omega) (by omega) (by rw [← hr]; unfold getR; rw [if_neg g0, if_neg g1, if_neg g2, hf1, if_neg g3, if_pos (by omega)]) (by omega)]; exact Got.none mS 10
       ·have g4 : ¬ r.length < n + 10 := by omega
        obtain ⟨s, hf3⟩ : ∃ s, (rdF r (6 + (n : Int))).1 = s := ⟨_, rfl⟩
        have hf2 : rdF l (at_ + 6 + (n : Int)) = (s, at_ + ((n + 10 : Nat) : Int), 0) := by rw [show at_ + 6 + (n : Int) = at_ + (6 + (n : Int)) by omega, rdF_drop (by omega) (by omega) (by omega), ← hr, hf3, show at_ + (6 + (n : Int)) + 4 = at_ + ((n + 10 : Nat) : Int) by omega]
        refine W.skip (WX.blockNormal (WX.next (W.seq (W.region (WL.move rfl rfl (WL.add rfl rfl (by first | exact wI64 (by omega) | rfl) rfl ?_))))))
        refine WL.move rfl rfl (WL.conv Tryz.underlying185 Tryz.underlying3 rfl (by first | exact wI64 (by omega) | rfl) rfl ?_)
        refine WL.add rfl rfl (by first | exact wI64 (by omega) | rfl) rfl ?_
        refine WL.assign rfl rfl (WL.nil (WX.next (W.sub [(0, _), (1, _), (4, _), (10, _)] (.cons rfl (.cons rfl (.cons rfl (.cons rfl .nil)))) (W.seq (W.region (WL.move rfl rfl (WL.move rfl rfl (WL.call Tryz.call95 rfl (refFixed_ok l A cap (at_ + 6 + (n : Int)) w2 (h.mem mR2) (by omega) (by omega)) rfl ?_))))))))
        rintro _ w3 ⟨rfl, m3⟩
        rw [hf2, rdFv_tuple]
        have mR3 := mR2.call m3
        refine WL.move rfl rfl (WL.extract rfl rfl rfl (WL.extract rfl rfl rfl (WL.extract rfl rfl rfl (WL.assign rfl rfl (WL.assign rfl rfl (WL.assign rfl rfl (WL.nil (WX.next (W.sub [(0, _), (1, _), (4, _), (10, _), (11, _), (12, _)] (.cons rfl (.cons rfl (.cons rfl (.cons rfl (.cons rfl (.cons rfl .nil)))))) (W.seq (W.seq (W.region (WL.move rfl rfl (WL.move rfl rfl (WL.move rfl rfl (WL.move rfl rfl (WL.sliceLHB Tryz.underlying84 Tryz.sizeOf5 rfl rfl rfl (h.mem mR3) rfl (by omega) (by omega) (by omega) rfl ?_)))))))))))))))))
        intro A16 L hL hLl hR
        have hLr : L = r.take (6 + n) := by rw [hL, ← hr, show (at_ + 6 + (n : Int)).toNat - at_.toNat = 6 + n by omega]
        refine WL.call Tryz.call96 rfl (refSum_ok L A16 _ w3 hR (by omega)) rfl ?_
        rintro _ _ ⟨rfl, rfl⟩
        rw [hLr]
        refine WL.neI rfl rfl rfl (WL.nil (WX.next (W.sub [(0, _), (1, _), (4, _), (10, _), (12, _), (85, _)] (.cons rfl (.cons rfl (.cons rfl (.cons rfl (.cons rfl (.cons rfl .nil)))))) (W.ite rfl (fun c7 => ?_) (fun c7 => ?_)))))
        ·refine W.seq (W.region (WL.build (places := #[(0, 1), (1, 1)]) Tryz.underlying144 Tryz.zeroValue144 (fun _ => by simp [Tryz.sizeOf5, Tryz.sizeOf84]) rfl rfl rfl ?_))
         refine WL.storeW mR3 Tryz.sizeOf144 rfl rfl (by simp [Value.cells, Value.oneCell']) rfl rfl ?_
         intro w6 mS
         refine WL.assign rfl rfl (WL.assign rfl rfl (WL.nil (WX.next (W.sub [(4, _), (5, _), (6, _)] (.cons rfl (.cons rfl (.cons rfl .nil))) (W.ret (WX.thenRet (WX.retC3 rfl rfl rfl rfl Tryz.isAgg144 (by exact Tryz.sizeOf144) mS.cells ?_)))))))
         rw [getG_bad (e := 21) (by omega) (by omega) (by rw [← hr]; unfold getR; rw [if_neg g0, if_neg g1, if_neg g2, hf1, if_neg g3, if_neg g4, hf3, if_pos (by omega)]) (by omega)]; exact Got.none mS 21
        ·have g5' : ¬ (s ≠ crc (r.take (6 + n))) := by omega
         obtain ⟨x1, hx1⟩ : ∃ x, r[1]? = some x := ⟨_, List.getElem?_eq_getElem (by omega)⟩
         have hl1 : l[at_.toNat + 1]? = some x1 := by rw [← hx1, hr, List.getElem?_drop]
         obtain ⟨body, hbody⟩ : ∃ b, b = (r.drop 6).take n := ⟨_, rfl⟩
         have hbl : body.length = n := by rw [hbody, List.length_take, List.length_drop]; omega
         have hok : getG l at_ = (x1, body, at_ + ((n + 10 : Nat) : Int), 0) := getG_ok (by omega) (by omega) (by rw [← hr]; unfold getR; rw [if_neg g0, if_neg g1, if_neg g2, hf1, if_neg g3, if_neg g4, hf3, if_neg g5', hx1, hbody]; rfl)
         refine W.skip (WX.next (W.seq (W.region (WL.assign rfl rfl (WL.nil (WX.next (W.sub [(0, _), (1, _), (4, _), (10, _), (12, _), (14, _)] (.cons rfl (.cons rfl (.cons rfl (.cons rfl (.cons rfl (.cons rfl .nil)))))) (W.seq (W.region (WL.move rfl rfl (WL.move rfl rfl (WL.move rfl rfl (WL.add rfl rfl (by first | exact wI64 (by omega) | rfl) rfl ?_)))))))))))))
         refine WL.move rfl rfl (WL.sliceLHB Tryz.underlying84 Tryz.sizeOf5 rfl rfl rfl (h.mem mR3) rfl (by omega) (by omega) (by omega) rfl ?_)
         intro A19 L2 hL2 hL2l hR2
         have hLb : L2 = body := by rw [hL2, hbody, hr, List.drop_drop, show (at_ + 6).toNat = at_.toNat + 6 by omega, show (at_ + 6 + (n : Int)).toNat - (at_.toNat + 6) = n by omega]
         subst hLb
         refine WL.appendB (l := []) Tryz.elem5 rfl rfl (mR3.nilOwn 5 1) hR2 rfl rfl (by simp; omega) rfl ?_
         intro A8 cap8 w8 m8
         refine WL.assign rfl rfl (WL.nil (WX.next (W.sub [(0, _), (1, _), (4, _), (12, _), (14, _)] (.cons rfl (.cons rfl (.cons rfl (.cons rfl (.cons rfl .nil))))) (W.seq (W.region (WL.move rfl rfl (WL.move rfl rfl (WL.add rfl rfl (by first | exact wI64 (by omega) | rfl) rfl ?_))))))))
         refine WL.idx1 (v := .int .u8 (x1.toNat : Int)) Tryz.underlying84 Tryz.sizeOf5 rfl rfl (h.mem m8) (by rw [bs_get, show (at_ + 1).toNat = at_.toNat + 1 by omega, hl1]; rfl) (by omega) rfl ?_
         intro ad20 had20
         refine WL.load Tryz.isAgg5 rfl had20 rfl (WL.move rfl rfl (WL.build (places := #[(0, 1), (1, 1)]) Tryz.underlying144 Tryz.zeroValue144 (fun _ => by simp [Tryz.sizeOf5, Tryz.sizeOf84]) rfl rfl rfl ?_))
         refine WL.move rfl rfl (WL.storeW m8.f1 Tryz.sizeOf144 rfl rfl (by simp [Value.cells, Value.oneCell']) rfl rfl ?_)
         intro w9 mS
         refine WL.assign rfl rfl (WL.assign rfl rfl (WL.nil (WX.next (W.sub [(4, _), (5, _), (6, _)] (.cons rfl (.cons rfl (.cons rfl .nil))) (W.ret (WX.retC3 rfl rfl rfl rfl Tryz.isAgg144 (by exact Tryz.sizeOf144) mS.cells ?_))))))
         rw [hok]; exact ⟨A8, cap8, rfl, mS.tail⟩
end Go.Proofs.YtlminileigfkcaaGreat
namespace Go.Proofs.YtlminileigfkcaaGreat
open Go Go.RowKit Crc Bin
section
variable {P : Program} {n : Nat} {ρ : List (Nat × Value)} {w0 w : World} {rest : List Oper} {L L' : List Asr} {Y : Sq P n}
variable {d : Nat} {ty : TypeId} {pos : String} {aft : Array Edge} {x y : Operand} {t t2 e : TypeId}
/-- A copy into bytes that are owned. -/
theorem WL.copyB {g cap o dLen dCap k : Nat} {l l' src : List UInt8} {B : Addr} {sl sc : Nat} (ht : P.underlying t = some (.slice e)) (hs : ∀ w, (sizeOf e).run P w = .ok 1 w)
 (hx : ev ρ x = some (.slice (some ⟨g, o, none⟩) dLen dCap)) (hy : ev ρ y = some (.slice (some B) sl sc)) (hk : Nat.min sl dLen = k) (hcs : src.length = k)
 (hsrc : ∀ j v, (bs src)[j]? = some v → w.cell? (B.add j) = some v) (hl : l'.length = l.length) (hall : l.take o ++ src ++ l.drop (o + src.length) = l') (ho : o + src.length ≤ l.length)
 (M : Mem w0 w L) (h : Upd (Asr.own e 1 (some ⟨g, 0, none⟩) l.length cap (bs l)) (Asr.own e 1 (some ⟨g, 0, none⟩) l.length cap (bs l')) L L') (hd : Nat.blt d n = true)
 (kk : ∀ w', Mem w0 w' L' → Y.S rest ((d, .int .i64 (k : Int)) :: ρ) w') :
 Y.S (⟨some d, .call ⟨.builtin .copy, #[x, y], #[t, t2]⟩, ty, pos, aft, none⟩ :: rest) ρ w := by
 obtain ⟨K, p1, p2⟩ := h.perm
 obtain ⟨g', sp, hA, M1, hc, hm, hn, _⟩ := (M.perm p1).ownRow (by simp)
 obtain rfl : g = g' := by simpa using hA
 have hg : w.heap[g]? = some (.cells (bs l ++ sp).toArray e (0, 0)) := M1.head
 have hr := run_copy_gen (P := P) (dT := t) (sT := t2) (ty := ty) (dCap := dCap) (sCap := sc) (cs := bs src) w ht hs hg hk (by rw [bs_length, hcs, Nat.mul_one]) hsrc (by rw [List.size_toArray, List.length_append, bs_length, bs_length]; exact Nat.le_trans ho (Nat.le_add_right ..)) bs_one
 have e1 : (bs l ++ sp).toArray.toList.take o ++ bs src ++ (bs l ++ sp).toArray.toList.drop (o + (bs src).length) = bs l' ++ sp := by
  show (bs l ++ sp).take o ++ bs src ++ (bs l ++ sp).drop (o + (bs src).length) = _
  rw [← hall, bs_length, List.take_append_of_le_length (by rw [bs_length]; omega), List.drop_append_of_le_length (by rw [bs_length]; omega)]
  simp [bs]
 rw [e1] at hr
 have M2 : Mem w0 (w.setRow g (bs l' ++ sp).toArray) (Asr.row g e (bs l' ++ sp) :: K) :=
  M1.write ⟨rfl, rfl, rfl, by simp, fun k _ hk => setRow_other w g k _ (fun e => hk e)⟩ (setRow_heap w g _ _ e _ hg) (fun _ hf => .inl hf)
 have M3 : Mem w0 (w.setRow g (bs l' ++ sp).toArray) (Asr.own e 1 (some ⟨g, 0, none⟩) l.length cap (bs l') :: K) :=
  M2.rowOwn sp rfl (by rw [bs_length, hl, Nat.mul_one]) (by rw [List.length_append, bs_length, hl]; rw [List.length_append, bs_length] at hc; exact hc) hm hn
 refine WL.valW rfl rfl hd (fun a ha => ?_) (kk _ (M3.perm p2.symm))
 simp only [execOp, resolve, invoke, builtin, Sem.run_bind, Sem.run_pure, Result.andThen_ok, List.map_toArray, List.map_cons, List.map_nil, ha.eval hx, ha.eval hy, hr]
 rfl
end
theorem Mem.ownSome {w0 w : World} {L : List Asr} {e : TypeId} {size n cap : Nat} {A : Option Addr} {vs : List Value} (M : Mem w0 w L) (h : Has (Asr.own e size A n cap vs) L) (hn : 0 < n) : ∃ g, A = some ⟨g, 0, none⟩ := by
 obtain ⟨L', hd⟩ := h.del
 obtain ⟨_, h2⟩ := (M.del hd).head
 rcases h2 with ⟨_, h3, _⟩ | ⟨g, sp, h3, _⟩
 ·omega
 ·exact ⟨g, h3⟩
theorem cutA_lit {g o s cap : Nat} (h : o < cap) : cutA (some ⟨g, 0, none⟩) o s cap = some ⟨g, o * s, none⟩ := by
 unfold cutA
 rw [if_neg (by omega)]
 simp [add_lit]
abbrev waRow (g gd e h ga ca : Nat) (Al : Option Addr) (m cl n used : Nat) (dead : Bool) : Asr :=
 Asr.row g 131 [.pointer (some ⟨gd, 0, none⟩), .int .u64 (e : Int), .int .i64 (h : Int), .slice (some ⟨ga, 0, none⟩) (32 * h) ca, .slice Al m cl, .int .i64 (n : Int), .int .i64 (used : Int), .bool dead]
/-- A log as it lies. -/
structure WaX where
 g : Nat
 gd : Nat
 h : Nat
 ga : Nat
 ca : Nat
 Al : Option Addr
 cl : Nat
 xs : List OX
 s : Wl
def WaX.O (x : WaX) : Asr := Asr.star [waRow x.g x.gd x.s.epoch x.h x.ga x.ca x.Al x.xs.length x.cl x.s.n (usedW x.s) x.s.dead, Asr.own 5 1 (some ⟨x.ga, 0, none⟩) (areaB x.h x.s.l).length x.ca (bs (areaB x.h x.s.l)), Asr.lst oxE x.Al x.cl x.xs, Asr.star (x.xs.map OX.O)]
structure WaX.ok (x : WaX) : Prop where
 s : x.s.ok x.h
 xs : x.xs.map OX.l = x.s.l
section
variable {g gd e h ga ca m cl n used : Nat} {Al : Option Addr} {dead : Bool} (w0 w : World) (L L' : List Asr)
theorem walFirst_ok {ro : List Value} (M : Mem w0 w L) (hh : Has (Asr.row g 131 ro) L) (h2 : ro[2]? = some (.int .i64 (h : Int))) (hb : h ≤ 100000) (e : Nat) (he : e < 18446744073709551616) : Fn Tryz.prog 50 [.pointer (some ⟨g, 0, none⟩), .int .u64 (e : Int)] w fun v w' => v = .int .i64 (firstN h e : Int) ∧ w' = w := by
 have hmul : e % 2 * h ≤ 1 * 100000 := Nat.mul_le_mul (by omega) hb
 refine Fn.enter Tryz.func50 rfl Tryz.ntmps50 rfl (W.sub [(0, _), (1, _)] (.cons rfl (.cons rfl .nil)) (W.seq (W.region (WL.assign rfl rfl (WL.nil (WX.next (W.sub [(0, _), (1, _)] (.cons rfl (.cons rfl .nil)) (W.seq (W.region (WL.move rfl rfl (WL.rem rfl rfl (by omega) (remN (by omega)) rfl ?_)))))))))))
 refine WL.conv Tryz.underlying47 Tryz.underlying3 rfl (by first | exact wI64 (by omega) | rfl) rfl ?_
 refine WL.move rfl rfl (WL.nilCheck rfl rfl (WL.fieldR (off := 2) Tryz.underlying131 rfl rfl Tryz.sizeOf3 rfl rfl rfl ?_))
 refine WL.load Tryz.isAgg3 rfl ((M.cellH hh 2).trans h2) rfl ?_
 refine WL.mul rfl rfl (show IntKind.i64.wrap ((e : Int) % 2 * (h : Int)) = ((e % 2 * h : Nat) : Int) by rw [show (e : Int) % 2 * (h : Int) = ((e % 2 * h : Nat) : Int) by push_cast; rfl]; exact wI64 (by omega)) rfl ?_
 refine WL.add rfl rfl (by first | exact wI64 (by omega) | rfl) rfl ?_
 refine WL.assign rfl rfl (WL.nil (WX.next (W.sub [(4, _)] (.cons rfl .nil) (W.ret (WX.ret1 rfl rfl ?_)))))
 exact ⟨by unfold firstN; push_cast; rfl, rfl⟩
theorem walReady_ok (k : DkX) (M : Mem w0 w L) (hd : Del (waRow g k.g e h ga ca Al m cl n used dead) L L') (hk : Has k.O L') : Fn Tryz.prog 53 [.pointer (some ⟨g, 0, none⟩)] w fun v w' => v = .int .i64 (if dead || k.d.down then 6 else 0) ∧ Mem w0 w' (waRow g k.g e h ga ca Al m cl n used (dead || k.d.down) :: L') := by
 have M1 := M.del hd
 clear M
 have M := M1
 refine Fn.enter Tryz.func53 rfl Tryz.ntmps53 rfl (W.sub [(0, _)] (.cons rfl .nil) (W.seq (W.region (WL.assign rfl rfl (WL.nil (WX.next (W.sub [(0, _)] (.cons rfl .nil) (W.seq (W.block (W.seq (W.region (WL.move rfl rfl (WL.eqNilF Tryz.underlying76 rfl rfl rfl (WL.assign rfl rfl (WL.nil (WX.next (W.sub [(0, _), (3, _)] (.cons rfl (.cons rfl .nil)) (W.condF rfl (W.seq (W.region (WL.move rfl rfl (WL.nilCheck rfl rfl (WL.fieldR (off := 7) Tryz.underlying131 rfl rfl Tryz.sizeOf4 rfl rfl rfl ?_)))))))))))))))))))))))
 refine WL.loadR Tryz.isAgg4 rfl M Has.a rfl rfl (WL.moveIfB rfl rfl (fun c1 => ?_) (fun c1 => ?_))
 ·refine WL.off rfl rfl rfl rfl (WL.off rfl rfl rfl rfl (WL.off rfl rfl rfl rfl (WL.off rfl rfl rfl rfl (WL.off rfl rfl rfl rfl (WL.off rfl rfl rfl rfl (WL.pickT rfl rfl rfl (WL.assign rfl rfl (WL.nil (WX.next (W.sub [(0, _), (6, _)] (.cons rfl (.cons rfl .nil)) (W.condT rfl (W.seq (W.region (WL.move rfl rfl (WL.nilCheck rfl rfl (WL.fieldR (off := 7) Tryz.underlying131 rfl rfl Tryz.sizeOf4 rfl rfl rfl ?_))))))))))))))))
  refine WL.storeR Tryz.sizeOf4 rfl rfl rfl M Has.a (by repeat (first | exact SetAt.zero | apply SetAt.succ)) Upd.a ?_
  intro w M
  refine WL.nil (WX.next (W.sub [] .nil (W.seq (W.region (WL.assign rfl rfl (WL.nil (WX.next (W.sub [(2, _)] (.cons rfl .nil) (W.ret (WX.blockRet (WX.thenRet (WX.ret1 rfl rfl ?_))))))))))))
  rw [c1]
  exact ⟨rfl, M.sel Sel.a⟩
 ·refine WL.on rfl rfl (WL.move rfl rfl (WL.on rfl rfl (WL.nilCheck rfl rfl (WL.on rfl rfl (WL.fieldR (off := 0) Tryz.underlying131 rfl rfl Tryz.sizeOf28 rfl rfl rfl ?_)))))
  refine WL.on rfl rfl (WL.loadR Tryz.isAgg28 rfl M Has.a rfl rfl (WL.on rfl rfl (WL.call Tryz.call47 rfl (diskUp_ok k w0 w _ M (.there hk)) rfl ?_)))
  rintro _ _ ⟨rfl, rfl⟩
  refine WL.on rfl rfl (WL.not rfl rfl (WL.pickF rfl rfl rfl (WL.assign rfl rfl (WL.nil (WX.next (W.sub [(0, _), (6, _)] (.cons rfl (.cons rfl .nil)) (W.cond rfl (fun c2 => ?_) (fun c2 => ?_))))))))
  ·(try simp only [Bool.not_eq_true'] at c2); (try simp only [Bool.not_eq_false'] at c2); (try simp only [decide_eq_true_eq] at c2); (try simp only [decide_eq_false_iff_not] at c2)
   refine W.seq (W.region (WL.move rfl rfl (WL.nilCheck rfl rfl (WL.fieldR (off := 7) Tryz.underlying131 rfl rfl Tryz.sizeOf4 rfl rfl rfl ?_))))
   refine WL.storeR Tryz.sizeOf4 rfl rfl rfl M Has.a (by repeat (first | exact SetAt.zero | apply SetAt.succ)) Upd.a ?_
   intro w M
   refine WL.nil (WX.next (W.sub [] .nil (W.seq (W.region (WL.assign rfl rfl (WL.nil (WX.next (W.sub [(2, _)] (.cons rfl .nil) (W.ret (WX.blockRet (WX.thenRet (WX.ret1 rfl rfl ?_))))))))))))
   have hdn : k.d.down = true := by simpa using c2
   rw [hdn, Bool.or_true]
   exact ⟨rfl, M.sel Sel.a⟩
  ·(try simp only [Bool.not_eq_true'] at c2); (try simp only [Bool.not_eq_false'] at c2); (try simp only [decide_eq_true_eq] at c2); (try simp only [decide_eq_false_iff_not] at c2)
   refine W.skip (WX.blockNormal (WX.next (W.seq (W.region (WL.assign rfl rfl (WL.nil (WX.next (W.sub [(2, _)] (.cons rfl .nil) (W.ret (WX.ret1 rfl rfl ?_))))))))))
   have hdn : k.d.down = false := by simpa using c2
   have hdd : dead = false := by simpa using c1
   rw [hdn, hdd]
   rw [hdd] at M
   exact ⟨rfl, M.sel Sel.a⟩
theorem walFails_ok (er : Nat) (M : Mem w0 w L) (hd : Del (waRow g gd e h ga ca Al m cl n used dead) L L') : Fn Tryz.prog 109 [.pointer (some ⟨g, 0, none⟩), .int .i64 (er : Int)] w fun v w' => v = .int .i64 (er : Int) ∧ Mem w0 w' (waRow g gd e h ga ca Al m cl n used (dead || decide (er ≠ 0)) :: L') := by
 have M1 := M.del hd
 clear M
 have M := M1
 refine Fn.enter Tryz.func109 rfl Tryz.ntmps109 rfl (W.sub [(0, _), (1, _)] (.cons rfl (.cons rfl .nil)) (W.seq (W.region (WL.assign rfl rfl (WL.nil (WX.next (W.sub [(0, _), (1, _)] (.cons rfl (.cons rfl .nil)) (W.seq (W.region (WL.move rfl rfl (WL.move rfl rfl (WL.nilCheck rfl rfl (WL.fieldR (off := 7) Tryz.underlying131 rfl rfl Tryz.sizeOf4 rfl rfl rfl ?_)))))))))))))
 refine WL.loadR Tryz.isAgg4 rfl M Has.a rfl rfl (WL.moveIfB rfl rfl (fun c0 => ?_) (fun c0 => ?_))
 ·refine WL.off rfl rfl rfl rfl (WL.off rfl rfl rfl rfl (WL.pickT rfl rfl rfl (WL.nilCheck rfl rfl (WL.fieldR (off := 7) Tryz.underlying131 rfl rfl Tryz.sizeOf4 rfl rfl rfl ?_))))
  refine WL.storeR Tryz.sizeOf4 rfl rfl rfl M Has.a (by repeat (first | exact SetAt.zero | apply SetAt.succ)) Upd.a ?_
  intro w M
  refine WL.nil (WX.next (W.sub [(1, _)] (.cons rfl .nil) (W.seq (W.region (WL.move rfl rfl (WL.assign rfl rfl (WL.nil (WX.next (W.sub [(4, _)] (.cons rfl .nil) (W.ret (WX.ret1 rfl rfl ?_)))))))))))
  rw [c0, Bool.true_or]
  exact ⟨rfl, M.sel Sel.a⟩
 ·refine WL.on rfl rfl (WL.move rfl rfl (WL.on rfl rfl (WL.neI rfl rfl rfl (WL.pickF rfl rfl rfl (WL.nilCheck rfl rfl (WL.fieldR (off := 7) Tryz.underlying131 rfl rfl Tryz.sizeOf4 rfl rfl rfl ?_))))))
  refine WL.storeR Tryz.sizeOf4 rfl rfl rfl M Has.a (by repeat (first | exact SetAt.zero | apply SetAt.succ)) Upd.a ?_
  intro w M
  refine WL.nil (WX.next (W.sub [(1, _)] (.cons rfl .nil) (W.seq (W.region (WL.move rfl rfl (WL.assign rfl rfl (WL.nil (WX.next (W.sub [(4, _)] (.cons rfl .nil) (W.ret (WX.ret1 rfl rfl ?_)))))))))))
  have hdd : dead = false := by simpa using c0
  have e1 : decide ((er : Int) ≠ 0) = decide (er ≠ 0) := by rw [decide_eq_decide]; omega
  rw [hdd, Bool.false_or, ← e1]
  exact ⟨rfl, M.sel Sel.a⟩
theorem walRoom_ok (k : DkX) (hu : used ≤ 32 * h) (hh : h ≤ 100000) (hdn : k.d.down = false) (M : Mem w0 w L) (hd : Del (waRow g k.g e h ga ca Al m cl n used false) L L') (hk : Has k.O L') : Fn Tryz.prog 108 [.pointer (some ⟨g, 0, none⟩)] w fun v w' => v = .int .i64 ((32 * h - used : Nat) : Int) ∧ Mem w0 w' (waRow g k.g e h ga ca Al m cl n used false :: L') := by
 refine Fn.enter Tryz.func108 rfl Tryz.ntmps108 rfl (W.sub [(0, _)] (.cons rfl .nil) (W.seq (W.region (WL.assign rfl rfl (WL.nil (WX.next (W.sub [(0, _)] (.cons rfl .nil) (W.seq (W.seq (W.region (WL.move rfl rfl (WL.call Tryz.call53 rfl (walReady_ok w0 w _ _ k M hd hk) rfl ?_))))))))))))
 rintro _ w ⟨rfl, M⟩
 rw [hdn] at M ⊢
 refine WL.neI rfl rfl rfl (WL.nil (WX.next (W.sub [(0, _), (5, _)] (.cons rfl (.cons rfl .nil)) (W.ite rfl (fun c0 => ?_) (fun c0 => ?_)))))
 ·exact absurd c0 (by simp)
 ·refine W.skip (WX.next (W.seq (W.drawM ([waRow g k.g e h ga ca Al m cl n used false]) (by kernel_rfl) (fun j => [3, 4, 8].contains j) M Sel.a ?_)))
  clear M; intro M
  apply DG.pure_ [0, 1, 2, 5, 6, 7] 5 rfl (by kernel_rfl) (by kernel_rfl)
  ·intro w
   refine WL.move rfl rfl (WL.nilCheck rfl rfl (WL.fieldR (off := 3) Tryz.underlying131 rfl rfl Tryz.sizeOf84 rfl rfl rfl ?_))
   refine WL.move rfl rfl (WL.nilCheck rfl rfl (WL.fieldR (off := 6) Tryz.underlying131 rfl rfl Tryz.sizeOf3 rfl rfl rfl ?_))
   exact Chain.end_ rfl
  apply DG.take [3, 4, 8, 9, 10] 0 rfl (by kernel_rfl) (by kernel_rfl) (M.sel Sel.a)
  ·intro w M
   refine WL.loadR Tryz.isAgg84 rfl M Has.a rfl rfl (WL.len Tryz.underlying84 rfl rfl (WL.loadR Tryz.isAgg3 rfl M Has.a rfl rfl (WL.sub' rfl rfl (by first | exact wI64 (by omega) | rfl) rfl ?_)))
   refine WL.assign rfl rfl ?_
   exact Chain.end_ rfl
  refine DG.end_ (by kernel_rfl) ?_
  refine WX.next (W.sub [(2, _)] (.cons rfl .nil) (W.ret (WX.ret1 rfl rfl ?_)))
  exact ⟨by congr 1; push_cast; omega, M.sel Sel.a⟩
theorem walFull_ok {A : Option Addr} {cap : Nat} {xs : List OX} (hr : RdL w0 oxE A cap xs) (hl : xs.length ≤ 1000000) (hx : ∀ x ∈ xs, x.l.length ≤ 1000000) (p : Value) : Fn Tryz.prog 128 [p, .slice A xs.length cap] w0 fun v w' => v = .int .i64 (if ∃ x ∈ xs.map OX.l, 1024 < x.length then 3 else 5) ∧ Mem w0 w' [] := by
 have M := Mem.refl w0
 obtain ⟨w, hw⟩ : ∃ w, w = w0 := ⟨w0, rfl⟩
 refine Fn.enter Tryz.func128 rfl Tryz.ntmps128 rfl (W.sub [(0, _), (1, _)] (.cons rfl (.cons rfl .nil)) (W.seq (W.region (WL.assign rfl rfl (WL.nil (WX.next (W.sub [(1, _)] (.cons rfl .nil) (W.seq (W.seq (W.region (WL.move rfl rfl (WL.len Tryz.underlying82 rfl rfl (WL.move rfl rfl (WL.nil (WX.next (W.sub [(7, _), (8, _), (9, _)] (.cons rfl (.cons rfl (.cons rfl .nil))) (W.block (W.loop (ι := Nat) (fun i => [(7, .slice A xs.length cap), (8, .int .i64 (xs.length : Int)), (9, .int .i64 (i : Int))]) (fun zz w => Mem w0 w ((fun _ => []) zz) ∧ (fun i => i ≤ xs.length ∧ ∀ j, j < i → ¬ 1024 < (el xs j).l.length) zz) (fun i => xs.length - i) (0) envSub.sf ⟨M.sel Sel.a, ⟨Nat.zero_le _, fun j hj => absurd hj (Nat.not_lt_zero _)⟩⟩ ?_))))))))))))))))))
 clear M; rintro (i) w ⟨M, ⟨hi, hs⟩⟩; dsimp only at M hi hs ⊢
 refine W.sub [(7, _), (8, _), (9, _)] (.cons rfl (.cons rfl (.cons rfl .nil))) (W.seq (W.region (WL.lss rfl rfl rfl (WL.nil (WX.next (W.sub [(7, _), (8, _), (9, _), (10, _)] (.cons rfl (.cons rfl (.cons rfl (.cons rfl .nil)))) (W.seq (W.ite rfl (fun c0 => ?_) (fun c0 => ?_)))))))))
 ·have hil : i < xs.length := by omega
  have hxl := hx _ (el_mem hil)
  refine W.skip (WX.next (W.seq (W.block (W.seq (W.region (WL.idxA Tryz.underlying82 Tryz.sizeOf84 rfl rfl (RdL.isSome (E := oxE) (by first | with_reducible assumption | with_reducible exact RdL.mem (by with_reducible assumption) M | exact M.rdL Has.a | exact RdLH.at (by assumption) (M.sel Sel.a) | exact RdL.nil _ _ _) (by omega)) (by omega) (by omega) (by first | exact rfl | exact (Int.toNat_of_nonneg (by omega)).symm) rfl ?_))))))
  refine WL.loadE0 (E := oxE) Tryz.isAgg84 rfl (by first | with_reducible assumption | with_reducible exact RdL.mem (by with_reducible assumption) M | exact M.rdL Has.a | exact RdLH.at (by assumption) (M.sel Sel.a) | exact RdL.nil _ _ _) (by omega) rfl rfl ?_
  refine WL.assign rfl rfl (WL.nil (WX.next (W.sub [(6, _), (7, _), (8, _), (9, _)] (.cons rfl (.cons rfl (.cons rfl (.cons rfl .nil)))) (W.seq (W.region (WL.move rfl rfl (WL.len Tryz.underlying84 rfl rfl (WL.gtr rfl rfl rfl (WL.nil (WX.next (W.sub [(7, _), (8, _), (9, _), (15, _)] (.cons rfl (.cons rfl (.cons rfl (.cons rfl .nil)))) (W.ite rfl (fun c1 => ?_) (fun c1 => ?_)))))))))))))
  ·refine W.seq (W.region (WL.assign rfl rfl (WL.nil (WX.next (W.sub [(4, _)] (.cons rfl .nil) (W.ret (WX.blockRet (WX.thenRet (WX.thenRet (WX.blockRet (WX.thenRet (WX.ret1 rfl rfl ?_))))))))))))
   rw [if_pos ⟨(el xs i).l, List.mem_map.2 ⟨_, el_mem hil, rfl⟩, by omega⟩]
   exact ⟨rfl, M⟩
  ·refine W.skip (WX.blockNormal (WX.next (W.region (WL.add rfl rfl (by first | exact wI64 (by omega) | rfl) rfl ?_))))
   refine WL.move rfl rfl (WL.nil ?_)
   skip
   have q : ∀ j, j < i + 1 → ¬ 1024 < (el xs j).l.length := by
    intro j hj
    rcases Nat.lt_or_ge j i with h1 | h1
    ·exact hs j h1
    ·obtain rfl : j = i := by omega
     omega
   refine WX.round (i + 1) envSub.sf ⟨M.sel Sel.a, ⟨by omega, q⟩⟩ (by first | omega | (dsimp only; omega))
 ·refine W.exit (WX.thenExit (WX.thenExit (WX.blockHere (WX.next (W.seq (W.region (WL.assign rfl rfl (WL.nil (WX.next (W.sub [(4, _)] (.cons rfl .nil) (W.ret (WX.ret1 rfl rfl ?_))))))))))))
  obtain rfl : i = xs.length := by omega
  rw [if_neg (by
   rintro ⟨y, hy, hlt⟩
   obtain ⟨z, hz, rfl⟩ := List.mem_map.1 hy
   obtain ⟨j, hj, e⟩ := List.getElem_of_mem hz
   have := hs j hj
   rw [show el xs j = z by rw [← e]; simp [el, hj]] at this
   exact this hlt)]
  exact ⟨rfl, M⟩
end
end Go.Proofs.YtlminileigfkcaaGreat
namespace Go.Proofs.YtlminileigfkcaaGreat
open Go Go.RowKit Crc Bin
set_option maxHeartbeats 1000000 in
theorem walEach_ok {σ : Type} (f : FuncId) (cs : Array Value) (step : Nat → σ → Nat × σ) (Q : Nat → σ → World → Prop) {g ga h ca from_ to K : Nat} (hcall : ∀ (args : Array Value) (w : World), (callFunc f args).run Tryz.prog w = .ok (.enter f args) w)
 (hK : from_ / 32 + K = (to + 31) / 32) (hto : to ≤ 32 * h) (hh : h ≤ 100000) (hca : 32 * h ≤ ca)
 (harea : ∀ i s w, Q i s w → w.cell? ⟨g, 3, none⟩ = some (.slice (some ⟨ga, 0, none⟩) (32 * h) ca))
 (hdo : ∀ i s w, from_ / 32 ≤ i → i < h → Q i s w → Fn Tryz.prog f ([.int .i64 (i : Int), .slice (some ⟨ga, i * 32, none⟩) 32 (ca - i * 32)] ++ cs.toList) w fun v w' => v = .int .i64 ((step i s).1 : Int) ∧ Q (i + 1) (step i s).2 w')
 (s0 : σ) (w : World) (h0 : Q (from_ / 32) s0 w) :
 Fn Tryz.prog 87 [.pointer (some ⟨g, 0, none⟩), .int .i64 (from_ : Int), .int .i64 (to : Int), .func (.func f) #[] cs] w fun v w' => v = .int .i64 ((eachN step K (from_ / 32) s0).1 : Int) ∧ ∃ i, (i ≤ h ∧ ((eachN step K (from_ / 32) s0).1 = 0 → i = from_ / 32 + K)) ∧ Q i (eachN step K (from_ / 32) s0).2 w' := by
 refine Fn.enter Tryz.func87 rfl Tryz.ntmps87 rfl (W.sub [(0, _), (1, _), (2, _), (3, _)] (.cons rfl (.cons rfl (.cons rfl (.cons rfl .nil)))) (W.seq (W.region (WL.assign rfl rfl (WL.nil (WX.next (W.sub [(0, _), (1, _), (2, _), (3, _)] (.cons rfl (.cons rfl (.cons rfl (.cons rfl .nil)))) (W.seq (W.seq (W.region (WL.move rfl rfl (WL.quo rfl rfl (by omega) (quoI64 (by omega)) rfl ?_))))))))))))
 refine WL.assign rfl rfl (WL.nil (WX.next (W.sub [(0, _), (2, _), (3, _), (9, _)] (.cons rfl (.cons rfl (.cons rfl (.cons rfl .nil)))) (W.block (W.loop (ι := Nat × σ) (fun z => [(0, .pointer (some ⟨g, 0, none⟩)), (2, .int .i64 (to : Int)), (3, .func (.func f) #[] cs), (9, .int .i64 ((from_ / 32 + z.1 : Nat) : Int))]) (fun z w' => (z.1 ≤ K ∧ eachN step (K - z.1) (from_ / 32 + z.1) z.2 = eachN step K (from_ / 32) s0) ∧ Q (from_ / 32 + z.1) z.2 w') (fun z => K - z.1) ((0, s0)) envSub.sf ⟨⟨Nat.zero_le _, rfl⟩, h0⟩ ?_)))))
 rintro ⟨j, s⟩ w ⟨⟨hj, he⟩, hq⟩; dsimp only at hj he hq ⊢
 refine W.sub [(0, _), (2, _), (3, _), (9, _)] (.cons rfl (.cons rfl (.cons rfl (.cons rfl .nil)))) (W.seq (W.seq (W.region (WL.move rfl rfl (WL.mul rfl rfl (by first | exact wI64 (by omega) | rfl) rfl ?_)))))
 refine WL.move rfl rfl (WL.lss rfl rfl rfl (WL.nil (WX.next (W.sub [(0, _), (2, _), (3, _), (9, _), (16, _)] (.cons rfl (.cons rfl (.cons rfl (.cons rfl (.cons rfl .nil))))) (W.ite rfl (fun c0 => ?_) (fun c0 => ?_))))))
 ·have hjK : j < K := by omega
  have hih : from_ / 32 + j < h := by omega
  refine W.skip (WX.next (W.seq (W.block (W.seq (W.region (WL.move rfl rfl (WL.move rfl rfl (WL.move rfl rfl (WL.nilCheck rfl rfl (WL.fieldR (off := 3) Tryz.underlying131 rfl rfl Tryz.sizeOf84 rfl rfl rfl ?_))))))))))
  refine WL.load Tryz.isAgg84 rfl (harea _ s w hq) rfl (WL.move rfl rfl (WL.mul rfl rfl (by first | exact wI64 (by omega) | rfl) rfl ?_))
  refine WL.move rfl rfl (WL.add rfl rfl (by first | exact wI64 (by omega) | rfl) rfl ?_)
  refine WL.mul rfl rfl (by first | exact wI64 (by omega) | rfl) rfl ?_
  refine WL.cutLH (an := (from_ / 32 + j) * 32) (bn := (from_ / 32 + j + 1) * 32) (m' := 32) Tryz.underlying84 Tryz.sizeOf5 rfl rfl rfl (by omega) (by omega) (by omega) (by push_cast; rfl) (by push_cast; rfl) (by omega) rfl ?_
  rw [cutA_lit (by omega), Nat.mul_one]
  refine WL.callV hcall rfl rfl (hdo (from_ / 32 + j) s w (by omega) hih hq) rfl ?_
  rintro _ w ⟨rfl, hq⟩
  refine WL.assign rfl rfl (WL.nil (WX.next (W.sub [(0, _), (2, _), (3, _), (9, _), (10, _)] (.cons rfl (.cons rfl (.cons rfl (.cons rfl (.cons rfl .nil))))) (W.seq (W.region (WL.move rfl rfl (WL.neI rfl rfl rfl (WL.nil (WX.next (W.sub [(0, _), (2, _), (3, _), (9, _), (10, _), (33, _)] (.cons rfl (.cons rfl (.cons rfl (.cons rfl (.cons rfl (.cons rfl .nil)))))) (W.ite rfl (fun c1 => ?_) (fun c1 => ?_))))))))))))
  ·refine W.seq (W.region (WL.move rfl rfl (WL.assign rfl rfl (WL.nil (WX.next (W.sub [(8, _)] (.cons rfl .nil) (W.ret (WX.blockRet (WX.thenRet (WX.thenRet (WX.blockRet (WX.thenRet (WX.ret1 rfl rfl ?_)))))))))))))
   have e : eachN step K (from_ / 32) s0 = step (from_ / 32 + j) s := by
    rw [← he, show K - j = (K - j - 1) + 1 by omega, eachN, if_pos (by omega)]
   rw [e]
   exact ⟨rfl, _, ⟨hih, fun h0 => absurd h0 (by omega)⟩, hq⟩
  ·refine W.skip (WX.blockNormal (WX.next (W.region (WL.move rfl rfl (WL.add rfl rfl (by first | exact wI64 (by omega) | rfl) rfl ?_)))))
   refine WL.assign rfl rfl (WL.nil ?_)
   skip
   have e : eachN step (K - (j + 1)) (from_ / 32 + (j + 1)) (step (from_ / 32 + j) s).2 = eachN step K (from_ / 32) s0 := by
    rw [← he, show K - j = (K - (j + 1)) + 1 by omega, eachN, if_neg (by omega)]
    rfl
   refine WX.round ((j + 1, (step (from_ / 32 + j) s).2)) envSub.sf ⟨⟨by dsimp only; omega, e⟩, hq⟩ (by first | omega | (dsimp only; omega))
 ·refine W.exit (WX.thenExit (WX.thenExit (WX.blockHere (WX.next (W.seq (W.region (WL.assign rfl rfl (WL.nil (WX.next (W.sub [(8, _)] (.cons rfl .nil) (W.ret (WX.ret1 rfl rfl ?_))))))))))))
  obtain rfl : j = K := by omega
  rw [Nat.sub_self, eachN] at he
  rw [← he]
  exact ⟨rfl, _, ⟨by omega, fun _ => rfl⟩, hq⟩
/-- A sector of an area is written where the area lies. -/
theorem Dk.write_len (d : Dk) (a : Nat) (s : Sec) : (d.write a s).2.safe = d.safe := by
 unfold Dk.write
 split
 ·exact d.act_safe
 ·exact d.act_safe
theorem Dk.write_ok {d : Dk} (h : d.ok) {a : Nat} (s : Sec) (ha : a < d.safe.length) (hf : d.waits.length < 100000) : (d.write a s).2.ok := by
 have h1 := h.act
 unfold Dk.write
 split
 ·have hs := d.act_safe
  refine ⟨h1.pos, h1.len, fun p hp => ?_, h1.left, by dsimp only; rw [List.length_append]; simp; omega⟩
  dsimp only at hp ⊢
  rw [hs]
  rcases List.mem_append.1 hp with hp | hp
  ·exact h.at_ p hp
  ·obtain rfl : p = (a, s) := by simpa using hp
   exact ha
 ·exact h1
theorem Dk.write_few (d : Dk) (a : Nat) (s : Sec) : (d.write a s).2.waits.length ≤ d.waits.length + 1 := by
 unfold Dk.write
 split
 ·dsimp only; rw [List.length_append]; simp
 ·rw [d.act_waits]; omega
theorem append1_call : ∀ (args : Array Value) (w : World), (callFunc 110 args).run Tryz.prog w = .ok (.enter 110 args) w := Tryz.call110
theorem turn1_call : ∀ (args : Array Value) (w : World), (callFunc 143 args).run Tryz.prog w = .ok (.enter 143 args) w := Tryz.call143
theorem wipe1_call : ∀ (args : Array Value) (w : World), (callFunc 88 args).run Tryz.prog w = .ok (.enter 88 args) w := Tryz.call88
section
variable (k : DkX) (w0 w : World) (L L' : List Asr)
set_option maxRecDepth 10000 in
theorem append1_ok {g gb h e i cap : Nat} {A : Option Addr} {ro : List Value} (hok : k.d.ok) (s : Sec) (h0 : ro[0]? = some (.pointer (some ⟨k.g, 0, none⟩))) (h1 : ro[1]? = some (.int .u64 (e : Int))) (h2 : ro[2]? = some (.int .i64 (h : Int))) (hh : h ≤ 100000) (he : e < 18446744073709551616) (hat : firstN h e + i < k.d.safe.length)
 (M : Mem w0 w L) (hb : Has (Asr.row gb 76 [.pointer (some ⟨g, 0, none⟩)]) L) (hr : Has (Asr.row g 131 ro) L) (hd : Del k.O L L') (hs : RdH w0 L' A cap s.l) :
 Fn Tryz.prog 110 [.int .i64 (i : Int), .slice A 32 cap, .pointer (some ⟨gb, 0, none⟩)] w fun v w' => v = .int .i64 ((k.d.write (firstN h e + i) s).1 : Int) ∧ ∃ k' : DkX, k'.g = k.g ∧ k'.d = (k.d.write (firstN h e + i) s).2 ∧ Mem w0 w' (k'.O :: L') := by
 have hln := hok.len
 refine Fn.enter Tryz.func110 rfl Tryz.ntmps110 rfl (W.sub [(0, _), (1, _), (2, _)] (.cons rfl (.cons rfl (.cons rfl .nil))) (W.seq (W.region (WL.assign rfl rfl (WL.nil (WX.next (W.sub [(0, _), (1, _), (2, _)] (.cons rfl (.cons rfl (.cons rfl .nil))) (W.seq (W.drawM (L) (by kernel_rfl) (fun j => [0, 1, 2, 3, 4, 5, 6, 7, 8, 9, 11].contains j) M Sel.a ?_)))))))))
 clear M; intro M
 apply DG.pure_ [10, 12] 13 rfl (by kernel_rfl) (by kernel_rfl)
 ·intro w
  refine WL.move rfl rfl (WL.move rfl rfl ?_)
  exact Chain.end_ rfl
 apply DG.take [0, 1, 2, 3, 4, 5, 6, 7, 8] 4 rfl (by kernel_rfl) (by kernel_rfl) (M.sel Sel.a)
 ·intro w M
  refine WL.load Tryz.isAgg76 rfl (M.cellH hb 0) rfl (WL.nilCheck rfl rfl (WL.fieldR (off := 0) Tryz.underlying131 rfl rfl Tryz.sizeOf28 rfl rfl rfl ?_))
  refine WL.load Tryz.isAgg28 rfl ((M.cellH hr 0).trans h0) rfl (WL.load Tryz.isAgg76 rfl (M.cellH hb 0) rfl (WL.load Tryz.isAgg76 rfl (M.cellH hb 0) rfl (WL.nilCheck rfl rfl (WL.fieldR (off := 1) Tryz.underlying131 rfl rfl Tryz.sizeOf47 rfl rfl rfl ?_))))
  refine WL.load Tryz.isAgg47 rfl ((M.cellH hr 1).trans h1) rfl ?_
  exact Chain.end_ rfl
 refine DG.step 9 3 rfl (by kernel_rfl) ?_
 refine WL.call Tryz.call50 rfl (walFirst_ok _ _ _ M hr h2 hh e he) rfl ?_
 rintro _ _ ⟨rfl, rfl⟩
 refine DG.go (G := fun j => [0, 1, 2, 3, 4, 5, 6, 7, 8, 9, 11].contains j) (i := 9) (f' := 3) (done := [10, 12, 0, 1, 2, 3, 4, 5, 6, 7, 8]) (fun _ => M.sel Sel.a) ?_
 apply DG.take [11] 2 rfl (by kernel_rfl) (by kernel_rfl) (M.sel Sel.a)
 ·intro w M
  refine WL.add rfl rfl (by first | exact wI64 (by omega) | rfl) rfl ?_
  exact Chain.end_ rfl
 refine DG.step 13 1 rfl (by kernel_rfl) ?_
 rw [show (firstN h e : Int) + (i : Int) = ((firstN h e + i : Nat) : Int) by push_cast; rfl]
 refine WL.call Tryz.call89 rfl (diskWrite_ok k hok (firstN h e + i) hat s A cap w0 _ _ _ M hd hs) rfl ?_
 rintro _ w ⟨rfl, k', hg, hkd, M⟩
 refine DG.go (G := fun j => [0, 1, 2, 3, 4, 5, 6, 7, 8, 9, 11].contains j) (i := 13) (f' := 1) (done := [10, 12, 0, 1, 2, 3, 4, 5, 6, 7, 8, 9, 11]) (fun h => by cases h) ?_
 apply DG.pure_ [14] 0 rfl (by kernel_rfl) (by kernel_rfl)
 ·intro w
  refine WL.assign rfl rfl ?_
  exact Chain.end_ rfl
 refine DG.end_ (by kernel_rfl) ?_
 refine WX.next (W.sub [(5, _)] (.cons rfl .nil) (W.ret (WX.ret1 rfl rfl ?_)))
 exact ⟨rfl, k', hg, hkd, M⟩
set_option maxRecDepth 10000 in
theorem turn1_ok {g h e i cap : Nat} {A : Option Addr} {ro : List Value} (hok : k.d.ok) (s : Sec) (h0 : ro[0]? = some (.pointer (some ⟨k.g, 0, none⟩))) (h1 : ro[1]? = some (.int .u64 (e : Int))) (h2 : ro[2]? = some (.int .i64 (h : Int))) (hh : h ≤ 100000) (he : e < 18446744073709551616) (hat : firstN h e + i < k.d.safe.length)
 (M : Mem w0 w L) (hr : Has (Asr.row g 131 ro) L) (hd : Del k.O L L') (hs : RdH w0 L' A cap s.l) :
 Fn Tryz.prog 143 [.int .i64 (i : Int), .slice A 32 cap, .pointer (some ⟨g, 0, none⟩)] w fun v w' => v = .int .i64 ((k.d.write (firstN h e + i) s).1 : Int) ∧ ∃ k' : DkX, k'.g = k.g ∧ k'.d = (k.d.write (firstN h e + i) s).2 ∧ Mem w0 w' (k'.O :: L') := by
 have hln := hok.len
 refine Fn.enter Tryz.func143 rfl Tryz.ntmps143 rfl (W.sub [(0, _), (1, _), (2, _)] (.cons rfl (.cons rfl (.cons rfl .nil))) (W.seq (W.region (WL.assign rfl rfl (WL.nil (WX.next (W.sub [(0, _), (1, _), (2, _)] (.cons rfl (.cons rfl (.cons rfl .nil))) (W.seq (W.drawM (L) (by kernel_rfl) (fun j => [1, 3, 4, 6].contains j) M Sel.a ?_)))))))))
 clear M; intro M
 apply DG.pure_ [0, 2, 5, 7] 6 rfl (by kernel_rfl) (by kernel_rfl)
 ·intro w
  refine WL.fieldR (off := 0) Tryz.underlying131 rfl rfl Tryz.sizeOf28 rfl rfl rfl ?_
  refine WL.fieldR (off := 1) Tryz.underlying131 rfl rfl Tryz.sizeOf47 rfl rfl rfl ?_
  refine WL.move rfl rfl (WL.move rfl rfl ?_)
  exact Chain.end_ rfl
 apply DG.take [1, 3] 4 rfl (by kernel_rfl) (by kernel_rfl) (M.sel Sel.a)
 ·intro w M
  refine WL.load Tryz.isAgg28 rfl ((M.cellH hr 0).trans h0) rfl (WL.load Tryz.isAgg47 rfl ((M.cellH hr 1).trans h1) rfl ?_)
  exact Chain.end_ rfl
 refine DG.step 4 3 rfl (by kernel_rfl) ?_
 refine WL.call Tryz.call50 rfl (walFirst_ok _ _ _ M hr h2 hh e he) rfl ?_
 rintro _ _ ⟨rfl, rfl⟩
 refine DG.go (G := fun j => [1, 3, 4, 6].contains j) (i := 4) (f' := 3) (done := [0, 2, 5, 7, 1, 3]) (fun _ => M.sel Sel.a) ?_
 apply DG.take [6] 2 rfl (by kernel_rfl) (by kernel_rfl) (M.sel Sel.a)
 ·intro w M
  refine WL.add rfl rfl (by first | exact wI64 (by omega) | rfl) rfl ?_
  exact Chain.end_ rfl
 refine DG.step 8 1 rfl (by kernel_rfl) ?_
 rw [show (firstN h e : Int) + (i : Int) = ((firstN h e + i : Nat) : Int) by push_cast; rfl]
 refine WL.call Tryz.call89 rfl (diskWrite_ok k hok (firstN h e + i) hat s A cap w0 _ _ _ M hd hs) rfl ?_
 rintro _ w ⟨rfl, k', hg, hkd, M⟩
 refine DG.go (G := fun j => [1, 3, 4, 6].contains j) (i := 8) (f' := 1) (done := [0, 2, 5, 7, 1, 3, 4, 6]) (fun h => by cases h) ?_
 apply DG.pure_ [9] 0 rfl (by kernel_rfl) (by kernel_rfl)
 ·intro w
  refine WL.assign rfl rfl ?_
  exact Chain.end_ rfl
 refine DG.end_ (by kernel_rfl) ?_
 refine WX.next (W.sub [(5, _)] (.cons rfl .nil) (W.ret (WX.ret1 rfl rfl ?_)))
 exact ⟨rfl, k', hg, hkd, M⟩
end
end Go.Proofs.YtlminileigfkcaaGreat
