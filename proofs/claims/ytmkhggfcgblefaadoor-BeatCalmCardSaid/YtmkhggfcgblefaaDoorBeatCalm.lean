/-
  How calm it grows (seawalllaw14.BeatCalm).
-/
import Derived.Test.YtmkhggfcgblefaaDoorBeatView
import Derived.Test.YtmkhggfcgblefaaDoorBeatCalmLaw
namespace Go.Proofs.YtmkhggfcgblefaaDoor
open Go Go.RowKit Bin

set_option maxRecDepth 10000 in
set_option maxHeartbeats 4000000 in
theorem BeatCalm_ok {A : Option Addr} {cap : Nat} {sites : List Int} {A3 : Option Addr} {cap3 : Nat} {bt : List Int} (me pat ticks : Int) (w0 : World) (ht : Tab w0) (hq : ∀ z ∈ sites, -9223372036854775808 ≤ z ∧ z ≤ 9223372036854775807) (h : RdL w0 intE A cap sites) (h3 : RdL w0 intE A3 cap3 bt) :
    Fn Tryd.prog 7 [.slice A sites.length cap, .int .i64 me, .int .i64 pat, .slice A3 bt.length cap3, .int .i64 ticks] w0 fun v w' => v = .bool true ∧ Mem w0 w' [] := by
  have M := Mem.refl w0
  obtain ⟨w, hw⟩ : ∃ w, w = w0 := ⟨w0, rfl⟩
  refine Fn.enter Tryd.func7 rfl Tryd.ntmps7 rfl ?_
  refine W.sub [(0, _), (1, _), (2, _), (3, _), (4, _)] (.cons rfl (.cons rfl (.cons rfl (.cons rfl (.cons rfl .nil))))) ?_
  refine W.seq ?_
  refine W.region ?_
  refine WL.assign rfl rfl ?_
  refine WL.nil ?_
  refine WX.next ?_
  refine W.sub [(0, _), (1, _), (2, _), (3, _), (4, _)] (.cons rfl (.cons rfl (.cons rfl (.cons rfl (.cons rfl .nil))))) ?_
  refine W.seq ?_
  refine W.region ?_
  refine WL.move rfl rfl ?_
  refine WL.move rfl rfl ?_
  refine WL.move rfl rfl ?_
  refine WL.call Tryd.call27 rfl (view_ok hq me pat (h.mem M)) rfl ?_
  rintro _ w ⟨a, rfl, m⟩
  have M2 : Mem w0 w (bvL a (viewV sites me pat) ++ []) := (M.callN m).sel (by first | ((repeat (first | with_reducible exact Sel.refl | with_reducible exact Sel.nil | with_reducible exact Del.here | with_reducible apply Del.there | with_reducible apply Sel.cons | with_reducible apply Sel.drop)); done) | (repeat (first | exact Sel.refl | exact Sel.nil | exact Del.here | apply Del.there | apply Sel.cons | apply Sel.drop)))
  replace M := M2
  have okV := view_okV sites me pat
  have hVp : (viewV sites me pat).pat = 1 + pat % 18446744073709551616 % 9 := rfl
  have hVc : (viewV sites me pat).calm = 0 := rfl
  obtain ⟨V, hV⟩ : ∃ V, viewV sites me pat = V := ⟨_, rfl⟩
  rw [hV] at M okV hVp hVc
  refine WL.assign rfl rfl ?_
  refine WL.nil ?_
  refine WX.next ?_
  refine W.sub [(2, _), (3, _), (4, _), (11, _)] (.cons rfl (.cons rfl (.cons rfl (.cons rfl .nil)))) ?_
  refine W.seq ?_
  refine W.seq ?_
  refine W.region ?_
  refine WL.move rfl rfl ?_
  refine WL.eqNilF Tryd.underlying24 rfl rfl rfl ?_
  refine WL.nil ?_
  refine WX.next ?_
  refine W.sub [(2, _), (3, _), (4, _), (11, _), (27, _)] (.cons rfl (.cons rfl (.cons rfl (.cons rfl (.cons rfl .nil))))) ?_
  refine W.condF rfl ?_
  refine W.skip ?_
  refine WX.next ?_
  refine W.seq ?_
  refine W.region ?_
  refine WL.move rfl rfl ?_
  refine WL.conv Tryd.underlying3 Tryd.underlying39 rfl (by first | exact wU64 (by omega) | exact mU64 _ | rfl) rfl ?_
  refine WL.rem rfl rfl (by omega) (remN (by omega)) rfl ?_
  refine WL.conv Tryd.underlying39 Tryd.underlying3 rfl (by first | exact wI64 (by omega) | rfl) rfl ?_
  refine WL.add rfl rfl (by first | exact wI64 (by omega) | rfl) rfl ?_
  refine WL.assign rfl rfl ?_
  refine WL.nil ?_
  refine WX.next ?_
  refine W.sub [(3, _), (4, _), (11, _), (12, _)] (.cons rfl (.cons rfl (.cons rfl (.cons rfl .nil)))) ?_
  refine W.seq ?_
  refine W.seq ?_
  obtain ⟨n, hn, hn1, hn9⟩ : ∃ n : Int, n = 1 + pat % 18446744073709551616 % 9 ∧ 1 ≤ n ∧ n ≤ 9 := ⟨_, rfl, by omega, by omega⟩
  rw [← hn] at hVp ⊢
  have hZ := Clm.zero okV (bt.take 30) hVc
  rw [hVp] at hZ
  refine W.region ?_
  refine WL.move rfl rfl ?_
  refine WL.lss rfl rfl rfl ?_
  refine WL.nil ?_
  refine WX.next ?_
  refine W.sub [(3, _), (4, _), (11, _), (12, _), (34, _)] (.cons rfl (.cons rfl (.cons rfl (.cons rfl (.cons rfl .nil))))) ?_
  refine W.ite rfl (fun c1 => ?_) (fun c1 => ?_)
  · refine W.seq ?_
    refine W.region ?_
    refine WL.call Tryd.call10 rfl (known14_ok _ (ht.mem M)) rfl ?_
    rintro _ w ⟨rfl, m⟩
    replace M := M.call0 m; clear m
    refine WL.assign rfl rfl ?_
    refine WL.nil ?_
    refine WX.next ?_
    refine W.sub [(10, _)] (.cons rfl .nil) ?_
    refine W.ret ?_
    refine WX.thenRet ?_
    refine WX.ret1 rfl rfl ?_
    exact ⟨by simp, M.sel (.nil)⟩
  · refine W.skip ?_
    refine WX.next ?_
    refine W.seq ?_
    refine W.region ?_
    refine WL.move rfl rfl ?_
    refine WL.conv Tryd.underlying3 Tryd.underlying39 rfl (by first | exact wU64 (by omega) | exact mU64 _ | rfl) rfl ?_
    refine WL.rem rfl rfl (by omega) (remN (by omega)) rfl ?_
    refine WL.conv Tryd.underlying39 Tryd.underlying3 rfl (by first | exact wI64 (by omega) | rfl) rfl ?_
    refine WL.assign rfl rfl ?_
    refine WL.nil ?_
    refine WX.next ?_
    refine W.sub [(3, _), (11, _), (12, _), (13, _)] (.cons rfl (.cons rfl (.cons rfl (.cons rfl .nil)))) ?_
    refine W.seq ?_
    obtain ⟨kt, hkt, hkt0, hkt30⟩ : ∃ k : Int, k = ticks % 18446744073709551616 % 30 ∧ 0 ≤ k ∧ k ≤ 29 := ⟨_, rfl, by omega, by omega⟩
    rw [← hkt]
    refine W.region ?_
    refine WL.assign rfl rfl ?_
    refine WL.nil ?_
    refine WX.next ?_
    refine W.sub [(3, _), (11, _), (12, _), (13, _), (14, _)] (.cons rfl (.cons rfl (.cons rfl (.cons rfl (.cons rfl .nil))))) ?_
    refine W.seq ?_
    refine W.region ?_
    refine WL.assign rfl rfl ?_
    refine WL.nil ?_
    refine WX.next ?_
    refine W.sub [(3, _), (11, _), (12, _), (13, _), (14, _), (15, _)] (.cons rfl (.cons rfl (.cons rfl (.cons rfl (.cons rfl (.cons rfl .nil)))))) ?_
    refine W.seq ?_
    refine W.region ?_
    refine WL.assign rfl rfl ?_
    refine WL.nil ?_
    refine WX.next ?_
    refine W.sub [(3, _), (11, _), (12, _), (13, _), (14, _), (15, _), (16, _)] (.cons rfl (.cons rfl (.cons rfl (.cons rfl (.cons rfl (.cons rfl (.cons rfl .nil))))))) ?_
    refine W.seq ?_
    refine W.seq ?_
    refine W.region ?_
    refine WL.assign rfl rfl ?_
    refine WL.nil ?_
    refine WX.next ?_
    refine W.sub [(3, _), (11, _), (12, _), (13, _), (14, _), (15, _), (16, _), (17, _)] (.cons rfl (.cons rfl (.cons rfl (.cons rfl (.cons rfl (.cons rfl (.cons rfl (.cons rfl .nil)))))))) ?_
    refine W.block ?_
    refine W.loop (ι := Nat × Bv × Nat × Int × Int) (fun z => [(3, .slice A3 bt.length cap3), (11, .pointer (some ⟨a.g, 0, none⟩)), (12, .int .i64 n), (13, .int .i64 kt), (14, .int .u32 (z.2.2.1 : Int)), (15, .int .i64 z.2.2.2.1), (16, .int .i64 z.2.2.2.2), (17, .int .i64 (z.1 : Int))]) (fun zz w => Mem w0 w ((fun z => bvL a z.2.1 ++ []) zz) ∧ (fun z => (z.1 : Int) ≤ n + kt + 1 ∧ Clm V.sites V.me n (bt.take 30) z.1 z.2.1 ∧ (n < (z.1 : Int) → z.2.2.1 = upN z.2.1 ∧ z.2.2.2.1 = el (ordS z.2.1 0) 0 ∧ z.2.2.2.2 + ((z.1 : Int) - 1 - n) = z.2.1.calm) ∧ 0 ≤ z.2.2.2.2 ∧ z.2.2.2.2 ≤ 1000) zz) (fun z => 40 - z.1) ((0, V, 0, 0, 0)) (by (repeat' (first | exact envSub.nil | refine envSub.cons ?_ ?_)) <;> first | rfl | (refine congrArg some ?_; refine congrArg (Value.int _) ?_; first | omega | (dsimp only; omega)) | (simp; done) | (refine congrArg some ?_; dsimp only; congr 1; omega) | (simp; omega)) ⟨M.sel (by first | ((repeat (first | with_reducible exact Sel.refl | with_reducible exact Sel.nil | with_reducible exact Del.here | with_reducible apply Del.there | with_reducible apply Sel.cons | with_reducible apply Sel.drop)); done) | (repeat (first | exact Sel.refl | exact Sel.nil | exact Del.here | apply Del.there | apply Sel.cons | apply Sel.drop))), ⟨by dsimp only; omega, hZ, fun e => absurd e (by dsimp only; omega), by dsimp only; omega, by dsimp only; omega⟩⟩ ?_
    clear M; rintro (⟨i, s, up, leader, calm⟩) w ⟨M, ⟨hi, g, hu, hc0, hc1⟩⟩; dsimp only at M hi g hu hc0 hc1 ⊢
    refine W.sub [(3, _), (11, _), (12, _), (13, _), (14, _), (15, _), (16, _), (17, _)] (.cons rfl (.cons rfl (.cons rfl (.cons rfl (.cons rfl (.cons rfl (.cons rfl (.cons rfl .nil)))))))) ?_
    refine W.seq ?_
    refine W.seq ?_
    refine W.region ?_
    refine WL.move rfl rfl ?_
    refine WL.move rfl rfl ?_
    refine WL.move rfl rfl ?_
    refine WL.add rfl rfl (by first | exact wI64 (by omega) | rfl) rfl ?_
    refine WL.add rfl rfl (by first | exact wI64 (by omega) | rfl) rfl ?_
    refine WL.lss rfl rfl rfl ?_
    refine WL.nil ?_
    refine WX.next ?_
    refine W.sub [(3, _), (11, _), (12, _), (13, _), (14, _), (15, _), (16, _), (17, _), (45, _)] (.cons rfl (.cons rfl (.cons rfl (.cons rfl (.cons rfl (.cons rfl (.cons rfl (.cons rfl (.cons rfl .nil))))))))) ?_
    refine W.ite rfl (fun c2 => ?_) (fun c2 => ?_)
    · have hil : (i : Int) < n + kt + 1 := by omega
      refine W.skip ?_
      refine WX.next ?_
      refine W.seq ?_
      refine W.block ?_
      refine W.seq ?_
      refine W.region ?_
      refine WL.move rfl rfl ?_
      refine WL.call Tryd.call13 rfl (Tick_ok2 a s g.ok w0 _ _ M) rfl ?_
      intro _ w M
      refine WL.nil ?_
      refine WX.next ?_
      refine W.sub [(3, _), (11, _), (12, _), (13, _), (14, _), (15, _), (16, _), (17, _)] (.cons rfl (.cons rfl (.cons rfl (.cons rfl (.cons rfl (.cons rfl (.cons rfl (.cons rfl .nil)))))))) ?_
      refine W.joint (fun (_ : Unit) => [(3, .slice A3 bt.length cap3), (11, .pointer (some ⟨a.g, 0, none⟩)), (12, .int .i64 n), (13, .int .i64 kt), (14, .int .u32 (up : Int)), (15, .int .i64 leader), (16, .int .i64 calm), (17, .int .i64 (i : Int))]) (fun j w => Mem w0 w ((fun _ => bvL a (roundC s (bt.take 30)) ++ []) j) ∧ (fun _ => True) j) ?_ ?_
      · refine W.seq ?_
        refine W.region ?_
        refine WL.assign rfl rfl ?_
        refine WL.nil ?_
        refine WX.next ?_
        refine W.sub [(3, _), (11, _), (12, _), (13, _), (14, _), (15, _), (16, _), (17, _), (18, _)] (.cons rfl (.cons rfl (.cons rfl (.cons rfl (.cons rfl (.cons rfl (.cons rfl (.cons rfl (.cons rfl .nil))))))))) ?_
        refine W.block ?_
        refine W.loop (ι := Nat) (fun j => [(3, .slice A3 bt.length cap3), (11, .pointer (some ⟨a.g, 0, none⟩)), (12, .int .i64 n), (13, .int .i64 kt), (14, .int .u32 (up : Int)), (15, .int .i64 leader), (16, .int .i64 calm), (17, .int .i64 (i : Int)), (18, .int .i64 (j : Int))]) (fun zz w => Mem w0 w ((fun j => bvL a (hearsS (tickS s) (bt.take j)) ++ []) zz) ∧ (fun j => j ≤ bt.length ∧ j ≤ 30) zz) (fun j => bt.length - j) (0) (by (repeat' (first | exact envSub.nil | refine envSub.cons ?_ ?_)) <;> first | rfl | (refine congrArg some ?_; refine congrArg (Value.int _) ?_; first | omega | (dsimp only; omega)) | (simp; done) | (refine congrArg some ?_; dsimp only; congr 1; omega) | (simp; omega)) ⟨M.sel (by first | ((repeat (first | with_reducible exact Sel.refl | with_reducible exact Sel.nil | with_reducible exact Del.here | with_reducible apply Del.there | with_reducible apply Sel.cons | with_reducible apply Sel.drop)); done) | (repeat (first | exact Sel.refl | exact Sel.nil | exact Del.here | apply Del.there | apply Sel.cons | apply Sel.drop))), ⟨Nat.zero_le _, Nat.zero_le _⟩⟩ ?_
        clear M; rintro (j) w ⟨M, ⟨hj, h30⟩⟩; dsimp only at M hj h30 ⊢
        refine W.sub [(3, _), (11, _), (12, _), (13, _), (14, _), (15, _), (16, _), (17, _), (18, _)] (.cons rfl (.cons rfl (.cons rfl (.cons rfl (.cons rfl (.cons rfl (.cons rfl (.cons rfl (.cons rfl .nil))))))))) ?_
        refine W.seq ?_
        refine W.seq ?_
        refine W.region ?_
        refine WL.move rfl rfl ?_
        refine WL.move rfl rfl ?_
        refine WL.len Tryd.underlying22 rfl rfl ?_
        refine WL.lss rfl rfl rfl ?_
        refine WL.moveIf rfl rfl (fun c3 => ?_) (fun c3 => ?_)
        · refine WL.on rfl rfl ?_
          refine WL.move rfl rfl ?_
          refine WL.on rfl rfl ?_
          refine WL.lss rfl rfl rfl ?_
          refine WL.pickT rfl rfl rfl ?_
          refine WL.nil ?_
          refine WX.next ?_
          refine W.sub [(3, _), (11, _), (12, _), (13, _), (14, _), (15, _), (16, _), (17, _), (18, _), (57, _)] (.cons rfl (.cons rfl (.cons rfl (.cons rfl (.cons rfl (.cons rfl (.cons rfl (.cons rfl (.cons rfl (.cons rfl .nil)))))))))) ?_
          refine W.ite rfl (fun c4 => ?_) (fun c4 => ?_)
          · have hjl : j < bt.length := by omega
            have hs1 := hearsS_take (s := tickS s) hjl
            refine W.skip ?_
            refine WX.next ?_
            refine W.seq ?_
            refine W.block ?_
            refine W.region ?_
            refine WL.move rfl rfl ?_
            refine WL.move rfl rfl ?_
            refine WL.move rfl rfl ?_
            refine WL.idxA Tryd.underlying22 Tryd.sizeOf3 rfl rfl (RdL.isSome (E := intE) (by first | with_reducible assumption | with_reducible exact RdL.mem (by with_reducible assumption) M | exact M.rdL (by first | ((repeat (first | with_reducible exact Has.here | with_reducible refine Has.there ?_)); done) | (repeat (first | exact Has.here | refine Has.there ?_))) | exact RdLH.at (by assumption) (M.sel (by first | ((repeat (first | with_reducible exact Sel.refl | with_reducible exact Sel.nil | with_reducible exact Del.here | with_reducible apply Del.there | with_reducible apply Sel.cons | with_reducible apply Sel.drop)); done) | (repeat (first | exact Sel.refl | exact Sel.nil | exact Del.here | apply Del.there | apply Sel.cons | apply Sel.drop)))) | exact RdL.nil _ _ _) (by omega)) (by omega) (by omega) (by first | exact rfl | exact (Int.toNat_of_nonneg (by omega)).symm) rfl ?_
            refine WL.loadE0 (E := intE) Tryd.isAgg3 rfl (by first | with_reducible assumption | with_reducible exact RdL.mem (by with_reducible assumption) M | exact M.rdL (by first | ((repeat (first | with_reducible exact Has.here | with_reducible refine Has.there ?_)); done) | (repeat (first | exact Has.here | refine Has.there ?_))) | exact RdLH.at (by assumption) (M.sel (by first | ((repeat (first | with_reducible exact Sel.refl | with_reducible exact Sel.nil | with_reducible exact Del.here | with_reducible apply Del.there | with_reducible apply Sel.cons | with_reducible apply Sel.drop)); done) | (repeat (first | exact Sel.refl | exact Sel.nil | exact Del.here | apply Del.there | apply Sel.cons | apply Sel.drop)))) | exact RdL.nil _ _ _) (by omega) rfl rfl ?_
            refine WL.call Tryd.call15 rfl (Hear_ok2 a _ (g.ok.tick.hears (bt.take j)) (el bt j) w0 _ _ M) rfl ?_
            rintro _ w ⟨-, M⟩
            refine WL.nil ?_
            refine WX.blockNormal ?_
            refine WX.next ?_
            refine W.sub [(3, _), (11, _), (12, _), (13, _), (14, _), (15, _), (16, _), (17, _), (18, _)] (.cons rfl (.cons rfl (.cons rfl (.cons rfl (.cons rfl (.cons rfl (.cons rfl (.cons rfl (.cons rfl .nil))))))))) ?_
            refine W.region ?_
            refine WL.move rfl rfl ?_
            refine WL.add rfl rfl (by first | exact wI64 (by omega) | rfl) rfl ?_
            refine WL.assign rfl rfl ?_
            refine WL.nil ?_
            rw [← hs1] at M
            refine WX.round (j + 1) (by (repeat' (first | exact envSub.nil | refine envSub.cons ?_ ?_)) <;> first | rfl | (refine congrArg some ?_; refine congrArg (Value.int _) ?_; first | omega | (dsimp only; omega)) | (simp; done) | (refine congrArg some ?_; dsimp only; congr 1; omega) | (simp; omega)) ⟨M.sel (by first | ((repeat (first | with_reducible exact Sel.refl | with_reducible exact Sel.nil | with_reducible exact Del.here | with_reducible apply Del.there | with_reducible apply Sel.cons | with_reducible apply Sel.drop)); done) | (repeat (first | exact Sel.refl | exact Sel.nil | exact Del.here | apply Del.there | apply Sel.cons | apply Sel.drop))), ⟨by omega, by omega⟩⟩ (by first | omega | (dsimp only; omega))
          · refine W.exit ?_
            refine WX.thenExit ?_
            refine WX.thenExit ?_
            refine WX.blockHere ?_
            have htk : bt.take j = bt.take 30 := by rcases Nat.lt_or_ge j 30 with q | q; rw [List.take_of_length_le (by omega), List.take_of_length_le (by omega)]; rw [show j = 30 by omega]
            rw [htk] at M
            refine WX.join (()) (by (repeat' (first | exact envSub.nil | refine envSub.cons ?_ ?_)) <;> first | rfl | (refine congrArg some ?_; refine congrArg (Value.int _) ?_; first | omega | (dsimp only; omega)) | (simp; done) | (refine congrArg some ?_; dsimp only; congr 1; omega) | (simp; omega)) ⟨M, trivial⟩
        · refine WL.off rfl rfl rfl rfl ?_
          refine WL.off rfl rfl rfl rfl ?_
          refine WL.pickF rfl rfl rfl ?_
          refine WL.nil ?_
          refine WX.next ?_
          refine W.sub [(3, _), (11, _), (12, _), (13, _), (14, _), (15, _), (16, _), (17, _), (18, _), (57, _)] (.cons rfl (.cons rfl (.cons rfl (.cons rfl (.cons rfl (.cons rfl (.cons rfl (.cons rfl (.cons rfl (.cons rfl .nil)))))))))) ?_
          refine W.condF rfl ?_
          refine W.exit ?_
          refine WX.thenExit ?_
          refine WX.thenExit ?_
          refine WX.blockHere ?_
          have htk : bt.take j = bt.take 30 := by rcases Nat.lt_or_ge j 30 with q | q; rw [List.take_of_length_le (by omega), List.take_of_length_le (by omega)]; rw [show j = 30 by omega]
          rw [htk] at M
          refine WX.join (()) (by (repeat' (first | exact envSub.nil | refine envSub.cons ?_ ?_)) <;> first | rfl | (refine congrArg some ?_; refine congrArg (Value.int _) ?_; first | omega | (dsimp only; omega)) | (simp; done) | (refine congrArg some ?_; dsimp only; congr 1; omega) | (simp; omega)) ⟨M, trivial⟩
      clear M; rintro (_) w ⟨M, -⟩; dsimp only at M ⊢
      refine W.sub [(3, _), (11, _), (12, _), (13, _), (14, _), (15, _), (16, _), (17, _)] (.cons rfl (.cons rfl (.cons rfl (.cons rfl (.cons rfl (.cons rfl (.cons rfl (.cons rfl .nil)))))))) ?_
      have gn := g.next
      have gs : n ≤ (i : Int) → upN (roundC s (bt.take 30)) = upN s ∧ (roundC s (bt.take 30)).calm = s.calm + 1 := fun q => g.same (by omega) q (by omega)
      have gsites : (roundC s (bt.take 30)).sites = s.sites := gn.sites.trans g.sites.symm
      obtain ⟨t, hT⟩ : ∃ t, roundC s (bt.take 30) = t := ⟨_, rfl⟩
      rw [hT] at M gn gs gsites
      have hcb := gn.ok.calm
      refine W.joint (fun (x : Nat × Int × Int) => [(3, .slice A3 bt.length cap3), (11, .pointer (some ⟨a.g, 0, none⟩)), (12, .int .i64 n), (13, .int .i64 kt), (14, .int .u32 (x.1 : Int)), (15, .int .i64 x.2.1), (16, .int .i64 x.2.2), (17, .int .i64 (i : Int))]) (fun j w => Mem w0 w ((fun _ => bvL a t ++ []) j) ∧ (fun x => (n < ((i + 1 : Nat) : Int) → x.1 = upN t ∧ x.2.1 = el (ordS t 0) 0 ∧ x.2.2 + (((i + 1 : Nat) : Int) - 1 - n) = t.calm) ∧ 0 ≤ x.2.2 ∧ x.2.2 ≤ 1000) j) ?_ ?_
      · refine W.seq ?_
        refine W.region ?_
        refine WL.move rfl rfl ?_
        refine WL.move rfl rfl ?_
        refine WL.eqI rfl rfl rfl ?_
        refine WL.nil ?_
        refine WX.next ?_
        refine W.sub [(3, _), (11, _), (12, _), (13, _), (14, _), (15, _), (16, _), (17, _), (68, _)] (.cons rfl (.cons rfl (.cons rfl (.cons rfl (.cons rfl (.cons rfl (.cons rfl (.cons rfl (.cons rfl .nil))))))))) ?_
        refine W.ite rfl (fun c5 => ?_) (fun c5 => ?_)
        · refine W.seq ?_
          refine W.region ?_
          refine WL.move rfl rfl ?_
          refine WL.call Tryd.call19 rfl (Up_ok2 a t gn.ok w0 _ _ M) rfl ?_
          rintro _ w ⟨rfl, M⟩
          refine WL.assign rfl rfl ?_
          refine WL.nil ?_
          refine WX.next ?_
          refine W.sub [(3, _), (11, _), (12, _), (13, _), (14, _), (17, _)] (.cons rfl (.cons rfl (.cons rfl (.cons rfl (.cons rfl (.cons rfl .nil)))))) ?_
          refine W.seq ?_
          refine W.region ?_
          refine WL.move rfl rfl ?_
          refine WL.call Tryd.call26 rfl (Leader_ok a t gn.ok 0 w0 _ _ M ht) rfl ?_
          rintro _ w ⟨rfl, M⟩
          refine WL.assign rfl rfl ?_
          refine WL.nil ?_
          refine WX.next ?_
          refine W.sub [(3, _), (11, _), (12, _), (13, _), (14, _), (15, _), (17, _)] (.cons rfl (.cons rfl (.cons rfl (.cons rfl (.cons rfl (.cons rfl (.cons rfl .nil))))))) ?_
          refine W.region ?_
          refine WL.move rfl rfl ?_
          refine WL.call Tryd.call21 rfl (Calm_ok a t w0 _ _ M) rfl ?_
          rintro _ _ ⟨rfl, rfl⟩
          refine WL.assign rfl rfl ?_
          refine WL.nil ?_
          refine WX.join ((upN t, el (ordS t 0) 0, t.calm)) (by (repeat' (first | exact envSub.nil | refine envSub.cons ?_ ?_)) <;> first | rfl | (refine congrArg some ?_; refine congrArg (Value.int _) ?_; first | omega | (dsimp only; omega)) | (simp; done) | (refine congrArg some ?_; dsimp only; congr 1; omega) | (simp; omega)) ⟨M.sel (by first | ((repeat (first | with_reducible exact Sel.refl | with_reducible exact Sel.nil | with_reducible exact Del.here | with_reducible apply Del.there | with_reducible apply Sel.cons | with_reducible apply Sel.drop)); done) | (repeat (first | exact Sel.refl | exact Sel.nil | exact Del.here | apply Del.there | apply Sel.cons | apply Sel.drop))), ⟨fun _ => ⟨rfl, rfl, by dsimp only; omega⟩, hcb.1, hcb.2⟩⟩
        · refine W.skip ?_
          skip
          have hu2 : n < ((i + 1 : Nat) : Int) → up = upN t ∧ leader = el (ordS t 0) 0 ∧ calm + (((i + 1 : Nat) : Int) - 1 - n) = t.calm := by
            intro q
            obtain ⟨e1, e2, e3⟩ := hu (by omega)
            obtain ⟨f1, f2⟩ := gs (by omega)
            exact ⟨e1.trans f1.symm, by rw [e2, ord_of gsites f1], by omega⟩
          refine WX.join ((up, leader, calm)) (by (repeat' (first | exact envSub.nil | refine envSub.cons ?_ ?_)) <;> first | rfl | (refine congrArg some ?_; refine congrArg (Value.int _) ?_; first | omega | (dsimp only; omega)) | (simp; done) | (refine congrArg some ?_; dsimp only; congr 1; omega) | (simp; omega)) ⟨M.sel (by first | ((repeat (first | with_reducible exact Sel.refl | with_reducible exact Sel.nil | with_reducible exact Del.here | with_reducible apply Del.there | with_reducible apply Sel.cons | with_reducible apply Sel.drop)); done) | (repeat (first | exact Sel.refl | exact Sel.nil | exact Del.here | apply Del.there | apply Sel.cons | apply Sel.drop))), ⟨hu2, hc0, hc1⟩⟩
      clear M; rintro (⟨up, leader, calm⟩) w ⟨M, ⟨hu, hc0, hc1⟩⟩; dsimp only at M hu hc0 hc1 ⊢
      refine W.sub [(3, _), (11, _), (12, _), (13, _), (14, _), (15, _), (16, _), (17, _)] (.cons rfl (.cons rfl (.cons rfl (.cons rfl (.cons rfl (.cons rfl (.cons rfl (.cons rfl .nil)))))))) ?_
      refine W.seq ?_
      refine W.region ?_
      refine WL.move rfl rfl ?_
      refine WL.move rfl rfl ?_
      refine WL.gtr rfl rfl rfl ?_
      refine WL.moveIf rfl rfl (fun c6 => ?_) (fun c6 => ?_)
      · obtain ⟨e1, e2, e3⟩ := hu (by omega)
        refine WL.on rfl rfl ?_
        refine WL.move rfl rfl ?_
        refine WL.on rfl rfl ?_
        refine WL.call Tryd.call19 rfl (Up_ok2 a t gn.ok w0 _ _ M) rfl ?_
        rintro _ w ⟨rfl, M⟩
        refine WL.on rfl rfl ?_
        refine WL.move rfl rfl ?_
        refine WL.on rfl rfl ?_
        refine WL.neI rfl rfl rfl ?_
        refine WL.on rfl rfl ?_
        refine WL.moveIf rfl rfl (fun c7 => ?_) (fun c7 => ?_)
        · exact absurd (by rw [e1]) c7
        · refine WL.on rfl rfl ?_
          refine WL.move rfl rfl ?_
          refine WL.on rfl rfl ?_
          refine WL.call Tryd.call26 rfl (Leader_ok a t gn.ok 0 w0 _ _ M ht) rfl ?_
          rintro _ w ⟨rfl, M⟩
          refine WL.on rfl rfl ?_
          refine WL.move rfl rfl ?_
          refine WL.on rfl rfl ?_
          refine WL.neI rfl rfl rfl ?_
          refine WL.on rfl rfl ?_
          refine WL.pickF rfl rfl rfl ?_
          refine WL.on rfl rfl ?_
          refine WL.moveIf rfl rfl (fun c8 => ?_) (fun c8 => ?_)
          · exact absurd e2.symm c8
          · refine WL.on rfl rfl ?_
            refine WL.move rfl rfl ?_
            refine WL.on rfl rfl ?_
            refine WL.call Tryd.call21 rfl (Calm_ok a t w0 _ _ M) rfl ?_
            rintro _ _ ⟨rfl, rfl⟩
            refine WL.on rfl rfl ?_
            refine WL.move rfl rfl ?_
            refine WL.on rfl rfl ?_
            refine WL.move rfl rfl ?_
            refine WL.on rfl rfl ?_
            refine WL.add rfl rfl (by first | exact wI64 (by omega) | rfl) rfl ?_
            refine WL.on rfl rfl ?_
            refine WL.move rfl rfl ?_
            refine WL.on rfl rfl ?_
            refine WL.sub' rfl rfl (by first | exact wI64 (by omega) | rfl) rfl ?_
            refine WL.on rfl rfl ?_
            refine WL.neI rfl rfl rfl ?_
            refine WL.on rfl rfl ?_
            refine WL.pickF rfl rfl rfl ?_
            refine WL.pickT rfl rfl rfl ?_
            refine WL.nil ?_
            refine WX.next ?_
            refine W.sub [(3, _), (11, _), (12, _), (13, _), (14, _), (15, _), (16, _), (17, _), (99, _)] (.cons rfl (.cons rfl (.cons rfl (.cons rfl (.cons rfl (.cons rfl (.cons rfl (.cons rfl (.cons rfl .nil))))))))) ?_
            refine W.ite rfl (fun c9 => ?_) (fun c9 => ?_)
            · exact absurd (by omega) c9
            · refine W.skip ?_
              refine WX.blockNormal ?_
              refine WX.next ?_
              refine W.region ?_
              refine WL.move rfl rfl ?_
              refine WL.add rfl rfl (by first | exact wI64 (by omega) | rfl) rfl ?_
              refine WL.assign rfl rfl ?_
              refine WL.nil ?_
              refine WX.round ((i + 1, t, up, leader, calm)) (by (repeat' (first | exact envSub.nil | refine envSub.cons ?_ ?_)) <;> first | rfl | (refine congrArg some ?_; refine congrArg (Value.int _) ?_; first | omega | (dsimp only; omega)) | (simp; done) | (refine congrArg some ?_; dsimp only; congr 1; omega) | (simp; omega)) ⟨M.sel (by first | ((repeat (first | with_reducible exact Sel.refl | with_reducible exact Sel.nil | with_reducible exact Del.here | with_reducible apply Del.there | with_reducible apply Sel.cons | with_reducible apply Sel.drop)); done) | (repeat (first | exact Sel.refl | exact Sel.nil | exact Del.here | apply Del.there | apply Sel.cons | apply Sel.drop))), ⟨by dsimp only; omega, gn, hu, hc0, hc1⟩⟩ (by first | omega | (dsimp only; omega))
      · refine WL.off rfl rfl rfl rfl ?_
        refine WL.off rfl rfl rfl rfl ?_
        refine WL.off rfl rfl rfl rfl ?_
        refine WL.off rfl rfl rfl rfl ?_
        refine WL.off rfl rfl rfl rfl ?_
        refine WL.offU rfl rfl rfl ?_
        refine WL.offU rfl rfl rfl ?_
        refine WL.offU rfl rfl rfl ?_
        refine WL.offU rfl rfl rfl ?_
        refine WL.off rfl rfl rfl rfl ?_
        refine WL.off rfl rfl rfl rfl ?_
        refine WL.offU rfl rfl rfl ?_
        refine WL.offU rfl rfl rfl ?_
        refine WL.offU rfl rfl rfl ?_
        refine WL.offU rfl rfl rfl ?_
        refine WL.offU rfl rfl rfl ?_
        refine WL.offU rfl rfl rfl ?_
        refine WL.offU rfl rfl rfl ?_
        refine WL.offU rfl rfl rfl ?_
        refine WL.off rfl rfl rfl rfl ?_
        refine WL.pickF rfl rfl rfl ?_
        refine WL.nil ?_
        refine WX.next ?_
        refine W.sub [(3, _), (11, _), (12, _), (13, _), (14, _), (15, _), (16, _), (17, _), (99, _)] (.cons rfl (.cons rfl (.cons rfl (.cons rfl (.cons rfl (.cons rfl (.cons rfl (.cons rfl (.cons rfl .nil))))))))) ?_
        refine W.condF rfl ?_
        refine W.skip ?_
        refine WX.blockNormal ?_
        refine WX.next ?_
        refine W.region ?_
        refine WL.move rfl rfl ?_
        refine WL.add rfl rfl (by first | exact wI64 (by omega) | rfl) rfl ?_
        refine WL.assign rfl rfl ?_
        refine WL.nil ?_
        refine WX.round ((i + 1, t, up, leader, calm)) (by (repeat' (first | exact envSub.nil | refine envSub.cons ?_ ?_)) <;> first | rfl | (refine congrArg some ?_; refine congrArg (Value.int _) ?_; first | omega | (dsimp only; omega)) | (simp; done) | (refine congrArg some ?_; dsimp only; congr 1; omega) | (simp; omega)) ⟨M.sel (by first | ((repeat (first | with_reducible exact Sel.refl | with_reducible exact Sel.nil | with_reducible exact Del.here | with_reducible apply Del.there | with_reducible apply Sel.cons | with_reducible apply Sel.drop)); done) | (repeat (first | exact Sel.refl | exact Sel.nil | exact Del.here | apply Del.there | apply Sel.cons | apply Sel.drop))), ⟨by dsimp only; omega, gn, hu, hc0, hc1⟩⟩ (by first | omega | (dsimp only; omega))
    · refine W.exit ?_
      refine WX.thenExit ?_
      refine WX.thenExit ?_
      refine WX.blockHere ?_
      refine WX.next ?_
      refine W.seq ?_
      refine W.seq ?_
      obtain ⟨-, -, e3⟩ := hu (by omega)
      refine W.region ?_
      refine WL.assign rfl rfl ?_
      refine WL.nil ?_
      refine WX.next ?_
      refine W.sub [(11, _), (16, _), (19, _)] (.cons rfl (.cons rfl (.cons rfl .nil))) ?_
      refine W.block ?_
      refine W.loop (ι := Nat × Bv) (fun z => [(11, .pointer (some ⟨a.g, 0, none⟩)), (16, .int .i64 calm), (19, .int .i64 (z.1 : Int))]) (fun zz w => Mem w0 w ((fun z => bvL a z.2 ++ []) zz) ∧ (fun z => z.1 ≤ 12 ∧ z.2.Ok ∧ (z.1 = 0 → calm ≤ z.2.calm)) zz) (fun z => 12 - z.1) ((0, s)) (by (repeat' (first | exact envSub.nil | refine envSub.cons ?_ ?_)) <;> first | rfl | (refine congrArg some ?_; refine congrArg (Value.int _) ?_; first | omega | (dsimp only; omega)) | (simp; done) | (refine congrArg some ?_; dsimp only; congr 1; omega) | (simp; omega)) ⟨M.sel (by first | ((repeat (first | with_reducible exact Sel.refl | with_reducible exact Sel.nil | with_reducible exact Del.here | with_reducible apply Del.there | with_reducible apply Sel.cons | with_reducible apply Sel.drop)); done) | (repeat (first | exact Sel.refl | exact Sel.nil | exact Del.here | apply Del.there | apply Sel.cons | apply Sel.drop))), ⟨Nat.zero_le _, g.ok, fun _ => by dsimp only; omega⟩⟩ ?_
      clear M; rintro (⟨j, s⟩) w ⟨M, ⟨hj, okS, hcj⟩⟩; dsimp only at M hj okS hcj ⊢
      refine W.sub [(11, _), (16, _), (19, _)] (.cons rfl (.cons rfl (.cons rfl .nil))) ?_
      refine W.seq ?_
      refine W.seq ?_
      refine W.region ?_
      refine WL.move rfl rfl ?_
      refine WL.lss rfl rfl rfl ?_
      refine WL.nil ?_
      refine WX.next ?_
      refine W.sub [(11, _), (16, _), (19, _), (101, _)] (.cons rfl (.cons rfl (.cons rfl (.cons rfl .nil)))) ?_
      refine W.ite rfl (fun c10 => ?_) (fun c10 => ?_)
      · have hj12 : j < 12 := by omega
        refine W.skip ?_
        refine WX.next ?_
        refine W.seq ?_
        refine W.block ?_
        refine W.seq ?_
        refine W.region ?_
        refine WL.move rfl rfl ?_
        refine WL.call Tryd.call19 rfl (Up_ok2 a s okS w0 _ _ M) rfl ?_
        rintro _ w ⟨rfl, M⟩
        refine WL.assign rfl rfl ?_
        refine WL.nil ?_
        refine WX.next ?_
        refine W.sub [(11, _), (16, _), (19, _), (20, _)] (.cons rfl (.cons rfl (.cons rfl (.cons rfl .nil)))) ?_
        refine W.seq ?_
        refine W.region ?_
        refine WL.move rfl rfl ?_
        refine WL.move rfl rfl ?_
        refine WL.call Tryd.call15 rfl (Hear_ok2 a s okS (j : Int) w0 _ _ M) rfl ?_
        rintro _ w ⟨rfl, M⟩
        refine WL.assign rfl rfl ?_
        refine WL.nil ?_
        refine WX.next ?_
        refine W.sub [(11, _), (16, _), (19, _), (20, _), (21, _)] (.cons rfl (.cons rfl (.cons rfl (.cons rfl (.cons rfl .nil))))) ?_
        refine W.seq ?_
        obtain ⟨hcs, hcd⟩ := hear_calm s (j : Int)
        have okT := okS.hearZ (j : Int)
        obtain ⟨t, hT⟩ : ∃ t, hearZ s (j : Int) = t := ⟨_, rfl⟩
        rw [hT] at M hcs hcd okT
        refine W.region ?_
        refine WL.move rfl rfl ?_
        refine WL.eqI rfl rfl rfl ?_
        refine WL.moveIf rfl rfl (fun c11 => ?_) (fun c11 => ?_)
        · refine WL.on rfl rfl ?_
          refine WL.move rfl rfl ?_
          refine WL.on rfl rfl ?_
          refine WL.call Tryd.call19 rfl (Up_ok2 a t okT w0 _ _ M) rfl ?_
          rintro _ w ⟨rfl, M⟩
          refine WL.on rfl rfl ?_
          refine WL.move rfl rfl ?_
          refine WL.on rfl rfl ?_
          refine WL.neI rfl rfl rfl ?_
          refine WL.pickT rfl rfl rfl ?_
          refine WL.moveIf rfl rfl (fun c12 => ?_) (fun c12 => ?_)
          · refine WL.on rfl rfl ?_
            refine WL.move rfl rfl ?_
            refine WL.on rfl rfl ?_
            refine WL.call Tryd.call21 rfl (Calm_ok a t w0 _ _ M) rfl ?_
            rintro _ _ ⟨rfl, rfl⟩
            refine WL.on rfl rfl ?_
            refine WL.neI rfl rfl rfl ?_
            refine WL.pickT rfl rfl rfl ?_
            refine WL.moveIf rfl rfl (fun c13 => ?_) (fun c13 => ?_)
            · exact absurd (hcd (fun e => c12 (by rw [e]))) c13
            · refine WL.on rfl rfl ?_
              refine WL.move rfl rfl ?_
              refine WL.on rfl rfl ?_
              refine WL.call Tryd.call19 rfl (Up_ok2 a t okT w0 _ _ M) rfl ?_
              rintro _ w ⟨rfl, M⟩
              refine WL.on rfl rfl ?_
              refine WL.move rfl rfl ?_
              refine WL.on rfl rfl ?_
              refine WL.eqI rfl rfl rfl ?_
              refine WL.on rfl rfl ?_
              refine WL.moveIf rfl rfl (fun c14 => ?_) (fun c14 => ?_)
              · refine WL.on rfl rfl ?_
                refine WL.move rfl rfl ?_
                refine WL.on rfl rfl ?_
                refine WL.eqI rfl rfl rfl ?_
                refine WL.on rfl rfl ?_
                refine WL.pickT rfl rfl rfl ?_
                refine WL.on rfl rfl ?_
                refine WL.moveIf rfl rfl (fun c15 => ?_) (fun c15 => ?_)
                · refine WL.on rfl rfl ?_
                  refine WL.move rfl rfl ?_
                  refine WL.on rfl rfl ?_
                  refine WL.call Tryd.call21 rfl (Calm_ok a t w0 _ _ M) rfl ?_
                  rintro _ _ ⟨rfl, rfl⟩
                  refine WL.on rfl rfl ?_
                  refine WL.move rfl rfl ?_
                  refine WL.on rfl rfl ?_
                  refine WL.lss rfl rfl rfl ?_
                  refine WL.on rfl rfl ?_
                  refine WL.pickT rfl rfl rfl ?_
                  refine WL.pickF rfl rfl rfl ?_
                  refine WL.nil ?_
                  refine WX.next ?_
                  refine W.sub [(11, _), (16, _), (19, _), (137, _)] (.cons rfl (.cons rfl (.cons rfl (.cons rfl .nil)))) ?_
                  refine W.ite rfl (fun c16 => ?_) (fun c16 => ?_)
                  · exact absurd c16 (by have e1 := hcs (by omega); have e2 := hcj (by omega); omega)
                  · refine W.skip ?_
                    refine WX.blockNormal ?_
                    refine WX.next ?_
                    refine W.region ?_
                    refine WL.move rfl rfl ?_
                    refine WL.add rfl rfl (by first | exact wI64 (by omega) | rfl) rfl ?_
                    refine WL.assign rfl rfl ?_
                    refine WL.nil ?_
                    refine WX.round ((j + 1, t)) (by (repeat' (first | exact envSub.nil | refine envSub.cons ?_ ?_)) <;> first | rfl | (refine congrArg some ?_; refine congrArg (Value.int _) ?_; first | omega | (dsimp only; omega)) | (simp; done) | (refine congrArg some ?_; dsimp only; congr 1; omega) | (simp; omega)) ⟨M.sel (by first | ((repeat (first | with_reducible exact Sel.refl | with_reducible exact Sel.nil | with_reducible exact Del.here | with_reducible apply Del.there | with_reducible apply Sel.cons | with_reducible apply Sel.drop)); done) | (repeat (first | exact Sel.refl | exact Sel.nil | exact Del.here | apply Del.there | apply Sel.cons | apply Sel.drop))), ⟨by dsimp only; omega, okT, fun e => absurd e (Nat.succ_ne_zero _)⟩⟩ (by first | omega | (dsimp only; omega))
                · refine WL.off rfl rfl rfl rfl ?_
                  refine WL.off rfl rfl rfl rfl ?_
                  refine WL.off rfl rfl rfl rfl ?_
                  refine WL.off rfl rfl rfl rfl ?_
                  refine WL.on rfl rfl ?_
                  refine WL.pickF rfl rfl rfl ?_
                  refine WL.pickF rfl rfl rfl ?_
                  refine WL.nil ?_
                  refine WX.next ?_
                  refine W.sub [(11, _), (16, _), (19, _), (137, _)] (.cons rfl (.cons rfl (.cons rfl (.cons rfl .nil)))) ?_
                  refine W.condF rfl ?_
                  refine W.skip ?_
                  refine WX.blockNormal ?_
                  refine WX.next ?_
                  refine W.region ?_
                  refine WL.move rfl rfl ?_
                  refine WL.add rfl rfl (by first | exact wI64 (by omega) | rfl) rfl ?_
                  refine WL.assign rfl rfl ?_
                  refine WL.nil ?_
                  refine WX.round ((j + 1, t)) (by (repeat' (first | exact envSub.nil | refine envSub.cons ?_ ?_)) <;> first | rfl | (refine congrArg some ?_; refine congrArg (Value.int _) ?_; first | omega | (dsimp only; omega)) | (simp; done) | (refine congrArg some ?_; dsimp only; congr 1; omega) | (simp; omega)) ⟨M.sel (by first | ((repeat (first | with_reducible exact Sel.refl | with_reducible exact Sel.nil | with_reducible exact Del.here | with_reducible apply Del.there | with_reducible apply Sel.cons | with_reducible apply Sel.drop)); done) | (repeat (first | exact Sel.refl | exact Sel.nil | exact Del.here | apply Del.there | apply Sel.cons | apply Sel.drop))), ⟨by dsimp only; omega, okT, fun e => absurd e (Nat.succ_ne_zero _)⟩⟩ (by first | omega | (dsimp only; omega))
              · refine WL.off rfl rfl rfl rfl ?_
                refine WL.off rfl rfl rfl rfl ?_
                refine WL.on rfl rfl ?_
                refine WL.pickF rfl rfl rfl ?_
                refine WL.on rfl rfl ?_
                refine WL.move rfl rfl ?_
                refine WL.off rfl rfl rfl rfl ?_
                refine WL.off rfl rfl rfl rfl ?_
                refine WL.off rfl rfl rfl rfl ?_
                refine WL.off rfl rfl rfl rfl ?_
                refine WL.on rfl rfl ?_
                refine WL.pickF rfl rfl rfl ?_
                refine WL.pickF rfl rfl rfl ?_
                refine WL.nil ?_
                refine WX.next ?_
                refine W.sub [(11, _), (16, _), (19, _), (137, _)] (.cons rfl (.cons rfl (.cons rfl (.cons rfl .nil)))) ?_
                refine W.condF rfl ?_
                refine W.skip ?_
                refine WX.blockNormal ?_
                refine WX.next ?_
                refine W.region ?_
                refine WL.move rfl rfl ?_
                refine WL.add rfl rfl (by first | exact wI64 (by omega) | rfl) rfl ?_
                refine WL.assign rfl rfl ?_
                refine WL.nil ?_
                refine WX.round ((j + 1, t)) (by (repeat' (first | exact envSub.nil | refine envSub.cons ?_ ?_)) <;> first | rfl | (refine congrArg some ?_; refine congrArg (Value.int _) ?_; first | omega | (dsimp only; omega)) | (simp; done) | (refine congrArg some ?_; dsimp only; congr 1; omega) | (simp; omega)) ⟨M.sel (by first | ((repeat (first | with_reducible exact Sel.refl | with_reducible exact Sel.nil | with_reducible exact Del.here | with_reducible apply Del.there | with_reducible apply Sel.cons | with_reducible apply Sel.drop)); done) | (repeat (first | exact Sel.refl | exact Sel.nil | exact Del.here | apply Del.there | apply Sel.cons | apply Sel.drop))), ⟨by dsimp only; omega, okT, fun e => absurd e (Nat.succ_ne_zero _)⟩⟩ (by first | omega | (dsimp only; omega))
          · refine WL.off rfl rfl rfl rfl ?_
            refine WL.off rfl rfl rfl rfl ?_
            refine WL.off rfl rfl rfl rfl ?_
            refine WL.pickF rfl rfl rfl ?_
            refine WL.move rfl rfl ?_
            refine WL.on rfl rfl ?_
            refine WL.move rfl rfl ?_
            refine WL.on rfl rfl ?_
            refine WL.call Tryd.call19 rfl (Up_ok2 a t okT w0 _ _ M) rfl ?_
            rintro _ w ⟨rfl, M⟩
            refine WL.on rfl rfl ?_
            refine WL.move rfl rfl ?_
            refine WL.on rfl rfl ?_
            refine WL.eqI rfl rfl rfl ?_
            refine WL.on rfl rfl ?_
            refine WL.moveIf rfl rfl (fun c14 => ?_) (fun c14 => ?_)
            · refine WL.on rfl rfl ?_
              refine WL.move rfl rfl ?_
              refine WL.on rfl rfl ?_
              refine WL.eqI rfl rfl rfl ?_
              refine WL.on rfl rfl ?_
              refine WL.pickT rfl rfl rfl ?_
              refine WL.on rfl rfl ?_
              refine WL.moveIf rfl rfl (fun c15 => ?_) (fun c15 => ?_)
              · refine WL.on rfl rfl ?_
                refine WL.move rfl rfl ?_
                refine WL.on rfl rfl ?_
                refine WL.call Tryd.call21 rfl (Calm_ok a t w0 _ _ M) rfl ?_
                rintro _ _ ⟨rfl, rfl⟩
                refine WL.on rfl rfl ?_
                refine WL.move rfl rfl ?_
                refine WL.on rfl rfl ?_
                refine WL.lss rfl rfl rfl ?_
                refine WL.on rfl rfl ?_
                refine WL.pickT rfl rfl rfl ?_
                refine WL.pickF rfl rfl rfl ?_
                refine WL.nil ?_
                refine WX.next ?_
                refine W.sub [(11, _), (16, _), (19, _), (137, _)] (.cons rfl (.cons rfl (.cons rfl (.cons rfl .nil)))) ?_
                refine W.ite rfl (fun c16 => ?_) (fun c16 => ?_)
                · exact absurd c16 (by have e1 := hcs (by omega); have e2 := hcj (by omega); omega)
                · refine W.skip ?_
                  refine WX.blockNormal ?_
                  refine WX.next ?_
                  refine W.region ?_
                  refine WL.move rfl rfl ?_
                  refine WL.add rfl rfl (by first | exact wI64 (by omega) | rfl) rfl ?_
                  refine WL.assign rfl rfl ?_
                  refine WL.nil ?_
                  refine WX.round ((j + 1, t)) (by (repeat' (first | exact envSub.nil | refine envSub.cons ?_ ?_)) <;> first | rfl | (refine congrArg some ?_; refine congrArg (Value.int _) ?_; first | omega | (dsimp only; omega)) | (simp; done) | (refine congrArg some ?_; dsimp only; congr 1; omega) | (simp; omega)) ⟨M.sel (by first | ((repeat (first | with_reducible exact Sel.refl | with_reducible exact Sel.nil | with_reducible exact Del.here | with_reducible apply Del.there | with_reducible apply Sel.cons | with_reducible apply Sel.drop)); done) | (repeat (first | exact Sel.refl | exact Sel.nil | exact Del.here | apply Del.there | apply Sel.cons | apply Sel.drop))), ⟨by dsimp only; omega, okT, fun e => absurd e (Nat.succ_ne_zero _)⟩⟩ (by first | omega | (dsimp only; omega))
              · refine WL.off rfl rfl rfl rfl ?_
                refine WL.off rfl rfl rfl rfl ?_
                refine WL.off rfl rfl rfl rfl ?_
                refine WL.off rfl rfl rfl rfl ?_
                refine WL.on rfl rfl ?_
                refine WL.pickF rfl rfl rfl ?_
                refine WL.pickF rfl rfl rfl ?_
                refine WL.nil ?_
                refine WX.next ?_
                refine W.sub [(11, _), (16, _), (19, _), (137, _)] (.cons rfl (.cons rfl (.cons rfl (.cons rfl .nil)))) ?_
                refine W.condF rfl ?_
                refine W.skip ?_
                refine WX.blockNormal ?_
                refine WX.next ?_
                refine W.region ?_
                refine WL.move rfl rfl ?_
                refine WL.add rfl rfl (by first | exact wI64 (by omega) | rfl) rfl ?_
                refine WL.assign rfl rfl ?_
                refine WL.nil ?_
                refine WX.round ((j + 1, t)) (by (repeat' (first | exact envSub.nil | refine envSub.cons ?_ ?_)) <;> first | rfl | (refine congrArg some ?_; refine congrArg (Value.int _) ?_; first | omega | (dsimp only; omega)) | (simp; done) | (refine congrArg some ?_; dsimp only; congr 1; omega) | (simp; omega)) ⟨M.sel (by first | ((repeat (first | with_reducible exact Sel.refl | with_reducible exact Sel.nil | with_reducible exact Del.here | with_reducible apply Del.there | with_reducible apply Sel.cons | with_reducible apply Sel.drop)); done) | (repeat (first | exact Sel.refl | exact Sel.nil | exact Del.here | apply Del.there | apply Sel.cons | apply Sel.drop))), ⟨by dsimp only; omega, okT, fun e => absurd e (Nat.succ_ne_zero _)⟩⟩ (by first | omega | (dsimp only; omega))
            · refine WL.off rfl rfl rfl rfl ?_
              refine WL.off rfl rfl rfl rfl ?_
              refine WL.on rfl rfl ?_
              refine WL.pickF rfl rfl rfl ?_
              refine WL.on rfl rfl ?_
              refine WL.move rfl rfl ?_
              refine WL.off rfl rfl rfl rfl ?_
              refine WL.off rfl rfl rfl rfl ?_
              refine WL.off rfl rfl rfl rfl ?_
              refine WL.off rfl rfl rfl rfl ?_
              refine WL.on rfl rfl ?_
              refine WL.pickF rfl rfl rfl ?_
              refine WL.pickF rfl rfl rfl ?_
              refine WL.nil ?_
              refine WX.next ?_
              refine W.sub [(11, _), (16, _), (19, _), (137, _)] (.cons rfl (.cons rfl (.cons rfl (.cons rfl .nil)))) ?_
              refine W.condF rfl ?_
              refine W.skip ?_
              refine WX.blockNormal ?_
              refine WX.next ?_
              refine W.region ?_
              refine WL.move rfl rfl ?_
              refine WL.add rfl rfl (by first | exact wI64 (by omega) | rfl) rfl ?_
              refine WL.assign rfl rfl ?_
              refine WL.nil ?_
              refine WX.round ((j + 1, t)) (by (repeat' (first | exact envSub.nil | refine envSub.cons ?_ ?_)) <;> first | rfl | (refine congrArg some ?_; refine congrArg (Value.int _) ?_; first | omega | (dsimp only; omega)) | (simp; done) | (refine congrArg some ?_; dsimp only; congr 1; omega) | (simp; omega)) ⟨M.sel (by first | ((repeat (first | with_reducible exact Sel.refl | with_reducible exact Sel.nil | with_reducible exact Del.here | with_reducible apply Del.there | with_reducible apply Sel.cons | with_reducible apply Sel.drop)); done) | (repeat (first | exact Sel.refl | exact Sel.nil | exact Del.here | apply Del.there | apply Sel.cons | apply Sel.drop))), ⟨by dsimp only; omega, okT, fun e => absurd e (Nat.succ_ne_zero _)⟩⟩ (by first | omega | (dsimp only; omega))
        · refine WL.off rfl rfl rfl rfl ?_
          refine WL.off rfl rfl rfl rfl ?_
          refine WL.off rfl rfl rfl rfl ?_
          refine WL.off rfl rfl rfl rfl ?_
          refine WL.pickF rfl rfl rfl ?_
          refine WL.move rfl rfl ?_
          refine WL.off rfl rfl rfl rfl ?_
          refine WL.off rfl rfl rfl rfl ?_
          refine WL.off rfl rfl rfl rfl ?_
          refine WL.pickF rfl rfl rfl ?_
          refine WL.move rfl rfl ?_
          refine WL.on rfl rfl ?_
          refine WL.move rfl rfl ?_
          refine WL.on rfl rfl ?_
          refine WL.call Tryd.call19 rfl (Up_ok2 a t okT w0 _ _ M) rfl ?_
          rintro _ w ⟨rfl, M⟩
          refine WL.on rfl rfl ?_
          refine WL.move rfl rfl ?_
          refine WL.on rfl rfl ?_
          refine WL.eqI rfl rfl rfl ?_
          refine WL.on rfl rfl ?_
          refine WL.moveIf rfl rfl (fun c14 => ?_) (fun c14 => ?_)
          · refine WL.on rfl rfl ?_
            refine WL.move rfl rfl ?_
            refine WL.on rfl rfl ?_
            refine WL.eqI rfl rfl rfl ?_
            refine WL.on rfl rfl ?_
            refine WL.pickT rfl rfl rfl ?_
            refine WL.on rfl rfl ?_
            refine WL.moveIf rfl rfl (fun c15 => ?_) (fun c15 => ?_)
            · refine WL.on rfl rfl ?_
              refine WL.move rfl rfl ?_
              refine WL.on rfl rfl ?_
              refine WL.call Tryd.call21 rfl (Calm_ok a t w0 _ _ M) rfl ?_
              rintro _ _ ⟨rfl, rfl⟩
              refine WL.on rfl rfl ?_
              refine WL.move rfl rfl ?_
              refine WL.on rfl rfl ?_
              refine WL.lss rfl rfl rfl ?_
              refine WL.on rfl rfl ?_
              refine WL.pickT rfl rfl rfl ?_
              refine WL.pickF rfl rfl rfl ?_
              refine WL.nil ?_
              refine WX.next ?_
              refine W.sub [(11, _), (16, _), (19, _), (137, _)] (.cons rfl (.cons rfl (.cons rfl (.cons rfl .nil)))) ?_
              refine W.ite rfl (fun c16 => ?_) (fun c16 => ?_)
              · exact absurd c16 (by have e1 := hcs (by omega); have e2 := hcj (by omega); omega)
              · refine W.skip ?_
                refine WX.blockNormal ?_
                refine WX.next ?_
                refine W.region ?_
                refine WL.move rfl rfl ?_
                refine WL.add rfl rfl (by first | exact wI64 (by omega) | rfl) rfl ?_
                refine WL.assign rfl rfl ?_
                refine WL.nil ?_
                refine WX.round ((j + 1, t)) (by (repeat' (first | exact envSub.nil | refine envSub.cons ?_ ?_)) <;> first | rfl | (refine congrArg some ?_; refine congrArg (Value.int _) ?_; first | omega | (dsimp only; omega)) | (simp; done) | (refine congrArg some ?_; dsimp only; congr 1; omega) | (simp; omega)) ⟨M.sel (by first | ((repeat (first | with_reducible exact Sel.refl | with_reducible exact Sel.nil | with_reducible exact Del.here | with_reducible apply Del.there | with_reducible apply Sel.cons | with_reducible apply Sel.drop)); done) | (repeat (first | exact Sel.refl | exact Sel.nil | exact Del.here | apply Del.there | apply Sel.cons | apply Sel.drop))), ⟨by dsimp only; omega, okT, fun e => absurd e (Nat.succ_ne_zero _)⟩⟩ (by first | omega | (dsimp only; omega))
            · refine WL.off rfl rfl rfl rfl ?_
              refine WL.off rfl rfl rfl rfl ?_
              refine WL.off rfl rfl rfl rfl ?_
              refine WL.off rfl rfl rfl rfl ?_
              refine WL.on rfl rfl ?_
              refine WL.pickF rfl rfl rfl ?_
              refine WL.pickF rfl rfl rfl ?_
              refine WL.nil ?_
              refine WX.next ?_
              refine W.sub [(11, _), (16, _), (19, _), (137, _)] (.cons rfl (.cons rfl (.cons rfl (.cons rfl .nil)))) ?_
              refine W.condF rfl ?_
              refine W.skip ?_
              refine WX.blockNormal ?_
              refine WX.next ?_
              refine W.region ?_
              refine WL.move rfl rfl ?_
              refine WL.add rfl rfl (by first | exact wI64 (by omega) | rfl) rfl ?_
              refine WL.assign rfl rfl ?_
              refine WL.nil ?_
              refine WX.round ((j + 1, t)) (by (repeat' (first | exact envSub.nil | refine envSub.cons ?_ ?_)) <;> first | rfl | (refine congrArg some ?_; refine congrArg (Value.int _) ?_; first | omega | (dsimp only; omega)) | (simp; done) | (refine congrArg some ?_; dsimp only; congr 1; omega) | (simp; omega)) ⟨M.sel (by first | ((repeat (first | with_reducible exact Sel.refl | with_reducible exact Sel.nil | with_reducible exact Del.here | with_reducible apply Del.there | with_reducible apply Sel.cons | with_reducible apply Sel.drop)); done) | (repeat (first | exact Sel.refl | exact Sel.nil | exact Del.here | apply Del.there | apply Sel.cons | apply Sel.drop))), ⟨by dsimp only; omega, okT, fun e => absurd e (Nat.succ_ne_zero _)⟩⟩ (by first | omega | (dsimp only; omega))
          · refine WL.off rfl rfl rfl rfl ?_
            refine WL.off rfl rfl rfl rfl ?_
            refine WL.on rfl rfl ?_
            refine WL.pickF rfl rfl rfl ?_
            refine WL.on rfl rfl ?_
            refine WL.move rfl rfl ?_
            refine WL.off rfl rfl rfl rfl ?_
            refine WL.off rfl rfl rfl rfl ?_
            refine WL.off rfl rfl rfl rfl ?_
            refine WL.off rfl rfl rfl rfl ?_
            refine WL.on rfl rfl ?_
            refine WL.pickF rfl rfl rfl ?_
            refine WL.pickF rfl rfl rfl ?_
            refine WL.nil ?_
            refine WX.next ?_
            refine W.sub [(11, _), (16, _), (19, _), (137, _)] (.cons rfl (.cons rfl (.cons rfl (.cons rfl .nil)))) ?_
            refine W.condF rfl ?_
            refine W.skip ?_
            refine WX.blockNormal ?_
            refine WX.next ?_
            refine W.region ?_
            refine WL.move rfl rfl ?_
            refine WL.add rfl rfl (by first | exact wI64 (by omega) | rfl) rfl ?_
            refine WL.assign rfl rfl ?_
            refine WL.nil ?_
            refine WX.round ((j + 1, t)) (by (repeat' (first | exact envSub.nil | refine envSub.cons ?_ ?_)) <;> first | rfl | (refine congrArg some ?_; refine congrArg (Value.int _) ?_; first | omega | (dsimp only; omega)) | (simp; done) | (refine congrArg some ?_; dsimp only; congr 1; omega) | (simp; omega)) ⟨M.sel (by first | ((repeat (first | with_reducible exact Sel.refl | with_reducible exact Sel.nil | with_reducible exact Del.here | with_reducible apply Del.there | with_reducible apply Sel.cons | with_reducible apply Sel.drop)); done) | (repeat (first | exact Sel.refl | exact Sel.nil | exact Del.here | apply Del.there | apply Sel.cons | apply Sel.drop))), ⟨by dsimp only; omega, okT, fun e => absurd e (Nat.succ_ne_zero _)⟩⟩ (by first | omega | (dsimp only; omega))
      · refine W.exit ?_
        refine WX.thenExit ?_
        refine WX.thenExit ?_
        refine WX.blockHere ?_
        refine WX.next ?_
        refine W.seq ?_
        refine W.region ?_
        refine WL.call Tryd.call10 rfl (known14_ok _ (ht.mem M)) rfl ?_
        rintro _ w ⟨rfl, m⟩
        replace M := M.call0 m; clear m
        refine WL.assign rfl rfl ?_
        refine WL.nil ?_
        refine WX.next ?_
        refine W.sub [(10, _)] (.cons rfl .nil) ?_
        refine W.ret ?_
        refine WX.ret1 rfl rfl ?_
        exact ⟨by simp, M.sel (.nil)⟩
end Go.Proofs.YtmkhggfcgblefaaDoor
