/-
  Two views that hear the same (seawalllaw14.BeatAgree).
-/
import Derived.Test.YtmkhggfcgblefaaDoorBeatView
import Derived.Test.YtmkhggfcgblefaaDoorBeatLaw2
namespace Go.Proofs.YtmkhggfcgblefaaDoor
open Go Go.RowKit Bin

theorem viewV_me (sites : List Int) {k : Nat} (hk : (k : Int) < (viewL sites).length) (hk2 : k < 18446744073709551616) (pat : Int) : (viewV sites (k : Int) pat).me = k ∧ (viewV sites (k : Int) pat).sites = viewL sites ∧ (viewV sites (k : Int) pat).pat = 1 + wrapZ pat 9 := by
  refine ⟨?_, rfl, rfl⟩
  show (wrapZ (k : Int) (viewL sites).length).toNat = k
  unfold wrapZ
  rw [show (k : Int) % 18446744073709551616 = (k : Int) by omega, Int.emod_eq_of_lt (by omega) hk]
  omega
set_option maxRecDepth 10000 in
set_option maxHeartbeats 4000000 in
theorem BeatAgree_ok {A : Option Addr} {cap : Nat} {sites : List Int} {A1 : Option Addr} {k1' : Nat} {one : List Int} {A2 : Option Addr} {k2' : Nat} {two : List Int} {A3 : Option Addr} {k3' : Nat} {bt : List Int} (home : Int) (w0 : World) (ht : Tab w0) (hq : ∀ z ∈ sites, -9223372036854775808 ≤ z ∧ z ≤ 9223372036854775807)
    (h : RdL w0 intE A cap sites) (h1 : RdL w0 intE A1 k1' one) (h2 : RdL w0 intE A2 k2' two) (h3 : RdL w0 intE A3 k3' bt) :
    Fn Tryd.prog 6 [.slice A sites.length cap, .slice A1 one.length k1', .slice A2 two.length k2', .slice A3 bt.length k3', .int .i64 home] w0 fun v w' => v = .bool true ∧ Mem w0 w' [] := by
  have M := Mem.refl w0
  obtain ⟨w, hw⟩ : ∃ w, w = w0 := ⟨w0, rfl⟩
  refine Fn.enter Tryd.func6 rfl Tryd.ntmps6 rfl ?_
  refine W.sub [(0, _), (1, _), (2, _), (3, _), (4, _)] (.cons rfl (.cons rfl (.cons rfl (.cons rfl (.cons rfl .nil))))) ?_
  refine W.seq ?_
  refine W.region ?_
  refine WL.assign rfl rfl ?_
  refine WL.nil ?_
  refine WX.next ?_
  refine W.sub [(0, _), (1, _), (2, _), (3, _), (4, _)] (.cons rfl (.cons rfl (.cons rfl (.cons rfl (.cons rfl .nil))))) ?_
  refine W.seq ?_
  refine W.seq ?_
  refine W.region ?_
  refine WL.move rfl rfl ?_
  refine WL.len Tryd.underlying22 rfl rfl ?_
  refine WL.lss rfl rfl rfl ?_
  refine WL.nil ?_
  refine WX.next ?_
  refine W.sub [(0, _), (1, _), (2, _), (3, _), (4, _), (19, _)] (.cons rfl (.cons rfl (.cons rfl (.cons rfl (.cons rfl (.cons rfl .nil)))))) ?_
  refine W.ite rfl (fun c0 => ?_) (fun c0 => ?_)
  · refine W.seq ?_
    refine W.region ?_
    refine WL.call Tryd.call10 rfl (known14_ok _ (ht.mem M)) rfl ?_
    rintro _ w ⟨rfl, m⟩
    replace M := M.call0 m; clear m
    refine WL.assign rfl rfl ?_
    refine WL.nil ?_
    refine WX.next ?_
    refine W.sub [(10, _)] (.cons rfl .nil) ?_
    refine W.ret ?_
    refine WX.thenRet ?_
    refine WX.ret1 rfl rfl ?_
    exact ⟨by simp, M.sel (by first | ((repeat (first | with_reducible exact Sel.refl | with_reducible exact Sel.nil | with_reducible exact Del.here | with_reducible apply Del.there | with_reducible apply Sel.cons | with_reducible apply Sel.drop)); done) | (repeat (first | exact Sel.refl | exact Sel.nil | exact Del.here | apply Del.there | apply Sel.cons | apply Sel.drop)))⟩
  · have hvl : 2 ≤ (viewL sites).length := by
      unfold viewL
      rw [if_neg (fun e => by rw [e] at c0; exact c0 (by decide))]
      unfold viewM
      rw [List.length_map, List.length_take]
      omega
    have m0 := viewV_me sites (k := 0) (by omega) (by decide) 3
    have m1 := viewV_me sites (k := 1) (by omega) (by decide) 3
    have hw4 : 1 + wrapZ 3 9 = 4 := by decide
    rw [hw4] at m0 m1
    have okV := view_okV sites 0 3
    have okW := view_okV sites 1 3
    refine W.skip ?_
    refine WX.next ?_
    refine W.seq ?_
    refine W.region ?_
    refine WL.move rfl rfl ?_
    refine WL.call Tryd.call27 rfl (view_ok hq 0 3 (h.mem M)) rfl ?_
    rintro _ w ⟨a, rfl, m⟩
    have M2 : Mem w0 w (bvL a (viewV sites 0 3) ++ []) := (M.callN m).sel (by first | ((repeat (first | with_reducible exact Sel.refl | with_reducible exact Sel.nil | with_reducible exact Del.here | with_reducible apply Del.there | with_reducible apply Sel.cons | with_reducible apply Sel.drop)); done) | (repeat (first | exact Sel.refl | exact Sel.nil | exact Del.here | apply Del.there | apply Sel.cons | apply Sel.drop)))
    replace M := M2
    refine WL.assign rfl rfl ?_
    refine WL.nil ?_
    refine WX.next ?_
    refine W.sub [(0, _), (1, _), (2, _), (3, _), (4, _), (11, _)] (.cons rfl (.cons rfl (.cons rfl (.cons rfl (.cons rfl (.cons rfl .nil)))))) ?_
    refine W.seq ?_
    refine W.region ?_
    refine WL.move rfl rfl ?_
    refine WL.call Tryd.call27 rfl (view_ok hq 1 3 (h.mem M)) rfl ?_
    rintro _ w ⟨b, rfl, m⟩
    have M2 : Mem w0 w (bvL b (viewV sites 1 3) ++ (bvL a (viewV sites 0 3) ++ [])) := M.callN m
    replace M := M2
    obtain ⟨V, hV⟩ : ∃ V, viewV sites 0 3 = V := ⟨_, rfl⟩
    obtain ⟨U, hU⟩ : ∃ U, viewV sites 1 3 = U := ⟨_, rfl⟩
    have m0' : V.me = 0 ∧ V.sites = viewL sites ∧ V.pat = 4 := by rw [← hV]; exact m0
    have m1' : U.me = 1 ∧ U.sites = viewL sites ∧ U.pat = 4 := by rw [← hU]; exact m1
    rw [hV] at M okV
    rw [hU] at M okW
    refine WL.assign rfl rfl ?_
    refine WL.nil ?_
    refine WX.next ?_
    refine W.sub [(1, _), (2, _), (3, _), (4, _), (11, _), (12, _)] (.cons rfl (.cons rfl (.cons rfl (.cons rfl (.cons rfl (.cons rfl .nil)))))) ?_
    refine W.seq ?_
    refine W.seq ?_
    refine W.region ?_
    refine WL.move rfl rfl ?_
    refine WL.eqNilF Tryd.underlying24 rfl rfl rfl ?_
    refine WL.move rfl rfl ?_
    refine WL.on rfl rfl ?_
    refine WL.move rfl rfl ?_
    refine WL.on rfl rfl ?_
    refine WL.eqNilF Tryd.underlying24 rfl rfl rfl ?_
    refine WL.pickF rfl rfl rfl ?_
    refine WL.nil ?_
    refine WX.next ?_
    refine W.sub [(1, _), (2, _), (3, _), (4, _), (11, _), (12, _), (30, _)] (.cons rfl (.cons rfl (.cons rfl (.cons rfl (.cons rfl (.cons rfl (.cons rfl .nil))))))) ?_
    refine W.condF rfl ?_
    refine W.skip ?_
    refine WX.next ?_
    refine W.joint (fun (s : Bv) => [(2, .slice A2 two.length k2'), (3, .slice A3 bt.length k3'), (4, .int .i64 home), (11, .pointer (some ⟨a.g, 0, none⟩)), (12, .pointer (some ⟨b.g, 0, none⟩))]) (fun j w => Mem w0 w ((fun s => bvL b U ++ bvL a s) j) ∧ (fun s => s.Ok ∧ s.me = 0 ∧ s.sites = viewL sites ∧ s.pat = 4) j) ?_ ?_
    · refine W.seq ?_
      refine W.region ?_
      refine WL.assign rfl rfl ?_
      refine WL.nil ?_
      refine WX.next ?_
      refine W.sub [(1, _), (2, _), (3, _), (4, _), (11, _), (12, _), (13, _)] (.cons rfl (.cons rfl (.cons rfl (.cons rfl (.cons rfl (.cons rfl (.cons rfl .nil))))))) ?_
      refine W.block ?_
      refine W.loop (ι := Nat) (fun i => [(1, .slice A1 one.length k1'), (2, .slice A2 two.length k2'), (3, .slice A3 bt.length k3'), (4, .int .i64 home), (11, .pointer (some ⟨a.g, 0, none⟩)), (12, .pointer (some ⟨b.g, 0, none⟩)), (13, .int .i64 (i : Int))]) (fun zz w => Mem w0 w ((fun i => bvL a (runS V (one.take i)) ++ bvL b U) zz) ∧ (fun i => i ≤ one.length) zz) (fun i => one.length - i) (0) (by (repeat' (first | exact envSub.nil | refine envSub.cons ?_ ?_)) <;> first | rfl | (refine congrArg some ?_; refine congrArg (Value.int _) ?_; first | omega | (dsimp only; omega)) | (simp; done) | (refine congrArg some ?_; dsimp only; congr 1; omega) | (simp; omega)) ⟨M.sel (K := bvL a V ++ bvL b U) (by first | ((repeat (first | with_reducible exact Sel.refl | with_reducible exact Sel.nil | with_reducible exact Del.here | with_reducible apply Del.there | with_reducible apply Sel.cons | with_reducible apply Sel.drop)); done) | (repeat (first | exact Sel.refl | exact Sel.nil | exact Del.here | apply Del.there | apply Sel.cons | apply Sel.drop))), Nat.zero_le _⟩ ?_
      clear M; rintro (i) w ⟨M, hi⟩; dsimp only at M hi ⊢
      refine W.sub [(1, _), (2, _), (3, _), (4, _), (11, _), (12, _), (13, _)] (.cons rfl (.cons rfl (.cons rfl (.cons rfl (.cons rfl (.cons rfl (.cons rfl .nil))))))) ?_
      refine W.seq ?_
      refine W.seq ?_
      refine W.region ?_
      refine WL.move rfl rfl ?_
      refine WL.move rfl rfl ?_
      refine WL.len Tryd.underlying22 rfl rfl ?_
      refine WL.lss rfl rfl rfl ?_
      refine WL.moveIf rfl rfl (fun c3 => ?_) (fun c3 => ?_)
      · refine WL.on rfl rfl ?_
        refine WL.move rfl rfl ?_
        refine WL.on rfl rfl ?_
        refine WL.lss rfl rfl rfl ?_
        refine WL.pickT rfl rfl rfl ?_
        refine WL.nil ?_
        refine WX.next ?_
        refine W.sub [(1, _), (2, _), (3, _), (4, _), (11, _), (12, _), (13, _), (38, _)] (.cons rfl (.cons rfl (.cons rfl (.cons rfl (.cons rfl (.cons rfl (.cons rfl (.cons rfl .nil)))))))) ?_
        refine W.ite rfl (fun c4 => ?_) (fun c4 => ?_)
        · have hil : i < one.length := by omega
          have hrt := runS_take (s := V) hil
          have okR := okV.run (one.take i)
          refine W.skip ?_
          refine WX.next ?_
          refine W.seq ?_
          refine W.block ?_
          refine W.seq ?_
          refine W.region ?_
          refine WL.move rfl rfl ?_
          refine WL.move rfl rfl ?_
          refine WL.idxA Tryd.underlying22 Tryd.sizeOf3 rfl rfl (RdL.isSome (E := intE) (by first | with_reducible assumption | with_reducible exact RdL.mem (by with_reducible assumption) M | exact M.rdL (by first | ((repeat (first | with_reducible exact Has.here | with_reducible refine Has.there ?_)); done) | (repeat (first | exact Has.here | refine Has.there ?_))) | exact RdLH.at (by assumption) (M.sel (by first | ((repeat (first | with_reducible exact Sel.refl | with_reducible exact Sel.nil | with_reducible exact Del.here | with_reducible apply Del.there | with_reducible apply Sel.cons | with_reducible apply Sel.drop)); done) | (repeat (first | exact Sel.refl | exact Sel.nil | exact Del.here | apply Del.there | apply Sel.cons | apply Sel.drop)))) | exact RdL.nil _ _ _) (by omega)) (by omega) (by omega) (by first | exact rfl | exact (Int.toNat_of_nonneg (by omega)).symm) rfl ?_
          refine WL.loadE0 (E := intE) Tryd.isAgg3 rfl (by first | with_reducible assumption | with_reducible exact RdL.mem (by with_reducible assumption) M | exact M.rdL (by first | ((repeat (first | with_reducible exact Has.here | with_reducible refine Has.there ?_)); done) | (repeat (first | exact Has.here | refine Has.there ?_))) | exact RdLH.at (by assumption) (M.sel (by first | ((repeat (first | with_reducible exact Sel.refl | with_reducible exact Sel.nil | with_reducible exact Del.here | with_reducible apply Del.there | with_reducible apply Sel.cons | with_reducible apply Sel.drop)); done) | (repeat (first | exact Sel.refl | exact Sel.nil | exact Del.here | apply Del.there | apply Sel.cons | apply Sel.drop)))) | exact RdL.nil _ _ _) (by omega) rfl rfl ?_
          refine WL.lss rfl rfl rfl ?_
          refine WL.nil ?_
          refine WX.next ?_
          refine W.sub [(1, _), (2, _), (3, _), (4, _), (11, _), (12, _), (13, _), (45, _)] (.cons rfl (.cons rfl (.cons rfl (.cons rfl (.cons rfl (.cons rfl (.cons rfl (.cons rfl .nil)))))))) ?_
          refine W.ite rfl (fun c5 => ?_) (fun c5 => ?_)
          · refine W.region ?_
            refine WL.move rfl rfl ?_
            refine WL.call Tryd.call13 rfl (Tick_ok2 a _ okR w0 _ _ M) rfl ?_
            intro _ w M
            refine WL.nil ?_
            refine WX.blockNormal ?_
            refine WX.next ?_
            refine W.sub [(1, _), (2, _), (3, _), (4, _), (11, _), (12, _), (13, _)] (.cons rfl (.cons rfl (.cons rfl (.cons rfl (.cons rfl (.cons rfl (.cons rfl .nil))))))) ?_
            refine W.region ?_
            refine WL.move rfl rfl ?_
            refine WL.add rfl rfl (by first | exact wI64 (by omega) | rfl) rfl ?_
            refine WL.assign rfl rfl ?_
            refine WL.nil ?_
            rw [show tickS (runS V (one.take i)) = runS V (one.take (i + 1)) by rw [hrt]; unfold actS; rw [if_pos (by omega)]] at M
            refine WX.round (i + 1) (by (repeat' (first | exact envSub.nil | refine envSub.cons ?_ ?_)) <;> first | rfl | (refine congrArg some ?_; refine congrArg (Value.int _) ?_; first | omega | (dsimp only; omega)) | (simp; done) | (refine congrArg some ?_; dsimp only; congr 1; omega) | (simp; omega)) ⟨M.sel (by first | ((repeat (first | with_reducible exact Sel.refl | with_reducible exact Sel.nil | with_reducible exact Del.here | with_reducible apply Del.there | with_reducible apply Sel.cons | with_reducible apply Sel.drop)); done) | (repeat (first | exact Sel.refl | exact Sel.nil | exact Del.here | apply Del.there | apply Sel.cons | apply Sel.drop))), by omega⟩ (by first | omega | (dsimp only; omega))
          · refine W.region ?_
            refine WL.move rfl rfl ?_
            refine WL.move rfl rfl ?_
            refine WL.move rfl rfl ?_
            refine WL.idxA Tryd.underlying22 Tryd.sizeOf3 rfl rfl (RdL.isSome (E := intE) (by first | with_reducible assumption | with_reducible exact RdL.mem (by with_reducible assumption) M | exact M.rdL (by first | ((repeat (first | with_reducible exact Has.here | with_reducible refine Has.there ?_)); done) | (repeat (first | exact Has.here | refine Has.there ?_))) | exact RdLH.at (by assumption) (M.sel (by first | ((repeat (first | with_reducible exact Sel.refl | with_reducible exact Sel.nil | with_reducible exact Del.here | with_reducible apply Del.there | with_reducible apply Sel.cons | with_reducible apply Sel.drop)); done) | (repeat (first | exact Sel.refl | exact Sel.nil | exact Del.here | apply Del.there | apply Sel.cons | apply Sel.drop)))) | exact RdL.nil _ _ _) (by omega)) (by omega) (by omega) (by first | exact rfl | exact (Int.toNat_of_nonneg (by omega)).symm) rfl ?_
            refine WL.loadE0 (E := intE) Tryd.isAgg3 rfl (by first | with_reducible assumption | with_reducible exact RdL.mem (by with_reducible assumption) M | exact M.rdL (by first | ((repeat (first | with_reducible exact Has.here | with_reducible refine Has.there ?_)); done) | (repeat (first | exact Has.here | refine Has.there ?_))) | exact RdLH.at (by assumption) (M.sel (by first | ((repeat (first | with_reducible exact Sel.refl | with_reducible exact Sel.nil | with_reducible exact Del.here | with_reducible apply Del.there | with_reducible apply Sel.cons | with_reducible apply Sel.drop)); done) | (repeat (first | exact Sel.refl | exact Sel.nil | exact Del.here | apply Del.there | apply Sel.cons | apply Sel.drop)))) | exact RdL.nil _ _ _) (by omega) rfl rfl ?_
            refine WL.call Tryd.call15 rfl (Hear_ok2 a _ okR (el one i) w0 _ _ M) rfl ?_
            rintro _ w ⟨-, M⟩
            refine WL.nil ?_
            refine WX.blockNormal ?_
            refine WX.next ?_
            refine W.sub [(1, _), (2, _), (3, _), (4, _), (11, _), (12, _), (13, _)] (.cons rfl (.cons rfl (.cons rfl (.cons rfl (.cons rfl (.cons rfl (.cons rfl .nil))))))) ?_
            refine W.region ?_
            refine WL.move rfl rfl ?_
            refine WL.add rfl rfl (by first | exact wI64 (by omega) | rfl) rfl ?_
            refine WL.assign rfl rfl ?_
            refine WL.nil ?_
            rw [show hearZ (runS V (one.take i)) (el one i) = runS V (one.take (i + 1)) by rw [hrt]; unfold actS; rw [if_neg (by omega)]] at M
            refine WX.round (i + 1) (by (repeat' (first | exact envSub.nil | refine envSub.cons ?_ ?_)) <;> first | rfl | (refine congrArg some ?_; refine congrArg (Value.int _) ?_; first | omega | (dsimp only; omega)) | (simp; done) | (refine congrArg some ?_; dsimp only; congr 1; omega) | (simp; omega)) ⟨M.sel (by first | ((repeat (first | with_reducible exact Sel.refl | with_reducible exact Sel.nil | with_reducible exact Del.here | with_reducible apply Del.there | with_reducible apply Sel.cons | with_reducible apply Sel.drop)); done) | (repeat (first | exact Sel.refl | exact Sel.nil | exact Del.here | apply Del.there | apply Sel.cons | apply Sel.drop))), by omega⟩ (by first | omega | (dsimp only; omega))
        · refine W.exit ?_
          refine WX.thenExit ?_
          refine WX.thenExit ?_
          refine WX.blockHere ?_
          have hrp := runS_parts V (one.take i)
          refine WX.join (runS V (one.take i)) (by (repeat' (first | exact envSub.nil | refine envSub.cons ?_ ?_)) <;> first | rfl | (refine congrArg some ?_; refine congrArg (Value.int _) ?_; first | omega | (dsimp only; omega)) | (simp; done) | (refine congrArg some ?_; dsimp only; congr 1; omega) | (simp; omega)) ⟨M.sel (K := bvL b U ++ bvL a (runS V (one.take i))) (by first | ((repeat (first | with_reducible exact Sel.refl | with_reducible exact Sel.nil | with_reducible exact Del.here | with_reducible apply Del.there | with_reducible apply Sel.cons | with_reducible apply Sel.drop)); done) | (repeat (first | exact Sel.refl | exact Sel.nil | exact Del.here | apply Del.there | apply Sel.cons | apply Sel.drop))), ⟨okV.run _, hrp.2.1.trans m0'.1, hrp.1.trans m0'.2.1, hrp.2.2.trans m0'.2.2⟩⟩
      · refine WL.off rfl rfl rfl rfl ?_
        refine WL.off rfl rfl rfl rfl ?_
        refine WL.pickF rfl rfl rfl ?_
        refine WL.nil ?_
        refine WX.next ?_
        refine W.sub [(1, _), (2, _), (3, _), (4, _), (11, _), (12, _), (13, _), (38, _)] (.cons rfl (.cons rfl (.cons rfl (.cons rfl (.cons rfl (.cons rfl (.cons rfl (.cons rfl .nil)))))))) ?_
        refine W.condF rfl ?_
        refine W.exit ?_
        refine WX.thenExit ?_
        refine WX.thenExit ?_
        refine WX.blockHere ?_
        have hrp := runS_parts V (one.take i)
        refine WX.join (runS V (one.take i)) (by (repeat' (first | exact envSub.nil | refine envSub.cons ?_ ?_)) <;> first | rfl | (refine congrArg some ?_; refine congrArg (Value.int _) ?_; first | omega | (dsimp only; omega)) | (simp; done) | (refine congrArg some ?_; dsimp only; congr 1; omega) | (simp; omega)) ⟨M.sel (K := bvL b U ++ bvL a (runS V (one.take i))) (by first | ((repeat (first | with_reducible exact Sel.refl | with_reducible exact Sel.nil | with_reducible exact Del.here | with_reducible apply Del.there | with_reducible apply Sel.cons | with_reducible apply Sel.drop)); done) | (repeat (first | exact Sel.refl | exact Sel.nil | exact Del.here | apply Del.there | apply Sel.cons | apply Sel.drop))), ⟨okV.run _, hrp.2.1.trans m0'.1, hrp.1.trans m0'.2.1, hrp.2.2.trans m0'.2.2⟩⟩
    clear M; rintro (S) w ⟨M, ⟨okS, S1, S2, S3⟩⟩; dsimp only at M okS S1 S2 S3 ⊢
    refine W.sub [(2, _), (3, _), (4, _), (11, _), (12, _)] (.cons rfl (.cons rfl (.cons rfl (.cons rfl (.cons rfl .nil))))) ?_
    refine W.joint (fun (s : Bv) => [(3, .slice A3 bt.length k3'), (4, .int .i64 home), (11, .pointer (some ⟨a.g, 0, none⟩)), (12, .pointer (some ⟨b.g, 0, none⟩))]) (fun j w => Mem w0 w ((fun s => bvL a S ++ bvL b s) j) ∧ (fun s => s.Ok ∧ s.me = 1 ∧ s.sites = viewL sites ∧ s.pat = 4) j) ?_ ?_
    · refine W.seq ?_
      refine W.region ?_
      refine WL.assign rfl rfl ?_
      refine WL.nil ?_
      refine WX.next ?_
      refine W.sub [(2, _), (3, _), (4, _), (11, _), (12, _), (14, _)] (.cons rfl (.cons rfl (.cons rfl (.cons rfl (.cons rfl (.cons rfl .nil)))))) ?_
      refine W.block ?_
      refine W.loop (ι := Nat) (fun i => [(2, .slice A2 two.length k2'), (3, .slice A3 bt.length k3'), (4, .int .i64 home), (11, .pointer (some ⟨a.g, 0, none⟩)), (12, .pointer (some ⟨b.g, 0, none⟩)), (14, .int .i64 (i : Int))]) (fun zz w => Mem w0 w ((fun i => bvL b (runS U (two.take i)) ++ bvL a S) zz) ∧ (fun i => i ≤ two.length) zz) (fun i => two.length - i) (0) (by (repeat' (first | exact envSub.nil | refine envSub.cons ?_ ?_)) <;> first | rfl | (refine congrArg some ?_; refine congrArg (Value.int _) ?_; first | omega | (dsimp only; omega)) | (simp; done) | (refine congrArg some ?_; dsimp only; congr 1; omega) | (simp; omega)) ⟨M.sel (by first | ((repeat (first | with_reducible exact Sel.refl | with_reducible exact Sel.nil | with_reducible exact Del.here | with_reducible apply Del.there | with_reducible apply Sel.cons | with_reducible apply Sel.drop)); done) | (repeat (first | exact Sel.refl | exact Sel.nil | exact Del.here | apply Del.there | apply Sel.cons | apply Sel.drop))), Nat.zero_le _⟩ ?_
      clear M; rintro (i) w ⟨M, hi⟩; dsimp only at M hi ⊢
      refine W.sub [(2, _), (3, _), (4, _), (11, _), (12, _), (14, _)] (.cons rfl (.cons rfl (.cons rfl (.cons rfl (.cons rfl (.cons rfl .nil)))))) ?_
      refine W.seq ?_
      refine W.seq ?_
      refine W.region ?_
      refine WL.move rfl rfl ?_
      refine WL.move rfl rfl ?_
      refine WL.len Tryd.underlying22 rfl rfl ?_
      refine WL.lss rfl rfl rfl ?_
      refine WL.moveIf rfl rfl (fun c6 => ?_) (fun c6 => ?_)
      · refine WL.on rfl rfl ?_
        refine WL.move rfl rfl ?_
        refine WL.on rfl rfl ?_
        refine WL.lss rfl rfl rfl ?_
        refine WL.pickT rfl rfl rfl ?_
        refine WL.nil ?_
        refine WX.next ?_
        refine W.sub [(2, _), (3, _), (4, _), (11, _), (12, _), (14, _), (61, _)] (.cons rfl (.cons rfl (.cons rfl (.cons rfl (.cons rfl (.cons rfl (.cons rfl .nil))))))) ?_
        refine W.ite rfl (fun c7 => ?_) (fun c7 => ?_)
        · have hil : i < two.length := by omega
          have hrt := runS_take (s := U) hil
          have okR := okW.run (two.take i)
          refine W.skip ?_
          refine WX.next ?_
          refine W.seq ?_
          refine W.block ?_
          refine W.seq ?_
          refine W.region ?_
          refine WL.move rfl rfl ?_
          refine WL.move rfl rfl ?_
          refine WL.idxA Tryd.underlying22 Tryd.sizeOf3 rfl rfl (RdL.isSome (E := intE) (by first | with_reducible assumption | with_reducible exact RdL.mem (by with_reducible assumption) M | exact M.rdL (by first | ((repeat (first | with_reducible exact Has.here | with_reducible refine Has.there ?_)); done) | (repeat (first | exact Has.here | refine Has.there ?_))) | exact RdLH.at (by assumption) (M.sel (by first | ((repeat (first | with_reducible exact Sel.refl | with_reducible exact Sel.nil | with_reducible exact Del.here | with_reducible apply Del.there | with_reducible apply Sel.cons | with_reducible apply Sel.drop)); done) | (repeat (first | exact Sel.refl | exact Sel.nil | exact Del.here | apply Del.there | apply Sel.cons | apply Sel.drop)))) | exact RdL.nil _ _ _) (by omega)) (by omega) (by omega) (by first | exact rfl | exact (Int.toNat_of_nonneg (by omega)).symm) rfl ?_
          refine WL.loadE0 (E := intE) Tryd.isAgg3 rfl (by first | with_reducible assumption | with_reducible exact RdL.mem (by with_reducible assumption) M | exact M.rdL (by first | ((repeat (first | with_reducible exact Has.here | with_reducible refine Has.there ?_)); done) | (repeat (first | exact Has.here | refine Has.there ?_))) | exact RdLH.at (by assumption) (M.sel (by first | ((repeat (first | with_reducible exact Sel.refl | with_reducible exact Sel.nil | with_reducible exact Del.here | with_reducible apply Del.there | with_reducible apply Sel.cons | with_reducible apply Sel.drop)); done) | (repeat (first | exact Sel.refl | exact Sel.nil | exact Del.here | apply Del.there | apply Sel.cons | apply Sel.drop)))) | exact RdL.nil _ _ _) (by omega) rfl rfl ?_
          refine WL.lss rfl rfl rfl ?_
          refine WL.nil ?_
          refine WX.next ?_
          refine W.sub [(2, _), (3, _), (4, _), (11, _), (12, _), (14, _), (68, _)] (.cons rfl (.cons rfl (.cons rfl (.cons rfl (.cons rfl (.cons rfl (.cons rfl .nil))))))) ?_
          refine W.ite rfl (fun c8 => ?_) (fun c8 => ?_)
          · refine W.region ?_
            refine WL.move rfl rfl ?_
            refine WL.call Tryd.call13 rfl (Tick_ok2 b _ okR w0 _ _ M) rfl ?_
            intro _ w M
            refine WL.nil ?_
            refine WX.blockNormal ?_
            refine WX.next ?_
            refine W.sub [(2, _), (3, _), (4, _), (11, _), (12, _), (14, _)] (.cons rfl (.cons rfl (.cons rfl (.cons rfl (.cons rfl (.cons rfl .nil)))))) ?_
            refine W.region ?_
            refine WL.move rfl rfl ?_
            refine WL.add rfl rfl (by first | exact wI64 (by omega) | rfl) rfl ?_
            refine WL.assign rfl rfl ?_
            refine WL.nil ?_
            rw [show tickS (runS U (two.take i)) = runS U (two.take (i + 1)) by rw [hrt]; unfold actS; rw [if_pos (by omega)]] at M
            refine WX.round (i + 1) (by (repeat' (first | exact envSub.nil | refine envSub.cons ?_ ?_)) <;> first | rfl | (refine congrArg some ?_; refine congrArg (Value.int _) ?_; first | omega | (dsimp only; omega)) | (simp; done) | (refine congrArg some ?_; dsimp only; congr 1; omega) | (simp; omega)) ⟨M.sel (by first | ((repeat (first | with_reducible exact Sel.refl | with_reducible exact Sel.nil | with_reducible exact Del.here | with_reducible apply Del.there | with_reducible apply Sel.cons | with_reducible apply Sel.drop)); done) | (repeat (first | exact Sel.refl | exact Sel.nil | exact Del.here | apply Del.there | apply Sel.cons | apply Sel.drop))), by omega⟩ (by first | omega | (dsimp only; omega))
          · refine W.region ?_
            refine WL.move rfl rfl ?_
            refine WL.move rfl rfl ?_
            refine WL.move rfl rfl ?_
            refine WL.idxA Tryd.underlying22 Tryd.sizeOf3 rfl rfl (RdL.isSome (E := intE) (by first | with_reducible assumption | with_reducible exact RdL.mem (by with_reducible assumption) M | exact M.rdL (by first | ((repeat (first | with_reducible exact Has.here | with_reducible refine Has.there ?_)); done) | (repeat (first | exact Has.here | refine Has.there ?_))) | exact RdLH.at (by assumption) (M.sel (by first | ((repeat (first | with_reducible exact Sel.refl | with_reducible exact Sel.nil | with_reducible exact Del.here | with_reducible apply Del.there | with_reducible apply Sel.cons | with_reducible apply Sel.drop)); done) | (repeat (first | exact Sel.refl | exact Sel.nil | exact Del.here | apply Del.there | apply Sel.cons | apply Sel.drop)))) | exact RdL.nil _ _ _) (by omega)) (by omega) (by omega) (by first | exact rfl | exact (Int.toNat_of_nonneg (by omega)).symm) rfl ?_
            refine WL.loadE0 (E := intE) Tryd.isAgg3 rfl (by first | with_reducible assumption | with_reducible exact RdL.mem (by with_reducible assumption) M | exact M.rdL (by first | ((repeat (first | with_reducible exact Has.here | with_reducible refine Has.there ?_)); done) | (repeat (first | exact Has.here | refine Has.there ?_))) | exact RdLH.at (by assumption) (M.sel (by first | ((repeat (first | with_reducible exact Sel.refl | with_reducible exact Sel.nil | with_reducible exact Del.here | with_reducible apply Del.there | with_reducible apply Sel.cons | with_reducible apply Sel.drop)); done) | (repeat (first | exact Sel.refl | exact Sel.nil | exact Del.here | apply Del.there | apply Sel.cons | apply Sel.drop)))) | exact RdL.nil _ _ _) (by omega) rfl rfl ?_
            refine WL.call Tryd.call15 rfl (Hear_ok2 b _ okR (el two i) w0 _ _ M) rfl ?_
            rintro _ w ⟨-, M⟩
            refine WL.nil ?_
            refine WX.blockNormal ?_
            refine WX.next ?_
            refine W.sub [(2, _), (3, _), (4, _), (11, _), (12, _), (14, _)] (.cons rfl (.cons rfl (.cons rfl (.cons rfl (.cons rfl (.cons rfl .nil)))))) ?_
            refine W.region ?_
            refine WL.move rfl rfl ?_
            refine WL.add rfl rfl (by first | exact wI64 (by omega) | rfl) rfl ?_
            refine WL.assign rfl rfl ?_
            refine WL.nil ?_
            rw [show hearZ (runS U (two.take i)) (el two i) = runS U (two.take (i + 1)) by rw [hrt]; unfold actS; rw [if_neg (by omega)]] at M
            refine WX.round (i + 1) (by (repeat' (first | exact envSub.nil | refine envSub.cons ?_ ?_)) <;> first | rfl | (refine congrArg some ?_; refine congrArg (Value.int _) ?_; first | omega | (dsimp only; omega)) | (simp; done) | (refine congrArg some ?_; dsimp only; congr 1; omega) | (simp; omega)) ⟨M.sel (by first | ((repeat (first | with_reducible exact Sel.refl | with_reducible exact Sel.nil | with_reducible exact Del.here | with_reducible apply Del.there | with_reducible apply Sel.cons | with_reducible apply Sel.drop)); done) | (repeat (first | exact Sel.refl | exact Sel.nil | exact Del.here | apply Del.there | apply Sel.cons | apply Sel.drop))), by omega⟩ (by first | omega | (dsimp only; omega))
        · refine W.exit ?_
          refine WX.thenExit ?_
          refine WX.thenExit ?_
          refine WX.blockHere ?_
          have hrp := runS_parts U (two.take i)
          refine WX.join (runS U (two.take i)) (by (repeat' (first | exact envSub.nil | refine envSub.cons ?_ ?_)) <;> first | rfl | (refine congrArg some ?_; refine congrArg (Value.int _) ?_; first | omega | (dsimp only; omega)) | (simp; done) | (refine congrArg some ?_; dsimp only; congr 1; omega) | (simp; omega)) ⟨M.sel (K := bvL a S ++ bvL b (runS U (two.take i))) (by first | ((repeat (first | with_reducible exact Sel.refl | with_reducible exact Sel.nil | with_reducible exact Del.here | with_reducible apply Del.there | with_reducible apply Sel.cons | with_reducible apply Sel.drop)); done) | (repeat (first | exact Sel.refl | exact Sel.nil | exact Del.here | apply Del.there | apply Sel.cons | apply Sel.drop))), ⟨okW.run _, hrp.2.1.trans m1'.1, hrp.1.trans m1'.2.1, hrp.2.2.trans m1'.2.2⟩⟩
      · refine WL.off rfl rfl rfl rfl ?_
        refine WL.off rfl rfl rfl rfl ?_
        refine WL.pickF rfl rfl rfl ?_
        refine WL.nil ?_
        refine WX.next ?_
        refine W.sub [(2, _), (3, _), (4, _), (11, _), (12, _), (14, _), (61, _)] (.cons rfl (.cons rfl (.cons rfl (.cons rfl (.cons rfl (.cons rfl (.cons rfl .nil))))))) ?_
        refine W.condF rfl ?_
        refine W.exit ?_
        refine WX.thenExit ?_
        refine WX.thenExit ?_
        refine WX.blockHere ?_
        have hrp := runS_parts U (two.take i)
        refine WX.join (runS U (two.take i)) (by (repeat' (first | exact envSub.nil | refine envSub.cons ?_ ?_)) <;> first | rfl | (refine congrArg some ?_; refine congrArg (Value.int _) ?_; first | omega | (dsimp only; omega)) | (simp; done) | (refine congrArg some ?_; dsimp only; congr 1; omega) | (simp; omega)) ⟨M.sel (K := bvL a S ++ bvL b (runS U (two.take i))) (by first | ((repeat (first | with_reducible exact Sel.refl | with_reducible exact Sel.nil | with_reducible exact Del.here | with_reducible apply Del.there | with_reducible apply Sel.cons | with_reducible apply Sel.drop)); done) | (repeat (first | exact Sel.refl | exact Sel.nil | exact Del.here | apply Del.there | apply Sel.cons | apply Sel.drop))), ⟨okW.run _, hrp.2.1.trans m1'.1, hrp.1.trans m1'.2.1, hrp.2.2.trans m1'.2.2⟩⟩
    clear M; rintro (T) w ⟨M, ⟨okT, T1, T2, T3⟩⟩; dsimp only at M okT T1 T2 T3 ⊢
    refine W.sub [(3, _), (4, _), (11, _), (12, _)] (.cons rfl (.cons rfl (.cons rfl (.cons rfl .nil)))) ?_
    refine W.seq ?_
    refine W.seq ?_
    refine W.region ?_
    refine WL.assign rfl rfl ?_
    refine WL.nil ?_
    refine WX.next ?_
    refine W.sub [(3, _), (4, _), (11, _), (12, _), (15, _)] (.cons rfl (.cons rfl (.cons rfl (.cons rfl (.cons rfl .nil))))) ?_
    refine W.block ?_
    refine W.loop (ι := Nat × Bv × Bv) (fun z => [(3, .slice A3 bt.length k3'), (4, .int .i64 home), (11, .pointer (some ⟨a.g, 0, none⟩)), (12, .pointer (some ⟨b.g, 0, none⟩)), (15, .int .i64 (z.1 : Int))]) (fun zz w => Mem w0 w ((fun z => bvL a z.2.1 ++ bvL b z.2.2) zz) ∧ (fun z => z.1 ≤ 4 ∧ Agr (viewL sites) 0 1 (bt.take 30) z.1 z.2.1 ∧ Agr (viewL sites) 1 0 (bt.take 30) z.1 z.2.2) zz) (fun z => 4 - z.1) ((0, S, T)) (by (repeat' (first | exact envSub.nil | refine envSub.cons ?_ ?_)) <;> first | rfl | (refine congrArg some ?_; refine congrArg (Value.int _) ?_; first | omega | (dsimp only; omega)) | (simp; done) | (refine congrArg some ?_; dsimp only; congr 1; omega) | (simp; omega)) ⟨M.sel (by first | ((repeat (first | with_reducible exact Sel.refl | with_reducible exact Sel.nil | with_reducible exact Del.here | with_reducible apply Del.there | with_reducible apply Sel.cons | with_reducible apply Sel.drop)); done) | (repeat (first | exact Sel.refl | exact Sel.nil | exact Del.here | apply Del.there | apply Sel.cons | apply Sel.drop))), ⟨Nat.zero_le _, .zero okS S2 S1 S3, .zero okT T2 T1 T3⟩⟩ ?_
    clear M; rintro (⟨r, s, t⟩) w ⟨M, ⟨hr, gs, gt⟩⟩; dsimp only at M hr gs gt ⊢
    refine W.sub [(3, _), (4, _), (11, _), (12, _), (15, _)] (.cons rfl (.cons rfl (.cons rfl (.cons rfl (.cons rfl .nil))))) ?_
    refine W.seq ?_
    refine W.seq ?_
    refine W.region ?_
    refine WL.move rfl rfl ?_
    refine WL.lss rfl rfl rfl ?_
    refine WL.nil ?_
    refine WX.next ?_
    refine W.sub [(3, _), (4, _), (11, _), (12, _), (15, _), (78, _)] (.cons rfl (.cons rfl (.cons rfl (.cons rfl (.cons rfl (.cons rfl .nil)))))) ?_
    refine W.ite rfl (fun c9 => ?_) (fun c9 => ?_)
    · have hr4 : r < 4 := by omega
      have ns := gs.next
      have nt := gt.next
      have o1 := gs.ok.tick
      have o2 := gt.ok.tick
      have o3 := o1.hearZ 1
      have o4 := o2.hearZ 0
      refine W.skip ?_
      refine WX.next ?_
      refine W.joint (fun (_ : Unit) => [(3, .slice A3 bt.length k3'), (4, .int .i64 home), (11, .pointer (some ⟨a.g, 0, none⟩)), (12, .pointer (some ⟨b.g, 0, none⟩)), (15, .int .i64 (r : Int))]) (fun j w => Mem w0 w ((fun _ => bvL a (roundA s 1 (bt.take 30)) ++ bvL b (roundA t 0 (bt.take 30))) j) ∧ (fun _ => True) j) ?_ ?_
      · refine W.block ?_
        refine W.seq ?_
        refine W.region ?_
        refine WL.move rfl rfl ?_
        refine WL.call Tryd.call13 rfl (Tick_ok2 a s gs.ok w0 _ _ M) rfl ?_
        intro _ w M
        refine WL.nil ?_
        refine WX.next ?_
        refine W.sub [(3, _), (4, _), (11, _), (12, _), (15, _)] (.cons rfl (.cons rfl (.cons rfl (.cons rfl (.cons rfl .nil))))) ?_
        refine W.seq ?_
        refine W.region ?_
        refine WL.move rfl rfl ?_
        refine WL.call Tryd.call13 rfl (Tick_ok2 b t gt.ok w0 _ (bvL a (tickS s)) (M.sel (K := bvL b t ++ bvL a (tickS s)) (by first | ((repeat (first | with_reducible exact Sel.refl | with_reducible exact Sel.nil | with_reducible exact Del.here | with_reducible apply Del.there | with_reducible apply Sel.cons | with_reducible apply Sel.drop)); done) | (repeat (first | exact Sel.refl | exact Sel.nil | exact Del.here | apply Del.there | apply Sel.cons | apply Sel.drop))))) rfl ?_
        intro _ w M
        refine WL.nil ?_
        refine WX.next ?_
        refine W.sub [(3, _), (4, _), (11, _), (12, _), (15, _)] (.cons rfl (.cons rfl (.cons rfl (.cons rfl (.cons rfl .nil))))) ?_
        refine W.seq ?_
        refine W.region ?_
        refine WL.move rfl rfl ?_
        refine WL.call Tryd.call15 rfl (Hear_ok2 a (tickS s) o1 1 w0 _ (bvL b (tickS t)) (M.sel (K := bvL a (tickS s) ++ bvL b (tickS t)) (by first | ((repeat (first | with_reducible exact Sel.refl | with_reducible exact Sel.nil | with_reducible exact Del.here | with_reducible apply Del.there | with_reducible apply Sel.cons | with_reducible apply Sel.drop)); done) | (repeat (first | exact Sel.refl | exact Sel.nil | exact Del.here | apply Del.there | apply Sel.cons | apply Sel.drop))))) rfl ?_
        rintro _ w ⟨-, M⟩
        refine WL.nil ?_
        refine WX.next ?_
        refine W.sub [(3, _), (4, _), (11, _), (12, _), (15, _)] (.cons rfl (.cons rfl (.cons rfl (.cons rfl (.cons rfl .nil))))) ?_
        refine W.seq ?_
        refine W.region ?_
        refine WL.move rfl rfl ?_
        refine WL.call Tryd.call15 rfl (Hear_ok2 b (tickS t) o2 0 w0 _ (bvL a (hearZ (tickS s) 1)) (M.sel (K := bvL b (tickS t) ++ bvL a (hearZ (tickS s) 1)) (by first | ((repeat (first | with_reducible exact Sel.refl | with_reducible exact Sel.nil | with_reducible exact Del.here | with_reducible apply Del.there | with_reducible apply Sel.cons | with_reducible apply Sel.drop)); done) | (repeat (first | exact Sel.refl | exact Sel.nil | exact Del.here | apply Del.there | apply Sel.cons | apply Sel.drop))))) rfl ?_
        rintro _ w ⟨-, M⟩
        refine WL.nil ?_
        refine WX.next ?_
        refine W.sub [(3, _), (4, _), (11, _), (12, _), (15, _)] (.cons rfl (.cons rfl (.cons rfl (.cons rfl (.cons rfl .nil))))) ?_
        refine W.seq ?_
        refine W.region ?_
        refine WL.assign rfl rfl ?_
        refine WL.nil ?_
        refine WX.next ?_
        refine W.sub [(3, _), (4, _), (11, _), (12, _), (15, _), (16, _)] (.cons rfl (.cons rfl (.cons rfl (.cons rfl (.cons rfl (.cons rfl .nil)))))) ?_
        refine W.block ?_
        refine W.loop (ι := Nat) (fun j => [(3, .slice A3 bt.length k3'), (4, .int .i64 home), (11, .pointer (some ⟨a.g, 0, none⟩)), (12, .pointer (some ⟨b.g, 0, none⟩)), (15, .int .i64 (r : Int)), (16, .int .i64 (j : Int))]) (fun zz w => Mem w0 w ((fun j => bvL a (hearsS (hearZ (tickS s) 1) (bt.take j)) ++ bvL b (hearsS (hearZ (tickS t) 0) (bt.take j))) zz) ∧ (fun j => j ≤ bt.length ∧ j ≤ 30) zz) (fun j => bt.length - j) (0) (by (repeat' (first | exact envSub.nil | refine envSub.cons ?_ ?_)) <;> first | rfl | (refine congrArg some ?_; refine congrArg (Value.int _) ?_; first | omega | (dsimp only; omega)) | (simp; done) | (refine congrArg some ?_; dsimp only; congr 1; omega) | (simp; omega)) ⟨M.sel (K := bvL a (hearZ (tickS s) 1) ++ bvL b (hearZ (tickS t) 0)) (by first | ((repeat (first | with_reducible exact Sel.refl | with_reducible exact Sel.nil | with_reducible exact Del.here | with_reducible apply Del.there | with_reducible apply Sel.cons | with_reducible apply Sel.drop)); done) | (repeat (first | exact Sel.refl | exact Sel.nil | exact Del.here | apply Del.there | apply Sel.cons | apply Sel.drop))), ⟨Nat.zero_le _, Nat.zero_le _⟩⟩ ?_
        clear M; rintro (j) w ⟨M, ⟨hj, h30⟩⟩; dsimp only at M hj h30 ⊢
        refine W.sub [(3, _), (4, _), (11, _), (12, _), (15, _), (16, _)] (.cons rfl (.cons rfl (.cons rfl (.cons rfl (.cons rfl (.cons rfl .nil)))))) ?_
        refine W.seq ?_
        refine W.seq ?_
        refine W.region ?_
        refine WL.move rfl rfl ?_
        refine WL.move rfl rfl ?_
        refine WL.len Tryd.underlying22 rfl rfl ?_
        refine WL.lss rfl rfl rfl ?_
        refine WL.moveIf rfl rfl (fun c10 => ?_) (fun c10 => ?_)
        · refine WL.on rfl rfl ?_
          refine WL.move rfl rfl ?_
          refine WL.on rfl rfl ?_
          refine WL.lss rfl rfl rfl ?_
          refine WL.pickT rfl rfl rfl ?_
          refine WL.nil ?_
          refine WX.next ?_
          refine W.sub [(3, _), (4, _), (11, _), (12, _), (15, _), (16, _), (96, _)] (.cons rfl (.cons rfl (.cons rfl (.cons rfl (.cons rfl (.cons rfl (.cons rfl .nil))))))) ?_
          refine W.ite rfl (fun c11 => ?_) (fun c11 => ?_)
          · have hjl : j < bt.length := by omega
            have hs1 := hearsS_take (s := hearZ (tickS s) 1) hjl
            have hs2 := hearsS_take (s := hearZ (tickS t) 0) hjl
            refine W.skip ?_
            refine WX.next ?_
            refine W.seq ?_
            refine W.block ?_
            refine W.seq ?_
            refine W.region ?_
            refine WL.move rfl rfl ?_
            refine WL.move rfl rfl ?_
            refine WL.move rfl rfl ?_
            refine WL.idxA Tryd.underlying22 Tryd.sizeOf3 rfl rfl (RdL.isSome (E := intE) (by first | with_reducible assumption | with_reducible exact RdL.mem (by with_reducible assumption) M | exact M.rdL (by first | ((repeat (first | with_reducible exact Has.here | with_reducible refine Has.there ?_)); done) | (repeat (first | exact Has.here | refine Has.there ?_))) | exact RdLH.at (by assumption) (M.sel (by first | ((repeat (first | with_reducible exact Sel.refl | with_reducible exact Sel.nil | with_reducible exact Del.here | with_reducible apply Del.there | with_reducible apply Sel.cons | with_reducible apply Sel.drop)); done) | (repeat (first | exact Sel.refl | exact Sel.nil | exact Del.here | apply Del.there | apply Sel.cons | apply Sel.drop)))) | exact RdL.nil _ _ _) (by omega)) (by omega) (by omega) (by first | exact rfl | exact (Int.toNat_of_nonneg (by omega)).symm) rfl ?_
            refine WL.loadE0 (E := intE) Tryd.isAgg3 rfl (by first | with_reducible assumption | with_reducible exact RdL.mem (by with_reducible assumption) M | exact M.rdL (by first | ((repeat (first | with_reducible exact Has.here | with_reducible refine Has.there ?_)); done) | (repeat (first | exact Has.here | refine Has.there ?_))) | exact RdLH.at (by assumption) (M.sel (by first | ((repeat (first | with_reducible exact Sel.refl | with_reducible exact Sel.nil | with_reducible exact Del.here | with_reducible apply Del.there | with_reducible apply Sel.cons | with_reducible apply Sel.drop)); done) | (repeat (first | exact Sel.refl | exact Sel.nil | exact Del.here | apply Del.there | apply Sel.cons | apply Sel.drop)))) | exact RdL.nil _ _ _) (by omega) rfl rfl ?_
            refine WL.call Tryd.call15 rfl (Hear_ok2 a _ (o3.hears (bt.take j)) (el bt j) w0 _ _ M) rfl ?_
            rintro _ w ⟨-, M⟩
            refine WL.nil ?_
            refine WX.next ?_
            refine W.sub [(3, _), (4, _), (11, _), (12, _), (15, _), (16, _)] (.cons rfl (.cons rfl (.cons rfl (.cons rfl (.cons rfl (.cons rfl .nil)))))) ?_
            refine W.region ?_
            refine WL.move rfl rfl ?_
            refine WL.move rfl rfl ?_
            refine WL.move rfl rfl ?_
            refine WL.idxA Tryd.underlying22 Tryd.sizeOf3 rfl rfl (RdL.isSome (E := intE) (by first | with_reducible assumption | with_reducible exact RdL.mem (by with_reducible assumption) M | exact M.rdL (by first | ((repeat (first | with_reducible exact Has.here | with_reducible refine Has.there ?_)); done) | (repeat (first | exact Has.here | refine Has.there ?_))) | exact RdLH.at (by assumption) (M.sel (by first | ((repeat (first | with_reducible exact Sel.refl | with_reducible exact Sel.nil | with_reducible exact Del.here | with_reducible apply Del.there | with_reducible apply Sel.cons | with_reducible apply Sel.drop)); done) | (repeat (first | exact Sel.refl | exact Sel.nil | exact Del.here | apply Del.there | apply Sel.cons | apply Sel.drop)))) | exact RdL.nil _ _ _) (by omega)) (by omega) (by omega) (by first | exact rfl | exact (Int.toNat_of_nonneg (by omega)).symm) rfl ?_
            refine WL.loadE0 (E := intE) Tryd.isAgg3 rfl (by first | with_reducible assumption | with_reducible exact RdL.mem (by with_reducible assumption) M | exact M.rdL (by first | ((repeat (first | with_reducible exact Has.here | with_reducible refine Has.there ?_)); done) | (repeat (first | exact Has.here | refine Has.there ?_))) | exact RdLH.at (by assumption) (M.sel (by first | ((repeat (first | with_reducible exact Sel.refl | with_reducible exact Sel.nil | with_reducible exact Del.here | with_reducible apply Del.there | with_reducible apply Sel.cons | with_reducible apply Sel.drop)); done) | (repeat (first | exact Sel.refl | exact Sel.nil | exact Del.here | apply Del.there | apply Sel.cons | apply Sel.drop)))) | exact RdL.nil _ _ _) (by omega) rfl rfl ?_
            refine WL.call Tryd.call15 rfl (Hear_ok2 b _ (o4.hears (bt.take j)) (el bt j) w0 _ (bvL a (hearZ (hearsS (hearZ (tickS s) 1) (bt.take j)) (el bt j))) (M.sel (K := bvL b (hearsS (hearZ (tickS t) 0) (bt.take j)) ++ bvL a (hearZ (hearsS (hearZ (tickS s) 1) (bt.take j)) (el bt j))) (by first | ((repeat (first | with_reducible exact Sel.refl | with_reducible exact Sel.nil | with_reducible exact Del.here | with_reducible apply Del.there | with_reducible apply Sel.cons | with_reducible apply Sel.drop)); done) | (repeat (first | exact Sel.refl | exact Sel.nil | exact Del.here | apply Del.there | apply Sel.cons | apply Sel.drop))))) rfl ?_
            rintro _ w ⟨-, M⟩
            refine WL.nil ?_
            refine WX.blockNormal ?_
            refine WX.next ?_
            refine W.sub [(3, _), (4, _), (11, _), (12, _), (15, _), (16, _)] (.cons rfl (.cons rfl (.cons rfl (.cons rfl (.cons rfl (.cons rfl .nil)))))) ?_
            refine W.region ?_
            refine WL.move rfl rfl ?_
            refine WL.add rfl rfl (by first | exact wI64 (by omega) | rfl) rfl ?_
            refine WL.assign rfl rfl ?_
            refine WL.nil ?_
            rw [← hs1, ← hs2] at M
            refine WX.round (j + 1) (by (repeat' (first | exact envSub.nil | refine envSub.cons ?_ ?_)) <;> first | rfl | (refine congrArg some ?_; refine congrArg (Value.int _) ?_; first | omega | (dsimp only; omega)) | (simp; done) | (refine congrArg some ?_; dsimp only; congr 1; omega) | (simp; omega)) ⟨M.sel (K := bvL a (hearsS (hearZ (tickS s) 1) (bt.take (j + 1))) ++ bvL b (hearsS (hearZ (tickS t) 0) (bt.take (j + 1)))) (by first | ((repeat (first | with_reducible exact Sel.refl | with_reducible exact Sel.nil | with_reducible exact Del.here | with_reducible apply Del.there | with_reducible apply Sel.cons | with_reducible apply Sel.drop)); done) | (repeat (first | exact Sel.refl | exact Sel.nil | exact Del.here | apply Del.there | apply Sel.cons | apply Sel.drop))), ⟨by omega, by omega⟩⟩ (by first | omega | (dsimp only; omega))
          · refine W.exit ?_
            refine WX.thenExit ?_
            refine WX.thenExit ?_
            refine WX.blockHere ?_
            refine WX.blockNormal ?_
            have htk : bt.take j = bt.take 30 := by rcases Nat.lt_or_ge j 30 with q | q; rw [List.take_of_length_le (by omega), List.take_of_length_le (by omega)]; rw [show j = 30 by omega]
            rw [htk] at M
            refine WX.join (()) (by (repeat' (first | exact envSub.nil | refine envSub.cons ?_ ?_)) <;> first | rfl | (refine congrArg some ?_; refine congrArg (Value.int _) ?_; first | omega | (dsimp only; omega)) | (simp; done) | (refine congrArg some ?_; dsimp only; congr 1; omega) | (simp; omega)) ⟨M, trivial⟩
        · refine WL.off rfl rfl rfl rfl ?_
          refine WL.off rfl rfl rfl rfl ?_
          refine WL.pickF rfl rfl rfl ?_
          refine WL.nil ?_
          refine WX.next ?_
          refine W.sub [(3, _), (4, _), (11, _), (12, _), (15, _), (16, _), (96, _)] (.cons rfl (.cons rfl (.cons rfl (.cons rfl (.cons rfl (.cons rfl (.cons rfl .nil))))))) ?_
          refine W.condF rfl ?_
          refine W.exit ?_
          refine WX.thenExit ?_
          refine WX.thenExit ?_
          refine WX.blockHere ?_
          refine WX.blockNormal ?_
          have htk : bt.take j = bt.take 30 := by rcases Nat.lt_or_ge j 30 with q | q; rw [List.take_of_length_le (by omega), List.take_of_length_le (by omega)]; rw [show j = 30 by omega]
          rw [htk] at M
          refine WX.join (()) (by (repeat' (first | exact envSub.nil | refine envSub.cons ?_ ?_)) <;> first | rfl | (refine congrArg some ?_; refine congrArg (Value.int _) ?_; first | omega | (dsimp only; omega)) | (simp; done) | (refine congrArg some ?_; dsimp only; congr 1; omega) | (simp; omega)) ⟨M, trivial⟩
      clear M; rintro (_) w ⟨M, -⟩; dsimp only at M ⊢
      refine W.sub [(3, _), (4, _), (11, _), (12, _), (15, _)] (.cons rfl (.cons rfl (.cons rfl (.cons rfl (.cons rfl .nil))))) ?_
      refine W.region ?_
      refine WL.move rfl rfl ?_
      refine WL.add rfl rfl (by first | exact wI64 (by omega) | rfl) rfl ?_
      refine WL.assign rfl rfl ?_
      refine WL.nil ?_
      refine WX.round ((r + 1, roundA s 1 (bt.take 30), roundA t 0 (bt.take 30))) (by (repeat' (first | exact envSub.nil | refine envSub.cons ?_ ?_)) <;> first | rfl | (refine congrArg some ?_; refine congrArg (Value.int _) ?_; first | omega | (dsimp only; omega)) | (simp; done) | (refine congrArg some ?_; dsimp only; congr 1; omega) | (simp; omega)) ⟨M.sel (by first | ((repeat (first | with_reducible exact Sel.refl | with_reducible exact Sel.nil | with_reducible exact Del.here | with_reducible apply Del.there | with_reducible apply Sel.cons | with_reducible apply Sel.drop)); done) | (repeat (first | exact Sel.refl | exact Sel.nil | exact Del.here | apply Del.there | apply Sel.cons | apply Sel.drop))), ⟨by dsimp only; omega, ns, nt⟩⟩ (by first | omega | (dsimp only; omega))
    · refine W.exit ?_
      refine WX.thenExit ?_
      refine WX.thenExit ?_
      refine WX.blockHere ?_
      refine WX.next ?_
      refine W.seq ?_
      obtain rfl : r = 4 := by omega
      obtain ⟨eu, eo⟩ := gs.same gt
      refine W.region ?_
      refine WL.move rfl rfl ?_
      refine WL.call Tryd.call19 rfl (Up_ok2 a s gs.ok w0 _ _ M) rfl ?_
      rintro _ w ⟨rfl, M⟩
      refine WL.move rfl rfl ?_
      refine WL.call Tryd.call19 rfl (Up_ok2 b t gt.ok w0 _ (bvL a s) (M.sel (K := bvL b t ++ bvL a s) (by first | ((repeat (first | with_reducible exact Sel.refl | with_reducible exact Sel.nil | with_reducible exact Del.here | with_reducible apply Del.there | with_reducible apply Sel.cons | with_reducible apply Sel.drop)); done) | (repeat (first | exact Sel.refl | exact Sel.nil | exact Del.here | apply Del.there | apply Sel.cons | apply Sel.drop))))) rfl ?_
      rintro _ w ⟨rfl, M⟩
      refine WL.eqI rfl rfl rfl ?_
      refine WL.moveIf rfl rfl (fun c12 => ?_) (fun c12 => ?_)
      · refine WL.on rfl rfl ?_
        refine WL.move rfl rfl ?_
        refine WL.on rfl rfl ?_
        refine WL.move rfl rfl ?_
        refine WL.on rfl rfl ?_
        refine WL.call Tryd.call26 rfl (Leader_ok a s gs.ok home w0 _ (bvL b t) (M.sel (K := bvL a s ++ bvL b t) (by first | ((repeat (first | with_reducible exact Sel.refl | with_reducible exact Sel.nil | with_reducible exact Del.here | with_reducible apply Del.there | with_reducible apply Sel.cons | with_reducible apply Sel.drop)); done) | (repeat (first | exact Sel.refl | exact Sel.nil | exact Del.here | apply Del.there | apply Sel.cons | apply Sel.drop)))) ht) rfl ?_
        rintro _ w ⟨rfl, M⟩
        refine WL.on rfl rfl ?_
        refine WL.move rfl rfl ?_
        refine WL.on rfl rfl ?_
        refine WL.move rfl rfl ?_
        refine WL.on rfl rfl ?_
        refine WL.call Tryd.call26 rfl (Leader_ok b t gt.ok home w0 _ (bvL a s) (M.sel (K := bvL b t ++ bvL a s) (by first | ((repeat (first | with_reducible exact Sel.refl | with_reducible exact Sel.nil | with_reducible exact Del.here | with_reducible apply Del.there | with_reducible apply Sel.cons | with_reducible apply Sel.drop)); done) | (repeat (first | exact Sel.refl | exact Sel.nil | exact Del.here | apply Del.there | apply Sel.cons | apply Sel.drop)))) ht) rfl ?_
        rintro _ w ⟨rfl, M⟩
        refine WL.on rfl rfl ?_
        refine WL.eqI rfl rfl rfl ?_
        refine WL.pickT rfl rfl rfl ?_
        refine WL.moveIf rfl rfl (fun c13 => ?_) (fun c13 => ?_)
        · refine WL.on rfl rfl ?_
          refine WL.move rfl rfl ?_
          refine WL.on rfl rfl ?_
          refine WL.move rfl rfl ?_
          refine WL.on rfl rfl ?_
          refine WL.call Tryd.call17 rfl (Order_ok a s gs.ok home w0 _ (bvL b t) (M.sel (K := bvL a s ++ bvL b t) (by first | ((repeat (first | with_reducible exact Sel.refl | with_reducible exact Sel.nil | with_reducible exact Del.here | with_reducible apply Del.there | with_reducible apply Sel.cons | with_reducible apply Sel.drop)); done) | (repeat (first | exact Sel.refl | exact Sel.nil | exact Del.here | apply Del.there | apply Sel.cons | apply Sel.drop)))) ht) rfl ?_
          rintro _ w ⟨B1, kb1, rfl, M⟩
          refine WL.on rfl rfl ?_
          refine WL.move rfl rfl ?_
          refine WL.on rfl rfl ?_
          refine WL.move rfl rfl ?_
          refine WL.on rfl rfl ?_
          refine WL.call Tryd.call17 rfl (Order_ok b t gt.ok home w0 _ [Asr.lst intE B1 kb1 (ordS s home)] (M.sel (K := bvL b t ++ [Asr.lst intE B1 kb1 (ordS s home)]) (by first | ((repeat (first | with_reducible exact Sel.refl | with_reducible exact Sel.nil | with_reducible exact Del.here | with_reducible apply Del.there | with_reducible apply Sel.cons | with_reducible apply Sel.drop)); done) | (repeat (first | exact Sel.refl | exact Sel.nil | exact Del.here | apply Del.there | apply Sel.cons | apply Sel.drop)))) ht) rfl ?_
          rintro _ w ⟨B2, kb2, rfl, M⟩
          refine WL.on rfl rfl ?_
          refine WL.call Tryd.call25 rfl (SameInts_ok (M.rdL (by first | ((repeat (first | with_reducible exact Has.here | with_reducible refine Has.there ?_)); done) | (repeat (first | exact Has.here | refine Has.there ?_)))) (M.rdL (by first | ((repeat (first | with_reducible exact Has.here | with_reducible refine Has.there ?_)); done) | (repeat (first | exact Has.here | refine Has.there ?_)))) (ord_len s home)) rfl ?_
          rintro _ w ⟨rfl, m⟩
          replace M := M.call0 m; clear m
          refine WL.pickT rfl rfl rfl ?_
          refine WL.moveIf rfl rfl (fun c14 => ?_) (fun c14 => ?_)
          · refine WL.on rfl rfl ?_
            refine WL.call Tryd.call10 rfl (known14_ok _ (ht.mem M)) rfl ?_
            rintro _ w ⟨rfl, m⟩
            replace M := M.call0 m; clear m
            refine WL.pickT rfl rfl rfl ?_
            refine WL.assign rfl rfl ?_
            refine WL.nil ?_
            refine WX.next ?_
            refine W.sub [(10, _)] (.cons rfl .nil) ?_
            refine W.ret ?_
            refine WX.ret1 rfl rfl ?_
            exact ⟨by simp, M.sel (.nil)⟩
          · exact absurd (eo home) c14
        · exact absurd (by rw [eo home]) c13
      · exact absurd (by rw [eu]) c12
end Go.Proofs.YtmkhggfcgblefaaDoor
