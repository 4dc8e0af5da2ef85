/-
  Walks: where a client stands; never are more remembered than may be (seawalllaw13.place, OnceRoom).
-/
import Derived.Test.YtmogpoghngmnmaaRoomLaw
import Derived.Test.YtmogpoghngmnmaaSame13
namespace Go.Proofs.Ytmogpoghngmnmaa
open Go Go.RowKit Bin

theorem place_ok {A : Option Addr} {cap : Nat} {cs : List ClX} {w0 : World} (h : RdL w0 clientE A cap cs) (hl : cs.length ≤ 1000000) (id : Nat) :
    Fn Try.prog 17 [.slice A cs.length cap, .int .u64 (id : Int)] w0 fun v w' => v = .int .i64 (atI cs.length (posN (cs.map ClX.key) id)) ∧ Mem w0 w' [] := by
  have M := Mem.refl w0
  obtain ⟨w, hw⟩ : ∃ w, w = w0 := ⟨w0, rfl⟩
  rw [← posC_key]
  refine Fn.enter Try.func17 rfl Try.ntmps17 rfl ?_
  refine W.sub [(0, _), (1, _)] (.cons rfl (.cons rfl .nil)) ?_
  refine W.seq ?_
  refine W.region ?_
  refine WL.assign rfl rfl ?_
  refine WL.nil ?_
  refine WX.next ?_
  refine W.sub [(0, _), (1, _)] (.cons rfl (.cons rfl .nil)) ?_
  refine W.seq ?_
  refine W.seq ?_
  refine W.region ?_
  refine WL.assign rfl rfl ?_
  refine WL.nil ?_
  refine WX.next ?_
  refine W.sub [(0, _), (1, _), (5, _)] (.cons rfl (.cons rfl (.cons rfl .nil))) ?_
  refine W.block ?_
  refine W.loop (ι := Nat) (fun i => [(0, .slice A cs.length cap), (1, .int .u64 (id : Int)), (5, .int .i64 (i : Int))]) (fun zz w => Mem w0 w ((fun _ => []) zz) ∧ (fun i => i ≤ cs.length ∧ ∀ j, j < i → ((el cs j).id == id) = false) zz) (fun i => cs.length - i) (0) (by (repeat' (first | exact envSub.nil | refine envSub.cons ?_ ?_)) <;> first | rfl | (refine congrArg some ?_; refine congrArg (Value.int _) ?_; first | omega | (dsimp only; omega)) | (simp; done) | (refine congrArg some ?_; dsimp only; congr 1; omega) | (simp; omega)) ⟨M.sel (by first | ((repeat (first | with_reducible exact Sel.refl | with_reducible exact Sel.nil | with_reducible exact Del.here | with_reducible apply Del.there | with_reducible apply Sel.cons | with_reducible apply Sel.drop)); done) | (repeat (first | exact Sel.refl | exact Sel.nil | exact Del.here | apply Del.there | apply Sel.cons | apply Sel.drop))), ⟨by omega, fun j hj => absurd hj (by omega)⟩⟩ ?_
  clear M; rintro (i) w ⟨M, ⟨hi, hs⟩⟩; dsimp only at M hi hs ⊢
  refine W.sub [(0, _), (1, _), (5, _)] (.cons rfl (.cons rfl (.cons rfl .nil))) ?_
  refine W.seq ?_
  refine W.seq ?_
  refine W.region ?_
  refine WL.move rfl rfl ?_
  refine WL.move rfl rfl ?_
  refine WL.len Try.underlying41 rfl rfl ?_
  refine WL.lss rfl rfl rfl ?_
  refine WL.nil ?_
  refine WX.next ?_
  refine W.sub [(0, _), (1, _), (5, _), (9, _)] (.cons rfl (.cons rfl (.cons rfl (.cons rfl .nil)))) ?_
  refine W.ite rfl (fun c0 => ?_) (fun c0 => ?_)
  · refine W.skip ?_
    refine WX.next ?_
    refine W.seq ?_
    refine W.block ?_
    refine W.seq ?_
    refine W.region ?_
    refine WL.move rfl rfl ?_
    refine WL.move rfl rfl ?_
    refine WL.idxA Try.underlying41 Try.sizeOf45 rfl rfl (RdL.isSome (E := clientE) (by first | with_reducible assumption | with_reducible exact RdL.mem (by with_reducible assumption) M | exact M.rdL (by first | ((repeat (first | with_reducible exact Has.here | with_reducible refine Has.there ?_)); done) | (repeat (first | exact Has.here | refine Has.there ?_))) | exact RdLH.at (by assumption) (M.sel (by first | ((repeat (first | with_reducible exact Sel.refl | with_reducible exact Sel.nil | with_reducible exact Del.here | with_reducible apply Del.there | with_reducible apply Sel.cons | with_reducible apply Sel.drop)); done) | (repeat (first | exact Sel.refl | exact Sel.nil | exact Del.here | apply Del.there | apply Sel.cons | apply Sel.drop)))) | exact RdL.nil _ _ _) (by omega)) (by omega) (by omega) (by first | exact rfl | exact (Int.toNat_of_nonneg (by omega)).symm) rfl ?_
    refine WL.fieldA (off := 0) Try.underlying45 rfl rfl Try.sizeOf29 rfl rfl rfl ?_
    refine WL.loadE (E := clientE) Try.isAgg29 rfl (by first | with_reducible assumption | with_reducible exact RdL.mem (by with_reducible assumption) M | exact M.rdL (by first | ((repeat (first | with_reducible exact Has.here | with_reducible refine Has.there ?_)); done) | (repeat (first | exact Has.here | refine Has.there ?_))) | exact RdLH.at (by assumption) (M.sel (by first | ((repeat (first | with_reducible exact Sel.refl | with_reducible exact Sel.nil | with_reducible exact Del.here | with_reducible apply Del.there | with_reducible apply Sel.cons | with_reducible apply Sel.drop)); done) | (repeat (first | exact Sel.refl | exact Sel.nil | exact Del.here | apply Del.there | apply Sel.cons | apply Sel.drop)))) | exact RdL.nil _ _ _) (by omega) rfl rfl ?_
    refine WL.move rfl rfl ?_
    refine WL.eqI rfl rfl rfl ?_
    refine WL.nil ?_
    refine WX.next ?_
    refine W.sub [(0, _), (1, _), (5, _), (18, _)] (.cons rfl (.cons rfl (.cons rfl (.cons rfl .nil)))) ?_
    refine W.ite rfl (fun c1 => ?_) (fun c1 => ?_)
    · refine W.seq ?_
      refine W.region ?_
      refine WL.move rfl rfl ?_
      refine WL.assign rfl rfl ?_
      refine WL.nil ?_
      refine WX.next ?_
      refine W.sub [(4, _)] (.cons rfl .nil) ?_
      refine W.ret ?_
      refine WX.blockRet ?_
      refine WX.thenRet ?_
      refine WX.thenRet ?_
      refine WX.blockRet ?_
      refine WX.thenRet ?_
      refine WX.ret1 rfl rfl ?_
      have e : posC cs id = i := findIdx_of (by omega) (by simp; omega) hs
      rw [e, atI_in (by omega)]
      exact ⟨rfl, M⟩
    · refine W.skip ?_
      refine WX.blockNormal ?_
      refine WX.next ?_
      refine W.region ?_
      refine WL.move rfl rfl ?_
      refine WL.add rfl rfl (by first | exact wI64 (by omega) | rfl) rfl ?_
      refine WL.assign rfl rfl ?_
      refine WL.nil ?_
      skip
      have q : ∀ j, j < i + 1 → ((el cs j).id == id) = false := by
        intro j hj
        rcases Nat.lt_or_ge j i with h1 | h1
        · exact hs j h1
        · obtain rfl : j = i := by omega
          simp
          omega
      refine WX.round (i + 1) (by (repeat' (first | exact envSub.nil | refine envSub.cons ?_ ?_)) <;> first | rfl | (refine congrArg some ?_; refine congrArg (Value.int _) ?_; first | omega | (dsimp only; omega)) | (simp; done) | (refine congrArg some ?_; dsimp only; congr 1; omega) | (simp; omega)) ⟨M.sel (by first | ((repeat (first | with_reducible exact Sel.refl | with_reducible exact Sel.nil | with_reducible exact Del.here | with_reducible apply Del.there | with_reducible apply Sel.cons | with_reducible apply Sel.drop)); done) | (repeat (first | exact Sel.refl | exact Sel.nil | exact Del.here | apply Del.there | apply Sel.cons | apply Sel.drop))), ⟨by omega, q⟩⟩ (by first | omega | (dsimp only; omega))
  · refine W.exit ?_
    refine WX.thenExit ?_
    refine WX.thenExit ?_
    refine WX.blockHere ?_
    refine WX.next ?_
    refine W.seq ?_
    refine W.region ?_
    refine WL.assign rfl rfl ?_
    refine WL.nil ?_
    refine WX.next ?_
    refine W.sub [(4, _)] (.cons rfl .nil) ?_
    refine W.ret ?_
    refine WX.ret1 rfl rfl ?_
    obtain rfl : i = cs.length := by omega
    have e : posC cs id = cs.length := findIdx_no hs
    rw [e, atI_out (by omega)]
    exact ⟨rfl, M⟩

set_option maxRecDepth 10000 in
set_option maxHeartbeats 4000000 in
theorem OnceRoom_ok (z : Int) (A1 : Option Addr) (q1 : Nat) (l : List AcX) (w0 : World) (h1 : RdL w0 actE A1 q1 l) (hq1 : ∀ s ∈ l, s.inn w0) (hm1 : q1 ≤ maxLen) :
    Fn Try.prog 4 [.int .i64 z, .slice A1 l.length q1] w0 fun v w' => v = .bool true ∧ Mem w0 w' [] := by
  have M := Mem.refl w0
  obtain ⟨w, hw⟩ : ∃ w, w = w0 := ⟨w0, rfl⟩
  have hl1 : l.length ≤ maxLen := Nat.le_trans h1.le hm1
  unfold maxLen at hl1
  obtain ⟨a, ha⟩ : ∃ a : Nat, IntKind.u64.wrap z = (a : Int) := ⟨(z % 18446744073709551616).toNat, by rw [mU64]; omega⟩
  have hal := Nat.mod_lt a (show 0 < 64 by omega)
  obtain ⟨n, hn⟩ : ∃ m : Nat, m = 1 + a % 64 := ⟨_, rfl⟩
  refine Fn.enter Try.func4 rfl Try.ntmps4 rfl ?_
  refine W.sub [(0, _), (1, _)] (.cons rfl (.cons rfl .nil)) ?_
  refine W.seq ?_
  refine W.region ?_
  refine WL.assign rfl rfl ?_
  refine WL.nil ?_
  refine WX.next ?_
  refine W.sub [(0, _), (1, _)] (.cons rfl (.cons rfl .nil)) ?_
  refine W.seq ?_
  refine W.region ?_
  refine WL.move rfl rfl ?_
  refine WL.conv Try.underlying3 Try.underlying40 rfl ha rfl ?_
  refine WL.rem rfl rfl (by omega) (remN (by omega)) rfl ?_
  refine WL.conv Try.underlying40 Try.underlying3 rfl (by first | exact wI64 (by omega) | rfl) rfl ?_
  refine WL.add rfl rfl (show IntKind.i64.wrap (1 + (a : Int) % 64) = (n : Int) by rw [wI64 (by omega)]; omega) rfl ?_
  refine WL.call Try.call11 rfl (onceNew_ok n (by omega) _) rfl ?_
  rintro _ w ⟨x0, rfl, hs0, ho0, m⟩
  replace M := M.callN m; clear m
  refine WL.move rfl rfl ?_
  refine WL.extractL rfl rfl rfl ?_
  refine WL.extractL rfl rfl rfl ?_
  refine WL.assign rfl rfl ?_
  refine WL.assign rfl rfl ?_
  refine WL.nil ?_
  refine WX.next ?_
  refine W.sub [(0, _), (1, _), (5, _), (6, _)] (.cons rfl (.cons rfl (.cons rfl (.cons rfl .nil)))) ?_
  refine W.seq ?_
  refine W.seq ?_
  refine W.region ?_
  refine WL.move rfl rfl ?_
  refine WL.neI rfl rfl rfl ?_
  refine WL.moveIf rfl rfl (fun c0 => ?_) (fun c0 => ?_)
  · exact absurd rfl c0
  · refine WL.on rfl rfl ?_
    refine WL.move rfl rfl ?_
    refine WL.on rfl rfl ?_
    refine WL.eqNilF Try.underlying25 rfl rfl rfl ?_
    refine WL.pickF rfl rfl rfl ?_
    refine WL.move rfl rfl ?_
    refine WL.on rfl rfl ?_
    refine WL.move rfl rfl ?_
    refine WL.on rfl rfl ?_
    refine WL.call Try.call9 rfl (long_ok (by first | with_reducible assumption | with_reducible exact RdL.mem (by with_reducible assumption) M | exact M.rdL (by first | ((repeat (first | with_reducible exact Has.here | with_reducible refine Has.there ?_)); done) | (repeat (first | exact Has.here | refine Has.there ?_))) | exact RdLH.at (by assumption) (M.sel (by first | ((repeat (first | with_reducible exact Sel.refl | with_reducible exact Sel.nil | with_reducible exact Del.here | with_reducible apply Del.there | with_reducible apply Sel.cons | with_reducible apply Sel.drop)); done) | (repeat (first | exact Sel.refl | exact Sel.nil | exact Del.here | apply Del.there | apply Sel.cons | apply Sel.drop)))) | exact RdL.nil _ _ _) hm1) rfl ?_
    rintro _ w ⟨rfl, m⟩
    replace M := M.call0 m; clear m
    refine WL.pickF rfl rfl rfl ?_
    refine WL.nil ?_
    refine WX.next ?_
    refine W.sub [(0, _), (1, _), (5, _), (6, _), (36, _)] (.cons rfl (.cons rfl (.cons rfl (.cons rfl (.cons rfl .nil))))) ?_
    refine W.cond rfl (fun c2 => ?_) (fun c2 => ?_)
    · (try simp only [Bool.not_eq_true'] at c2); (try simp only [Bool.not_eq_false'] at c2); (try simp only [decide_eq_true_eq] at c2); (try simp only [decide_eq_false_iff_not] at c2)
      refine W.seq ?_
      refine W.region ?_
      refine WL.move rfl rfl ?_
      refine WL.eqI rfl rfl rfl ?_
      refine WL.moveIf rfl rfl (fun c3 => ?_) (fun c3 => ?_)
      · refine WL.on rfl rfl ?_
        refine WL.move rfl rfl ?_
        refine WL.on rfl rfl ?_
        refine WL.neNilT Try.underlying25 rfl rfl rfl ?_
        refine WL.pickT rfl rfl rfl ?_
        refine WL.move rfl rfl ?_
        refine WL.on rfl rfl ?_
        refine WL.call Try.call10 rfl (known13_ok _) rfl ?_
        rintro _ w ⟨rfl, m⟩
        replace M := M.call0 m; clear m
        refine WL.pickT rfl rfl rfl ?_
        refine WL.assign rfl rfl ?_
        refine WL.nil ?_
        refine WX.next ?_
        refine W.sub [(4, _)] (.cons rfl .nil) ?_
        refine W.ret ?_
        refine WX.thenRet ?_
        refine WX.ret1 rfl rfl ?_
        exact ⟨rfl, M.sel (by first | ((repeat (first | with_reducible exact Sel.refl | with_reducible exact Sel.nil | with_reducible exact Del.here | with_reducible apply Del.there | with_reducible apply Sel.cons | with_reducible apply Sel.drop)); done) | (repeat (first | exact Sel.refl | exact Sel.nil | exact Del.here | apply Del.there | apply Sel.cons | apply Sel.drop)))⟩
      · exact absurd rfl c3
    · (try simp only [Bool.not_eq_true'] at c2); (try simp only [Bool.not_eq_false'] at c2); (try simp only [decide_eq_true_eq] at c2); (try simp only [decide_eq_false_iff_not] at c2)
      refine W.skip ?_
      refine WX.next ?_
      refine W.seq ?_
      refine W.region ?_
      refine WL.move rfl rfl ?_
      refine WL.conv Try.underlying3 Try.underlying40 rfl ha rfl ?_
      refine WL.rem rfl rfl (by omega) (remN (by omega)) rfl ?_
      refine WL.conv Try.underlying40 Try.underlying3 rfl (by first | exact wI64 (by omega) | rfl) rfl ?_
      refine WL.add rfl rfl (show IntKind.i64.wrap (1 + (a : Int) % 64) = (n : Int) by rw [wI64 (by omega)]; omega) rfl ?_
      refine WL.assign rfl rfl ?_
      refine WL.nil ?_
      refine WX.next ?_
      refine W.sub [(1, _), (5, _), (7, _)] (.cons rfl (.cons rfl (.cons rfl .nil))) ?_
      refine W.joint (fun (_ : Unit) => []) (fun j w => Mem w0 w ((fun _ => []) j) ∧ (fun _ => True) j) ?_ ?_
      · refine W.seq ?_
        refine W.region ?_
        refine WL.assign rfl rfl ?_
        refine WL.nil ?_
        refine WX.next ?_
        refine W.sub [(1, _), (5, _), (7, _), (8, _)] (.cons rfl (.cons rfl (.cons rfl (.cons rfl .nil)))) ?_
        refine W.block ?_
        refine W.loop (ι := Nat × OT) (fun z => [(1, .slice A1 l.length q1), (5, .pointer (some ⟨z.2.g, 0, none⟩)), (7, .int .i64 (n : Int)), (8, .int .i64 (z.1 : Int))]) (fun zz w => Mem w0 w ((fun z => z.2.L ++ []) zz) ∧ (fun z => (z.1 ≤ l.length ∧ z.1 ≤ 150) ∧ z.2.ok ∧ z.2.s.most = n ∧ Few z.2.s z.1) zz) (fun z => 150 - z.1) ((0, x0)) (by (repeat' (first | exact envSub.nil | refine envSub.cons ?_ ?_)) <;> first | rfl | (refine congrArg some ?_; refine congrArg (Value.int _) ?_; first | omega | (dsimp only; omega)) | (simp; done) | (refine congrArg some ?_; dsimp only; congr 1; omega) | (simp; omega)) ⟨M.sel (by first | ((repeat (first | with_reducible exact Sel.refl | with_reducible exact Sel.nil | with_reducible exact Del.here | with_reducible apply Del.there | with_reducible apply Sel.cons | with_reducible apply Sel.drop)); done) | (repeat (first | exact Sel.refl | exact Sel.nil | exact Del.here | apply Del.there | apply Sel.cons | apply Sel.drop))), ⟨⟨Nat.zero_le _, by omega⟩, ho0, by dsimp only; rw [hs0], by dsimp only; rw [hs0]; exact ⟨Nat.le_refl _, Nat.le_refl _⟩⟩⟩ ?_
        clear M; rintro (⟨i, x⟩) w ⟨M, ⟨hi, hox, hxm, hfx⟩⟩; dsimp only at M hi hox hxm hfx ⊢
        refine W.sub [(1, _), (5, _), (7, _), (8, _)] (.cons rfl (.cons rfl (.cons rfl (.cons rfl .nil)))) ?_
        refine W.seq ?_
        refine W.seq ?_
        refine W.region ?_
        refine WL.move rfl rfl ?_
        refine WL.move rfl rfl ?_
        refine WL.len Try.underlying22 rfl rfl ?_
        refine WL.lss rfl rfl rfl ?_
        refine WL.moveIf rfl rfl (fun c5 => ?_) (fun c5 => ?_)
        · refine WL.on rfl rfl ?_
          refine WL.move rfl rfl ?_
          refine WL.on rfl rfl ?_
          refine WL.lss rfl rfl rfl ?_
          refine WL.pickT rfl rfl rfl ?_
          refine WL.nil ?_
          refine WX.next ?_
          refine W.sub [(1, _), (5, _), (7, _), (8, _), (58, _)] (.cons rfl (.cons rfl (.cons rfl (.cons rfl (.cons rfl .nil))))) ?_
          refine W.ite rfl (fun c6 => ?_) (fun c6 => ?_)
          · refine W.skip ?_
            refine WX.next ?_
            refine W.joint (fun (y : OT) => [(1, .slice A1 l.length q1), (5, .pointer (some ⟨y.g, 0, none⟩)), (7, .int .i64 (n : Int)), (8, .int .i64 (i : Int))]) (fun j w => Mem w0 w ((fun y => y.L ++ []) j) ∧ (fun y => y.ok ∧ y.s.most = n ∧ Few y.s (i + 1)) j) ?_ ?_
            · refine W.block ?_
              refine W.seq ?_
              refine W.region ?_
              refine WL.move rfl rfl ?_
              refine WL.call Try.call15 rfl (Clients_ok x hox w0 w _ M) rfl ?_
              rintro _ w ⟨B1, b1, ds, rfl, hds, M⟩
              refine WL.assign rfl rfl ?_
              refine WL.nil ?_
              refine WX.next ?_
              refine W.sub [(1, _), (5, _), (7, _), (8, _), (9, _)] (.cons rfl (.cons rfl (.cons rfl (.cons rfl (.cons rfl .nil))))) ?_
              refine W.seq ?_
              have hin := hq1 _ (el_mem (l := l) (k := i) (by omega))
              have hrd := hin.rd
              have hdl : ds.length = x.s.l.length := by rw [← hds]; simp
              have hxl := hox.s.len
              have hxmo := hox.s.most
              refine W.region ?_
              refine WL.move rfl rfl ?_
              refine WL.move rfl rfl ?_
              refine WL.idxA Try.underlying22 Try.sizeOf35 rfl rfl (RdL.isSome (E := actE) (by first | with_reducible assumption | with_reducible exact RdL.mem (by with_reducible assumption) M | exact M.rdL (by first | ((repeat (first | with_reducible exact Has.here | with_reducible refine Has.there ?_)); done) | (repeat (first | exact Has.here | refine Has.there ?_))) | exact RdLH.at (by assumption) (M.sel (by first | ((repeat (first | with_reducible exact Sel.refl | with_reducible exact Sel.nil | with_reducible exact Del.here | with_reducible apply Del.there | with_reducible apply Sel.cons | with_reducible apply Sel.drop)); done) | (repeat (first | exact Sel.refl | exact Sel.nil | exact Del.here | apply Del.there | apply Sel.cons | apply Sel.drop)))) | exact RdL.nil _ _ _) (by omega)) (by omega) (by omega) (by first | exact rfl | exact (Int.toNat_of_nonneg (by omega)).symm) rfl ?_
              refine WL.loadL (E := actE) (cs := [_, _, _, _]) Try.isAgg35 Try.sizeOf35 rfl (by first | with_reducible assumption | with_reducible exact RdL.mem (by with_reducible assumption) M | exact M.rdL (by first | ((repeat (first | with_reducible exact Has.here | with_reducible refine Has.there ?_)); done) | (repeat (first | exact Has.here | refine Has.there ?_))) | exact RdLH.at (by assumption) (M.sel (by first | ((repeat (first | with_reducible exact Sel.refl | with_reducible exact Sel.nil | with_reducible exact Del.here | with_reducible apply Del.there | with_reducible apply Sel.cons | with_reducible apply Sel.drop)); done) | (repeat (first | exact Sel.refl | exact Sel.nil | exact Del.here | apply Del.there | apply Sel.cons | apply Sel.drop)))) | exact RdL.nil _ _ _) rfl (by omega) rfl rfl ?_
              refine WL.alloc Try.zeroValue35 M rfl ?_
              intro g9_4 w M
              try simp only [Value.cells] at M
              try simp only [List.toList_toArray] at M
              refine WL.storeWA Try.sizeOf35 rfl rfl (by repeat (first | exact oneNil | refine oneCons rfl ?_)) rfl rfl M (by first | ((repeat (first | with_reducible exact Upd.here | with_reducible apply Upd.there)); done) | (repeat (first | exact Upd.here | apply Upd.there))) ?_
              intro w M
              refine WL.nil ?_
              refine WX.next ?_
              refine W.sub [(1, _), (5, _), (7, _), (8, _), (9, _), (10, _)] (.cons rfl (.cons rfl (.cons rfl (.cons rfl (.cons rfl (.cons rfl .nil)))))) ?_
              refine W.seq ?_
              refine W.seq ?_
              refine W.region ?_
              refine WL.fieldR (off := 0) Try.underlying35 rfl rfl Try.sizeOf3 rfl rfl rfl ?_
              refine WL.loadR Try.isAgg3 rfl M (by first | ((repeat (first | with_reducible exact Has.here | with_reducible refine Has.there ?_)); done) | (repeat (first | exact Has.here | refine Has.there ?_))) rfl rfl ?_
              refine WL.gtr rfl rfl rfl ?_
              refine WL.nil ?_
              refine WX.next ?_
              refine W.sub [(1, _), (5, _), (7, _), (8, _), (9, _), (10, _), (69, _)] (.cons rfl (.cons rfl (.cons rfl (.cons rfl (.cons rfl (.cons rfl (.cons rfl .nil))))))) ?_
              refine W.ite rfl (fun c7 => ?_) (fun c7 => ?_)
              · refine W.seq ?_
                refine W.region ?_
                refine WL.move rfl rfl ?_
                refine WL.fieldR (off := 1) Try.underlying35 rfl rfl Try.sizeOf29 rfl rfl rfl ?_
                refine WL.loadR Try.isAgg29 rfl M (by first | ((repeat (first | with_reducible exact Has.here | with_reducible refine Has.there ?_)); done) | (repeat (first | exact Has.here | refine Has.there ?_))) rfl rfl ?_
                refine WL.fieldR (off := 2) Try.underlying35 rfl rfl Try.sizeOf29 rfl rfl rfl ?_
                refine WL.loadR Try.isAgg29 rfl M (by first | ((repeat (first | with_reducible exact Has.here | with_reducible refine Has.there ?_)); done) | (repeat (first | exact Has.here | refine Has.there ?_))) rfl rfl ?_
                refine WL.fieldR (off := 3) Try.underlying35 rfl rfl Try.sizeOf32 rfl rfl rfl ?_
                refine WL.loadR Try.isAgg32 rfl M (by first | ((repeat (first | with_reducible exact Has.here | with_reducible refine Has.there ?_)); done) | (repeat (first | exact Has.here | refine Has.there ?_))) rfl rfl ?_
                refine WL.call Try.call14 rfl (End_ok x hox (el l i).id (el l i).num hin.id hin.num (el l i).A (el l i).cap (el l i).rep w0 w _ (M.sel (K := x.L ++ []) (by first | ((repeat (first | with_reducible exact Sel.refl | with_reducible exact Sel.nil | with_reducible exact Del.here | with_reducible apply Del.there | with_reducible apply Sel.cons | with_reducible apply Sel.drop)); done) | (repeat (first | exact Sel.refl | exact Sel.nil | exact Del.here | apply Del.there | apply Sel.cons | apply Sel.drop)))) (by intro w M; exact (by first | first | with_reducible assumption | with_reducible exact RdB.mem (by with_reducible assumption) M | exact M.rdB (by first | ((repeat (first | with_reducible exact Has.here | with_reducible refine Has.there ?_)); done) | (repeat (first | exact Has.here | refine Has.there ?_))) | exact RdH.at (by assumption) (M.sel (by first | ((repeat (first | with_reducible exact Sel.refl | with_reducible exact Sel.nil | with_reducible exact Del.here | with_reducible apply Del.there | with_reducible apply Sel.cons | with_reducible apply Sel.drop)); done) | (repeat (first | exact Sel.refl | exact Sel.nil | exact Del.here | apply Del.there | apply Sel.cons | apply Sel.drop)))) | exact M.rdLit' (by first | ((repeat (first | with_reducible exact Has.here | with_reducible refine Has.there ?_)); done) | (repeat (first | exact Has.here | refine Has.there ?_))) | exact M.rdLent (by first | ((repeat (first | with_reducible exact Has.here | with_reducible refine Has.there ?_)); done) | (repeat (first | exact Has.here | refine Has.there ?_))) | exact RdB.nil _ _ | exact RdB.sub (by first | with_reducible assumption | with_reducible exact RdB.mem (by with_reducible assumption) M | exact M.rdB (by first | ((repeat (first | with_reducible exact Has.here | with_reducible refine Has.there ?_)); done) | (repeat (first | exact Has.here | refine Has.there ?_))) | exact RdH.at (by assumption) (M.sel (by first | ((repeat (first | with_reducible exact Sel.refl | with_reducible exact Sel.nil | with_reducible exact Del.here | with_reducible apply Del.there | with_reducible apply Sel.cons | with_reducible apply Sel.drop)); done) | (repeat (first | exact Sel.refl | exact Sel.nil | exact Del.here | apply Del.there | apply Sel.cons | apply Sel.drop)))) | exact M.rdLit' (by first | ((repeat (first | with_reducible exact Has.here | with_reducible refine Has.there ?_)); done) | (repeat (first | exact Has.here | refine Has.there ?_))) | exact M.rdLent (by first | ((repeat (first | with_reducible exact Has.here | with_reducible refine Has.there ?_)); done) | (repeat (first | exact Has.here | refine Has.there ?_))) | exact RdB.nil _ _) (by omega) (by omega) | exact RdB.pre' (by first | with_reducible assumption | with_reducible exact RdB.mem (by with_reducible assumption) M | exact M.rdB (by first | ((repeat (first | with_reducible exact Has.here | with_reducible refine Has.there ?_)); done) | (repeat (first | exact Has.here | refine Has.there ?_))) | exact RdH.at (by assumption) (M.sel (by first | ((repeat (first | with_reducible exact Sel.refl | with_reducible exact Sel.nil | with_reducible exact Del.here | with_reducible apply Del.there | with_reducible apply Sel.cons | with_reducible apply Sel.drop)); done) | (repeat (first | exact Sel.refl | exact Sel.nil | exact Del.here | apply Del.there | apply Sel.cons | apply Sel.drop)))) | exact M.rdLit' (by first | ((repeat (first | with_reducible exact Has.here | with_reducible refine Has.there ?_)); done) | (repeat (first | exact Has.here | refine Has.there ?_))) | exact M.rdLent (by first | ((repeat (first | with_reducible exact Has.here | with_reducible refine Has.there ?_)); done) | (repeat (first | exact Has.here | refine Has.there ?_))) | exact RdB.nil _ _) (by omega) | exact RdB.suf (by first | with_reducible assumption | with_reducible exact RdB.mem (by with_reducible assumption) M | exact M.rdB (by first | ((repeat (first | with_reducible exact Has.here | with_reducible refine Has.there ?_)); done) | (repeat (first | exact Has.here | refine Has.there ?_))) | exact RdH.at (by assumption) (M.sel (by first | ((repeat (first | with_reducible exact Sel.refl | with_reducible exact Sel.nil | with_reducible exact Del.here | with_reducible apply Del.there | with_reducible apply Sel.cons | with_reducible apply Sel.drop)); done) | (repeat (first | exact Sel.refl | exact Sel.nil | exact Del.here | apply Del.there | apply Sel.cons | apply Sel.drop)))) | exact M.rdLit' (by first | ((repeat (first | with_reducible exact Has.here | with_reducible refine Has.there ?_)); done) | (repeat (first | exact Has.here | refine Has.there ?_))) | exact M.rdLent (by first | ((repeat (first | with_reducible exact Has.here | with_reducible refine Has.there ?_)); done) | (repeat (first | exact Has.here | refine Has.there ?_))) | exact RdB.nil _ _) (by omega)))) rfl ?_
                rintro _ w ⟨rfl, x2, hg, hs, ho, M⟩
                rw [hg]
                refine WL.nil ?_
                refine WX.next ?_
                refine W.sub [(1, _), (5, _), (7, _), (8, _)] (.cons rfl (.cons rfl (.cons rfl (.cons rfl .nil)))) ?_
                refine W.exit ?_
                refine WX.thenExit ?_
                refine WX.blockHere ?_
                refine WX.join (x2) (by (repeat' (first | exact envSub.nil | refine envSub.cons ?_ ?_)) <;> first | rfl | (refine congrArg some ?_; refine congrArg (Value.int _) ?_; first | omega | (dsimp only; omega)) | (simp; done) | (refine congrArg some ?_; dsimp only; congr 1; omega) | (simp; omega)) ⟨M.sel (by first | ((repeat (first | with_reducible exact Sel.refl | with_reducible exact Sel.nil | with_reducible exact Del.here | with_reducible apply Del.there | with_reducible apply Sel.cons | with_reducible apply Sel.drop)); done) | (repeat (first | exact Sel.refl | exact Sel.nil | exact Del.here | apply Del.there | apply Sel.cons | apply Sel.drop))), ⟨ho, (by rw [hs, ← hxm]; unfold endS; split <;> rfl), (by rw [hs]; exact hfx.end_ _ _ _)⟩⟩
              · refine W.skip ?_
                refine WX.next ?_
                refine W.seq ?_
                refine W.region ?_
                refine WL.move rfl rfl ?_
                refine WL.fieldR (off := 1) Try.underlying35 rfl rfl Try.sizeOf29 rfl rfl rfl ?_
                refine WL.loadR Try.isAgg29 rfl M (by first | ((repeat (first | with_reducible exact Has.here | with_reducible refine Has.there ?_)); done) | (repeat (first | exact Has.here | refine Has.there ?_))) rfl rfl ?_
                refine WL.fieldR (off := 2) Try.underlying35 rfl rfl Try.sizeOf29 rfl rfl rfl ?_
                refine WL.loadR Try.isAgg29 rfl M (by first | ((repeat (first | with_reducible exact Has.here | with_reducible refine Has.there ?_)); done) | (repeat (first | exact Has.here | refine Has.there ?_))) rfl rfl ?_
                refine WL.call Try.call12 rfl (Begin_ok x hox (hfx.lt (by omega)) (el l i).id (el l i).num hin.id hin.num w0 w _ (M.sel (K := x.L ++ (Asr.row g9_4 35 [.int .i64 (el l i).kind, .int .u64 ((el l i).id : Int), .int .u64 ((el l i).num : Int), .slice (el l i).A (el l i).rep.length (el l i).cap] :: Asr.lst clientE B1 b1 ds :: Asr.star (ds.map ClX.O) :: [])) (by first | ((repeat (first | with_reducible exact Sel.refl | with_reducible exact Sel.nil | with_reducible exact Del.here | with_reducible apply Del.there | with_reducible apply Sel.cons | with_reducible apply Sel.drop)); done) | (repeat (first | exact Sel.refl | exact Sel.nil | exact Del.here | apply Del.there | apply Sel.cons | apply Sel.drop))))) rfl ?_
                rintro _ w ⟨x2, A', k', rfl, hg, hs, ho, M⟩
                rw [hg]
                replace M := M.tail
                refine WL.move rfl rfl ?_
                refine WL.extractL rfl rfl rfl ?_
                refine WL.extractL rfl rfl rfl ?_
                refine WL.extractL rfl rfl rfl ?_
                refine WL.assign rfl rfl ?_
                refine WL.assign rfl rfl ?_
                refine WL.assign rfl rfl ?_
                refine WL.nil ?_
                refine WX.next ?_
                refine W.sub [(1, _), (5, _), (7, _), (8, _), (9, _), (10, _), (13, _)] (.cons rfl (.cons rfl (.cons rfl (.cons rfl (.cons rfl (.cons rfl (.cons rfl .nil))))))) ?_
                refine W.seq ?_
                refine W.region ?_
                refine WL.move rfl rfl ?_
                refine WL.call Try.call15 rfl (Clients_ok x2 ho w0 w _ M) rfl ?_
                rintro _ w ⟨B2, b2, es, rfl, hes, M⟩
                have hel2 : es.length = x2.s.l.length := by rw [← hes]; simp
                have hx2l := ho.s.len
                have hx2m : x2.s.most = n := by
                  rw [hs, ← hxm]
                  unfold begS
                  (repeat' split) <;> rfl
                have hstay : begE x.s (el l i).id (el l i).num ≠ 0 → ds.map ClX.key = es.map ClX.key := fun h => by rw [hds, hes, hs, room_stay h]
                have hlast : begE x.s (el l i).id (el l i).num = 0 → 0 < es.length ∧ (el es (es.length - 1)).id = (el l i).id := by
                  intro h
                  obtain ⟨h1, h2⟩ := room_last hox.s hin.id hin.num h
                  rw [← hs, ← hel2] at h1
                  refine ⟨h1, ?_⟩
                  rw [← hs, ← hes, List.length_map, el_map _ _ _ (by omega)] at h2
                  exact h2
                refine WL.assign rfl rfl ?_
                refine WL.nil ?_
                refine WX.next ?_
                refine W.sub [(1, _), (5, _), (7, _), (8, _), (9, _), (10, _), (13, _), (14, _)] (.cons rfl (.cons rfl (.cons rfl (.cons rfl (.cons rfl (.cons rfl (.cons rfl (.cons rfl .nil)))))))) ?_
                refine W.joint (fun (_ : Unit) => [(1, .slice A1 l.length q1), (5, .pointer (some ⟨x2.g, 0, none⟩)), (7, .int .i64 (n : Int)), (8, .int .i64 (i : Int)), (9, .slice B1 ds.length b1), (14, .slice B2 es.length b2)]) (fun j w => Mem w0 w ((fun _ => Asr.lst clientE B1 b1 ds :: Asr.lst clientE B2 b2 es :: (x2.L ++ [])) j) ∧ (fun _ => True) j) ?_ ?_
                · refine W.seq ?_
                  refine W.drawM ([Asr.lst clientE B2 b2 es, Asr.row g9_4 35 [.int .i64 (el l i).kind, .int .u64 ((el l i).id : Int), .int .u64 ((el l i).num : Int), .slice (el l i).A (el l i).rep.length (el l i).cap]]) (by kernel_rfl) (fun j => [22, 23, 24, 25, 26, 27, 28, 29, 30].contains j) M (by first | ((repeat (first | with_reducible exact Sel.refl | with_reducible exact Sel.nil | with_reducible exact Del.here | with_reducible apply Del.there | with_reducible apply Sel.cons | with_reducible apply Sel.drop)); done) | (repeat (first | exact Sel.refl | exact Sel.nil | exact Del.here | apply Del.there | apply Sel.cons | apply Sel.drop))) ?_
                  clear M; intro M
                  apply DG.pure_ [0, 1, 2, 3] 31 rfl (by kernel_rfl) (by kernel_rfl)
                  · intro w
                    refine WL.move rfl rfl ?_
                    refine WL.len Try.underlying41 rfl rfl ?_
                    refine WL.move rfl rfl ?_
                    refine WL.gtr rfl rfl rfl ?_
                    exact Chain.end_ rfl
                  refine DG.knowP (t := 93) rfl (fun c8 => ?_) (fun c8 => ?_)
                  · exact absurd c8 (by omega)
                  · apply DG.pure_ [4, 5, 6] 28 rfl (by kernel_rfl) (by kernel_rfl)
                    · intro w
                      refine WL.move rfl rfl ?_
                      refine WL.on rfl rfl ?_
                      refine WL.move rfl rfl ?_
                      refine WL.on rfl rfl ?_
                      refine WL.neI rfl rfl rfl ?_
                      exact Chain.end_ rfl
                    refine DG.knowP (t := 96) rfl (fun c9 => ?_) (fun c9 => ?_)
                    · apply DG.pure_ [7, 8, 9] 25 rfl (by kernel_rfl) (by kernel_rfl)
                      · intro w
                        refine WL.on rfl rfl ?_
                        refine WL.move rfl rfl ?_
                        refine WL.on rfl rfl ?_
                        refine WL.move rfl rfl ?_
                        refine WL.on rfl rfl ?_
                        refine WL.move rfl rfl ?_
                        exact Chain.end_ rfl
                      refine DG.step 10 24 rfl (by kernel_rfl) ?_
                      refine WL.on rfl rfl ?_
                      refine WL.call Try.call16 rfl (Same13_ok (cs := ds) (ds := es) (by first | with_reducible assumption | with_reducible exact RdL.mem (by with_reducible assumption) M | exact M.rdL (by first | ((repeat (first | with_reducible exact Has.here | with_reducible refine Has.there ?_)); done) | (repeat (first | exact Has.here | refine Has.there ?_))) | exact RdLH.at (by assumption) (M.sel (by first | ((repeat (first | with_reducible exact Sel.refl | with_reducible exact Sel.nil | with_reducible exact Del.here | with_reducible apply Del.there | with_reducible apply Sel.cons | with_reducible apply Sel.drop)); done) | (repeat (first | exact Sel.refl | exact Sel.nil | exact Del.here | apply Del.there | apply Sel.cons | apply Sel.drop)))) | exact RdL.nil _ _ _) (by first | with_reducible assumption | with_reducible exact RdL.mem (by with_reducible assumption) M | exact M.rdL (by first | ((repeat (first | with_reducible exact Has.here | with_reducible refine Has.there ?_)); done) | (repeat (first | exact Has.here | refine Has.there ?_))) | exact RdLH.at (by assumption) (M.sel (by first | ((repeat (first | with_reducible exact Sel.refl | with_reducible exact Sel.nil | with_reducible exact Del.here | with_reducible apply Del.there | with_reducible apply Sel.cons | with_reducible apply Sel.drop)); done) | (repeat (first | exact Sel.refl | exact Sel.nil | exact Del.here | apply Del.there | apply Sel.cons | apply Sel.drop)))) | exact RdL.nil _ _ _) (M.reads (by first | ((repeat (first | with_reducible exact Has.here | with_reducible refine Has.there ?_)); done) | (repeat (first | exact Has.here | refine Has.there ?_)))) (M.reads (by first | ((repeat (first | with_reducible exact Has.here | with_reducible refine Has.there ?_)); done) | (repeat (first | exact Has.here | refine Has.there ?_)))) (by omega)) rfl ?_
                      rintro _ w ⟨rfl, m⟩
                      replace M := M.call0 m; clear m
                      refine DG.go (G := fun j => [22, 23, 24, 25, 26, 27, 28, 29, 30].contains j) (i := 10) (f' := 24) (done := [0, 1, 2, 3, 4, 5, 6, 7, 8, 9]) (fun h => by cases h) ?_
                      apply DG.pure_ [11, 12, 13] 21 rfl (by kernel_rfl) (by kernel_rfl)
                      · intro w
                        refine WL.on rfl rfl ?_
                        refine WL.notP rfl rfl ?_
                        refine WL.on rfl rfl ?_
                        refine WL.pickT rfl rfl rfl ?_
                        refine WL.pickF rfl rfl rfl ?_
                        exact Chain.end_ rfl
                      refine DG.knowP (t := 103) rfl (fun c10 => ?_) (fun c10 => ?_)
                      · exact absurd (hstay c9) c10
                      · apply DG.pure_ [14, 15, 16] 18 rfl (by kernel_rfl) (by kernel_rfl)
                        · intro w
                          refine WL.move rfl rfl ?_
                          refine WL.on rfl rfl ?_
                          refine WL.move rfl rfl ?_
                          refine WL.on rfl rfl ?_
                          refine WL.eqI rfl rfl rfl ?_
                          exact Chain.end_ rfl
                        refine DG.knowP (t := 106) rfl (fun c11 => ?_) (fun c11 => ?_)
                        · exact absurd c11 c9
                        · apply DG.pure_ [17, 18, 19, 20] 14 rfl (by kernel_rfl) (by kernel_rfl)
                          · intro w
                            refine WL.on rfl rfl ?_
                            refine WL.move rfl rfl ?_
                            refine WL.off rfl rfl rfl rfl ?_
                            refine WL.off rfl rfl rfl rfl ?_
                            refine WL.off rfl rfl rfl rfl ?_
                            exact Chain.end_ rfl
                          apply DG.pure_ [21] 13 rfl (by kernel_rfl) (by kernel_rfl)
                          · intro w
                            refine WL.off rfl rfl rfl rfl ?_
                            exact Chain.end_ rfl
                          apply DG.take [22, 23, 24, 25, 26, 27, 28, 29, 30, 31, 32, 33, 34] 0 rfl (by kernel_rfl) (by kernel_rfl) (M.sel (by first | ((repeat (first | with_reducible exact Sel.refl | with_reducible exact Sel.nil | with_reducible exact Del.here | with_reducible apply Del.there | with_reducible apply Sel.cons | with_reducible apply Sel.drop)); done) | (repeat (first | exact Sel.refl | exact Sel.nil | exact Del.here | apply Del.there | apply Sel.cons | apply Sel.drop))))
                          · intro w M
                            refine WL.offU rfl rfl rfl ?_
                            refine WL.offU rfl rfl rfl ?_
                            refine WL.offU rfl rfl rfl ?_
                            refine WL.offU rfl rfl rfl ?_
                            refine WL.offU rfl rfl rfl ?_
                            refine WL.offU rfl rfl rfl ?_
                            refine WL.offU rfl rfl rfl ?_
                            refine WL.offU rfl rfl rfl ?_
                            refine WL.offU rfl rfl rfl ?_
                            refine WL.offU rfl rfl rfl ?_
                            refine WL.off rfl rfl rfl rfl ?_
                            refine WL.on rfl rfl ?_
                            refine WL.pickF rfl rfl rfl ?_
                            refine WL.pickF rfl rfl rfl ?_
                            exact Chain.end_ rfl
                          refine DG.end_ (by kernel_rfl) ?_
                          refine WX.next ?_
                          refine W.sub [(1, _), (5, _), (7, _), (8, _), (9, _), (14, _), (124, _)] (.cons rfl (.cons rfl (.cons rfl (.cons rfl (.cons rfl (.cons rfl (.cons rfl .nil))))))) ?_
                          refine W.condF rfl ?_
                          refine W.skip ?_
                          refine WX.join (()) (by (repeat' (first | exact envSub.nil | refine envSub.cons ?_ ?_)) <;> first | rfl | (refine congrArg some ?_; refine congrArg (Value.int _) ?_; first | omega | (dsimp only; omega)) | (simp; done) | (refine congrArg some ?_; dsimp only; congr 1; omega) | (simp; omega)) ⟨M.sel (by first | ((repeat (first | with_reducible exact Sel.refl | with_reducible exact Sel.nil | with_reducible exact Del.here | with_reducible apply Del.there | with_reducible apply Sel.cons | with_reducible apply Sel.drop)); done) | (repeat (first | exact Sel.refl | exact Sel.nil | exact Del.here | apply Del.there | apply Sel.cons | apply Sel.drop))), trivial⟩
                    · apply DG.pure_ [7, 8, 9] 25 rfl (by kernel_rfl) (by kernel_rfl)
                      · intro w
                        refine WL.on rfl rfl ?_
                        refine WL.move rfl rfl ?_
                        refine WL.off rfl rfl rfl rfl ?_
                        refine WL.off rfl rfl rfl rfl ?_
                        exact Chain.end_ rfl
                      refine DG.step 10 24 rfl (by kernel_rfl) ?_
                      refine WL.off rfl rfl rfl rfl ?_
                      refine DG.go (G := fun j => [22, 23, 24, 25, 26, 27, 28, 29, 30].contains j) (i := 10) (f' := 24) (done := [0, 1, 2, 3, 4, 5, 6, 7, 8, 9]) (fun h => by cases h) ?_
                      apply DG.pure_ [11, 12, 13] 21 rfl (by kernel_rfl) (by kernel_rfl)
                      · intro w
                        refine WL.off rfl rfl rfl rfl ?_
                        refine WL.on rfl rfl ?_
                        refine WL.pickF rfl rfl rfl ?_
                        refine WL.pickF rfl rfl rfl ?_
                        exact Chain.end_ rfl
                      apply DG.pure_ [14, 15, 16] 18 rfl (by kernel_rfl) (by kernel_rfl)
                      · intro w
                        refine WL.move rfl rfl ?_
                        refine WL.on rfl rfl ?_
                        refine WL.move rfl rfl ?_
                        refine WL.on rfl rfl ?_
                        refine WL.eqI rfl rfl rfl ?_
                        exact Chain.end_ rfl
                      refine DG.knowP (t := 106) rfl (fun c11 => ?_) (fun c11 => ?_)
                      · apply DG.pure_ [17, 18, 19, 20] 14 rfl (by kernel_rfl) (by kernel_rfl)
                        · intro w
                          refine WL.on rfl rfl ?_
                          refine WL.move rfl rfl ?_
                          refine WL.on rfl rfl ?_
                          refine WL.move rfl rfl ?_
                          refine WL.on rfl rfl ?_
                          refine WL.len Try.underlying41 rfl rfl ?_
                          refine WL.on rfl rfl ?_
                          refine WL.eqI rfl rfl rfl ?_
                          exact Chain.end_ rfl
                        refine DG.knowP (t := 110) rfl (fun c12 => ?_) (fun c12 => ?_)
                        · have h9 := (hlast c11).1; exact absurd c12 (by omega)
                        · apply DG.pure_ [21] 13 rfl (by kernel_rfl) (by kernel_rfl)
                          · intro w
                            refine WL.on rfl rfl ?_
                            refine WL.move rfl rfl ?_
                            exact Chain.end_ rfl
                          apply DG.take [22, 23, 24, 25, 26, 27, 28, 29, 30, 31, 32, 33, 34] 0 rfl (by kernel_rfl) (by kernel_rfl) (M.sel (by first | ((repeat (first | with_reducible exact Sel.refl | with_reducible exact Sel.nil | with_reducible exact Del.here | with_reducible apply Del.there | with_reducible apply Sel.cons | with_reducible apply Sel.drop)); done) | (repeat (first | exact Sel.refl | exact Sel.nil | exact Del.here | apply Del.there | apply Sel.cons | apply Sel.drop))))
                          · intro w M
                            refine WL.on rfl rfl ?_
                            refine WL.move rfl rfl ?_
                            refine WL.on rfl rfl ?_
                            refine WL.move rfl rfl ?_
                            refine WL.on rfl rfl ?_
                            refine WL.len Try.underlying41 rfl rfl ?_
                            refine WL.on rfl rfl ?_
                            refine WL.sub' rfl rfl (by first | exact wI64 (by omega) | rfl) rfl ?_
                            refine WL.on rfl rfl ?_
                            refine WL.idxA Try.underlying41 Try.sizeOf45 rfl rfl (RdL.isSome (E := clientE) (by first | with_reducible assumption | with_reducible exact RdL.mem (by with_reducible assumption) M | exact M.rdL (by first | ((repeat (first | with_reducible exact Has.here | with_reducible refine Has.there ?_)); done) | (repeat (first | exact Has.here | refine Has.there ?_))) | exact RdLH.at (by assumption) (M.sel (by first | ((repeat (first | with_reducible exact Sel.refl | with_reducible exact Sel.nil | with_reducible exact Del.here | with_reducible apply Del.there | with_reducible apply Sel.cons | with_reducible apply Sel.drop)); done) | (repeat (first | exact Sel.refl | exact Sel.nil | exact Del.here | apply Del.there | apply Sel.cons | apply Sel.drop)))) | exact RdL.nil _ _ _) (by omega)) (by omega) (by omega) (show (es.length : Int) - 1 = ((es.length - 1 : Nat) : Int) by omega) rfl ?_
                            refine WL.on rfl rfl ?_
                            refine WL.fieldA (off := 0) Try.underlying45 rfl rfl Try.sizeOf29 rfl rfl rfl ?_
                            refine WL.on rfl rfl ?_
                            refine WL.loadE (E := clientE) Try.isAgg29 rfl (by first | with_reducible assumption | with_reducible exact RdL.mem (by with_reducible assumption) M | exact M.rdL (by first | ((repeat (first | with_reducible exact Has.here | with_reducible refine Has.there ?_)); done) | (repeat (first | exact Has.here | refine Has.there ?_))) | exact RdLH.at (by assumption) (M.sel (by first | ((repeat (first | with_reducible exact Sel.refl | with_reducible exact Sel.nil | with_reducible exact Del.here | with_reducible apply Del.there | with_reducible apply Sel.cons | with_reducible apply Sel.drop)); done) | (repeat (first | exact Sel.refl | exact Sel.nil | exact Del.here | apply Del.there | apply Sel.cons | apply Sel.drop)))) | exact RdL.nil _ _ _) (by omega) rfl rfl ?_
                            refine WL.on rfl rfl ?_
                            refine WL.fieldR (off := 1) Try.underlying35 rfl rfl Try.sizeOf29 rfl rfl rfl ?_
                            refine WL.on rfl rfl ?_
                            refine WL.loadR Try.isAgg29 rfl M (by first | ((repeat (first | with_reducible exact Has.here | with_reducible refine Has.there ?_)); done) | (repeat (first | exact Has.here | refine Has.there ?_))) rfl rfl ?_
                            refine WL.on rfl rfl ?_
                            refine WL.neI rfl rfl rfl ?_
                            refine WL.on rfl rfl ?_
                            refine WL.pickF rfl rfl rfl ?_
                            refine WL.on rfl rfl ?_
                            refine WL.pickT rfl rfl rfl ?_
                            refine WL.pickF rfl rfl rfl ?_
                            exact Chain.end_ rfl
                          refine DG.end_ (by kernel_rfl) ?_
                          refine WX.next ?_
                          refine W.sub [(1, _), (5, _), (7, _), (8, _), (9, _), (14, _), (124, _)] (.cons rfl (.cons rfl (.cons rfl (.cons rfl (.cons rfl (.cons rfl (.cons rfl .nil))))))) ?_
                          refine W.ite rfl (fun c13 => ?_) (fun c13 => ?_)
                          · exact absurd (congrArg (Nat.cast : Nat → Int) (hlast c11).2) c13
                          · refine W.skip ?_
                            refine WX.join (()) (by (repeat' (first | exact envSub.nil | refine envSub.cons ?_ ?_)) <;> first | rfl | (refine congrArg some ?_; refine congrArg (Value.int _) ?_; first | omega | (dsimp only; omega)) | (simp; done) | (refine congrArg some ?_; dsimp only; congr 1; omega) | (simp; omega)) ⟨M.sel (by first | ((repeat (first | with_reducible exact Sel.refl | with_reducible exact Sel.nil | with_reducible exact Del.here | with_reducible apply Del.there | with_reducible apply Sel.cons | with_reducible apply Sel.drop)); done) | (repeat (first | exact Sel.refl | exact Sel.nil | exact Del.here | apply Del.there | apply Sel.cons | apply Sel.drop))), trivial⟩
                      · exact absurd (Classical.not_not.1 c9) c11
                clear M; rintro (⟨⟩) w ⟨M, -⟩; dsimp only at M ⊢
                refine W.sub [(1, _), (5, _), (7, _), (8, _), (9, _), (14, _)] (.cons rfl (.cons rfl (.cons rfl (.cons rfl (.cons rfl (.cons rfl .nil)))))) ?_
                refine W.seq ?_
                refine W.region ?_
                refine WL.assign rfl rfl ?_
                refine WL.nil ?_
                refine WX.next ?_
                refine W.sub [(1, _), (5, _), (7, _), (8, _), (9, _), (14, _), (15, _)] (.cons rfl (.cons rfl (.cons rfl (.cons rfl (.cons rfl (.cons rfl (.cons rfl .nil))))))) ?_
                refine W.seq ?_
                refine W.seq ?_
                refine W.region ?_
                refine WL.assign rfl rfl ?_
                refine WL.nil ?_
                refine WX.next ?_
                refine W.sub [(1, _), (5, _), (7, _), (8, _), (9, _), (14, _), (15, _), (16, _)] (.cons rfl (.cons rfl (.cons rfl (.cons rfl (.cons rfl (.cons rfl (.cons rfl (.cons rfl .nil)))))))) ?_
                refine W.block ?_
                refine W.loop (ι := Nat × Nat) (fun z => [(1, .slice A1 l.length q1), (5, .pointer (some ⟨x2.g, 0, none⟩)), (7, .int .i64 (n : Int)), (8, .int .i64 (i : Int)), (9, .slice B1 ds.length b1), (14, .slice B2 es.length b2), (15, .int .i64 (z.2 : Int)), (16, .int .i64 (z.1 : Int))]) (fun zz w => Mem w0 w ((fun _ => Asr.lst clientE B1 b1 ds :: Asr.lst clientE B2 b2 es :: (x2.L ++ [])) zz) ∧ (fun z => z.1 ≤ ds.length ∧ z.2 ≤ if begQ x.s (el l i).id < z.1 then 1 else 0) zz) (fun z => ds.length - z.1) ((0, 0)) (by (repeat' (first | exact envSub.nil | refine envSub.cons ?_ ?_)) <;> first | rfl | (refine congrArg some ?_; refine congrArg (Value.int _) ?_; first | omega | (dsimp only; omega)) | (simp; done) | (refine congrArg some ?_; dsimp only; congr 1; omega) | (simp; omega)) ⟨M.sel (by first | ((repeat (first | with_reducible exact Sel.refl | with_reducible exact Sel.nil | with_reducible exact Del.here | with_reducible apply Del.there | with_reducible apply Sel.cons | with_reducible apply Sel.drop)); done) | (repeat (first | exact Sel.refl | exact Sel.nil | exact Del.here | apply Del.there | apply Sel.cons | apply Sel.drop))), ⟨Nat.zero_le _, Nat.zero_le _⟩⟩ ?_
                clear M; rintro (⟨k, gone⟩) w ⟨M, ⟨hk, hgo⟩⟩; dsimp only at M hk hgo ⊢
                refine W.sub [(1, _), (5, _), (7, _), (8, _), (9, _), (14, _), (15, _), (16, _)] (.cons rfl (.cons rfl (.cons rfl (.cons rfl (.cons rfl (.cons rfl (.cons rfl (.cons rfl .nil)))))))) ?_
                refine W.seq ?_
                refine W.seq ?_
                refine W.region ?_
                refine WL.move rfl rfl ?_
                refine WL.move rfl rfl ?_
                refine WL.len Try.underlying41 rfl rfl ?_
                refine WL.lss rfl rfl rfl ?_
                refine WL.nil ?_
                refine WX.next ?_
                refine W.sub [(1, _), (5, _), (7, _), (8, _), (9, _), (14, _), (15, _), (16, _), (128, _)] (.cons rfl (.cons rfl (.cons rfl (.cons rfl (.cons rfl (.cons rfl (.cons rfl (.cons rfl (.cons rfl .nil))))))))) ?_
                refine W.ite rfl (fun c14 => ?_) (fun c14 => ?_)
                · refine W.skip ?_
                  refine WX.next ?_
                  refine W.joint (fun (go : Nat) => [(1, .slice A1 l.length q1), (5, .pointer (some ⟨x2.g, 0, none⟩)), (7, .int .i64 (n : Int)), (8, .int .i64 (i : Int)), (9, .slice B1 ds.length b1), (14, .slice B2 es.length b2), (15, .int .i64 (go : Int)), (16, .int .i64 (k : Int))]) (fun j w => Mem w0 w ((fun _ => Asr.lst clientE B1 b1 ds :: Asr.lst clientE B2 b2 es :: (x2.L ++ [])) j) ∧ (fun go => go ≤ if begQ x.s (el l i).id < k + 1 then 1 else 0) j) ?_ ?_
                  · refine W.block ?_
                    refine W.seq ?_
                    refine W.seq ?_
                    refine W.region ?_
                    refine WL.move rfl rfl ?_
                    refine WL.move rfl rfl ?_
                    refine WL.move rfl rfl ?_
                    refine WL.idxA Try.underlying41 Try.sizeOf45 rfl rfl (RdL.isSome (E := clientE) (by first | with_reducible assumption | with_reducible exact RdL.mem (by with_reducible assumption) M | exact M.rdL (by first | ((repeat (first | with_reducible exact Has.here | with_reducible refine Has.there ?_)); done) | (repeat (first | exact Has.here | refine Has.there ?_))) | exact RdLH.at (by assumption) (M.sel (by first | ((repeat (first | with_reducible exact Sel.refl | with_reducible exact Sel.nil | with_reducible exact Del.here | with_reducible apply Del.there | with_reducible apply Sel.cons | with_reducible apply Sel.drop)); done) | (repeat (first | exact Sel.refl | exact Sel.nil | exact Del.here | apply Del.there | apply Sel.cons | apply Sel.drop)))) | exact RdL.nil _ _ _) (by omega)) (by omega) (by omega) (by first | exact rfl | exact (Int.toNat_of_nonneg (by omega)).symm) rfl ?_
                    refine WL.fieldA (off := 0) Try.underlying45 rfl rfl Try.sizeOf29 rfl rfl rfl ?_
                    refine WL.loadE (E := clientE) Try.isAgg29 rfl (by first | with_reducible assumption | with_reducible exact RdL.mem (by with_reducible assumption) M | exact M.rdL (by first | ((repeat (first | with_reducible exact Has.here | with_reducible refine Has.there ?_)); done) | (repeat (first | exact Has.here | refine Has.there ?_))) | exact RdLH.at (by assumption) (M.sel (by first | ((repeat (first | with_reducible exact Sel.refl | with_reducible exact Sel.nil | with_reducible exact Del.here | with_reducible apply Del.there | with_reducible apply Sel.cons | with_reducible apply Sel.drop)); done) | (repeat (first | exact Sel.refl | exact Sel.nil | exact Del.here | apply Del.there | apply Sel.cons | apply Sel.drop)))) | exact RdL.nil _ _ _) (by omega) rfl rfl ?_
                    refine WL.call Try.call17 rfl (place_ok (cs := es) (by first | with_reducible assumption | with_reducible exact RdL.mem (by with_reducible assumption) M | exact M.rdL (by first | ((repeat (first | with_reducible exact Has.here | with_reducible refine Has.there ?_)); done) | (repeat (first | exact Has.here | refine Has.there ?_))) | exact RdLH.at (by assumption) (M.sel (by first | ((repeat (first | with_reducible exact Sel.refl | with_reducible exact Sel.nil | with_reducible exact Del.here | with_reducible apply Del.there | with_reducible apply Sel.cons | with_reducible apply Sel.drop)); done) | (repeat (first | exact Sel.refl | exact Sel.nil | exact Del.here | apply Del.there | apply Sel.cons | apply Sel.drop)))) | exact RdL.nil _ _ _) (by omega) (el ds k).id) rfl ?_
                    rintro _ w ⟨rfl, m⟩
                    replace M := M.call0 m; clear m
                    refine WL.geq rfl rfl rfl ?_
                    refine WL.nil ?_
                    refine WX.next ?_
                    refine W.sub [(1, _), (5, _), (7, _), (8, _), (9, _), (14, _), (15, _), (16, _), (138, _)] (.cons rfl (.cons rfl (.cons rfl (.cons rfl (.cons rfl (.cons rfl (.cons rfl (.cons rfl (.cons rfl .nil))))))))) ?_
                    refine W.ite rfl (fun c15 => ?_) (fun c15 => ?_)
                    · refine W.exit ?_
                      refine WX.thenExit ?_
                      refine WX.blockHere ?_
                      refine WX.join (gone) (by (repeat' (first | exact envSub.nil | refine envSub.cons ?_ ?_)) <;> first | rfl | (refine congrArg some ?_; refine congrArg (Value.int _) ?_; first | omega | (dsimp only; omega)) | (simp; done) | (refine congrArg some ?_; dsimp only; congr 1; omega) | (simp; omega)) ⟨M.sel (by first | ((repeat (first | with_reducible exact Sel.refl | with_reducible exact Sel.nil | with_reducible exact Del.here | with_reducible apply Del.there | with_reducible apply Sel.cons | with_reducible apply Sel.drop)); done) | (repeat (first | exact Sel.refl | exact Sel.nil | exact Del.here | apply Del.there | apply Sel.cons | apply Sel.drop))), (by split at hgo <;> split <;> omega)⟩
                    · have hno : ¬ posN (es.map ClX.key) (el ds k).id < es.length := fun h => by rw [atI_in h] at c15; omega
                      have hkid : (el x.s.l k).id = (el ds k).id := by rw [← hds, el_map _ _ _ (by omega)]; rfl
                      have hroom := room_gone hox.s hin.id hin.num (k := k) (by omega) (by rw [← hs, ← hel2, ← hes, hkid]; exact hno)
                      have hb9 : (el ds k).busy = false := by have := hroom.2.1; rw [← hds, el_map _ _ _ (by omega)] at this; exact this
                      have hbj : ∀ j, j < k → (el ds j).busy = true := fun j hj => by have := hroom.2.2.2 j hj; rw [← hds, el_map _ _ _ (by omega)] at this; exact this
                      have hgo1 : gone ≤ 1 := by split at hgo <;> omega
                      refine W.skip ?_
                      refine WX.next ?_
                      refine W.seq ?_
                      refine W.region ?_
                      refine WL.move rfl rfl ?_
                      refine WL.add rfl rfl (by first | exact wI64 (by omega) | rfl) rfl ?_
                      refine WL.assign rfl rfl ?_
                      refine WL.nil ?_
                      refine WX.next ?_
                      refine W.sub [(1, _), (5, _), (7, _), (8, _), (9, _), (14, _), (15, _), (16, _)] (.cons rfl (.cons rfl (.cons rfl (.cons rfl (.cons rfl (.cons rfl (.cons rfl (.cons rfl .nil)))))))) ?_
                      refine W.seq ?_
                      refine W.seq ?_
                      refine W.region ?_
                      refine WL.move rfl rfl ?_
                      refine WL.move rfl rfl ?_
                      refine WL.idxA Try.underlying41 Try.sizeOf45 rfl rfl (RdL.isSome (E := clientE) (by first | with_reducible assumption | with_reducible exact RdL.mem (by with_reducible assumption) M | exact M.rdL (by first | ((repeat (first | with_reducible exact Has.here | with_reducible refine Has.there ?_)); done) | (repeat (first | exact Has.here | refine Has.there ?_))) | exact RdLH.at (by assumption) (M.sel (by first | ((repeat (first | with_reducible exact Sel.refl | with_reducible exact Sel.nil | with_reducible exact Del.here | with_reducible apply Del.there | with_reducible apply Sel.cons | with_reducible apply Sel.drop)); done) | (repeat (first | exact Sel.refl | exact Sel.nil | exact Del.here | apply Del.there | apply Sel.cons | apply Sel.drop)))) | exact RdL.nil _ _ _) (by omega)) (by omega) (by omega) (by first | exact rfl | exact (Int.toNat_of_nonneg (by omega)).symm) rfl ?_
                      refine WL.fieldA (off := 2) Try.underlying45 rfl rfl Try.sizeOf4 rfl rfl rfl ?_
                      refine WL.loadE (E := clientE) Try.isAgg4 rfl (by first | with_reducible assumption | with_reducible exact RdL.mem (by with_reducible assumption) M | exact M.rdL (by first | ((repeat (first | with_reducible exact Has.here | with_reducible refine Has.there ?_)); done) | (repeat (first | exact Has.here | refine Has.there ?_))) | exact RdLH.at (by assumption) (M.sel (by first | ((repeat (first | with_reducible exact Sel.refl | with_reducible exact Sel.nil | with_reducible exact Del.here | with_reducible apply Del.there | with_reducible apply Sel.cons | with_reducible apply Sel.drop)); done) | (repeat (first | exact Sel.refl | exact Sel.nil | exact Del.here | apply Del.there | apply Sel.cons | apply Sel.drop)))) | exact RdL.nil _ _ _) (by omega) rfl rfl ?_
                      refine WL.moveIfB rfl rfl (fun c16 => ?_) (fun c16 => ?_)
                      · exact absurd (hb9.symm.trans c16) (by decide)
                      · refine WL.on rfl rfl ?_
                        refine WL.move rfl rfl ?_
                        refine WL.on rfl rfl ?_
                        refine WL.len Try.underlying41 rfl rfl ?_
                        refine WL.on rfl rfl ?_
                        refine WL.move rfl rfl ?_
                        refine WL.on rfl rfl ?_
                        refine WL.lss rfl rfl rfl ?_
                        refine WL.pickF rfl rfl rfl ?_
                        refine WL.nil ?_
                        refine WX.next ?_
                        refine W.sub [(1, _), (5, _), (7, _), (8, _), (9, _), (14, _), (15, _), (16, _), (151, _)] (.cons rfl (.cons rfl (.cons rfl (.cons rfl (.cons rfl (.cons rfl (.cons rfl (.cons rfl (.cons rfl .nil))))))))) ?_
                        refine W.ite rfl (fun c17 => ?_) (fun c17 => ?_)
                        · exact absurd c17 (by omega)
                        · refine W.skip ?_
                          refine WX.next ?_
                          refine W.seq ?_
                          refine W.region ?_
                          refine WL.assign rfl rfl ?_
                          refine WL.nil ?_
                          refine WX.next ?_
                          refine W.sub [(1, _), (5, _), (7, _), (8, _), (9, _), (14, _), (15, _), (16, _), (17, _)] (.cons rfl (.cons rfl (.cons rfl (.cons rfl (.cons rfl (.cons rfl (.cons rfl (.cons rfl (.cons rfl .nil))))))))) ?_
                          refine W.block ?_
                          refine W.loop (ι := Nat) (fun j => [(1, .slice A1 l.length q1), (5, .pointer (some ⟨x2.g, 0, none⟩)), (7, .int .i64 (n : Int)), (8, .int .i64 (i : Int)), (9, .slice B1 ds.length b1), (14, .slice B2 es.length b2), (15, .int .i64 ((gone + 1 : Nat) : Int)), (16, .int .i64 (k : Int)), (17, .int .i64 (j : Int))]) (fun zz w => Mem w0 w ((fun _ => Asr.lst clientE B1 b1 ds :: Asr.lst clientE B2 b2 es :: (x2.L ++ [])) zz) ∧ (fun j => j ≤ k) zz) (fun j => k - j) (0) (by (repeat' (first | exact envSub.nil | refine envSub.cons ?_ ?_)) <;> first | rfl | (refine congrArg some ?_; refine congrArg (Value.int _) ?_; first | omega | (dsimp only; omega)) | (simp; done) | (refine congrArg some ?_; dsimp only; congr 1; omega) | (simp; omega)) ⟨M.sel (by first | ((repeat (first | with_reducible exact Sel.refl | with_reducible exact Sel.nil | with_reducible exact Del.here | with_reducible apply Del.there | with_reducible apply Sel.cons | with_reducible apply Sel.drop)); done) | (repeat (first | exact Sel.refl | exact Sel.nil | exact Del.here | apply Del.there | apply Sel.cons | apply Sel.drop))), Nat.zero_le _⟩ ?_
                          clear M; rintro (j) w ⟨M, hj⟩; dsimp only at M hj ⊢
                          refine W.sub [(1, _), (5, _), (7, _), (8, _), (9, _), (14, _), (15, _), (16, _), (17, _)] (.cons rfl (.cons rfl (.cons rfl (.cons rfl (.cons rfl (.cons rfl (.cons rfl (.cons rfl (.cons rfl .nil))))))))) ?_
                          refine W.seq ?_
                          refine W.seq ?_
                          refine W.region ?_
                          refine WL.move rfl rfl ?_
                          refine WL.move rfl rfl ?_
                          refine WL.lss rfl rfl rfl ?_
                          refine WL.nil ?_
                          refine WX.next ?_
                          refine W.sub [(1, _), (5, _), (7, _), (8, _), (9, _), (14, _), (15, _), (16, _), (17, _), (154, _)] (.cons rfl (.cons rfl (.cons rfl (.cons rfl (.cons rfl (.cons rfl (.cons rfl (.cons rfl (.cons rfl (.cons rfl .nil)))))))))) ?_
                          refine W.ite rfl (fun c18 => ?_) (fun c18 => ?_)
                          · refine W.skip ?_
                            refine WX.next ?_
                            refine W.seq ?_
                            refine W.block ?_
                            refine W.seq ?_
                            refine W.region ?_
                            refine WL.move rfl rfl ?_
                            refine WL.move rfl rfl ?_
                            refine WL.idxA Try.underlying41 Try.sizeOf45 rfl rfl (RdL.isSome (E := clientE) (by first | with_reducible assumption | with_reducible exact RdL.mem (by with_reducible assumption) M | exact M.rdL (by first | ((repeat (first | with_reducible exact Has.here | with_reducible refine Has.there ?_)); done) | (repeat (first | exact Has.here | refine Has.there ?_))) | exact RdLH.at (by assumption) (M.sel (by first | ((repeat (first | with_reducible exact Sel.refl | with_reducible exact Sel.nil | with_reducible exact Del.here | with_reducible apply Del.there | with_reducible apply Sel.cons | with_reducible apply Sel.drop)); done) | (repeat (first | exact Sel.refl | exact Sel.nil | exact Del.here | apply Del.there | apply Sel.cons | apply Sel.drop)))) | exact RdL.nil _ _ _) (by omega)) (by omega) (by omega) (by first | exact rfl | exact (Int.toNat_of_nonneg (by omega)).symm) rfl ?_
                            refine WL.fieldA (off := 2) Try.underlying45 rfl rfl Try.sizeOf4 rfl rfl rfl ?_
                            refine WL.loadE (E := clientE) Try.isAgg4 rfl (by first | with_reducible assumption | with_reducible exact RdL.mem (by with_reducible assumption) M | exact M.rdL (by first | ((repeat (first | with_reducible exact Has.here | with_reducible refine Has.there ?_)); done) | (repeat (first | exact Has.here | refine Has.there ?_))) | exact RdLH.at (by assumption) (M.sel (by first | ((repeat (first | with_reducible exact Sel.refl | with_reducible exact Sel.nil | with_reducible exact Del.here | with_reducible apply Del.there | with_reducible apply Sel.cons | with_reducible apply Sel.drop)); done) | (repeat (first | exact Sel.refl | exact Sel.nil | exact Del.here | apply Del.there | apply Sel.cons | apply Sel.drop)))) | exact RdL.nil _ _ _) (by omega) rfl rfl ?_
                            refine WL.not rfl rfl ?_
                            refine WL.nil ?_
                            refine WX.next ?_
                            refine W.sub [(1, _), (5, _), (7, _), (8, _), (9, _), (14, _), (15, _), (16, _), (17, _), (162, _)] (.cons rfl (.cons rfl (.cons rfl (.cons rfl (.cons rfl (.cons rfl (.cons rfl (.cons rfl (.cons rfl (.cons rfl .nil)))))))))) ?_
                            refine W.cond rfl (fun c19 => ?_) (fun c19 => ?_)
                            · (try simp only [Bool.not_eq_true'] at c19); (try simp only [Bool.not_eq_false'] at c19); (try simp only [decide_eq_true_eq] at c19); (try simp only [decide_eq_false_iff_not] at c19)
                              rw [hbj j (by omega)] at c19; exact absurd c19 (by decide)
                            · (try simp only [Bool.not_eq_true'] at c19); (try simp only [Bool.not_eq_false'] at c19); (try simp only [decide_eq_true_eq] at c19); (try simp only [decide_eq_false_iff_not] at c19)
                              refine W.skip ?_
                              refine WX.blockNormal ?_
                              refine WX.next ?_
                              refine W.region ?_
                              refine WL.move rfl rfl ?_
                              refine WL.add rfl rfl (by first | exact wI64 (by omega) | rfl) rfl ?_
                              refine WL.assign rfl rfl ?_
                              refine WL.nil ?_
                              refine WX.round (j + 1) (by (repeat' (first | exact envSub.nil | refine envSub.cons ?_ ?_)) <;> first | rfl | (refine congrArg some ?_; refine congrArg (Value.int _) ?_; first | omega | (dsimp only; omega)) | (simp; done) | (refine congrArg some ?_; dsimp only; congr 1; omega) | (simp; omega)) ⟨M.sel (by first | ((repeat (first | with_reducible exact Sel.refl | with_reducible exact Sel.nil | with_reducible exact Del.here | with_reducible apply Del.there | with_reducible apply Sel.cons | with_reducible apply Sel.drop)); done) | (repeat (first | exact Sel.refl | exact Sel.nil | exact Del.here | apply Del.there | apply Sel.cons | apply Sel.drop))), by omega⟩ (by first | omega | (dsimp only; omega))
                          · refine W.exit ?_
                            refine WX.thenExit ?_
                            refine WX.thenExit ?_
                            refine WX.blockHere ?_
                            refine WX.blockNormal ?_
                            refine WX.join (gone + 1) (by (repeat' (first | exact envSub.nil | refine envSub.cons ?_ ?_)) <;> first | rfl | (refine congrArg some ?_; refine congrArg (Value.int _) ?_; first | omega | (dsimp only; omega)) | (simp; done) | (refine congrArg some ?_; dsimp only; congr 1; omega) | (simp; omega)) ⟨M.sel (by first | ((repeat (first | with_reducible exact Sel.refl | with_reducible exact Sel.nil | with_reducible exact Del.here | with_reducible apply Del.there | with_reducible apply Sel.cons | with_reducible apply Sel.drop)); done) | (repeat (first | exact Sel.refl | exact Sel.nil | exact Del.here | apply Del.there | apply Sel.cons | apply Sel.drop))), (by rw [if_pos (by omega)]; rw [if_neg (by omega)] at hgo; omega)⟩
                  clear M; rintro (go) w ⟨M, hgo2⟩; dsimp only at M hgo2 ⊢
                  refine W.sub [(1, _), (5, _), (7, _), (8, _), (9, _), (14, _), (15, _), (16, _)] (.cons rfl (.cons rfl (.cons rfl (.cons rfl (.cons rfl (.cons rfl (.cons rfl (.cons rfl .nil)))))))) ?_
                  refine W.region ?_
                  refine WL.move rfl rfl ?_
                  refine WL.add rfl rfl (by first | exact wI64 (by omega) | rfl) rfl ?_
                  refine WL.assign rfl rfl ?_
                  refine WL.nil ?_
                  refine WX.round ((k + 1, go)) (by (repeat' (first | exact envSub.nil | refine envSub.cons ?_ ?_)) <;> first | rfl | (refine congrArg some ?_; refine congrArg (Value.int _) ?_; first | omega | (dsimp only; omega)) | (simp; done) | (refine congrArg some ?_; dsimp only; congr 1; omega) | (simp; omega)) ⟨M.sel (by first | ((repeat (first | with_reducible exact Sel.refl | with_reducible exact Sel.nil | with_reducible exact Del.here | with_reducible apply Del.there | with_reducible apply Sel.cons | with_reducible apply Sel.drop)); done) | (repeat (first | exact Sel.refl | exact Sel.nil | exact Del.here | apply Del.there | apply Sel.cons | apply Sel.drop))), ⟨by dsimp only; omega, hgo2⟩⟩ (by first | omega | (dsimp only; omega))
                · have hgo1 : gone ≤ 1 := by split at hgo <;> omega
                  refine W.exit ?_
                  refine WX.thenExit ?_
                  refine WX.thenExit ?_
                  refine WX.blockHere ?_
                  refine WX.next ?_
                  refine W.seq ?_
                  refine W.region ?_
                  refine WL.move rfl rfl ?_
                  refine WL.gtr rfl rfl rfl ?_
                  refine WL.nil ?_
                  refine WX.next ?_
                  refine W.sub [(1, _), (5, _), (7, _), (8, _), (164, _)] (.cons rfl (.cons rfl (.cons rfl (.cons rfl (.cons rfl .nil))))) ?_
                  refine W.ite rfl (fun c20 => ?_) (fun c20 => ?_)
                  · exact absurd c20 (by omega)
                  · refine W.skip ?_
                    refine WX.blockNormal ?_
                    refine WX.join (x2) (by (repeat' (first | exact envSub.nil | refine envSub.cons ?_ ?_)) <;> first | rfl | (refine congrArg some ?_; refine congrArg (Value.int _) ?_; first | omega | (dsimp only; omega)) | (simp; done) | (refine congrArg some ?_; dsimp only; congr 1; omega) | (simp; omega)) ⟨M.sel (by first | ((repeat (first | with_reducible exact Sel.refl | with_reducible exact Sel.nil | with_reducible exact Del.here | with_reducible apply Del.there | with_reducible apply Sel.cons | with_reducible apply Sel.drop)); done) | (repeat (first | exact Sel.refl | exact Sel.nil | exact Del.here | apply Del.there | apply Sel.cons | apply Sel.drop))), ⟨ho, hx2m, (by rw [hs]; exact hfx.beg _ _)⟩⟩
            clear M; rintro (y) w ⟨M, hj⟩; dsimp only at M hj ⊢
            refine W.sub [(1, _), (5, _), (7, _), (8, _)] (.cons rfl (.cons rfl (.cons rfl (.cons rfl .nil)))) ?_
            refine W.region ?_
            refine WL.move rfl rfl ?_
            refine WL.add rfl rfl (by first | exact wI64 (by omega) | rfl) rfl ?_
            refine WL.assign rfl rfl ?_
            refine WL.nil ?_
            refine WX.round ((i + 1, y)) (by (repeat' (first | exact envSub.nil | refine envSub.cons ?_ ?_)) <;> first | rfl | (refine congrArg some ?_; refine congrArg (Value.int _) ?_; first | omega | (dsimp only; omega)) | (simp; done) | (refine congrArg some ?_; dsimp only; congr 1; omega) | (simp; omega)) ⟨M.sel (by first | ((repeat (first | with_reducible exact Sel.refl | with_reducible exact Sel.nil | with_reducible exact Del.here | with_reducible apply Del.there | with_reducible apply Sel.cons | with_reducible apply Sel.drop)); done) | (repeat (first | exact Sel.refl | exact Sel.nil | exact Del.here | apply Del.there | apply Sel.cons | apply Sel.drop))), ⟨⟨by dsimp only; omega, by dsimp only; omega⟩, hj⟩⟩ (by first | omega | (dsimp only; omega))
          · refine W.exit ?_
            refine WX.thenExit ?_
            refine WX.thenExit ?_
            refine WX.blockHere ?_
            refine WX.join (()) (by (repeat' (first | exact envSub.nil | refine envSub.cons ?_ ?_)) <;> first | rfl | (refine congrArg some ?_; refine congrArg (Value.int _) ?_; first | omega | (dsimp only; omega)) | (simp; done) | (refine congrArg some ?_; dsimp only; congr 1; omega) | (simp; omega)) ⟨M.sel (by first | ((repeat (first | with_reducible exact Sel.refl | with_reducible exact Sel.nil | with_reducible exact Del.here | with_reducible apply Del.there | with_reducible apply Sel.cons | with_reducible apply Sel.drop)); done) | (repeat (first | exact Sel.refl | exact Sel.nil | exact Del.here | apply Del.there | apply Sel.cons | apply Sel.drop))), trivial⟩
        · refine WL.off rfl rfl rfl rfl ?_
          refine WL.off rfl rfl rfl rfl ?_
          refine WL.pickF rfl rfl rfl ?_
          refine WL.nil ?_
          refine WX.next ?_
          refine W.sub [(1, _), (5, _), (7, _), (8, _), (58, _)] (.cons rfl (.cons rfl (.cons rfl (.cons rfl (.cons rfl .nil))))) ?_
          refine W.condF rfl ?_
          refine W.exit ?_
          refine WX.thenExit ?_
          refine WX.thenExit ?_
          refine WX.blockHere ?_
          refine WX.join (()) (by (repeat' (first | exact envSub.nil | refine envSub.cons ?_ ?_)) <;> first | rfl | (refine congrArg some ?_; refine congrArg (Value.int _) ?_; first | omega | (dsimp only; omega)) | (simp; done) | (refine congrArg some ?_; dsimp only; congr 1; omega) | (simp; omega)) ⟨M.sel (by first | ((repeat (first | with_reducible exact Sel.refl | with_reducible exact Sel.nil | with_reducible exact Del.here | with_reducible apply Del.there | with_reducible apply Sel.cons | with_reducible apply Sel.drop)); done) | (repeat (first | exact Sel.refl | exact Sel.nil | exact Del.here | apply Del.there | apply Sel.cons | apply Sel.drop))), trivial⟩
      clear M; rintro (⟨⟩) w ⟨M, -⟩; dsimp only at M ⊢
      refine W.sub [] .nil ?_
      refine W.seq ?_
      refine W.region ?_
      refine WL.call Try.call10 rfl (known13_ok _) rfl ?_
      rintro _ w ⟨rfl, m⟩
      replace M := M.call0 m; clear m
      refine WL.assign rfl rfl ?_
      refine WL.nil ?_
      refine WX.next ?_
      refine W.sub [(4, _)] (.cons rfl .nil) ?_
      refine W.ret ?_
      refine WX.ret1 rfl rfl ?_
      exact ⟨rfl, M⟩
end Go.Proofs.Ytmogpoghngmnmaa
