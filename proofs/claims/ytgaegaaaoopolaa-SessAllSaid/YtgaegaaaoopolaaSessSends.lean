/-
  Walk: whatever is pushed and heard (seawalllaw07.SessSends).
-/
import Derived.Test.YtgaegaaaoopolaaSess7
import Derived.Test.YtgaegaaaoopolaaKnown07
namespace Go.Proofs.Ytgaegaaaoopolaa
open Go Go.RowKit

theorem NewSender2 (life : Nat) (window span : Int) (w0 : World) : Fn Try.prog 11 [.int .u64 (life : Int), .int .i64 window, .int .i64 span] w0 fun v w' => ∃ (p : Option Addr) (e : Int) (K : List Asr), v = .tuple #[.pointer p, .int .i64 e] ∧ Mem w0 w' K ∧
    (((window < 1 ∨ window > 64 ∨ span < 1 ∨ span > 1000) ∧ p = none ∧ e = 2 ∧ K = []) ∨ (¬ (window < 1 ∨ window > 64 ∨ span < 1 ∨ span > 1000) ∧ ∃ g, p = some ⟨g, 0, none⟩ ∧ e = 0 ∧ K = [SnX.O ⟨g, none, 0, [], ⟨life, window.toNat, span.toNat, 0, 0, []⟩⟩])) :=
  (NewSender_ok life window span w0).mono fun v w' h => by
    by_cases hw : window < 1 ∨ window > 64 ∨ span < 1 ∨ span > 1000
    · rw [if_pos hw] at h
      obtain ⟨rfl, M⟩ := h
      exact ⟨_, _, _, rfl, M, .inl ⟨hw, rfl, rfl, rfl⟩⟩
    · rw [if_neg hw] at h
      obtain ⟨g, rfl, M⟩ := h
      exact ⟨_, _, _, rfl, M, .inr ⟨hw, g, rfl, rfl, rfl⟩⟩
theorem tickO_len (s : Sn) : (tickO s).length ≤ s.window := Nat.le_trans (outTo_key_len ..) (by unfold Sn.k; omega)
theorem outTo_mem {life acked span now : Nat} {l : List (List UInt8 × Nat)} {q : Nat × Nat × Bool × List UInt8} : ∀ i, i ≤ l.length → q ∈ outTo life acked span now l i → ∃ p ∈ l, q.2.2.2 = p.1
  | 0, _, h => by cases h
  | i + 1, hi, h => by
    unfold outTo at h
    rcases List.mem_append.1 h with h | h
    · exact outTo_mem i (by omega) h
    · split at h
      · rw [List.mem_singleton] at h
        subst h
        exact ⟨el l i, el_mem (by omega), rfl⟩
      · cases h
theorem tickO_body {s : Sn} {i : Nat} (h : s.wel i) {q : Nat × Nat × Bool × List UInt8} (hq : q ∈ tickO s) : q.2.2.2.length ≤ 1000 := by
  obtain ⟨p, hp, e⟩ := outTo_mem s.k (by unfold Sn.k; omega) hq
  rw [e]
  exact h.body p hp
theorem Mem.starJoin {w0 w : World} {K1 K2 L : List Asr} (M : Mem w0 w (Asr.star K1 :: Asr.star K2 :: L)) : Mem w0 w (Asr.star (K1 ++ K2) :: L) := by
  have M1 := (M.unstar.perm List.perm_middle).unstar
  refine Mem.star (M1.perm ?_)
  rw [List.append_assoc]
  exact (List.perm_append_comm_assoc ..)

set_option maxRecDepth 10000 in
set_option maxHeartbeats 1000000 in
theorem SessSends_ok (life : Nat) (hlife : life < 18446744073709551616) (window span : Int) (A0 : Option Addr) (l0 : List AX) (k0 : Nat) (w0 : World) (h0 : RdL w0 actE A0 k0 l0) (hq : ∀ a ∈ l0, a.s.inn w0) :
    Fn Try.prog 3 [.int .u64 (life : Int), .int .i64 window, .int .i64 span, .slice A0 l0.length k0] w0 fun v w' => v = .bool true ∧ Mem w0 w' [] := by
  have M := Mem.refl w0
  refine Fn.enter Try.func3 rfl Try.ntmps3 rfl ?_
  refine W.sub [(0, _), (1, _), (2, _), (3, _)] (.cons rfl (.cons rfl (.cons rfl (.cons rfl .nil)))) ?_
  refine W.seq ?_
  refine W.region ?_
  refine WL.assign rfl rfl ?_
  refine WL.nil ?_
  refine WX.next ?_
  refine W.sub [(0, _), (1, _), (2, _), (3, _)] (.cons rfl (.cons rfl (.cons rfl (.cons rfl .nil)))) ?_
  refine W.seq ?_
  refine W.region ?_
  refine WL.move rfl rfl ?_
  refine WL.move rfl rfl ?_
  refine WL.move rfl rfl ?_
  refine WL.call Try.call11 rfl (NewSender2 life window span _) rfl ?_
  rintro _ w ⟨p, e, K, rfl, m, hK⟩
  replace M := M.call m; clear m
  refine WL.move rfl rfl ?_
  refine WL.extractL rfl rfl rfl ?_
  refine WL.extractL rfl rfl rfl ?_
  refine WL.assign rfl rfl ?_
  refine WL.assign rfl rfl ?_
  refine WL.nil ?_
  refine WX.next ?_
  refine W.sub [(0, _), (1, _), (2, _), (3, _), (9, _), (10, _)] (.cons rfl (.cons rfl (.cons rfl (.cons rfl (.cons rfl (.cons rfl .nil)))))) ?_
  refine W.seq ?_
  refine W.seq ?_
  refine W.region ?_
  refine WL.move rfl rfl ?_
  refine WL.lss rfl rfl rfl ?_
  refine WL.moveIf rfl rfl (fun c0 => ?_) (fun c0 => ?_)
  · obtain ⟨rfl, rfl, rfl⟩ : p = none ∧ e = 2 ∧ K = [] := by
      rcases hK with ⟨_, h⟩ | ⟨h, _⟩
      · exact h
      · omega
    refine WL.off rfl rfl rfl rfl ?_
    refine WL.off rfl rfl rfl rfl ?_
    refine WL.pickT rfl rfl rfl ?_
    refine WL.move rfl rfl ?_
    refine WL.off rfl rfl rfl rfl ?_
    refine WL.off rfl rfl rfl rfl ?_
    refine WL.pickT rfl rfl rfl ?_
    refine WL.move rfl rfl ?_
    refine WL.off rfl rfl rfl rfl ?_
    refine WL.off rfl rfl rfl rfl ?_
    refine WL.pickT rfl rfl rfl ?_
    refine WL.nil ?_
    refine WX.next ?_
    refine W.sub [(0, _), (1, _), (2, _), (3, _), (9, _), (10, _), (47, _)] (.cons rfl (.cons rfl (.cons rfl (.cons rfl (.cons rfl (.cons rfl (.cons rfl .nil))))))) ?_
    refine W.condT rfl ?_
    refine W.seq ?_
    refine W.region ?_
    refine WL.move rfl rfl ?_
    refine WL.eqNilT Try.underlying24 rfl rfl rfl ?_
    refine WL.move rfl rfl ?_
    refine WL.on rfl rfl ?_
    refine WL.move rfl rfl ?_
    refine WL.on rfl rfl ?_
    refine WL.eqI rfl rfl rfl ?_
    refine WL.pickT rfl rfl rfl ?_
    refine WL.moveIf rfl rfl (fun c5 => ?_) (fun c5 => ?_)
    · refine WL.on rfl rfl ?_
      refine WL.call Try.call12 rfl (known7_ok _) rfl ?_
      rintro _ w ⟨rfl, m⟩
      replace M := M.call0 m; clear m
      refine WL.pickT rfl rfl rfl ?_
      refine WL.assign rfl rfl ?_
      refine WL.nil ?_
      refine WX.next ?_
      refine W.sub [(8, _)] (.cons rfl .nil) ?_
      refine W.ret ?_
      refine WX.thenRet ?_
      refine WX.ret1 rfl rfl ?_
      exact ⟨rfl, M.sel (by first | ((repeat (first | with_reducible exact Sel.refl | with_reducible exact Sel.nil | with_reducible exact Del.here | with_reducible apply Del.there | with_reducible apply Sel.cons | with_reducible apply Sel.drop)); done) | (repeat (first | exact Sel.refl | exact Sel.nil | exact Del.here | apply Del.there | apply Sel.cons | apply Sel.drop)))⟩
    · exact absurd rfl c5
  · refine WL.on rfl rfl ?_
    refine WL.move rfl rfl ?_
    refine WL.on rfl rfl ?_
    refine WL.gtr rfl rfl rfl ?_
    refine WL.pickF rfl rfl rfl ?_
    refine WL.moveIf rfl rfl (fun c1 => ?_) (fun c1 => ?_)
    · obtain ⟨rfl, rfl, rfl⟩ : p = none ∧ e = 2 ∧ K = [] := by
        rcases hK with ⟨_, h⟩ | ⟨h, _⟩
        · exact h
        · omega
      refine WL.off rfl rfl rfl rfl ?_
      refine WL.off rfl rfl rfl rfl ?_
      refine WL.pickT rfl rfl rfl ?_
      refine WL.move rfl rfl ?_
      refine WL.off rfl rfl rfl rfl ?_
      refine WL.off rfl rfl rfl rfl ?_
      refine WL.pickT rfl rfl rfl ?_
      refine WL.nil ?_
      refine WX.next ?_
      refine W.sub [(0, _), (1, _), (2, _), (3, _), (9, _), (10, _), (47, _)] (.cons rfl (.cons rfl (.cons rfl (.cons rfl (.cons rfl (.cons rfl (.cons rfl .nil))))))) ?_
      refine W.condT rfl ?_
      refine W.seq ?_
      refine W.region ?_
      refine WL.move rfl rfl ?_
      refine WL.eqNilT Try.underlying24 rfl rfl rfl ?_
      refine WL.move rfl rfl ?_
      refine WL.on rfl rfl ?_
      refine WL.move rfl rfl ?_
      refine WL.on rfl rfl ?_
      refine WL.eqI rfl rfl rfl ?_
      refine WL.pickT rfl rfl rfl ?_
      refine WL.moveIf rfl rfl (fun c5 => ?_) (fun c5 => ?_)
      · refine WL.on rfl rfl ?_
        refine WL.call Try.call12 rfl (known7_ok _) rfl ?_
        rintro _ w ⟨rfl, m⟩
        replace M := M.call0 m; clear m
        refine WL.pickT rfl rfl rfl ?_
        refine WL.assign rfl rfl ?_
        refine WL.nil ?_
        refine WX.next ?_
        refine W.sub [(8, _)] (.cons rfl .nil) ?_
        refine W.ret ?_
        refine WX.thenRet ?_
        refine WX.ret1 rfl rfl ?_
        exact ⟨rfl, M.sel (by first | ((repeat (first | with_reducible exact Sel.refl | with_reducible exact Sel.nil | with_reducible exact Del.here | with_reducible apply Del.there | with_reducible apply Sel.cons | with_reducible apply Sel.drop)); done) | (repeat (first | exact Sel.refl | exact Sel.nil | exact Del.here | apply Del.there | apply Sel.cons | apply Sel.drop)))⟩
      · exact absurd rfl c5
    · refine WL.on rfl rfl ?_
      refine WL.move rfl rfl ?_
      refine WL.on rfl rfl ?_
      refine WL.lss rfl rfl rfl ?_
      refine WL.pickF rfl rfl rfl ?_
      refine WL.moveIf rfl rfl (fun c2 => ?_) (fun c2 => ?_)
      · obtain ⟨rfl, rfl, rfl⟩ : p = none ∧ e = 2 ∧ K = [] := by
          rcases hK with ⟨_, h⟩ | ⟨h, _⟩
          · exact h
          · omega
        refine WL.off rfl rfl rfl rfl ?_
        refine WL.off rfl rfl rfl rfl ?_
        refine WL.pickT rfl rfl rfl ?_
        refine WL.nil ?_
        refine WX.next ?_
        refine W.sub [(0, _), (1, _), (2, _), (3, _), (9, _), (10, _), (47, _)] (.cons rfl (.cons rfl (.cons rfl (.cons rfl (.cons rfl (.cons rfl (.cons rfl .nil))))))) ?_
        refine W.condT rfl ?_
        refine W.seq ?_
        refine W.region ?_
        refine WL.move rfl rfl ?_
        refine WL.eqNilT Try.underlying24 rfl rfl rfl ?_
        refine WL.move rfl rfl ?_
        refine WL.on rfl rfl ?_
        refine WL.move rfl rfl ?_
        refine WL.on rfl rfl ?_
        refine WL.eqI rfl rfl rfl ?_
        refine WL.pickT rfl rfl rfl ?_
        refine WL.moveIf rfl rfl (fun c5 => ?_) (fun c5 => ?_)
        · refine WL.on rfl rfl ?_
          refine WL.call Try.call12 rfl (known7_ok _) rfl ?_
          rintro _ w ⟨rfl, m⟩
          replace M := M.call0 m; clear m
          refine WL.pickT rfl rfl rfl ?_
          refine WL.assign rfl rfl ?_
          refine WL.nil ?_
          refine WX.next ?_
          refine W.sub [(8, _)] (.cons rfl .nil) ?_
          refine W.ret ?_
          refine WX.thenRet ?_
          refine WX.ret1 rfl rfl ?_
          exact ⟨rfl, M.sel (by first | ((repeat (first | with_reducible exact Sel.refl | with_reducible exact Sel.nil | with_reducible exact Del.here | with_reducible apply Del.there | with_reducible apply Sel.cons | with_reducible apply Sel.drop)); done) | (repeat (first | exact Sel.refl | exact Sel.nil | exact Del.here | apply Del.there | apply Sel.cons | apply Sel.drop)))⟩
        · exact absurd rfl c5
      · refine WL.on rfl rfl ?_
        refine WL.move rfl rfl ?_
        refine WL.on rfl rfl ?_
        refine WL.gtr rfl rfl rfl ?_
        refine WL.pickF rfl rfl rfl ?_
        refine WL.nil ?_
        refine WX.next ?_
        refine W.sub [(0, _), (1, _), (2, _), (3, _), (9, _), (10, _), (47, _)] (.cons rfl (.cons rfl (.cons rfl (.cons rfl (.cons rfl (.cons rfl (.cons rfl .nil))))))) ?_
        refine W.ite rfl (fun c3 => ?_) (fun c3 => ?_)
        · obtain ⟨rfl, rfl, rfl⟩ : p = none ∧ e = 2 ∧ K = [] := by
            rcases hK with ⟨_, h⟩ | ⟨h, _⟩
            · exact h
            · omega
          refine W.seq ?_
          refine W.region ?_
          refine WL.move rfl rfl ?_
          refine WL.eqNilT Try.underlying24 rfl rfl rfl ?_
          refine WL.move rfl rfl ?_
          refine WL.on rfl rfl ?_
          refine WL.move rfl rfl ?_
          refine WL.on rfl rfl ?_
          refine WL.eqI rfl rfl rfl ?_
          refine WL.pickT rfl rfl rfl ?_
          refine WL.moveIf rfl rfl (fun c5 => ?_) (fun c5 => ?_)
          · refine WL.on rfl rfl ?_
            refine WL.call Try.call12 rfl (known7_ok _) rfl ?_
            rintro _ w ⟨rfl, m⟩
            replace M := M.call0 m; clear m
            refine WL.pickT rfl rfl rfl ?_
            refine WL.assign rfl rfl ?_
            refine WL.nil ?_
            refine WX.next ?_
            refine W.sub [(8, _)] (.cons rfl .nil) ?_
            refine W.ret ?_
            refine WX.thenRet ?_
            refine WX.ret1 rfl rfl ?_
            exact ⟨rfl, M.sel (by first | ((repeat (first | with_reducible exact Sel.refl | with_reducible exact Sel.nil | with_reducible exact Del.here | with_reducible apply Del.there | with_reducible apply Sel.cons | with_reducible apply Sel.drop)); done) | (repeat (first | exact Sel.refl | exact Sel.nil | exact Del.here | apply Del.there | apply Sel.cons | apply Sel.drop)))⟩
          · exact absurd rfl c5
        · obtain ⟨gs, rfl, rfl, rfl⟩ : ∃ g, p = some ⟨g, 0, none⟩ ∧ e = 0 ∧ K = [SnX.O ⟨g, none, 0, [], ⟨life, window.toNat, span.toNat, 0, 0, []⟩⟩] := by
            rcases hK with ⟨h, _⟩ | ⟨_, h⟩
            · omega
            · exact h
          obtain ⟨wn, rfl⟩ : ∃ n : Nat, window = (n : Int) := ⟨window.toNat, by omega⟩
          obtain ⟨sn, rfl⟩ : ∃ n : Nat, span = (n : Int) := ⟨span.toNat, by omega⟩
          rw [Int.toNat_natCast, Int.toNat_natCast] at M
          simp only [List.cons_append, List.nil_append] at M
          refine W.skip ?_
          refine WX.next ?_
          refine W.seq ?_
          refine W.seq ?_
          refine W.region ?_
          refine WL.move rfl rfl ?_
          refine WL.eqNilF Try.underlying24 rfl rfl rfl ?_
          refine WL.move rfl rfl ?_
          refine WL.on rfl rfl ?_
          refine WL.move rfl rfl ?_
          refine WL.on rfl rfl ?_
          refine WL.neI rfl rfl rfl ?_
          refine WL.pickF rfl rfl rfl ?_
          refine WL.nil ?_
          refine WX.next ?_
          refine W.sub [(0, _), (1, _), (2, _), (3, _), (9, _), (62, _)] (.cons rfl (.cons rfl (.cons rfl (.cons rfl (.cons rfl (.cons rfl .nil)))))) ?_
          refine W.ite rfl (fun c7 => ?_) (fun c7 => ?_)
          · exact absurd rfl c7
          · refine W.skip ?_
            refine WX.next ?_
            refine W.seq ?_
            refine W.region ?_
            refine WL.move rfl rfl ?_
            refine WL.move rfl rfl ?_
            refine WL.move rfl rfl ?_
            refine WL.buildP (places := #[(0, 1), (1, 1), (2, 1), (3, 1), (4, 1), (5, 1)]) Try.underlying32 Try.zeroValue32 (fun _ => by simp [Try.sizeOf22, Try.sizeOf3, Try.sizeOf3, Try.sizeOf3, Try.sizeOf3, Try.sizeOf30]) rfl (by repeat (first | exact Puts.nil | exact SetAt.zero | apply SetAt.succ | apply Puts.cons rfl rfl)) rfl ?_
            refine WL.box rfl M rfl ?_
            intro g6_4 w M
            try simp only [Value.cells] at M
            try simp only [List.toList_toArray] at M
            refine WL.assign rfl rfl ?_
            refine WL.nil ?_
            refine WX.next ?_
            refine W.sub [(3, _), (9, _), (11, _)] (.cons rfl (.cons rfl (.cons rfl .nil))) ?_
            refine W.seq ?_
            have hM : Mem w0 w [SnX.O ⟨gs, none, 0, [], ⟨life, wn, sn, 0, 0, []⟩⟩, (RnX.of g6_4 none 0 [] ⟨life, wn, sn, 0, 0, []⟩).O, Asr.lst oxE none 0 [], Asr.star (([] : List OX).map OX.O)] := by
              have M2 := Mem.nilOwn M.starNil 96 2
              have M3 := Mem.nilOwn (Mem.starNil (Mem.star3 (M2.sel (K := Asr.row g6_4 32 [.int .u64 (life : Int), .int .i64 (wn : Int), .int .i64 (sn : Int), .int .i64 ((0 : Nat) : Int), .int .i64 ((0 : Nat) : Int), .slice none 0 0] :: Asr.lst rpieceE none 0 [] :: Asr.star (([] : List PX).map PX.O) :: [SnX.O ⟨gs, none, 0, [], ⟨life, wn, sn, 0, 0, []⟩⟩]) (by first | ((repeat (first | with_reducible exact Sel.refl | with_reducible exact Sel.nil | with_reducible exact Del.here | with_reducible apply Del.there | with_reducible apply Sel.cons | with_reducible apply Sel.drop)); done) | (repeat (first | exact Sel.refl | exact Sel.nil | exact Del.here | apply Del.there | apply Sel.cons | apply Sel.drop)))))) 34 1
              exact M3.sel (Sel.cons (.there (.there (.there .here))) (Sel.cons (.there (.there .here)) (Sel.cons .here (Sel.cons .here .nil))))
            refine W.region ?_
            refine WL.assign rfl rfl ?_
            refine WL.nil ?_
            refine WX.next ?_
            refine W.sub [(3, _), (9, _), (11, _), (12, _)] (.cons rfl (.cons rfl (.cons rfl (.cons rfl .nil)))) ?_
            refine W.seq ?_
            refine W.seq ?_
            refine W.region ?_
            refine WL.assign rfl rfl ?_
            refine WL.nil ?_
            refine WX.next ?_
            refine W.sub [(3, _), (9, _), (11, _), (12, _), (13, _)] (.cons rfl (.cons rfl (.cons rfl (.cons rfl (.cons rfl .nil))))) ?_
            refine W.block ?_
            refine W.loop (ι := (Nat × Sn × List OX) × (Option Addr × Nat × List PX) × (Option Addr × Nat × List PX) × (Option Addr × Nat)) (fun z => [(3, .slice A0 l0.length k0), (9, .pointer (some ⟨gs, 0, none⟩)), (11, .pointer (some ⟨g6_4, 0, none⟩)), (12, .slice z.2.2.2.1 z.1.2.2.length z.2.2.2.2), (13, .int .i64 (z.1.1 : Int))]) (fun i w => Mem w0 w ((fun z => [SnX.O ⟨gs, z.2.1.1, z.2.1.2.1, z.2.1.2.2, z.1.2.1⟩, (RnX.of g6_4 z.2.2.1.1 z.2.2.1.2.1 z.2.2.1.2.2 z.1.2.1).O, Asr.lst oxE z.2.2.2.1 z.2.2.2.2 z.1.2.2, Asr.star (z.1.2.2.map OX.O)]) i) ∧ (fun z => z.1.1 ≤ 200 ∧ z.1.2.1.wel z.1.1 ∧ SnX.is ⟨gs, z.2.1.1, z.2.1.2.1, z.2.1.2.2, z.1.2.1⟩ ∧ RnX.fits z.2.2.1.2.2 z.1.2.1 ∧ z.1.2.2.length ≤ 64 * z.1.1 ∧ (∀ o ∈ z.1.2.2, o.l.length ≤ 1000)) i) (fun z => 200 - z.1.1) (((0, ⟨life, wn, sn, 0, 0, []⟩, []), (none, 0, []), (none, 0, []), (none, 0))) (by (repeat' (first | exact envSub.nil | refine envSub.cons ?_ ?_)) <;> first | rfl | (refine congrArg some ?_; refine congrArg (Value.int _) ?_; first | omega | (dsimp only; omega)) | (simp; done) | (refine congrArg some ?_; dsimp only; congr 1; omega) | (simp; omega)) ⟨hM, ⟨by simp, ⟨hlife, by dsimp only; omega, by dsimp only; omega, by simp, by simp, by simp, (fun p h => by cases h), (fun p h => by cases h)⟩, rfl, ⟨rfl, Nat.le_refl _⟩, by simp, (fun o h => by cases h)⟩⟩ ?_
            clear M; rintro (⟨⟨i, s, told⟩, ⟨B, cB, ps⟩, ⟨D, cD, qs⟩, At, ct⟩) w ⟨M, ⟨hi, hwl, his, hfit, htl, htb⟩⟩; dsimp only at M hi hwl his hfit htl htb ⊢
            refine W.sub [(3, _), (9, _), (11, _), (12, _), (13, _)] (.cons rfl (.cons rfl (.cons rfl (.cons rfl (.cons rfl .nil))))) ?_
            refine W.seq ?_
            refine W.seq ?_
            refine W.region ?_
            skip
            refine WL.move rfl rfl ?_
            refine WL.move rfl rfl ?_
            refine WL.len Try.underlying23 rfl rfl ?_
            refine WL.lss rfl rfl rfl ?_
            refine WL.moveIf rfl rfl (fun c8 => ?_) (fun c8 => ?_)
            · refine WL.on rfl rfl ?_
              refine WL.move rfl rfl ?_
              refine WL.on rfl rfl ?_
              refine WL.lss rfl rfl rfl ?_
              refine WL.pickT rfl rfl rfl ?_
              refine WL.nil ?_
              refine WX.next ?_
              refine W.sub [(3, _), (9, _), (11, _), (12, _), (13, _), (75, _)] (.cons rfl (.cons rfl (.cons rfl (.cons rfl (.cons rfl (.cons rfl .nil)))))) ?_
              refine W.ite rfl (fun c9 => ?_) (fun c9 => ?_)
              · refine W.skip ?_
                refine WX.next ?_
                refine W.seq ?_
                refine W.block ?_
                refine W.seq ?_
                refine W.region ?_
                refine WL.move rfl rfl ?_
                refine WL.move rfl rfl ?_
                refine WL.idxA Try.underlying23 Try.sizeOf38 rfl rfl (RdL.isSome (E := actE) (by first | with_reducible assumption | with_reducible exact RdL.mem (by with_reducible assumption) M | exact M.rdL (by first | ((repeat (first | with_reducible exact Has.here | with_reducible refine Has.there ?_)); done) | (repeat (first | exact Has.here | refine Has.there ?_))) | exact RdLH.at (by assumption) (M.sel (by first | ((repeat (first | with_reducible exact Sel.refl | with_reducible exact Sel.nil | with_reducible exact Del.here | with_reducible apply Del.there | with_reducible apply Sel.cons | with_reducible apply Sel.drop)); done) | (repeat (first | exact Sel.refl | exact Sel.nil | exact Del.here | apply Del.there | apply Sel.cons | apply Sel.drop)))) | exact RdL.nil _ _ _) (by omega)) (by omega) (by omega) (by first | exact rfl | exact (Int.toNat_of_nonneg (by omega)).symm) rfl ?_
                refine WL.fieldA (off := 1) Try.underlying38 rfl rfl Try.sizeOf36 rfl rfl rfl ?_
                refine WL.loadLP (E := actE) (cs := [_, _, _, _]) Try.isAgg36 Try.sizeOf36 rfl (by first | with_reducible assumption | with_reducible exact RdL.mem (by with_reducible assumption) M | exact M.rdL (by first | ((repeat (first | with_reducible exact Has.here | with_reducible refine Has.there ?_)); done) | (repeat (first | exact Has.here | refine Has.there ?_))) | exact RdLH.at (by assumption) (M.sel (by first | ((repeat (first | with_reducible exact Sel.refl | with_reducible exact Sel.nil | with_reducible exact Del.here | with_reducible apply Del.there | with_reducible apply Sel.cons | with_reducible apply Sel.drop)); done) | (repeat (first | exact Sel.refl | exact Sel.nil | exact Del.here | apply Del.there | apply Sel.cons | apply Sel.drop)))) | exact RdL.nil _ _ _) (by omega) rfl rfl ?_
                refine WL.alloc Try.zeroValue36 M rfl ?_
                intro g11_5 w M
                try simp only [Value.cells] at M
                try simp only [List.toList_toArray] at M
                refine WL.storeWA Try.sizeOf36 rfl rfl (by repeat (first | exact oneNil | refine oneCons rfl ?_)) rfl rfl M (by first | ((repeat (first | with_reducible exact Upd.here | with_reducible apply Upd.there)); done) | (repeat (first | exact Upd.here | apply Upd.there))) ?_
                intro w M
                refine WL.nil ?_
                refine WX.next ?_
                refine W.sub [(3, _), (9, _), (11, _), (12, _), (13, _), (14, _)] (.cons rfl (.cons rfl (.cons rfl (.cons rfl (.cons rfl (.cons rfl .nil)))))) ?_
                refine W.seq ?_
                refine W.seq ?_
                refine W.region ?_
                refine WL.loadW Try.isAgg36 Try.sizeOf36 rfl M (by first | ((repeat (first | with_reducible exact Has.here | with_reducible refine Has.there ?_)); done) | (repeat (first | exact Has.here | refine Has.there ?_))) rfl rfl ?_
                refine WL.call Try.call13 rfl (long_ok (el l0 i).s _) rfl ?_
                rintro _ w ⟨rfl, m⟩
                replace M := M.call0 m; clear m
                refine WL.nil ?_
                refine WX.next ?_
                refine W.sub [(3, _), (9, _), (11, _), (12, _), (13, _), (14, _), (84, _)] (.cons rfl (.cons rfl (.cons rfl (.cons rfl (.cons rfl (.cons rfl (.cons rfl .nil))))))) ?_
                refine W.ite rfl (fun c10 => ?_) (fun c10 => ?_)
                · refine W.seq ?_
                  refine W.region ?_
                  refine WL.call Try.call12 rfl (known7_ok _) rfl ?_
                  rintro _ w ⟨rfl, m⟩
                  replace M := M.call0 m; clear m
                  refine WL.assign rfl rfl ?_
                  refine WL.nil ?_
                  refine WX.next ?_
                  refine W.sub [(8, _)] (.cons rfl .nil) ?_
                  refine W.ret ?_
                  refine WX.thenRet ?_
                  refine WX.blockRet ?_
                  refine WX.thenRet ?_
                  refine WX.thenRet ?_
                  refine WX.blockRet ?_
                  refine WX.thenRet ?_
                  refine WX.ret1 rfl rfl ?_
                  exact ⟨rfl, M.sel (by first | ((repeat (first | with_reducible exact Sel.refl | with_reducible exact Sel.nil | with_reducible exact Del.here | with_reducible apply Del.there | with_reducible apply Sel.cons | with_reducible apply Sel.drop)); done) | (repeat (first | exact Sel.refl | exact Sel.nil | exact Del.here | apply Del.there | apply Sel.cons | apply Sel.drop)))⟩
                · have hin := hq _ (el_mem (l := l0) (k := i) (by omega))
                  have hok := hwl.ok (by omega)
                  refine W.skip ?_
                  refine WX.next ?_
                  refine W.joint (fun (z : (Sn × List OX) × (Option Addr × Nat × List PX) × (Option Addr × Nat × List PX) × (Option Addr × Nat)) => [(3, .slice A0 l0.length k0), (9, .pointer (some ⟨gs, 0, none⟩)), (11, .pointer (some ⟨g6_4, 0, none⟩)), (12, .slice z.2.2.2.1 z.1.2.length z.2.2.2.2), (13, .int .i64 (i : Int))]) (fun j w => Mem w0 w ((fun z => [SnX.O ⟨gs, z.2.1.1, z.2.1.2.1, z.2.1.2.2, z.1.1⟩, (RnX.of g6_4 z.2.2.1.1 z.2.2.1.2.1 z.2.2.1.2.2 z.1.1).O, Asr.lst oxE z.2.2.2.1 z.2.2.2.2 z.1.2, Asr.star (z.1.2.map OX.O)]) j) ∧ (fun z => z.1.1.wel (i + 1) ∧ SnX.is ⟨gs, z.2.1.1, z.2.1.2.1, z.2.1.2.2, z.1.1⟩ ∧ RnX.fits z.2.2.1.2.2 z.1.1 ∧ z.1.2.length ≤ 64 * (i + 1) ∧ (∀ o ∈ z.1.2, o.l.length ≤ 1000)) j) ?_ ?_
                  · refine W.seq ?_
                    refine W.region ?_
                    refine WL.move rfl rfl ?_
                    refine WL.move rfl rfl ?_
                    refine WL.idxA Try.underlying23 Try.sizeOf38 rfl rfl (RdL.isSome (E := actE) (by first | with_reducible assumption | with_reducible exact RdL.mem (by with_reducible assumption) M | exact M.rdL (by first | ((repeat (first | with_reducible exact Has.here | with_reducible refine Has.there ?_)); done) | (repeat (first | exact Has.here | refine Has.there ?_))) | exact RdLH.at (by assumption) (M.sel (by first | ((repeat (first | with_reducible exact Sel.refl | with_reducible exact Sel.nil | with_reducible exact Del.here | with_reducible apply Del.there | with_reducible apply Sel.cons | with_reducible apply Sel.drop)); done) | (repeat (first | exact Sel.refl | exact Sel.nil | exact Del.here | apply Del.there | apply Sel.cons | apply Sel.drop)))) | exact RdL.nil _ _ _) (by omega)) (by omega) (by omega) (by first | exact rfl | exact (Int.toNat_of_nonneg (by omega)).symm) rfl ?_
                    refine WL.fieldA (off := 0) Try.underlying38 rfl rfl Try.sizeOf3 rfl rfl rfl ?_
                    refine WL.loadE (E := actE) Try.isAgg3 rfl (by first | with_reducible assumption | with_reducible exact RdL.mem (by with_reducible assumption) M | exact M.rdL (by first | ((repeat (first | with_reducible exact Has.here | with_reducible refine Has.there ?_)); done) | (repeat (first | exact Has.here | refine Has.there ?_))) | exact RdLH.at (by assumption) (M.sel (by first | ((repeat (first | with_reducible exact Sel.refl | with_reducible exact Sel.nil | with_reducible exact Del.here | with_reducible apply Del.there | with_reducible apply Sel.cons | with_reducible apply Sel.drop)); done) | (repeat (first | exact Sel.refl | exact Sel.nil | exact Del.here | apply Del.there | apply Sel.cons | apply Sel.drop)))) | exact RdL.nil _ _ _) (by omega) rfl rfl ?_
                    refine WL.nil ?_
                    refine WX.next ?_
                    refine W.sub [(3, _), (9, _), (11, _), (12, _), (13, _), (14, _), (90, _)] (.cons rfl (.cons rfl (.cons rfl (.cons rfl (.cons rfl (.cons rfl (.cons rfl .nil))))))) ?_
                    refine W.block ?_
                    refine W.joint (fun (_ : Unit) => [(3, .slice A0 l0.length k0), (9, .pointer (some ⟨gs, 0, none⟩)), (11, .pointer (some ⟨g6_4, 0, none⟩)), (12, .slice At told.length ct), (13, .int .i64 (i : Int)), (14, .pointer (some ⟨g11_5, 0, none⟩)), (90, .int .i64 (el l0 i).kind), (100, .bool (decide ((el l0 i).kind = 0 ∨ (el l0 i).kind = 1)))]) (fun j w => Mem w0 w ((fun _ => [Asr.row g11_5 36 [.int .u64 ((el l0 i).s.life : Int), .int .u64 ((el l0 i).s.seq : Int), .bool (el l0 i).s.ack, (el l0 i).s.x.v], SnX.O ⟨gs, B, cB, ps, s⟩, (RnX.of g6_4 D cD qs s).O, Asr.lst oxE At ct told, Asr.star (told.map OX.O)]) j) ∧ (fun _ => True) j) ?_ ?_
                    · refine W.seq ?_
                      refine W.region ?_
                      refine WL.eqI rfl rfl rfl ?_
                      refine WL.assign rfl rfl ?_
                      refine WL.nil ?_
                      refine WX.next ?_
                      refine W.sub [(3, _), (9, _), (11, _), (12, _), (13, _), (14, _), (90, _), (100, _)] (.cons rfl (.cons rfl (.cons rfl (.cons rfl (.cons rfl (.cons rfl (.cons rfl (.cons rfl .nil)))))))) ?_
                      refine W.ite rfl (fun c11 => ?_) (fun c11 => ?_)
                      · refine W.skip ?_
                        refine WX.join (()) (envSub.cons rfl (envSub.cons rfl (envSub.cons rfl (envSub.cons rfl (envSub.cons rfl (envSub.cons rfl (envSub.cons rfl (envSub.cons (by exact congrArg some (congrArg Value.bool (decide_eq_decide.2 (by omega)))) envSub.nil)))))))) ⟨M.sel (by first | ((repeat (first | with_reducible exact Sel.refl | with_reducible exact Sel.nil | with_reducible exact Del.here | with_reducible apply Del.there | with_reducible apply Sel.cons | with_reducible apply Sel.drop)); done) | (repeat (first | exact Sel.refl | exact Sel.nil | exact Del.here | apply Del.there | apply Sel.cons | apply Sel.drop))), trivial⟩
                      · refine W.region ?_
                        refine WL.eqI rfl rfl rfl ?_
                        refine WL.assign rfl rfl ?_
                        refine WL.nil ?_
                        refine WX.join (()) (envSub.cons rfl (envSub.cons rfl (envSub.cons rfl (envSub.cons rfl (envSub.cons rfl (envSub.cons rfl (envSub.cons rfl (envSub.cons (by exact congrArg some (congrArg Value.bool (decide_eq_decide.2 (by omega)))) envSub.nil)))))))) ⟨M.sel (by first | ((repeat (first | with_reducible exact Sel.refl | with_reducible exact Sel.nil | with_reducible exact Del.here | with_reducible apply Del.there | with_reducible apply Sel.cons | with_reducible apply Sel.drop)); done) | (repeat (first | exact Sel.refl | exact Sel.nil | exact Del.here | apply Del.there | apply Sel.cons | apply Sel.drop))), trivial⟩
                    clear M; rintro (_) w ⟨M, -⟩; dsimp only at M ⊢
                    refine W.sub [(3, _), (9, _), (11, _), (12, _), (13, _), (14, _), (90, _), (100, _)] (.cons rfl (.cons rfl (.cons rfl (.cons rfl (.cons rfl (.cons rfl (.cons rfl (.cons rfl .nil)))))))) ?_
                    refine W.cond rfl (fun c12 => ?_) (fun c12 => ?_)
                    · (try simp only [Bool.not_eq_true'] at c12); (try simp only [Bool.not_eq_false'] at c12); (try simp only [decide_eq_true_eq] at c12); (try simp only [decide_eq_false_iff_not] at c12)
                      refine W.seq ?_
                      refine W.region ?_
                      refine WL.fieldR (off := 3) Try.underlying36 rfl rfl Try.sizeOf34 rfl rfl rfl ?_
                      refine WL.loadR Try.isAgg34 rfl M (by first | ((repeat (first | with_reducible exact Has.here | with_reducible refine Has.there ?_)); done) | (repeat (first | exact Has.here | refine Has.there ?_))) rfl rfl ?_
                      refine WL.call Try.call14 rfl (Lent_ok (hin.2.2.mem M) (by omega)) rfl ?_
                      rintro _ w ⟨gb, sp, rfl, m⟩
                      replace M := M.call1 m; clear m
                      refine WL.assign rfl rfl ?_
                      refine WL.nil ?_
                      refine WX.next ?_
                      refine W.sub [(3, _), (9, _), (11, _), (12, _), (13, _), (14, _), (15, _)] (.cons rfl (.cons rfl (.cons rfl (.cons rfl (.cons rfl (.cons rfl (.cons rfl .nil))))))) ?_
                      refine W.seq ?_
                      refine W.region ?_
                      refine WL.move rfl rfl ?_
                      refine WL.move rfl rfl ?_
                      refine WL.call Try.call15 rfl (Push2 ⟨gs, B, cB, ps, s⟩ his hok _ _ (el l0 i).s.x.l _ _ _ _ M (by first | ((repeat (first | with_reducible exact Del.here | with_reducible apply Del.there)); done) | (repeat (first | exact Del.here | apply Del.there))) (by intro w M; exact (by first | first | with_reducible assumption | with_reducible exact RdB.mem (by with_reducible assumption) M | exact M.rdB (by first | ((repeat (first | with_reducible exact Has.here | with_reducible refine Has.there ?_)); done) | (repeat (first | exact Has.here | refine Has.there ?_))) | exact RdH.at (by assumption) (M.sel (by first | ((repeat (first | with_reducible exact Sel.refl | with_reducible exact Sel.nil | with_reducible exact Del.here | with_reducible apply Del.there | with_reducible apply Sel.cons | with_reducible apply Sel.drop)); done) | (repeat (first | exact Sel.refl | exact Sel.nil | exact Del.here | apply Del.there | apply Sel.cons | apply Sel.drop)))) | exact M.rdLit' (by first | ((repeat (first | with_reducible exact Has.here | with_reducible refine Has.there ?_)); done) | (repeat (first | exact Has.here | refine Has.there ?_))) | exact M.rdLent (by first | ((repeat (first | with_reducible exact Has.here | with_reducible refine Has.there ?_)); done) | (repeat (first | exact Has.here | refine Has.there ?_))) | exact RdB.nil _ _ | exact RdB.sub (by first | with_reducible assumption | with_reducible exact RdB.mem (by with_reducible assumption) M | exact M.rdB (by first | ((repeat (first | with_reducible exact Has.here | with_reducible refine Has.there ?_)); done) | (repeat (first | exact Has.here | refine Has.there ?_))) | exact RdH.at (by assumption) (M.sel (by first | ((repeat (first | with_reducible exact Sel.refl | with_reducible exact Sel.nil | with_reducible exact Del.here | with_reducible apply Del.there | with_reducible apply Sel.cons | with_reducible apply Sel.drop)); done) | (repeat (first | exact Sel.refl | exact Sel.nil | exact Del.here | apply Del.there | apply Sel.cons | apply Sel.drop)))) | exact M.rdLit' (by first | ((repeat (first | with_reducible exact Has.here | with_reducible refine Has.there ?_)); done) | (repeat (first | exact Has.here | refine Has.there ?_))) | exact M.rdLent (by first | ((repeat (first | with_reducible exact Has.here | with_reducible refine Has.there ?_)); done) | (repeat (first | exact Has.here | refine Has.there ?_))) | exact RdB.nil _ _) (by omega) (by omega) | exact RdB.pre' (by first | with_reducible assumption | with_reducible exact RdB.mem (by with_reducible assumption) M | exact M.rdB (by first | ((repeat (first | with_reducible exact Has.here | with_reducible refine Has.there ?_)); done) | (repeat (first | exact Has.here | refine Has.there ?_))) | exact RdH.at (by assumption) (M.sel (by first | ((repeat (first | with_reducible exact Sel.refl | with_reducible exact Sel.nil | with_reducible exact Del.here | with_reducible apply Del.there | with_reducible apply Sel.cons | with_reducible apply Sel.drop)); done) | (repeat (first | exact Sel.refl | exact Sel.nil | exact Del.here | apply Del.there | apply Sel.cons | apply Sel.drop)))) | exact M.rdLit' (by first | ((repeat (first | with_reducible exact Has.here | with_reducible refine Has.there ?_)); done) | (repeat (first | exact Has.here | refine Has.there ?_))) | exact M.rdLent (by first | ((repeat (first | with_reducible exact Has.here | with_reducible refine Has.there ?_)); done) | (repeat (first | exact Has.here | refine Has.there ?_))) | exact RdB.nil _ _) (by omega) | exact RdB.suf (by first | with_reducible assumption | with_reducible exact RdB.mem (by with_reducible assumption) M | exact M.rdB (by first | ((repeat (first | with_reducible exact Has.here | with_reducible refine Has.there ?_)); done) | (repeat (first | exact Has.here | refine Has.there ?_))) | exact RdH.at (by assumption) (M.sel (by first | ((repeat (first | with_reducible exact Sel.refl | with_reducible exact Sel.nil | with_reducible exact Del.here | with_reducible apply Del.there | with_reducible apply Sel.cons | with_reducible apply Sel.drop)); done) | (repeat (first | exact Sel.refl | exact Sel.nil | exact Del.here | apply Del.there | apply Sel.cons | apply Sel.drop)))) | exact M.rdLit' (by first | ((repeat (first | with_reducible exact Has.here | with_reducible refine Has.there ?_)); done) | (repeat (first | exact Has.here | refine Has.there ?_))) | exact M.rdLent (by first | ((repeat (first | with_reducible exact Has.here | with_reducible refine Has.there ?_)); done) | (repeat (first | exact Has.here | refine Has.there ?_))) | exact RdB.nil _ _) (by omega)))) rfl ?_
                      rintro _ w ⟨B2, cB2, ps2, rfl, his2, M⟩
                      dsimp only at his2 M
                      refine WL.assign rfl rfl ?_
                      refine WL.nil ?_
                      refine WX.next ?_
                      refine W.sub [(3, _), (9, _), (11, _), (12, _), (13, _), (14, _), (15, _), (16, _)] (.cons rfl (.cons rfl (.cons rfl (.cons rfl (.cons rfl (.cons rfl (.cons rfl (.cons rfl .nil)))))))) ?_
                      refine W.seq ?_
                      refine W.region ?_
                      refine WL.move rfl rfl ?_
                      refine WL.fieldR (off := 3) Try.underlying36 rfl rfl Try.sizeOf34 rfl rfl rfl ?_
                      refine WL.loadR Try.isAgg34 rfl M (by first | ((repeat (first | with_reducible exact Has.here | with_reducible refine Has.there ?_)); done) | (repeat (first | exact Has.here | refine Has.there ?_))) rfl rfl ?_
                      refine WL.call Try.call16 rfl (refPush2 g6_4 D cD qs s hfit hok _ _ (el l0 i).s.x.l _ _ _ _ M (by first | ((repeat (first | with_reducible exact Del.here | with_reducible apply Del.there)); done) | (repeat (first | exact Del.here | apply Del.there))) (by intro w M; exact hin.2.2.mem M)) rfl ?_
                      rintro _ w ⟨D2, cD2, qs2, rfl, hfit2, M⟩
                      refine WL.assign rfl rfl ?_
                      refine WL.nil ?_
                      refine WX.next ?_
                      refine W.sub [(3, _), (9, _), (11, _), (12, _), (13, _), (14, _), (15, _), (16, _), (17, _)] (.cons rfl (.cons rfl (.cons rfl (.cons rfl (.cons rfl (.cons rfl (.cons rfl (.cons rfl (.cons rfl .nil))))))))) ?_
                      refine W.seq ?_
                      refine W.region ?_
                      refine WL.move rfl rfl ?_
                      refine WL.fieldR (off := 3) Try.underlying36 rfl rfl Try.sizeOf34 rfl rfl rfl ?_
                      refine WL.loadR Try.isAgg34 rfl M (by first | ((repeat (first | with_reducible exact Has.here | with_reducible refine Has.there ?_)); done) | (repeat (first | exact Has.here | refine Has.there ?_))) rfl rfl ?_
                      refine WL.call Try.call17 rfl (Whole2 M (by first | ((repeat (first | with_reducible exact Has.here | with_reducible refine Has.there ?_)); done) | (repeat (first | exact Has.here | refine Has.there ?_))) (hin.2.2.mem M) (by omega)) rfl ?_
                      rintro _ _ ⟨rfl, rfl⟩
                      refine WL.assign rfl rfl ?_
                      refine WL.nil ?_
                      refine WX.next ?_
                      refine W.sub [(3, _), (9, _), (11, _), (12, _), (13, _), (15, _), (16, _), (17, _), (18, _)] (.cons rfl (.cons rfl (.cons rfl (.cons rfl (.cons rfl (.cons rfl (.cons rfl (.cons rfl (.cons rfl .nil))))))))) ?_
                      refine W.seq ?_
                      refine W.region ?_
                      refine WL.move rfl rfl ?_
                      refine WL.call Try.call18 rfl (Spoil2 M (by first | ((repeat (first | with_reducible exact Del.here | with_reducible apply Del.there)); done) | (repeat (first | exact Del.here | apply Del.there))) (by omega)) rfl ?_
                      rintro _ w M
                      refine WL.nil ?_
                      refine WX.next ?_
                      refine W.sub [(3, _), (9, _), (11, _), (12, _), (13, _), (16, _), (17, _), (18, _)] (.cons rfl (.cons rfl (.cons rfl (.cons rfl (.cons rfl (.cons rfl (.cons rfl (.cons rfl .nil)))))))) ?_
                      refine W.seq ?_
                      refine W.region ?_
                      refine WL.move rfl rfl ?_
                      refine WL.move rfl rfl ?_
                      refine WL.neI rfl rfl rfl ?_
                      refine WL.moveIf rfl rfl (fun c13 => ?_) (fun c13 => ?_)
                      · exact absurd rfl c13
                      · refine WL.on rfl rfl ?_
                        refine WL.move rfl rfl ?_
                        refine WL.on rfl rfl ?_
                        refine WL.notP rfl rfl ?_
                        refine WL.pickF rfl rfl rfl ?_
                        refine WL.nil ?_
                        refine WX.next ?_
                        refine W.sub [(3, _), (9, _), (11, _), (12, _), (13, _), (125, _)] (.cons rfl (.cons rfl (.cons rfl (.cons rfl (.cons rfl (.cons rfl .nil)))))) ?_
                        refine W.ite rfl (fun c14 => ?_) (fun c14 => ?_)
                        · exact absurd c14 (by decide)
                        · refine W.skip ?_
                          refine WX.blockNormal ?_
                          refine WX.join (((pushS s (el l0 i).s.x.l, told), (B2, cB2, ps2), (D2, cD2, qs2), (At, ct))) (by (repeat' (first | exact envSub.nil | refine envSub.cons ?_ ?_)) <;> first | rfl | (refine congrArg some ?_; refine congrArg (Value.int _) ?_; first | omega | (dsimp only; omega)) | (simp; done) | (refine congrArg some ?_; dsimp only; congr 1; omega) | (simp; omega)) ⟨M.sel (by first | ((repeat (first | with_reducible exact Sel.refl | with_reducible exact Sel.nil | with_reducible exact Del.here | with_reducible apply Del.there | with_reducible apply Sel.cons | with_reducible apply Sel.drop)); done) | (repeat (first | exact Sel.refl | exact Sel.nil | exact Del.here | apply Del.there | apply Sel.cons | apply Sel.drop))), ⟨pushS_wel hwl _, his2, hfit2, by dsimp only; omega, htb⟩⟩
                    · (try simp only [Bool.not_eq_true'] at c12); (try simp only [Bool.not_eq_false'] at c12); (try simp only [decide_eq_true_eq] at c12); (try simp only [decide_eq_false_iff_not] at c12)
                      refine W.joint (fun (_ : Unit) => [(3, .slice A0 l0.length k0), (9, .pointer (some ⟨gs, 0, none⟩)), (11, .pointer (some ⟨g6_4, 0, none⟩)), (12, .slice At told.length ct), (13, .int .i64 (i : Int)), (14, .pointer (some ⟨g11_5, 0, none⟩)), (90, .int .i64 (el l0 i).kind), (126, .bool (decide ((el l0 i).kind = 2 ∨ (el l0 i).kind = 3)))]) (fun j w => Mem w0 w ((fun _ => [Asr.row g11_5 36 [.int .u64 ((el l0 i).s.life : Int), .int .u64 ((el l0 i).s.seq : Int), .bool (el l0 i).s.ack, (el l0 i).s.x.v], SnX.O ⟨gs, B, cB, ps, s⟩, (RnX.of g6_4 D cD qs s).O, Asr.lst oxE At ct told, Asr.star (told.map OX.O)]) j) ∧ (fun _ => True) j) ?_ ?_
                      · refine W.seq ?_
                        refine W.region ?_
                        refine WL.eqI rfl rfl rfl ?_
                        refine WL.assign rfl rfl ?_
                        refine WL.nil ?_
                        refine WX.next ?_
                        refine W.sub [(3, _), (9, _), (11, _), (12, _), (13, _), (14, _), (90, _), (126, _)] (.cons rfl (.cons rfl (.cons rfl (.cons rfl (.cons rfl (.cons rfl (.cons rfl (.cons rfl .nil)))))))) ?_
                        refine W.ite rfl (fun c15 => ?_) (fun c15 => ?_)
                        · refine W.skip ?_
                          refine WX.join (()) (envSub.cons rfl (envSub.cons rfl (envSub.cons rfl (envSub.cons rfl (envSub.cons rfl (envSub.cons rfl (envSub.cons rfl (envSub.cons (by exact congrArg some (congrArg Value.bool (decide_eq_decide.2 (by omega)))) envSub.nil)))))))) ⟨M.sel (by first | ((repeat (first | with_reducible exact Sel.refl | with_reducible exact Sel.nil | with_reducible exact Del.here | with_reducible apply Del.there | with_reducible apply Sel.cons | with_reducible apply Sel.drop)); done) | (repeat (first | exact Sel.refl | exact Sel.nil | exact Del.here | apply Del.there | apply Sel.cons | apply Sel.drop))), trivial⟩
                        · refine W.region ?_
                          refine WL.eqI rfl rfl rfl ?_
                          refine WL.assign rfl rfl ?_
                          refine WL.nil ?_
                          refine WX.join (()) (envSub.cons rfl (envSub.cons rfl (envSub.cons rfl (envSub.cons rfl (envSub.cons rfl (envSub.cons rfl (envSub.cons rfl (envSub.cons (by exact congrArg some (congrArg Value.bool (decide_eq_decide.2 (by omega)))) envSub.nil)))))))) ⟨M.sel (by first | ((repeat (first | with_reducible exact Sel.refl | with_reducible exact Sel.nil | with_reducible exact Del.here | with_reducible apply Del.there | with_reducible apply Sel.cons | with_reducible apply Sel.drop)); done) | (repeat (first | exact Sel.refl | exact Sel.nil | exact Del.here | apply Del.there | apply Sel.cons | apply Sel.drop))), trivial⟩
                      clear M; rintro (_) w ⟨M, -⟩; dsimp only at M ⊢
                      refine W.sub [(3, _), (9, _), (11, _), (12, _), (13, _), (14, _), (90, _), (126, _)] (.cons rfl (.cons rfl (.cons rfl (.cons rfl (.cons rfl (.cons rfl (.cons rfl (.cons rfl .nil)))))))) ?_
                      refine W.cond rfl (fun c16 => ?_) (fun c16 => ?_)
                      · (try simp only [Bool.not_eq_true'] at c16); (try simp only [Bool.not_eq_false'] at c16); (try simp only [decide_eq_true_eq] at c16); (try simp only [decide_eq_false_iff_not] at c16)
                        refine W.seq ?_
                        refine W.region ?_
                        refine WL.move rfl rfl ?_
                        refine WL.call Try.call19 rfl (Tick2 ⟨gs, B, cB, ps, s⟩ his hok _ _ _ _ M (by first | ((repeat (first | with_reducible exact Del.here | with_reducible apply Del.there)); done) | (repeat (first | exact Del.here | apply Del.there)))) rfl ?_
                        rintro _ w ⟨B2, cB2, ps2, Ao, co, outs, rfl, his2, houts, M⟩
                        dsimp only at his2 houts M
                        have hol := congrArg List.length houts
                        rw [List.length_map] at hol
                        have hol2 := tickO_len s
                        have hw64 := hwl.win
                        refine WL.assign rfl rfl ?_
                        refine WL.nil ?_
                        refine WX.next ?_
                        refine W.sub [(3, _), (9, _), (11, _), (12, _), (13, _), (19, _)] (.cons rfl (.cons rfl (.cons rfl (.cons rfl (.cons rfl (.cons rfl .nil)))))) ?_
                        refine W.seq ?_
                        refine W.region ?_
                        refine WL.move rfl rfl ?_
                        refine WL.call Try.call20 rfl (refTick2 g6_4 D cD qs s hfit hok _ _ _ _ M (by first | ((repeat (first | with_reducible exact Del.here | with_reducible apply Del.there)); done) | (repeat (first | exact Del.here | apply Del.there)))) rfl ?_
                        rintro _ w ⟨D2, cD2, qs2, A2, k2, outs2, rfl, hfit2, houts2, hoo2, M⟩
                        refine WL.assign rfl rfl ?_
                        refine WL.nil ?_
                        refine WX.next ?_
                        refine W.sub [(3, _), (9, _), (11, _), (12, _), (13, _), (19, _), (20, _)] (.cons rfl (.cons rfl (.cons rfl (.cons rfl (.cons rfl (.cons rfl (.cons rfl .nil))))))) ?_
                        refine W.seq ?_
                        refine W.seq ?_
                        have b1 : ∀ o ∈ outs, RdB w o.x.A o.x.cap o.x.l := fun o h => ownRd (M.starHas (f := SX.O) (by first | ((repeat (first | with_reducible exact Has.here | with_reducible refine Has.there ?_)); done) | (repeat (first | exact Has.here | refine Has.there ?_))) h)
                        have b2 : ∀ o ∈ outs2, RdB w o.x.A o.x.cap o.x.l := fun o h => by
                          obtain ⟨e, he, hx⟩ := hoo2 o h
                          rw [hx]
                          exact ownRd (((M.del (A := (RnX.of g6_4 D2 cD2 qs2 (tickS s)).O) (by first | ((repeat (first | with_reducible exact Del.here | with_reducible apply Del.there)); done) | (repeat (first | exact Del.here | apply Del.there)))).unstar3).starHas (f := PX.O) (by first | ((repeat (first | with_reducible exact Has.here | with_reducible refine Has.there ?_)); done) | (repeat (first | exact Has.here | refine Has.there ?_))) he)
                        refine W.region ?_
                        refine WL.move rfl rfl ?_
                        refine WL.move rfl rfl ?_
                        refine WL.call Try.call21 rfl (Sames_ok (by first | with_reducible assumption | with_reducible exact RdL.mem (by with_reducible assumption) M | exact M.rdL (by first | ((repeat (first | with_reducible exact Has.here | with_reducible refine Has.there ?_)); done) | (repeat (first | exact Has.here | refine Has.there ?_))) | exact RdLH.at (by assumption) (M.sel (by first | ((repeat (first | with_reducible exact Sel.refl | with_reducible exact Sel.nil | with_reducible exact Del.here | with_reducible apply Del.there | with_reducible apply Sel.cons | with_reducible apply Sel.drop)); done) | (repeat (first | exact Sel.refl | exact Sel.nil | exact Del.here | apply Del.there | apply Sel.cons | apply Sel.drop)))) | exact RdL.nil _ _ _) (by first | with_reducible assumption | with_reducible exact RdL.mem (by with_reducible assumption) M | exact M.rdL (by first | ((repeat (first | with_reducible exact Has.here | with_reducible refine Has.there ?_)); done) | (repeat (first | exact Has.here | refine Has.there ?_))) | exact RdLH.at (by assumption) (M.sel (by first | ((repeat (first | with_reducible exact Sel.refl | with_reducible exact Sel.nil | with_reducible exact Del.here | with_reducible apply Del.there | with_reducible apply Sel.cons | with_reducible apply Sel.drop)); done) | (repeat (first | exact Sel.refl | exact Sel.nil | exact Del.here | apply Del.there | apply Sel.cons | apply Sel.drop)))) | exact RdL.nil _ _ _) b1 b2 (by omega)) rfl ?_
                        rintro _ w ⟨rfl, m⟩
                        replace M := M.call0 m; clear m
                        rw [decide_eq_true (houts.trans houts2.symm)]
                        refine WL.not rfl rfl ?_
                        refine WL.nil ?_
                        refine WX.next ?_
                        refine W.sub [(3, _), (9, _), (11, _), (12, _), (13, _), (19, _), (136, _)] (.cons rfl (.cons rfl (.cons rfl (.cons rfl (.cons rfl (.cons rfl (.cons rfl .nil))))))) ?_
                        refine W.cond rfl (fun c17 => ?_) (fun c17 => ?_)
                        · (try simp only [Bool.not_eq_true'] at c17); (try simp only [Bool.not_eq_false'] at c17); (try simp only [decide_eq_true_eq] at c17); (try simp only [decide_eq_false_iff_not] at c17)
                          exact absurd c17 (by decide)
                        · (try simp only [Bool.not_eq_true'] at c17); (try simp only [Bool.not_eq_false'] at c17); (try simp only [decide_eq_true_eq] at c17); (try simp only [decide_eq_false_iff_not] at c17)
                          refine W.skip ?_
                          refine WX.next ?_
                          refine W.seq ?_
                          refine W.region ?_
                          refine WL.assign rfl rfl ?_
                          refine WL.nil ?_
                          refine WX.next ?_
                          refine W.sub [(3, _), (9, _), (11, _), (12, _), (13, _), (19, _), (21, _)] (.cons rfl (.cons rfl (.cons rfl (.cons rfl (.cons rfl (.cons rfl (.cons rfl .nil))))))) ?_
                          refine W.block ?_
                          refine W.loop (ι := (Nat × List OX) × (Option Addr × Nat)) (fun z => [(3, .slice A0 l0.length k0), (9, .pointer (some ⟨gs, 0, none⟩)), (11, .pointer (some ⟨g6_4, 0, none⟩)), (12, .slice z.2.1 z.1.2.length z.2.2), (13, .int .i64 (i : Int)), (19, .slice Ao outs.length co), (21, .int .i64 (z.1.1 : Int))]) (fun i w => Mem w0 w ((fun z => [SnX.O ⟨gs, B2, cB2, ps2, tickS s⟩, (RnX.of g6_4 D2 cD2 qs2 (tickS s)).O, Asr.lst oxE z.2.1 z.2.2 z.1.2, Asr.star (told.map OX.O), Asr.lst segE Ao co outs, Asr.star (outs.map SX.O)]) i) ∧ (fun z => z.1.1 ≤ outs.length ∧ z.1.2 = told ++ (outs.take z.1.1).map SX.x) i) (fun z => outs.length - z.1.1) (((0, told), (At, ct))) (by (repeat' (first | exact envSub.nil | refine envSub.cons ?_ ?_)) <;> first | rfl | (refine congrArg some ?_; refine congrArg (Value.int _) ?_; first | omega | (dsimp only; omega)) | (simp; done) | (refine congrArg some ?_; dsimp only; congr 1; omega) | (simp; omega)) ⟨M.sel (by first | ((repeat (first | with_reducible exact Sel.refl | with_reducible exact Sel.nil | with_reducible exact Del.here | with_reducible apply Del.there | with_reducible apply Sel.cons | with_reducible apply Sel.drop)); done) | (repeat (first | exact Sel.refl | exact Sel.nil | exact Del.here | apply Del.there | apply Sel.cons | apply Sel.drop))), ⟨by simp, by simp⟩⟩ ?_
                          clear M; rintro (⟨⟨k, T⟩, Ak, ck⟩) w ⟨M, ⟨hk, hT⟩⟩; dsimp only at M hk hT ⊢
                          refine W.sub [(3, _), (9, _), (11, _), (12, _), (13, _), (19, _), (21, _)] (.cons rfl (.cons rfl (.cons rfl (.cons rfl (.cons rfl (.cons rfl (.cons rfl .nil))))))) ?_
                          refine W.seq ?_
                          refine W.seq ?_
                          refine W.region ?_
                          refine WL.move rfl rfl ?_
                          refine WL.move rfl rfl ?_
                          refine WL.len Try.underlying45 rfl rfl ?_
                          refine WL.lss rfl rfl rfl ?_
                          refine WL.nil ?_
                          refine WX.next ?_
                          refine W.sub [(3, _), (9, _), (11, _), (12, _), (13, _), (19, _), (21, _), (140, _)] (.cons rfl (.cons rfl (.cons rfl (.cons rfl (.cons rfl (.cons rfl (.cons rfl (.cons rfl .nil)))))))) ?_
                          refine W.ite rfl (fun c18 => ?_) (fun c18 => ?_)
                          · have hTl := congrArg List.length hT
                            rw [List.length_append, List.length_map, List.length_take] at hTl
                            refine W.skip ?_
                            refine WX.next ?_
                            refine W.seq ?_
                            refine W.block ?_
                            refine W.region ?_
                            refine WL.move rfl rfl ?_
                            refine WL.move rfl rfl ?_
                            refine WL.move rfl rfl ?_
                            refine WL.idxA Try.underlying45 Try.sizeOf36 rfl rfl (RdL.isSome (E := segE) (by first | with_reducible assumption | with_reducible exact RdL.mem (by with_reducible assumption) M | exact M.rdL (by first | ((repeat (first | with_reducible exact Has.here | with_reducible refine Has.there ?_)); done) | (repeat (first | exact Has.here | refine Has.there ?_))) | exact RdLH.at (by assumption) (M.sel (by first | ((repeat (first | with_reducible exact Sel.refl | with_reducible exact Sel.nil | with_reducible exact Del.here | with_reducible apply Del.there | with_reducible apply Sel.cons | with_reducible apply Sel.drop)); done) | (repeat (first | exact Sel.refl | exact Sel.nil | exact Del.here | apply Del.there | apply Sel.cons | apply Sel.drop)))) | exact RdL.nil _ _ _) (by omega)) (by omega) (by omega) (by first | exact rfl | exact (Int.toNat_of_nonneg (by omega)).symm) rfl ?_
                            refine WL.fieldA (off := 3) Try.underlying36 rfl rfl Try.sizeOf34 rfl rfl rfl ?_
                            refine WL.loadE (E := segE) Try.isAgg34 rfl (by first | with_reducible assumption | with_reducible exact RdL.mem (by with_reducible assumption) M | exact M.rdL (by first | ((repeat (first | with_reducible exact Has.here | with_reducible refine Has.there ?_)); done) | (repeat (first | exact Has.here | refine Has.there ?_))) | exact RdLH.at (by assumption) (M.sel (by first | ((repeat (first | with_reducible exact Sel.refl | with_reducible exact Sel.nil | with_reducible exact Del.here | with_reducible apply Del.there | with_reducible apply Sel.cons | with_reducible apply Sel.drop)); done) | (repeat (first | exact Sel.refl | exact Sel.nil | exact Del.here | apply Del.there | apply Sel.cons | apply Sel.drop)))) | exact RdL.nil _ _ _) (by omega) rfl rfl ?_
                            refine WL.buildL (E := oxE) (l := [(el outs k).x]) Try.elem34 M rfl rfl rfl rfl rfl rfl ?_
                            intro g37_6 w M
                            refine WL.appendL (E := oxE) Try.elem34 rfl rfl M (by first | ((repeat (first | with_reducible exact Del.here | with_reducible apply Del.there)); done) | (repeat (first | exact Del.here | apply Del.there))) (by first | with_reducible assumption | with_reducible exact RdL.mem (by with_reducible assumption) M | exact M.rdL (by first | ((repeat (first | with_reducible exact Has.here | with_reducible refine Has.there ?_)); done) | (repeat (first | exact Has.here | refine Has.there ?_))) | exact RdLH.at (by assumption) (M.sel (by first | ((repeat (first | with_reducible exact Sel.refl | with_reducible exact Sel.nil | with_reducible exact Del.here | with_reducible apply Del.there | with_reducible apply Sel.cons | with_reducible apply Sel.drop)); done) | (repeat (first | exact Sel.refl | exact Sel.nil | exact Del.here | apply Del.there | apply Sel.cons | apply Sel.drop)))) | exact RdL.nil _ _ _) rfl rfl (by simp; omega) (by simp [maxLen]; omega) rfl ?_
                            intro A37_7 cap37_7 w M
                            refine WL.assign rfl rfl ?_
                            refine WL.nil ?_
                            refine WX.blockNormal ?_
                            refine WX.next ?_
                            refine W.sub [(3, _), (9, _), (11, _), (12, _), (13, _), (19, _), (21, _)] (.cons rfl (.cons rfl (.cons rfl (.cons rfl (.cons rfl (.cons rfl (.cons rfl .nil))))))) ?_
                            refine W.region ?_
                            refine WL.move rfl rfl ?_
                            refine WL.add rfl rfl (by first | exact wI64 (by omega) | rfl) rfl ?_
                            refine WL.assign rfl rfl ?_
                            refine WL.nil ?_
                            skip
                            have q : T ++ [(el outs k).x] = told ++ (outs.take (k + 1)).map SX.x := by rw [hT, List.take_add_one, el_get (by omega)]; simp
                            refine WX.round (((k + 1, T ++ [(el outs k).x]), (A37_7, cap37_7))) (by (repeat' (first | exact envSub.nil | refine envSub.cons ?_ ?_)) <;> first | rfl | (refine congrArg some ?_; refine congrArg (Value.int _) ?_; first | omega | (dsimp only; omega)) | (simp; done) | (refine congrArg some ?_; dsimp only; congr 1; omega) | (simp; omega)) ⟨M.sel (by first | ((repeat (first | with_reducible exact Sel.refl | with_reducible exact Sel.nil | with_reducible exact Del.here | with_reducible apply Del.there | with_reducible apply Sel.cons | with_reducible apply Sel.drop)); done) | (repeat (first | exact Sel.refl | exact Sel.nil | exact Del.here | apply Del.there | apply Sel.cons | apply Sel.drop))), ⟨by dsimp only; omega, q⟩⟩ (by first | omega | (dsimp only; omega))
                          · obtain rfl : k = outs.length := by omega
                            rw [List.take_length] at hT
                            subst hT
                            have M5 := Mem.starJoin (M.sel (K := Asr.star (told.map OX.O) :: Asr.star (outs.map SX.O) :: SnX.O ⟨gs, B2, cB2, ps2, tickS s⟩ :: (RnX.of g6_4 D2 cD2 qs2 (tickS s)).O :: [Asr.lst oxE Ak ck (told ++ outs.map SX.x)]) (by first | ((repeat (first | with_reducible exact Sel.refl | with_reducible exact Sel.nil | with_reducible exact Del.here | with_reducible apply Del.there | with_reducible apply Sel.cons | with_reducible apply Sel.drop)); done) | (repeat (first | exact Sel.refl | exact Sel.nil | exact Del.here | apply Del.there | apply Sel.cons | apply Sel.drop))))
                            have e5 : told.map OX.O ++ outs.map SX.O = (told ++ outs.map SX.x).map OX.O := by rw [List.map_append, List.map_map]; rfl
                            rw [e5] at M5
                            replace M := M5
                            have t5 : ∀ o ∈ told ++ outs.map SX.x, o.l.length ≤ 1000 := by
                              intro o h
                              rcases List.mem_append.1 h with h | h
                              · exact htb o h
                              · obtain ⟨x, hx, rfl⟩ := List.mem_map.1 h
                                have h1 : x.key ∈ tickO s := by rw [← houts]; exact List.mem_map.2 ⟨x, hx, rfl⟩
                                exact tickO_body hwl h1
                            refine W.exit ?_
                            refine WX.thenExit ?_
                            refine WX.thenExit ?_
                            refine WX.blockHere ?_
                            refine WX.blockNormal ?_
                            refine WX.join (((tickS s, told ++ outs.map SX.x), (B2, cB2, ps2), (D2, cD2, qs2), (Ak, ck))) (by (repeat' (first | exact envSub.nil | refine envSub.cons ?_ ?_)) <;> first | rfl | (refine congrArg some ?_; refine congrArg (Value.int _) ?_; first | omega | (dsimp only; omega)) | (simp; done) | (refine congrArg some ?_; dsimp only; congr 1; omega) | (simp; omega)) ⟨M.sel (by first | ((repeat (first | with_reducible exact Sel.refl | with_reducible exact Sel.nil | with_reducible exact Del.here | with_reducible apply Del.there | with_reducible apply Sel.cons | with_reducible apply Sel.drop)); done) | (repeat (first | exact Sel.refl | exact Sel.nil | exact Del.here | apply Del.there | apply Sel.cons | apply Sel.drop))), ⟨tickS_wel hwl, his2, hfit2, by simp; omega, t5⟩⟩
                      · (try simp only [Bool.not_eq_true'] at c16); (try simp only [Bool.not_eq_false'] at c16); (try simp only [decide_eq_true_eq] at c16); (try simp only [decide_eq_false_iff_not] at c16)
                        refine W.seq ?_
                        refine W.region ?_
                        refine WL.move rfl rfl ?_
                        refine WL.loadW Try.isAgg36 Try.sizeOf36 rfl M (by first | ((repeat (first | with_reducible exact Has.here | with_reducible refine Has.there ?_)); done) | (repeat (first | exact Has.here | refine Has.there ?_))) rfl rfl ?_
                        refine WL.call Try.call22 rfl (HearS2 ⟨gs, B, cB, ps, s⟩ his hok (el l0 i).s hin.2.1 _ _ _ _ M (by first | ((repeat (first | with_reducible exact Del.here | with_reducible apply Del.there)); done) | (repeat (first | exact Del.here | apply Del.there)))) rfl ?_
                        rintro _ w ⟨B2, cB2, ps2, rfl, his2, M⟩
                        dsimp only at his2 M
                        refine WL.assign rfl rfl ?_
                        refine WL.nil ?_
                        refine WX.next ?_
                        refine W.sub [(3, _), (9, _), (11, _), (12, _), (13, _), (14, _), (22, _)] (.cons rfl (.cons rfl (.cons rfl (.cons rfl (.cons rfl (.cons rfl (.cons rfl .nil))))))) ?_
                        refine W.seq ?_
                        refine W.region ?_
                        refine WL.move rfl rfl ?_
                        refine WL.loadW Try.isAgg36 Try.sizeOf36 rfl M (by first | ((repeat (first | with_reducible exact Has.here | with_reducible refine Has.there ?_)); done) | (repeat (first | exact Has.here | refine Has.there ?_))) rfl rfl ?_
                        refine WL.call Try.call23 rfl (refHearS2 g6_4 D cD qs s hfit hok (el l0 i).s hin.2.1 _ _ _ _ M (by first | ((repeat (first | with_reducible exact Del.here | with_reducible apply Del.there)); done) | (repeat (first | exact Del.here | apply Del.there)))) rfl ?_
                        rintro _ w ⟨D2, cD2, qs2, rfl, hfit2, M⟩
                        refine WL.assign rfl rfl ?_
                        refine WL.nil ?_
                        refine WX.next ?_
                        refine W.sub [(3, _), (9, _), (11, _), (12, _), (13, _), (22, _), (23, _)] (.cons rfl (.cons rfl (.cons rfl (.cons rfl (.cons rfl (.cons rfl (.cons rfl .nil))))))) ?_
                        refine W.seq ?_
                        refine W.region ?_
                        refine WL.move rfl rfl ?_
                        refine WL.move rfl rfl ?_
                        refine WL.neI rfl rfl rfl ?_
                        refine WL.nil ?_
                        refine WX.next ?_
                        refine W.sub [(3, _), (9, _), (11, _), (12, _), (13, _), (99, _)] (.cons rfl (.cons rfl (.cons rfl (.cons rfl (.cons rfl (.cons rfl .nil)))))) ?_
                        refine W.ite rfl (fun c19 => ?_) (fun c19 => ?_)
                        · exact absurd rfl c19
                        · refine W.skip ?_
                          refine WX.blockNormal ?_
                          refine WX.join (((hearS s (el l0 i).s.key, told), (B2, cB2, ps2), (D2, cD2, qs2), (At, ct))) (by (repeat' (first | exact envSub.nil | refine envSub.cons ?_ ?_)) <;> first | rfl | (refine congrArg some ?_; refine congrArg (Value.int _) ?_; first | omega | (dsimp only; omega)) | (simp; done) | (refine congrArg some ?_; dsimp only; congr 1; omega) | (simp; omega)) ⟨M.sel (by first | ((repeat (first | with_reducible exact Sel.refl | with_reducible exact Sel.nil | with_reducible exact Del.here | with_reducible apply Del.there | with_reducible apply Sel.cons | with_reducible apply Sel.drop)); done) | (repeat (first | exact Sel.refl | exact Sel.nil | exact Del.here | apply Del.there | apply Sel.cons | apply Sel.drop))), ⟨hearS_wel hwl _, his2, hfit2, by dsimp only; omega, htb⟩⟩
                  clear M; rintro (⟨⟨s4, told4⟩, ⟨B4, cB4, ps4⟩, ⟨D4, cD4, qs4⟩, At4, ct4⟩) w ⟨M, ⟨hwl4, his4, hfit4, htl4, htb4⟩⟩; dsimp only at M hwl4 his4 hfit4 htl4 htb4 ⊢
                  refine W.sub [(3, _), (9, _), (11, _), (12, _), (13, _)] (.cons rfl (.cons rfl (.cons rfl (.cons rfl (.cons rfl .nil))))) ?_
                  have hlen4 := SnX.is.len his4
                  have hlen5 := congrArg List.length hfit4.1
                  rw [List.length_drop, List.length_map] at hlen5
                  have hfa := hfit4.2
                  dsimp only at hlen4
                  have hlb := hwl4.len
                  have hac := hwl4.acked
                  replace M := (M.del (A := (RnX.of g6_4 D4 cD4 qs4 s4).O) (by first | ((repeat (first | with_reducible exact Del.here | with_reducible apply Del.there)); done) | (repeat (first | exact Del.here | apply Del.there)))).unstar3
                  unfold RnX.row at M
                  dsimp only [RnX.of] at M
                  refine W.seq ?_
                  refine W.drawM (_) (by kernel_rfl) (fun j => [1, 5, 6, 10].contains j) M Sel.refl ?_
                  clear M; intro M
                  apply DG.pure_ [0, 2, 3, 4, 7, 8, 9] 6 rfl (by kernel_rfl) (by kernel_rfl)
                  · intro w
                    refine WL.move rfl rfl ?_
                    refine WL.move rfl rfl ?_
                    refine WL.nilCheck rfl rfl ?_
                    refine WL.fieldR (off := 5) Try.underlying32 rfl rfl Try.sizeOf30 rfl rfl rfl ?_
                    refine WL.move rfl rfl ?_
                    refine WL.nilCheck rfl rfl ?_
                    refine WL.fieldR (off := 3) Try.underlying32 rfl rfl Try.sizeOf3 rfl rfl rfl ?_
                    exact Chain.end_ rfl
                  apply DG.take [5, 6, 10, 11] 2 rfl (by kernel_rfl) (by kernel_rfl) (M.sel (by first | ((repeat (first | with_reducible exact Sel.refl | with_reducible exact Sel.nil | with_reducible exact Del.here | with_reducible apply Del.there | with_reducible apply Sel.cons | with_reducible apply Sel.drop)); done) | (repeat (first | exact Sel.refl | exact Sel.nil | exact Del.here | apply Del.there | apply Sel.cons | apply Sel.drop))))
                  · intro w M
                    refine WL.loadR Try.isAgg30 rfl M (by first | ((repeat (first | with_reducible exact Has.here | with_reducible refine Has.there ?_)); done) | (repeat (first | exact Has.here | refine Has.there ?_))) rfl rfl ?_
                    refine WL.len Try.underlying30 rfl rfl ?_
                    refine WL.loadR Try.isAgg3 rfl M (by first | ((repeat (first | with_reducible exact Has.here | with_reducible refine Has.there ?_)); done) | (repeat (first | exact Has.here | refine Has.there ?_))) rfl rfl ?_
                    refine WL.sub' rfl rfl (wI64 (by omega)) rfl ?_
                    exact Chain.end_ rfl
                  refine DG.step 1 1 rfl (by kernel_rfl) ?_
                  refine WL.call Try.call24 rfl (Left_ok ⟨gs, B4, cB4, ps4, s4⟩ _ _ _ _ M (by first | ((repeat (first | with_reducible exact Del.here | with_reducible apply Del.there)); done) | (repeat (first | exact Del.here | apply Del.there)))) rfl ?_
                  rintro _ _ ⟨rfl, rfl⟩
                  refine DG.go (G := fun j => [1, 5, 6, 10].contains j) (i := 1) (f' := 1) (done := [0, 2, 3, 4, 7, 8, 9, 5, 6, 10, 11]) (fun _ => M.sel (by first | ((repeat (first | with_reducible exact Sel.refl | with_reducible exact Sel.nil | with_reducible exact Del.here | with_reducible apply Del.there | with_reducible apply Sel.cons | with_reducible apply Sel.drop)); done) | (repeat (first | exact Sel.refl | exact Sel.nil | exact Del.here | apply Del.there | apply Sel.cons | apply Sel.drop)))) ?_
                  apply DG.pure_ [12] 0 rfl (by kernel_rfl) (by kernel_rfl)
                  · intro w
                    refine WL.neI rfl rfl rfl ?_
                    exact Chain.end_ rfl
                  refine DG.end_ (by kernel_rfl) ?_
                  refine WX.next ?_
                  refine W.sub [(3, _), (9, _), (11, _), (12, _), (13, _), (163, _)] (.cons rfl (.cons rfl (.cons rfl (.cons rfl (.cons rfl (.cons rfl .nil)))))) ?_
                  refine W.ite rfl (fun c20 => ?_) (fun c20 => ?_)
                  · exact absurd (by dsimp only; omega) c20
                  · refine W.skip ?_
                    refine WX.blockNormal ?_
                    refine WX.next ?_
                    refine W.region ?_
                    refine WL.move rfl rfl ?_
                    refine WL.add rfl rfl (by first | exact wI64 (by omega) | rfl) rfl ?_
                    refine WL.assign rfl rfl ?_
                    refine WL.nil ?_
                    skip
                    replace M := Mem.star3 (M.sel (K := Asr.row g6_4 32 [.int .u64 (s4.life : Int), .int .i64 (s4.window : Int), .int .i64 (s4.span : Int), .int .i64 (s4.acked : Int), .int .i64 (s4.now : Int), .slice D4 qs4.length cD4] :: Asr.lst rpieceE D4 cD4 qs4 :: Asr.star (qs4.map PX.O) :: [SnX.O ⟨gs, B4, cB4, ps4, s4⟩, Asr.lst oxE At4 ct4 told4, Asr.star (told4.map OX.O)]) (by first | ((repeat (first | with_reducible exact Sel.refl | with_reducible exact Sel.nil | with_reducible exact Del.here | with_reducible apply Del.there | with_reducible apply Sel.cons | with_reducible apply Sel.drop)); done) | (repeat (first | exact Sel.refl | exact Sel.nil | exact Del.here | apply Del.there | apply Sel.cons | apply Sel.drop))))
                    refine WX.round (((i + 1, s4, told4), (B4, cB4, ps4), (D4, cD4, qs4), (At4, ct4))) (by (repeat' (first | exact envSub.nil | refine envSub.cons ?_ ?_)) <;> first | rfl | (refine congrArg some ?_; refine congrArg (Value.int _) ?_; first | omega | (dsimp only; omega)) | (simp; done) | (refine congrArg some ?_; dsimp only; congr 1; omega) | (simp; omega)) ⟨M.sel (by first | ((repeat (first | with_reducible exact Sel.refl | with_reducible exact Sel.nil | with_reducible exact Del.here | with_reducible apply Del.there | with_reducible apply Sel.cons | with_reducible apply Sel.drop)); done) | (repeat (first | exact Sel.refl | exact Sel.nil | exact Del.here | apply Del.there | apply Sel.cons | apply Sel.drop))), ⟨by dsimp only; omega, hwl4, his4, hfit4, by dsimp only; omega, htb4⟩⟩ (by first | omega | (dsimp only; omega))
              · refine W.exit ?_
                refine WX.thenExit ?_
                refine WX.thenExit ?_
                refine WX.blockHere ?_
                refine WX.next ?_
                refine W.seq ?_
                refine W.region ?_
                refine WL.move rfl rfl ?_
                refine WL.len Try.underlying33 rfl rfl ?_
                refine WL.gtr rfl rfl rfl ?_
                refine WL.moveIf rfl rfl (fun c21 => ?_) (fun c21 => ?_)
                · refine WL.off rfl rfl rfl rfl ?_
                  refine WL.off rfl rfl rfl rfl ?_
                  refine WL.pickT rfl rfl rfl ?_
                  refine WL.assign rfl rfl ?_
                  refine WL.nil ?_
                  refine WX.next ?_
                  refine W.sub [(9, _), (11, _), (24, _)] (.cons rfl (.cons rfl (.cons rfl .nil))) ?_
                  refine W.seq ?_
                  refine W.region ?_
                  refine WL.move rfl rfl ?_
                  refine WL.call Try.call19 rfl (Tick2 ⟨gs, B, cB, ps, s⟩ his (hwl.ok (by omega)) _ _ _ _ M (by first | ((repeat (first | with_reducible exact Del.here | with_reducible apply Del.there)); done) | (repeat (first | exact Del.here | apply Del.there)))) rfl ?_
                  rintro _ w ⟨B2, cB2, ps2, Ao, co, outs, rfl, his2, houts, M⟩
                  dsimp only at his2 houts M
                  have hol := congrArg List.length houts
                  rw [List.length_map] at hol
                  have hol2 := tickO_len s
                  have hw64 := hwl.win
                  refine WL.assign rfl rfl ?_
                  refine WL.nil ?_
                  refine WX.next ?_
                  refine W.sub [(11, _), (24, _), (25, _)] (.cons rfl (.cons rfl (.cons rfl .nil))) ?_
                  refine W.seq ?_
                  refine W.region ?_
                  refine WL.move rfl rfl ?_
                  refine WL.call Try.call20 rfl (refTick2 g6_4 D cD qs s hfit (hwl.ok (by omega)) _ _ _ _ M (by first | ((repeat (first | with_reducible exact Del.here | with_reducible apply Del.there)); done) | (repeat (first | exact Del.here | apply Del.there)))) rfl ?_
                  rintro _ w ⟨D2, cD2, qs2, A2, k2, outs2, rfl, hfit2, houts2, hoo2, M⟩
                  refine WL.assign rfl rfl ?_
                  refine WL.nil ?_
                  refine WX.next ?_
                  refine W.sub [(24, _), (25, _), (26, _)] (.cons rfl (.cons rfl (.cons rfl .nil))) ?_
                  refine W.seq ?_
                  have b1 : ∀ o ∈ outs, RdB w o.x.A o.x.cap o.x.l := fun o h => ownRd (M.starHas (f := SX.O) (by first | ((repeat (first | with_reducible exact Has.here | with_reducible refine Has.there ?_)); done) | (repeat (first | exact Has.here | refine Has.there ?_))) h)
                  have b2 : ∀ o ∈ outs2, RdB w o.x.A o.x.cap o.x.l := fun o h => by
                    obtain ⟨e, he, hx⟩ := hoo2 o h
                    rw [hx]
                    exact ownRd (((M.del (A := (RnX.of g6_4 D2 cD2 qs2 (tickS s)).O) (by first | ((repeat (first | with_reducible exact Del.here | with_reducible apply Del.there)); done) | (repeat (first | exact Del.here | apply Del.there)))).unstar3).starHas (f := PX.O) (by first | ((repeat (first | with_reducible exact Has.here | with_reducible refine Has.there ?_)); done) | (repeat (first | exact Has.here | refine Has.there ?_))) he)
                  refine W.region ?_
                  refine WL.move rfl rfl ?_
                  refine WL.move rfl rfl ?_
                  refine WL.on rfl rfl ?_
                  refine WL.move rfl rfl ?_
                  refine WL.on rfl rfl ?_
                  refine WL.move rfl rfl ?_
                  refine WL.on rfl rfl ?_
                  refine WL.call Try.call21 rfl (Sames_ok (by first | with_reducible assumption | with_reducible exact RdL.mem (by with_reducible assumption) M | exact M.rdL (by first | ((repeat (first | with_reducible exact Has.here | with_reducible refine Has.there ?_)); done) | (repeat (first | exact Has.here | refine Has.there ?_))) | exact RdLH.at (by assumption) (M.sel (by first | ((repeat (first | with_reducible exact Sel.refl | with_reducible exact Sel.nil | with_reducible exact Del.here | with_reducible apply Del.there | with_reducible apply Sel.cons | with_reducible apply Sel.drop)); done) | (repeat (first | exact Sel.refl | exact Sel.nil | exact Del.here | apply Del.there | apply Sel.cons | apply Sel.drop)))) | exact RdL.nil _ _ _) (by first | with_reducible assumption | with_reducible exact RdL.mem (by with_reducible assumption) M | exact M.rdL (by first | ((repeat (first | with_reducible exact Has.here | with_reducible refine Has.there ?_)); done) | (repeat (first | exact Has.here | refine Has.there ?_))) | exact RdLH.at (by assumption) (M.sel (by first | ((repeat (first | with_reducible exact Sel.refl | with_reducible exact Sel.nil | with_reducible exact Del.here | with_reducible apply Del.there | with_reducible apply Sel.cons | with_reducible apply Sel.drop)); done) | (repeat (first | exact Sel.refl | exact Sel.nil | exact Del.here | apply Del.there | apply Sel.cons | apply Sel.drop)))) | exact RdL.nil _ _ _) b1 b2 (by omega)) rfl ?_
                  rintro _ w ⟨rfl, m⟩
                  replace M := M.call0 m; clear m
                  rw [decide_eq_true (houts.trans houts2.symm)]
                  refine WL.pickT rfl rfl rfl ?_
                  refine WL.moveIfB rfl rfl (fun c23 => ?_) (fun c23 => ?_)
                  · refine WL.on rfl rfl ?_
                    refine WL.call Try.call12 rfl (known7_ok _) rfl ?_
                    rintro _ w ⟨rfl, m⟩
                    replace M := M.call0 m; clear m
                    refine WL.pickT rfl rfl rfl ?_
                    refine WL.assign rfl rfl ?_
                    refine WL.nil ?_
                    refine WX.next ?_
                    refine W.sub [(8, _)] (.cons rfl .nil) ?_
                    refine W.ret ?_
                    refine WX.ret1 rfl rfl ?_
                    exact ⟨rfl, M.sel (by first | ((repeat (first | with_reducible exact Sel.refl | with_reducible exact Sel.nil | with_reducible exact Del.here | with_reducible apply Del.there | with_reducible apply Sel.cons | with_reducible apply Sel.drop)); done) | (repeat (first | exact Sel.refl | exact Sel.nil | exact Del.here | apply Del.there | apply Sel.cons | apply Sel.drop)))⟩
                  · exact absurd c23 (by decide)
                · refine WL.on rfl rfl ?_
                  refine WL.move rfl rfl ?_
                  refine WL.on rfl rfl ?_
                  refine WL.call Try.call25 rfl (Own2 M (by first | ((repeat (first | with_reducible exact Del.here | with_reducible apply Del.there)); done) | (repeat (first | exact Del.here | apply Del.there))) (by first | ((repeat (first | with_reducible exact Del.here | with_reducible apply Del.there)); done) | (repeat (first | exact Del.here | apply Del.there))) (by omega) (fun o h => by have := htb o h; omega)) rfl ?_
                  rintro _ w ⟨rfl, M⟩
                  refine WL.pickF rfl rfl rfl ?_
                  refine WL.assign rfl rfl ?_
                  refine WL.nil ?_
                  refine WX.next ?_
                  refine W.sub [(9, _), (11, _), (24, _)] (.cons rfl (.cons rfl (.cons rfl .nil))) ?_
                  refine W.seq ?_
                  refine W.region ?_
                  refine WL.move rfl rfl ?_
                  refine WL.call Try.call19 rfl (Tick2 ⟨gs, B, cB, ps, s⟩ his (hwl.ok (by omega)) _ _ _ _ M (by first | ((repeat (first | with_reducible exact Del.here | with_reducible apply Del.there)); done) | (repeat (first | exact Del.here | apply Del.there)))) rfl ?_
                  rintro _ w ⟨B2, cB2, ps2, Ao, co, outs, rfl, his2, houts, M⟩
                  dsimp only at his2 houts M
                  have hol := congrArg List.length houts
                  rw [List.length_map] at hol
                  have hol2 := tickO_len s
                  have hw64 := hwl.win
                  refine WL.assign rfl rfl ?_
                  refine WL.nil ?_
                  refine WX.next ?_
                  refine W.sub [(11, _), (24, _), (25, _)] (.cons rfl (.cons rfl (.cons rfl .nil))) ?_
                  refine W.seq ?_
                  refine W.region ?_
                  refine WL.move rfl rfl ?_
                  refine WL.call Try.call20 rfl (refTick2 g6_4 D cD qs s hfit (hwl.ok (by omega)) _ _ _ _ M (by first | ((repeat (first | with_reducible exact Del.here | with_reducible apply Del.there)); done) | (repeat (first | exact Del.here | apply Del.there)))) rfl ?_
                  rintro _ w ⟨D2, cD2, qs2, A2, k2, outs2, rfl, hfit2, houts2, hoo2, M⟩
                  refine WL.assign rfl rfl ?_
                  refine WL.nil ?_
                  refine WX.next ?_
                  refine W.sub [(24, _), (25, _), (26, _)] (.cons rfl (.cons rfl (.cons rfl .nil))) ?_
                  refine W.seq ?_
                  have b1 : ∀ o ∈ outs, RdB w o.x.A o.x.cap o.x.l := fun o h => ownRd (M.starHas (f := SX.O) (by first | ((repeat (first | with_reducible exact Has.here | with_reducible refine Has.there ?_)); done) | (repeat (first | exact Has.here | refine Has.there ?_))) h)
                  have b2 : ∀ o ∈ outs2, RdB w o.x.A o.x.cap o.x.l := fun o h => by
                    obtain ⟨e, he, hx⟩ := hoo2 o h
                    rw [hx]
                    exact ownRd (((M.del (A := (RnX.of g6_4 D2 cD2 qs2 (tickS s)).O) (by first | ((repeat (first | with_reducible exact Del.here | with_reducible apply Del.there)); done) | (repeat (first | exact Del.here | apply Del.there)))).unstar3).starHas (f := PX.O) (by first | ((repeat (first | with_reducible exact Has.here | with_reducible refine Has.there ?_)); done) | (repeat (first | exact Has.here | refine Has.there ?_))) he)
                  refine W.region ?_
                  refine WL.move rfl rfl ?_
                  refine WL.moveIf rfl rfl (fun c22 => ?_) (fun c22 => ?_)
                  · refine WL.on rfl rfl ?_
                    refine WL.move rfl rfl ?_
                    refine WL.on rfl rfl ?_
                    refine WL.move rfl rfl ?_
                    refine WL.on rfl rfl ?_
                    refine WL.call Try.call21 rfl (Sames_ok (by first | with_reducible assumption | with_reducible exact RdL.mem (by with_reducible assumption) M | exact M.rdL (by first | ((repeat (first | with_reducible exact Has.here | with_reducible refine Has.there ?_)); done) | (repeat (first | exact Has.here | refine Has.there ?_))) | exact RdLH.at (by assumption) (M.sel (by first | ((repeat (first | with_reducible exact Sel.refl | with_reducible exact Sel.nil | with_reducible exact Del.here | with_reducible apply Del.there | with_reducible apply Sel.cons | with_reducible apply Sel.drop)); done) | (repeat (first | exact Sel.refl | exact Sel.nil | exact Del.here | apply Del.there | apply Sel.cons | apply Sel.drop)))) | exact RdL.nil _ _ _) (by first | with_reducible assumption | with_reducible exact RdL.mem (by with_reducible assumption) M | exact M.rdL (by first | ((repeat (first | with_reducible exact Has.here | with_reducible refine Has.there ?_)); done) | (repeat (first | exact Has.here | refine Has.there ?_))) | exact RdLH.at (by assumption) (M.sel (by first | ((repeat (first | with_reducible exact Sel.refl | with_reducible exact Sel.nil | with_reducible exact Del.here | with_reducible apply Del.there | with_reducible apply Sel.cons | with_reducible apply Sel.drop)); done) | (repeat (first | exact Sel.refl | exact Sel.nil | exact Del.here | apply Del.there | apply Sel.cons | apply Sel.drop)))) | exact RdL.nil _ _ _) b1 b2 (by omega)) rfl ?_
                    rintro _ w ⟨rfl, m⟩
                    replace M := M.call0 m; clear m
                    rw [decide_eq_true (houts.trans houts2.symm)]
                    refine WL.pickT rfl rfl rfl ?_
                    refine WL.moveIfB rfl rfl (fun c23 => ?_) (fun c23 => ?_)
                    · refine WL.on rfl rfl ?_
                      refine WL.call Try.call12 rfl (known7_ok _) rfl ?_
                      rintro _ w ⟨rfl, m⟩
                      replace M := M.call0 m; clear m
                      refine WL.pickT rfl rfl rfl ?_
                      refine WL.assign rfl rfl ?_
                      refine WL.nil ?_
                      refine WX.next ?_
                      refine W.sub [(8, _)] (.cons rfl .nil) ?_
                      refine W.ret ?_
                      refine WX.ret1 rfl rfl ?_
                      exact ⟨rfl, M.sel (by first | ((repeat (first | with_reducible exact Sel.refl | with_reducible exact Sel.nil | with_reducible exact Del.here | with_reducible apply Del.there | with_reducible apply Sel.cons | with_reducible apply Sel.drop)); done) | (repeat (first | exact Sel.refl | exact Sel.nil | exact Del.here | apply Del.there | apply Sel.cons | apply Sel.drop)))⟩
                    · exact absurd c23 (by decide)
                  · exact absurd trivial c22
            · refine WL.off rfl rfl rfl rfl ?_
              refine WL.off rfl rfl rfl rfl ?_
              refine WL.pickF rfl rfl rfl ?_
              refine WL.nil ?_
              refine WX.next ?_
              refine W.sub [(3, _), (9, _), (11, _), (12, _), (13, _), (75, _)] (.cons rfl (.cons rfl (.cons rfl (.cons rfl (.cons rfl (.cons rfl .nil)))))) ?_
              refine W.condF rfl ?_
              refine W.exit ?_
              refine WX.thenExit ?_
              refine WX.thenExit ?_
              refine WX.blockHere ?_
              refine WX.next ?_
              refine W.seq ?_
              refine W.region ?_
              refine WL.move rfl rfl ?_
              refine WL.len Try.underlying33 rfl rfl ?_
              refine WL.gtr rfl rfl rfl ?_
              refine WL.moveIf rfl rfl (fun c21 => ?_) (fun c21 => ?_)
              · refine WL.off rfl rfl rfl rfl ?_
                refine WL.off rfl rfl rfl rfl ?_
                refine WL.pickT rfl rfl rfl ?_
                refine WL.assign rfl rfl ?_
                refine WL.nil ?_
                refine WX.next ?_
                refine W.sub [(9, _), (11, _), (24, _)] (.cons rfl (.cons rfl (.cons rfl .nil))) ?_
                refine W.seq ?_
                refine W.region ?_
                refine WL.move rfl rfl ?_
                refine WL.call Try.call19 rfl (Tick2 ⟨gs, B, cB, ps, s⟩ his (hwl.ok (by omega)) _ _ _ _ M (by first | ((repeat (first | with_reducible exact Del.here | with_reducible apply Del.there)); done) | (repeat (first | exact Del.here | apply Del.there)))) rfl ?_
                rintro _ w ⟨B2, cB2, ps2, Ao, co, outs, rfl, his2, houts, M⟩
                dsimp only at his2 houts M
                have hol := congrArg List.length houts
                rw [List.length_map] at hol
                have hol2 := tickO_len s
                have hw64 := hwl.win
                refine WL.assign rfl rfl ?_
                refine WL.nil ?_
                refine WX.next ?_
                refine W.sub [(11, _), (24, _), (25, _)] (.cons rfl (.cons rfl (.cons rfl .nil))) ?_
                refine W.seq ?_
                refine W.region ?_
                refine WL.move rfl rfl ?_
                refine WL.call Try.call20 rfl (refTick2 g6_4 D cD qs s hfit (hwl.ok (by omega)) _ _ _ _ M (by first | ((repeat (first | with_reducible exact Del.here | with_reducible apply Del.there)); done) | (repeat (first | exact Del.here | apply Del.there)))) rfl ?_
                rintro _ w ⟨D2, cD2, qs2, A2, k2, outs2, rfl, hfit2, houts2, hoo2, M⟩
                refine WL.assign rfl rfl ?_
                refine WL.nil ?_
                refine WX.next ?_
                refine W.sub [(24, _), (25, _), (26, _)] (.cons rfl (.cons rfl (.cons rfl .nil))) ?_
                refine W.seq ?_
                have b1 : ∀ o ∈ outs, RdB w o.x.A o.x.cap o.x.l := fun o h => ownRd (M.starHas (f := SX.O) (by first | ((repeat (first | with_reducible exact Has.here | with_reducible refine Has.there ?_)); done) | (repeat (first | exact Has.here | refine Has.there ?_))) h)
                have b2 : ∀ o ∈ outs2, RdB w o.x.A o.x.cap o.x.l := fun o h => by
                  obtain ⟨e, he, hx⟩ := hoo2 o h
                  rw [hx]
                  exact ownRd (((M.del (A := (RnX.of g6_4 D2 cD2 qs2 (tickS s)).O) (by first | ((repeat (first | with_reducible exact Del.here | with_reducible apply Del.there)); done) | (repeat (first | exact Del.here | apply Del.there)))).unstar3).starHas (f := PX.O) (by first | ((repeat (first | with_reducible exact Has.here | with_reducible refine Has.there ?_)); done) | (repeat (first | exact Has.here | refine Has.there ?_))) he)
                refine W.region ?_
                refine WL.move rfl rfl ?_
                refine WL.move rfl rfl ?_
                refine WL.on rfl rfl ?_
                refine WL.move rfl rfl ?_
                refine WL.on rfl rfl ?_
                refine WL.move rfl rfl ?_
                refine WL.on rfl rfl ?_
                refine WL.call Try.call21 rfl (Sames_ok (by first | with_reducible assumption | with_reducible exact RdL.mem (by with_reducible assumption) M | exact M.rdL (by first | ((repeat (first | with_reducible exact Has.here | with_reducible refine Has.there ?_)); done) | (repeat (first | exact Has.here | refine Has.there ?_))) | exact RdLH.at (by assumption) (M.sel (by first | ((repeat (first | with_reducible exact Sel.refl | with_reducible exact Sel.nil | with_reducible exact Del.here | with_reducible apply Del.there | with_reducible apply Sel.cons | with_reducible apply Sel.drop)); done) | (repeat (first | exact Sel.refl | exact Sel.nil | exact Del.here | apply Del.there | apply Sel.cons | apply Sel.drop)))) | exact RdL.nil _ _ _) (by first | with_reducible assumption | with_reducible exact RdL.mem (by with_reducible assumption) M | exact M.rdL (by first | ((repeat (first | with_reducible exact Has.here | with_reducible refine Has.there ?_)); done) | (repeat (first | exact Has.here | refine Has.there ?_))) | exact RdLH.at (by assumption) (M.sel (by first | ((repeat (first | with_reducible exact Sel.refl | with_reducible exact Sel.nil | with_reducible exact Del.here | with_reducible apply Del.there | with_reducible apply Sel.cons | with_reducible apply Sel.drop)); done) | (repeat (first | exact Sel.refl | exact Sel.nil | exact Del.here | apply Del.there | apply Sel.cons | apply Sel.drop)))) | exact RdL.nil _ _ _) b1 b2 (by omega)) rfl ?_
                rintro _ w ⟨rfl, m⟩
                replace M := M.call0 m; clear m
                rw [decide_eq_true (houts.trans houts2.symm)]
                refine WL.pickT rfl rfl rfl ?_
                refine WL.moveIfB rfl rfl (fun c23 => ?_) (fun c23 => ?_)
                · refine WL.on rfl rfl ?_
                  refine WL.call Try.call12 rfl (known7_ok _) rfl ?_
                  rintro _ w ⟨rfl, m⟩
                  replace M := M.call0 m; clear m
                  refine WL.pickT rfl rfl rfl ?_
                  refine WL.assign rfl rfl ?_
                  refine WL.nil ?_
                  refine WX.next ?_
                  refine W.sub [(8, _)] (.cons rfl .nil) ?_
                  refine W.ret ?_
                  refine WX.ret1 rfl rfl ?_
                  exact ⟨rfl, M.sel (by first | ((repeat (first | with_reducible exact Sel.refl | with_reducible exact Sel.nil | with_reducible exact Del.here | with_reducible apply Del.there | with_reducible apply Sel.cons | with_reducible apply Sel.drop)); done) | (repeat (first | exact Sel.refl | exact Sel.nil | exact Del.here | apply Del.there | apply Sel.cons | apply Sel.drop)))⟩
                · exact absurd c23 (by decide)
              · refine WL.on rfl rfl ?_
                refine WL.move rfl rfl ?_
                refine WL.on rfl rfl ?_
                refine WL.call Try.call25 rfl (Own2 M (by first | ((repeat (first | with_reducible exact Del.here | with_reducible apply Del.there)); done) | (repeat (first | exact Del.here | apply Del.there))) (by first | ((repeat (first | with_reducible exact Del.here | with_reducible apply Del.there)); done) | (repeat (first | exact Del.here | apply Del.there))) (by omega) (fun o h => by have := htb o h; omega)) rfl ?_
                rintro _ w ⟨rfl, M⟩
                refine WL.pickF rfl rfl rfl ?_
                refine WL.assign rfl rfl ?_
                refine WL.nil ?_
                refine WX.next ?_
                refine W.sub [(9, _), (11, _), (24, _)] (.cons rfl (.cons rfl (.cons rfl .nil))) ?_
                refine W.seq ?_
                refine W.region ?_
                refine WL.move rfl rfl ?_
                refine WL.call Try.call19 rfl (Tick2 ⟨gs, B, cB, ps, s⟩ his (hwl.ok (by omega)) _ _ _ _ M (by first | ((repeat (first | with_reducible exact Del.here | with_reducible apply Del.there)); done) | (repeat (first | exact Del.here | apply Del.there)))) rfl ?_
                rintro _ w ⟨B2, cB2, ps2, Ao, co, outs, rfl, his2, houts, M⟩
                dsimp only at his2 houts M
                have hol := congrArg List.length houts
                rw [List.length_map] at hol
                have hol2 := tickO_len s
                have hw64 := hwl.win
                refine WL.assign rfl rfl ?_
                refine WL.nil ?_
                refine WX.next ?_
                refine W.sub [(11, _), (24, _), (25, _)] (.cons rfl (.cons rfl (.cons rfl .nil))) ?_
                refine W.seq ?_
                refine W.region ?_
                refine WL.move rfl rfl ?_
                refine WL.call Try.call20 rfl (refTick2 g6_4 D cD qs s hfit (hwl.ok (by omega)) _ _ _ _ M (by first | ((repeat (first | with_reducible exact Del.here | with_reducible apply Del.there)); done) | (repeat (first | exact Del.here | apply Del.there)))) rfl ?_
                rintro _ w ⟨D2, cD2, qs2, A2, k2, outs2, rfl, hfit2, houts2, hoo2, M⟩
                refine WL.assign rfl rfl ?_
                refine WL.nil ?_
                refine WX.next ?_
                refine W.sub [(24, _), (25, _), (26, _)] (.cons rfl (.cons rfl (.cons rfl .nil))) ?_
                refine W.seq ?_
                have b1 : ∀ o ∈ outs, RdB w o.x.A o.x.cap o.x.l := fun o h => ownRd (M.starHas (f := SX.O) (by first | ((repeat (first | with_reducible exact Has.here | with_reducible refine Has.there ?_)); done) | (repeat (first | exact Has.here | refine Has.there ?_))) h)
                have b2 : ∀ o ∈ outs2, RdB w o.x.A o.x.cap o.x.l := fun o h => by
                  obtain ⟨e, he, hx⟩ := hoo2 o h
                  rw [hx]
                  exact ownRd (((M.del (A := (RnX.of g6_4 D2 cD2 qs2 (tickS s)).O) (by first | ((repeat (first | with_reducible exact Del.here | with_reducible apply Del.there)); done) | (repeat (first | exact Del.here | apply Del.there)))).unstar3).starHas (f := PX.O) (by first | ((repeat (first | with_reducible exact Has.here | with_reducible refine Has.there ?_)); done) | (repeat (first | exact Has.here | refine Has.there ?_))) he)
                refine W.region ?_
                refine WL.move rfl rfl ?_
                refine WL.moveIf rfl rfl (fun c22 => ?_) (fun c22 => ?_)
                · refine WL.on rfl rfl ?_
                  refine WL.move rfl rfl ?_
                  refine WL.on rfl rfl ?_
                  refine WL.move rfl rfl ?_
                  refine WL.on rfl rfl ?_
                  refine WL.call Try.call21 rfl (Sames_ok (by first | with_reducible assumption | with_reducible exact RdL.mem (by with_reducible assumption) M | exact M.rdL (by first | ((repeat (first | with_reducible exact Has.here | with_reducible refine Has.there ?_)); done) | (repeat (first | exact Has.here | refine Has.there ?_))) | exact RdLH.at (by assumption) (M.sel (by first | ((repeat (first | with_reducible exact Sel.refl | with_reducible exact Sel.nil | with_reducible exact Del.here | with_reducible apply Del.there | with_reducible apply Sel.cons | with_reducible apply Sel.drop)); done) | (repeat (first | exact Sel.refl | exact Sel.nil | exact Del.here | apply Del.there | apply Sel.cons | apply Sel.drop)))) | exact RdL.nil _ _ _) (by first | with_reducible assumption | with_reducible exact RdL.mem (by with_reducible assumption) M | exact M.rdL (by first | ((repeat (first | with_reducible exact Has.here | with_reducible refine Has.there ?_)); done) | (repeat (first | exact Has.here | refine Has.there ?_))) | exact RdLH.at (by assumption) (M.sel (by first | ((repeat (first | with_reducible exact Sel.refl | with_reducible exact Sel.nil | with_reducible exact Del.here | with_reducible apply Del.there | with_reducible apply Sel.cons | with_reducible apply Sel.drop)); done) | (repeat (first | exact Sel.refl | exact Sel.nil | exact Del.here | apply Del.there | apply Sel.cons | apply Sel.drop)))) | exact RdL.nil _ _ _) b1 b2 (by omega)) rfl ?_
                  rintro _ w ⟨rfl, m⟩
                  replace M := M.call0 m; clear m
                  rw [decide_eq_true (houts.trans houts2.symm)]
                  refine WL.pickT rfl rfl rfl ?_
                  refine WL.moveIfB rfl rfl (fun c23 => ?_) (fun c23 => ?_)
                  · refine WL.on rfl rfl ?_
                    refine WL.call Try.call12 rfl (known7_ok _) rfl ?_
                    rintro _ w ⟨rfl, m⟩
                    replace M := M.call0 m; clear m
                    refine WL.pickT rfl rfl rfl ?_
                    refine WL.assign rfl rfl ?_
                    refine WL.nil ?_
                    refine WX.next ?_
                    refine W.sub [(8, _)] (.cons rfl .nil) ?_
                    refine W.ret ?_
                    refine WX.ret1 rfl rfl ?_
                    exact ⟨rfl, M.sel (by first | ((repeat (first | with_reducible exact Sel.refl | with_reducible exact Sel.nil | with_reducible exact Del.here | with_reducible apply Del.there | with_reducible apply Sel.cons | with_reducible apply Sel.drop)); done) | (repeat (first | exact Sel.refl | exact Sel.nil | exact Del.here | apply Del.there | apply Sel.cons | apply Sel.drop)))⟩
                  · exact absurd c23 (by decide)
                · exact absurd trivial c22
end Go.Proofs.Ytgaegaaaoopolaa
