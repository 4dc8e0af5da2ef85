/-
  Walk: whatever segments come (seawalllaw07.SessTakes).
-/
import Derived.Test.YtgaegaaaoopolaaSessIn
import Derived.Test.YtgaegaaaoopolaaKnown07
import Derived.Test.YtgaegaaaoopolaaSameL
import Derived.Test.YtgaegaaaoopolaaSess5
import Derived.Test.YtgaegaaaoopolaaSess6
namespace Go.Proofs.Ytgaegaaaoopolaa
open Go Go.RowKit

theorem NewReceiver2 (window : Int) (w0 : World) : Fn Try.prog 32 [.int .i64 window] w0 fun v w' => ∃ (p : Option Addr) (e : Int) (K : List Asr), v = .tuple #[.pointer p, .int .i64 e] ∧ Mem w0 w' K ∧
    (((window < 1 ∨ window > 64) ∧ p = none ∧ e = 2 ∧ K = []) ∨ (¬ (window < 1 ∨ window > 64) ∧ ∃ g gm, p = some ⟨g, 0, none⟩ ∧ e = 0 ∧ K = [(RcX.of g gm [] ⟨window.toNat, 0, 0, []⟩).O])) :=
  (NewReceiver_ok window w0).mono fun v w' h => by
    by_cases hw : window < 1 ∨ window > 64
    · rw [if_pos hw] at h
      obtain ⟨rfl, M⟩ := h
      exact ⟨_, _, _, rfl, M, .inl ⟨hw, rfl, rfl, rfl⟩⟩
    · rw [if_neg hw] at h
      obtain ⟨g, gm, rfl, M⟩ := h
      exact ⟨_, _, _, rfl, M, .inr ⟨hw, g, gm, rfl, rfl, rfl⟩⟩

set_option maxRecDepth 10000 in
set_option maxHeartbeats 1000000 in
theorem SessTakes_ok (window : Int) (A0 : Option Addr) (l0 : List SX) (k0 : Nat) (w0 : World) (h0 : RdL w0 segE A0 k0 l0) (hq : ∀ s ∈ l0, s.inn w0) :
    Fn Try.prog 6 [.int .i64 window, .slice A0 l0.length k0] w0 fun v w' => v = .bool true ∧ Mem w0 w' [] := by
  have M := Mem.refl w0
  refine Fn.enter Try.func6 rfl Try.ntmps6 rfl ?_
  refine W.sub [(0, _), (1, _)] (.cons rfl (.cons rfl .nil)) ?_
  refine W.seq ?_
  refine W.region ?_
  refine WL.assign rfl rfl ?_
  refine WL.nil ?_
  refine WX.next ?_
  refine W.sub [(0, _), (1, _)] (.cons rfl (.cons rfl .nil)) ?_
  refine W.seq ?_
  refine W.region ?_
  refine WL.move rfl rfl ?_
  refine WL.call Try.call32 rfl (NewReceiver2 window _) rfl ?_
  rintro _ w ⟨p, e, K, rfl, m, hK⟩
  replace M := M.call m; clear m
  refine WL.move rfl rfl ?_
  refine WL.extractL rfl rfl rfl ?_
  refine WL.extractL rfl rfl rfl ?_
  refine WL.assign rfl rfl ?_
  refine WL.assign rfl rfl ?_
  refine WL.nil ?_
  refine WX.next ?_
  refine W.sub [(0, _), (1, _), (5, _), (6, _)] (.cons rfl (.cons rfl (.cons rfl (.cons rfl .nil)))) ?_
  refine W.seq ?_
  refine W.seq ?_
  refine W.region ?_
  refine WL.move rfl rfl ?_
  refine WL.lss rfl rfl rfl ?_
  refine WL.moveIf rfl rfl (fun c0 => ?_) (fun c0 => ?_)
  · obtain ⟨rfl, rfl, rfl⟩ : p = none ∧ e = 2 ∧ K = [] := by
      rcases hK with ⟨_, h⟩ | ⟨h, _⟩
      · exact h
      · omega
    refine WL.off rfl rfl rfl rfl ?_
    refine WL.off rfl rfl rfl rfl ?_
    refine WL.pickT rfl rfl rfl ?_
    refine WL.nil ?_
    refine WX.next ?_
    refine W.sub [(0, _), (1, _), (5, _), (6, _), (30, _)] (.cons rfl (.cons rfl (.cons rfl (.cons rfl (.cons rfl .nil))))) ?_
    refine W.condT rfl ?_
    refine W.seq ?_
    refine W.region ?_
    refine WL.move rfl rfl ?_
    refine WL.eqNilT Try.underlying60 rfl rfl rfl ?_
    refine WL.move rfl rfl ?_
    refine WL.on rfl rfl ?_
    refine WL.move rfl rfl ?_
    refine WL.on rfl rfl ?_
    refine WL.eqI rfl rfl rfl ?_
    refine WL.pickT rfl rfl rfl ?_
    refine WL.moveIf rfl rfl (fun c3 => ?_) (fun c3 => ?_)
    · refine WL.on rfl rfl ?_
      refine WL.call Try.call12 rfl (known7_ok _) rfl ?_
      rintro _ w ⟨rfl, m⟩
      replace M := M.call0 m; clear m
      refine WL.pickT rfl rfl rfl ?_
      refine WL.assign rfl rfl ?_
      refine WL.nil ?_
      refine WX.next ?_
      refine W.sub [(4, _)] (.cons rfl .nil) ?_
      refine W.ret ?_
      refine WX.thenRet ?_
      refine WX.ret1 rfl rfl ?_
      exact ⟨rfl, M.sel (by first | ((repeat (first | with_reducible exact Sel.refl | with_reducible exact Sel.nil | with_reducible exact Del.here | with_reducible apply Del.there | with_reducible apply Sel.cons | with_reducible apply Sel.drop)); done) | (repeat (first | exact Sel.refl | exact Sel.nil | exact Del.here | apply Del.there | apply Sel.cons | apply Sel.drop)))⟩
    · exact absurd rfl c3
  · refine WL.on rfl rfl ?_
    refine WL.move rfl rfl ?_
    refine WL.on rfl rfl ?_
    refine WL.gtr rfl rfl rfl ?_
    refine WL.pickF rfl rfl rfl ?_
    refine WL.nil ?_
    refine WX.next ?_
    refine W.sub [(0, _), (1, _), (5, _), (6, _), (30, _)] (.cons rfl (.cons rfl (.cons rfl (.cons rfl (.cons rfl .nil))))) ?_
    refine W.ite rfl (fun c1 => ?_) (fun c1 => ?_)
    · obtain ⟨rfl, rfl, rfl⟩ : p = none ∧ e = 2 ∧ K = [] := by
        rcases hK with ⟨_, h⟩ | ⟨h, _⟩
        · exact h
        · omega
      refine W.seq ?_
      refine W.region ?_
      refine WL.move rfl rfl ?_
      refine WL.eqNilT Try.underlying60 rfl rfl rfl ?_
      refine WL.move rfl rfl ?_
      refine WL.on rfl rfl ?_
      refine WL.move rfl rfl ?_
      refine WL.on rfl rfl ?_
      refine WL.eqI rfl rfl rfl ?_
      refine WL.pickT rfl rfl rfl ?_
      refine WL.moveIf rfl rfl (fun c3 => ?_) (fun c3 => ?_)
      · refine WL.on rfl rfl ?_
        refine WL.call Try.call12 rfl (known7_ok _) rfl ?_
        rintro _ w ⟨rfl, m⟩
        replace M := M.call0 m; clear m
        refine WL.pickT rfl rfl rfl ?_
        refine WL.assign rfl rfl ?_
        refine WL.nil ?_
        refine WX.next ?_
        refine W.sub [(4, _)] (.cons rfl .nil) ?_
        refine W.ret ?_
        refine WX.thenRet ?_
        refine WX.ret1 rfl rfl ?_
        exact ⟨rfl, M.sel (by first | ((repeat (first | with_reducible exact Sel.refl | with_reducible exact Sel.nil | with_reducible exact Del.here | with_reducible apply Del.there | with_reducible apply Sel.cons | with_reducible apply Sel.drop)); done) | (repeat (first | exact Sel.refl | exact Sel.nil | exact Del.here | apply Del.there | apply Sel.cons | apply Sel.drop)))⟩
      · exact absurd rfl c3
    · obtain ⟨gr, gm, rfl, rfl, rfl⟩ : ∃ g gm, p = some ⟨g, 0, none⟩ ∧ e = 0 ∧ K = [(RcX.of g gm [] ⟨window.toNat, 0, 0, []⟩).O] := by
        rcases hK with ⟨h, _⟩ | ⟨_, h⟩
        · omega
        · exact h
      obtain ⟨wn, rfl⟩ : ∃ n : Nat, window = (n : Int) := ⟨window.toNat, by omega⟩
      rw [Int.toNat_natCast] at M
      simp only [List.cons_append, List.nil_append] at M
      refine W.skip ?_
      refine WX.next ?_
      refine W.seq ?_
      refine W.seq ?_
      refine W.region ?_
      refine WL.move rfl rfl ?_
      refine WL.eqNilF Try.underlying60 rfl rfl rfl ?_
      refine WL.move rfl rfl ?_
      refine WL.on rfl rfl ?_
      refine WL.move rfl rfl ?_
      refine WL.on rfl rfl ?_
      refine WL.neI rfl rfl rfl ?_
      refine WL.pickF rfl rfl rfl ?_
      refine WL.nil ?_
      refine WX.next ?_
      refine W.sub [(0, _), (1, _), (5, _), (45, _)] (.cons rfl (.cons rfl (.cons rfl (.cons rfl .nil)))) ?_
      refine W.ite rfl (fun c5 => ?_) (fun c5 => ?_)
      · exact absurd rfl c5
      · refine W.skip ?_
        refine WX.next ?_
        refine W.seq ?_
        refine W.region ?_
        refine WL.move rfl rfl ?_
        refine WL.buildP (places := #[(0, 1), (1, 1), (2, 1), (3, 1)]) Try.underlying70 Try.zeroValue70 (fun _ => by simp [Try.sizeOf3, Try.sizeOf22, Try.sizeOf22, Try.sizeOf68]) rfl (by repeat (first | exact Puts.nil | exact SetAt.zero | apply SetAt.succ | apply Puts.cons rfl rfl)) rfl ?_
        refine WL.box rfl M rfl ?_
        intro g6_2 w M
        try simp only [Value.cells] at M
        try simp only [List.toList_toArray] at M
        refine WL.assign rfl rfl ?_
        refine WL.nil ?_
        refine WX.next ?_
        refine W.sub [(1, _), (5, _), (7, _)] (.cons rfl (.cons rfl (.cons rfl .nil))) ?_
        refine W.seq ?_
        refine W.seq ?_
        have hM : Mem w0 w [(RcX.of gr gm [] ⟨wn, 0, 0, []⟩).O, (RrX.of g6_2 none 0 [] ⟨wn, 0, 0, []⟩).O] := by
          have M2 := Mem.nilOwn M.starNil 108 2
          exact Mem.f1 (Mem.star3 (M2.sel (K := Asr.row g6_2 70 [.int .i64 (wn : Int), .int .u64 ((0 : Nat) : Int), .int .u64 ((0 : Nat) : Int), .slice none 0 0] :: Asr.lst rearlyE none 0 [] :: Asr.star (([] : List EX).map EX.O) :: [(RcX.of gr gm [] ⟨wn, 0, 0, []⟩).O]) (by first | ((repeat (first | with_reducible exact Sel.refl | with_reducible exact Sel.nil | with_reducible exact Del.here | with_reducible apply Del.there | with_reducible apply Sel.cons | with_reducible apply Sel.drop)); done) | (repeat (first | exact Sel.refl | exact Sel.nil | exact Del.here | apply Del.there | apply Sel.cons | apply Sel.drop)))))
        refine W.region ?_
        refine WL.assign rfl rfl ?_
        refine WL.nil ?_
        refine WX.next ?_
        refine W.sub [(1, _), (5, _), (7, _), (8, _)] (.cons rfl (.cons rfl (.cons rfl (.cons rfl .nil)))) ?_
        refine W.block ?_
        refine W.loop (ι := (Nat × Rc × Nat × List (Nat × OX)) × (Option Addr × Nat × List EX)) (fun z => [(1, .slice A0 l0.length k0), (5, .pointer (some ⟨gr, 0, none⟩)), (7, .pointer (some ⟨g6_2, 0, none⟩)), (8, .int .i64 (z.1.1 : Int))]) (fun i w => Mem w0 w ((fun z => [(RcX.of gr z.1.2.2.1 z.1.2.2.2 z.1.2.1).O, (RrX.of g6_2 z.2.1 z.2.2.1 z.2.2.2 z.1.2.1).O]) i) ∧ (fun z => z.1.1 ≤ 200 ∧ mmap OX.l z.1.2.2.2 = z.1.2.1.m ∧ z.1.2.1.ok ∧ (RrX.of g6_2 z.2.1 z.2.2.1 z.2.2.2 z.1.2.1).is z.1.2.1 ∧ z.2.2.2.length ≤ z.1.1 ∧ z.1.2.1.got + z.1.2.1.m.length ≤ z.1.1) i) (fun z => 200 - z.1.1) (((0, ⟨wn, 0, 0, []⟩, gm, []), (none, 0, []))) (by (repeat' (first | exact envSub.nil | refine envSub.cons ?_ ?_)) <;> first | rfl | (refine congrArg some ?_; refine congrArg (Value.int _) ?_; first | omega | (dsimp only; omega)) | (simp; done) | (refine congrArg some ?_; dsimp only; congr 1; omega) | (simp; omega)) ⟨hM, ⟨by simp, rfl, ⟨by dsimp only; omega, by simp, by simp, by simp, fun p h => by cases h⟩, ⟨rfl, rfl, rfl, fun k _ => rfl, fun p h => by cases h⟩, by simp, by simp⟩⟩ ?_
        clear M; rintro (⟨⟨i, r, gm1, ms⟩, B, cB, ls⟩) w ⟨M, ⟨hi, hms, hrk, hrr, hls, hgl⟩⟩; dsimp only at M hi hms hrk hrr hls hgl ⊢
        refine W.sub [(1, _), (5, _), (7, _), (8, _)] (.cons rfl (.cons rfl (.cons rfl (.cons rfl .nil)))) ?_
        refine W.seq ?_
        refine W.seq ?_
        refine W.region ?_
        refine WL.move rfl rfl ?_
        refine WL.move rfl rfl ?_
        refine WL.len Try.underlying45 rfl rfl ?_
        refine WL.lss rfl rfl rfl ?_
        refine WL.moveIf rfl rfl (fun c6 => ?_) (fun c6 => ?_)
        · refine WL.on rfl rfl ?_
          refine WL.move rfl rfl ?_
          refine WL.on rfl rfl ?_
          refine WL.lss rfl rfl rfl ?_
          refine WL.pickT rfl rfl rfl ?_
          refine WL.nil ?_
          refine WX.next ?_
          refine W.sub [(1, _), (5, _), (7, _), (8, _), (56, _)] (.cons rfl (.cons rfl (.cons rfl (.cons rfl (.cons rfl .nil))))) ?_
          refine W.ite rfl (fun c7 => ?_) (fun c7 => ?_)
          · refine W.skip ?_
            refine WX.next ?_
            refine W.seq ?_
            refine W.block ?_
            refine W.seq ?_
            refine W.seq ?_
            refine W.region ?_
            refine WL.move rfl rfl ?_
            refine WL.move rfl rfl ?_
            refine WL.idxA Try.underlying45 Try.sizeOf36 rfl rfl (RdL.isSome (E := segE) (by first | with_reducible assumption | with_reducible exact RdL.mem (by with_reducible assumption) M | exact M.rdL (by first | ((repeat (first | with_reducible exact Has.here | with_reducible refine Has.there ?_)); done) | (repeat (first | exact Has.here | refine Has.there ?_))) | exact RdLH.at (by assumption) (M.sel (by first | ((repeat (first | with_reducible exact Sel.refl | with_reducible exact Sel.nil | with_reducible exact Del.here | with_reducible apply Del.there | with_reducible apply Sel.cons | with_reducible apply Sel.drop)); done) | (repeat (first | exact Sel.refl | exact Sel.nil | exact Del.here | apply Del.there | apply Sel.cons | apply Sel.drop)))) | exact RdL.nil _ _ _) (by omega)) (by omega) (by omega) (by first | exact rfl | exact (Int.toNat_of_nonneg (by omega)).symm) rfl ?_
            refine WL.loadL (E := segE) (cs := [_, _, _, _]) Try.isAgg36 Try.sizeOf36 rfl (by first | with_reducible assumption | with_reducible exact RdL.mem (by with_reducible assumption) M | exact M.rdL (by first | ((repeat (first | with_reducible exact Has.here | with_reducible refine Has.there ?_)); done) | (repeat (first | exact Has.here | refine Has.there ?_))) | exact RdLH.at (by assumption) (M.sel (by first | ((repeat (first | with_reducible exact Sel.refl | with_reducible exact Sel.nil | with_reducible exact Del.here | with_reducible apply Del.there | with_reducible apply Sel.cons | with_reducible apply Sel.drop)); done) | (repeat (first | exact Sel.refl | exact Sel.nil | exact Del.here | apply Del.there | apply Sel.cons | apply Sel.drop)))) | exact RdL.nil _ _ _) rfl (by omega) rfl rfl ?_
            refine WL.call Try.call13 rfl (long_ok (el l0 i) _) rfl ?_
            rintro _ w ⟨rfl, m⟩
            replace M := M.call0 m; clear m
            refine WL.nil ?_
            refine WX.next ?_
            refine W.sub [(1, _), (5, _), (7, _), (8, _), (63, _)] (.cons rfl (.cons rfl (.cons rfl (.cons rfl (.cons rfl .nil))))) ?_
            refine W.ite rfl (fun c8 => ?_) (fun c8 => ?_)
            · refine W.seq ?_
              refine W.region ?_
              refine WL.call Try.call12 rfl (known7_ok _) rfl ?_
              rintro _ w ⟨rfl, m⟩
              replace M := M.call0 m; clear m
              refine WL.assign rfl rfl ?_
              refine WL.nil ?_
              refine WX.next ?_
              refine W.sub [(4, _)] (.cons rfl .nil) ?_
              refine W.ret ?_
              refine WX.thenRet ?_
              refine WX.blockRet ?_
              refine WX.thenRet ?_
              refine WX.thenRet ?_
              refine WX.blockRet ?_
              refine WX.thenRet ?_
              refine WX.ret1 rfl rfl ?_
              exact ⟨rfl, M.sel (by first | ((repeat (first | with_reducible exact Sel.refl | with_reducible exact Sel.nil | with_reducible exact Del.here | with_reducible apply Del.there | with_reducible apply Sel.cons | with_reducible apply Sel.drop)); done) | (repeat (first | exact Sel.refl | exact Sel.nil | exact Del.here | apply Del.there | apply Sel.cons | apply Sel.drop)))⟩
            · have hin := hq _ (el_mem (l := l0) (k := i) (by omega))
              refine W.skip ?_
              refine WX.next ?_
              refine W.seq ?_
              refine W.region ?_
              refine WL.move rfl rfl ?_
              refine WL.move rfl rfl ?_
              refine WL.idxA Try.underlying45 Try.sizeOf36 rfl rfl (RdL.isSome (E := segE) (by first | with_reducible assumption | with_reducible exact RdL.mem (by with_reducible assumption) M | exact M.rdL (by first | ((repeat (first | with_reducible exact Has.here | with_reducible refine Has.there ?_)); done) | (repeat (first | exact Has.here | refine Has.there ?_))) | exact RdLH.at (by assumption) (M.sel (by first | ((repeat (first | with_reducible exact Sel.refl | with_reducible exact Sel.nil | with_reducible exact Del.here | with_reducible apply Del.there | with_reducible apply Sel.cons | with_reducible apply Sel.drop)); done) | (repeat (first | exact Sel.refl | exact Sel.nil | exact Del.here | apply Del.there | apply Sel.cons | apply Sel.drop)))) | exact RdL.nil _ _ _) (by omega)) (by omega) (by omega) (by first | exact rfl | exact (Int.toNat_of_nonneg (by omega)).symm) rfl ?_
              refine WL.loadL (E := segE) (cs := [_, _, _, _]) Try.isAgg36 Try.sizeOf36 rfl (by first | with_reducible assumption | with_reducible exact RdL.mem (by with_reducible assumption) M | exact M.rdL (by first | ((repeat (first | with_reducible exact Has.here | with_reducible refine Has.there ?_)); done) | (repeat (first | exact Has.here | refine Has.there ?_))) | exact RdLH.at (by assumption) (M.sel (by first | ((repeat (first | with_reducible exact Sel.refl | with_reducible exact Sel.nil | with_reducible exact Del.here | with_reducible apply Del.there | with_reducible apply Sel.cons | with_reducible apply Sel.drop)); done) | (repeat (first | exact Sel.refl | exact Sel.nil | exact Del.here | apply Del.there | apply Sel.cons | apply Sel.drop)))) | exact RdL.nil _ _ _) rfl (by omega) rfl rfl ?_
              refine WL.alloc Try.zeroValue36 M rfl ?_
              intro g12_4 w M
              try simp only [Value.cells] at M
              try simp only [List.toList_toArray] at M
              refine WL.storeWA Try.sizeOf36 rfl rfl (by repeat (first | exact oneNil | refine oneCons rfl ?_)) rfl rfl M (by first | ((repeat (first | with_reducible exact Upd.here | with_reducible apply Upd.there)); done) | (repeat (first | exact Upd.here | apply Upd.there))) ?_
              intro w M
              refine WL.nil ?_
              refine WX.next ?_
              refine W.sub [(1, _), (5, _), (7, _), (8, _), (9, _)] (.cons rfl (.cons rfl (.cons rfl (.cons rfl (.cons rfl .nil))))) ?_
              refine W.seq ?_
              refine W.region ?_
              refine WL.move rfl rfl ?_
              refine WL.move rfl rfl ?_
              refine WL.idxA Try.underlying45 Try.sizeOf36 rfl rfl (RdL.isSome (E := segE) (by first | with_reducible assumption | with_reducible exact RdL.mem (by with_reducible assumption) M | exact M.rdL (by first | ((repeat (first | with_reducible exact Has.here | with_reducible refine Has.there ?_)); done) | (repeat (first | exact Has.here | refine Has.there ?_))) | exact RdLH.at (by assumption) (M.sel (by first | ((repeat (first | with_reducible exact Sel.refl | with_reducible exact Sel.nil | with_reducible exact Del.here | with_reducible apply Del.there | with_reducible apply Sel.cons | with_reducible apply Sel.drop)); done) | (repeat (first | exact Sel.refl | exact Sel.nil | exact Del.here | apply Del.there | apply Sel.cons | apply Sel.drop)))) | exact RdL.nil _ _ _) (by omega)) (by omega) (by omega) (by first | exact rfl | exact (Int.toNat_of_nonneg (by omega)).symm) rfl ?_
              refine WL.fieldA (off := 3) Try.underlying36 rfl rfl Try.sizeOf34 rfl rfl rfl ?_
              refine WL.loadE (E := segE) Try.isAgg34 rfl (by first | with_reducible assumption | with_reducible exact RdL.mem (by with_reducible assumption) M | exact M.rdL (by first | ((repeat (first | with_reducible exact Has.here | with_reducible refine Has.there ?_)); done) | (repeat (first | exact Has.here | refine Has.there ?_))) | exact RdLH.at (by assumption) (M.sel (by first | ((repeat (first | with_reducible exact Sel.refl | with_reducible exact Sel.nil | with_reducible exact Del.here | with_reducible apply Del.there | with_reducible apply Sel.cons | with_reducible apply Sel.drop)); done) | (repeat (first | exact Sel.refl | exact Sel.nil | exact Del.here | apply Del.there | apply Sel.cons | apply Sel.drop)))) | exact RdL.nil _ _ _) (by omega) rfl rfl ?_
              refine WL.call Try.call14 rfl (Lent_ok (hin.2.2.mem M) (by omega)) rfl ?_
              rintro _ w ⟨gb, sp, rfl, m⟩
              replace M := M.call1 m; clear m
              refine WL.fieldR (off := 3) Try.underlying36 rfl rfl Try.sizeOf34 rfl rfl rfl ?_
              refine WL.storeR Try.sizeOf34 rfl rfl rfl M (by first | ((repeat (first | with_reducible exact Has.here | with_reducible refine Has.there ?_)); done) | (repeat (first | exact Has.here | refine Has.there ?_))) (by repeat (first | exact SetAt.zero | apply SetAt.succ)) (by first | ((repeat (first | with_reducible exact Upd.here | with_reducible apply Upd.there)); done) | (repeat (first | exact Upd.here | apply Upd.there))) ?_
              intro w M
              refine WL.nil ?_
              refine WX.next ?_
              refine W.sub [(1, _), (5, _), (7, _), (8, _), (9, _)] (.cons rfl (.cons rfl (.cons rfl (.cons rfl (.cons rfl .nil))))) ?_
              refine W.seq ?_
              refine W.region ?_
              refine WL.move rfl rfl ?_
              refine WL.loadW Try.isAgg36 Try.sizeOf36 rfl M (by first | ((repeat (first | with_reducible exact Has.here | with_reducible refine Has.there ?_)); done) | (repeat (first | exact Has.here | refine Has.there ?_))) rfl rfl ?_
              refine WL.call Try.call33 rfl (HearR2 gr gm1 ms r hms hrk ⟨(el l0 i).life, (el l0 i).seq, (el l0 i).ack, ⟨some ⟨gb, 0, none⟩, (bs ((el l0 i).x.l ++ [91, 92]) ++ sp).length, (el l0 i).x.l⟩⟩ hin.1 hin.2.1 _ _ _ _ M (by first | ((repeat (first | with_reducible exact Del.here | with_reducible apply Del.there)); done) | (repeat (first | exact Del.here | apply Del.there))) (by intro w M; exact (by first | first | with_reducible assumption | with_reducible exact RdB.mem (by with_reducible assumption) M | exact M.rdB (by first | ((repeat (first | with_reducible exact Has.here | with_reducible refine Has.there ?_)); done) | (repeat (first | exact Has.here | refine Has.there ?_))) | exact RdH.at (by assumption) (M.sel (by first | ((repeat (first | with_reducible exact Sel.refl | with_reducible exact Sel.nil | with_reducible exact Del.here | with_reducible apply Del.there | with_reducible apply Sel.cons | with_reducible apply Sel.drop)); done) | (repeat (first | exact Sel.refl | exact Sel.nil | exact Del.here | apply Del.there | apply Sel.cons | apply Sel.drop)))) | exact M.rdLit' (by first | ((repeat (first | with_reducible exact Has.here | with_reducible refine Has.there ?_)); done) | (repeat (first | exact Has.here | refine Has.there ?_))) | exact M.rdLent (by first | ((repeat (first | with_reducible exact Has.here | with_reducible refine Has.there ?_)); done) | (repeat (first | exact Has.here | refine Has.there ?_))) | exact RdB.nil _ _ | exact RdB.sub (by first | with_reducible assumption | with_reducible exact RdB.mem (by with_reducible assumption) M | exact M.rdB (by first | ((repeat (first | with_reducible exact Has.here | with_reducible refine Has.there ?_)); done) | (repeat (first | exact Has.here | refine Has.there ?_))) | exact RdH.at (by assumption) (M.sel (by first | ((repeat (first | with_reducible exact Sel.refl | with_reducible exact Sel.nil | with_reducible exact Del.here | with_reducible apply Del.there | with_reducible apply Sel.cons | with_reducible apply Sel.drop)); done) | (repeat (first | exact Sel.refl | exact Sel.nil | exact Del.here | apply Del.there | apply Sel.cons | apply Sel.drop)))) | exact M.rdLit' (by first | ((repeat (first | with_reducible exact Has.here | with_reducible refine Has.there ?_)); done) | (repeat (first | exact Has.here | refine Has.there ?_))) | exact M.rdLent (by first | ((repeat (first | with_reducible exact Has.here | with_reducible refine Has.there ?_)); done) | (repeat (first | exact Has.here | refine Has.there ?_))) | exact RdB.nil _ _) (by omega) (by omega) | exact RdB.pre' (by first | with_reducible assumption | with_reducible exact RdB.mem (by with_reducible assumption) M | exact M.rdB (by first | ((repeat (first | with_reducible exact Has.here | with_reducible refine Has.there ?_)); done) | (repeat (first | exact Has.here | refine Has.there ?_))) | exact RdH.at (by assumption) (M.sel (by first | ((repeat (first | with_reducible exact Sel.refl | with_reducible exact Sel.nil | with_reducible exact Del.here | with_reducible apply Del.there | with_reducible apply Sel.cons | with_reducible apply Sel.drop)); done) | (repeat (first | exact Sel.refl | exact Sel.nil | exact Del.here | apply Del.there | apply Sel.cons | apply Sel.drop)))) | exact M.rdLit' (by first | ((repeat (first | with_reducible exact Has.here | with_reducible refine Has.there ?_)); done) | (repeat (first | exact Has.here | refine Has.there ?_))) | exact M.rdLent (by first | ((repeat (first | with_reducible exact Has.here | with_reducible refine Has.there ?_)); done) | (repeat (first | exact Has.here | refine Has.there ?_))) | exact RdB.nil _ _) (by omega) | exact RdB.suf (by first | with_reducible assumption | with_reducible exact RdB.mem (by with_reducible assumption) M | exact M.rdB (by first | ((repeat (first | with_reducible exact Has.here | with_reducible refine Has.there ?_)); done) | (repeat (first | exact Has.here | refine Has.there ?_))) | exact RdH.at (by assumption) (M.sel (by first | ((repeat (first | with_reducible exact Sel.refl | with_reducible exact Sel.nil | with_reducible exact Del.here | with_reducible apply Del.there | with_reducible apply Sel.cons | with_reducible apply Sel.drop)); done) | (repeat (first | exact Sel.refl | exact Sel.nil | exact Del.here | apply Del.there | apply Sel.cons | apply Sel.drop)))) | exact M.rdLit' (by first | ((repeat (first | with_reducible exact Has.here | with_reducible refine Has.there ?_)); done) | (repeat (first | exact Has.here | refine Has.there ?_))) | exact M.rdLent (by first | ((repeat (first | with_reducible exact Has.here | with_reducible refine Has.there ?_)); done) | (repeat (first | exact Has.here | refine Has.there ?_))) | exact RdB.nil _ _) (by omega)))) rfl ?_
              rintro _ w ⟨gm2, ms2, A1, k1, outs, rfl, hms2, houts, hob, M⟩
              rw [show SX.key ⟨(el l0 i).life, (el l0 i).seq, (el l0 i).ack, ⟨some ⟨gb, 0, none⟩, (bs ((el l0 i).x.l ++ [91, 92]) ++ sp).length, (el l0 i).x.l⟩⟩ = (el l0 i).key from rfl] at hms2 houts M ⊢
              have hol := congrArg List.length houts
              rw [List.length_map] at hol
              have hol2 := rhO_len r (el l0 i).key
              refine WL.move rfl rfl ?_
              refine WL.extractL rfl rfl rfl ?_
              refine WL.extractL rfl rfl rfl ?_
              refine WL.extractL rfl rfl rfl ?_
              refine WL.alloc Try.zeroValue36 M rfl ?_
              intro g14_7 w M
              try simp only [Value.cells] at M
              try simp only [List.toList_toArray] at M
              refine WL.assign rfl rfl ?_
              refine WL.storeWA Try.sizeOf36 rfl rfl (by repeat (first | exact oneNil | refine oneCons rfl ?_)) rfl rfl M (by first | ((repeat (first | with_reducible exact Upd.here | with_reducible apply Upd.there)); done) | (repeat (first | exact Upd.here | apply Upd.there))) ?_
              intro w M
              refine WL.assign rfl rfl ?_
              refine WL.nil ?_
              refine WX.next ?_
              refine W.sub [(1, _), (5, _), (7, _), (8, _), (9, _), (10, _), (11, _), (12, _)] (.cons rfl (.cons rfl (.cons rfl (.cons rfl (.cons rfl (.cons rfl (.cons rfl (.cons rfl .nil)))))))) ?_
              refine W.seq ?_
              refine W.region ?_
              refine WL.move rfl rfl ?_
              refine WL.move rfl rfl ?_
              refine WL.move rfl rfl ?_
              refine WL.idxA Try.underlying45 Try.sizeOf36 rfl rfl (RdL.isSome (E := segE) (by first | with_reducible assumption | with_reducible exact RdL.mem (by with_reducible assumption) M | exact M.rdL (by first | ((repeat (first | with_reducible exact Has.here | with_reducible refine Has.there ?_)); done) | (repeat (first | exact Has.here | refine Has.there ?_))) | exact RdLH.at (by assumption) (M.sel (by first | ((repeat (first | with_reducible exact Sel.refl | with_reducible exact Sel.nil | with_reducible exact Del.here | with_reducible apply Del.there | with_reducible apply Sel.cons | with_reducible apply Sel.drop)); done) | (repeat (first | exact Sel.refl | exact Sel.nil | exact Del.here | apply Del.there | apply Sel.cons | apply Sel.drop)))) | exact RdL.nil _ _ _) (by omega)) (by omega) (by omega) (by first | exact rfl | exact (Int.toNat_of_nonneg (by omega)).symm) rfl ?_
              refine WL.loadL (E := segE) (cs := [_, _, _, _]) Try.isAgg36 Try.sizeOf36 rfl (by first | with_reducible assumption | with_reducible exact RdL.mem (by with_reducible assumption) M | exact M.rdL (by first | ((repeat (first | with_reducible exact Has.here | with_reducible refine Has.there ?_)); done) | (repeat (first | exact Has.here | refine Has.there ?_))) | exact RdLH.at (by assumption) (M.sel (by first | ((repeat (first | with_reducible exact Sel.refl | with_reducible exact Sel.nil | with_reducible exact Del.here | with_reducible apply Del.there | with_reducible apply Sel.cons | with_reducible apply Sel.drop)); done) | (repeat (first | exact Sel.refl | exact Sel.nil | exact Del.here | apply Del.there | apply Sel.cons | apply Sel.drop)))) | exact RdL.nil _ _ _) rfl (by omega) rfl rfl ?_
              refine WL.call Try.call34 rfl (refHearR2 g6_2 B cB ls r hrr hrk (by omega) (el l0 i) hin.1 hin.2.1 _ _ _ _ M (by first | ((repeat (first | with_reducible exact Del.here | with_reducible apply Del.there)); done) | (repeat (first | exact Del.here | apply Del.there))) (by intro w M; exact hin.2.2.mem M)) rfl ?_
              rintro _ w ⟨B2, cB2, ls2, A2, k2, outs2, rfl, hrr2, hls2, houts2, hoo2, M⟩
              refine WL.move rfl rfl ?_
              refine WL.extractL rfl rfl rfl ?_
              refine WL.extractL rfl rfl rfl ?_
              refine WL.extractL rfl rfl rfl ?_
              refine WL.alloc Try.zeroValue36 M rfl ?_
              intro g15_10 w M
              try simp only [Value.cells] at M
              try simp only [List.toList_toArray] at M
              refine WL.assign rfl rfl ?_
              refine WL.storeWA Try.sizeOf36 rfl rfl (by repeat (first | exact oneNil | refine oneCons rfl ?_)) rfl rfl M (by first | ((repeat (first | with_reducible exact Upd.here | with_reducible apply Upd.there)); done) | (repeat (first | exact Upd.here | apply Upd.there))) ?_
              intro w M
              refine WL.assign rfl rfl ?_
              refine WL.nil ?_
              refine WX.next ?_
              refine W.sub [(1, _), (5, _), (7, _), (8, _), (9, _), (10, _), (11, _), (12, _), (13, _), (14, _), (15, _)] (.cons rfl (.cons rfl (.cons rfl (.cons rfl (.cons rfl (.cons rfl (.cons rfl (.cons rfl (.cons rfl (.cons rfl (.cons rfl .nil))))))))))) ?_
              refine W.seq ?_
              refine W.drawM (_) (by kernel_rfl) (fun j => [1, 6].contains j) M Sel.refl ?_
              clear M; intro M
              apply DG.pure_ [0, 2, 3, 4, 5] 4 rfl (by kernel_rfl) (by kernel_rfl)
              · intro w
                refine WL.fieldR (off := 3) Try.underlying36 rfl rfl Try.sizeOf34 rfl rfl rfl ?_
                refine WL.move rfl rfl ?_
                refine WL.move rfl rfl ?_
                refine WL.idxA Try.underlying45 Try.sizeOf36 rfl rfl (RdL.isSome (E := segE) (by first | with_reducible assumption | with_reducible exact RdL.mem (by with_reducible assumption) M | exact M.rdL (by first | ((repeat (first | with_reducible exact Has.here | with_reducible refine Has.there ?_)); done) | (repeat (first | exact Has.here | refine Has.there ?_))) | exact RdLH.at (by assumption) (M.sel (by first | ((repeat (first | with_reducible exact Sel.refl | with_reducible exact Sel.nil | with_reducible exact Del.here | with_reducible apply Del.there | with_reducible apply Sel.cons | with_reducible apply Sel.drop)); done) | (repeat (first | exact Sel.refl | exact Sel.nil | exact Del.here | apply Del.there | apply Sel.cons | apply Sel.drop)))) | exact RdL.nil _ _ _) (by omega)) (by omega) (by omega) (by first | exact rfl | exact (Int.toNat_of_nonneg (by omega)).symm) rfl ?_
                refine WL.fieldA (off := 3) Try.underlying36 rfl rfl Try.sizeOf34 rfl rfl rfl ?_
                exact Chain.end_ rfl
              apply DG.take [1, 6] 2 rfl (by kernel_rfl) (by kernel_rfl) (M.sel (by first | ((repeat (first | with_reducible exact Sel.refl | with_reducible exact Sel.nil | with_reducible exact Del.here | with_reducible apply Del.there | with_reducible apply Sel.cons | with_reducible apply Sel.drop)); done) | (repeat (first | exact Sel.refl | exact Sel.nil | exact Del.here | apply Del.there | apply Sel.cons | apply Sel.drop))))
              · intro w M
                refine WL.loadR Try.isAgg34 rfl M (by first | ((repeat (first | with_reducible exact Has.here | with_reducible refine Has.there ?_)); done) | (repeat (first | exact Has.here | refine Has.there ?_))) rfl rfl ?_
                refine WL.loadE (E := segE) Try.isAgg34 rfl (by first | with_reducible assumption | with_reducible exact RdL.mem (by with_reducible assumption) M | exact M.rdL (by first | ((repeat (first | with_reducible exact Has.here | with_reducible refine Has.there ?_)); done) | (repeat (first | exact Has.here | refine Has.there ?_))) | exact RdLH.at (by assumption) (M.sel (by first | ((repeat (first | with_reducible exact Sel.refl | with_reducible exact Sel.nil | with_reducible exact Del.here | with_reducible apply Del.there | with_reducible apply Sel.cons | with_reducible apply Sel.drop)); done) | (repeat (first | exact Sel.refl | exact Sel.nil | exact Del.here | apply Del.there | apply Sel.cons | apply Sel.drop)))) | exact RdL.nil _ _ _) (by omega) rfl rfl ?_
                exact Chain.end_ rfl
              refine DG.step 7 1 rfl (by kernel_rfl) ?_
              refine WL.call Try.call17 rfl (Whole2 M (by first | ((repeat (first | with_reducible exact Has.here | with_reducible refine Has.there ?_)); done) | (repeat (first | exact Has.here | refine Has.there ?_))) (hin.2.2.mem M) (by omega)) rfl ?_
              rintro _ _ ⟨rfl, rfl⟩
              refine DG.go (G := fun j => [1, 6].contains j) (i := 7) (f' := 1) (done := [0, 2, 3, 4, 5, 1, 6]) (fun h => by cases h) ?_
              apply DG.pure_ [8] 0 rfl (by kernel_rfl) (by kernel_rfl)
              · intro w
                refine WL.assign rfl rfl ?_
                exact Chain.end_ rfl
              refine DG.end_ (by kernel_rfl) ?_
              refine WX.next ?_
              refine W.sub [(1, _), (5, _), (7, _), (8, _), (9, _), (10, _), (11, _), (12, _), (13, _), (14, _), (15, _), (16, _)] (.cons rfl (.cons rfl (.cons rfl (.cons rfl (.cons rfl (.cons rfl (.cons rfl (.cons rfl (.cons rfl (.cons rfl (.cons rfl (.cons rfl .nil)))))))))))) ?_
              refine W.seq ?_
              refine W.region ?_
              refine WL.fieldR (off := 3) Try.underlying36 rfl rfl Try.sizeOf34 rfl rfl rfl ?_
              refine WL.loadR Try.isAgg34 rfl M (by first | ((repeat (first | with_reducible exact Has.here | with_reducible refine Has.there ?_)); done) | (repeat (first | exact Has.here | refine Has.there ?_))) rfl rfl ?_
              refine WL.call Try.call18 rfl (Spoil2 M (by first | ((repeat (first | with_reducible exact Del.here | with_reducible apply Del.there)); done) | (repeat (first | exact Del.here | apply Del.there))) (by omega)) rfl ?_
              rintro _ w M
              refine WL.nil ?_
              refine WX.next ?_
              refine W.sub [(1, _), (5, _), (7, _), (8, _), (10, _), (11, _), (12, _), (13, _), (14, _), (15, _), (16, _)] (.cons rfl (.cons rfl (.cons rfl (.cons rfl (.cons rfl (.cons rfl (.cons rfl (.cons rfl (.cons rfl (.cons rfl (.cons rfl .nil))))))))))) ?_
              refine W.seq ?_
              refine W.region ?_
              refine WL.move rfl rfl ?_
              refine WL.call Try.call35 rfl (Got_ok (RcX.of gr gm2 ms2 (rhS r (el l0 i).key)) _ _ _ _ M (by first | ((repeat (first | with_reducible exact Del.here | with_reducible apply Del.there)); done) | (repeat (first | exact Del.here | apply Del.there)))) rfl ?_
              rintro _ w ⟨rfl, M⟩
              refine WL.move rfl rfl ?_
              refine WL.extractL rfl rfl rfl ?_
              refine WL.extractL rfl rfl rfl ?_
              refine WL.assign rfl rfl ?_
              refine WL.assign rfl rfl ?_
              refine WL.nil ?_
              refine WX.next ?_
              refine W.sub [(1, _), (5, _), (7, _), (8, _), (10, _), (11, _), (12, _), (13, _), (14, _), (15, _), (16, _), (17, _), (18, _)] (.cons rfl (.cons rfl (.cons rfl (.cons rfl (.cons rfl (.cons rfl (.cons rfl (.cons rfl (.cons rfl (.cons rfl (.cons rfl (.cons rfl (.cons rfl .nil))))))))))))) ?_
              refine W.seq ?_
              refine W.seq ?_
              have b1 : ∀ o ∈ outs, RdB w o.A o.cap o.l := fun o h => ownRd (M.starHas (f := OX.O) (by first | ((repeat (first | with_reducible exact Has.here | with_reducible refine Has.there ?_)); done) | (repeat (first | exact Has.here | refine Has.there ?_))) h)
              have b2 : ∀ o ∈ outs2, RdB w o.A o.cap o.l := fun o h => by
                obtain ⟨e, he, rfl⟩ := hoo2 o h
                exact ownRd (((M.del (A := (RrX.of g6_2 B2 cB2 ls2 (rhS r (el l0 i).key)).O) (by first | ((repeat (first | with_reducible exact Del.here | with_reducible apply Del.there)); done) | (repeat (first | exact Del.here | apply Del.there)))).unstar3).starHas (f := EX.O) (by first | ((repeat (first | with_reducible exact Has.here | with_reducible refine Has.there ?_)); done) | (repeat (first | exact Has.here | refine Has.there ?_))) he)
              replace M := (M.del (A := (RrX.of g6_2 B2 cB2 ls2 (rhS r (el l0 i).key)).O) (by first | ((repeat (first | with_reducible exact Del.here | with_reducible apply Del.there)); done) | (repeat (first | exact Del.here | apply Del.there)))).unstar3
              unfold RrX.row at M
              dsimp only [RrX.of] at M
              refine W.region ?_
              refine WL.move rfl rfl ?_
              refine WL.move rfl rfl ?_
              refine WL.call Try.call31 rfl (SameLists_ok (by first | with_reducible assumption | with_reducible exact RdL.mem (by with_reducible assumption) M | exact M.rdL (by first | ((repeat (first | with_reducible exact Has.here | with_reducible refine Has.there ?_)); done) | (repeat (first | exact Has.here | refine Has.there ?_))) | exact RdLH.at (by assumption) (M.sel (by first | ((repeat (first | with_reducible exact Sel.refl | with_reducible exact Sel.nil | with_reducible exact Del.here | with_reducible apply Del.there | with_reducible apply Sel.cons | with_reducible apply Sel.drop)); done) | (repeat (first | exact Sel.refl | exact Sel.nil | exact Del.here | apply Del.there | apply Sel.cons | apply Sel.drop)))) | exact RdL.nil _ _ _) (by first | with_reducible assumption | with_reducible exact RdL.mem (by with_reducible assumption) M | exact M.rdL (by first | ((repeat (first | with_reducible exact Has.here | with_reducible refine Has.there ?_)); done) | (repeat (first | exact Has.here | refine Has.there ?_))) | exact RdLH.at (by assumption) (M.sel (by first | ((repeat (first | with_reducible exact Sel.refl | with_reducible exact Sel.nil | with_reducible exact Del.here | with_reducible apply Del.there | with_reducible apply Sel.cons | with_reducible apply Sel.drop)); done) | (repeat (first | exact Sel.refl | exact Sel.nil | exact Del.here | apply Del.there | apply Sel.cons | apply Sel.drop)))) | exact RdL.nil _ _ _) b1 b2 (by omega)) rfl ?_
              rintro _ w ⟨rfl, m⟩
              replace M := M.call0 m; clear m
              rw [decide_eq_true (houts.trans houts2.symm)]
              refine WL.not rfl rfl ?_
              refine WL.moveIfB rfl rfl (fun c9 => ?_) (fun c9 => ?_)
              · exact absurd c9 (by decide)
              · refine WL.on rfl rfl ?_
                refine WL.loadW Try.isAgg36 Try.sizeOf36 rfl M (by first | ((repeat (first | with_reducible exact Has.here | with_reducible refine Has.there ?_)); done) | (repeat (first | exact Has.here | refine Has.there ?_))) rfl rfl ?_
                refine WL.on rfl rfl ?_
                refine WL.loadW Try.isAgg36 Try.sizeOf36 rfl M (by first | ((repeat (first | with_reducible exact Has.here | with_reducible refine Has.there ?_)); done) | (repeat (first | exact Has.here | refine Has.there ?_))) rfl rfl ?_
                refine WL.on rfl rfl ?_
                refine WL.call Try.call36 rfl (Same7_ok ⟨(rhA r (el l0 i).key).1, (rhA r (el l0 i).key).2.1, (rhA r (el l0 i).key).2.2.1, ⟨none, 0, []⟩⟩ ⟨(rhA r (el l0 i).key).1, (rhA r (el l0 i).key).2.1, (rhA r (el l0 i).key).2.2.1, ⟨none, 0, []⟩⟩ _ (RdB.nil _ _) (RdB.nil _ _)) rfl ?_
                rintro _ w ⟨rfl, m⟩
                replace M := M.call0 m; clear m
                rw [decide_eq_true rfl]
                refine WL.on rfl rfl ?_
                refine WL.not rfl rfl ?_
                refine WL.pickF rfl rfl rfl ?_
                refine WL.moveIfB rfl rfl (fun c10 => ?_) (fun c10 => ?_)
                · exact absurd c10 (by decide)
                · refine WL.on rfl rfl ?_
                  refine WL.move rfl rfl ?_
                  refine WL.on rfl rfl ?_
                  refine WL.move rfl rfl ?_
                  refine WL.on rfl rfl ?_
                  refine WL.neI rfl rfl rfl ?_
                  refine WL.pickF rfl rfl rfl ?_
                  refine WL.moveIf rfl rfl (fun c11 => ?_) (fun c11 => ?_)
                  · exact absurd rfl c11
                  · refine WL.on rfl rfl ?_
                    refine WL.move rfl rfl ?_
                    refine WL.on rfl rfl ?_
                    refine WL.notP rfl rfl ?_
                    refine WL.pickF rfl rfl rfl ?_
                    refine WL.moveIf rfl rfl (fun c12 => ?_) (fun c12 => ?_)
                    · exact absurd c12 (by decide)
                    · refine WL.on rfl rfl ?_
                      refine WL.move rfl rfl ?_
                      refine WL.on rfl rfl ?_
                      refine WL.move rfl rfl ?_
                      refine WL.on rfl rfl ?_
                      refine WL.nilCheck rfl rfl ?_
                      refine WL.on rfl rfl ?_
                      refine WL.fieldR (off := 1) Try.underlying70 rfl rfl Try.sizeOf22 rfl rfl rfl ?_
                      refine WL.on rfl rfl ?_
                      refine WL.loadR Try.isAgg22 rfl M (by first | ((repeat (first | with_reducible exact Has.here | with_reducible refine Has.there ?_)); done) | (repeat (first | exact Has.here | refine Has.there ?_))) rfl rfl ?_
                      refine WL.on rfl rfl ?_
                      refine WL.neI rfl rfl rfl ?_
                      refine WL.pickF rfl rfl rfl ?_
                      refine WL.moveIf rfl rfl (fun c13 => ?_) (fun c13 => ?_)
                      · exact absurd rfl c13
                      · refine WL.on rfl rfl ?_
                        refine WL.move rfl rfl ?_
                        refine WL.on rfl rfl ?_
                        refine WL.move rfl rfl ?_
                        refine WL.on rfl rfl ?_
                        refine WL.nilCheck rfl rfl ?_
                        refine WL.on rfl rfl ?_
                        refine WL.fieldR (off := 2) Try.underlying70 rfl rfl Try.sizeOf22 rfl rfl rfl ?_
                        refine WL.on rfl rfl ?_
                        refine WL.loadR Try.isAgg22 rfl M (by first | ((repeat (first | with_reducible exact Has.here | with_reducible refine Has.there ?_)); done) | (repeat (first | exact Has.here | refine Has.there ?_))) rfl rfl ?_
                        refine WL.on rfl rfl ?_
                        refine WL.neI rfl rfl rfl ?_
                        refine WL.pickF rfl rfl rfl ?_
                        refine WL.nil ?_
                        refine WX.next ?_
                        refine W.sub [(1, _), (5, _), (7, _), (8, _), (10, _), (143, _)] (.cons rfl (.cons rfl (.cons rfl (.cons rfl (.cons rfl (.cons rfl .nil)))))) ?_
                        refine W.ite rfl (fun c14 => ?_) (fun c14 => ?_)
                        · exact absurd rfl c14
                        · refine W.skip ?_
                          refine WX.next ?_
                          refine W.seq ?_
                          refine W.region ?_
                          refine WL.move rfl rfl ?_
                          refine WL.call Try.call25 rfl (Own2 M (by first | ((repeat (first | with_reducible exact Del.here | with_reducible apply Del.there)); done) | (repeat (first | exact Del.here | apply Del.there))) (by first | ((repeat (first | with_reducible exact Del.here | with_reducible apply Del.there)); done) | (repeat (first | exact Del.here | apply Del.there))) (by omega) (fun o h => by have := hob o h; omega)) rfl ?_
                          rintro _ w ⟨rfl, M⟩
                          refine WL.assign rfl rfl ?_
                          refine WL.nil ?_
                          refine WX.next ?_
                          refine W.sub [(1, _), (5, _), (7, _), (8, _), (19, _)] (.cons rfl (.cons rfl (.cons rfl (.cons rfl (.cons rfl .nil))))) ?_
                          refine W.seq ?_
                          refine W.region ?_
                          refine WL.move rfl rfl ?_
                          refine WL.notP rfl rfl ?_
                          refine WL.nil ?_
                          refine WX.next ?_
                          refine W.sub [(1, _), (5, _), (7, _), (8, _), (147, _)] (.cons rfl (.cons rfl (.cons rfl (.cons rfl (.cons rfl .nil))))) ?_
                          refine W.ite rfl (fun c15 => ?_) (fun c15 => ?_)
                          · exact absurd c15 (by decide)
                          · refine W.skip ?_
                            refine WX.blockNormal ?_
                            refine WX.next ?_
                            refine W.region ?_
                            refine WL.move rfl rfl ?_
                            refine WL.add rfl rfl (by first | exact wI64 (by omega) | rfl) rfl ?_
                            refine WL.assign rfl rfl ?_
                            refine WL.nil ?_
                            skip
                            obtain ⟨n1, n2, n3⟩ := rhS_ok hrk (s := (el l0 i).key) hin.1 (by omega)
                            replace M := Mem.f1 (Mem.star3 (M.sel (K := Asr.row g6_2 70 [.int .i64 ((rhS r (el l0 i).key).window : Int), .int .u64 ((rhS r (el l0 i).key).life : Int), .int .u64 ((rhS r (el l0 i).key).got : Int), .slice B2 ls2.length cB2] :: Asr.lst rearlyE B2 cB2 ls2 :: Asr.star (ls2.map EX.O) :: [(RcX.of gr gm2 ms2 (rhS r (el l0 i).key)).O]) (by first | ((repeat (first | with_reducible exact Sel.refl | with_reducible exact Sel.nil | with_reducible exact Del.here | with_reducible apply Del.there | with_reducible apply Sel.cons | with_reducible apply Sel.drop)); done) | (repeat (first | exact Sel.refl | exact Sel.nil | exact Del.here | apply Del.there | apply Sel.cons | apply Sel.drop)))))
                            refine WX.round (((i + 1, rhS r (el l0 i).key, gm2, ms2), (B2, cB2, ls2))) (by (repeat' (first | exact envSub.nil | refine envSub.cons ?_ ?_)) <;> first | rfl | (refine congrArg some ?_; refine congrArg (Value.int _) ?_; first | omega | (dsimp only; omega)) | (simp; done) | (refine congrArg some ?_; dsimp only; congr 1; omega) | (simp; omega)) ⟨M.sel (by first | ((repeat (first | with_reducible exact Sel.refl | with_reducible exact Sel.nil | with_reducible exact Del.here | with_reducible apply Del.there | with_reducible apply Sel.cons | with_reducible apply Sel.drop)); done) | (repeat (first | exact Sel.refl | exact Sel.nil | exact Del.here | apply Del.there | apply Sel.cons | apply Sel.drop))), ⟨by dsimp only; omega, hms2, n1, hrr2, by dsimp only; omega, by dsimp only; omega⟩⟩ (by first | omega | (dsimp only; omega))
          · refine W.exit ?_
            refine WX.thenExit ?_
            refine WX.thenExit ?_
            refine WX.blockHere ?_
            refine WX.next ?_
            refine W.seq ?_
            refine W.region ?_
            refine WL.call Try.call12 rfl (known7_ok _) rfl ?_
            rintro _ w ⟨rfl, m⟩
            replace M := M.call0 m; clear m
            refine WL.assign rfl rfl ?_
            refine WL.nil ?_
            refine WX.next ?_
            refine W.sub [(4, _)] (.cons rfl .nil) ?_
            refine W.ret ?_
            refine WX.ret1 rfl rfl ?_
            exact ⟨rfl, M.sel (by first | ((repeat (first | with_reducible exact Sel.refl | with_reducible exact Sel.nil | with_reducible exact Del.here | with_reducible apply Del.there | with_reducible apply Sel.cons | with_reducible apply Sel.drop)); done) | (repeat (first | exact Sel.refl | exact Sel.nil | exact Del.here | apply Del.there | apply Sel.cons | apply Sel.drop)))⟩
        · refine WL.off rfl rfl rfl rfl ?_
          refine WL.off rfl rfl rfl rfl ?_
          refine WL.pickF rfl rfl rfl ?_
          refine WL.nil ?_
          refine WX.next ?_
          refine W.sub [(1, _), (5, _), (7, _), (8, _), (56, _)] (.cons rfl (.cons rfl (.cons rfl (.cons rfl (.cons rfl .nil))))) ?_
          refine W.condF rfl ?_
          refine W.exit ?_
          refine WX.thenExit ?_
          refine WX.thenExit ?_
          refine WX.blockHere ?_
          refine WX.next ?_
          refine W.seq ?_
          refine W.region ?_
          refine WL.call Try.call12 rfl (known7_ok _) rfl ?_
          rintro _ w ⟨rfl, m⟩
          replace M := M.call0 m; clear m
          refine WL.assign rfl rfl ?_
          refine WL.nil ?_
          refine WX.next ?_
          refine W.sub [(4, _)] (.cons rfl .nil) ?_
          refine W.ret ?_
          refine WX.ret1 rfl rfl ?_
          exact ⟨rfl, M.sel (by first | ((repeat (first | with_reducible exact Sel.refl | with_reducible exact Sel.nil | with_reducible exact Del.here | with_reducible apply Del.there | with_reducible apply Sel.cons | with_reducible apply Sel.drop)); done) | (repeat (first | exact Sel.refl | exact Sel.nil | exact Del.here | apply Del.there | apply Sel.cons | apply Sel.drop)))⟩
end Go.Proofs.Ytgaegaaaoopolaa
