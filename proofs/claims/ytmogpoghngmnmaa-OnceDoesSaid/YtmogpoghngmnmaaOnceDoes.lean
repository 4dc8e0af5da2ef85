/-
  Walk: whatever clients begin and end, and whenever the table is saved and loaded (seawalllaw13.OnceDoes).
-/
import Derived.Test.YtmogpoghngmnmaaOnceLoads
namespace Go.Proofs.Ytmogpoghngmnmaa
open Go Go.RowKit Bin

theorem begR_len {t : Tb} (h : t.ok) (id num : Nat) : (begR t id num).length ≤ 200 := by
  unfold begR
  split
  · rename_i hk
    exact (h.each _ (el_mem (begK_mid (.inr hk)).1)).rep
  · simp
set_option maxRecDepth 10000 in
set_option maxHeartbeats 4000000 in
theorem DoesBad_ok (z : Int) (hz : z < 1 ∨ 64 < z) (A1 : Option Addr) (q1 : Nat) (l : List AcX) (w0 : World) (h1 : RdL w0 actE A1 q1 l) (hm1 : q1 ≤ maxLen) :
    Fn Try.prog 7 [.int .i64 z, .slice A1 l.length q1] w0 fun v w' => v = .bool true ∧ Mem w0 w' [] := by
  have M := Mem.refl w0
  obtain ⟨w, hw⟩ : ∃ w, w = w0 := ⟨w0, rfl⟩
  refine Fn.enter Try.func7 rfl Try.ntmps7 rfl ?_
  refine W.sub [(0, _), (1, _)] (.cons rfl (.cons rfl .nil)) ?_
  refine W.seq ?_
  refine W.region ?_
  refine WL.assign rfl rfl ?_
  refine WL.nil ?_
  refine WX.next ?_
  refine W.sub [(0, _), (1, _)] (.cons rfl (.cons rfl .nil)) ?_
  refine W.seq ?_
  refine W.seq ?_
  refine W.region ?_
  refine WL.move rfl rfl ?_
  refine WL.call Try.call9 rfl (long_ok (by first | with_reducible assumption | with_reducible exact RdL.mem (by with_reducible assumption) M | exact M.rdL (by first | ((repeat (first | with_reducible exact Has.here | with_reducible refine Has.there ?_)); done) | (repeat (first | exact Has.here | refine Has.there ?_))) | exact RdLH.at (by assumption) (M.sel (by first | ((repeat (first | with_reducible exact Sel.refl | with_reducible exact Sel.nil | with_reducible exact Del.here | with_reducible apply Del.there | with_reducible apply Sel.cons | with_reducible apply Sel.drop)); done) | (repeat (first | exact Sel.refl | exact Sel.nil | exact Del.here | apply Del.there | apply Sel.cons | apply Sel.drop)))) | exact RdL.nil _ _ _) hm1) rfl ?_
  rintro _ w ⟨rfl, m⟩
  replace M := M.call0 m; clear m
  refine WL.nil ?_
  refine WX.next ?_
  refine W.sub [(0, _), (1, _), (27, _)] (.cons rfl (.cons rfl (.cons rfl .nil))) ?_
  refine W.cond rfl (fun c0 => ?_) (fun c0 => ?_)
  · (try simp only [Bool.not_eq_true'] at c0); (try simp only [Bool.not_eq_false'] at c0); (try simp only [decide_eq_true_eq] at c0); (try simp only [decide_eq_false_iff_not] at c0)
    refine W.seq ?_
    refine W.region ?_
    refine WL.call Try.call10 rfl (known13_ok _) rfl ?_
    rintro _ w ⟨rfl, m⟩
    replace M := M.call0 m; clear m
    refine WL.assign rfl rfl ?_
    refine WL.nil ?_
    refine WX.next ?_
    refine W.sub [(4, _)] (.cons rfl .nil) ?_
    refine W.ret ?_
    refine WX.thenRet ?_
    refine WX.ret1 rfl rfl ?_
    exact ⟨rfl, M⟩
  · (try simp only [Bool.not_eq_true'] at c0); (try simp only [Bool.not_eq_false'] at c0); (try simp only [decide_eq_true_eq] at c0); (try simp only [decide_eq_false_iff_not] at c0)
    refine W.skip ?_
    refine WX.next ?_
    refine W.seq ?_
    refine W.region ?_
    refine WL.move rfl rfl ?_
    refine WL.call Try.call11 rfl (onceNewBad_ok z hz _) rfl ?_
    rintro _ w ⟨rfl, m⟩
    replace M := M.call0 m; clear m
    refine WL.move rfl rfl ?_
    refine WL.extractL rfl rfl rfl ?_
    refine WL.extractL rfl rfl rfl ?_
    refine WL.assign rfl rfl ?_
    refine WL.assign rfl rfl ?_
    refine WL.nil ?_
    refine WX.next ?_
    refine W.sub [(0, _), (1, _), (5, _), (6, _)] (.cons rfl (.cons rfl (.cons rfl (.cons rfl .nil)))) ?_
    refine W.seq ?_
    refine W.region ?_
    refine WL.move rfl rfl ?_
    refine WL.call Try.call22 rfl (refNewBad_ok z hz _) rfl ?_
    rintro _ w ⟨rfl, m⟩
    replace M := M.call0 m; clear m
    refine WL.move rfl rfl ?_
    refine WL.extractL rfl rfl rfl ?_
    refine WL.extractL rfl rfl rfl ?_
    refine WL.assign rfl rfl ?_
    refine WL.assign rfl rfl ?_
    refine WL.nil ?_
    refine WX.next ?_
    refine W.sub [(1, _), (5, _), (6, _), (7, _), (8, _)] (.cons rfl (.cons rfl (.cons rfl (.cons rfl (.cons rfl .nil))))) ?_
    refine W.seq ?_
    refine W.seq ?_
    refine W.region ?_
    refine WL.move rfl rfl ?_
    refine WL.neI rfl rfl rfl ?_
    refine WL.nil ?_
    refine WX.next ?_
    refine W.sub [(1, _), (5, _), (6, _), (7, _), (8, _), (40, _)] (.cons rfl (.cons rfl (.cons rfl (.cons rfl (.cons rfl (.cons rfl .nil)))))) ?_
    refine W.ite rfl (fun c1 => ?_) (fun c1 => ?_)
    · refine W.seq ?_
      refine W.region ?_
      refine WL.move rfl rfl ?_
      refine WL.eqNilT Try.underlying25 rfl rfl rfl ?_
      refine WL.move rfl rfl ?_
      refine WL.on rfl rfl ?_
      refine WL.move rfl rfl ?_
      refine WL.on rfl rfl ?_
      refine WL.move rfl rfl ?_
      refine WL.on rfl rfl ?_
      refine WL.eqI rfl rfl rfl ?_
      refine WL.pickT rfl rfl rfl ?_
      refine WL.moveIf rfl rfl (fun c3 => ?_) (fun c3 => ?_)
      · refine WL.on rfl rfl ?_
        refine WL.call Try.call10 rfl (known13_ok _) rfl ?_
        rintro _ w ⟨rfl, m⟩
        replace M := M.call0 m; clear m
        refine WL.pickT rfl rfl rfl ?_
        refine WL.assign rfl rfl ?_
        refine WL.nil ?_
        refine WX.next ?_
        refine W.sub [(4, _)] (.cons rfl .nil) ?_
        refine W.ret ?_
        refine WX.thenRet ?_
        refine WX.ret1 rfl rfl ?_
        exact ⟨rfl, M⟩
      · exact absurd rfl c3
    · exact absurd (by decide) c1

set_option maxRecDepth 10000 in
set_option maxHeartbeats 4000000 in
theorem DoesGood_ok (n : Nat) (hn : 1 ≤ n ∧ n ≤ 64) (A1 : Option Addr) (q1 : Nat) (l : List AcX) (w0 : World) (h1 : RdL w0 actE A1 q1 l) (hq1 : ∀ s ∈ l, s.inn w0) (hm1 : q1 ≤ maxLen) :
    Fn Try.prog 7 [.int .i64 (n : Int), .slice A1 l.length q1] w0 fun v w' => v = .bool true ∧ Mem w0 w' [] := by
  have M := Mem.refl w0
  obtain ⟨w, hw⟩ : ∃ w, w = w0 := ⟨w0, rfl⟩
  have hl1 : l.length ≤ maxLen := Nat.le_trans h1.le hm1
  unfold maxLen at hl1
  refine Fn.enter Try.func7 rfl Try.ntmps7 rfl ?_
  refine W.sub [(0, _), (1, _)] (.cons rfl (.cons rfl .nil)) ?_
  refine W.seq ?_
  refine W.region ?_
  refine WL.assign rfl rfl ?_
  refine WL.nil ?_
  refine WX.next ?_
  refine W.sub [(0, _), (1, _)] (.cons rfl (.cons rfl .nil)) ?_
  refine W.seq ?_
  refine W.seq ?_
  refine W.region ?_
  refine WL.move rfl rfl ?_
  refine WL.call Try.call9 rfl (long_ok (by first | with_reducible assumption | with_reducible exact RdL.mem (by with_reducible assumption) M | exact M.rdL (by first | ((repeat (first | with_reducible exact Has.here | with_reducible refine Has.there ?_)); done) | (repeat (first | exact Has.here | refine Has.there ?_))) | exact RdLH.at (by assumption) (M.sel (by first | ((repeat (first | with_reducible exact Sel.refl | with_reducible exact Sel.nil | with_reducible exact Del.here | with_reducible apply Del.there | with_reducible apply Sel.cons | with_reducible apply Sel.drop)); done) | (repeat (first | exact Sel.refl | exact Sel.nil | exact Del.here | apply Del.there | apply Sel.cons | apply Sel.drop)))) | exact RdL.nil _ _ _) hm1) rfl ?_
  rintro _ w ⟨rfl, m⟩
  replace M := M.call0 m; clear m
  refine WL.nil ?_
  refine WX.next ?_
  refine W.sub [(0, _), (1, _), (27, _)] (.cons rfl (.cons rfl (.cons rfl .nil))) ?_
  refine W.cond rfl (fun c0 => ?_) (fun c0 => ?_)
  · (try simp only [Bool.not_eq_true'] at c0); (try simp only [Bool.not_eq_false'] at c0); (try simp only [decide_eq_true_eq] at c0); (try simp only [decide_eq_false_iff_not] at c0)
    refine W.seq ?_
    refine W.region ?_
    refine WL.call Try.call10 rfl (known13_ok _) rfl ?_
    rintro _ w ⟨rfl, m⟩
    replace M := M.call0 m; clear m
    refine WL.assign rfl rfl ?_
    refine WL.nil ?_
    refine WX.next ?_
    refine W.sub [(4, _)] (.cons rfl .nil) ?_
    refine W.ret ?_
    refine WX.thenRet ?_
    refine WX.ret1 rfl rfl ?_
    exact ⟨rfl, M⟩
  · (try simp only [Bool.not_eq_true'] at c0); (try simp only [Bool.not_eq_false'] at c0); (try simp only [decide_eq_true_eq] at c0); (try simp only [decide_eq_false_iff_not] at c0)
    have hlg : longB l = false := c0
    refine W.skip ?_
    refine WX.next ?_
    refine W.seq ?_
    refine W.region ?_
    refine WL.move rfl rfl ?_
    refine WL.call Try.call11 rfl (onceNew_ok n hn _) rfl ?_
    rintro _ w ⟨x0, rfl, hs0, ho0, m⟩
    replace M := M.callN m; clear m
    refine WL.move rfl rfl ?_
    refine WL.extractL rfl rfl rfl ?_
    refine WL.extractL rfl rfl rfl ?_
    refine WL.assign rfl rfl ?_
    refine WL.assign rfl rfl ?_
    refine WL.nil ?_
    refine WX.next ?_
    refine W.sub [(0, _), (1, _), (5, _), (6, _)] (.cons rfl (.cons rfl (.cons rfl (.cons rfl .nil)))) ?_
    refine W.seq ?_
    refine W.region ?_
    refine WL.move rfl rfl ?_
    refine WL.call Try.call22 rfl (refNew_ok n hn _) rfl ?_
    rintro _ w ⟨y0, rfl, ht0, m⟩
    replace M := M.callN m; clear m
    refine WL.move rfl rfl ?_
    refine WL.extractL rfl rfl rfl ?_
    refine WL.extractL rfl rfl rfl ?_
    refine WL.assign rfl rfl ?_
    refine WL.assign rfl rfl ?_
    refine WL.nil ?_
    refine WX.next ?_
    refine W.sub [(1, _), (5, _), (6, _), (7, _), (8, _)] (.cons rfl (.cons rfl (.cons rfl (.cons rfl (.cons rfl .nil))))) ?_
    refine W.seq ?_
    refine W.seq ?_
    refine W.region ?_
    refine WL.move rfl rfl ?_
    refine WL.neI rfl rfl rfl ?_
    refine WL.nil ?_
    refine WX.next ?_
    refine W.sub [(1, _), (5, _), (6, _), (7, _), (8, _), (40, _)] (.cons rfl (.cons rfl (.cons rfl (.cons rfl (.cons rfl (.cons rfl .nil)))))) ?_
    refine W.ite rfl (fun c1 => ?_) (fun c1 => ?_)
    · exact absurd rfl c1
    · refine W.skip ?_
      refine WX.next ?_
      refine W.seq ?_
      refine W.seq ?_
      refine W.region ?_
      refine WL.move rfl rfl ?_
      refine WL.eqNilF Try.underlying25 rfl rfl rfl ?_
      refine WL.move rfl rfl ?_
      refine WL.on rfl rfl ?_
      refine WL.move rfl rfl ?_
      refine WL.on rfl rfl ?_
      refine WL.neI rfl rfl rfl ?_
      refine WL.pickF rfl rfl rfl ?_
      refine WL.nil ?_
      refine WX.next ?_
      refine W.sub [(1, _), (5, _), (7, _), (56, _)] (.cons rfl (.cons rfl (.cons rfl (.cons rfl .nil)))) ?_
      refine W.ite rfl (fun c5 => ?_) (fun c5 => ?_)
      · exact absurd rfl c5
      · refine W.skip ?_
        refine WX.next ?_
        refine W.joint (fun (_ : Unit) => []) (fun j w => Mem w0 w ((fun _ => []) j) ∧ (fun _ => True) j) ?_ ?_
        · refine W.seq ?_
          refine W.region ?_
          refine WL.assign rfl rfl ?_
          refine WL.nil ?_
          refine WX.next ?_
          refine W.sub [(1, _), (5, _), (7, _), (9, _)] (.cons rfl (.cons rfl (.cons rfl (.cons rfl .nil)))) ?_
          refine W.block ?_
          refine W.loop (ι := Nat × OT × RT) (fun z => [(1, .slice A1 l.length q1), (5, .pointer (some ⟨z.2.1.g, 0, none⟩)), (7, .pointer (some ⟨z.2.2.g, 0, none⟩)), (9, .int .i64 (z.1 : Int))]) (fun zz w => Mem w0 w ((fun z => z.2.1.L ++ (z.2.2.L ++ [])) zz) ∧ (fun z => (z.1 ≤ l.length ∧ z.1 ≤ 150) ∧ (z.2.1.ok ∧ Few z.2.1.s z.1) ∧ z.2.1.s = z.2.2.s) zz) (fun z => 150 - z.1) ((0, x0, y0)) (by (repeat' (first | exact envSub.nil | refine envSub.cons ?_ ?_)) <;> first | rfl | (refine congrArg some ?_; refine congrArg (Value.int _) ?_; first | omega | (dsimp only; omega)) | (simp; done) | (refine congrArg some ?_; dsimp only; congr 1; omega) | (simp; omega)) ⟨M.sel (by first | ((repeat (first | with_reducible exact Sel.refl | with_reducible exact Sel.nil | with_reducible exact Del.here | with_reducible apply Del.there | with_reducible apply Sel.cons | with_reducible apply Sel.drop)); done) | (repeat (first | exact Sel.refl | exact Sel.nil | exact Del.here | apply Del.there | apply Sel.cons | apply Sel.drop))), ⟨⟨Nat.zero_le _, by omega⟩, ⟨ho0, by dsimp only; rw [hs0]; exact ⟨Nat.le_refl _, Nat.le_refl _⟩⟩, by dsimp only; rw [hs0, ht0]⟩⟩ ?_
          clear M; rintro (⟨i, x, y⟩) w ⟨M, ⟨hi, ⟨hox, hfx⟩, hxy⟩⟩; dsimp only at M hi hox hfx hxy ⊢
          refine W.sub [(1, _), (5, _), (7, _), (9, _)] (.cons rfl (.cons rfl (.cons rfl (.cons rfl .nil)))) ?_
          refine W.seq ?_
          refine W.seq ?_
          refine W.region ?_
          refine WL.move rfl rfl ?_
          refine WL.move rfl rfl ?_
          refine WL.len Try.underlying22 rfl rfl ?_
          refine WL.lss rfl rfl rfl ?_
          refine WL.moveIf rfl rfl (fun c6 => ?_) (fun c6 => ?_)
          · refine WL.on rfl rfl ?_
            refine WL.move rfl rfl ?_
            refine WL.on rfl rfl ?_
            refine WL.lss rfl rfl rfl ?_
            refine WL.pickT rfl rfl rfl ?_
            refine WL.nil ?_
            refine WX.next ?_
            refine W.sub [(1, _), (5, _), (7, _), (9, _), (64, _)] (.cons rfl (.cons rfl (.cons rfl (.cons rfl (.cons rfl .nil))))) ?_
            refine W.ite rfl (fun c7 => ?_) (fun c7 => ?_)
            · refine W.skip ?_
              refine WX.next ?_
              refine W.seq ?_
              refine W.block ?_
              refine W.seq ?_
              have hin := hq1 _ (el_mem (l := l) (k := i) (by omega))
              have hrd := hin.rd
              have hl10 := longB_no hlg (k := i) (by omega) (by omega)
              have hoy : y.s.ok := by rw [← hxy]; exact hox.s
              have hfy : Few y.s i := by rw [← hxy]; exact hfx
              refine W.region ?_
              refine WL.move rfl rfl ?_
              refine WL.move rfl rfl ?_
              refine WL.idxA Try.underlying22 Try.sizeOf35 rfl rfl (RdL.isSome (E := actE) (by first | with_reducible assumption | with_reducible exact RdL.mem (by with_reducible assumption) M | exact M.rdL (by first | ((repeat (first | with_reducible exact Has.here | with_reducible refine Has.there ?_)); done) | (repeat (first | exact Has.here | refine Has.there ?_))) | exact RdLH.at (by assumption) (M.sel (by first | ((repeat (first | with_reducible exact Sel.refl | with_reducible exact Sel.nil | with_reducible exact Del.here | with_reducible apply Del.there | with_reducible apply Sel.cons | with_reducible apply Sel.drop)); done) | (repeat (first | exact Sel.refl | exact Sel.nil | exact Del.here | apply Del.there | apply Sel.cons | apply Sel.drop)))) | exact RdL.nil _ _ _) (by omega)) (by omega) (by omega) (by first | exact rfl | exact (Int.toNat_of_nonneg (by omega)).symm) rfl ?_
              refine WL.loadL (E := actE) (cs := [_, _, _, _]) Try.isAgg35 Try.sizeOf35 rfl (by first | with_reducible assumption | with_reducible exact RdL.mem (by with_reducible assumption) M | exact M.rdL (by first | ((repeat (first | with_reducible exact Has.here | with_reducible refine Has.there ?_)); done) | (repeat (first | exact Has.here | refine Has.there ?_))) | exact RdLH.at (by assumption) (M.sel (by first | ((repeat (first | with_reducible exact Sel.refl | with_reducible exact Sel.nil | with_reducible exact Del.here | with_reducible apply Del.there | with_reducible apply Sel.cons | with_reducible apply Sel.drop)); done) | (repeat (first | exact Sel.refl | exact Sel.nil | exact Del.here | apply Del.there | apply Sel.cons | apply Sel.drop)))) | exact RdL.nil _ _ _) rfl (by omega) rfl rfl ?_
              refine WL.alloc Try.zeroValue35 M rfl ?_
              intro g12_4 w M
              try simp only [Value.cells] at M
              try simp only [List.toList_toArray] at M
              refine WL.storeWA Try.sizeOf35 rfl rfl (by repeat (first | exact oneNil | refine oneCons rfl ?_)) rfl rfl M (by first | ((repeat (first | with_reducible exact Upd.here | with_reducible apply Upd.there)); done) | (repeat (first | exact Upd.here | apply Upd.there))) ?_
              intro w M
              refine WL.nil ?_
              refine WX.next ?_
              refine W.sub [(1, _), (5, _), (7, _), (9, _), (10, _)] (.cons rfl (.cons rfl (.cons rfl (.cons rfl (.cons rfl .nil))))) ?_
              refine W.joint (fun (z : OT × RT) => [(1, .slice A1 l.length q1), (5, .pointer (some ⟨z.1.g, 0, none⟩)), (7, .pointer (some ⟨z.2.g, 0, none⟩)), (9, .int .i64 (i : Int))]) (fun j w => Mem w0 w ((fun z => z.1.L ++ (z.2.L ++ [])) j) ∧ (fun z => (z.1.ok ∧ Few z.1.s (i + 1)) ∧ z.1.s = z.2.s) j) ?_ ?_
              · refine W.seq ?_
                refine W.region ?_
                refine WL.fieldR (off := 0) Try.underlying35 rfl rfl Try.sizeOf3 rfl rfl rfl ?_
                refine WL.loadR Try.isAgg3 rfl M (by first | ((repeat (first | with_reducible exact Has.here | with_reducible refine Has.there ?_)); done) | (repeat (first | exact Has.here | refine Has.there ?_))) rfl rfl ?_
                refine WL.nil ?_
                refine WX.next ?_
                refine W.sub [(1, _), (5, _), (7, _), (9, _), (10, _), (72, _)] (.cons rfl (.cons rfl (.cons rfl (.cons rfl (.cons rfl (.cons rfl .nil)))))) ?_
                refine W.block ?_
                refine W.joint (fun (b : Bool) => [(1, .slice A1 l.length q1), (5, .pointer (some ⟨x.g, 0, none⟩)), (7, .pointer (some ⟨y.g, 0, none⟩)), (9, .int .i64 (i : Int)), (10, .pointer (some ⟨g12_4, 0, none⟩)), (72, .int .i64 (el l i).kind), (98, .bool b)]) (fun j w => Mem w0 w ((fun _ => Asr.row g12_4 35 [.int .i64 (el l i).kind, .int .u64 ((el l i).id : Int), .int .u64 ((el l i).num : Int), .slice (el l i).A (el l i).rep.length (el l i).cap] :: (x.L ++ (y.L ++ []))) j) ∧ (fun _ => True) j) ?_ ?_
                · refine W.seq ?_
                  refine W.region ?_
                  refine WL.eqI rfl rfl rfl ?_
                  refine WL.assign rfl rfl ?_
                  refine WL.nil ?_
                  refine WX.next ?_
                  refine W.sub [(1, _), (5, _), (7, _), (9, _), (10, _), (72, _), (98, _)] (.cons rfl (.cons rfl (.cons rfl (.cons rfl (.cons rfl (.cons rfl (.cons rfl .nil))))))) ?_
                  refine W.ite rfl (fun c8 => ?_) (fun c8 => ?_)
                  · refine W.skip ?_
                    refine WX.join (decide ((el l i).kind = 0)) (by (repeat' (first | exact envSub.nil | refine envSub.cons ?_ ?_)) <;> first | rfl | (refine congrArg some ?_; refine congrArg (Value.int _) ?_; first | omega | (dsimp only; omega)) | (simp; done) | (refine congrArg some ?_; dsimp only; congr 1; omega) | (simp; omega)) ⟨M.sel (by first | ((repeat (first | with_reducible exact Sel.refl | with_reducible exact Sel.nil | with_reducible exact Del.here | with_reducible apply Del.there | with_reducible apply Sel.cons | with_reducible apply Sel.drop)); done) | (repeat (first | exact Sel.refl | exact Sel.nil | exact Del.here | apply Del.there | apply Sel.cons | apply Sel.drop))), trivial⟩
                  · refine W.seq ?_
                    refine W.region ?_
                    refine WL.eqI rfl rfl rfl ?_
                    refine WL.assign rfl rfl ?_
                    refine WL.nil ?_
                    refine WX.next ?_
                    refine W.sub [(1, _), (5, _), (7, _), (9, _), (10, _), (72, _), (98, _)] (.cons rfl (.cons rfl (.cons rfl (.cons rfl (.cons rfl (.cons rfl (.cons rfl .nil))))))) ?_
                    refine W.ite rfl (fun c9 => ?_) (fun c9 => ?_)
                    · refine W.skip ?_
                      refine WX.join (decide ((el l i).kind = 1)) (by (repeat' (first | exact envSub.nil | refine envSub.cons ?_ ?_)) <;> first | rfl | (refine congrArg some ?_; refine congrArg (Value.int _) ?_; first | omega | (dsimp only; omega)) | (simp; done) | (refine congrArg some ?_; dsimp only; congr 1; omega) | (simp; omega)) ⟨M.sel (by first | ((repeat (first | with_reducible exact Sel.refl | with_reducible exact Sel.nil | with_reducible exact Del.here | with_reducible apply Del.there | with_reducible apply Sel.cons | with_reducible apply Sel.drop)); done) | (repeat (first | exact Sel.refl | exact Sel.nil | exact Del.here | apply Del.there | apply Sel.cons | apply Sel.drop))), trivial⟩
                    · refine W.region ?_
                      refine WL.eqI rfl rfl rfl ?_
                      refine WL.assign rfl rfl ?_
                      refine WL.nil ?_
                      refine WX.join (decide ((el l i).kind = 2)) (by (repeat' (first | exact envSub.nil | refine envSub.cons ?_ ?_)) <;> first | rfl | (refine congrArg some ?_; refine congrArg (Value.int _) ?_; first | omega | (dsimp only; omega)) | (simp; done) | (refine congrArg some ?_; dsimp only; congr 1; omega) | (simp; omega)) ⟨M.sel (by first | ((repeat (first | with_reducible exact Sel.refl | with_reducible exact Sel.nil | with_reducible exact Del.here | with_reducible apply Del.there | with_reducible apply Sel.cons | with_reducible apply Sel.drop)); done) | (repeat (first | exact Sel.refl | exact Sel.nil | exact Del.here | apply Del.there | apply Sel.cons | apply Sel.drop))), trivial⟩
                clear M; rintro (b8) w ⟨M, -⟩; dsimp only at M ⊢
                refine W.sub [(1, _), (5, _), (7, _), (9, _), (10, _), (72, _), (98, _)] (.cons rfl (.cons rfl (.cons rfl (.cons rfl (.cons rfl (.cons rfl (.cons rfl .nil))))))) ?_
                refine W.cond rfl (fun c10 => ?_) (fun c10 => ?_)
                · (try simp only [Bool.not_eq_true'] at c10); (try simp only [Bool.not_eq_false'] at c10); (try simp only [decide_eq_true_eq] at c10); (try simp only [decide_eq_false_iff_not] at c10)
                  refine W.seq ?_
                  refine W.region ?_
                  refine WL.move rfl rfl ?_
                  refine WL.fieldR (off := 1) Try.underlying35 rfl rfl Try.sizeOf29 rfl rfl rfl ?_
                  refine WL.loadR Try.isAgg29 rfl M (by first | ((repeat (first | with_reducible exact Has.here | with_reducible refine Has.there ?_)); done) | (repeat (first | exact Has.here | refine Has.there ?_))) rfl rfl ?_
                  refine WL.fieldR (off := 2) Try.underlying35 rfl rfl Try.sizeOf29 rfl rfl rfl ?_
                  refine WL.loadR Try.isAgg29 rfl M (by first | ((repeat (first | with_reducible exact Has.here | with_reducible refine Has.there ?_)); done) | (repeat (first | exact Has.here | refine Has.there ?_))) rfl rfl ?_
                  refine WL.call Try.call12 rfl (Begin_ok x hox (hfx.lt (by omega)) (el l i).id (el l i).num hin.id hin.num w0 w _ (M.sel (K := x.L ++ (y.L ++ [Asr.row g12_4 35 [.int .i64 (el l i).kind, .int .u64 ((el l i).id : Int), .int .u64 ((el l i).num : Int), .slice (el l i).A (el l i).rep.length (el l i).cap]])) (by first | ((repeat (first | with_reducible exact Sel.refl | with_reducible exact Sel.nil | with_reducible exact Del.here | with_reducible apply Del.there | with_reducible apply Sel.cons | with_reducible apply Sel.drop)); done) | (repeat (first | exact Sel.refl | exact Sel.nil | exact Del.here | apply Del.there | apply Sel.cons | apply Sel.drop))))) rfl ?_
                  rintro _ w ⟨x2, A4, k4, rfl, hgx, hsx, hox2, M⟩
                  rw [hgx]
                  rw [hxy] at hsx M ⊢
                  refine WL.move rfl rfl ?_
                  refine WL.extractL rfl rfl rfl ?_
                  refine WL.extractL rfl rfl rfl ?_
                  refine WL.extractL rfl rfl rfl ?_
                  refine WL.assign rfl rfl ?_
                  refine WL.assign rfl rfl ?_
                  refine WL.assign rfl rfl ?_
                  refine WL.nil ?_
                  refine WX.next ?_
                  refine W.sub [(1, _), (5, _), (7, _), (9, _), (10, _), (11, _), (12, _), (13, _)] (.cons rfl (.cons rfl (.cons rfl (.cons rfl (.cons rfl (.cons rfl (.cons rfl (.cons rfl .nil)))))))) ?_
                  refine W.seq ?_
                  refine W.region ?_
                  refine WL.move rfl rfl ?_
                  refine WL.fieldR (off := 1) Try.underlying35 rfl rfl Try.sizeOf29 rfl rfl rfl ?_
                  refine WL.loadR Try.isAgg29 rfl M (by first | ((repeat (first | with_reducible exact Has.here | with_reducible refine Has.there ?_)); done) | (repeat (first | exact Has.here | refine Has.there ?_))) rfl rfl ?_
                  refine WL.fieldR (off := 2) Try.underlying35 rfl rfl Try.sizeOf29 rfl rfl rfl ?_
                  refine WL.loadR Try.isAgg29 rfl M (by first | ((repeat (first | with_reducible exact Has.here | with_reducible refine Has.there ?_)); done) | (repeat (first | exact Has.here | refine Has.there ?_))) rfl rfl ?_
                  refine WL.call Try.call23 rfl (refBegin_ok y hoy (hfy.lt (by omega)) (el l i).id (el l i).num hin.id hin.num w0 w _ (M.sel (K := y.L ++ (Asr.own 5 1 A4 (begR y.s (el l i).id (el l i).num).length k4 (bs (begR y.s (el l i).id (el l i).num)) :: x2.L)) (by first | ((repeat (first | with_reducible exact Sel.refl | with_reducible exact Sel.nil | with_reducible exact Del.here | with_reducible apply Del.there | with_reducible apply Sel.cons | with_reducible apply Sel.drop)); done) | (repeat (first | exact Sel.refl | exact Sel.nil | exact Del.here | apply Del.there | apply Sel.cons | apply Sel.drop))))) rfl ?_
                  rintro _ w ⟨y2, A5, k5, rfl, hgy, hsy, M, hrd5⟩
                  rw [hgy]
                  refine WL.move rfl rfl ?_
                  refine WL.extractL rfl rfl rfl ?_
                  refine WL.extractL rfl rfl rfl ?_
                  refine WL.extractL rfl rfl rfl ?_
                  refine WL.assign rfl rfl ?_
                  refine WL.assign rfl rfl ?_
                  refine WL.assign rfl rfl ?_
                  refine WL.nil ?_
                  refine WX.next ?_
                  refine W.sub [(1, _), (5, _), (7, _), (9, _), (11, _), (12, _), (13, _), (14, _), (15, _), (16, _)] (.cons rfl (.cons rfl (.cons rfl (.cons rfl (.cons rfl (.cons rfl (.cons rfl (.cons rfl (.cons rfl (.cons rfl .nil)))))))))) ?_
                  refine W.seq ?_
                  refine W.seq ?_
                  refine W.region ?_
                  refine WL.move rfl rfl ?_
                  refine WL.move rfl rfl ?_
                  refine WL.neI rfl rfl rfl ?_
                  refine WL.moveIf rfl rfl (fun c11 => ?_) (fun c11 => ?_)
                  · exact absurd rfl c11
                  · refine WL.on rfl rfl ?_
                    refine WL.move rfl rfl ?_
                    refine WL.on rfl rfl ?_
                    refine WL.move rfl rfl ?_
                    refine WL.on rfl rfl ?_
                    refine WL.call Try.call13 rfl (Same_ok (by first | first | with_reducible assumption | with_reducible exact RdB.mem (by with_reducible assumption) M | exact M.rdB (by first | ((repeat (first | with_reducible exact Has.here | with_reducible refine Has.there ?_)); done) | (repeat (first | exact Has.here | refine Has.there ?_))) | exact RdH.at (by assumption) (M.sel (by first | ((repeat (first | with_reducible exact Sel.refl | with_reducible exact Sel.nil | with_reducible exact Del.here | with_reducible apply Del.there | with_reducible apply Sel.cons | with_reducible apply Sel.drop)); done) | (repeat (first | exact Sel.refl | exact Sel.nil | exact Del.here | apply Del.there | apply Sel.cons | apply Sel.drop)))) | exact M.rdLit' (by first | ((repeat (first | with_reducible exact Has.here | with_reducible refine Has.there ?_)); done) | (repeat (first | exact Has.here | refine Has.there ?_))) | exact M.rdLent (by first | ((repeat (first | with_reducible exact Has.here | with_reducible refine Has.there ?_)); done) | (repeat (first | exact Has.here | refine Has.there ?_))) | exact RdB.nil _ _ | exact RdB.sub (by first | with_reducible assumption | with_reducible exact RdB.mem (by with_reducible assumption) M | exact M.rdB (by first | ((repeat (first | with_reducible exact Has.here | with_reducible refine Has.there ?_)); done) | (repeat (first | exact Has.here | refine Has.there ?_))) | exact RdH.at (by assumption) (M.sel (by first | ((repeat (first | with_reducible exact Sel.refl | with_reducible exact Sel.nil | with_reducible exact Del.here | with_reducible apply Del.there | with_reducible apply Sel.cons | with_reducible apply Sel.drop)); done) | (repeat (first | exact Sel.refl | exact Sel.nil | exact Del.here | apply Del.there | apply Sel.cons | apply Sel.drop)))) | exact M.rdLit' (by first | ((repeat (first | with_reducible exact Has.here | with_reducible refine Has.there ?_)); done) | (repeat (first | exact Has.here | refine Has.there ?_))) | exact M.rdLent (by first | ((repeat (first | with_reducible exact Has.here | with_reducible refine Has.there ?_)); done) | (repeat (first | exact Has.here | refine Has.there ?_))) | exact RdB.nil _ _) (by omega) (by omega) | exact RdB.pre' (by first | with_reducible assumption | with_reducible exact RdB.mem (by with_reducible assumption) M | exact M.rdB (by first | ((repeat (first | with_reducible exact Has.here | with_reducible refine Has.there ?_)); done) | (repeat (first | exact Has.here | refine Has.there ?_))) | exact RdH.at (by assumption) (M.sel (by first | ((repeat (first | with_reducible exact Sel.refl | with_reducible exact Sel.nil | with_reducible exact Del.here | with_reducible apply Del.there | with_reducible apply Sel.cons | with_reducible apply Sel.drop)); done) | (repeat (first | exact Sel.refl | exact Sel.nil | exact Del.here | apply Del.there | apply Sel.cons | apply Sel.drop)))) | exact M.rdLit' (by first | ((repeat (first | with_reducible exact Has.here | with_reducible refine Has.there ?_)); done) | (repeat (first | exact Has.here | refine Has.there ?_))) | exact M.rdLent (by first | ((repeat (first | with_reducible exact Has.here | with_reducible refine Has.there ?_)); done) | (repeat (first | exact Has.here | refine Has.there ?_))) | exact RdB.nil _ _) (by omega) | exact RdB.suf (by first | with_reducible assumption | with_reducible exact RdB.mem (by with_reducible assumption) M | exact M.rdB (by first | ((repeat (first | with_reducible exact Has.here | with_reducible refine Has.there ?_)); done) | (repeat (first | exact Has.here | refine Has.there ?_))) | exact RdH.at (by assumption) (M.sel (by first | ((repeat (first | with_reducible exact Sel.refl | with_reducible exact Sel.nil | with_reducible exact Del.here | with_reducible apply Del.there | with_reducible apply Sel.cons | with_reducible apply Sel.drop)); done) | (repeat (first | exact Sel.refl | exact Sel.nil | exact Del.here | apply Del.there | apply Sel.cons | apply Sel.drop)))) | exact M.rdLit' (by first | ((repeat (first | with_reducible exact Has.here | with_reducible refine Has.there ?_)); done) | (repeat (first | exact Has.here | refine Has.there ?_))) | exact M.rdLent (by first | ((repeat (first | with_reducible exact Has.here | with_reducible refine Has.there ?_)); done) | (repeat (first | exact Has.here | refine Has.there ?_))) | exact RdB.nil _ _) (by omega)) (by first | first | with_reducible assumption | with_reducible exact RdB.mem (by with_reducible assumption) M | exact M.rdB (by first | ((repeat (first | with_reducible exact Has.here | with_reducible refine Has.there ?_)); done) | (repeat (first | exact Has.here | refine Has.there ?_))) | exact RdH.at (by assumption) (M.sel (by first | ((repeat (first | with_reducible exact Sel.refl | with_reducible exact Sel.nil | with_reducible exact Del.here | with_reducible apply Del.there | with_reducible apply Sel.cons | with_reducible apply Sel.drop)); done) | (repeat (first | exact Sel.refl | exact Sel.nil | exact Del.here | apply Del.there | apply Sel.cons | apply Sel.drop)))) | exact M.rdLit' (by first | ((repeat (first | with_reducible exact Has.here | with_reducible refine Has.there ?_)); done) | (repeat (first | exact Has.here | refine Has.there ?_))) | exact M.rdLent (by first | ((repeat (first | with_reducible exact Has.here | with_reducible refine Has.there ?_)); done) | (repeat (first | exact Has.here | refine Has.there ?_))) | exact RdB.nil _ _ | exact RdB.sub (by first | with_reducible assumption | with_reducible exact RdB.mem (by with_reducible assumption) M | exact M.rdB (by first | ((repeat (first | with_reducible exact Has.here | with_reducible refine Has.there ?_)); done) | (repeat (first | exact Has.here | refine Has.there ?_))) | exact RdH.at (by assumption) (M.sel (by first | ((repeat (first | with_reducible exact Sel.refl | with_reducible exact Sel.nil | with_reducible exact Del.here | with_reducible apply Del.there | with_reducible apply Sel.cons | with_reducible apply Sel.drop)); done) | (repeat (first | exact Sel.refl | exact Sel.nil | exact Del.here | apply Del.there | apply Sel.cons | apply Sel.drop)))) | exact M.rdLit' (by first | ((repeat (first | with_reducible exact Has.here | with_reducible refine Has.there ?_)); done) | (repeat (first | exact Has.here | refine Has.there ?_))) | exact M.rdLent (by first | ((repeat (first | with_reducible exact Has.here | with_reducible refine Has.there ?_)); done) | (repeat (first | exact Has.here | refine Has.there ?_))) | exact RdB.nil _ _) (by omega) (by omega) | exact RdB.pre' (by first | with_reducible assumption | with_reducible exact RdB.mem (by with_reducible assumption) M | exact M.rdB (by first | ((repeat (first | with_reducible exact Has.here | with_reducible refine Has.there ?_)); done) | (repeat (first | exact Has.here | refine Has.there ?_))) | exact RdH.at (by assumption) (M.sel (by first | ((repeat (first | with_reducible exact Sel.refl | with_reducible exact Sel.nil | with_reducible exact Del.here | with_reducible apply Del.there | with_reducible apply Sel.cons | with_reducible apply Sel.drop)); done) | (repeat (first | exact Sel.refl | exact Sel.nil | exact Del.here | apply Del.there | apply Sel.cons | apply Sel.drop)))) | exact M.rdLit' (by first | ((repeat (first | with_reducible exact Has.here | with_reducible refine Has.there ?_)); done) | (repeat (first | exact Has.here | refine Has.there ?_))) | exact M.rdLent (by first | ((repeat (first | with_reducible exact Has.here | with_reducible refine Has.there ?_)); done) | (repeat (first | exact Has.here | refine Has.there ?_))) | exact RdB.nil _ _) (by omega) | exact RdB.suf (by first | with_reducible assumption | with_reducible exact RdB.mem (by with_reducible assumption) M | exact M.rdB (by first | ((repeat (first | with_reducible exact Has.here | with_reducible refine Has.there ?_)); done) | (repeat (first | exact Has.here | refine Has.there ?_))) | exact RdH.at (by assumption) (M.sel (by first | ((repeat (first | with_reducible exact Sel.refl | with_reducible exact Sel.nil | with_reducible exact Del.here | with_reducible apply Del.there | with_reducible apply Sel.cons | with_reducible apply Sel.drop)); done) | (repeat (first | exact Sel.refl | exact Sel.nil | exact Del.here | apply Del.there | apply Sel.cons | apply Sel.drop)))) | exact M.rdLit' (by first | ((repeat (first | with_reducible exact Has.here | with_reducible refine Has.there ?_)); done) | (repeat (first | exact Has.here | refine Has.there ?_))) | exact M.rdLent (by first | ((repeat (first | with_reducible exact Has.here | with_reducible refine Has.there ?_)); done) | (repeat (first | exact Has.here | refine Has.there ?_))) | exact RdB.nil _ _) (by omega))) rfl ?_
                    rintro _ _ ⟨rfl, rfl⟩
                    refine WL.on rfl rfl ?_
                    refine WL.notP rfl rfl ?_
                    refine WL.pickF rfl rfl rfl ?_
                    refine WL.moveIf rfl rfl (fun c12 => ?_) (fun c12 => ?_)
                    · exact absurd rfl c12
                    · refine WL.on rfl rfl ?_
                      refine WL.move rfl rfl ?_
                      refine WL.on rfl rfl ?_
                      refine WL.move rfl rfl ?_
                      refine WL.on rfl rfl ?_
                      refine WL.neI rfl rfl rfl ?_
                      refine WL.pickF rfl rfl rfl ?_
                      refine WL.nil ?_
                      refine WX.next ?_
                      refine W.sub [(1, _), (5, _), (7, _), (9, _), (12, _), (135, _)] (.cons rfl (.cons rfl (.cons rfl (.cons rfl (.cons rfl (.cons rfl .nil)))))) ?_
                      refine W.ite rfl (fun c13 => ?_) (fun c13 => ?_)
                      · exact absurd rfl c13
                      · refine W.skip ?_
                        refine WX.next ?_
                        refine W.region ?_
                        refine WL.move rfl rfl ?_
                        refine WL.call Try.call24 rfl (SpoilOwn_ok M (by first | ((repeat (first | with_reducible exact Del.here | with_reducible apply Del.there)); done) | (repeat (first | exact Del.here | apply Del.there))) (by have h9 := begR_len hoy (el l i).id (el l i).num; omega)) rfl ?_
                        rintro _ w M
                        refine WL.nil ?_
                        refine WX.blockNormal ?_
                        refine WX.join ((x2, y2)) (by (repeat' (first | exact envSub.nil | refine envSub.cons ?_ ?_)) <;> first | rfl | (refine congrArg some ?_; refine congrArg (Value.int _) ?_; first | omega | (dsimp only; omega)) | (simp; done) | (refine congrArg some ?_; dsimp only; congr 1; omega) | (simp; omega)) ⟨M.sel (by first | ((repeat (first | with_reducible exact Sel.refl | with_reducible exact Sel.nil | with_reducible exact Del.here | with_reducible apply Del.there | with_reducible apply Sel.cons | with_reducible apply Sel.drop)); done) | (repeat (first | exact Sel.refl | exact Sel.nil | exact Del.here | apply Del.there | apply Sel.cons | apply Sel.drop))), ⟨⟨hox2, (by rw [hsx, ← hxy]; exact hfx.beg _ _)⟩, hsx.trans hsy.symm⟩⟩
                · (try simp only [Bool.not_eq_true'] at c10); (try simp only [Bool.not_eq_false'] at c10); (try simp only [decide_eq_true_eq] at c10); (try simp only [decide_eq_false_iff_not] at c10)
                  refine W.joint (fun (b : Bool) => [(1, .slice A1 l.length q1), (5, .pointer (some ⟨x.g, 0, none⟩)), (7, .pointer (some ⟨y.g, 0, none⟩)), (9, .int .i64 (i : Int)), (10, .pointer (some ⟨g12_4, 0, none⟩)), (138, .bool b)]) (fun j w => Mem w0 w ((fun _ => Asr.row g12_4 35 [.int .i64 (el l i).kind, .int .u64 ((el l i).id : Int), .int .u64 ((el l i).num : Int), .slice (el l i).A (el l i).rep.length (el l i).cap] :: (x.L ++ (y.L ++ []))) j) ∧ (fun _ => True) j) ?_ ?_
                  · refine W.seq ?_
                    refine W.region ?_
                    refine WL.eqI rfl rfl rfl ?_
                    refine WL.assign rfl rfl ?_
                    refine WL.nil ?_
                    refine WX.next ?_
                    refine W.sub [(1, _), (5, _), (7, _), (9, _), (10, _), (72, _), (138, _)] (.cons rfl (.cons rfl (.cons rfl (.cons rfl (.cons rfl (.cons rfl (.cons rfl .nil))))))) ?_
                    refine W.ite rfl (fun c14 => ?_) (fun c14 => ?_)
                    · refine W.skip ?_
                      refine WX.join (decide ((el l i).kind = 3)) (by (repeat' (first | exact envSub.nil | refine envSub.cons ?_ ?_)) <;> first | rfl | (refine congrArg some ?_; refine congrArg (Value.int _) ?_; first | omega | (dsimp only; omega)) | (simp; done) | (refine congrArg some ?_; dsimp only; congr 1; omega) | (simp; omega)) ⟨M.sel (by first | ((repeat (first | with_reducible exact Sel.refl | with_reducible exact Sel.nil | with_reducible exact Del.here | with_reducible apply Del.there | with_reducible apply Sel.cons | with_reducible apply Sel.drop)); done) | (repeat (first | exact Sel.refl | exact Sel.nil | exact Del.here | apply Del.there | apply Sel.cons | apply Sel.drop))), trivial⟩
                    · refine W.region ?_
                      refine WL.eqI rfl rfl rfl ?_
                      refine WL.assign rfl rfl ?_
                      refine WL.nil ?_
                      refine WX.join (decide ((el l i).kind = 4)) (by (repeat' (first | exact envSub.nil | refine envSub.cons ?_ ?_)) <;> first | rfl | (refine congrArg some ?_; refine congrArg (Value.int _) ?_; first | omega | (dsimp only; omega)) | (simp; done) | (refine congrArg some ?_; dsimp only; congr 1; omega) | (simp; omega)) ⟨M.sel (by first | ((repeat (first | with_reducible exact Sel.refl | with_reducible exact Sel.nil | with_reducible exact Del.here | with_reducible apply Del.there | with_reducible apply Sel.cons | with_reducible apply Sel.drop)); done) | (repeat (first | exact Sel.refl | exact Sel.nil | exact Del.here | apply Del.there | apply Sel.cons | apply Sel.drop))), trivial⟩
                  clear M; rintro (b14) w ⟨M, -⟩; dsimp only at M ⊢
                  refine W.sub [(1, _), (5, _), (7, _), (9, _), (10, _), (138, _)] (.cons rfl (.cons rfl (.cons rfl (.cons rfl (.cons rfl (.cons rfl .nil)))))) ?_
                  refine W.cond rfl (fun c15 => ?_) (fun c15 => ?_)
                  · (try simp only [Bool.not_eq_true'] at c15); (try simp only [Bool.not_eq_false'] at c15); (try simp only [decide_eq_true_eq] at c15); (try simp only [decide_eq_false_iff_not] at c15)
                    refine W.seq ?_
                    refine W.region ?_
                    refine WL.fieldR (off := 3) Try.underlying35 rfl rfl Try.sizeOf32 rfl rfl rfl ?_
                    refine WL.loadR Try.isAgg32 rfl M (by first | ((repeat (first | with_reducible exact Has.here | with_reducible refine Has.there ?_)); done) | (repeat (first | exact Has.here | refine Has.there ?_))) rfl rfl ?_
                    refine WL.call Try.call25 rfl (Lent_ok (by first | first | with_reducible assumption | with_reducible exact RdB.mem (by with_reducible assumption) M | exact M.rdB (by first | ((repeat (first | with_reducible exact Has.here | with_reducible refine Has.there ?_)); done) | (repeat (first | exact Has.here | refine Has.there ?_))) | exact RdH.at (by assumption) (M.sel (by first | ((repeat (first | with_reducible exact Sel.refl | with_reducible exact Sel.nil | with_reducible exact Del.here | with_reducible apply Del.there | with_reducible apply Sel.cons | with_reducible apply Sel.drop)); done) | (repeat (first | exact Sel.refl | exact Sel.nil | exact Del.here | apply Del.there | apply Sel.cons | apply Sel.drop)))) | exact M.rdLit' (by first | ((repeat (first | with_reducible exact Has.here | with_reducible refine Has.there ?_)); done) | (repeat (first | exact Has.here | refine Has.there ?_))) | exact M.rdLent (by first | ((repeat (first | with_reducible exact Has.here | with_reducible refine Has.there ?_)); done) | (repeat (first | exact Has.here | refine Has.there ?_))) | exact RdB.nil _ _ | exact RdB.sub (by first | with_reducible assumption | with_reducible exact RdB.mem (by with_reducible assumption) M | exact M.rdB (by first | ((repeat (first | with_reducible exact Has.here | with_reducible refine Has.there ?_)); done) | (repeat (first | exact Has.here | refine Has.there ?_))) | exact RdH.at (by assumption) (M.sel (by first | ((repeat (first | with_reducible exact Sel.refl | with_reducible exact Sel.nil | with_reducible exact Del.here | with_reducible apply Del.there | with_reducible apply Sel.cons | with_reducible apply Sel.drop)); done) | (repeat (first | exact Sel.refl | exact Sel.nil | exact Del.here | apply Del.there | apply Sel.cons | apply Sel.drop)))) | exact M.rdLit' (by first | ((repeat (first | with_reducible exact Has.here | with_reducible refine Has.there ?_)); done) | (repeat (first | exact Has.here | refine Has.there ?_))) | exact M.rdLent (by first | ((repeat (first | with_reducible exact Has.here | with_reducible refine Has.there ?_)); done) | (repeat (first | exact Has.here | refine Has.there ?_))) | exact RdB.nil _ _) (by omega) (by omega) | exact RdB.pre' (by first | with_reducible assumption | with_reducible exact RdB.mem (by with_reducible assumption) M | exact M.rdB (by first | ((repeat (first | with_reducible exact Has.here | with_reducible refine Has.there ?_)); done) | (repeat (first | exact Has.here | refine Has.there ?_))) | exact RdH.at (by assumption) (M.sel (by first | ((repeat (first | with_reducible exact Sel.refl | with_reducible exact Sel.nil | with_reducible exact Del.here | with_reducible apply Del.there | with_reducible apply Sel.cons | with_reducible apply Sel.drop)); done) | (repeat (first | exact Sel.refl | exact Sel.nil | exact Del.here | apply Del.there | apply Sel.cons | apply Sel.drop)))) | exact M.rdLit' (by first | ((repeat (first | with_reducible exact Has.here | with_reducible refine Has.there ?_)); done) | (repeat (first | exact Has.here | refine Has.there ?_))) | exact M.rdLent (by first | ((repeat (first | with_reducible exact Has.here | with_reducible refine Has.there ?_)); done) | (repeat (first | exact Has.here | refine Has.there ?_))) | exact RdB.nil _ _) (by omega) | exact RdB.suf (by first | with_reducible assumption | with_reducible exact RdB.mem (by with_reducible assumption) M | exact M.rdB (by first | ((repeat (first | with_reducible exact Has.here | with_reducible refine Has.there ?_)); done) | (repeat (first | exact Has.here | refine Has.there ?_))) | exact RdH.at (by assumption) (M.sel (by first | ((repeat (first | with_reducible exact Sel.refl | with_reducible exact Sel.nil | with_reducible exact Del.here | with_reducible apply Del.there | with_reducible apply Sel.cons | with_reducible apply Sel.drop)); done) | (repeat (first | exact Sel.refl | exact Sel.nil | exact Del.here | apply Del.there | apply Sel.cons | apply Sel.drop)))) | exact M.rdLit' (by first | ((repeat (first | with_reducible exact Has.here | with_reducible refine Has.there ?_)); done) | (repeat (first | exact Has.here | refine Has.there ?_))) | exact M.rdLent (by first | ((repeat (first | with_reducible exact Has.here | with_reducible refine Has.there ?_)); done) | (repeat (first | exact Has.here | refine Has.there ?_))) | exact RdB.nil _ _) (by omega)) (by omega)) rfl ?_
                    rintro _ w ⟨g33_2, sp33_2, rfl, m⟩
                    replace M := M.call1 m; clear m
                    refine WL.assign rfl rfl ?_
                    refine WL.nil ?_
                    refine WX.next ?_
                    refine W.sub [(1, _), (5, _), (7, _), (9, _), (10, _), (17, _)] (.cons rfl (.cons rfl (.cons rfl (.cons rfl (.cons rfl (.cons rfl .nil)))))) ?_
                    refine W.seq ?_
                    refine W.region ?_
                    refine WL.move rfl rfl ?_
                    refine WL.fieldR (off := 1) Try.underlying35 rfl rfl Try.sizeOf29 rfl rfl rfl ?_
                    refine WL.loadR Try.isAgg29 rfl M (by first | ((repeat (first | with_reducible exact Has.here | with_reducible refine Has.there ?_)); done) | (repeat (first | exact Has.here | refine Has.there ?_))) rfl rfl ?_
                    refine WL.fieldR (off := 2) Try.underlying35 rfl rfl Try.sizeOf29 rfl rfl rfl ?_
                    refine WL.loadR Try.isAgg29 rfl M (by first | ((repeat (first | with_reducible exact Has.here | with_reducible refine Has.there ?_)); done) | (repeat (first | exact Has.here | refine Has.there ?_))) rfl rfl ?_
                    refine WL.move rfl rfl ?_
                    refine WL.call Try.call14 rfl (End_ok x hox (el l i).id (el l i).num hin.id hin.num _ _ (el l i).rep w0 w _ (M.sel (K := x.L ++ (Asr.row g33_2 5 (bs ((el l i).rep ++ [91, 92]) ++ sp33_2) :: (y.L ++ [Asr.row g12_4 35 [.int .i64 (el l i).kind, .int .u64 ((el l i).id : Int), .int .u64 ((el l i).num : Int), .slice (el l i).A (el l i).rep.length (el l i).cap]]))) (by first | ((repeat (first | with_reducible exact Sel.refl | with_reducible exact Sel.nil | with_reducible exact Del.here | with_reducible apply Del.there | with_reducible apply Sel.cons | with_reducible apply Sel.drop)); done) | (repeat (first | exact Sel.refl | exact Sel.nil | exact Del.here | apply Del.there | apply Sel.cons | apply Sel.drop)))) (by intro w M; exact (by first | first | with_reducible assumption | with_reducible exact RdB.mem (by with_reducible assumption) M | exact M.rdB (by first | ((repeat (first | with_reducible exact Has.here | with_reducible refine Has.there ?_)); done) | (repeat (first | exact Has.here | refine Has.there ?_))) | exact RdH.at (by assumption) (M.sel (by first | ((repeat (first | with_reducible exact Sel.refl | with_reducible exact Sel.nil | with_reducible exact Del.here | with_reducible apply Del.there | with_reducible apply Sel.cons | with_reducible apply Sel.drop)); done) | (repeat (first | exact Sel.refl | exact Sel.nil | exact Del.here | apply Del.there | apply Sel.cons | apply Sel.drop)))) | exact M.rdLit' (by first | ((repeat (first | with_reducible exact Has.here | with_reducible refine Has.there ?_)); done) | (repeat (first | exact Has.here | refine Has.there ?_))) | exact M.rdLent (by first | ((repeat (first | with_reducible exact Has.here | with_reducible refine Has.there ?_)); done) | (repeat (first | exact Has.here | refine Has.there ?_))) | exact RdB.nil _ _ | exact RdB.sub (by first | with_reducible assumption | with_reducible exact RdB.mem (by with_reducible assumption) M | exact M.rdB (by first | ((repeat (first | with_reducible exact Has.here | with_reducible refine Has.there ?_)); done) | (repeat (first | exact Has.here | refine Has.there ?_))) | exact RdH.at (by assumption) (M.sel (by first | ((repeat (first | with_reducible exact Sel.refl | with_reducible exact Sel.nil | with_reducible exact Del.here | with_reducible apply Del.there | with_reducible apply Sel.cons | with_reducible apply Sel.drop)); done) | (repeat (first | exact Sel.refl | exact Sel.nil | exact Del.here | apply Del.there | apply Sel.cons | apply Sel.drop)))) | exact M.rdLit' (by first | ((repeat (first | with_reducible exact Has.here | with_reducible refine Has.there ?_)); done) | (repeat (first | exact Has.here | refine Has.there ?_))) | exact M.rdLent (by first | ((repeat (first | with_reducible exact Has.here | with_reducible refine Has.there ?_)); done) | (repeat (first | exact Has.here | refine Has.there ?_))) | exact RdB.nil _ _) (by omega) (by omega) | exact RdB.pre' (by first | with_reducible assumption | with_reducible exact RdB.mem (by with_reducible assumption) M | exact M.rdB (by first | ((repeat (first | with_reducible exact Has.here | with_reducible refine Has.there ?_)); done) | (repeat (first | exact Has.here | refine Has.there ?_))) | exact RdH.at (by assumption) (M.sel (by first | ((repeat (first | with_reducible exact Sel.refl | with_reducible exact Sel.nil | with_reducible exact Del.here | with_reducible apply Del.there | with_reducible apply Sel.cons | with_reducible apply Sel.drop)); done) | (repeat (first | exact Sel.refl | exact Sel.nil | exact Del.here | apply Del.there | apply Sel.cons | apply Sel.drop)))) | exact M.rdLit' (by first | ((repeat (first | with_reducible exact Has.here | with_reducible refine Has.there ?_)); done) | (repeat (first | exact Has.here | refine Has.there ?_))) | exact M.rdLent (by first | ((repeat (first | with_reducible exact Has.here | with_reducible refine Has.there ?_)); done) | (repeat (first | exact Has.here | refine Has.there ?_))) | exact RdB.nil _ _) (by omega) | exact RdB.suf (by first | with_reducible assumption | with_reducible exact RdB.mem (by with_reducible assumption) M | exact M.rdB (by first | ((repeat (first | with_reducible exact Has.here | with_reducible refine Has.there ?_)); done) | (repeat (first | exact Has.here | refine Has.there ?_))) | exact RdH.at (by assumption) (M.sel (by first | ((repeat (first | with_reducible exact Sel.refl | with_reducible exact Sel.nil | with_reducible exact Del.here | with_reducible apply Del.there | with_reducible apply Sel.cons | with_reducible apply Sel.drop)); done) | (repeat (first | exact Sel.refl | exact Sel.nil | exact Del.here | apply Del.there | apply Sel.cons | apply Sel.drop)))) | exact M.rdLit' (by first | ((repeat (first | with_reducible exact Has.here | with_reducible refine Has.there ?_)); done) | (repeat (first | exact Has.here | refine Has.there ?_))) | exact M.rdLent (by first | ((repeat (first | with_reducible exact Has.here | with_reducible refine Has.there ?_)); done) | (repeat (first | exact Has.here | refine Has.there ?_))) | exact RdB.nil _ _) (by omega)))) rfl ?_
                    rintro _ w ⟨rfl, x2, hgx, hsx, hox2, M⟩
                    rw [hgx]
                    rw [hxy] at hsx ⊢
                    refine WL.assign rfl rfl ?_
                    refine WL.nil ?_
                    refine WX.next ?_
                    refine W.sub [(1, _), (5, _), (7, _), (9, _), (10, _), (17, _), (18, _)] (.cons rfl (.cons rfl (.cons rfl (.cons rfl (.cons rfl (.cons rfl (.cons rfl .nil))))))) ?_
                    refine W.seq ?_
                    refine W.region ?_
                    refine WL.move rfl rfl ?_
                    refine WL.fieldR (off := 1) Try.underlying35 rfl rfl Try.sizeOf29 rfl rfl rfl ?_
                    refine WL.loadR Try.isAgg29 rfl M (by first | ((repeat (first | with_reducible exact Has.here | with_reducible refine Has.there ?_)); done) | (repeat (first | exact Has.here | refine Has.there ?_))) rfl rfl ?_
                    refine WL.fieldR (off := 2) Try.underlying35 rfl rfl Try.sizeOf29 rfl rfl rfl ?_
                    refine WL.loadR Try.isAgg29 rfl M (by first | ((repeat (first | with_reducible exact Has.here | with_reducible refine Has.there ?_)); done) | (repeat (first | exact Has.here | refine Has.there ?_))) rfl rfl ?_
                    refine WL.fieldR (off := 3) Try.underlying35 rfl rfl Try.sizeOf32 rfl rfl rfl ?_
                    refine WL.loadR Try.isAgg32 rfl M (by first | ((repeat (first | with_reducible exact Has.here | with_reducible refine Has.there ?_)); done) | (repeat (first | exact Has.here | refine Has.there ?_))) rfl rfl ?_
                    refine WL.call Try.call26 rfl (refEnd_ok y hoy (el l i).id (el l i).num hin.id hin.num _ _ (el l i).rep w0 w _ (M.sel (K := y.L ++ (Asr.row g33_2 5 (bs ((el l i).rep ++ [91, 92]) ++ sp33_2) :: Asr.row g12_4 35 [.int .i64 (el l i).kind, .int .u64 ((el l i).id : Int), .int .u64 ((el l i).num : Int), .slice (el l i).A (el l i).rep.length (el l i).cap] :: x2.L)) (by first | ((repeat (first | with_reducible exact Sel.refl | with_reducible exact Sel.nil | with_reducible exact Del.here | with_reducible apply Del.there | with_reducible apply Sel.cons | with_reducible apply Sel.drop)); done) | (repeat (first | exact Sel.refl | exact Sel.nil | exact Del.here | apply Del.there | apply Sel.cons | apply Sel.drop)))) (by intro w M; exact (by first | first | with_reducible assumption | with_reducible exact RdB.mem (by with_reducible assumption) M | exact M.rdB (by first | ((repeat (first | with_reducible exact Has.here | with_reducible refine Has.there ?_)); done) | (repeat (first | exact Has.here | refine Has.there ?_))) | exact RdH.at (by assumption) (M.sel (by first | ((repeat (first | with_reducible exact Sel.refl | with_reducible exact Sel.nil | with_reducible exact Del.here | with_reducible apply Del.there | with_reducible apply Sel.cons | with_reducible apply Sel.drop)); done) | (repeat (first | exact Sel.refl | exact Sel.nil | exact Del.here | apply Del.there | apply Sel.cons | apply Sel.drop)))) | exact M.rdLit' (by first | ((repeat (first | with_reducible exact Has.here | with_reducible refine Has.there ?_)); done) | (repeat (first | exact Has.here | refine Has.there ?_))) | exact M.rdLent (by first | ((repeat (first | with_reducible exact Has.here | with_reducible refine Has.there ?_)); done) | (repeat (first | exact Has.here | refine Has.there ?_))) | exact RdB.nil _ _ | exact RdB.sub (by first | with_reducible assumption | with_reducible exact RdB.mem (by with_reducible assumption) M | exact M.rdB (by first | ((repeat (first | with_reducible exact Has.here | with_reducible refine Has.there ?_)); done) | (repeat (first | exact Has.here | refine Has.there ?_))) | exact RdH.at (by assumption) (M.sel (by first | ((repeat (first | with_reducible exact Sel.refl | with_reducible exact Sel.nil | with_reducible exact Del.here | with_reducible apply Del.there | with_reducible apply Sel.cons | with_reducible apply Sel.drop)); done) | (repeat (first | exact Sel.refl | exact Sel.nil | exact Del.here | apply Del.there | apply Sel.cons | apply Sel.drop)))) | exact M.rdLit' (by first | ((repeat (first | with_reducible exact Has.here | with_reducible refine Has.there ?_)); done) | (repeat (first | exact Has.here | refine Has.there ?_))) | exact M.rdLent (by first | ((repeat (first | with_reducible exact Has.here | with_reducible refine Has.there ?_)); done) | (repeat (first | exact Has.here | refine Has.there ?_))) | exact RdB.nil _ _) (by omega) (by omega) | exact RdB.pre' (by first | with_reducible assumption | with_reducible exact RdB.mem (by with_reducible assumption) M | exact M.rdB (by first | ((repeat (first | with_reducible exact Has.here | with_reducible refine Has.there ?_)); done) | (repeat (first | exact Has.here | refine Has.there ?_))) | exact RdH.at (by assumption) (M.sel (by first | ((repeat (first | with_reducible exact Sel.refl | with_reducible exact Sel.nil | with_reducible exact Del.here | with_reducible apply Del.there | with_reducible apply Sel.cons | with_reducible apply Sel.drop)); done) | (repeat (first | exact Sel.refl | exact Sel.nil | exact Del.here | apply Del.there | apply Sel.cons | apply Sel.drop)))) | exact M.rdLit' (by first | ((repeat (first | with_reducible exact Has.here | with_reducible refine Has.there ?_)); done) | (repeat (first | exact Has.here | refine Has.there ?_))) | exact M.rdLent (by first | ((repeat (first | with_reducible exact Has.here | with_reducible refine Has.there ?_)); done) | (repeat (first | exact Has.here | refine Has.there ?_))) | exact RdB.nil _ _) (by omega) | exact RdB.suf (by first | with_reducible assumption | with_reducible exact RdB.mem (by with_reducible assumption) M | exact M.rdB (by first | ((repeat (first | with_reducible exact Has.here | with_reducible refine Has.there ?_)); done) | (repeat (first | exact Has.here | refine Has.there ?_))) | exact RdH.at (by assumption) (M.sel (by first | ((repeat (first | with_reducible exact Sel.refl | with_reducible exact Sel.nil | with_reducible exact Del.here | with_reducible apply Del.there | with_reducible apply Sel.cons | with_reducible apply Sel.drop)); done) | (repeat (first | exact Sel.refl | exact Sel.nil | exact Del.here | apply Del.there | apply Sel.cons | apply Sel.drop)))) | exact M.rdLit' (by first | ((repeat (first | with_reducible exact Has.here | with_reducible refine Has.there ?_)); done) | (repeat (first | exact Has.here | refine Has.there ?_))) | exact M.rdLent (by first | ((repeat (first | with_reducible exact Has.here | with_reducible refine Has.there ?_)); done) | (repeat (first | exact Has.here | refine Has.there ?_))) | exact RdB.nil _ _) (by omega)))) rfl ?_
                    rintro _ w ⟨rfl, y2, hgy, hsy, M⟩
                    rw [hgy]
                    refine WL.assign rfl rfl ?_
                    refine WL.nil ?_
                    refine WX.next ?_
                    refine W.sub [(1, _), (5, _), (7, _), (9, _), (10, _), (17, _), (18, _), (19, _)] (.cons rfl (.cons rfl (.cons rfl (.cons rfl (.cons rfl (.cons rfl (.cons rfl (.cons rfl .nil)))))))) ?_
                    refine W.seq ?_
                    refine W.region ?_
                    refine WL.move rfl rfl ?_
                    refine WL.fieldR (off := 3) Try.underlying35 rfl rfl Try.sizeOf32 rfl rfl rfl ?_
                    refine WL.loadR Try.isAgg32 rfl M (by first | ((repeat (first | with_reducible exact Has.here | with_reducible refine Has.there ?_)); done) | (repeat (first | exact Has.here | refine Has.there ?_))) rfl rfl ?_
                    refine WL.call Try.call27 rfl (Whole2 M (by first | ((repeat (first | with_reducible exact Has.here | with_reducible refine Has.there ?_)); done) | (repeat (first | exact Has.here | refine Has.there ?_))) (by first | first | with_reducible assumption | with_reducible exact RdB.mem (by with_reducible assumption) M | exact M.rdB (by first | ((repeat (first | with_reducible exact Has.here | with_reducible refine Has.there ?_)); done) | (repeat (first | exact Has.here | refine Has.there ?_))) | exact RdH.at (by assumption) (M.sel (by first | ((repeat (first | with_reducible exact Sel.refl | with_reducible exact Sel.nil | with_reducible exact Del.here | with_reducible apply Del.there | with_reducible apply Sel.cons | with_reducible apply Sel.drop)); done) | (repeat (first | exact Sel.refl | exact Sel.nil | exact Del.here | apply Del.there | apply Sel.cons | apply Sel.drop)))) | exact M.rdLit' (by first | ((repeat (first | with_reducible exact Has.here | with_reducible refine Has.there ?_)); done) | (repeat (first | exact Has.here | refine Has.there ?_))) | exact M.rdLent (by first | ((repeat (first | with_reducible exact Has.here | with_reducible refine Has.there ?_)); done) | (repeat (first | exact Has.here | refine Has.there ?_))) | exact RdB.nil _ _ | exact RdB.sub (by first | with_reducible assumption | with_reducible exact RdB.mem (by with_reducible assumption) M | exact M.rdB (by first | ((repeat (first | with_reducible exact Has.here | with_reducible refine Has.there ?_)); done) | (repeat (first | exact Has.here | refine Has.there ?_))) | exact RdH.at (by assumption) (M.sel (by first | ((repeat (first | with_reducible exact Sel.refl | with_reducible exact Sel.nil | with_reducible exact Del.here | with_reducible apply Del.there | with_reducible apply Sel.cons | with_reducible apply Sel.drop)); done) | (repeat (first | exact Sel.refl | exact Sel.nil | exact Del.here | apply Del.there | apply Sel.cons | apply Sel.drop)))) | exact M.rdLit' (by first | ((repeat (first | with_reducible exact Has.here | with_reducible refine Has.there ?_)); done) | (repeat (first | exact Has.here | refine Has.there ?_))) | exact M.rdLent (by first | ((repeat (first | with_reducible exact Has.here | with_reducible refine Has.there ?_)); done) | (repeat (first | exact Has.here | refine Has.there ?_))) | exact RdB.nil _ _) (by omega) (by omega) | exact RdB.pre' (by first | with_reducible assumption | with_reducible exact RdB.mem (by with_reducible assumption) M | exact M.rdB (by first | ((repeat (first | with_reducible exact Has.here | with_reducible refine Has.there ?_)); done) | (repeat (first | exact Has.here | refine Has.there ?_))) | exact RdH.at (by assumption) (M.sel (by first | ((repeat (first | with_reducible exact Sel.refl | with_reducible exact Sel.nil | with_reducible exact Del.here | with_reducible apply Del.there | with_reducible apply Sel.cons | with_reducible apply Sel.drop)); done) | (repeat (first | exact Sel.refl | exact Sel.nil | exact Del.here | apply Del.there | apply Sel.cons | apply Sel.drop)))) | exact M.rdLit' (by first | ((repeat (first | with_reducible exact Has.here | with_reducible refine Has.there ?_)); done) | (repeat (first | exact Has.here | refine Has.there ?_))) | exact M.rdLent (by first | ((repeat (first | with_reducible exact Has.here | with_reducible refine Has.there ?_)); done) | (repeat (first | exact Has.here | refine Has.there ?_))) | exact RdB.nil _ _) (by omega) | exact RdB.suf (by first | with_reducible assumption | with_reducible exact RdB.mem (by with_reducible assumption) M | exact M.rdB (by first | ((repeat (first | with_reducible exact Has.here | with_reducible refine Has.there ?_)); done) | (repeat (first | exact Has.here | refine Has.there ?_))) | exact RdH.at (by assumption) (M.sel (by first | ((repeat (first | with_reducible exact Sel.refl | with_reducible exact Sel.nil | with_reducible exact Del.here | with_reducible apply Del.there | with_reducible apply Sel.cons | with_reducible apply Sel.drop)); done) | (repeat (first | exact Sel.refl | exact Sel.nil | exact Del.here | apply Del.there | apply Sel.cons | apply Sel.drop)))) | exact M.rdLit' (by first | ((repeat (first | with_reducible exact Has.here | with_reducible refine Has.there ?_)); done) | (repeat (first | exact Has.here | refine Has.there ?_))) | exact M.rdLent (by first | ((repeat (first | with_reducible exact Has.here | with_reducible refine Has.there ?_)); done) | (repeat (first | exact Has.here | refine Has.there ?_))) | exact RdB.nil _ _) (by omega)) (by omega)) rfl ?_
                    rintro _ _ ⟨rfl, rfl⟩
                    refine WL.assign rfl rfl ?_
                    refine WL.nil ?_
                    refine WX.next ?_
                    refine W.sub [(1, _), (5, _), (7, _), (9, _), (17, _), (18, _), (19, _), (20, _)] (.cons rfl (.cons rfl (.cons rfl (.cons rfl (.cons rfl (.cons rfl (.cons rfl (.cons rfl .nil)))))))) ?_
                    refine W.seq ?_
                    refine W.region ?_
                    refine WL.move rfl rfl ?_
                    refine WL.call Try.call24 rfl (Spoil2 M (by first | ((repeat (first | with_reducible exact Del.here | with_reducible apply Del.there)); done) | (repeat (first | exact Del.here | apply Del.there))) (by omega)) rfl ?_
                    rintro _ w M
                    refine WL.nil ?_
                    refine WX.next ?_
                    refine W.sub [(1, _), (5, _), (7, _), (9, _), (18, _), (19, _), (20, _)] (.cons rfl (.cons rfl (.cons rfl (.cons rfl (.cons rfl (.cons rfl (.cons rfl .nil))))))) ?_
                    refine W.seq ?_
                    refine W.region ?_
                    refine WL.move rfl rfl ?_
                    refine WL.move rfl rfl ?_
                    refine WL.neI rfl rfl rfl ?_
                    refine WL.moveIf rfl rfl (fun c16 => ?_) (fun c16 => ?_)
                    · exact absurd rfl c16
                    · refine WL.on rfl rfl ?_
                      refine WL.move rfl rfl ?_
                      refine WL.on rfl rfl ?_
                      refine WL.notP rfl rfl ?_
                      refine WL.pickF rfl rfl rfl ?_
                      refine WL.nil ?_
                      refine WX.next ?_
                      refine W.sub [(1, _), (5, _), (7, _), (9, _), (171, _)] (.cons rfl (.cons rfl (.cons rfl (.cons rfl (.cons rfl .nil))))) ?_
                      refine W.ite rfl (fun c17 => ?_) (fun c17 => ?_)
                      · exact absurd trivial c17
                      · refine W.skip ?_
                        refine WX.blockNormal ?_
                        refine WX.join ((x2, y2)) (by (repeat' (first | exact envSub.nil | refine envSub.cons ?_ ?_)) <;> first | rfl | (refine congrArg some ?_; refine congrArg (Value.int _) ?_; first | omega | (dsimp only; omega)) | (simp; done) | (refine congrArg some ?_; dsimp only; congr 1; omega) | (simp; omega)) ⟨M.sel (by first | ((repeat (first | with_reducible exact Sel.refl | with_reducible exact Sel.nil | with_reducible exact Del.here | with_reducible apply Del.there | with_reducible apply Sel.cons | with_reducible apply Sel.drop)); done) | (repeat (first | exact Sel.refl | exact Sel.nil | exact Del.here | apply Del.there | apply Sel.cons | apply Sel.drop))), ⟨⟨hox2, (by rw [hsx, ← hxy]; exact hfx.end_ _ _ _)⟩, hsx.trans hsy.symm⟩⟩
                  · (try simp only [Bool.not_eq_true'] at c15); (try simp only [Bool.not_eq_false'] at c15); (try simp only [decide_eq_true_eq] at c15); (try simp only [decide_eq_false_iff_not] at c15)
                    refine W.seq ?_
                    refine W.region ?_
                    refine WL.move rfl rfl ?_
                    refine WL.call Try.call19 rfl (Save_ok x hox w0 w _ (M.sel (K := x.L ++ (y.L ++ [])) (by first | ((repeat (first | with_reducible exact Sel.refl | with_reducible exact Sel.nil | with_reducible exact Del.here | with_reducible apply Del.there | with_reducible apply Sel.cons | with_reducible apply Sel.drop)); done) | (repeat (first | exact Sel.refl | exact Sel.nil | exact Del.here | apply Del.there | apply Sel.cons | apply Sel.drop))))) rfl ?_
                    rintro _ w ⟨A6, k6, rfl, M⟩
                    refine WL.assign rfl rfl ?_
                    refine WL.nil ?_
                    refine WX.next ?_
                    refine W.sub [(1, _), (7, _), (9, _), (21, _)] (.cons rfl (.cons rfl (.cons rfl (.cons rfl .nil)))) ?_
                    refine W.seq ?_
                    refine W.seq ?_
                    refine W.region ?_
                    refine WL.move rfl rfl ?_
                    refine WL.move rfl rfl ?_
                    refine WL.call Try.call28 rfl (refSave_ok y hoy w0 w _ (M.sel (K := y.L ++ (Asr.own 5 1 A6 (saveB x.s).length k6 (bs (saveB x.s)) :: x.L)) (by first | ((repeat (first | with_reducible exact Sel.refl | with_reducible exact Sel.nil | with_reducible exact Del.here | with_reducible apply Del.there | with_reducible apply Sel.cons | with_reducible apply Sel.drop)); done) | (repeat (first | exact Sel.refl | exact Sel.nil | exact Del.here | apply Del.there | apply Sel.cons | apply Sel.drop))))) rfl ?_
                    rintro _ w ⟨A7, k7, rfl, M⟩
                    have hsl := saveB_len hox.s
                    refine WL.call Try.call13 rfl (Same_ok (l1 := saveB x.s) (l2 := saveB y.s) (by first | first | with_reducible assumption | with_reducible exact RdB.mem (by with_reducible assumption) M | exact M.rdB (by first | ((repeat (first | with_reducible exact Has.here | with_reducible refine Has.there ?_)); done) | (repeat (first | exact Has.here | refine Has.there ?_))) | exact RdH.at (by assumption) (M.sel (by first | ((repeat (first | with_reducible exact Sel.refl | with_reducible exact Sel.nil | with_reducible exact Del.here | with_reducible apply Del.there | with_reducible apply Sel.cons | with_reducible apply Sel.drop)); done) | (repeat (first | exact Sel.refl | exact Sel.nil | exact Del.here | apply Del.there | apply Sel.cons | apply Sel.drop)))) | exact M.rdLit' (by first | ((repeat (first | with_reducible exact Has.here | with_reducible refine Has.there ?_)); done) | (repeat (first | exact Has.here | refine Has.there ?_))) | exact M.rdLent (by first | ((repeat (first | with_reducible exact Has.here | with_reducible refine Has.there ?_)); done) | (repeat (first | exact Has.here | refine Has.there ?_))) | exact RdB.nil _ _ | exact RdB.sub (by first | with_reducible assumption | with_reducible exact RdB.mem (by with_reducible assumption) M | exact M.rdB (by first | ((repeat (first | with_reducible exact Has.here | with_reducible refine Has.there ?_)); done) | (repeat (first | exact Has.here | refine Has.there ?_))) | exact RdH.at (by assumption) (M.sel (by first | ((repeat (first | with_reducible exact Sel.refl | with_reducible exact Sel.nil | with_reducible exact Del.here | with_reducible apply Del.there | with_reducible apply Sel.cons | with_reducible apply Sel.drop)); done) | (repeat (first | exact Sel.refl | exact Sel.nil | exact Del.here | apply Del.there | apply Sel.cons | apply Sel.drop)))) | exact M.rdLit' (by first | ((repeat (first | with_reducible exact Has.here | with_reducible refine Has.there ?_)); done) | (repeat (first | exact Has.here | refine Has.there ?_))) | exact M.rdLent (by first | ((repeat (first | with_reducible exact Has.here | with_reducible refine Has.there ?_)); done) | (repeat (first | exact Has.here | refine Has.there ?_))) | exact RdB.nil _ _) (by omega) (by omega) | exact RdB.pre' (by first | with_reducible assumption | with_reducible exact RdB.mem (by with_reducible assumption) M | exact M.rdB (by first | ((repeat (first | with_reducible exact Has.here | with_reducible refine Has.there ?_)); done) | (repeat (first | exact Has.here | refine Has.there ?_))) | exact RdH.at (by assumption) (M.sel (by first | ((repeat (first | with_reducible exact Sel.refl | with_reducible exact Sel.nil | with_reducible exact Del.here | with_reducible apply Del.there | with_reducible apply Sel.cons | with_reducible apply Sel.drop)); done) | (repeat (first | exact Sel.refl | exact Sel.nil | exact Del.here | apply Del.there | apply Sel.cons | apply Sel.drop)))) | exact M.rdLit' (by first | ((repeat (first | with_reducible exact Has.here | with_reducible refine Has.there ?_)); done) | (repeat (first | exact Has.here | refine Has.there ?_))) | exact M.rdLent (by first | ((repeat (first | with_reducible exact Has.here | with_reducible refine Has.there ?_)); done) | (repeat (first | exact Has.here | refine Has.there ?_))) | exact RdB.nil _ _) (by omega) | exact RdB.suf (by first | with_reducible assumption | with_reducible exact RdB.mem (by with_reducible assumption) M | exact M.rdB (by first | ((repeat (first | with_reducible exact Has.here | with_reducible refine Has.there ?_)); done) | (repeat (first | exact Has.here | refine Has.there ?_))) | exact RdH.at (by assumption) (M.sel (by first | ((repeat (first | with_reducible exact Sel.refl | with_reducible exact Sel.nil | with_reducible exact Del.here | with_reducible apply Del.there | with_reducible apply Sel.cons | with_reducible apply Sel.drop)); done) | (repeat (first | exact Sel.refl | exact Sel.nil | exact Del.here | apply Del.there | apply Sel.cons | apply Sel.drop)))) | exact M.rdLit' (by first | ((repeat (first | with_reducible exact Has.here | with_reducible refine Has.there ?_)); done) | (repeat (first | exact Has.here | refine Has.there ?_))) | exact M.rdLent (by first | ((repeat (first | with_reducible exact Has.here | with_reducible refine Has.there ?_)); done) | (repeat (first | exact Has.here | refine Has.there ?_))) | exact RdB.nil _ _) (by omega)) (by first | first | with_reducible assumption | with_reducible exact RdB.mem (by with_reducible assumption) M | exact M.rdB (by first | ((repeat (first | with_reducible exact Has.here | with_reducible refine Has.there ?_)); done) | (repeat (first | exact Has.here | refine Has.there ?_))) | exact RdH.at (by assumption) (M.sel (by first | ((repeat (first | with_reducible exact Sel.refl | with_reducible exact Sel.nil | with_reducible exact Del.here | with_reducible apply Del.there | with_reducible apply Sel.cons | with_reducible apply Sel.drop)); done) | (repeat (first | exact Sel.refl | exact Sel.nil | exact Del.here | apply Del.there | apply Sel.cons | apply Sel.drop)))) | exact M.rdLit' (by first | ((repeat (first | with_reducible exact Has.here | with_reducible refine Has.there ?_)); done) | (repeat (first | exact Has.here | refine Has.there ?_))) | exact M.rdLent (by first | ((repeat (first | with_reducible exact Has.here | with_reducible refine Has.there ?_)); done) | (repeat (first | exact Has.here | refine Has.there ?_))) | exact RdB.nil _ _ | exact RdB.sub (by first | with_reducible assumption | with_reducible exact RdB.mem (by with_reducible assumption) M | exact M.rdB (by first | ((repeat (first | with_reducible exact Has.here | with_reducible refine Has.there ?_)); done) | (repeat (first | exact Has.here | refine Has.there ?_))) | exact RdH.at (by assumption) (M.sel (by first | ((repeat (first | with_reducible exact Sel.refl | with_reducible exact Sel.nil | with_reducible exact Del.here | with_reducible apply Del.there | with_reducible apply Sel.cons | with_reducible apply Sel.drop)); done) | (repeat (first | exact Sel.refl | exact Sel.nil | exact Del.here | apply Del.there | apply Sel.cons | apply Sel.drop)))) | exact M.rdLit' (by first | ((repeat (first | with_reducible exact Has.here | with_reducible refine Has.there ?_)); done) | (repeat (first | exact Has.here | refine Has.there ?_))) | exact M.rdLent (by first | ((repeat (first | with_reducible exact Has.here | with_reducible refine Has.there ?_)); done) | (repeat (first | exact Has.here | refine Has.there ?_))) | exact RdB.nil _ _) (by omega) (by omega) | exact RdB.pre' (by first | with_reducible assumption | with_reducible exact RdB.mem (by with_reducible assumption) M | exact M.rdB (by first | ((repeat (first | with_reducible exact Has.here | with_reducible refine Has.there ?_)); done) | (repeat (first | exact Has.here | refine Has.there ?_))) | exact RdH.at (by assumption) (M.sel (by first | ((repeat (first | with_reducible exact Sel.refl | with_reducible exact Sel.nil | with_reducible exact Del.here | with_reducible apply Del.there | with_reducible apply Sel.cons | with_reducible apply Sel.drop)); done) | (repeat (first | exact Sel.refl | exact Sel.nil | exact Del.here | apply Del.there | apply Sel.cons | apply Sel.drop)))) | exact M.rdLit' (by first | ((repeat (first | with_reducible exact Has.here | with_reducible refine Has.there ?_)); done) | (repeat (first | exact Has.here | refine Has.there ?_))) | exact M.rdLent (by first | ((repeat (first | with_reducible exact Has.here | with_reducible refine Has.there ?_)); done) | (repeat (first | exact Has.here | refine Has.there ?_))) | exact RdB.nil _ _) (by omega) | exact RdB.suf (by first | with_reducible assumption | with_reducible exact RdB.mem (by with_reducible assumption) M | exact M.rdB (by first | ((repeat (first | with_reducible exact Has.here | with_reducible refine Has.there ?_)); done) | (repeat (first | exact Has.here | refine Has.there ?_))) | exact RdH.at (by assumption) (M.sel (by first | ((repeat (first | with_reducible exact Sel.refl | with_reducible exact Sel.nil | with_reducible exact Del.here | with_reducible apply Del.there | with_reducible apply Sel.cons | with_reducible apply Sel.drop)); done) | (repeat (first | exact Sel.refl | exact Sel.nil | exact Del.here | apply Del.there | apply Sel.cons | apply Sel.drop)))) | exact M.rdLit' (by first | ((repeat (first | with_reducible exact Has.here | with_reducible refine Has.there ?_)); done) | (repeat (first | exact Has.here | refine Has.there ?_))) | exact M.rdLent (by first | ((repeat (first | with_reducible exact Has.here | with_reducible refine Has.there ?_)); done) | (repeat (first | exact Has.here | refine Has.there ?_))) | exact RdB.nil _ _) (by omega))) rfl ?_
                    rintro _ _ ⟨rfl, rfl⟩
                    refine WL.notP rfl rfl ?_
                    refine WL.nil ?_
                    refine WX.next ?_
                    refine W.sub [(1, _), (7, _), (9, _), (21, _), (79, _)] (.cons rfl (.cons rfl (.cons rfl (.cons rfl (.cons rfl .nil))))) ?_
                    refine W.ite rfl (fun c18 => ?_) (fun c18 => ?_)
                    · exact absurd (by rw [hxy]) c18
                    · refine W.skip ?_
                      refine WX.next ?_
                      refine W.seq ?_
                      refine W.region ?_
                      refine WL.move rfl rfl ?_
                      refine WL.call Try.call21 rfl (Load_ok (saveB x.s) A6 k6 w (by first | first | with_reducible assumption | with_reducible exact RdB.mem (by with_reducible assumption) M | exact M.rdB (by first | ((repeat (first | with_reducible exact Has.here | with_reducible refine Has.there ?_)); done) | (repeat (first | exact Has.here | refine Has.there ?_))) | exact RdH.at (by assumption) (M.sel (by first | ((repeat (first | with_reducible exact Sel.refl | with_reducible exact Sel.nil | with_reducible exact Del.here | with_reducible apply Del.there | with_reducible apply Sel.cons | with_reducible apply Sel.drop)); done) | (repeat (first | exact Sel.refl | exact Sel.nil | exact Del.here | apply Del.there | apply Sel.cons | apply Sel.drop)))) | exact M.rdLit' (by first | ((repeat (first | with_reducible exact Has.here | with_reducible refine Has.there ?_)); done) | (repeat (first | exact Has.here | refine Has.there ?_))) | exact M.rdLent (by first | ((repeat (first | with_reducible exact Has.here | with_reducible refine Has.there ?_)); done) | (repeat (first | exact Has.here | refine Has.there ?_))) | exact RdB.nil _ _ | exact RdB.sub (by first | with_reducible assumption | with_reducible exact RdB.mem (by with_reducible assumption) M | exact M.rdB (by first | ((repeat (first | with_reducible exact Has.here | with_reducible refine Has.there ?_)); done) | (repeat (first | exact Has.here | refine Has.there ?_))) | exact RdH.at (by assumption) (M.sel (by first | ((repeat (first | with_reducible exact Sel.refl | with_reducible exact Sel.nil | with_reducible exact Del.here | with_reducible apply Del.there | with_reducible apply Sel.cons | with_reducible apply Sel.drop)); done) | (repeat (first | exact Sel.refl | exact Sel.nil | exact Del.here | apply Del.there | apply Sel.cons | apply Sel.drop)))) | exact M.rdLit' (by first | ((repeat (first | with_reducible exact Has.here | with_reducible refine Has.there ?_)); done) | (repeat (first | exact Has.here | refine Has.there ?_))) | exact M.rdLent (by first | ((repeat (first | with_reducible exact Has.here | with_reducible refine Has.there ?_)); done) | (repeat (first | exact Has.here | refine Has.there ?_))) | exact RdB.nil _ _) (by omega) (by omega) | exact RdB.pre' (by first | with_reducible assumption | with_reducible exact RdB.mem (by with_reducible assumption) M | exact M.rdB (by first | ((repeat (first | with_reducible exact Has.here | with_reducible refine Has.there ?_)); done) | (repeat (first | exact Has.here | refine Has.there ?_))) | exact RdH.at (by assumption) (M.sel (by first | ((repeat (first | with_reducible exact Sel.refl | with_reducible exact Sel.nil | with_reducible exact Del.here | with_reducible apply Del.there | with_reducible apply Sel.cons | with_reducible apply Sel.drop)); done) | (repeat (first | exact Sel.refl | exact Sel.nil | exact Del.here | apply Del.there | apply Sel.cons | apply Sel.drop)))) | exact M.rdLit' (by first | ((repeat (first | with_reducible exact Has.here | with_reducible refine Has.there ?_)); done) | (repeat (first | exact Has.here | refine Has.there ?_))) | exact M.rdLent (by first | ((repeat (first | with_reducible exact Has.here | with_reducible refine Has.there ?_)); done) | (repeat (first | exact Has.here | refine Has.there ?_))) | exact RdB.nil _ _) (by omega) | exact RdB.suf (by first | with_reducible assumption | with_reducible exact RdB.mem (by with_reducible assumption) M | exact M.rdB (by first | ((repeat (first | with_reducible exact Has.here | with_reducible refine Has.there ?_)); done) | (repeat (first | exact Has.here | refine Has.there ?_))) | exact RdH.at (by assumption) (M.sel (by first | ((repeat (first | with_reducible exact Sel.refl | with_reducible exact Sel.nil | with_reducible exact Del.here | with_reducible apply Del.there | with_reducible apply Sel.cons | with_reducible apply Sel.drop)); done) | (repeat (first | exact Sel.refl | exact Sel.nil | exact Del.here | apply Del.there | apply Sel.cons | apply Sel.drop)))) | exact M.rdLit' (by first | ((repeat (first | with_reducible exact Has.here | with_reducible refine Has.there ?_)); done) | (repeat (first | exact Has.here | refine Has.there ?_))) | exact M.rdLent (by first | ((repeat (first | with_reducible exact Has.here | with_reducible refine Has.there ?_)); done) | (repeat (first | exact Has.here | refine Has.there ?_))) | exact RdB.nil _ _) (by omega)) (by omega)) rfl ?_
                      rintro _ w h
                      obtain ⟨x2, hx2, rfl, hox2, m⟩ : ∃ x2 : OT, x2.s = ⟨x.s.most, x.s.l, 0, 0⟩ ∧ _ = Value.tuple #[.pointer (some ⟨x2.g, 0, none⟩), .int .i64 0] ∧ x2.ok ∧ Mem _ w x2.L := by
                        rw [LoadAns, load_back hox.s] at h
                        rcases h with ⟨h, _⟩ | ⟨x2, h, h3, h4, h5⟩
                        · cases h
                        · exact ⟨x2, (Option.some.inj h).symm, h3, h4, h5⟩
                      replace M := M.callN m; clear m
                      refine WL.move rfl rfl ?_
                      refine WL.extractL rfl rfl rfl ?_
                      refine WL.extractL rfl rfl rfl ?_
                      refine WL.assign rfl rfl ?_
                      refine WL.assign rfl rfl ?_
                      refine WL.nil ?_
                      refine WX.next ?_
                      refine W.sub [(1, _), (7, _), (9, _), (22, _), (23, _)] (.cons rfl (.cons rfl (.cons rfl (.cons rfl (.cons rfl .nil))))) ?_
                      refine W.seq ?_
                      refine W.seq ?_
                      refine W.region ?_
                      refine WL.move rfl rfl ?_
                      refine WL.eqNilF Try.underlying25 rfl rfl rfl ?_
                      refine WL.move rfl rfl ?_
                      refine WL.on rfl rfl ?_
                      refine WL.move rfl rfl ?_
                      refine WL.on rfl rfl ?_
                      refine WL.neI rfl rfl rfl ?_
                      refine WL.pickF rfl rfl rfl ?_
                      refine WL.nil ?_
                      refine WX.next ?_
                      refine W.sub [(1, _), (7, _), (9, _), (22, _), (90, _)] (.cons rfl (.cons rfl (.cons rfl (.cons rfl (.cons rfl .nil))))) ?_
                      refine W.ite rfl (fun c20 => ?_) (fun c20 => ?_)
                      · exact absurd rfl c20
                      · refine W.skip ?_
                        refine WX.next ?_
                        refine W.seq ?_
                        refine W.region ?_
                        refine WL.move rfl rfl ?_
                        refine WL.assign rfl rfl ?_
                        refine WL.nil ?_
                        refine WX.next ?_
                        refine W.sub [(1, _), (5, _), (7, _), (9, _)] (.cons rfl (.cons rfl (.cons rfl (.cons rfl .nil)))) ?_
                        refine W.seq ?_
                        obtain ⟨gy, mosty, Ay, capy, cy, begy, wasy⟩ := y
                        replace M := M.sel (K := Asr.row gy 65 [.int .i64 (mosty : Int), .slice Ay cy.length capy, .int .i64 (begy : Int), .int .i64 (wasy : Int)] :: Asr.lst clientE Ay capy cy :: Asr.star (cy.map ClX.O) :: x2.L) (by first | ((repeat (first | with_reducible exact Sel.refl | with_reducible exact Sel.nil | with_reducible exact Del.here | with_reducible apply Del.there | with_reducible apply Sel.cons | with_reducible apply Sel.drop)); done) | (repeat (first | exact Sel.refl | exact Sel.nil | exact Del.here | apply Del.there | apply Sel.cons | apply Sel.drop)))
                        refine W.region ?_
                        refine WL.move rfl rfl ?_
                        refine WL.nilCheck rfl rfl ?_
                        refine WL.fieldR (off := 2) Try.underlying65 rfl rfl Try.sizeOf3 rfl rfl rfl ?_
                        refine WL.storeR Try.sizeOf3 rfl rfl rfl M (by first | ((repeat (first | with_reducible exact Has.here | with_reducible refine Has.there ?_)); done) | (repeat (first | exact Has.here | refine Has.there ?_))) (by repeat (first | exact SetAt.zero | apply SetAt.succ)) (by first | ((repeat (first | with_reducible exact Upd.here | with_reducible apply Upd.there)); done) | (repeat (first | exact Upd.here | apply Upd.there))) ?_
                        intro w M
                        refine WL.nil ?_
                        refine WX.next ?_
                        refine W.sub [(1, _), (5, _), (7, _), (9, _)] (.cons rfl (.cons rfl (.cons rfl (.cons rfl .nil)))) ?_
                        refine W.region ?_
                        refine WL.move rfl rfl ?_
                        refine WL.nilCheck rfl rfl ?_
                        refine WL.fieldR (off := 3) Try.underlying65 rfl rfl Try.sizeOf3 rfl rfl rfl ?_
                        refine WL.storeR Try.sizeOf3 rfl rfl rfl M (by first | ((repeat (first | with_reducible exact Has.here | with_reducible refine Has.there ?_)); done) | (repeat (first | exact Has.here | refine Has.there ?_))) (by repeat (first | exact SetAt.zero | apply SetAt.succ)) (by first | ((repeat (first | with_reducible exact Upd.here | with_reducible apply Upd.there)); done) | (repeat (first | exact Upd.here | apply Upd.there))) ?_
                        intro w M
                        refine WL.nil ?_
                        refine WX.blockNormal ?_
                        refine WX.join ((x2, ⟨gy, mosty, Ay, capy, cy, 0, 0⟩)) (by (repeat' (first | exact envSub.nil | refine envSub.cons ?_ ?_)) <;> first | rfl | (refine congrArg some ?_; refine congrArg (Value.int _) ?_; first | omega | (dsimp only; omega)) | (simp; done) | (refine congrArg some ?_; dsimp only; congr 1; omega) | (simp; omega)) ⟨M.sel (by first | ((repeat (first | with_reducible exact Sel.refl | with_reducible exact Sel.nil | with_reducible exact Del.here | with_reducible apply Del.there | with_reducible apply Sel.cons | with_reducible apply Sel.drop)); done) | (repeat (first | exact Sel.refl | exact Sel.nil | exact Del.here | apply Del.there | apply Sel.cons | apply Sel.drop))), ⟨⟨hox2, (by rw [hx2]; exact ⟨Nat.zero_le _, Nat.zero_le _⟩)⟩, (by rw [hx2, hxy]; rfl)⟩⟩
              clear M; rintro (⟨x3, y3⟩) w ⟨M, ⟨⟨hox3, hfx3⟩, hxy3⟩⟩; dsimp only at M hox3 hfx3 hxy3 ⊢
              refine W.sub [(1, _), (5, _), (7, _), (9, _)] (.cons rfl (.cons rfl (.cons rfl (.cons rfl .nil)))) ?_
              refine W.seq ?_
              refine W.region ?_
              refine WL.move rfl rfl ?_
              refine WL.call Try.call18 rfl (Counts_ok x3 w0 w _ M) rfl ?_
              rintro _ w ⟨rfl, M⟩
              obtain ⟨gy, mosty, Ay, capy, cy, begy, wasy⟩ := y3
              have hyl : x3.s.l = cy.map ClX.key := congrArg Tb.l hxy3
              have hyb : x3.begun = begy := congrArg Tb.begun hxy3
              have hyw : x3.was = wasy := congrArg Tb.was hxy3
              have hx3l := hox3.s.len
              have hx3m := hox3.s.most
              refine WL.move rfl rfl ?_
              refine WL.extractL rfl rfl rfl ?_
              refine WL.extractL rfl rfl rfl ?_
              refine WL.assign rfl rfl ?_
              refine WL.assign rfl rfl ?_
              refine WL.nil ?_
              refine WX.next ?_
              refine W.sub [(1, _), (5, _), (7, _), (9, _), (24, _), (25, _)] (.cons rfl (.cons rfl (.cons rfl (.cons rfl (.cons rfl (.cons rfl .nil)))))) ?_
              refine W.seq ?_
              refine W.drawM ([Asr.row gy 65 [.int .i64 (mosty : Int), .slice Ay cy.length capy, .int .i64 (begy : Int), .int .i64 (wasy : Int)]]) (by kernel_rfl) (fun j => [1, 9, 17].contains j) M (by first | ((repeat (first | with_reducible exact Sel.refl | with_reducible exact Sel.nil | with_reducible exact Del.here | with_reducible apply Del.there | with_reducible apply Sel.cons | with_reducible apply Sel.drop)); done) | (repeat (first | exact Sel.refl | exact Sel.nil | exact Del.here | apply Del.there | apply Sel.cons | apply Sel.drop))) ?_
              clear M; intro M
              apply DG.pure_ [0, 2, 3, 4] 20 rfl (by kernel_rfl) (by kernel_rfl)
              · intro w
                refine WL.move rfl rfl ?_
                refine WL.move rfl rfl ?_
                refine WL.nilCheck rfl rfl ?_
                refine WL.fieldR (off := 1) Try.underlying65 rfl rfl Try.sizeOf41 rfl rfl rfl ?_
                exact Chain.end_ rfl
              apply DG.take [5] 19 rfl (by kernel_rfl) (by kernel_rfl) (M.sel (by first | ((repeat (first | with_reducible exact Sel.refl | with_reducible exact Sel.nil | with_reducible exact Del.here | with_reducible apply Del.there | with_reducible apply Sel.cons | with_reducible apply Sel.drop)); done) | (repeat (first | exact Sel.refl | exact Sel.nil | exact Del.here | apply Del.there | apply Sel.cons | apply Sel.drop))))
              · intro w M
                refine WL.loadR Try.isAgg41 rfl M (by first | ((repeat (first | with_reducible exact Has.here | with_reducible refine Has.there ?_)); done) | (repeat (first | exact Has.here | refine Has.there ?_))) rfl rfl ?_
                exact Chain.end_ rfl
              refine DG.step 1 18 rfl (by kernel_rfl) ?_
              refine WL.call Try.call15 rfl (Clients_ok x3 hox3 w0 _ _ M) rfl ?_
              rintro _ w ⟨B3, b3, ds, rfl, hds, M⟩
              have hdl : ds.length ≤ 64 := by
                have h1 := congrArg List.length hds
                rw [List.length_map] at h1
                omega
              replace M := M.sel (K := Asr.row gy 65 [.int .i64 (mosty : Int), .slice Ay cy.length capy, .int .i64 (begy : Int), .int .i64 (wasy : Int)] :: Asr.lst clientE B3 b3 ds :: Asr.star (ds.map ClX.O) :: Asr.lst clientE Ay capy cy :: Asr.star (cy.map ClX.O) :: x3.L) (by first | ((repeat (first | with_reducible exact Sel.refl | with_reducible exact Sel.nil | with_reducible exact Del.here | with_reducible apply Del.there | with_reducible apply Sel.cons | with_reducible apply Sel.drop)); done) | (repeat (first | exact Sel.refl | exact Sel.nil | exact Del.here | apply Del.there | apply Sel.cons | apply Sel.drop)))
              refine DG.go (G := fun j => [1, 9, 17].contains j) (i := 1) (f' := 18) (done := [0, 2, 3, 4, 5]) (fun _ => M.sel (by first | ((repeat (first | with_reducible exact Sel.refl | with_reducible exact Sel.nil | with_reducible exact Del.here | with_reducible apply Del.there | with_reducible apply Sel.cons | with_reducible apply Sel.drop)); done) | (repeat (first | exact Sel.refl | exact Sel.nil | exact Del.here | apply Del.there | apply Sel.cons | apply Sel.drop)))) ?_
              refine DG.step 6 17 rfl (by kernel_rfl) ?_
              refine WL.call Try.call16 rfl (Same13_ok (cs := ds) (ds := cy) (by first | with_reducible assumption | with_reducible exact RdL.mem (by with_reducible assumption) M | exact M.rdL (by first | ((repeat (first | with_reducible exact Has.here | with_reducible refine Has.there ?_)); done) | (repeat (first | exact Has.here | refine Has.there ?_))) | exact RdLH.at (by assumption) (M.sel (by first | ((repeat (first | with_reducible exact Sel.refl | with_reducible exact Sel.nil | with_reducible exact Del.here | with_reducible apply Del.there | with_reducible apply Sel.cons | with_reducible apply Sel.drop)); done) | (repeat (first | exact Sel.refl | exact Sel.nil | exact Del.here | apply Del.there | apply Sel.cons | apply Sel.drop)))) | exact RdL.nil _ _ _) (by first | with_reducible assumption | with_reducible exact RdL.mem (by with_reducible assumption) M | exact M.rdL (by first | ((repeat (first | with_reducible exact Has.here | with_reducible refine Has.there ?_)); done) | (repeat (first | exact Has.here | refine Has.there ?_))) | exact RdLH.at (by assumption) (M.sel (by first | ((repeat (first | with_reducible exact Sel.refl | with_reducible exact Sel.nil | with_reducible exact Del.here | with_reducible apply Del.there | with_reducible apply Sel.cons | with_reducible apply Sel.drop)); done) | (repeat (first | exact Sel.refl | exact Sel.nil | exact Del.here | apply Del.there | apply Sel.cons | apply Sel.drop)))) | exact RdL.nil _ _ _) (M.reads (by first | ((repeat (first | with_reducible exact Has.here | with_reducible refine Has.there ?_)); done) | (repeat (first | exact Has.here | refine Has.there ?_)))) (M.reads (by first | ((repeat (first | with_reducible exact Has.here | with_reducible refine Has.there ?_)); done) | (repeat (first | exact Has.here | refine Has.there ?_)))) (by omega)) rfl ?_
              rintro _ w ⟨rfl, m⟩
              replace M := M.call0 m; clear m
              refine DG.go (G := fun j => [1, 9, 17].contains j) (i := 6) (f' := 17) (done := [0, 2, 3, 4, 5, 1]) (fun h => by cases h) ?_
              apply DG.pure_ [7] 16 rfl (by kernel_rfl) (by kernel_rfl)
              · intro w
                refine WL.notP rfl rfl ?_
                exact Chain.end_ rfl
              refine DG.knowP (t := 184) rfl (fun c21 => ?_) (fun c21 => ?_)
              · exact absurd (hds.trans hyl) c21
              · apply DG.pure_ [8, 10, 11, 12] 12 rfl (by kernel_rfl) (by kernel_rfl)
                · intro w
                  refine WL.move rfl rfl ?_
                  refine WL.on rfl rfl ?_
                  refine WL.move rfl rfl ?_
                  refine WL.on rfl rfl ?_
                  refine WL.nilCheck rfl rfl ?_
                  refine WL.on rfl rfl ?_
                  refine WL.fieldR (off := 2) Try.underlying65 rfl rfl Try.sizeOf3 rfl rfl rfl ?_
                  exact Chain.end_ rfl
                apply DG.take [13] 11 rfl (by kernel_rfl) (by kernel_rfl) (M.sel (by first | ((repeat (first | with_reducible exact Sel.refl | with_reducible exact Sel.nil | with_reducible exact Del.here | with_reducible apply Del.there | with_reducible apply Sel.cons | with_reducible apply Sel.drop)); done) | (repeat (first | exact Sel.refl | exact Sel.nil | exact Del.here | apply Del.there | apply Sel.cons | apply Sel.drop))))
                · intro w M
                  refine WL.on rfl rfl ?_
                  refine WL.loadR Try.isAgg3 rfl M (by first | ((repeat (first | with_reducible exact Has.here | with_reducible refine Has.there ?_)); done) | (repeat (first | exact Has.here | refine Has.there ?_))) rfl rfl ?_
                  exact Chain.end_ rfl
                apply DG.take [9, 14, 15] 8 rfl (by kernel_rfl) (by kernel_rfl) (M.sel (by first | ((repeat (first | with_reducible exact Sel.refl | with_reducible exact Sel.nil | with_reducible exact Del.here | with_reducible apply Del.there | with_reducible apply Sel.cons | with_reducible apply Sel.drop)); done) | (repeat (first | exact Sel.refl | exact Sel.nil | exact Del.here | apply Del.there | apply Sel.cons | apply Sel.drop))))
                · intro w M
                  refine WL.on rfl rfl ?_
                  refine WL.move rfl rfl ?_
                  refine WL.on rfl rfl ?_
                  refine WL.neI rfl rfl rfl ?_
                  refine WL.pickF rfl rfl rfl ?_
                  exact Chain.end_ rfl
                refine DG.knowP (t := 192) rfl (fun c22 => ?_) (fun c22 => ?_)
                · exact absurd (by rw [hyb]) c22
                · apply DG.pure_ [16, 18, 19, 20] 4 rfl (by kernel_rfl) (by kernel_rfl)
                  · intro w
                    refine WL.move rfl rfl ?_
                    refine WL.on rfl rfl ?_
                    refine WL.move rfl rfl ?_
                    refine WL.on rfl rfl ?_
                    refine WL.nilCheck rfl rfl ?_
                    refine WL.on rfl rfl ?_
                    refine WL.fieldR (off := 3) Try.underlying65 rfl rfl Try.sizeOf3 rfl rfl rfl ?_
                    exact Chain.end_ rfl
                  apply DG.take [21] 3 rfl (by kernel_rfl) (by kernel_rfl) (M.sel (by first | ((repeat (first | with_reducible exact Sel.refl | with_reducible exact Sel.nil | with_reducible exact Del.here | with_reducible apply Del.there | with_reducible apply Sel.cons | with_reducible apply Sel.drop)); done) | (repeat (first | exact Sel.refl | exact Sel.nil | exact Del.here | apply Del.there | apply Sel.cons | apply Sel.drop))))
                  · intro w M
                    refine WL.on rfl rfl ?_
                    refine WL.loadR Try.isAgg3 rfl M (by first | ((repeat (first | with_reducible exact Has.here | with_reducible refine Has.there ?_)); done) | (repeat (first | exact Has.here | refine Has.there ?_))) rfl rfl ?_
                    exact Chain.end_ rfl
                  apply DG.take [17, 22, 23] 0 rfl (by kernel_rfl) (by kernel_rfl) (M.sel (by first | ((repeat (first | with_reducible exact Sel.refl | with_reducible exact Sel.nil | with_reducible exact Del.here | with_reducible apply Del.there | with_reducible apply Sel.cons | with_reducible apply Sel.drop)); done) | (repeat (first | exact Sel.refl | exact Sel.nil | exact Del.here | apply Del.there | apply Sel.cons | apply Sel.drop))))
                  · intro w M
                    refine WL.on rfl rfl ?_
                    refine WL.move rfl rfl ?_
                    refine WL.on rfl rfl ?_
                    refine WL.neI rfl rfl rfl ?_
                    refine WL.pickF rfl rfl rfl ?_
                    exact Chain.end_ rfl
                  refine DG.end_ (by kernel_rfl) ?_
                  refine WX.next ?_
                  refine W.sub [(1, _), (5, _), (7, _), (9, _), (200, _)] (.cons rfl (.cons rfl (.cons rfl (.cons rfl (.cons rfl .nil))))) ?_
                  refine W.ite rfl (fun c23 => ?_) (fun c23 => ?_)
                  · exact absurd (by rw [hyw]) c23
                  · refine W.skip ?_
                    refine WX.blockNormal ?_
                    refine WX.next ?_
                    refine W.region ?_
                    refine WL.move rfl rfl ?_
                    refine WL.add rfl rfl (by first | exact wI64 (by omega) | rfl) rfl ?_
                    refine WL.assign rfl rfl ?_
                    refine WL.nil ?_
                    refine WX.round ((i + 1, x3, ⟨gy, mosty, Ay, capy, cy, begy, wasy⟩)) (by (repeat' (first | exact envSub.nil | refine envSub.cons ?_ ?_)) <;> first | rfl | (refine congrArg some ?_; refine congrArg (Value.int _) ?_; first | omega | (dsimp only; omega)) | (simp; done) | (refine congrArg some ?_; dsimp only; congr 1; omega) | (simp; omega)) ⟨M.sel (by first | ((repeat (first | with_reducible exact Sel.refl | with_reducible exact Sel.nil | with_reducible exact Del.here | with_reducible apply Del.there | with_reducible apply Sel.cons | with_reducible apply Sel.drop)); done) | (repeat (first | exact Sel.refl | exact Sel.nil | exact Del.here | apply Del.there | apply Sel.cons | apply Sel.drop))), ⟨⟨by dsimp only; omega, by dsimp only; omega⟩, ⟨hox3, hfx3⟩, hxy3⟩⟩ (by first | omega | (dsimp only; omega))
            · refine W.exit ?_
              refine WX.thenExit ?_
              refine WX.thenExit ?_
              refine WX.blockHere ?_
              refine WX.join (()) (by (repeat' (first | exact envSub.nil | refine envSub.cons ?_ ?_)) <;> first | rfl | (refine congrArg some ?_; refine congrArg (Value.int _) ?_; first | omega | (dsimp only; omega)) | (simp; done) | (refine congrArg some ?_; dsimp only; congr 1; omega) | (simp; omega)) ⟨M.sel (by first | ((repeat (first | with_reducible exact Sel.refl | with_reducible exact Sel.nil | with_reducible exact Del.here | with_reducible apply Del.there | with_reducible apply Sel.cons | with_reducible apply Sel.drop)); done) | (repeat (first | exact Sel.refl | exact Sel.nil | exact Del.here | apply Del.there | apply Sel.cons | apply Sel.drop))), trivial⟩
          · refine WL.off rfl rfl rfl rfl ?_
            refine WL.off rfl rfl rfl rfl ?_
            refine WL.pickF rfl rfl rfl ?_
            refine WL.nil ?_
            refine WX.next ?_
            refine W.sub [(1, _), (5, _), (7, _), (9, _), (64, _)] (.cons rfl (.cons rfl (.cons rfl (.cons rfl (.cons rfl .nil))))) ?_
            refine W.condF rfl ?_
            refine W.exit ?_
            refine WX.thenExit ?_
            refine WX.thenExit ?_
            refine WX.blockHere ?_
            refine WX.join (()) (by (repeat' (first | exact envSub.nil | refine envSub.cons ?_ ?_)) <;> first | rfl | (refine congrArg some ?_; refine congrArg (Value.int _) ?_; first | omega | (dsimp only; omega)) | (simp; done) | (refine congrArg some ?_; dsimp only; congr 1; omega) | (simp; omega)) ⟨M.sel (by first | ((repeat (first | with_reducible exact Sel.refl | with_reducible exact Sel.nil | with_reducible exact Del.here | with_reducible apply Del.there | with_reducible apply Sel.cons | with_reducible apply Sel.drop)); done) | (repeat (first | exact Sel.refl | exact Sel.nil | exact Del.here | apply Del.there | apply Sel.cons | apply Sel.drop))), trivial⟩
        clear M; rintro (⟨⟩) w ⟨M, -⟩; dsimp only at M ⊢
        refine W.sub [] .nil ?_
        refine W.seq ?_
        refine W.region ?_
        refine WL.call Try.call10 rfl (known13_ok _) rfl ?_
        rintro _ w ⟨rfl, m⟩
        replace M := M.call0 m; clear m
        refine WL.assign rfl rfl ?_
        refine WL.nil ?_
        refine WX.next ?_
        refine W.sub [(4, _)] (.cons rfl .nil) ?_
        refine W.ret ?_
        refine WX.ret1 rfl rfl ?_
        exact ⟨rfl, M⟩
theorem OnceDoes_ok (z : Int) (A1 : Option Addr) (q1 : Nat) (l : List AcX) (w0 : World) (h1 : RdL w0 actE A1 q1 l) (hq1 : ∀ s ∈ l, s.inn w0) (hm1 : q1 ≤ maxLen) :
    Fn Try.prog 7 [.int .i64 z, .slice A1 l.length q1] w0 fun v w' => v = .bool true ∧ Mem w0 w' [] := by
  by_cases hz : z < 1 ∨ 64 < z
  · exact DoesBad_ok z hz A1 q1 l w0 h1 hm1
  · obtain ⟨n, rfl⟩ : ∃ n : Nat, z = (n : Int) := ⟨z.toNat, by omega⟩
    exact DoesGood_ok n (by omega) A1 q1 l w0 h1 hq1 hm1
end Go.Proofs.Ytmogpoghngmnmaa
