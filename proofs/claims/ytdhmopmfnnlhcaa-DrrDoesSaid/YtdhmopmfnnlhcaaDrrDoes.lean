/-
  Walk: the scheduler answers as the document's (seawalllaw21.DrrDoes).
-/
import Derived.Test.YtdhmopmfnnlhcaaRef21e
import Derived.Test.YtdhmopmfnnlhcaaDrrIn
namespace Go.Proofs.Ytdhmopmfnnlhcaa
open Go Go.RowKit

theorem pushS_len (s : Sd) (j : JX) : (pushS s j).fl.length = s.fl.length := by
  unfold pushS
  split
  · simp
  · rfl
theorem DrrDoes_bad (A0 : Option Addr) (k0 : Nat) (l0 : List Int) (A1 : Option Addr) (k1 : Nat) (l : List ActX) (w0 : World) (h0 : RdL w0 intE A0 k0 l0) (h1 : RdL w0 actE A1 k1 l) (hb : badL l0) :
    Fn Try.prog 6 [.slice A0 l0.length k0, .slice A1 l.length k1] w0 fun v w' => v = .bool true ∧ Mem w0 w' [] := by
  have M := Mem.refl w0
  obtain ⟨w, hw⟩ : ∃ w, w = w0 := ⟨w0, rfl⟩
  refine Fn.enter Try.func6 rfl Try.ntmps6 rfl ?_
  refine W.sub [(0, _), (1, _)] (.cons rfl (.cons rfl .nil)) ?_
  refine W.seq ?_
  refine W.region ?_
  refine WL.assign rfl rfl ?_
  refine WL.nil ?_
  refine WX.next ?_
  refine W.sub [(0, _), (1, _)] (.cons rfl (.cons rfl .nil)) ?_
  refine W.seq ?_
  refine W.seq ?_
  refine W.region ?_
  refine WL.move rfl rfl ?_
  refine WL.len Try.underlying22 rfl rfl ?_
  refine WL.gtr rfl rfl rfl ?_
  refine WL.moveIf rfl rfl (fun c0 => ?_) (fun c0 => ?_)
  · refine WL.off rfl rfl rfl rfl ?_
    refine WL.off rfl rfl rfl rfl ?_
    refine WL.off rfl rfl rfl rfl ?_
    refine WL.off rfl rfl rfl rfl ?_
    refine WL.pickT rfl rfl rfl ?_
    refine WL.nil ?_
    refine WX.next ?_
    refine W.sub [(0, _), (1, _), (25, _)] (.cons rfl (.cons rfl (.cons rfl .nil))) ?_
    refine W.condT rfl ?_
    refine W.seq ?_
    refine W.region ?_
    refine WL.call Try.call16 rfl (known21_ok _) rfl ?_
    rintro _ w ⟨rfl, m⟩
    replace M := M.call0 m; clear m
    refine WL.assign rfl rfl ?_
    refine WL.nil ?_
    refine WX.next ?_
    refine W.sub [(4, _)] (.cons rfl .nil) ?_
    refine W.ret ?_
    refine WX.thenRet ?_
    refine WX.ret1 rfl rfl ?_
    exact ⟨rfl, M⟩
  · refine WL.on rfl rfl ?_
    refine WL.move rfl rfl ?_
    refine WL.on rfl rfl ?_
    refine WL.move rfl rfl ?_
    refine WL.on rfl rfl ?_
    refine WL.call Try.call18 rfl (cheap_ok (h0.mem M) (h1.mem M)) rfl ?_
    rintro _ w ⟨⟨b, rfl⟩, m⟩
    replace M := M.call0 m; clear m
    refine WL.on rfl rfl ?_
    refine WL.not rfl rfl ?_
    refine WL.pickF rfl rfl rfl ?_
    refine WL.nil ?_
    refine WX.next ?_
    refine W.sub [(0, _), (1, _), (25, _)] (.cons rfl (.cons rfl (.cons rfl .nil))) ?_
    refine W.cond rfl (fun c1 => ?_) (fun c1 => ?_)
    · (try simp only [Bool.not_eq_true'] at c1); (try simp only [Bool.not_eq_false'] at c1); (try simp only [decide_eq_true_eq] at c1); (try simp only [decide_eq_false_iff_not] at c1)
      refine W.seq ?_
      refine W.region ?_
      refine WL.call Try.call16 rfl (known21_ok _) rfl ?_
      rintro _ w ⟨rfl, m⟩
      replace M := M.call0 m; clear m
      refine WL.assign rfl rfl ?_
      refine WL.nil ?_
      refine WX.next ?_
      refine W.sub [(4, _)] (.cons rfl .nil) ?_
      refine W.ret ?_
      refine WX.thenRet ?_
      refine WX.ret1 rfl rfl ?_
      exact ⟨rfl, M⟩
    · (try simp only [Bool.not_eq_true'] at c1); (try simp only [Bool.not_eq_false'] at c1); (try simp only [decide_eq_true_eq] at c1); (try simp only [decide_eq_false_iff_not] at c1)
      refine W.skip ?_
      refine WX.next ?_
      refine W.seq ?_
      refine W.region ?_
      refine WL.move rfl rfl ?_
      refine WL.call Try.call17 rfl (NewBad_ok hb (h0.mem M) (by omega)) rfl ?_
      rintro _ w ⟨rfl, m⟩
      replace M := M.call0 m; clear m
      refine WL.move rfl rfl ?_
      refine WL.extractL rfl rfl rfl ?_
      refine WL.extractL rfl rfl rfl ?_
      refine WL.assign rfl rfl ?_
      refine WL.assign rfl rfl ?_
      refine WL.nil ?_
      refine WX.next ?_
      refine W.sub [(0, _), (1, _), (5, _), (6, _)] (.cons rfl (.cons rfl (.cons rfl (.cons rfl .nil)))) ?_
      refine W.seq ?_
      refine W.region ?_
      refine WL.move rfl rfl ?_
      refine WL.call Try.call19 rfl (RNewBad_ok hb (h0.mem M) (by omega)) rfl ?_
      rintro _ w ⟨rfl, m⟩
      replace M := M.call0 m; clear m
      refine WL.move rfl rfl ?_
      refine WL.extractL rfl rfl rfl ?_
      refine WL.extractL rfl rfl rfl ?_
      refine WL.assign rfl rfl ?_
      refine WL.assign rfl rfl ?_
      refine WL.nil ?_
      refine WX.next ?_
      refine W.sub [(0, _), (1, _), (5, _), (6, _), (7, _), (8, _)] (.cons rfl (.cons rfl (.cons rfl (.cons rfl (.cons rfl (.cons rfl .nil)))))) ?_
      refine W.seq ?_
      refine W.seq ?_
      refine W.region ?_
      refine WL.move rfl rfl ?_
      refine WL.neI rfl rfl rfl ?_
      refine WL.nil ?_
      refine WX.next ?_
      refine W.sub [(0, _), (1, _), (5, _), (6, _), (7, _), (8, _), (38, _)] (.cons rfl (.cons rfl (.cons rfl (.cons rfl (.cons rfl (.cons rfl (.cons rfl .nil))))))) ?_
      refine W.ite rfl (fun c2 => ?_) (fun c2 => ?_)
      · refine W.seq ?_
        refine W.region ?_
        refine WL.move rfl rfl ?_
        refine WL.eqNilT Try.underlying24 rfl rfl rfl ?_
        refine WL.move rfl rfl ?_
        refine WL.on rfl rfl ?_
        refine WL.move rfl rfl ?_
        refine WL.on rfl rfl ?_
        refine WL.move rfl rfl ?_
        refine WL.on rfl rfl ?_
        refine WL.eqI rfl rfl rfl ?_
        refine WL.pickT rfl rfl rfl ?_
        refine WL.moveIf rfl rfl (fun c4 => ?_) (fun c4 => ?_)
        · refine WL.on rfl rfl ?_
          refine WL.call Try.call16 rfl (known21_ok _) rfl ?_
          rintro _ w ⟨rfl, m⟩
          replace M := M.call0 m; clear m
          refine WL.pickT rfl rfl rfl ?_
          refine WL.assign rfl rfl ?_
          refine WL.nil ?_
          refine WX.next ?_
          refine W.sub [(4, _)] (.cons rfl .nil) ?_
          refine W.ret ?_
          refine WX.thenRet ?_
          refine WX.ret1 rfl rfl ?_
          exact ⟨rfl, M⟩
        · first | exact absurd rfl c4 | exact absurd (by decide) c4 | (simp at c4; done)
      · exact absurd (by decide) c2

set_option maxRecDepth 10000 in
set_option maxHeartbeats 4000000 in
theorem DrrDoes_good (A0 : Option Addr) (k0 : Nat) (l0 : List Int) (A1 : Option Addr) (k1 : Nat) (l : List ActX) (w0 : World) (h0 : RdL w0 intE A0 k0 l0) (h1 : RdL w0 actE A1 k1 l) (hb : ¬ badL l0) :
    Fn Try.prog 6 [.slice A0 l0.length k0, .slice A1 l.length k1] w0 fun v w' => v = .bool true ∧ Mem w0 w' [] := by
  have M := Mem.refl w0
  obtain ⟨w, hw⟩ : ∃ w, w = w0 := ⟨w0, rfl⟩
  refine Fn.enter Try.func6 rfl Try.ntmps6 rfl ?_
  refine W.sub [(0, _), (1, _)] (.cons rfl (.cons rfl .nil)) ?_
  refine W.seq ?_
  refine W.region ?_
  refine WL.assign rfl rfl ?_
  refine WL.nil ?_
  refine WX.next ?_
  refine W.sub [(0, _), (1, _)] (.cons rfl (.cons rfl .nil)) ?_
  refine W.seq ?_
  refine W.seq ?_
  refine W.region ?_
  refine WL.move rfl rfl ?_
  refine WL.len Try.underlying22 rfl rfl ?_
  refine WL.gtr rfl rfl rfl ?_
  refine WL.moveIf rfl rfl (fun c0 => ?_) (fun c0 => ?_)
  · refine WL.off rfl rfl rfl rfl ?_
    refine WL.off rfl rfl rfl rfl ?_
    refine WL.off rfl rfl rfl rfl ?_
    refine WL.off rfl rfl rfl rfl ?_
    refine WL.pickT rfl rfl rfl ?_
    refine WL.nil ?_
    refine WX.next ?_
    refine W.sub [(0, _), (1, _), (25, _)] (.cons rfl (.cons rfl (.cons rfl .nil))) ?_
    refine W.condT rfl ?_
    refine W.seq ?_
    refine W.region ?_
    refine WL.call Try.call16 rfl (known21_ok _) rfl ?_
    rintro _ w ⟨rfl, m⟩
    replace M := M.call0 m; clear m
    refine WL.assign rfl rfl ?_
    refine WL.nil ?_
    refine WX.next ?_
    refine W.sub [(4, _)] (.cons rfl .nil) ?_
    refine W.ret ?_
    refine WX.thenRet ?_
    refine WX.ret1 rfl rfl ?_
    exact ⟨rfl, M⟩
  · refine WL.on rfl rfl ?_
    refine WL.move rfl rfl ?_
    refine WL.on rfl rfl ?_
    refine WL.move rfl rfl ?_
    refine WL.on rfl rfl ?_
    refine WL.call Try.call18 rfl (cheap_ok (h0.mem M) (h1.mem M)) rfl ?_
    rintro _ w ⟨⟨b, rfl⟩, m⟩
    replace M := M.call0 m; clear m
    refine WL.on rfl rfl ?_
    refine WL.not rfl rfl ?_
    refine WL.pickF rfl rfl rfl ?_
    refine WL.nil ?_
    refine WX.next ?_
    refine W.sub [(0, _), (1, _), (25, _)] (.cons rfl (.cons rfl (.cons rfl .nil))) ?_
    refine W.cond rfl (fun c1 => ?_) (fun c1 => ?_)
    · (try simp only [Bool.not_eq_true'] at c1); (try simp only [Bool.not_eq_false'] at c1); (try simp only [decide_eq_true_eq] at c1); (try simp only [decide_eq_false_iff_not] at c1)
      refine W.seq ?_
      refine W.region ?_
      refine WL.call Try.call16 rfl (known21_ok _) rfl ?_
      rintro _ w ⟨rfl, m⟩
      replace M := M.call0 m; clear m
      refine WL.assign rfl rfl ?_
      refine WL.nil ?_
      refine WX.next ?_
      refine W.sub [(4, _)] (.cons rfl .nil) ?_
      refine W.ret ?_
      refine WX.thenRet ?_
      refine WX.ret1 rfl rfl ?_
      exact ⟨rfl, M⟩
    · (try simp only [Bool.not_eq_true'] at c1); (try simp only [Bool.not_eq_false'] at c1); (try simp only [decide_eq_true_eq] at c1); (try simp only [decide_eq_false_iff_not] at c1)
      refine W.skip ?_
      refine WX.next ?_
      refine W.seq ?_
      refine W.region ?_
      refine WL.move rfl rfl ?_
      refine WL.call Try.call17 rfl (NewGood_ok hb (h0.mem M) (by omega)) rfl ?_
      rintro _ w ⟨x, rfl, hxs, hxo, m⟩
      replace M := M.callN m; clear m
      refine WL.move rfl rfl ?_
      refine WL.extractL rfl rfl rfl ?_
      refine WL.extractL rfl rfl rfl ?_
      refine WL.assign rfl rfl ?_
      refine WL.assign rfl rfl ?_
      refine WL.nil ?_
      refine WX.next ?_
      refine W.sub [(0, _), (1, _), (5, _), (6, _)] (.cons rfl (.cons rfl (.cons rfl (.cons rfl .nil)))) ?_
      refine W.seq ?_
      refine W.region ?_
      refine WL.move rfl rfl ?_
      refine WL.call Try.call19 rfl (RNewGood_ok hb (h0.mem M) (by omega)) rfl ?_
      rintro _ w ⟨y, rfl, hys, m⟩
      replace M := M.callN m; clear m
      rw [List.append_nil] at M
      rw [← hxs] at hys
      have hlen : x.s.fl.length = l0.length := by rw [hxs]; unfold newS; simp
      have hl100 : l0.length ≤ 100 := by omega
      refine WL.move rfl rfl ?_
      refine WL.extractL rfl rfl rfl ?_
      refine WL.extractL rfl rfl rfl ?_
      refine WL.assign rfl rfl ?_
      refine WL.assign rfl rfl ?_
      refine WL.nil ?_
      refine WX.next ?_
      refine W.sub [(0, _), (1, _), (5, _), (6, _), (7, _), (8, _)] (.cons rfl (.cons rfl (.cons rfl (.cons rfl (.cons rfl (.cons rfl .nil)))))) ?_
      refine W.seq ?_
      refine W.seq ?_
      refine W.region ?_
      refine WL.move rfl rfl ?_
      refine WL.neI rfl rfl rfl ?_
      refine WL.nil ?_
      refine WX.next ?_
      refine W.sub [(0, _), (1, _), (5, _), (6, _), (7, _), (8, _), (38, _)] (.cons rfl (.cons rfl (.cons rfl (.cons rfl (.cons rfl (.cons rfl (.cons rfl .nil))))))) ?_
      refine W.ite rfl (fun c2 => ?_) (fun c2 => ?_)
      · exact absurd rfl c2
      · refine W.skip ?_
        refine WX.next ?_
        refine W.seq ?_
        refine W.seq ?_
        refine W.region ?_
        refine WL.move rfl rfl ?_
        refine WL.eqNilF Try.underlying24 rfl rfl rfl ?_
        refine WL.move rfl rfl ?_
        refine WL.on rfl rfl ?_
        refine WL.move rfl rfl ?_
        refine WL.on rfl rfl ?_
        refine WL.neI rfl rfl rfl ?_
        refine WL.pickF rfl rfl rfl ?_
        refine WL.nil ?_
        refine WX.next ?_
        refine W.sub [(0, _), (1, _), (5, _), (7, _), (54, _)] (.cons rfl (.cons rfl (.cons rfl (.cons rfl (.cons rfl .nil))))) ?_
        refine W.ite rfl (fun c6 => ?_) (fun c6 => ?_)
        · first | (cases c6; done) | exact absurd rfl c6
        · refine W.skip ?_
          refine WX.next ?_
          refine W.seq ?_
          refine W.seq ?_
          refine W.region ?_
          refine WL.assign rfl rfl ?_
          refine WL.nil ?_
          refine WX.next ?_
          refine W.sub [(0, _), (1, _), (5, _), (7, _), (9, _)] (.cons rfl (.cons rfl (.cons rfl (.cons rfl (.cons rfl .nil))))) ?_
          refine W.block ?_
          refine W.loop (ι := Nat × SdX × RfX) (fun z => [(0, .slice A0 l0.length k0), (1, .slice A1 l.length k1), (5, .pointer (some ⟨z.2.1.g, 0, none⟩)), (7, .pointer (some ⟨z.2.2.g, 0, none⟩)), (9, .int .i64 (z.1 : Int))]) (fun zz w => Mem w0 w ((fun z => z.2.2.L ++ z.2.1.L) zz) ∧ (fun z => z.1 ≤ 300 ∧ z.2.1.ok ∧ z.2.2.is z.2.1.s ∧ z.2.1.s.fl.length = l0.length) zz) (fun z => 300 - z.1) ((0, x, y)) (by (repeat' (first | exact envSub.nil | refine envSub.cons ?_ ?_)) <;> first | rfl | (refine congrArg some ?_; refine congrArg (Value.int _) ?_; first | omega | (dsimp only; omega)) | (simp; done) | (refine congrArg some ?_; dsimp only; congr 1; omega) | (simp; omega)) ⟨M.sel (by first | ((repeat (first | with_reducible exact Sel.refl | with_reducible exact Sel.nil | with_reducible exact Del.here | with_reducible apply Del.there | with_reducible apply Sel.cons | with_reducible apply Sel.drop)); done) | (repeat (first | exact Sel.refl | exact Sel.nil | exact Del.here | apply Del.there | apply Sel.cons | apply Sel.drop))), ⟨by simp, hxo, hys, hlen⟩⟩ ?_
          clear M; rintro (⟨i, x, y⟩) w ⟨M, ⟨hi, hxo, hys, hlen⟩⟩; dsimp only at M hi hxo hys hlen ⊢
          refine W.sub [(0, _), (1, _), (5, _), (7, _), (9, _)] (.cons rfl (.cons rfl (.cons rfl (.cons rfl (.cons rfl .nil))))) ?_
          refine W.seq ?_
          refine W.seq ?_
          refine W.region ?_
          refine WL.move rfl rfl ?_
          refine WL.move rfl rfl ?_
          refine WL.len Try.underlying23 rfl rfl ?_
          refine WL.lss rfl rfl rfl ?_
          refine WL.moveIf rfl rfl (fun c7 => ?_) (fun c7 => ?_)
          · refine WL.on rfl rfl ?_
            refine WL.move rfl rfl ?_
            refine WL.on rfl rfl ?_
            refine WL.lss rfl rfl rfl ?_
            refine WL.pickT rfl rfl rfl ?_
            refine WL.nil ?_
            refine WX.next ?_
            refine W.sub [(0, _), (1, _), (5, _), (7, _), (9, _), (62, _)] (.cons rfl (.cons rfl (.cons rfl (.cons rfl (.cons rfl (.cons rfl .nil)))))) ?_
            refine W.ite rfl (fun c8 => ?_) (fun c8 => ?_)
            · refine W.skip ?_
              refine WX.next ?_
              refine W.seq ?_
              refine W.block ?_
              refine W.joint (fun (z : SdX × RfX) => [(0, .slice A0 l0.length k0), (1, .slice A1 l.length k1), (5, .pointer (some ⟨z.1.g, 0, none⟩)), (7, .pointer (some ⟨z.2.g, 0, none⟩)), (9, .int .i64 (i : Int))]) (fun j w => Mem w0 w ((fun z => z.2.L ++ z.1.L) j) ∧ (fun z => z.1.ok ∧ z.2.is z.1.s ∧ z.1.s.fl.length = l0.length) j) ?_ ?_
              · refine W.seq ?_
                refine W.region ?_
                refine WL.move rfl rfl ?_
                refine WL.move rfl rfl ?_
                refine WL.idxA Try.underlying23 Try.sizeOf33 rfl rfl (RdL.isSome (E := actE) (by first | with_reducible assumption | with_reducible exact RdL.mem (by with_reducible assumption) M | exact M.rdL (by first | ((repeat (first | with_reducible exact Has.here | with_reducible refine Has.there ?_)); done) | (repeat (first | exact Has.here | refine Has.there ?_))) | exact RdLH.at (by assumption) (M.sel (by first | ((repeat (first | with_reducible exact Sel.refl | with_reducible exact Sel.nil | with_reducible exact Del.here | with_reducible apply Del.there | with_reducible apply Sel.cons | with_reducible apply Sel.drop)); done) | (repeat (first | exact Sel.refl | exact Sel.nil | exact Del.here | apply Del.there | apply Sel.cons | apply Sel.drop)))) | exact RdL.nil _ _ _) (by omega)) (by omega) (by omega) (by first | exact rfl | exact (Int.toNat_of_nonneg (by omega)).symm) rfl ?_
                refine WL.fieldA (off := 0) Try.underlying33 rfl rfl Try.sizeOf4 rfl rfl rfl ?_
                refine WL.loadE (E := actE) Try.isAgg4 rfl (by first | with_reducible assumption | with_reducible exact RdL.mem (by with_reducible assumption) M | exact M.rdL (by first | ((repeat (first | with_reducible exact Has.here | with_reducible refine Has.there ?_)); done) | (repeat (first | exact Has.here | refine Has.there ?_))) | exact RdLH.at (by assumption) (M.sel (by first | ((repeat (first | with_reducible exact Sel.refl | with_reducible exact Sel.nil | with_reducible exact Del.here | with_reducible apply Del.there | with_reducible apply Sel.cons | with_reducible apply Sel.drop)); done) | (repeat (first | exact Sel.refl | exact Sel.nil | exact Del.here | apply Del.there | apply Sel.cons | apply Sel.drop)))) | exact RdL.nil _ _ _) (by omega) rfl rfl ?_
                refine WL.nil ?_
                refine WX.next ?_
                refine W.sub [(0, _), (1, _), (5, _), (7, _), (9, _), (69, _)] (.cons rfl (.cons rfl (.cons rfl (.cons rfl (.cons rfl (.cons rfl .nil)))))) ?_
                refine W.cond rfl (fun c9 => ?_) (fun c9 => ?_)
                · (try simp only [Bool.not_eq_true'] at c9); (try simp only [Bool.not_eq_false'] at c9); (try simp only [decide_eq_true_eq] at c9); (try simp only [decide_eq_false_iff_not] at c9)
                  refine W.seq ?_
                  refine W.region ?_
                  refine WL.move rfl rfl ?_
                  refine WL.call Try.call13 rfl (Pop3_ok x hxo w0 w _ (M.sel (K := x.L ++ y.L) (by first | ((repeat (first | with_reducible exact Sel.refl | with_reducible exact Sel.nil | with_reducible exact Del.here | with_reducible apply Del.there | with_reducible apply Sel.cons | with_reducible apply Sel.drop)); done) | (repeat (first | exact Sel.refl | exact Sel.nil | exact Del.here | apply Del.there | apply Sel.cons | apply Sel.drop))))) rfl ?_
                  rintro _ w ⟨x2, ⟨jf, jc, ji⟩, rfl, hg2, ho2, M, hz2, hp2⟩
                  rw [hg2]
                  unfold JX.v
                  refine WL.move rfl rfl ?_
                  refine WL.extractL rfl rfl rfl ?_
                  refine WL.extractL rfl rfl rfl ?_
                  refine WL.alloc Try.zeroValue31 M rfl ?_
                  intro g13_5 w M
                  try simp only [Value.cells] at M
                  try simp only [List.toList_toArray] at M
                  refine WL.storeWA Try.sizeOf31 rfl rfl (by repeat (first | exact oneNil | refine oneCons rfl ?_)) rfl rfl M (by first | ((repeat (first | with_reducible exact Upd.here | with_reducible apply Upd.there)); done) | (repeat (first | exact Upd.here | apply Upd.there))) ?_
                  intro w M
                  refine WL.assign rfl rfl ?_
                  refine WL.nil ?_
                  refine WX.next ?_
                  refine W.sub [(0, _), (1, _), (5, _), (7, _), (9, _), (10, _), (11, _)] (.cons rfl (.cons rfl (.cons rfl (.cons rfl (.cons rfl (.cons rfl (.cons rfl .nil))))))) ?_
                  refine W.seq ?_
                  refine W.region ?_
                  refine WL.move rfl rfl ?_
                  refine WL.call Try.call20 rfl (RPop_ok y x.s hys hxo.s w0 w _ (M.sel (K := y.L ++ (x2.L ++ [Asr.row g13_5 31 [.int .i64 jf, .int .i64 jc, .int .u64 (ji : Int)]])) (by first | ((repeat (first | with_reducible exact Sel.refl | with_reducible exact Sel.nil | with_reducible exact Del.here | with_reducible apply Del.there | with_reducible apply Sel.cons | with_reducible apply Sel.drop)); done) | (repeat (first | exact Sel.refl | exact Sel.nil | exact Del.here | apply Del.there | apply Sel.cons | apply Sel.drop))))) rfl ?_
                  rintro _ w ⟨y2, J2, rfl, hgy, M, hz3, hp3⟩
                  obtain ⟨rfl, hy2, hl2⟩ : J2 = ⟨jf, jc, ji⟩ ∧ y2.is x2.s ∧ x2.s.fl.length = l0.length := by
                    by_cases hn : nJ x.s.fl = 0
                    · obtain ⟨a, b⟩ := hz2 hn
                      obtain ⟨c, d⟩ := hz3 hn
                      exact ⟨c.trans a.symm, b ▸ d, b ▸ hlen⟩
                    · obtain ⟨a, b⟩ := hp2 hn
                      obtain ⟨c, d⟩ := hp3 hn
                      obtain ⟨k, js, hp⟩ := pop_says hxo.s hn
                      exact ⟨c.trans a.symm, b ▸ d, by rw [b, hp.len]; exact hlen⟩
                  rw [hgy]
                  unfold JX.v
                  refine WL.move rfl rfl ?_
                  refine WL.extractL rfl rfl rfl ?_
                  refine WL.extractL rfl rfl rfl ?_
                  refine WL.alloc Try.zeroValue31 M rfl ?_
                  intro g14_5 w M
                  try simp only [Value.cells] at M
                  try simp only [List.toList_toArray] at M
                  refine WL.storeWA Try.sizeOf31 rfl rfl (by repeat (first | exact oneNil | refine oneCons rfl ?_)) rfl rfl M (by first | ((repeat (first | with_reducible exact Upd.here | with_reducible apply Upd.there)); done) | (repeat (first | exact Upd.here | apply Upd.there))) ?_
                  intro w M
                  refine WL.assign rfl rfl ?_
                  refine WL.nil ?_
                  refine WX.next ?_
                  refine W.sub [(0, _), (1, _), (5, _), (7, _), (9, _), (10, _), (11, _), (12, _), (13, _)] (.cons rfl (.cons rfl (.cons rfl (.cons rfl (.cons rfl (.cons rfl (.cons rfl (.cons rfl (.cons rfl .nil))))))))) ?_
                  refine W.seq ?_
                  refine W.region ?_
                  refine WL.loadW Try.isAgg31 Try.sizeOf31 rfl M (by first | ((repeat (first | with_reducible exact Has.here | with_reducible refine Has.there ?_)); done) | (repeat (first | exact Has.here | refine Has.there ?_))) rfl rfl ?_
                  refine WL.loadW Try.isAgg31 Try.sizeOf31 rfl M (by first | ((repeat (first | with_reducible exact Has.here | with_reducible refine Has.there ?_)); done) | (repeat (first | exact Has.here | refine Has.there ?_))) rfl rfl ?_
                  refine WL.neqJ ⟨jf, jc, ji⟩ ⟨jf, jc, ji⟩ rfl rfl rfl ?_
                  refine WL.moveIf rfl rfl (fun c10 => ?_) (fun c10 => ?_)
                  · exact absurd rfl c10
                  · refine WL.on rfl rfl ?_
                    refine WL.move rfl rfl ?_
                    refine WL.on rfl rfl ?_
                    refine WL.move rfl rfl ?_
                    refine WL.on rfl rfl ?_
                    refine WL.neqBB Try.underlying4 rfl rfl rfl ?_
                    refine WL.pickF rfl rfl rfl ?_
                    refine WL.nil ?_
                    refine WX.next ?_
                    refine W.sub [(0, _), (1, _), (5, _), (7, _), (9, _), (87, _)] (.cons rfl (.cons rfl (.cons rfl (.cons rfl (.cons rfl (.cons rfl .nil)))))) ?_
                    refine W.cond rfl (fun c11 => ?_) (fun c11 => ?_)
                    · (try simp only [Bool.not_eq_true'] at c11); (try simp only [Bool.not_eq_false'] at c11); (try simp only [decide_eq_true_eq] at c11); (try simp only [decide_eq_false_iff_not] at c11)
                      exact absurd rfl c11
                    · (try simp only [Bool.not_eq_true'] at c11); (try simp only [Bool.not_eq_false'] at c11); (try simp only [decide_eq_true_eq] at c11); (try simp only [decide_eq_false_iff_not] at c11)
                      refine W.skip ?_
                      refine WX.join ((x2, y2)) (by (repeat' (first | exact envSub.nil | refine envSub.cons ?_ ?_)) <;> first | rfl | (refine congrArg some ?_; refine congrArg (Value.int _) ?_; first | omega | (dsimp only; omega)) | (simp; done) | (refine congrArg some ?_; dsimp only; congr 1; omega) | (simp; omega)) ⟨M.sel (by first | ((repeat (first | with_reducible exact Sel.refl | with_reducible exact Sel.nil | with_reducible exact Del.here | with_reducible apply Del.there | with_reducible apply Sel.cons | with_reducible apply Sel.drop)); done) | (repeat (first | exact Sel.refl | exact Sel.nil | exact Del.here | apply Del.there | apply Sel.cons | apply Sel.drop))), ⟨ho2, hy2, hl2⟩⟩
                · (try simp only [Bool.not_eq_true'] at c9); (try simp only [Bool.not_eq_false'] at c9); (try simp only [decide_eq_true_eq] at c9); (try simp only [decide_eq_false_iff_not] at c9)
                  refine W.seq ?_
                  refine W.region ?_
                  refine WL.move rfl rfl ?_
                  refine WL.move rfl rfl ?_
                  refine WL.move rfl rfl ?_
                  refine WL.idxA Try.underlying23 Try.sizeOf33 rfl rfl (RdL.isSome (E := actE) (by first | with_reducible assumption | with_reducible exact RdL.mem (by with_reducible assumption) M | exact M.rdL (by first | ((repeat (first | with_reducible exact Has.here | with_reducible refine Has.there ?_)); done) | (repeat (first | exact Has.here | refine Has.there ?_))) | exact RdLH.at (by assumption) (M.sel (by first | ((repeat (first | with_reducible exact Sel.refl | with_reducible exact Sel.nil | with_reducible exact Del.here | with_reducible apply Del.there | with_reducible apply Sel.cons | with_reducible apply Sel.drop)); done) | (repeat (first | exact Sel.refl | exact Sel.nil | exact Del.here | apply Del.there | apply Sel.cons | apply Sel.drop)))) | exact RdL.nil _ _ _) (by omega)) (by omega) (by omega) (by first | exact rfl | exact (Int.toNat_of_nonneg (by omega)).symm) rfl ?_
                  refine WL.fieldA (off := 1) Try.underlying33 rfl rfl Try.sizeOf31 rfl rfl rfl ?_
                  refine WL.loadLP (E := actE) (cs := [_, _, _]) Try.isAgg31 Try.sizeOf31 rfl (by first | with_reducible assumption | with_reducible exact RdL.mem (by with_reducible assumption) M | exact M.rdL (by first | ((repeat (first | with_reducible exact Has.here | with_reducible refine Has.there ?_)); done) | (repeat (first | exact Has.here | refine Has.there ?_))) | exact RdLH.at (by assumption) (M.sel (by first | ((repeat (first | with_reducible exact Sel.refl | with_reducible exact Sel.nil | with_reducible exact Del.here | with_reducible apply Del.there | with_reducible apply Sel.cons | with_reducible apply Sel.drop)); done) | (repeat (first | exact Sel.refl | exact Sel.nil | exact Del.here | apply Del.there | apply Sel.cons | apply Sel.drop)))) | exact RdL.nil _ _ _) (by omega) rfl rfl ?_
                  refine WL.call Try.call12 rfl (Push1_ok x hxo (el l i).j w0 w _ (M.sel (K := x.L ++ y.L) (by first | ((repeat (first | with_reducible exact Sel.refl | with_reducible exact Sel.nil | with_reducible exact Del.here | with_reducible apply Del.there | with_reducible apply Sel.cons | with_reducible apply Sel.drop)); done) | (repeat (first | exact Sel.refl | exact Sel.nil | exact Del.here | apply Del.there | apply Sel.cons | apply Sel.drop))))) rfl ?_
                  rintro _ w ⟨x2, rfl, hg2, hs2, ho2, M⟩
                  rw [hg2]
                  refine WL.assign rfl rfl ?_
                  refine WL.nil ?_
                  refine WX.next ?_
                  refine W.sub [(0, _), (1, _), (5, _), (7, _), (9, _), (14, _)] (.cons rfl (.cons rfl (.cons rfl (.cons rfl (.cons rfl (.cons rfl .nil)))))) ?_
                  refine W.seq ?_
                  refine W.region ?_
                  refine WL.move rfl rfl ?_
                  refine WL.move rfl rfl ?_
                  refine WL.move rfl rfl ?_
                  refine WL.idxA Try.underlying23 Try.sizeOf33 rfl rfl (RdL.isSome (E := actE) (by first | with_reducible assumption | with_reducible exact RdL.mem (by with_reducible assumption) M | exact M.rdL (by first | ((repeat (first | with_reducible exact Has.here | with_reducible refine Has.there ?_)); done) | (repeat (first | exact Has.here | refine Has.there ?_))) | exact RdLH.at (by assumption) (M.sel (by first | ((repeat (first | with_reducible exact Sel.refl | with_reducible exact Sel.nil | with_reducible exact Del.here | with_reducible apply Del.there | with_reducible apply Sel.cons | with_reducible apply Sel.drop)); done) | (repeat (first | exact Sel.refl | exact Sel.nil | exact Del.here | apply Del.there | apply Sel.cons | apply Sel.drop)))) | exact RdL.nil _ _ _) (by omega)) (by omega) (by omega) (by first | exact rfl | exact (Int.toNat_of_nonneg (by omega)).symm) rfl ?_
                  refine WL.fieldA (off := 1) Try.underlying33 rfl rfl Try.sizeOf31 rfl rfl rfl ?_
                  refine WL.loadLP (E := actE) (cs := [_, _, _]) Try.isAgg31 Try.sizeOf31 rfl (by first | with_reducible assumption | with_reducible exact RdL.mem (by with_reducible assumption) M | exact M.rdL (by first | ((repeat (first | with_reducible exact Has.here | with_reducible refine Has.there ?_)); done) | (repeat (first | exact Has.here | refine Has.there ?_))) | exact RdLH.at (by assumption) (M.sel (by first | ((repeat (first | with_reducible exact Sel.refl | with_reducible exact Sel.nil | with_reducible exact Del.here | with_reducible apply Del.there | with_reducible apply Sel.cons | with_reducible apply Sel.drop)); done) | (repeat (first | exact Sel.refl | exact Sel.nil | exact Del.here | apply Del.there | apply Sel.cons | apply Sel.drop)))) | exact RdL.nil _ _ _) (by omega) rfl rfl ?_
                  refine WL.call Try.call21 rfl (RPush_ok y x.s hys hxo.s (el l i).j w0 w _ (M.sel (K := y.L ++ x2.L) (by first | ((repeat (first | with_reducible exact Sel.refl | with_reducible exact Sel.nil | with_reducible exact Del.here | with_reducible apply Del.there | with_reducible apply Sel.cons | with_reducible apply Sel.drop)); done) | (repeat (first | exact Sel.refl | exact Sel.nil | exact Del.here | apply Del.there | apply Sel.cons | apply Sel.drop))))) rfl ?_
                  rintro _ w ⟨y2, rfl, hgy, hy2, M⟩
                  rw [hgy]
                  rw [← hs2] at hy2
                  have hl2 : x2.s.fl.length = l0.length := by rw [hs2, pushS_len]; exact hlen
                  refine WL.assign rfl rfl ?_
                  refine WL.nil ?_
                  refine WX.next ?_
                  refine W.sub [(0, _), (1, _), (5, _), (7, _), (9, _), (14, _), (15, _)] (.cons rfl (.cons rfl (.cons rfl (.cons rfl (.cons rfl (.cons rfl (.cons rfl .nil))))))) ?_
                  refine W.seq ?_
                  refine W.region ?_
                  refine WL.move rfl rfl ?_
                  refine WL.move rfl rfl ?_
                  refine WL.neI rfl rfl rfl ?_
                  refine WL.nil ?_
                  refine WX.next ?_
                  refine W.sub [(0, _), (1, _), (5, _), (7, _), (9, _), (104, _)] (.cons rfl (.cons rfl (.cons rfl (.cons rfl (.cons rfl (.cons rfl .nil)))))) ?_
                  refine W.ite rfl (fun c12 => ?_) (fun c12 => ?_)
                  · exact absurd rfl c12
                  · refine W.skip ?_
                    refine WX.join ((x2, y2)) (by (repeat' (first | exact envSub.nil | refine envSub.cons ?_ ?_)) <;> first | rfl | (refine congrArg some ?_; refine congrArg (Value.int _) ?_; first | omega | (dsimp only; omega)) | (simp; done) | (refine congrArg some ?_; dsimp only; congr 1; omega) | (simp; omega)) ⟨M.sel (by first | ((repeat (first | with_reducible exact Sel.refl | with_reducible exact Sel.nil | with_reducible exact Del.here | with_reducible apply Del.there | with_reducible apply Sel.cons | with_reducible apply Sel.drop)); done) | (repeat (first | exact Sel.refl | exact Sel.nil | exact Del.here | apply Del.there | apply Sel.cons | apply Sel.drop))), ⟨ho2, hy2, hl2⟩⟩
              clear M; rintro (⟨x2, y2⟩) w ⟨M, ⟨ho2, hy2, hl2⟩⟩; dsimp only at M ho2 hy2 hl2 ⊢
              refine W.sub [(0, _), (1, _), (5, _), (7, _), (9, _)] (.cons rfl (.cons rfl (.cons rfl (.cons rfl (.cons rfl .nil))))) ?_
              obtain ⟨yg, As, cs, sh, Ac, cc, cd, Al, cl, jl, Ar, cr, rd, tn⟩ := y2
              obtain ⟨h1', h2, h3, h4, h5⟩ := hy2
              unfold RfX.L RfX.row at M
              simp only [List.cons_append, List.nil_append] at M
              try dsimp only at M h1' h2 h3 h4 h5 ⊢
              have hj5 := h5.len
              have htot := ho2.s.total
              have hfw : x2.fw.length = l0.length := by rw [← hl2]; simp [SdX.s]
              refine W.seq ?_
              refine W.seq ?_
              refine W.drawM ([Asr.row yg 53 [.slice As sh.length cs, .slice Ac cd.length cc, .slice Al jl.length cl, .slice Ar (ints rd).length cr, .int .i64 tn]]) (by kernel_rfl) (fun j => [1].contains j) M (by first | ((repeat (first | with_reducible exact Sel.refl | with_reducible exact Sel.nil | with_reducible exact Del.here | with_reducible apply Del.there | with_reducible apply Sel.cons | with_reducible apply Sel.drop)); done) | (repeat (first | exact Sel.refl | exact Sel.nil | exact Del.here | apply Del.there | apply Sel.cons | apply Sel.drop))) ?_
              clear M; intro M
              apply DG.pure_ [0, 2, 3, 4] 3 rfl (by kernel_rfl) (by kernel_rfl)
              · intro w
                refine WL.move rfl rfl ?_
                refine WL.move rfl rfl ?_
                refine WL.nilCheck rfl rfl ?_
                refine WL.fieldR (off := 4) Try.underlying53 rfl rfl Try.sizeOf3 rfl rfl rfl ?_
                exact Chain.end_ rfl
              apply DG.take [5] 2 rfl (by kernel_rfl) (by kernel_rfl) (M.sel (by first | ((repeat (first | with_reducible exact Sel.refl | with_reducible exact Sel.nil | with_reducible exact Del.here | with_reducible apply Del.there | with_reducible apply Sel.cons | with_reducible apply Sel.drop)); done) | (repeat (first | exact Sel.refl | exact Sel.nil | exact Del.here | apply Del.there | apply Sel.cons | apply Sel.drop))))
              · intro w M
                refine WL.loadR Try.isAgg3 rfl M (by first | ((repeat (first | with_reducible exact Has.here | with_reducible refine Has.there ?_)); done) | (repeat (first | exact Has.here | refine Has.there ?_))) rfl rfl ?_
                exact Chain.end_ rfl
              refine DG.step 1 1 rfl (by kernel_rfl) ?_
              refine WL.call Try.call15 rfl (Turn_ok x2 (fun h => ho2.s.on h) w0 _ _ (M.sel (K := x2.L ++ []) (by first | ((repeat (first | with_reducible exact Sel.refl | with_reducible exact Sel.nil | with_reducible exact Del.here | with_reducible apply Del.there | with_reducible apply Sel.cons | with_reducible apply Sel.drop)); done) | (repeat (first | exact Sel.refl | exact Sel.nil | exact Del.here | apply Del.there | apply Sel.cons | apply Sel.drop))))) rfl ?_
              rintro _ _ ⟨rfl, rfl⟩
              refine DG.go (G := fun j => [1].contains j) (i := 1) (f' := 1) (done := [0, 2, 3, 4, 5]) (fun _ => M.sel (by first | ((repeat (first | with_reducible exact Sel.refl | with_reducible exact Sel.nil | with_reducible exact Del.here | with_reducible apply Del.there | with_reducible apply Sel.cons | with_reducible apply Sel.drop)); done) | (repeat (first | exact Sel.refl | exact Sel.nil | exact Del.here | apply Del.there | apply Sel.cons | apply Sel.drop)))) ?_
              apply DG.pure_ [6] 0 rfl (by kernel_rfl) (by kernel_rfl)
              · intro w
                refine WL.neI rfl rfl rfl ?_
                exact Chain.end_ rfl
              refine DG.end_ (by kernel_rfl) ?_
              refine WX.next ?_
              refine W.sub [(0, _), (1, _), (5, _), (7, _), (9, _), (111, _)] (.cons rfl (.cons rfl (.cons rfl (.cons rfl (.cons rfl (.cons rfl .nil)))))) ?_
              refine W.ite rfl (fun c13 => ?_) (fun c13 => ?_)
              · exact absurd h4.symm c13
              · refine W.skip ?_
                refine WX.next ?_
                refine W.seq ?_
                refine W.region ?_
                refine WL.assign rfl rfl ?_
                refine WL.nil ?_
                refine WX.next ?_
                refine W.sub [(0, _), (1, _), (5, _), (7, _), (9, _), (16, _)] (.cons rfl (.cons rfl (.cons rfl (.cons rfl (.cons rfl (.cons rfl .nil)))))) ?_
                refine W.block ?_
                refine W.loop (ι := Nat) (fun k => [(0, .slice A0 l0.length k0), (1, .slice A1 l.length k1), (5, .pointer (some ⟨x2.g, 0, none⟩)), (7, .pointer (some ⟨yg, 0, none⟩)), (9, .int .i64 (i : Int)), (16, .int .i64 (k : Int))]) (fun zz w => Mem w0 w ((fun _ => [Asr.row yg 53 [.slice As sh.length cs, .slice Ac cd.length cc, .slice Al jl.length cl, .slice Ar (ints rd).length cr, .int .i64 tn], Asr.lst intE As cs sh, Asr.lst intE Ac cc cd, Asr.lst jobE Al cl jl, Asr.lst intE Ar cr (ints rd)] ++ x2.L) zz) ∧ (fun k => k ≤ l0.length) zz) (fun k => l0.length - k) (0) (by (repeat' (first | exact envSub.nil | refine envSub.cons ?_ ?_)) <;> first | rfl | (refine congrArg some ?_; refine congrArg (Value.int _) ?_; first | omega | (dsimp only; omega)) | (simp; done) | (refine congrArg some ?_; dsimp only; congr 1; omega) | (simp; omega)) ⟨M.sel (by first | ((repeat (first | with_reducible exact Sel.refl | with_reducible exact Sel.nil | with_reducible exact Del.here | with_reducible apply Del.there | with_reducible apply Sel.cons | with_reducible apply Sel.drop)); done) | (repeat (first | exact Sel.refl | exact Sel.nil | exact Del.here | apply Del.there | apply Sel.cons | apply Sel.drop))), Nat.zero_le _⟩ ?_
                clear M; rintro (k) w ⟨M, hk⟩; dsimp only at M hk ⊢
                refine W.sub [(0, _), (1, _), (5, _), (7, _), (9, _), (16, _)] (.cons rfl (.cons rfl (.cons rfl (.cons rfl (.cons rfl (.cons rfl .nil)))))) ?_
                refine W.seq ?_
                refine W.seq ?_
                refine W.region ?_
                refine WL.move rfl rfl ?_
                refine WL.move rfl rfl ?_
                refine WL.len Try.underlying22 rfl rfl ?_
                refine WL.lss rfl rfl rfl ?_
                refine WL.nil ?_
                refine WX.next ?_
                refine W.sub [(0, _), (1, _), (5, _), (7, _), (9, _), (16, _), (115, _)] (.cons rfl (.cons rfl (.cons rfl (.cons rfl (.cons rfl (.cons rfl (.cons rfl .nil))))))) ?_
                refine W.ite rfl (fun c14 => ?_) (fun c14 => ?_)
                · have hks : k < x2.s.fl.length := by omega
                  have hkc : k < cd.length := by rw [h2]; simpa using hks
                  have hcd : el cd k = (el x2.fw k).credit := by rw [h2, el_mapS _ hks]; rw [show x2.s.fl = x2.fw.map FwX.key from rfl, el_key _ _ (by omega)]; rfl
                  have hjo : (ofF jl (k : Int)).length = (el x2.fw k).jobs.length := by rw [h5.jobs k hks]; rw [show x2.s.fl = x2.fw.map FwX.key from rfl, el_key _ _ (by omega)]; rfl
                  refine W.skip ?_
                  refine WX.next ?_
                  refine W.seq ?_
                  refine W.block ?_
                  refine W.seq ?_
                  refine W.drawM ([Asr.row yg 53 [.slice As sh.length cs, .slice Ac cd.length cc, .slice Al jl.length cl, .slice Ar (ints rd).length cr, .int .i64 tn], Asr.lst intE As cs sh, Asr.lst intE Ac cc cd, Asr.lst jobE Al cl jl, Asr.lst intE Ar cr (ints rd)]) (by kernel_rfl) (fun j => [2].contains j) M (by first | ((repeat (first | with_reducible exact Sel.refl | with_reducible exact Sel.nil | with_reducible exact Del.here | with_reducible apply Del.there | with_reducible apply Sel.cons | with_reducible apply Sel.drop)); done) | (repeat (first | exact Sel.refl | exact Sel.nil | exact Del.here | apply Del.there | apply Sel.cons | apply Sel.drop))) ?_
                  clear M; intro M
                  apply DG.pure_ [0, 1, 3, 4, 5, 7] 14 rfl (by kernel_rfl) (by kernel_rfl)
                  · intro w
                    refine WL.move rfl rfl ?_
                    refine WL.move rfl rfl ?_
                    refine WL.move rfl rfl ?_
                    refine WL.nilCheck rfl rfl ?_
                    refine WL.fieldR (off := 1) Try.underlying53 rfl rfl Try.sizeOf22 rfl rfl rfl ?_
                    refine WL.move rfl rfl ?_
                    exact Chain.end_ rfl
                  apply DG.take [6, 8, 9] 11 rfl (by kernel_rfl) (by kernel_rfl) (M.sel (by first | ((repeat (first | with_reducible exact Sel.refl | with_reducible exact Sel.nil | with_reducible exact Del.here | with_reducible apply Del.there | with_reducible apply Sel.cons | with_reducible apply Sel.drop)); done) | (repeat (first | exact Sel.refl | exact Sel.nil | exact Del.here | apply Del.there | apply Sel.cons | apply Sel.drop))))
                  · intro w M
                    refine WL.loadR Try.isAgg22 rfl M (by first | ((repeat (first | with_reducible exact Has.here | with_reducible refine Has.there ?_)); done) | (repeat (first | exact Has.here | refine Has.there ?_))) rfl rfl ?_
                    refine WL.idxA Try.underlying22 Try.sizeOf3 rfl rfl (RdL.isSome (E := intE) (by first | with_reducible assumption | with_reducible exact RdL.mem (by with_reducible assumption) M | exact M.rdL (by first | ((repeat (first | with_reducible exact Has.here | with_reducible refine Has.there ?_)); done) | (repeat (first | exact Has.here | refine Has.there ?_))) | exact RdLH.at (by assumption) (M.sel (by first | ((repeat (first | with_reducible exact Sel.refl | with_reducible exact Sel.nil | with_reducible exact Del.here | with_reducible apply Del.there | with_reducible apply Sel.cons | with_reducible apply Sel.drop)); done) | (repeat (first | exact Sel.refl | exact Sel.nil | exact Del.here | apply Del.there | apply Sel.cons | apply Sel.drop)))) | exact RdL.nil _ _ _) (by omega)) (by omega) (by omega) (by first | exact rfl | exact (Int.toNat_of_nonneg (by omega)).symm) rfl ?_
                    refine WL.loadE0 (E := intE) Try.isAgg3 rfl (by first | with_reducible assumption | with_reducible exact RdL.mem (by with_reducible assumption) M | exact M.rdL (by first | ((repeat (first | with_reducible exact Has.here | with_reducible refine Has.there ?_)); done) | (repeat (first | exact Has.here | refine Has.there ?_))) | exact RdLH.at (by assumption) (M.sel (by first | ((repeat (first | with_reducible exact Sel.refl | with_reducible exact Sel.nil | with_reducible exact Del.here | with_reducible apply Del.there | with_reducible apply Sel.cons | with_reducible apply Sel.drop)); done) | (repeat (first | exact Sel.refl | exact Sel.nil | exact Del.here | apply Del.there | apply Sel.cons | apply Sel.drop)))) | exact RdL.nil _ _ _) (by omega) rfl rfl ?_
                    exact Chain.end_ rfl
                  refine DG.step 2 10 rfl (by kernel_rfl) ?_
                  refine WL.call Try.call14 rfl (Credit_ok x2 (by omega) k (by omega) w0 _ _ (M.sel (K := x2.L ++ []) (by first | ((repeat (first | with_reducible exact Sel.refl | with_reducible exact Sel.nil | with_reducible exact Del.here | with_reducible apply Del.there | with_reducible apply Sel.cons | with_reducible apply Sel.drop)); done) | (repeat (first | exact Sel.refl | exact Sel.nil | exact Del.here | apply Del.there | apply Sel.cons | apply Sel.drop))))) rfl ?_
                  rintro _ _ ⟨rfl, rfl⟩
                  refine DG.go (G := fun j => [2].contains j) (i := 2) (f' := 10) (done := [0, 1, 3, 4, 5, 7, 6, 8, 9]) (fun _ => M.sel (by first | ((repeat (first | with_reducible exact Sel.refl | with_reducible exact Sel.nil | with_reducible exact Del.here | with_reducible apply Del.there | with_reducible apply Sel.cons | with_reducible apply Sel.drop)); done) | (repeat (first | exact Sel.refl | exact Sel.nil | exact Del.here | apply Del.there | apply Sel.cons | apply Sel.drop)))) ?_
                  apply DG.pure_ [10] 9 rfl (by kernel_rfl) (by kernel_rfl)
                  · intro w
                    refine WL.neI rfl rfl rfl ?_
                    exact Chain.end_ rfl
                  refine DG.knowP (t := 128) rfl (fun c15 => ?_) (fun c15 => ?_)
                  · exact absurd hcd.symm c15
                  · apply DG.pure_ [11, 12, 13, 15, 16] 4 rfl (by kernel_rfl) (by kernel_rfl)
                    · intro w
                      refine WL.move rfl rfl ?_
                      refine WL.on rfl rfl ?_
                      refine WL.move rfl rfl ?_
                      refine WL.on rfl rfl ?_
                      refine WL.move rfl rfl ?_
                      refine WL.on rfl rfl ?_
                      refine WL.move rfl rfl ?_
                      refine WL.on rfl rfl ?_
                      refine WL.move rfl rfl ?_
                      exact Chain.end_ rfl
                    refine DG.step 14 3 rfl (by kernel_rfl) ?_
                    refine WL.on rfl rfl ?_
                    refine WL.call Try.call22 rfl (Len_ok x2 (by omega) k (by omega) w0 _ _ (M.sel (K := x2.L ++ []) (by first | ((repeat (first | with_reducible exact Sel.refl | with_reducible exact Sel.nil | with_reducible exact Del.here | with_reducible apply Del.there | with_reducible apply Sel.cons | with_reducible apply Sel.drop)); done) | (repeat (first | exact Sel.refl | exact Sel.nil | exact Del.here | apply Del.there | apply Sel.cons | apply Sel.drop))))) rfl ?_
                    rintro _ _ ⟨rfl, rfl⟩
                    refine DG.go (G := fun j => [2].contains j) (i := 14) (f' := 3) (done := [0, 1, 3, 4, 5, 7, 6, 8, 9, 2, 10, 11, 12, 13, 15, 16]) (fun h => by cases h) ?_
                    refine DG.step 17 2 rfl (by kernel_rfl) ?_
                    refine WL.on rfl rfl ?_
                    refine WL.call Try.call23 rfl (RLen_ok ⟨yg, As, cs, sh, Ac, cc, cd, Al, cl, jl, Ar, cr, rd, tn⟩ (by dsimp only; omega) (k : Int) w0 _ x2.L (M.sel (by first | ((repeat (first | with_reducible exact Sel.refl | with_reducible exact Sel.nil | with_reducible exact Del.here | with_reducible apply Del.there | with_reducible apply Sel.cons | with_reducible apply Sel.drop)); done) | (repeat (first | exact Sel.refl | exact Sel.nil | exact Del.here | apply Del.there | apply Sel.cons | apply Sel.drop))))) rfl ?_
                    rintro _ w ⟨rfl, M⟩
                    unfold RfX.L RfX.row at M
                    simp only [List.cons_append, List.nil_append] at M
                    try dsimp only at M
                    refine DG.go (G := fun j => [2].contains j) (i := 17) (f' := 2) (done := [0, 1, 3, 4, 5, 7, 6, 8, 9, 2, 10, 11, 12, 13, 15, 16, 14]) (fun h => by cases h) ?_
                    apply DG.pure_ [18, 19] 0 rfl (by kernel_rfl) (by kernel_rfl)
                    · intro w
                      refine WL.on rfl rfl ?_
                      refine WL.neI rfl rfl rfl ?_
                      refine WL.pickF rfl rfl rfl ?_
                      exact Chain.end_ rfl
                    refine DG.end_ (by kernel_rfl) ?_
                    refine WX.next ?_
                    refine W.sub [(0, _), (1, _), (5, _), (7, _), (9, _), (16, _), (137, _)] (.cons rfl (.cons rfl (.cons rfl (.cons rfl (.cons rfl (.cons rfl (.cons rfl .nil))))))) ?_
                    refine W.ite rfl (fun c16 => ?_) (fun c16 => ?_)
                    · exact absurd (by rw [hjo]) c16
                    · refine W.skip ?_
                      refine WX.blockNormal ?_
                      refine WX.next ?_
                      refine W.region ?_
                      refine WL.move rfl rfl ?_
                      refine WL.add rfl rfl (by first | exact wI64 (by omega) | rfl) rfl ?_
                      refine WL.assign rfl rfl ?_
                      refine WL.nil ?_
                      refine WX.round (k + 1) (by (repeat' (first | exact envSub.nil | refine envSub.cons ?_ ?_)) <;> first | rfl | (refine congrArg some ?_; refine congrArg (Value.int _) ?_; first | omega | (dsimp only; omega)) | (simp; done) | (refine congrArg some ?_; dsimp only; congr 1; omega) | (simp; omega)) ⟨M.sel (by first | ((repeat (first | with_reducible exact Sel.refl | with_reducible exact Sel.nil | with_reducible exact Del.here | with_reducible apply Del.there | with_reducible apply Sel.cons | with_reducible apply Sel.drop)); done) | (repeat (first | exact Sel.refl | exact Sel.nil | exact Del.here | apply Del.there | apply Sel.cons | apply Sel.drop))), by omega⟩ (by first | omega | (dsimp only; omega))
                · refine W.exit ?_
                  refine WX.thenExit ?_
                  refine WX.thenExit ?_
                  refine WX.blockHere ?_
                  refine WX.blockNormal ?_
                  refine WX.next ?_
                  refine W.region ?_
                  refine WL.move rfl rfl ?_
                  refine WL.add rfl rfl (by first | exact wI64 (by omega) | rfl) rfl ?_
                  refine WL.assign rfl rfl ?_
                  refine WL.nil ?_
                  refine WX.round ((i + 1, x2, ⟨yg, As, cs, sh, Ac, cc, cd, Al, cl, jl, Ar, cr, rd, tn⟩)) (by (repeat' (first | exact envSub.nil | refine envSub.cons ?_ ?_)) <;> first | rfl | (refine congrArg some ?_; refine congrArg (Value.int _) ?_; first | omega | (dsimp only; omega)) | (simp; done) | (refine congrArg some ?_; dsimp only; congr 1; omega) | (simp; omega)) ⟨M.sel (by first | ((repeat (first | with_reducible exact Sel.refl | with_reducible exact Sel.nil | with_reducible exact Del.here | with_reducible apply Del.there | with_reducible apply Sel.cons | with_reducible apply Sel.drop)); done) | (repeat (first | exact Sel.refl | exact Sel.nil | exact Del.here | apply Del.there | apply Sel.cons | apply Sel.drop))), ⟨by dsimp only; omega, ho2, ⟨h1', h2, h3, h4, h5⟩, hl2⟩⟩ (by first | omega | (dsimp only; omega))
            · refine W.exit ?_
              refine WX.thenExit ?_
              refine WX.thenExit ?_
              refine WX.blockHere ?_
              refine WX.next ?_
              refine W.seq ?_
              have hfw : x.fw.length = l0.length := by rw [← hlen]; simp [SdX.s]
              refine W.region ?_
              refine WL.move rfl rfl ?_
              refine WL.call Try.call22 rfl (LenOut_ok x (by omega) (-1) (by omega) w0 _ _ (M.sel (K := x.L ++ []) (by first | ((repeat (first | with_reducible exact Sel.refl | with_reducible exact Sel.nil | with_reducible exact Del.here | with_reducible apply Del.there | with_reducible apply Sel.cons | with_reducible apply Sel.drop)); done) | (repeat (first | exact Sel.refl | exact Sel.nil | exact Del.here | apply Del.there | apply Sel.cons | apply Sel.drop))))) rfl ?_
              rintro _ _ ⟨rfl, rfl⟩
              refine WL.eqI rfl rfl rfl ?_
              refine WL.moveIf rfl rfl (fun c17 => ?_) (fun c17 => ?_)
              · refine WL.on rfl rfl ?_
                refine WL.move rfl rfl ?_
                refine WL.on rfl rfl ?_
                refine WL.move rfl rfl ?_
                refine WL.on rfl rfl ?_
                refine WL.len Try.underlying22 rfl rfl ?_
                refine WL.on rfl rfl ?_
                refine WL.call Try.call14 rfl (CreditOut_ok x (by omega) (l0.length : Int) (by omega) w0 _ _ (M.sel (K := x.L ++ []) (by first | ((repeat (first | with_reducible exact Sel.refl | with_reducible exact Sel.nil | with_reducible exact Del.here | with_reducible apply Del.there | with_reducible apply Sel.cons | with_reducible apply Sel.drop)); done) | (repeat (first | exact Sel.refl | exact Sel.nil | exact Del.here | apply Del.there | apply Sel.cons | apply Sel.drop))))) rfl ?_
                rintro _ _ ⟨rfl, rfl⟩
                refine WL.on rfl rfl ?_
                refine WL.eqI rfl rfl rfl ?_
                refine WL.pickT rfl rfl rfl ?_
                refine WL.moveIf rfl rfl (fun c18 => ?_) (fun c18 => ?_)
                · refine WL.on rfl rfl ?_
                  refine WL.call Try.call16 rfl (known21_ok _) rfl ?_
                  rintro _ w ⟨rfl, m⟩
                  replace M := M.call0 m; clear m
                  refine WL.pickT rfl rfl rfl ?_
                  refine WL.assign rfl rfl ?_
                  refine WL.nil ?_
                  refine WX.next ?_
                  refine W.sub [(4, _)] (.cons rfl .nil) ?_
                  refine W.ret ?_
                  refine WX.ret1 rfl rfl ?_
                  exact ⟨rfl, M.sel (by first | ((repeat (first | with_reducible exact Sel.refl | with_reducible exact Sel.nil | with_reducible exact Del.here | with_reducible apply Del.there | with_reducible apply Sel.cons | with_reducible apply Sel.drop)); done) | (repeat (first | exact Sel.refl | exact Sel.nil | exact Del.here | apply Del.there | apply Sel.cons | apply Sel.drop)))⟩
                · first | exact absurd rfl c18 | exact absurd (by decide) c18 | (simp at c18; done)
              · first | exact absurd rfl c17 | exact absurd (by decide) c17 | (simp at c17; done)
          · refine WL.off rfl rfl rfl rfl ?_
            refine WL.off rfl rfl rfl rfl ?_
            refine WL.pickF rfl rfl rfl ?_
            refine WL.nil ?_
            refine WX.next ?_
            refine W.sub [(0, _), (1, _), (5, _), (7, _), (9, _), (62, _)] (.cons rfl (.cons rfl (.cons rfl (.cons rfl (.cons rfl (.cons rfl .nil)))))) ?_
            refine W.condF rfl ?_
            refine W.exit ?_
            refine WX.thenExit ?_
            refine WX.thenExit ?_
            refine WX.blockHere ?_
            refine WX.next ?_
            refine W.seq ?_
            have hfw : x.fw.length = l0.length := by rw [← hlen]; simp [SdX.s]
            refine W.region ?_
            refine WL.move rfl rfl ?_
            refine WL.call Try.call22 rfl (LenOut_ok x (by omega) (-1) (by omega) w0 _ _ (M.sel (K := x.L ++ []) (by first | ((repeat (first | with_reducible exact Sel.refl | with_reducible exact Sel.nil | with_reducible exact Del.here | with_reducible apply Del.there | with_reducible apply Sel.cons | with_reducible apply Sel.drop)); done) | (repeat (first | exact Sel.refl | exact Sel.nil | exact Del.here | apply Del.there | apply Sel.cons | apply Sel.drop))))) rfl ?_
            rintro _ _ ⟨rfl, rfl⟩
            refine WL.eqI rfl rfl rfl ?_
            refine WL.moveIf rfl rfl (fun c17 => ?_) (fun c17 => ?_)
            · refine WL.on rfl rfl ?_
              refine WL.move rfl rfl ?_
              refine WL.on rfl rfl ?_
              refine WL.move rfl rfl ?_
              refine WL.on rfl rfl ?_
              refine WL.len Try.underlying22 rfl rfl ?_
              refine WL.on rfl rfl ?_
              refine WL.call Try.call14 rfl (CreditOut_ok x (by omega) (l0.length : Int) (by omega) w0 _ _ (M.sel (K := x.L ++ []) (by first | ((repeat (first | with_reducible exact Sel.refl | with_reducible exact Sel.nil | with_reducible exact Del.here | with_reducible apply Del.there | with_reducible apply Sel.cons | with_reducible apply Sel.drop)); done) | (repeat (first | exact Sel.refl | exact Sel.nil | exact Del.here | apply Del.there | apply Sel.cons | apply Sel.drop))))) rfl ?_
              rintro _ _ ⟨rfl, rfl⟩
              refine WL.on rfl rfl ?_
              refine WL.eqI rfl rfl rfl ?_
              refine WL.pickT rfl rfl rfl ?_
              refine WL.moveIf rfl rfl (fun c18 => ?_) (fun c18 => ?_)
              · refine WL.on rfl rfl ?_
                refine WL.call Try.call16 rfl (known21_ok _) rfl ?_
                rintro _ w ⟨rfl, m⟩
                replace M := M.call0 m; clear m
                refine WL.pickT rfl rfl rfl ?_
                refine WL.assign rfl rfl ?_
                refine WL.nil ?_
                refine WX.next ?_
                refine W.sub [(4, _)] (.cons rfl .nil) ?_
                refine W.ret ?_
                refine WX.ret1 rfl rfl ?_
                exact ⟨rfl, M.sel (by first | ((repeat (first | with_reducible exact Sel.refl | with_reducible exact Sel.nil | with_reducible exact Del.here | with_reducible apply Del.there | with_reducible apply Sel.cons | with_reducible apply Sel.drop)); done) | (repeat (first | exact Sel.refl | exact Sel.nil | exact Del.here | apply Del.there | apply Sel.cons | apply Sel.drop)))⟩
              · first | exact absurd rfl c18 | exact absurd (by decide) c18 | (simp at c18; done)
            · first | exact absurd rfl c17 | exact absurd (by decide) c17 | (simp at c17; done)
theorem DrrDoes_ok (A0 : Option Addr) (k0 : Nat) (l0 : List Int) (A1 : Option Addr) (k1 : Nat) (l : List ActX) (w0 : World) (h0 : RdL w0 intE A0 k0 l0) (h1 : RdL w0 actE A1 k1 l) :
    Fn Try.prog 6 [.slice A0 l0.length k0, .slice A1 l.length k1] w0 fun v w' => v = .bool true ∧ Mem w0 w' [] := by
  by_cases hb : badL l0
  · exact DrrDoes_bad A0 k0 l0 A1 k1 l w0 h0 h1 hb
  · exact DrrDoes_good A0 k0 l0 A1 k1 l w0 h0 h1 hb
end Go.Proofs.Ytdhmopmfnnlhcaa
