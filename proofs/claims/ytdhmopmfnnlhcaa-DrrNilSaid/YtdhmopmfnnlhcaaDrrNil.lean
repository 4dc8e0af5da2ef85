/-
  Walk: a scheduler that is not there (seawalllaw21.DrrNil).
-/
import Derived.Test.YtdhmopmfnnlhcaaKnown21
import Derived.Test.YtdhmopmfnnlhcaaDrrLaw2
namespace Go.Proofs.Ytdhmopmfnnlhcaa
open Go Go.RowKit

theorem good49 : ¬ badL [4, 9] := by unfold badL; decide
/-- Two like jobs pushed, one popped. -/
theorem two_like {x : JX} (hf : 0 ≤ x.flow ∧ x.flow < 2) (hc : 1 ≤ x.cost ∧ x.cost ≤ 120) :
    Ok (pushS (pushS (newS [4, 9]) x) x) ∧ nJ (pushS (pushS (newS [4, 9]) x) x).fl ≠ 0 ∧ popJ (pushS (pushS (newS [4, 9]) x) x) = x ∧ (popS (pushS (pushS (newS [4, 9]) x) x)).on = true ∧ ((popS (pushS (pushS (newS [4, 9]) x) x)).hd : Int) = x.flow := by
  obtain ⟨k, hk⟩ : ∃ k : Nat, x.flow = (k : Int) := ⟨x.flow.toNat, by omega⟩
  have hn := newS_ok good49
  have hl : (newS [4, 9]).fl.length = 2 := rfl
  have p1 := push_says (s := newS [4, 9]) hk (by rw [hl]; omega) (by omega) (by rw [hn.2]; omega)
  have p2 := push_says (s := pushS (newS [4, 9]) x) hk (by rw [p1.2.2.1, hl]; omega) (by omega) (by rw [p1.2.2.2.2, hn.2]; omega)
  have hO := (hn.1.push x).push x
  have hne : nJ (pushS (pushS (newS [4, 9]) x) x).fl ≠ 0 := by rw [p2.2.2.2.2]; omega
  have hj0 : ∀ i, (el (newS [4, 9]).fl i).jobs = [] := by
    intro i
    match i with
    | 0 => rfl
    | 1 => rfl
    | i + 2 => rfl
  have hjobs : ∀ i, (el (pushS (pushS (newS [4, 9]) x) x).fl i).jobs = if k = i then [x, x] else [] := by
    intro i
    rw [p2.2.1]
    by_cases e : k = i
    · subst e
      rw [if_pos rfl, if_pos rfl]
      dsimp only
      rw [p1.2.1, if_pos rfl]
      dsimp only
      rw [hj0]
      rfl
    · rw [if_neg e, if_neg e, p1.2.1, if_neg e]
      exact hj0 i
  obtain ⟨i, js, hp⟩ := pop_says hO hne
  have hw := hp.was
  rw [hjobs] at hw
  split at hw
  · rename_i e
    subst e
    injection hw with e1 e2
    have hjs : js ≠ [] := by rw [← e2]; simp
    exact ⟨hO, hne, e1.symm, by rw [hp.on]; simp [hjs], by rw [hp.hd hjs]; exact hk.symm⟩
  · cases hw

set_option maxRecDepth 10000 in
set_option maxHeartbeats 4000000 in
theorem DrrNil_ok (A : Option Addr) (m k : Nat) (j : JX) (w0 : World) :
    Fn Try.prog 9 [.slice A m k, j.v] w0 fun v w' => v = .bool true ∧ Mem w0 w' [] := by
  have M := Mem.refl w0
  obtain ⟨w, hw⟩ : ∃ w, w = w0 := ⟨w0, rfl⟩
  obtain ⟨jf, jc, ji⟩ := j
  have hX := jobX_ok ⟨jf, jc, ji⟩ (n := 2) (by omega)
  have h2 := two_like (x := jobX ⟨jf, jc, ji⟩ 2) ⟨hX.1, by omega⟩ hX.2.2
  unfold JX.v
  dsimp only
  refine Fn.enter Try.func9 rfl Try.ntmps9 rfl ?_
  refine W.sub [(0, _), (1, _)] (.cons rfl (.cons rfl .nil)) ?_
  refine W.seq ?_
  refine W.region ?_
  refine WL.box rfl M rfl ?_
  intro g0_0 w M
  try simp only [Value.cells] at M
  try simp only [List.toList_toArray] at M
  refine WL.assign rfl rfl ?_
  refine WL.nil ?_
  refine WX.next ?_
  refine W.sub [(3, _)] (.cons rfl .nil) ?_
  refine W.seq ?_
  refine W.region ?_
  refine WL.assign rfl rfl ?_
  refine WL.nil ?_
  refine WX.next ?_
  refine W.sub [(3, _), (5, _)] (.cons rfl (.cons rfl .nil)) ?_
  refine W.seq ?_
  refine W.region ?_
  refine WL.move rfl rfl ?_
  refine WL.call Try.call13 rfl (nilPop_ok _) rfl ?_
  rintro _ w ⟨rfl, m⟩
  replace M := M.call0 m; clear m
  unfold JX.v
  refine WL.move rfl rfl ?_
  refine WL.extractL rfl rfl rfl ?_
  refine WL.extractL rfl rfl rfl ?_
  refine WL.alloc Try.zeroValue31 M rfl ?_
  intro g2_5 w M
  try simp only [Value.cells] at M
  try simp only [List.toList_toArray] at M
  refine WL.storeWA Try.sizeOf31 rfl rfl (by repeat (first | exact oneNil | refine oneCons rfl ?_)) rfl rfl M (by first | ((repeat (first | with_reducible exact Upd.here | with_reducible apply Upd.there)); done) | (repeat (first | exact Upd.here | apply Upd.there))) ?_
  intro w M
  refine WL.assign rfl rfl ?_
  refine WL.nil ?_
  refine WX.next ?_
  refine W.sub [(3, _), (5, _), (7, _)] (.cons rfl (.cons rfl (.cons rfl .nil))) ?_
  refine W.seq ?_
  refine W.region ?_
  refine WL.move rfl rfl ?_
  refine WL.loadW Try.isAgg31 Try.sizeOf31 rfl M (by first | ((repeat (first | with_reducible exact Has.here | with_reducible refine Has.there ?_)); done) | (repeat (first | exact Has.here | refine Has.there ?_))) rfl rfl ?_
  refine WL.call Try.call12 rfl (nilPush_ok ⟨jf, jc, ji⟩ _) rfl ?_
  rintro _ w ⟨rfl, m⟩
  replace M := M.call0 m; clear m
  refine WL.eqI rfl rfl rfl ?_
  refine WL.moveIf rfl rfl (fun c0 => ?_) (fun c0 => ?_)
  · refine WL.on rfl rfl ?_
    refine WL.move rfl rfl ?_
    refine WL.on rfl rfl ?_
    refine WL.not rfl rfl ?_
    refine WL.pickT rfl rfl rfl ?_
    refine WL.moveIfB rfl rfl (fun c1 => ?_) (fun c1 => ?_)
    · refine WL.on rfl rfl ?_
      refine WL.move rfl rfl ?_
      refine WL.on rfl rfl ?_
      refine WL.call Try.call22 rfl (nilLen_ok 0 _) rfl ?_
      rintro _ _ ⟨rfl, rfl⟩
      refine WL.on rfl rfl ?_
      refine WL.eqI rfl rfl rfl ?_
      refine WL.pickT rfl rfl rfl ?_
      refine WL.moveIf rfl rfl (fun c2 => ?_) (fun c2 => ?_)
      · refine WL.on rfl rfl ?_
        refine WL.move rfl rfl ?_
        refine WL.on rfl rfl ?_
        refine WL.call Try.call14 rfl (nilCredit_ok 0 _) rfl ?_
        rintro _ _ ⟨rfl, rfl⟩
        refine WL.on rfl rfl ?_
        refine WL.eqI rfl rfl rfl ?_
        refine WL.pickT rfl rfl rfl ?_
        refine WL.moveIf rfl rfl (fun c3 => ?_) (fun c3 => ?_)
        · refine WL.on rfl rfl ?_
          refine WL.move rfl rfl ?_
          refine WL.on rfl rfl ?_
          refine WL.call Try.call15 rfl (nilTurn_ok _) rfl ?_
          rintro _ _ ⟨rfl, rfl⟩
          refine WL.on rfl rfl ?_
          refine WL.eqI rfl rfl rfl ?_
          refine WL.pickT rfl rfl rfl ?_
          refine WL.assign rfl rfl ?_
          refine WL.nil ?_
          refine WX.next ?_
          refine W.sub [(3, _), (8, _)] (.cons rfl (.cons rfl .nil)) ?_
          refine W.seq ?_
          refine W.region ?_
          refine WL.buildL (E := intE) (l := [4, 9]) Try.elem3 M rfl rfl rfl rfl rfl rfl ?_
          intro g4_0 w M
          refine WL.assign rfl rfl ?_
          refine WL.nil ?_
          refine WX.next ?_
          refine W.sub [(3, _), (8, _), (9, _)] (.cons rfl (.cons rfl (.cons rfl .nil))) ?_
          refine W.seq ?_
          refine W.region ?_
          refine WL.move rfl rfl ?_
          refine WL.call Try.call17 rfl (New_ok (l := [4, 9]) (by first | with_reducible assumption | with_reducible exact RdL.mem (by with_reducible assumption) M | exact M.rdL (by first | ((repeat (first | with_reducible exact Has.here | with_reducible refine Has.there ?_)); done) | (repeat (first | exact Has.here | refine Has.there ?_))) | exact RdLH.at (by assumption) (M.sel (by first | ((repeat (first | with_reducible exact Sel.refl | with_reducible exact Sel.nil | with_reducible exact Del.here | with_reducible apply Del.there | with_reducible apply Sel.cons | with_reducible apply Sel.drop)); done) | (repeat (first | exact Sel.refl | exact Sel.nil | exact Del.here | apply Del.there | apply Sel.cons | apply Sel.drop)))) | exact RdL.nil _ _ _) (by simp)) rfl ?_
          rintro _ w h
          obtain ⟨x1, rfl, hsx1, hox1, m⟩ : ∃ x : SdX, _ = Value.tuple #[.pointer (some ⟨x.g, 0, none⟩), .int .i64 0] ∧ x.s = newS [4, 9] ∧ x.ok ∧ Mem _ w x.L := by
            rcases h with ⟨hb, _⟩ | ⟨_, h⟩
            · exact absurd hb good49
            · exact h
          replace M := M.callN m; clear m
          refine WL.move rfl rfl ?_
          refine WL.extractL rfl rfl rfl ?_
          refine WL.extractL rfl rfl rfl ?_
          refine WL.assign rfl rfl ?_
          refine WL.assign rfl rfl ?_
          refine WL.nil ?_
          refine WX.next ?_
          refine W.sub [(3, _), (8, _), (9, _), (10, _), (11, _)] (.cons rfl (.cons rfl (.cons rfl (.cons rfl (.cons rfl .nil))))) ?_
          refine W.seq ?_
          refine W.region ?_
          refine WL.move rfl rfl ?_
          refine WL.call Try.call17 rfl (New_ok (l := [4, 9]) (by first | with_reducible assumption | with_reducible exact RdL.mem (by with_reducible assumption) M | exact M.rdL (by first | ((repeat (first | with_reducible exact Has.here | with_reducible refine Has.there ?_)); done) | (repeat (first | exact Has.here | refine Has.there ?_))) | exact RdLH.at (by assumption) (M.sel (by first | ((repeat (first | with_reducible exact Sel.refl | with_reducible exact Sel.nil | with_reducible exact Del.here | with_reducible apply Del.there | with_reducible apply Sel.cons | with_reducible apply Sel.drop)); done) | (repeat (first | exact Sel.refl | exact Sel.nil | exact Del.here | apply Del.there | apply Sel.cons | apply Sel.drop)))) | exact RdL.nil _ _ _) (by simp)) rfl ?_
          rintro _ w h
          obtain ⟨x2, rfl, hsx2, hox2, m⟩ : ∃ x : SdX, _ = Value.tuple #[.pointer (some ⟨x.g, 0, none⟩), .int .i64 0] ∧ x.s = newS [4, 9] ∧ x.ok ∧ Mem _ w x.L := by
            rcases h with ⟨hb, _⟩ | ⟨_, h⟩
            · exact absurd hb good49
            · exact h
          replace M := M.callN m; clear m
          refine WL.move rfl rfl ?_
          refine WL.extractL rfl rfl rfl ?_
          refine WL.extractL rfl rfl rfl ?_
          refine WL.assign rfl rfl ?_
          refine WL.assign rfl rfl ?_
          refine WL.nil ?_
          refine WX.next ?_
          refine W.sub [(3, _), (8, _), (9, _), (10, _), (11, _), (12, _), (13, _)] (.cons rfl (.cons rfl (.cons rfl (.cons rfl (.cons rfl (.cons rfl (.cons rfl .nil))))))) ?_
          refine W.seq ?_
          refine W.seq ?_
          refine W.region ?_
          refine WL.move rfl rfl ?_
          refine WL.neI rfl rfl rfl ?_
          refine WL.moveIf rfl rfl (fun c4 => ?_) (fun c4 => ?_)
          · exact absurd rfl c4
          · refine WL.on rfl rfl ?_
            refine WL.move rfl rfl ?_
            refine WL.on rfl rfl ?_
            refine WL.neI rfl rfl rfl ?_
            refine WL.pickF rfl rfl rfl ?_
            refine WL.moveIf rfl rfl (fun c5 => ?_) (fun c5 => ?_)
            · exact absurd rfl c5
            · refine WL.on rfl rfl ?_
              refine WL.move rfl rfl ?_
              refine WL.on rfl rfl ?_
              refine WL.eqNilF Try.underlying24 rfl rfl rfl ?_
              refine WL.pickF rfl rfl rfl ?_
              refine WL.move rfl rfl ?_
              refine WL.on rfl rfl ?_
              refine WL.move rfl rfl ?_
              refine WL.on rfl rfl ?_
              refine WL.eqNilF Try.underlying24 rfl rfl rfl ?_
              refine WL.pickF rfl rfl rfl ?_
              refine WL.nil ?_
              refine WX.next ?_
              refine W.sub [(3, _), (8, _), (9, _), (10, _), (12, _), (69, _)] (.cons rfl (.cons rfl (.cons rfl (.cons rfl (.cons rfl (.cons rfl .nil)))))) ?_
              refine W.condF rfl ?_
              refine W.skip ?_
              refine WX.next ?_
              refine W.seq ?_
              have h49 : 0 < ([4, 9] : List Int).length := by decide
              refine W.region ?_
              refine WL.move rfl rfl ?_
              refine WL.idxA (jn := 0) Try.underlying22 Try.sizeOf3 rfl rfl (RdL.isSome (E := intE) (by first | with_reducible assumption | with_reducible exact RdL.mem (by with_reducible assumption) M | exact M.rdL (by first | ((repeat (first | with_reducible exact Has.here | with_reducible refine Has.there ?_)); done) | (repeat (first | exact Has.here | refine Has.there ?_))) | exact RdLH.at (by assumption) (M.sel (by first | ((repeat (first | with_reducible exact Sel.refl | with_reducible exact Sel.nil | with_reducible exact Del.here | with_reducible apply Del.there | with_reducible apply Sel.cons | with_reducible apply Sel.drop)); done) | (repeat (first | exact Sel.refl | exact Sel.nil | exact Del.here | apply Del.there | apply Sel.cons | apply Sel.drop)))) | exact RdL.nil _ _ _) (by omega)) (by omega) (by omega) (by first | exact rfl | exact (Int.toNat_of_nonneg (by omega)).symm) rfl ?_
              refine WL.storeE0 (E := intE) (x' := 1) Try.sizeOf3 rfl rfl rfl M (by first | ((repeat (first | with_reducible exact Has.here | with_reducible refine Has.there ?_)); done) | (repeat (first | exact Has.here | refine Has.there ?_))) (by omega) (by repeat (first | exact SetAt.zero | apply SetAt.succ)) (by first | ((repeat (first | with_reducible exact Upd.here | with_reducible apply Upd.there)); done) | (repeat (first | exact Upd.here | apply Upd.there))) ?_
              intro w M
              refine WL.nil ?_
              refine WX.next ?_
              refine W.sub [(3, _), (8, _), (10, _), (12, _)] (.cons rfl (.cons rfl (.cons rfl (.cons rfl .nil)))) ?_
              refine W.seq ?_
              refine W.region ?_
              refine WL.loadW Try.isAgg31 Try.sizeOf31 rfl M (by first | ((repeat (first | with_reducible exact Has.here | with_reducible refine Has.there ?_)); done) | (repeat (first | exact Has.here | refine Has.there ?_))) rfl rfl ?_
              refine WL.call Try.call11 rfl (job_ok ⟨jf, jc, ji⟩ 2 (by omega) _) rfl ?_
              rintro _ w ⟨rfl, m⟩
              replace M := M.call0 m; clear m
              obtain ⟨X, hXe⟩ : ∃ X, jobX ⟨jf, jc, ji⟩ 2 = X := ⟨_, rfl⟩
              rw [hXe] at h2 ⊢
              obtain ⟨xf, xc, xi⟩ := X
              unfold JX.v
              dsimp only
              refine WL.alloc Try.zeroValue31 M rfl ?_
              intro g10_2 w M
              try simp only [Value.cells] at M
              try simp only [List.toList_toArray] at M
              refine WL.storeWA Try.sizeOf31 rfl rfl (by repeat (first | exact oneNil | refine oneCons rfl ?_)) rfl rfl M (by first | ((repeat (first | with_reducible exact Upd.here | with_reducible apply Upd.there)); done) | (repeat (first | exact Upd.here | apply Upd.there))) ?_
              intro w M
              refine WL.nil ?_
              refine WX.next ?_
              refine W.sub [(8, _), (10, _), (12, _), (14, _)] (.cons rfl (.cons rfl (.cons rfl (.cons rfl .nil)))) ?_
              refine W.seq ?_
              refine W.region ?_
              refine WL.move rfl rfl ?_
              refine WL.loadW Try.isAgg31 Try.sizeOf31 rfl M (by first | ((repeat (first | with_reducible exact Has.here | with_reducible refine Has.there ?_)); done) | (repeat (first | exact Has.here | refine Has.there ?_))) rfl rfl ?_
              refine WL.call Try.call12 rfl (Push1_ok x1 hox1 ⟨xf, xc, xi⟩ w0 w _ (M.sel (K := x1.L ++ (x2.L ++ [Asr.row g10_2 31 [.int .i64 xf, .int .i64 xc, .int .u64 (xi : Int)]])) (by first | ((repeat (first | with_reducible exact Sel.refl | with_reducible exact Sel.nil | with_reducible exact Del.here | with_reducible apply Del.there | with_reducible apply Sel.cons | with_reducible apply Sel.drop)); done) | (repeat (first | exact Sel.refl | exact Sel.nil | exact Del.here | apply Del.there | apply Sel.cons | apply Sel.drop))))) rfl ?_
              rintro _ w ⟨x3, rfl, hg3, hs3, ho3, M⟩
              rw [hg3]
              refine WL.nil ?_
              refine WX.next ?_
              refine W.sub [(8, _), (10, _), (12, _), (14, _)] (.cons rfl (.cons rfl (.cons rfl (.cons rfl .nil)))) ?_
              refine W.seq ?_
              refine W.region ?_
              refine WL.move rfl rfl ?_
              refine WL.loadW Try.isAgg31 Try.sizeOf31 rfl M (by first | ((repeat (first | with_reducible exact Has.here | with_reducible refine Has.there ?_)); done) | (repeat (first | exact Has.here | refine Has.there ?_))) rfl rfl ?_
              refine WL.call Try.call12 rfl (Push1_ok x3 ho3 ⟨xf, xc, xi⟩ w0 w _ M) rfl ?_
              rintro _ w ⟨x4, rfl, hg4, hs4, ho4, M⟩
              rw [hg4]
              rw [hs3, hsx1] at hs4
              rw [← hs4] at h2
              refine WL.nil ?_
              refine WX.next ?_
              refine W.sub [(8, _), (10, _), (12, _), (14, _)] (.cons rfl (.cons rfl (.cons rfl (.cons rfl .nil)))) ?_
              refine W.seq ?_
              refine W.region ?_
              refine WL.move rfl rfl ?_
              refine WL.call Try.call13 rfl (Pop1_ok x4 ho4 h2.2.1 w0 w _ M) rfl ?_
              rintro _ w ⟨x5, rfl, hg5, hs5, ho5, M⟩
              rw [hg5]
              rw [← hs5] at h2
              rw [h2.2.2.1]
              unfold JX.v
              dsimp only
              have hfl2 : x2.fw.length = 2 := (show x2.s.fl.length = x2.fw.length by simp [SdX.s]) ▸ (show x2.s.fl.length = 2 by rw [hsx2]; rfl)
              have hz : ∀ i, i < 2 → (el x2.fw i).jobs.length = 0 := by
                intro i hi
                have e := el_key x2.fw i (by omega)
                have e2 : x2.fw.map FwX.key = (newS [4, 9]).fl := congrArg Sd.fl hsx2
                rw [e2] at e
                have e3 : (el x2.fw i).jobs = (el (newS [4, 9]).fl i).jobs := by rw [e]; rfl
                rw [e3]
                match i, hi with
                | 0, _ => rfl
                | 1, _ => rfl
              have hon2 : x2.on = false := congrArg Sd.on hsx2
              have hon5 : x5.on = true := h2.2.2.2.1
              have hhd5 : (x5.s.hd : Int) = xf := h2.2.2.2.2
              refine WL.move rfl rfl ?_
              refine WL.extractL rfl rfl rfl ?_
              refine WL.extractL rfl rfl rfl ?_
              refine WL.alloc Try.zeroValue31 M rfl ?_
              intro g13_5 w M
              try simp only [Value.cells] at M
              try simp only [List.toList_toArray] at M
              refine WL.storeWA Try.sizeOf31 rfl rfl (by repeat (first | exact oneNil | refine oneCons rfl ?_)) rfl rfl M (by first | ((repeat (first | with_reducible exact Upd.here | with_reducible apply Upd.there)); done) | (repeat (first | exact Upd.here | apply Upd.there))) ?_
              intro w M
              refine WL.assign rfl rfl ?_
              refine WL.nil ?_
              refine WX.next ?_
              refine W.sub [(8, _), (10, _), (12, _), (14, _), (15, _), (16, _)] (.cons rfl (.cons rfl (.cons rfl (.cons rfl (.cons rfl (.cons rfl .nil)))))) ?_
              refine W.seq ?_
              refine W.drawM ([Asr.row g13_5 31 [.int .i64 xf, .int .i64 xc, .int .u64 (xi : Int)], Asr.row g10_2 31 [.int .i64 xf, .int .i64 xc, .int .u64 (xi : Int)]]) (by kernel_rfl) (fun j => [5, 6, 25, 26].contains j) M (by first | ((repeat (first | with_reducible exact Sel.refl | with_reducible exact Sel.nil | with_reducible exact Del.here | with_reducible apply Del.there | with_reducible apply Sel.cons | with_reducible apply Sel.drop)); done) | (repeat (first | exact Sel.refl | exact Sel.nil | exact Del.here | apply Del.there | apply Sel.cons | apply Sel.drop))) ?_
              clear M; intro M
              apply DG.pure_ [0] 34 rfl (by kernel_rfl) (by kernel_rfl)
              · intro w
                refine WL.move rfl rfl ?_
                exact Chain.end_ rfl
              refine DG.knowP (t := 85) rfl (fun c8 => ?_) (fun c8 => ?_)
              · apply DG.pure_ [1, 2, 3] 31 rfl (by kernel_rfl) (by kernel_rfl)
                · intro w
                  refine WL.move rfl rfl ?_
                  refine WL.on rfl rfl ?_
                  refine WL.move rfl rfl ?_
                  refine WL.pickT rfl rfl rfl ?_
                  exact Chain.end_ rfl
                refine DG.know (t := 88) rfl (fun c9 => ?_) (fun c9 => ?_)
                · (try simp only [Bool.not_eq_true'] at c9); (try simp only [Bool.not_eq_false'] at c9); (try simp only [decide_eq_true_eq] at c9); (try simp only [decide_eq_false_iff_not] at c9)
                  apply DG.pure_ [4] 30 rfl (by kernel_rfl) (by kernel_rfl)
                  · intro w
                    refine WL.move rfl rfl ?_
                    exact Chain.end_ rfl
                  apply DG.take [5, 6, 7, 8] 26 rfl (by kernel_rfl) (by kernel_rfl) (M.sel (by first | ((repeat (first | with_reducible exact Sel.refl | with_reducible exact Sel.nil | with_reducible exact Del.here | with_reducible apply Del.there | with_reducible apply Sel.cons | with_reducible apply Sel.drop)); done) | (repeat (first | exact Sel.refl | exact Sel.nil | exact Del.here | apply Del.there | apply Sel.cons | apply Sel.drop))))
                  · intro w M
                    refine WL.on rfl rfl ?_
                    refine WL.loadW Try.isAgg31 Try.sizeOf31 rfl M (by first | ((repeat (first | with_reducible exact Has.here | with_reducible refine Has.there ?_)); done) | (repeat (first | exact Has.here | refine Has.there ?_))) rfl rfl ?_
                    refine WL.on rfl rfl ?_
                    refine WL.loadW Try.isAgg31 Try.sizeOf31 rfl M (by first | ((repeat (first | with_reducible exact Has.here | with_reducible refine Has.there ?_)); done) | (repeat (first | exact Has.here | refine Has.there ?_))) rfl rfl ?_
                    refine WL.on rfl rfl ?_
                    refine WL.eqlJ ⟨xf, xc, xi⟩ ⟨xf, xc, xi⟩ rfl rfl rfl ?_
                    refine WL.pickT rfl rfl rfl ?_
                    exact Chain.end_ rfl
                  refine DG.know (t := 93) rfl (fun c10 => ?_) (fun c10 => ?_)
                  · (try simp only [Bool.not_eq_true'] at c10); (try simp only [Bool.not_eq_false'] at c10); (try simp only [decide_eq_true_eq] at c10); (try simp only [decide_eq_false_iff_not] at c10)
                    apply DG.pure_ [9, 10] 24 rfl (by kernel_rfl) (by kernel_rfl)
                    · intro w
                      refine WL.move rfl rfl ?_
                      refine WL.on rfl rfl ?_
                      refine WL.move rfl rfl ?_
                      exact Chain.end_ rfl
                    refine DG.step 11 23 rfl (by kernel_rfl) ?_
                    refine WL.on rfl rfl ?_
                    refine WL.call Try.call22 rfl (Len_ok x2 (by omega) 0 (by omega) w0 _ _ (M.sel (K := x2.L ++ []) (by first | ((repeat (first | with_reducible exact Sel.refl | with_reducible exact Sel.nil | with_reducible exact Del.here | with_reducible apply Del.there | with_reducible apply Sel.cons | with_reducible apply Sel.drop)); done) | (repeat (first | exact Sel.refl | exact Sel.nil | exact Del.here | apply Del.there | apply Sel.cons | apply Sel.drop))))) rfl ?_
                    rintro _ _ ⟨rfl, rfl⟩
                    rw [hz 0 (by omega)]
                    refine DG.go (G := fun j => [5, 6, 25, 26].contains j) (i := 11) (f' := 23) (done := [0, 1, 2, 3, 4, 5, 6, 7, 8, 9, 10]) (fun h => by cases h) ?_
                    apply DG.pure_ [12, 13] 21 rfl (by kernel_rfl) (by kernel_rfl)
                    · intro w
                      refine WL.on rfl rfl ?_
                      refine WL.eqI rfl rfl rfl ?_
                      refine WL.pickT rfl rfl rfl ?_
                      exact Chain.end_ rfl
                    refine DG.knowP (t := 98) rfl (fun c11 => ?_) (fun c11 => ?_)
                    · apply DG.pure_ [14, 15] 19 rfl (by kernel_rfl) (by kernel_rfl)
                      · intro w
                        refine WL.move rfl rfl ?_
                        refine WL.on rfl rfl ?_
                        refine WL.move rfl rfl ?_
                        exact Chain.end_ rfl
                      refine DG.step 16 18 rfl (by kernel_rfl) ?_
                      refine WL.on rfl rfl ?_
                      refine WL.call Try.call22 rfl (Len_ok x2 (by omega) 1 (by omega) w0 _ _ (M.sel (K := x2.L ++ []) (by first | ((repeat (first | with_reducible exact Sel.refl | with_reducible exact Sel.nil | with_reducible exact Del.here | with_reducible apply Del.there | with_reducible apply Sel.cons | with_reducible apply Sel.drop)); done) | (repeat (first | exact Sel.refl | exact Sel.nil | exact Del.here | apply Del.there | apply Sel.cons | apply Sel.drop))))) rfl ?_
                      rintro _ _ ⟨rfl, rfl⟩
                      rw [hz 1 (by omega)]
                      refine DG.go (G := fun j => [5, 6, 25, 26].contains j) (i := 16) (f' := 18) (done := [0, 1, 2, 3, 4, 5, 6, 7, 8, 9, 10, 11, 12, 13, 14, 15]) (fun h => by cases h) ?_
                      apply DG.pure_ [17, 18] 16 rfl (by kernel_rfl) (by kernel_rfl)
                      · intro w
                        refine WL.on rfl rfl ?_
                        refine WL.eqI rfl rfl rfl ?_
                        refine WL.pickT rfl rfl rfl ?_
                        exact Chain.end_ rfl
                      refine DG.knowP (t := 103) rfl (fun c12 => ?_) (fun c12 => ?_)
                      · apply DG.pure_ [19, 20] 14 rfl (by kernel_rfl) (by kernel_rfl)
                        · intro w
                          refine WL.move rfl rfl ?_
                          refine WL.on rfl rfl ?_
                          refine WL.move rfl rfl ?_
                          exact Chain.end_ rfl
                        refine DG.step 21 13 rfl (by kernel_rfl) ?_
                        refine WL.on rfl rfl ?_
                        refine WL.call Try.call15 rfl (Turn_ok x2 (fun h => by rw [hon2] at h; cases h) w0 _ _ (M.sel (K := x2.L ++ []) (by first | ((repeat (first | with_reducible exact Sel.refl | with_reducible exact Sel.nil | with_reducible exact Del.here | with_reducible apply Del.there | with_reducible apply Sel.cons | with_reducible apply Sel.drop)); done) | (repeat (first | exact Sel.refl | exact Sel.nil | exact Del.here | apply Del.there | apply Sel.cons | apply Sel.drop))))) rfl ?_
                        rintro _ _ ⟨rfl, rfl⟩
                        rw [hon2]
                        refine DG.go (G := fun j => [5, 6, 25, 26].contains j) (i := 21) (f' := 13) (done := [0, 1, 2, 3, 4, 5, 6, 7, 8, 9, 10, 11, 12, 13, 14, 15, 16, 17, 18, 19, 20]) (fun h => by cases h) ?_
                        apply DG.pure_ [22, 23] 11 rfl (by kernel_rfl) (by kernel_rfl)
                        · intro w
                          refine WL.on rfl rfl ?_
                          refine WL.eqI rfl rfl rfl ?_
                          refine WL.pickT rfl rfl rfl ?_
                          exact Chain.end_ rfl
                        refine DG.knowP (t := 108) rfl (fun c13 => ?_) (fun c13 => ?_)
                        · apply DG.pure_ [24, 27] 9 rfl (by kernel_rfl) (by kernel_rfl)
                          · intro w
                            refine WL.move rfl rfl ?_
                            refine WL.on rfl rfl ?_
                            refine WL.fieldR (off := 0) Try.underlying31 rfl rfl Try.sizeOf3 rfl rfl rfl ?_
                            exact Chain.end_ rfl
                          apply DG.take [28] 8 rfl (by kernel_rfl) (by kernel_rfl) (M.sel (by first | ((repeat (first | with_reducible exact Sel.refl | with_reducible exact Sel.nil | with_reducible exact Del.here | with_reducible apply Del.there | with_reducible apply Sel.cons | with_reducible apply Sel.drop)); done) | (repeat (first | exact Sel.refl | exact Sel.nil | exact Del.here | apply Del.there | apply Sel.cons | apply Sel.drop))))
                          · intro w M
                            refine WL.on rfl rfl ?_
                            refine WL.loadR Try.isAgg3 rfl M (by first | ((repeat (first | with_reducible exact Has.here | with_reducible refine Has.there ?_)); done) | (repeat (first | exact Has.here | refine Has.there ?_))) rfl rfl ?_
                            exact Chain.end_ rfl
                          apply DG.take [25] 7 rfl (by kernel_rfl) (by kernel_rfl) (M.sel (by first | ((repeat (first | with_reducible exact Sel.refl | with_reducible exact Sel.nil | with_reducible exact Del.here | with_reducible apply Del.there | with_reducible apply Sel.cons | with_reducible apply Sel.drop)); done) | (repeat (first | exact Sel.refl | exact Sel.nil | exact Del.here | apply Del.there | apply Sel.cons | apply Sel.drop))))
                          · intro w M
                            refine WL.on rfl rfl ?_
                            refine WL.move rfl rfl ?_
                            exact Chain.end_ rfl
                          refine DG.step 26 6 rfl (by kernel_rfl) ?_
                          refine WL.on rfl rfl ?_
                          refine WL.call Try.call15 rfl (Turn_ok x5 (fun _ => ho5.s.on hon5) w0 _ _ (M.sel (K := x5.L ++ []) (by first | ((repeat (first | with_reducible exact Sel.refl | with_reducible exact Sel.nil | with_reducible exact Del.here | with_reducible apply Del.there | with_reducible apply Sel.cons | with_reducible apply Sel.drop)); done) | (repeat (first | exact Sel.refl | exact Sel.nil | exact Del.here | apply Del.there | apply Sel.cons | apply Sel.drop))))) rfl ?_
                          rintro _ _ ⟨rfl, rfl⟩
                          rw [hon5, hhd5]
                          refine DG.go (G := fun j => [5, 6, 25, 26].contains j) (i := 26) (f' := 6) (done := [0, 1, 2, 3, 4, 5, 6, 7, 8, 9, 10, 11, 12, 13, 14, 15, 16, 17, 18, 19, 20, 21, 22, 23, 24, 27, 28, 25]) (fun _ => M.sel (by first | ((repeat (first | with_reducible exact Sel.refl | with_reducible exact Sel.nil | with_reducible exact Del.here | with_reducible apply Del.there | with_reducible apply Sel.cons | with_reducible apply Sel.drop)); done) | (repeat (first | exact Sel.refl | exact Sel.nil | exact Del.here | apply Del.there | apply Sel.cons | apply Sel.drop)))) ?_
                          apply DG.pure_ [29, 30] 4 rfl (by kernel_rfl) (by kernel_rfl)
                          · intro w
                            refine WL.on rfl rfl ?_
                            refine WL.eqI rfl rfl rfl ?_
                            refine WL.pickT rfl rfl rfl ?_
                            exact Chain.end_ rfl
                          refine DG.knowP (t := 115) rfl (fun c14 => ?_) (fun c14 => ?_)
                          · apply DG.pure_ [31] 3 rfl (by kernel_rfl) (by kernel_rfl)
                            · intro w
                              refine WL.move rfl rfl ?_
                              exact Chain.end_ rfl
                            refine DG.step 32 2 rfl (by kernel_rfl) ?_
                            refine WL.on rfl rfl ?_
                            refine WL.call Try.call16 rfl (known21_ok _) rfl ?_
                            rintro _ w ⟨rfl, m⟩
                            replace M := M.call0 m; clear m
                            refine DG.go (G := fun j => [5, 6, 25, 26].contains j) (i := 32) (f' := 2) (done := [0, 1, 2, 3, 4, 5, 6, 7, 8, 9, 10, 11, 12, 13, 14, 15, 16, 17, 18, 19, 20, 21, 22, 23, 24, 27, 28, 25, 26, 29, 30, 31]) (fun h => by cases h) ?_
                            apply DG.pure_ [33, 34] 0 rfl (by kernel_rfl) (by kernel_rfl)
                            · intro w
                              refine WL.pickT rfl rfl rfl ?_
                              refine WL.assign rfl rfl ?_
                              exact Chain.end_ rfl
                            refine DG.end_ (by kernel_rfl) ?_
                            refine WX.next ?_
                            refine W.sub [(4, _)] (.cons rfl .nil) ?_
                            refine W.ret ?_
                            refine WX.ret1 rfl rfl ?_
                            exact ⟨rfl, M.sel (by first | ((repeat (first | with_reducible exact Sel.refl | with_reducible exact Sel.nil | with_reducible exact Del.here | with_reducible apply Del.there | with_reducible apply Sel.cons | with_reducible apply Sel.drop)); done) | (repeat (first | exact Sel.refl | exact Sel.nil | exact Del.here | apply Del.there | apply Sel.cons | apply Sel.drop)))⟩
                          · exact absurd rfl c14
                        · exact absurd rfl c13
                      · exact absurd rfl c12
                    · exact absurd rfl c11
                  · (try simp only [Bool.not_eq_true'] at c10); (try simp only [Bool.not_eq_false'] at c10); (try simp only [decide_eq_true_eq] at c10); (try simp only [decide_eq_false_iff_not] at c10)
                    exact absurd c10 (by simp)
                · (try simp only [Bool.not_eq_true'] at c9); (try simp only [Bool.not_eq_false'] at c9); (try simp only [decide_eq_true_eq] at c9); (try simp only [decide_eq_false_iff_not] at c9)
                  exact absurd c9 (by decide)
              · exact absurd c8 (by decide)
        · exact absurd rfl c3
      · exact absurd rfl c2
    · exact absurd c1 (by decide)
  · exact absurd rfl c0
end Go.Proofs.Ytdhmopmfnnlhcaa
