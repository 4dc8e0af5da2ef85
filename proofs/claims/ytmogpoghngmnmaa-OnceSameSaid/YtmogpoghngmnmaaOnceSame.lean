/-
  Walk: a request that was answered is answered the same (seawalllaw13.OnceSame).
-/
import Derived.Test.YtmogpoghngmnmaaSameLaw
namespace Go.Proofs.Ytmogpoghngmnmaa
open Go Go.RowKit Bin

def natE9 : Enc Nat := ⟨30, 1, fun z => [.int .u64 (z : Int)], fun _ => rfl, (fun a v hv => by
  rw [List.mem_singleton] at hv
  subst hv
  rfl), by decide⟩
def boolE9 : Enc Bool := ⟨31, 1, fun z => [.bool z], fun _ => rfl, (fun a v hv => by
  rw [List.mem_singleton] at hv
  subst hv
  rfl), by decide⟩
def oxE9 : Enc OX := ⟨33, 1, fun z => [z.v], fun _ => rfl, (fun a v hv => by
  rw [List.mem_singleton] at hv
  subst hv
  rfl), by decide⟩

set_option maxRecDepth 10000 in
set_option maxHeartbeats 4000000 in
theorem OnceSame_ok (A1 : Option Addr) (q1 : Nat) (l : List AcX) (w0 : World) (h1 : RdL w0 actE A1 q1 l) (hq1 : ∀ s ∈ l, s.inn w0) (hm1 : q1 ≤ maxLen) :
    Fn Try.prog 3 [.slice A1 l.length q1] w0 fun v w' => v = .bool true ∧ Mem w0 w' [] := by
  have M := Mem.refl w0
  obtain ⟨w, hw⟩ : ∃ w, w = w0 := ⟨w0, rfl⟩
  have hl1 : l.length ≤ maxLen := Nat.le_trans h1.le hm1
  unfold maxLen at hl1
  refine Fn.enter Try.func3 rfl Try.ntmps3 rfl ?_
  refine W.sub [(0, _)] (.cons rfl .nil) ?_
  refine W.seq ?_
  refine W.region ?_
  refine WL.assign rfl rfl ?_
  refine WL.nil ?_
  refine WX.next ?_
  refine W.sub [(0, _)] (.cons rfl .nil) ?_
  refine W.seq ?_
  refine W.seq ?_
  refine W.region ?_
  refine WL.move rfl rfl ?_
  refine WL.call Try.call9 rfl (long_ok (by first | with_reducible assumption | with_reducible exact RdL.mem (by with_reducible assumption) M | exact M.rdL (by first | ((repeat (first | with_reducible exact Has.here | with_reducible refine Has.there ?_)); done) | (repeat (first | exact Has.here | refine Has.there ?_))) | exact RdLH.at (by assumption) (M.sel (by first | ((repeat (first | with_reducible exact Sel.refl | with_reducible exact Sel.nil | with_reducible exact Del.here | with_reducible apply Del.there | with_reducible apply Sel.cons | with_reducible apply Sel.drop)); done) | (repeat (first | exact Sel.refl | exact Sel.nil | exact Del.here | apply Del.there | apply Sel.cons | apply Sel.drop)))) | exact RdL.nil _ _ _) hm1) rfl ?_
  rintro _ w ⟨rfl, m⟩
  replace M := M.call0 m; clear m
  refine WL.nil ?_
  refine WX.next ?_
  refine W.sub [(0, _), (17, _)] (.cons rfl (.cons rfl .nil)) ?_
  refine W.cond rfl (fun c0 => ?_) (fun c0 => ?_)
  · (try simp only [Bool.not_eq_true'] at c0); (try simp only [Bool.not_eq_false'] at c0); (try simp only [decide_eq_true_eq] at c0); (try simp only [decide_eq_false_iff_not] at c0)
    refine W.seq ?_
    refine W.region ?_
    refine WL.call Try.call10 rfl (known13_ok _) rfl ?_
    rintro _ w ⟨rfl, m⟩
    replace M := M.call0 m; clear m
    refine WL.assign rfl rfl ?_
    refine WL.nil ?_
    refine WX.next ?_
    refine W.sub [(2, _)] (.cons rfl .nil) ?_
    refine W.ret ?_
    refine WX.thenRet ?_
    refine WX.ret1 rfl rfl ?_
    exact ⟨rfl, M⟩
  · (try simp only [Bool.not_eq_true'] at c0); (try simp only [Bool.not_eq_false'] at c0); (try simp only [decide_eq_true_eq] at c0); (try simp only [decide_eq_false_iff_not] at c0)
    refine W.skip ?_
    refine WX.next ?_
    refine W.seq ?_
    refine W.region ?_
    refine WL.call Try.call11 rfl (onceNew_ok 64 (by omega) _) rfl ?_
    rintro _ w ⟨x0, rfl, hs0, ho0, m⟩
    replace M := M.callN m; clear m
    refine WL.move rfl rfl ?_
    refine WL.extractL rfl rfl rfl ?_
    refine WL.extractL rfl rfl rfl ?_
    refine WL.assign rfl rfl ?_
    refine WL.assign rfl rfl ?_
    refine WL.nil ?_
    refine WX.next ?_
    refine W.sub [(0, _), (3, _), (4, _)] (.cons rfl (.cons rfl (.cons rfl .nil))) ?_
    refine W.seq ?_
    refine W.seq ?_
    refine W.region ?_
    refine WL.move rfl rfl ?_
    refine WL.neI rfl rfl rfl ?_
    refine WL.moveIf rfl rfl (fun c1 => ?_) (fun c1 => ?_)
    · exact absurd rfl c1
    · refine WL.on rfl rfl ?_
      refine WL.move rfl rfl ?_
      refine WL.on rfl rfl ?_
      refine WL.eqNilF Try.underlying25 rfl rfl rfl ?_
      refine WL.pickF rfl rfl rfl ?_
      refine WL.nil ?_
      refine WX.next ?_
      refine W.sub [(0, _), (3, _), (28, _)] (.cons rfl (.cons rfl (.cons rfl .nil))) ?_
      refine W.condF rfl ?_
      refine W.skip ?_
      refine WX.next ?_
      refine W.seq ?_
      refine W.region ?_
      refine WL.alloc Try.zeroValue30 M rfl ?_
      intro g6_0 w M
      try simp only [Value.cells] at M
      try simp only [List.toList_toArray] at M
      refine WL.nil ?_
      refine WX.next ?_
      refine W.sub [(0, _), (3, _), (5, _)] (.cons rfl (.cons rfl (.cons rfl .nil))) ?_
      refine W.seq ?_
      refine W.region ?_
      refine WL.alloc Try.zeroValue31 M rfl ?_
      intro g7_0 w M
      try simp only [Value.cells] at M
      try simp only [List.toList_toArray] at M
      refine WL.nil ?_
      refine WX.next ?_
      refine W.sub [(0, _), (3, _), (5, _), (6, _)] (.cons rfl (.cons rfl (.cons rfl (.cons rfl .nil)))) ?_
      refine W.seq ?_
      refine W.region ?_
      refine WL.alloc Try.zeroValue33 M rfl ?_
      intro g8_0 w M
      try simp only [Value.cells] at M
      try simp only [List.toList_toArray] at M
      refine WL.nil ?_
      refine WX.next ?_
      refine W.sub [(0, _), (3, _), (5, _), (6, _), (7, _)] (.cons rfl (.cons rfl (.cons rfl (.cons rfl (.cons rfl .nil))))) ?_
      refine W.joint (fun (_ : Unit) => []) (fun j w => Mem w0 w ((fun _ => []) j) ∧ (fun _ => True) j) ?_ ?_
      · refine W.seq ?_
        have M4 : Mem w0 w (Asr.lst oxE9 (some ⟨g8_0, 0, none⟩) 9 (List.replicate 9 ⟨none, 0, []⟩) :: _) := Mem.rowOwn (vs := oxE9.all (List.replicate 9 ⟨none, 0, []⟩)) M [] rfl rfl rfl (by simp [maxLen]) (Nat.le_refl _)
        have M5 : Mem w0 w (Asr.lst boolE9 (some ⟨g7_0, 0, none⟩) 9 (List.replicate 9 false) :: _) := Mem.rowOwn (vs := boolE9.all (List.replicate 9 false)) M4.f1 [] rfl rfl rfl (by simp [maxLen]) (Nat.le_refl _)
        have M6 : Mem w0 w (Asr.lst natE9 (some ⟨g6_0, 0, none⟩) 9 (List.replicate 9 0) :: _) := Mem.rowOwn (vs := natE9.all (List.replicate 9 0)) M5.f2 [] rfl rfl rfl (by simp [maxLen]) (Nat.le_refl _)
        replace M := M6
        have hI0 : SameI x0.s (List.replicate 9 0) (List.replicate 9 false) ((List.replicate 9 (⟨none, 0, []⟩ : OX)).map OX.l) := by rw [hs0]; exact SameI.start
        have hR0 : ∀ o ∈ List.replicate 9 (⟨none, 0, []⟩ : OX), RdB w0 o.A o.cap o.l := fun o ho => by rw [(List.mem_replicate.1 ho).2]; exact RdB.nil _ _
        refine W.region ?_
        refine WL.assign rfl rfl ?_
        refine WL.nil ?_
        refine WX.next ?_
        refine W.sub [(0, _), (3, _), (5, _), (6, _), (7, _), (8, _)] (.cons rfl (.cons rfl (.cons rfl (.cons rfl (.cons rfl (.cons rfl .nil)))))) ?_
        refine W.block ?_
        refine W.loop (ι := Nat × OT × List Nat × List Bool × List OX) (fun z => [(0, .slice A1 l.length q1), (3, .pointer (some ⟨z.2.1.g, 0, none⟩)), (5, .pointer (some ⟨g6_0, 0, none⟩)), (6, .pointer (some ⟨g7_0, 0, none⟩)), (7, .pointer (some ⟨g8_0, 0, none⟩)), (8, .int .i64 (z.1 : Int))]) (fun zz w => Mem w0 w ((fun z => Asr.lst natE9 (some ⟨g6_0, 0, none⟩) 9 z.2.2.1 :: Asr.lst boolE9 (some ⟨g7_0, 0, none⟩) 9 z.2.2.2.1 :: Asr.lst oxE9 (some ⟨g8_0, 0, none⟩) 9 z.2.2.2.2 :: (z.2.1.L ++ [])) zz) ∧ (fun z => (z.1 ≤ l.length ∧ z.1 ≤ 200) ∧ (z.2.1.madeOk ∧ Few z.2.1.s z.1) ∧ SameI z.2.1.s z.2.2.1 z.2.2.2.1 (z.2.2.2.2.map OX.l) ∧ ∀ o ∈ z.2.2.2.2, RdB w0 o.A o.cap o.l) zz) (fun z => 200 - z.1) ((0, x0, List.replicate 9 0, List.replicate 9 false, List.replicate 9 ⟨none, 0, []⟩)) (by (repeat' (first | exact envSub.nil | refine envSub.cons ?_ ?_)) <;> first | rfl | (refine congrArg some ?_; refine congrArg (Value.int _) ?_; first | omega | (dsimp only; omega)) | (simp; done) | (refine congrArg some ?_; dsimp only; congr 1; omega) | (simp; omega)) ⟨M.sel (by first | ((repeat (first | with_reducible exact Sel.refl | with_reducible exact Sel.nil | with_reducible exact Del.here | with_reducible apply Del.there | with_reducible apply Sel.cons | with_reducible apply Sel.drop)); done) | (repeat (first | exact Sel.refl | exact Sel.nil | exact Del.here | apply Del.there | apply Sel.cons | apply Sel.drop))), ⟨⟨Nat.zero_le _, by omega⟩, ⟨ho0.made, by dsimp only; rw [hs0]; exact ⟨Nat.le_refl _, Nat.le_refl _⟩⟩, hI0, hR0⟩⟩ ?_
        clear M; rintro (⟨i, x, G, D, R⟩) w ⟨M, ⟨hi, ⟨hmade, hfx⟩, hI, hR⟩⟩; dsimp only at M hi hmade hfx hI hR ⊢
        refine W.sub [(0, _), (3, _), (5, _), (6, _), (7, _), (8, _)] (.cons rfl (.cons rfl (.cons rfl (.cons rfl (.cons rfl (.cons rfl .nil)))))) ?_
        refine W.seq ?_
        refine W.seq ?_
        refine W.region ?_
        refine WL.move rfl rfl ?_
        refine WL.move rfl rfl ?_
        refine WL.len Try.underlying22 rfl rfl ?_
        refine WL.lss rfl rfl rfl ?_
        refine WL.moveIf rfl rfl (fun c3 => ?_) (fun c3 => ?_)
        · refine WL.on rfl rfl ?_
          refine WL.move rfl rfl ?_
          refine WL.on rfl rfl ?_
          refine WL.lss rfl rfl rfl ?_
          refine WL.pickT rfl rfl rfl ?_
          refine WL.nil ?_
          refine WX.next ?_
          refine W.sub [(0, _), (3, _), (5, _), (6, _), (7, _), (8, _), (36, _)] (.cons rfl (.cons rfl (.cons rfl (.cons rfl (.cons rfl (.cons rfl (.cons rfl .nil))))))) ?_
          refine W.ite rfl (fun c4 => ?_) (fun c4 => ?_)
          · refine W.skip ?_
            refine WX.next ?_
            refine W.joint (fun (z : OT × List Nat × List Bool × List OX) => [(0, .slice A1 l.length q1), (3, .pointer (some ⟨z.1.g, 0, none⟩)), (5, .pointer (some ⟨g6_0, 0, none⟩)), (6, .pointer (some ⟨g7_0, 0, none⟩)), (7, .pointer (some ⟨g8_0, 0, none⟩)), (8, .int .i64 (i : Int))]) (fun j w => Mem w0 w ((fun z => Asr.lst natE9 (some ⟨g6_0, 0, none⟩) 9 z.2.1 :: Asr.lst boolE9 (some ⟨g7_0, 0, none⟩) 9 z.2.2.1 :: Asr.lst oxE9 (some ⟨g8_0, 0, none⟩) 9 z.2.2.2 :: (z.1.L ++ [])) j) ∧ (fun z => (z.1.madeOk ∧ Few z.1.s (i + 1)) ∧ SameI z.1.s z.2.1 z.2.2.1 (z.2.2.2.map OX.l) ∧ ∀ o ∈ z.2.2.2, RdB w0 o.A o.cap o.l) j) ?_ ?_
            · refine W.block ?_
              refine W.seq ?_
              have hin := hq1 _ (el_mem (l := l) (k := i) (by omega))
              have hrd := hin.rd
              have hnl := hin.num
              have hGl := hI.gl
              have hDl := hI.dl
              have hRl : R.length = 9 := by have := hI.rl; simpa using this
              have hok : x.ok := ⟨hI.ok, hmade⟩
              obtain ⟨k, hk⟩ : ∃ k, k = (el l i).id % 9 := ⟨_, rfl⟩
              have hk9 : k < 9 := by omega
              have helR : el (R.map OX.l) k = (el R k).l := by simp [el, show k < R.length by omega]
              have hRk := hR _ (el_mem (l := R) (k := k) (by omega))
              refine W.region ?_
              refine WL.move rfl rfl ?_
              refine WL.move rfl rfl ?_
              refine WL.idxA Try.underlying22 Try.sizeOf35 rfl rfl (RdL.isSome (E := actE) (by first | with_reducible assumption | with_reducible exact RdL.mem (by with_reducible assumption) M | exact M.rdL (by first | ((repeat (first | with_reducible exact Has.here | with_reducible refine Has.there ?_)); done) | (repeat (first | exact Has.here | refine Has.there ?_))) | exact RdLH.at (by assumption) (M.sel (by first | ((repeat (first | with_reducible exact Sel.refl | with_reducible exact Sel.nil | with_reducible exact Del.here | with_reducible apply Del.there | with_reducible apply Sel.cons | with_reducible apply Sel.drop)); done) | (repeat (first | exact Sel.refl | exact Sel.nil | exact Del.here | apply Del.there | apply Sel.cons | apply Sel.drop)))) | exact RdL.nil _ _ _) (by omega)) (by omega) (by omega) (by first | exact rfl | exact (Int.toNat_of_nonneg (by omega)).symm) rfl ?_
              refine WL.loadL (E := actE) (cs := [_, _, _, _]) Try.isAgg35 Try.sizeOf35 rfl (by first | with_reducible assumption | with_reducible exact RdL.mem (by with_reducible assumption) M | exact M.rdL (by first | ((repeat (first | with_reducible exact Has.here | with_reducible refine Has.there ?_)); done) | (repeat (first | exact Has.here | refine Has.there ?_))) | exact RdLH.at (by assumption) (M.sel (by first | ((repeat (first | with_reducible exact Sel.refl | with_reducible exact Sel.nil | with_reducible exact Del.here | with_reducible apply Del.there | with_reducible apply Sel.cons | with_reducible apply Sel.drop)); done) | (repeat (first | exact Sel.refl | exact Sel.nil | exact Del.here | apply Del.there | apply Sel.cons | apply Sel.drop)))) | exact RdL.nil _ _ _) rfl (by omega) rfl rfl ?_
              refine WL.alloc Try.zeroValue35 M rfl ?_
              intro g12_4 w M
              try simp only [Value.cells] at M
              try simp only [List.toList_toArray] at M
              refine WL.storeWA Try.sizeOf35 rfl rfl (by repeat (first | exact oneNil | refine oneCons rfl ?_)) rfl rfl M (by first | ((repeat (first | with_reducible exact Upd.here | with_reducible apply Upd.there)); done) | (repeat (first | exact Upd.here | apply Upd.there))) ?_
              intro w M
              refine WL.nil ?_
              refine WX.next ?_
              refine W.sub [(0, _), (3, _), (5, _), (6, _), (7, _), (8, _), (9, _)] (.cons rfl (.cons rfl (.cons rfl (.cons rfl (.cons rfl (.cons rfl (.cons rfl .nil))))))) ?_
              refine W.seq ?_
              refine W.region ?_
              refine WL.fieldR (off := 1) Try.underlying35 rfl rfl Try.sizeOf29 rfl rfl rfl ?_
              refine WL.loadR Try.isAgg29 rfl M (by first | ((repeat (first | with_reducible exact Has.here | with_reducible refine Has.there ?_)); done) | (repeat (first | exact Has.here | refine Has.there ?_))) rfl rfl ?_
              refine WL.rem rfl rfl (by omega) (remN (by omega)) rfl ?_
              refine WL.conv Try.underlying29 Try.underlying3 rfl (show IntKind.i64.wrap (((el l i).id : Int) % 9) = (k : Int) by rw [wI64 (by omega)]; omega) rfl ?_
              refine WL.assign rfl rfl ?_
              refine WL.nil ?_
              refine WX.next ?_
              refine W.sub [(0, _), (3, _), (5, _), (6, _), (7, _), (8, _), (9, _), (10, _)] (.cons rfl (.cons rfl (.cons rfl (.cons rfl (.cons rfl (.cons rfl (.cons rfl (.cons rfl .nil)))))))) ?_
              refine W.seq ?_
              refine W.seq ?_
              refine W.region ?_
              refine WL.fieldR (off := 0) Try.underlying35 rfl rfl Try.sizeOf3 rfl rfl rfl ?_
              refine WL.loadR Try.isAgg3 rfl M (by first | ((repeat (first | with_reducible exact Has.here | with_reducible refine Has.there ?_)); done) | (repeat (first | exact Has.here | refine Has.there ?_))) rfl rfl ?_
              refine WL.leq rfl rfl rfl ?_
              refine WL.nil ?_
              refine WX.next ?_
              refine W.sub [(0, _), (3, _), (5, _), (6, _), (7, _), (8, _), (9, _), (10, _), (49, _)] (.cons rfl (.cons rfl (.cons rfl (.cons rfl (.cons rfl (.cons rfl (.cons rfl (.cons rfl (.cons rfl .nil))))))))) ?_
              refine W.ite rfl (fun c5 => ?_) (fun c5 => ?_)
              · refine W.seq ?_
                refine W.region ?_
                refine WL.move rfl rfl ?_
                refine WL.move rfl rfl ?_
                refine WL.conv Try.underlying3 Try.underlying29 rfl (by first | exact wU64 (by omega) | exact mU64 _ | rfl) rfl ?_
                refine WL.fieldR (off := 2) Try.underlying35 rfl rfl Try.sizeOf29 rfl rfl rfl ?_
                refine WL.loadR Try.isAgg29 rfl M (by first | ((repeat (first | with_reducible exact Has.here | with_reducible refine Has.there ?_)); done) | (repeat (first | exact Has.here | refine Has.there ?_))) rfl rfl ?_
                refine WL.call Try.call12 rfl (Begin_ok x hok (hfx.lt (by omega)) k (el l i).num (by omega) hin.num w0 w _ (M.sel (K := x.L ++ (Asr.row g12_4 35 [.int .i64 (el l i).kind, .int .u64 ((el l i).id : Int), .int .u64 ((el l i).num : Int), .slice (el l i).A (el l i).rep.length (el l i).cap] :: Asr.lst natE9 (some ⟨g6_0, 0, none⟩) 9 G :: Asr.lst boolE9 (some ⟨g7_0, 0, none⟩) 9 D :: Asr.lst oxE9 (some ⟨g8_0, 0, none⟩) 9 R :: [])) (by first | ((repeat (first | with_reducible exact Sel.refl | with_reducible exact Sel.nil | with_reducible exact Del.here | with_reducible apply Del.there | with_reducible apply Sel.cons | with_reducible apply Sel.drop)); done) | (repeat (first | exact Sel.refl | exact Sel.nil | exact Del.here | apply Del.there | apply Sel.cons | apply Sel.drop))))) rfl ?_
                rintro _ w ⟨x2, A4, k4, rfl, hgx, hsx, hox2, M⟩
                rw [hgx]
                have hfx2 : Few x2.s (i + 1) := by rw [hsx]; exact hfx.beg _ _
                refine WL.move rfl rfl ?_
                refine WL.extractL rfl rfl rfl ?_
                refine WL.extractL rfl rfl rfl ?_
                refine WL.extractL rfl rfl rfl ?_
                refine WL.assign rfl rfl ?_
                refine WL.assign rfl rfl ?_
                refine WL.assign rfl rfl ?_
                refine WL.nil ?_
                refine WX.next ?_
                refine W.sub [(0, _), (3, _), (5, _), (6, _), (7, _), (8, _), (9, _), (10, _), (11, _), (12, _), (13, _)] (.cons rfl (.cons rfl (.cons rfl (.cons rfl (.cons rfl (.cons rfl (.cons rfl (.cons rfl (.cons rfl (.cons rfl (.cons rfl .nil))))))))))) ?_
                refine W.seq ?_
                refine W.block ?_
                refine W.seq ?_
                refine W.region ?_
                refine WL.fieldR (off := 2) Try.underlying35 rfl rfl Try.sizeOf29 rfl rfl rfl ?_
                refine WL.loadR Try.isAgg29 rfl M (by first | ((repeat (first | with_reducible exact Has.here | with_reducible refine Has.there ?_)); done) | (repeat (first | exact Has.here | refine Has.there ?_))) rfl rfl ?_
                refine WL.eqI rfl rfl rfl ?_
                refine WL.assign rfl rfl ?_
                refine WL.nil ?_
                refine WX.next ?_
                refine W.sub [(0, _), (3, _), (5, _), (6, _), (7, _), (8, _), (9, _), (10, _), (11, _), (12, _), (13, _), (66, _)] (.cons rfl (.cons rfl (.cons rfl (.cons rfl (.cons rfl (.cons rfl (.cons rfl (.cons rfl (.cons rfl (.cons rfl (.cons rfl (.cons rfl .nil)))))))))))) ?_
                refine W.ite rfl (fun c6 => ?_) (fun c6 => ?_)
                · have hz := hI.zero (k := k) (num := (el l i).num) (by omega)
                  refine W.seq ?_
                  refine W.region ?_
                  refine WL.move rfl rfl ?_
                  refine WL.neI rfl rfl rfl ?_
                  refine WL.nil ?_
                  refine WX.next ?_
                  refine W.sub [(0, _), (3, _), (5, _), (6, _), (7, _), (8, _), (71, _)] (.cons rfl (.cons rfl (.cons rfl (.cons rfl (.cons rfl (.cons rfl (.cons rfl .nil))))))) ?_
                  refine W.ite rfl (fun c7 => ?_) (fun c7 => ?_)
                  · exact absurd hz.1 c7
                  · refine W.skip ?_
                    refine WX.blockNormal ?_
                    refine WX.next ?_
                    refine W.exit ?_
                    refine WX.thenExit ?_
                    refine WX.blockHere ?_
                    refine WX.join ((x2, G, D, R)) (by (repeat' (first | exact envSub.nil | refine envSub.cons ?_ ?_)) <;> first | rfl | (refine congrArg some ?_; refine congrArg (Value.int _) ?_; first | omega | (dsimp only; omega)) | (simp; done) | (refine congrArg some ?_; dsimp only; congr 1; omega) | (simp; omega)) ⟨M.sel (by first | ((repeat (first | with_reducible exact Sel.refl | with_reducible exact Sel.nil | with_reducible exact Del.here | with_reducible apply Del.there | with_reducible apply Sel.cons | with_reducible apply Sel.drop)); done) | (repeat (first | exact Sel.refl | exact Sel.nil | exact Del.here | apply Del.there | apply Sel.cons | apply Sel.drop))), ⟨⟨hox2.made, hfx2⟩, (by rw [hsx, hz.2]; exact hI), hR⟩⟩
                · have hn0 : (el l i).num ≠ 0 := by omega
                  refine W.seq ?_
                  refine W.drawM ([Asr.row g12_4 35 [.int .i64 (el l i).kind, .int .u64 ((el l i).id : Int), .int .u64 ((el l i).num : Int), .slice (el l i).A (el l i).rep.length (el l i).cap], Asr.lst natE9 (some ⟨g6_0, 0, none⟩) 9 G]) (by kernel_rfl) (fun j => [1, 4].contains j) M (by first | ((repeat (first | with_reducible exact Sel.refl | with_reducible exact Sel.nil | with_reducible exact Del.here | with_reducible apply Del.there | with_reducible apply Sel.cons | with_reducible apply Sel.drop)); done) | (repeat (first | exact Sel.refl | exact Sel.nil | exact Del.here | apply Del.there | apply Sel.cons | apply Sel.drop))) ?_
                  clear M; intro M
                  apply DG.pure_ [0, 2, 3] 4 rfl (by kernel_rfl) (by kernel_rfl)
                  · intro w
                    refine WL.fieldR (off := 2) Try.underlying35 rfl rfl Try.sizeOf29 rfl rfl rfl ?_
                    refine WL.move rfl rfl ?_
                    refine WL.idxArr Try.underlying30 Try.sizeOf29 rfl rfl (by omega) (by omega) (by first | exact rfl | exact (Int.toNat_of_nonneg (by omega)).symm) rfl ?_
                    exact Chain.end_ rfl
                  apply DG.take [1, 4, 5, 6] 0 rfl (by kernel_rfl) (by kernel_rfl) (M.sel (by first | ((repeat (first | with_reducible exact Sel.refl | with_reducible exact Sel.nil | with_reducible exact Del.here | with_reducible apply Del.there | with_reducible apply Sel.cons | with_reducible apply Sel.drop)); done) | (repeat (first | exact Sel.refl | exact Sel.nil | exact Del.here | apply Del.there | apply Sel.cons | apply Sel.drop))))
                  · intro w M
                    refine WL.loadR Try.isAgg29 rfl M (by first | ((repeat (first | with_reducible exact Has.here | with_reducible refine Has.there ?_)); done) | (repeat (first | exact Has.here | refine Has.there ?_))) rfl rfl ?_
                    refine WL.loadE0 (E := natE9) (A := some ⟨g6_0, 0, none⟩) (j := k) Try.isAgg29 rfl (by first | with_reducible assumption | with_reducible exact RdL.mem (by with_reducible assumption) M | exact M.rdL (by first | ((repeat (first | with_reducible exact Has.here | with_reducible refine Has.there ?_)); done) | (repeat (first | exact Has.here | refine Has.there ?_))) | exact RdLH.at (by assumption) (M.sel (by first | ((repeat (first | with_reducible exact Sel.refl | with_reducible exact Sel.nil | with_reducible exact Del.here | with_reducible apply Del.there | with_reducible apply Sel.cons | with_reducible apply Sel.drop)); done) | (repeat (first | exact Sel.refl | exact Sel.nil | exact Del.here | apply Del.there | apply Sel.cons | apply Sel.drop)))) | exact RdL.nil _ _ _) (by omega) rfl rfl ?_
                    refine WL.lss rfl rfl rfl ?_
                    refine WL.assign rfl rfl ?_
                    exact Chain.end_ rfl
                  refine DG.end_ (by kernel_rfl) ?_
                  refine WX.next ?_
                  refine W.sub [(0, _), (3, _), (5, _), (6, _), (7, _), (8, _), (9, _), (10, _), (11, _), (12, _), (13, _), (72, _)] (.cons rfl (.cons rfl (.cons rfl (.cons rfl (.cons rfl (.cons rfl (.cons rfl (.cons rfl (.cons rfl (.cons rfl (.cons rfl (.cons rfl .nil)))))))))))) ?_
                  refine W.ite rfl (fun c8 => ?_) (fun c8 => ?_)
                  · have hz := hI.old (k := k) (num := (el l i).num) hk9 hn0 (by omega)
                    refine W.seq ?_
                    refine W.region ?_
                    refine WL.move rfl rfl ?_
                    refine WL.neI rfl rfl rfl ?_
                    refine WL.nil ?_
                    refine WX.next ?_
                    refine W.sub [(0, _), (3, _), (5, _), (6, _), (7, _), (8, _), (80, _)] (.cons rfl (.cons rfl (.cons rfl (.cons rfl (.cons rfl (.cons rfl (.cons rfl .nil))))))) ?_
                    refine W.ite rfl (fun c9 => ?_) (fun c9 => ?_)
                    · exact absurd hz.1 c9
                    · refine W.skip ?_
                      refine WX.blockNormal ?_
                      refine WX.next ?_
                      refine W.exit ?_
                      refine WX.thenExit ?_
                      refine WX.blockHere ?_
                      refine WX.join ((x2, G, D, R)) (by (repeat' (first | exact envSub.nil | refine envSub.cons ?_ ?_)) <;> first | rfl | (refine congrArg some ?_; refine congrArg (Value.int _) ?_; first | omega | (dsimp only; omega)) | (simp; done) | (refine congrArg some ?_; dsimp only; congr 1; omega) | (simp; omega)) ⟨M.sel (by first | ((repeat (first | with_reducible exact Sel.refl | with_reducible exact Sel.nil | with_reducible exact Del.here | with_reducible apply Del.there | with_reducible apply Sel.cons | with_reducible apply Sel.drop)); done) | (repeat (first | exact Sel.refl | exact Sel.nil | exact Del.here | apply Del.there | apply Sel.cons | apply Sel.drop))), ⟨⟨hox2.made, hfx2⟩, (by rw [hsx, hz.2]; exact hI), hR⟩⟩
                  · refine W.seq ?_
                    refine W.drawM ([Asr.row g12_4 35 [.int .i64 (el l i).kind, .int .u64 ((el l i).id : Int), .int .u64 ((el l i).num : Int), .slice (el l i).A (el l i).rep.length (el l i).cap], Asr.lst natE9 (some ⟨g6_0, 0, none⟩) 9 G]) (by kernel_rfl) (fun j => [1, 4].contains j) M (by first | ((repeat (first | with_reducible exact Sel.refl | with_reducible exact Sel.nil | with_reducible exact Del.here | with_reducible apply Del.there | with_reducible apply Sel.cons | with_reducible apply Sel.drop)); done) | (repeat (first | exact Sel.refl | exact Sel.nil | exact Del.here | apply Del.there | apply Sel.cons | apply Sel.drop))) ?_
                    clear M; intro M
                    apply DG.pure_ [0, 2, 3] 4 rfl (by kernel_rfl) (by kernel_rfl)
                    · intro w
                      refine WL.fieldR (off := 2) Try.underlying35 rfl rfl Try.sizeOf29 rfl rfl rfl ?_
                      refine WL.move rfl rfl ?_
                      refine WL.idxArr Try.underlying30 Try.sizeOf29 rfl rfl (by omega) (by omega) (by first | exact rfl | exact (Int.toNat_of_nonneg (by omega)).symm) rfl ?_
                      exact Chain.end_ rfl
                    apply DG.take [1, 4, 5, 6] 0 rfl (by kernel_rfl) (by kernel_rfl) (M.sel (by first | ((repeat (first | with_reducible exact Sel.refl | with_reducible exact Sel.nil | with_reducible exact Del.here | with_reducible apply Del.there | with_reducible apply Sel.cons | with_reducible apply Sel.drop)); done) | (repeat (first | exact Sel.refl | exact Sel.nil | exact Del.here | apply Del.there | apply Sel.cons | apply Sel.drop))))
                    · intro w M
                      refine WL.loadR Try.isAgg29 rfl M (by first | ((repeat (first | with_reducible exact Has.here | with_reducible refine Has.there ?_)); done) | (repeat (first | exact Has.here | refine Has.there ?_))) rfl rfl ?_
                      refine WL.loadE0 (E := natE9) (A := some ⟨g6_0, 0, none⟩) (j := k) Try.isAgg29 rfl (by first | with_reducible assumption | with_reducible exact RdL.mem (by with_reducible assumption) M | exact M.rdL (by first | ((repeat (first | with_reducible exact Has.here | with_reducible refine Has.there ?_)); done) | (repeat (first | exact Has.here | refine Has.there ?_))) | exact RdLH.at (by assumption) (M.sel (by first | ((repeat (first | with_reducible exact Sel.refl | with_reducible exact Sel.nil | with_reducible exact Del.here | with_reducible apply Del.there | with_reducible apply Sel.cons | with_reducible apply Sel.drop)); done) | (repeat (first | exact Sel.refl | exact Sel.nil | exact Del.here | apply Del.there | apply Sel.cons | apply Sel.drop)))) | exact RdL.nil _ _ _) (by omega) rfl rfl ?_
                      refine WL.gtr rfl rfl rfl ?_
                      refine WL.assign rfl rfl ?_
                      exact Chain.end_ rfl
                    refine DG.end_ (by kernel_rfl) ?_
                    refine WX.next ?_
                    refine W.sub [(0, _), (3, _), (5, _), (6, _), (7, _), (8, _), (9, _), (10, _), (11, _), (12, _), (13, _), (81, _)] (.cons rfl (.cons rfl (.cons rfl (.cons rfl (.cons rfl (.cons rfl (.cons rfl (.cons rfl (.cons rfl (.cons rfl (.cons rfl (.cons rfl .nil)))))))))))) ?_
                    refine W.ite rfl (fun c10 => ?_) (fun c10 => ?_)
                    · have hz := hI.new (k := k) (num := (el l i).num) hk9 hin.num (by omega)
                      refine W.seq ?_
                      refine W.seq ?_
                      refine W.region ?_
                      refine WL.move rfl rfl ?_
                      refine WL.neI rfl rfl rfl ?_
                      refine WL.moveIf rfl rfl (fun c11 => ?_) (fun c11 => ?_)
                      · exact absurd hz.1 c11
                      · refine WL.on rfl rfl ?_
                        refine WL.move rfl rfl ?_
                        refine WL.on rfl rfl ?_
                        refine WL.neI rfl rfl rfl ?_
                        refine WL.pickF rfl rfl rfl ?_
                        refine WL.nil ?_
                        refine WX.next ?_
                        refine W.sub [(0, _), (3, _), (5, _), (6, _), (7, _), (8, _), (9, _), (10, _), (93, _)] (.cons rfl (.cons rfl (.cons rfl (.cons rfl (.cons rfl (.cons rfl (.cons rfl (.cons rfl (.cons rfl .nil))))))))) ?_
                        refine W.ite rfl (fun c12 => ?_) (fun c12 => ?_)
                        · exact absurd hz.2.1 c12
                        · refine W.skip ?_
                          refine WX.next ?_
                          refine W.seq ?_
                          refine W.region ?_
                          refine WL.move rfl rfl ?_
                          refine WL.fieldR (off := 2) Try.underlying35 rfl rfl Try.sizeOf29 rfl rfl rfl ?_
                          refine WL.loadR Try.isAgg29 rfl M (by first | ((repeat (first | with_reducible exact Has.here | with_reducible refine Has.there ?_)); done) | (repeat (first | exact Has.here | refine Has.there ?_))) rfl rfl ?_
                          refine WL.idxArr Try.underlying30 Try.sizeOf29 rfl rfl (by omega) (by omega) (by first | exact rfl | exact (Int.toNat_of_nonneg (by omega)).symm) rfl ?_
                          refine WL.storeE0 (E := natE9) (A := some ⟨g6_0, 0, none⟩) (j := k) (x' := (el l i).num) Try.sizeOf29 rfl rfl rfl M (by first | ((repeat (first | with_reducible exact Has.here | with_reducible refine Has.there ?_)); done) | (repeat (first | exact Has.here | refine Has.there ?_))) (by omega) (by repeat (first | exact SetAt.zero | apply SetAt.succ)) (by first | ((repeat (first | with_reducible exact Upd.here | with_reducible apply Upd.there)); done) | (repeat (first | exact Upd.here | apply Upd.there))) ?_
                          intro w M
                          refine WL.nil ?_
                          refine WX.next ?_
                          refine W.sub [(0, _), (3, _), (5, _), (6, _), (7, _), (8, _), (10, _)] (.cons rfl (.cons rfl (.cons rfl (.cons rfl (.cons rfl (.cons rfl (.cons rfl .nil))))))) ?_
                          refine W.region ?_
                          refine WL.move rfl rfl ?_
                          refine WL.idxArr Try.underlying31 Try.sizeOf4 rfl rfl (by omega) (by omega) (by first | exact rfl | exact (Int.toNat_of_nonneg (by omega)).symm) rfl ?_
                          refine WL.storeE0 (E := boolE9) (A := some ⟨g7_0, 0, none⟩) (j := k) (x' := false) Try.sizeOf4 rfl rfl rfl M (by first | ((repeat (first | with_reducible exact Has.here | with_reducible refine Has.there ?_)); done) | (repeat (first | exact Has.here | refine Has.there ?_))) (by omega) (by repeat (first | exact SetAt.zero | apply SetAt.succ)) (by first | ((repeat (first | with_reducible exact Upd.here | with_reducible apply Upd.there)); done) | (repeat (first | exact Upd.here | apply Upd.there))) ?_
                          intro w M
                          refine WL.nil ?_
                          refine WX.blockNormal ?_
                          refine WX.next ?_
                          refine W.sub [(0, _), (3, _), (5, _), (6, _), (7, _), (8, _)] (.cons rfl (.cons rfl (.cons rfl (.cons rfl (.cons rfl (.cons rfl .nil)))))) ?_
                          refine W.exit ?_
                          refine WX.thenExit ?_
                          refine WX.blockHere ?_
                          refine WX.join ((x2, G.set k (el l i).num, D.set k false, R)) (by (repeat' (first | exact envSub.nil | refine envSub.cons ?_ ?_)) <;> first | rfl | (refine congrArg some ?_; refine congrArg (Value.int _) ?_; first | omega | (dsimp only; omega)) | (simp; done) | (refine congrArg some ?_; dsimp only; congr 1; omega) | (simp; omega)) ⟨M.sel (by first | ((repeat (first | with_reducible exact Sel.refl | with_reducible exact Sel.nil | with_reducible exact Del.here | with_reducible apply Del.there | with_reducible apply Sel.cons | with_reducible apply Sel.drop)); done) | (repeat (first | exact Sel.refl | exact Sel.nil | exact Del.here | apply Del.there | apply Sel.cons | apply Sel.drop))), ⟨⟨hox2.made, hfx2⟩, (by rw [hsx]; exact hz.2.2), hR⟩⟩
                    · have hge : (el l i).num = el G k := by omega
                      refine W.seq ?_
                      refine W.region ?_
                      refine WL.move rfl rfl ?_
                      refine WL.idxArr Try.underlying31 Try.sizeOf4 rfl rfl (by omega) (by omega) (by first | exact rfl | exact (Int.toNat_of_nonneg (by omega)).symm) rfl ?_
                      refine WL.loadE0 (E := boolE9) (A := some ⟨g7_0, 0, none⟩) (j := k) Try.isAgg4 rfl (by first | with_reducible assumption | with_reducible exact RdL.mem (by with_reducible assumption) M | exact M.rdL (by first | ((repeat (first | with_reducible exact Has.here | with_reducible refine Has.there ?_)); done) | (repeat (first | exact Has.here | refine Has.there ?_))) | exact RdLH.at (by assumption) (M.sel (by first | ((repeat (first | with_reducible exact Sel.refl | with_reducible exact Sel.nil | with_reducible exact Del.here | with_reducible apply Del.there | with_reducible apply Sel.cons | with_reducible apply Sel.drop)); done) | (repeat (first | exact Sel.refl | exact Sel.nil | exact Del.here | apply Del.there | apply Sel.cons | apply Sel.drop)))) | exact RdL.nil _ _ _) (by omega) rfl rfl ?_
                      refine WL.assign rfl rfl ?_
                      refine WL.nil ?_
                      refine WX.next ?_
                      refine W.sub [(0, _), (3, _), (5, _), (6, _), (7, _), (8, _), (10, _), (11, _), (12, _), (13, _), (100, _)] (.cons rfl (.cons rfl (.cons rfl (.cons rfl (.cons rfl (.cons rfl (.cons rfl (.cons rfl (.cons rfl (.cons rfl (.cons rfl .nil))))))))))) ?_
                      refine W.cond rfl (fun c13 => ?_) (fun c13 => ?_)
                      · (try simp only [Bool.not_eq_true'] at c13); (try simp only [Bool.not_eq_false'] at c13); (try simp only [decide_eq_true_eq] at c13); (try simp only [decide_eq_false_iff_not] at c13)
                        have hz := hI.again (k := k) (num := (el l i).num) hk9 hn0 hge (by simpa using c13)
                        rw [helR] at hz
                        have hsm : begR x.s k (el l i).num = (el R k).l := hz.2.2.1
                        refine W.seq ?_
                        refine W.region ?_
                        refine WL.move rfl rfl ?_
                        refine WL.neI rfl rfl rfl ?_
                        refine WL.moveIf rfl rfl (fun c14 => ?_) (fun c14 => ?_)
                        · exact absurd hz.1 c14
                        · refine WL.on rfl rfl ?_
                          refine WL.move rfl rfl ?_
                          refine WL.on rfl rfl ?_
                          refine WL.neI rfl rfl rfl ?_
                          refine WL.pickF rfl rfl rfl ?_
                          refine WL.moveIf rfl rfl (fun c15 => ?_) (fun c15 => ?_)
                          · exact absurd hz.2.1 c15
                          · refine WL.on rfl rfl ?_
                            refine WL.move rfl rfl ?_
                            refine WL.on rfl rfl ?_
                            refine WL.move rfl rfl ?_
                            refine WL.on rfl rfl ?_
                            refine WL.idxArr Try.underlying33 Try.sizeOf32 rfl rfl (by omega) (by omega) (by first | exact rfl | exact (Int.toNat_of_nonneg (by omega)).symm) rfl ?_
                            refine WL.on rfl rfl ?_
                            refine WL.loadE0 (E := oxE9) (A := some ⟨g8_0, 0, none⟩) (j := k) Try.isAgg32 rfl (by first | with_reducible assumption | with_reducible exact RdL.mem (by with_reducible assumption) M | exact M.rdL (by first | ((repeat (first | with_reducible exact Has.here | with_reducible refine Has.there ?_)); done) | (repeat (first | exact Has.here | refine Has.there ?_))) | exact RdLH.at (by assumption) (M.sel (by first | ((repeat (first | with_reducible exact Sel.refl | with_reducible exact Sel.nil | with_reducible exact Del.here | with_reducible apply Del.there | with_reducible apply Sel.cons | with_reducible apply Sel.drop)); done) | (repeat (first | exact Sel.refl | exact Sel.nil | exact Del.here | apply Del.there | apply Sel.cons | apply Sel.drop)))) | exact RdL.nil _ _ _) (by omega) rfl rfl ?_
                            refine WL.on rfl rfl ?_
                            refine WL.call Try.call13 rfl (Same_ok (l1 := begR x.s k (el l i).num) (l2 := (el R k).l) (by first | first | with_reducible assumption | with_reducible exact RdB.mem (by with_reducible assumption) M | exact M.rdB (by first | ((repeat (first | with_reducible exact Has.here | with_reducible refine Has.there ?_)); done) | (repeat (first | exact Has.here | refine Has.there ?_))) | exact RdH.at (by assumption) (M.sel (by first | ((repeat (first | with_reducible exact Sel.refl | with_reducible exact Sel.nil | with_reducible exact Del.here | with_reducible apply Del.there | with_reducible apply Sel.cons | with_reducible apply Sel.drop)); done) | (repeat (first | exact Sel.refl | exact Sel.nil | exact Del.here | apply Del.there | apply Sel.cons | apply Sel.drop)))) | exact M.rdLit' (by first | ((repeat (first | with_reducible exact Has.here | with_reducible refine Has.there ?_)); done) | (repeat (first | exact Has.here | refine Has.there ?_))) | exact M.rdLent (by first | ((repeat (first | with_reducible exact Has.here | with_reducible refine Has.there ?_)); done) | (repeat (first | exact Has.here | refine Has.there ?_))) | exact RdB.nil _ _ | exact RdB.sub (by first | with_reducible assumption | with_reducible exact RdB.mem (by with_reducible assumption) M | exact M.rdB (by first | ((repeat (first | with_reducible exact Has.here | with_reducible refine Has.there ?_)); done) | (repeat (first | exact Has.here | refine Has.there ?_))) | exact RdH.at (by assumption) (M.sel (by first | ((repeat (first | with_reducible exact Sel.refl | with_reducible exact Sel.nil | with_reducible exact Del.here | with_reducible apply Del.there | with_reducible apply Sel.cons | with_reducible apply Sel.drop)); done) | (repeat (first | exact Sel.refl | exact Sel.nil | exact Del.here | apply Del.there | apply Sel.cons | apply Sel.drop)))) | exact M.rdLit' (by first | ((repeat (first | with_reducible exact Has.here | with_reducible refine Has.there ?_)); done) | (repeat (first | exact Has.here | refine Has.there ?_))) | exact M.rdLent (by first | ((repeat (first | with_reducible exact Has.here | with_reducible refine Has.there ?_)); done) | (repeat (first | exact Has.here | refine Has.there ?_))) | exact RdB.nil _ _) (by omega) (by omega) | exact RdB.pre' (by first | with_reducible assumption | with_reducible exact RdB.mem (by with_reducible assumption) M | exact M.rdB (by first | ((repeat (first | with_reducible exact Has.here | with_reducible refine Has.there ?_)); done) | (repeat (first | exact Has.here | refine Has.there ?_))) | exact RdH.at (by assumption) (M.sel (by first | ((repeat (first | with_reducible exact Sel.refl | with_reducible exact Sel.nil | with_reducible exact Del.here | with_reducible apply Del.there | with_reducible apply Sel.cons | with_reducible apply Sel.drop)); done) | (repeat (first | exact Sel.refl | exact Sel.nil | exact Del.here | apply Del.there | apply Sel.cons | apply Sel.drop)))) | exact M.rdLit' (by first | ((repeat (first | with_reducible exact Has.here | with_reducible refine Has.there ?_)); done) | (repeat (first | exact Has.here | refine Has.there ?_))) | exact M.rdLent (by first | ((repeat (first | with_reducible exact Has.here | with_reducible refine Has.there ?_)); done) | (repeat (first | exact Has.here | refine Has.there ?_))) | exact RdB.nil _ _) (by omega) | exact RdB.suf (by first | with_reducible assumption | with_reducible exact RdB.mem (by with_reducible assumption) M | exact M.rdB (by first | ((repeat (first | with_reducible exact Has.here | with_reducible refine Has.there ?_)); done) | (repeat (first | exact Has.here | refine Has.there ?_))) | exact RdH.at (by assumption) (M.sel (by first | ((repeat (first | with_reducible exact Sel.refl | with_reducible exact Sel.nil | with_reducible exact Del.here | with_reducible apply Del.there | with_reducible apply Sel.cons | with_reducible apply Sel.drop)); done) | (repeat (first | exact Sel.refl | exact Sel.nil | exact Del.here | apply Del.there | apply Sel.cons | apply Sel.drop)))) | exact M.rdLit' (by first | ((repeat (first | with_reducible exact Has.here | with_reducible refine Has.there ?_)); done) | (repeat (first | exact Has.here | refine Has.there ?_))) | exact M.rdLent (by first | ((repeat (first | with_reducible exact Has.here | with_reducible refine Has.there ?_)); done) | (repeat (first | exact Has.here | refine Has.there ?_))) | exact RdB.nil _ _) (by omega)) (by first | first | with_reducible assumption | with_reducible exact RdB.mem (by with_reducible assumption) M | exact M.rdB (by first | ((repeat (first | with_reducible exact Has.here | with_reducible refine Has.there ?_)); done) | (repeat (first | exact Has.here | refine Has.there ?_))) | exact RdH.at (by assumption) (M.sel (by first | ((repeat (first | with_reducible exact Sel.refl | with_reducible exact Sel.nil | with_reducible exact Del.here | with_reducible apply Del.there | with_reducible apply Sel.cons | with_reducible apply Sel.drop)); done) | (repeat (first | exact Sel.refl | exact Sel.nil | exact Del.here | apply Del.there | apply Sel.cons | apply Sel.drop)))) | exact M.rdLit' (by first | ((repeat (first | with_reducible exact Has.here | with_reducible refine Has.there ?_)); done) | (repeat (first | exact Has.here | refine Has.there ?_))) | exact M.rdLent (by first | ((repeat (first | with_reducible exact Has.here | with_reducible refine Has.there ?_)); done) | (repeat (first | exact Has.here | refine Has.there ?_))) | exact RdB.nil _ _ | exact RdB.sub (by first | with_reducible assumption | with_reducible exact RdB.mem (by with_reducible assumption) M | exact M.rdB (by first | ((repeat (first | with_reducible exact Has.here | with_reducible refine Has.there ?_)); done) | (repeat (first | exact Has.here | refine Has.there ?_))) | exact RdH.at (by assumption) (M.sel (by first | ((repeat (first | with_reducible exact Sel.refl | with_reducible exact Sel.nil | with_reducible exact Del.here | with_reducible apply Del.there | with_reducible apply Sel.cons | with_reducible apply Sel.drop)); done) | (repeat (first | exact Sel.refl | exact Sel.nil | exact Del.here | apply Del.there | apply Sel.cons | apply Sel.drop)))) | exact M.rdLit' (by first | ((repeat (first | with_reducible exact Has.here | with_reducible refine Has.there ?_)); done) | (repeat (first | exact Has.here | refine Has.there ?_))) | exact M.rdLent (by first | ((repeat (first | with_reducible exact Has.here | with_reducible refine Has.there ?_)); done) | (repeat (first | exact Has.here | refine Has.there ?_))) | exact RdB.nil _ _) (by omega) (by omega) | exact RdB.pre' (by first | with_reducible assumption | with_reducible exact RdB.mem (by with_reducible assumption) M | exact M.rdB (by first | ((repeat (first | with_reducible exact Has.here | with_reducible refine Has.there ?_)); done) | (repeat (first | exact Has.here | refine Has.there ?_))) | exact RdH.at (by assumption) (M.sel (by first | ((repeat (first | with_reducible exact Sel.refl | with_reducible exact Sel.nil | with_reducible exact Del.here | with_reducible apply Del.there | with_reducible apply Sel.cons | with_reducible apply Sel.drop)); done) | (repeat (first | exact Sel.refl | exact Sel.nil | exact Del.here | apply Del.there | apply Sel.cons | apply Sel.drop)))) | exact M.rdLit' (by first | ((repeat (first | with_reducible exact Has.here | with_reducible refine Has.there ?_)); done) | (repeat (first | exact Has.here | refine Has.there ?_))) | exact M.rdLent (by first | ((repeat (first | with_reducible exact Has.here | with_reducible refine Has.there ?_)); done) | (repeat (first | exact Has.here | refine Has.there ?_))) | exact RdB.nil _ _) (by omega) | exact RdB.suf (by first | with_reducible assumption | with_reducible exact RdB.mem (by with_reducible assumption) M | exact M.rdB (by first | ((repeat (first | with_reducible exact Has.here | with_reducible refine Has.there ?_)); done) | (repeat (first | exact Has.here | refine Has.there ?_))) | exact RdH.at (by assumption) (M.sel (by first | ((repeat (first | with_reducible exact Sel.refl | with_reducible exact Sel.nil | with_reducible exact Del.here | with_reducible apply Del.there | with_reducible apply Sel.cons | with_reducible apply Sel.drop)); done) | (repeat (first | exact Sel.refl | exact Sel.nil | exact Del.here | apply Del.there | apply Sel.cons | apply Sel.drop)))) | exact M.rdLit' (by first | ((repeat (first | with_reducible exact Has.here | with_reducible refine Has.there ?_)); done) | (repeat (first | exact Has.here | refine Has.there ?_))) | exact M.rdLent (by first | ((repeat (first | with_reducible exact Has.here | with_reducible refine Has.there ?_)); done) | (repeat (first | exact Has.here | refine Has.there ?_))) | exact RdB.nil _ _) (by omega))) rfl ?_
                            rintro _ _ ⟨rfl, rfl⟩
                            refine WL.on rfl rfl ?_
                            refine WL.notP rfl rfl ?_
                            refine WL.pickF rfl rfl rfl ?_
                            refine WL.nil ?_
                            refine WX.next ?_
                            refine W.sub [(0, _), (3, _), (5, _), (6, _), (7, _), (8, _), (117, _)] (.cons rfl (.cons rfl (.cons rfl (.cons rfl (.cons rfl (.cons rfl (.cons rfl .nil))))))) ?_
                            refine W.ite rfl (fun c16 => ?_) (fun c16 => ?_)
                            · exact absurd hsm c16
                            · refine W.skip ?_
                              refine WX.blockNormal ?_
                              refine WX.next ?_
                              refine W.exit ?_
                              refine WX.thenExit ?_
                              refine WX.blockHere ?_
                              refine WX.join ((x2, G, D, R)) (by (repeat' (first | exact envSub.nil | refine envSub.cons ?_ ?_)) <;> first | rfl | (refine congrArg some ?_; refine congrArg (Value.int _) ?_; first | omega | (dsimp only; omega)) | (simp; done) | (refine congrArg some ?_; dsimp only; congr 1; omega) | (simp; omega)) ⟨M.sel (by first | ((repeat (first | with_reducible exact Sel.refl | with_reducible exact Sel.nil | with_reducible exact Del.here | with_reducible apply Del.there | with_reducible apply Sel.cons | with_reducible apply Sel.drop)); done) | (repeat (first | exact Sel.refl | exact Sel.nil | exact Del.here | apply Del.there | apply Sel.cons | apply Sel.drop))), ⟨⟨hox2.made, hfx2⟩, (by rw [hsx]; exact hz.2.2.2), hR⟩⟩
                      · (try simp only [Bool.not_eq_true'] at c13); (try simp only [Bool.not_eq_false'] at c13); (try simp only [decide_eq_true_eq] at c13); (try simp only [decide_eq_false_iff_not] at c13)
                        have hz := hI.busy (k := k) (num := (el l i).num) hk9 hn0 hge (by simpa using c13)
                        refine W.seq ?_
                        refine W.region ?_
                        refine WL.move rfl rfl ?_
                        refine WL.neI rfl rfl rfl ?_
                        refine WL.moveIf rfl rfl (fun c17 => ?_) (fun c17 => ?_)
                        · exact absurd hz.1 c17
                        · refine WL.on rfl rfl ?_
                          refine WL.move rfl rfl ?_
                          refine WL.on rfl rfl ?_
                          refine WL.neI rfl rfl rfl ?_
                          refine WL.pickF rfl rfl rfl ?_
                          refine WL.nil ?_
                          refine WX.next ?_
                          refine W.sub [(0, _), (3, _), (5, _), (6, _), (7, _), (8, _), (65, _)] (.cons rfl (.cons rfl (.cons rfl (.cons rfl (.cons rfl (.cons rfl (.cons rfl .nil))))))) ?_
                          refine W.ite rfl (fun c18 => ?_) (fun c18 => ?_)
                          · exact absurd hz.2.1 c18
                          · refine W.skip ?_
                            refine WX.blockNormal ?_
                            refine WX.next ?_
                            refine W.exit ?_
                            refine WX.thenExit ?_
                            refine WX.blockHere ?_
                            refine WX.join ((x2, G, D, R)) (by (repeat' (first | exact envSub.nil | refine envSub.cons ?_ ?_)) <;> first | rfl | (refine congrArg some ?_; refine congrArg (Value.int _) ?_; first | omega | (dsimp only; omega)) | (simp; done) | (refine congrArg some ?_; dsimp only; congr 1; omega) | (simp; omega)) ⟨M.sel (by first | ((repeat (first | with_reducible exact Sel.refl | with_reducible exact Sel.nil | with_reducible exact Del.here | with_reducible apply Del.there | with_reducible apply Sel.cons | with_reducible apply Sel.drop)); done) | (repeat (first | exact Sel.refl | exact Sel.nil | exact Del.here | apply Del.there | apply Sel.cons | apply Sel.drop))), ⟨⟨hox2.made, hfx2⟩, (by rw [hsx]; exact hz.2.2), hR⟩⟩
              · refine W.skip ?_
                refine WX.next ?_
                refine W.seq ?_
                refine W.region ?_
                refine WL.move rfl rfl ?_
                refine WL.move rfl rfl ?_
                refine WL.conv Try.underlying3 Try.underlying29 rfl (by first | exact wU64 (by omega) | exact mU64 _ | rfl) rfl ?_
                refine WL.fieldR (off := 2) Try.underlying35 rfl rfl Try.sizeOf29 rfl rfl rfl ?_
                refine WL.loadR Try.isAgg29 rfl M (by first | ((repeat (first | with_reducible exact Has.here | with_reducible refine Has.there ?_)); done) | (repeat (first | exact Has.here | refine Has.there ?_))) rfl rfl ?_
                refine WL.fieldR (off := 3) Try.underlying35 rfl rfl Try.sizeOf32 rfl rfl rfl ?_
                refine WL.loadR Try.isAgg32 rfl M (by first | ((repeat (first | with_reducible exact Has.here | with_reducible refine Has.there ?_)); done) | (repeat (first | exact Has.here | refine Has.there ?_))) rfl rfl ?_
                refine WL.call Try.call14 rfl (End_ok x hok k (el l i).num (by omega) hin.num (el l i).A (el l i).cap (el l i).rep w0 w _ (M.sel (K := x.L ++ (Asr.row g12_4 35 [.int .i64 (el l i).kind, .int .u64 ((el l i).id : Int), .int .u64 ((el l i).num : Int), .slice (el l i).A (el l i).rep.length (el l i).cap] :: Asr.lst natE9 (some ⟨g6_0, 0, none⟩) 9 G :: Asr.lst boolE9 (some ⟨g7_0, 0, none⟩) 9 D :: Asr.lst oxE9 (some ⟨g8_0, 0, none⟩) 9 R :: [])) (by first | ((repeat (first | with_reducible exact Sel.refl | with_reducible exact Sel.nil | with_reducible exact Del.here | with_reducible apply Del.there | with_reducible apply Sel.cons | with_reducible apply Sel.drop)); done) | (repeat (first | exact Sel.refl | exact Sel.nil | exact Del.here | apply Del.there | apply Sel.cons | apply Sel.drop)))) (by intro w M; exact (by first | first | with_reducible assumption | with_reducible exact RdB.mem (by with_reducible assumption) M | exact M.rdB (by first | ((repeat (first | with_reducible exact Has.here | with_reducible refine Has.there ?_)); done) | (repeat (first | exact Has.here | refine Has.there ?_))) | exact RdH.at (by assumption) (M.sel (by first | ((repeat (first | with_reducible exact Sel.refl | with_reducible exact Sel.nil | with_reducible exact Del.here | with_reducible apply Del.there | with_reducible apply Sel.cons | with_reducible apply Sel.drop)); done) | (repeat (first | exact Sel.refl | exact Sel.nil | exact Del.here | apply Del.there | apply Sel.cons | apply Sel.drop)))) | exact M.rdLit' (by first | ((repeat (first | with_reducible exact Has.here | with_reducible refine Has.there ?_)); done) | (repeat (first | exact Has.here | refine Has.there ?_))) | exact M.rdLent (by first | ((repeat (first | with_reducible exact Has.here | with_reducible refine Has.there ?_)); done) | (repeat (first | exact Has.here | refine Has.there ?_))) | exact RdB.nil _ _ | exact RdB.sub (by first | with_reducible assumption | with_reducible exact RdB.mem (by with_reducible assumption) M | exact M.rdB (by first | ((repeat (first | with_reducible exact Has.here | with_reducible refine Has.there ?_)); done) | (repeat (first | exact Has.here | refine Has.there ?_))) | exact RdH.at (by assumption) (M.sel (by first | ((repeat (first | with_reducible exact Sel.refl | with_reducible exact Sel.nil | with_reducible exact Del.here | with_reducible apply Del.there | with_reducible apply Sel.cons | with_reducible apply Sel.drop)); done) | (repeat (first | exact Sel.refl | exact Sel.nil | exact Del.here | apply Del.there | apply Sel.cons | apply Sel.drop)))) | exact M.rdLit' (by first | ((repeat (first | with_reducible exact Has.here | with_reducible refine Has.there ?_)); done) | (repeat (first | exact Has.here | refine Has.there ?_))) | exact M.rdLent (by first | ((repeat (first | with_reducible exact Has.here | with_reducible refine Has.there ?_)); done) | (repeat (first | exact Has.here | refine Has.there ?_))) | exact RdB.nil _ _) (by omega) (by omega) | exact RdB.pre' (by first | with_reducible assumption | with_reducible exact RdB.mem (by with_reducible assumption) M | exact M.rdB (by first | ((repeat (first | with_reducible exact Has.here | with_reducible refine Has.there ?_)); done) | (repeat (first | exact Has.here | refine Has.there ?_))) | exact RdH.at (by assumption) (M.sel (by first | ((repeat (first | with_reducible exact Sel.refl | with_reducible exact Sel.nil | with_reducible exact Del.here | with_reducible apply Del.there | with_reducible apply Sel.cons | with_reducible apply Sel.drop)); done) | (repeat (first | exact Sel.refl | exact Sel.nil | exact Del.here | apply Del.there | apply Sel.cons | apply Sel.drop)))) | exact M.rdLit' (by first | ((repeat (first | with_reducible exact Has.here | with_reducible refine Has.there ?_)); done) | (repeat (first | exact Has.here | refine Has.there ?_))) | exact M.rdLent (by first | ((repeat (first | with_reducible exact Has.here | with_reducible refine Has.there ?_)); done) | (repeat (first | exact Has.here | refine Has.there ?_))) | exact RdB.nil _ _) (by omega) | exact RdB.suf (by first | with_reducible assumption | with_reducible exact RdB.mem (by with_reducible assumption) M | exact M.rdB (by first | ((repeat (first | with_reducible exact Has.here | with_reducible refine Has.there ?_)); done) | (repeat (first | exact Has.here | refine Has.there ?_))) | exact RdH.at (by assumption) (M.sel (by first | ((repeat (first | with_reducible exact Sel.refl | with_reducible exact Sel.nil | with_reducible exact Del.here | with_reducible apply Del.there | with_reducible apply Sel.cons | with_reducible apply Sel.drop)); done) | (repeat (first | exact Sel.refl | exact Sel.nil | exact Del.here | apply Del.there | apply Sel.cons | apply Sel.drop)))) | exact M.rdLit' (by first | ((repeat (first | with_reducible exact Has.here | with_reducible refine Has.there ?_)); done) | (repeat (first | exact Has.here | refine Has.there ?_))) | exact M.rdLent (by first | ((repeat (first | with_reducible exact Has.here | with_reducible refine Has.there ?_)); done) | (repeat (first | exact Has.here | refine Has.there ?_))) | exact RdB.nil _ _) (by omega)))) rfl ?_
                rintro _ w ⟨rfl, x2, hgx, hsx, hox2, M⟩
                rw [hgx]
                have hfx2 : Few x2.s (i + 1) := by rw [hsx]; exact hfx.end_ _ _ _
                refine WL.assign rfl rfl ?_
                refine WL.nil ?_
                refine WX.next ?_
                refine W.sub [(0, _), (3, _), (5, _), (6, _), (7, _), (8, _), (9, _), (10, _), (14, _)] (.cons rfl (.cons rfl (.cons rfl (.cons rfl (.cons rfl (.cons rfl (.cons rfl (.cons rfl (.cons rfl .nil))))))))) ?_
                refine W.joint (fun (b : Bool) => [(0, .slice A1 l.length q1), (3, .pointer (some ⟨x2.g, 0, none⟩)), (5, .pointer (some ⟨g6_0, 0, none⟩)), (6, .pointer (some ⟨g7_0, 0, none⟩)), (7, .pointer (some ⟨g8_0, 0, none⟩)), (8, .int .i64 (i : Int)), (9, .pointer (some ⟨g12_4, 0, none⟩)), (10, .int .i64 (k : Int)), (14, .int .i64 (endE x.s k (el l i).num (el l i).rep)), (15, .bool b)]) (fun j w => Mem w0 w ((fun _ => Asr.row g12_4 35 [.int .i64 (el l i).kind, .int .u64 ((el l i).id : Int), .int .u64 ((el l i).num : Int), .slice (el l i).A (el l i).rep.length (el l i).cap] :: Asr.lst natE9 (some ⟨g6_0, 0, none⟩) 9 G :: Asr.lst boolE9 (some ⟨g7_0, 0, none⟩) 9 D :: Asr.lst oxE9 (some ⟨g8_0, 0, none⟩) 9 R :: (x2.L ++ [])) j) ∧ (fun b => b = true ↔ (0 < el G k ∧ (el l i).num = el G k ∧ el D k = false ∧ (el l i).rep.length ≤ 200)) j) ?_ ?_
                · refine W.drawM ([Asr.row g12_4 35 [.int .i64 (el l i).kind, .int .u64 ((el l i).id : Int), .int .u64 ((el l i).num : Int), .slice (el l i).A (el l i).rep.length (el l i).cap], Asr.lst natE9 (some ⟨g6_0, 0, none⟩) 9 G, Asr.lst boolE9 (some ⟨g7_0, 0, none⟩) 9 D]) (by kernel_rfl) (fun j => [5, 6, 7, 8, 9].contains j) M (by first | ((repeat (first | with_reducible exact Sel.refl | with_reducible exact Sel.nil | with_reducible exact Del.here | with_reducible apply Del.there | with_reducible apply Sel.cons | with_reducible apply Sel.drop)); done) | (repeat (first | exact Sel.refl | exact Sel.nil | exact Del.here | apply Del.there | apply Sel.cons | apply Sel.drop))) ?_
                  clear M; intro M
                  apply DG.pure_ [0, 1] 23 rfl (by kernel_rfl) (by kernel_rfl)
                  · intro w
                    refine WL.move rfl rfl ?_
                    refine WL.idxArr Try.underlying30 Try.sizeOf29 rfl rfl (by omega) (by omega) (by first | exact rfl | exact (Int.toNat_of_nonneg (by omega)).symm) rfl ?_
                    exact Chain.end_ rfl
                  apply DG.take [2, 3] 21 rfl (by kernel_rfl) (by kernel_rfl) (M.sel (by first | ((repeat (first | with_reducible exact Sel.refl | with_reducible exact Sel.nil | with_reducible exact Del.here | with_reducible apply Del.there | with_reducible apply Sel.cons | with_reducible apply Sel.drop)); done) | (repeat (first | exact Sel.refl | exact Sel.nil | exact Del.here | apply Del.there | apply Sel.cons | apply Sel.drop))))
                  · intro w M
                    refine WL.loadE0 (E := natE9) (A := some ⟨g6_0, 0, none⟩) (j := k) Try.isAgg29 rfl (by first | with_reducible assumption | with_reducible exact RdL.mem (by with_reducible assumption) M | exact M.rdL (by first | ((repeat (first | with_reducible exact Has.here | with_reducible refine Has.there ?_)); done) | (repeat (first | exact Has.here | refine Has.there ?_))) | exact RdLH.at (by assumption) (M.sel (by first | ((repeat (first | with_reducible exact Sel.refl | with_reducible exact Sel.nil | with_reducible exact Del.here | with_reducible apply Del.there | with_reducible apply Sel.cons | with_reducible apply Sel.drop)); done) | (repeat (first | exact Sel.refl | exact Sel.nil | exact Del.here | apply Del.there | apply Sel.cons | apply Sel.drop)))) | exact RdL.nil _ _ _) (by omega) rfl rfl ?_
                    refine WL.gtr rfl rfl rfl ?_
                    exact Chain.end_ rfl
                  refine DG.knowP (t := 129) rfl (fun c19 => ?_) (fun c19 => ?_)
                  · apply DG.pure_ [4] 20 rfl (by kernel_rfl) (by kernel_rfl)
                    · intro w
                      refine WL.move rfl rfl ?_
                      exact Chain.end_ rfl
                    apply DG.take [5, 6, 7, 8, 9, 10, 11] 13 rfl (by kernel_rfl) (by kernel_rfl) (M.sel (by first | ((repeat (first | with_reducible exact Sel.refl | with_reducible exact Sel.nil | with_reducible exact Del.here | with_reducible apply Del.there | with_reducible apply Sel.cons | with_reducible apply Sel.drop)); done) | (repeat (first | exact Sel.refl | exact Sel.nil | exact Del.here | apply Del.there | apply Sel.cons | apply Sel.drop))))
                    · intro w M
                      refine WL.on rfl rfl ?_
                      refine WL.fieldR (off := 2) Try.underlying35 rfl rfl Try.sizeOf29 rfl rfl rfl ?_
                      refine WL.on rfl rfl ?_
                      refine WL.loadR Try.isAgg29 rfl M (by first | ((repeat (first | with_reducible exact Has.here | with_reducible refine Has.there ?_)); done) | (repeat (first | exact Has.here | refine Has.there ?_))) rfl rfl ?_
                      refine WL.on rfl rfl ?_
                      refine WL.move rfl rfl ?_
                      refine WL.on rfl rfl ?_
                      refine WL.idxArr Try.underlying30 Try.sizeOf29 rfl rfl (by omega) (by omega) (by first | exact rfl | exact (Int.toNat_of_nonneg (by omega)).symm) rfl ?_
                      refine WL.on rfl rfl ?_
                      refine WL.loadE0 (E := natE9) (A := some ⟨g6_0, 0, none⟩) (j := k) Try.isAgg29 rfl (by first | with_reducible assumption | with_reducible exact RdL.mem (by with_reducible assumption) M | exact M.rdL (by first | ((repeat (first | with_reducible exact Has.here | with_reducible refine Has.there ?_)); done) | (repeat (first | exact Has.here | refine Has.there ?_))) | exact RdLH.at (by assumption) (M.sel (by first | ((repeat (first | with_reducible exact Sel.refl | with_reducible exact Sel.nil | with_reducible exact Del.here | with_reducible apply Del.there | with_reducible apply Sel.cons | with_reducible apply Sel.drop)); done) | (repeat (first | exact Sel.refl | exact Sel.nil | exact Del.here | apply Del.there | apply Sel.cons | apply Sel.drop)))) | exact RdL.nil _ _ _) (by omega) rfl rfl ?_
                      refine WL.on rfl rfl ?_
                      refine WL.eqI rfl rfl rfl ?_
                      refine WL.pickT rfl rfl rfl ?_
                      exact Chain.end_ rfl
                    refine DG.knowP (t := 137) rfl (fun c20 => ?_) (fun c20 => ?_)
                    · apply DG.pure_ [12, 13, 14] 10 rfl (by kernel_rfl) (by kernel_rfl)
                      · intro w
                        refine WL.move rfl rfl ?_
                        refine WL.on rfl rfl ?_
                        refine WL.move rfl rfl ?_
                        refine WL.on rfl rfl ?_
                        refine WL.idxArr Try.underlying31 Try.sizeOf4 rfl rfl (by omega) (by omega) (by first | exact rfl | exact (Int.toNat_of_nonneg (by omega)).symm) rfl ?_
                        exact Chain.end_ rfl
                      apply DG.take [15, 16, 17] 7 rfl (by kernel_rfl) (by kernel_rfl) (M.sel (by first | ((repeat (first | with_reducible exact Sel.refl | with_reducible exact Sel.nil | with_reducible exact Del.here | with_reducible apply Del.there | with_reducible apply Sel.cons | with_reducible apply Sel.drop)); done) | (repeat (first | exact Sel.refl | exact Sel.nil | exact Del.here | apply Del.there | apply Sel.cons | apply Sel.drop))))
                      · intro w M
                        refine WL.on rfl rfl ?_
                        refine WL.loadE0 (E := boolE9) (A := some ⟨g7_0, 0, none⟩) (j := k) Try.isAgg4 rfl (by first | with_reducible assumption | with_reducible exact RdL.mem (by with_reducible assumption) M | exact M.rdL (by first | ((repeat (first | with_reducible exact Has.here | with_reducible refine Has.there ?_)); done) | (repeat (first | exact Has.here | refine Has.there ?_))) | exact RdLH.at (by assumption) (M.sel (by first | ((repeat (first | with_reducible exact Sel.refl | with_reducible exact Sel.nil | with_reducible exact Del.here | with_reducible apply Del.there | with_reducible apply Sel.cons | with_reducible apply Sel.drop)); done) | (repeat (first | exact Sel.refl | exact Sel.nil | exact Del.here | apply Del.there | apply Sel.cons | apply Sel.drop)))) | exact RdL.nil _ _ _) (by omega) rfl rfl ?_
                        refine WL.on rfl rfl ?_
                        refine WL.not rfl rfl ?_
                        refine WL.pickT rfl rfl rfl ?_
                        exact Chain.end_ rfl
                      refine DG.know (t := 143) rfl (fun c21 => ?_) (fun c21 => ?_)
                      · (try simp only [Bool.not_eq_true'] at c21); (try simp only [Bool.not_eq_false'] at c21); (try simp only [decide_eq_true_eq] at c21); (try simp only [decide_eq_false_iff_not] at c21)
                        apply DG.pure_ [18, 19] 5 rfl (by kernel_rfl) (by kernel_rfl)
                        · intro w
                          refine WL.move rfl rfl ?_
                          refine WL.on rfl rfl ?_
                          refine WL.fieldR (off := 3) Try.underlying35 rfl rfl Try.sizeOf32 rfl rfl rfl ?_
                          exact Chain.end_ rfl
                        apply DG.take [20, 21, 22, 23, 24] 0 rfl (by kernel_rfl) (by kernel_rfl) (M.sel (by first | ((repeat (first | with_reducible exact Sel.refl | with_reducible exact Sel.nil | with_reducible exact Del.here | with_reducible apply Del.there | with_reducible apply Sel.cons | with_reducible apply Sel.drop)); done) | (repeat (first | exact Sel.refl | exact Sel.nil | exact Del.here | apply Del.there | apply Sel.cons | apply Sel.drop))))
                        · intro w M
                          refine WL.on rfl rfl ?_
                          refine WL.loadR Try.isAgg32 rfl M (by first | ((repeat (first | with_reducible exact Has.here | with_reducible refine Has.there ?_)); done) | (repeat (first | exact Has.here | refine Has.there ?_))) rfl rfl ?_
                          refine WL.on rfl rfl ?_
                          refine WL.len Try.underlying32 rfl rfl ?_
                          refine WL.on rfl rfl ?_
                          refine WL.leq rfl rfl rfl ?_
                          refine WL.pickT rfl rfl rfl ?_
                          refine WL.assign rfl rfl ?_
                          exact Chain.end_ rfl
                        refine DG.end_ (by kernel_rfl) ?_
                        refine WX.join (decide (((el l i).rep.length : Int) ≤ 200)) (by (repeat' (first | exact envSub.nil | refine envSub.cons ?_ ?_)) <;> first | rfl | (refine congrArg some ?_; refine congrArg (Value.int _) ?_; first | omega | (dsimp only; omega)) | (simp; done) | (refine congrArg some ?_; dsimp only; congr 1; omega) | (simp; omega)) ⟨M.sel (by first | ((repeat (first | with_reducible exact Sel.refl | with_reducible exact Sel.nil | with_reducible exact Del.here | with_reducible apply Del.there | with_reducible apply Sel.cons | with_reducible apply Sel.drop)); done) | (repeat (first | exact Sel.refl | exact Sel.nil | exact Del.here | apply Del.there | apply Sel.cons | apply Sel.drop))), (by simp only [decide_eq_true_eq]; exact ⟨fun h => ⟨by omega, by omega, by simpa using c21, by omega⟩, fun h => by omega⟩)⟩
                      · (try simp only [Bool.not_eq_true'] at c21); (try simp only [Bool.not_eq_false'] at c21); (try simp only [decide_eq_true_eq] at c21); (try simp only [decide_eq_false_iff_not] at c21)
                        apply DG.pure_ [18, 19] 5 rfl (by kernel_rfl) (by kernel_rfl)
                        · intro w
                          refine WL.move rfl rfl ?_
                          refine WL.off rfl rfl rfl rfl ?_
                          exact Chain.end_ rfl
                        apply DG.pure_ [20, 21, 22, 23, 24] 0 rfl (by kernel_rfl) (by kernel_rfl)
                        · intro w
                          refine WL.off rfl rfl rfl rfl ?_
                          refine WL.off rfl rfl rfl rfl ?_
                          refine WL.off rfl rfl rfl rfl ?_
                          refine WL.pickF rfl rfl rfl ?_
                          refine WL.assign rfl rfl ?_
                          exact Chain.end_ rfl
                        refine DG.end_ (by kernel_rfl) ?_
                        refine WX.join (false) (by (repeat' (first | exact envSub.nil | refine envSub.cons ?_ ?_)) <;> first | rfl | (refine congrArg some ?_; refine congrArg (Value.int _) ?_; first | omega | (dsimp only; omega)) | (simp; done) | (refine congrArg some ?_; dsimp only; congr 1; omega) | (simp; omega)) ⟨M.sel (by first | ((repeat (first | with_reducible exact Sel.refl | with_reducible exact Sel.nil | with_reducible exact Del.here | with_reducible apply Del.there | with_reducible apply Sel.cons | with_reducible apply Sel.drop)); done) | (repeat (first | exact Sel.refl | exact Sel.nil | exact Del.here | apply Del.there | apply Sel.cons | apply Sel.drop))), (by constructor; (intro h; cases h); (intro h; simp [h.2.2.1] at c21))⟩
                    · apply DG.pure_ [12, 13, 14] 10 rfl (by kernel_rfl) (by kernel_rfl)
                      · intro w
                        refine WL.move rfl rfl ?_
                        refine WL.off rfl rfl rfl rfl ?_
                        refine WL.off rfl rfl rfl rfl ?_
                        exact Chain.end_ rfl
                      apply DG.pure_ [15, 16, 17] 7 rfl (by kernel_rfl) (by kernel_rfl)
                      · intro w
                        refine WL.off rfl rfl rfl rfl ?_
                        refine WL.off rfl rfl rfl rfl ?_
                        refine WL.pickF rfl rfl rfl ?_
                        exact Chain.end_ rfl
                      apply DG.pure_ [18, 19] 5 rfl (by kernel_rfl) (by kernel_rfl)
                      · intro w
                        refine WL.move rfl rfl ?_
                        refine WL.off rfl rfl rfl rfl ?_
                        exact Chain.end_ rfl
                      apply DG.pure_ [20, 21, 22, 23, 24] 0 rfl (by kernel_rfl) (by kernel_rfl)
                      · intro w
                        refine WL.off rfl rfl rfl rfl ?_
                        refine WL.off rfl rfl rfl rfl ?_
                        refine WL.off rfl rfl rfl rfl ?_
                        refine WL.pickF rfl rfl rfl ?_
                        refine WL.assign rfl rfl ?_
                        exact Chain.end_ rfl
                      refine DG.end_ (by kernel_rfl) ?_
                      refine WX.join (false) (by (repeat' (first | exact envSub.nil | refine envSub.cons ?_ ?_)) <;> first | rfl | (refine congrArg some ?_; refine congrArg (Value.int _) ?_; first | omega | (dsimp only; omega)) | (simp; done) | (refine congrArg some ?_; dsimp only; congr 1; omega) | (simp; omega)) ⟨M.sel (by first | ((repeat (first | with_reducible exact Sel.refl | with_reducible exact Sel.nil | with_reducible exact Del.here | with_reducible apply Del.there | with_reducible apply Sel.cons | with_reducible apply Sel.drop)); done) | (repeat (first | exact Sel.refl | exact Sel.nil | exact Del.here | apply Del.there | apply Sel.cons | apply Sel.drop))), (by constructor; (intro h; cases h); (intro h; omega))⟩
                  · apply DG.pure_ [4] 20 rfl (by kernel_rfl) (by kernel_rfl)
                    · intro w
                      refine WL.move rfl rfl ?_
                      exact Chain.end_ rfl
                    apply DG.take [5, 6, 7, 8, 9, 10, 11] 13 rfl (by kernel_rfl) (by kernel_rfl) (M.sel (by first | ((repeat (first | with_reducible exact Sel.refl | with_reducible exact Sel.nil | with_reducible exact Del.here | with_reducible apply Del.there | with_reducible apply Sel.cons | with_reducible apply Sel.drop)); done) | (repeat (first | exact Sel.refl | exact Sel.nil | exact Del.here | apply Del.there | apply Sel.cons | apply Sel.drop))))
                    · intro w M
                      refine WL.off rfl rfl rfl rfl ?_
                      refine WL.off rfl rfl rfl rfl ?_
                      refine WL.off rfl rfl rfl rfl ?_
                      refine WL.off rfl rfl rfl rfl ?_
                      refine WL.off rfl rfl rfl rfl ?_
                      refine WL.off rfl rfl rfl rfl ?_
                      refine WL.pickF rfl rfl rfl ?_
                      exact Chain.end_ rfl
                    apply DG.pure_ [12, 13, 14] 10 rfl (by kernel_rfl) (by kernel_rfl)
                    · intro w
                      refine WL.move rfl rfl ?_
                      refine WL.off rfl rfl rfl rfl ?_
                      refine WL.off rfl rfl rfl rfl ?_
                      exact Chain.end_ rfl
                    apply DG.pure_ [15, 16, 17] 7 rfl (by kernel_rfl) (by kernel_rfl)
                    · intro w
                      refine WL.off rfl rfl rfl rfl ?_
                      refine WL.off rfl rfl rfl rfl ?_
                      refine WL.pickF rfl rfl rfl ?_
                      exact Chain.end_ rfl
                    apply DG.pure_ [18, 19] 5 rfl (by kernel_rfl) (by kernel_rfl)
                    · intro w
                      refine WL.move rfl rfl ?_
                      refine WL.off rfl rfl rfl rfl ?_
                      exact Chain.end_ rfl
                    apply DG.pure_ [20, 21, 22, 23, 24] 0 rfl (by kernel_rfl) (by kernel_rfl)
                    · intro w
                      refine WL.off rfl rfl rfl rfl ?_
                      refine WL.off rfl rfl rfl rfl ?_
                      refine WL.off rfl rfl rfl rfl ?_
                      refine WL.pickF rfl rfl rfl ?_
                      refine WL.assign rfl rfl ?_
                      exact Chain.end_ rfl
                    refine DG.end_ (by kernel_rfl) ?_
                    refine WX.join (false) (by (repeat' (first | exact envSub.nil | refine envSub.cons ?_ ?_)) <;> first | rfl | (refine congrArg some ?_; refine congrArg (Value.int _) ?_; first | omega | (dsimp only; omega)) | (simp; done) | (refine congrArg some ?_; dsimp only; congr 1; omega) | (simp; omega)) ⟨M.sel (by first | ((repeat (first | with_reducible exact Sel.refl | with_reducible exact Sel.nil | with_reducible exact Del.here | with_reducible apply Del.there | with_reducible apply Sel.cons | with_reducible apply Sel.drop)); done) | (repeat (first | exact Sel.refl | exact Sel.nil | exact Del.here | apply Del.there | apply Sel.cons | apply Sel.drop))), (by constructor; (intro h; cases h); (intro h; omega))⟩
                clear M; rintro (b) w ⟨M, hb⟩; dsimp only at M hb ⊢
                refine W.sub [(0, _), (3, _), (5, _), (6, _), (7, _), (8, _), (9, _), (10, _), (14, _), (15, _)] (.cons rfl (.cons rfl (.cons rfl (.cons rfl (.cons rfl (.cons rfl (.cons rfl (.cons rfl (.cons rfl (.cons rfl .nil)))))))))) ?_
                have hE : decide (endE x.s k (el l i).num (el l i).rep = 0) = b := by
                  cases b with
                  | true =>
                    have hP := hb.1 rfl
                    exact decide_eq_true (hI.end_ hk9 hin.num hP.1 hP.2.1 hP.2.2.1 hP.2.2.2).1
                  | false =>
                    have hP := hI.endNo (k := k) (num := (el l i).num) (rep := (el l i).rep) hk9 (fun h => by have := hb.2 h; cases this)
                    exact decide_eq_false hP.1
                refine W.seq ?_
                refine W.seq ?_
                refine W.region ?_
                refine WL.move rfl rfl ?_
                refine WL.move rfl rfl ?_
                refine WL.eqI rfl rfl rfl ?_
                rw [hE]
                refine WL.neB Try.underlying4 rfl rfl rfl ?_
                refine WL.nil ?_
                refine WX.next ?_
                refine W.sub [(0, _), (3, _), (5, _), (6, _), (7, _), (8, _), (9, _), (10, _), (15, _), (153, _)] (.cons rfl (.cons rfl (.cons rfl (.cons rfl (.cons rfl (.cons rfl (.cons rfl (.cons rfl (.cons rfl (.cons rfl .nil)))))))))) ?_
                refine W.ite rfl (fun c22 => ?_) (fun c22 => ?_)
                · exact absurd rfl c22
                · refine W.skip ?_
                  refine WX.next ?_
                  refine W.seq ?_
                  refine W.region ?_
                  refine WL.move rfl rfl ?_
                  refine WL.nil ?_
                  refine WX.next ?_
                  refine W.sub [(0, _), (3, _), (5, _), (6, _), (7, _), (8, _), (9, _), (10, _), (154, _)] (.cons rfl (.cons rfl (.cons rfl (.cons rfl (.cons rfl (.cons rfl (.cons rfl (.cons rfl (.cons rfl .nil))))))))) ?_
                  refine W.cond rfl (fun c23 => ?_) (fun c23 => ?_)
                  · (try simp only [Bool.not_eq_true'] at c23); (try simp only [Bool.not_eq_false'] at c23); (try simp only [decide_eq_true_eq] at c23); (try simp only [decide_eq_false_iff_not] at c23)
                    refine W.seq ?_
                    refine W.region ?_
                    refine WL.move rfl rfl ?_
                    refine WL.idxArr Try.underlying31 Try.sizeOf4 rfl rfl (by omega) (by omega) (by first | exact rfl | exact (Int.toNat_of_nonneg (by omega)).symm) rfl ?_
                    refine WL.storeE0 (E := boolE9) (A := some ⟨g7_0, 0, none⟩) (j := k) (x' := true) Try.sizeOf4 rfl rfl rfl M (by first | ((repeat (first | with_reducible exact Has.here | with_reducible refine Has.there ?_)); done) | (repeat (first | exact Has.here | refine Has.there ?_))) (by omega) (by repeat (first | exact SetAt.zero | apply SetAt.succ)) (by first | ((repeat (first | with_reducible exact Upd.here | with_reducible apply Upd.there)); done) | (repeat (first | exact Upd.here | apply Upd.there))) ?_
                    intro w M
                    refine WL.nil ?_
                    refine WX.next ?_
                    refine W.sub [(0, _), (3, _), (5, _), (6, _), (7, _), (8, _), (9, _), (10, _)] (.cons rfl (.cons rfl (.cons rfl (.cons rfl (.cons rfl (.cons rfl (.cons rfl (.cons rfl .nil)))))))) ?_
                    refine W.region ?_
                    refine WL.move rfl rfl ?_
                    refine WL.fieldR (off := 3) Try.underlying35 rfl rfl Try.sizeOf32 rfl rfl rfl ?_
                    refine WL.loadR Try.isAgg32 rfl M (by first | ((repeat (first | with_reducible exact Has.here | with_reducible refine Has.there ?_)); done) | (repeat (first | exact Has.here | refine Has.there ?_))) rfl rfl ?_
                    refine WL.idxArr Try.underlying33 Try.sizeOf32 rfl rfl (by omega) (by omega) (by first | exact rfl | exact (Int.toNat_of_nonneg (by omega)).symm) rfl ?_
                    refine WL.storeE0 (E := oxE9) (A := some ⟨g8_0, 0, none⟩) (j := k) (x' := ⟨(el l i).A, (el l i).cap, (el l i).rep⟩) Try.sizeOf32 rfl rfl rfl M (by first | ((repeat (first | with_reducible exact Has.here | with_reducible refine Has.there ?_)); done) | (repeat (first | exact Has.here | refine Has.there ?_))) (by omega) (by repeat (first | exact SetAt.zero | apply SetAt.succ)) (by first | ((repeat (first | with_reducible exact Upd.here | with_reducible apply Upd.there)); done) | (repeat (first | exact Upd.here | apply Upd.there))) ?_
                    intro w M
                    refine WL.nil ?_
                    refine WX.blockNormal ?_
                    have hP := hb.1 c23
                    have hz := hI.end_ hk9 hin.num hP.1 hP.2.1 hP.2.2.1 hP.2.2.2
                    have hR2 : ∀ o ∈ R.set k ⟨(el l i).A, (el l i).cap, (el l i).rep⟩, RdB w0 o.A o.cap o.l := by
                      intro o ho
                      rcases List.mem_or_eq_of_mem_set ho with ho | rfl
                      · exact hR o ho
                      · exact hrd
                    refine WX.join ((x2, G, D.set k true, R.set k ⟨(el l i).A, (el l i).cap, (el l i).rep⟩)) (by (repeat' (first | exact envSub.nil | refine envSub.cons ?_ ?_)) <;> first | rfl | (refine congrArg some ?_; refine congrArg (Value.int _) ?_; first | omega | (dsimp only; omega)) | (simp; done) | (refine congrArg some ?_; dsimp only; congr 1; omega) | (simp; omega)) ⟨M.sel (by first | ((repeat (first | with_reducible exact Sel.refl | with_reducible exact Sel.nil | with_reducible exact Del.here | with_reducible apply Del.there | with_reducible apply Sel.cons | with_reducible apply Sel.drop)); done) | (repeat (first | exact Sel.refl | exact Sel.nil | exact Del.here | apply Del.there | apply Sel.cons | apply Sel.drop))), ⟨⟨hox2.made, hfx2⟩, (by rw [hsx, List.map_set]; exact hz.2), hR2⟩⟩
                  · (try simp only [Bool.not_eq_true'] at c23); (try simp only [Bool.not_eq_false'] at c23); (try simp only [decide_eq_true_eq] at c23); (try simp only [decide_eq_false_iff_not] at c23)
                    refine W.skip ?_
                    refine WX.blockNormal ?_
                    have hz := hI.endNo (k := k) (num := (el l i).num) (rep := (el l i).rep) hk9 (fun h => by have := hb.2 h; rw [this] at c23; cases c23)
                    refine WX.join ((x2, G, D, R)) (by (repeat' (first | exact envSub.nil | refine envSub.cons ?_ ?_)) <;> first | rfl | (refine congrArg some ?_; refine congrArg (Value.int _) ?_; first | omega | (dsimp only; omega)) | (simp; done) | (refine congrArg some ?_; dsimp only; congr 1; omega) | (simp; omega)) ⟨M.sel (by first | ((repeat (first | with_reducible exact Sel.refl | with_reducible exact Sel.nil | with_reducible exact Del.here | with_reducible apply Del.there | with_reducible apply Sel.cons | with_reducible apply Sel.drop)); done) | (repeat (first | exact Sel.refl | exact Sel.nil | exact Del.here | apply Del.there | apply Sel.cons | apply Sel.drop))), ⟨⟨hox2.made, hfx2⟩, (by rw [hsx, hz.2]; exact hI), hR⟩⟩
            clear M; rintro (⟨y, G2, D2, R2⟩) w ⟨M, hj⟩; dsimp only at M hj ⊢
            refine W.sub [(0, _), (3, _), (5, _), (6, _), (7, _), (8, _)] (.cons rfl (.cons rfl (.cons rfl (.cons rfl (.cons rfl (.cons rfl .nil)))))) ?_
            refine W.region ?_
            refine WL.move rfl rfl ?_
            refine WL.add rfl rfl (by first | exact wI64 (by omega) | rfl) rfl ?_
            refine WL.assign rfl rfl ?_
            refine WL.nil ?_
            refine WX.round ((i + 1, y, G2, D2, R2)) (by (repeat' (first | exact envSub.nil | refine envSub.cons ?_ ?_)) <;> first | rfl | (refine congrArg some ?_; refine congrArg (Value.int _) ?_; first | omega | (dsimp only; omega)) | (simp; done) | (refine congrArg some ?_; dsimp only; congr 1; omega) | (simp; omega)) ⟨M.sel (by first | ((repeat (first | with_reducible exact Sel.refl | with_reducible exact Sel.nil | with_reducible exact Del.here | with_reducible apply Del.there | with_reducible apply Sel.cons | with_reducible apply Sel.drop)); done) | (repeat (first | exact Sel.refl | exact Sel.nil | exact Del.here | apply Del.there | apply Sel.cons | apply Sel.drop))), ⟨⟨by dsimp only; omega, by dsimp only; omega⟩, hj⟩⟩ (by first | omega | (dsimp only; omega))
          · refine W.exit ?_
            refine WX.thenExit ?_
            refine WX.thenExit ?_
            refine WX.blockHere ?_
            refine WX.join (()) (by (repeat' (first | exact envSub.nil | refine envSub.cons ?_ ?_)) <;> first | rfl | (refine congrArg some ?_; refine congrArg (Value.int _) ?_; first | omega | (dsimp only; omega)) | (simp; done) | (refine congrArg some ?_; dsimp only; congr 1; omega) | (simp; omega)) ⟨M.sel (by first | ((repeat (first | with_reducible exact Sel.refl | with_reducible exact Sel.nil | with_reducible exact Del.here | with_reducible apply Del.there | with_reducible apply Sel.cons | with_reducible apply Sel.drop)); done) | (repeat (first | exact Sel.refl | exact Sel.nil | exact Del.here | apply Del.there | apply Sel.cons | apply Sel.drop))), trivial⟩
        · refine WL.off rfl rfl rfl rfl ?_
          refine WL.off rfl rfl rfl rfl ?_
          refine WL.pickF rfl rfl rfl ?_
          refine WL.nil ?_
          refine WX.next ?_
          refine W.sub [(0, _), (3, _), (5, _), (6, _), (7, _), (8, _), (36, _)] (.cons rfl (.cons rfl (.cons rfl (.cons rfl (.cons rfl (.cons rfl (.cons rfl .nil))))))) ?_
          refine W.condF rfl ?_
          refine W.exit ?_
          refine WX.thenExit ?_
          refine WX.thenExit ?_
          refine WX.blockHere ?_
          refine WX.join (()) (by (repeat' (first | exact envSub.nil | refine envSub.cons ?_ ?_)) <;> first | rfl | (refine congrArg some ?_; refine congrArg (Value.int _) ?_; first | omega | (dsimp only; omega)) | (simp; done) | (refine congrArg some ?_; dsimp only; congr 1; omega) | (simp; omega)) ⟨M.sel (by first | ((repeat (first | with_reducible exact Sel.refl | with_reducible exact Sel.nil | with_reducible exact Del.here | with_reducible apply Del.there | with_reducible apply Sel.cons | with_reducible apply Sel.drop)); done) | (repeat (first | exact Sel.refl | exact Sel.nil | exact Del.here | apply Del.there | apply Sel.cons | apply Sel.drop))), trivial⟩
      clear M; rintro (⟨⟩) w ⟨M, -⟩; dsimp only at M ⊢
      refine W.sub [] .nil ?_
      refine W.seq ?_
      refine W.region ?_
      refine WL.call Try.call10 rfl (known13_ok _) rfl ?_
      rintro _ w ⟨rfl, m⟩
      replace M := M.call0 m; clear m
      refine WL.assign rfl rfl ?_
      refine WL.nil ?_
      refine WX.next ?_
      refine W.sub [(2, _)] (.cons rfl .nil) ?_
      refine W.ret ?_
      refine WX.ret1 rfl rfl ?_
      exact ⟨rfl, M⟩
end Go.Proofs.Ytmogpoghngmnmaa
