/-
  Walks: slices.SortFunc on at most twelve numbers.
-/
import Derived.Test.YtmkhggfcgblefaaDoorLen
import Derived.Test.YtmkhggfcgblefaaDoorBeatOrd
namespace Go.Proofs.YtmkhggfcgblefaaDoor
open Go Go.RowKit Bin

section
variable {lt : Int → Int → Prop} {m : List Int} {i j : Nat}
/-- Sorted up to i but for what stands at j. -/
def Gap (lt : Int → Int → Prop) (m : List Int) (i j : Nat) : Prop := ∀ p q, p < q → q ≤ i → q ≠ j → lt (el m p) (el m q)
theorem Gap.swap (h : Gap lt m i (j + 1)) (hj : j + 1 ≤ i) (hi : i < m.length) (hlt : lt (el m (j + 1)) (el m j)) : Gap lt ((m.set (j + 1) (el m j)).set j (el m (j + 1))) i j := by
  intro p q hpq hq hne
  have e : ∀ k, k < m.length → el ((m.set (j + 1) (el m j)).set j (el m (j + 1))) k = if j = k then el m (j + 1) else if j + 1 = k then el m j else el m k := by
    intro k hk
    rw [el_set _ _ _ _ (by simp; omega), el_set _ _ _ _ (by omega)]
  by_cases hq1 : q = j + 1
  · have eq : el ((m.set (j + 1) (el m j)).set j (el m (j + 1))) q = el m j := by rw [e q (by omega), if_neg (by omega), if_pos (by omega)]
    by_cases hp1 : p = j
    · have ep : el ((m.set (j + 1) (el m j)).set j (el m (j + 1))) p = el m (j + 1) := by rw [e p (by omega), if_pos (by omega)]
      rw [ep, eq]
      exact hlt
    · have ep : el ((m.set (j + 1) (el m j)).set j (el m (j + 1))) p = el m p := by rw [e p (by omega), if_neg (by omega), if_neg (by omega)]
      rw [ep, eq]
      exact h p j (by omega) (by omega) (by omega)
  · have eq : el ((m.set (j + 1) (el m j)).set j (el m (j + 1))) q = el m q := by rw [e q (by omega), if_neg (by omega), if_neg (by omega)]
    by_cases hp1 : p = j
    · have ep : el ((m.set (j + 1) (el m j)).set j (el m (j + 1))) p = el m (j + 1) := by rw [e p (by omega), if_pos (by omega)]
      rw [ep, eq]
      exact h (j + 1) q (by omega) hq (by omega)
    · by_cases hp2 : p = j + 1
      · have ep : el ((m.set (j + 1) (el m j)).set j (el m (j + 1))) p = el m j := by rw [e p (by omega), if_neg (by omega), if_pos (by omega)]
        rw [ep, eq]
        exact h j q (by omega) hq (by omega)
      · have ep : el ((m.set (j + 1) (el m j)).set j (el m (j + 1))) p = el m p := by rw [e p (by omega), if_neg (by omega), if_neg (by omega)]
        rw [ep, eq]
        exact h p q hpq hq (by omega)
theorem Gap.done0 (h : Gap lt m i 0) : ∀ p q, p < q → q ≤ i → lt (el m p) (el m q) := fun p q hpq hq => h p q hpq hq (by omega)
theorem Gap.done (h : Gap lt m i (j + 1)) (tr : ∀ a b c, lt a b → lt b c → lt a c) (hlt : lt (el m j) (el m (j + 1))) (hj : j + 1 ≤ i) : ∀ p q, p < q → q ≤ i → lt (el m p) (el m q) := by
  intro p q hpq hq
  by_cases e : q = j + 1
  · subst e
    by_cases e2 : p = j
    · subst e2
      exact hlt
    · exact tr _ _ _ (h p j (by omega) (by omega) (by omega)) hlt
  · exact h p q hpq hq e
end
theorem swap_perm {m : List Int} {a b : Nat} (ha : a < m.length) (hb : b < m.length) (hab : a < b) : ((m.set b (el m a)).set a (el m b)).Perm m := by
  have e1 : el m a = m[a] := by simp [el, ha]
  have e2 : el m b = m[b] := by simp [el, hb]
  rw [e1, e2]
  exact List.set_set_perm hb ha
set_option maxHeartbeats 1000000 in
theorem insSort_ok {A : Option Addr} {cap : Nat} {l : List Int} (hl : l.length ≤ 12) (f : FuncId) (cs : Array Value) (cmp : Int → Int → Int) (hcall : ∀ (args : Array Value) (w : World), (callFunc f args).run Tryd.prog w = .ok (.enter f args) w)
    (hb : ∀ x y, -1 ≤ cmp x y ∧ cmp x y ≤ 1) (tr : ∀ a b c, cmp a b < 0 → cmp b c < 0 → cmp a c < 0) (tot : ∀ a b, ¬ cmp a b < 0 → a ≠ b → cmp b a < 0) (hnd : l.Nodup) (w0 w : World) (L L' : List Asr) (M : Mem w0 w L) (hd : Del (Asr.lst intE A cap l) L L')
    (hp : ∀ x ∈ l, ∀ y ∈ l, ∀ w', Mem w0 w' L' → Fn Tryd.prog f ([.int .i64 x, .int .i64 y] ++ cs.toList) w' fun v w'' => v = .int .i64 (cmp x y) ∧ Mem w' w'' []) {z : Int} (hz : z = (l.length : Int)) :
    Fn Tryd.prog 41 [.slice A l.length cap, .int .i64 0, .int .i64 z, .func (.func f) #[] cs] w fun _ w' => ∃ m : List Int, m.length = l.length ∧ m.Perm l ∧ (∀ p q, p < q → q < l.length → cmp (el m p) (el m q) < 0) ∧ Mem w0 w' (Asr.lst intE A cap m :: L') := by
  subst hz
  have M1 := M.del hd
  replace M := M1
  have inj : ∀ (m : List Int), m.Perm l → ∀ p q, p < m.length → q < m.length → p ≠ q → el m p ≠ el m q := by
    intro m hm p q h1 h2 hn e
    have hmn : m.Nodup := hm.nodup_iff.2 hnd
    rw [show el m p = m[p] by simp [el, h1], show el m q = m[q] by simp [el, h2]] at e
    exact hn ((List.getElem_inj hmn).1 e)
  refine Fn.enter Tryd.func41 rfl Tryd.ntmps41 rfl ?_
  refine W.sub [(0, _), (1, _), (2, _), (3, _)] (.cons rfl (.cons rfl (.cons rfl (.cons rfl .nil)))) ?_
  refine W.seq ?_
  refine W.region ?_
  refine WL.move rfl rfl ?_
  refine WL.add rfl rfl (by first | exact wI64 (by omega) | rfl) rfl ?_
  refine WL.assign rfl rfl ?_
  refine WL.nil ?_
  refine WX.next ?_
  refine W.sub [(0, _), (1, _), (2, _), (3, _), (8, _)] (.cons rfl (.cons rfl (.cons rfl (.cons rfl (.cons rfl .nil))))) ?_
  refine W.block ?_
  refine W.loop (ι := Nat × List Int) (fun z => [(0, .slice A l.length cap), (1, .int .i64 0), (2, .int .i64 (l.length : Int)), (3, .func (.func f) #[] cs), (8, .int .i64 (z.1 : Int))]) (fun zz w => Mem w0 w ((fun z => Asr.lst intE A cap z.2 :: L') zz) ∧ (fun z => 1 ≤ z.1 ∧ (z.1 ≤ l.length ∨ z.1 = 1) ∧ z.2.length = l.length ∧ z.2.Perm l ∧ ∀ p q, p < q → q < z.1 → cmp (el z.2 p) (el z.2 q) < 0) zz) (fun z => l.length - z.1) ((1, l)) (by (repeat' (first | exact envSub.nil | refine envSub.cons ?_ ?_)) <;> first | rfl | (refine congrArg some ?_; refine congrArg (Value.int _) ?_; first | omega | (dsimp only; omega)) | (simp; done) | (refine congrArg some ?_; dsimp only; congr 1; omega) | (simp; omega)) ⟨M.sel (by first | ((repeat (first | with_reducible exact Sel.refl | with_reducible exact Sel.nil | with_reducible exact Del.here | with_reducible apply Del.there | with_reducible apply Sel.cons | with_reducible apply Sel.drop)); done) | (repeat (first | exact Sel.refl | exact Sel.nil | exact Del.here | apply Del.there | apply Sel.cons | apply Sel.drop))), ⟨Nat.le_refl _, .inr rfl, rfl, List.Perm.refl _, fun p q h1 h2 => by dsimp only at h2; omega⟩⟩ ?_
  clear M; rintro (⟨i, m⟩) w ⟨M, ⟨hi1, hi2, hml, hmp, hs⟩⟩; dsimp only at M hi1 hi2 hml hmp hs ⊢
  refine W.sub [(0, _), (1, _), (2, _), (3, _), (8, _)] (.cons rfl (.cons rfl (.cons rfl (.cons rfl (.cons rfl .nil))))) ?_
  refine W.seq ?_
  refine W.seq ?_
  refine W.region ?_
  refine WL.move rfl rfl ?_
  refine WL.move rfl rfl ?_
  refine WL.lss rfl rfl rfl ?_
  refine WL.nil ?_
  refine WX.next ?_
  refine W.sub [(0, _), (1, _), (2, _), (3, _), (8, _), (14, _)] (.cons rfl (.cons rfl (.cons rfl (.cons rfl (.cons rfl (.cons rfl .nil)))))) ?_
  refine W.ite rfl (fun c0 => ?_) (fun c0 => ?_)
  · have hil : i < l.length := by omega
    refine W.skip ?_
    refine WX.next ?_
    refine W.joint (fun (c : List Int) => [(0, .slice A l.length cap), (1, .int .i64 0), (2, .int .i64 (l.length : Int)), (3, .func (.func f) #[] cs), (8, .int .i64 (i : Int))]) (fun j w => Mem w0 w ((fun c => Asr.lst intE A cap c :: L') j) ∧ (fun c => c.length = l.length ∧ c.Perm l ∧ ∀ p q, p < q → q ≤ i → cmp (el c p) (el c q) < 0) j) ?_ ?_
    · refine W.block ?_
      refine W.seq ?_
      refine W.region ?_
      refine WL.move rfl rfl ?_
      refine WL.assign rfl rfl ?_
      refine WL.nil ?_
      refine WX.next ?_
      refine W.sub [(0, _), (1, _), (2, _), (3, _), (8, _), (9, _)] (.cons rfl (.cons rfl (.cons rfl (.cons rfl (.cons rfl (.cons rfl .nil)))))) ?_
      refine W.block ?_
      refine W.loop (ι := Nat × List Int) (fun z => [(0, .slice A l.length cap), (1, .int .i64 0), (2, .int .i64 (l.length : Int)), (3, .func (.func f) #[] cs), (8, .int .i64 (i : Int)), (9, .int .i64 (z.1 : Int))]) (fun zz w => Mem w0 w ((fun z => Asr.lst intE A cap z.2 :: L') zz) ∧ (fun z => z.1 ≤ i ∧ z.2.length = l.length ∧ z.2.Perm l ∧ Gap (fun a b => cmp a b < 0) z.2 i z.1) zz) (fun z => z.1) ((i, m)) (by (repeat' (first | exact envSub.nil | refine envSub.cons ?_ ?_)) <;> first | rfl | (refine congrArg some ?_; refine congrArg (Value.int _) ?_; first | omega | (dsimp only; omega)) | (simp; done) | (refine congrArg some ?_; dsimp only; congr 1; omega) | (simp; omega)) ⟨M.sel (by first | ((repeat (first | with_reducible exact Sel.refl | with_reducible exact Sel.nil | with_reducible exact Del.here | with_reducible apply Del.there | with_reducible apply Sel.cons | with_reducible apply Sel.drop)); done) | (repeat (first | exact Sel.refl | exact Sel.nil | exact Del.here | apply Del.there | apply Sel.cons | apply Sel.drop))), ⟨Nat.le_refl _, hml, hmp, fun p q h1 h2 h3 => hs p q h1 (by dsimp only at h2 h3; omega)⟩⟩ ?_
      clear M; rintro (⟨j, c⟩) w ⟨M, ⟨hj, hcl, hcp, hg⟩⟩; dsimp only at M hj hcl hcp hg ⊢
      refine W.sub [(0, _), (1, _), (2, _), (3, _), (8, _), (9, _)] (.cons rfl (.cons rfl (.cons rfl (.cons rfl (.cons rfl (.cons rfl .nil)))))) ?_
      refine W.seq ?_
      refine W.seq ?_
      refine W.drawM (Asr.lst intE A cap c :: L') (by kernel_rfl) (fun j => [8, 13].contains j) M (by first | ((repeat (first | with_reducible exact Sel.refl | with_reducible exact Sel.nil | with_reducible exact Del.here | with_reducible apply Del.there | with_reducible apply Sel.cons | with_reducible apply Sel.drop)); done) | (repeat (first | exact Sel.refl | exact Sel.nil | exact Del.here | apply Del.there | apply Sel.cons | apply Sel.drop))) ?_
      clear M; intro M
      apply DG.pure_ [0, 1, 2] 14 rfl (by kernel_rfl) (by kernel_rfl)
      · intro w
        refine WL.move rfl rfl ?_
        refine WL.move rfl rfl ?_
        refine WL.gtr rfl rfl rfl ?_
        exact Chain.end_ rfl
      refine DG.knowP (t := 20) rfl (fun c1 => ?_) (fun c1 => ?_)
      · obtain ⟨k, rfl⟩ : ∃ k, j = k + 1 := ⟨j - 1, by omega⟩
        have hbk := hb (el c (k + 1)) (el c k)
        apply DG.pure_ [3, 4, 5, 6, 7, 9, 10, 11, 12] 5 rfl (by kernel_rfl) (by kernel_rfl)
        · intro w
          refine WL.move rfl rfl ?_
          refine WL.on rfl rfl ?_
          refine WL.move rfl rfl ?_
          refine WL.on rfl rfl ?_
          refine WL.move rfl rfl ?_
          refine WL.on rfl rfl ?_
          refine WL.move rfl rfl ?_
          refine WL.on rfl rfl ?_
          refine WL.idxA Tryd.underlying22 Tryd.sizeOf3 rfl rfl (RdL.isSome (E := intE) (by first | with_reducible assumption | with_reducible exact RdL.mem (by with_reducible assumption) M | exact M.rdL (by first | ((repeat (first | with_reducible exact Has.here | with_reducible refine Has.there ?_)); done) | (repeat (first | exact Has.here | refine Has.there ?_))) | exact RdLH.at (by assumption) (M.sel (by first | ((repeat (first | with_reducible exact Sel.refl | with_reducible exact Sel.nil | with_reducible exact Del.here | with_reducible apply Del.there | with_reducible apply Sel.cons | with_reducible apply Sel.drop)); done) | (repeat (first | exact Sel.refl | exact Sel.nil | exact Del.here | apply Del.there | apply Sel.cons | apply Sel.drop)))) | exact RdL.nil _ _ _) (by omega)) (by omega) (by omega) (by first | exact rfl | exact (Int.toNat_of_nonneg (by omega)).symm) rfl ?_
          refine WL.on rfl rfl ?_
          refine WL.move rfl rfl ?_
          refine WL.on rfl rfl ?_
          refine WL.move rfl rfl ?_
          refine WL.on rfl rfl ?_
          refine WL.sub' rfl rfl (by first | exact wI64 (by omega) | rfl) rfl ?_
          refine WL.on rfl rfl ?_
          refine WL.idxA Tryd.underlying22 Tryd.sizeOf3 rfl rfl (RdL.isSome (E := intE) (by first | with_reducible assumption | with_reducible exact RdL.mem (by with_reducible assumption) M | exact M.rdL (by first | ((repeat (first | with_reducible exact Has.here | with_reducible refine Has.there ?_)); done) | (repeat (first | exact Has.here | refine Has.there ?_))) | exact RdLH.at (by assumption) (M.sel (by first | ((repeat (first | with_reducible exact Sel.refl | with_reducible exact Sel.nil | with_reducible exact Del.here | with_reducible apply Del.there | with_reducible apply Sel.cons | with_reducible apply Sel.drop)); done) | (repeat (first | exact Sel.refl | exact Sel.nil | exact Del.here | apply Del.there | apply Sel.cons | apply Sel.drop)))) | exact RdL.nil _ _ _) (by omega)) (by omega) (by omega) (show ((k + 1 : Nat) : Int) - 1 = (k : Int) by omega) rfl ?_
          exact Chain.end_ rfl
        apply DG.take [8, 13] 3 rfl (by kernel_rfl) (by kernel_rfl) (M.sel (by first | ((repeat (first | with_reducible exact Sel.refl | with_reducible exact Sel.nil | with_reducible exact Del.here | with_reducible apply Del.there | with_reducible apply Sel.cons | with_reducible apply Sel.drop)); done) | (repeat (first | exact Sel.refl | exact Sel.nil | exact Del.here | apply Del.there | apply Sel.cons | apply Sel.drop))))
        · intro w M
          refine WL.on rfl rfl ?_
          refine WL.loadE0 (E := intE) Tryd.isAgg3 rfl (by first | with_reducible assumption | with_reducible exact RdL.mem (by with_reducible assumption) M | exact M.rdL (by first | ((repeat (first | with_reducible exact Has.here | with_reducible refine Has.there ?_)); done) | (repeat (first | exact Has.here | refine Has.there ?_))) | exact RdLH.at (by assumption) (M.sel (by first | ((repeat (first | with_reducible exact Sel.refl | with_reducible exact Sel.nil | with_reducible exact Del.here | with_reducible apply Del.there | with_reducible apply Sel.cons | with_reducible apply Sel.drop)); done) | (repeat (first | exact Sel.refl | exact Sel.nil | exact Del.here | apply Del.there | apply Sel.cons | apply Sel.drop)))) | exact RdL.nil _ _ _) (by omega) rfl rfl ?_
          refine WL.on rfl rfl ?_
          refine WL.loadE0 (E := intE) Tryd.isAgg3 rfl (by first | with_reducible assumption | with_reducible exact RdL.mem (by with_reducible assumption) M | exact M.rdL (by first | ((repeat (first | with_reducible exact Has.here | with_reducible refine Has.there ?_)); done) | (repeat (first | exact Has.here | refine Has.there ?_))) | exact RdLH.at (by assumption) (M.sel (by first | ((repeat (first | with_reducible exact Sel.refl | with_reducible exact Sel.nil | with_reducible exact Del.here | with_reducible apply Del.there | with_reducible apply Sel.cons | with_reducible apply Sel.drop)); done) | (repeat (first | exact Sel.refl | exact Sel.nil | exact Del.here | apply Del.there | apply Sel.cons | apply Sel.drop)))) | exact RdL.nil _ _ _) (by omega) rfl rfl ?_
          exact Chain.end_ rfl
        refine DG.step 14 2 rfl (by kernel_rfl) ?_
        refine WL.on rfl rfl ?_
        refine WL.callV hcall rfl rfl (hp (el c (k + 1)) (hcp.mem_iff.1 (el_mem (by omega))) (el c k) (hcp.mem_iff.1 (el_mem (by omega))) _ (M.tail)) rfl ?_
        rintro _ w ⟨rfl, m'⟩
        replace M := M.call0 m'; clear m'
        refine DG.go (G := fun j => [8, 13].contains j) (i := 14) (f' := 2) (done := [0, 1, 2, 3, 4, 5, 6, 7, 9, 10, 11, 12, 8, 13]) (fun h => by cases h) ?_
        apply DG.pure_ [15, 16] 0 rfl (by kernel_rfl) (by kernel_rfl)
        · intro w
          refine WL.on rfl rfl ?_
          refine WL.lss rfl rfl rfl ?_
          refine WL.pickT rfl rfl rfl ?_
          exact Chain.end_ rfl
        refine DG.end_ (by kernel_rfl) ?_
        refine WX.next ?_
        refine W.sub [(0, _), (1, _), (2, _), (3, _), (8, _), (9, _), (34, _)] (.cons rfl (.cons rfl (.cons rfl (.cons rfl (.cons rfl (.cons rfl (.cons rfl .nil))))))) ?_
        refine W.ite rfl (fun c2 => ?_) (fun c2 => ?_)
        · refine W.skip ?_
          refine WX.next ?_
          refine W.seq ?_
          refine W.block ?_
          have hsl : (c.set (k + 1) (el c k)).length = c.length := List.length_set
          refine W.drawM (Asr.lst intE A cap c :: L') (by kernel_rfl) (fun j => [9, 13].contains j) M (by first | ((repeat (first | with_reducible exact Sel.refl | with_reducible exact Sel.nil | with_reducible exact Del.here | with_reducible apply Del.there | with_reducible apply Sel.cons | with_reducible apply Sel.drop)); done) | (repeat (first | exact Sel.refl | exact Sel.nil | exact Del.here | apply Del.there | apply Sel.cons | apply Sel.drop))) ?_
          clear M; intro M
          apply DG.pure_ [0, 1, 2, 3, 4, 5, 6, 7, 8, 10, 11, 12] 6 rfl (by kernel_rfl) (by kernel_rfl)
          · intro w
            refine WL.move rfl rfl ?_
            refine WL.move rfl rfl ?_
            refine WL.move rfl rfl ?_
            refine WL.move rfl rfl ?_
            refine WL.sub' rfl rfl (by first | exact wI64 (by omega) | rfl) rfl ?_
            refine WL.move rfl rfl ?_
            refine WL.move rfl rfl ?_
            refine WL.sub' rfl rfl (by first | exact wI64 (by omega) | rfl) rfl ?_
            refine WL.idxA Tryd.underlying22 Tryd.sizeOf3 rfl rfl (RdL.isSome (E := intE) (by first | with_reducible assumption | with_reducible exact RdL.mem (by with_reducible assumption) M | exact M.rdL (by first | ((repeat (first | with_reducible exact Has.here | with_reducible refine Has.there ?_)); done) | (repeat (first | exact Has.here | refine Has.there ?_))) | exact RdLH.at (by assumption) (M.sel (by first | ((repeat (first | with_reducible exact Sel.refl | with_reducible exact Sel.nil | with_reducible exact Del.here | with_reducible apply Del.there | with_reducible apply Sel.cons | with_reducible apply Sel.drop)); done) | (repeat (first | exact Sel.refl | exact Sel.nil | exact Del.here | apply Del.there | apply Sel.cons | apply Sel.drop)))) | exact RdL.nil _ _ _) (by omega)) (by omega) (by omega) (show ((k + 1 : Nat) : Int) - 1 = (k : Int) by omega) rfl ?_
            refine WL.move rfl rfl ?_
            refine WL.move rfl rfl ?_
            refine WL.idxA Tryd.underlying22 Tryd.sizeOf3 rfl rfl (RdL.isSome (E := intE) (by first | with_reducible assumption | with_reducible exact RdL.mem (by with_reducible assumption) M | exact M.rdL (by first | ((repeat (first | with_reducible exact Has.here | with_reducible refine Has.there ?_)); done) | (repeat (first | exact Has.here | refine Has.there ?_))) | exact RdLH.at (by assumption) (M.sel (by first | ((repeat (first | with_reducible exact Sel.refl | with_reducible exact Sel.nil | with_reducible exact Del.here | with_reducible apply Del.there | with_reducible apply Sel.cons | with_reducible apply Sel.drop)); done) | (repeat (first | exact Sel.refl | exact Sel.nil | exact Del.here | apply Del.there | apply Sel.cons | apply Sel.drop)))) | exact RdL.nil _ _ _) (by omega)) (by omega) (by omega) (by first | exact rfl | exact (Int.toNat_of_nonneg (by omega)).symm) rfl ?_
            exact Chain.end_ rfl
          apply DG.take [9, 13, 14] 3 rfl (by kernel_rfl) (by kernel_rfl) (M.sel (by first | ((repeat (first | with_reducible exact Sel.refl | with_reducible exact Sel.nil | with_reducible exact Del.here | with_reducible apply Del.there | with_reducible apply Sel.cons | with_reducible apply Sel.drop)); done) | (repeat (first | exact Sel.refl | exact Sel.nil | exact Del.here | apply Del.there | apply Sel.cons | apply Sel.drop))))
          · intro w M
            refine WL.loadE0 (E := intE) Tryd.isAgg3 rfl (by first | with_reducible assumption | with_reducible exact RdL.mem (by with_reducible assumption) M | exact M.rdL (by first | ((repeat (first | with_reducible exact Has.here | with_reducible refine Has.there ?_)); done) | (repeat (first | exact Has.here | refine Has.there ?_))) | exact RdLH.at (by assumption) (M.sel (by first | ((repeat (first | with_reducible exact Sel.refl | with_reducible exact Sel.nil | with_reducible exact Del.here | with_reducible apply Del.there | with_reducible apply Sel.cons | with_reducible apply Sel.drop)); done) | (repeat (first | exact Sel.refl | exact Sel.nil | exact Del.here | apply Del.there | apply Sel.cons | apply Sel.drop)))) | exact RdL.nil _ _ _) (by omega) rfl rfl ?_
            refine WL.loadE0 (E := intE) Tryd.isAgg3 rfl (by first | with_reducible assumption | with_reducible exact RdL.mem (by with_reducible assumption) M | exact M.rdL (by first | ((repeat (first | with_reducible exact Has.here | with_reducible refine Has.there ?_)); done) | (repeat (first | exact Has.here | refine Has.there ?_))) | exact RdLH.at (by assumption) (M.sel (by first | ((repeat (first | with_reducible exact Sel.refl | with_reducible exact Sel.nil | with_reducible exact Del.here | with_reducible apply Del.there | with_reducible apply Sel.cons | with_reducible apply Sel.drop)); done) | (repeat (first | exact Sel.refl | exact Sel.nil | exact Del.here | apply Del.there | apply Sel.cons | apply Sel.drop)))) | exact RdL.nil _ _ _) (by omega) rfl rfl ?_
            refine WL.idxA Tryd.underlying22 Tryd.sizeOf3 rfl rfl (RdL.isSome (E := intE) (by first | with_reducible assumption | with_reducible exact RdL.mem (by with_reducible assumption) M | exact M.rdL (by first | ((repeat (first | with_reducible exact Has.here | with_reducible refine Has.there ?_)); done) | (repeat (first | exact Has.here | refine Has.there ?_))) | exact RdLH.at (by assumption) (M.sel (by first | ((repeat (first | with_reducible exact Sel.refl | with_reducible exact Sel.nil | with_reducible exact Del.here | with_reducible apply Del.there | with_reducible apply Sel.cons | with_reducible apply Sel.drop)); done) | (repeat (first | exact Sel.refl | exact Sel.nil | exact Del.here | apply Del.there | apply Sel.cons | apply Sel.drop)))) | exact RdL.nil _ _ _) (by omega)) (by omega) (by omega) (by first | exact rfl | exact (Int.toNat_of_nonneg (by omega)).symm) rfl ?_
            exact Chain.end_ rfl
          refine DG.step 15 2 rfl (by kernel_rfl) ?_
          refine WL.storeE0 (E := intE) (x' := el c k) Tryd.sizeOf3 rfl rfl rfl M (by first | ((repeat (first | with_reducible exact Has.here | with_reducible refine Has.there ?_)); done) | (repeat (first | exact Has.here | refine Has.there ?_))) (by omega) (by repeat (first | exact SetAt.zero | apply SetAt.succ)) (by first | ((repeat (first | with_reducible exact Upd.here | with_reducible apply Upd.there)); done) | (repeat (first | exact Upd.here | apply Upd.there))) ?_
          intro w M
          refine DG.go (G := fun j => [9, 13].contains j) (i := 15) (f' := 2) (done := [0, 1, 2, 3, 4, 5, 6, 7, 8, 10, 11, 12, 9, 13, 14]) (fun h => by cases h) ?_
          apply DG.pure_ [16] 1 rfl (by kernel_rfl) (by kernel_rfl)
          · intro w
            refine WL.idxA Tryd.underlying22 Tryd.sizeOf3 rfl rfl (RdL.isSome (E := intE) (by first | with_reducible assumption | with_reducible exact RdL.mem (by with_reducible assumption) M | exact M.rdL (by first | ((repeat (first | with_reducible exact Has.here | with_reducible refine Has.there ?_)); done) | (repeat (first | exact Has.here | refine Has.there ?_))) | exact RdLH.at (by assumption) (M.sel (by first | ((repeat (first | with_reducible exact Sel.refl | with_reducible exact Sel.nil | with_reducible exact Del.here | with_reducible apply Del.there | with_reducible apply Sel.cons | with_reducible apply Sel.drop)); done) | (repeat (first | exact Sel.refl | exact Sel.nil | exact Del.here | apply Del.there | apply Sel.cons | apply Sel.drop)))) | exact RdL.nil _ _ _) (by omega)) (by omega) (by omega) (show ((k + 1 : Nat) : Int) - 1 = (k : Int) by omega) rfl ?_
            exact Chain.end_ rfl
          refine DG.step 17 0 rfl (by kernel_rfl) ?_
          refine WL.storeE0 (E := intE) (x' := el c (k + 1)) Tryd.sizeOf3 rfl rfl rfl M (by first | ((repeat (first | with_reducible exact Has.here | with_reducible refine Has.there ?_)); done) | (repeat (first | exact Has.here | refine Has.there ?_))) (by omega) (by repeat (first | exact SetAt.zero | apply SetAt.succ)) (by first | ((repeat (first | with_reducible exact Upd.here | with_reducible apply Upd.there)); done) | (repeat (first | exact Upd.here | apply Upd.there))) ?_
          intro w M
          refine DG.go (G := fun j => [9, 13].contains j) (i := 17) (f' := 0) (done := [0, 1, 2, 3, 4, 5, 6, 7, 8, 10, 11, 12, 9, 13, 14, 15, 16]) (fun h => by cases h) ?_
          refine DG.end_ (by kernel_rfl) ?_
          refine WX.blockNormal ?_
          refine WX.next ?_
          refine W.sub [(0, _), (1, _), (2, _), (3, _), (8, _), (9, _)] (.cons rfl (.cons rfl (.cons rfl (.cons rfl (.cons rfl (.cons rfl .nil)))))) ?_
          refine W.region ?_
          refine WL.move rfl rfl ?_
          refine WL.sub' rfl rfl (by first | exact wI64 (by omega) | rfl) rfl ?_
          refine WL.assign rfl rfl ?_
          refine WL.nil ?_
          skip
          have q1 : ((c.set (k + 1) (el c k)).set k (el c (k + 1))).length = l.length := by rw [List.length_set, List.length_set]; exact hcl
          have q2 : ((c.set (k + 1) (el c k)).set k (el c (k + 1))).Perm l := (swap_perm (by omega) (by omega) (by omega)).trans hcp
          have q3 := hg.swap hj (by omega) c2
          refine WX.round ((k, (c.set (k + 1) (el c k)).set k (el c (k + 1)))) (by (repeat' (first | exact envSub.nil | refine envSub.cons ?_ ?_)) <;> first | rfl | (refine congrArg some ?_; refine congrArg (Value.int _) ?_; first | omega | (dsimp only; omega)) | (simp; done) | (refine congrArg some ?_; dsimp only; congr 1; omega) | (simp; omega)) ⟨M.sel (by first | ((repeat (first | with_reducible exact Sel.refl | with_reducible exact Sel.nil | with_reducible exact Del.here | with_reducible apply Del.there | with_reducible apply Sel.cons | with_reducible apply Sel.drop)); done) | (repeat (first | exact Sel.refl | exact Sel.nil | exact Del.here | apply Del.there | apply Sel.cons | apply Sel.drop))), ⟨by dsimp only; omega, q1, q2, q3⟩⟩ (by first | omega | (dsimp only; omega))
        · refine W.exit ?_
          refine WX.thenExit ?_
          refine WX.thenExit ?_
          refine WX.blockHere ?_
          refine WX.blockNormal ?_
          have hne := inj c hcp k (k + 1) (by omega) (by omega) (by omega)
          have hdn := hg.done tr (tot _ _ c2 (fun e => hne e.symm)) (by omega)
          refine WX.join (c) (by (repeat' (first | exact envSub.nil | refine envSub.cons ?_ ?_)) <;> first | rfl | (refine congrArg some ?_; refine congrArg (Value.int _) ?_; first | omega | (dsimp only; omega)) | (simp; done) | (refine congrArg some ?_; dsimp only; congr 1; omega) | (simp; omega)) ⟨M.sel (by first | ((repeat (first | with_reducible exact Sel.refl | with_reducible exact Sel.nil | with_reducible exact Del.here | with_reducible apply Del.there | with_reducible apply Sel.cons | with_reducible apply Sel.drop)); done) | (repeat (first | exact Sel.refl | exact Sel.nil | exact Del.here | apply Del.there | apply Sel.cons | apply Sel.drop))), ⟨hcl, hcp, hdn⟩⟩
      · apply DG.pure_ [3, 4, 5, 6, 7, 9, 10, 11, 12] 5 rfl (by kernel_rfl) (by kernel_rfl)
        · intro w
          refine WL.move rfl rfl ?_
          refine WL.off rfl rfl rfl rfl ?_
          refine WL.off rfl rfl rfl rfl ?_
          refine WL.off rfl rfl rfl rfl ?_
          refine WL.off rfl rfl rfl rfl ?_
          refine WL.off rfl rfl rfl rfl ?_
          refine WL.off rfl rfl rfl rfl ?_
          refine WL.off rfl rfl rfl rfl ?_
          refine WL.off rfl rfl rfl rfl ?_
          exact Chain.end_ rfl
        apply DG.take [8, 13] 3 rfl (by kernel_rfl) (by kernel_rfl) (M.sel (by first | ((repeat (first | with_reducible exact Sel.refl | with_reducible exact Sel.nil | with_reducible exact Del.here | with_reducible apply Del.there | with_reducible apply Sel.cons | with_reducible apply Sel.drop)); done) | (repeat (first | exact Sel.refl | exact Sel.nil | exact Del.here | apply Del.there | apply Sel.cons | apply Sel.drop))))
        · intro w M
          refine WL.off rfl rfl rfl rfl ?_
          refine WL.off rfl rfl rfl rfl ?_
          exact Chain.end_ rfl
        refine DG.step 14 2 rfl (by kernel_rfl) ?_
        refine WL.off rfl rfl rfl rfl ?_
        refine DG.go (G := fun j => [8, 13].contains j) (i := 14) (f' := 2) (done := [0, 1, 2, 3, 4, 5, 6, 7, 9, 10, 11, 12, 8, 13]) (fun h => by cases h) ?_
        apply DG.pure_ [15, 16] 0 rfl (by kernel_rfl) (by kernel_rfl)
        · intro w
          refine WL.off rfl rfl rfl rfl ?_
          refine WL.pickF rfl rfl rfl ?_
          exact Chain.end_ rfl
        refine DG.end_ (by kernel_rfl) ?_
        refine WX.next ?_
        refine W.sub [(0, _), (1, _), (2, _), (3, _), (8, _), (9, _), (34, _)] (.cons rfl (.cons rfl (.cons rfl (.cons rfl (.cons rfl (.cons rfl (.cons rfl .nil))))))) ?_
        refine W.condF rfl ?_
        refine W.exit ?_
        refine WX.thenExit ?_
        refine WX.thenExit ?_
        refine WX.blockHere ?_
        refine WX.blockNormal ?_
        obtain rfl : j = 0 := by omega
        have hdn := hg.done0
        refine WX.join (c) (by (repeat' (first | exact envSub.nil | refine envSub.cons ?_ ?_)) <;> first | rfl | (refine congrArg some ?_; refine congrArg (Value.int _) ?_; first | omega | (dsimp only; omega)) | (simp; done) | (refine congrArg some ?_; dsimp only; congr 1; omega) | (simp; omega)) ⟨M.sel (by first | ((repeat (first | with_reducible exact Sel.refl | with_reducible exact Sel.nil | with_reducible exact Del.here | with_reducible apply Del.there | with_reducible apply Sel.cons | with_reducible apply Sel.drop)); done) | (repeat (first | exact Sel.refl | exact Sel.nil | exact Del.here | apply Del.there | apply Sel.cons | apply Sel.drop))), ⟨hcl, hcp, hdn⟩⟩
    clear M; rintro (c) w ⟨M, ⟨hcl, hcp, hcs⟩⟩; dsimp only at M hcl hcp hcs ⊢
    refine W.sub [(0, _), (1, _), (2, _), (3, _), (8, _)] (.cons rfl (.cons rfl (.cons rfl (.cons rfl (.cons rfl .nil))))) ?_
    refine W.region ?_
    refine WL.move rfl rfl ?_
    refine WL.add rfl rfl (by first | exact wI64 (by omega) | rfl) rfl ?_
    refine WL.assign rfl rfl ?_
    refine WL.nil ?_
    refine WX.round ((i + 1, c)) (by (repeat' (first | exact envSub.nil | refine envSub.cons ?_ ?_)) <;> first | rfl | (refine congrArg some ?_; refine congrArg (Value.int _) ?_; first | omega | (dsimp only; omega)) | (simp; done) | (refine congrArg some ?_; dsimp only; congr 1; omega) | (simp; omega)) ⟨M.sel (by first | ((repeat (first | with_reducible exact Sel.refl | with_reducible exact Sel.nil | with_reducible exact Del.here | with_reducible apply Del.there | with_reducible apply Sel.cons | with_reducible apply Sel.drop)); done) | (repeat (first | exact Sel.refl | exact Sel.nil | exact Del.here | apply Del.there | apply Sel.cons | apply Sel.drop))), ⟨by dsimp only; omega, .inl (by dsimp only; omega), hcl, hcp, fun p q h1 h2 => hcs p q h1 (by dsimp only at h2; omega)⟩⟩ (by first | omega | (dsimp only; omega))
  · refine W.exit ?_
    refine WX.thenExit ?_
    refine WX.thenExit ?_
    refine WX.blockHere ?_
    refine WX.end0 rfl ?_
    exact ⟨m, hml, hmp, fun p q h1 h2 => hs p q h1 (by omega), M.sel (by first | ((repeat (first | with_reducible exact Sel.refl | with_reducible exact Sel.nil | with_reducible exact Del.here | with_reducible apply Del.there | with_reducible apply Sel.cons | with_reducible apply Sel.drop)); done) | (repeat (first | exact Sel.refl | exact Sel.nil | exact Del.here | apply Del.there | apply Sel.cons | apply Sel.drop)))⟩
end Go.Proofs.YtmkhggfcgblefaaDoor
